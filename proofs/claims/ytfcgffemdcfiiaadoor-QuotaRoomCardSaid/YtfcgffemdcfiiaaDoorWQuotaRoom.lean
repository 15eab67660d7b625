/- The walk of the law QuotaRoom: it returns true; nothing that was there is written. -/
import Derived.Test.YtfcgffemdcfiiaaDoorRoomQ
namespace Go.Proofs.YtfcgffemdcfiiaaDoor.wQuotaRoom
open Go Go.RowKit Go.Proofs.YtfcgffemdcfiiaaDoor.base Go.Proofs.YtfcgffemdcfiiaaDoor.dec Go.Proofs.YtfcgffemdcfiiaaDoor.err Go.Proofs.YtfcgffemdcfiiaaDoor.above Go.Proofs.YtfcgffemdcfiiaaDoor.law Go.Proofs.YtfcgffemdcfiiaaDoor.merge Go.Proofs.YtfcgffemdcfiiaaDoor.rows Go.Proofs.YtfcgffemdcfiiaaDoor.store Go.Proofs.YtfcgffemdcfiiaaDoor.quota

theorem byte_of {n : Int} (h : (Lit.int .u8 n).wf = true) : ∃ m : Nat, n = m ∧ m < 256 := by
  have h2 : (decide (IntKind.u8.min ≤ n) && decide (n ≤ IntKind.u8.max)) = true := h
  rw [show IntKind.u8.min = 0 from rfl, show IntKind.u8.max = 255 from rfl] at h2
  simp only [Bool.and_eq_true, decide_eq_true_eq] at h2
  exact ⟨n.toNat, by omega, by omega⟩
set_option maxRecDepth 100000 in
set_option maxHeartbeats 16000000 in
theorem walk (v0 v1 v2 : Value) (w : World) (a0 : Arg Tryd.prog w 5 v0) (a1 : Arg Tryd.prog w 5 v1) (a2 : Arg Tryd.prog w 5 v2) (ht : Tabs w) :
    Calls Tryd.prog 5 #[v0, v1, v2] w fun e w' => e = .returned (.bool true) ∧ Below w.heap.size w w' := by
  obtain ⟨n0, rfl, h0⟩ := a0.int Tryd.underlying5
  obtain ⟨n1, rfl, h1⟩ := a1.int Tryd.underlying5
  obtain ⟨n2, rfl, h2⟩ := a2.int Tryd.underlying5
  clear a0 a1 a2
  obtain ⟨n, rfl, hn⟩ := byte_of h0
  obtain ⟨m, rfl, hm⟩ := byte_of h1
  obtain ⟨o, rfl, ho⟩ := byte_of h2
  clear h0 h1 h2
  have HT := Lib.hid ht
  clear ht
  go_enter Tryd.func5, Tryd.ntmps5
  go_wp2_with fail
  refine (awake_any w HT.out).mono ?_
  rintro e w1 ⟨rfl, hb1⟩
  go_wp2_with fail
  refine (new_any w1).mono ?_
  rintro e w2 ⟨rfl, h2, hb2⟩
  have hsz := hb1.size
  have hlt2 := h2.lt
  have hbx := below_new w2 (.cells #[.pointer (some ⟨(w1.heap.size + 1), 0, none⟩)] 36)
  have HR := Lib.hid (show RoomS w (w1.heap.size + 1) w1.heap.size w2.heap.size [] (w2.alloc (.cells #[.pointer (some ⟨(w1.heap.size + 1), 0, none⟩)] 36)) from
    ⟨h2.below hbx, fun p hp => (List.not_mem_nil hp).elim, Blk.new _ _ _, below_step (below_step hb1 hb2) hbx, hsz, by omega⟩)
  clear h2 hb1 hb2 hbx
  generalize w1.heap.size = bm at *
  have k0 : IntKind.i64.wrap (n : Int) = n := IntWalk.i64_in _ (by omega)
  have k1 : IntKind.i64.wrap (m : Int) = m := IntWalk.i64_in _ (by omega)
  have k2 : IntKind.i64.wrap (o : Int) = o := IntWalk.i64_in _ (by omega)
  obtain ⟨k, hk⟩ : ∃ k, n % 41 = k := ⟨_, rfl⟩
  obtain ⟨j, hj⟩ : ∃ j, m % 41 = j := ⟨_, rfl⟩
  have t0 : Int.tmod (n : Int) 41 = (k : Int) := by rw [Int.tmod_eq_emod_of_nonneg (by omega)]; omega
  have t1 : Int.tmod (m : Int) 41 = (j : Int) := by rw [Int.tmod_eq_emod_of_nonneg (by omega)]; omega
  have hk40 : k ≤ 40 := by omega
  have hj40 : j ≤ 40 := by omega
  clear hk hj
  go_wp2_with fail
  go_loopw [10] (fun i wr => ∃ (a : Nat) (L : List R), a ≤ k ∧ i = .int .i64 ((a : Int) + 1) ∧ RoomI a 0 L ∧ RoomS w (bm + 1) bm w2.heap.size L wr) (fun i _ => 42 - (intOf i).toNat)
  case atStart => exact ⟨0, [], by omega, rfl, RoomI.nil, HR.out⟩
  case round =>
    clear HR
    obtain ⟨a, L, hak, rfl, hi, hs⟩ := hrel
    have HI := Lib.hid hi
    have HS := Lib.hid hs
    clear hi hs
    by_cases hlt : a < k
    · have hok : OkN 3 (a + 1) := by unfold OkN; omega
      have HB := Lib.hid (show _ from begin_any w (bm + 1) bm w2.heap.size L 3 (a + 1) 1 false wr HS.out hok HT.out)
      have HNX := Lib.hid (HI.out.next3 HS.out.st.up (by omega))
      clear hok
      go_wp2_with fail
      refine HB.out.mono ?_
      rintro e w3 ⟨rfl, hs3⟩
      have HS3 := Lib.hid hs3
      clear hs3 HB HS HI
      go_wp2
      go_roundw
      case rel => exact ⟨a + 1, _, by omega, by go_num, HNX.out, HS3.out⟩
      case measure => simp [intOf]; omega
    · obtain rfl : k = a := by omega
      go_wp2_with fail
      go_loopw [11] (fun i wr => ∃ (b : Nat) (L : List R), b ≤ j ∧ i = .int .i64 ((b : Int) + 1) ∧ RoomI k b L ∧ RoomS w (bm + 1) bm w2.heap.size L wr) (fun i _ => 42 - (intOf i).toNat)
      case atStart => exact ⟨0, L, by omega, rfl, HI.out, HS.out⟩
      case round =>
        clear HI HS
        obtain ⟨b, L, hbj, rfl, hi, hs⟩ := hrel
        have HI := Lib.hid hi
        have HS := Lib.hid hs
        clear hi hs
        by_cases hlt2 : b < j
        · have hok : OkN 2 (b + 1) := by unfold OkN; omega
          have HB := Lib.hid (show _ from begin_any w (bm + 1) bm w2.heap.size L 2 (b + 1) 1 false wr HS.out hok HT.out)
          have HNX := Lib.hid (HI.out.next2 HS.out.st.up (by omega))
          clear hok
          go_wp2_with fail
          refine HB.out.mono ?_
          rintro e w3 ⟨rfl, hs3⟩
          have HS3 := Lib.hid hs3
          clear hs3 HB HS HI
          go_wp2
          go_roundw
          case rel => exact ⟨b + 1, _, by omega, by go_num, HNX.out, HS3.out⟩
          case measure => simp [intOf]; omega
        · obtain rfl : j = b := by omega
          have hll := HI.out.len
          have hbx := HS.out.box
          have c0 : wr.cell? ⟨w2.heap.size, 0, none⟩ = some (.pointer (some ⟨(bm + 1), 0, none⟩)) := hbx.cell 0
          have l0 := hbx.lt
          clear hbx
          go_wp2_with fail
          refine (room_any (bm + 1) bm L 3 wr HS.out.st (by omega) HS.out.sh (HT.out.below HS.out.bel)).mono ?_
          rw [HI.out.o3]
          rintro e w3 ⟨v3, rfl, hb3, he3⟩
          have HS3 := Lib.hid (HS.out.below hb3)
          have hbx := HS3.out.box
          have c3 : w3.cell? ⟨w2.heap.size, 0, none⟩ = some (.pointer (some ⟨(bm + 1), 0, none⟩)) := hbx.cell 0
          have l3 := hbx.lt
          have HE3 := Lib.hid (show (v3 = .nilIface ∧ k < 32) ∨ ((∃ g, v3 = .iface 99 (.pointer (some ⟨g, 0, none⟩))) ∧ 32 ≤ k) from by
            rcases he3 with ⟨h1, h2⟩ | ⟨h1, h2, _⟩
            · exact .inl ⟨h2, h1⟩
            · exact .inr ⟨h2.form, h1⟩)
          clear hbx hb3 he3 c0 l0 HS
          rcases HE3.out with ⟨rfl, h32⟩ | ⟨⟨ge, rfl⟩, h32⟩
          · have d32 : decide ((k : Int) < 32) = true := by simp; omega
            go_wp2_with fail
            refine (opens_any (bm + 1) bm L 3 w3 HS3.out.st (by omega) HS3.out.sh (HT.out.below HS3.out.bel)).mono ?_
            rw [HI.out.o3]
            rintro e w4 ⟨rfl, hb4⟩
            have HS4 := Lib.hid (HS3.out.below hb4)
            have hbx := HS4.out.box
            have c4 : w4.cell? ⟨w2.heap.size, 0, none⟩ = some (.pointer (some ⟨(bm + 1), 0, none⟩)) := hbx.cell 0
            have l4 := hbx.lt
            clear hbx hb4 c3 l3 HS3
            go_wp2_with fail
            refine (opens_any (bm + 1) bm L 2 w4 HS4.out.st (by omega) HS4.out.sh (HT.out.below HS4.out.bel)).mono ?_
            rw [HI.out.o2]
            rintro e w5 ⟨rfl, hb5⟩
            have HS5 := Lib.hid (HS4.out.below hb5)
            have hbx := HS5.out.box
            have c5 : w5.cell? ⟨w2.heap.size, 0, none⟩ = some (.pointer (some ⟨(bm + 1), 0, none⟩)) := hbx.cell 0
            have l5 := hbx.lt
            clear hbx hb5 c4 l4 HS4
            by_cases hk0 : k = 0
            · subst hk0
              go_wp2
              go_ret
              exact ⟨rfl, HS5.out.bel⟩
            · obtain ⟨b, hbo⟩ : ∃ b, o % k = b := ⟨_, rfl⟩
              have hbk : b < k := by rw [← hbo]; exact Nat.mod_lt _ (by omega)
              have t2 : Int.tmod (o : Int) (k : Int) = (b : Int) := by rw [Int.tmod_eq_emod_of_nonneg (by omega), ← hbo]; rfl
              have hkz : ((k : Int) == 0) = false := by simpa using hk0
              have hok : OkN 3 (b + 1) := by unfold OkN; omega
              have hov := HI.out.over (b := b + 1) HS5.out.st.up (by omega) (by omega) hk40
              have HB : Hid (Calls Tryd.prog 14 #[.int .i64 3, .int .i64 (1 + (b : Int)), .int .i64 2, .bool true, .pointer (some ⟨w2.heap.size, 0, none⟩)] w5 (BeginR w (bm + 1) bm w2.heap.size (takeL L (nmB 3 (b + 1)) (beg 3 2 true)))) := Lib.hid (by have hx := begin_any w (bm + 1) bm w2.heap.size L 3 (b + 1) 2 true w5 HS5.out hok HT.out; rw [show ((b + 1 : Nat) : Int) = 1 + (b : Int) by omega] at hx; exact hx)
              have hml := length_take L (nmB 3 (b + 1)) (beg 3 2 true)
              generalize takeL L (nmB 3 (b + 1)) (beg 3 2 true) = M at *
              have HOV := Lib.hid hov
              clear hok hov hbo
              go_wp2_with fail
              refine HB.out.mono ?_
              rintro e w6 ⟨rfl, hs6⟩
              have HS6 := Lib.hid hs6
              have hbx := HS6.out.box
              have c6 : w6.cell? ⟨w2.heap.size, 0, none⟩ = some (.pointer (some ⟨(bm + 1), 0, none⟩)) := hbx.cell 0
              have l6 := hbx.lt
              have hc2 : ((k - 1 : Nat) : Int) = (k : Int) - 1 := by omega
              clear hbx hs6 HB HS5 c5 l5
              go_wp2_with fail
              refine (room_any (bm + 1) bm M 3 w6 HS6.out.st (by omega) HS6.out.sh (HT.out.below HS6.out.bel)).mono ?_
              rw [HOV.out]
              rintro e w7 ⟨v7, rfl, hb7, he7⟩
              have HS7 := Lib.hid (HS6.out.below hb7)
              have hbx := HS7.out.box
              have c7 : w7.cell? ⟨w2.heap.size, 0, none⟩ = some (.pointer (some ⟨(bm + 1), 0, none⟩)) := hbx.cell 0
              have l7 := hbx.lt
              have HE7 := Lib.hid (show (v7 = .nilIface ∧ k - 1 < 32) ∨ ((∃ g, v7 = .iface 99 (.pointer (some ⟨g, 0, none⟩))) ∧ 32 ≤ k - 1) from by
                rcases he7 with ⟨h1, h2⟩ | ⟨h1, h2, _⟩
                · exact .inl ⟨h2, h1⟩
                · exact .inr ⟨h2.form, h1⟩)
              clear hbx hb7 he7 c6 l6 HS6
              rcases HE7.out with ⟨rfl, h33⟩ | ⟨⟨ge7, rfl⟩, h33⟩
              · have d33 : decide ((k : Int) ≤ 32) = true := by simp; omega
                go_wp2_with fail
                refine (opens_any (bm + 1) bm M 3 w7 HS7.out.st (by omega) HS7.out.sh (HT.out.below HS7.out.bel)).mono ?_
                rw [HOV.out, hc2]
                rintro e w8 ⟨rfl, hb8⟩
                have HBL := Lib.hid (HS7.out.below hb8).bel
                clear hb8 c7 l7
                go_wp2
                go_ret
                exact ⟨ret_bool (by simp), HBL.out⟩
              · have d33 : decide ((k : Int) ≤ 32) = false := by simp; omega
                go_wp2_with fail
                refine (opens_any (bm + 1) bm M 3 w7 HS7.out.st (by omega) HS7.out.sh (HT.out.below HS7.out.bel)).mono ?_
                rw [HOV.out, hc2]
                rintro e w8 ⟨rfl, hb8⟩
                have HBL := Lib.hid (HS7.out.below hb8).bel
                clear hb8 c7 l7
                go_wp2
                go_ret
                exact ⟨ret_bool (by simp), HBL.out⟩
          · have d32 : decide ((k : Int) < 32) = false := by simp; omega
            go_wp2_with fail
            refine (opens_any (bm + 1) bm L 3 w3 HS3.out.st (by omega) HS3.out.sh (HT.out.below HS3.out.bel)).mono ?_
            rw [HI.out.o3]
            rintro e w4 ⟨rfl, hb4⟩
            have HS4 := Lib.hid (HS3.out.below hb4)
            have hbx := HS4.out.box
            have c4 : w4.cell? ⟨w2.heap.size, 0, none⟩ = some (.pointer (some ⟨(bm + 1), 0, none⟩)) := hbx.cell 0
            have l4 := hbx.lt
            clear hbx hb4 c3 l3 HS3
            go_wp2_with fail
            refine (opens_any (bm + 1) bm L 2 w4 HS4.out.st (by omega) HS4.out.sh (HT.out.below HS4.out.bel)).mono ?_
            rw [HI.out.o2]
            rintro e w5 ⟨rfl, hb5⟩
            have HS5 := Lib.hid (HS4.out.below hb5)
            have hbx := HS5.out.box
            have c5 : w5.cell? ⟨w2.heap.size, 0, none⟩ = some (.pointer (some ⟨(bm + 1), 0, none⟩)) := hbx.cell 0
            have l5 := hbx.lt
            clear hbx hb5 c4 l4 HS4
            by_cases hk0 : k = 0
            · subst hk0
              go_wp2
              go_ret
              exact ⟨rfl, HS5.out.bel⟩
            · obtain ⟨b, hbo⟩ : ∃ b, o % k = b := ⟨_, rfl⟩
              have hbk : b < k := by rw [← hbo]; exact Nat.mod_lt _ (by omega)
              have t2 : Int.tmod (o : Int) (k : Int) = (b : Int) := by rw [Int.tmod_eq_emod_of_nonneg (by omega), ← hbo]; rfl
              have hkz : ((k : Int) == 0) = false := by simpa using hk0
              have hok : OkN 3 (b + 1) := by unfold OkN; omega
              have hov := HI.out.over (b := b + 1) HS5.out.st.up (by omega) (by omega) hk40
              have HB : Hid (Calls Tryd.prog 14 #[.int .i64 3, .int .i64 (1 + (b : Int)), .int .i64 2, .bool true, .pointer (some ⟨w2.heap.size, 0, none⟩)] w5 (BeginR w (bm + 1) bm w2.heap.size (takeL L (nmB 3 (b + 1)) (beg 3 2 true)))) := Lib.hid (by have hx := begin_any w (bm + 1) bm w2.heap.size L 3 (b + 1) 2 true w5 HS5.out hok HT.out; rw [show ((b + 1 : Nat) : Int) = 1 + (b : Int) by omega] at hx; exact hx)
              have hml := length_take L (nmB 3 (b + 1)) (beg 3 2 true)
              generalize takeL L (nmB 3 (b + 1)) (beg 3 2 true) = M at *
              have HOV := Lib.hid hov
              clear hok hov hbo
              go_wp2_with fail
              refine HB.out.mono ?_
              rintro e w6 ⟨rfl, hs6⟩
              have HS6 := Lib.hid hs6
              have hbx := HS6.out.box
              have c6 : w6.cell? ⟨w2.heap.size, 0, none⟩ = some (.pointer (some ⟨(bm + 1), 0, none⟩)) := hbx.cell 0
              have l6 := hbx.lt
              have hc2 : ((k - 1 : Nat) : Int) = (k : Int) - 1 := by omega
              clear hbx hs6 HB HS5 c5 l5
              go_wp2_with fail
              refine (room_any (bm + 1) bm M 3 w6 HS6.out.st (by omega) HS6.out.sh (HT.out.below HS6.out.bel)).mono ?_
              rw [HOV.out]
              rintro e w7 ⟨v7, rfl, hb7, he7⟩
              have HS7 := Lib.hid (HS6.out.below hb7)
              have hbx := HS7.out.box
              have c7 : w7.cell? ⟨w2.heap.size, 0, none⟩ = some (.pointer (some ⟨(bm + 1), 0, none⟩)) := hbx.cell 0
              have l7 := hbx.lt
              have HE7 := Lib.hid (show (v7 = .nilIface ∧ k - 1 < 32) ∨ ((∃ g, v7 = .iface 99 (.pointer (some ⟨g, 0, none⟩))) ∧ 32 ≤ k - 1) from by
                rcases he7 with ⟨h1, h2⟩ | ⟨h1, h2, _⟩
                · exact .inl ⟨h2, h1⟩
                · exact .inr ⟨h2.form, h1⟩)
              clear hbx hb7 he7 c6 l6 HS6
              rcases HE7.out with ⟨rfl, h33⟩ | ⟨⟨ge7, rfl⟩, h33⟩
              · have d33 : decide ((k : Int) ≤ 32) = true := by simp; omega
                go_wp2_with fail
                refine (opens_any (bm + 1) bm M 3 w7 HS7.out.st (by omega) HS7.out.sh (HT.out.below HS7.out.bel)).mono ?_
                rw [HOV.out, hc2]
                rintro e w8 ⟨rfl, hb8⟩
                have HBL := Lib.hid (HS7.out.below hb8).bel
                clear hb8 c7 l7
                go_wp2
                go_ret
                exact ⟨ret_bool (by simp), HBL.out⟩
              · have d33 : decide ((k : Int) ≤ 32) = false := by simp; omega
                go_wp2_with fail
                refine (opens_any (bm + 1) bm M 3 w7 HS7.out.st (by omega) HS7.out.sh (HT.out.below HS7.out.bel)).mono ?_
                rw [HOV.out, hc2]
                rintro e w8 ⟨rfl, hb8⟩
                have HBL := Lib.hid (HS7.out.below hb8).bel
                clear hb8 c7 l7
                go_wp2
                go_ret
                exact ⟨ret_bool (by simp), HBL.out⟩
end Go.Proofs.YtfcgffemdcfiiaaDoor.wQuotaRoom
