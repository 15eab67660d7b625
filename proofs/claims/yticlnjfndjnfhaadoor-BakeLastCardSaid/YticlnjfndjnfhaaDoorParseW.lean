/- bake.Parse. -/
import Derived.Test.YticlnjfndjnfhaaDoorStepP
import Derived.Test.YticlnjfndjnfhaaDoorErr
import Derived.Test.YticlnjfndjnfhaaDoorRowE
namespace Go.Proofs.YticlnjfndjnfhaaDoor.bake
open Go Go.RowKit Go.Proofs.YticlnjfndjnfhaaDoor.base Go.Proofs.YticlnjfndjnfhaaDoor.dec Go.Proofs.YticlnjfndjnfhaaDoor.err Go.Proofs.YticlnjfndjnfhaaDoor.rowe

theorem bad_any (c : Int) (w : World) : Calls Tryd.prog 15 #[.int .i64 c] w (ErrNew c w) := by
  go_enter Tryd.func15, Tryd.ntmps15
  go_wp2_with fail
  refine (at_any _ _ c w).mono ?_
  rintro e w1 ⟨v, rfl, h⟩
  go_wp2_with fail
  go_ret
  exact ⟨v, rfl, h⟩
def ParseR (o : Option Ck) (w : World) (e : Ending) (w' : World) : Prop := match o with
  | some c => e = .returned (.tuple #[c.val, .nilIface]) ∧ Below w.heap.size w w'
  | none => ∃ v, e = .returned (.tuple #[noCk.val, v]) ∧ Err w' v 2 ∧ v ≠ .nilIface ∧ Below w.heap.size w w'
theorem Ck.cells7 {w : World} {g : Nat} {t : TypeId} {c : Ck} (h : Blk w g t c.cells.toArray) :
    w.cell? ⟨g, 0, none⟩ = some (.string c.name) ∧ w.cell? ⟨g, 1, none⟩ = some (.string c.value) ∧ w.cell? ⟨g, 2, none⟩ = some (.string c.path) ∧ w.cell? ⟨g, 3, none⟩ = some (.int .i64 c.age) ∧ w.cell? ⟨g, 4, none⟩ = some (.bool c.sec) ∧ w.cell? ⟨g, 5, none⟩ = some (.bool c.http) ∧ w.cell? ⟨g, 6, none⟩ = some (.int .i64 c.site) :=
  ⟨h.cell 0, h.cell 1, h.cell 2, h.cell 3, h.cell 4, h.cell 5, h.cell 6⟩
theorem trimA_mk (l : List UInt8) : trimA (mkB l) = mkB (trimB l) := by simp [trimA, mkB]
def ParseI (l : List (List UInt8)) (c : Ck) (w wr : World) : Prop :=
  Blk wr (w.heap.size + 2) 25 c.cells.toArray ∧ Blk wr w.heap.size 25 noCk.cells.toArray ∧ Blk wr (w.heap.size + 1) 9 ((l.map mkB).map Value.string).toArray ∧ Below w.heap.size w wr ∧ w.heap.size + 3 ≤ wr.heap.size
theorem site_len (n : Nat) : (siteL n).length ≤ 1000000 := by
  unfold siteL; split <;> simp
theorem key_eq (l k : List UInt8) : ((mkB l).toList == k) = decide (l = k) := by
  rw [ByteArray.toList_eq, show (mkB l).data.toList = l from mkB_data l]
  by_cases h : l = k
  · rw [decide_eq_true h, beq_iff_eq.2 h]
  · rw [decide_eq_false h, beq_eq_false_iff_ne.2 h]
theorem ParseI.set {l : List (List UInt8)} {c : Ck} {w wr : World} (h : ParseI l c w wr) (i : Nat) (u : Value) (c' : Ck) (hc : c.cells.toArray.setIfInBounds i u = c'.cells.toArray) : ParseI l c' w (wr.setCell ⟨w.heap.size + 2, i, none⟩ u) :=
  ⟨by rw [← hc]; exact h.1.set_ i u, h.2.1.far (p := ⟨w.heap.size + 2, i, none⟩) (by show w.heap.size ≠ w.heap.size + 2; omega) u, h.2.2.1.far (p := ⟨w.heap.size + 2, i, none⟩) (by show w.heap.size + 1 ≠ w.heap.size + 2; omega) u, h.2.2.2.1.setCell (by show w.heap.size ≤ w.heap.size + 2; omega) u, by have := h.2.2.2.2; simpa [World.setCell] using this⟩
theorem ParseI.drewN {l : List (List UInt8)} {c : Ck} {w wr : World} (h : ParseI l c w wr) (n : Nat) : ParseI l c w (wr.drewN n) :=
  ⟨h.1.drewN n, h.2.1.drewN n, h.2.2.1.drewN n, below_drewN h.2.2.2.1 n, h.2.2.2.2⟩
theorem ParseI.below {l : List (List UInt8)} {c : Ck} {w wr w' : World} (h : ParseI l c w wr) (hb : Below wr.heap.size wr w') : ParseI l c w w' :=
  ⟨h.1.below hb (by have := h.2.2.2.2; omega), h.2.1.below hb (by have := h.2.2.2.2; omega), h.2.2.1.below hb (by have := h.2.2.2.2; omega), h.2.2.2.1.trans (hb.mono (by have := h.2.2.2.2; omega)), by have := h.2.2.2.2; have := hb.size; omega⟩
set_option maxRecDepth 10000 in
set_option maxHeartbeats 3200000 in
theorem parse_any (s : ByteArray) (w : World) (hs : s.size ≤ 1000000) (hm : ∃ m, w.cell? ⟨0, 0, none⟩ = some (.int .i64 m)) : Calls Tryd.prog 7 #[.string s] w (ParseR (parse s) w) := by
  obtain ⟨m, hm⟩ := hm
  have h00 := cell_lt hm
  have HM := Lib.hid hm
  clear hm
  obtain ⟨p, r, hL⟩ : ∃ p r, parts 59 s.data.toList = p :: r := by
    cases h : parts 59 s.data.toList with
    | nil => exact absurd h (pcs_ne _ _ _)
    | cons p r => exact ⟨p, r, rfl⟩
  have HP := Lib.hid (show parse s = (first p).map fun c => r.foldl step c from by unfold parse; rw [hL]; rfl)
  have hsz := parts_le 59 _ s.data.toList (Nat.le_refl _)
  have hcnt := splitB_len s
  have HSP := Lib.hid (splitB_parts s)
  rw [hL] at hsz hcnt
  rw [show s.data.toList.length = s.size from rfl] at hsz
  have hcle := Lib.countB_le ⟨#[59]⟩ (by decide) _ s (Nat.le_refl _)
  have HSZ := Lib.hid hsz
  have HL := Lib.hid hL
  clear hL hsz
  go_enter Tryd.func7, Tryd.ntmps7
  go_wp2_with fail
  refine (Tryd.strings_Split s ⟨#[59]⟩ m _ (by omega) (by rw [World.cell?_alloc_lt _ _ _ h00]; exact HM.out) (by decide)).mono ?_
  rintro e w1 ⟨rfl, hw1⟩
  rw [HSP.out] at hw1
  have hn : (parts 59 s.data.toList).length = r.length + 1 := by rw [HL.out]; rfl
  have hb1 : Below w.heap.size w w1 := by rw [hw1]; exact (below_new w _).alloc (by simp) _
  have hbr : Blk w1 w.heap.size 25 noCk.cells.toArray := by rw [hw1]; exact (Blk.new w _ _).alloc _
  have hbl : Blk w1 (w.heap.size + 1) 9 (((p :: r).map mkB).map Value.string).toArray := by rw [hw1, ← HL.out]; exact Blk.newAt _ _ _ (by simp)
  have hs1 : w1.heap.size = w.heap.size + 2 := by rw [hw1]; simp
  have hm1 : w1.cell? ⟨0, 0, none⟩ = some (.int .i64 m) := (hb1.cell (p := ⟨0, 0, none⟩) h00).trans HM.out
  have c0 : w1.cell? ⟨w.heap.size + 1, 0, none⟩ = some (.string (mkB p)) := by rw [hbl.cell]; rfl
  rw [show Lib.countB s ⟨#[59]⟩ + 1 = r.length + 1 from hcnt.symm]
  have hrm : r.length ≤ 1000000 := by simp at hcnt; omega
  clear hw1 hcnt
  have HB1 := Lib.hid hb1
  have HBR := Lib.hid hbr
  have HBL := Lib.hid hbl
  have HM1 := Lib.hid hm1
  clear hb1 hbr hbl hm1
  have hp1 : (mkB p).size ≤ 1000000 := by rw [mkB_size]; have := HSZ.out p (by simp); omega
  have d0 : decide ((r.length : Int) + 1 ≤ 0) = false := by simp
  go_wp2_with fail
  refine (split_any (mkB p) m w1 hp1 HM1.out).mono ?_
  rintro e w2 ⟨rfl, n2, hw2⟩
  have HB2 := Lib.hid (show Below w.heap.size w w2 from by rw [hw2]; exact below_drewN HB1.out n2)
  have HBR2 := Lib.hid (show Blk w2 w.heap.size 25 noCk.cells.toArray from by rw [hw2]; exact HBR.out.drewN n2)
  have HBL2 := Lib.hid (show Blk w2 (w.heap.size + 1) 9 (((p :: r).map mkB).map Value.string).toArray from by rw [hw2]; exact HBL.out.drewN n2)
  have hs2 : w2.heap.size = w.heap.size + 2 := by rw [hw2]; exact hs1
  clear hw2 HB1 HBR HBL HM1 hs1 c0
  rw [mkB_data]
  have HF := Lib.hid (show parse s = if (untilL 61 p).2.2 && !(trimB (untilL 61 p).1).isEmpty then some (r.foldl step ⟨mkB (trimB (untilL 61 p).1), mkB (trimB (untilL 61 p).2.1), ⟨#[]⟩, -1, false, false, 0⟩) else none from by rw [HP.out]; unfold first; split <;> rfl)
  clear HP
  simp only [trimA_mk]
  generalize hk1 : trimB (untilL 61 p).1 = kn at *
  generalize hk2 : trimB (untilL 61 p).2.1 = kv at *
  generalize hk3 : (untilL 61 p).2.2 = ok at *
  clear hk1 hk2 hk3
  have hse := str_ne (mkB kn)
  rw [mkB_size] at hse
  cases ok with
  | false =>
    have HF2 := Lib.hid (show parse s = none from HF.out)
    clear hse HF
    go_wp2_with fail
    refine (bad_any 2 _).mono ?_
    rintro e w3 ⟨v, rfl, hE, hnn, hb3, hgv⟩
    have HE := Lib.hid hE
    have HBR3 := Lib.hid (HBR2.out.below hb3 (by omega))
    have HB3 := Lib.hid (HB2.out.trans (hb3.mono (by omega)))
    have hs3 := hb3.size
    clear hE hb3
    go_wp2_with (refine wpList_store_blk rfl 25 (.tmp 2) (.tmp 33) rfl w.heap.size noCk.cells rfl rfl HBR3.out (by kernel_rfl) rfl rfl ?_; intro w4 ho4 hk4 hs4)
    obtain ⟨q0, q1, q2, q3, q4, q5, q6⟩ := Ck.cells7 ho4
    exact bodyPost_ret (v := .tuple #[noCk.val, v]) (by simp [results, Tryd.results7, go_sem, q0, q1, q2, q3, q4, q5, q6]; rfl) rfl (by rw [HF2.out]; exact ⟨v, rfl, HE.out.keeps hk4 (fun g hg e => by have := hgv g hg; omega), hnn, HB3.out.trans (hk4.below (fun i hi e => by omega) (by omega))⟩)
  | true =>
    cases kn with
    | nil =>
      have HF2 := Lib.hid (show parse s = none from HF.out)
      rw [decide_eq_false (by simp)] at hse
      have d1 : (mkB []).toList.isEmpty = true := by simpa using hse
      clear hse HF
      go_wp2_with fail
      refine (bad_any 2 _).mono ?_
      rintro e w3 ⟨v, rfl, hE, hnn, hb3, hgv⟩
      have HE := Lib.hid hE
      have HBR3 := Lib.hid (HBR2.out.below hb3 (by omega))
      have HB3 := Lib.hid (HB2.out.trans (hb3.mono (by omega)))
      have hs3 := hb3.size
      clear hE hb3
      go_wp2_with (refine wpList_store_blk rfl 25 (.tmp 2) (.tmp 33) rfl w.heap.size noCk.cells rfl rfl HBR3.out (by kernel_rfl) rfl rfl ?_; intro w4 ho4 hk4 hs4)
      obtain ⟨q0, q1, q2, q3, q4, q5, q6⟩ := Ck.cells7 ho4
      exact bodyPost_ret (v := .tuple #[noCk.val, v]) (by simp [results, Tryd.results7, go_sem, q0, q1, q2, q3, q4, q5, q6]; rfl) rfl (by rw [HF2.out]; exact ⟨v, rfl, HE.out.keeps hk4 (fun g hg e => by have := hgv g hg; omega), hnn, HB3.out.trans (hk4.below (fun i hi e => by omega) (by omega))⟩)
    | cons k0 kr =>
      have HF2 := Lib.hid (show parse s = some (r.foldl step ⟨mkB (k0 :: kr), mkB kv, ⟨#[]⟩, -1, false, false, 0⟩) from HF.out)
      rw [decide_eq_true (by simp)] at hse
      have d1 : (mkB (k0 :: kr)).toList.isEmpty = false := by simpa using hse
      clear hse HF
      generalize mkB (k0 :: kr) = N at *
      generalize mkB kv = V at *
      obtain ⟨c0, hc0⟩ : ∃ c0 : Ck, (⟨N, V, ⟨#[]⟩, -1, false, false, 0⟩ : Ck) = c0 := ⟨_, rfl⟩
      have HC0 := Lib.hid hc0
      have HS := Lib.hid (show ParseI (p :: r) c0 w (w2.alloc (.cells #[.string N, .string V, .string ⟨#[]⟩, .int .i64 (-1), .bool false, .bool false, .int .i64 0] 25)) from
        ⟨by rw [← hc0]; exact Blk.newAt _ _ _ hs2.symm, HBR2.out.alloc _, HBL2.out.alloc _, HB2.out.alloc (by omega) _, by simp [hs2]⟩)
      clear hc0
      cases r with
      | nil =>
        go_wp2_with fail
        go_loopw [41] (fun x wr => x = .int .i64 0 ∧ ParseI [p] c0 w wr) (fun _ _ => 0)
        case atStart => exact ⟨rfl, HS.out⟩
        case round =>
          obtain ⟨rfl, hI⟩ := hrel
          rw [HC0.out] at HF2
          have HF3 := Lib.hid (show parse s = some c0 from HF2.out)
          obtain ⟨q0, q1, q2, q3, q4, q5, q6⟩ := Ck.cells7 hI.1
          have HI := Lib.hid hI
          clear hI
          go_wp2_with (refine wpList_store_blk rfl 25 (.tmp 2) (.tmp 92) rfl w.heap.size c0.cells rfl rfl HI.out.2.1 (by kernel_rfl) rfl rfl ?_; intro w4 ho4 hk4 hs4)
          obtain ⟨p0, p1, p2, p3, p4, p5, p6⟩ := Ck.cells7 ho4
          exact bodyPost_ret (v := .tuple #[c0.val, .nilIface]) (by simp [results, Tryd.results7, go_sem, p0, p1, p2, p3, p4, p5, p6]; rfl) rfl (by rw [HF3.out]; exact ⟨rfl, HI.out.2.2.2.1.trans (hk4.below (fun i hi e => by omega) (by have := HI.out.2.2.2.2; omega))⟩)
      | cons a0 r0 =>
        go_wp2_with fail
        obtain ⟨r, hr⟩ : ∃ r, a0 :: r0 = r := ⟨_, rfl⟩
        have hrl : r0.length + 1 = r.length := by rw [← hr]; rfl
        have hrl2 : r.length ≤ r0.length + 1 := by omega
        have hrl1 : r0.length + 1 ≤ r.length := by omega
        rw [hr] at HF2 HS HSZ hrm
        clear hr hrl
        rw [HC0.out] at HF2
        go_loopw [41] (fun x wr => ∃ k : Nat, k ≤ r.length ∧ x = .int .i64 k ∧ ParseI (p :: r) ((r.take k).foldl step c0) w wr) (fun x _ => r.length - (intOf x).toNat)
        case atStart => exact ⟨0, by omega, rfl, HS.out⟩
        case round =>
          obtain ⟨k, hk, rfl, hI⟩ := hrel
          by_cases hlt : k < r.length
          · have ck : wr.cell? ⟨w.heap.size + 1, 1 + k, none⟩ = some (.string (mkB r[k])) := by
              rw [hI.2.2.1.cell, show 1 + k = k + 1 by omega]
              simp [hlt]
            have hpk : (mkB r[k]).size ≤ 1000000 := by rw [mkB_size]; have := HSZ.out r[k] (by simp); omega
            have d2 : decide ((k : Int) < (r0.length : Int) + 1) = true := by simp; omega
            have HS := Lib.hid (show (r.take (k + 1)).foldl step c0 = step ((r.take k).foldl step c0) r[k] from by rw [List.take_succ_eq_append_getElem hlt, List.foldl_append]; rfl)
            generalize (r.take k).foldl step c0 = ck0 at *
            generalize r[k] = a at *
            have HI := Lib.hid hI
            clear hI
            go_wp2_with fail
            refine (split_any (mkB a) m wr hpk ((HI.out.2.2.2.1.cell (p := ⟨0, 0, none⟩) h00).trans HM.out)).mono ?_
            rintro e w3 ⟨rfl, n3, hw3⟩
            have HI3 := Lib.hid (show ParseI (p :: r) ck0 w w3 from by rw [hw3]; exact HI.out.drewN n3)
            clear hw3 HI ck
            have hl := until_len 61 a
            rw [mkB_size] at hpk
            rw [mkB_data]
            simp only [trimA_mk]
            have hU1 := trimB_le (untilL 61 a).1
            have hU2 := trimB_le (untilL 61 a).2.1
            have HS2 := Lib.hid (HS.out.trans (show step ck0 a = attr (lowL (trimB (untilL 61 a).1)) (trimB (untilL 61 a).2.1) ck0 from rfl))
            clear HS
            generalize trimB (untilL 61 a).1 = U at *
            generalize trimB (untilL 61 a).2.1 = v at *
            generalize (untilL 61 a).2.2 = ok at *
            have hUs : (mkB U).size ≤ 1000000 := by rw [mkB_size]; omega
            have hvs : (mkB v).size ≤ 1000000 := by rw [mkB_size]; omega
            clear hl hU1 hU2 hpk
            go_wp2_with fail
            refine (lower_any (mkB U) w3 hUs).mono ?_
            rintro e w4 ⟨rfl, hb4⟩
            rw [mkB_data]
            have HI4 := Lib.hid (HI3.out.below hb4)
            clear hb4 HI3
            have k1 : ((mkB (lowL U)).toList == [112, 97, 116, 104]) = decide (lowL U = pathK) := key_eq _ _
            have k2 : ((mkB (lowL U)).toList == [109, 97, 120, 45, 97, 103, 101]) = decide (lowL U = ageK) := key_eq _ _
            have k3 : ((mkB (lowL U)).toList == [115, 101, 99, 117, 114, 101]) = decide (lowL U = secK) := key_eq _ _
            have k4 : ((mkB (lowL U)).toList == [104, 116, 116, 112, 111, 110, 108, 121]) = decide (lowL U = httpK) := key_eq _ _
            have k5 : ((mkB (lowL U)).toList == [115, 97, 109, 101, 115, 105, 116, 101]) = decide (lowL U = siteK) := key_eq _ _
            generalize mkB (lowL U) = KB at *
            generalize lowL U = K at *
            obtain ⟨q0, q1, q2, q3, q4, q5, q6⟩ := Ck.cells7 HI4.out.1
            have f2 := HI4.out.1.frozen 2
            have f3 := HI4.out.1.frozen 3
            have f4 := HI4.out.1.frozen 4
            have f5 := HI4.out.1.frozen 5
            have f6 := HI4.out.1.frozen 6
            by_cases g1 : K = pathK
            · subst g1
              rw [decide_eq_true rfl] at k1
              clear k2 k3 k4 k5
              go_wp2_with fail
              refine (Tryd.strings_HasPrefix (mkB v) ⟨#[47]⟩ _).mono ?_
              rintro e w5 ⟨rfl, rfl⟩
              cases hp : Lib.hasPrefix (mkB v).data.toList (⟨#[47]⟩ : ByteArray).data.toList with
              | true =>
                have HN := Lib.hid (show attr pathK v ck0 = { ck0 with path := mkB v } from by
                  unfold attr; rw [mkB_data] at hp; rw [if_pos rfl, if_pos (show [47].isPrefixOf v = true from hp)])
                clear hp
                have HX := Lib.hid ((HI4.out.set 2 (.string ⟨#[]⟩) { ck0 with path := ⟨#[]⟩ } rfl).set 2 (.string (mkB v)) { ck0 with path := mkB v } rfl)
                go_wp2_with fail
                refine ⟨?_, ?measure⟩
                (repeat apply Exists.intro)
                refine ⟨?rel, rfl⟩
                case rel => exact ⟨k + 1, by omega, by go_num, by rw [HS2.out, HN.out]; exact HX.out⟩
                case measure => simp [intOf]; omega
              | false =>
                have HN := Lib.hid (show attr pathK v ck0 = { ck0 with path := ⟨#[]⟩ } from by
                  unfold attr; rw [mkB_data] at hp; rw [if_pos rfl, if_neg (by rw [show [47].isPrefixOf v = false from hp]; simp)])
                clear hp
                have HX := Lib.hid (HI4.out.set 2 (.string ⟨#[]⟩) { ck0 with path := ⟨#[]⟩ } rfl)
                go_wp2_with fail
                refine ⟨?_, ?measure⟩
                (repeat apply Exists.intro)
                refine ⟨?rel, rfl⟩
                case rel => exact ⟨k + 1, by omega, by go_num, by rw [HS2.out, HN.out]; exact HX.out⟩
                case measure => simp [intOf]; omega
            by_cases g2 : K = ageK
            · subst g2
              rw [decide_eq_false (show ¬ ageK = pathK by decide)] at k1
              rw [decide_eq_true rfl] at k2
              clear k3 k4 k5
              go_wp2_with fail
              refine (age_any (mkB v) w4 hvs).mono ?_
              rintro e w5 ⟨rfl, rfl⟩
              rw [mkB_data]
              cases ha : ageL v with
              | none =>
                have HN := Lib.hid (show attr ageK v ck0 = ck0 from by unfold attr; rw [if_neg (by decide), if_pos rfl, ha])
                have HX := Lib.hid HI4.out
                clear ha
                simp only [Option.isSome_none, Option.getD_none]
                go_wp2_with fail
                refine ⟨?_, ?measure⟩
                (repeat apply Exists.intro)
                refine ⟨?rel, rfl⟩
                case rel => exact ⟨k + 1, by omega, by go_num, by rw [HS2.out, HN.out]; exact HX.out⟩
                case measure => simp [intOf]; omega
              | some n =>
                have HN := Lib.hid (show attr ageK v ck0 = { ck0 with age := (n : Int) } from by unfold attr; rw [if_neg (by decide), if_pos rfl, ha])
                have HX := Lib.hid (HI4.out.set 3 (.int .i64 (n : Int)) { ck0 with age := (n : Int) } rfl)
                clear ha
                simp only [Option.isSome_some, Option.getD_some]
                go_wp2_with fail
                refine ⟨?_, ?measure⟩
                (repeat apply Exists.intro)
                refine ⟨?rel, rfl⟩
                case rel => exact ⟨k + 1, by omega, by go_num, by rw [HS2.out, HN.out]; exact HX.out⟩
                case measure => simp [intOf]; omega
            by_cases g3 : K = secK
            · subst g3
              rw [decide_eq_false (show ¬ secK = pathK by decide)] at k1
              rw [decide_eq_false (show ¬ secK = ageK by decide)] at k2
              rw [decide_eq_true rfl] at k3
              clear k4 k5
              have HN := Lib.hid (show attr secK v ck0 = { ck0 with sec := true } from by unfold attr; rw [if_neg (by decide), if_neg (by decide), if_pos rfl])
              have HX := Lib.hid (HI4.out.set 4 (.bool true) { ck0 with sec := true } rfl)
              go_wp2_with fail
              refine ⟨?_, ?measure⟩
              (repeat apply Exists.intro)
              refine ⟨?rel, rfl⟩
              case rel => exact ⟨k + 1, by omega, by go_num, by rw [HS2.out, HN.out]; exact HX.out⟩
              case measure => simp [intOf]; omega
            by_cases g4 : K = httpK
            · subst g4
              rw [decide_eq_false (show ¬ httpK = pathK by decide)] at k1
              rw [decide_eq_false (show ¬ httpK = ageK by decide)] at k2
              rw [decide_eq_false (show ¬ httpK = secK by decide)] at k3
              rw [decide_eq_true rfl] at k4
              clear k5
              have HN := Lib.hid (show attr httpK v ck0 = { ck0 with http := true } from by unfold attr; rw [if_neg (by decide), if_neg (by decide), if_neg (by decide), if_pos rfl])
              have HX := Lib.hid (HI4.out.set 5 (.bool true) { ck0 with http := true } rfl)
              go_wp2_with fail
              refine ⟨?_, ?measure⟩
              (repeat apply Exists.intro)
              refine ⟨?rel, rfl⟩
              case rel => exact ⟨k + 1, by omega, by go_num, by rw [HS2.out, HN.out]; exact HX.out⟩
              case measure => simp [intOf]; omega
            by_cases g5 : K = siteK
            · subst g5
              rw [decide_eq_false (show ¬ siteK = pathK by decide)] at k1
              rw [decide_eq_false (show ¬ siteK = ageK by decide)] at k2
              rw [decide_eq_false (show ¬ siteK = secK by decide)] at k3
              rw [decide_eq_false (show ¬ siteK = httpK by decide)] at k4
              rw [decide_eq_true rfl] at k5
              have HN := Lib.hid (show attr siteK v ck0 = { ck0 with site := siteN (lowL v) } from by unfold attr; rw [if_neg (by decide), if_neg (by decide), if_neg (by decide), if_neg (by decide), if_pos rfl])
              have HX0 := Lib.hid (HI4.out.set 6 (.int .i64 0) { ck0 with site := 0 } rfl)
              go_wp2_with fail
              go_loopw [16] (fun x wr => ∃ m : Nat, m ≤ 3 ∧ x = .int .i64 ((m : Int) + 1) ∧ ParseI (p :: r) { ck0 with site := siteM (lowL v) m } w wr) (fun x _ => 4 - (intOf x).toNat)
              case atStart => exact ⟨0, by omega, rfl, HX0.out⟩
              case round =>
                obtain ⟨m5, hm5, rfl, hI⟩ := hrel
                by_cases h3 : m5 < 3
                · have d3 : decide ((m5 : Int) + 1 ≤ 3) = true := by simp; omega
                  go_wp2_with fail
                  refine (lower_any (mkB v) _ hvs).mono ?_
                  rintro e w6 ⟨rfl, hb6⟩
                  rw [mkB_data]
                  have HI6 := Lib.hid (hI.below hb6)
                  clear hb6 hI
                  go_wp2_with fail
                  refine (site_any (m5 + 1) _ (by omega)).mono ?_
                  rintro e w7 ⟨rfl, hb7⟩
                  have HI7 := Lib.hid (HI6.out.below hb7)
                  clear hb7 HI6
                  go_wp2_with fail
                  refine (lower_any (mkB (siteL (m5 + 1))) _ (by rw [mkB_size]; exact site_len _)).mono ?_
                  rintro e w8 ⟨rfl, hb8⟩
                  rw [mkB_data]
                  have HI8 := Lib.hid (HI7.out.below hb8)
                  clear hb8 HI7
                  have hte := text_eq (mkB (lowL v)) (mkB (lowL (siteL (m5 + 1))))
                  have hsm : siteM (lowL v) (m5 + 1) = if lowL v = lowL (siteL (m5 + 1)) then m5 + 1 else siteM (lowL v) m5 := rfl
                  have hqc := HI8.out.1.cell 6
                  have hqf := HI8.out.1.frozen 6
                  rw [show (Ck.cells { ck0 with site := siteM (lowL v) m5 }).toArray[6]? = some (.int .i64 (siteM (lowL v) m5 : Nat)) from rfl] at hqc
                  by_cases hll : lowL v = lowL (siteL (m5 + 1))
                  · rw [decide_eq_true (by rw [hll])] at hte
                    rw [if_pos hll] at hsm
                    have HX6 := Lib.hid (show ParseI (p :: r) { ck0 with site := siteM (lowL v) (m5 + 1) } w (w8.setCell ⟨w.heap.size + 2, 6, none⟩ (.int .i64 ((m5 : Int) + 1))) from by rw [hsm]; exact HI8.out.set 6 _ _ rfl)
                    clear hsm hll
                    generalize mkB (lowL v) = LV at *
                    generalize mkB (lowL (siteL (m5 + 1))) = LS at *
                    go_wp2_with fail
                    refine ⟨?rel, ?measure⟩
                    case rel => exact ⟨m5 + 1, by omega, by go_num, HX6.out⟩
                    case measure => simp [intOf]; omega
                  · rw [decide_eq_false (fun e => hll (by have := congrArg (fun b : ByteArray => b.data.toList) e; simpa [mkB_data] using this))] at hte
                    rw [if_neg hll] at hsm
                    have HX6 := Lib.hid (show ParseI (p :: r) { ck0 with site := siteM (lowL v) (m5 + 1) } w w8 from by rw [hsm]; exact HI8.out)
                    clear hsm hll
                    generalize mkB (lowL v) = LV at *
                    generalize mkB (lowL (siteL (m5 + 1))) = LS at *
                    go_wp2_with fail
                    refine ⟨?rel, ?measure⟩
                    case rel => exact ⟨m5 + 1, by omega, by go_num, HX6.out⟩
                    case measure => simp [intOf]; omega
                · obtain rfl : m5 = 3 := by omega
                  rw [siteM_3] at hI
                  have HX := Lib.hid hI
                  clear hI
                  go_wp2_with fail
                  refine ⟨?_, ?measure⟩
                  (repeat apply Exists.intro)
                  refine ⟨?rel, rfl⟩
                  case rel => exact ⟨k + 1, by omega, by go_num, by rw [HS2.out, HN.out]; exact HX.out⟩
                  case measure => simp [intOf]; omega
            · have HN := Lib.hid (show attr K v ck0 = ck0 from by unfold attr; rw [if_neg g1, if_neg g2, if_neg g3, if_neg g4, if_neg g5])
              rw [decide_eq_false g1] at k1
              rw [decide_eq_false g2] at k2
              rw [decide_eq_false g3] at k3
              rw [decide_eq_false g4] at k4
              rw [decide_eq_false g5] at k5
              clear g1 g2 g3 g4 g5
              go_wp2_with fail
              have HX := Lib.hid HI4.out
              refine ⟨?_, ?measure⟩
              (repeat apply Exists.intro)
              refine ⟨?rel, rfl⟩
              case rel => exact ⟨k + 1, by omega, by go_num, by rw [HS2.out, HN.out]; exact HX.out⟩
              case measure => simp [intOf]; omega
          · obtain rfl : k = r.length := by omega
            rw [List.take_length] at hI
            obtain ⟨c1, hc1⟩ : ∃ c1, r.foldl step c0 = c1 := ⟨_, rfl⟩
            rw [hc1] at hI
            have HF3 := Lib.hid (show parse s = some c1 from by rw [HF2.out, hc1])
            have d2 : decide ((r.length : Int) < (r0.length : Int) + 1) = false := by simp; omega
            clear hc1
            obtain ⟨q0, q1, q2, q3, q4, q5, q6⟩ := Ck.cells7 hI.1
            have HI := Lib.hid hI
            clear hI
            go_wp2_with (refine wpList_store_blk rfl 25 (.tmp 2) (.tmp 92) rfl w.heap.size c1.cells rfl rfl HI.out.2.1 (by kernel_rfl) rfl rfl ?_; intro w4 ho4 hk4 hs4)
            obtain ⟨p0, p1, p2, p3, p4, p5, p6⟩ := Ck.cells7 ho4
            exact bodyPost_ret (v := .tuple #[c1.val, .nilIface]) (by simp [results, Tryd.results7, go_sem, p0, p1, p2, p3, p4, p5, p6]; rfl) rfl (by rw [HF3.out]; exact ⟨rfl, HI.out.2.2.2.1.trans (hk4.below (fun i hi e => by omega) (by have := HI.out.2.2.2.2; omega))⟩)
end Go.Proofs.YticlnjfndjnfhaaDoor.bake
