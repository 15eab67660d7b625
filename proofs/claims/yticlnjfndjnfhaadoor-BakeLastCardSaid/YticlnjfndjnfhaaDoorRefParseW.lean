/- The document's Parse. -/
import Derived.Test.YticlnjfndjnfhaaDoorParseW
namespace Go.Proofs.YticlnjfndjnfhaaDoor.bake
open Go Go.RowKit Go.Proofs.YticlnjfndjnfhaaDoor.base Go.Proofs.YticlnjfndjnfhaaDoor.dec Go.Proofs.YticlnjfndjnfhaaDoor.err Go.Proofs.YticlnjfndjnfhaaDoor.rowe

def RefR (o : Option Ck) (w : World) (e : Ending) (w' : World) : Prop := match o with
  | some c => e = .returned (.tuple #[c.val, .bool true]) ∧ Below w.heap.size w w'
  | none => e = .returned (.tuple #[noCk.val, .bool false]) ∧ Below w.heap.size w w'
def RefB (c : Ck) (w wr : World) : Prop :=
  Blk wr (w.heap.size + 1) 35 c.cells.toArray ∧ Blk wr w.heap.size 35 noCk.cells.toArray ∧ Below w.heap.size w wr ∧ w.heap.size + 2 ≤ wr.heap.size
theorem RefB.set {c : Ck} {w wr : World} (h : RefB c w wr) (i : Nat) (u : Value) (c' : Ck) (hc : c.cells.toArray.setIfInBounds i u = c'.cells.toArray) : RefB c' w (wr.setCell ⟨w.heap.size + 1, i, none⟩ u) :=
  ⟨by rw [← hc]; exact h.1.set_ i u, h.2.1.far (p := ⟨w.heap.size + 1, i, none⟩) (by show w.heap.size ≠ w.heap.size + 1; omega) u, h.2.2.1.setCell (by show w.heap.size ≤ w.heap.size + 1; omega) u, by have := h.2.2.2; simpa [World.setCell] using this⟩
theorem RefB.drewN {c : Ck} {w wr : World} (h : RefB c w wr) (n : Nat) : RefB c w (wr.drewN n) :=
  ⟨h.1.drewN n, h.2.1.drewN n, below_drewN h.2.2.1 n, h.2.2.2⟩
theorem RefB.below {c : Ck} {w wr w' : World} (h : RefB c w wr) (hb : Below wr.heap.size wr w') : RefB c w w' :=
  ⟨h.1.below hb (by have := h.2.2.2; omega), h.2.1.below hb (by have := h.2.2.2; omega), h.2.2.1.trans (hb.mono (by have := h.2.2.2; omega)), by have := h.2.2.2; have := hb.size; omega⟩
theorem parts_step (c : UInt8) (l : List UInt8) : parts c l = (untilL c l).1 :: (if (untilL c l).2.2 then parts c (untilL c l).2.1 else []) := by
  rw [parts_eq]
  rcases until_cases c l with ⟨a, b, rfl, h2, h3⟩ | ⟨h2, h3⟩
  · rw [h3, if_pos rfl, if_pos rfl]
  · rw [h3, if_neg (by simp), if_neg (by simp)]
theorem until_shorter (c : UInt8) (l : List UInt8) (h : (untilL c l).2.2 = true) : (untilL c l).2.1.length < l.length := by
  rcases until_cases c l with ⟨a, b, rfl, h2, h3⟩ | ⟨h2, h3⟩
  · rw [h3]; simp; omega
  · rw [h3] at h; simp at h
def left (x y : Value) : Nat := match y with | .bool true => vlen x + 1 | _ => 0
theorem left_lt {rs rs2 : List UInt8} {mo : Bool} (h : mo = true → rs2.length < rs.length) : left (.string (mkB rs2)) (.bool mo) < left (.string (mkB rs)) (.bool true) := by
  cases mo with
  | false => show 0 < (mkB rs).size + 1; omega
  | true => show (mkB rs2).size + 1 < (mkB rs).size + 1; rw [mkB_size, mkB_size]; have := h rfl; omega
set_option maxRecDepth 10000 in
set_option maxHeartbeats 3200000 in
theorem parse_ref (s : ByteArray) (w : World) (hs : s.size ≤ 1000000) : Calls Tryd.prog 12 #[.string s] w (RefR (parse s) w) := by
  have hst := parts_step 59 s.data.toList
  have hl := until_len 59 s.data.toList
  rw [show s.data.toList.length = s.size from rfl] at hl
  go_enter Tryd.func12, Tryd.ntmps12
  go_wp2_with fail
  refine (until_ref s 59 _ hs).mono ?_
  rintro e w1 ⟨rfl, n1, hw1⟩
  have HB1 := Lib.hid (show Below w.heap.size w w1 ∧ Blk w1 w.heap.size 35 noCk.cells.toArray ∧ w1.heap.size = w.heap.size + 1 from by
    rw [hw1]; exact ⟨below_drewN (below_new w _) n1, (Blk.new w _ _).drewN n1, by show (w.alloc _).heap.size = _; simp⟩)
  clear hw1
  generalize (untilL 59 s.data.toList).1 = p at *
  generalize (untilL 59 s.data.toList).2.1 = rest at *
  generalize (untilL 59 s.data.toList).2.2 = more at *
  have HP := Lib.hid (show parse s = (first p).map fun c => (if more then parts 59 rest else []).foldl step c from by unfold parse; rw [hst]; rfl)
  clear hst
  have hps : (mkB p).size ≤ 1000000 := by rw [mkB_size]; omega
  have hrs : rest.length ≤ 1000000 := by omega
  clear hl
  go_wp2_with fail
  refine (until_ref (mkB p) 61 w1 hps).mono ?_
  rintro e w2 ⟨rfl, n2, hw2⟩
  have HB2 := Lib.hid (show Below w.heap.size w w2 ∧ Blk w2 w.heap.size 35 noCk.cells.toArray ∧ w2.heap.size = w.heap.size + 1 from by
    rw [hw2]; exact ⟨below_drewN HB1.out.1 n2, HB1.out.2.1.drewN n2, HB1.out.2.2⟩)
  clear hw2 HB1
  rw [mkB_data]
  have hl2 := until_len 61 p
  rw [mkB_size] at hps
  have HF := Lib.hid (show parse s = if (untilL 61 p).2.2 && !(trimB (untilL 61 p).1).isEmpty then some ((if more then parts 59 rest else []).foldl step ⟨mkB (trimB (untilL 61 p).1), mkB (trimB (untilL 61 p).2.1), ⟨#[]⟩, -1, false, false, 0⟩) else none from by rw [HP.out]; unfold first; cases (untilL 61 p).2.2 && !(trimB (untilL 61 p).1).isEmpty <;> rfl)
  clear HP
  have hu1 : (mkB (untilL 61 p).1).size ≤ 1000000 := by rw [mkB_size]; omega
  have hu2 : (mkB (untilL 61 p).2.1).size ≤ 1000000 := by rw [mkB_size]; omega
  clear hl2
  go_wp2_with fail
  refine (trim_ref (mkB (untilL 61 p).1) w2 hu1).mono ?_
  rintro e w3 ⟨⟨rfl, _⟩, rfl⟩
  go_wp2_with fail
  refine (trim_ref (mkB (untilL 61 p).2.1) w3 hu2).mono ?_
  rintro e w4 ⟨⟨rfl, _⟩, rfl⟩
  simp only [trimA_mk]
  generalize trimB (untilL 61 p).1 = kn at *
  generalize trimB (untilL 61 p).2.1 = kv at *
  generalize (untilL 61 p).2.2 = ok at *
  have HB3 := Lib.hid (show RefB ⟨mkB kn, mkB kv, ⟨#[]⟩, -1, false, false, 0⟩ w (w4.alloc (.cells #[.string (mkB kn), .string (mkB kv), .string ⟨#[]⟩, .int .i64 (-1), .bool false, .bool false, .int .i64 0] 35)) from
    ⟨Blk.newAt _ _ _ HB2.out.2.2.symm, HB2.out.2.1.alloc _, HB2.out.1.alloc (by rw [HB2.out.2.2]; omega) _, by simp [HB2.out.2.2]⟩)
  have hs2 := HB2.out.2.2
  clear HB2
  cases ok with
  | false =>
    have HF2 := Lib.hid (show parse s = none from HF.out)
    clear HF
    go_wp2_with (refine wpList_store_blk rfl 35 (.tmp 2) (.tmp 40) rfl w.heap.size noCk.cells rfl rfl HB3.out.2.1 (by kernel_rfl) rfl rfl ?_; intro w9 ho4 hk4 hs4)
    obtain ⟨q0, q1, q2, q3, q4, q5, q6⟩ := Ck.cells7 ho4
    exact bodyPost_ret (v := .tuple #[noCk.val, .bool false]) (by simp [results, Tryd.results12, go_sem, q0, q1, q2, q3, q4, q5, q6]; rfl) rfl (by rw [HF2.out]; exact ⟨rfl, HB3.out.2.2.1.trans (hk4.below (fun i hi e => by omega) (by have := HB3.out.2.2.2; omega))⟩)
  | true =>
    cases kn with
    | nil =>
      have HF2 := Lib.hid (show parse s = none from HF.out)
      have d1 : (mkB []).size = 0 := rfl
      clear HF
      go_wp2_with (refine wpList_store_blk rfl 35 (.tmp 2) (.tmp 40) rfl w.heap.size noCk.cells rfl rfl HB3.out.2.1 (by kernel_rfl) rfl rfl ?_; intro w9 ho4 hk4 hs4)
      obtain ⟨q0, q1, q2, q3, q4, q5, q6⟩ := Ck.cells7 ho4
      exact bodyPost_ret (v := .tuple #[noCk.val, .bool false]) (by simp [results, Tryd.results12, go_sem, q0, q1, q2, q3, q4, q5, q6]; rfl) rfl (by rw [HF2.out]; exact ⟨rfl, HB3.out.2.2.1.trans (hk4.below (fun i hi e => by omega) (by have := HB3.out.2.2.2; omega))⟩)
    | cons k0 kr =>
      have HF2 := Lib.hid (show parse s = some ((if more then parts 59 rest else []).foldl step ⟨mkB (k0 :: kr), mkB kv, ⟨#[]⟩, -1, false, false, 0⟩) from HF.out)
      have d1 : (((mkB (k0 :: kr)).size : Int) == 0) = false := by rw [mkB_size, beq_eq_false_iff_ne]; simp; omega
      clear HF
      generalize mkB (k0 :: kr) = N at *
      generalize mkB kv = V at *
      obtain ⟨c0, hc0⟩ : ∃ c0 : Ck, (⟨N, V, ⟨#[]⟩, -1, false, false, 0⟩ : Ck) = c0 := ⟨_, rfl⟩
      have HC0 := Lib.hid hc0
      obtain ⟨fin, hfin⟩ : ∃ fin, (if more then parts 59 rest else []).foldl step c0 = fin := ⟨_, rfl⟩
      have HF3 := Lib.hid (show parse s = some fin from by rw [HF2.out, hc0, hfin])
      have HFIN := Lib.hid hfin
      rw [hc0] at HB3
      clear hc0 hfin HF2
      go_wp2_with fail
      go_loopw [5, 6] (fun x y wr => ∃ (rs : List UInt8) (mo : Bool) (c : Ck), x = .string (mkB rs) ∧ y = .bool mo ∧ rs.length ≤ 1000000 ∧ (if mo then parts 59 rs else []).foldl step c = fin ∧ RefB c w wr) (fun x y _ => left x y)
      case atStart => exact ⟨rest, more, c0, rfl, rfl, hrs, HFIN.out, HB3.out⟩
      case round =>
        obtain ⟨rs, mo, c, rfl, rfl, hrs2, hf, hI⟩ := hrel
        have hrb : (mkB rs).size ≤ 1000000 := by rw [mkB_size]; exact hrs2
        cases mo with
        | false =>
          have HF4 := Lib.hid (show parse s = some c from by rw [HF3.out]; rw [← hf]; rfl)
          obtain ⟨q0, q1, q2, q3, q4, q5, q6⟩ := Ck.cells7 hI.1
          have HI := Lib.hid hI
          clear hI hf
          go_wp2_with (refine wpList_store_blk rfl 35 (.tmp 2) (.tmp 110) rfl w.heap.size c.cells rfl rfl HI.out.2.1 (by kernel_rfl) rfl rfl ?_; intro w9 ho4 hk4 hs4)
          obtain ⟨p0, p1, p2, p3, p4, p5, p6⟩ := Ck.cells7 ho4
          exact bodyPost_ret (v := .tuple #[c.val, .bool true]) (by simp [results, Tryd.results12, go_sem, p0, p1, p2, p3, p4, p5, p6]; rfl) rfl (by rw [HF4.out]; exact ⟨rfl, HI.out.2.2.1.trans (hk4.below (fun i hi e => by omega) (by have := HI.out.2.2.2; omega))⟩)
        | true =>
          have hf2 := hf
          rw [if_pos rfl, parts_step, List.foldl_cons] at hf2
          clear hf
          have hlu := until_len 59 rs
          have hsh := until_shorter 59 rs
          have HI := Lib.hid hI
          clear hI
          go_wp2_with fail
          refine (until_ref (mkB rs) 59 wr hrb).mono ?_
          rintro e w5 ⟨rfl, n5, hw5⟩
          have HI5 := Lib.hid (show RefB c w w5 from by rw [hw5]; exact HI.out.drewN n5)
          clear hw5 HI
          rw [mkB_data]
          generalize (untilL 59 rs).1 = a at *
          generalize (untilL 59 rs).2.1 = rs2 at *
          generalize (untilL 59 rs).2.2 = mo2 at *
          have HSH := Lib.hid hsh
          clear hsh
          have hab : (mkB a).size ≤ 1000000 := by rw [mkB_size]; omega
          have hal : a.length ≤ 1000000 := by omega
          have hr2 : rs2.length ≤ 1000000 := by omega
          clear hlu
          go_wp2_with fail
          refine (until_ref (mkB a) 61 w5 hab).mono ?_
          rintro e w6 ⟨rfl, n6, hw6⟩
          have HI6 := Lib.hid (show RefB c w w6 from by rw [hw6]; exact HI5.out.drewN n6)
          clear hw6 HI5
          rw [mkB_data]
          have hl := until_len 61 a
          have hu1 : (mkB (untilL 61 a).1).size ≤ 1000000 := by rw [mkB_size]; omega
          have hu2 : (mkB (untilL 61 a).2.1).size ≤ 1000000 := by rw [mkB_size]; omega
          go_wp2_with fail
          refine (trim_ref (mkB (untilL 61 a).1) w6 hu1).mono ?_
          rintro e w7 ⟨⟨rfl, _⟩, hw7⟩
          have HI7 := Lib.hid (show RefB c w w7 from by rw [hw7]; exact HI6.out)
          clear hw7 HI6
          rw [trimA_mk]
          have hU1 := trimB_le (untilL 61 a).1
          have hU2 := trimB_le (untilL 61 a).2.1
          have HS2 := Lib.hid (show (if mo2 = true then parts 59 rs2 else []).foldl step (attr (lowL (trimB (untilL 61 a).1)) (trimB (untilL 61 a).2.1) c) = fin from hf2)
          clear hf2
          generalize trimB (untilL 61 a).1 = U at *
          have hUs : (mkB U).size ≤ 1000000 := by rw [mkB_size]; omega
          go_wp2_with fail
          refine (small_ref (mkB U) w7 hUs).mono ?_
          rintro e w8 ⟨rfl, hb8⟩
          rw [mkB_data]
          have HI8 := Lib.hid (HI7.out.below hb8)
          clear hb8 HI7
          go_wp2_with fail
          refine (trim_ref (mkB (untilL 61 a).2.1) w8 hu2).mono ?_
          rintro e w9 ⟨⟨rfl, _⟩, hw9⟩
          have HI9 := Lib.hid (show RefB c w w9 from by rw [hw9]; exact HI8.out)
          clear hw9 HI8
          rw [trimA_mk]
          generalize trimB (untilL 61 a).2.1 = v at *
          generalize (untilL 61 a).2.2 = ok at *
          have hvs : (mkB v).size ≤ 1000000 := by rw [mkB_size]; omega
          clear hl hU1 hU2 hu1 hu2
          have k1 : ((mkB (lowL U)).toList == [112, 97, 116, 104]) = decide (lowL U = pathK) := key_eq _ _
          have k2 : ((mkB (lowL U)).toList == [109, 97, 120, 45, 97, 103, 101]) = decide (lowL U = ageK) := key_eq _ _
          have k3 : ((mkB (lowL U)).toList == [115, 101, 99, 117, 114, 101]) = decide (lowL U = secK) := key_eq _ _
          have k4 : ((mkB (lowL U)).toList == [104, 116, 116, 112, 111, 110, 108, 121]) = decide (lowL U = httpK) := key_eq _ _
          have k5 : ((mkB (lowL U)).toList == [115, 97, 109, 101, 115, 105, 116, 101]) = decide (lowL U = siteK) := key_eq _ _
          generalize mkB (lowL U) = KB at *
          generalize lowL U = K at *
          obtain ⟨cn, cv, cp, cg, cs, ch, ci⟩ := c
          obtain ⟨q0, q1, q2, q3, q4, q5, q6⟩ := Ck.cells7 HI9.out.1
          dsimp only at q0 q1 q2 q3 q4 q5 q6
          have f2 := HI9.out.1.frozen 2
          have f3 := HI9.out.1.frozen 3
          have f4 := HI9.out.1.frozen 4
          have f5 := HI9.out.1.frozen 5
          have f6 := HI9.out.1.frozen 6
          by_cases g1 : K = pathK
          · subst g1
            rw [decide_eq_true rfl] at k1
            rw [decide_eq_false (show ¬ pathK = ageK by decide)] at k2
            rw [decide_eq_false (show ¬ pathK = secK by decide)] at k3
            rw [decide_eq_false (show ¬ pathK = httpK by decide)] at k4
            rw [decide_eq_false (show ¬ pathK = siteK by decide)] at k5
            by_cases h0 : 0 < (mkB v).size
            · have hv := cons_of h0
              rw [mkB_data] at hv
              have dz : decide ((0 : Int) < ((mkB v).size : Int)) = true := by simp; omega
              have h256 : (mkB v)[0].toNat < 256 := (mkB v)[0].toNat_lt
              by_cases h47 : (mkB v)[0] = 47
              · have hpre : [47].isPrefixOf v = true := by rw [hv, pre_one, h47]; rfl
                rw [show attr pathK v ⟨cn, cv, cp, cg, cs, ch, ci⟩ = ⟨cn, cv, mkB v, cg, cs, ch, ci⟩ from by unfold attr; rw [if_pos rfl, if_pos hpre]] at HS2
                have e1 : (((mkB v)[0].toNat : Int) == 47) = true := by rw [h47]; rfl
                have HX := Lib.hid ((((HI9.out.set 2 (.string ⟨#[]⟩) ⟨cn, cv, ⟨#[]⟩, cg, cs, ch, ci⟩ rfl).set 2 (.string (mkB v)) ⟨cn, cv, mkB v, cg, cs, ch, ci⟩ rfl).set 4 (.bool cs) ⟨cn, cv, mkB v, cg, cs, ch, ci⟩ rfl).set 5 (.bool ch) ⟨cn, cv, mkB v, cg, cs, ch, ci⟩ rfl)
                clear hv hpre h47
                cases cs <;> cases ch
                all_goals
                  go_wp2_with fail
                  refine ⟨?rel, ?measure⟩
                  case rel => exact ⟨rs2, mo2, _, rfl, rfl, hr2, HS2.out, HX.out⟩
                  case measure => exact left_lt HSH.out
              · have hpre : [47].isPrefixOf v = false := by rw [hv, pre_one]; exact beq_eq_false_iff_ne.2 (fun e => h47 e.symm)
                rw [show attr pathK v ⟨cn, cv, cp, cg, cs, ch, ci⟩ = ⟨cn, cv, ⟨#[]⟩, cg, cs, ch, ci⟩ from by unfold attr; rw [if_pos rfl, hpre]; rfl] at HS2
                have e1 : (((mkB v)[0].toNat : Int) == 47) = false := by
                  rw [beq_eq_false_iff_ne]
                  intro h
                  exact h47 (UInt8.toNat_inj.mp (Int.ofNat_inj.mp h))
                have HX := Lib.hid (((HI9.out.set 2 (.string ⟨#[]⟩) ⟨cn, cv, ⟨#[]⟩, cg, cs, ch, ci⟩ rfl).set 4 (.bool cs) ⟨cn, cv, ⟨#[]⟩, cg, cs, ch, ci⟩ rfl).set 5 (.bool ch) ⟨cn, cv, ⟨#[]⟩, cg, cs, ch, ci⟩ rfl)
                clear hv hpre h47
                cases cs <;> cases ch
                all_goals
                  go_wp2_with fail
                  refine ⟨?rel, ?measure⟩
                  case rel => exact ⟨rs2, mo2, _, rfl, rfl, hr2, HS2.out, HX.out⟩
                  case measure => exact left_lt HSH.out
            · have dz : decide ((0 : Int) < ((mkB v).size : Int)) = false := decide_eq_false (by omega)
              obtain rfl : v = [] := List.eq_nil_of_length_eq_zero (by rw [← mkB_size v]; omega)
              rw [show attr pathK [] ⟨cn, cv, cp, cg, cs, ch, ci⟩ = ⟨cn, cv, ⟨#[]⟩, cg, cs, ch, ci⟩ from rfl] at HS2
              have HX := Lib.hid (((HI9.out.set 2 (.string ⟨#[]⟩) ⟨cn, cv, ⟨#[]⟩, cg, cs, ch, ci⟩ rfl).set 4 (.bool cs) ⟨cn, cv, ⟨#[]⟩, cg, cs, ch, ci⟩ rfl).set 5 (.bool ch) ⟨cn, cv, ⟨#[]⟩, cg, cs, ch, ci⟩ rfl)
              cases cs <;> cases ch
              all_goals
                go_wp2_with fail
                refine ⟨?rel, ?measure⟩
                case rel => exact ⟨rs2, mo2, _, rfl, rfl, hr2, HS2.out, HX.out⟩
                case measure => exact left_lt HSH.out
          by_cases g2 : K = ageK
          · subst g2
            rw [decide_eq_false (show ¬ ageK = pathK by decide)] at k1
            rw [decide_eq_true rfl] at k2
            rw [decide_eq_false (show ¬ ageK = secK by decide)] at k3
            rw [decide_eq_false (show ¬ ageK = httpK by decide)] at k4
            rw [decide_eq_false (show ¬ ageK = siteK by decide)] at k5
            cases ha : ageL v with
            | none =>
              rw [show attr ageK v ⟨cn, cv, cp, cg, cs, ch, ci⟩ = ⟨cn, cv, cp, cg, cs, ch, ci⟩ from by unfold attr; rw [if_neg (by decide), if_pos rfl, ha]] at HS2
              have hN : numI v = -1 := by unfold numI; rw [ha]
              have HX := Lib.hid ((HI9.out.set 4 (.bool cs) ⟨cn, cv, cp, cg, cs, ch, ci⟩ rfl).set 5 (.bool ch) ⟨cn, cv, cp, cg, cs, ch, ci⟩ rfl)
              clear ha
              cases cs <;> cases ch
              all_goals
                go_wp2_with fail
                refine (number_ref (mkB v) _ hvs).mono ?_
                rintro e w10 ⟨rfl, rfl⟩
                rw [mkB_data, hN]
                go_wp2_with fail
                refine ⟨?rel, ?measure⟩
                case rel => exact ⟨rs2, mo2, _, rfl, rfl, hr2, HS2.out, HX.out⟩
                case measure => exact left_lt HSH.out
            | some n =>
              rw [show attr ageK v ⟨cn, cv, cp, cg, cs, ch, ci⟩ = ⟨cn, cv, cp, n, cs, ch, ci⟩ from by unfold attr; rw [if_neg (by decide), if_pos rfl, ha]] at HS2
              have hN : numI v = (n : Int) := by unfold numI; rw [ha]
              have dn : decide ((0 : Int) ≤ (n : Int)) = true := by simp
              have HX := Lib.hid (((HI9.out.set 3 (.int .i64 (n : Int)) ⟨cn, cv, cp, n, cs, ch, ci⟩ rfl).set 4 (.bool cs) ⟨cn, cv, cp, n, cs, ch, ci⟩ rfl).set 5 (.bool ch) ⟨cn, cv, cp, n, cs, ch, ci⟩ rfl)
              clear ha
              cases cs <;> cases ch
              all_goals
                go_wp2_with fail
                refine (number_ref (mkB v) _ hvs).mono ?_
                rintro e w10 ⟨rfl, rfl⟩
                rw [mkB_data, hN]
                go_wp2_with fail
                refine (number_ref (mkB v) _ hvs).mono ?_
                rintro e w10 ⟨rfl, rfl⟩
                rw [mkB_data, hN]
                go_wp2_with fail
                refine ⟨?rel, ?measure⟩
                case rel => exact ⟨rs2, mo2, _, rfl, rfl, hr2, HS2.out, HX.out⟩
                case measure => exact left_lt HSH.out
          by_cases g3 : K = secK
          · subst g3
            rw [decide_eq_false (show ¬ secK = pathK by decide)] at k1
            rw [decide_eq_false (show ¬ secK = ageK by decide)] at k2
            rw [decide_eq_true rfl] at k3
            rw [decide_eq_false (show ¬ secK = httpK by decide)] at k4
            rw [decide_eq_false (show ¬ secK = siteK by decide)] at k5
            rw [show attr secK v ⟨cn, cv, cp, cg, cs, ch, ci⟩ = ⟨cn, cv, cp, cg, true, ch, ci⟩ from by unfold attr; rw [if_neg (by decide), if_neg (by decide), if_pos rfl]] at HS2
            have HX := Lib.hid ((HI9.out.set 4 (.bool true) ⟨cn, cv, cp, cg, true, ch, ci⟩ rfl).set 5 (.bool ch) ⟨cn, cv, cp, cg, true, ch, ci⟩ rfl)
            cases cs <;> cases ch
            all_goals
              go_wp2_with fail
              refine ⟨?rel, ?measure⟩
              case rel => exact ⟨rs2, mo2, _, rfl, rfl, hr2, HS2.out, HX.out⟩
              case measure => exact left_lt HSH.out
          by_cases g4 : K = httpK
          · subst g4
            rw [decide_eq_false (show ¬ httpK = pathK by decide)] at k1
            rw [decide_eq_false (show ¬ httpK = ageK by decide)] at k2
            rw [decide_eq_false (show ¬ httpK = secK by decide)] at k3
            rw [decide_eq_true rfl] at k4
            rw [decide_eq_false (show ¬ httpK = siteK by decide)] at k5
            rw [show attr httpK v ⟨cn, cv, cp, cg, cs, ch, ci⟩ = ⟨cn, cv, cp, cg, cs, true, ci⟩ from by unfold attr; rw [if_neg (by decide), if_neg (by decide), if_neg (by decide), if_pos rfl]] at HS2
            have HX := Lib.hid ((HI9.out.set 4 (.bool cs) ⟨cn, cv, cp, cg, cs, ch, ci⟩ rfl).set 5 (.bool true) ⟨cn, cv, cp, cg, cs, true, ci⟩ rfl)
            cases cs <;> cases ch
            all_goals
              go_wp2_with fail
              refine ⟨?rel, ?measure⟩
              case rel => exact ⟨rs2, mo2, _, rfl, rfl, hr2, HS2.out, HX.out⟩
              case measure => exact left_lt HSH.out
          by_cases g5 : K = siteK
          · subst g5
            rw [decide_eq_false (show ¬ siteK = pathK by decide)] at k1
            rw [decide_eq_false (show ¬ siteK = ageK by decide)] at k2
            rw [decide_eq_false (show ¬ siteK = secK by decide)] at k3
            rw [decide_eq_false (show ¬ siteK = httpK by decide)] at k4
            rw [decide_eq_true rfl] at k5
            rw [show attr siteK v ⟨cn, cv, cp, cg, cs, ch, ci⟩ = ⟨cn, cv, cp, cg, cs, ch, siteN (lowL v)⟩ from by unfold attr; rw [if_neg (by decide), if_neg (by decide), if_neg (by decide), if_neg (by decide), if_pos rfl]] at HS2
            have HX0 := Lib.hid (((HI9.out.set 4 (.bool cs) ⟨cn, cv, cp, cg, cs, ch, ci⟩ rfl).set 5 (.bool ch) ⟨cn, cv, cp, cg, cs, ch, ci⟩ rfl).set 6 (.int .i64 0) ⟨cn, cv, cp, cg, cs, ch, 0⟩ rfl)
            have s1 : ((mkB (lowL v)).toList == [115, 116, 114, 105, 99, 116]) = decide (lowL v = strictK) := key_eq _ _
            have s2 : ((mkB (lowL v)).toList == [108, 97, 120]) = decide (lowL v = laxK) := key_eq _ _
            have s3 : ((mkB (lowL v)).toList == [110, 111, 110, 101]) = decide (lowL v = noneK) := key_eq _ _
            have HLB := Lib.hid (show ∀ w0 : World, Calls Tryd.prog 32 #[.string (mkB v)] w0 fun e w' => e = .returned (.string (mkB (lowL v))) ∧ Below w0.heap.size w0 w' from fun w0 => by have h := small_ref (mkB v) w0 hvs; rw [mkB_data] at h; exact h)
            generalize mkB (lowL v) = LB at *
            generalize lowL v = L at *
            by_cases j1 : L = strictK
            · subst j1
              rw [decide_eq_true rfl] at s1
              rw [decide_eq_false (show ¬ strictK = laxK by decide)] at s2
              rw [decide_eq_false (show ¬ strictK = noneK by decide)] at s3
              rw [show siteN strictK = 1 from by decide] at HS2
              cases cs <;> cases ch
              all_goals
                go_wp2_with fail
                refine (HLB.out _).mono ?_
                rintro e w10 ⟨rfl, hb10⟩
                have HI10 := Lib.hid (HX0.out.below hb10)
                clear hb10
                have q6b := HI10.out.1.cell 6
                rw [show (Ck.cells _).toArray[6]? = some (.int .i64 (0 : Nat)) from rfl] at q6b
                have f6b := HI10.out.1.frozen 6
                have HX := Lib.hid (HI10.out.set 6 (.int .i64 1) ⟨cn, cv, cp, cg, _, _, 1⟩ rfl)
                go_wp2_with fail
                refine ⟨?rel, ?measure⟩
                case rel => exact ⟨rs2, mo2, _, rfl, rfl, hr2, HS2.out, HX.out⟩
                case measure => exact left_lt HSH.out
            by_cases j2 : L = laxK
            · subst j2
              rw [decide_eq_false (show ¬ laxK = strictK by decide)] at s1
              rw [decide_eq_true rfl] at s2
              rw [decide_eq_false (show ¬ laxK = noneK by decide)] at s3
              rw [show siteN laxK = 2 from by decide] at HS2
              cases cs <;> cases ch
              all_goals
                go_wp2_with fail
                refine (HLB.out _).mono ?_
                rintro e w10 ⟨rfl, hb10⟩
                have HI10 := Lib.hid (HX0.out.below hb10)
                clear hb10
                have q6b := HI10.out.1.cell 6
                rw [show (Ck.cells _).toArray[6]? = some (.int .i64 (0 : Nat)) from rfl] at q6b
                have f6b := HI10.out.1.frozen 6
                have HX := Lib.hid (HI10.out.set 6 (.int .i64 2) ⟨cn, cv, cp, cg, _, _, 2⟩ rfl)
                go_wp2_with fail
                refine ⟨?rel, ?measure⟩
                case rel => exact ⟨rs2, mo2, _, rfl, rfl, hr2, HS2.out, HX.out⟩
                case measure => exact left_lt HSH.out
            by_cases j3 : L = noneK
            · subst j3
              rw [decide_eq_false (show ¬ noneK = strictK by decide)] at s1
              rw [decide_eq_false (show ¬ noneK = laxK by decide)] at s2
              rw [decide_eq_true rfl] at s3
              rw [show siteN noneK = 3 from by decide] at HS2
              cases cs <;> cases ch
              all_goals
                go_wp2_with fail
                refine (HLB.out _).mono ?_
                rintro e w10 ⟨rfl, hb10⟩
                have HI10 := Lib.hid (HX0.out.below hb10)
                clear hb10
                have q6b := HI10.out.1.cell 6
                rw [show (Ck.cells _).toArray[6]? = some (.int .i64 (0 : Nat)) from rfl] at q6b
                have f6b := HI10.out.1.frozen 6
                have HX := Lib.hid (HI10.out.set 6 (.int .i64 3) ⟨cn, cv, cp, cg, _, _, 3⟩ rfl)
                go_wp2_with fail
                refine ⟨?rel, ?measure⟩
                case rel => exact ⟨rs2, mo2, _, rfl, rfl, hr2, HS2.out, HX.out⟩
                case measure => exact left_lt HSH.out
            · rw [show siteN L = 0 from by unfold siteN; rw [if_neg j1, if_neg j2, if_neg j3]] at HS2
              rw [decide_eq_false j1] at s1
              rw [decide_eq_false j2] at s2
              rw [decide_eq_false j3] at s3
              clear j1 j2 j3
              cases cs <;> cases ch
              all_goals
                go_wp2_with fail
                refine (HLB.out _).mono ?_
                rintro e w10 ⟨rfl, hb10⟩
                have HX := Lib.hid (HX0.out.below hb10)
                clear hb10
                go_wp2_with fail
                refine ⟨?rel, ?measure⟩
                case rel => exact ⟨rs2, mo2, _, rfl, rfl, hr2, HS2.out, HX.out⟩
                case measure => exact left_lt HSH.out
          · rw [show attr K v ⟨cn, cv, cp, cg, cs, ch, ci⟩ = ⟨cn, cv, cp, cg, cs, ch, ci⟩ from by unfold attr; rw [if_neg g1, if_neg g2, if_neg g3, if_neg g4, if_neg g5]] at HS2
            rw [decide_eq_false g1] at k1
            rw [decide_eq_false g2] at k2
            rw [decide_eq_false g3] at k3
            rw [decide_eq_false g4] at k4
            rw [decide_eq_false g5] at k5
            clear g1 g2 g3 g4 g5
            have HX := Lib.hid ((HI9.out.set 4 (.bool cs) ⟨cn, cv, cp, cg, cs, ch, ci⟩ rfl).set 5 (.bool ch) ⟨cn, cv, cp, cg, cs, ch, ci⟩ rfl)
            cases cs <;> cases ch
            all_goals
              go_wp2_with fail
              refine ⟨?rel, ?measure⟩
              case rel => exact ⟨rs2, mo2, _, rfl, rfl, hr2, HS2.out, HX.out⟩
              case measure => exact left_lt HSH.out
end Go.Proofs.YticlnjfndjnfhaaDoor.bake
