/- bake.Write. -/
import Derived.Test.YticlnjfndjnfhaaDoorTabsW
import Derived.Test.YticlnjfndjnfhaaDoorRefWriteW
import Derived.Deep.DeepCutAuto
import Derived.Deep.Cut
import Derived.Deep.CutBlock
namespace Go.Proofs.YticlnjfndjnfhaaDoor.bake
open Go Go.RowKit Go.Proofs.YticlnjfndjnfhaaDoor.base Go.Proofs.YticlnjfndjnfhaaDoor.dec Go.Proofs.YticlnjfndjnfhaaDoor.err Go.Proofs.YticlnjfndjnfhaaDoor.rowe
open Go.Lib (decDigits)

def WriteR (n v p : ByteArray) (a : Int) (sec http : Bool) (st : Int) (w : World) (e : Ending) (w' : World) : Prop :=
  (rightB n v p a sec st = true ∧ e = .returned (.tuple #[.string (mkB (headL n v p a sec http st)), .nilIface]) ∧ Below w.heap.size w w') ∨
  (rightB n v p a sec st = false ∧ ∃ x, e = .returned (.tuple #[.string ⟨#[]⟩, x]) ∧ Err w' x 1 ∧ x ≠ .nilIface ∧ Below w.heap.size w w')
theorem lenP (p : ByteArray) : (pP p).length ≤ 1 := by unfold pP; split <;> simp
theorem lenA (a : Int) : (pA a).length ≤ 1 := by unfold pA; split <;> simp
theorem lenS (b : Bool) : (pS b).length ≤ 1 := by cases b <;> simp [pS]
theorem lenH (b : Bool) : (pH b).length ≤ 1 := by cases b <;> simp [pH]
theorem lenT (st : Int) : (pT st).length ≤ 1 := by unfold pT; split <;> simp
theorem lit_str (k : List UInt8) (p : ByteArray) : (⟨k.toArray⟩ : ByteArray) ++ p = mkB (k ++ p.data.toList) := by
  conv => { lhs; rw [← mkB_of p] }
  exact mk_app k _
theorem lit_lit (k l : List UInt8) : (⟨k.toArray⟩ : ByteArray) ++ ⟨l.toArray⟩ = mkB (k ++ l) := mk_app k l
theorem WrH.push {w wx w5 : World} {cs : Array Value} {l : List (List UInt8)} {s v1 : Value} {x : List UInt8} {X : ByteArray} (h : WrH w cs l s wx)
    (hown : w5.ownsRow (w.heap.size + 1) 9 1 v1 (l.length + 1) (strs l ++ [.string X])) (hb : Below (w.heap.size + 1) wx w5) (hX : X = mkB x) : WrH w cs (l ++ [x]) v1 w5 :=
  ⟨by subst hX; rw [strs_app, List.length_append]; exact hown, h.2.1.below hb (Nat.lt_succ_self _), h.2.2.1.trans (hb.mono (Nat.le_succ _)), Nat.le_trans h.2.2.2 hb.size⟩
theorem first_own {n v : ByteArray} {w wc : World} {cs : Array Value} (hb : Blk wc w.heap.size 25 cs) (hbw : Below w.heap.size w wc) (hs : wc.heap.size = w.heap.size + 1) :
    WrH w cs [h0 n v] (.slice (some ⟨w.heap.size + 1, 0, none⟩) 1 1) (wc.alloc (.cells #[.string (n ++ ⟨#[61]⟩ ++ v)] 9)) := by
  refine ⟨?_, hb.alloc _, hbw.alloc (by omega) _, by simp; omega⟩
  have h := ownsRow_new0 wc 9 1 #[.string (n ++ ⟨#[61]⟩ ++ v)] (n := 1)
  rw [hs, str_h0] at h
  exact h
theorem head_small {n v p : ByteArray} {a : Int} {sec http : Bool} {st : Int} (hn : n.size ≤ 1000000) (hv : v.size ≤ 1000000) (hp : p.size ≤ 1000000) (ha : a ≤ 1099511627776) :
    ∀ y ∈ h0 n v :: (pP p ++ (pA a ++ (pS sec ++ (pH http ++ pT st)))), y.length ≤ 3000000 := by
  intro y hy
  rcases List.mem_cons.1 hy with rfl | hy
  · rw [h0_len]; omega
  rcases List.mem_append.1 hy with hy | hy
  · unfold pP at hy
    split at hy
    · simp at hy
    · rw [List.mem_singleton] at hy
      subst hy
      rw [List.length_append]
      have h1 : p.data.toList.length = p.size := rfl
      have h2 : pathH.length = 5 := rfl
      omega
  rcases List.mem_append.1 hy with hy | hy
  · unfold pA at hy
    split at hy
    · rw [List.mem_singleton] at hy
      subst hy
      rw [List.length_append]
      have h1 := age_len ha
      have h2 : ageH.length = 8 := rfl
      omega
    · simp at hy
  rcases List.mem_append.1 hy with hy | hy
  · cases sec
    · simp [pS] at hy
    · simp only [pS, if_true, List.mem_singleton] at hy
      subst hy; decide
  rcases List.mem_append.1 hy with hy | hy
  · cases http
    · simp [pH] at hy
    · simp only [pH, if_true, List.mem_singleton] at hy
      subst hy; decide
  · unfold pT at hy
    split at hy
    · rw [List.mem_singleton] at hy
      subst hy
      rw [List.length_append]
      have h1 := site_len st.toNat
      have h2 : siteH.length = 9 := rfl
      omega
    · simp at hy
set_option maxRecDepth 10000 in
set_option maxHeartbeats 3200000 in
theorem write_any (n v p : ByteArray) (a : Int) (sec http : Bool) (st : Int) (w : World) (hn : n.size ≤ 1000000) (hv : v.size ≤ 1000000) (hp : p.size ≤ 1000000) (ht : Tabs w) :
    Calls Tryd.prog 8 #[.agg #[.string n, .string v, .string p, .int .i64 a, .bool sec, .bool http, .int .i64 st]] w (WriteR n v p a sec http st w) := by
  have HTA := Lib.hid ht
  clear ht
  have HTK := Lib.hid (show ∀ w0 : World, Calls Tryd.prog 20 #[.string n] w0 fun e w' => e = .returned (.bool (tokB n)) ∧ w' = w0 from fun w0 => token_any n w0 hn)
  have HOC := Lib.hid (show ∀ w0 : World, Calls Tryd.prog 21 #[.string v] w0 fun e w' => e = .returned (.bool (octsB v)) ∧ w' = w0 from fun w0 => octets_any v w0 hv)
  have HPA := Lib.hid (show ∀ w0 : World, Calls Tryd.prog 22 #[.string p] w0 fun e w' => e = .returned (.bool (pathL p.data.toList)) ∧ ∃ k, w' = w0.drewN k from fun w0 => path_any p w0 hp)
  have hR : rightB n v p a sec st = (tokB n && (octsB v && (pathL p.data.toList && (decide (-1 ≤ a) && (decide (a ≤ 1099511627776) && (decide (0 ≤ st) && (decide (st ≤ 3) && !(decide (st = 3) && !sec)))))))) := rfl
  obtain ⟨R, hRR⟩ : ∃ R, rightB n v p a sec st = R := ⟨_, rfl⟩
  have HRR := Lib.hid hRR
  rw [hRR] at hR
  clear hRR
  obtain ⟨CS, hCS⟩ : ∃ CS : Array Value, #[.string n, .string v, .string p, .int .i64 a, .bool sec, .bool http, .int .i64 st] = CS := ⟨_, rfl⟩
  have HCS := Lib.hid hCS
  clear hCS
  have HRD := Lib.hid hR
  clear hR
  go_enter Tryd.func8, Tryd.ntmps8
  go_upto_region 1 with fail
  go_cut [50] (fun s50 wx => s50 = .bool (!R) ∧ Blk wx w.heap.size 25 CS ∧ Below w.heap.size w wx ∧ wx.heap.size = w.heap.size + 1)
  case first =>
    have hR := HRD.out
    have HW := Lib.hid (show Blk (w.alloc (.cells #[.string n, .string v, .string p, .int .i64 a, .bool sec, .bool http, .int .i64 st] 25)) w.heap.size 25 CS ∧ Below w.heap.size w (w.alloc (.cells #[.string n, .string v, .string p, .int .i64 a, .bool sec, .bool http, .int .i64 st] 25)) ∧ (w.alloc (.cells #[.string n, .string v, .string p, .int .i64 a, .bool sec, .bool http, .int .i64 st] 25)).heap.size = w.heap.size + 1 from by
      rw [← HCS.out]; exact ⟨Blk.new w _ _, below_new w _, by simp⟩)
    generalize tokB n = bt at *
    generalize octsB v = bo at *
    generalize pathL p.data.toList = bp at *
    cases bt with
    | false =>
      have HR := Lib.hid (show R = false from hR)
      clear hR
      go_wp2_with fail
      refine (HTK.out _).mono ?_
      rintro e w1 ⟨rfl, rfl⟩
      go_wp2_with fail
      go_meet
      case rel => exact ⟨by rw [HR.out]; first | rfl | (congr 1; simp; omega), HW.out⟩
    | true =>
      cases bo with
      | false =>
        have HR := Lib.hid (show R = false from hR)
        clear hR
        go_wp2_with fail
        refine (HTK.out _).mono ?_
        rintro e w1 ⟨rfl, rfl⟩
        go_wp2_with fail
        refine (HOC.out _).mono ?_
        rintro e w1 ⟨rfl, rfl⟩
        go_wp2_with fail
        go_meet
        case rel => exact ⟨by rw [HR.out]; first | rfl | (congr 1; simp; omega), HW.out⟩
      | true =>
        cases bp with
        | false =>
          have HR := Lib.hid (show R = false from hR)
          clear hR HW
          go_wp2_with fail
          refine (HTK.out _).mono ?_
          rintro e w1 ⟨rfl, rfl⟩
          go_wp2_with fail
          refine (HOC.out _).mono ?_
          rintro e w1 ⟨rfl, rfl⟩
          go_wp2_with fail
          refine (HPA.out _).mono ?_
          rintro e w1 ⟨rfl, n1, hw1⟩
          have HW := Lib.hid (show Blk w1 w.heap.size 25 CS ∧ Below w.heap.size w w1 ∧ w1.heap.size = w.heap.size + 1 from by
            rw [hw1, ← HCS.out]; exact ⟨(Blk.new w _ _).drewN n1, below_drewN (below_new w _) n1, by show (w.alloc _).heap.size = _; simp⟩)
          clear hw1
          have hb := HW.out.1
          rw [← HCS.out] at hb
          have j3 := hb.cell 3
          have j4 := hb.cell 4
          have j6 := hb.cell 6
          simp at j3 j4 j6
          clear hb
          go_wp2_with fail
          go_meet
          case rel => exact ⟨by rw [HR.out]; first | rfl | (congr 1; simp; omega), HW.out⟩
        | true =>
          rw [Bool.true_and, Bool.true_and, Bool.true_and] at hR
          clear HW
          by_cases h1 : a < -1
          · have HR := Lib.hid (show R = false from by rw [hR, decide_eq_false (show ¬ -1 ≤ a by omega)]; simp)
            clear hR
            go_wp2_with fail
            refine (HTK.out _).mono ?_
            rintro e w1 ⟨rfl, rfl⟩
            go_wp2_with fail
            refine (HOC.out _).mono ?_
            rintro e w1 ⟨rfl, rfl⟩
            go_wp2_with fail
            refine (HPA.out _).mono ?_
            rintro e w1 ⟨rfl, n1, hw1⟩
            have HW := Lib.hid (show Blk w1 w.heap.size 25 CS ∧ Below w.heap.size w w1 ∧ w1.heap.size = w.heap.size + 1 from by
              rw [hw1, ← HCS.out]; exact ⟨(Blk.new w _ _).drewN n1, below_drewN (below_new w _) n1, by show (w.alloc _).heap.size = _; simp⟩)
            clear hw1
            have hb := HW.out.1
            rw [← HCS.out] at hb
            have j3 := hb.cell 3
            have j4 := hb.cell 4
            have j6 := hb.cell 6
            simp at j3 j4 j6
            clear hb
            go_wp2_with fail
            go_meet
            case rel => exact ⟨by rw [HR.out]; first | rfl | (congr 1; simp; omega), HW.out⟩
          rw [decide_eq_true (show -1 ≤ a by omega), Bool.true_and] at hR
          by_cases h2 : 1099511627776 < a
          · have HR := Lib.hid (show R = false from by rw [hR, decide_eq_false (show ¬ a ≤ 1099511627776 by omega)]; simp)
            clear hR
            go_wp2_with fail
            refine (HTK.out _).mono ?_
            rintro e w1 ⟨rfl, rfl⟩
            go_wp2_with fail
            refine (HOC.out _).mono ?_
            rintro e w1 ⟨rfl, rfl⟩
            go_wp2_with fail
            refine (HPA.out _).mono ?_
            rintro e w1 ⟨rfl, n1, hw1⟩
            have HW := Lib.hid (show Blk w1 w.heap.size 25 CS ∧ Below w.heap.size w w1 ∧ w1.heap.size = w.heap.size + 1 from by
              rw [hw1, ← HCS.out]; exact ⟨(Blk.new w _ _).drewN n1, below_drewN (below_new w _) n1, by show (w.alloc _).heap.size = _; simp⟩)
            clear hw1
            have hb := HW.out.1
            rw [← HCS.out] at hb
            have j3 := hb.cell 3
            have j4 := hb.cell 4
            have j6 := hb.cell 6
            simp at j3 j4 j6
            clear hb
            go_wp2_with fail
            go_meet
            case rel => exact ⟨by rw [HR.out]; first | rfl | (congr 1; simp; omega), HW.out⟩
          rw [decide_eq_true (show a ≤ 1099511627776 by omega), Bool.true_and] at hR
          by_cases h3 : st < 0
          · have HR := Lib.hid (show R = false from by rw [hR, decide_eq_false (show ¬ 0 ≤ st by omega)]; simp)
            clear hR
            go_wp2_with fail
            refine (HTK.out _).mono ?_
            rintro e w1 ⟨rfl, rfl⟩
            go_wp2_with fail
            refine (HOC.out _).mono ?_
            rintro e w1 ⟨rfl, rfl⟩
            go_wp2_with fail
            refine (HPA.out _).mono ?_
            rintro e w1 ⟨rfl, n1, hw1⟩
            have HW := Lib.hid (show Blk w1 w.heap.size 25 CS ∧ Below w.heap.size w w1 ∧ w1.heap.size = w.heap.size + 1 from by
              rw [hw1, ← HCS.out]; exact ⟨(Blk.new w _ _).drewN n1, below_drewN (below_new w _) n1, by show (w.alloc _).heap.size = _; simp⟩)
            clear hw1
            have hb := HW.out.1
            rw [← HCS.out] at hb
            have j3 := hb.cell 3
            have j4 := hb.cell 4
            have j6 := hb.cell 6
            simp at j3 j4 j6
            clear hb
            go_wp2_with fail
            go_meet
            case rel => exact ⟨by rw [HR.out]; first | rfl | (congr 1; simp; omega), HW.out⟩
          rw [decide_eq_true (show 0 ≤ st by omega), Bool.true_and] at hR
          by_cases h4 : 3 < st
          · have HR := Lib.hid (show R = false from by rw [hR, decide_eq_false (show ¬ st ≤ 3 by omega)]; simp)
            clear hR
            go_wp2_with fail
            refine (HTK.out _).mono ?_
            rintro e w1 ⟨rfl, rfl⟩
            go_wp2_with fail
            refine (HOC.out _).mono ?_
            rintro e w1 ⟨rfl, rfl⟩
            go_wp2_with fail
            refine (HPA.out _).mono ?_
            rintro e w1 ⟨rfl, n1, hw1⟩
            have HW := Lib.hid (show Blk w1 w.heap.size 25 CS ∧ Below w.heap.size w w1 ∧ w1.heap.size = w.heap.size + 1 from by
              rw [hw1, ← HCS.out]; exact ⟨(Blk.new w _ _).drewN n1, below_drewN (below_new w _) n1, by show (w.alloc _).heap.size = _; simp⟩)
            clear hw1
            have hb := HW.out.1
            rw [← HCS.out] at hb
            have j3 := hb.cell 3
            have j4 := hb.cell 4
            have j6 := hb.cell 6
            simp at j3 j4 j6
            clear hb
            go_wp2_with fail
            go_meet
            case rel => exact ⟨by rw [HR.out]; first | rfl | (congr 1; simp; omega), HW.out⟩
          rw [decide_eq_true (show st ≤ 3 by omega), Bool.true_and] at hR
          by_cases h5 : st = 3
          · subst h5
            cases sec with
            | false =>
              have HR := Lib.hid (show R = false from by rw [hR]; simp)
              clear hR
              go_wp2_with fail
              refine (HTK.out _).mono ?_
              rintro e w1 ⟨rfl, rfl⟩
              go_wp2_with fail
              refine (HOC.out _).mono ?_
              rintro e w1 ⟨rfl, rfl⟩
              go_wp2_with fail
              refine (HPA.out _).mono ?_
              rintro e w1 ⟨rfl, n1, hw1⟩
              have HW := Lib.hid (show Blk w1 w.heap.size 25 CS ∧ Below w.heap.size w w1 ∧ w1.heap.size = w.heap.size + 1 from by
                rw [hw1, ← HCS.out]; exact ⟨(Blk.new w _ _).drewN n1, below_drewN (below_new w _) n1, by show (w.alloc _).heap.size = _; simp⟩)
              clear hw1
              have hb := HW.out.1
              rw [← HCS.out] at hb
              have j3 := hb.cell 3
              have j4 := hb.cell 4
              have j6 := hb.cell 6
              simp at j3 j4 j6
              clear hb
              go_wp2_with fail
              go_meet
              case rel => exact ⟨by rw [HR.out]; first | rfl | (congr 1; simp; omega), HW.out⟩
            | true =>
              have HR := Lib.hid (show R = true from by rw [hR]; simp)
              clear hR
              go_wp2_with fail
              refine (HTK.out _).mono ?_
              rintro e w1 ⟨rfl, rfl⟩
              go_wp2_with fail
              refine (HOC.out _).mono ?_
              rintro e w1 ⟨rfl, rfl⟩
              go_wp2_with fail
              refine (HPA.out _).mono ?_
              rintro e w1 ⟨rfl, n1, hw1⟩
              have HW := Lib.hid (show Blk w1 w.heap.size 25 CS ∧ Below w.heap.size w w1 ∧ w1.heap.size = w.heap.size + 1 from by
                rw [hw1, ← HCS.out]; exact ⟨(Blk.new w _ _).drewN n1, below_drewN (below_new w _) n1, by show (w.alloc _).heap.size = _; simp⟩)
              clear hw1
              have hb := HW.out.1
              rw [← HCS.out] at hb
              have j3 := hb.cell 3
              have j4 := hb.cell 4
              have j6 := hb.cell 6
              simp at j3 j4 j6
              clear hb
              go_wp2_with fail
              go_meet
              case rel => exact ⟨by rw [HR.out]; first | rfl | (congr 1; simp; omega), HW.out⟩
          · have e5 : (st == 3) = false := beq_eq_false_iff_ne.2 h5
            have HR := Lib.hid (show R = true from by rw [hR]; simp [h5])
            clear hR h5
            go_wp2_with fail
            refine (HTK.out _).mono ?_
            rintro e w1 ⟨rfl, rfl⟩
            go_wp2_with fail
            refine (HOC.out _).mono ?_
            rintro e w1 ⟨rfl, rfl⟩
            go_wp2_with fail
            refine (HPA.out _).mono ?_
            rintro e w1 ⟨rfl, n1, hw1⟩
            have HW := Lib.hid (show Blk w1 w.heap.size 25 CS ∧ Below w.heap.size w w1 ∧ w1.heap.size = w.heap.size + 1 from by
              rw [hw1, ← HCS.out]; exact ⟨(Blk.new w _ _).drewN n1, below_drewN (below_new w _) n1, by show (w.alloc _).heap.size = _; simp⟩)
            clear hw1
            have hb := HW.out.1
            rw [← HCS.out] at hb
            have j3 := hb.cell 3
            have j4 := hb.cell 4
            have j6 := hb.cell 6
            simp at j3 j4 j6
            clear hb
            go_wp2_with fail
            go_meet
            case rel => exact ⟨by rw [HR.out]; first | rfl | (congr 1; simp; omega), HW.out⟩
  case rest =>
    obtain ⟨rfl, hb, hbw, hsw⟩ := hcut
    cases R with
    | false =>
      have HBW := Lib.hid hbw
      clear hb hbw
      go_wp2_with fail
      refine (bad_any 1 _).mono ?_
      rintro e w2 ⟨x, rfl, hE, hnn, hb2, _⟩
      have HE := Lib.hid hE
      have HB2 := Lib.hid (HBW.out.trans (hb2.mono (by omega)))
      clear hE hb2
      go_wp2_with fail
      go_ret2
      exact .inr ⟨HRR.out, x, rfl, HE.out, hnn, HB2.out⟩
    | true =>
      have hbnd : a ≤ 1099511627776 ∧ 0 ≤ st ∧ st ≤ 3 := by have := HRD.out; simp at this; omega
      have HAL := Lib.hid (age_len hbnd.1)
      obtain ⟨hba, hs0, hs3⟩ := hbnd
      clear HRD HTK HOC HPA
      obtain ⟨i0, hi, hz⟩ := Option.map_eq_some_iff.1 str_info
      simp only [Prod.mk.injEq] at hz
      obtain ⟨hz0, hz1, hz2⟩ := hz
      rw [← HCS.out] at hb
      have j0 := hb.cell 0
      have j1 := hb.cell 1
      have j2 := hb.cell 2
      have j3 := hb.cell 3
      have j4 := hb.cell 4
      have j5 := hb.cell 5
      have j6 := hb.cell 6
      simp at j0 j1 j2 j3 j4 j5 j6
      rw [HCS.out] at hb
      have HB := Lib.hid hb
      have HBW := Lib.hid hbw
      clear hb hbw
      go_upto_region 3 with fail
      go_cut [4] (fun s4 wx => WrH w CS [h0 n v] s4 wx)
      case first =>
        go_wp2_with fail
        go_meet
        case rel => exact first_own HB.out HBW.out hsw
      case rest =>
        clear j0 j1 j2 j3 j4 j5 j6
        have hb := hcut.2.1
        have HO := Lib.hid hcut
        clear hcut
        rw [← HCS.out] at hb
        have j0 := hb.cell 0
        have j1 := hb.cell 1
        have j2 := hb.cell 2
        have j3 := hb.cell 3
        have j4 := hb.cell 4
        have j5 := hb.cell 5
        have j6 := hb.cell 6
        simp at j0 j1 j2 j3 j4 j5 j6
        rw [HCS.out] at hb
        clear hb
        obtain ⟨l1, hl1⟩ : ∃ l1, [h0 n v] = l1 := ⟨_, rfl⟩
        have hll : l1.length ≤ 1 := by rw [← hl1]; simp
        have hll1 := hll
        have HL1 := Lib.hid hl1
        rw [hl1] at HO
        clear hl1
        go_upto_if 61 with fail
        go_cut [4] (fun s4 wx => WrH w CS (l1 ++ pP p) s4 wx)
        case first =>
          have hse := str_ne p
          generalize (!p.toList.isEmpty) = bb at *
          cases bb with
          | false =>
            have HX := Lib.hid (show pP p = [] from if_pos (by have := hse.symm; simp at this; simpa using this))
            clear hse
            go_wp2_with fail
            go_meet
            case rel => rw [HX.out, List.append_nil]; exact HO.out
          | true =>
            have HX := Lib.hid (show pP p = [pathH ++ p.data.toList] from if_neg (by have := hse.symm; simp at this; omega))
            clear hse
            go_wp2_with (at_builtin; refine wpList_append_newAt rfl (.tmp 62) (.tmp 66) _ rfl (w.heap.size + 1) 9 i0 _ 1 16 Tryd.underlying43 hi hz0 hz1 hz2 rfl (by decide) _ _ _ rfl HO.out.1 1 1 wc.heap.size (by simp) [_] rfl rfl (by simp [Value.oneCell']) (by unfold maxLen; omega) (by omega) HO.out.2.2.2 ?_; intro v1 w5 hown1 hbw1 hgr1 hwh1; have HO1 := Lib.hid (HO.out.push hown1 hbw1 (lit_str pathH p)); clear hown1 hbw1 hgr1 hwh1)
            go_meet
            case rel => rw [HX.out]; exact HO1.out
        case rest =>
          clear j0 j1 j2 j3 j4 j5 j6
          clear HO hll
          have hb := hcut.2.1
          have HO := Lib.hid hcut
          clear hcut
          rw [← HCS.out] at hb
          have j0 := hb.cell 0
          have j1 := hb.cell 1
          have j2 := hb.cell 2
          have j3 := hb.cell 3
          have j4 := hb.cell 4
          have j5 := hb.cell 5
          have j6 := hb.cell 6
          simp at j0 j1 j2 j3 j4 j5 j6
          rw [HCS.out] at hb
          clear hb
          obtain ⟨l2, hl2⟩ : ∃ l2, l1 ++ pP p = l2 := ⟨_, rfl⟩
          have hll : l2.length ≤ 2 := by rw [← hl2]; have := lenP p; simp; omega
          clear hll1
          have hll2 := hll
          have HL2 := Lib.hid hl2
          rw [hl2] at HO
          clear hl2
          go_upto_if 70 with fail
          go_cut [4] (fun s4 wx => WrH w CS (l2 ++ pA a) s4 wx)
          case first =>
            by_cases g : 0 ≤ a
            · have d1 : decide ((0 : Int) ≤ a) = true := decide_eq_true g
              have HX := Lib.hid (show pA a = [ageH ++ decDigits a.toNat] from if_pos g)
              obtain ⟨m, rfl⟩ : ∃ m : Nat, a = m := ⟨a.toNat, by omega⟩
              clear g
              go_wp2_with fail
              refine (Tryd.strconv_Itoa (m : Int) (by omega) (by omega) _ (HTA.out.below HO.out.2.2.1).t).mono ?_
              rintro e w6 ⟨rfl, k6, os6, hw6⟩
              have HO6 := Lib.hid (HO.out.below (show Below wc.heap.size wc w6 from by rw [hw6]; exact below_grow wc k6 os6))
              clear hw6 HO
              have HO := HO6
              rw [itoa_nat]
              obtain ⟨D, hD⟩ : ∃ D, (⟨(decDigits m).toArray⟩ : ByteArray) = D := ⟨_, rfl⟩
              have hds : D.size ≤ 19 := by rw [← hD]; exact HAL.out
              have HDD := Lib.hid (show ⟨#[77, 97, 120, 45, 65, 103, 101, 61]⟩ ++ D = mkB (ageH ++ decDigits m) from by rw [← hD]; exact lit_lit ageH (decDigits m))
              rw [hD]
              clear hD
              go_wp2_with (at_builtin; refine wpList_append_newAt rfl (.tmp 71) (.tmp 76) _ rfl (w.heap.size + 1) 9 i0 _ 1 16 Tryd.underlying43 hi hz0 hz1 hz2 rfl (by decide) _ _ _ rfl HO.out.1 1 1 w6.heap.size (by simp) [_] rfl rfl (by simp [Value.oneCell']) (by unfold maxLen; omega) (by omega) HO.out.2.2.2 ?_; intro v1 w5 hown1 hbw1 hgr1 hwh1; have HO1 := Lib.hid (HO.out.push hown1 hbw1 HDD.out); clear hown1 hbw1 hgr1 hwh1)
              go_meet
              case rel => rw [HX.out]; exact HO1.out
            · have hneg : a < 0 := by omega
              have HX := Lib.hid (show pA a = [] from if_neg g)
              clear g
              go_wp2_with fail
              go_meet
              case rel => rw [HX.out, List.append_nil]; exact HO.out
          case rest =>
            clear j0 j1 j2 j3 j4 j5 j6
            clear HO hll
            have hb := hcut.2.1
            have HO := Lib.hid hcut
            clear hcut
            rw [← HCS.out] at hb
            have j0 := hb.cell 0
            have j1 := hb.cell 1
            have j2 := hb.cell 2
            have j3 := hb.cell 3
            have j4 := hb.cell 4
            have j5 := hb.cell 5
            have j6 := hb.cell 6
            simp at j0 j1 j2 j3 j4 j5 j6
            rw [HCS.out] at hb
            clear hb
            obtain ⟨l3, hl3⟩ : ∃ l3, l2 ++ pA a = l3 := ⟨_, rfl⟩
            have hll : l3.length ≤ 3 := by rw [← hl3]; have := lenA a; simp; omega
            clear hll2
            have hll3 := hll
            have HL3 := Lib.hid hl3
            rw [hl3] at HO
            clear hl3
            go_upto_if 79 with fail
            go_cut [4] (fun s4 wx => WrH w CS (l3 ++ pS sec) s4 wx)
            case first =>
              cases sec
              · have HX := Lib.hid (show pS false = [] from rfl)
                go_wp2_with fail
                go_meet
                case rel => rw [HX.out, List.append_nil]; exact HO.out
              · have HX := Lib.hid (show pS true = [secH] from rfl)
                go_wp2_with (at_builtin; refine wpList_append_newAt rfl (.tmp 80) (.tmp 81) _ rfl (w.heap.size + 1) 9 i0 _ 1 16 Tryd.underlying43 hi hz0 hz1 hz2 rfl (by decide) _ _ _ rfl HO.out.1 1 1 wc.heap.size (by simp) [_] rfl rfl (by simp [Value.oneCell']) (by unfold maxLen; omega) (by omega) HO.out.2.2.2 ?_; intro v1 w5 hown1 hbw1 hgr1 hwh1; have HO1 := Lib.hid (HO.out.push hown1 hbw1 (show _ = mkB secH from rfl)); clear hown1 hbw1 hgr1 hwh1)
                go_meet
                case rel => rw [HX.out]; exact HO1.out
            case rest =>
              clear j0 j1 j2 j3 j4 j5 j6
              clear HO hll
              have hb := hcut.2.1
              have HO := Lib.hid hcut
              clear hcut
              rw [← HCS.out] at hb
              have j0 := hb.cell 0
              have j1 := hb.cell 1
              have j2 := hb.cell 2
              have j3 := hb.cell 3
              have j4 := hb.cell 4
              have j5 := hb.cell 5
              have j6 := hb.cell 6
              simp at j0 j1 j2 j3 j4 j5 j6
              rw [HCS.out] at hb
              clear hb
              obtain ⟨l4, hl4⟩ : ∃ l4, l3 ++ pS sec = l4 := ⟨_, rfl⟩
              have hll : l4.length ≤ 4 := by rw [← hl4]; have := lenS sec; simp; omega
              clear hll3
              have hll4 := hll
              have HL4 := Lib.hid hl4
              rw [hl4] at HO
              clear hl4
              go_upto_if 84 with fail
              go_cut [4] (fun s4 wx => WrH w CS (l4 ++ pH http) s4 wx)
              case first =>
                cases http
                · have HX := Lib.hid (show pH false = [] from rfl)
                  go_wp2_with fail
                  go_meet
                  case rel => rw [HX.out, List.append_nil]; exact HO.out
                · have HX := Lib.hid (show pH true = [httpH] from rfl)
                  go_wp2_with (at_builtin; refine wpList_append_newAt rfl (.tmp 85) (.tmp 86) _ rfl (w.heap.size + 1) 9 i0 _ 1 16 Tryd.underlying43 hi hz0 hz1 hz2 rfl (by decide) _ _ _ rfl HO.out.1 1 1 wc.heap.size (by simp) [_] rfl rfl (by simp [Value.oneCell']) (by unfold maxLen; omega) (by omega) HO.out.2.2.2 ?_; intro v1 w5 hown1 hbw1 hgr1 hwh1; have HO1 := Lib.hid (HO.out.push hown1 hbw1 (show _ = mkB httpH from rfl)); clear hown1 hbw1 hgr1 hwh1)
                  go_meet
                  case rel => rw [HX.out]; exact HO1.out
              case rest =>
                clear j0 j1 j2 j3 j4 j5 j6
                clear HO hll
                have hb := hcut.2.1
                have HO := Lib.hid hcut
                clear hcut
                rw [← HCS.out] at hb
                have j0 := hb.cell 0
                have j1 := hb.cell 1
                have j2 := hb.cell 2
                have j3 := hb.cell 3
                have j4 := hb.cell 4
                have j5 := hb.cell 5
                have j6 := hb.cell 6
                simp at j0 j1 j2 j3 j4 j5 j6
                rw [HCS.out] at hb
                clear hb
                obtain ⟨l5, hl5⟩ : ∃ l5, l4 ++ pH http = l5 := ⟨_, rfl⟩
                have hll : l5.length ≤ 5 := by rw [← hl5]; have := lenH http; simp; omega
                clear hll4
                have hll5 := hll
                have HL5 := Lib.hid hl5
                rw [hl5] at HO
                clear hl5
                go_upto_if 90 with fail
                go_cut [4] (fun s4 wx => WrH w CS (l5 ++ pT st) s4 wx)
                case first =>
                  by_cases g : 0 < st
                  · have d1 : decide ((0 : Int) < st) = true := decide_eq_true g
                    have HX := Lib.hid (show pT st = [siteH ++ siteL st.toNat] from if_pos g)
                    obtain ⟨m, rfl⟩ : ∃ m : Nat, st = m := ⟨st.toNat, by omega⟩
                    have hmp : 0 < m := by omega
                    clear g
                    go_wp2_with fail
                    refine (site_any m _ (by omega)).mono ?_
                    rintro e w6 ⟨rfl, hb6⟩
                    have HO6 := Lib.hid (HO.out.below hb6)
                    clear hb6 HO
                    have HO := HO6
                    have hds : (mkB (siteL m)).size ≤ 1000000 := by rw [mkB_size]; exact site_len m
                    go_wp2_with (at_builtin; refine wpList_append_newAt rfl (.tmp 91) (.tmp 96) _ rfl (w.heap.size + 1) 9 i0 _ 1 16 Tryd.underlying43 hi hz0 hz1 hz2 rfl (by decide) _ _ _ rfl HO.out.1 1 1 w6.heap.size (by simp) [_] rfl rfl (by simp [Value.oneCell']) (by unfold maxLen; omega) (by omega) HO.out.2.2.2 ?_; intro v1 w5 hown1 hbw1 hgr1 hwh1; have HO1 := Lib.hid (HO.out.push hown1 hbw1 (lit_lit siteH (siteL m))); clear hown1 hbw1 hgr1 hwh1)
                    go_meet
                    case rel => rw [HX.out]; exact HO1.out
                  · have hneg : st ≤ 0 := by omega
                    have HX := Lib.hid (show pT st = [] from if_neg g)
                    clear g
                    go_wp2_with fail
                    go_meet
                    case rel => rw [HX.out, List.append_nil]; exact HO.out
                case rest =>
                  clear j0 j1 j2 j3 j4 j5 j6 HO hll
                  have HO := Lib.hid (show WrH w CS (h0 n v :: (pP p ++ (pA a ++ (pS sec ++ (pH http ++ pT st))))) _ wc from by
                    have h := hcut
                    rw [← HL5.out, ← HL4.out, ← HL3.out, ← HL2.out, ← HL1.out] at h
                    simpa only [List.append_assoc, List.singleton_append, List.cons_append, List.nil_append] using h)
                  clear hcut
                  go_wp2_with fail
                  refine (join_own HO.out (by have h1 := lenP p; have h2 := lenA a; have h3 := lenS sec; have h4 := lenH http; have h5 := lenT st; simp; omega) (head_small hn hv hp hba)).mono ?_
                  rintro e w9 ⟨rfl, hb9⟩
                  rw [head_join]
                  have HB9 := Lib.hid (HO.out.2.2.1.trans (hb9.mono HO.out.2.2.1.size))
                  clear hb9
                  go_wp2_with fail
                  go_ret2
                  exact .inl ⟨HRR.out, rfl, HB9.out⟩
end Go.Proofs.YticlnjfndjnfhaaDoor.bake
