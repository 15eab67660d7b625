/- Which cookies are right: plain; the document's Right. -/
import Derived.Test.YticlnjfndjnfhaaDoorRefParseW
import Derived.Deep.DeepCutAuto
import Derived.Deep.Cut
import Derived.Deep.CutBlock
namespace Go.Proofs.YticlnjfndjnfhaaDoor.bake
open Go Go.RowKit Go.Proofs.YticlnjfndjnfhaaDoor.base Go.Proofs.YticlnjfndjnfhaaDoor.dec Go.Proofs.YticlnjfndjnfhaaDoor.err Go.Proofs.YticlnjfndjnfhaaDoor.rowe

/-- a byte of a path at its place -/
def goodC (len i : Nat) (c : UInt8) : Bool := !(decide (i = 0) && !decide (c = 47)) && (pathC c && !(decide (c = 32) && (decide (i = 1) || decide (i + 1 = len))))
theorem drop_none' {l : List UInt8} : trimB l = l ↔ l = [] ∨ (∃ h : 0 < l.length, bl l[0] = false ∧ bl l[l.length - 1] = false) := by
  unfold trimB trimR
  constructor
  · intro h
    cases l with
    | nil => exact .inl rfl
    | cons a r =>
      refine .inr ⟨by simp, ?_⟩
      have h0 : bl a = false := by
        cases hb : bl a with
        | false => rfl
        | true =>
          rw [List.dropWhile_cons_of_pos hb] at h
          have h1 := (List.dropWhile_suffix bl (l := (r.dropWhile bl).reverse)).sublist.length_le
          have h2 := (List.dropWhile_suffix bl (l := r)).sublist.length_le
          have h3 := congrArg List.length h
          rw [List.length_reverse] at h1
          simp at h3
          omega
      refine ⟨h0, ?_⟩
      rw [List.dropWhile_cons_of_neg (by rw [h0]; simp)] at h
      have h' := congrArg List.reverse h
      rw [List.reverse_reverse] at h'
      obtain ⟨x, t, hx⟩ : ∃ x t, (a :: r).reverse = x :: t := by
        cases hh : (a :: r).reverse with
        | nil => simp at hh
        | cons x t => exact ⟨x, t, rfl⟩
      have hbx : bl x = false := by
        cases hb : bl x with
        | false => rfl
        | true =>
          rw [hx, List.dropWhile_cons_of_pos hb] at h'
          have h1 := (List.dropWhile_suffix bl (l := t)).sublist.length_le
          have h3 := congrArg List.length h'
          simp at h3
          omega
      have hl : (a :: r)[(a :: r).length - 1] = x := by
        have h4 : (a :: r) = t.reverse ++ [x] := by rw [← List.reverse_reverse (a :: r), hx, List.reverse_cons]
        simp [h4]
      rw [hl]
      exact hbx
  · rintro (rfl | ⟨h, h0, h1⟩)
    · rfl
    · cases l with
      | nil => rfl
      | cons a r =>
        rw [List.dropWhile_cons_of_neg (by simp at h0; rw [h0]; simp)]
        obtain ⟨t, x, hx⟩ : ∃ t x, (a :: r) = t ++ [x] := by
          rcases List.eq_nil_or_concat (a :: r) with h | ⟨t, x, h⟩
          · simp at h
          · exact ⟨t, x, by rw [h, List.concat_eq_append]⟩
        have hbx : bl x = false := by
          have h5 : (a :: r)[(a :: r).length - 1] = x := by simp [hx]
          rw [h5] at h1; exact h1
        rw [hx, List.reverse_append, List.reverse_singleton, List.singleton_append, List.dropWhile_cons_of_neg (by rw [hbx]; simp)]
        simp
theorem blN_path {c : UInt8} (h : pathC c = true) : bl c = decide (c = 32) := by
  unfold pathC at h
  unfold bl blN
  simp at h
  rw [Bool.eq_iff_iff]
  simp
  constructor
  · rintro (h2 | h2)
    · exact UInt8.toNat_inj.mp h2
    · omega
  · rintro rfl; exact .inl rfl
theorem path_good (l : List UInt8) : pathL l = true ↔ ∀ i (h : i < l.length), goodC l.length i l[i] = true := by
  cases l with
  | nil => simp [pathL]
  | cons c r =>
    unfold pathL
    rw [Bool.and_eq_true, Bool.and_eq_true, decide_eq_true_eq, decide_eq_true_eq, List.all_eq_true, drop_none']
    constructor
    · rintro ⟨⟨h1, h2⟩, h3⟩ i hi
      have hp := h3 _ (List.getElem_mem hi)
      unfold goodC
      rw [hp]
      by_cases h0 : i = 0
      · subst h0
        simp [h1]
      · rcases h2 with rfl | ⟨hr, h4, h5⟩
        · simp at hi; omega
        · have hbl := blN_path hp
          by_cases h6 : i = 1
          · subst h6
            simp at hbl ⊢
            rw [h4] at hbl
            simpa using hbl
          · by_cases h7 : i + 1 = (c :: r).length
            · have h8 : (c :: r)[i] = r[r.length - 1] := by
                obtain ⟨j, rfl⟩ : ∃ j, i = j + 1 := ⟨i - 1, by omega⟩
                simp at h7 ⊢
                congr 1
                omega
              rw [h8] at hbl ⊢
              rw [h5] at hbl
              simp at hbl ⊢
              simp [h0, h6, hbl]
            · simp at h7
              simp [h0, h6, h7]
    · intro h
      have hall : ∀ x ∈ c :: r, pathC x = true := by
        intro x hx
        obtain ⟨i, hi, rfl⟩ := List.getElem_of_mem hx
        have := h i hi
        unfold goodC at this
        simp at this
        exact this.2.1
      refine ⟨⟨?_, ?_⟩, hall⟩
      · have := h 0 (by simp)
        unfold goodC at this
        simp at this
        exact this.1
      · cases r with
        | nil => exact .inl rfl
        | cons d r =>
          refine .inr ⟨by simp, ?_, ?_⟩
          · have h1 := h 1 (by simp)
            rw [blN_path (hall _ (by simp))]
            unfold goodC at h1
            simp at h1
            simpa using h1.2
          · have h1 := h ((d :: r).length) (by simp)
            rw [blN_path (hall _ (by simp))]
            unfold goodC at h1
            simp at h1
            simpa using h1.2
def rightB (n v p : ByteArray) (a : Int) (sec : Bool) (st : Int) : Bool :=
  tokB n && (octsB v && (pathL p.data.toList && (decide (-1 ≤ a) && (decide (a ≤ 1099511627776) && (decide (0 ≤ st) && (decide (st ≤ 3) && !(decide (st = 3) && !sec)))))))
theorem good_nat {s : ByteArray} {k : Nat} (h : k < s.size) : goodC s.size k s[k] = (!(decide (k = 0) && !decide (s[k].toNat = 47)) && ((decide (32 ≤ s[k].toNat) && decide (s[k].toNat ≤ 126) && !decide (s[k].toNat = 59)) && !(decide (s[k].toNat = 32) && (decide (k = 1) || decide (k + 1 = s.size))))) := by
  unfold goodC pathC
  rw [show decide (s[k] = 47) = decide (s[k].toNat = 47) from decide_eq_decide.2 ⟨fun e => by rw [e]; rfl, fun e => UInt8.toNat_inj.mp e⟩,
    show decide (s[k] = 32) = decide (s[k].toNat = 32) from decide_eq_decide.2 ⟨fun e => by rw [e]; rfl, fun e => UInt8.toNat_inj.mp e⟩]
set_option maxRecDepth 10000 in
set_option maxHeartbeats 3200000 in
theorem right_ref (n v p : ByteArray) (a : Int) (sec http : Bool) (st : Int) (w : World) (hn : n.size ≤ 1000000) (hv : v.size ≤ 1000000) (hp : p.size ≤ 1000000) :
    Calls Tryd.prog 9 #[.agg #[.string n, .string v, .string p, .int .i64 a, .bool sec, .bool http, .int .i64 st]] w fun e w' => e = .returned (.bool (rightB n v p a sec st)) ∧ Below w.heap.size w w' := by
  have HTK := Lib.hid (show ∀ w0 : World, Calls Tryd.prog 25 #[.string n] w0 fun e w' => e = .returned (.bool (tokB n)) ∧ w' = w0 from fun w0 => token_ref n w0 hn)
  have HOC := Lib.hid (show ∀ w0 : World, Calls Tryd.prog 26 #[.string v] w0 fun e w' => e = .returned (.bool (octsB v)) ∧ w' = w0 from fun w0 => octets_ref v w0 hv)
  have hR : rightB n v p a sec st = (tokB n && (octsB v && (pathL p.data.toList && (decide (-1 ≤ a) && (decide (a ≤ 1099511627776) && (decide (0 ≤ st) && (decide (st ≤ 3) && !(decide (st = 3) && !sec)))))))) := rfl
  generalize rightB n v p a sec st = R at *
  generalize tokB n = bt at *
  generalize octsB v = bo at *
  go_enter Tryd.func9, Tryd.ntmps9
  cases bt with
  | false =>
    have HR := Lib.hid (show R = false from hR)
    clear hR
    go_wp2_with fail
    refine (HTK.out _).mono ?_
    rintro e w1 ⟨rfl, rfl⟩
    go_wp2_with fail
    go_ret
    exact ⟨ret_bool HR.out.symm, below_new w _⟩
  | true =>
    cases bo with
    | false =>
      have HR := Lib.hid (show R = false from hR)
      clear hR
      go_wp2_with fail
      refine (HTK.out _).mono ?_
      rintro e w1 ⟨rfl, rfl⟩
      go_wp2_with fail
      refine (HOC.out _).mono ?_
      rintro e w1 ⟨rfl, rfl⟩
      go_wp2_with fail
      go_ret
      exact ⟨ret_bool HR.out.symm, below_new w _⟩
    | true =>
      rw [Bool.true_and, Bool.true_and] at hR
      by_cases h1 : a < -1
      · have HR := Lib.hid (show R = false from by rw [hR, decide_eq_false (show ¬ -1 ≤ a by omega)]; simp)
        clear hR
        go_wp2_with fail
        refine (HTK.out _).mono ?_
        rintro e w1 ⟨rfl, rfl⟩
        go_wp2_with fail
        refine (HOC.out _).mono ?_
        rintro e w1 ⟨rfl, rfl⟩
        go_wp2_with fail
        go_ret
        exact ⟨ret_bool HR.out.symm, below_new w _⟩
      rw [decide_eq_true (show -1 ≤ a by omega), Bool.true_and] at hR
      by_cases h2 : 1099511627776 < a
      · have HR := Lib.hid (show R = false from by rw [hR, decide_eq_false (show ¬ a ≤ 1099511627776 by omega)]; simp)
        clear hR
        go_wp2_with fail
        refine (HTK.out _).mono ?_
        rintro e w1 ⟨rfl, rfl⟩
        go_wp2_with fail
        refine (HOC.out _).mono ?_
        rintro e w1 ⟨rfl, rfl⟩
        go_wp2_with fail
        go_ret
        exact ⟨ret_bool HR.out.symm, below_new w _⟩
      rw [decide_eq_true (show a ≤ 1099511627776 by omega), Bool.true_and] at hR
      by_cases h3 : st < 0
      · have HR := Lib.hid (show R = false from by rw [hR, decide_eq_false (show ¬ 0 ≤ st by omega)]; simp)
        clear hR
        go_wp2_with fail
        refine (HTK.out _).mono ?_
        rintro e w1 ⟨rfl, rfl⟩
        go_wp2_with fail
        refine (HOC.out _).mono ?_
        rintro e w1 ⟨rfl, rfl⟩
        go_wp2_with fail
        go_ret
        exact ⟨ret_bool HR.out.symm, below_new w _⟩
      rw [decide_eq_true (show 0 ≤ st by omega), Bool.true_and] at hR
      by_cases h4 : 3 < st
      · have HR := Lib.hid (show R = false from by rw [hR, decide_eq_false (show ¬ st ≤ 3 by omega)]; simp)
        clear hR
        go_wp2_with fail
        refine (HTK.out _).mono ?_
        rintro e w1 ⟨rfl, rfl⟩
        go_wp2_with fail
        refine (HOC.out _).mono ?_
        rintro e w1 ⟨rfl, rfl⟩
        go_wp2_with fail
        go_ret
        exact ⟨ret_bool HR.out.symm, below_new w _⟩
      rw [decide_eq_true (show st ≤ 3 by omega), Bool.true_and] at hR
      by_cases h5 : st = 3
      · subst h5
        cases sec with
        | false =>
          have HR := Lib.hid (show R = false from by rw [hR]; simp)
          clear hR
          go_wp2_with fail
          refine (HTK.out _).mono ?_
          rintro e w1 ⟨rfl, rfl⟩
          go_wp2_with fail
          refine (HOC.out _).mono ?_
          rintro e w1 ⟨rfl, rfl⟩
          go_wp2_with fail
          go_ret
          exact ⟨ret_bool HR.out.symm, below_new w _⟩
        | true =>
          have HR := Lib.hid (show R = pathL p.data.toList from by rw [hR]; simp)
          clear hR
          go_wp2_with fail
          refine (HTK.out _).mono ?_
          rintro e w1 ⟨rfl, rfl⟩
          go_wp2_with fail
          refine (HOC.out _).mono ?_
          rintro e w1 ⟨rfl, rfl⟩
          go_wp2_with fail
          go_loop [3] (fun x => ∃ k : Nat, k ≤ p.size ∧ x = .int .i64 k ∧ ∀ i (h : i < p.data.toList.length), i < k → goodC p.data.toList.length i p.data.toList[i] = true) (fun x => p.size - (intOf x).toNat)
          case atStart => exact ⟨0, by omega, rfl, fun i _ h => by omega⟩
          case round =>
            obtain ⟨k, hk, rfl, ha⟩ := hrel
            have HA := Lib.hid ha
            clear ha
            by_cases h0 : k < p.size
            · have h256 : p[k].toNat < 256 := p[k].toNat_lt
              have HG := Lib.hid (good_nat h0)
              go_upto_region 7 with fail
              go_cut [89] (fun s89 wx => s89 = .bool (!goodC p.size k p[k]) ∧ wx = w.alloc (.cells #[.string n, .string v, .string p, .int .i64 a, .bool true, .bool http, .int .i64 3] 35))
              case first =>
                by_cases g0 : k = 0
                · by_cases g47 : p[k].toNat = 47
                  · have e0 : ((k : Int) == 0) = true := beq_iff_eq.2 (by omega)
                    have e47 : ((p[k].toNat : Int) == 47) = true := beq_iff_eq.2 (by omega)
                    have d32 : decide ((p[k].toNat : Int) < 32) = false := decide_eq_false (by omega)
                    have d126 : decide ((126 : Int) < (p[k].toNat : Int)) = false := decide_eq_false (by omega)
                    have e59 : ((p[k].toNat : Int) == 59) = false := beq_eq_false_iff_ne.2 (by omega)
                    have e32 : ((p[k].toNat : Int) == 32) = false := beq_eq_false_iff_ne.2 (by omega)
                    have e47b : ((p[k].toNat : Int) != 47) = false := by rw [bne, e47]; rfl
                    have HB := Lib.hid (show (!goodC p.size k p[k]) = false from by rw [HG.out]; simp; omega)
                    clear g0 g47
                    go_wp2_with fail
                    go_meet
                    case rel => exact ⟨by rw [HB.out], rfl⟩
                  · have e0 : ((k : Int) == 0) = true := beq_iff_eq.2 (by omega)
                    have e47 : ((p[k].toNat : Int) == 47) = false := beq_eq_false_iff_ne.2 (by omega)
                    have e47b : ((p[k].toNat : Int) != 47) = true := by rw [bne, e47]; rfl
                    have HB := Lib.hid (show (!goodC p.size k p[k]) = true from by rw [HG.out]; simp; omega)
                    clear g0 g47
                    go_wp2_with fail
                    go_meet
                    case rel => exact ⟨by rw [HB.out], rfl⟩
                · by_cases gd32 : p[k].toNat < 32
                  · have e0 : ((k : Int) == 0) = false := beq_eq_false_iff_ne.2 (by omega)
                    have d32 : decide ((p[k].toNat : Int) < 32) = true := decide_eq_true (by omega)
                    have HB := Lib.hid (show (!goodC p.size k p[k]) = true from by rw [HG.out]; simp; omega)
                    clear g0 gd32
                    go_wp2_with fail
                    go_meet
                    case rel => exact ⟨by rw [HB.out], rfl⟩
                  · by_cases gd126 : 126 < p[k].toNat
                    · have e0 : ((k : Int) == 0) = false := beq_eq_false_iff_ne.2 (by omega)
                      have d32 : decide ((p[k].toNat : Int) < 32) = false := decide_eq_false (by omega)
                      have d126 : decide ((126 : Int) < (p[k].toNat : Int)) = true := decide_eq_true (by omega)
                      have HB := Lib.hid (show (!goodC p.size k p[k]) = true from by rw [HG.out]; simp; omega)
                      clear g0 gd32 gd126
                      go_wp2_with fail
                      go_meet
                      case rel => exact ⟨by rw [HB.out], rfl⟩
                    · by_cases ge59 : p[k].toNat = 59
                      · have e0 : ((k : Int) == 0) = false := beq_eq_false_iff_ne.2 (by omega)
                        have d32 : decide ((p[k].toNat : Int) < 32) = false := decide_eq_false (by omega)
                        have d126 : decide ((126 : Int) < (p[k].toNat : Int)) = false := decide_eq_false (by omega)
                        have e59 : ((p[k].toNat : Int) == 59) = true := beq_iff_eq.2 (by omega)
                        have HB := Lib.hid (show (!goodC p.size k p[k]) = true from by rw [HG.out]; simp; omega)
                        clear g0 gd32 gd126 ge59
                        go_wp2_with fail
                        go_meet
                        case rel => exact ⟨by rw [HB.out], rfl⟩
                      · by_cases ge32 : p[k].toNat = 32
                        · by_cases ge1 : k = 1
                          · have e0 : ((k : Int) == 0) = false := beq_eq_false_iff_ne.2 (by omega)
                            have d32 : decide ((p[k].toNat : Int) < 32) = false := decide_eq_false (by omega)
                            have d126 : decide ((126 : Int) < (p[k].toNat : Int)) = false := decide_eq_false (by omega)
                            have e59 : ((p[k].toNat : Int) == 59) = false := beq_eq_false_iff_ne.2 (by omega)
                            have e32 : ((p[k].toNat : Int) == 32) = true := beq_iff_eq.2 (by omega)
                            have e1 : ((k : Int) == 1) = true := beq_iff_eq.2 (by omega)
                            have HB := Lib.hid (show (!goodC p.size k p[k]) = true from by rw [HG.out]; simp; omega)
                            clear g0 gd32 gd126 ge59 ge32 ge1
                            go_wp2_with fail
                            go_meet
                            case rel => exact ⟨by rw [HB.out], rfl⟩
                          · by_cases geL : k + 1 = p.size
                            · have e0 : ((k : Int) == 0) = false := beq_eq_false_iff_ne.2 (by omega)
                              have d32 : decide ((p[k].toNat : Int) < 32) = false := decide_eq_false (by omega)
                              have d126 : decide ((126 : Int) < (p[k].toNat : Int)) = false := decide_eq_false (by omega)
                              have e59 : ((p[k].toNat : Int) == 59) = false := beq_eq_false_iff_ne.2 (by omega)
                              have e32 : ((p[k].toNat : Int) == 32) = true := beq_iff_eq.2 (by omega)
                              have e1 : ((k : Int) == 1) = false := beq_eq_false_iff_ne.2 (by omega)
                              have eL : ((k : Int) == (p.size : Int) - 1) = true := beq_iff_eq.2 (by omega)
                              have HB := Lib.hid (show (!goodC p.size k p[k]) = true from by rw [HG.out]; simp; omega)
                              clear g0 gd32 gd126 ge59 ge32 ge1 geL
                              go_wp2_with fail
                              go_meet
                              case rel => exact ⟨by rw [HB.out], rfl⟩
                            · have e0 : ((k : Int) == 0) = false := beq_eq_false_iff_ne.2 (by omega)
                              have d32 : decide ((p[k].toNat : Int) < 32) = false := decide_eq_false (by omega)
                              have d126 : decide ((126 : Int) < (p[k].toNat : Int)) = false := decide_eq_false (by omega)
                              have e59 : ((p[k].toNat : Int) == 59) = false := beq_eq_false_iff_ne.2 (by omega)
                              have e32 : ((p[k].toNat : Int) == 32) = true := beq_iff_eq.2 (by omega)
                              have e1 : ((k : Int) == 1) = false := beq_eq_false_iff_ne.2 (by omega)
                              have eL : ((k : Int) == (p.size : Int) - 1) = false := beq_eq_false_iff_ne.2 (by omega)
                              have HB := Lib.hid (show (!goodC p.size k p[k]) = false from by rw [HG.out]; simp; omega)
                              clear g0 gd32 gd126 ge59 ge32 ge1 geL
                              go_wp2_with fail
                              go_meet
                              case rel => exact ⟨by rw [HB.out], rfl⟩
                        · have e0 : ((k : Int) == 0) = false := beq_eq_false_iff_ne.2 (by omega)
                          have d32 : decide ((p[k].toNat : Int) < 32) = false := decide_eq_false (by omega)
                          have d126 : decide ((126 : Int) < (p[k].toNat : Int)) = false := decide_eq_false (by omega)
                          have e59 : ((p[k].toNat : Int) == 59) = false := beq_eq_false_iff_ne.2 (by omega)
                          have e32 : ((p[k].toNat : Int) == 32) = false := beq_eq_false_iff_ne.2 (by omega)
                          have HB := Lib.hid (show (!goodC p.size k p[k]) = false from by rw [HG.out]; simp; omega)
                          clear g0 gd32 gd126 ge59 ge32
                          go_wp2_with fail
                          go_meet
                          case rel => exact ⟨by rw [HB.out], rfl⟩
              case rest =>
                obtain ⟨rfl, rfl⟩ := hcut
                cases hg : goodC p.size k p[k] with
                | false =>
                  have HP := Lib.hid (show pathL p.data.toList = false from by
                    rw [← Bool.not_eq_true]
                    intro h
                    have h2 : goodC p.size k p[k] = true := (path_good _).1 h k h0
                    rw [h2] at hg
                    cases hg)
                  clear hg
                  go_wp2_with fail
                  go_ret
                  exact ⟨ret_bool (by rw [HR.out, HP.out]), below_new w _⟩
                | true =>
                  have HA2 := Lib.hid (show ∀ i (h : i < p.data.toList.length), i < k + 1 → goodC p.data.toList.length i p.data.toList[i] = true from fun i h h2 => by
                    by_cases hik : i = k
                    · subst hik; exact hg
                    · exact HA.out i h (by omega))
                  clear hg
                  go_wp2_with fail
                  first | go_round | (refine ⟨?rel, ?measure⟩)
                  case rel => exact ⟨k + 1, by omega, by go_num, HA2.out⟩
                  case measure => simp [intOf]; omega
            · obtain rfl : k = p.size := by omega
              have HP := Lib.hid (show pathL p.data.toList = true from (path_good _).2 (fun i h => HA.out i h h))
              go_wp2_with fail
              go_ret
              exact ⟨ret_bool (by rw [HR.out, HP.out]), below_new w _⟩
      · have e5 : (st == 3) = false := beq_eq_false_iff_ne.2 h5
        have HR := Lib.hid (show R = pathL p.data.toList from by rw [hR]; simp [h5])
        clear hR h5
        go_wp2_with fail
        refine (HTK.out _).mono ?_
        rintro e w1 ⟨rfl, rfl⟩
        go_wp2_with fail
        refine (HOC.out _).mono ?_
        rintro e w1 ⟨rfl, rfl⟩
        go_wp2_with fail
        go_loop [3] (fun x => ∃ k : Nat, k ≤ p.size ∧ x = .int .i64 k ∧ ∀ i (h : i < p.data.toList.length), i < k → goodC p.data.toList.length i p.data.toList[i] = true) (fun x => p.size - (intOf x).toNat)
        case atStart => exact ⟨0, by omega, rfl, fun i _ h => by omega⟩
        case round =>
          obtain ⟨k, hk, rfl, ha⟩ := hrel
          have HA := Lib.hid ha
          clear ha
          by_cases h0 : k < p.size
          · have h256 : p[k].toNat < 256 := p[k].toNat_lt
            have HG := Lib.hid (good_nat h0)
            go_upto_region 7 with fail
            go_cut [89] (fun s89 wx => s89 = .bool (!goodC p.size k p[k]) ∧ wx = w.alloc (.cells #[.string n, .string v, .string p, .int .i64 a, .bool sec, .bool http, .int .i64 st] 35))
            case first =>
              by_cases g0 : k = 0
              · by_cases g47 : p[k].toNat = 47
                · have e0 : ((k : Int) == 0) = true := beq_iff_eq.2 (by omega)
                  have e47 : ((p[k].toNat : Int) == 47) = true := beq_iff_eq.2 (by omega)
                  have d32 : decide ((p[k].toNat : Int) < 32) = false := decide_eq_false (by omega)
                  have d126 : decide ((126 : Int) < (p[k].toNat : Int)) = false := decide_eq_false (by omega)
                  have e59 : ((p[k].toNat : Int) == 59) = false := beq_eq_false_iff_ne.2 (by omega)
                  have e32 : ((p[k].toNat : Int) == 32) = false := beq_eq_false_iff_ne.2 (by omega)
                  have e47b : ((p[k].toNat : Int) != 47) = false := by rw [bne, e47]; rfl
                  have HB := Lib.hid (show (!goodC p.size k p[k]) = false from by rw [HG.out]; simp; omega)
                  clear g0 g47
                  go_wp2_with fail
                  go_meet
                  case rel => exact ⟨by rw [HB.out], rfl⟩
                · have e0 : ((k : Int) == 0) = true := beq_iff_eq.2 (by omega)
                  have e47 : ((p[k].toNat : Int) == 47) = false := beq_eq_false_iff_ne.2 (by omega)
                  have e47b : ((p[k].toNat : Int) != 47) = true := by rw [bne, e47]; rfl
                  have HB := Lib.hid (show (!goodC p.size k p[k]) = true from by rw [HG.out]; simp; omega)
                  clear g0 g47
                  go_wp2_with fail
                  go_meet
                  case rel => exact ⟨by rw [HB.out], rfl⟩
              · by_cases gd32 : p[k].toNat < 32
                · have e0 : ((k : Int) == 0) = false := beq_eq_false_iff_ne.2 (by omega)
                  have d32 : decide ((p[k].toNat : Int) < 32) = true := decide_eq_true (by omega)
                  have HB := Lib.hid (show (!goodC p.size k p[k]) = true from by rw [HG.out]; simp; omega)
                  clear g0 gd32
                  go_wp2_with fail
                  go_meet
                  case rel => exact ⟨by rw [HB.out], rfl⟩
                · by_cases gd126 : 126 < p[k].toNat
                  · have e0 : ((k : Int) == 0) = false := beq_eq_false_iff_ne.2 (by omega)
                    have d32 : decide ((p[k].toNat : Int) < 32) = false := decide_eq_false (by omega)
                    have d126 : decide ((126 : Int) < (p[k].toNat : Int)) = true := decide_eq_true (by omega)
                    have HB := Lib.hid (show (!goodC p.size k p[k]) = true from by rw [HG.out]; simp; omega)
                    clear g0 gd32 gd126
                    go_wp2_with fail
                    go_meet
                    case rel => exact ⟨by rw [HB.out], rfl⟩
                  · by_cases ge59 : p[k].toNat = 59
                    · have e0 : ((k : Int) == 0) = false := beq_eq_false_iff_ne.2 (by omega)
                      have d32 : decide ((p[k].toNat : Int) < 32) = false := decide_eq_false (by omega)
                      have d126 : decide ((126 : Int) < (p[k].toNat : Int)) = false := decide_eq_false (by omega)
                      have e59 : ((p[k].toNat : Int) == 59) = true := beq_iff_eq.2 (by omega)
                      have HB := Lib.hid (show (!goodC p.size k p[k]) = true from by rw [HG.out]; simp; omega)
                      clear g0 gd32 gd126 ge59
                      go_wp2_with fail
                      go_meet
                      case rel => exact ⟨by rw [HB.out], rfl⟩
                    · by_cases ge32 : p[k].toNat = 32
                      · by_cases ge1 : k = 1
                        · have e0 : ((k : Int) == 0) = false := beq_eq_false_iff_ne.2 (by omega)
                          have d32 : decide ((p[k].toNat : Int) < 32) = false := decide_eq_false (by omega)
                          have d126 : decide ((126 : Int) < (p[k].toNat : Int)) = false := decide_eq_false (by omega)
                          have e59 : ((p[k].toNat : Int) == 59) = false := beq_eq_false_iff_ne.2 (by omega)
                          have e32 : ((p[k].toNat : Int) == 32) = true := beq_iff_eq.2 (by omega)
                          have e1 : ((k : Int) == 1) = true := beq_iff_eq.2 (by omega)
                          have HB := Lib.hid (show (!goodC p.size k p[k]) = true from by rw [HG.out]; simp; omega)
                          clear g0 gd32 gd126 ge59 ge32 ge1
                          go_wp2_with fail
                          go_meet
                          case rel => exact ⟨by rw [HB.out], rfl⟩
                        · by_cases geL : k + 1 = p.size
                          · have e0 : ((k : Int) == 0) = false := beq_eq_false_iff_ne.2 (by omega)
                            have d32 : decide ((p[k].toNat : Int) < 32) = false := decide_eq_false (by omega)
                            have d126 : decide ((126 : Int) < (p[k].toNat : Int)) = false := decide_eq_false (by omega)
                            have e59 : ((p[k].toNat : Int) == 59) = false := beq_eq_false_iff_ne.2 (by omega)
                            have e32 : ((p[k].toNat : Int) == 32) = true := beq_iff_eq.2 (by omega)
                            have e1 : ((k : Int) == 1) = false := beq_eq_false_iff_ne.2 (by omega)
                            have eL : ((k : Int) == (p.size : Int) - 1) = true := beq_iff_eq.2 (by omega)
                            have HB := Lib.hid (show (!goodC p.size k p[k]) = true from by rw [HG.out]; simp; omega)
                            clear g0 gd32 gd126 ge59 ge32 ge1 geL
                            go_wp2_with fail
                            go_meet
                            case rel => exact ⟨by rw [HB.out], rfl⟩
                          · have e0 : ((k : Int) == 0) = false := beq_eq_false_iff_ne.2 (by omega)
                            have d32 : decide ((p[k].toNat : Int) < 32) = false := decide_eq_false (by omega)
                            have d126 : decide ((126 : Int) < (p[k].toNat : Int)) = false := decide_eq_false (by omega)
                            have e59 : ((p[k].toNat : Int) == 59) = false := beq_eq_false_iff_ne.2 (by omega)
                            have e32 : ((p[k].toNat : Int) == 32) = true := beq_iff_eq.2 (by omega)
                            have e1 : ((k : Int) == 1) = false := beq_eq_false_iff_ne.2 (by omega)
                            have eL : ((k : Int) == (p.size : Int) - 1) = false := beq_eq_false_iff_ne.2 (by omega)
                            have HB := Lib.hid (show (!goodC p.size k p[k]) = false from by rw [HG.out]; simp; omega)
                            clear g0 gd32 gd126 ge59 ge32 ge1 geL
                            go_wp2_with fail
                            go_meet
                            case rel => exact ⟨by rw [HB.out], rfl⟩
                      · have e0 : ((k : Int) == 0) = false := beq_eq_false_iff_ne.2 (by omega)
                        have d32 : decide ((p[k].toNat : Int) < 32) = false := decide_eq_false (by omega)
                        have d126 : decide ((126 : Int) < (p[k].toNat : Int)) = false := decide_eq_false (by omega)
                        have e59 : ((p[k].toNat : Int) == 59) = false := beq_eq_false_iff_ne.2 (by omega)
                        have e32 : ((p[k].toNat : Int) == 32) = false := beq_eq_false_iff_ne.2 (by omega)
                        have HB := Lib.hid (show (!goodC p.size k p[k]) = false from by rw [HG.out]; simp; omega)
                        clear g0 gd32 gd126 ge59 ge32
                        go_wp2_with fail
                        go_meet
                        case rel => exact ⟨by rw [HB.out], rfl⟩
            case rest =>
              obtain ⟨rfl, rfl⟩ := hcut
              cases hg : goodC p.size k p[k] with
              | false =>
                have HP := Lib.hid (show pathL p.data.toList = false from by
                  rw [← Bool.not_eq_true]
                  intro h
                  have h2 : goodC p.size k p[k] = true := (path_good _).1 h k h0
                  rw [h2] at hg
                  cases hg)
                clear hg
                go_wp2_with fail
                go_ret
                exact ⟨ret_bool (by rw [HR.out, HP.out]), below_new w _⟩
              | true =>
                have HA2 := Lib.hid (show ∀ i (h : i < p.data.toList.length), i < k + 1 → goodC p.data.toList.length i p.data.toList[i] = true from fun i h h2 => by
                  by_cases hik : i = k
                  · subst hik; exact hg
                  · exact HA.out i h (by omega))
                clear hg
                go_wp2_with fail
                first | go_round | (refine ⟨?rel, ?measure⟩)
                case rel => exact ⟨k + 1, by omega, by go_num, HA2.out⟩
                case measure => simp [intOf]; omega
          · obtain rfl : k = p.size := by omega
            have HP := Lib.hid (show pathL p.data.toList = true from (path_good _).2 (fun i h => HA.out i h h))
            go_wp2_with fail
            go_ret
            exact ⟨ret_bool (by rw [HR.out, HP.out]), below_new w _⟩
end Go.Proofs.YticlnjfndjnfhaaDoor.bake
