/- The walk of vec.all, over either function value. -/
import Derived.Test.YtfpknghbjniepaaMade
namespace Go.Proofs.Ytfpknghbjniepaa.all_
open Go.RowKit Go.Proofs.Ytfpknghbjniepaa.base Go.Proofs.Ytfpknghbjniepaa.vec Go.Proofs.Ytfpknghbjniepaa.ref Go.Proofs.Ytfpknghbjniepaa.made

theorem owns_low {w : World} {base base' : Nat} {e : TypeId} {size n : Nat} {v : Value} {xs : List Value} (h : w.ownsRow base' e size v n xs) (hb : base ≤ base') : w.ownsRow base e size v n xs :=
  ⟨h.1, h.2.imp id fun ⟨g, cap, cur, e, h1, r⟩ => ⟨g, cap, cur, e, Nat.le_trans hb h1, r⟩⟩
structure V where
  A : Option Addr
  len : Nat
  cap : Nat
  zs : List Int
def V.val (v : V) : Value := .slice v.A v.len v.cap
/-- A slice of vectors. -/
def Vecs (w : World) (B : Nat) (A : Option Addr) (n cap : Nat) (l : List V) : Prop :=
  l.length = n ∧ n ≤ cap ∧ cap ≤ maxLen ∧ Reads w B 1 A n (l.map V.val) ∧ (∀ v ∈ l, Vec w B v.A v.len v.cap v.zs ∧ v.len ≤ 1000000) ∧ (A = none → n = 0 ∧ cap = 0)
section
variable {w w' : World} {B B' n cap : Nat} {A : Option Addr} {l : List V}
theorem Vecs.below (h : Vecs w B A n cap l) (hb : Below B w w') : Vecs w' B A n cap l :=
  ⟨h.1, h.2.1, h.2.2.1, h.2.2.2.1.below hb, fun v hv => ⟨(h.2.2.2.2.1 v hv).1.below hb, (h.2.2.2.2.1 v hv).2⟩, h.2.2.2.2.2⟩
theorem Vecs.more (h : Vecs w B A n cap l) (hb : B ≤ B') : Vecs w B' A n cap l :=
  ⟨h.1, h.2.1, h.2.2.1, h.2.2.2.1.more hb, fun v hv => ⟨(h.2.2.2.2.1 v hv).1.more hb, (h.2.2.2.2.1 v hv).2⟩, h.2.2.2.2.2⟩
theorem Vecs.at_some (h : Vecs w B A n cap l) (hn : 0 < n) : ∃ b off, A = some ⟨b, off, none⟩ ∧ b < B := by
  obtain ⟨b, off, e, hb, _⟩ := h.2.2.2.1.2 hn
  exact ⟨b, off, e, hb⟩
theorem Vecs.cell {b off k : Nat} (h : Vecs w B (some ⟨b, off, none⟩) n cap l) (hk : k < n) : ∃ v, l[k]? = some v ∧ w.cell? ⟨b, off + k, none⟩ = some (.slice v.A v.len v.cap) ∧ Vec w B v.A v.len v.cap v.zs ∧ v.len ≤ 1000000 := by
  obtain ⟨h1, _, _, h4, h5, _⟩ := h
  obtain ⟨b', off', e, _, hc⟩ := h4.2 (by omega)
  injection e with e; injection e with e1 e2 _
  subst e1 e2
  have hkl : k < l.length := by omega
  refine ⟨l[k], List.getElem?_eq_getElem hkl, ?_, h5 _ (List.getElem_mem hkl)⟩
  rw [hc k (by simpa using hkl), List.getElem?_map, List.getElem?_eq_getElem hkl]
  rfl
end
def most (l : List V) : Nat := l.foldl (fun m v => max m v.len) 0
def foldAt (op : Int → Int → Int) (l : List V) (r : Int) : Int := match l with
  | [] => 0
  | v :: l => l.foldl (fun n v => op n (atV v.zs r)) (atV v.zs r)
def joinV (op : Int → Int → Int) (l : List V) : List Int := trimL ((List.range (most l)).map fun r : Nat => foldAt op l ((r : Int) + 1))
theorem foldl_take_succ {α β : Type} (f : β → α → β) (b : β) (l : List α) (k : Nat) (v : α) (h : l[k]? = some v) : (l.take (k + 1)).foldl f b = f ((l.take k).foldl f b) v := by
  obtain ⟨hk, e⟩ := List.getElem?_eq_some_iff.1 h
  rw [List.take_succ_eq_append_getElem hk, List.foldl_append, e]
  rfl
theorem range_map_snoc (f : Nat → Int) (n : Nat) : (List.range (n + 1)).map f = (List.range n).map f ++ [f n] := by rw [List.range_succ, List.map_append]; rfl
def opMax (a b : Int) : Int := if a < b then b else a
def opMin (a b : Int) : Int := if b < a then b else a
theorem max_any (a b : Int) (w : World) : Calls Try.prog 27 #[.int .i64 a, .int .i64 b] w fun e w' => e = .returned (.int .i64 (opMax a b)) ∧ w = w' := by
  unfold opMax
  by_cases h : a < b
  · rw [if_pos h]
    go_enter Try.func27, Try.ntmps27
    go_wp2
    go_ret
    exact ⟨rfl, rfl⟩
  · rw [if_neg h]
    go_enter Try.func27, Try.ntmps27
    go_wp2
    go_ret
    exact ⟨rfl, rfl⟩
theorem min_any (a b : Int) (w : World) : Calls Try.prog 29 #[.int .i64 a, .int .i64 b] w fun e w' => e = .returned (.int .i64 (opMin a b)) ∧ w = w' := by
  unfold opMin
  by_cases h : b < a
  · rw [if_pos h]
    go_enter Try.func29, Try.ntmps29
    go_wp2
    go_ret
    exact ⟨rfl, rfl⟩
  · rw [if_neg h]
    go_enter Try.func29, Try.ntmps29
    go_wp2
    go_ret
    exact ⟨rfl, rfl⟩
set_option maxHeartbeats 1600000 in
theorem all_max (A : Option Addr) (n cap : Nat) (l : List V) (w : World) (h : Vecs w w.heap.size A n cap l) (hn : n ≤ 1000000) :
    Calls Try.prog 26 #[.slice A n cap, .func (.func 27) #[] #[]] w (OwnL w (joinV opMax l)) := by
  obtain ⟨i0, hi, hz0, hz1, hz2⟩ := info_parts int_info
  have hll := h.1
  have hnc := h.2.1
  have hcm := h.2.2.1
  unfold maxLen at hcm
  have Hll := Lib.hid hll; clear hll
  have H := Lib.hid h; clear h
  go_enter Try.func26, Try.ntmps26
  go_wp2
  go_loop [6, 8, 15] (fun m _ i => ∃ k q : Nat, k ≤ n ∧ i = .int .i64 k ∧ q ≤ 1000000 ∧ m = .int .i64 q ∧ most (l.take k) = q) (fun _ _ i => n - (intOf i).toNat)
  case atStart => exact ⟨0, 0, by omega, rfl, by omega, rfl, rfl⟩
  case round =>
    obtain ⟨k, q, hk, rfl, hq, rfl, hmo⟩ := hrel
    have Hmo := Lib.hid hmo; clear hmo
    by_cases hlt : k < n
    · obtain ⟨b, off, rfl, hb⟩ := H.out.at_some (by omega)
      obtain ⟨v, hv, hcell, hvv, hvl⟩ := H.out.cell hlt
      have hmk : most (l.take (k + 1)) = max q v.len := by rw [← Hmo.out]; exact foldl_take_succ _ _ _ _ _ hv
      have Hmk := Lib.hid hmk; clear hmk
      clear hv hvv
      obtain ⟨vA, vlen, vcap, vzs⟩ := v
      dsimp only at hcell hvl Hmk
      by_cases hle : q < vlen
      · go_wp2
        go_round
        case rel => exact ⟨k + 1, vlen, by omega, by go_num, by omega, rfl, by rw [Hmk.out]; omega⟩
        case measure => simp [intOf]; omega
      · go_wp2
        go_round
        case rel => exact ⟨k + 1, q, by omega, by go_num, by omega, rfl, by rw [Hmk.out]; omega⟩
        case measure => simp [intOf]; omega
    · obtain rfl : k = n := by omega
      have hM : most l = q := by rw [← Hmo.out, List.take_of_length_le (by rw [Hll.out]; exact Nat.le_refl _)]
      have HM := Lib.hid hM; clear hM
      go_wp2
      go_loopw [5, 9, 10, 12] (fun o r _ _ wr => ∃ i : Nat, i ≤ q ∧ r = .int .i64 ((i : Int) + 1) ∧ wr.ownsRow w.heap.size 3 1 o i (enc ((List.range i).map fun r : Nat => foldAt opMax l ((r : Int) + 1))) ∧ Below w.heap.size w wr) (fun _ r _ _ _ => q + 1 - (intOf r).toNat)
      case atStart => exact ⟨0, by omega, rfl, World.ownsRow_nil _ _ _ _, Below.refl _ _⟩
      case round =>
        obtain ⟨i, hiq, rfl, hown, hbw⟩ := hrel
        have Hown := Lib.hid hown; clear hown
        have Hbw := Lib.hid hbw; clear hbw
        by_cases hlt2 : i < q
        · have hk0 : 0 < k := by
            rcases Nat.eq_zero_or_pos k with h | h
            · subst h; have := Hmo.out; simp [most] at this; omega
            · exact h
          obtain ⟨b, off, rfl, hb⟩ := H.out.at_some hk0
          obtain ⟨v0, hv0, hcell0, hvv0, _⟩ := (H.out.below Hbw.out).cell hk0
          obtain ⟨vA, vlen, vcap, vzs⟩ := v0
          dsimp only at hcell0 hvv0
          rw [Nat.add_zero] at hcell0
          have Hv0 := Lib.hid hv0; clear hv0
          have Hvv0 := Lib.hid hvv0; clear hvv0
          go_wp2_with fail
          refine (at_any _ _ _ _ ((i : Int) + 1) _ _ Hvv0.out (by omega)).mono ?_
          rintro e w1 ⟨rfl, rfl⟩
          go_wp2
          all_goals
            go_loop [10, 12, 37] (fun x _ j => ∃ p : Nat, p ≤ k - 1 ∧ j = .int .i64 p ∧ x = .int .i64 (((l.drop 1).take p).foldl (fun n v => opMax n (atV v.zs ((i : Int) + 1))) (atV vzs ((i : Int) + 1)))) (fun _ _ j => k - (intOf j).toNat)
            case atStart => exact ⟨0, by omega, rfl, rfl⟩
            case round =>
              obtain ⟨p, hp, rfl, rfl⟩ := hrel
              by_cases hpk : p < k - 1
              · obtain ⟨v1, hv1, hcell1, hvv1, _⟩ := (H.out.below Hbw.out).cell (k := p + 1) (by omega)
                have hst := foldl_take_succ (fun n (v : V) => opMax n (atV v.zs ((i : Int) + 1))) (atV vzs ((i : Int) + 1)) (l.drop 1) p v1 (by rw [List.getElem?_drop, Nat.add_comm]; exact hv1)
                generalize ((l.drop 1).take p).foldl (fun n v => opMax n (atV v.zs ((i : Int) + 1))) (atV vzs ((i : Int) + 1)) = x at hst ⊢
                clear hv1
                obtain ⟨vA1, vlen1, vcap1, vzs1⟩ := v1
                dsimp only at hcell1 hvv1 hst
                have Hst := Lib.hid hst; clear hst
                have Hvv1 := Lib.hid hvv1; clear hvv1
                rw [show off + (p + 1) = off + 1 + p by omega] at hcell1
                first
                | (exfalso; omega)
                | (go_wp2_with fail
                   refine (at_any _ _ _ _ ((i : Int) + 1) _ _ Hvv1.out (by omega)).mono ?_
                   rintro e w1 ⟨rfl, rfl⟩
                   go_wp2_with fail
                   refine (max_any _ _ _).mono ?_
                   rintro e w1 ⟨rfl, rfl⟩
                   go_wp2
                   go_round
                   case rel => exact ⟨p + 1, by omega, by go_num, by rw [Hst.out]⟩
                   case measure => simp [intOf]; omega)
              · have hfo : foldAt opMax l ((i : Int) + 1) = ((l.drop 1).take p).foldl (fun n v => opMax n (atV v.zs ((i : Int) + 1))) (atV vzs ((i : Int) + 1)) := by
                  rw [List.take_of_length_le (by rw [List.length_drop, Hll.out]; omega)]
                  cases l with
                  | nil => simp at Hv0; exact absurd Hv0.out (by simp)
                  | cons a l' => have := Hv0.out; simp at this; subst this; rfl
                have hes := enc_snoc ((List.range i).map fun r : Nat => foldAt opMax l ((r : Int) + 1)) (foldAt opMax l ((i : Int) + 1))
                rw [← range_map_snoc (fun r : Nat => foldAt opMax l ((r : Int) + 1)), hfo] at hes
                clear hfo
                generalize ((l.drop 1).take p).foldl (fun n v => opMax n (atV v.zs ((i : Int) + 1))) (atV vzs ((i : Int) + 1)) = x at hes ⊢
                have Hes := Lib.hid hes; clear hes
                go_wp2_with (at_builtin; refine wpList_append_new rfl (.tmp 48) (.tmp 50) 32 rfl w.heap.size 3 i0 (.int .i64 0) 1 8 Try.underlying32 hi hz0 hz1 hz2 rfl (by decide) _ _ _ rfl Hown.out 1 1 [.int .i64 x] rfl rfl (by simp [Value.oneCell']) (by unfold maxLen; omega) (by omega) Hbw.out.size ?_; intro v1 w1 hown1 hbw1 _ _; have Hown1 := Lib.hid hown1; have Hbw1 := Lib.hid (Hbw.out.trans hbw1); clear hown1 hbw1)
                go_roundw
                case rel => exact ⟨i + 1, by omega, by go_num, by rw [Hes.out]; exact Hown1.out, Hbw1.out⟩
                case measure => simp [intOf]; omega
        · obtain rfl : i = q := by omega
          obtain ⟨oA, oc, rfl, hov⟩ := Vec.of_own Hown.out
          have hjl : joinV opMax l = trimL ((List.range i).map fun r : Nat => foldAt opMax l ((r : Int) + 1)) := by unfold joinV; rw [HM.out]
          have Hjl := Lib.hid hjl; clear hjl
          have Hov := Lib.hid hov; clear hov
          go_wp2_with fail
          refine (trim_any _ _ _ _ _ Hov.out (by omega)).mono ?_
          rintro e w1 ⟨v, rfl, hown1, hbw1⟩
          have Hown1 := Lib.hid hown1; clear hown1
          have Hbw1 := Lib.hid hbw1; clear hbw1
          go_wp2
          go_ret
          exact ⟨v, rfl, by rw [Hjl.out]; exact owns_low Hown1.out Hbw.out.size, Hbw.out.trans (Hbw1.out.mono Hbw.out.size)⟩
set_option maxHeartbeats 1600000 in
theorem all_min (A : Option Addr) (n cap : Nat) (l : List V) (w : World) (h : Vecs w w.heap.size A n cap l) (hn : n ≤ 1000000) :
    Calls Try.prog 26 #[.slice A n cap, .func (.func 29) #[] #[]] w (OwnL w (joinV opMin l)) := by
  obtain ⟨i0, hi, hz0, hz1, hz2⟩ := info_parts int_info
  have hll := h.1
  have hnc := h.2.1
  have hcm := h.2.2.1
  unfold maxLen at hcm
  have Hll := Lib.hid hll; clear hll
  have H := Lib.hid h; clear h
  go_enter Try.func26, Try.ntmps26
  go_wp2
  go_loop [6, 8, 15] (fun m _ i => ∃ k q : Nat, k ≤ n ∧ i = .int .i64 k ∧ q ≤ 1000000 ∧ m = .int .i64 q ∧ most (l.take k) = q) (fun _ _ i => n - (intOf i).toNat)
  case atStart => exact ⟨0, 0, by omega, rfl, by omega, rfl, rfl⟩
  case round =>
    obtain ⟨k, q, hk, rfl, hq, rfl, hmo⟩ := hrel
    have Hmo := Lib.hid hmo; clear hmo
    by_cases hlt : k < n
    · obtain ⟨b, off, rfl, hb⟩ := H.out.at_some (by omega)
      obtain ⟨v, hv, hcell, hvv, hvl⟩ := H.out.cell hlt
      have hmk : most (l.take (k + 1)) = max q v.len := by rw [← Hmo.out]; exact foldl_take_succ _ _ _ _ _ hv
      have Hmk := Lib.hid hmk; clear hmk
      clear hv hvv
      obtain ⟨vA, vlen, vcap, vzs⟩ := v
      dsimp only at hcell hvl Hmk
      by_cases hle : q < vlen
      · go_wp2
        go_round
        case rel => exact ⟨k + 1, vlen, by omega, by go_num, by omega, rfl, by rw [Hmk.out]; omega⟩
        case measure => simp [intOf]; omega
      · go_wp2
        go_round
        case rel => exact ⟨k + 1, q, by omega, by go_num, by omega, rfl, by rw [Hmk.out]; omega⟩
        case measure => simp [intOf]; omega
    · obtain rfl : k = n := by omega
      have hM : most l = q := by rw [← Hmo.out, List.take_of_length_le (by rw [Hll.out]; exact Nat.le_refl _)]
      have HM := Lib.hid hM; clear hM
      go_wp2
      go_loopw [5, 9, 10, 12] (fun o r _ _ wr => ∃ i : Nat, i ≤ q ∧ r = .int .i64 ((i : Int) + 1) ∧ wr.ownsRow w.heap.size 3 1 o i (enc ((List.range i).map fun r : Nat => foldAt opMin l ((r : Int) + 1))) ∧ Below w.heap.size w wr) (fun _ r _ _ _ => q + 1 - (intOf r).toNat)
      case atStart => exact ⟨0, by omega, rfl, World.ownsRow_nil _ _ _ _, Below.refl _ _⟩
      case round =>
        obtain ⟨i, hiq, rfl, hown, hbw⟩ := hrel
        have Hown := Lib.hid hown; clear hown
        have Hbw := Lib.hid hbw; clear hbw
        by_cases hlt2 : i < q
        · have hk0 : 0 < k := by
            rcases Nat.eq_zero_or_pos k with h | h
            · subst h; have := Hmo.out; simp [most] at this; omega
            · exact h
          obtain ⟨b, off, rfl, hb⟩ := H.out.at_some hk0
          obtain ⟨v0, hv0, hcell0, hvv0, _⟩ := (H.out.below Hbw.out).cell hk0
          obtain ⟨vA, vlen, vcap, vzs⟩ := v0
          dsimp only at hcell0 hvv0
          rw [Nat.add_zero] at hcell0
          have Hv0 := Lib.hid hv0; clear hv0
          have Hvv0 := Lib.hid hvv0; clear hvv0
          go_wp2_with fail
          refine (at_any _ _ _ _ ((i : Int) + 1) _ _ Hvv0.out (by omega)).mono ?_
          rintro e w1 ⟨rfl, rfl⟩
          go_wp2
          all_goals
            go_loop [10, 12, 37] (fun x _ j => ∃ p : Nat, p ≤ k - 1 ∧ j = .int .i64 p ∧ x = .int .i64 (((l.drop 1).take p).foldl (fun n v => opMin n (atV v.zs ((i : Int) + 1))) (atV vzs ((i : Int) + 1)))) (fun _ _ j => k - (intOf j).toNat)
            case atStart => exact ⟨0, by omega, rfl, rfl⟩
            case round =>
              obtain ⟨p, hp, rfl, rfl⟩ := hrel
              by_cases hpk : p < k - 1
              · obtain ⟨v1, hv1, hcell1, hvv1, _⟩ := (H.out.below Hbw.out).cell (k := p + 1) (by omega)
                have hst := foldl_take_succ (fun n (v : V) => opMin n (atV v.zs ((i : Int) + 1))) (atV vzs ((i : Int) + 1)) (l.drop 1) p v1 (by rw [List.getElem?_drop, Nat.add_comm]; exact hv1)
                generalize ((l.drop 1).take p).foldl (fun n v => opMin n (atV v.zs ((i : Int) + 1))) (atV vzs ((i : Int) + 1)) = x at hst ⊢
                clear hv1
                obtain ⟨vA1, vlen1, vcap1, vzs1⟩ := v1
                dsimp only at hcell1 hvv1 hst
                have Hst := Lib.hid hst; clear hst
                have Hvv1 := Lib.hid hvv1; clear hvv1
                rw [show off + (p + 1) = off + 1 + p by omega] at hcell1
                first
                | (exfalso; omega)
                | (go_wp2_with fail
                   refine (at_any _ _ _ _ ((i : Int) + 1) _ _ Hvv1.out (by omega)).mono ?_
                   rintro e w1 ⟨rfl, rfl⟩
                   go_wp2_with fail
                   refine (min_any _ _ _).mono ?_
                   rintro e w1 ⟨rfl, rfl⟩
                   go_wp2
                   go_round
                   case rel => exact ⟨p + 1, by omega, by go_num, by rw [Hst.out]⟩
                   case measure => simp [intOf]; omega)
              · have hfo : foldAt opMin l ((i : Int) + 1) = ((l.drop 1).take p).foldl (fun n v => opMin n (atV v.zs ((i : Int) + 1))) (atV vzs ((i : Int) + 1)) := by
                  rw [List.take_of_length_le (by rw [List.length_drop, Hll.out]; omega)]
                  cases l with
                  | nil => simp at Hv0; exact absurd Hv0.out (by simp)
                  | cons a l' => have := Hv0.out; simp at this; subst this; rfl
                have hes := enc_snoc ((List.range i).map fun r : Nat => foldAt opMin l ((r : Int) + 1)) (foldAt opMin l ((i : Int) + 1))
                rw [← range_map_snoc (fun r : Nat => foldAt opMin l ((r : Int) + 1)), hfo] at hes
                clear hfo
                generalize ((l.drop 1).take p).foldl (fun n v => opMin n (atV v.zs ((i : Int) + 1))) (atV vzs ((i : Int) + 1)) = x at hes ⊢
                have Hes := Lib.hid hes; clear hes
                go_wp2_with (at_builtin; refine wpList_append_new rfl (.tmp 48) (.tmp 50) 32 rfl w.heap.size 3 i0 (.int .i64 0) 1 8 Try.underlying32 hi hz0 hz1 hz2 rfl (by decide) _ _ _ rfl Hown.out 1 1 [.int .i64 x] rfl rfl (by simp [Value.oneCell']) (by unfold maxLen; omega) (by omega) Hbw.out.size ?_; intro v1 w1 hown1 hbw1 _ _; have Hown1 := Lib.hid hown1; have Hbw1 := Lib.hid (Hbw.out.trans hbw1); clear hown1 hbw1)
                go_roundw
                case rel => exact ⟨i + 1, by omega, by go_num, by rw [Hes.out]; exact Hown1.out, Hbw1.out⟩
                case measure => simp [intOf]; omega
        · obtain rfl : i = q := by omega
          obtain ⟨oA, oc, rfl, hov⟩ := Vec.of_own Hown.out
          have hjl : joinV opMin l = trimL ((List.range i).map fun r : Nat => foldAt opMin l ((r : Int) + 1)) := by unfold joinV; rw [HM.out]
          have Hjl := Lib.hid hjl; clear hjl
          have Hov := Lib.hid hov; clear hov
          go_wp2_with fail
          refine (trim_any _ _ _ _ _ Hov.out (by omega)).mono ?_
          rintro e w1 ⟨v, rfl, hown1, hbw1⟩
          have Hown1 := Lib.hid hown1; clear hown1
          have Hbw1 := Lib.hid hbw1; clear hbw1
          go_wp2
          go_ret
          exact ⟨v, rfl, by rw [Hjl.out]; exact owns_low Hown1.out Hbw.out.size, Hbw.out.trans (Hbw1.out.mono Hbw.out.size)⟩

theorem join_any (A : Option Addr) (n cap : Nat) (l : List V) (w : World) (h : Vecs w w.heap.size A n cap l) (hn : n ≤ 1000000) :
    Calls Try.prog 16 #[.slice A n cap] w (OwnL w (joinV opMax l)) := by
  have H := Lib.hid h; clear h
  go_enter Try.func16, Try.ntmps16
  go_wp2_with fail
  refine (all_max _ _ _ _ _ H.out hn).mono ?_
  rintro e w1 ⟨v, rfl, hown1, hbw1⟩
  have Hown1 := Lib.hid hown1; clear hown1
  have Hbw1 := Lib.hid hbw1; clear hbw1
  go_wp2
  go_ret
  exact ⟨v, rfl, Hown1.out, Hbw1.out⟩
theorem least_any (A : Option Addr) (n cap : Nat) (l : List V) (w : World) (h : Vecs w w.heap.size A n cap l) (hn : n ≤ 1000000) :
    Calls Try.prog 19 #[.slice A n cap] w (OwnL w (joinV opMin l)) := by
  have H := Lib.hid h; clear h
  go_enter Try.func19, Try.ntmps19
  go_wp2_with fail
  refine (all_min _ _ _ _ _ H.out hn).mono ?_
  rintro e w1 ⟨v, rfl, hown1, hbw1⟩
  have Hown1 := Lib.hid hown1; clear hown1
  have Hbw1 := Lib.hid hbw1; clear hbw1
  go_wp2
  go_ret
  exact ⟨v, rfl, Hown1.out, Hbw1.out⟩
end Go.Proofs.Ytfpknghbjniepaa.all_
