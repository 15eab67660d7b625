/- The walks of the reference's long and Join. -/
import Derived.Test.YtedkcpncomgboaaWithV
namespace Go.Proofs.Ytedkcpncomgboaa.joinr
open Go.RowKit Go.Proofs.Ytedkcpncomgboaa.base Go.Proofs.Ytedkcpncomgboaa.vec Go.Proofs.Ytedkcpncomgboaa.ref Go.Proofs.Ytedkcpncomgboaa.made Go.Proofs.Ytedkcpncomgboaa.with_

structure V where
  A : Option Addr
  len : Nat
  cap : Nat
  zs : List Int
def V.val (v : V) : Value := .slice v.A v.len v.cap
/-- A slice of vectors. -/
def Vecs (w : World) (B : Nat) (A : Option Addr) (n cap : Nat) (l : List V) : Prop :=
  l.length = n ∧ n ≤ cap ∧ cap ≤ maxLen ∧ Reads w B 1 A n (l.map V.val) ∧ (∀ v ∈ l, Vec w B v.A v.len v.cap v.zs ∧ v.len ≤ 1000000) ∧ (A = none → n = 0 ∧ cap = 0)
section
variable {w w' : World} {B B' n cap : Nat} {A : Option Addr} {l : List V}
theorem Vecs.below (h : Vecs w B A n cap l) (hb : Below B w w') : Vecs w' B A n cap l :=
  ⟨h.1, h.2.1, h.2.2.1, h.2.2.2.1.below hb, fun v hv => ⟨(h.2.2.2.2.1 v hv).1.below hb, (h.2.2.2.2.1 v hv).2⟩, h.2.2.2.2.2⟩
theorem Vecs.more (h : Vecs w B A n cap l) (hb : B ≤ B') : Vecs w B' A n cap l :=
  ⟨h.1, h.2.1, h.2.2.1, h.2.2.2.1.more hb, fun v hv => ⟨(h.2.2.2.2.1 v hv).1.more hb, (h.2.2.2.2.1 v hv).2⟩, h.2.2.2.2.2⟩
theorem Vecs.at_some (h : Vecs w B A n cap l) (hn : 0 < n) : ∃ b off, A = some ⟨b, off, none⟩ ∧ b < B := by
  obtain ⟨b, off, e, hb, _⟩ := h.2.2.2.1.2 hn
  exact ⟨b, off, e, hb⟩
theorem Vecs.cell {b off k : Nat} (h : Vecs w B (some ⟨b, off, none⟩) n cap l) (hk : k < n) : ∃ v, l[k]? = some v ∧ w.cell? ⟨b, off + k, none⟩ = some (.slice v.A v.len v.cap) ∧ Vec w B v.A v.len v.cap v.zs ∧ v.len ≤ 1000000 := by
  obtain ⟨h1, _, _, h4, h5, _⟩ := h
  obtain ⟨b', off', e, _, hc⟩ := h4.2 (by omega)
  injection e with e; injection e with e1 e2 _
  subst e1 e2
  have hkl : k < l.length := by omega
  refine ⟨l[k], List.getElem?_eq_getElem hkl, ?_, h5 _ (List.getElem_mem hkl)⟩
  rw [hc k (by simpa using hkl), List.getElem?_map, List.getElem?_eq_getElem hkl]
  rfl
end
def most (l : List V) : Nat := l.foldl (fun m v => max m v.len) 0
def foldAt (op : Int → Int → Int) (l : List V) (r : Int) : Int := match l with
  | [] => 0
  | v :: l => l.foldl (fun n v => op n (atV v.zs r)) (atV v.zs r)
def joinV (op : Int → Int → Int) (l : List V) : List Int := trimL ((List.range (most l)).map fun r : Nat => foldAt op l ((r : Int) + 1))
theorem foldl_take_succ {α β : Type} (f : β → α → β) (b : β) (l : List α) (k : Nat) (v : α) (h : l[k]? = some v) : (l.take (k + 1)).foldl f b = f ((l.take k).foldl f b) v := by
  obtain ⟨hk, e⟩ := List.getElem?_eq_some_iff.1 h
  rw [List.take_succ_eq_append_getElem hk, List.foldl_append, e]
  rfl
def opMax (a b : Int) : Int := if a < b then b else a
theorem most_le (l : List V) (h : ∀ v ∈ l, v.len ≤ 1000000) : most l ≤ 1000000 := by
  unfold most
  have : ∀ (l : List V) (m : Nat), m ≤ 1000000 → (∀ v ∈ l, v.len ≤ 1000000) → l.foldl (fun m v => max m v.len) m ≤ 1000000 := by
    intro l
    induction l with
    | nil => intro m h _; exact h
    | cons a l ih => intro m h hl; exact ih _ (by have := hl a (by simp); show max m a.len ≤ 1000000; omega) (fun v hv => hl v (by simp [hv]))
  exact this l 0 (by omega) h
set_option maxRecDepth 100000 in
set_option maxHeartbeats 1600000 in
theorem long_any (A : Option Addr) (n cap : Nat) (l : List V) (w : World) (B : Nat) (h : Vecs w B A n cap l) (hn : n ≤ 1000000) :
    Calls Try.prog 28 #[.slice A n cap] w fun e w' => e = .returned (.int .i64 (most l : Nat)) ∧ w = w' := by
  have hll := h.1
  have hnc := h.2.1
  have hcm := h.2.2.1
  unfold maxLen at hcm
  have Hll := Lib.hid hll; clear hll
  have H := Lib.hid h; clear h
  go_enter Try.func28, Try.ntmps28
  go_wp2
  go_loop [3, 4] (fun m i => ∃ k q : Nat, k ≤ n ∧ i = .int .i64 k ∧ q ≤ 1000000 ∧ m = .int .i64 q ∧ most (l.take k) = q) (fun _ i => n - (intOf i).toNat)
  case atStart => exact ⟨0, 0, by omega, rfl, by omega, rfl, rfl⟩
  case round =>
    obtain ⟨k, q, hk, rfl, hq, rfl, hmo⟩ := hrel
    have Hmo := Lib.hid hmo; clear hmo
    by_cases hlt : k < n
    · obtain ⟨b, off, rfl, hb⟩ := H.out.at_some (by omega)
      obtain ⟨v, hv, hcell, hvv, hvl⟩ := H.out.cell hlt
      have hmk : most (l.take (k + 1)) = max q v.len := by rw [← Hmo.out]; exact foldl_take_succ _ _ _ _ _ hv
      have Hmk := Lib.hid hmk; clear hmk
      clear hv hvv
      obtain ⟨vA, vlen, vcap, vzs⟩ := v
      dsimp only at hcell hvl Hmk
      by_cases hle : q < vlen
      · go_wp2
        go_round
        case rel => exact ⟨k + 1, vlen, by omega, by go_num, by omega, rfl, by rw [Hmk.out]; omega⟩
        case measure => simp [intOf]; omega
      · go_wp2
        go_round
        case rel => exact ⟨k + 1, q, by omega, by go_num, by omega, rfl, by rw [Hmk.out]; omega⟩
        case measure => simp [intOf]; omega
    · obtain rfl : k = n := by omega
      have hM : most l = q := by rw [← Hmo.out, List.take_of_length_le (by rw [Hll.out]; exact Nat.le_refl _)]
      have HM := Lib.hid hM; clear hM
      go_wp2
      go_ret
      exact ⟨by rw [HM.out]; rfl, rfl⟩
set_option maxRecDepth 100000 in
set_option maxHeartbeats 3200000 in
theorem join_ref (A : Option Addr) (n cap : Nat) (l : List V) (w : World) (h : Vecs w w.heap.size A n cap l) (hn : n ≤ 1000000) :
    Calls Try.prog 9 #[.slice A n cap] w (OwnL w (joinV opMax l)) := by
  obtain ⟨i0, hi, hz0, hz1, hz2⟩ := info_parts int_info
  have hll := h.1
  have hnc := h.2.1
  have hcm := h.2.2.1
  have hml := most_le l fun v hv => (h.2.2.2.2.1 v hv).2
  have hm0 : 0 < most l → 0 < n := by
    intro hp
    rcases Nat.eq_zero_or_pos n with h0 | h0
    · subst h0; rw [List.eq_nil_of_length_eq_zero hll] at hp; simp [most] at hp
    · exact h0
  unfold maxLen at hcm
  have Hll := Lib.hid hll; clear hll
  have H := Lib.hid h; clear h
  generalize hM : most l = q at hml hm0
  have HM := Lib.hid hM; clear hM
  go_enter Try.func9, Try.ntmps9
  go_wp2
  go_loopw [3, 4, 5, 6] (fun o r _ _ wr => ∃ i : Nat, i ≤ q ∧ r = .int .i64 ((i : Int) + 1) ∧ wr.ownsRow w.heap.size 3 1 o i (enc ((List.range i).map fun r : Nat => foldAt opMax l ((r : Int) + 1))) ∧ Below w.heap.size w wr) (fun _ r _ _ _ => q + 1 - (intOf r).toNat)
  case atStart => exact ⟨0, by omega, rfl, ownsRow_new0 w 3 1 #[], (Below.refl _ _).alloc (Nat.le_refl _) _⟩
  case round =>
    obtain ⟨i, hiq, rfl, hown, hbw⟩ := hrel
    have Hown := Lib.hid hown; clear hown
    have Hbw := Lib.hid hbw; clear hbw
    by_cases hlt2 : i < q
    · have hk0 : 0 < n := hm0 (by omega)
      obtain ⟨b, off, rfl, hb⟩ := H.out.at_some hk0
      obtain ⟨v0, hv0, hcell0, hvv0, _⟩ := (H.out.below Hbw.out).cell hk0
      obtain ⟨vA, vlen, vcap, vzs⟩ := v0
      dsimp only at hcell0 hvv0
      rw [Nat.add_zero] at hcell0
      have Hv0 := Lib.hid hv0; clear hv0
      have Hvv0 := Lib.hid hvv0; clear hvv0
      go_wp2_with fail
      refine (long_any _ _ _ _ _ _ (H.out.below Hbw.out) hn).mono ?_
      rintro e w1 ⟨rfl, rfl⟩
      rw [HM.out]
      go_wp2_with fail
      refine (at_ref _ _ _ _ ((i : Int) + 1) _ _ Hvv0.out).mono ?_
      rintro e w1 ⟨rfl, rfl⟩
      go_wp2
      go_loop [5, 6] (fun x j => ∃ p : Nat, p ≤ n - 1 ∧ j = .int .i64 ((p : Int) + 1) ∧ x = .int .i64 (((l.drop 1).take p).foldl (fun n v => opMax n (atV v.zs ((i : Int) + 1))) (atV vzs ((i : Int) + 1)))) (fun _ j => n + 1 - (intOf j).toNat)
      case atStart => exact ⟨0, by omega, rfl, rfl⟩
      case round =>
        obtain ⟨p, hp, rfl, rfl⟩ := hrel
        by_cases hpk : p < n - 1
        · obtain ⟨v1, hv1, hcell1, hvv1, _⟩ := (H.out.below Hbw.out).cell (k := p + 1) (by omega)
          have hst := foldl_take_succ (fun n (v : V) => opMax n (atV v.zs ((i : Int) + 1))) (atV vzs ((i : Int) + 1)) (l.drop 1) p v1 (by rw [List.getElem?_drop, Nat.add_comm]; exact hv1)
          generalize ((l.drop 1).take p).foldl (fun n v => opMax n (atV v.zs ((i : Int) + 1))) (atV vzs ((i : Int) + 1)) = x at hst ⊢
          clear hv1
          obtain ⟨vA1, vlen1, vcap1, vzs1⟩ := v1
          dsimp only at hcell1 hvv1 hst
          have Hvv1 := Lib.hid hvv1; clear hvv1
          have hat := at_ref vA1 vlen1 vcap1 vzs1 ((i : Int) + 1) _ _ Hvv1.out
          generalize atV vzs1 ((i : Int) + 1) = y at hst hat
          have Hat := Lib.hid hat; clear hat
          unfold opMax at hst
          by_cases hxy : x < y
          · rw [if_pos hxy] at hst
            have Hst := Lib.hid hst; clear hst
            have hd : decide (x < y) = true := by simpa using hxy
            go_wp2_with fail
            refine Hat.out.mono ?_
            rintro e w1 ⟨rfl, rfl⟩
            go_wp2_with fail
            refine Hat.out.mono ?_
            rintro e w1 ⟨rfl, rfl⟩
            go_wp2
            go_round
            case rel => exact ⟨p + 1, by omega, by go_num, by unfold opMax; rw [Hst.out]⟩
            case measure => simp [intOf]; omega
          · rw [if_neg hxy] at hst
            have Hst := Lib.hid hst; clear hst
            have hd : decide (x < y) = false := by simpa using hxy
            go_wp2_with fail
            refine Hat.out.mono ?_
            rintro e w1 ⟨rfl, rfl⟩
            go_wp2
            go_round
            case rel => exact ⟨p + 1, by omega, by go_num, by unfold opMax; rw [Hst.out]⟩
            case measure => simp [intOf]; omega
        · have hfo : foldAt opMax l ((i : Int) + 1) = ((l.drop 1).take p).foldl (fun n v => opMax n (atV v.zs ((i : Int) + 1))) (atV vzs ((i : Int) + 1)) := by
            rw [List.take_of_length_le (by rw [List.length_drop, Hll.out]; omega)]
            cases l with
            | nil => simp at Hv0; exact absurd Hv0.out (by simp)
            | cons a l' => have := Hv0.out; simp at this; subst this; rfl
          have hes := enc_snoc ((List.range i).map fun r : Nat => foldAt opMax l ((r : Int) + 1)) (foldAt opMax l ((i : Int) + 1))
          rw [← range_map_snoc (fun r : Nat => foldAt opMax l ((r : Int) + 1)), hfo] at hes
          clear hfo
          generalize ((l.drop 1).take p).foldl (fun n v => opMax n (atV v.zs ((i : Int) + 1))) (atV vzs ((i : Int) + 1)) = x at hes ⊢
          have Hes := Lib.hid hes; clear hes
          go_wp2_with (at_builtin; refine wpList_append_new rfl (.tmp 39) (.tmp 41) _ rfl w.heap.size 3 i0 (.int .i64 0) 1 8 Try.underlying26 hi hz0 hz1 hz2 rfl (by decide) _ _ _ rfl Hown.out 1 1 [.int .i64 x] rfl rfl (by simp [Value.oneCell']) (by unfold maxLen; omega) (by omega) Hbw.out.size ?_; intro v1 w1 hown1 hbw1 _ _; have Hown1 := Lib.hid hown1; have Hbw1 := Lib.hid (Hbw.out.trans hbw1); clear hown1 hbw1)
          go_roundw
          case rel => exact ⟨i + 1, by omega, by go_num, by rw [Hes.out]; exact Hown1.out, Hbw1.out⟩
          case measure => simp [intOf]; omega
    · obtain rfl : i = q := by omega
      obtain ⟨oA, oc, rfl, hov⟩ := Vec.of_own Hown.out
      have hjl : joinV opMax l = trimL ((List.range i).map fun r : Nat => foldAt opMax l ((r : Int) + 1)) := by unfold joinV; rw [HM.out]
      have Hjl := Lib.hid hjl; clear hjl
      have Hov := Lib.hid hov; clear hov
      go_wp2_with fail
      refine (long_any _ _ _ _ _ _ (H.out.below Hbw.out) hn).mono ?_
      rintro e w1 ⟨rfl, rfl⟩
      rw [HM.out]
      go_wp2_with fail
      refine (trim_ref _ _ _ _ _ Hov.out (by omega)).mono ?_
      rintro e w1 ⟨v, rfl, hown1, hbw1⟩
      have Hown1 := Lib.hid hown1; clear hown1
      have Hbw1 := Lib.hid hbw1; clear hbw1
      go_wp2
      go_ret
      exact ⟨v, rfl, by rw [Hjl.out]; exact owns_low Hown1.out Hbw.out.size, Hbw.out.trans (Hbw1.out.mono Hbw.out.size)⟩
end Go.Proofs.Ytedkcpncomgboaa.joinr
