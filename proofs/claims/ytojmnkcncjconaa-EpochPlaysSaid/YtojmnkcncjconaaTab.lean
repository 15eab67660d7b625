/- The walks of package epoch's table. -/
import Derived.Test.YtojmnkcncjconaaList
import Derived.Test.YtojmnkcncjconaaErr
namespace Go.Proofs.Ytojmnkcncjconaa.tab
open Go.RowKit Go.Proofs.Ytojmnkcncjconaa.base Go.Proofs.Ytojmnkcncjconaa.list Go.Proofs.Ytojmnkcncjconaa.err Go.Maps Go.ChangeMaps

theorem zero_int (w : World) : (zeroValue 3).run Try.prog w = .ok (.int .i64 0) w := by kernel_rfl
theorem keyed : Keyed Try.prog 9 := string_keyed Try.underlying9
theorem key_of {u : ByteArray} (hu : u.size ≤ maxLen) : keyOf Try.prog 9 (.string u) = some (.string u.data.toList) := Go.WideMaps.keyOf_string_mk Try.underlying9 hu
/-- Block b is a map that reads as the list. -/
def MapL (w : World) (b : Nat) (L : List Ep) : Prop := w.ownsMap Try.prog 9 (plainElem (H := Unit) Try.prog 3) b L.length (dm L) ∧ Rising L
/-- A table at block g, its map at block b. -/
def Tab (w : World) (g b : Nat) (L : List Ep) : Prop := Blk w g 63 #[.map (some b)] ∧ MapL w b L
section
variable {w w' : World} {g b : Nat} {L : List Ep}
theorem own_exact {n : Nat} (h : w.ownsMap Try.prog 9 (plainElem (H := Unit) Try.prog 3) b n (dm L)) : w.ownsMap Try.prog 9 (plainElem (H := Unit) Try.prog 3) b L.length (dm L) := by
  obtain ⟨es, clock, hb, F, hs, hD⟩ := h
  refine ⟨es, clock, hb, F, ?_, hD⟩
  have h1 : Maps.size (dm L) = es.size := by
    rw [hD]
    simp [Maps.size, length_sorted]
  rw [size_dm] at h1
  omega
theorem MapL.lt (h : MapL w b L) : b < w.heap.size := h.1.lt
theorem MapL.keeps {X : Nat → Prop} (h : MapL w b L) (hk : Keeps X w w') (hx : ¬ X b) : MapL w' b L := by
  obtain ⟨⟨es, clock, hb, F, hs, hD⟩, hr⟩ := h
  exact ⟨⟨es, clock, (hk.block b (heap_lt hb) hx).trans hb, F, hs, hD⟩, hr⟩
theorem MapL.below (h : MapL w b L) (hk : Below w.heap.size w w') : MapL w' b L := h.keeps (X := nobody) (.of_below hk) (fun h => h)
theorem Tab.keeps {X : Nat → Prop} (h : Tab w g b L) (hk : Keeps X w w') (hg : ¬ X g) (hb : ¬ X b) : Tab w' g b L := ⟨h.1.keeps hk hg, h.2.keeps hk hb⟩
theorem Tab.below (h : Tab w g b L) (hk : Below w.heap.size w w') : Tab w' g b L := h.keeps (X := nobody) (.of_below hk) (fun h => h) (fun h => h)
theorem MapL.look (h : MapL w b L) {u : ByteArray} (hu : u.size ≤ maxLen) : (Instr.lookup 61 (.map (some b)) (.string u) false).run Try.prog w = .ok (.int .i64 (getL L u)) w := by
  obtain ⟨c, hrun, hat, _⟩ := h.1.lookup_int keyed Try.underlying61 Try.underlying3 (zero_int w) (key_of hu)
  rw [at_dm] at hat
  have e : getL L u = c := by
    have := congrArg (fun d : DataW Unit => match d with | .lit (.int _ n) => n | _ => 0) hat
    exact this
  rw [hrun, e]
theorem MapL.put (h : MapL w b L) {u : ByteArray} (hu : u.size ≤ maxLen) {n : Int} (hn : (Lit.int .i64 n).wf = true) (hl : L.length ≤ 1000000) :
    ∃ w', (Instr.mapUpdate 61 (.map (some b)) (.string u) (.int .i64 n)).run Try.prog w = .ok () w' ∧ MapL w' b (putL L u n) ∧ Keeps (· = b) w w' := by
  obtain ⟨w', hrun, hown, hg⟩ := h.1.update keyed Try.underlying61 (by unfold maxLen; omega) (key_of hu) (plainElem_int Try.underlying3 hn)
  rw [put_dm L h.2] at hown
  exact ⟨w', hrun, ⟨own_exact hown, (rising_put L u n h.2).1⟩, .grown hg (fun g hg => .inl (by simpa using hg.symm))⟩
theorem MapL.new (w : World) : MapL (w.alloc (.map #[] 0)) w.heap.size [] := ⟨World.ownsMap_made _ _ _ _, trivial⟩
theorem MapL.len (h : MapL w b L) : (Builtin.len_ #[61] 3 #[.map (some b)]).run Try.prog w = .ok (.int .i64 L.length) w := by
  have := h.1.len Try.underlying61 3
  rw [size_dm] at this
  exact this
end
theorem bad_any (c : Int) (w : World) : Calls Try.prog 27 #[.int .i64 c] w (ErrNew c w) := by
  go_enter Try.func27, Try.ntmps27
  go_wp2_with fail
  refine (at_any _ _ _ _).mono ?_
  rintro e w1 ⟨v, rfl, h1, h2, h3, h4⟩
  have H := Lib.hid (⟨v, rfl, h1, h2, h3, h4⟩ : ErrNew c w (.returned v) w1)
  clear h1 h2 h3 h4
  go_wp2
  go_ret
  exact H.out
theorem get_any (g b : Nat) (L : List Ep) (u : ByteArray) (w : World) (h : Tab w g b L) (hu : u.size ≤ maxLen) : Calls Try.prog 14 #[.pointer (some ⟨g, 0, none⟩), .string u] w fun e w' => e = .returned (.int .i64 (getL L u)) ∧ w = w' := by
  have h0 : w.cell? ⟨g, 0, none⟩ = some (.map (some b)) := h.1.cell 0
  have hk := h.2.look hu
  clear h hu
  go_enter Try.func14, Try.ntmps14
  go_wp2
  go_ret
  exact ⟨rfl, rfl⟩
theorem get_nil (u : ByteArray) (w : World) : Calls Try.prog 14 #[.pointer none, .string u] w fun e w' => e = .returned (.int .i64 0) ∧ w = w' := by
  go_enter Try.func14, Try.ntmps14
  go_wp2
  go_ret
  exact ⟨rfl, rfl⟩
def right (u : ByteArray) (n : Int) : Bool := decide (1 ≤ u.size ∧ u.size ≤ 32 ∧ 1 ≤ n ∧ n ≤ 1099511627776)
def canC (L : List Ep) (u : ByteArray) (n : Int) : Int := if right u n then (if getL L u = 0 ∧ 64 ≤ L.length then 4 else 0) else 1
/-- Nothing, or an error of a code; nothing that was there is written. -/
def Can (c : Int) (w : World) (e : Ending) (w' : World) : Prop := ∃ v, e = .returned v ∧ EO w' v c ∧ Below w.heap.size w w'
theorem can_nil (u : ByteArray) (n : Int) (w : World) : Calls Try.prog 22 #[.pointer none, .string u, .int .i64 n] w (Can 1 w) := by
  go_enter Try.func22, Try.ntmps22
  go_wp2_with fail
  refine (bad_any _ _).mono ?_
  rintro e w1 ⟨v, rfl, h1, h2, h3, h4⟩
  have H := Lib.hid (⟨v, rfl, .inr ⟨by decide, h1, h2⟩, h3⟩ : Can 1 w (.returned v) w1)
  clear h1 h2 h3 h4
  go_wp2
  go_ret
  exact H.out
set_option maxRecDepth 100000 in
set_option maxHeartbeats 800000 in
theorem can_any (g b : Nat) (L : List Ep) (u : ByteArray) (n : Int) (w : World) (h : Tab w g b L) (hu : u.size ≤ maxLen) (hl : L.length ≤ 1000000) :
    Calls Try.prog 22 #[.pointer (some ⟨g, 0, none⟩), .string u, .int .i64 n] w (Can (canC L u n) w) := by
  have h0 : w.cell? ⟨g, 0, none⟩ = some (.map (some b)) := h.1.cell 0
  have hk := h.2.look hu
  have hn := h.2.len
  clear h hu
  by_cases hr : right u n = true
  · have hr' := hr
    unfold right at hr'
    have hc : canC L u n = if getL L u = 0 ∧ 64 ≤ L.length then 4 else 0 := if_pos hr
    obtain ⟨r1, r2, r3, r4⟩ := of_decide_eq_true hr'
    clear hr hr'
    by_cases hf : getL L u = 0 ∧ 64 ≤ L.length
    · rw [if_pos hf] at hc
      rw [hc]
      obtain ⟨hf1, hf2⟩ := hf
      rw [hf1] at hk
      clear hc hf1
      go_enter Try.func22, Try.ntmps22
      go_wp2_with fail
      refine (bad_any _ _).mono ?_
      rintro e w1 ⟨v, rfl, h1, h2, h3, h4⟩
      have H := Lib.hid (⟨v, rfl, .inr ⟨by decide, h1, h2⟩, h3⟩ : Can 4 w (.returned v) w1)
      clear h1 h2 h3 h4
      go_wp2
      go_ret
      exact H.out
    · rw [if_neg hf] at hc
      rw [hc]
      generalize getL L u = z at *
      clear hc
      by_cases hz : z = 0
      · have hl2 : L.length < 64 := by omega
        clear hf
        subst hz
        go_enter Try.func22, Try.ntmps22
        go_wp2
        go_ret
        exact ⟨_, rfl, .nil _, .refl _ _⟩
      · clear hf
        have hz' : (z == 0) = false := by simpa using hz
        go_enter Try.func22, Try.ntmps22
        go_wp2
        go_ret
        exact ⟨_, rfl, .nil _, .refl _ _⟩
  · have hc : canC L u n = 1 := if_neg hr
    rw [hc]
    clear hc
    unfold right at hr
    have hw : u.size < 1 ∨ (1 ≤ u.size ∧ 32 < u.size) ∨ (1 ≤ u.size ∧ u.size ≤ 32 ∧ n < 1) ∨ (1 ≤ u.size ∧ u.size ≤ 32 ∧ 1 ≤ n ∧ 1099511627776 < n) := by
      simp at hr; omega
    clear hr hk hn
    rcases hw with hw | ⟨hw, hw2⟩ | ⟨hw, hw2, hw3⟩ | ⟨hw, hw2, hw3, hw4⟩
    all_goals
      go_enter Try.func22, Try.ntmps22
      go_wp2_with fail
      refine (bad_any _ _).mono ?_
      rintro e w1 ⟨v, rfl, h1, h2, h3, h4⟩
      have H := Lib.hid (⟨v, rfl, .inr ⟨by decide, h1, h2⟩, h3⟩ : Can 1 w (.returned v) w1)
      clear h1 h2 h3 h4
      go_wp2
      go_ret
      exact H.out

/-- What a table may be. -/
def GoodL (L : List Ep) : Prop := Rising L ∧ L.length ≤ 64 ∧ ∀ e ∈ L, right e.u e.n = true
theorem get_bd {L : List Ep} (h : ∀ e ∈ L, right e.u e.n = true) (u : ByteArray) : 0 ≤ getL L u ∧ getL L u ≤ 1099511627776 := by
  induction L with
  | nil => simp [getL]
  | cons e L ih =>
    simp only [getL]
    have h1 := h e (by simp)
    unfold right at h1
    have h2 := of_decide_eq_true h1
    have h3 := ih (fun f hf => h f (by simp [hf]))
    split <;> omega
theorem put_len (L : List Ep) (u : ByteArray) (n : Int) : (putL L u n).length ≤ L.length + 1 := by
  induction L with
  | nil => simp [putL]
  | cons e L ih =>
    simp only [putL]
    split
    · simp
    · split
      · simp
      · simp; omega
theorem get_above (L : List Ep) (u : ByteArray) (h : ∀ e ∈ L, bl u e.u = true) : getL L u = 0 := by
  induction L with
  | nil => rfl
  | cons e L ih =>
    simp only [getL]
    have h1 := h e (by simp)
    rw [eqb_false (fun he => by rw [he] at h1; rw [bl_irr] at h1; cases h1)]
    exact ih (fun f hf => h f (by simp [hf]))
theorem put_same (L : List Ep) (u : ByteArray) (n : Int) (hr : Rising L) (h : getL L u ≠ 0) : (putL L u n).length = L.length := by
  induction L with
  | nil => simp [getL] at h
  | cons e L ih =>
    obtain ⟨h1, h2⟩ := hr
    simp only [putL]
    rcases bl_tri u e.u with ⟨hh, h3, h4⟩ | ⟨hh, h3, h4⟩ | ⟨hh, h3, h4⟩
    · subst hh; simp [h3, eqb_self]
    · exfalso
      apply h
      refine get_above _ _ (fun f hf => ?_)
      rcases List.mem_cons.1 hf with rfl | hf
      · exact h3
      · exact bl_trans h3 (h1 f hf)
    · simp only [h3, eqb_false hh, Bool.false_eq_true, if_false, List.length_cons]
      simp only [getL, eqb_false (fun e => hh e.symm), Bool.false_eq_true, if_false] at h
      rw [ih h2 h]
theorem good_put {L : List Ep} {u : ByteArray} {n : Int} (h : GoodL L) (hc : canC L u n = 0) : GoodL (putL L u n) ∧ right u n = true := by
  obtain ⟨h1, h2, h3⟩ := h
  unfold canC at hc
  by_cases hr : right u n = true
  · rw [if_pos hr] at hc
    refine ⟨⟨(rising_put L u n h1).1, ?_, fun e he => ?_⟩, hr⟩
    · by_cases h0 : getL L u = 0
      · have hl : ¬ 64 ≤ L.length := fun h => by rw [if_pos ⟨h0, h⟩] at hc; cases hc
        have := put_len L u n
        omega
      · rw [put_same L u n h1 h0]; exact h2
    · rcases mem_put L u n e he with rfl | h
      · exact hr
      · exact h3 e h
  · rw [if_neg hr] at hc; cases hc
theorem wf_right {u : ByteArray} {n : Int} (h : right u n = true) : (Lit.int .i64 n).wf = true := by
  have := of_decide_eq_true h
  simp [Lit.wf, IntKind.min, IntKind.max, IntKind.bits, IntKind.signed]
  omega
def RaiseNo (c : Int) (w : World) (e : Ending) (w' : World) : Prop := ∃ v, e = .returned (.tuple #[.int .i64 0, v]) ∧ EO w' v c ∧ v ≠ .nilIface ∧ Below w.heap.size w w'
theorem raise_nil (u : ByteArray) (w : World) : Calls Try.prog 16 #[.pointer none, .string u] w (RaiseNo 1 w) := by
  go_enter Try.func16, Try.ntmps16
  go_wp2_with fail
  refine (get_nil _ _).mono ?_
  rintro e w1 ⟨rfl, rfl⟩
  go_wp2_with fail
  refine (can_nil _ _ _).mono ?_
  rintro e w1 ⟨v, rfl, he, hb⟩
  have hne : v ≠ .nilIface := by rcases he with ⟨h, _⟩ | ⟨_, _, h⟩; cases h; exact h
  have H := Lib.hid (⟨v, rfl, he, hne, hb⟩ : RaiseNo 1 w (.returned (.tuple #[.int .i64 0, v])) w1)
  obtain ⟨q, rfl⟩ := EO.form he (by decide)
  clear he hb hne
  go_wp2
  go_ret2
  exact H.out
set_option maxHeartbeats 800000 in
theorem raise_no (g b : Nat) (L : List Ep) (u : ByteArray) (w : World) (h : Tab w g b L) (hG : GoodL L) (hu : u.size ≤ maxLen) (hc : canC L u (getL L u + 1) ≠ 0) :
    Calls Try.prog 16 #[.pointer (some ⟨g, 0, none⟩), .string u] w (RaiseNo (canC L u (getL L u + 1)) w) := by
  have Hu := Lib.hid hu; clear hu
  obtain ⟨b1, b2⟩ := get_bd hG.2.2 u
  have hl := hG.2.1
  have H := Lib.hid h
  have Hc := Lib.hid hc
  have HG := Lib.hid hG
  clear h hc hG
  generalize hz : getL L u = z at *
  have Hz := Lib.hid hz; clear hz
  go_enter Try.func16, Try.ntmps16
  go_wp2_with fail
  refine (get_any _ _ _ _ _ H.out Hu.out).mono ?_
  rintro e w1 ⟨rfl, rfl⟩
  rw [Hz.out]
  go_wp2_with fail
  refine (can_any _ _ _ _ _ _ H.out Hu.out (by omega)).mono ?_
  rintro e w1 ⟨v, rfl, he, hb⟩
  have hne : v ≠ .nilIface := by rcases he with ⟨h, _⟩ | ⟨_, _, h⟩; exact absurd h Hc.out; exact h
  have HH := Lib.hid (⟨v, rfl, he, hne, hb⟩ : RaiseNo (canC L u (z + 1)) w (.returned (.tuple #[.int .i64 0, v])) w1)
  obtain ⟨q, rfl⟩ := EO.form he Hc.out
  clear he hb hne
  go_wp2
  go_ret2
  exact HH.out
set_option maxHeartbeats 800000 in
theorem raise_yes (g b : Nat) (L : List Ep) (u : ByteArray) (w : World) (h : Tab w g b L) (hG : GoodL L) (hu : u.size ≤ maxLen) (hc : canC L u (getL L u + 1) = 0) :
    Calls Try.prog 16 #[.pointer (some ⟨g, 0, none⟩), .string u] w fun e w' => e = .returned (.tuple #[.int .i64 (getL L u + 1), .nilIface]) ∧ Tab w' g b (putL L u (getL L u + 1)) ∧ Keeps (fun i => w.heap.size ≤ i ∨ i = b) w w' := by
  have Hu := Lib.hid hu; clear hu
  obtain ⟨b1, b2⟩ := get_bd hG.2.2 u
  have hl := hG.2.1
  have hwf := wf_right (good_put hG hc).2
  have H := Lib.hid h
  have Hc := Lib.hid hc
  have HG := Lib.hid hG
  clear h hc hG
  generalize hz : getL L u = z at *
  have Hz := Lib.hid hz; clear hz
  go_enter Try.func16, Try.ntmps16
  go_wp2_with fail
  refine (get_any _ _ _ _ _ H.out Hu.out).mono ?_
  rintro e w1 ⟨rfl, rfl⟩
  rw [Hz.out]
  go_wp2_with fail
  refine (can_any _ _ _ _ _ _ H.out Hu.out (by omega)).mono ?_
  rintro e w1 ⟨v, rfl, he, hb⟩
  have hv : v = .nilIface := by rcases he with ⟨_, h⟩ | ⟨h, _⟩; exact h; exact absurd Hc.out h
  subst hv
  have h2 := H.out.below hb
  obtain ⟨w2, hrun, hm, hk⟩ := h2.2.put Hu.out hwf (by omega)
  have h0 : w1.cell? ⟨g, 0, none⟩ = some (.map (some b)) := h2.1.cell 0
  have hgb : g ≠ b := fun e => by
    subst e
    obtain ⟨es, clock, hb', _⟩ := h2.2.1
    have := h2.1
    unfold Blk at this
    rw [hb'] at this; cases this
  have hfin : Tab w2 g b (putL L u (z + 1)) := ⟨h2.1.keeps hk hgb, hm⟩
  have hkk : Keeps (fun i => w.heap.size ≤ i ∨ i = b) w w2 := (Keeps.of_below hb).trans (hk.more (fun i _ h => .inr h))
  have Hfin := Lib.hid hfin
  have Hkk := Lib.hid hkk
  clear hfin hkk
  clear he hb h2 hm hk
  go_wp2
  go_ret2
  exact ⟨rfl, Hfin.out, Hkk.out⟩

def LearnNo (c : Int) (w : World) (e : Ending) (w' : World) : Prop := ∃ v, e = .returned (.tuple #[.bool false, v]) ∧ EO w' v c ∧ Below w.heap.size w w'
theorem learn_nil (u : ByteArray) (n : Int) (w : World) : Calls Try.prog 12 #[.pointer none, .string u, .int .i64 n] w (LearnNo 1 w) := by
  go_enter Try.func12, Try.ntmps12
  go_wp2_with fail
  refine (can_nil _ _ _).mono ?_
  rintro e w1 ⟨v, rfl, he, hb⟩
  have H := Lib.hid (⟨v, rfl, he, hb⟩ : LearnNo 1 w (.returned (.tuple #[.bool false, v])) w1)
  obtain ⟨q, rfl⟩ := EO.form he (by decide)
  clear he hb
  go_wp2
  go_ret2
  exact H.out
set_option maxRecDepth 100000 in
theorem learn_no (g b : Nat) (L : List Ep) (u : ByteArray) (n : Int) (w : World) (h : Tab w g b L) (hG : GoodL L) (hu : u.size ≤ maxLen) (hc : canC L u n ≠ 0) :
    Calls Try.prog 12 #[.pointer (some ⟨g, 0, none⟩), .string u, .int .i64 n] w (LearnNo (canC L u n) w) := by
  have Hu := Lib.hid hu; clear hu
  have hl := hG.2.1
  have H := Lib.hid h
  have Hc := Lib.hid hc
  have HG := Lib.hid hG
  clear h hc hG
  go_enter Try.func12, Try.ntmps12
  go_wp2_with fail
  refine (can_any _ _ _ _ _ _ H.out Hu.out (by omega)).mono ?_
  rintro e w1 ⟨v, rfl, he, hb⟩
  have HH := Lib.hid (⟨v, rfl, he, hb⟩ : LearnNo (canC L u n) w (.returned (.tuple #[.bool false, v])) w1)
  obtain ⟨q, rfl⟩ := EO.form he Hc.out
  clear he hb
  go_wp2
  go_ret2
  exact HH.out
set_option maxRecDepth 100000 in
theorem learn_old (g b : Nat) (L : List Ep) (u : ByteArray) (n : Int) (w : World) (h : Tab w g b L) (hG : GoodL L) (hu : u.size ≤ maxLen) (hc : canC L u n = 0) (hn : n ≤ getL L u) :
    Calls Try.prog 12 #[.pointer (some ⟨g, 0, none⟩), .string u, .int .i64 n] w (LearnNo 0 w) := by
  have Hu := Lib.hid hu; clear hu
  have hl := hG.2.1
  have H := Lib.hid h
  have Hc := Lib.hid hc
  have HG := Lib.hid hG
  clear h hc hG
  go_enter Try.func12, Try.ntmps12
  go_wp2_with fail
  refine (can_any _ _ _ _ _ _ H.out Hu.out (by omega)).mono ?_
  rintro e w1 ⟨v, rfl, he, hb⟩
  have hv : v = .nilIface := by rcases he with ⟨_, h⟩ | ⟨h, _⟩; exact h; exact absurd Hc.out h
  subst hv
  have h2 := H.out.below hb
  have hk := h2.2.look Hu.out
  have h0 : w1.cell? ⟨g, 0, none⟩ = some (.map (some b)) := h2.1.cell 0
  have HH := Lib.hid (⟨.nilIface, rfl, .nil _, hb⟩ : LearnNo 0 w (.returned (.tuple #[.bool false, .nilIface])) w1)
  clear he hb h2
  go_wp2
  go_ret2
  exact HH.out
set_option maxRecDepth 100000 in
theorem learn_new (g b : Nat) (L : List Ep) (u : ByteArray) (n : Int) (w : World) (h : Tab w g b L) (hG : GoodL L) (hu : u.size ≤ maxLen) (hc : canC L u n = 0) (hn : ¬ n ≤ getL L u) :
    Calls Try.prog 12 #[.pointer (some ⟨g, 0, none⟩), .string u, .int .i64 n] w fun e w' => e = .returned (.tuple #[.bool true, .nilIface]) ∧ Tab w' g b (putL L u n) ∧ Keeps (fun i => w.heap.size ≤ i ∨ i = b) w w' := by
  have Hu := Lib.hid hu; clear hu
  have hl := hG.2.1
  have hwf := wf_right (good_put hG hc).2
  have H := Lib.hid h
  have Hc := Lib.hid hc
  have HG := Lib.hid hG
  clear h hc hG
  go_enter Try.func12, Try.ntmps12
  go_wp2_with fail
  refine (can_any _ _ _ _ _ _ H.out Hu.out (by omega)).mono ?_
  rintro e w1 ⟨v, rfl, he, hb⟩
  have hv : v = .nilIface := by rcases he with ⟨_, h⟩ | ⟨h, _⟩; exact h; exact absurd Hc.out h
  subst hv
  have h2 := H.out.below hb
  have hk := h2.2.look Hu.out
  obtain ⟨w2, hrun, hm, hkp⟩ := h2.2.put Hu.out hwf (by omega)
  have h0 : w1.cell? ⟨g, 0, none⟩ = some (.map (some b)) := h2.1.cell 0
  have hgb : g ≠ b := fun e => by
    subst e
    obtain ⟨es, clock, hb', _⟩ := h2.2.1
    have := h2.1
    unfold Blk at this
    rw [hb'] at this; cases this
  have hfin : Tab w2 g b (putL L u n) := ⟨h2.1.keeps hkp hgb, hm⟩
  have hkk : Keeps (fun i => w.heap.size ≤ i ∨ i = b) w w2 := (Keeps.of_below hb).trans (hkp.more (fun i _ h => .inr h))
  have Hfin := Lib.hid hfin
  have Hkk := Lib.hid hkk
  clear hfin hkk
  clear he hb h2 hm hkp
  go_wp2
  go_ret2
  exact ⟨rfl, Hfin.out, Hkk.out⟩
theorem list_nil (w : World) : Calls Try.prog 13 #[.pointer none] w fun e w' => e = .returned (.slice none 0 0) ∧ w = w' := by
  go_enter Try.func13, Try.ntmps13
  go_wp2
  go_ret
  exact ⟨rfl, rfl⟩
end Go.Proofs.Ytojmnkcncjconaa.tab
