/- The plain law of StoreSame: which rows stand behind writes, in whichever order, and however often. -/
import Derived.Test.YtgfamdakjcjdkaaDoorSameS
namespace Go.Proofs.YtgfamdakjcjdkaaDoor.store
open Go Go.Proofs.YtgfamdakjcjdkaaDoor.above Go.Proofs.YtgfamdakjcjdkaaDoor.law Go.Proofs.YtgfamdakjcjdkaaDoor.merge Go.Proofs.YtgfamdakjcjdkaaDoor.rows

def appL (L : List R) (ws : List Wt) : List R := ws.foldl (fun L x => takeL L x.name x.cell) L
theorem appL_append (L : List R) (a b : List Wt) : appL L (a ++ b) = appL (appL L a) b := List.foldl_append
theorem appL_snoc (L : List R) (a : List Wt) (x : Wt) : appL L (a ++ [x]) = takeL (appL L a) x.name x.cell := by rw [appL_append]; rfl
theorem appL_up {L : List R} (h : Rising L) (ws : List Wt) : Rising (appL L ws) := by
  induction ws generalizing L with
  | nil => exact h
  | cons x ws ih => exact ih (rising_take h _ _)
theorem appL_len (L : List R) (ws : List Wt) : (appL L ws).length ≤ L.length + ws.length := by
  induction ws generalizing L with
  | nil => exact Nat.le_refl _
  | cons x ws ih =>
    have h1 := ih (takeL L x.name x.cell)
    have h2 := length_take L x.name x.cell
    show (appL (takeL L x.name x.cell) ws).length ≤ L.length + (ws.length + 1)
    omega
theorem appL_take (L : List R) (l : List Wt) (k : Nat) (hk : k < l.length) : appL L (l.take (k + 1)) = takeL (appL L (l.take k)) (l.getD k wtZ).name (l.getD k wtZ).cell := by
  rw [List.take_succ_eq_append_getElem hk, appL_snoc, List.getD_eq_getElem?_getD, List.getElem?_eq_getElem hk]; rfl
/-- o is the one of S that none is above -/
def Best (o : Option C) (S : C → Prop) : Prop := match o with | none => ∀ c, ¬ S c | some m => S m ∧ ∀ c, S c → above c m = false
theorem Best.unique {o o' : Option C} {S S' : C → Prop} (h : Best o S) (h' : Best o' S') (hs : ∀ c, S c ↔ S' c) : o = o' := by
  cases o with
  | none => cases o' with
    | none => rfl
    | some m => exact absurd ((hs m).2 h'.1) (h m)
  | some m => cases o' with
    | none => exact absurd ((hs m).1 h.1) (h' m)
    | some m' =>
      rcases above_total m m' with e | e | e
      · rw [e]
      · rw [h'.2 m ((hs m).1 h.1)] at e; cases e
      · rw [h.2 m' ((hs m').2 h'.1)] at e; cases e
theorem Best.take {o : Option C} {S : C → Prop} (h : Best o S) (c : C) : Best (some (takeC o c)) (fun d => S d ∨ d = c) := by
  cases o with
  | none =>
    refine ⟨.inr rfl, fun d hd => ?_⟩
    rcases hd with hd | rfl
    · exact absurd hd (h d)
    · exact above_irrefl _
  | some m =>
    show Best (some (if above c m = true then c else m)) _
    by_cases hc : above c m = true
    · rw [if_pos hc]
      refine ⟨.inr rfl, fun d hd => ?_⟩
      rcases hd with hd | rfl
      · rw [Bool.eq_false_iff]
        intro hd2
        have := above_trans hd2 hc
        rw [h.2 d hd] at this; cases this
      · exact above_irrefl _
    · rw [if_neg hc]
      refine ⟨.inl h.1, fun d hd => ?_⟩
      rcases hd with hd | rfl
      · exact h.2 d hd
      · simpa using hc
theorem Best.congr {o : Option C} {S S' : C → Prop} (h : Best o S) (hs : ∀ c, S c ↔ S' c) : Best o S' := by
  cases o with
  | none => exact fun c hc => h c ((hs c).2 hc)
  | some m => exact ⟨(hs m).1 h.1, fun c hc => h.2 c ((hs c).2 hc)⟩
theorem best_app {L : List R} (hr : Rising L) (ws : List Wt) (x : Nm) {S : C → Prop} (h : Best (getL L x) S) : Best (getL (appL L ws) x) (fun c => S c ∨ ∃ w ∈ ws, w.name = x ∧ w.cell = c) := by
  induction ws generalizing L S with
  | nil => exact h.congr (fun c => by simp)
  | cons y ws ih =>
    have h1 : Best (getL (takeL L y.name y.cell) x) (fun c => S c ∨ (y.name = x ∧ y.cell = c)) := by
      rw [getL_take hr]
      by_cases e : x = y.name
      · rw [if_pos e, ← e]
        exact (h.take y.cell).congr fun c => by simp [eq_comm]
      · rw [if_neg e]
        exact h.congr fun c => by simp [Ne.symm e]
    refine (ih (rising_take hr _ _) h1).congr fun c => ?_
    simp only [List.mem_cons, exists_eq_or_imp, or_assoc]
theorem best_none (x : Nm) (ws : List Wt) : Best (getL (appL [] ws) x) (fun c => ∃ w ∈ ws, w.name = x ∧ w.cell = c) :=
  (best_app rising_nil ws x (S := fun _ => False) (fun _ h => h)).congr fun c => by simp
theorem app_ext {a b : List Wt} (h : ∀ x, x ∈ a ↔ x ∈ b) : appL [] a = appL [] b :=
  rising_ext (appL_up rising_nil _) (appL_up rising_nil _) fun x => (best_none x a).unique (best_none x b) fun c => by simp only [h]
def rot (l : List Wt) (k : Nat) : List Wt := l.drop k ++ l.take k
theorem rot_len (l : List Wt) (k : Nat) (h : k ≤ l.length) : (rot l k).length = l.length := by simp [rot]; omega
theorem rot_get (l : List Wt) (k i : Nat) (h : k < l.length) (hi : i < l.length) : (rot l k).getD i wtZ = l.getD ((i + k) % l.length) wtZ := by
  unfold rot
  rw [List.getD_eq_getElem?_getD, List.getD_eq_getElem?_getD]
  by_cases hlt : i < l.length - k
  · rw [List.getElem?_append_left (by simpa using hlt), List.getElem?_drop, Nat.mod_eq_of_lt (by omega), Nat.add_comm]
  · rw [List.getElem?_append_right (by simp; omega)]
    have h1 : (i + k) % l.length = i + k - l.length := by
      rw [Nat.mod_eq_sub_mod (by omega), Nat.mod_eq_of_lt (by omega)]
    rw [h1, List.getElem?_take, List.length_drop, if_pos (by omega)]
    congr 2
    omega
theorem same_all (l : List Wt) (k : Nat) : appL [] l = appL (appL [] l.reverse) (rot l k) := by
  rw [← appL_append]
  refine app_ext fun x => ?_
  unfold rot
  have : x ∈ l ↔ x ∈ l.take k ++ l.drop k := by rw [List.take_append_drop]
  rw [List.mem_append] at this
  simp only [List.mem_append, List.mem_reverse]
  constructor
  · exact fun h => .inl h
  · rintro (h | h | h)
    · exact h
    · exact this.2 (.inr h)
    · exact this.2 (.inl h)
theorem rev_get (l : List Wt) (i : Nat) (hi : i < l.length) : l.reverse.getD i wtZ = l.getD (l.length - 1 - i) wtZ := by
  rw [List.getD_eq_getElem?_getD, List.getD_eq_getElem?_getD, List.getElem?_reverse hi]
end Go.Proofs.YtgfamdakjcjdkaaDoor.store
