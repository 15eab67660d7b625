/- A chain of own rows, each in blocks of its own. -/
import Derived.Test.YtfpknghbjniepaaPair
import Derived.Test.YtfpknghbjniepaaWith
namespace Go.Proofs.Ytfpknghbjniepaa.own
open Go.RowKit Go.Proofs.Ytfpknghbjniepaa.base Go.Proofs.Ytfpknghbjniepaa.vec Go.Proofs.Ytfpknghbjniepaa.ref Go.Proofs.Ytfpknghbjniepaa.made Go.Proofs.Ytfpknghbjniepaa.all_ Go.Proofs.Ytfpknghbjniepaa.lit Go.Proofs.Ytfpknghbjniepaa.plain Go.Proofs.Ytfpknghbjniepaa.pair Go.Proofs.Ytfpknghbjniepaa.with_

def Chain (W : World) (T : Nat) : Nat → List Value → Prop
  | _, [] => True
  | s, v :: vs => ∃ n xs s', W.ownsRow s 3 1 v n xs ∧ n ≤ 1000 ∧ (∀ g, v.ownBlock = some g → g < s') ∧ s ≤ s' ∧ s' ≤ T ∧ Chain W T s' vs
theorem own_keep {X : Nat → Prop} {w w' : World} {base : Nat} {e : TypeId} {size n : Nat} {v : Value} {xs : List Value} (h : w.ownsRow base e size v n xs) (hk : Keeps X w w') (hx : ∀ g, base ≤ g → g < w.heap.size → ¬ X g) : w'.ownsRow base e size v n xs :=
  ⟨h.1, h.2.imp id fun ⟨g, cap, cur, e, h1, h2, r⟩ => ⟨g, cap, cur, e, h1, (hk.block g (heap_lt h2) (hx g h1 (heap_lt h2))).trans h2, r⟩⟩
theorem Chain.keep {W W' : World} {T : Nat} {X : Nat → Prop} (hk : Keeps X W W') : ∀ (s : Nat) (vs : List Value), Chain W T s vs → (∀ g, s ≤ g → g < W.heap.size → ¬ X g) → Chain W' T s vs
  | _, [], _, _ => trivial
  | s, v :: vs, ⟨n, xs, s', h1, h2, h3, h4, h5, h6⟩, hx => ⟨n, xs, s', own_keep h1 hk hx, h2, h3, h4, h5, Chain.keep hk s' vs h6 (fun g hg => hx g (by omega))⟩
theorem Chain.one {W : World} {T s s' n : Nat} {v : Value} {xs : List Value} {vs : List Value} (h : W.ownsRow s 3 1 v n xs) (hn : n ≤ 1000) (hs : s ≤ s') (hT : s' ≤ T) (hl : ∀ g, v.ownBlock = some g → g < s') (hc : Chain W T s' vs) : Chain W T s (v :: vs) :=
  ⟨n, xs, s', h, hn, hl, hs, hT, hc⟩
theorem trim_le (zs : List Int) : (trimL zs).length ≤ zs.length := by rw [trim_len]; exact trimN_le _ _
theorem with_le (zs : List Int) (r n : Int) : (withL zs r n).length ≤ max zs.length 16 := by
  unfold withL
  split
  · have h := trim_le (setL zs (r.toNat - 1) n)
    rw [setL_len] at h
    omega
  · have := trim_le zs; omega
theorem join_le (op : Int → Int → Int) (l : List V) : (joinV op l).length ≤ most l := by
  unfold joinV
  have := trim_le ((List.range (most l)).map fun r : Nat => foldAt op l ((r : Int) + 1))
  simpa using this
theorem own_lt {w : World} {base : Nat} {e : TypeId} {size n : Nat} {v : Value} {xs : List Value} (h : w.ownsRow base e size v n xs) : ∀ g, v.ownBlock = some g → g < w.heap.size := fun g hg => (h.lt g hg).2
theorem ownsRow_some {w : World} {base : Nat} {e : TypeId} {size : Nat} {v : Value} {n : Nat} {xs : List Value} (h : w.ownsRow base e size v n xs) (hn : 0 < n) : ∃ g c, v = .slice (some ⟨g, 0, none⟩) n c := by
  rcases h.2 with ⟨rfl, rfl⟩ | ⟨g, cap, _, rfl, _⟩
  · omega
  · exact ⟨g, cap, rfl⟩
theorem own_cell {w : World} {base : Nat} {e : TypeId} {g n c m : Nat} {ys : List Value} (h : w.ownsRow base e 1 (.slice (some ⟨g, 0, none⟩) n c) n ys) (hm : m < n) :
    (∃ u, w.cell? ⟨g, m, none⟩ = some u) ∧ w.frozen? ⟨g, m, none⟩ = false ∧ g < w.heap.size := by
  have hl := h.1
  rcases h.2 with ⟨e, _⟩ | ⟨g', cap, cur, e, _, hb, h1, h2, h3, h4⟩
  · cases e
  · injection e with e1 e2 e3
    injection e1 with e1
    injection e1 with e1
    subst e1
    have hB : Blk w g _ cur := hb
    refine ⟨⟨ys[m]'(by omega), ?_⟩, hB.frozen m, hB.lt⟩
    rw [hB.cell]
    have : ys[m]'(by omega) = cur.toList[m]'(by simp; omega) := by
      subst h4
      simp
    rw [this]
    simp
theorem own_store {w : World} {base : Nat} {e : TypeId} {g n c : Nat} {ys : List Value} (h : w.ownsRow base e 1 (.slice (some ⟨g, 0, none⟩) n c) n ys) (m : Nat) (u : Value) :
    (w.setCell ⟨g, m, none⟩ u).ownsRow base e 1 (.slice (some ⟨g, 0, none⟩) n c) n (ys.set m u) := by
  exact (h.stored m u).1
def Made (w : World) (e : Ending) (w' : World) : Prop := ∃ v n, e = .returned v ∧ (∃ xs, w'.ownsRow w.heap.size 3 1 v n xs) ∧ n ≤ 1000 ∧ Below w.heap.size w w'
theorem join1 (w : World) (u : V) (g : Nat) (hg : g = w.heap.size) (hu : Vec w w.heap.size u.A u.len u.cap u.zs) (lu : u.len ≤ 1000) :
    Calls Try.prog 16 #[.slice (some ⟨g, 0, none⟩) 1 1] (w.alloc (.cells #[.slice u.A u.len u.cap] 32)) (Made w) := by
  have h := vecs_lit w (g := g) 32 [u] hg (by simp) (by
    intro x hx
    simp only [List.mem_cons, List.not_mem_nil, or_false] at hx
    subst hx
    · exact ⟨hu, by omega⟩)
  refine (join_any _ 1 1 _ _ h (by omega)).mono ?_
  rintro e w' ⟨x, rfl, hown, hb⟩
  have hl := join_le opMax [u]
  have hm : most [u] = max 0 u.len := rfl
  exact ⟨x, _, rfl, ⟨_, owns_low hown (by simp)⟩, by omega, below_step (below_new w _) hb⟩
theorem join2 (w : World) (u v : V) (g : Nat) (hg : g = w.heap.size) (hu : Vec w w.heap.size u.A u.len u.cap u.zs) (lu : u.len ≤ 1000) (hv : Vec w w.heap.size v.A v.len v.cap v.zs) (lv : v.len ≤ 1000) :
    Calls Try.prog 16 #[.slice (some ⟨g, 0, none⟩) 2 2] (w.alloc (.cells #[.slice u.A u.len u.cap, .slice v.A v.len v.cap] 32)) (Made w) := by
  have h := vecs_lit w (g := g) 32 [u, v] hg (by simp) (by
    intro x hx
    simp only [List.mem_cons, List.not_mem_nil, or_false] at hx
    rcases hx with rfl | rfl
    · exact ⟨hu, by omega⟩
    · exact ⟨hv, by omega⟩)
  refine (join_any _ 2 2 _ _ h (by omega)).mono ?_
  rintro e w' ⟨x, rfl, hown, hb⟩
  have hl := join_le opMax [u, v]
  have hm : most [u, v] = max (max 0 u.len) v.len := rfl
  exact ⟨x, _, rfl, ⟨_, owns_low hown (by simp)⟩, by omega, below_step (below_new w _) hb⟩
theorem least1 (w : World) (u : V) (g : Nat) (hg : g = w.heap.size) (hu : Vec w w.heap.size u.A u.len u.cap u.zs) (lu : u.len ≤ 1000) :
    Calls Try.prog 19 #[.slice (some ⟨g, 0, none⟩) 1 1] (w.alloc (.cells #[.slice u.A u.len u.cap] 32)) (Made w) := by
  have h := vecs_lit w (g := g) 32 [u] hg (by simp) (by
    intro x hx
    simp only [List.mem_cons, List.not_mem_nil, or_false] at hx
    subst hx
    · exact ⟨hu, by omega⟩)
  refine (least_any _ 1 1 _ _ h (by omega)).mono ?_
  rintro e w' ⟨x, rfl, hown, hb⟩
  have hl := join_le opMin [u]
  have hm : most [u] = max 0 u.len := rfl
  exact ⟨x, _, rfl, ⟨_, owns_low hown (by simp)⟩, by omega, below_step (below_new w _) hb⟩
theorem least2 (w : World) (u v : V) (g : Nat) (hg : g = w.heap.size) (hu : Vec w w.heap.size u.A u.len u.cap u.zs) (lu : u.len ≤ 1000) (hv : Vec w w.heap.size v.A v.len v.cap v.zs) (lv : v.len ≤ 1000) :
    Calls Try.prog 19 #[.slice (some ⟨g, 0, none⟩) 2 2] (w.alloc (.cells #[.slice u.A u.len u.cap, .slice v.A v.len v.cap] 32)) (Made w) := by
  have h := vecs_lit w (g := g) 32 [u, v] hg (by simp) (by
    intro x hx
    simp only [List.mem_cons, List.not_mem_nil, or_false] at hx
    rcases hx with rfl | rfl
    · exact ⟨hu, by omega⟩
    · exact ⟨hv, by omega⟩)
  refine (least_any _ 2 2 _ _ h (by omega)).mono ?_
  rintro e w' ⟨x, rfl, hown, hb⟩
  have hl := join_le opMin [u, v]
  have hm : most [u, v] = max (max 0 u.len) v.len := rfl
  exact ⟨x, _, rfl, ⟨_, owns_low hown (by simp)⟩, by omega, below_step (below_new w _) hb⟩
end Go.Proofs.Ytfpknghbjniepaa.own
