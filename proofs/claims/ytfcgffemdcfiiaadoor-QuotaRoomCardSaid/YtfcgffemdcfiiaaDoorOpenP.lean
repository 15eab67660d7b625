/- The plain law of the quotas: how many sessions are a region's; how that changes with a write. -/
import Derived.Test.YtfcgffemdcfiiaaDoorAwakeQ
import Derived.Test.YtfcgffemdcfiiaaDoorKeysS
namespace Go.Proofs.YtfcgffemdcfiiaaDoor.quota
open Go Go.RowKit Go.Proofs.YtfcgffemdcfiiaaDoor.base Go.Proofs.YtfcgffemdcfiiaaDoor.dec Go.Proofs.YtfcgffemdcfiiaaDoor.err Go.Proofs.YtfcgffemdcfiiaaDoor.above Go.Proofs.YtfcgffemdcfiiaaDoor.law Go.Proofs.YtfcgffemdcfiiaaDoor.merge Go.Proofs.YtfcgffemdcfiiaaDoor.rows Go.Proofs.YtfcgffemdcfiiaaDoor.store

/-- does p hold of what stands at x? -/
def oldN (p : R → Bool) (L : List R) (x : Nm) : Nat := match getL L x with | none => 0 | some d => (p (x, d)).toNat
theorem filter_cons_len (p : R → Bool) (q : R) (L : List R) : ((q :: L).filter p).length = (p q).toNat + (L.filter p).length := by
  rw [List.filter_cons]
  cases p q <;> simp <;> omega
theorem cnt_put {L : List R} (hr : Rising L) (p : R → Bool) (x : Nm) (c : C) : ((putL L x c).filter p).length + oldN p L x = (L.filter p).length + (p (x, c)).toNat := by
  induction L with
  | nil => unfold putL oldN getL; simp [List.filter_cons]; cases p (x, c) <;> rfl
  | cons q L ih =>
    obtain ⟨h1, h2⟩ := List.pairwise_cons.1 hr
    have ih := ih h2
    unfold putL
    by_cases hq : q.1 = x
    · rw [if_pos hq, filter_cons_len, filter_cons_len]
      unfold oldN
      rw [getL_cons, if_pos hq]
      have : (x, q.2) = q := Prod.ext hq.symm rfl
      dsimp only
      rw [this]
      omega
    · rw [if_neg hq]
      by_cases hlt : ltN x q.1 = true
      · rw [if_pos hlt, filter_cons_len]
        have : getL (q :: L) x = none := getL_none.2 fun y hy => by
          rcases List.mem_cons.1 hy with rfl | hy
          · exact hq
          · exact (ltN_ne (ltN_trans hlt (h1 y hy))).symm
        unfold oldN
        rw [this]
        dsimp only
        omega
      · rw [if_neg hlt, filter_cons_len, filter_cons_len]
        have : oldN p (q :: L) x = oldN p L x := by unfold oldN; rw [getL_cons, if_neg hq]
        rw [this]
        omega
open Classical in
/-- the region whose name a text is; 0: it is none's -/
noncomputable def regOf (s : ByteArray) : Nat := if h : ∃ a, ∃ b, OkN a b ∧ s.data.toList = nm a b then h.choose else 0
theorem regOf_yes {s : ByteArray} {a b : Nat} (h : OkN a b) (e : s.data.toList = nm a b) : regOf s = a := by
  have hx : ∃ a, ∃ b, OkN a b ∧ s.data.toList = nm a b := ⟨a, b, h, e⟩
  unfold regOf
  rw [dif_pos hx]
  obtain ⟨b', _, e'⟩ := hx.choose_spec
  exact (nm_inj (e.symm.trans e')).1.symm
theorem regOf_no {s : ByteArray} (h : ∀ a b, OkN a b → s.data.toList ≠ nm a b) : regOf s = 0 := by
  unfold regOf
  rw [dif_neg]
  rintro ⟨a, b, h1, h2⟩
  exact h a b h1 h2
noncomputable def ofB (r : Int) (s : ByteArray) : Bool := decide (regOf s ≠ 0) && decide ((regOf s : Int) = r)
/-- how many sessions are the region's -/
noncomputable def opensL (L : List R) (r : Int) : Nat := ((livesL L).filter (ofB r)).length
noncomputable def openB (r : Int) (x : R) : Bool := liveB x && ofB r x.1.1
theorem opens_eq (L : List R) (r : Int) : opensL L r = (L.filter (openB r)).length := by
  unfold opensL livesL
  rw [List.filter_map, List.length_map, List.filter_filter]
  congr 1
  refine List.filter_congr fun x _ => ?_
  unfold openB
  exact Bool.and_comm _ _
theorem opens_le (L : List R) (r : Int) : opensL L r ≤ L.length := by rw [opens_eq]; exact List.length_filter_le _ _
theorem opens_take {L : List R} (hr : Rising L) (r : Int) (x : Nm) (c : C) : opensL (takeL L x c) r + oldN (openB r) L x = opensL L r + (openB r (x, takeC (getL L x) c)).toNat := by
  rw [opens_eq, opens_eq]
  exact cnt_put hr _ _ _
/-! ### the law's own store: sessions of regions 3 and 2 -/
def nmB (a b : Nat) : Nm := (str (nm a b), ⟨#[]⟩)
def beg (a t : Nat) (g : Bool) : C := ⟨t, a, ⟨#[]⟩, g, 0⟩
structure RoomI (i j : Nat) (L : List R) : Prop where
  at_ : ∀ a b, OkN a b → getL L (nmB a b) = if (a = 3 ∧ b ≤ i) ∨ (a = 2 ∧ b ≤ j) then some (beg a 1 false) else none
  o3 : opensL L 3 = i
  o2 : opensL L 2 = j
  len : L.length ≤ i + j
theorem str_inj {a b : List UInt8} (h : str a = str b) : a = b := by
  have := congrArg (fun s : ByteArray => s.data.toList) h
  exact this
theorem nmB_inj {a b a' b' : Nat} (h : nmB a b = nmB a' b') : a = a' ∧ b = b' := nm_inj (str_inj (congrArg Prod.fst h))
theorem openB_nm {r : Int} {a b : Nat} (h : OkN a b) (c : C) : openB r (nmB a b, c) = (visC c && decide ((a : Int) = r)) := by
  have e : regOf (str (nm a b)) = a := regOf_yes h rfl
  unfold openB liveB ofB nmB
  dsimp only
  rw [e]
  have ha : a ≠ 0 := by unfold OkN at h; omega
  simp [ha]
theorem RoomI.nil : RoomI 0 0 [] := ⟨fun a b h => by
  rw [if_neg (by unfold OkN at h; omega)]; rfl, rfl, rfl, by simp⟩
theorem vis_beg (a : Nat) : visC (beg a 1 false) = true := rfl
theorem oldN_none {p : R → Bool} {L : List R} {x : Nm} (h : getL L x = none) : oldN p L x = 0 := by unfold oldN; rw [h]
theorem RoomI.next3 {i j : Nat} {L : List R} (hr : Rising L) (h : RoomI i j L) (hi : i < 40) : RoomI (i + 1) j (takeL L (nmB 3 (i + 1)) (beg 3 1 false)) := by
  have hok : OkN 3 (i + 1) := by unfold OkN; omega
  have hn : getL L (nmB 3 (i + 1)) = none := by rw [h.at_ _ _ hok, if_neg (by omega)]
  have hc : takeC (getL L (nmB 3 (i + 1))) (beg 3 1 false) = beg 3 1 false := by rw [hn]; rfl
  have h3 := opens_take hr 3 (nmB 3 (i + 1)) (beg 3 1 false)
  have h2 := opens_take hr 2 (nmB 3 (i + 1)) (beg 3 1 false)
  rw [hc, openB_nm hok, vis_beg, oldN_none hn] at h3 h2
  refine ⟨fun a b hab => ?_, by rw [h.o3] at h3; simpa using h3, by rw [h.o2] at h2; simpa using h2, by have := length_take L (nmB 3 (i + 1)) (beg 3 1 false); have := h.len; omega⟩
  rw [getL_take hr, hc, h.at_ a b hab]
  by_cases e : nmB a b = nmB 3 (i + 1)
  · obtain ⟨rfl, rfl⟩ := nmB_inj e
    rw [if_pos rfl, if_pos (by omega)]
  · rw [if_neg e]
    have : ¬ (a = 3 ∧ b = i + 1) := fun ⟨h1, h2⟩ => e (by rw [h1, h2])
    by_cases hx : (a = 3 ∧ b ≤ i) ∨ (a = 2 ∧ b ≤ j)
    · rw [if_pos hx, if_pos (by omega)]
    · rw [if_neg hx, if_neg (by omega)]
theorem RoomI.next2 {i j : Nat} {L : List R} (hr : Rising L) (h : RoomI i j L) (hi : j < 40) : RoomI i (j + 1) (takeL L (nmB 2 (j + 1)) (beg 2 1 false)) := by
  have hok : OkN 2 (j + 1) := by unfold OkN; omega
  have hn : getL L (nmB 2 (j + 1)) = none := by rw [h.at_ _ _ hok, if_neg (by omega)]
  have hc : takeC (getL L (nmB 2 (j + 1))) (beg 2 1 false) = beg 2 1 false := by rw [hn]; rfl
  have h3 := opens_take hr 3 (nmB 2 (j + 1)) (beg 2 1 false)
  have h2 := opens_take hr 2 (nmB 2 (j + 1)) (beg 2 1 false)
  rw [hc, openB_nm hok, vis_beg, oldN_none hn] at h3 h2
  refine ⟨fun a b hab => ?_, by rw [h.o3] at h3; simpa using h3, by rw [h.o2] at h2; simpa using h2, by have := length_take L (nmB 2 (j + 1)) (beg 2 1 false); have := h.len; omega⟩
  rw [getL_take hr, hc, h.at_ a b hab]
  by_cases e : nmB a b = nmB 2 (j + 1)
  · obtain ⟨rfl, rfl⟩ := nmB_inj e
    rw [if_pos rfl, if_pos (by omega)]
  · rw [if_neg e]
    have : ¬ (a = 2 ∧ b = j + 1) := fun ⟨h1, h2⟩ => e (by rw [h1, h2])
    by_cases hx : (a = 3 ∧ b ≤ i) ∨ (a = 2 ∧ b ≤ j)
    · rw [if_pos hx, if_pos (by omega)]
    · rw [if_neg hx, if_neg (by omega)]
/-- one is over -/
theorem RoomI.over {i j b : Nat} {L : List R} (hr : Rising L) (h : RoomI i j L) (hb : 1 ≤ b) (hbi : b ≤ i) (hi : i ≤ 40) : opensL (takeL L (nmB 3 b) (beg 3 2 true)) 3 = i - 1 := by
  have hok : OkN 3 b := by unfold OkN; omega
  have hn : getL L (nmB 3 b) = some (beg 3 1 false) := by rw [h.at_ _ _ hok, if_pos (by omega)]
  have hc : takeC (getL L (nmB 3 b)) (beg 3 2 true) = beg 3 2 true := by
    rw [hn]
    show (if above (beg 3 2 true) (beg 3 1 false) = true then beg 3 2 true else beg 3 1 false) = _
    rw [if_pos (by decide)]
  have h3 := opens_take hr 3 (nmB 3 b) (beg 3 2 true)
  have ho : oldN (openB 3) L (nmB 3 b) = 1 := by
    unfold oldN
    rw [hn]
    dsimp only
    rw [openB_nm hok, vis_beg]
    rfl
  have hv : visC (beg 3 2 true) = false := rfl
  rw [hc, openB_nm hok, hv, ho, h.o3] at h3
  simp at h3
  omega
end Go.Proofs.YtfcgffemdcfiiaaDoor.quota
