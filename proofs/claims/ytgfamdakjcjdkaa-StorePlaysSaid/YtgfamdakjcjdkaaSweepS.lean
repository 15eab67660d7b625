/- Store.Sweep: what is gone for good is let go; maps.DeleteFunc by its closure. -/
import Derived.Test.YtgfamdakjcjdkaaShowS
namespace Go.Proofs.Ytgfamdakjcjdkaa.range_
open Go.RowKit Go.Proofs.Ytgfamdakjcjdkaa.base Go.Proofs.Ytgfamdakjcjdkaa.map_ Go.Maps Go.ChangeMaps Go.MapKept
section
variable {P : Program} {K T E : TypeId} {κ : Type} [DecidableEq κ] {Em : Emb P K κ} {w w' : World} {r b : Nat} {m left : List (κ × Value)}
omit [DecidableEq κ] in
theorem IterM.nodup (h : IterM Em w r b m left) : (left.map (·.1)).Nodup := by
  obtain ⟨es, clock, seen, since, c0, hb, hs, hm, hr, hold, hsc, hcl, hl, hsub⟩ := h
  have ha := apart_of hs hm
  have h1 : (es.toList.map (·.key)).Nodup := by
    have h2 := congrArg (List.map Prod.fst) hm
    rw [List.map_map, List.map_map] at h2
    have h3 : es.toList.map (·.key) = (m.map (·.1)).map Em.en := by rw [List.map_map]; exact h2
    rw [h3]
    exact List.Pairwise.map _ (fun a b h e => h (Em.inj e)) ha
  have h4 : ((leftOf es seen).toList.map (·.key)).Nodup := by
    unfold leftOf
    rw [Array.toList_filter]
    exact List.Nodup.sublist (List.Sublist.map _ List.filter_sublist) h1
  have h5 := congrArg (List.map Prod.fst) hl
  rw [List.map_map, List.map_map] at h5
  have h6 : (leftOf es seen).toList.map (·.key) = (left.map (·.1)).map Em.en := by rw [List.map_map]; exact h5
  rw [h6] at h4
  exact List.Pairwise.of_map Em.en (fun a b h e => h (by rw [e])) h4
theorem filter_erase {α : Type} (p : α → Bool) : ∀ (l : List α) (j : Nat) (a : α), l[j]? = some a → p a = false → (l.eraseIdx j).filter p = l.filter p
  | [], _, _, h, _ => by simp at h
  | x :: l, 0, a, h, hp => by
    simp at h
    subst h
    simp [hp]
  | x :: l, j + 1, a, h, hp => by
    simp at h
    rw [List.eraseIdx_cons_succ, List.filter_cons, List.filter_cons, filter_erase p l j a h hp]
theorem IterM.del (h : IterM Em w r b m left) (hok : ∀ p ∈ m, Em.ok p.1) (Kd : Keyed P K) (ht : P.underlying T = some (.map K E)) {x : κ} (hx : Em.ok x) (hn : ∀ q ∈ left, q.1 ≠ x) (ty : TypeId) :
    ∃ w', (Builtin.delete_ #[T, K] ty #[.map (some b), Em.en x]).run P w = .ok (.tuple #[]) w' ∧ IterM Em w' r b (delM m x) left ∧ MapM Em w' b (delM m x) ∧ Keeps (· = b) w w' := by
  obtain ⟨es, clock, seen, since, c0, hb, hs, hm, hr, hold, hsc, hcl, hl, hsub⟩ := h
  obtain ⟨lx, hlx⟩ := Em.key x hx
  have hne : r ≠ b := by
    rintro rfl
    rw [hr] at hb; cases hb
  have hsub' : ∀ p ∈ left, p ∈ delM m x := fun p hp => List.mem_filter.2 ⟨hsub p hp, by simpa using hn p hp⟩
  rcases find_of Kd hs hm hok w hx with ⟨h1, h2, h3⟩ | ⟨j, e, h1, h2, h3, h4, h5⟩
  · have hd : delM m x = m := List.filter_eq_self.2 fun p hp => by simpa using get_none.1 h2 p hp
    rw [hd] at hsub' ⊢
    have hb2 : (setBlock w b (.map es clock)).heap[b]? = some (.map es clock) := heap_setBlock_same hb _
    have hr2 : (setBlock w b (.map es clock)).heap[r]? = some (.mapIter (some b) since seen c0) := ((keeps_block w b _).block r (heap_lt hr) hne).trans hr
    refine ⟨setBlock w b (.map es clock), ?_, ⟨es, clock, seen, since, c0, hb2, hs, hm, hr2, hold, hsc, hcl, hl, hsub'⟩, ⟨_, _, hb2, hs, hm, hok⟩, keeps_block w b _⟩
    simp [Builtin.delete_, run_underlying ht, MapKept.run_getObj_map hb, Kd.check w _ hlx, h1, MapKept.run_setObj_map _ hb, Result.andThen, setBlock]
  · have hjl : j < es.size := by have := (List.getElem?_eq_some_iff.1 h2).1; simpa using this
    have hd : delM m x = m.eraseIdx j := del_at (apart_of hs hm) h4
    have hlist : (es.eraseIdxIfInBounds j).toList = es.toList.eraseIdx j := by
      unfold Array.eraseIdxIfInBounds
      rw [dif_pos hjl]
      simp
    have hseen : (!seen.contains e.born) = false := by
      rw [Bool.eq_false_iff]
      intro hc
      have hmem : e ∈ (leftOf es seen).toList := by
        unfold leftOf
        rw [Array.toList_filter]
        exact List.mem_filter.2 ⟨List.mem_of_getElem? h2, hc⟩
      have h6 : (e.key, e.val) ∈ left.map (fun p => (Em.en p.1, p.2)) := by rw [← hl]; exact List.mem_map.2 ⟨e, hmem, rfl⟩
      obtain ⟨q, hq, e6⟩ := List.mem_map.1 h6
      have e7 : Em.en q.1 = e.key := congrArg Prod.fst e6
      exact hn q hq (Em.inj (by rw [e7, h3]))
    have hleft : (leftOf (es.eraseIdxIfInBounds j) seen).toList = (leftOf es seen).toList := by
      unfold leftOf
      rw [Array.toList_filter, Array.toList_filter, hlist]
      exact filter_erase _ es.toList j e h2 hseen
    have hm2 : (es.eraseIdxIfInBounds j).toList.map (fun e => (e.key, e.val)) = (m.eraseIdx j).map (fun p => (Em.en p.1, p.2)) := by rw [hlist, map_eraseIdx, map_eraseIdx, hm]
    have hb2 : (setBlock w b (.map (es.eraseIdxIfInBounds j) clock)).heap[b]? = some (.map (es.eraseIdxIfInBounds j) clock) := heap_setBlock_same hb _
    have hr2 : (setBlock w b (.map (es.eraseIdxIfInBounds j) clock)).heap[r]? = some (.mapIter (some b) since seen c0) := ((keeps_block w b _).block r (heap_lt hr) hne).trans hr
    rw [hd] at hsub' ⊢
    refine ⟨setBlock w b (.map (es.eraseIdxIfInBounds j) clock), ?_, ⟨_, clock, seen, since, c0, hb2, stamped_erase hs j, hm2, hr2, fun x hx => hold x ?_, hsc, hcl, by rw [hleft]; exact hl, hsub'⟩, ⟨_, _, hb2, stamped_erase hs j, hm2, fun p hp => hok p (List.mem_of_mem_eraseIdx hp)⟩, keeps_block w b _⟩
    · simp [Builtin.delete_, run_underlying ht, MapKept.run_getObj_map hb, Kd.check w _ hlx, h1, MapKept.run_setObj_map _ hb, Result.andThen, setBlock]
    · rw [hlist] at hx
      exact List.mem_of_mem_eraseIdx hx
end
end Go.Proofs.Ytgfamdakjcjdkaa.range_
namespace Go.Proofs.Ytgfamdakjcjdkaa.store
open Go Go.RowKit Go.Proofs.Ytgfamdakjcjdkaa.base Go.Proofs.Ytgfamdakjcjdkaa.map_ Go.Proofs.Ytgfamdakjcjdkaa.range_ Go.Proofs.Ytgfamdakjcjdkaa.above Go.Proofs.Ytgfamdakjcjdkaa.law Go.Proofs.Ytgfamdakjcjdkaa.merge Go.Proofs.Ytgfamdakjcjdkaa.rows Go.Proofs.Ytgfamdakjcjdkaa.rowe Go.Maps

def goneB (fl : Int) (c : C) : Bool := c.g && decide (c.t ≤ fl)
/-- what a sweep leaves -/
def keepL (fl : Int) (L : List R) : List R := L.filter fun x => !goneB fl x.2
set_option maxRecDepth 100000 in
theorem gone_any (bx : Nat) (fl : Int) (x : R) (w : World) (hb : Blk w bx 3 #[.int .i64 fl]) :
    Calls Try.prog 34 #[nameV x.1, cval x.2, .pointer (some ⟨bx, 0, none⟩)] w fun e w' => e = .returned (.bool (goneB fl x.2)) ∧ Below w.heap.size w w' := by
  obtain ⟨⟨x1, x2⟩, ⟨t, r, v, gn, l⟩⟩ := x
  unfold nameV cval goneB
  dsimp only
  have hbx := below_alloc (below_new w (.cells #[.string x1, .string x2] 70)) (.cells #[.int .i64 t, .int .i64 r, .string v, .bool gn, .int .i64 l] 48)
  have h2 := hb.below hbx hb.lt
  have q0 := h2.cell 0
  have ql := h2.lt
  simp at q0
  have HBX := Lib.hid hbx
  clear hbx h2 hb
  cases gn with
  | false =>
    go_enter Try.func34, Try.ntmps34
    go_wp2
    go_ret
    exact ⟨rfl, HBX.out⟩
  | true =>
    go_enter Try.func34, Try.ntmps34
    go_wp2
    go_ret
    exact ⟨ret_bool (by simp), HBX.out⟩
theorem map_len {m : List (Nm × Value)} {L : List R} (hr : Rising L) (ha : Apart m) (he : ∀ x, getM m x = (getL L x).map cval) : m.length = L.length := by
  have hall := map_rows ha he
  have : ∃ out : List R, m = out.map enR := by
    clear ha he
    induction m with
    | nil => exact ⟨[], rfl⟩
    | cons p m ih =>
      obtain ⟨x, e, _⟩ := hall p (by simp)
      obtain ⟨out, e2⟩ := ih (fun q hq => hall q (by simp [hq]))
      exact ⟨x :: out, by rw [e, e2]; rfl⟩
  obtain ⟨out, e⟩ := this
  have hp := rows_perm hr ha he (out := out) (by rw [e])
  rw [e, List.length_map]
  exact hp.length_eq
/-- the entries of m are rows of L; those of L that are not there are gone -/
structure Part (fl : Int) (L : List R) (m left : List (Nm × Value)) : Prop where
  got : ∀ x, getM m x = (getL L x).map cval ∨ (getM m x = none ∧ ∃ c, getL L x = some c ∧ goneB fl c = true)
  todo : ∀ x c, getM m x = some (cval c) → goneB fl c = true → (x, cval c) ∈ left
theorem Part.start {fl : Int} {L : List R} {m : List (Nm × Value)} (he : ∀ x, getM m x = (getL L x).map cval) : Part fl L m m := ⟨fun x => .inl (he x), fun _ _ h _ => get_mem h⟩
theorem Part.done {fl : Int} {L : List R} {m : List (Nm × Value)} (hr : Rising L) (h : Part fl L m []) : ∀ x, getM m x = (getL (keepL fl L) x).map cval := by
  intro x
  unfold keepL
  rw [getL_filter hr]
  rcases h.got x with h1 | ⟨h1, c, h2, h3⟩
  · rw [h1]
    cases hg : getL L x with
    | none => rfl
    | some c =>
      rw [hg] at h1
      cases hb : goneB fl c with
      | true => exact absurd (h.todo x c h1 hb) (by simp)
      | false => simp [hb]
  · rw [h1, h2]
    simp [h3]
theorem Part.row {fl : Int} {L : List R} {m left : List (Nm × Value)} (ha : Apart m) (h : Part fl L m left) {p : Nm × Value} (hp : p ∈ m) : ∃ x : R, p = enR x := by
  obtain ⟨x, v⟩ := p
  have h1 := get_mem' ha hp
  rcases h.got x with h2 | ⟨h2, _⟩
  · rw [h2] at h1
    cases hg : getL L x with
    | none => rw [hg] at h1; cases h1
    | some c =>
      rw [hg] at h1
      injection h1 with h1
      exact ⟨(x, c), by rw [← h1]; rfl⟩
  · rw [h2] at h1; cases h1
theorem Part.skip {fl : Int} {L : List R} {m l1 l2 : List (Nm × Value)} {x : R} (h : Part fl L m (l1 ++ enR x :: l2)) (hx : goneB fl x.2 = false) : Part fl L m (l1 ++ l2) := by
  refine ⟨h.got, fun y c h1 h2 => ?_⟩
  have h3 := h.todo y c h1 h2
  simp only [List.mem_append, List.mem_cons] at h3 ⊢
  rcases h3 with h3 | h3 | h3
  · exact .inl h3
  · have : (y, c) = x := enR_inj h3
    rw [← this] at hx
    simp only at hx
    rw [h2] at hx; cases hx
  · exact .inr h3
theorem Part.drop {fl : Int} {L : List R} {m l1 l2 : List (Nm × Value)} {x : R} (ha : Apart m) (hm : enR x ∈ m) (h : Part fl L m (l1 ++ enR x :: l2)) (hx : goneB fl x.2 = true) : Part fl L (delM m x.1) (l1 ++ l2) := by
  have hg := get_mem' ha (x := x.1) (v := cval x.2) hm
  refine ⟨fun y => ?_, fun y c h1 h2 => ?_⟩
  · rw [get_del]
    by_cases e : y = x.1
    · rw [if_pos e, e]
      right
      refine ⟨rfl, x.2, ?_, hx⟩
      rcases h.got x.1 with h1 | ⟨h1, _⟩
      · rw [hg] at h1
        cases hq : getL L x.1 with
        | none => rw [hq] at h1; cases h1
        | some d =>
          rw [hq] at h1
          injection h1 with h1
          rw [cval_inj h1]
      · rw [hg] at h1; cases h1
    · rw [if_neg e]; exact h.got y
  · rw [get_del] at h1
    by_cases e : y = x.1
    · rw [if_pos e] at h1; cases h1
    · rw [if_neg e] at h1
      have h3 := h.todo y c h1 h2
      simp only [List.mem_append, List.mem_cons] at h3 ⊢
      rcases h3 with h3 | h3 | h3
      · exact .inl h3
      · exact absurd (congrArg Prod.fst h3) e
      · exact .inr h3
/-- what the deletion leaves of the map -/
def MapDel (fl : Int) (bm : Nat) (L : List R) (w : World) (e : Ending) (w' : World) : Prop :=
  e = .returned (.tuple #[]) ∧ (∃ m, MapM nameE w' bm m ∧ ∀ x, getM m x = (getL (keepL fl L) x).map cval) ∧ Keeps (· = bm) w w'
set_option maxRecDepth 100000 in
set_option maxHeartbeats 1000000 in
theorem delfunc_any (bx bm : Nat) (fl : Int) (L : List R) (m : List (Nm × Value)) (w : World) (hr : Rising L) (hm : MapM nameE w bm m) (he : ∀ x, getM m x = (getL L x).map cval) (hb0 : Blk w bx 3 #[.int .i64 fl]) (hne : bx ≠ bm) :
    Calls Try.prog 33 #[.map (some bm), .func (.func 34) #[] #[.pointer (some ⟨bx, 0, none⟩)]] w (MapDel fl bm L w) := by
  obtain ⟨o, hrg, hit⟩ := hm.range (T := mapT) Try.underlying66
  have hbw : Below w.heap.size w (w.alloc o) := below_new _ _
  have hm1 := hm.below hbw
  have HIT := Lib.hid hit
  have HM1 := Lib.hid hm1
  have HE := Lib.hid (Part.start (fl := fl) (L := L) he)
  have HR := Lib.hid hr
  have HK1 := Lib.hid (show Keeps (fun i => i = bm ∨ w.heap.size ≤ i) w (w.alloc o) from Keeps.alloc _)
  have hbl := hb0.lt
  have HB0 := Lib.hid hb0
  have hbml := hm.lt
  have hrl : w.heap.size < (w.alloc o).heap.size := by simp
  generalize hrr : w.heap.size = r at *
  generalize w.alloc o = w1 at *
  clear hm he hb0 hit hbw hm1 hr
  go_enter Try.func33, Try.ntmps33
  go_wp2
  go_loopw [] (fun wr => ∃ m' left, IterM nameE wr r bm m' left ∧ MapM nameE wr bm m' ∧ Part fl L m' left ∧ Keeps (fun i => i = bm ∨ r ≤ i) w wr ∧ r < wr.heap.size) (fun wr => leftN wr r bm)
  case atStart => exact ⟨m, m, HIT.out, HM1.out, HE.out, HK1.out, hrl⟩
  case round =>
    clear HIT HM1 HE HK1 hrl
    obtain ⟨m', left, i1, i2, i3, i4, i5⟩ := hrel
    rcases i1.next 0 with ⟨rfl, hrun⟩ | ⟨l1, p, l2, w3, rfl, hrun, i6, hen, hk3⟩
    · have HD := Lib.hid (show MapDel fl bm L w (.returned (.tuple #[])) wr from ⟨rfl, ⟨m', i2, i3.done HR.out⟩, ⟨i4.os, i4.tape, i4.output, i4.size, fun i hi hx => i4.block i hi (by rintro (h | h); exact hx h; omega)⟩⟩)
      clear i1 i2 i3 i4
      go_wp2
      go_end0
      exact HD.out
    · have hpm : p ∈ m' := by obtain ⟨_, _, _, _, _, _, _, _, _, _, _, _, _, hs⟩ := i1; exact hs p (by simp)
      obtain ⟨x, rfl⟩ := i3.row i2.apart hpm
      have hnd := i1.nodup
      have hnx : ∀ q ∈ l1 ++ l2, q.1 ≠ x.1 := by
        intro q hq e
        rw [List.map_append, List.map_cons, List.nodup_append] at hnd
        obtain ⟨n1, n2, n3⟩ := hnd
        obtain ⟨n4, n5⟩ := List.nodup_cons.1 n2
        rcases List.mem_append.1 hq with hq | hq
        · exact n3 q.1 (List.mem_map.2 ⟨q, hq, rfl⟩) (enR x).1 (by simp) e
        · exact n4 (List.mem_map.2 ⟨q, hq, e⟩)
      have hokx : okName x.1 := by obtain ⟨_, _, _, _, _, hok⟩ := i2; exact hok _ hpm
      have hok : ∀ p ∈ m', okName p.1 := by obtain ⟨_, _, _, _, _, hok⟩ := i2; exact hok
      obtain ⟨⟨x1, x2⟩, ⟨t, rr, v, gn, l⟩⟩ := x
      have I1 := Lib.hid i1
      have I3 := Lib.hid i3
      have HAP := Lib.hid i2.apart
      have HPM := Lib.hid hpm
      have HNX := Lib.hid hnx
      have HOKX := Lib.hid hokx
      have HOK := Lib.hid hok
      have hsz3 := hk3.size
      have hbw2 := below_alloc (below_new w3 (.cells #[.string x1, .string x2] 70)) (.cells #[.int .i64 t, .int .i64 rr, .string v, .bool gn, .int .i64 l] 48)
      have I6 := Lib.hid (i6.keeps (X := nobody) (.of_below hbw2) (fun h => h) (fun h => h))
      have I2 := Lib.hid ((i2.keeps hk3 (by omega)).below hbw2)
      have I4 := Lib.hid ((i4.trans (hk3.more fun i _ hi => .inr (by omega))).trans (.of_below hbw2))
      unfold enR cval nameE nameV at hrun hen
      dsimp only at hrun hen
      have Hbx := Lib.hid (HB0.out.keeps (I4.out) (by rintro (h | h); exact hne h; omega))
      clear i1 i2 i3 i4 i6 hpm hnd hnx hokx hok hk3 hbw2
      cases hg : goneB fl ⟨t, rr, v, gn, l⟩ with
      | true =>
        have HG := Lib.hid hg
        clear hg
        go_wp2_with fail
        refine (gone_any bx fl ((x1, x2), ⟨t, rr, v, gn, l⟩) _ Hbx.out).mono ?_
        rintro e w5 ⟨rfl, hb5⟩
        rw [HG.out]
        have I65 := I6.out.keeps (X := nobody) (.of_below hb5) (fun h => h) (fun h => h)
        have hn5 := ((Blk.new w3 70 #[.string x1, .string x2]).alloc (.cells #[.int .i64 t, .int .i64 rr, .string v, .bool gn, .int .i64 l] 48)).below hb5 (by simp; omega)
        have n0 : w5.cell? ⟨w3.heap.size, 0, none⟩ = some (.string x1) := hn5.cell 0
        have n1 : w5.cell? ⟨w3.heap.size, 1, none⟩ = some (.string x2) := hn5.cell 1
        have nl := hn5.lt
        obtain ⟨w7, hdel, j1, j2, j3⟩ := I65.del HOK.out keyed Try.underlying66 (x := (x1, x2)) HOKX.out HNX.out 0
        have I45 := Lib.hid ((I4.out.trans (.of_below hb5)).trans (j3.more fun i _ h => .inl h))
        have hz5 := hb5.size
        have hz7 := j3.size
        simp at hz5
        have J1 := Lib.hid j1
        have J2 := Lib.hid j2
        have hd : (Builtin.delete_ _ 0 #[.map (some bm), .agg #[.string x1, .string x2]]).run _ _ = _ := hdel
        clear hb5 I6 I2 I4 I65 hn5 hdel j1 j2 j3
        go_wp2
        clear hd n0 n1 nl
        go_roundw
        case rel => exact ⟨delM m' (x1, x2), l1 ++ l2, J1.out, J2.out, I3.out.drop HAP.out HPM.out HG.out, I45.out, by omega⟩
        case measure =>
          rw [J1.out.size, I1.out.size, List.length_append, List.length_append, List.length_cons]
          omega
      | false =>
        have HG := Lib.hid hg
        clear hg
        go_wp2_with fail
        refine (gone_any bx fl ((x1, x2), ⟨t, rr, v, gn, l⟩) _ Hbx.out).mono ?_
        rintro e w5 ⟨rfl, hb5⟩
        rw [HG.out]
        have I65 := Lib.hid (I6.out.keeps (X := nobody) (.of_below hb5) (fun h => h) (fun h => h))
        have I25 := Lib.hid (I2.out.below hb5)
        have I45 := Lib.hid (I4.out.trans (.of_below hb5))
        have hz5 := hb5.size
        simp at hz5
        clear hb5 I6 I2 I4
        go_wp2
        go_roundw
        case rel => exact ⟨m', l1 ++ l2, I65.out, I25.out, I3.out.skip HG.out, I45.out, by omega⟩
        case measure =>
          rw [I65.out.size, I1.out.size, List.length_append, List.length_append, List.length_cons]
          omega
/-- what Sweep leaves -/
def SweepR (g bm : Nat) (fl : Int) (L : List R) (w : World) (e : Ending) (w' : World) : Prop :=
  e = .returned (.int .i64 ((L.length : Int) - ((keepL fl L).length : Int))) ∧ StI w' g bm (keepL fl L) ∧ Keeps (· = bm) w w'
theorem keepL_up {fl : Int} {L : List R} (h : Rising L) : Rising (keepL fl L) := h.filter _
theorem keepL_len (fl : Int) (L : List R) : (keepL fl L).length ≤ L.length := List.length_filter_le _ _
theorem StI.len {w : World} {g bm : Nat} {L : List R} (h : StI w g bm L) (ty : TypeId) : (Builtin.len_ #[mapT] ty #[.map (some bm)]).run Try.prog w = .ok (.int .i64 L.length) w := by
  obtain ⟨m, hm, he⟩ := h.map
  rw [hm.len Try.underlying66 ty, map_len h.up hm.apart he]
set_option maxRecDepth 100000 in
set_option maxHeartbeats 1000000 in
theorem sweep_any (g bm : Nat) (fl : Int) (L : List R) (w : World) (h : StI w g bm L) (hl : L.length ≤ 1000000) :
    Calls Try.prog 17 #[.pointer (some ⟨g, 0, none⟩), .int .i64 fl] w (SweepR g bm fl L w) := by
  have hbx := below_new w (.cells #[.int .i64 fl] 3)
  have h1 := h.below hbx
  have hgl := h.lt
  have hbl := h.ltm
  have q0 : (w.alloc (.cells #[.int .i64 fl] 3)).cell? ⟨g, 0, none⟩ = some (.map (some bm)) := h1.blk.cell 0
  have ql := h1.lt
  have hlen := h1.len 3
  have HB := Lib.hid (Blk.new w 3 #[.int .i64 fl])
  have H1 := Lib.hid h1
  clear h h1 hbx
  have hkl := keepL_len fl L
  go_enter Try.func17, Try.ntmps17
  go_wp2_with fail
  obtain ⟨m, hm, he⟩ := H1.out.map
  refine (delfunc_any w.heap.size bm fl L m _ H1.out.up hm he HB.out (by omega)).mono ?_
  rintro e w5 ⟨rfl, ⟨m2, hm2, he2⟩, hk⟩
  have h5 : StI w5 g bm (keepL fl L) := ⟨H1.out.blk.keeps hk H1.out.ne, ⟨m2, hm2, he2⟩, keepL_up H1.out.up⟩
  have HR := Lib.hid (show SweepR g bm fl L w (.returned (.int .i64 ((L.length : Int) - ((keepL fl L).length : Int)))) w5 from ⟨rfl, h5, (Keeps.alloc _).trans hk⟩)
  have q5 : w5.cell? ⟨g, 0, none⟩ = some (.map (some bm)) := h5.blk.cell 0
  have ql5 := h5.lt
  have hlen5 := h5.len 3
  clear hm he hm2 he2 hk h5 hlen q0
  go_wp2
  go_ret
  exact HR.out
end Go.Proofs.Ytgfamdakjcjdkaa.store
