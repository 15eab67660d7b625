/- The document's store in memory: rising rows; where a cell stands; heads; what is got. -/
import Derived.Test.YtgfamdakjcjdkaaDoorCountS
import Derived.Test.YtgfamdakjcjdkaaDoorRefMerge
namespace Go.Proofs.YtgfamdakjcjdkaaDoor.store
open Go Go.RowKit Go.Proofs.YtgfamdakjcjdkaaDoor.base Go.Proofs.YtgfamdakjcjdkaaDoor.err Go.Proofs.YtgfamdakjcjdkaaDoor.cmp Go.Proofs.YtgfamdakjcjdkaaDoor.above Go.Proofs.YtgfamdakjcjdkaaDoor.law Go.Proofs.YtgfamdakjcjdkaaDoor.merge Go.Proofs.YtgfamdakjcjdkaaDoor.rows Go.Proofs.YtgfamdakjcjdkaaDoor.rowe Go.Proofs.YtgfamdakjcjdkaaDoor.monoj

abbrev refST : TypeId := 50
/-- the document's store at block g: its rows L -/
structure RefI (w : World) (g : Nat) (A : Option Addr) (c : Nat) (L : List R) : Prop where
  blk : Blk w g refST #[.slice A L.length c]
  rd : Reads w w.heap.size 7 A L.length (L.flatMap rcells)
def Ref (w : World) (g : Nat) (L : List R) : Prop := ∃ A c, RefI w g A c L
section
variable {w w' : World} {g : Nat} {A : Option Addr} {c : Nat} {L : List R}
theorem RefI.below (h : RefI w g A c L) (hb : Below w.heap.size w w') : RefI w' g A c L := ⟨h.blk.below hb h.blk.lt, (h.rd.below hb).more hb.size⟩
theorem Ref.below (h : Ref w g L) (hb : Below w.heap.size w w') : Ref w' g L := by obtain ⟨A, c, h⟩ := h; exact ⟨A, c, h.below hb⟩
/-- the rows lie in no map's block -/
theorem RefI.keeps {bm : Nat} {ga : Nat} {M : List R} (h : RefI w g A c L) (hs : StI w ga bm M) (hk : Keeps (· = bm) w w') : RefI w' g A c L := by
  obtain ⟨m, hm, _⟩ := hs.map
  refine ⟨h.blk.keeps hk (hm.not_blk h.blk), h.rd.1, fun hn => ?_⟩
  obtain ⟨b, off, e, hb, hc⟩ := h.rd.2 hn
  have hne : ¬ b = bm := by
    rintro rfl
    obtain ⟨es, clock, hbm, _⟩ := hm
    have h0 := hc 0 (by rw [h.rd.1]; omega)
    have : w.cell? ⟨b, off + 0, none⟩ = none := by simp [World.cell?, hbm]
    rw [this] at h0
    have hl : 0 < (L.flatMap rcells).length := by rw [h.rd.1]; omega
    rw [List.getElem?_eq_getElem hl] at h0
    cases h0
  exact ⟨b, off, e, Nat.lt_of_lt_of_le hb hk.size, fun j hj => (hk.cell _ hb hne).trans (hc j hj)⟩
end
theorem StI.keepsRef {w w' : World} {g bm gr : Nat} {L : List R} (h : StI w g bm L) {cs : Array Value} (hr : Blk w gr refST cs) (hk : Keeps (· = gr) w w') : StI w' g bm L :=
  h.keeps hk (Blk.ne_ h.blk hr (by decide)) (fun e => by
    obtain ⟨m, hm, _⟩ := h.map
    exact hm.not_blk hr e.symm)
def CellR (L : List R) (x : Nm) (w : World) (e : Ending) (w' : World) : Prop :=
  ((∃ k : Nat, k < L.length ∧ (L.getD k rZ).1 = x ∧ e = .returned (.int .i64 k)) ∨ ((∀ p ∈ L, p.1 ≠ x) ∧ e = .returned (.int .i64 (-1)))) ∧ w = w'
set_option maxRecDepth 100000 in
set_option maxHeartbeats 1000000 in
theorem cell_ref (g : Nat) (A : Option Addr) (c : Nat) (L : List R) (s k0 : ByteArray) (w : World) (h : RefI w g A c L) (hl : L.length ≤ 1000000) :
    Calls Tryd.prog 38 #[.pointer (some ⟨g, 0, none⟩), .string s, .string k0] w (CellR L (s, k0) w) := by
  have q0 : w.cell? ⟨g, 0, none⟩ = some (.slice A L.length c) := h.blk.cell 0
  have ql := h.blk.lt
  have HRD := Lib.hid h.rd
  clear h
  go_enter Tryd.func38, Tryd.ntmps38
  go_wp2
  go_loopw [7] (fun i wr => ∃ k : Nat, k ≤ L.length ∧ i = .int .i64 k ∧ (∀ p ∈ L.take k, p.1 ≠ (s, k0)) ∧ wr = w) (fun i _ => L.length - (intOf i).toNat)
  case atStart => exact ⟨0, by omega, rfl, fun p hp => by simp at hp, rfl⟩
  case round =>
    obtain ⟨k, hk, rfl, i1, rfl⟩ := hrel
    have I1 := Lib.hid i1
    clear i1
    by_cases hlt : k < L.length
    · obtain ⟨b, off, rfl, hbb⟩ := HRD.out.at_some (by omega)
      have HSN := Lib.hid (take_snocR hlt)
      have HLT := Lib.hid hlt
      have hc := row_at' (HRD.out) rfl hlt
      obtain ⟨x, hx⟩ : ∃ x, L.getD k rZ = x := ⟨_, rfl⟩
      rw [hx] at hc
      have HX := Lib.hid hx
      obtain ⟨e0, e1, e2, e3, e4, e5, e6⟩ := seven_of hc
      obtain ⟨⟨x1, x2⟩, ⟨t, r, v, gn, l⟩⟩ := x
      dsimp only at e0 e1 e2 e3 e4 e5 e6
      clear hc hx
      cases q1 : (x1.toList == s.toList) with
      | false =>
        have HN := Lib.hid (show (x1, x2) ≠ (s, k0) from fun e => by rw [(Prod.mk.inj e).1] at q1; simp at q1)
        clear e2 e3 e4 e5 e6
        go_wp2
        go_roundw
        case rel =>
          refine ⟨k + 1, by omega, by go_num, fun p hp => ?_, trivial⟩
          rw [HSN.out, HX.out] at hp
          rcases List.mem_append.1 hp with hp | hp
          · exact I1.out p hp
          · rw [List.mem_singleton.1 hp]; exact HN.out
        case measure => simp [intOf]; omega
      | true =>
        cases q2 : (x2.toList == k0.toList) with
        | false =>
          have HN := Lib.hid (show (x1, x2) ≠ (s, k0) from fun e => by rw [(Prod.mk.inj e).2] at q2; simp at q2)
          clear e2 e3 e4 e5 e6
          go_wp2
          go_roundw
          case rel =>
            refine ⟨k + 1, by omega, by go_num, fun p hp => ?_, trivial⟩
            rw [HSN.out, HX.out] at hp
            rcases List.mem_append.1 hp with hp | hp
            · exact I1.out p hp
            · rw [List.mem_singleton.1 hp]; exact HN.out
          case measure => simp [intOf]; omega
        | true =>
          have HR := Lib.hid (show CellR L (s, k0) wr (.returned (.int .i64 k)) wr from ⟨.inl ⟨k, HLT.out, by rw [HX.out]; exact Prod.ext (ba_ext (by simpa using q1)) (ba_ext (by simpa using q2)), rfl⟩, rfl⟩)
          clear e2 e3 e4 e5 e6
          go_wp2
          go_ret
          exact HR.out
    · obtain rfl : L.length = k := by omega
      have HR := Lib.hid (show CellR L (s, k0) wr (.returned (.int .i64 (-1))) wr from ⟨.inr ⟨by have := I1.out; rwa [List.take_length] at this, rfl⟩, rfl⟩)
      clear I1
      go_wp2
      go_ret
      exact HR.out
theorem below_ref (x y : R) (w : World) : Calls Tryd.prog 19 #[.agg ⟨rcells x⟩, .agg ⟨rcells y⟩] w fun e w' => e = .returned (.bool (ltN x.1 y.1)) ∧ Below w.heap.size w w' := by
  obtain ⟨⟨x1, x2⟩, ⟨t, r, v, gn, l⟩⟩ := x
  obtain ⟨⟨y1, y2⟩, ⟨t', r', v', gn', l'⟩⟩ := y
  unfold rcells ltN
  dsimp only
  have HB := Lib.hid (below_alloc (below_new w (.cells #[.string x1, .string x2, .int .i64 t, .int .i64 r, .string v, .bool gn, .int .i64 l] refT)) (.cells #[.string y1, .string y2, .int .i64 t', .int .i64 r', .string v', .bool gn', .int .i64 l'] refT))
  cases q1 : Op.bytesLess x1.toList y1.toList with
  | true =>
    go_enter Tryd.func19, Tryd.ntmps19
    go_wp2
    go_ret
    exact ⟨rfl, HB.out⟩
  | false =>
    cases q2 : (x1.toList == y1.toList) with
    | false =>
      go_enter Tryd.func19, Tryd.ntmps19
      go_wp2
      go_ret
      exact ⟨rfl, HB.out⟩
    | true =>
      cases q3 : Op.bytesLess x2.toList y2.toList with
      | false =>
        go_enter Tryd.func19, Tryd.ntmps19
        go_wp2
        go_ret
        exact ⟨rfl, HB.out⟩
      | true =>
        go_enter Tryd.func19, Tryd.ntmps19
        go_wp2
        go_ret
        exact ⟨rfl, HB.out⟩
theorem at_getD {L : List R} (hr : Rising L) {k : Nat} {x : Nm} (hk : k < L.length) (hx : (L.getD k rZ).1 = x) : getL L x = some (L.getD k rZ).2 := by
  rw [← hx]; exact getL_of hr (getD_mem hk)
theorem at_no {L : List R} {x : Nm} (h : ∀ p ∈ L, p.1 ≠ x) : getL L x = none := getL_none.2 h
set_option maxRecDepth 100000 in
set_option maxHeartbeats 1000000 in
theorem head_ref (g : Nat) (A : Option Addr) (c : Nat) (L : List R) (s : ByteArray) (w : World) (h : RefI w g A c L) (hr : Rising L) (hl : L.length ≤ 1000000) :
    Calls Tryd.prog 25 #[.pointer (some ⟨g, 0, none⟩), .string s] w fun e w' => e = .returned (cval (atL L (s, ⟨#[]⟩))) ∧ Below w.heap.size w w' := by
  have hbx := below_new w (.cells #[.int .i64 0, .int .i64 0, .string ⟨#[]⟩, .bool false, .int .i64 0] 33)
  have h1 := h.below hbx
  have q0 := h1.blk.cell 0
  have ql := h1.blk.lt
  simp at q0
  have H1 := Lib.hid h1
  have HBX := Lib.hid hbx
  have HR := Lib.hid hr
  have hz0 : w.heap.size < (w.alloc (.cells #[.int .i64 0, .int .i64 0, .string ⟨#[]⟩, .bool false, .int .i64 0] 33)).heap.size := by simp
  have HB0 := Lib.hid (Blk.new w 33 #[.int .i64 0, .int .i64 0, .string ⟨#[]⟩, .bool false, .int .i64 0])
  clear h h1 hbx hr
  go_enter Tryd.func25, Tryd.ntmps25
  go_wp2_with fail
  refine (cell_ref g A c L s ⟨#[]⟩ _ H1.out hl).mono ?_
  rintro e w1 ⟨hc, rfl⟩
  rcases hc with ⟨k, hk, hkx, rfl⟩ | ⟨hno, rfl⟩
  · obtain ⟨b, off, hA, hbb⟩ := H1.out.rd.at_some (by omega)
    subst hA
    have hcell := row_at' H1.out.rd rfl hk
    have hat : atL L (s, ⟨#[]⟩) = (L.getD k rZ).2 := by unfold atL; rw [at_getD HR.out hk hkx]; rfl
    generalize L.getD k rZ = x at hcell hat
    obtain ⟨e0, e1, e2, e3, e4, e5, e6⟩ := seven_of hcell
    obtain ⟨⟨x1, x2⟩, ⟨t, r, v, gn, l⟩⟩ := x
    dsimp only at e0 e1 e2 e3 e4 e5 e6
    have hkn : decide ((k : Int) < 0) = false := by simp
    have HAT := Lib.hid hat
    clear hcell hat hkx
    go_wp2
    exact bodyPost_ret (v := .agg #[.int .i64 t, .int .i64 r, .string v, .bool gn, .int .i64 l]) (by simp [results, Tryd.results25, go_sem]) rfl ⟨by rw [HAT.out]; rfl, below_new _ _⟩
  · have hat : atL L (s, ⟨#[]⟩) = zeroC := by unfold atL; rw [at_no hno]; rfl
    have HAT := Lib.hid hat
    clear hno hat
    go_wp2
    exact bodyPost_ret (v := cval zeroC) (by simp [results, Tryd.results25, go_sem, cval, zeroC]) rfl ⟨by rw [HAT.out], below_new _ _⟩
def GetF (k : ByteArray) (ch cd : C) (w : World) (e : Ending) (w' : World) : Prop := e = .returned (.tuple #[.string (if getC k ch cd = 0 then cd.v else ⟨#[]⟩), .int .i64 (getC k ch cd)]) ∧ Below w.heap.size w w'
set_option maxRecDepth 100000 in
set_option maxHeartbeats 2000000 in
theorem get_ref (g : Nat) (A : Option Addr) (c : Nat) (L : List R) (s k : ByteArray) (w : World) (h : RefI w g A c L) (hr : Rising L) (hl : L.length ≤ 1000000) (ch cd : C) (hc : atL L (s, ⟨#[]⟩) = ch) (hd : atL L (s, k) = cd) :
    Calls Tryd.prog 23 #[.pointer (some ⟨g, 0, none⟩), .string s, .string k] w (GetF k ch cd w) := by
  have H := Lib.hid h
  have HR := Lib.hid hr
  have HC := Lib.hid hc
  have HD := Lib.hid hd
  clear h hr hc hd
  by_cases hke : k.size = 0
  · have hke2 : k.toList.isEmpty = true := by
      have : k = ⟨#[]⟩ := by
        obtain ⟨⟨l⟩⟩ := k
        have h0 : l.length = 0 := hke
        rw [List.eq_nil_of_length_eq_zero h0]
      rw [this, ByteArray.toList_eq]; rfl
    have hg : getC k ch cd = 1 := by unfold getC; rw [if_pos hke2]
    have HG := Lib.hid (show GetF k ch cd w (.returned (.tuple #[.string ⟨#[]⟩, .int .i64 1])) w from ⟨by rw [hg]; rfl, Below.refl _ _⟩)
    clear hke2 hg
    go_enter Tryd.func23, Tryd.ntmps23
    go_wp2
    go_ret2
    exact HG.out
  · have hke2 : k.toList.isEmpty = false := by
      rw [Bool.eq_false_iff]
      intro h0
      have : k = ⟨#[]⟩ := isEmpty_eq h0
      rw [this] at hke; exact hke rfl
    have HKE := Lib.hid hke2
    clear hke2
    obtain ⟨t, r, v, gn, l⟩ := ch
    go_enter Tryd.func23, Tryd.ntmps23
    go_wp2_with fail
    refine (head_ref g A c L s w H.out HR.out hl).mono ?_
    rintro e w1 ⟨rfl, hb1⟩
    rw [HC.out]
    unfold cval
    dsimp only
    have HB1 := Lib.hid hb1
    have H1 := Lib.hid (H.out.below hb1)
    clear hb1 H
    go_wp2_with fail
    refine (visible_ref t r v gn l w1).mono ?_
    rintro e w2 ⟨rfl, hb2⟩
    have HB2 := Lib.hid (below_step HB1.out hb2)
    have H2 := Lib.hid (H1.out.below hb2)
    clear hb2 HB1 H1
    cases hv : (decide (0 < t) && !gn) with
    | false =>
      have hg : getC k ⟨t, r, v, gn, l⟩ cd = 14 := by unfold getC visC; rw [if_neg (by rw [HKE.out]; decide), if_pos hv]
      have HG := Lib.hid (show GetF k ⟨t, r, v, gn, l⟩ cd w (.returned (.tuple #[.string ⟨#[]⟩, .int .i64 14])) w2 from ⟨by rw [hg]; rfl, HB2.out⟩)
      clear hg hv
      go_wp2
      go_ret2
      exact HG.out
    | true =>
      have hgc : getC k ⟨t, r, v, gn, l⟩ cd = if visC cd = false then 7 else 0 := by unfold getC; rw [if_neg (by rw [HKE.out]; decide), if_neg (by unfold visC; rw [hv]; decide)]
      have HGC := Lib.hid hgc
      clear hgc hv
      have q0 := H2.out.blk.cell 0
      have ql := H2.out.blk.lt
      simp at q0
      go_wp2_with fail
      refine (cell_ref g A c L s k _ H2.out hl).mono ?_
      rintro e w3 ⟨hcr, rfl⟩
      rcases hcr with ⟨j, hj, hjx, rfl⟩ | ⟨hno, rfl⟩
      · obtain ⟨b, off, hA, hbb⟩ := H2.out.rd.at_some (by omega)
        subst hA
        have hcell := row_at' H2.out.rd rfl hj
        have hat : cd = (L.getD j rZ).2 := by rw [← HD.out]; unfold atL; rw [at_getD HR.out hj hjx]; rfl
        subst hat
        generalize L.getD j rZ = x at *
        obtain ⟨e0, e1, e2, e3, e4, e5, e6⟩ := seven_of hcell
        obtain ⟨⟨x1, x2⟩, ⟨t2, r2, v2, gn2, l2⟩⟩ := x
        dsimp only at e0 e1 e2 e3 e4 e5 e6 HGC ⊢
        have hjn : decide ((j : Int) < 0) = false := by simp
        clear hcell hjx
        go_wp2_with fail
        refine (visible_ref t2 r2 v2 gn2 l2 w2).mono ?_
        rintro e w4 ⟨rfl, hb4⟩
        have q04 := (hb4.cell (p := ⟨g, 0, none⟩) ql).trans q0
        have e44 := (hb4.cell (p := ⟨b, off + j * 7 + 4, none⟩) (by omega)).trans e4
        have hz4 := hb4.size
        have HB4 := Lib.hid (below_step HB2.out hb4)
        clear hb4 q0 e0 e1 e2 e3 e4 e5 e6
        cases hv2 : (decide (0 < t2) && !gn2) with
        | false =>
          have hg : getC k ⟨t, r, v, gn, l⟩ ⟨t2, r2, v2, gn2, l2⟩ = 7 := by rw [HGC.out, if_pos (by unfold visC; exact hv2)]
          have HG := Lib.hid (show GetF k ⟨t, r, v, gn, l⟩ ⟨t2, r2, v2, gn2, l2⟩ w (.returned (.tuple #[.string ⟨#[]⟩, .int .i64 7])) w4 from ⟨by rw [hg]; rfl, HB4.out⟩)
          clear hg hv2
          go_wp2
          go_ret2
          exact HG.out
        | true =>
          have hg : getC k ⟨t, r, v, gn, l⟩ ⟨t2, r2, v2, gn2, l2⟩ = 0 := by rw [HGC.out, if_neg (by unfold visC; rw [hv2]; decide)]
          have HG := Lib.hid (show GetF k ⟨t, r, v, gn, l⟩ ⟨t2, r2, v2, gn2, l2⟩ w (.returned (.tuple #[.string v2, .int .i64 0])) w4 from ⟨by rw [hg]; rfl, HB4.out⟩)
          clear hg hv2
          go_wp2
          go_ret2
          exact HG.out
      · have hat : cd = zeroC := by rw [← HD.out]; unfold atL; rw [at_no hno]; rfl
        have hg : getC k ⟨t, r, v, gn, l⟩ cd = 7 := by rw [HGC.out, hat]; rfl
        have HG := Lib.hid (show GetF k ⟨t, r, v, gn, l⟩ cd w (.returned (.tuple #[.string ⟨#[]⟩, .int .i64 7])) w2 from ⟨by rw [hg]; rfl, HB2.out⟩)
        clear hg hat hno
        go_wp2
        go_ret2
        exact HG.out
end Go.Proofs.YtgfamdakjcjdkaaDoor.store
