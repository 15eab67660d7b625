/- The walk of the law FeedPlays: it returns true; nothing that was there is written. -/
import Derived.Test.YtmclmefgddomfaaGreatF
import Derived.Deep.DeepCutAuto
import Derived.Deep.Cut
import Derived.Deep.CutBlock
namespace Go.Proofs.Ytmclmefgddomfaa.wFeedPlays
open Go.RowKit Go.Proofs.Ytmclmefgddomfaa.base Go.Proofs.Ytmclmefgddomfaa.rowe Go.Proofs.Ytmclmefgddomfaa.err Go.Proofs.Ytmclmefgddomfaa.wire Go.Proofs.Ytmclmefgddomfaa.feed Go.Proofs.Ytmclmefgddomfaa.monoj

abbrev WN (w : World) := {x : Wr // Nums w w.heap.size x.d x.z}
abbrev ON (w : World) := {o : Opx // Nums w w.heap.size o.x.d o.x.z}
theorem writes_sees {w : World} {v : Value} (h : Sees Try.prog w 41 [v]) : ∃ L, RA w v L := by
  have h' : v = .slice none 0 0 ∨ ∃ (a : Addr) (len cap : Nat), v = .slice (some a) len cap ∧ len ≤ cap ∧ cap ≤ maxLen ∧ ∀ i, i < cap → ∃ es, w.cells? 0 (a.add (i * Try.prog.cellsOf 35)) (Try.prog.cellsOf 35) = some es ∧ Sees Try.prog w 35 es := by
    rcases h.slice Try.underlying41 with h | ⟨a, len, cap, h, r⟩
    · injection h with h; exact .inl h
    · injection h with h; exact .inr ⟨a, len, cap, h, r⟩
  obtain ⟨A, len, cap, rows, rfl, h1, h2, h3, h4, h5, _⟩ := rows_of (by rw [write_cells]; omega) h'
  have h5 := h5.take (fun r hr => (h4 r hr).1) h3 h1
  obtain ⟨l, hl⟩ := rows_map (fun x : WN w => x.1.cells) (rows.take len) (fun r hr => by
    obtain ⟨h6, h7⟩ := h4 r (List.mem_of_mem_take hr)
    obtain ⟨x, hx, hn⟩ := write_sees r h6 h7
    exact ⟨⟨x, hn⟩, hx⟩)
  have hlen : (l.map (·.1)).length = len := by
    have := congrArg List.length hl
    simp at this
    simp
    omega
  rw [hl, ← List.flatMap_def] at h5
  refine ⟨l.map (·.1), A, cap, by rw [hlen], by omega, by omega, ?_, fun x hx => ?_⟩
  · rw [hlen, List.flatMap_map]
    rw [write_cells] at h5
    exact h5
  · obtain ⟨y, _, rfl⟩ := List.mem_map.1 hx
    exact y.2
def TailP (B : Nat) (W : World) (g r a m k : Nat) : Prop := ∃ S1 S2 bs L K, Both B W S1 S2 g r a m bs L K bs L K ∧ InvF a m bs L K ∧ L.length ≤ 100 + (k + 1)
theorem cells13 {w : World} {g : Nat} {t : TypeId} {o : Opx} (h : Blk w g t o.cells.toArray) :
    w.cell? ⟨g, 0, none⟩ = some (.int .i64 o.k) ∧ w.cell? ⟨g, 1, none⟩ = some (.int .i64 o.a) ∧ w.cell? ⟨g, 2, none⟩ = some (.int .i64 o.b) ∧ w.cell? ⟨g, 3, none⟩ = some (.int .i64 o.x.r) ∧ w.cell? ⟨g, 4, none⟩ = some (.int .i64 o.x.n) ∧ w.cell? ⟨g, 5, none⟩ = some (.int .i64 o.x.t) ∧ w.cell? ⟨g, 6, none⟩ = some (.int .i64 o.x.s) ∧ w.cell? ⟨g, 7, none⟩ = some o.x.d ∧
    w.cell? ⟨g, 8, none⟩ = some (.string o.x.se) ∧ w.cell? ⟨g, 9, none⟩ = some (.string o.x.k) ∧ w.cell? ⟨g, 10, none⟩ = some (.string o.x.v) ∧ w.cell? ⟨g, 11, none⟩ = some (.bool o.x.g) ∧ w.cell? ⟨g, 12, none⟩ = some (.int .i64 o.x.l) :=
  ⟨h.cell 0, h.cell 1, h.cell 2, h.cell 3, h.cell 4, h.cell 5, h.cell 6, h.cell 7, h.cell 8, h.cell 9, h.cell 10, h.cell 11, h.cell 12⟩
theorem RA.of_new1 {w : World} {x : Wr} (h : Nums w w.heap.size x.d x.z) : RA (w.alloc (.cells x.cells.toArray 35)) (.slice (some ⟨w.heap.size, 0, none⟩) 1 1) [x] := by
  have hr := Reads.new w x.cells.toArray 35 (0, 0) (n := 1) (size := 10) rfl
  refine ⟨some ⟨w.heap.size, 0, none⟩, 1, rfl, by unfold maxLen; simp, by simp, by simpa using hr, fun y hy => ?_⟩
  rw [List.mem_singleton.1 hy]
  exact (h.below (below_new _ _)).more (by simp)
theorem addAll_len {rg b : Nat} : ∀ (xs acc out : List Wr), addAll rg b acc xs = some out → out.length = acc.length + xs.length
  | [], acc, out, h => by injection h with h; rw [← h]; simp
  | x :: xs, acc, out, h => by
    unfold addAll at h
    split at h
    · have := addAll_len xs _ out h
      simp at this ⊢
      omega
    · cases h
theorem exec_load_blk {o : Oper} {ev : Operand → Value} {w : World} (x : Operand) (ho : o.op = .load 35 x) (b : Nat) (cs : List Value)
    (hx : ev x = .pointer (some ⟨b, 0, none⟩)) (hl : cs.length = 10) (hc : Blk w b 35 cs.toArray) : (execOp ev o).run Try.prog w = .ok (.value (.agg ⟨cs⟩)) w := by
  have h := run_loadVar_at (P := Try.prog) (w := w) (b := b) (o := 0) (cs := cs) Try.underlying35 rfl (by rw [hl]; kernel_rfl) (fun j v hj => by
    rw [Nat.zero_add]
    have := hc.cell j
    simp only [List.getElem?_toArray] at this
    rw [← hj, ← this])
  unfold execOp
  simp only [ho, hx, Instr.loadAt, Instr.sureAddr, Sem.run_bind, Sem.run_pure, Result.andThen_ok, h]
theorem addL_len (rg b : Nat) (L : List Wr) (x : Wr) : (addL rg b L x).length ≤ L.length + 1 := by
  unfold addL
  split
  · simp
  · omega
set_option maxRecDepth 100000 in
set_option maxHeartbeats 8000000 in
theorem walk (v0 : Value) (v1 : Value) (w : World) (a0 : Arg Try.prog w 47 v0) (a1 : Arg Try.prog w 48 v1) :
    Calls Try.prog 5 #[v0, v1] w fun e w' => e = .returned (.bool true) ∧ Below w.heap.size w w' := by
  obtain ⟨cs, rfl, hcl, hcs⟩ := a0.agg (.inl ⟨_, Try.underlying47⟩)
  have hbc : Try.prog.cellsOf 47 = 4 := by kernel_rfl
  have hic : Try.prog.cellsOf 3 = 1 := by kernel_rfl
  have hwc : Try.prog.cellsOf 41 = 1 := by kernel_rfl
  rw [hbc] at hcl
  obtain ⟨_, hf⟩ := hcs.struct Try.underlying47
  obtain ⟨rg, nn, bs, vl, LB, rfl, hRA⟩ : ∃ rg nn bs vl LB, cs = [.int .i64 rg, .int .i64 nn, .int .i64 bs, vl] ∧ RA w vl LB := by
    match cs, hcl with
    | [x0, x1, x2, x3], _ =>
      simp [hic, hwc] at hf
      obtain ⟨h0, h1, h2, h3⟩ := hf
      obtain ⟨n0, q0, _⟩ := h0.int Try.underlying3
      obtain ⟨n1, q1, _⟩ := h1.int Try.underlying3
      obtain ⟨n2, q2, _⟩ := h2.int Try.underlying3
      obtain ⟨L, hL⟩ := writes_sees h3
      simp at q0 q1 q2
      subst q0 q1 q2
      exact ⟨_, _, _, _, L, rfl, hL⟩
  obtain ⟨AO, len, cap, ops, rfl, h1, h2, h3, h4, _, _⟩ := a1.things (fun o : ON w => o.1.cells) Try.underlying48 (by rw [op_cells]; omega) (fun cs hl h => by
    obtain ⟨o, ho, hn⟩ := op_sees cs hl h
    exact ⟨⟨o, hn⟩, ho⟩)
  rw [op_cells] at h4
  clear a0 a1 hcs hf hcl hbc hic hwc
  unfold maxLen at h2
  have HO := Lib.hid h4
  have Hol := Lib.hid h3
  obtain ⟨Al, cl, rfl, hml, hlc, hrl, hnl⟩ := id hRA
  have hxb := Blk.new w 47 #[.int .i64 rg, .int .i64 nn, .int .i64 bs, .slice Al LB.length cl]
  have HXB := Lib.hid hxb
  have HB0 := Lib.hid (below_new w (.cells #[.int .i64 rg, .int .i64 nn, .int .i64 bs, .slice Al LB.length cl] 47))
  have HRA := Lib.hid hRA
  clear h3 h4 hRA hrl hnl hxb
  go_enter Try.func5, Try.ntmps5
  go_wp2_with fail
  refine (awake_any _).mono ?_
  rintro e w1 ⟨rfl, hb1⟩
  have hx1 := HXB.out.below hb1 (by simp)
  have HB1 := Lib.hid (below_step HB0.out hb1)
  have HX1 := Lib.hid hx1
  have c3 : w1.cell? ⟨w.heap.size, 3, none⟩ = _ := hx1.cell 3
  have hxl1 := hx1.lt
  simp at c3
  have HRA1 := Lib.hid (HRA.out.below HB1.out)
  clear hb1 hx1 HXB HB0 HRA
  go_wp2_with fail
  refine (great_any _ LB _ HRA1.out).mono ?_
  rintro e w2 ⟨rfl, hb2⟩
  have HX2 := Lib.hid (HX1.out.below hb2 hxl1)
  have HB2 := Lib.hid (below_step HB1.out hb2)
  have HRA2 := Lib.hid (HRA1.out.below hb2)
  clear hb2 HX1 HB1 HRA1 c3 hxl1
  cases hg : greatW LB with
  | true =>
    go_wp2_with fail
    go_ret
    exact ⟨rfl, HB2.out⟩
  | false =>
    by_cases hbig : 100 < len
    · have d1 : decide ((100 : Int) < (len : Int)) = true := by simp; omega
      go_wp2_with fail
      go_ret
      exact ⟨rfl, HB2.out⟩
    · have d1 : decide ((100 : Int) < (len : Int)) = false := by simp; omega
      have hl100 : len ≤ 100 := by omega
      have HRW := Lib.hid (HRA2.out.rw hg)
      have hlb : LB.length ≤ 100 := by
        unfold greatW at hg
        simp only [Bool.or_eq_false_iff, decide_eq_false_iff_not] at hg
        omega
      have c0 : w2.cell? ⟨w.heap.size, 0, none⟩ = _ := HX2.out.cell 0
      have c1 : w2.cell? ⟨w.heap.size, 1, none⟩ = _ := HX2.out.cell 1
      have c2 : w2.cell? ⟨w.heap.size, 2, none⟩ = _ := HX2.out.cell 2
      have c3 : w2.cell? ⟨w.heap.size, 3, none⟩ = _ := HX2.out.cell 3
      have hxl2 := HX2.out.lt
      simp at c0 c1 c2 c3
      clear hg HRA2
      go_wp2_with fail
      refine (new_any rg nn bs _ LB _ HRW.out).mono ?_
      rintro e w3 hN
      rcases hN with ⟨L2, hL2, g, S, rfl, hS, hSw, hb3⟩ | ⟨hno, v, rfl, herr, _, _, hb3⟩
      · have hbad : badNew rg nn bs = false := by
          cases h : badNew rg nn bs with
          | false => rfl
          | true => unfold newL at hL2; rw [h] at hL2; cases hL2
        unfold badNew at hbad
        simp only [Bool.or_eq_false_iff, decide_eq_false_iff_not] at hbad
        obtain ⟨a, rfl⟩ := Int.eq_ofNat_of_zero_le (show 0 ≤ rg by omega)
        obtain ⟨m, rfl⟩ := Int.eq_ofNat_of_zero_le (show 0 ≤ nn by omega)
        obtain ⟨b0, rfl⟩ := Int.eq_ofNat_of_zero_le (show 0 ≤ bs by omega)
        simp only [Int.toNat_natCast] at hS
        have HL2 := Lib.hid hL2
        have HS := Lib.hid hS
        have HSw := Lib.hid hSw
        have HX3 := Lib.hid (HX2.out.below hb3 hxl2)
        have HRW3 := Lib.hid (HRW.out.below hb3)
        have hs23 := hb3.size
        have HB3 := Lib.hid (below_step HB2.out hb3)
        have hm16 : m ≤ 16 := by omega
        clear hL2 hS hSw hb3 hbad HX2 HRW HB2
        have q0 : w3.cell? ⟨w.heap.size, 0, none⟩ = _ := HX3.out.cell 0
        have q1 : w3.cell? ⟨w.heap.size, 1, none⟩ = _ := HX3.out.cell 1
        have q2 : w3.cell? ⟨w.heap.size, 2, none⟩ = _ := HX3.out.cell 2
        have q3 : w3.cell? ⟨w.heap.size, 3, none⟩ = _ := HX3.out.cell 3
        have hxl3 := HX3.out.lt
        simp at q0 q1 q2 q3
        go_wp2_with fail
        refine (new_ref a m b0 _ LB _ HRW3.out).mono ?_
        rintro e w4 hR
        obtain ⟨L3, hL3, r, S2, rfl, hS2, hSw2, hb4⟩ : ∃ L3, newL (a : Int) m b0 LB = some L3 ∧ NewYesR a m b0 L3 w3 e w4 := by
          rcases hR with h | ⟨h, _⟩
          · exact h
          · rw [HL2.out] at h; cases h
        rw [HL2.out] at hL3
        injection hL3 with hL3
        subst hL3
        simp only [Int.toNat_natCast] at hS2
        have hadd : addAll a b0 [] LB = some L2 := by
          have := HL2.out
          unfold newL at this
          split at this
          · cases this
          · simpa using this
        have HI := Lib.hid (InvF.new (nn := m) hadd)
        have hL2l : L2.length ≤ 100 := by
          have := addAll_len _ _ _ hadd
          simp at this
          omega
        have HBo := Lib.hid (show Both w2.heap.size w4 S S2 g r a m b0 L2 (List.replicate m (b0 : Int)) b0 L2 (List.replicate m (b0 : Int)) from
          ⟨HS.out.below hb4, hS2, fun i hi h2 => by have := HS.out.small i hi; have := (hSw2 i h2).1; omega, HSw.out, fun i hi => by have := (hSw2 i hi).1; omega⟩)
        have HX4 := Lib.hid (HX3.out.below hb4 hxl3)
        have HB4 := Lib.hid (below_step HB3.out hb4)
        clear hS2 hSw2 hb4 hR hadd HS HSw HX3 HRW3 HB3 HL2 q0 q1 q2 q3 c0 c1 c2 c3
        go_wp2_with fail
        go_loopw [10, 11, 12, 13, 14, 15, 67, 88, 113, 128, 135] (fun _ _ _ _ _ _ i _ _ _ _ wr' => ∃ k : Nat, k ≤ len ∧ i = .int .i64 k ∧ ∃ S1 S2 bs L K, Both w2.heap.size wr' S1 S2 g r a m bs L K bs L K ∧ InvF a m bs L K ∧ L.length ≤ 100 + k ∧ Blk wr' w.heap.size 47 #[.int .i64 a, .int .i64 m, .int .i64 b0, .slice Al LB.length cl] ∧ Below w.heap.size w wr') (fun _ _ _ _ _ _ i _ _ _ _ _ => len - (intOf i).toNat)
        case atStart => exact ⟨0, by omega, rfl, S, S2, b0, L2, _, HBo.out, HI.out, by omega, HX4.out, HB4.out⟩
        case round =>
          clear HBo HI HX4 HB4
          obtain ⟨k, hk, rfl, S1, S2, bs, L, K, hBo, hI, hLl, hX, hB⟩ := hrel
          have hsz := hB.size
          have hxl := hX.lt
          by_cases hlt : k < len
          · obtain ⟨b, off, rfl, hbb⟩ := HO.out.at_some (by omega)
            have hol : k < ops.length := by rw [Hol.out]; exact hlt
            have hcell : ∀ j v, (ops[k]).1.cells[j]? = some v → wr.cell? ⟨b, off + k * 13 + j, none⟩ = some v := fun j v hj => by
              have hj2 : j < 13 := by
                rcases Nat.lt_or_ge j 13 with h | h
                · exact h
                · rw [List.getElem?_eq_none (by rw [Opx.len]; exact h)] at hj; cases hj
              exact (Reads.thing (fun o : ON w => o.1.cells) (fun o => Opx.len o.1) (HO.out.below hB) (k := k) (x := ops[k]) hlt (List.getElem?_eq_getElem hol) j hj2).trans hj
            generalize ops[k] = o at *
            obtain ⟨⟨ok, oa, ob, xr, xn, xt, xs, xd, xz, xse, xk, xv, xg, xl⟩, hon⟩ := o
            dsimp only at hcell hon
            obtain ⟨Ad, md, cd, rfl⟩ : ∃ Ad md cd, xd = .slice Ad md cd := by obtain ⟨Ad, md, cd, e, _⟩ := hon; exact ⟨Ad, md, cd, e⟩
            have Hon0 := Lib.hid hon
            have Hon := Lib.hid ((hon.below hB).more hsz)
            have Hcell := Lib.hid hcell
            have HBo := Lib.hid hBo
            have HI := Lib.hid hI
            have HX := Lib.hid hX
            have HB := Lib.hid hB
            have hs2 : w2.heap.size ≤ wr.heap.size := by
              have := hBo.fe.small g (by obtain ⟨_, _, _, _, _, h⟩ := hBo.fe; exact h.inG)
              have := hBo.b1 g (by obtain ⟨_, _, _, _, _, h⟩ := hBo.fe; exact h.inG)
              omega
            have HS1l := Lib.hid hBo.fe.small
            have HS2l := Lib.hid hBo.re.small
            have HS1b := Lib.hid hBo.b1
            have HS2b := Lib.hid hBo.b2
            clear hon hcell hBo hI hX hB
            go_wp2_with (first | (refine wpList_load_at rfl 56 (.tmp 69) rfl b (off + k * 13) (Opx.cells ⟨ok, oa, ob, ⟨xr, xn, xt, xs, .slice Ad md cd, xz, xse, xk, xv, xg, xl⟩⟩) rfl Try.underlying56 rfl (by kernel_rfl) Hcell.out ?_) | (refine wpList_store_blk rfl 56 (.tmp 10) (.tmp 70) rfl wr.heap.size (Opx.cells ⟨ok, oa, ob, ⟨xr, xn, xt, xs, .slice Ad md cd, xz, xse, xk, xv, xg, xl⟩⟩) rfl rfl (Blk.new wr 56 #[.int .i64 0, .int .i64 0, .int .i64 0, .int .i64 0, .int .i64 0, .int .i64 0, .int .i64 0, .slice none 0 0, .string ⟨#[]⟩, .string ⟨#[]⟩, .string ⟨#[]⟩, .bool false, .int .i64 0]) (by kernel_rfl) rfl rfl ?_; intro w9 ho9 hk9 hs9; clear hs9; obtain ⟨p0, p1, p2, p3, p4, p5, p6, p7, p8, p9, p10, p11, p12⟩ := cells13 ho9; dsimp only at p0 p1 p2 p3 p4 p5 p6 p7 p8 p9 p10 p11 p12; have pl := ho9.lt))
            have hb9 : Below wr.heap.size wr w9 := (below_new wr (.cells #[.int .i64 0, .int .i64 0, .int .i64 0, .int .i64 0, .int .i64 0, .int .i64 0, .int .i64 0, .slice none 0 0, .string ⟨#[]⟩, .string ⟨#[]⟩, .string ⟨#[]⟩, .bool false, .int .i64 0] 56)).trans (hk9.below (fun i hi e => by omega) (by simp))
            have Hon9 := Lib.hid ((Hon.out.below hb9).more hb9.size)
            have HBo9 := Lib.hid (HBo.out.below hb9)
            have HX9 := Lib.hid (HX.out.below hb9 hxl)
            have HOB9 := Lib.hid ho9
            have HB9 := Lib.hid (HB.out.trans (hb9.mono hsz))
            have hs9' := hb9.size
            clear hk9 hb9 Hon HBo HX HB Hcell ho9 p0 p1 p2 p3 p4 p5 p6 p7 p8 p9 p10 p11 p12
            refine (great_any _ [⟨xr, xn, xt, xs, .slice Ad md cd, xz, xse, xk, xv, xg, xl⟩] _ (RA.of_new1 Hon9.out)).mono ?_
            rintro e w10 ⟨rfl, hb10⟩
            have hbb10 : Below w9.heap.size w9 w10 := (below_new w9 _).trans (hb10.mono (by simp))
            have Hon10 := Lib.hid ((Hon9.out.below hbb10).more hbb10.size)
            have HBo10 := Lib.hid (HBo9.out.below hbb10)
            have HX10 := Lib.hid (HX9.out.below hbb10 HX9.out.lt)
            have HOB10 := Lib.hid (HOB9.out.below hbb10 pl)
            have HB10 := Lib.hid (below_step HB9.out hbb10)
            have hs10 := hbb10.size
            clear hbb10 hb10 Hon9 HBo9 HX9 HOB9 HB9
            cases hg : greatW [(⟨xr, xn, xt, xs, .slice Ad md cd, xz, xse, xk, xv, xg, xl⟩ : Wr)] with
            | true =>
              go_wp2_with fail
              go_ret
              exact ⟨rfl, HB10.out⟩
            | false =>
              obtain ⟨p0, p1, p2, p3, p4, p5, p6, p7, p8, p9, p10, p11, p12⟩ := cells13 HOB10.out
              dsimp only at p0 p1 p2 p3 p4 p5 p6 p7 p8 p9 p10 p11 p12
              have pl10 := HOB10.out.lt
              have hz6 : xz.length ≤ 1000000 := by
                simp [greatW, bigW] at hg
                omega
              clear hg
              go_upto_if 79 with fail
              have hb11 := below_new w10 (.cells #[.int .i64 xr, .int .i64 xn, .int .i64 xt, .int .i64 xs, .slice Ad md cd, .string xse, .string xk, .string xv, .bool xg, .int .i64 xl] 35)
              have HX11 := Lib.hid (HX10.out.below hb11 HX10.out.lt)
              have HOB11 := Lib.hid (HOB10.out.below hb11 pl10)
              have HBo11 := Lib.hid (HBo10.out.below hb11)
              have HB11 := Lib.hid (below_step HB10.out hb11)
              have HXX := Lib.hid (Blk.new w10 35 #[.int .i64 xr, .int .i64 xn, .int .i64 xt, .int .i64 xs, .slice Ad md cd, .string xse, .string xk, .string xv, .bool xg, .int .i64 xl])
              clear hb11 HX10 HOB10 HBo10 HB10 Hon10 p0 p1 p2 p3 p4 p5 p6 p7 p8 p9 p10 p11 p12
              generalize w10.alloc (.cells #[.int .i64 xr, .int .i64 xn, .int .i64 xt, .int .i64 xs, .slice Ad md cd, .string xse, .string xk, .string xv, .bool xg, .int .i64 xl] 35) = V at *
              obtain ⟨xb, hxb⟩ : ∃ xb, w10.heap.size = xb := ⟨_, rfl⟩
              rw [hxb] at pl10 HXX ⊢
              have hxbV : xb < V.heap.size := HXX.out.lt
              clear hxb
              go_cut [] (fun wx => ∃ x : Wr, Blk wx xb 35 x.cells.toArray ∧ Nums w w.heap.size x.d x.z ∧ x.z.length ≤ 1000000 ∧ Keeps (· = xb) V wx)
              case first =>
                cases k1 : (ok == 1) with
                | true =>
                  go_wp2_with fail
                  refine wp_region_mono (fun b => b = xb) (by kernel_rfl) ?_
                  -- 0 Op.fieldAddr 47 (Operand.tmp 2) 0
                  refine wpMono_take' 0 (v := ?_) rfl (by kernel_rfl) (by kernel_rfl) (by kernel_rfl) (fun _ _ _ h => h) (by rfl) ?_ ?_
                  rotate_left
                  · (intro W hSw; try (have hoW := (HX11.out.drew.keeps hSw (by omega)).cell 0; have hlW := (HX11.out.drew.keeps hSw (by omega)).lt; simp at hoW)
                     go_simp; first | done | rfl)
                  try simp only [Act.put, List.setIfInBounds_toArray, List.set_cons_zero, List.set_cons_succ]
                  -- 1 Op.load 3 (Operand.tmp 80)
                  refine wpMono_take' 1 (v := ?_) rfl (by kernel_rfl) (by kernel_rfl) (by kernel_rfl) (fun _ _ _ h => h) (by rfl) ?_ ?_
                  rotate_left
                  · (intro W hSw; try (have hoW := (HX11.out.drew.keeps hSw (by omega)).cell 0; have hlW := (HX11.out.drew.keeps hSw (by omega)).lt; simp at hoW)
                     go_simp; first | done | rfl)
                  try simp only [Act.put, List.setIfInBounds_toArray, List.set_cons_zero, List.set_cons_succ]
                  -- 2 Op.move (Operand.tmp 7)
                  refine wpMono_take' 2 (v := ?_) rfl (by kernel_rfl) (by kernel_rfl) (by kernel_rfl) (fun _ _ _ h => h) (by rfl) ?_ ?_
                  rotate_left
                  · (intro W hSw; try (have hoW := (HX11.out.drew.keeps hSw (by omega)).cell 0; have hlW := (HX11.out.drew.keeps hSw (by omega)).lt; simp at hoW)
                     go_simp; first | done | rfl)
                  try simp only [Act.put, List.setIfInBounds_toArray, List.set_cons_zero, List.set_cons_succ]
                  -- EFFECT 3 Op.call { callee := Callee.value (Operand.func 21), args := #[Operand.tmp 82], argTypes := #[50] }
                  refine wpMono_one' 3 (by kernel_rfl) rfl (by rfl) (fun K hK => ?_)
                  go_simp
                  refine (last_ref (HBo11.out.re.keeps (X := nobody) Keeps.drew (fun _ _ h => h))).mono ?_
                  rintro e w12 ⟨rfl, hb12⟩
                  have HXX12 := Lib.hid (HXX.out.drew.below hb12 hxbV)
                  have HKK := Lib.hid ((Keeps.drew (X := nobody) (w := V)).trans (.of_below hb12))
                  have hxb12 := HXX12.out.lt
                  refine hK.out _ _ ?_ ?_
                  · exact .of_below hb12
                  clear hK K
                  try simp only [Act.put, List.setIfInBounds_toArray, List.set_cons_zero, List.set_cons_succ]
                  -- 4 Op.binOp BinOp.add 3 (Operand.tmp 83) (Operand.const (Value.int IntKind.i64 1)) 3
                  refine wpMono_take' 4 (v := ?_) rfl (by kernel_rfl) (by kernel_rfl) (by kernel_rfl) (fun _ _ _ h => h) (by rfl) ?_ ?_
                  rotate_left
                  · (intro W hSw; try (have hoW := (HX11.out.drew.keeps hSw (by omega)).cell 0; have hlW := (HX11.out.drew.keeps hSw (by omega)).lt; simp at hoW)
                     go_simp; first | done | rfl)
                  try simp only [Act.put, List.setIfInBounds_toArray, List.set_cons_zero, List.set_cons_succ]
                  -- EFFECT 5 Op.call { callee := Callee.value (Operand.func 10), args := #[Operand.tmp 81, Operand.tmp 84], argTypes := #[3, 3] }
                  refine wpMono_one' 5 (by kernel_rfl) rfl (by rfl) (fun K hK => ?_)
                  go_simp
                  refine (write_any _ _ _).mono ?_
                  rintro e w13 ⟨rfl, hb13⟩
                  have HXX13 := Lib.hid (HXX12.out.below hb13 hxb12)
                  have HKK13 := Lib.hid (HKK.out.trans (.of_below hb13))
                  refine hK.out _ _ ?_ ?_
                  · exact .of_below hb13
                  clear hK K
                  try simp only [Act.put, List.setIfInBounds_toArray, List.set_cons_zero, List.set_cons_succ]
                  -- EFFECT 6 Op.store 35 (Operand.tmp 11) (Operand.tmp 85)
                  refine wpMono_one' 6 (by kernel_rfl) rfl (by rfl) (fun K hK => ?_)
                  refine wp_store_at 35 (.tmp 11) (.tmp 85) rfl xb 0 (Wr.cells (wrL _ _)) rfl rfl HXX13.out (by kernel_rfl) (by show 0 + 10 ≤ 10; omega) rfl (fun w14 ho14 hk14 hs14 => ?_)
                  refine hK.out _ _ ?_ ?_
                  · exact hk14
                  clear hK K
                  try simp only [Act.put]
                  refine wpMono_done (by kernel_rfl) ?_ _
                  go_wp2_with fail
                  go_meet
                  case rel => exact ⟨wrL _ _, ho14, wrL_nums _ _ _ _, by simp [wrL], (HKK13.out.more (fun _ _ h => h.elim)).trans hk14⟩
                | false =>
                  go_wp2_with fail
                  go_meet
                  case rel => exact ⟨⟨xr, xn, xt, xs, .slice Ad md cd, xz, xse, xk, xv, xg, xl⟩, HXX.out, Hon0.out, hz6, Keeps.refl _ _⟩
              case rest =>
                clear HXX
                obtain ⟨x, hxx, hxn, hxz, hkx⟩ := hcut
                have hwx : w.heap.size < xb := by omega
                have HX := Lib.hid (HX11.out.keeps hkx (by omega))
                have HOB := Lib.hid (HOB11.out.keeps hkx (by omega))
                have HBo := Lib.hid (show Both w2.heap.size wc S1 S2 g r a m bs L K bs L K from ⟨HBo11.out.fe.keeps hkx (fun i hi e => by have := HS1l.out _ hi; omega), HBo11.out.re.keeps hkx (fun i hi e => by have := HS2l.out _ hi; omega), HBo11.out.ap, HBo11.out.b1, HBo11.out.b2⟩)
                have HB := Lib.hid (HB11.out.trans (hkx.below (B := w.heap.size) (fun i hi e => by omega) (by omega)))
                have HXX := Lib.hid hxx
                have HXN := Lib.hid hxn
                have hWs : w2.heap.size ≤ wc.heap.size := by have := HOB.out.lt; omega
                clear HX11 HOB11 HBo11 HB11 Hon0 hxx hxn hkx
                generalize wc = V2 at *
                have o0 : V2.cell? ⟨wr.heap.size, 0, none⟩ = some (.int .i64 ok) := HOB.out.cell 0
                have o1 : V2.cell? ⟨wr.heap.size, 1, none⟩ = some (.int .i64 oa) := HOB.out.cell 1
                have o2 : V2.cell? ⟨wr.heap.size, 2, none⟩ = some (.int .i64 ob) := HOB.out.cell 2
                have ol := HOB.out.lt
                go_upto_block 2 with fail
                go_cut [12] (fun s12 wx => s12 = .bool true ∧ TailP w2.heap.size wx g r a m k ∧ Blk wx w.heap.size 47 #[.int .i64 a, .int .i64 m, .int .i64 b0, .slice Al LB.length cl] ∧ Blk wx wr.heap.size 56 (Opx.cells ⟨ok, oa, ob, ⟨xr, xn, xt, xs, .slice Ad md cd, xz, xse, xk, xv, xg, xl⟩⟩).toArray ∧ Below w.heap.size w wx)
                case first =>
                  go_upto_if 88 with fail
                  go_cut [88] (fun s88 wx => (∃ b : Bool, s88 = .bool b) ∧ wx = V2)
                  case first =>
                    cases k0 : (ok == 0) with
                    | true => go_wp2_with fail; go_meet; case rel => exact ⟨⟨_, rfl⟩, rfl⟩
                    | false => go_wp2_with fail; go_meet; case rel => exact ⟨⟨_, rfl⟩, rfl⟩
                  case rest =>
                    obtain ⟨⟨bA, rfl⟩, hwc⟩ := hcut
                    subst wc
                    cases bA with
                    | true =>
                      go_wp2_with fail
                      refine wp_region_mono (fun b => b ≠ xb) (by kernel_rfl) ?_
                      -- 0 Op.move (Operand.tmp 5)
                      refine wpMono_take' 0 (v := ?_) rfl (by kernel_rfl) (by kernel_rfl) (by kernel_rfl) (fun _ _ _ h => h) (by rfl) ?_ ?_
                      rotate_left
                      · (intro W hSw; skip
                         go_simp; first | done | rfl)
                      try simp only [Act.put, List.setIfInBounds_toArray, List.set_cons_zero, List.set_cons_succ]
                      -- 1 Op.load 35 (Operand.tmp 11)
                      refine wpMono_take' 1 (v := ?_) rfl (by kernel_rfl) (by kernel_rfl) (by kernel_rfl) (fun _ _ _ h => h) (by rfl) ?_ ?_
                      rotate_left
                      · (intro W hSw; first | (refine exec_load_blk (.tmp 11) ?_ xb x.cells ?_ ?_ (HXX.out.drew.keeps hSw (fun h => h rfl)) <;> rfl) | (skip; go_simp; done) | (skip; go_simp; rfl))
                      try simp only [Act.put, List.setIfInBounds_toArray, List.set_cons_zero, List.set_cons_succ]
                      -- 3 Op.move (Operand.tmp 7)
                      refine wpMono_take' 3 (v := ?_) rfl (by kernel_rfl) (by kernel_rfl) (by kernel_rfl) (fun _ _ _ h => h) (by rfl) ?_ ?_
                      rotate_left
                      · (intro W hSw; skip
                         go_simp; first | done | rfl)
                      try simp only [Act.put, List.setIfInBounds_toArray, List.set_cons_zero, List.set_cons_succ]
                      -- 4 Op.load 35 (Operand.tmp 11)
                      refine wpMono_take' 4 (v := ?_) rfl (by kernel_rfl) (by kernel_rfl) (by kernel_rfl) (fun _ _ _ h => h) (by rfl) ?_ ?_
                      rotate_left
                      · (intro W hSw; first | (refine exec_load_blk (.tmp 11) ?_ xb x.cells ?_ ?_ (HXX.out.drew.keeps hSw (fun h => h rfl)) <;> rfl) | (skip; go_simp; done) | (skip; go_simp; rfl))
                      try simp only [Act.put, List.setIfInBounds_toArray, List.set_cons_zero, List.set_cons_succ]
                      -- EFFECT 2 Op.call { callee := Callee.value (Operand.func 9), args := #[Operand.tmp 91, Operand.tmp 92], argTypes := #[24, 35] }
                      refine wpMono_one' 2 (by kernel_rfl) rfl (by rfl) (fun K hK => ?_)
                      go_simp
                      refine (add_any x (FeedS.drew HBo.out.fe) ((HXN.out.below HB.out).more (by have := HB.out.size; simp; omega)).drew' hxz (by omega)).mono ?_
                      rintro e w12 ⟨v4, S1', rfl, heo, hge, hfe, hk12, hs1⟩
                      have hk12' : Keeps S1 V2 w12 := Keeps.drew.trans hk12
                      have hBoM := HBo.out.feed hWs hfe hk12' hs1
                      have HX12 := Lib.hid (HX.out.keeps hk12' (fun h => by have := HS1b.out _ h; omega))
                      have HOB12 := Lib.hid (HOB.out.keeps hk12' (fun h => by have := HS1l.out _ h; omega))
                      have HB12 := Lib.hid (HB.out.trans (hk12'.below (B := w.heap.size) (fun i hi h => by have := HS1b.out _ h; omega) HB.out.size))
                      have hWs2 : w2.heap.size ≤ w12.heap.size := Nat.le_trans hWs hk12'.size
                      have HBoM := Lib.hid hBoM
                      have HEO := Lib.hid heo
                      have HGE := Lib.hid hge
                      clear hBoM heo hge hfe hs1
                      refine hK.out _ _ ?_ ?_
                      · exact hk12.more fun b _ h e => by have := HS1l.out _ h; omega
                      clear hK K
                      try simp only [Act.put, List.setIfInBounds_toArray, List.set_cons_zero, List.set_cons_succ]
                      -- EFFECT 5 Op.call { callee := Callee.value (Operand.func 22), args := #[Operand.tmp 94, Operand.tmp 95], argTypes := #[50, 35] }
                      refine wpMono_one' 5 (by kernel_rfl) rfl (by rfl) (fun K hK => ?_)
                      go_simp
                      refine (add_ref x HBoM.out.re ((HXN.out.below HB12.out).more HB12.out.size) hxz (by omega)).mono ?_
                      rintro e w13 ⟨rfl, hk13, S2', hre, hs2⟩
                      have hal := addL_len a bs L x
                      have HT := Lib.hid (show TailP w2.heap.size w13 g r a m k from ⟨S1', S2', bs, _, _, HBoM.out.ref hWs2 hre hk13 hs2, HI.out.add x, by omega⟩)
                      have HXT := Lib.hid (HX12.out.keeps hk13 (fun h => by have := HS2b.out _ h; omega))
                      have HOBT := Lib.hid (HOB12.out.keeps hk13 (fun h => by have := HS2l.out _ h; omega))
                      have HBT := Lib.hid (HB12.out.trans (hk13.below (B := w.heap.size) (fun i hi h => by have := HS2b.out _ h; omega) HB12.out.size))
                      have HEO13 := Lib.hid (HEO.out.keeps hk13 (fun i hi h => by have := HS2l.out _ h; have := HGE.out i hi; simp at this; omega))
                      refine hK.out _ _ ?_ ?_
                      · exact hk13.more fun b _ h e => by have := HS2l.out _ h; omega
                      clear hK K
                      try simp only [Act.put, List.setIfInBounds_toArray, List.set_cons_zero, List.set_cons_succ]
                      -- 6 Op.assign (Operand.tmp 93)
                      refine wpMono_take' 6 (v := ?_) rfl (by kernel_rfl) (by kernel_rfl) (by kernel_rfl) (fun _ _ _ h => h) (by rfl) ?_ ?_
                      rotate_left
                      · (intro W hSw; skip
                         go_simp; first | done | rfl)
                      try simp only [Act.put, List.setIfInBounds_toArray, List.set_cons_zero, List.set_cons_succ]
                      -- 7 Op.assign (Operand.tmp 96)
                      refine wpMono_take' 7 (v := ?_) rfl (by kernel_rfl) (by kernel_rfl) (by kernel_rfl) (fun _ _ _ h => h) (by rfl) ?_ ?_
                      rotate_left
                      · (intro W hSw; skip
                         go_simp; first | done | rfl)
                      try simp only [Act.put, List.setIfInBounds_toArray, List.set_cons_zero, List.set_cons_succ]
                      refine wpMono_done (by kernel_rfl) ?_ _
                      clear HBoM HEO HGE hk12 hk12' hk13 hre hs2 hal HX12 HOB12 HB12 HX HOB HBo HB HXX HXN HI
                      generalize addC a bs L x = c at *
                      by_cases hc : c = 0
                      · subst hc
                        obtain rfl : v4 = .nilIface := by
                          rcases HEO13.out with ⟨_, h⟩ | ⟨h, _⟩
                          · exact h
                          · exact absurd rfl h
                        go_wp2_with fail
                        go_meet
                        case rel => exact ⟨rfl, HT.out, HXT.out, HOBT.out, HBT.out⟩
                      · have hc1 : (c == 0) = false := by simpa using hc
                        have hc2 : (c != 0) = true := by simpa using hc
                        obtain ⟨ge, rfl⟩ := HEO13.out.form hc
                        go_wp2_with fail
                        refine (is_eo _ c c w13 HEO13.out).mono ?_
                        rintro e w14 ⟨rfl, hw14⟩
                        subst w14
                        have hc3 : (decide (c ≠ 0) && (c == c)) = true := by simpa using hc
                        rw [hc3]
                        go_wp2_with fail
                        go_meet
                        case rel => exact ⟨rfl, HT.out, HXT.out, HOBT.out, HBT.out⟩
                    | false =>
                      cases k2 : (ok == 2) with
                      | true =>
                        go_wp2_with fail
                        refine wp_region_mono (fun b => b ≠ wr.heap.size) (by kernel_rfl) ?_
                        -- 0 Op.move (Operand.tmp 5)
                        refine wpMono_take' 0 (v := ?_) rfl (by kernel_rfl) (by kernel_rfl) (by kernel_rfl) (fun _ _ _ h => h) (by rfl) ?_ ?_
                        rotate_left
                        · (intro W hSw; try (have hoW := HOB.out.drew.keeps hSw (fun h => h rfl); have o1 : W.cell? ⟨wr.heap.size, 1, none⟩ = some (.int .i64 oa) := hoW.cell 1; have o2 : W.cell? ⟨wr.heap.size, 2, none⟩ = some (.int .i64 ob) := hoW.cell 2)
                           go_simp; first | done | rfl)
                        try simp only [Act.put, List.setIfInBounds_toArray, List.set_cons_zero, List.set_cons_succ]
                        -- 1 Op.fieldAddr 56 (Operand.tmp 10) 1
                        refine wpMono_take' 1 (v := ?_) rfl (by kernel_rfl) (by kernel_rfl) (by kernel_rfl) (fun _ _ _ h => h) (by rfl) ?_ ?_
                        rotate_left
                        · (intro W hSw; try (have hoW := HOB.out.drew.keeps hSw (fun h => h rfl); have o1 : W.cell? ⟨wr.heap.size, 1, none⟩ = some (.int .i64 oa) := hoW.cell 1; have o2 : W.cell? ⟨wr.heap.size, 2, none⟩ = some (.int .i64 ob) := hoW.cell 2)
                           go_simp; first | done | rfl)
                        try simp only [Act.put, List.setIfInBounds_toArray, List.set_cons_zero, List.set_cons_succ]
                        -- 2 Op.load 3 (Operand.tmp 116)
                        refine wpMono_take' 2 (v := ?_) rfl (by kernel_rfl) (by kernel_rfl) (by kernel_rfl) (fun _ _ _ h => h) (by rfl) ?_ ?_
                        rotate_left
                        · (intro W hSw; try (have hoW := HOB.out.drew.keeps hSw (fun h => h rfl); have o1 : W.cell? ⟨wr.heap.size, 1, none⟩ = some (.int .i64 oa) := hoW.cell 1; have o2 : W.cell? ⟨wr.heap.size, 2, none⟩ = some (.int .i64 ob) := hoW.cell 2)
                           go_simp; first | done | rfl)
                        try simp only [Act.put, List.setIfInBounds_toArray, List.set_cons_zero, List.set_cons_succ]
                        -- 3 Op.fieldAddr 56 (Operand.tmp 10) 2
                        refine wpMono_take' 3 (v := ?_) rfl (by kernel_rfl) (by kernel_rfl) (by kernel_rfl) (fun _ _ _ h => h) (by rfl) ?_ ?_
                        rotate_left
                        · (intro W hSw; try (have hoW := HOB.out.drew.keeps hSw (fun h => h rfl); have o1 : W.cell? ⟨wr.heap.size, 1, none⟩ = some (.int .i64 oa) := hoW.cell 1; have o2 : W.cell? ⟨wr.heap.size, 2, none⟩ = some (.int .i64 ob) := hoW.cell 2)
                           go_simp; first | done | rfl)
                        try simp only [Act.put, List.setIfInBounds_toArray, List.set_cons_zero, List.set_cons_succ]
                        -- 4 Op.load 3 (Operand.tmp 118)
                        refine wpMono_take' 4 (v := ?_) rfl (by kernel_rfl) (by kernel_rfl) (by kernel_rfl) (fun _ _ _ h => h) (by rfl) ?_ ?_
                        rotate_left
                        · (intro W hSw; try (have hoW := HOB.out.drew.keeps hSw (fun h => h rfl); have o1 : W.cell? ⟨wr.heap.size, 1, none⟩ = some (.int .i64 oa) := hoW.cell 1; have o2 : W.cell? ⟨wr.heap.size, 2, none⟩ = some (.int .i64 ob) := hoW.cell 2)
                           go_simp; first | done | rfl)
                        try simp only [Act.put, List.setIfInBounds_toArray, List.set_cons_zero, List.set_cons_succ]
                        -- 6 Op.move (Operand.tmp 7)
                        refine wpMono_take' 6 (v := ?_) rfl (by kernel_rfl) (by kernel_rfl) (by kernel_rfl) (fun _ _ _ h => h) (by rfl) ?_ ?_
                        rotate_left
                        · (intro W hSw; try (have hoW := HOB.out.drew.keeps hSw (fun h => h rfl); have o1 : W.cell? ⟨wr.heap.size, 1, none⟩ = some (.int .i64 oa) := hoW.cell 1; have o2 : W.cell? ⟨wr.heap.size, 2, none⟩ = some (.int .i64 ob) := hoW.cell 2)
                           go_simp; first | done | rfl)
                        try simp only [Act.put, List.setIfInBounds_toArray, List.set_cons_zero, List.set_cons_succ]
                        -- 7 Op.fieldAddr 56 (Operand.tmp 10) 1
                        refine wpMono_take' 7 (v := ?_) rfl (by kernel_rfl) (by kernel_rfl) (by kernel_rfl) (fun _ _ _ h => h) (by rfl) ?_ ?_
                        rotate_left
                        · (intro W hSw; try (have hoW := HOB.out.drew.keeps hSw (fun h => h rfl); have o1 : W.cell? ⟨wr.heap.size, 1, none⟩ = some (.int .i64 oa) := hoW.cell 1; have o2 : W.cell? ⟨wr.heap.size, 2, none⟩ = some (.int .i64 ob) := hoW.cell 2)
                           go_simp; first | done | rfl)
                        try simp only [Act.put, List.setIfInBounds_toArray, List.set_cons_zero, List.set_cons_succ]
                        -- 8 Op.load 3 (Operand.tmp 122)
                        refine wpMono_take' 8 (v := ?_) rfl (by kernel_rfl) (by kernel_rfl) (by kernel_rfl) (fun _ _ _ h => h) (by rfl) ?_ ?_
                        rotate_left
                        · (intro W hSw; try (have hoW := HOB.out.drew.keeps hSw (fun h => h rfl); have o1 : W.cell? ⟨wr.heap.size, 1, none⟩ = some (.int .i64 oa) := hoW.cell 1; have o2 : W.cell? ⟨wr.heap.size, 2, none⟩ = some (.int .i64 ob) := hoW.cell 2)
                           go_simp; first | done | rfl)
                        try simp only [Act.put, List.setIfInBounds_toArray, List.set_cons_zero, List.set_cons_succ]
                        -- 9 Op.fieldAddr 56 (Operand.tmp 10) 2
                        refine wpMono_take' 9 (v := ?_) rfl (by kernel_rfl) (by kernel_rfl) (by kernel_rfl) (fun _ _ _ h => h) (by rfl) ?_ ?_
                        rotate_left
                        · (intro W hSw; try (have hoW := HOB.out.drew.keeps hSw (fun h => h rfl); have o1 : W.cell? ⟨wr.heap.size, 1, none⟩ = some (.int .i64 oa) := hoW.cell 1; have o2 : W.cell? ⟨wr.heap.size, 2, none⟩ = some (.int .i64 ob) := hoW.cell 2)
                           go_simp; first | done | rfl)
                        try simp only [Act.put, List.setIfInBounds_toArray, List.set_cons_zero, List.set_cons_succ]
                        -- 10 Op.load 3 (Operand.tmp 124)
                        refine wpMono_take' 10 (v := ?_) rfl (by kernel_rfl) (by kernel_rfl) (by kernel_rfl) (fun _ _ _ h => h) (by rfl) ?_ ?_
                        rotate_left
                        · (intro W hSw; try (have hoW := HOB.out.drew.keeps hSw (fun h => h rfl); have o1 : W.cell? ⟨wr.heap.size, 1, none⟩ = some (.int .i64 oa) := hoW.cell 1; have o2 : W.cell? ⟨wr.heap.size, 2, none⟩ = some (.int .i64 ob) := hoW.cell 2)
                           go_simp; first | done | rfl)
                        try simp only [Act.put, List.setIfInBounds_toArray, List.set_cons_zero, List.set_cons_succ]
                        -- EFFECT 5 Op.call { callee := Callee.value (Operand.func 11), args := #[Operand.tmp 115, Operand.tmp 117, Operand.tmp 119], argTypes := #[24, 3, 3] }
                        refine wpMono_one' 5 (by kernel_rfl) rfl (by rfl) (fun K hK => ?_)
                        go_simp
                        refine (ack_any oa ob (FeedS.drew HBo.out.fe)).mono ?_
                        rintro e w12 ⟨rfl, hfe, hk12⟩
                        have hk12' : Keeps S1 V2 w12 := Keeps.drew.trans hk12
                        have hBoM := HBo.out.feed hWs hfe hk12' (fun i h => .inl h)
                        have HX12 := Lib.hid (HX.out.keeps hk12' (fun h => by have := HS1b.out _ h; omega))
                        have HOB12 := Lib.hid (HOB.out.keeps hk12' (fun h => by have := HS1l.out _ h; omega))
                        have HB12 := Lib.hid (HB.out.trans (hk12'.below (B := w.heap.size) (fun i hi h => by have := HS1b.out _ h; omega) HB.out.size))
                        have hWs2 : w2.heap.size ≤ w12.heap.size := Nat.le_trans hWs hk12'.size
                        refine hK.out _ _ ?_ ?_
                        · exact hk12.more fun b _ h e => by have := HS1l.out _ h; omega
                        clear hK K
                        try simp only [Act.put, List.setIfInBounds_toArray, List.set_cons_zero, List.set_cons_succ]
                        -- EFFECT 11 Op.call { callee := Callee.value (Operand.func 23), args := #[Operand.tmp 121, Operand.tmp 123, Operand.tmp 125], argTypes := #[50, 3, 3] }
                        refine wpMono_one' 11 (by kernel_rfl) rfl (by rfl) (fun K hK => ?_)
                        go_simp
                        refine (ack_ref oa ob hBoM.re).mono ?_
                        rintro e w13 ⟨rfl, hre, hk13⟩
                        have HT := Lib.hid (show TailP w2.heap.size w13 g r a m k from ⟨S1, S2, bs, L, _, hBoM.ref hWs2 hre hk13 (fun i h => .inl h), HI.out.ack oa ob, by omega⟩)
                        have HXT := Lib.hid (HX12.out.keeps hk13 (fun h => by have := HS2b.out _ h; omega))
                        have HOBT := Lib.hid (HOB12.out.keeps hk13 (fun h => by have := HS2l.out _ h; omega))
                        have HBT := Lib.hid (HB12.out.trans (hk13.below (B := w.heap.size) (fun i hi h => by have := HS2b.out _ h; omega) HB12.out.size))
                        refine hK.out _ _ ?_ ?_
                        · exact hk13.more fun b _ h e => by have := HS2l.out _ h; omega
                        clear hK K
                        try simp only [Act.put, List.setIfInBounds_toArray, List.set_cons_zero, List.set_cons_succ]
                        -- 12 Op.binOp BinOp.eql 4 (Operand.tmp 120) (Operand.tmp 126) 4
                        refine wpMono_take' 12 (v := ?_) rfl (by kernel_rfl) (by kernel_rfl) (by kernel_rfl) (fun _ _ _ h => h) (by rfl) ?_ ?_
                        rotate_left
                        · (intro W hSw; try (have hoW := HOB.out.drew.keeps hSw (fun h => h rfl); have o1 : W.cell? ⟨wr.heap.size, 1, none⟩ = some (.int .i64 oa) := hoW.cell 1; have o2 : W.cell? ⟨wr.heap.size, 2, none⟩ = some (.int .i64 ob) := hoW.cell 2)
                           go_simp; first | done | rfl)
                        try simp only [Act.put, List.setIfInBounds_toArray, List.set_cons_zero, List.set_cons_succ]
                        -- 13 Op.assign (Operand.tmp 127)
                        refine wpMono_take' 13 (v := ?_) rfl (by kernel_rfl) (by kernel_rfl) (by kernel_rfl) (fun _ _ _ h => h) (by rfl) ?_ ?_
                        rotate_left
                        · (intro W hSw; try (have hoW := HOB.out.drew.keeps hSw (fun h => h rfl); have o1 : W.cell? ⟨wr.heap.size, 1, none⟩ = some (.int .i64 oa) := hoW.cell 1; have o2 : W.cell? ⟨wr.heap.size, 2, none⟩ = some (.int .i64 ob) := hoW.cell 2)
                           go_simp; first | done | rfl)
                        try simp only [Act.put, List.setIfInBounds_toArray, List.set_cons_zero, List.set_cons_succ]
                        refine wpMono_done (by kernel_rfl) ?_ _
                        go_wp2_with fail
                        go_meet
                        case rel => exact ⟨rfl, HT.out, HXT.out, HOBT.out, HBT.out⟩
                      | false =>
                        cases k3 : (ok == 3) with
                        | true =>
                          go_wp2_with fail
                          refine (trim_feed HBo.out.fe).mono ?_
                          rintro e w12 ⟨rfl, hk12, S1', hfe, hs1⟩
                          have hBoM := HBo.out.feed hWs hfe hk12 hs1
                          have HX12 := Lib.hid (HX.out.keeps hk12 (fun h => by have := HS1b.out _ h; omega))
                          have HOB12 := Lib.hid (HOB.out.keeps hk12 (fun h => by have := HS1l.out _ h; omega))
                          have HB12 := Lib.hid (HB.out.trans (hk12.below (B := w.heap.size) (fun i hi h => by have := HS1b.out _ h; omega) HB.out.size))
                          have hWs2 : w2.heap.size ≤ w12.heap.size := Nat.le_trans hWs hk12.size
                          clear hfe hk12 hs1
                          go_wp2_with fail
                          refine (trim_refF hBoM.re).mono ?_
                          rintro e w13 ⟨n, rfl, hn, hab, hend, hre, hk13⟩
                          obtain ⟨ht, hkb⟩ := trim_same HI.out hm16 hn hab hend
                          rw [ht, Int.toNat_natCast] at hBoM
                          rw [ht]
                          have HT := Lib.hid (show TailP w2.heap.size w13 g r a m k from ⟨S1', S2, bs + n, L.drop n, K, hBoM.ref hWs2 hre hk13 (fun i h => .inl h), HI.out.drop hn hkb, by simp; omega⟩)
                          have HXT := Lib.hid (HX12.out.keeps hk13 (fun h => by have := HS2b.out _ h; omega))
                          have HOBT := Lib.hid (HOB12.out.keeps hk13 (fun h => by have := HS2l.out _ h; omega))
                          have HBT := Lib.hid (HB12.out.trans (hk13.below (B := w.heap.size) (fun i hi h => by have := HS2b.out _ h; omega) HB12.out.size))
                          clear hBoM hn hab hend hre hk13 hkb ht HX12 HOB12 HB12 HX HOB HBo HB HXX HXN HI
                          go_wp2_with fail
                          go_meet
                          case rel => exact ⟨rfl, HT.out, HXT.out, HOBT.out, HBT.out⟩
                        | false =>
                          cases k4 : (ok == 4) with
                          | true =>
                            go_wp2_with fail
                            refine wp_region_mono nobody (by kernel_rfl) ?_
                            -- 0 Op.move (Operand.tmp 5)
                            refine wpMono_take' 0 (v := ?_) rfl (by kernel_rfl) (by kernel_rfl) (by kernel_rfl) (fun _ _ _ h => h) (by rfl) ?_ ?_
                            rotate_left
                            · (intro W hSw; have hcW := hSw.cells; try simp only [World.size_drew, World.cell?_drew] at hcW
                               go_simp; first | done | rfl)
                            try simp only [Act.put, List.setIfInBounds_toArray, List.set_cons_zero, List.set_cons_succ]
                            -- 1 Op.fieldAddr 56 (Operand.tmp 10) 2
                            refine wpMono_take' 1 (v := ?_) rfl (by kernel_rfl) (by kernel_rfl) (by kernel_rfl) (fun _ _ _ h => h) (by rfl) ?_ ?_
                            rotate_left
                            · (intro W hSw; have hcW := hSw.cells; try simp only [World.size_drew, World.cell?_drew] at hcW
                               go_simp; first | done | rfl)
                            try simp only [Act.put, List.setIfInBounds_toArray, List.set_cons_zero, List.set_cons_succ]
                            -- 2 Op.load 3 (Operand.tmp 138)
                            refine wpMono_take' 2 (v := ?_) rfl (by kernel_rfl) (by kernel_rfl) (by kernel_rfl) (fun _ _ _ h => h) (by rfl) ?_ ?_
                            rotate_left
                            · (intro W hSw; have hcW := hSw.cells; try simp only [World.size_drew, World.cell?_drew] at hcW
                               go_simp; first | done | rfl)
                            try simp only [Act.put, List.setIfInBounds_toArray, List.set_cons_zero, List.set_cons_succ]
                            -- 4 Op.move (Operand.tmp 7)
                            refine wpMono_take' 4 (v := ?_) rfl (by kernel_rfl) (by kernel_rfl) (by kernel_rfl) (fun _ _ _ h => h) (by rfl) ?_ ?_
                            rotate_left
                            · (intro W hSw; have hcW := hSw.cells; try simp only [World.size_drew, World.cell?_drew] at hcW
                               go_simp; first | done | rfl)
                            try simp only [Act.put, List.setIfInBounds_toArray, List.set_cons_zero, List.set_cons_succ]
                            -- 5 Op.fieldAddr 56 (Operand.tmp 10) 2
                            refine wpMono_take' 5 (v := ?_) rfl (by kernel_rfl) (by kernel_rfl) (by kernel_rfl) (fun _ _ _ h => h) (by rfl) ?_ ?_
                            rotate_left
                            · (intro W hSw; have hcW := hSw.cells; try simp only [World.size_drew, World.cell?_drew] at hcW
                               go_simp; first | done | rfl)
                            try simp only [Act.put, List.setIfInBounds_toArray, List.set_cons_zero, List.set_cons_succ]
                            -- 6 Op.load 3 (Operand.tmp 142)
                            refine wpMono_take' 6 (v := ?_) rfl (by kernel_rfl) (by kernel_rfl) (by kernel_rfl) (fun _ _ _ h => h) (by rfl) ?_ ?_
                            rotate_left
                            · (intro W hSw; have hcW := hSw.cells; try simp only [World.size_drew, World.cell?_drew] at hcW
                               go_simp; first | done | rfl)
                            try simp only [Act.put, List.setIfInBounds_toArray, List.set_cons_zero, List.set_cons_succ]
                            -- EFFECT 3 Op.call { callee := Callee.value (Operand.func 14), args := #[Operand.tmp 137, Operand.tmp 139], argTypes := #[24, 3] }
                            refine wpMono_one' 3 (by kernel_rfl) rfl (by rfl) (fun K hK => ?_)
                            go_simp
                            refine (batch_any ob (FeedS.drew HBo.out.fe)).mono ?_
                            rintro e w12 ⟨⟨v, L6, rfl, hL6, hO6⟩, hb12⟩
                            obtain ⟨A6, c6, rfl⟩ := ownsRow_slice hO6.row
                            have hbw := below_ofDrew hb12
                            have HBo12 := Lib.hid (HBo.out.below hbw)
                            have HX12 := Lib.hid (HX.out.below hbw HX.out.lt)
                            have HOB12 := Lib.hid (HOB.out.below hbw HOB.out.lt)
                            have HB12 := Lib.hid (below_step HB.out hbw)
                            have HR6 := Lib.hid hO6.rw
                            have HL6 := Lib.hid hL6
                            clear hbw hO6 hL6
                            refine hK.out _ _ ?_ ?_
                            · exact .of_below hb12
                            clear hK K
                            try simp only [Act.put, List.setIfInBounds_toArray, List.set_cons_zero, List.set_cons_succ]
                            -- EFFECT 7 Op.call { callee := Callee.value (Operand.func 26), args := #[Operand.tmp 141, Operand.tmp 143], argTypes := #[50, 3] }
                            refine wpMono_one' 7 (by kernel_rfl) rfl (by rfl) (fun K hK => ?_)
                            go_simp
                            refine (batch_ref ob HBo12.out.re).mono ?_
                            rintro e w13 ⟨⟨v2, P2, rfl, hP, hPP⟩, hb13⟩
                            have HBo13 := Lib.hid (HBo12.out.below hb13)
                            have HX13 := Lib.hid (HX12.out.below hb13 HX12.out.lt)
                            have HOB13 := Lib.hid (HOB12.out.below hb13 HOB12.out.lt)
                            have HB13 := Lib.hid (below_step HB12.out hb13)
                            have HR7 := Lib.hid (HR6.out.below hb13)
                            have HP := Lib.hid hP
                            have HE := Lib.hid (show L6.map Wr.abs = P2.map Wr.abs from HL6.out.trans ((batch_same HI.out ob).trans hPP.symm))
                            clear hP hPP
                            refine hK.out _ _ ?_ ?_
                            · exact .of_below hb13
                            clear hK K
                            try simp only [Act.put, List.setIfInBounds_toArray, List.set_cons_zero, List.set_cons_succ]
                            -- EFFECT 8 Op.call { callee := Callee.value (Operand.func 25), args := #[Operand.tmp 140, Operand.tmp 144], argTypes := #[41, 41] }
                            refine wpMono_one' 8 (by kernel_rfl) rfl (by rfl) (fun K hK => ?_)
                            go_simp
                            refine (same_writes _ _ L6 P2 w13 HR7.out HP.out HE.out).mono ?_
                            rintro e w14 ⟨rfl, hb14⟩
                            have HT := Lib.hid (show TailP w2.heap.size w14 g r a m k from ⟨S1, S2, bs, L, _, HBo13.out.below hb14, HI.out, by omega⟩)
                            have HXT := Lib.hid (HX13.out.below hb14 HX13.out.lt)
                            have HOBT := Lib.hid (HOB13.out.below hb14 HOB13.out.lt)
                            have HBT := Lib.hid (below_step HB13.out hb14)
                            refine hK.out _ _ ?_ ?_
                            · exact .of_below hb14
                            clear hK K
                            try simp only [Act.put, List.setIfInBounds_toArray, List.set_cons_zero, List.set_cons_succ]
                            -- 9 Op.assign (Operand.tmp 145)
                            refine wpMono_take' 9 (v := ?_) rfl (by kernel_rfl) (by kernel_rfl) (by kernel_rfl) (fun _ _ _ h => h) (by rfl) ?_ ?_
                            rotate_left
                            · (intro W hSw; have hcW := hSw.cells; try simp only [World.size_drew, World.cell?_drew] at hcW
                               go_simp; first | done | rfl)
                            try simp only [Act.put, List.setIfInBounds_toArray, List.set_cons_zero, List.set_cons_succ]
                            refine wpMono_done (by kernel_rfl) ?_ _
                            go_wp2_with fail
                            go_meet
                            case rel => exact ⟨rfl, HT.out, HXT.out, HOBT.out, HBT.out⟩
                          | false =>
                            go_wp2_with fail
                            go_meet
                            case rel => exact ⟨rfl, ⟨S1, S2, bs, L, K, HBo.out, HI.out, by omega⟩, HX.out, HOB.out, HB.out⟩
                case rest =>
                  obtain ⟨rfl, hT, hXT, hOBT, hBT⟩ := hcut
                  have HT := Lib.hid hT
                  have HXT := Lib.hid hXT
                  have HOBT := Lib.hid hOBT
                  have HBT := Lib.hid hBT
                  clear hT hXT hOBT hBT HX HOB HBo HB HXX HXN o0 o1 o2 ol hWs HI
                  generalize wc = V3 at *
                  have o1 : V3.cell? ⟨wr.heap.size, 1, none⟩ = some (.int .i64 oa) := HOBT.out.cell 1
                  have o1l := HOBT.out.lt
                  go_wp2_with fail
                  obtain ⟨S1, S2, bs, L, K, hBo, hI, hLl⟩ := HT.out
                  obtain ⟨L', Ar, cr, k0, ck, hLL, hrf⟩ := id hBo.re
                  have hL2 : L'.length = L.length := by rw [← hLL, List.length_map]
                  have o1 : (V3).cell? ⟨wr.heap.size, 1, none⟩ = some (.int .i64 oa) := HOBT.out.cell 1
                  have o1l := HOBT.out.lt
                  have hrl := hrf.blk.lt
                  have HBoT := Lib.hid hBo
                  have HIT := Lib.hid hI
                  have Hrf := Lib.hid hrf
                  clear hBo hI hrf HT
                  refine (is_ref oa HBoT.out.re).mono ?_
                  rintro e w20 ⟨rfl, hw20⟩
                  subst hw20
                  go_upto_if 149 with fail
                  go_cut [15] (fun s15 wx => s15 = .int .i64 (knownI a m K oa) ∧ Below w20.heap.size w20 wx)
                  case first =>
                    cases hi : isB a m oa with
                    | true =>
                      obtain ⟨q, hoa, hq, _⟩ := is_at hi
                      have e1 : oa - 1 = (q : Int) := by omega
                      have e2 : (oa - 1).toNat = q := by omega
                      have hkl := Hrf.out.klen
                      have hq16 : q < 16 := by omega
                      have hqm : (q : Int) < (m : Int) := by omega
                      have hwq := IntWalk.i64_in (q : Int) (by omega)
                      have r4 : w20.cell? ⟨r, 4, none⟩ = _ := Hrf.out.blk.cell 4
                      have kq := (Reads.of_own Hrf.out.know).int (k := q) (by omega)
                      rw [Nat.zero_add] at kq
                      have hk0l := Hrf.out.small k0 Hrf.out.inK
                      simp at r4
                      obtain ⟨y, hy⟩ : ∃ y, K.getD q 0 = y := ⟨_, rfl⟩
                      rw [hy] at kq
                      have HKN := Lib.hid (show knownI a m K oa = y by unfold knownI; rw [if_pos hi, e2, hy])
                      clear hi hy hoa e2
                      go_wp2_with fail
                      refine wp_region_mono nobody (by kernel_rfl) ?_
                      -- 0 Op.move (Operand.tmp 7)
                      refine wpMono_take' 0 (v := ?_) rfl (by kernel_rfl) (by kernel_rfl) (by kernel_rfl) (fun _ _ _ h => h) (by rfl) ?_ ?_
                      rotate_left
                      · (intro W hSw; have hcW := hSw.cells; try simp only [World.size_drew, World.cell?_drew] at hcW
                         go_simp; first | done | rfl)
                      try simp only [Act.put, List.setIfInBounds_toArray, List.set_cons_zero, List.set_cons_succ]
                      -- 1 Op.nilCheck (Operand.tmp 150)
                      refine wpMono_take' 1 (v := ?_) rfl (by kernel_rfl) (by kernel_rfl) (by kernel_rfl) (fun _ _ _ h => h) (by rfl) ?_ ?_
                      rotate_left
                      · (intro W hSw; have hcW := hSw.cells; try simp only [World.size_drew, World.cell?_drew] at hcW
                         go_simp; first | done | rfl)
                      try simp only [Act.put, List.setIfInBounds_toArray, List.set_cons_zero, List.set_cons_succ]
                      -- 2 Op.fieldAddr 61 (Operand.tmp 151) 4
                      refine wpMono_take' 2 (v := ?_) rfl (by kernel_rfl) (by kernel_rfl) (by kernel_rfl) (fun _ _ _ h => h) (by rfl) ?_ ?_
                      rotate_left
                      · (intro W hSw; have hcW := hSw.cells; try simp only [World.size_drew, World.cell?_drew] at hcW
                         go_simp; first | done | rfl)
                      try simp only [Act.put, List.setIfInBounds_toArray, List.set_cons_zero, List.set_cons_succ]
                      -- 3 Op.load 32 (Operand.tmp 152)
                      refine wpMono_take' 3 (v := ?_) rfl (by kernel_rfl) (by kernel_rfl) (by kernel_rfl) (fun _ _ _ h => h) (by rfl) ?_ ?_
                      rotate_left
                      · (intro W hSw; have hcW := hSw.cells; try simp only [World.size_drew, World.cell?_drew] at hcW
                         go_simp; first | done | rfl)
                      try simp only [Act.put, List.setIfInBounds_toArray, List.set_cons_zero, List.set_cons_succ]
                      -- 4 Op.fieldAddr 56 (Operand.tmp 10) 1
                      refine wpMono_take' 4 (v := ?_) rfl (by kernel_rfl) (by kernel_rfl) (by kernel_rfl) (fun _ _ _ h => h) (by rfl) ?_ ?_
                      rotate_left
                      · (intro W hSw; have hcW := hSw.cells; try simp only [World.size_drew, World.cell?_drew] at hcW
                         go_simp; first | done | rfl)
                      try simp only [Act.put, List.setIfInBounds_toArray, List.set_cons_zero, List.set_cons_succ]
                      -- 5 Op.load 3 (Operand.tmp 154)
                      refine wpMono_take' 5 (v := ?_) rfl (by kernel_rfl) (by kernel_rfl) (by kernel_rfl) (fun _ _ _ h => h) (by rfl) ?_ ?_
                      rotate_left
                      · (intro W hSw; have hcW := hSw.cells; try simp only [World.size_drew, World.cell?_drew] at hcW
                         go_simp; first | done | rfl)
                      try simp only [Act.put, List.setIfInBounds_toArray, List.set_cons_zero, List.set_cons_succ]
                      -- 6 Op.binOp BinOp.sub 3 (Operand.tmp 155) (Operand.const (Value.int IntKind.i64 1)) 3
                      refine wpMono_take' 6 (v := ?_) rfl (by kernel_rfl) (by kernel_rfl) (by kernel_rfl) (fun _ _ _ h => h) (by rfl) ?_ ?_
                      rotate_left
                      · (intro W hSw; have hcW := hSw.cells; try simp only [World.size_drew, World.cell?_drew] at hcW
                         go_simp; first | done | rfl)
                      try simp only [Act.put, List.setIfInBounds_toArray, List.set_cons_zero, List.set_cons_succ]
                      -- 7 Op.indexAddr 32 (Operand.tmp 153) (Operand.tmp 156)
                      refine wpMono_take' 7 (v := ?_) rfl (by kernel_rfl) (by kernel_rfl) (by kernel_rfl) (fun _ _ _ h => h) (by rfl) ?_ ?_
                      rotate_left
                      · (intro W hSw; have hcW := hSw.cells; try simp only [World.size_drew, World.cell?_drew] at hcW
                         go_simp; first | done | rfl)
                      try simp only [Act.put, List.setIfInBounds_toArray, List.set_cons_zero, List.set_cons_succ]
                      -- 8 Op.load 3 (Operand.tmp 157)
                      refine wpMono_take' 8 (v := ?_) rfl (by kernel_rfl) (by kernel_rfl) (by kernel_rfl) (fun _ _ _ h => h) (by rfl) ?_ ?_
                      rotate_left
                      · (intro W hSw; have hcW := hSw.cells; try simp only [World.size_drew, World.cell?_drew] at hcW
                         go_simp; first | done | rfl)
                      try simp only [Act.put, List.setIfInBounds_toArray, List.set_cons_zero, List.set_cons_succ]
                      -- 9 Op.assign (Operand.tmp 158)
                      refine wpMono_take' 9 (v := ?_) rfl (by kernel_rfl) (by kernel_rfl) (by kernel_rfl) (fun _ _ _ h => h) (by rfl) ?_ ?_
                      rotate_left
                      · (intro W hSw; have hcW := hSw.cells; try simp only [World.size_drew, World.cell?_drew] at hcW
                         go_simp; first | done | rfl)
                      try simp only [Act.put, List.setIfInBounds_toArray, List.set_cons_zero, List.set_cons_succ]
                      refine wpMono_done (by kernel_rfl) ?_ _
                      go_wp2_with fail
                      go_meet
                      case rel => exact ⟨by rw [HKN.out], (Below.refl _ _).drew⟩
                    | false =>
                      have HKN := Lib.hid (show knownI a m K oa = 0 by unfold knownI; rw [hi]; rfl)
                      clear hi
                      go_wp2_with fail
                      go_meet
                      case rel => exact ⟨by rw [HKN.out], Below.refl _ _⟩
                  case rest =>
                    obtain ⟨rfl, hbd⟩ := hcut
                    obtain ⟨y, hy⟩ : ∃ y, knownI a m K oa = y := ⟨_, rfl⟩
                    have HKN := Lib.hid hy
                    rw [hy]
                    clear hy
                    have HBoT := Lib.hid (HBoT.out.below hbd)
                    have Hrf := Lib.hid (Hrf.out.keeps (X := nobody) (.of_below hbd) (fun _ _ h => h))
                    have HOBT := Lib.hid (HOBT.out.below hbd o1l)
                    have HXT := Lib.hid (HXT.out.below hbd HXT.out.lt)
                    have HBT := Lib.hid (below_step HBT.out hbd)
                    have o1 : wc.cell? ⟨wr.heap.size, 1, none⟩ = some (.int .i64 oa) := HOBT.out.cell 1
                    have o1l : wr.heap.size < wc.heap.size := HOBT.out.lt
                    have hrl : r < wc.heap.size := Hrf.out.blk.lt
                    clear hbd
                    go_wp2_with fail
                    refine wp_region_mono nobody (by kernel_rfl) ?_
                    -- 0 Op.move (Operand.tmp 12)
                    refine wpMono_take' 0 (v := ?_) rfl (by kernel_rfl) (by kernel_rfl) (by kernel_rfl) (fun _ _ _ h => h) (by rfl) ?_ ?_
                    rotate_left
                    · (intro W hSw; have hcW := hSw.cells; try simp only [World.size_drew, World.cell?_drew] at hcW
                       go_simp; first | done | rfl)
                    try simp only [Act.put, List.setIfInBounds_toArray, List.set_cons_zero, List.set_cons_succ]
                    -- 1 Op.unOp UnOp.not 4 (Operand.tmp 159)
                    refine wpMono_take' 1 (v := ?_) rfl (by kernel_rfl) (by kernel_rfl) (by kernel_rfl) (fun _ _ _ h => h) (by rfl) ?_ ?_
                    rotate_left
                    · (intro W hSw; have hcW := hSw.cells; try simp only [World.size_drew, World.cell?_drew] at hcW
                       go_simp; first | done | rfl)
                    try simp only [Act.put, List.setIfInBounds_toArray, List.set_cons_zero, List.set_cons_succ]
                    -- 2 Op.move (Operand.tmp 160)
                    refine wpMono_take' 2 (v := ?_) rfl (by kernel_rfl) (by kernel_rfl) (by kernel_rfl) (fun _ _ _ h => h) (by rfl) ?_ ?_
                    rotate_left
                    · (intro W hSw; have hcW := hSw.cells; try simp only [World.size_drew, World.cell?_drew] at hcW
                       go_simp; first | done | rfl)
                    try simp only [Act.put, List.setIfInBounds_toArray, List.set_cons_zero, List.set_cons_succ]
                    -- 3 Op.move (Operand.tmp 5)
                    refine wpMono_take' 3 (v := ?_) rfl (by kernel_rfl) (by kernel_rfl) (by kernel_rfl) (fun _ _ _ h => h) (by rfl) ?_ ?_
                    rotate_left
                    · (intro W hSw; have hcW := hSw.cells; try simp only [World.size_drew, World.cell?_drew] at hcW
                       go_simp; first | done | rfl)
                    try simp only [Act.put, List.setIfInBounds_toArray, List.set_cons_zero, List.set_cons_succ]
                    -- 5 Op.move (Operand.tmp 7)
                    refine wpMono_take' 5 (v := ?_) rfl (by kernel_rfl) (by kernel_rfl) (by kernel_rfl) (fun _ _ _ h => h) (by rfl) ?_ ?_
                    rotate_left
                    · (intro W hSw; have hcW := hSw.cells; try simp only [World.size_drew, World.cell?_drew] at hcW
                       go_simp; first | done | rfl)
                    try simp only [Act.put, List.setIfInBounds_toArray, List.set_cons_zero, List.set_cons_succ]
                    -- EFFECT 4 Op.call { callee := Callee.value (Operand.func 15), args := #[Operand.tmp 162], argTypes := #[24] }
                    refine wpMono_one' 4 (by kernel_rfl) rfl (by rfl) (fun K hK => ?_)
                    go_simp
                    refine (last_any (FeedS.drew HBoT.out.fe)).mono ?_
                    rintro e w21 ⟨rfl, hb21⟩
                    have hbw := below_ofDrew hb21
                    have HBo1 := Lib.hid (HBoT.out.below hbw)
                    have Hrf1 := Lib.hid (Hrf.out.keeps (X := nobody) (.of_below hbw) (fun _ _ h => h))
                    have HOB1 := Lib.hid (HOBT.out.below hbw o1l)
                    have HX1 := Lib.hid (HXT.out.below hbw HXT.out.lt)
                    have HB1 := Lib.hid (below_step HBT.out hbw)
                    clear hbw
                    refine hK.out _ _ ?_ ?_
                    · exact .of_below hb21
                    clear hK K
                    try simp only [Act.put, List.setIfInBounds_toArray, List.set_cons_zero, List.set_cons_succ]
                    -- EFFECT 6 Op.call { callee := Callee.value (Operand.func 21), args := #[Operand.tmp 164], argTypes := #[50] }
                    refine wpMono_one' 6 (by kernel_rfl) rfl (by rfl) (fun K hK => ?_)
                    go_simp
                    refine (last_ref HBo1.out.re).mono ?_
                    rintro e w22 ⟨rfl, hb22⟩
                    have HBo2 := Lib.hid (HBo1.out.below hb22)
                    have hrf2 := Hrf1.out.keeps (X := nobody) (.of_below hb22) (fun _ _ h => h)
                    have hob2 := HOB1.out.below hb22 HOB1.out.lt
                    have HX2 := Lib.hid (HX1.out.below hb22 HX1.out.lt)
                    have HB2 := Lib.hid (below_step HB1.out hb22)
                    have rb2 : w22.cell? ⟨r, 2, none⟩ = _ := hrf2.blk.cell 2
                    have rb3 : w22.cell? ⟨r, 3, none⟩ = _ := hrf2.blk.cell 3
                    have rl2 := hrf2.blk.lt
                    have o2 : w22.cell? ⟨wr.heap.size, 1, none⟩ = some (.int .i64 oa) := hob2.cell 1
                    have ol2 := hob2.lt
                    simp at rb2 rb3
                    have Hrf2 := Lib.hid hrf2
                    have HOB2 := Lib.hid hob2
                    clear hrf2 hob2
                    refine hK.out _ _ ?_ ?_
                    · exact .of_below hb22
                    clear hK K
                    try simp only [Act.put, List.setIfInBounds_toArray, List.set_cons_zero, List.set_cons_succ]
                    -- 7 Op.binOp BinOp.neq 3 (Operand.tmp 163) (Operand.tmp 165) 3
                    refine wpMono_take' 7 (v := ?_) rfl (by kernel_rfl) (by kernel_rfl) (by kernel_rfl) (fun _ _ _ h => h) (by rfl) ?_ ?_
                    rotate_left
                    · (intro W hSw; have hcW := hSw.cells; try simp only [World.size_drew, World.cell?_drew] at hcW
                       go_simp; first | done | rfl)
                    try simp only [Act.put, List.setIfInBounds_toArray, List.set_cons_zero, List.set_cons_succ]
                    -- 8 Op.pick (Operand.tmp 161) (Operand.const (Value.bool true)) (Operand.tmp 166)
                    refine wpMono_take' 8 (v := ?_) rfl (by kernel_rfl) (by kernel_rfl) (by kernel_rfl) (fun _ _ _ h => h) (by rfl) ?_ ?_
                    rotate_left
                    · (intro W hSw; have hcW := hSw.cells; try simp only [World.size_drew, World.cell?_drew] at hcW
                       go_simp; first | done | rfl)
                    try simp only [Act.put, List.setIfInBounds_toArray, List.set_cons_zero, List.set_cons_succ]
                    -- 9 Op.move (Operand.tmp 167)
                    refine wpMono_take' 9 (v := ?_) rfl (by kernel_rfl) (by kernel_rfl) (by kernel_rfl) (fun _ _ _ h => h) (by rfl) ?_ ?_
                    rotate_left
                    · (intro W hSw; have hcW := hSw.cells; try simp only [World.size_drew, World.cell?_drew] at hcW
                       go_simp; first | done | rfl)
                    try simp only [Act.put, List.setIfInBounds_toArray, List.set_cons_zero, List.set_cons_succ]
                    -- 10 Op.move (Operand.tmp 5)
                    refine wpMono_take' 10 (v := ?_) rfl (by kernel_rfl) (by kernel_rfl) (by kernel_rfl) (fun _ _ _ h => h) (by rfl) ?_ ?_
                    rotate_left
                    · (intro W hSw; have hcW := hSw.cells; try simp only [World.size_drew, World.cell?_drew] at hcW
                       go_simp; first | done | rfl)
                    try simp only [Act.put, List.setIfInBounds_toArray, List.set_cons_zero, List.set_cons_succ]
                    -- 12 Op.move (Operand.tmp 7)
                    refine wpMono_take' 12 (v := ?_) rfl (by kernel_rfl) (by kernel_rfl) (by kernel_rfl) (fun _ _ _ h => h) (by rfl) ?_ ?_
                    rotate_left
                    · (intro W hSw; have hcW := hSw.cells; try simp only [World.size_drew, World.cell?_drew] at hcW
                       go_simp; first | done | rfl)
                    try simp only [Act.put, List.setIfInBounds_toArray, List.set_cons_zero, List.set_cons_succ]
                    -- 13 Op.nilCheck (Operand.tmp 171)
                    refine wpMono_take' 13 (v := ?_) rfl (by kernel_rfl) (by kernel_rfl) (by kernel_rfl) (fun _ _ _ h => h) (by rfl) ?_ ?_
                    rotate_left
                    · (intro W hSw; have hcW := hSw.cells; try simp only [World.size_drew, World.cell?_drew] at hcW
                       go_simp; first | done | rfl)
                    try simp only [Act.put, List.setIfInBounds_toArray, List.set_cons_zero, List.set_cons_succ]
                    -- 14 Op.fieldAddr 61 (Operand.tmp 172) 2
                    refine wpMono_take' 14 (v := ?_) rfl (by kernel_rfl) (by kernel_rfl) (by kernel_rfl) (fun _ _ _ h => h) (by rfl) ?_ ?_
                    rotate_left
                    · (intro W hSw; have hcW := hSw.cells; try simp only [World.size_drew, World.cell?_drew] at hcW
                       go_simp; first | done | rfl)
                    try simp only [Act.put, List.setIfInBounds_toArray, List.set_cons_zero, List.set_cons_succ]
                    -- 15 Op.load 3 (Operand.tmp 173)
                    refine wpMono_take' 15 (v := ?_) rfl (by kernel_rfl) (by kernel_rfl) (by kernel_rfl) (fun _ _ _ h => h) (by rfl) ?_ ?_
                    rotate_left
                    · (intro W hSw; have hcW := hSw.cells; try simp only [World.size_drew, World.cell?_drew] at hcW
                       go_simp; first | done | rfl)
                    try simp only [Act.put, List.setIfInBounds_toArray, List.set_cons_zero, List.set_cons_succ]
                    -- EFFECT 11 Op.call { callee := Callee.value (Operand.func 16), args := #[Operand.tmp 169], argTypes := #[24] }
                    refine wpMono_one' 11 (by kernel_rfl) rfl (by rfl) (fun K hK => ?_)
                    go_simp
                    refine (base_any HBo2.out.fe).mono ?_
                    rintro e w23 ⟨rfl, rfl⟩
                    refine hK.out _ _ ?_ ?_
                    · exact .refl _ _
                    clear hK K
                    try simp only [Act.put, List.setIfInBounds_toArray, List.set_cons_zero, List.set_cons_succ]
                    -- 16 Op.binOp BinOp.neq 3 (Operand.tmp 170) (Operand.tmp 174) 3
                    refine wpMono_take' 16 (v := ?_) rfl (by kernel_rfl) (by kernel_rfl) (by kernel_rfl) (fun _ _ _ h => h) (by rfl) ?_ ?_
                    rotate_left
                    · (intro W hSw; have hcW := hSw.cells; try simp only [World.size_drew, World.cell?_drew] at hcW
                       go_simp; first | done | rfl)
                    try simp only [Act.put, List.setIfInBounds_toArray, List.set_cons_zero, List.set_cons_succ]
                    -- 17 Op.pick (Operand.tmp 168) (Operand.const (Value.bool true)) (Operand.tmp 175)
                    refine wpMono_take' 17 (v := ?_) rfl (by kernel_rfl) (by kernel_rfl) (by kernel_rfl) (fun _ _ _ h => h) (by rfl) ?_ ?_
                    rotate_left
                    · (intro W hSw; have hcW := hSw.cells; try simp only [World.size_drew, World.cell?_drew] at hcW
                       go_simp; first | done | rfl)
                    try simp only [Act.put, List.setIfInBounds_toArray, List.set_cons_zero, List.set_cons_succ]
                    -- 18 Op.move (Operand.tmp 176)
                    refine wpMono_take' 18 (v := ?_) rfl (by kernel_rfl) (by kernel_rfl) (by kernel_rfl) (fun _ _ _ h => h) (by rfl) ?_ ?_
                    rotate_left
                    · (intro W hSw; have hcW := hSw.cells; try simp only [World.size_drew, World.cell?_drew] at hcW
                       go_simp; first | done | rfl)
                    try simp only [Act.put, List.setIfInBounds_toArray, List.set_cons_zero, List.set_cons_succ]
                    -- 19 Op.move (Operand.tmp 5)
                    refine wpMono_take' 19 (v := ?_) rfl (by kernel_rfl) (by kernel_rfl) (by kernel_rfl) (fun _ _ _ h => h) (by rfl) ?_ ?_
                    rotate_left
                    · (intro W hSw; have hcW := hSw.cells; try simp only [World.size_drew, World.cell?_drew] at hcW
                       go_simp; first | done | rfl)
                    try simp only [Act.put, List.setIfInBounds_toArray, List.set_cons_zero, List.set_cons_succ]
                    -- 20 Op.fieldAddr 56 (Operand.tmp 10) 1
                    refine wpMono_take' 20 (v := ?_) rfl (by kernel_rfl) (by kernel_rfl) (by kernel_rfl) (fun _ _ _ h => h) (by rfl) ?_ ?_
                    rotate_left
                    · (intro W hSw; have hcW := hSw.cells; try simp only [World.size_drew, World.cell?_drew] at hcW
                       go_simp; first | done | rfl)
                    try simp only [Act.put, List.setIfInBounds_toArray, List.set_cons_zero, List.set_cons_succ]
                    -- 21 Op.load 3 (Operand.tmp 179)
                    refine wpMono_take' 21 (v := ?_) rfl (by kernel_rfl) (by kernel_rfl) (by kernel_rfl) (fun _ _ _ h => h) (by rfl) ?_ ?_
                    rotate_left
                    · (intro W hSw; have hcW := hSw.cells; try simp only [World.size_drew, World.cell?_drew] at hcW
                       go_simp; first | done | rfl)
                    try simp only [Act.put, List.setIfInBounds_toArray, List.set_cons_zero, List.set_cons_succ]
                    -- 23 Op.move (Operand.tmp 15)
                    refine wpMono_take' 23 (v := ?_) rfl (by kernel_rfl) (by kernel_rfl) (by kernel_rfl) (fun _ _ _ h => h) (by rfl) ?_ ?_
                    rotate_left
                    · (intro W hSw; have hcW := hSw.cells; try simp only [World.size_drew, World.cell?_drew] at hcW
                       go_simp; first | done | rfl)
                    try simp only [Act.put, List.setIfInBounds_toArray, List.set_cons_zero, List.set_cons_succ]
                    -- EFFECT 22 Op.call { callee := Callee.value (Operand.func 13), args := #[Operand.tmp 178, Operand.tmp 180], argTypes := #[24, 3] }
                    refine wpMono_one' 22 (by kernel_rfl) rfl (by rfl) (fun K hK => ?_)
                    go_simp
                    refine (known_any oa HBo2.out.fe).mono ?_
                    rintro e w24 ⟨rfl, rfl⟩
                    rw [HKN.out]
                    refine hK.out _ _ ?_ ?_
                    · exact .refl _ _
                    clear hK K
                    try simp only [Act.put, List.setIfInBounds_toArray, List.set_cons_zero, List.set_cons_succ]
                    -- 24 Op.binOp BinOp.neq 3 (Operand.tmp 181) (Operand.tmp 182) 3
                    refine wpMono_take' 24 (v := ?_) rfl (by kernel_rfl) (by kernel_rfl) (by kernel_rfl) (fun _ _ _ h => h) (by rfl) ?_ ?_
                    rotate_left
                    · (intro W hSw; have hcW := hSw.cells; try simp only [World.size_drew, World.cell?_drew] at hcW
                       go_simp; first | done | rfl)
                    try simp only [Act.put, List.setIfInBounds_toArray, List.set_cons_zero, List.set_cons_succ]
                    -- 25 Op.pick (Operand.tmp 177) (Operand.const (Value.bool true)) (Operand.tmp 183)
                    refine wpMono_take' 25 (v := ?_) rfl (by kernel_rfl) (by kernel_rfl) (by kernel_rfl) (fun _ _ _ h => h) (by rfl) ?_ ?_
                    rotate_left
                    · (intro W hSw; have hcW := hSw.cells; try simp only [World.size_drew, World.cell?_drew] at hcW
                       go_simp; first | done | rfl)
                    try simp only [Act.put, List.setIfInBounds_toArray, List.set_cons_zero, List.set_cons_succ]
                    -- 26 Op.move (Operand.tmp 184)
                    refine wpMono_take' 26 (v := ?_) rfl (by kernel_rfl) (by kernel_rfl) (by kernel_rfl) (fun _ _ _ h => h) (by rfl) ?_ ?_
                    rotate_left
                    · (intro W hSw; have hcW := hSw.cells; try simp only [World.size_drew, World.cell?_drew] at hcW
                       go_simp; first | done | rfl)
                    try simp only [Act.put, List.setIfInBounds_toArray, List.set_cons_zero, List.set_cons_succ]
                    -- 27 Op.move (Operand.tmp 5)
                    refine wpMono_take' 27 (v := ?_) rfl (by kernel_rfl) (by kernel_rfl) (by kernel_rfl) (fun _ _ _ h => h) (by rfl) ?_ ?_
                    rotate_left
                    · (intro W hSw; have hcW := hSw.cells; try simp only [World.size_drew, World.cell?_drew] at hcW
                       go_simp; first | done | rfl)
                    try simp only [Act.put, List.setIfInBounds_toArray, List.set_cons_zero, List.set_cons_succ]
                    -- 29 Op.move (Operand.tmp 7)
                    refine wpMono_take' 29 (v := ?_) rfl (by kernel_rfl) (by kernel_rfl) (by kernel_rfl) (fun _ _ _ h => h) (by rfl) ?_ ?_
                    rotate_left
                    · (intro W hSw; have hcW := hSw.cells; try simp only [World.size_drew, World.cell?_drew] at hcW
                       go_simp; first | done | rfl)
                    try simp only [Act.put, List.setIfInBounds_toArray, List.set_cons_zero, List.set_cons_succ]
                    -- 30 Op.nilCheck (Operand.tmp 188)
                    refine wpMono_take' 30 (v := ?_) rfl (by kernel_rfl) (by kernel_rfl) (by kernel_rfl) (fun _ _ _ h => h) (by rfl) ?_ ?_
                    rotate_left
                    · (intro W hSw; have hcW := hSw.cells; try simp only [World.size_drew, World.cell?_drew] at hcW
                       go_simp; first | done | rfl)
                    try simp only [Act.put, List.setIfInBounds_toArray, List.set_cons_zero, List.set_cons_succ]
                    -- 31 Op.fieldAddr 61 (Operand.tmp 189) 3
                    refine wpMono_take' 31 (v := ?_) rfl (by kernel_rfl) (by kernel_rfl) (by kernel_rfl) (fun _ _ _ h => h) (by rfl) ?_ ?_
                    rotate_left
                    · (intro W hSw; have hcW := hSw.cells; try simp only [World.size_drew, World.cell?_drew] at hcW
                       go_simp; first | done | rfl)
                    try simp only [Act.put, List.setIfInBounds_toArray, List.set_cons_zero, List.set_cons_succ]
                    -- 32 Op.load 41 (Operand.tmp 190)
                    refine wpMono_take' 32 (v := ?_) rfl (by kernel_rfl) (by kernel_rfl) (by kernel_rfl) (fun _ _ _ h => h) (by rfl) ?_ ?_
                    rotate_left
                    · (intro W hSw; have hcW := hSw.cells; try simp only [World.size_drew, World.cell?_drew] at hcW
                       go_simp; first | done | rfl)
                    try simp only [Act.put, List.setIfInBounds_toArray, List.set_cons_zero, List.set_cons_succ]
                    -- EFFECT 28 Op.call { callee := Callee.value (Operand.func 17), args := #[Operand.tmp 186], argTypes := #[24] }
                    refine wpMono_one' 28 (by kernel_rfl) rfl (by rfl) (fun K hK => ?_)
                    go_simp
                    refine (writes_any HBo2.out.fe).mono ?_
                    rintro e w25 ⟨⟨v, L6, rfl, hL6, hO6⟩, hb25⟩
                    obtain ⟨A6, c6, rfl⟩ := ownsRow_slice hO6.row
                    have HBo5 := Lib.hid (HBo2.out.below hb25)
                    have hrf5 := Hrf2.out.keeps (X := nobody) (.of_below hb25) (fun _ _ h => h)
                    have HX5 := Lib.hid (HX2.out.below hb25 HX2.out.lt)
                    have HB5 := Lib.hid (below_step HB2.out hb25)
                    have Hrf5 := Lib.hid hrf5
                    have HO6 := Lib.hid hO6
                    have HL6 := Lib.hid hL6
                    clear hrf5 hO6 hL6
                    refine hK.out _ _ ?_ ?_
                    · exact .of_below hb25
                    clear hK K
                    try simp only [Act.put, List.setIfInBounds_toArray, List.set_cons_zero, List.set_cons_succ]
                    -- EFFECT 33 Op.call { callee := Callee.value (Operand.func 25), args := #[Operand.tmp 187, Operand.tmp 191], argTypes := #[41, 41] }
                    refine wpMono_one' 33 (by kernel_rfl) rfl (by rfl) (fun K hK => ?_)
                    go_simp
                    have hrw5 := Hrf5.out.rl.rw
                    rw [hL2] at hrw5
                    refine (same_writes _ _ L6 L' w25 HO6.out.rw hrw5 (HL6.out.trans hLL.symm)).mono ?_
                    rintro e w26 ⟨rfl, hb26⟩
                    have HBo6 := Lib.hid (HBo5.out.below hb26)
                    have HX6 := Lib.hid (HX5.out.below hb26 HX5.out.lt)
                    have HB6 := Lib.hid (below_step HB5.out hb26)
                    clear hrw5
                    refine hK.out _ _ ?_ ?_
                    · exact .of_below hb26
                    clear hK K
                    try simp only [Act.put, List.setIfInBounds_toArray, List.set_cons_zero, List.set_cons_succ]
                    -- 34 Op.unOp UnOp.not 4 (Operand.tmp 192)
                    refine wpMono_take' 34 (v := ?_) rfl (by kernel_rfl) (by kernel_rfl) (by kernel_rfl) (fun _ _ _ h => h) (by rfl) ?_ ?_
                    rotate_left
                    · (intro W hSw; have hcW := hSw.cells; try simp only [World.size_drew, World.cell?_drew] at hcW
                       go_simp; first | done | rfl)
                    try simp only [Act.put, List.setIfInBounds_toArray, List.set_cons_zero, List.set_cons_succ]
                    -- 35 Op.pick (Operand.tmp 185) (Operand.const (Value.bool true)) (Operand.tmp 193)
                    refine wpMono_take' 35 (v := ?_) rfl (by kernel_rfl) (by kernel_rfl) (by kernel_rfl) (fun _ _ _ h => h) (by rfl) ?_ ?_
                    rotate_left
                    · (intro W hSw; have hcW := hSw.cells; try simp only [World.size_drew, World.cell?_drew] at hcW
                       go_simp; first | done | rfl)
                    try simp only [Act.put, List.setIfInBounds_toArray, List.set_cons_zero, List.set_cons_succ]
                    refine wpMono_done (by kernel_rfl) ?_ _
                    clear hb21 hb22 hb25 hb26
                    go_wp2_with fail
                    go_roundw
                    case rel => exact ⟨k + 1, by omega, by go_num, S1, S2, bs, L, K, HBo6.out, HIT.out, hLl, HX6.out, HB6.out⟩
                    case measure => simp [intOf]; omega
          · obtain rfl : len = k := by omega
            have d9 : decide ((len : Int) < (len : Int)) = false := by simp
            have HB := Lib.hid hB
            clear hBo hI hX hB
            go_wp2_with fail
            go_ret
            exact ⟨rfl, HB.out⟩
      · have HE := Lib.hid herr
        have HX3 := Lib.hid (HX2.out.below hb3 hxl2)
        have HRW3 := Lib.hid (HRW.out.below hb3)
        have HB3 := Lib.hid (below_step HB2.out hb3)
        obtain ⟨ge, rfl⟩ := herr.form
        clear herr hb3 HX2 HRW HB2
        have q0 : w3.cell? ⟨w.heap.size, 0, none⟩ = _ := HX3.out.cell 0
        have q1 : w3.cell? ⟨w.heap.size, 1, none⟩ = _ := HX3.out.cell 1
        have q2 : w3.cell? ⟨w.heap.size, 2, none⟩ = _ := HX3.out.cell 2
        have q3 : w3.cell? ⟨w.heap.size, 3, none⟩ = _ := HX3.out.cell 3
        have hxl3 := HX3.out.lt
        simp at q0 q1 q2 q3
        go_wp2_with fail
        refine (new_ref rg nn bs _ LB _ HRW3.out).mono ?_
        rintro e w4 hR
        obtain ⟨rfl, hb4⟩ : e = .returned (.tuple #[.pointer none, .bool false]) ∧ Below w3.heap.size w3 w4 := by
          rcases hR with ⟨_, h, _⟩ | ⟨_, h⟩
          · rw [hno] at h; cases h
          · exact h
        have HE4 := Lib.hid (HE.out.below hb4)
        have HB4 := Lib.hid (below_step HB3.out hb4)
        clear hb4 hR HE HB3 hno
        go_wp2_with fail
        refine (is_eo _ 1 1 w4 (.inr ⟨by decide, HE4.out, by simp⟩)).mono ?_
        rintro e w5 ⟨rfl, rfl⟩
        go_wp2_with fail
        go_ret
        exact ⟨rfl, HB4.out⟩
end Go.Proofs.Ytmclmefgddomfaa.wFeedPlays
