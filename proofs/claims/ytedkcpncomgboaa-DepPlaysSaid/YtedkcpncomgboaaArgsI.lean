/- What the dep laws' arguments read as; the law's own great. -/
import Derived.Test.YtedkcpncomgboaaAwakeI
import Derived.Test.YtedkcpncomgboaaRows
namespace Go.Proofs.Ytedkcpncomgboaa.dep
open Go Go.RowKit Go.Proofs.Ytedkcpncomgboaa.base Go.Proofs.Ytedkcpncomgboaa.rowe Go.Proofs.Ytedkcpncomgboaa.wire Go.Proofs.Ytedkcpncomgboaa.vec Go.Proofs.Ytedkcpncomgboaa.cmp Go.Proofs.Ytedkcpncomgboaa.with_ Go.Proofs.Ytedkcpncomgboaa.monoj Go.Proofs.Ytedkcpncomgboaa.err

/-- a slice of numbers that can be read -/
def VecOk (w : World) (v : Value) (zs : List Int) : Prop := ∃ A n c, v = .slice A n c ∧ Vec w w.heap.size A n c zs
theorem VecOk.below {w w' : World} {v : Value} {zs : List Int} (h : VecOk w v zs) (hb : Below w.heap.size w w') : VecOk w' v zs := by
  obtain ⟨A, n, c, h1, h2⟩ := h
  exact ⟨A, n, c, h1, (h2.below hb).more hb.size⟩
theorem VecOk.one {w : World} {v : Value} {zs : List Int} (h : VecOk w v zs) : v.oneCell' = true := by obtain ⟨A, n, c, rfl, _⟩ := h; rfl
theorem write_cells : Try.prog.cellsOf 35 = 10 := by kernel_rfl
theorem vec_sees {w : World} {t : TypeId} {v : Value} (ht : Try.prog.underlying t = some (.slice 3)) (h : Sees Try.prog w t [v]) : ∃ zs, VecOk w v zs := by
  have e3 : Try.prog.cellsOf 3 = 1 := by kernel_rfl
  have h4' : v = .slice none 0 0 ∨ ∃ (a : Addr) (len cap : Nat), v = .slice (some a) len cap ∧ len ≤ cap ∧ cap ≤ maxLen ∧ ∀ i, i < cap → ∃ es, w.cells? 0 (a.add (i * Try.prog.cellsOf 3)) (Try.prog.cellsOf 3) = some es ∧ Sees Try.prog w 3 es := by
    rcases h.slice ht with h | ⟨a, len, cap, h, r⟩
    · injection h with h; exact .inl h
    · injection h with h; exact .inr ⟨a, len, cap, h, r⟩
  obtain ⟨A, len, cap, zs, q4, h10, h11, h12, _, h13, h14⟩ := ints_of Try.underlying3 e3 h4'
  exact ⟨zs, A, len, cap, q4, h12, h10, h11, h13, h14⟩
set_option maxRecDepth 100000 in
theorem write_sees {w : World} (cs : List Value) (hl : cs.length = Try.prog.cellsOf 35) (h : Sees Try.prog w 35 cs) : ∃ x : Wr, cs = x.cells ∧ VecOk w x.d x.z := by
  rw [write_cells] at hl
  obtain ⟨_, hf⟩ := h.struct Try.underlying35
  have e3 : Try.prog.cellsOf 3 = 1 := by kernel_rfl
  have e4 : Try.prog.cellsOf 4 = 1 := by kernel_rfl
  have e9 : Try.prog.cellsOf 9 = 1 := by kernel_rfl
  have e31 : Try.prog.cellsOf 32 = 2 := by kernel_rfl
  have e33 : Try.prog.cellsOf 33 = 1 := by kernel_rfl
  match cs, hl with
  | [x0, x1, x2, x3, x4, x5, x6, x7, x8, x9], _ =>
    simp [e3, e4, e9, e31, e33] at hf
    obtain ⟨h0, h1, h2, h4, h5, h6, h7, h8, h9⟩ := hf
    obtain ⟨_, hg⟩ := h2.struct Try.underlying32
    simp [e3] at hg
    obtain ⟨n0, q0, _⟩ := h0.int Try.underlying3
    obtain ⟨n1, q1, _⟩ := h1.int Try.underlying3
    obtain ⟨n2, q2, _⟩ := hg.1.int Try.underlying3
    obtain ⟨n3, q3, _⟩ := hg.2.int Try.underlying3
    obtain ⟨s5, q5, _⟩ := h5.string Try.underlying9
    obtain ⟨s6, q6, _⟩ := h6.string Try.underlying9
    obtain ⟨s7, q7, _⟩ := h7.string Try.underlying9
    obtain ⟨b8, q8⟩ := h8.bool Try.underlying4
    obtain ⟨n9, q9, _⟩ := h9.int Try.underlying3
    obtain ⟨zs, hz⟩ := vec_sees Try.underlying33 h4
    simp at q0 q1 q2 q3 q5 q6 q7 q8 q9
    subst q0 q1 q2 q3 q5 q6 q7 q8 q9
    exact ⟨⟨n0, n1, n2, n3, x4, zs, s5, s6, s7, b8, n9⟩, rfl, hz⟩
/-- an operation of a script -/
structure Opd where
  k : Int
  x : Wr
  v : Value
  vz : List Int
def Opd.cells (o : Opd) : List Value := .int .i64 o.k :: (o.x.cells ++ [o.v])
theorem Opd.len (o : Opd) : o.cells.length = 12 := rfl
/-- its numbers can be read -/
def OpOk (w : World) (o : Opd) : Prop := VecOk w o.x.d o.x.z ∧ VecOk w o.v o.vz
theorem OpOk.below {w w' : World} {o : Opd} (h : OpOk w o) (hb : Below w.heap.size w w') : OpOk w' o := ⟨h.1.below hb, h.2.below hb⟩
theorem OpOk.all {w : World} {o : Opd} (h : OpOk w o) : o.cells.all (·.oneCell') = true := by
  have h1 := oneAll o.x h.1.one
  have h2 := h.2.one
  unfold Opd.cells
  rw [List.all_cons, List.all_append, h1]
  simp [h2]
  rfl
theorem op_cells : Try.prog.cellsOf 52 = 12 := by kernel_rfl
set_option maxRecDepth 100000 in
theorem op_sees {w : World} (cs : List Value) (hl : cs.length = Try.prog.cellsOf 52) (h : Sees Try.prog w 52 cs) : ∃ o : Opd, cs = o.cells ∧ OpOk w o := by
  rw [op_cells] at hl
  obtain ⟨_, hf⟩ := h.struct Try.underlying52
  have e3 : Try.prog.cellsOf 3 = 1 := by kernel_rfl
  have e26 : Try.prog.cellsOf 26 = 1 := by kernel_rfl
  match cs, hl with
  | [x0, y0, y1, y2, y3, y4, y5, y6, y7, y8, y9, z0], _ =>
    simp [e3, e26, write_cells] at hf
    obtain ⟨h0, h3, h4⟩ := hf
    obtain ⟨n0, q0, _⟩ := h0.int Try.underlying3
    obtain ⟨x, hx, hn⟩ := write_sees _ (by rw [write_cells]; rfl) h3
    obtain ⟨zs, hz⟩ := vec_sees Try.underlying26 h4
    simp at q0
    subst q0
    exact ⟨⟨n0, x, z0, zs⟩, by show _ = _ :: (x.cells ++ [_]); rw [← hx]; rfl, hn, hz⟩
/-- a script -/
def OpsR (w : World) (v : Value) (L : List Opd) : Prop := ∃ A c, v = .slice A L.length c ∧ L.length ≤ maxLen ∧ L.length ≤ c ∧ Reads w w.heap.size 12 A L.length (L.flatMap Opd.cells) ∧ ∀ o ∈ L, OpOk w o
theorem OpsR.below {w w' : World} {v : Value} {L : List Opd} (h : OpsR w v L) (hb : Below w.heap.size w w') : OpsR w' v L := by
  obtain ⟨A, c, h1, h2, h3, h4, h5⟩ := h
  exact ⟨A, c, h1, h2, h3, (h4.below hb).more hb.size, fun x hx => (h5 x hx).below hb⟩
abbrev ON (w : World) := {o : Opd // OpOk w o}
theorem ops_sees {w : World} {v : Value} (h : Sees Try.prog w 49 [v]) : ∃ L, OpsR w v L := by
  have h' : v = .slice none 0 0 ∨ ∃ (a : Addr) (len cap : Nat), v = .slice (some a) len cap ∧ len ≤ cap ∧ cap ≤ maxLen ∧ ∀ i, i < cap → ∃ es, w.cells? 0 (a.add (i * Try.prog.cellsOf 52)) (Try.prog.cellsOf 52) = some es ∧ Sees Try.prog w 52 es := by
    rcases h.slice Try.underlying49 with h | ⟨a, len, cap, h, r⟩
    · injection h with h; exact .inl h
    · injection h with h; exact .inr ⟨a, len, cap, h, r⟩
  obtain ⟨A, len, cap, rows, rfl, h1, h2, h3, h4, h5, _⟩ := rows_of (by rw [op_cells]; omega) h'
  have h5 := h5.take (fun r hr => (h4 r hr).1) h3 h1
  obtain ⟨l, hl⟩ := rows_map (fun x : ON w => x.1.cells) (rows.take len) (fun r hr => by
    obtain ⟨h6, h7⟩ := h4 r (List.mem_of_mem_take hr)
    obtain ⟨x, hx, hn⟩ := op_sees r h6 h7
    exact ⟨⟨x, hn⟩, hx⟩)
  have hlen : (l.map (·.1)).length = len := by
    have := congrArg List.length hl
    simp at this
    simp
    omega
  rw [hl, ← List.flatMap_def] at h5
  refine ⟨l.map (·.1), A, cap, by rw [hlen], by omega, by omega, ?_, fun x hx => ?_⟩
  · rw [hlen, List.flatMap_map]
    rw [op_cells] at h5
    exact h5
  · obtain ⟨y, _, rfl⟩ := List.mem_map.1 hx
    exact y.2
def bigO (o : Opd) : Bool := decide (100 < o.vz.length) || (decide (100 < o.x.z.length) || (decide (1000 < o.x.se.size) || (decide (1000 < o.x.k.size) || decide (1000 < o.x.v.size))))
def greatO (L : List Opd) : Bool := decide (100 < L.length) || L.any bigO
def opZ : Opd := ⟨0, wrZ, .slice none 0 0, []⟩
theorem op_at {w : World} {A : Option Addr} {m B : Nat} {L : List Opd} (h : Reads w B 12 A m (L.flatMap Opd.cells)) (hl : L.length = m) {k : Nat} (hk : k < m) : ∃ b off, A = some ⟨b, off, none⟩ ∧ b < B ∧ ∀ q v, (L.getD k opZ).cells[q]? = some v → w.cell? ⟨b, off + k * 12 + q, none⟩ = some v := by
  obtain ⟨b, off, rfl, hb⟩ := h.at_some (by omega)
  refine ⟨b, off, rfl, hb, fun q v hq => ?_⟩
  have hq2 : q < 12 := by
    have := (List.getElem?_eq_some_iff.1 hq).1
    rwa [Opd.len] at this
  have h5 := Reads.thing Opd.cells Opd.len h (k := k) (x := L.getD k opZ) (by omega) (by rw [List.getD_eq_getElem?_getD, List.getElem?_eq_getElem (by omega)]; rfl) q hq2
  rw [h5, hq]
set_option maxRecDepth 100000 in
set_option maxHeartbeats 4000000 in
theorem great_any (v : Value) (L : List Opd) (w : World) (h : OpsR w v L) : Calls Try.prog 16 #[v] w fun e w' => e = .returned (.bool (greatO L)) ∧ Below w.heap.size w w' := by
  obtain ⟨A, c, rfl, hm, hlc, hr, hn⟩ := h
  obtain ⟨m, hml⟩ : ∃ m, L.length = m := ⟨_, rfl⟩
  rw [hml] at hm hlc hr ⊢
  unfold maxLen at hm
  have Hr := Lib.hid hr
  have Hn := Lib.hid hn
  have Hml := Lib.hid hml
  clear hr hn hml
  by_cases hbig : 100 < m
  · have HF := Lib.hid (show greatO L = true by unfold greatO; rw [Hml.out, decide_eq_true hbig]; rfl)
    go_enter Try.func16, Try.ntmps16
    go_wp2
    go_ret
    exact ⟨by rw [HF.out]; rfl, Below.refl _ _⟩
  · have HG := Lib.hid (show greatO L = (L.drop 0).any bigO by unfold greatO; rw [Hml.out, decide_eq_false hbig]; rfl)
    go_enter Try.func16, Try.ntmps16
    go_wp2
    go_loopw [4, 10] (fun _ i wr' => ∃ k : Nat, k ≤ m ∧ i = .int .i64 k ∧ greatO L = (L.drop k).any bigO ∧ Below w.heap.size w wr') (fun _ i _ => m - (intOf i).toNat)
    case atStart => exact ⟨0, by omega, rfl, HG.out, Below.refl _ _⟩
    case round =>
      clear HG
      obtain ⟨k, hk, rfl, hg, hb⟩ := hrel
      have hsz := hb.size
      by_cases hlt : k < m
      · obtain ⟨b, off, rfl, hbb, he⟩ := op_at (Hr.out.below hb) Hml.out hlt
        have HE := Lib.hid he
        have hkl : k < L.length := by rw [Hml.out]; exact hlt
        have hgd : L.getD k opZ = L[k] := by rw [List.getD_eq_getElem?_getD, List.getElem?_eq_getElem hkl]; rfl
        have hok : OpOk wr (L.getD k opZ) := by rw [hgd]; exact (Hn.out _ (List.getElem_mem hkl)).below hb
        have hgs : greatO L = (bigO (L.getD k opZ) || (L.drop (k + 1)).any bigO) := by rw [hg, List.drop_eq_getElem_cons hkl, List.any_cons, hgd]
        generalize L.getD k opZ = o at *
        obtain ⟨⟨A1, n1, c1, hd1, hv1⟩, ⟨A2, n2, c2, hd2, hv2⟩⟩ := id hok
        have hall := hok.all
        have hz1 := hv1.1
        have hz2 := hv2.1
        have HGS := Lib.hid hgs
        have HB := Lib.hid hb
        have HD := Lib.hid (And.intro hd1 hd2)
        have HZ := Lib.hid (And.intro hz1 hz2)
        clear hg hb he hgd hok hgs hv1 hv2 hd1 hd2 hz1 hz2
        go_wp2_with (first | ((with_reducible refine wpList_load_at ?_ 52 (.tmp 12) ?_ b (off + k * 12) o.cells ?_ Try.underlying52 ?_ ?_ HE.out ?_); rfl; rfl; rfl; rfl; (rw [Opd.len]; kernel_rfl)) | ((with_reducible refine wpList_store_blk ?_ 52 (.tmp 4) (.tmp 13) ?_ wr.heap.size o.cells ?_ ?_ (Blk.new wr 52 #[.int .i64 0, .int .i64 0, .int .i64 0, .int .i64 0, .int .i64 0, .slice none 0 0, .string ⟨#[]⟩, .string ⟨#[]⟩, .string ⟨#[]⟩, .bool false, .int .i64 0, .slice none 0 0]) ?_ ?_ hall ?_); rfl; rfl; rfl; rfl; (rw [Opd.len]; kernel_rfl); rfl; intro w9 ho9 hk9 hs9; clear hs9; have HB9 := Lib.hid (below_step HB.out ((below_new wr _).trans (hk9.below (fun i hi e => absurd hi (by rw [show i = wr.heap.size from e]; omega)) (by simp)))); have e11 : w9.cell? ⟨wr.heap.size, 11, none⟩ = some o.v := ho9.cell 11; rw [HD.out.2] at e11; have e5 : w9.cell? ⟨wr.heap.size, 5, none⟩ = some o.x.d := ho9.cell 5; rw [HD.out.1] at e5; have e6 : w9.cell? ⟨wr.heap.size, 6, none⟩ = some (.string o.x.se) := ho9.cell 6; have e7 : w9.cell? ⟨wr.heap.size, 7, none⟩ = some (.string o.x.k) := ho9.cell 7; have e8 : w9.cell? ⟨wr.heap.size, 8, none⟩ = some (.string o.x.v) := ho9.cell 8; have el9 := ho9.lt; clear hk9 ho9))
        case roundEnd =>
          have hbf : bigO o = false := by
            have h1 := HZ.out.1
            have h2 := HZ.out.2
            unfold bigO
            simp only [Bool.or_eq_false_iff, decide_eq_false_iff_not]
            omega
          go_roundw
          case rel => exact ⟨k + 1, by omega, by go_num, by rw [HGS.out, hbf, Bool.false_or], HB9.out⟩
          case measure => (simp [intOf]; try omega)
        all_goals
          have ht : greatO L = true := by
            have h1 := HZ.out.1
            have h2 := HZ.out.2
            have hbt : bigO o = true := by
              unfold bigO
              simp only [Bool.or_eq_true, decide_eq_true_eq]
              omega
            rw [HGS.out, hbt, Bool.true_or]
          go_ret
          exact ⟨by rw [ht]; rfl, HB9.out⟩
      · obtain rfl : m = k := by omega
        have HT := Lib.hid (show greatO L = false by rw [hg, List.drop_eq_nil_of_le (by rw [Hml.out]; omega)]; rfl)
        have Hb := Lib.hid hb
        clear hb hg
        go_wp2
        go_ret
        exact ⟨by rw [HT.out]; rfl, Hb.out⟩
end Go.Proofs.Ytedkcpncomgboaa.dep
