/- DepAll's closure: an offer, and what is shown counted. -/
import Derived.Test.YtedkcpncomgboaaGenA
namespace Go.Proofs.Ytedkcpncomgboaa.dep
open Go Go.RowKit Go.Proofs.Ytedkcpncomgboaa.base Go.Proofs.Ytedkcpncomgboaa.rowe Go.Proofs.Ytedkcpncomgboaa.wire Go.Proofs.Ytedkcpncomgboaa.vec Go.Proofs.Ytedkcpncomgboaa.cmp Go.Proofs.Ytedkcpncomgboaa.with_ Go.Proofs.Ytedkcpncomgboaa.monoj Go.Proofs.Ytedkcpncomgboaa.err

/-- where the offers stand: W0 is the world before the inbox was made -/
def OffI (W0 : World) (pi ps g : Nat) (all : List Wr) (wr : World) (S : Nat → Prop) (ap : List Int) (ws : List Wr) (sh : Int) : Prop :=
  (∃ va vw, InF wr S g 1 ap ws va vw) ∧ (∀ i, S i → W0.heap.size ≤ i) ∧ Below W0.heap.size W0 wr ∧ Blk wr pi 38 #[.pointer (some ⟨g, 0, none⟩)] ∧ Blk wr ps 3 #[.int .i64 sh] ∧ ¬ S pi ∧ ¬ S ps ∧ W0.heap.size ≤ pi ∧ W0.heap.size ≤ ps ∧ pi ≠ ps ∧
    MidI all ap ws sh ∧ (∀ x ∈ ws, readyB ap x = false)
theorem OffI.below {W0 wr w' : World} {pi ps g : Nat} {all : List Wr} {S : Nat → Prop} {ap : List Int} {ws : List Wr} {sh : Int} (h : OffI W0 pi ps g all wr S ap ws sh) (hb : Below wr.heap.size wr w') : OffI W0 pi ps g all w' S ap ws sh := by
  obtain ⟨⟨va, vw, h1⟩, h2, h3, h4, h5, h6⟩ := h
  exact ⟨⟨va, vw, h1.below hb⟩, h2, below_step h3 hb, h4.below hb h4.lt, h5.below hb h5.lt, h6⟩
theorem OffI.store {W0 w2 : World} {pi ps g : Nat} {all : List Wr} {S : Nat → Prop} {ap : List Int} {ws : List Wr} {sh sh' : Int} (hf : ∃ va vw, InF w2 S g 1 ap ws va vw) (hS : ∀ i, S i → W0.heap.size ≤ i) (hb : Below W0.heap.size W0 w2) (hpi : Blk w2 pi 38 #[.pointer (some ⟨g, 0, none⟩)]) (hps : Blk w2 ps 3 #[.int .i64 sh])
    (hSi : ¬ S pi) (hSs : ¬ S ps) (hpi0 : W0.heap.size ≤ pi) (hps0 : W0.heap.size ≤ ps) (hne : pi ≠ ps) (hm : MidI all ap ws sh') (hid : ∀ x ∈ ws, readyB ap x = false) : OffI W0 pi ps g all (w2.setCell ⟨ps, 0, none⟩ (.int .i64 sh')) S ap ws sh' := by
  have hk := Keeps.set1 w2 ps 0 (.int .i64 sh')
  obtain ⟨va, vw, hf⟩ := hf
  refine ⟨⟨va, vw, hf.keeps hk fun i hi e => hSs (by rw [← show i = ps from e]; exact hi)⟩, hS, hb.trans (hk.below (fun i hi e => by have : i = ps := e; omega) hb.size), hpi.keeps hk (fun e => hne e), ?_, hSi, hSs, hpi0, hps0, hne, hm, hid⟩
  simpa using hps.set_ 0 (.int .i64 sh')
set_option maxRecDepth 100000 in
set_option maxHeartbeats 2000000 in
theorem clos_any (W0 : World) (pi ps g : Nat) (all : List Wr) (hg : GenI all) (S : Nat → Prop) (ap : List Int) (ws : List Wr) (sh : Int) (x : Wr) (i : Nat) (w : World) (h : OffI W0 pi ps g all w S ap ws sh) (hx : VecOk w x.d x.z) (hi : Is all x i) (hr : rightB x = true) (hlen : ws.length < 1000) (hz : x.z.length ≤ 16) (hsh : 0 ≤ sh ∧ sh ≤ 1000000) :
    Calls Try.prog 13 #[.agg ⟨x.cells⟩, .pointer (some ⟨pi, 0, none⟩), .pointer (some ⟨ps, 0, none⟩)] w fun e w' => e = .returned (.tuple #[]) ∧ ∃ S' ap' ws' sh', OffI W0 pi ps g all w' S' ap' ws' sh' ∧ Pres all ap' ws' i ∧ (∀ j, Pres all ap ws j → Pres all ap' ws' j) ∧ ws'.length ≤ ws.length + 1 := by
  obtain ⟨⟨va, vw, hf⟩, hS, hb0, hpi, hps, hSi, hSs, hpi0, hps0, hne, hmid, hidle⟩ := h
  obtain ⟨A2, n2, c2, hd2, hv2⟩ := hx
  have hbx := below_new w (.cells x.cells.toArray 35)
  have HQ := Lib.hid (show ∀ q v, x.cells[q]? = some v → (w.alloc (.cells x.cells.toArray 35)).cell? ⟨w.heap.size, 0 + q, none⟩ = some v from fun q v hq => by rw [Nat.zero_add, (Blk.new w 35 x.cells.toArray).cell q]; simpa using hq)
  have HF := Lib.hid (hf.below hbx)
  have HV := Lib.hid ((hv2.below hbx).more hbx.size)
  have HD2 := Lib.hid hd2
  have HPI := Lib.hid (hpi.below hbx hpi.lt)
  have HPS := Lib.hid (hps.below hbx hps.lt)
  have HB0 := Lib.hid (below_step hb0 hbx)
  have HS := Lib.hid hS
  have HMID := Lib.hid hmid
  have HID := Lib.hid hidle
  have p0 : (w.alloc (.cells x.cells.toArray 35)).cell? ⟨pi, 0, none⟩ = some (.pointer (some ⟨g, 0, none⟩)) := HPI.out.cell 0
  have pl := HPI.out.lt
  have hn2 : n2 ≤ 1000000 := by have := hv2.1; omega
  have hz2 := hv2.1
  clear hf hv2 hd2 hpi hps hb0 hS hmid hidle hbx
  go_enter Try.func13, Try.ntmps13
  go_wp2_with ((with_reducible refine wpList_load_at ?_ 35 (.tmp 3) ?_ w.heap.size 0 x.cells ?_ Try.underlying35 ?_ ?_ HQ.out ?_); rfl; rfl; rfl; rfl; (rw [Wr.len]; kernel_rfl))
  generalize w.alloc (.cells x.cells.toArray 35) = w1 at *
  refine (offer_any g 1 S ap ws va vw x A2 n2 c2 w1 HF.out HD2.out HV.out hn2 (HMID.out.sorted.part _) hlen).mono ?_
  rintro e w2 ⟨k, hk, hoff⟩
  rcases hoff with ⟨hc, ge, rfl, _, hb2, _⟩ | ⟨hc0, d', vo, a, l, out, S1, rfl, hdr, hno⟩
  · have HR := Lib.hid (show OffI W0 pi ps g all w2 S ap ws sh ∧ Pres all ap ws i from ⟨⟨⟨va, vw, HF.out.below hb2⟩, HS.out, below_step HB0.out hb2, HPI.out.below hb2 HPI.out.lt, HPS.out.below hb2 HPS.out.lt, hSi, hSs, hpi0, hps0, hne, HMID.out, HID.out⟩, HMID.out.refused hg hi hr hc⟩)
    have q0 : w2.cell? ⟨ps, 0, none⟩ = some (.int .i64 sh) := HR.out.1.2.2.2.2.1.cell 0
    have qf := HR.out.1.2.2.2.2.1.frozen 0
    have ql := HR.out.1.2.2.2.2.1.lt
    have hw1 : IntKind.i64.wrap sh = sh := by rw [IntKind.wrap_i64]; omega
    clear hb2 p0 pl
    go_wp2_with fail
    have h1 := HR.out.1
    exact bodyPost_end (v := .tuple #[]) (by simp [results, Try.results13, go_sem]) rfl ⟨rfl, S, ap, ws, sh, OffI.store h1.1 h1.2.1 h1.2.2.1 h1.2.2.2.1 h1.2.2.2.2.1 hSi hSs hpi0 hps0 hne HMID.out HID.out, HR.out.2, fun j h => h, by omega⟩
  · have hoff := HMID.out.offered hi (y := ({ x with d := d' } : Wr)) ⟨rfl, rfl, rfl⟩ hk hc0
    obtain ⟨hst, hinf, hrow, _, _, hK, hS'⟩ := hdr
    obtain ⟨hm1, hp1⟩ := hoff.1.steps hg hst
    have hid1 : ∀ x ∈ l, readyB a x = false := fun y hy => by
      obtain ⟨j, hj, rfl⟩ := List.mem_iff_getElem.1 hy
      have := hno j hj
      rwa [List.getD_eq_getElem?_getD, List.getElem?_eq_getElem hj] at this
    have hll : out.length ≤ ws.length + 1 ∧ l.length ≤ ws.length + 1 := by
      have h1 := hst.ws_len
      have h2 := hk.1
      simp at h1
      omega
    obtain ⟨Ao, co, rfl⟩ := ownsRow_slice hrow
    have hpil : pi < w1.heap.size := HPI.out.lt
    have hpsl : ps < w1.heap.size := HPS.out.lt
    have hS1i : ¬ S1 pi := fun h => (hS' pi h).elim hSi (fun h => by omega)
    have hS1s : ¬ S1 ps := fun h => (hS' ps h).elim hSs (fun h => by omega)
    have hb2 : Below W0.heap.size W0 w2 := HB0.out.trans (hK.below (fun i hi h => by have := HS.out i h; omega) HB0.out.size)
    have hpi2 := HPI.out.keeps hK hSi
    have hps2 := HPS.out.keeps hK hSs
    have q0 : w2.cell? ⟨ps, 0, none⟩ = some (.int .i64 sh) := hps2.cell 0
    have qf := hps2.frozen 0
    have ql := hps2.lt
    have HR := Lib.hid (OffI.store (sh' := sh + out.length) (by obtain ⟨va', vw', h, _⟩ := hinf; exact ⟨va', vw', h⟩) (fun j hj => (hS' j hj).elim (HS.out j) (fun h => Nat.le_trans HB0.out.size h)) hb2 hpi2 hps2 hS1i hS1s hpi0 hps0 hne hm1 hid1)
    have HPR := Lib.hid (show Pres all a l i ∧ ∀ j, Pres all ap ws j → Pres all a l j from ⟨hp1 i hoff.2.1, fun j hj => hp1 j (hoff.2.2 j hj)⟩)
    have hw1 : IntKind.i64.wrap (sh + (out.length : Int)) = sh + (out.length : Int) := by rw [IntKind.wrap_i64]; omega
    obtain ⟨ho1, ho2⟩ := hll
    clear hoff hst hinf hrow hK hS' hm1 hp1 hid1 hno hS1i hS1s hb2 hpi2 hps2 p0 pl
    go_wp2_with fail
    exact bodyPost_end (v := .tuple #[]) (by simp [results, Try.results13, go_sem]) rfl ⟨rfl, S1, a, l, _, HR.out, HPR.out.1, HPR.out.2, ho2⟩
end Go.Proofs.Ytedkcpncomgboaa.dep
