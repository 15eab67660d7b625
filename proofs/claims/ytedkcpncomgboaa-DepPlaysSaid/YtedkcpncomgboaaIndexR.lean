/- slices.IndexFunc of the writes that wait, by ready. -/
import Derived.Test.YtedkcpncomgboaaReady
namespace Go.Proofs.Ytedkcpncomgboaa.dep
open Go Go.RowKit Go.Proofs.Ytedkcpncomgboaa.base Go.Proofs.Ytedkcpncomgboaa.rowe Go.Proofs.Ytedkcpncomgboaa.wire Go.Proofs.Ytedkcpncomgboaa.vec Go.Proofs.Ytedkcpncomgboaa.cmp

/-- a write as it waits: its numbers can be read -/
def WaitOk (w : World) (x : Wr) : Prop := ∃ A n c, x.d = .slice A n c ∧ Vec w w.heap.size A n c x.z ∧ n ≤ 1000000 ∧ (1 ≤ x.r ∧ x.r ≤ 16) ∧ (1 ≤ x.n ∧ x.n ≤ 1099511627776)
theorem WaitOk.below {w w' : World} {x : Wr} (h : WaitOk w x) (hb : Below w.heap.size w w') : WaitOk w' x := by
  obtain ⟨A, n, c, h1, h2, h3⟩ := h
  exact ⟨A, n, c, h1, (h2.below hb).more hb.size, h3⟩
def IndexR (ap : List Int) (ws : List Wr) (e : Ending) : Prop :=
  (∃ k : Nat, k < ws.length ∧ readyB ap (ws.getD k wrZ) = true ∧ (∀ j, j < k → readyB ap (ws.getD j wrZ) = false) ∧ e = .returned (.int .i64 k)) ∨
  ((∀ j, j < ws.length → readyB ap (ws.getD j wrZ) = false) ∧ e = .returned (.int .i64 (-1)))
set_option maxRecDepth 100000 in
set_option maxHeartbeats 1600000 in
theorem index_ready (g : Nat) (rg : Int) (A : Option Addr) (n c : Nat) (ap : List Int) (vw : Value) (A3 : Option Addr) (m c3 : Nat) (ws : List Wr) (w : World) (hb : Blk w g 76 #[.int .i64 rg, .slice A n c, vw])
    (ha : Vec w w.heap.size A n c ap) (h1 : n ≤ 1000000) (hr : Reads w w.heap.size 10 A3 m (ws.flatMap Wr.cells)) (hl : ws.length = m) (hm : m ≤ 1000000) (hw : ∀ x ∈ ws, WaitOk w x) :
    Calls Try.prog 63 #[.slice A3 m c3, .func (.func 37) #[.pointer (some ⟨g, 0, none⟩)] #[]] w fun e w' => IndexR ap ws e ∧ Below w.heap.size w w' := by
  have HB := Lib.hid hb
  have HA := Lib.hid ha
  have HR := Lib.hid hr
  have HW := Lib.hid hw
  have hgl := hb.lt
  clear hb ha hr hw
  go_enter Try.func63, Try.ntmps63
  go_wp2_with fail
  go_loopw [5, 8] (fun _ k wr => ∃ i : Nat, i ≤ m ∧ k = .int .i64 i ∧ (∀ j, j < i → readyB ap (ws.getD j wrZ) = false) ∧ Below w.heap.size w wr) (fun _ k _ => m - (intOf k).toNat)
  case atStart => exact ⟨0, by omega, rfl, fun j h => by omega, Below.refl _ _⟩
  case round =>
    obtain ⟨i, him, rfl, hno, hbr⟩ := hrel
    have HNO := Lib.hid hno
    have HBr := Lib.hid hbr
    clear hno hbr
    by_cases hlt : i < m
    · obtain ⟨b, off, rfl, hbl⟩ := HR.out.at_some (by omega)
      have hmn : i < ws.length := by omega
      have hmem : ws.getD i wrZ ∈ ws := by rw [List.getD_eq_getElem?_getD, List.getElem?_eq_getElem hmn]; exact List.getElem_mem hmn
      have HE := Lib.hid (show ∀ q v, (ws.getD i wrZ).cells[q]? = some v → wr.cell? ⟨b, off + i * 10 + q, none⟩ = some v from fun q v hq => by
        have hq2 : q < 10 := by
          have := (List.getElem?_eq_some_iff.1 hq).1
          rwa [Wr.len] at this
        have h5 := Reads.thing Wr.cells Wr.len HR.out (k := i) (x := ws.getD i wrZ) (by omega) (by rw [List.getD_eq_getElem?_getD, List.getElem?_eq_getElem hmn]; rfl) q hq2
        rw [HBr.out.cell (p := ⟨b, off + i * 10 + q, none⟩) hbl, h5, hq])
      obtain ⟨A2, n2, c2, hd, hv, hn2, hrr, hnn⟩ := (HW.out _ hmem).below HBr.out
      obtain ⟨y, hy⟩ : ∃ y, ws.getD i wrZ = y := ⟨_, rfl⟩
      rw [hy] at HE hd hv hrr hnn
      have HY := Lib.hid hy
      have HV := Lib.hid hv
      have HD := Lib.hid hd
      clear hy hv hd hmem
      go_wp2_with (refine wpList_load_at rfl 35 (.tmp 14) rfl b (off + i * 10) y.cells rfl Try.underlying35 rfl (by rw [Wr.len]; kernel_rfl) HE.out ?_)
      refine (ready_any g rg A n c ap vw y A2 n2 c2 wr (HB.out.below HBr.out hgl) ((HA.out.below HBr.out).more HBr.out.size) HD.out HV.out h1 hn2 hrr hnn).mono ?_
      rintro e w1 ⟨rfl, hb1⟩
      have HB1 := Lib.hid (below_step HBr.out hb1)
      clear hb1
      cases hq : readyB ap y with
      | true =>
        go_wp2_with fail
        go_ret
        exact ⟨.inl ⟨i, hmn, by rw [HY.out]; exact hq, HNO.out, rfl⟩, HB1.out⟩
      | false =>
        go_wp2_with fail
        go_roundw
        case rel => exact ⟨i + 1, by omega, by go_num, fun j hj => (Nat.lt_succ_iff_lt_or_eq.1 hj).elim (HNO.out j) (fun e => by rw [e, HY.out]; exact hq), HB1.out⟩
        case measure => (simp [intOf]; try omega)
    · obtain rfl : i = m := by omega
      go_wp2_with fail
      go_ret
      exact ⟨.inr ⟨fun j hj => HNO.out j (by omega), rfl⟩, HBr.out⟩
end Go.Proofs.Ytedkcpncomgboaa.dep
