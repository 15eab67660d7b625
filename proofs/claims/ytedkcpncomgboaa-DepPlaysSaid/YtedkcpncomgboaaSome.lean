/- feed's some and slices.Clone of writes: a list in new memory. -/
import Derived.Test.YtedkcpncomgboaaWrs
namespace Go.Proofs.Ytedkcpncomgboaa.wire
open Go.RowKit Go.Proofs.Ytedkcpncomgboaa.base Go.Proofs.Ytedkcpncomgboaa.rowe Go.Proofs.Ytedkcpncomgboaa.err

/-- blocks made since -/
def since (w w' : World) : Nat → Prop := fun i => w.heap.size ≤ i ∧ i < w'.heap.size
theorem OW.sinceS {w w' : World} {lo : Nat} {v : Value} {L : List Wr} {S : Nat → Prop} (h : OW w' S lo v L) (hlo : w.heap.size ≤ lo) : OW w' (since w w') lo v L :=
  ⟨h.row, h.few, h.nums, fun i hi => by have := h.row.lt _ hi; exact ⟨by omega, this.2⟩, fun x hx i hi => by have := (h.nums x hx).1.lt _ hi; exact ⟨by omega, this.2⟩⟩
def SomeR (L : List Wr) (w : World) (e : Ending) (w' : World) : Prop := (∃ v L', e = .returned v ∧ L'.map Wr.abs = L.map Wr.abs ∧ OW w' (since w w') w.heap.size v L') ∧ Below w.heap.size w w'
set_option maxRecDepth 10000 in
set_option maxHeartbeats 1000000 in
theorem some_any (v : Value) (L : List Wr) (w : World) (h : RW w v L) : Calls Try.prog 41 #[v] w (SomeR L w) := by
  obtain ⟨i0, hi, hz⟩ := Option.map_eq_some_iff.1 write_info
  simp only [Prod.mk.injEq] at hz
  obtain ⟨hz0, hz1, hz2⟩ := hz
  obtain ⟨A, c, rfl, hm, hlc, hr, hn⟩ := h
  obtain ⟨m, hml⟩ : ∃ m, L.length = m := ⟨_, rfl⟩
  rw [hml] at hm hlc hr ⊢
  have Hr := Lib.hid hr
  have Hn := Lib.hid hn
  have Hml := Lib.hid hml
  clear hr hn hml
  go_enter Try.func41, Try.ntmps41
  go_wp2
  go_loopw [3, 5, 8] (fun s _ i wr' => ∃ n : Nat, ∃ L', n ≤ m ∧ i = .int .i64 n ∧ L'.map Wr.abs = (L.take n).map Wr.abs ∧ OW wr' (fun _ => True) w.heap.size s L' ∧ Below w.heap.size w wr') (fun _ _ i _ => m - (intOf i).toNat)
  case atStart => exact ⟨0, [], by omega, rfl, by simp, OW.none _ _ _, Below.refl _ _⟩
  case round =>
    obtain ⟨n, L', hn2, rfl, hab, hO, hb⟩ := hrel
    obtain ⟨A1, c1, rfl⟩ := ownsRow_slice hO.row
    have hsz := hb.size
    have hll : L'.length = n := by
      have := congrArg List.length hab
      simp at this
      have := Hml.out
      omega
    by_cases hlt : n < m
    · have hmlt : n < L.length := by rw [Hml.out]; exact hlt
      obtain ⟨b, off, rfl, hbb⟩ := Hr.out.at_some (by omega)
      have hnx := Hn.out L[n] (List.getElem_mem hmlt)
      have htk : (L.take (n + 1)).map Wr.abs = (L.take n).map Wr.abs ++ [L[n].abs] := by
        rw [List.take_succ_eq_append_getElem hmlt, List.map_append]; rfl
      rw [← hab] at htk
      have hcell : ∀ j v, (L[n]).cells[j]? = some v → wr.cell? ⟨b, off + n * 10 + j, none⟩ = some v := fun j v hj => by
        have hj2 : j < 10 := by
          rcases Nat.lt_or_ge j 10 with h | h
          · exact h
          · rw [List.getElem?_eq_none (by rw [Wr.len]; exact h)] at hj; cases hj
        exact (Reads.thing Wr.cells Wr.len (Hr.out.below hb) (k := n) (x := L[n]) hlt (List.getElem?_eq_getElem hmlt) j hj2).trans hj
      generalize L[n] = x at *
      have hnx1 := (hnx.1.below hb).more hsz
      obtain ⟨r, n1, t, s, d, zs, se, k, v, g, l⟩ := x
      have hz6 := hnx.2
      dsimp only at hnx1 hz6
      clear hnx hab
      have Hnx := Lib.hid hnx1
      have Htk := Lib.hid htk
      have Hcell := Lib.hid hcell
      have HO := Lib.hid hO
      have Hb := Lib.hid hb
      clear hnx1 htk hcell hO hb
      go_wp2_with (first | (refine wpList_load_at rfl 35 (.tmp 10) rfl b (off + n * 10) (Wr.cells ⟨r, n1, t, s, d, zs, se, k, v, g, l⟩) rfl Try.underlying35 rfl (by kernel_rfl) Hcell.out ?_) | (refine wpList_store_blk rfl 35 (.tmp 5) (.tmp 11) rfl wr.heap.size (Wr.cells ⟨r, n1, t, s, d, zs, se, k, v, g, l⟩) rfl rfl (Blk.new wr 35 #[.int .i64 0, .int .i64 0, .int .i64 0, .int .i64 0, .slice none 0 0, .string ⟨#[]⟩, .string ⟨#[]⟩, .string ⟨#[]⟩, .bool false, .int .i64 0]) (by kernel_rfl) rfl (oneAll ⟨r, n1, t, s, d, zs, se, k, v, g, l⟩ (nums_one Hnx.out)) ?_; intro w9 ho9 hk9 hs9) | (refine wpList_load_at rfl 35 (.tmp 5) rfl wr.heap.size 0 (Wr.cells ⟨r, n1, t, s, d, zs, se, k, v, g, l⟩) rfl Try.underlying35 rfl (by kernel_rfl) (fun j v hj => by rw [Nat.zero_add, ho9.cell j]; simpa using hj) ?_))
      have hb9 : Below wr.heap.size wr w9 := (below_new wr (.cells #[.int .i64 0, .int .i64 0, .int .i64 0, .int .i64 0, .slice none 0 0, .string ⟨#[]⟩, .string ⟨#[]⟩, .string ⟨#[]⟩, .bool false, .int .i64 0] 35)).trans (hk9.below (fun i hi e => by omega) (by simp))
      have hs9' := hb9.size
      have Hnx9 := Lib.hid ((Hnx.out.below hb9).more hs9')
      have HO9 := Lib.hid (HO.out.keeps (X := nobody) (.of_below hb9) (fun _ _ h => h))
      have Hb9 := Lib.hid (Hb.out.trans (hb9.mono hsz))
      clear ho9 hk9 hb9 Hnx HO Hb Hcell
      refine (clone_any ⟨r, n1, t, s, d, zs, se, k, v, g, l⟩ w9 Hnx9.out hz6).mono ?_
      rintro e w10 ⟨⟨d', rfl, hd'⟩, hb10⟩
      obtain ⟨A2, c2, rfl⟩ := ownsRow_slice hd'.1
      have hs10 := hb10.size
      have HO10 := Lib.hid (HO9.out.keeps (X := nobody) (.of_below hb10) (fun _ _ h => h))
      have Hb10 := Lib.hid (Hb9.out.trans (hb10.mono (by omega)))
      have Hd10 := Lib.hid (hd'.base (lo' := w.heap.size) (by omega))
      clear hd' hb10 HO9 Hb9 Hnx9
      dsimp only [Wr.cells]
      go_wp2_with (at_builtin; refine wpList_append_newAt rfl (.tmp 12) (.tmp 15) _ rfl w.heap.size 35 i0 _ 10 120 Try.underlying25 hi hz0 hz1 hz2 rfl (by decide) (.slice A1 n c1) n _ rfl (hll ▸ HO10.out.row) 1 1 w10.heap.size rfl (Wr.cells ⟨r, n1, t, s, .slice A2 zs.length c2, zs, se, k, v, g, l⟩) rfl rfl (oneW _ rfl) (by unfold maxLen; omega) (by omega) (by omega) ?_; intro v11 w11 hown11 hbw11 hgr11 hwh11; have Hown11 := Lib.hid hown11; have Hbw11 := Lib.hid (Hb10.out.trans hbw11); have Hgr11 := Lib.hid hgr11; have Hwh11 := Lib.hid hwh11; clear hown11 hbw11 hgr11 hwh11)
      go_roundw
      case rel =>
        refine ⟨n + 1, L' ++ [⟨r, n1, t, s, .slice A2 zs.length c2, zs, se, k, v, g, l⟩], by omega, by go_num, ?_, ?_, Hbw11.out⟩
        · rw [Htk.out, List.map_append]; rfl
        · refine HO10.out.push (x := ⟨r, n1, t, s, .slice A2 zs.length c2, zs, se, k, v, g, l⟩) Hd10.out (fun _ _ => trivial) (by rw [hll]; exact Hown11.out) (by rw [hll]; exact Hgr11.out) ?_ (by omega)
          rw [hll]
          exact Hwh11.out.imp id fun ⟨g, h1, _⟩ => ⟨g, h1, trivial⟩
      case measure => simp [intOf]; omega
    · obtain rfl : m = n := by omega
      rw [List.take_of_length_le (by rw [Hml.out]; omega)] at hab
      have HR := Lib.hid (show SomeR L w (.returned (.slice A1 L'.length c1)) wr from ⟨⟨_, L', rfl, hab, hO.sinceS (Nat.le_refl _)⟩, hb⟩)
      clear hab hO hb
      go_wp2
      go_ret
      exact HR.out
/-- slices.Clone of a list of writes: the same cells -/
def CloneWR (L : List Wr) (w : World) (e : Ending) (w' : World) : Prop := (∃ v, e = .returned v ∧ w'.ownsRow w.heap.size 35 10 v L.length (L.flatMap Wr.cells)) ∧ Below w.heap.size w w'
theorem eqlW_nil (w : World) (a : Option Addr) (l c : Nat) : (binOp .eql 25 (.slice a l c) (.slice none 0 0)).run Try.prog w = .ok (.bool a.isNone) w := eql_nil w 25 35 a l c Try.underlying25
end Go.Proofs.Ytedkcpncomgboaa.wire
