/- dep.New: an inbox in which nothing waits. -/
import Derived.Test.YtedkcpncomgboaaInbox
namespace Go.Proofs.Ytedkcpncomgboaa.dep
open Go Go.RowKit Go.Proofs.Ytedkcpncomgboaa.base Go.Proofs.Ytedkcpncomgboaa.rowe Go.Proofs.Ytedkcpncomgboaa.wire Go.Proofs.Ytedkcpncomgboaa.vec Go.Proofs.Ytedkcpncomgboaa.err

def numB (z : Int) : Bool := decide (z < 0) || decide (1099511627776 < z)
def headB (rg : Int) (ap : List Int) : Bool := decide (rg < 1) || decide (16 < rg) || decide (16 < ap.length) || decide ((trimL ap).length ≠ ap.length)
theorem trim_self {zs : List Int} (h : (trimL zs).length = zs.length) : trimL zs = zs := by
  unfold trimL at h ⊢
  rw [List.length_take] at h
  exact List.take_of_length_le (by omega)
theorem InF.made {rg : Int} {ap : List Int} (w w3 : World) (v : Value) (hw : Below w.heap.size w w3) (ho : w3.ownsRow w.heap.size 3 1 v ap.length (enc ap)) (hl : ap.length ≤ 16) :
    InF (w3.alloc (.cells #[.int .i64 rg, v, .slice none 0 0] 76)) (fun i => w.heap.size ≤ i ∧ i < w3.heap.size + 1) w3.heap.size rg ap [] v (.slice none 0 0) := by
  have hb4 := below_new w3 (.cells #[.int .i64 rg, v, .slice none 0 0] 76)
  have hsz := hw.size
  have hlt : ∀ i, v.ownBlock = some i → w.heap.size ≤ i ∧ i < w3.heap.size := fun i hi => ho.lt i hi
  exact
  { blk := Blk.new w3 76 #[.int .i64 rg, v, .slice none 0 0]
    app := own_keeps (own_low ho (Nat.zero_le _)) (X := nobody) (.of_below hb4) (fun _ _ h => h)
    afew := hl
    row := ⟨rfl, .inl ⟨rfl, rfl⟩⟩
    wfew := by simp
    num := fun x hx => by cases hx
    rng := fun x hx => by cases hx
    inG := ⟨hsz, by omega⟩
    inA := fun i hi => by have := hlt i hi; omega
    inW := fun i hi => by cases hi
    inN := fun x hx => by cases hx
    ga := fun e => by have := hlt _ e; omega
    gw := fun e => by cases e
    gn := fun x hx => by cases hx
    aw := fun i hi e => by cases e
    nw := fun x hx => by cases hx
    small := fun i hi => by simpa using hi.2 }
def NewR (rg : Int) (ap : List Int) (w : World) (e : Ending) (w' : World) : Prop :=
  ((headB rg ap || ap.any numB) = false ∧ ∃ g S va, e = .returned (.tuple #[.pointer (some ⟨g, 0, none⟩), .nilIface]) ∧ InF w' S g rg ap [] va (.slice none 0 0) ∧ (∀ i, S i → w.heap.size ≤ i) ∧ Below w.heap.size w w') ∨
  ((headB rg ap || ap.any numB) = true ∧ ∃ v, e = .returned (.tuple #[.pointer none, v]) ∧ Err w' v 1 ∧ v ≠ .nilIface ∧ Below w.heap.size w w')
set_option maxRecDepth 100000 in
set_option maxHeartbeats 4000000 in
theorem new_any (rg : Int) (A : Option Addr) (n c : Nat) (ap : List Int) (w : World) (h : Vec w w.heap.size A n c ap) (hm : n ≤ 1000000) :
    Calls Try.prog 12 #[.int .i64 rg, .slice A n c] w (NewR rg ap w) := by
  have hln := h.1
  have HA := Lib.hid h
  clear h
  go_enter Try.func12, Try.ntmps12
  by_cases h1 : rg < 1
  ·
    have HBR := Lib.hid (show headB rg ap = true by unfold headB; simp; omega)
    go_wp2_with fail
    go_loopw [6, 8, 30] (fun b _ k wr => ∃ i : Nat, i ≤ n ∧ k = .int .i64 i ∧ b = .bool (headB rg ap || (ap.take i).any numB) ∧ Below w.heap.size w wr) (fun _ _ k _ => n - (intOf k).toNat)
    case atStart => exact ⟨0, by omega, rfl, by rw [HBR.out]; first | rfl | (simp; omega), Below.refl _ _⟩
    case round =>
      obtain ⟨i, him, rfl, rfl, hbr⟩ := hrel
      by_cases hlt : i < n
      · obtain ⟨b0, off, rfl, hbl⟩ := HA.out.at_some (by omega)
        have c1 := (HA.out.below hbr).cell hlt
        have hsz := hbr.size
        have hbl2 : b0 < wr.heap.size := by omega
        have hnx : (ap.take (i + 1)).any numB = ((ap.take i).any numB || numB (ap.getD i 0)) := by
          rw [List.take_add_one, List.any_append, List.getD_eq_getElem?_getD, List.getElem?_eq_getElem (by omega)]
          simp
        generalize ap.getD i 0 = z at *
        have HNX := Lib.hid hnx
        have HBW := Lib.hid hbr
        clear hnx hbr
        cases hb : (headB rg ap || (ap.take i).any numB) with
        | true =>
          go_wp2_with fail
          go_roundw
          case rel => exact ⟨i + 1, by omega, by go_num, by rw [HNX.out, ← Bool.or_assoc, hb]; rfl, HBW.out⟩
          case measure => (simp [intOf]; try omega)
        | false =>
          by_cases hz : z < 0
          · go_wp2_with fail
            go_roundw
            case rel => exact ⟨i + 1, by omega, by go_num, by rw [HNX.out, ← Bool.or_assoc, hb]; simp [numB, hz], HBW.out⟩
            case measure => (simp [intOf]; try omega)
          · go_wp2_with fail
            go_roundw
            case rel => exact ⟨i + 1, by omega, by go_num, by rw [HNX.out, ← Bool.or_assoc, hb]; simp [numB, hz], HBW.out⟩
            case measure => (simp [intOf]; try omega)
      · obtain rfl : i = n := by omega
        have htk : ap.take i = ap := List.take_of_length_le (by have := HA.out.1; omega)
        rw [htk]
        have HBW := Lib.hid hbr
        clear hbr htk
        cases hb : (headB rg ap || ap.any numB) with
        | true =>
          go_wp2_with fail
          refine (err.at_any _ _ _ _).mono ?_
          rintro e w3 ⟨v3, rfl, he3, hn3, hb3, hf3⟩
          have HE := Lib.hid he3
          have HB3 := Lib.hid (below_step HBW.out hb3)
          clear he3 hb3 hf3
          obtain ⟨ge, rfl⟩ := HE.out.form
          have HR := Lib.hid (show NewR rg ap w (.returned (.tuple #[.pointer none, .iface 96 (.pointer (some ⟨ge, 0, none⟩))])) w3 from .inr ⟨hb, _, rfl, HE.out, hn3, HB3.out⟩)
          clear hn3
          go_wp2
          exact bodyPost_ret (v := .tuple #[.pointer none, .iface 96 (.pointer (some ⟨ge, 0, none⟩))]) (by simp [results, Try.results12, go_sem]) rfl HR.out
        | false =>
          exfalso
          rw [HBR.out] at hb
          cases hb
  by_cases h2 : 16 < rg
  ·
    have HBR := Lib.hid (show headB rg ap = true by unfold headB; simp; omega)
    go_wp2_with fail
    go_loopw [6, 8, 30] (fun b _ k wr => ∃ i : Nat, i ≤ n ∧ k = .int .i64 i ∧ b = .bool (headB rg ap || (ap.take i).any numB) ∧ Below w.heap.size w wr) (fun _ _ k _ => n - (intOf k).toNat)
    case atStart => exact ⟨0, by omega, rfl, by rw [HBR.out]; first | rfl | (simp; omega), Below.refl _ _⟩
    case round =>
      obtain ⟨i, him, rfl, rfl, hbr⟩ := hrel
      by_cases hlt : i < n
      · obtain ⟨b0, off, rfl, hbl⟩ := HA.out.at_some (by omega)
        have c1 := (HA.out.below hbr).cell hlt
        have hsz := hbr.size
        have hbl2 : b0 < wr.heap.size := by omega
        have hnx : (ap.take (i + 1)).any numB = ((ap.take i).any numB || numB (ap.getD i 0)) := by
          rw [List.take_add_one, List.any_append, List.getD_eq_getElem?_getD, List.getElem?_eq_getElem (by omega)]
          simp
        generalize ap.getD i 0 = z at *
        have HNX := Lib.hid hnx
        have HBW := Lib.hid hbr
        clear hnx hbr
        cases hb : (headB rg ap || (ap.take i).any numB) with
        | true =>
          go_wp2_with fail
          go_roundw
          case rel => exact ⟨i + 1, by omega, by go_num, by rw [HNX.out, ← Bool.or_assoc, hb]; rfl, HBW.out⟩
          case measure => (simp [intOf]; try omega)
        | false =>
          by_cases hz : z < 0
          · go_wp2_with fail
            go_roundw
            case rel => exact ⟨i + 1, by omega, by go_num, by rw [HNX.out, ← Bool.or_assoc, hb]; simp [numB, hz], HBW.out⟩
            case measure => (simp [intOf]; try omega)
          · go_wp2_with fail
            go_roundw
            case rel => exact ⟨i + 1, by omega, by go_num, by rw [HNX.out, ← Bool.or_assoc, hb]; simp [numB, hz], HBW.out⟩
            case measure => (simp [intOf]; try omega)
      · obtain rfl : i = n := by omega
        have htk : ap.take i = ap := List.take_of_length_le (by have := HA.out.1; omega)
        rw [htk]
        have HBW := Lib.hid hbr
        clear hbr htk
        cases hb : (headB rg ap || ap.any numB) with
        | true =>
          go_wp2_with fail
          refine (err.at_any _ _ _ _).mono ?_
          rintro e w3 ⟨v3, rfl, he3, hn3, hb3, hf3⟩
          have HE := Lib.hid he3
          have HB3 := Lib.hid (below_step HBW.out hb3)
          clear he3 hb3 hf3
          obtain ⟨ge, rfl⟩ := HE.out.form
          have HR := Lib.hid (show NewR rg ap w (.returned (.tuple #[.pointer none, .iface 96 (.pointer (some ⟨ge, 0, none⟩))])) w3 from .inr ⟨hb, _, rfl, HE.out, hn3, HB3.out⟩)
          clear hn3
          go_wp2
          exact bodyPost_ret (v := .tuple #[.pointer none, .iface 96 (.pointer (some ⟨ge, 0, none⟩))]) (by simp [results, Try.results12, go_sem]) rfl HR.out
        | false =>
          exfalso
          rw [HBR.out] at hb
          cases hb
  by_cases h3 : 16 < n
  ·
    have HBR := Lib.hid (show headB rg ap = true by unfold headB; simp; omega)
    go_wp2_with fail
    go_loopw [6, 8, 30] (fun b _ k wr => ∃ i : Nat, i ≤ n ∧ k = .int .i64 i ∧ b = .bool (headB rg ap || (ap.take i).any numB) ∧ Below w.heap.size w wr) (fun _ _ k _ => n - (intOf k).toNat)
    case atStart => exact ⟨0, by omega, rfl, by rw [HBR.out]; first | rfl | (simp; omega), Below.refl _ _⟩
    case round =>
      obtain ⟨i, him, rfl, rfl, hbr⟩ := hrel
      by_cases hlt : i < n
      · obtain ⟨b0, off, rfl, hbl⟩ := HA.out.at_some (by omega)
        have c1 := (HA.out.below hbr).cell hlt
        have hsz := hbr.size
        have hbl2 : b0 < wr.heap.size := by omega
        have hnx : (ap.take (i + 1)).any numB = ((ap.take i).any numB || numB (ap.getD i 0)) := by
          rw [List.take_add_one, List.any_append, List.getD_eq_getElem?_getD, List.getElem?_eq_getElem (by omega)]
          simp
        generalize ap.getD i 0 = z at *
        have HNX := Lib.hid hnx
        have HBW := Lib.hid hbr
        clear hnx hbr
        cases hb : (headB rg ap || (ap.take i).any numB) with
        | true =>
          go_wp2_with fail
          go_roundw
          case rel => exact ⟨i + 1, by omega, by go_num, by rw [HNX.out, ← Bool.or_assoc, hb]; rfl, HBW.out⟩
          case measure => (simp [intOf]; try omega)
        | false =>
          by_cases hz : z < 0
          · go_wp2_with fail
            go_roundw
            case rel => exact ⟨i + 1, by omega, by go_num, by rw [HNX.out, ← Bool.or_assoc, hb]; simp [numB, hz], HBW.out⟩
            case measure => (simp [intOf]; try omega)
          · go_wp2_with fail
            go_roundw
            case rel => exact ⟨i + 1, by omega, by go_num, by rw [HNX.out, ← Bool.or_assoc, hb]; simp [numB, hz], HBW.out⟩
            case measure => (simp [intOf]; try omega)
      · obtain rfl : i = n := by omega
        have htk : ap.take i = ap := List.take_of_length_le (by have := HA.out.1; omega)
        rw [htk]
        have HBW := Lib.hid hbr
        clear hbr htk
        cases hb : (headB rg ap || ap.any numB) with
        | true =>
          go_wp2_with fail
          refine (err.at_any _ _ _ _).mono ?_
          rintro e w3 ⟨v3, rfl, he3, hn3, hb3, hf3⟩
          have HE := Lib.hid he3
          have HB3 := Lib.hid (below_step HBW.out hb3)
          clear he3 hb3 hf3
          obtain ⟨ge, rfl⟩ := HE.out.form
          have HR := Lib.hid (show NewR rg ap w (.returned (.tuple #[.pointer none, .iface 96 (.pointer (some ⟨ge, 0, none⟩))])) w3 from .inr ⟨hb, _, rfl, HE.out, hn3, HB3.out⟩)
          clear hn3
          go_wp2
          exact bodyPost_ret (v := .tuple #[.pointer none, .iface 96 (.pointer (some ⟨ge, 0, none⟩))]) (by simp [results, Try.results12, go_sem]) rfl HR.out
        | false =>
          exfalso
          rw [HBR.out] at hb
          cases hb
  go_wp2_with fail
  refine (trim_any A n c ap w HA.out hm).mono ?_
  rintro e w3 ⟨v3, rfl, hown3, hb3⟩
  obtain ⟨A3, c3, rfl⟩ := ownsRow_slice hown3
  have HB1 := Lib.hid hb3
  clear hown3 hb3
  by_cases h4 : (trimL ap).length = n
  ·
    have HBR := Lib.hid (show headB rg ap = false by unfold headB; simp; omega)
    go_wp2_with fail
    go_loopw [6, 8, 30] (fun b _ k wr => ∃ i : Nat, i ≤ n ∧ k = .int .i64 i ∧ b = .bool (headB rg ap || (ap.take i).any numB) ∧ Below w.heap.size w wr) (fun _ _ k _ => n - (intOf k).toNat)
    case atStart => exact ⟨0, by omega, rfl, by rw [HBR.out]; first | rfl | (simp; omega), HB1.out⟩
    case round =>
      obtain ⟨i, him, rfl, rfl, hbr⟩ := hrel
      by_cases hlt : i < n
      · obtain ⟨b0, off, rfl, hbl⟩ := HA.out.at_some (by omega)
        have c1 := (HA.out.below hbr).cell hlt
        have hsz := hbr.size
        have hbl2 : b0 < wr.heap.size := by omega
        have hnx : (ap.take (i + 1)).any numB = ((ap.take i).any numB || numB (ap.getD i 0)) := by
          rw [List.take_add_one, List.any_append, List.getD_eq_getElem?_getD, List.getElem?_eq_getElem (by omega)]
          simp
        generalize ap.getD i 0 = z at *
        have HNX := Lib.hid hnx
        have HBW := Lib.hid hbr
        clear hnx hbr
        cases hb : (headB rg ap || (ap.take i).any numB) with
        | true =>
          go_wp2_with fail
          go_roundw
          case rel => exact ⟨i + 1, by omega, by go_num, by rw [HNX.out, ← Bool.or_assoc, hb]; rfl, HBW.out⟩
          case measure => (simp [intOf]; try omega)
        | false =>
          by_cases hz : z < 0
          · go_wp2_with fail
            go_roundw
            case rel => exact ⟨i + 1, by omega, by go_num, by rw [HNX.out, ← Bool.or_assoc, hb]; simp [numB, hz], HBW.out⟩
            case measure => (simp [intOf]; try omega)
          · go_wp2_with fail
            go_roundw
            case rel => exact ⟨i + 1, by omega, by go_num, by rw [HNX.out, ← Bool.or_assoc, hb]; simp [numB, hz], HBW.out⟩
            case measure => (simp [intOf]; try omega)
      · obtain rfl : i = n := by omega
        have htk : ap.take i = ap := List.take_of_length_le (by have := HA.out.1; omega)
        rw [htk]
        have HBW := Lib.hid hbr
        clear hbr htk
        cases hb : (headB rg ap || ap.any numB) with
        | true =>
          go_wp2_with fail
          refine (err.at_any _ _ _ _).mono ?_
          rintro e w3 ⟨v3, rfl, he3, hn3, hb3, hf3⟩
          have HE := Lib.hid he3
          have HB3 := Lib.hid (below_step HBW.out hb3)
          clear he3 hb3 hf3
          obtain ⟨ge, rfl⟩ := HE.out.form
          have HR := Lib.hid (show NewR rg ap w (.returned (.tuple #[.pointer none, .iface 96 (.pointer (some ⟨ge, 0, none⟩))])) w3 from .inr ⟨hb, _, rfl, HE.out, hn3, HB3.out⟩)
          clear hn3
          go_wp2
          exact bodyPost_ret (v := .tuple #[.pointer none, .iface 96 (.pointer (some ⟨ge, 0, none⟩))]) (by simp [results, Try.results12, go_sem]) rfl HR.out
        | false =>
          have hle : ap.length ≤ 16 ∧ (trimL ap).length = ap.length ∧ 1 ≤ rg ∧ rg ≤ 16 := by
            simp [headB] at hb
            omega
          go_wp2_with fail
          refine (trim_any A i c ap wr ((HA.out.below HBW.out).more HBW.out.size) (by have := HA.out.1; omega)).mono ?_
          rintro e w3 ⟨v3, rfl, hown3, hb3⟩
          rw [trim_self hle.2.1] at hown3
          obtain ⟨A4, c4, rfl⟩ := ownsRow_slice hown3
          have hw3 := below_step HBW.out hb3
          have hs3 := hb3.size
          have hsw := HBW.out.size
          have hb4 := below_new w3 (.cells #[.int .i64 rg, .slice A4 ap.length c4, .slice none 0 0] 76)
          have hI := InF.made (rg := rg) w w3 _ hw3 (own_low hown3 hsw) hle.1
          have HI := Lib.hid hI
          have HW4 := Lib.hid (hw3.trans (hb4.mono hw3.size))
          clear hown3 hb3 hb4 hI hw3
          have HR := Lib.hid (show NewR rg ap w (.returned (.tuple #[.pointer (some ⟨w3.heap.size, 0, none⟩), .nilIface])) (w3.alloc (.cells #[.int .i64 rg, .slice A4 ap.length c4, .slice none 0 0] 76)) from .inl ⟨hb, _, _, _, rfl, HI.out, fun j hj => hj.1, HW4.out⟩)
          go_wp2_with fail
          exact bodyPost_ret (v := .tuple #[.pointer (some ⟨w3.heap.size, 0, none⟩), .nilIface]) (by simp [results, Try.results12, go_sem]) rfl (by have h9 := HR.out; rw [hln] at h9; exact h9)
  ·
    have HBR := Lib.hid (show headB rg ap = true by unfold headB; simp; omega)
    go_wp2_with fail
    go_loopw [6, 8, 30] (fun b _ k wr => ∃ i : Nat, i ≤ n ∧ k = .int .i64 i ∧ b = .bool (headB rg ap || (ap.take i).any numB) ∧ Below w.heap.size w wr) (fun _ _ k _ => n - (intOf k).toNat)
    case atStart => exact ⟨0, by omega, rfl, by rw [HBR.out]; first | rfl | (simp; omega), HB1.out⟩
    case round =>
      obtain ⟨i, him, rfl, rfl, hbr⟩ := hrel
      by_cases hlt : i < n
      · obtain ⟨b0, off, rfl, hbl⟩ := HA.out.at_some (by omega)
        have c1 := (HA.out.below hbr).cell hlt
        have hsz := hbr.size
        have hbl2 : b0 < wr.heap.size := by omega
        have hnx : (ap.take (i + 1)).any numB = ((ap.take i).any numB || numB (ap.getD i 0)) := by
          rw [List.take_add_one, List.any_append, List.getD_eq_getElem?_getD, List.getElem?_eq_getElem (by omega)]
          simp
        generalize ap.getD i 0 = z at *
        have HNX := Lib.hid hnx
        have HBW := Lib.hid hbr
        clear hnx hbr
        cases hb : (headB rg ap || (ap.take i).any numB) with
        | true =>
          go_wp2_with fail
          go_roundw
          case rel => exact ⟨i + 1, by omega, by go_num, by rw [HNX.out, ← Bool.or_assoc, hb]; rfl, HBW.out⟩
          case measure => (simp [intOf]; try omega)
        | false =>
          by_cases hz : z < 0
          · go_wp2_with fail
            go_roundw
            case rel => exact ⟨i + 1, by omega, by go_num, by rw [HNX.out, ← Bool.or_assoc, hb]; simp [numB, hz], HBW.out⟩
            case measure => (simp [intOf]; try omega)
          · go_wp2_with fail
            go_roundw
            case rel => exact ⟨i + 1, by omega, by go_num, by rw [HNX.out, ← Bool.or_assoc, hb]; simp [numB, hz], HBW.out⟩
            case measure => (simp [intOf]; try omega)
      · obtain rfl : i = n := by omega
        have htk : ap.take i = ap := List.take_of_length_le (by have := HA.out.1; omega)
        rw [htk]
        have HBW := Lib.hid hbr
        clear hbr htk
        cases hb : (headB rg ap || ap.any numB) with
        | true =>
          go_wp2_with fail
          refine (err.at_any _ _ _ _).mono ?_
          rintro e w3 ⟨v3, rfl, he3, hn3, hb3, hf3⟩
          have HE := Lib.hid he3
          have HB3 := Lib.hid (below_step HBW.out hb3)
          clear he3 hb3 hf3
          obtain ⟨ge, rfl⟩ := HE.out.form
          have HR := Lib.hid (show NewR rg ap w (.returned (.tuple #[.pointer none, .iface 96 (.pointer (some ⟨ge, 0, none⟩))])) w3 from .inr ⟨hb, _, rfl, HE.out, hn3, HB3.out⟩)
          clear hn3
          go_wp2
          exact bodyPost_ret (v := .tuple #[.pointer none, .iface 96 (.pointer (some ⟨ge, 0, none⟩))]) (by simp [results, Try.results12, go_sem]) rfl HR.out
        | false =>
          exfalso
          rw [HBR.out] at hb
          cases hb
end Go.Proofs.Ytedkcpncomgboaa.dep
