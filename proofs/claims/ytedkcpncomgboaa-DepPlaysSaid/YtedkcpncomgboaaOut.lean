/- wire's Out: what is put stands behind what stood there; nothing goes wrong where there is room. -/
import Derived.Test.YtedkcpncomgboaaNumber
namespace Go.Proofs.Ytedkcpncomgboaa.wire
open Go.RowKit Go.Proofs.Ytedkcpncomgboaa.base Go.Proofs.Ytedkcpncomgboaa.rowe Go.Proofs.Ytedkcpncomgboaa.err

def OutS (w : World) (g n : Nat) : Prop := ∃ v, Blk w g 101 #[v, .nilIface] ∧ Row8 w (g + 1) v n
def PutR (g n : Nat) (w : World) (e : Ending) (w' : World) : Prop := e = .returned noResult ∧ OutS w' g n ∧ Below g w w'
theorem Row8.keeps {X : Nat → Prop} {w w' : World} {base n : Nat} {v : Value} (h : Row8 w base v n) (hk : Keeps X w w') (hx : ∀ i, base ≤ i → ¬ X i) : Row8 w' base v n := by
  obtain ⟨xs, h1, h2⟩ := h
  exact ⟨xs, own_keeps h1 hk hx, h2⟩
theorem Row8.form {w : World} {base n : Nat} {v : Value} (h : Row8 w base v n) : ∃ A c, v = .slice A n c := by
  obtain ⟨xs, h1, _⟩ := h
  exact ownsRow_slice h1
set_option maxRecDepth 10000 in
theorem put_any (g n m : Nat) (A : Option Addr) (c : Nat) (w : World) (h : OutS w g n) (hm : Row8 w (g + 1) (.slice A m c) m) (hr : n + m ≤ 65536) :
    Calls Try.prog 69 #[.pointer (some ⟨g, 0, none⟩), .slice A m c] w (PutR g (n + m) w) := by
  obtain ⟨i0, hi, hz⟩ := Option.map_eq_some_iff.1 byte_info
  simp only [Prod.mk.injEq] at hz
  obtain ⟨hz0, hz1, hz2⟩ := hz
  obtain ⟨v, hb, xs, hx, hu⟩ := h
  obtain ⟨ys, hy, hyu⟩ := hm
  obtain ⟨A', c', rfl⟩ := ownsRow_slice hx
  have c0 : w.cell? ⟨g, 0, none⟩ = _ := hb.cell 0
  have c1 : w.cell? ⟨g, 1, none⟩ = _ := hb.cell 1
  have hlt := hb.lt
  simp at c0 c1
  have d1 : decide ((65536 : Int) - (n : Int) < (m : Int)) = false := by simp; omega
  have Hb := Lib.hid hb
  have Hx := Lib.hid hx
  have Hu := Lib.hid hu
  have Hy := Lib.hid hy
  have Hyu := Lib.hid hyu
  clear hb hx hu hy hyu
  go_enter Try.func69, Try.ntmps69
  go_wp2_with (at_builtin; refine wpList_append_any _ rfl (.tmp 8) (.tmp 9) _ rfl (g + 1) 5 i0 _ 1 1 Try.underlying22 hi hz0 hz1 hz2 rfl (by decide) (.slice A' n c') n _ rfl Hx.out _ A m c _ rfl (Reads.of_own Hy.out) (fun u hu => (Hyu.out u hu).one) (by unfold maxLen; omega) (by omega) hlt ?_; intro v1 w5 hown1 hg1 ho1; obtain ⟨A1, c9, rfl⟩ := ownsRow_slice hown1; have hb5 := Hb.out.grown hg1 (fun e => by have := (Hx.out.lt _ e.symm).1; omega); have k0 : w5.cell? ⟨g, 0, none⟩ = some (.slice A' n c') := hb5.cell 0; have k1 := hb5.frozen 0; have k2 := hb5.lt; have Hb5 := Lib.hid hb5; have Hown1 := Lib.hid hown1; have Hg1 := Lib.hid hg1; clear hb5 hown1 hg1 ho1)
  refine bodyPost_end (v := .tuple #[]) (by simp [results, Try.results69, go_sem]) rfl ?_
  have hk : Keeps (fun i => g ≤ i) w w5 := .grown Hg1.out fun i hi => .inl (by have := (Hx.out.lt _ hi).1; omega)
  refine ⟨rfl, ⟨_, Hb5.out.set_ 0 _, _, own_keeps Hown1.out (Keeps.set1 w5 g 0 _) (fun i hi e => by omega), ?_⟩, (hk.trans ((Keeps.set1 w5 g 0 _).more fun i _ hi => by omega)).below (fun i hi e => by omega) (by omega)⟩
  intro u hu
  rcases List.mem_append.1 hu with hu | hu
  · exact Hu.out u hu
  · exact Hyu.out u hu
theorem Row8.base {w : World} {b b' n : Nat} {v : Value} (h : Row8 w b v n) (hb : b' ≤ b) : Row8 w b' v n := by
  obtain ⟨xs, ⟨h1, h2⟩, hu⟩ := h
  refine ⟨xs, ⟨h1, h2.imp id ?_⟩, hu⟩
  rintro ⟨g, cap, cur, e, h3, h4⟩
  exact ⟨g, cap, cur, e, Nat.le_trans hb h3, h4⟩
theorem Row8.none (w : World) (base : Nat) : Row8 w base (.slice none 0 0) 0 := ⟨[], ⟨rfl, .inl ⟨rfl, rfl⟩⟩, by simp⟩
theorem OutS.below {w w' : World} {g n : Nat} (h : OutS w g n) (hb : Below w.heap.size w w') : OutS w' g n := by
  obtain ⟨v, h1, h2⟩ := h
  exact ⟨v, h1.below hb h1.lt, h2.keeps (X := nobody) (.of_below hb) (fun _ _ h => h)⟩
theorem OutS.lt {w : World} {g n : Nat} (h : OutS w g n) : g < w.heap.size := by obtain ⟨v, h1, _⟩ := h; exact h1.lt
def PutsR (g lo hi : Nat) (w : World) (e : Ending) (w' : World) : Prop := e = .returned noResult ∧ (∃ n', lo ≤ n' ∧ n' ≤ hi ∧ OutS w' g n') ∧ Below g w w'
set_option maxRecDepth 10000 in
theorem num_any (g n k : Nat) (w : World) (h : OutS w g n) (hk : k ≤ 4611686018427387903) (hr : n + 9 ≤ 65536) :
    Calls Try.prog 54 #[.pointer (some ⟨g, 0, none⟩), .int .i64 k] w (PutsR g n (n + 9) w) := by
  obtain ⟨v, hb, hv⟩ := id h
  have c1 : w.cell? ⟨g, 1, none⟩ = _ := hb.cell 1
  have hlt := hb.lt
  simp at c1
  have d1 : decide ((k : Int) < 0) = false := by simp
  have d2 : decide ((4611686018427387903 : Int) < (k : Int)) = false := by simp; omega
  have d3 : ¬ (k : Int) < 0 := by omega
  have H := Lib.hid h
  clear h
  clear hb hv
  go_enter Try.func54, Try.ntmps54
  go_wp2_with fail
  refine (number_any (.slice none 0 0) 0 k w.heap.size _ (Row8.none _ _) (by omega) (by omega) (Nat.le_refl _)).mono ?_
  rintro e w1 ⟨v1, m, rfl, h1, h2, h3, h4⟩
  obtain ⟨A1, c1', rfl⟩ := h3.form
  have H2 := Lib.hid (H.out.below h4)
  have H3 := Lib.hid h3
  have H4 := Lib.hid h4
  clear h3 h4
  go_wp2_with fail
  refine (put_any g n m A1 c1' _ H2.out (H3.out.base (by omega)) (by omega)).mono ?_
  rintro e w2 ⟨rfl, h5, h6⟩
  have hR : PutsR g n (n + 9) w (.returned (.tuple #[])) w2 := ⟨rfl, ⟨n + m, by omega, by omega, h5⟩, (H4.out.mono (by omega)).trans h6⟩
  have HR := Lib.hid hR
  clear hR h5 h6
  go_wp2
  exact bodyPost_end (v := .tuple #[]) (by simp [results, Try.results54, go_sem]) rfl HR.out
theorem strCells_u8 (s : ByteArray) : ∀ u ∈ Lib.strCells s, IsU8 u := by
  intro u hu
  simp only [Lib.strCells, List.mem_map] at hu
  obtain ⟨b, _, rfl⟩ := hu
  exact ⟨_, rfl⟩
set_option maxRecDepth 10000 in
theorem text_any (g n : Nat) (s : ByteArray) (w : World) (h : OutS w g n) (hs : s.size ≤ 4096) (hr : n + 4096 + 9 ≤ 65536) :
    Calls Try.prog 56 #[.pointer (some ⟨g, 0, none⟩), .string s] w (PutsR g n (n + s.size + 9) w) := by
  obtain ⟨i0, hi, hz⟩ := Option.map_eq_some_iff.1 byte_info
  simp only [Prod.mk.injEq] at hz
  obtain ⟨hz0, hz1, hz2⟩ := hz
  have hlt := h.lt
  have H := Lib.hid h
  clear h
  go_enter Try.func56, Try.ntmps56
  go_wp2_with fail
  refine (number_any (.slice none 0 0) 0 s.size w.heap.size _ (Row8.none _ _) (by omega) (by omega) (Nat.le_refl _)).mono ?_
  rintro e w1 ⟨v1, m, rfl, h1, h2, h3, h4⟩
  obtain ⟨A1, c1', rfl⟩ := h3.form
  obtain ⟨xs, h3, hu⟩ := h3
  have H2 := Lib.hid (H.out.below h4)
  have hsz := h4.size
  have hlt2 := H2.out.lt
  have H3 := Lib.hid h3
  have H4 := Lib.hid h4
  have Hu := Lib.hid hu
  clear h3 h4 hu
  go_wp2_with (at_builtin; refine Lib.wpList_append_own_string _ rfl (.tmp 7) (.tmp 8) _ _ rfl w.heap.size 5 i0 Try.underlying22 Try.underlying9 hi hz0 hz1 hz2 (.slice A1 m c1') m xs rfl H3.out s rfl (by unfold maxLen; omega) (by omega) hsz ?_; intro v5 w5 hown5 hg5 _; obtain ⟨A5, c5, rfl⟩ := ownsRow_slice hown5; have Hown5 := Lib.hid hown5; have Hg5 := Lib.hid hg5; clear hown5 hg5)
  have hk5 : Keeps (fun i => w.heap.size ≤ i) w1 w5 := .grown Hg5.out fun i hi => .inl (H3.out.lt _ hi).1
  have hb5 : Below w.heap.size w w5 := H4.out.trans (hk5.below (fun i hi e => by omega) hsz)
  have h5 : Row8 w5 w.heap.size (.slice A5 (m + s.size) c5) (m + s.size) := ⟨_, Hown5.out, fun u hu => by
    rcases List.mem_append.1 hu with hu | hu
    · exact Hu.out u hu
    · exact strCells_u8 s u hu⟩
  have Hb5 := Lib.hid hb5
  have H5 := Lib.hid h5
  clear hb5 h5
  clear hk5
  refine (put_any g n (m + s.size) A5 c5 _ (H.out.below Hb5.out) (H5.out.base (by omega)) (by omega)).mono ?_
  rintro e w2 ⟨rfl, h5, h6⟩
  have hR : PutsR g n (n + s.size + 9) w (.returned (.tuple #[])) w2 := ⟨rfl, ⟨n + (m + s.size), by omega, by omega, h5⟩, (Hb5.out.mono (by omega)).trans h6⟩
  have HR := Lib.hid hR
  clear hR h5 h6
  go_wp2
  exact bodyPost_end (v := .tuple #[]) (by simp [results, Try.results56, go_sem]) rfl HR.out
theorem flag_any (g n : Nat) (b : Bool) (w : World) (h : OutS w g n) (hr : n + 9 ≤ 65536) :
    Calls Try.prog 57 #[.pointer (some ⟨g, 0, none⟩), .bool b] w (PutsR g n (n + 9) w) := by
  have H := Lib.hid h
  clear h
  cases b
  · go_enter Try.func57, Try.ntmps57
    go_wp2_with fail
    refine (num_any g n 0 _ H.out (by decide) hr).mono ?_
    rintro e w1 ⟨rfl, h1, h2⟩
    have HR := Lib.hid (show PutsR g n (n + 9) w (.returned (.tuple #[])) w1 from ⟨rfl, h1, h2⟩)
    clear h1 h2
    go_wp2
    exact bodyPost_end (v := .tuple #[]) (by simp [results, Try.results57, go_sem]) rfl HR.out
  · go_enter Try.func57, Try.ntmps57
    go_wp2_with fail
    refine (num_any g n 1 _ H.out (by decide) hr).mono ?_
    rintro e w1 ⟨rfl, h1, h2⟩
    have HR := Lib.hid (show PutsR g n (n + 9) w (.returned (.tuple #[])) w1 from ⟨rfl, h1, h2⟩)
    clear h1 h2
    go_wp2
    exact bodyPost_end (v := .tuple #[]) (by simp [results, Try.results57, go_sem]) rfl HR.out
end Go.Proofs.Ytedkcpncomgboaa.wire
