/- wire's Vec and Done, where nothing goes wrong. -/
import Derived.Test.YtedkcpncomgboaaWr
import Derived.Laws.BytesArg
namespace Go.Proofs.Ytedkcpncomgboaa.wire
open Go.RowKit Go.Proofs.Ytedkcpncomgboaa.base Go.Proofs.Ytedkcpncomgboaa.rowe Go.Proofs.Ytedkcpncomgboaa.err

theorem tr_len {zs : List Int} {most : Int} (h : trB zs most = true) : zs.length ≤ 16 := by
  unfold trB at h
  simp only [Bool.and_eq_true, decide_eq_true_eq] at h
  exact h.1
theorem tr_ok {zs : List Int} {most : Int} (h : trB zs most = true) {k : Nat} (hk : k < zs.length) : 0 ≤ zs.getD k 0 ∧ zs.getD k 0 ≤ most := by
  unfold trB at h
  simp only [Bool.and_eq_true, decide_eq_true_eq, List.all_eq_true] at h
  have := h.2.2 (zs.getD k 0) (by rw [List.getD_eq_getElem?_getD, List.getElem?_eq_getElem hk]; simp)
  unfold okN at this
  simpa using this
theorem tr_more {zs : List Int} {most most' : Int} (h : trB zs most = true) (hm : most ≤ most') : trB zs most' = true := by
  unfold trB at h ⊢
  simp only [Bool.and_eq_true, decide_eq_true_eq, List.all_eq_true] at h ⊢
  refine ⟨h.1, h.2.1, fun x hx => ?_⟩
  have := h.2.2 x hx
  unfold okN at this ⊢
  simp only [Bool.and_eq_true, decide_eq_true_eq] at this ⊢
  omega
set_option maxRecDepth 10000 in
theorem vec_any (g n : Nat) (d : Value) (zs : List Int) (w : World) (h : OutS w g n) (hd : Nums w g d zs) (ht : trB zs 1099511627776 = true) (hr : n + 200 ≤ 65536) :
    Calls Try.prog 55 #[.pointer (some ⟨g, 0, none⟩), d] w (PutsR g n (n + 200) w) := by
  obtain ⟨A, m, c, rfl, hl, hm, hrd⟩ := hd
  have h16 := tr_len ht
  have ht2 := tr_more ht (most' := 4611686018427387903) (by decide)
  obtain ⟨v, hb, hv⟩ := id h
  have c1 : w.cell? ⟨g, 1, none⟩ = _ := hb.cell 1
  have hlt := hb.lt
  simp at c1
  have hm16 : m ≤ 16 := by omega
  have Ht2 := Lib.hid ht2
  have Ht := Lib.hid ht
  have Hl := Lib.hid hl
  have Hrd := Lib.hid hrd
  have H := Lib.hid h
  clear h
  clear hb hv ht ht2 hl hrd h16
  go_enter Try.func55, Try.ntmps55
  go_wp2_with fail
  refine (trim_any A m c zs 4611686018427387903 g _ Hl.out hm Hrd.out).mono ?_
  rintro e w1 ⟨rfl, rfl⟩
  rw [Ht2.out]
  go_wp2_with fail
  refine (number_any (.slice none 0 0) 0 m w1.heap.size _ (Row8.none _ _) (by omega) (by omega) (Nat.le_refl _)).mono ?_
  rintro e w2 ⟨v1, q, rfl, h1, h2, h3, h4⟩
  have H3 := Lib.hid h3
  have H4 := Lib.hid h4
  clear h3 h4
  go_wp2_with fail
  go_loopw [4, 6, 26] (fun b _ i wr' => ∃ k q' : Nat, i = .int .i64 k ∧ k ≤ m ∧ q' ≤ 9 * (k + 1) ∧ Row8 wr' w1.heap.size b q' ∧ Below w1.heap.size w1 wr') (fun _ _ i _ => m - (intOf i).toNat)
  case atStart => exact ⟨0, q, rfl, by omega, by omega, H3.out, H4.out⟩
  case round =>
    clear H3 H4
    obtain ⟨k, q', rfl, hk, hq', h3, h4⟩ := hrel
    obtain ⟨A1, c1', rfl⟩ := h3.form
    have hsz := h4.size
    by_cases hlk : k < m
    · have d1 : decide ((k : Int) < (m : Int)) = true := by simp; omega
      obtain ⟨b, off, rfl, hbb⟩ := Hrd.out.at_some (by omega)
      have hcur := (Hrd.out.below (h4.mono (by omega))).int (k := k) hlk
      have hok := tr_ok Ht.out (k := k) (by rw [Hl.out]; exact hlk)
      obtain ⟨y, hy⟩ : ∃ y : Nat, zs.getD k 0 = (y : Int) := ⟨(zs.getD k 0).toNat, by omega⟩
      rw [hy] at hcur hok
      have hy2 : y < 9223372036854775808 := by omega
      have hkm : (k : Int) < (m : Int) := by omega
      clear hok hy
      have H3 := Lib.hid h3
      have H4 := Lib.hid h4
      have Hy2 := Lib.hid hy2
      clear h3 h4 hy2
      go_wp2_with fail
      refine (number_any (.slice A1 q' c1') q' y w1.heap.size _ H3.out Hy2.out (by omega) hsz).mono ?_
      rintro e w3 ⟨v3, q3, rfl, h5, h6, h7, h8⟩
      have H7 := Lib.hid h7
      have H8 := Lib.hid (H4.out.trans h8)
      clear h7 h8 H3 H4
      go_wp2_with fail
      go_roundw
      case rel => exact ⟨k + 1, q3, by go_num, by omega, by omega, H7.out, H8.out⟩
      case measure => simp [intOf]; omega
    · obtain rfl : m = k := by omega
      have d1 : decide ((m : Int) < (m : Int)) = false := by simp
      have H3 := Lib.hid h3
      have H4 := Lib.hid h4
      clear h3 h4
      go_wp2_with fail
      refine (put_any g n q' A1 c1' _ (H.out.below H4.out) (H3.out.base (by omega)) (by omega)).mono ?_
      rintro e w3 ⟨rfl, h5, h6⟩
      have hR : PutsR g n (n + 200) w1 (.returned (.tuple #[])) w3 := ⟨rfl, ⟨n + q', by omega, by omega, h5⟩, (H4.out.mono (by omega)).trans h6⟩
      have HR := Lib.hid hR
      clear hR h5 h6
      go_wp2
      exact bodyPost_end (v := .tuple #[]) (by simp [results, Try.results55, go_sem]) rfl HR.out
theorem u8_list : ∀ xs : List Value, (∀ u ∈ xs, IsU8 u) → ∃ ns : List Int, xs = ns.map (Value.int .u8)
  | [], _ => ⟨[], rfl⟩
  | x :: xs, h => by
    obtain ⟨b, hb⟩ := h x (by simp)
    obtain ⟨ns, hn⟩ := u8_list xs (fun u hu => h u (by simp [hu]))
    exact ⟨b :: ns, by rw [hb, hn]; rfl⟩
theorem conv_row {w : World} {base n : Nat} {v : Value} (h : Row8 w base v n) : ∃ s, (convert 22 9 v).run Try.prog w = .ok (.string s) w := by
  obtain ⟨xs, hx, hu⟩ := h
  obtain ⟨ns, rfl⟩ := u8_list xs hu
  rcases id hx.2 with ⟨rfl, rfl⟩ | ⟨g, cap, cur, rfl, h1⟩
  · exact ⟨_, run_convert_bytes_nil w _ _ Try.underlying22 Try.underlying5 0 0 _ Try.underlying9⟩
  · have hr := Reads.of_own hx
    have hl : ns.length = n := by have := hx.1; simpa using this
    refine ⟨_, run_convert_bytes_arg w _ _ Try.underlying22 Try.underlying5 g 0 n cap ns hl (fun i hi => ?_) _ Try.underlying9⟩
    exact Reads.get hr (by omega) (by rw [List.getElem?_map, List.getElem?_eq_getElem (by omega)]; simp [List.getD, List.getElem?_eq_getElem (show i < ns.length by omega)])
set_option maxRecDepth 10000 in
theorem done_any (g n : Nat) (w : World) (h : OutS w g n) :
    Calls Try.prog 58 #[.pointer (some ⟨g, 0, none⟩)] w fun e w' => (∃ s, e = .returned (.tuple #[.string s, .nilIface])) ∧ Below w.heap.size w w' := by
  obtain ⟨v, hb, hrow⟩ := h
  have c0 : w.cell? ⟨g, 0, none⟩ = _ := hb.cell 0
  have c1 : w.cell? ⟨g, 1, none⟩ = _ := hb.cell 1
  have hlt := hb.lt
  simp at c0 c1
  obtain ⟨s, hs⟩ := conv_row hrow
  obtain ⟨A, c, rfl⟩ := hrow.form
  clear hb hrow
  go_enter Try.func58, Try.ntmps58
  go_wp2
  exact bodyPost_ret (v := .tuple #[.string s, .nilIface]) (by simp [results, Try.results58, go_sem]) rfl ⟨⟨s, rfl⟩, Below.refl _ _⟩
end Go.Proofs.Ytedkcpncomgboaa.wire
