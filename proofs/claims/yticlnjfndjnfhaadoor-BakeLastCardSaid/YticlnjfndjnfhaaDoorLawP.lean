/- The plain laws: what a header is taken as; what stands behind a header. -/
import Derived.Test.YticlnjfndjnfhaaDoorWriteW
namespace Go.Proofs.YticlnjfndjnfhaaDoor.bake
open Go Go.RowKit Go.Proofs.YticlnjfndjnfhaaDoor.base Go.Proofs.YticlnjfndjnfhaaDoor.dec
open Go.Lib (decDigits)

/-! ### pieces -/
theorem parts_none {c : UInt8} {x : List UInt8} (h : ∀ y ∈ x, y ≠ c) : parts c x = [x] := by
  rw [parts_eq, until_miss x h, if_neg (by simp)]
theorem parts_hit {c : UInt8} {x : List UInt8} (b : List UInt8) (h : ∀ y ∈ x, y ≠ c) : parts c (x ++ c :: b) = x :: parts c b := by
  rw [parts_eq, until_hit x b h, if_pos rfl]
theorem parts_app (c : UInt8) : ∀ (n : Nat) (a b : List UInt8), a.length ≤ n → parts c (a ++ c :: b) = parts c a ++ parts c b
  | n, a, b, hn => by
    rcases until_cases c a with ⟨x, y, rfl, h2, _⟩ | ⟨h2, _⟩
    · rw [List.append_assoc, List.cons_append, parts_hit _ h2, parts_hit _ h2]
      cases n with
      | zero => simp at hn
      | succ n => rw [parts_app c n y b (by simp at hn; omega), List.cons_append]
    · rw [parts_hit _ h2, parts_none h2]; rfl
theorem tail_cons (y : List UInt8) (l : List (List UInt8)) : tailL (y :: l) = 59 :: ((32 :: y) ++ tailL l) := by simp [tailL, Lib.joinTail]
theorem parts_tail : ∀ (l : List (List UInt8)) (x : List UInt8), (∀ y ∈ x, y ≠ 59) → (∀ z ∈ l, ∀ y ∈ z, y ≠ 59) → parts 59 (x ++ tailL l) = x :: l.map (32 :: ·)
  | [], x, hx, _ => by rw [show tailL [] = [] from rfl, List.append_nil, parts_none hx]; rfl
  | z :: l, x, hx, hl => by
    rw [tail_cons, parts_hit _ hx, parts_tail l (32 :: z) (by
      intro y hy
      rcases List.mem_cons.1 hy with rfl | hy
      · decide
      · exact hl z (by simp) y hy) (fun w hw => hl w (by simp [hw]))]
    rfl
theorem trim_free {l : List UInt8} (h : ∀ c ∈ l, bl c = false) : trimB l = l := by
  rw [drop_none']
  cases l with
  | nil => exact .inl rfl
  | cons a r => exact .inr ⟨by simp, h _ (List.getElem_mem _), h _ (List.getElem_mem _)⟩

/-! ### numbers -/
theorem val_min' : ∀ (k : Nat) (l : List UInt8), l.length = k → valL l = min (val l) 1099511627776
  | 0, l, h => by rw [List.eq_nil_of_length_eq_zero h]; rfl
  | k + 1, l, h => by
    rcases List.eq_nil_or_concat l with rfl | ⟨t, c, rfl⟩
    · rfl
    · rw [List.concat_eq_append] at h ⊢
      have ih := val_min' k t (by simp at h; exact h)
      rw [val_snoc]
      unfold valL at ih ⊢
      rw [List.foldl_append]
      simp only [List.foldl_cons, List.foldl_nil]
      rw [ih]
      omega
theorem val_min (l : List UInt8) : valL l = min (val l) 1099511627776 := val_min' _ l rfl
theorem dig_digC {c : UInt8} (h : digit c = true) : digC c = true := h
theorem age_dec {n : Nat} (h : n ≤ 1099511627776) : ageL (decDigits n) = some n := by
  have hd := dec_dig n
  have hne := dec_ne n
  have hp : [45].isPrefixOf (decDigits n) = false := by
    cases hl : decDigits n with
    | nil => rfl
    | cons a r =>
      rw [pre_one]
      have := hd a (by rw [hl]; simp)
      unfold digit at this
      simp at this
      rw [beq_eq_false_iff_ne]
      rintro rfl
      have h45 : (45 : UInt8).toNat = 45 := rfl
      omega
  unfold ageL
  rw [hp, if_neg (by simp)]
  unfold numL
  rw [if_pos (by
    rw [Bool.and_eq_true, List.all_eq_true]
    exact ⟨fun c hc => dig_digC (hd c hc), by simpa using hne⟩), if_neg (by simp), val_min, dec_val, Nat.min_eq_left h]
theorem digit_bl {c : UInt8} (h : digit c = true) : bl c = false := by
  unfold digit at h
  unfold bl blN
  simp at h ⊢
  omega
theorem digit_59 {c : UInt8} (h : digit c = true) : c ≠ 59 := by
  rintro rfl
  exact absurd h (by decide)
theorem digit_61 {c : UInt8} (h : digit c = true) : c ≠ 61 := by
  rintro rfl
  exact absurd h (by decide)
/-! ### bytes of right cookies -/
theorem tok_free : ∀ n : Fin 256, tokN n.val = true → n.val ≠ 61 ∧ n.val ≠ 59 ∧ blN n.val = false := by decide +kernel
theorem oct_free : ∀ n : Fin 256, octN n.val = true → n.val ≠ 59 ∧ blN n.val = false := by decide +kernel
theorem tok_bytes {s : ByteArray} (h : tokB s = true) : s.data.toList ≠ [] ∧ ∀ c ∈ s.data.toList, c ≠ 61 ∧ c ≠ 59 ∧ bl c = false := by
  unfold tokB at h
  rw [Bool.and_eq_true, List.all_eq_true, decide_eq_true_eq] at h
  refine ⟨fun e => by have h2 : s.data.toList.length = s.size := rfl; rw [e] at h2; simp at h2; omega, fun c hc => ?_⟩
  have := tok_free ⟨c.toNat, c.toNat_lt⟩ (h.2 c hc)
  exact ⟨fun e => this.1 (by rw [e]; rfl), fun e => this.2.1 (by rw [e]; rfl), this.2.2⟩
theorem oct_bytes {s : ByteArray} (h : octsB s = true) : ∀ c ∈ s.data.toList, c ≠ 59 ∧ bl c = false := by
  unfold octsB at h
  rw [List.all_eq_true] at h
  intro c hc
  have := oct_free ⟨c.toNat, c.toNat_lt⟩ (h c hc)
  exact ⟨fun e => this.1 (by rw [e]; rfl), this.2⟩
theorem path_bytes {l : List UInt8} (h : pathL l = true) : (∀ c ∈ l, c ≠ 59) ∧ trimB l = l ∧ (l = [] ∨ [47].isPrefixOf l = true) := by
  have hg := (path_good l).1 h
  have hall : ∀ c ∈ l, pathC c = true := by
    intro c hc
    obtain ⟨i, hi, rfl⟩ := List.getElem_of_mem hc
    have := hg i hi
    unfold goodC at this
    simp at this
    exact this.2.1
  refine ⟨fun c hc e => ?_, ?_, ?_⟩
  · have := hall c hc
    subst e
    exact absurd this (by decide)
  · rw [drop_none']
    cases l with
    | nil => exact .inl rfl
    | cons a r =>
      refine .inr ⟨by simp, ?_, ?_⟩
      · have h1 := hg 0 (by simp)
        unfold goodC at h1
        simp at h1
        rw [blN_path (hall _ (List.getElem_mem _))]
        simp [h1.1]
      · have h1 := hg ((a :: r).length - 1) (by simp)
        rw [blN_path (hall _ (List.getElem_mem _))]
        by_cases hr : r = []
        · subst hr
          unfold goodC at h1
          simp at h1
          simp [h1.1]
        · unfold goodC at h1
          simp at h1
          simpa using h1.2.2
  · cases l with
    | nil => exact .inl rfl
    | cons a r =>
      right
      have h1 := hg 0 (by simp)
      unfold goodC at h1
      simp at h1
      rw [pre_one, h1.1]
      rfl

/-! ### the attributes one by one -/
theorem key_hit {a v : List UInt8} (h : ∀ x ∈ a, x ≠ 61) (c : Ck) : step c (a ++ 61 :: v) = attr (lowL (trimB a)) (trimB v) c := by
  unfold step; rw [until_hit a v h]
theorem key_miss {a : List UInt8} (h : ∀ x ∈ a, x ≠ 61) (c : Ck) : step c a = attr (lowL (trimB a)) [] c := by
  unfold step; rw [until_miss a h]; rfl
theorem step_path {p : List UInt8} (h : trimB p = p) (hp : [47].isPrefixOf p = true) (c : Ck) : step c (32 :: (pathH ++ p)) = { c with path := mkB p } := by
  rw [show (32 : UInt8) :: (pathH ++ p) = [32, 80, 97, 116, 104] ++ 61 :: p from rfl, key_hit (by decide), h, show lowL (trimB [32, 80, 97, 116, 104]) = pathK from by decide]
  unfold attr
  rw [if_pos rfl, if_pos hp]
theorem step_age {n : Nat} (h : n ≤ 1099511627776) (c : Ck) : step c (32 :: (ageH ++ decDigits n)) = { c with age := (n : Int) } := by
  rw [show (32 : UInt8) :: (ageH ++ decDigits n) = [32, 77, 97, 120, 45, 65, 103, 101] ++ 61 :: decDigits n from rfl, key_hit (by decide), trim_free (fun c hc => digit_bl (dec_dig n c hc)), show lowL (trimB [32, 77, 97, 120, 45, 65, 103, 101]) = ageK from by decide]
  unfold attr
  rw [if_neg (by decide), if_pos rfl, age_dec h]
theorem step_sec (c : Ck) : step c (32 :: secH) = { c with sec := true } := by
  rw [key_miss (by decide), show lowL (trimB (32 :: secH)) = secK from by decide]
  rfl
theorem step_http (c : Ck) : step c (32 :: httpH) = { c with http := true } := by
  rw [key_miss (by decide), show lowL (trimB (32 :: httpH)) = httpK from by decide]
  rfl
theorem step_site {n : Nat} (h : n = 1 ∨ n = 2 ∨ n = 3) (c : Ck) : step c (32 :: (siteH ++ siteL n)) = { c with site := n } := by
  rw [show (32 : UInt8) :: (siteH ++ siteL n) = [32, 83, 97, 109, 101, 83, 105, 116, 101] ++ 61 :: siteL n from rfl, key_hit (by decide), show lowL (trimB [32, 83, 97, 109, 101, 83, 105, 116, 101]) = siteK from by decide]
  rcases h with rfl | rfl | rfl <;> rfl

/-! ### a right cookie comes back from its header -/
theorem fold_app (c : Ck) (a b : List (List UInt8)) : ((a ++ b).map (32 :: ·)).foldl step c = (b.map (32 :: ·)).foldl step ((a.map (32 :: ·)).foldl step c) := by
  rw [List.map_append, List.foldl_append]
theorem pathH_59 : ∀ c ∈ pathH, c ≠ 59 := by decide
theorem ageH_59 : ∀ c ∈ ageH, c ≠ 59 := by decide
theorem siteH_59 : ∀ c ∈ siteH, c ≠ 59 := by decide
theorem ageA_59 : ∀ c ∈ ([32, 109, 97, 120, 45, 97, 103, 101, 32, 61, 32] : List UInt8), c ≠ 59 := by decide
theorem parseL_cons (p : List UInt8) (r : List (List UInt8)) : parseL (p :: r) = (first p).map fun c => r.foldl step c := rfl
theorem site_59 (n : Nat) : ∀ c ∈ siteL n, c ≠ 59 := by
  intro c hc
  unfold siteL at hc
  split at hc <;> simp at hc <;> (rintro rfl; simp at hc)
theorem back {n v p : ByteArray} {a : Int} {sec http : Bool} {st : Int} (h : rightB n v p a sec st = true) :
    parse (mkB (headL n v p a sec http st)) = some ⟨n, v, p, a, sec, http, st.toNat⟩ := by
  unfold rightB at h
  simp only [Bool.and_eq_true, decide_eq_true_eq] at h
  obtain ⟨ht, ho, hp, ha1, ha2, hs0, hs3, _⟩ := h
  obtain ⟨hne, htb⟩ := tok_bytes ht
  have hob := oct_bytes ho
  obtain ⟨hp59, hpt, hpp⟩ := path_bytes hp
  have hd59 : ∀ m, ∀ c ∈ decDigits m, c ≠ 59 := fun m c hc => digit_59 (dec_dig m c hc)
  unfold parse
  rw [mkB_data]
  unfold headL
  rw [parts_tail]
  · have hf : first (h0 n v) = some ⟨n, v, ⟨#[]⟩, -1, false, false, 0⟩ := by
      unfold first h0
      rw [List.append_assoc, List.singleton_append, until_hit _ _ (fun x hx => (htb x hx).1)]
      dsimp only
      rw [trim_free (fun c hc => (htb c hc).2.2), trim_free (fun c hc => (hob c hc).2), mkB_of, mkB_of, if_pos (by
        cases hl : n.data.toList with
        | nil => exact absurd hl hne
        | cons a r => rfl)]
    rw [parseL_cons, hf, Option.map_some]
    congr 1
    rw [fold_app, fold_app, fold_app, fold_app]
    have e1 : ((pP p).map (32 :: ·)).foldl step ⟨n, v, ⟨#[]⟩, -1, false, false, 0⟩ = ⟨n, v, p, -1, false, false, 0⟩ := by
      unfold pP
      split
      · rename_i h0
        have : p = ⟨#[]⟩ := bytes_eq (List.eq_nil_of_length_eq_zero h0)
        rw [this]; rfl
      · rename_i h0
        have hpp2 : [47].isPrefixOf p.data.toList = true := by
          rcases hpp with hpp | hpp
          · exact absurd (congrArg List.length hpp) h0
          · exact hpp
        rw [List.map_cons, List.map_nil, List.foldl_cons, List.foldl_nil, step_path hpt hpp2, mkB_of]
    have e2 : ((pA a).map (32 :: ·)).foldl step ⟨n, v, p, -1, false, false, 0⟩ = ⟨n, v, p, a, false, false, 0⟩ := by
      unfold pA
      split
      · rw [List.map_cons, List.map_nil, List.foldl_cons, List.foldl_nil, step_age (by omega)]
        congr 1
        omega
      · have : a = -1 := by omega
        rw [this]; rfl
    have e3 : ((pS sec).map (32 :: ·)).foldl step ⟨n, v, p, a, false, false, 0⟩ = ⟨n, v, p, a, sec, false, 0⟩ := by
      cases sec
      · rfl
      · show step _ (32 :: secH) = _
        rw [step_sec]
    have e4 : ((pH http).map (32 :: ·)).foldl step ⟨n, v, p, a, sec, false, 0⟩ = ⟨n, v, p, a, sec, http, 0⟩ := by
      cases http
      · rfl
      · show step _ (32 :: httpH) = _
        rw [step_http]
    have e5 : ((pT st).map (32 :: ·)).foldl step ⟨n, v, p, a, sec, http, 0⟩ = ⟨n, v, p, a, sec, http, st.toNat⟩ := by
      unfold pT
      split
      · rw [List.map_cons, List.map_nil, List.foldl_cons, List.foldl_nil, step_site (by omega)]
      · have : st = 0 := by omega
        rw [this]; rfl
    rw [e1, e2, e3, e4, e5]
  · intro y hy
    unfold h0 at hy
    rcases List.mem_append.1 hy with hy | hy
    · rcases List.mem_append.1 hy with hy | hy
      · exact (htb y hy).2.1
      · rw [List.mem_singleton] at hy; subst hy; decide
    · exact (hob y hy).1
  · intro z hz
    rcases List.mem_append.1 hz with hz | hz
    · unfold pP at hz
      split at hz
      · simp at hz
      · rw [List.mem_singleton] at hz
        subst hz
        intro y hy
        rcases List.mem_append.1 hy with hy | hy
        · exact pathH_59 y hy
        · exact hp59 y hy
    rcases List.mem_append.1 hz with hz | hz
    · unfold pA at hz
      split at hz
      · rw [List.mem_singleton] at hz
        subst hz
        intro y hy
        rcases List.mem_append.1 hy with hy | hy
        · exact ageH_59 y hy
        · exact hd59 _ y hy
      · simp at hz
    rcases List.mem_append.1 hz with hz | hz
    · cases sec
      · simp [pS] at hz
      · simp only [pS, if_true, List.mem_singleton] at hz
        subst hz; decide
    rcases List.mem_append.1 hz with hz | hz
    · cases http
      · simp [pH] at hz
      · simp only [pH, if_true, List.mem_singleton] at hz
        subst hz; decide
    · unfold pT at hz
      split at hz
      · rw [List.mem_singleton] at hz
        subst hz
        intro y hy
        rcases List.mem_append.1 hy with hy | hy
        · exact siteH_59 y hy
        · exact site_59 _ y hy
      · simp at hz

/-! ### what stands behind a header -/
def otherB : List UInt8 := [88, 45, 79, 116, 104, 101, 114, 61, 49]
def lastB (D : List UInt8) : List UInt8 := [59, 88, 45, 79, 116, 104, 101, 114, 61, 49, 59, 32, 109, 97, 120, 45, 97, 103, 101, 32, 61, 32] ++ D ++ [32]
theorem step_other (c : Ck) : step c otherB = c := by
  rw [show otherB = [88, 45, 79, 116, 104, 101, 114] ++ 61 :: [49] from rfl, key_hit (by decide), show lowL (trimB [88, 45, 79, 116, 104, 101, 114]) = [120, 45, 111, 116, 104, 101, 114] from by decide]
  rfl
theorem step_last {n : Nat} (h : n ≤ 1099511627776) (c : Ck) : step c ([32, 109, 97, 120, 45, 97, 103, 101, 32, 61, 32] ++ decDigits n ++ [32]) = { c with age := (n : Int) } := by
  have ht : trimB (32 :: (decDigits n ++ [32])) = decDigits n := by
    have hb := fun c hc => digit_bl (dec_dig n c hc)
    obtain ⟨x, r, hx⟩ : ∃ x r, decDigits n = x :: r := by
      cases hh : decDigits n with
      | nil => exact absurd hh (dec_ne n)
      | cons x r => exact ⟨x, r, rfl⟩
    obtain ⟨t, y, hy⟩ : ∃ t y, decDigits n = t ++ [y] := by
      rcases List.eq_nil_or_concat (decDigits n) with hh | ⟨t, y, hh⟩
      · exact absurd hh (dec_ne n)
      · exact ⟨t, y, by rw [hh, List.concat_eq_append]⟩
    unfold trimB trimR
    rw [List.dropWhile_cons_of_pos (by decide)]
    have e1 : (decDigits n ++ [32]).dropWhile bl = decDigits n ++ [32] := by
      rw [hx, List.cons_append, List.dropWhile_cons_of_neg (by rw [hb x (by rw [hx]; simp)]; simp)]
    rw [e1, List.reverse_append, List.reverse_singleton, List.singleton_append, List.dropWhile_cons_of_pos (by decide), hy, List.reverse_append, List.reverse_singleton, List.singleton_append,
      List.dropWhile_cons_of_neg (by rw [hb y (by rw [hy]; simp)]; simp)]
    simp
  rw [show ([32, 109, 97, 120, 45, 97, 103, 101, 32, 61, 32] ++ decDigits n ++ [32] : List UInt8) = [32, 109, 97, 120, 45, 97, 103, 101, 32] ++ 61 :: (32 :: (decDigits n ++ [32])) from by simp, key_hit (by decide), ht,
    show lowL (trimB [32, 109, 97, 120, 45, 97, 103, 101, 32]) = ageK from by decide]
  unfold attr
  rw [if_neg (by decide), if_pos rfl, age_dec h]
theorem parse_last (s : ByteArray) {n : Nat} (h : n ≤ 1099511627776) : parse (mkB (s.data.toList ++ lastB (decDigits n))) = (parse s).map fun c => { c with age := (n : Int) } := by
  have hd59 : ∀ c ∈ decDigits n, c ≠ 59 := fun c hc => digit_59 (dec_dig n c hc)
  have e1 : s.data.toList ++ lastB (decDigits n) = s.data.toList ++ 59 :: (otherB ++ 59 :: ([32, 109, 97, 120, 45, 97, 103, 101, 32, 61, 32] ++ decDigits n ++ [32])) := by simp [lastB, otherB]
  have e2 : parts 59 (s.data.toList ++ lastB (decDigits n)) = parts 59 s.data.toList ++ [otherB, [32, 109, 97, 120, 45, 97, 103, 101, 32, 61, 32] ++ decDigits n ++ [32]] := by
    rw [e1, parts_app 59 _ _ _ (Nat.le_refl _), parts_hit (x := otherB) _ (by decide), parts_none (x := [32, 109, 97, 120, 45, 97, 103, 101, 32, 61, 32] ++ decDigits n ++ [32]) (by
      intro y hy
      rcases List.mem_append.1 hy with hy | hy
      · rcases List.mem_append.1 hy with hy | hy
        · exact ageA_59 y hy
        · exact hd59 y hy
      · rw [List.mem_singleton] at hy; subst hy; decide)]
  unfold parse
  rw [mkB_data, e2]
  cases hl : parts 59 s.data.toList with
  | nil => exact absurd hl (pcs_ne _ _ _)
  | cons p r =>
    rw [List.cons_append, parseL_cons, parseL_cons]
    cases hf : first p with
    | none => rfl
    | some c =>
      simp only [Option.map_some]
      rw [List.foldl_append, List.foldl_cons, List.foldl_cons, List.foldl_nil, step_other, step_last h]
end Go.Proofs.YticlnjfndjnfhaaDoor.bake
