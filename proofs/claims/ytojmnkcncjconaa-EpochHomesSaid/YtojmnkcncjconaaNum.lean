import Derived.Laws.BitsAllLaws
import Derived.Laws.BitsLemmas
import Derived.WalkKit
namespace Go.Proofs.Ytojmnkcncjconaa.num

def rnd (x : Nat) : Nat := (x / 2) ^^^ (if x % 2 = 1 then 2197175160 else 0)
def rnds : Nat → Nat → Nat
  | 0, x => x
  | k + 1, x => rnd (rnds k x)
def stepN (s c : Nat) : Nat := (rnds 8 ((s ^^^ 4294967295) ^^^ c)) ^^^ 4294967295
def stepI (s c : Int) : Int := ((stepN s.toNat c.toNat : Nat) : Int)
def sumI (l : List Int) : Int := l.foldl stepI 0

theorem rnd_lt {x : Nat} (h : x < 4294967296) : rnd x < 4294967296 := by
  unfold rnd
  have : x / 2 < 2 ^ 32 := by omega
  have h2 : (if x % 2 = 1 then 2197175160 else 0) < 2 ^ 32 := by split <;> decide
  exact Nat.xor_lt_two_pow this h2
theorem rnds_lt {x : Nat} (k : Nat) (h : x < 4294967296) : rnds k x < 4294967296 := by
  induction k with
  | zero => exact h
  | succ k ih => exact rnd_lt ih
theorem xor_lt {a b : Nat} (ha : a < 4294967296) (hb : b < 4294967296) : a ^^^ b < 4294967296 := Nat.xor_lt_two_pow (n := 32) ha hb
theorem stepN_lt {s c : Nat} (hs : s < 4294967296) (hc : c < 256) : stepN s c < 4294967296 :=
  xor_lt (rnds_lt 8 (xor_lt (xor_lt hs (by decide)) (by omega))) (by decide)
theorem stepI_bd {s c : Int} (hs : 0 ≤ s ∧ s ≤ 4294967295) (hc : 0 ≤ c ∧ c ≤ 255) : 0 ≤ stepI s c ∧ stepI s c ≤ 4294967295 := by
  unfold stepI
  have := stepN_lt (s := s.toNat) (c := c.toNat) (by omega) (by omega)
  omega
theorem foldl_bd {l : List Int} : ∀ {s : Int}, 0 ≤ s ∧ s ≤ 4294967295 → (∀ c ∈ l, 0 ≤ c ∧ c ≤ 255) → 0 ≤ l.foldl stepI s ∧ l.foldl stepI s ≤ 4294967295 := by
  induction l with
  | nil => intro s hs _; exact hs
  | cons c l ih => intro s hs hl; exact ih (stepI_bd hs (hl c (by simp))) (fun d hd => hl d (by simp [hd]))
theorem sumI_bd {l : List Int} (hl : ∀ c ∈ l, 0 ≤ c ∧ c ≤ 255) : 0 ≤ sumI l ∧ sumI l ≤ 4294967295 := foldl_bd (by omega) hl

/-- xor with one fixed number can be undone. -/
theorem xor_cancel {a b c : Nat} (h : a ^^^ c = b ^^^ c) : a = b := by
  have := congrArg (· ^^^ c) h
  simpa [Nat.xor_assoc] using this
theorem xor_cancel_left {a b c : Nat} (h : c ^^^ a = c ^^^ b) : a = b := by
  rw [Nat.xor_comm c a, Nat.xor_comm c b] at h; exact xor_cancel h
theorem top_of_rnd {x : Nat} (h : x < 4294967296) : (rnd x).testBit 31 = decide (x % 2 = 1) := by
  unfold rnd
  rw [Nat.testBit_xor]
  have h1 : (x / 2).testBit 31 = false := Nat.testBit_lt_two_pow (by omega)
  rw [h1]
  by_cases hx : x % 2 = 1 <;> simp [hx] <;> decide
theorem rnd_inj {x y : Nat} (hx : x < 4294967296) (hy : y < 4294967296) (h : rnd x = rnd y) : x = y := by
  have ht : decide (x % 2 = 1) = decide (y % 2 = 1) := by rw [← top_of_rnd hx, ← top_of_rnd hy, h]
  have he : (x % 2 = 1) = (y % 2 = 1) := by simpa using ht
  unfold rnd at h
  simp only [he] at h
  have := xor_cancel h
  have : x % 2 = 1 ↔ y % 2 = 1 := by rw [he]
  omega
theorem rnds_inj {x y : Nat} (hx : x < 4294967296) (hy : y < 4294967296) : ∀ k, rnds k x = rnds k y → x = y
  | 0, h => h
  | k + 1, h => rnds_inj hx hy k (rnd_inj (rnds_lt k hx) (rnds_lt k hy) h)
theorem stepN_inj_c {s c d : Nat} (hs : s < 4294967296) (hc : c < 256) (hd : d < 256) (h : stepN s c = stepN s d) : c = d := by
  have h1 := rnds_inj (xor_lt (xor_lt hs (by decide)) (by omega)) (xor_lt (xor_lt hs (by decide)) (by omega)) 8 (xor_cancel h)
  exact xor_cancel_left h1
theorem stepN_inj_s {s t c : Nat} (hs : s < 4294967296) (ht : t < 4294967296) (hc : c < 256) (h : stepN s c = stepN t c) : s = t := by
  have h1 := rnds_inj (xor_lt (xor_lt hs (by decide)) (by omega)) (xor_lt (xor_lt ht (by decide)) (by omega)) 8 (xor_cancel h)
  exact xor_cancel (xor_cancel h1)
theorem stepI_inj_c {s c d : Int} (hs : 0 ≤ s ∧ s ≤ 4294967295) (hc : 0 ≤ c ∧ c ≤ 255) (hd : 0 ≤ d ∧ d ≤ 255) (h : stepI s c = stepI s d) : c = d := by
  unfold stepI at h
  have := stepN_inj_c (s := s.toNat) (c := c.toNat) (d := d.toNat) (by omega) (by omega) (by omega) (by omega)
  omega
theorem stepI_inj_s {s t c : Int} (hs : 0 ≤ s ∧ s ≤ 4294967295) (ht : 0 ≤ t ∧ t ≤ 4294967295) (hc : 0 ≤ c ∧ c ≤ 255) (h : stepI s c = stepI t c) : s = t := by
  unfold stepI at h
  have := stepN_inj_s (s := s.toNat) (t := t.toNat) (c := c.toNat) (by omega) (by omega) (by omega) (by omega)
  omega
theorem foldl_inj {l : List Int} : ∀ {s t : Int}, (0 ≤ s ∧ s ≤ 4294967295) → (0 ≤ t ∧ t ≤ 4294967295) → (∀ c ∈ l, 0 ≤ c ∧ c ≤ 255) → l.foldl stepI s = l.foldl stepI t → s = t := by
  induction l with
  | nil => intro s t _ _ _ h; exact h
  | cons c l ih =>
    intro s t hs ht hl h
    have hc := hl c (by simp)
    exact stepI_inj_s hs ht hc (ih (stepI_bd hs hc) (stepI_bd ht hc) (fun d hd => hl d (by simp [hd])) h)

/-! how the walk spells it -/
theorem spell_start {s c : Nat} (hs : s < 4294967296) (hc : c < 256) : bits .xor .u32 (bits .xor .u32 IntKind.u32.max (s : Int)) (c : Int) = (((s ^^^ 4294967295) ^^^ c : Nat) : Int) := by
  have h : IntKind.u32.max = ((4294967295 : Nat) : Int) := by decide
  rw [h, u32_xor_nat _ _ (by decide) hs, u32_xor_nat _ _ (xor_lt (by decide) hs) (by omega), Nat.xor_comm 4294967295 s]
theorem spell_end {x : Nat} (hx : x < 4294967296) : bits .xor .u32 IntKind.u32.max (x : Int) = ((x ^^^ 4294967295 : Nat) : Int) := by
  have h : IntKind.u32.max = ((4294967295 : Nat) : Int) := by decide
  rw [h, u32_xor_nat _ _ (by decide) hx, Nat.xor_comm 4294967295 x]
theorem spell_rnd {x : Nat} (hx : x < 4294967296) : bits .xor .u32 ((x : Int) / 2) (bits .and .u32 2197175160 (-bits .and .u32 (x : Int) 1 % 4294967296)) = ((rnd x : Nat) : Int) := by
  have h1 : bits .and .u32 (x : Int) 1 = ((x % 2 : Nat) : Int) := by
    have := u32_and_nat x 1 hx (by decide)
    rw [Nat.and_one_is_mod] at this
    exact this
  rw [h1]
  unfold rnd
  have hd : ((x : Int) / 2) = ((x / 2 : Nat) : Int) := by omega
  rw [hd]
  rcases Nat.mod_two_eq_zero_or_one x with h | h
  · rw [h]
    have e : bits .and .u32 2197175160 (-((0 : Nat) : Int) % 4294967296) = ((0 : Nat) : Int) := by decide
    rw [e, u32_xor_nat _ _ (by omega) (by decide)]
    simp
  · rw [h]
    have e : bits .and .u32 2197175160 (-((1 : Nat) : Int) % 4294967296) = ((2197175160 : Nat) : Int) := by decide
    rw [e, u32_xor_nat _ _ (by omega) (by decide)]
    simp
theorem take_succ_foldl (zs : List Int) (k : Nat) (h : k < zs.length) : (zs.take (k + 1)).foldl stepI 0 = stepI ((zs.take k).foldl stepI 0) (zs.getD k 0) := by
  rw [List.take_succ_eq_append_getElem h, List.foldl_append]
  simp [List.getD_eq_getElem?_getD, h]
end Go.Proofs.Ytojmnkcncjconaa.num
