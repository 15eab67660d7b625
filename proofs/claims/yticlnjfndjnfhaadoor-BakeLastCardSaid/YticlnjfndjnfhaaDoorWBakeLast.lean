/- The walk of the law BakeLast: it returns true; nothing that was there is written. -/
import Derived.Test.YticlnjfndjnfhaaDoorAwakeB
namespace Go.Proofs.YticlnjfndjnfhaaDoor.wBakeLast
open Go Go.RowKit Go.Proofs.YticlnjfndjnfhaaDoor.base Go.Proofs.YticlnjfndjnfhaaDoor.dec Go.Proofs.YticlnjfndjnfhaaDoor.err Go.Proofs.YticlnjfndjnfhaaDoor.bake
open Go.Lib (decDigits)

theorem eq_ck (a b c : ByteArray) (d : Int) (e f : Bool) (g : Int) (W : World) : (Op.equalIn 10000 25 (.agg #[.string a, .string b, .string c, .int .i64 d, .bool e, .bool f, .int .i64 g]) (.agg #[.string a, .string b, .string c, .int .i64 d, .bool e, .bool f, .int .i64 g])).run Tryd.prog W = .ok true W := by
  go_simp
/-- the digits on their way: k is left, l is written -/
def DigI (N k : Nat) (l : List UInt8) : Prop := (l = [] ∧ k = N) ∨ (k = 0 ∧ l ≠ [] ∧ l = decDigits N) ∨ (1 ≤ k ∧ l ≠ [] ∧ decDigits N = decDigits k ++ l)
theorem dig_next {N k : Nat} {l : List UInt8} (h : DigI N k l) (hc : 1 ≤ k ∨ l = []) : DigI N (k / 10) (UInt8.ofNat (48 + k % 10) :: l) := by
  have key : decDigits N = decDigits k ++ l → DigI N (k / 10) (UInt8.ofNat (48 + k % 10) :: l) := by
    intro h1
    by_cases h10 : k < 10
    · refine .inr (.inl ⟨by omega, by simp, ?_⟩)
      rw [h1, dec_small h10, show k % 10 = k by omega]
      rfl
    · refine .inr (.inr ⟨by omega, by simp, ?_⟩)
      rw [h1, dec_big h10]
      simp
  rcases h with ⟨rfl, rfl⟩ | ⟨rfl, h2, h3⟩ | ⟨h1, h2, h3⟩
  · exact key (by simp)
  · rcases hc with hc | hc
    · omega
    · exact absurd hc h2
  · exact key h3
theorem dig_end {N k : Nat} {l : List UInt8} (h : DigI N k l) (hk : k = 0) (hl : l ≠ []) : l = decDigits N := by
  rcases h with ⟨h1, _⟩ | ⟨_, _, h3⟩ | ⟨h1, _⟩
  · exact absurd h1 hl
  · exact h3
  · omega
theorem dig_len {N k : Nat} {l : List UInt8} (h : DigI N k l) (hN : N ≤ 65535) : l.length ≤ 19 := by
  have hd : (decDigits N).length ≤ 19 := dec_len_le 18 N (by omega)
  rcases h with ⟨rfl, _⟩ | ⟨_, _, h3⟩ | ⟨_, _, h3⟩
  · simp
  · rw [h3]; exact hd
  · have := congrArg List.length h3
    simp at this
    omega
theorem u16_of {n : Int} (h : (Lit.int .u16 n).wf = true) : ∃ m : Nat, n = m ∧ m ≤ 65535 := by
  have h1 : (decide (IntKind.u16.min ≤ n) && decide (n ≤ IntKind.u16.max)) = true := h
  rw [show IntKind.u16.min = 0 from rfl, show IntKind.u16.max = 65535 from rfl] at h1
  simp only [Bool.and_eq_true, decide_eq_true_eq] at h1
  exact ⟨n.toNat, by omega, by omega⟩
theorem cat_last (s : ByteArray) (l : List UInt8) : s ++ ⟨#[59, 88, 45, 79, 116, 104, 101, 114, 61, 49, 59, 32, 109, 97, 120, 45, 97, 103, 101, 32, 61, 32]⟩ ++ mkB l ++ ⟨#[32]⟩ = mkB (s.data.toList ++ lastB l) :=
  bytes_eq (by simp [mkB_data, lastB, ByteArray.data_append])
def left (d x : Value) : Nat := (intOf x).toNat + (if vlen d = 0 then 1 else 0)
theorem left_lt {C D : ByteArray} {k : Nat} {x : Int} (hC : C.size = 1) (hx : x = (k : Int) / 10) (h : 1 ≤ k ∨ D.size = 0) : left (.string (C ++ D)) (.int .i64 x) < left (.string D) (.int .i64 k) := by
  subst hx
  unfold left
  rw [if_neg (by show (C ++ D).size ≠ 0; rw [ByteArray.size_append]; omega)]
  show ((k : Int) / 10).toNat + 0 < (k : Int).toNat + (if D.size = 0 then 1 else 0)
  split <;> omega
set_option maxRecDepth 10000 in
set_option maxHeartbeats 3200000 in
theorem walk (v0 v1 : Value) (w : World) (a0 : Arg Tryd.prog w 9 v0) (a1 : Arg Tryd.prog w 22 v1) (ht : Tabs w) :
    Calls Tryd.prog 3 #[v0, v1] w fun e w' => e = .returned (.bool true) ∧ Below w.heap.size w w' := by
  obtain ⟨s, rfl, _⟩ := a0.string Tryd.underlying9
  obtain ⟨n, rfl, hnw⟩ := a1.int Tryd.underlying22
  clear a0 a1
  obtain ⟨N, rfl, hN⟩ := u16_of hnw
  clear hnw
  have HT := Lib.hid ht
  clear ht
  go_enter Tryd.func3, Tryd.ntmps3
  go_wp2_with fail
  refine (awake_any w HT.out).mono ?_
  rintro e w1 ⟨rfl, hb1⟩
  have HT1 := Lib.hid (HT.out.below hb1)
  have HB1 := Lib.hid hb1
  clear hb1
  by_cases hs : 3000 < s.size
  · have d1 : decide ((3000 : Int) < (s.size : Int)) = true := decide_eq_true (by omega)
    go_wp2_with fail
    go_ret
    exact ⟨rfl, HB1.out⟩
  have d1 : decide ((3000 : Int) < (s.size : Int)) = false := decide_eq_false (by omega)
  go_wp2_with fail
  refine (parse_any s w1 (by omega) HT1.out.m).mono ?_
  rintro e w2 h2
  have HPL := Lib.hid (parse_last s (n := N) (by omega))
  obtain ⟨o, ho⟩ : ∃ o, parse s = o := ⟨_, rfl⟩
  rw [ho] at h2 HPL
  clear ho
  cases o with
  | none =>
    obtain ⟨v, rfl, herr, hnn, hb2⟩ := h2
    obtain ⟨g, rfl⟩ := herr.form
    have HB2 := Lib.hid (HB1.out.trans (hb2.mono HB1.out.size))
    have HT2 := Lib.hid (HT1.out.below hb2)
    clear herr hb2
    unfold Ck.val Ck.cells noCk
    go_wp2_with fail
    have HK0 := Lib.hid (Blk.new w2 25 noCk.cells.toArray)
    have HB0 := Lib.hid (HB2.out.alloc HB2.out.size (.cells noCk.cells.toArray 25))
    have HT0 := Lib.hid (HT2.out.below ((Below.refl w2.heap.size w2).alloc (Nat.le_refl _) (.cells noCk.cells.toArray 25)))
    unfold noCk Ck.cells at HK0 HB0 HT0
    dsimp only at HK0 HB0 HT0
    generalize w2.alloc (.cells #[.string ⟨#[]⟩, .string ⟨#[]⟩, .string ⟨#[]⟩, .int .i64 0, .bool false, .bool false, .int .i64 0] 25) = W0 at *
    go_loopw [7, 8] (fun d x wr => ∃ (k : Nat) (l : List UInt8), d = .string (mkB l) ∧ x = .int .i64 k ∧ k ≤ N ∧ DigI N k l ∧ Below W0.heap.size W0 wr) (fun d x _ => left d x)
    case atStart => exact ⟨N, [], rfl, rfl, Nat.le_refl _, .inl ⟨rfl, rfl⟩, Below.refl _ _⟩
    case round =>
      obtain ⟨k, l, rfl, rfl, hk, hD, hbr⟩ := hrel
      have hll := dig_len hD hN
      have HBR := Lib.hid hbr
      clear hbr
      by_cases hc : 1 ≤ k ∨ l = []
      · have HNX := Lib.hid (dig_next hD hc)
        have hconv : (convert 30 9 (.slice (some ⟨wr.heap.size, 0, none⟩) 1 1)).run Tryd.prog (wr.alloc (.cells #[.int .u8 (48 + (k : Int) % 10)] 5)) = .ok (.string (mkB [UInt8.ofNat (48 + k % 10)])) (wr.alloc (.cells #[.int .u8 (48 + (k : Int) % 10)] 5)) := conv_one (k % 10) (by omega) wr.heap.size wr rfl
        obtain ⟨C, hC⟩ : ∃ C, mkB [UInt8.ofNat (48 + k % 10)] = C := ⟨_, rfl⟩
        have hsC : C.size = 1 := by rw [← hC]; rfl
        have HC := Lib.hid hC
        rw [hC] at hconv
        clear hC hD
        by_cases h1 : 1 ≤ k
        · have hpos : 0 < k := h1
          obtain ⟨D, hDD⟩ : ∃ D, mkB l = D := ⟨_, rfl⟩
          have hsD : D.size ≤ 19 := by rw [← hDD, mkB_size]; exact hll
          have HD := Lib.hid hDD
          rw [hDD]
          clear hDD hc h1
          go_wp2_with fail
          first | go_roundw | (refine ⟨?rel, ?measure⟩)
          case rel => exact ⟨k / 10, UInt8.ofNat (48 + k % 10) :: l, by rw [← HC.out, ← HD.out, mk_app]; rfl, by congr 1, by omega, HNX.out, HBR.out.trans ((below_new wr _).mono HBR.out.size)⟩
          case measure =>
            exact left_lt hsC (by first | rfl | exact Int.tdiv_eq_ediv_of_nonneg (by omega)) (.inl hpos)
        · obtain rfl : k = 0 := by omega
          obtain rfl : l = [] := by rcases hc with h | h; · omega
                                    · exact h
          clear hc h1 hll
          have hse := str_ne (mkB [])
          rw [decide_eq_false (by rw [mkB_size]; simp)] at hse
          obtain ⟨D, hDD⟩ : ∃ D, mkB [] = D := ⟨_, rfl⟩
          have hsD : D.size ≤ 19 := by rw [← hDD, mkB_size]; simp
          have HD := Lib.hid hDD
          rw [hDD] at hse
          rw [hDD]
          have d0 : D.toList.isEmpty = true := by simpa using hse
          have hconv0 : (convert 30 9 (.slice (some ⟨wr.heap.size, 0, none⟩) 1 1)).run Tryd.prog (wr.alloc (.cells #[.int .u8 48] 5)) = .ok (.string C) (wr.alloc (.cells #[.int .u8 48] 5)) := hconv
          clear hDD hse hconv
          go_wp2_with fail
          first | go_roundw | (refine ⟨?rel, ?measure⟩)
          case rel => exact ⟨0 / 10, UInt8.ofNat (48 + 0 % 10) :: [], by rw [← HC.out, ← HD.out, mk_app]; rfl, by congr 1, by omega, HNX.out, HBR.out.trans ((below_new wr _).mono HBR.out.size)⟩
          case measure =>
            exact left_lt (k := 0) hsC (by rfl) (.inr (by rw [← HD.out]; rfl))
      · obtain rfl : k = 0 := by omega
        have hne : l ≠ [] := fun h => hc (.inr h)
        have hse := str_ne (mkB l)
        rw [decide_eq_true (by rw [mkB_size]; cases l with | nil => exact absurd rfl hne | cons a r => simp)] at hse
        obtain ⟨D, hDD⟩ : ∃ D, mkB l = D := ⟨_, rfl⟩
        have hsD : D.size ≤ 19 := by rw [← hDD, mkB_size]; exact hll
        have HCAT := Lib.hid (show s ++ ⟨#[59, 88, 45, 79, 116, 104, 101, 114, 61, 49, 59, 32, 109, 97, 120, 45, 97, 103, 101, 32, 61, 32]⟩ ++ D ++ ⟨#[32]⟩ = mkB (s.data.toList ++ lastB (decDigits N)) from by
          rw [← hDD, ← dig_end hD rfl hne]
          exact cat_last s l)
        rw [hDD] at hse
        have d0 : D.toList.isEmpty = false := by simpa using hse
        rw [hDD]
        have hTX : (mkB (s.data.toList ++ lastB (decDigits N))).size ≤ 1000000 := by rw [← HCAT.out]; simp [ByteArray.size_append]; have : (⟨#[59, 88, 45, 79, 116, 104, 101, 114, 61, 49, 59, 32, 109, 97, 120, 45, 97, 103, 101, 32, 61, 32]⟩ : ByteArray).size = 22 := rfl; have : (⟨#[32]⟩ : ByteArray).size = 1 := rfl; omega
        have HTR := Lib.hid (HT0.out.below HBR.out)
        have HKR := Lib.hid (HK0.out.below HBR.out HK0.out.lt)
        clear hc hD hDD hse hne hll
        go_wp2_with fail
        rw [HCAT.out]
        refine (parse_any _ wr hTX HTR.out.m).mono ?_
        rintro e w3 h3
        rw [HPL.out] at h3
        obtain ⟨v2, rfl, herr2, _, hb3⟩ := h3
        obtain ⟨g2, rfl⟩ := herr2.form
        have HB3 := Lib.hid (HB0.out.trans ((HBR.out.trans (hb3.mono HBR.out.size)).mono HB0.out.size))
        clear herr2 hb3
        unfold Ck.val Ck.cells noCk
        go_wp2_with fail
        go_ret
        exact ⟨rfl, HB3.out.alloc HB3.out.size _⟩
  | some c =>
    obtain ⟨rfl, hb2⟩ := h2
    obtain ⟨cn, cv, cp, cg, cs, ch, ci⟩ := c
    have HB2 := Lib.hid (HB1.out.trans (hb2.mono HB1.out.size))
    have HT2 := Lib.hid (HT1.out.below hb2)
    clear hb2
    unfold Ck.val Ck.cells
    go_wp2_with fail
    have HK0 := Lib.hid (Blk.new w2 25 #[.string cn, .string cv, .string cp, .int .i64 cg, .bool cs, .bool ch, .int .i64 ci])
    have HB0 := Lib.hid (HB2.out.alloc HB2.out.size (.cells #[.string cn, .string cv, .string cp, .int .i64 cg, .bool cs, .bool ch, .int .i64 ci] 25))
    have HT0 := Lib.hid (HT2.out.below ((Below.refl w2.heap.size w2).alloc (Nat.le_refl _) (.cells #[.string cn, .string cv, .string cp, .int .i64 cg, .bool cs, .bool ch, .int .i64 ci] 25)))
    generalize w2.alloc (.cells #[.string cn, .string cv, .string cp, .int .i64 cg, .bool cs, .bool ch, .int .i64 ci] 25) = W0 at *
    go_loopw [7, 8] (fun d x wr => ∃ (k : Nat) (l : List UInt8), d = .string (mkB l) ∧ x = .int .i64 k ∧ k ≤ N ∧ DigI N k l ∧ Below W0.heap.size W0 wr) (fun d x _ => left d x)
    case atStart => exact ⟨N, [], rfl, rfl, Nat.le_refl _, .inl ⟨rfl, rfl⟩, Below.refl _ _⟩
    case round =>
      obtain ⟨k, l, rfl, rfl, hk, hD, hbr⟩ := hrel
      have hll := dig_len hD hN
      have HBR := Lib.hid hbr
      clear hbr
      by_cases hc : 1 ≤ k ∨ l = []
      · have HNX := Lib.hid (dig_next hD hc)
        have hconv : (convert 30 9 (.slice (some ⟨wr.heap.size, 0, none⟩) 1 1)).run Tryd.prog (wr.alloc (.cells #[.int .u8 (48 + (k : Int) % 10)] 5)) = .ok (.string (mkB [UInt8.ofNat (48 + k % 10)])) (wr.alloc (.cells #[.int .u8 (48 + (k : Int) % 10)] 5)) := conv_one (k % 10) (by omega) wr.heap.size wr rfl
        obtain ⟨C, hC⟩ : ∃ C, mkB [UInt8.ofNat (48 + k % 10)] = C := ⟨_, rfl⟩
        have hsC : C.size = 1 := by rw [← hC]; rfl
        have HC := Lib.hid hC
        rw [hC] at hconv
        clear hC hD
        by_cases h1 : 1 ≤ k
        · have hpos : 0 < k := h1
          obtain ⟨D, hDD⟩ : ∃ D, mkB l = D := ⟨_, rfl⟩
          have hsD : D.size ≤ 19 := by rw [← hDD, mkB_size]; exact hll
          have HD := Lib.hid hDD
          rw [hDD]
          clear hDD hc h1
          go_wp2_with fail
          first | go_roundw | (refine ⟨?rel, ?measure⟩)
          case rel => exact ⟨k / 10, UInt8.ofNat (48 + k % 10) :: l, by rw [← HC.out, ← HD.out, mk_app]; rfl, by congr 1, by omega, HNX.out, HBR.out.trans ((below_new wr _).mono HBR.out.size)⟩
          case measure =>
            exact left_lt hsC (by first | rfl | exact Int.tdiv_eq_ediv_of_nonneg (by omega)) (.inl hpos)
        · obtain rfl : k = 0 := by omega
          obtain rfl : l = [] := by rcases hc with h | h; · omega
                                    · exact h
          clear hc h1 hll
          have hse := str_ne (mkB [])
          rw [decide_eq_false (by rw [mkB_size]; simp)] at hse
          obtain ⟨D, hDD⟩ : ∃ D, mkB [] = D := ⟨_, rfl⟩
          have hsD : D.size ≤ 19 := by rw [← hDD, mkB_size]; simp
          have HD := Lib.hid hDD
          rw [hDD] at hse
          rw [hDD]
          have d0 : D.toList.isEmpty = true := by simpa using hse
          have hconv0 : (convert 30 9 (.slice (some ⟨wr.heap.size, 0, none⟩) 1 1)).run Tryd.prog (wr.alloc (.cells #[.int .u8 48] 5)) = .ok (.string C) (wr.alloc (.cells #[.int .u8 48] 5)) := hconv
          clear hDD hse hconv
          go_wp2_with fail
          first | go_roundw | (refine ⟨?rel, ?measure⟩)
          case rel => exact ⟨0 / 10, UInt8.ofNat (48 + 0 % 10) :: [], by rw [← HC.out, ← HD.out, mk_app]; rfl, by congr 1, by omega, HNX.out, HBR.out.trans ((below_new wr _).mono HBR.out.size)⟩
          case measure =>
            exact left_lt (k := 0) hsC (by rfl) (.inr (by rw [← HD.out]; rfl))
      · obtain rfl : k = 0 := by omega
        have hne : l ≠ [] := fun h => hc (.inr h)
        have hse := str_ne (mkB l)
        rw [decide_eq_true (by rw [mkB_size]; cases l with | nil => exact absurd rfl hne | cons a r => simp)] at hse
        obtain ⟨D, hDD⟩ : ∃ D, mkB l = D := ⟨_, rfl⟩
        have hsD : D.size ≤ 19 := by rw [← hDD, mkB_size]; exact hll
        have HCAT := Lib.hid (show s ++ ⟨#[59, 88, 45, 79, 116, 104, 101, 114, 61, 49, 59, 32, 109, 97, 120, 45, 97, 103, 101, 32, 61, 32]⟩ ++ D ++ ⟨#[32]⟩ = mkB (s.data.toList ++ lastB (decDigits N)) from by
          rw [← hDD, ← dig_end hD rfl hne]
          exact cat_last s l)
        rw [hDD] at hse
        have d0 : D.toList.isEmpty = false := by simpa using hse
        rw [hDD]
        have hTX : (mkB (s.data.toList ++ lastB (decDigits N))).size ≤ 1000000 := by rw [← HCAT.out]; simp [ByteArray.size_append]; have : (⟨#[59, 88, 45, 79, 116, 104, 101, 114, 61, 49, 59, 32, 109, 97, 120, 45, 97, 103, 101, 32, 61, 32]⟩ : ByteArray).size = 22 := rfl; have : (⟨#[32]⟩ : ByteArray).size = 1 := rfl; omega
        have HTR := Lib.hid (HT0.out.below HBR.out)
        have HKR := Lib.hid (HK0.out.below HBR.out HK0.out.lt)
        clear hc hD hDD hse hne hll
        go_wp2_with fail
        rw [HCAT.out]
        refine (parse_any _ wr hTX HTR.out.m).mono ?_
        rintro e w3 h3
        rw [HPL.out] at h3
        obtain ⟨rfl, hb3⟩ := h3
        unfold Ck.val Ck.cells
        dsimp only
        have hk3 := HKR.out.below hb3 HKR.out.lt
        have HB3 := Lib.hid (HB0.out.trans ((HBR.out.trans (hb3.mono HBR.out.size)).mono HB0.out.size))
        have q0 := hk3.cell 0
        have q1 := hk3.cell 1
        have q2 := hk3.cell 2
        have q3 := hk3.cell 3
        have q4 := hk3.cell 4
        have q5 := hk3.cell 5
        have q6 := hk3.cell 6
        simp at q0 q1 q2 q3 q4 q5 q6
        have f3 := hk3.frozen 3
        have hlt3 := hk3.lt
        have hw2 := HB2.out.size
        have heq := eq_ck cn cv cp (N : Int) cs ch ci
        clear hk3 hb3
        go_wp2_with fail
        go_ret
        exact ⟨rfl, (HB3.out.setCell (p := ⟨w2.heap.size, 3, none⟩) hw2 _).alloc (by have := HB3.out.size; simpa [World.setCell] using this) _⟩
end Go.Proofs.YticlnjfndjnfhaaDoor.wBakeLast
