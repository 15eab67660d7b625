/- The walk of the law CrcTells: it returns true; nothing that was there is written. -/
import Derived.Test.YthnbglfgcijnoaaCrc
import Derived.Deep.QuietTactic
import Derived.BigQuiet
namespace Go.Proofs.Ythnbglfgcijnoaa.wCrcTells
open Go.RowKit Go.Proofs.Ythnbglfgcijnoaa.base Go.Proofs.Ythnbglfgcijnoaa.num Go.Proofs.Ythnbglfgcijnoaa.crc

theorem u8_info : (Try.prog.info? 5).map (fun i => (i.zero, i.size, i.bytes)) = some (some (.int .u8 0), 1, 1) := by kernel_rfl
/-- One byte turned turns the sum. -/
theorem sum_set (zs : List Int) (k : Nat) (x : Int) (hk : k < zs.length) (hz : ∀ c ∈ zs, 0 ≤ c ∧ c ≤ 255) (hx : 0 ≤ x ∧ x ≤ 255) (h : sumI (zs.set k x) = sumI zs) : x = zs.getD k 0 := by
  have e1 : zs.set k x = zs.take k ++ x :: zs.drop (k + 1) := List.set_eq_take_append_cons_drop.trans (if_pos hk)
  have e2 : zs = zs.take k ++ zs.getD k 0 :: zs.drop (k + 1) := by
    rw [List.getD_eq_getElem?_getD, List.getElem?_eq_getElem hk]
    simp
  unfold sumI at h
  rw [e1, List.foldl_append, List.foldl_cons] at h
  have h2 : zs.foldl stepI 0 = (zs.drop (k + 1)).foldl stepI (stepI ((zs.take k).foldl stepI 0) (zs.getD k 0)) := by
    conv => lhs; rw [e2]
    rw [List.foldl_append, List.foldl_cons]
  rw [h2] at h
  have hb : 0 ≤ (zs.take k).foldl stepI 0 ∧ (zs.take k).foldl stepI 0 ≤ 4294967295 := sumI_bd (fun c h => hz c (List.mem_of_mem_take h))
  have hg : 0 ≤ zs.getD k 0 ∧ zs.getD k 0 ≤ 255 := by
    rw [List.getD_eq_getElem?_getD, List.getElem?_eq_getElem hk]; exact hz _ (List.getElem_mem hk)
  exact stepI_inj_c hb hx hg (foldl_inj (stepI_bd hb hx) (stepI_bd hb hg) (fun c h => hz c (List.mem_of_mem_drop h)) h)
theorem sum_set' (zs : List Int) (k : Nat) (x : Int) (hk : k < zs.length) (hz : ∀ c ∈ zs, 0 ≤ c ∧ c ≤ 255) (hx : 0 ≤ x ∧ x ≤ 255) (h : sumI (zs.set k x) = sumI zs) : x = zs[k]?.getD 0 := by
  rw [← List.getD_eq_getElem?_getD]; exact sum_set zs k x hk hz hx h
theorem xor_bd {a b : Int} (ha : 0 ≤ a ∧ a ≤ 255) (hb : 0 ≤ b ∧ b ≤ 255) : (0 ≤ bits .xor .u8 a b ∧ bits .xor .u8 a b ≤ 255) ∧ (bits .xor .u8 a b = a ↔ b = 0) := by
  rw [u8_xor a b ha.1 (by omega) hb.1 (by omega)]
  have h : a.toNat ^^^ b.toNat < 2 ^ 8 := Nat.xor_lt_two_pow (by omega) (by omega)
  refine ⟨by omega, ?_⟩
  constructor
  · intro h
    have h2 : a.toNat ^^^ b.toNat = a.toNat ^^^ 0 := by simp; omega
    have := xor_cancel_left h2
    omega
  · rintro rfl
    simp; omega

set_option maxHeartbeats 1000000 in
theorem walk (v0 : Value) (v1 : Value) (v2 : Value) (w : World) (a0 : Arg Try.prog w 22 v0) (a1 : Arg Try.prog w 3 v1) (a2 : Arg Try.prog w 5 v2) :
    Calls Try.prog 5 #[v0, v1, v2] w fun e w' => e = .returned (.bool true) ∧ Below w.heap.size w w' := by
  obtain ⟨A, len, cap, zs, rfl, hl, hm, hlen, hwf, hr, _⟩ := a0.ints Try.underlying22 Try.underlying5 (by kernel_rfl)
  obtain ⟨x, rfl, hx⟩ := a1.int Try.underlying3
  obtain ⟨y, rfl, hy⟩ := a2.int Try.underlying5
  have hx := bounds_i64 hx
  have hy := bounds_u8 hy
  have hzs : ∀ c ∈ zs, 0 ≤ c ∧ c ≤ 255 := fun c h => bounds_u8 (hwf c h)
  have Hlen := Lib.hid hlen; clear hlen
  have Hr := Lib.hid hr; clear hr
  unfold maxLen at hm
  clear hwf a0 a1 a2
  by_cases hbig : 100000 < len
  · go_enter Try.func5, Try.ntmps5
    go_wp2_with (go_at_call 7; refine (awake_any _).mono ?_; rintro e w1 ⟨rfl, hb1⟩)
    go_ret
    exact ⟨rfl, hb1⟩
  by_cases hneg : x < 0
  · go_enter Try.func5, Try.ntmps5
    go_wp2_with (go_at_call 7; refine (awake_any _).mono ?_; rintro e w1 ⟨rfl, hb1⟩)
    go_ret
    exact ⟨rfl, hb1⟩
  by_cases hge : (len : Int) ≤ x
  · go_enter Try.func5, Try.ntmps5
    go_wp2_with (go_at_call 7; refine (awake_any _).mono ?_; rintro e w1 ⟨rfl, hb1⟩)
    go_ret
    exact ⟨rfl, hb1⟩
  obtain ⟨k, rfl⟩ := Int.eq_ofNat_of_zero_le (by omega : 0 ≤ x)
  have hk : k < len := by omega
  clear hneg hge hx
  have hzk : 0 ≤ zs[k]?.getD 0 ∧ zs[k]?.getD 0 ≤ 255 := by
    have : k < zs.length := by rw [Hlen.out]; exact hk
    rw [List.getElem?_eq_getElem this]
    exact hzs _ (List.getElem_mem this)
  have hone : ∀ u ∈ zs.map (Value.int .u8), u.oneCell' = true := by simp [Value.oneCell']
  obtain ⟨i0, hi, hz0, hz1, hz2⟩ := info_parts u8_info
  have d1 : decide ((100000 : Int) < len) = false := by simp; omega
  have d2 : decide ((k : Int) < 0) = false := by simp
  have d3 : decide (len ≤ k) = false := by simpa using hk
  go_enter Try.func5, Try.ntmps5
  go_wp2_with fail
  refine (awake_any _).mono ?_
  rintro e w1 ⟨rfl, hb1⟩
  have hr1 := ((Hr.out.below hb1).alloc hb1.size (.cells #[] 5))
  go_wp2_with (at_builtin; refine wpList_append_any _ rfl (.tmp 23) (.tmp 24) _ rfl (w1.heap.size) 5 i0 _ 1 1 Try.underlying22 hi hz0 hz1 hz2 rfl (by omega) (.slice (some ⟨w1.heap.size, 0, none⟩) 0 0) 0 [] rfl (ownsRow_new0 _ _ _ _) w.heap.size A len cap (zs.map (Value.int .u8)) rfl hr1 hone ?_ ?_ ?_ ?_)
  · unfold maxLen; omega
  · omega
  · simp
  · intro v2 w2 hown hg _
    have hbw2 : Below w.heap.size w w2 := (hb1.alloc hb1.size _).grown hg (by simpa using Nat.le_trans hb1.size (Nat.le_succ _)) (by simpa [Value.ownBlock] using hb1.size)
    obtain ⟨g, c2, rfl, hbg, hgs⟩ := hown.form (by omega)
    have hgw : w.heap.size ≤ g := Nat.le_trans hb1.size hbg
    have hcell : w2.cell? ⟨g, k, none⟩ = some (.int .u8 (zs[k]?.getD 0)) := by
      rw [hown.cellAt k (by omega)]
      have : k < zs.length := by rw [Hlen.out]; exact hk
      simp [List.getElem?_eq_getElem this]
    have hfr : w2.frozen? ⟨g, k, none⟩ = false := hown.frozenAt k
    have hst := (hown.stored k (.int .u8 (bits .xor .u8 (zs[k]?.getD 0) y))).1
    have hbw3 : Below w.heap.size w (w2.setCell ⟨g, k, none⟩ (.int .u8 (bits .xor .u8 (zs[k]?.getD 0) y))) := hbw2.setCell (by simpa using hgw) _
    have hx := xor_bd hzk hy
    have Hx := Lib.hid hx.2
    have hxb := hx.1
    have Hset := Lib.hid (sum_set' zs k (bits .xor .u8 (zs[k]?.getD 0) y) (by rw [Hlen.out]; exact hk) hzs hxb)
    have Hst := Lib.hid hst
    have Hbw3 := Lib.hid hbw3
    have Hr2 := Lib.hid ((Hr.out.below hbw3))
    have Hgw : Hid (w.heap.size ≤ w2.heap.size) := hbw2.size
    clear hst hbw3 hx hb1 hr1 hown hg hbw2
    have Hzs2 : Hid (∀ c ∈ zs.set k (bits .xor .u8 (zs[k]?.getD 0) y), 0 ≤ c ∧ c ≤ 255) := fun c hc => by
      rcases List.mem_or_eq_of_mem_set hc with h | h
      · exact hzs c h
      · subst h; exact hxb
    go_wp2_with fail
    refine (sum_any _ _ _ (zs.set k (bits .xor .u8 (zs[k]?.getD 0) y)) _ (by simp [Hlen.out]) (by unfold maxLen; omega) (by
      have := Reads.of_own Hst.out
      rwa [← List.map_set] at this) Hzs2.out).mono ?_
    rintro e w3 ⟨rfl, rfl⟩
    go_wp2_with fail
    refine (sum_any _ _ _ zs _ Hlen.out (by unfold maxLen; omega) (by exact Hr2.out.more (by simpa [World.setCell] using Hgw.out)) hzs).mono ?_
    rintro e w3 ⟨rfl, rfl⟩
    go_wp2
    go_ret
    refine ⟨ret_bool ?_, Hbw3.out⟩
    by_cases hy0 : y = 0
    · have e1 : bits .xor .u8 (zs[k]?.getD 0) y = zs[k]?.getD 0 := Hx.out.2 hy0
      have e2 : zs.set k (zs[k]?.getD 0) = zs := by
        have hkl : k < zs.length := by rw [Hlen.out]; exact hk
        rw [List.getElem?_eq_getElem hkl]; simp
      rw [e1, e2, hy0]; simp
    · have h1 : ¬ sumI (zs.set k (bits .xor .u8 (zs[k]?.getD 0) y)) = sumI zs := fun h => hy0 (Hx.out.1 (Hset.out h))
      have h2 : (sumI (zs.set k (bits .xor .u8 (zs[k]?.getD 0) y)) == sumI zs) = false := by simpa using h1
      have h3 : (y == 0) = false := by simpa using hy0
      rw [h2, h3]; rfl
end Go.Proofs.Ythnbglfgcijnoaa.wCrcTells
