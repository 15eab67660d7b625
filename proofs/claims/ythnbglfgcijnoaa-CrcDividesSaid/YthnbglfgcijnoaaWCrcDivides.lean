/- The walk of the law CrcDivides: it returns true; nothing that was there is written. -/
import Derived.Test.YthnbglfgcijnoaaRefSum
namespace Go.Proofs.Ythnbglfgcijnoaa.wCrcDivides
open Go.RowKit Go.Proofs.Ythnbglfgcijnoaa.base Go.Proofs.Ythnbglfgcijnoaa.num Go.Proofs.Ythnbglfgcijnoaa.crc

theorem sumI_nat (cs : List Nat) : ∀ s : Nat, (cs.map fun (c : Nat) => (c : Int)).foldl stepI (s : Int) = ((cs.foldl stepN s : Nat) : Int) := by
  induction cs with
  | nil => intro s; rfl
  | cons c cs ih => intro s; rw [List.map_cons, List.foldl_cons, List.foldl_cons, ← ih]; rfl
set_option maxHeartbeats 1000000 in
theorem walk (v0 : Value) (w : World) (a0 : Arg Try.prog w 22 v0) :
    Calls Try.prog 3 #[v0] w fun e w' => e = .returned (.bool true) ∧ Below w.heap.size w w' := by
  obtain ⟨A, len, cap, zs, rfl, hl, hm, hlen, hwf, hr, _⟩ := a0.ints Try.underlying22 Try.underlying5 (by kernel_rfl)
  have hzs : ∀ c ∈ zs, 0 ≤ c ∧ c ≤ 255 := fun c h => bounds_u8 (hwf c h)
  obtain ⟨cs, hcs, hcb⟩ : ∃ cs : List Nat, zs = cs.map (fun (c : Nat) => (c : Int)) ∧ ∀ c ∈ cs, c < 256 := by
    refine ⟨zs.map Int.toNat, ?_, ?_⟩
    · rw [List.map_map]
      conv => lhs; rw [← List.map_id zs]
      refine List.map_congr_left fun c hc => ?_
      have := hzs c hc
      simp; omega
    · intro c hc
      obtain ⟨z, hz, rfl⟩ := List.mem_map.1 hc
      have := hzs z hz
      omega
  have hsum : sumI zs = ((cs.foldl stepN 0 : Nat) : Int) := by rw [hcs]; exact sumI_nat cs 0
  have Hsum := Lib.hid hsum; clear hsum
  have Hcs := Lib.hid hcs; clear hcs
  have Hlen := Lib.hid hlen; clear hlen
  have Hr := Lib.hid hr; clear hr
  clear hwf a0
  unfold maxLen at hm
  by_cases hbig : 2000 < len
  · have hd : decide ((2000 : Int) < len) = true := by simp; omega
    go_enter Try.func3, Try.ntmps3
    go_wp2_with (go_at_call 7; refine (awake_any _).mono ?_; rintro e w1 ⟨rfl, hb1⟩)
    go_ret
    exact ⟨rfl, hb1⟩
  · have hd : decide ((2000 : Int) < len) = false := by simp; omega
    go_enter Try.func3, Try.ntmps3
    go_wp2_with fail
    refine (awake_any _).mono ?_
    rintro e w1 ⟨rfl, hb1⟩
    have Hr1 := Lib.hid (Hr.out.below hb1)
    go_wp2_with fail
    refine (sum_any A len cap zs _ Hlen.out (by unfold maxLen; omega) (by exact Hr1.out.more hb1.size) hzs).mono ?_
    rintro e w2 ⟨rfl, rfl⟩
    rw [Hsum.out]
    go_wp2_with fail
    refine (refsum.sum_any A len cap cs _ (by rw [← Hlen.out, Hcs.out]; simp) (by omega) (by
      have := Hr1.out.more hb1.size
      rw [Hcs.out, List.map_map] at this
      exact this) hcb).mono ?_
    rintro e w3 ⟨rfl, hb3⟩
    go_wp2
    go_ret
    exact ⟨ret_bool (by simp), hb1.trans (hb3.mono hb1.size)⟩
end Go.Proofs.Ythnbglfgcijnoaa.wCrcDivides
