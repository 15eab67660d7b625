/- The walks of a user's home. -/
import Derived.Test.YtojmnkcncjconaaRefSum
import Derived.Test.YtojmnkcncjconaaList
import Derived.Laws.IdiomStrings
namespace Go.Proofs.Ytojmnkcncjconaa.home
open Go.RowKit Go.Proofs.Ytojmnkcncjconaa.base Go.Proofs.Ytojmnkcncjconaa.num Go.Proofs.Ytojmnkcncjconaa.crc

theorem sumI_nat (cs : List Nat) : ∀ s : Nat, (cs.map fun (c : Nat) => (c : Int)).foldl stepI (s : Int) = ((cs.foldl stepN s : Nat) : Int) := by
  induction cs with
  | nil => intro s; rfl
  | cons c cs ih => intro s; rw [List.map_cons, List.foldl_cons, List.foldl_cons, ← ih]; rfl
def nats (u : ByteArray) : List Nat := u.data.toList.map UInt8.toNat
def crcN (u : ByteArray) : Nat := (nats u).foldl stepN 0
theorem crcN_lt (u : ByteArray) : crcN u < 4294967296 := by
  have h := sumI_bd (l := (nats u).map fun (c : Nat) => (c : Int)) (by
    intro c hc
    simp only [nats, List.mem_map] at hc
    obtain ⟨n, ⟨b, _, rfl⟩, rfl⟩ := hc
    have := b.toNat_lt
    omega)
  have h2 := sumI_nat (nats u) 0
  unfold sumI at h
  simp only [Int.natCast_zero] at h2
  rw [h2] at h
  unfold crcN
  omega
theorem nats_len (u : ByteArray) : (nats u).length = u.size := by simp [nats]
theorem reads_bytes (u : ByteArray) (w : World) (cap : Nat) (t : TypeId) (fr : Nat × Nat) : Reads (w.alloc (.cells (bytesRow u cap) t fr)) (w.alloc (.cells (bytesRow u cap) t fr)).heap.size 1 (some ⟨w.heap.size, 0, none⟩) u.size ((nats u).map fun (c : Nat) => Value.int .u8 (c : Int)) := by
  refine ⟨by simp [nats_len], fun _ => ⟨w.heap.size, 0, rfl, by simp, fun j hj => ?_⟩⟩
  rw [cell_of_row _ w.heap.size (0 + j) _ t fr (heap_alloc_new w _)]
  simp only [List.length_map, nats_len] at hj
  have hj2 : j < u.data.size := hj
  simp [bytesRow, nats, Array.getElem?_append, hj]
theorem emod_small (s : Nat) (n : Int) (hn : 1 ≤ n) : (s : Int) % n ≤ s := by
  rcases (by omega : (s : Int) < n ∨ n ≤ s) with h | h
  · rw [Int.emod_eq_of_lt (by omega) h]; exact Int.le_refl _
  · have := Int.emod_lt_of_pos (s : Int) (show 0 < n by omega); omega
def homeI' (u : ByteArray) (n : Int) : Int := (crcN u : Int) % n + 1
theorem homeI_bd (u : ByteArray) (n : Int) (hn : 1 ≤ n) : 1 ≤ homeI' u n ∧ homeI' u n ≤ n := by
  have h1 := Int.emod_nonneg (crcN u : Int) (show n ≠ 0 by omega)
  have h2 := Int.emod_lt_of_pos (crcN u : Int) (show 0 < n by omega)
  unfold homeI'
  omega
def homeI (u : ByteArray) (n : Int) : Int := if n < 1 then 0 else (crcN u : Int) % n + 1
set_option maxHeartbeats 800000 in
theorem home_any (u : ByteArray) (n : Int) (w : World) (hu : u.size ≤ 1000) :
    Calls Try.prog 9 #[.string u, .int .i64 n] w fun e w' => e = .returned (.int .i64 (homeI u n)) ∧ Below w.heap.size w w' := by
  by_cases hn : n < 1
  · have hh : homeI u n = 0 := if_pos hn
    rw [hh]
    clear hh
    go_enter Try.func9, Try.ntmps9
    go_wp2
    go_ret
    exact ⟨rfl, .refl _ _⟩
  · have hh : homeI u n = (crcN u : Int) % n + 1 := if_neg hn
    rw [hh]
    clear hh
    have hr := reads_bytes u w.drew (grownCap w u.size 0 5) 5 ((bytesRow u (grownCap w u.size 0 5)).size, (bytesRow u (grownCap w u.size 0 5)).size + 1)
    have hm : (nats u).map (fun (c : Nat) => Value.int .u8 (c : Int)) = ((nats u).map fun (c : Nat) => (c : Int)).map (Value.int .u8) := by simp
    have hs : sumI ((nats u).map fun (c : Nat) => (c : Int)) = crcN u := sumI_nat (nats u) 0
    have hb : ∀ c ∈ (nats u).map (fun (c : Nat) => (c : Int)), 0 ≤ c ∧ c ≤ 255 := by
      intro c hc
      simp only [nats, List.mem_map] at hc
      obtain ⟨n, ⟨b, _, rfl⟩, rfl⟩ := hc
      have := b.toNat_lt
      omega
    rw [hm] at hr
    have hc := sum_any _ u.size (grownCap w u.size 0 5) _ _ (by simp [nats_len]) (by unfold maxLen; omega) hr hb
    rw [hs] at hc
    have hcb := crcN_lt u
    have hbb := below_new w.drew (.cells (bytesRow u (grownCap w u.size 0 5)) 5 ((bytesRow u (grownCap w u.size 0 5)).size, (bytesRow u (grownCap w u.size 0 5)).size + 1))
    have hbb := below_ofDrew hbb
    have kb := run_bytes_of_string (P := Try.prog) w 9 60 5 u Try.underlying9 Try.underlying60 Try.underlying5
    have Hc := Lib.hid hc
    have Hbb := Lib.hid hbb
    clear hr hm hs hb hc hbb
    generalize crcN u = s at *
    generalize hW : w.drew.alloc (.cells (bytesRow u (grownCap w u.size 0 5)) 5 ((bytesRow u (grownCap w u.size 0 5)).size, (bytesRow u (grownCap w u.size 0 5)).size + 1)) = W at *
    clear hW
    go_enter Try.func9, Try.ntmps9
    go_wp2_with fail
    refine (Hc.out).mono ?_
    rintro e w1 ⟨rfl, rfl⟩
    have h1 := emod_small s n (by omega)
    have h2 : 0 ≤ (s : Int) % n := Int.emod_nonneg _ (by omega)
    go_wp2
    go_ret
    exact ⟨rfl, Hbb.out⟩
set_option maxHeartbeats 800000 in
theorem home_ref (u : ByteArray) (n : Int) (w : World) (hu : u.size ≤ 1000) :
    Calls Try.prog 10 #[.string u, .int .i64 n] w fun e w' => e = .returned (.int .i64 (homeI u n)) ∧ Below w.heap.size w w' := by
  by_cases hn : n < 1
  · have hh : homeI u n = 0 := if_pos hn
    rw [hh]
    clear hh
    go_enter Try.func10, Try.ntmps10
    go_wp2
    go_ret
    exact ⟨rfl, .refl _ _⟩
  · have hh : homeI u n = (crcN u : Int) % n + 1 := if_neg hn
    rw [hh]
    clear hh
    have hr := reads_bytes u w.drew (grownCap w u.size 0 5) 5 ((bytesRow u (grownCap w u.size 0 5)).size, (bytesRow u (grownCap w u.size 0 5)).size + 1)
    have hb : ∀ c ∈ nats u, c < 256 := by
      intro c hc
      simp only [nats, List.mem_map] at hc
      obtain ⟨b, _, rfl⟩ := hc
      exact b.toNat_lt
    have hc := refsum.sum_any _ u.size (grownCap w u.size 0 5) _ _ (nats_len u) (by omega) hr hb
    have hcb := crcN_lt u
    unfold crcN at hcb ⊢
    have hbb := below_new w.drew (.cells (bytesRow u (grownCap w u.size 0 5)) 5 ((bytesRow u (grownCap w u.size 0 5)).size, (bytesRow u (grownCap w u.size 0 5)).size + 1))
    have hbb := below_ofDrew hbb
    have kb := run_bytes_of_string (P := Try.prog) w 9 60 5 u Try.underlying9 Try.underlying60 Try.underlying5
    have Hc := Lib.hid hc
    have Hbb := Lib.hid hbb
    clear hr hb hc hbb
    generalize (nats u).foldl stepN 0 = s at *
    generalize hW : w.drew.alloc (.cells (bytesRow u (grownCap w u.size 0 5)) 5 ((bytesRow u (grownCap w u.size 0 5)).size, (bytesRow u (grownCap w u.size 0 5)).size + 1)) = W at *
    clear hW
    go_enter Try.func10, Try.ntmps10
    go_wp2_with fail
    refine (Hc.out).mono ?_
    rintro e w1 ⟨rfl, hb1⟩
    have h1 := emod_small s n (by omega)
    have h2 : 0 ≤ (s : Int) % n := Int.emod_nonneg _ (by omega)
    have hb2 := Lib.hid (below_step Hbb.out hb1)
    go_wp2
    go_ret
    exact ⟨rfl, hb2.out⟩
end Go.Proofs.Ytojmnkcncjconaa.home
