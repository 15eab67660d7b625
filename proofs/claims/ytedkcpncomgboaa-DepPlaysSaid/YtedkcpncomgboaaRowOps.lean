/- Built-in functions on rows whose elements have several cells: copy, clear, append of so many zeros. Over any program; nothing of the program is named. -/
import Derived.Test.YtedkcpncomgboaaRowE
import Derived.ArgAppend
import Derived.Deep.AppendSrc
namespace Go.Proofs.Ytedkcpncomgboaa.rowops
open Go.RowKit Go.Proofs.Ytedkcpncomgboaa.base Go.Proofs.Ytedkcpncomgboaa.rowe

section
variable {P : Program} {w : World}
/-- copy into a row of one's own, the source wherever -/
theorem run_copy_rows (dT sT ty elem : TypeId) (size g o dLen dCap : Nat) (a : Addr) (sLen sCap : Nat) (cur : Array Value) (t : TypeId) (cs : List Value)
    (hu : P.underlying dT = some (.slice elem)) (hs : (P.info? elem).map (·.size) = some size)
    (hg : w.heap[g]? = some (.cells cur t (0, 0))) (hn : cs.length = Nat.min sLen dLen * size)
    (hsrc : ∀ j v, cs[j]? = some v → w.cell? (a.add j) = some v) (hfit : o + cs.length ≤ cur.size) (h1 : ∀ v ∈ cs, v.oneCell' = true) :
    (Builtin.copy_ #[dT, sT] ty #[.slice (some ⟨g, o, none⟩) dLen dCap, .slice (some a) sLen sCap]).run P w =
      .ok (goInt (Nat.min sLen dLen : Nat)) (w.setRow g (putAt cur.toList o cs).toArray) := by
  have hl := run_loadCells_list (P := P) w a cs hsrc
  have hst := run_storeCells_at P g o t cs 0 cur w hg (by simpa using hfit) h1
  cases hq : P.info? elem with
  | none => simp [hq] at hs
  | some i =>
    have hi : i.size = size := by simpa [hq] using hs
    simp [Builtin.copy_, run_underlying hu, Builtin.lenOf, Builtin.firstCells, sizeOf, typeInfo, hq, hi, ← hn, hl, hst, putAt]
theorem zeros_len (z : Array Value) (n : Nat) : (Builtin.zeroCells z n).toList.length = n * z.size := by simp [Builtin.zeroCells]
theorem zeros_mem {z : Array Value} {n : Nat} {v : Value} (hz : 0 < z.size) (h : v ∈ (Builtin.zeroCells z n).toList) : v ∈ z.toList := by
  simp only [Builtin.zeroCells, Array.toList_map, List.mem_map] at h
  obtain ⟨i, _, rfl⟩ := h
  have hlt : i % z.size < z.size := Nat.mod_lt _ hz
  rw [getElem!_pos z (i % z.size) hlt]
  simp
/-- clear a part of a row of one's own -/
theorem run_clear_rows (t e ty : TypeId) (z : Value) (ht : P.underlying t = some (.slice e)) (hv : (zeroValue e).run P w = .ok z w) (hz0 : 0 < z.cells.size) (h1 : ∀ v ∈ z.cells.toList, v.oneCell' = true)
    (g o n c : Nat) (cur : Array Value) (hn : 0 < n) (hg : w.heap[g]? = some (.cells cur e (0, 0))) (hfit : o + n * z.cells.size ≤ cur.size) :
    (Builtin.clear_ #[t] ty #[.slice (some ⟨g, o, none⟩) n c]).run P w = .ok (.tuple #[]) (w.setRow g (putAt cur.toList o (Builtin.zeroCells z.cells n).toList).toArray) := by
  have hst := run_storeCells_at P g o e (Builtin.zeroCells z.cells n).toList 0 cur w hg (by rw [zeros_len]; simpa using hfit) (fun v hv => h1 v (zeros_mem hz0 hv))
  simp only [Nat.add_zero] at hst
  obtain ⟨m, rfl⟩ : ∃ m, n = m + 1 := ⟨n - 1, by omega⟩
  simp [Builtin.clear_, run_underlying ht, hv, hst, putAt]
/-- append(s, make([]E, m)...), where there is no room: a new row -/
theorem run_append_zeros_grow (t tn ty e : TypeId) (i : TypeInfo) (z : Value) (size bytes : Nat) (k kn : IntKind) (ht : P.underlying t = some (.slice e)) (htn : P.underlying tn = some (.int kn)) (hi : P.info? e = some i) (hz : i.zero = some z)
    (hsize : i.size = size) (hby : i.bytes = bytes) (hzs : z.cells.size = size) (hsz : 0 < size)
    (b : Addr) (n cap : Nat) (olds : List Value) (hlo : olds.length = n * size) (holds : ∀ j u, olds[j]? = some u → w.cell? (b.add j) = some u)
    (m : Nat) (hm : 0 < m) (hg : cap < n + m) (h63 : n + m ≤ maxLen) (hbytes : (n + m) * bytes ≤ 140737488355328) :
    ∃ c' cur, (Builtin.append_ #[t, tn] ty #[.slice (some b) n cap, .int k m]).run P w = .ok (.slice (some ⟨w.heap.size, 0, none⟩) (n + m) c') (w.drew.alloc (.cells cur e)) ∧
      cur.size = c' * size ∧ n + m ≤ c' ∧ c' ≤ maxLen ∧ cur.toList.take (n * size) = olds := by
  subst hsize
  subst hby
  have hsmall : n + m ≤ 9223372036854775807 := by simp only [maxLen] at h63; omega
  have hge := grownCap_ge w (n + m) cap e
  have hcm : grownCap w (n + m) cap e ≤ maxLen := grownCap_le_maxLen w (n + m) cap e h63
  have hfit : Builtin.nextslicecap (n + m) cap * i.bytes ≤ 281474976710656 := growslice_fits hg hbytes
  have hold := run_firstCells_some (P := P) w.drew i.size n b n cap olds hlo (by simpa using holds)
  have hmi : m ≠ 0 := by omega
  have hsi : i.size ≠ 0 := by omega
  have hw : IntKind.i64.wrap (m : Int) = m := by rw [IntKind.wrap_i64]; omega
  have hm0 : ¬ ((m : Int) < 0) := by omega
  have hmx : max (m : Int) 0 = m := by omega
  have hnr : ¬ (n + m ≤ cap) := by omega
  have h63' : ¬ (9223372036854775807 < ((n : Int) + (m : Int))) := by omega
  have h48' : ¬ (281474976710656 < Builtin.nextslicecap (n + m) cap * i.bytes) := by omega
  have h48i : ¬ (281474976710656 < (m : Int) * (i.bytes : Int)) := by
    rw [← Int.natCast_mul]
    have : m * i.bytes ≤ (n + m) * i.bytes := Nat.mul_le_mul_right _ (by omega)
    omega
  refine ⟨grownCap w (n + m) cap e, (olds ++ (Builtin.zeroCells z.cells m).toList).toArray ++ Builtin.zeroCells z.cells (grownCap w (n + m) cap e - (n + m)), ?_, ?_, hge, hcm, ?_⟩
  · simp [Builtin.append_, asInt, asIntOf, hm0, hmx, run_underlying ht, run_underlying htn, sizeOf, typeInfo, zeroValue, hi, hz, hw, hnr, h63', h48', h48i, Question.forced, hold, newRow, grownCap]
    rw [if_neg (Nat.mul_ne_zero hmi hsi)]
    congr 3
    apply Array.ext'
    simp [List.append_assoc]
  · simp only [Array.size_append, List.size_toArray, List.length_append, zeros_len, size_zeroCells, hzs, hlo, ← Nat.add_mul]
    congr 1
    omega
  · rw [← hlo]
    simp
end
end Go.Proofs.Ytedkcpncomgboaa.rowops
