/- A text with small letters. -/
import Derived.Test.YticlnjfndjnfhaaDoorUntilW
import Derived.Laws.IdiomStrings
namespace Go.Proofs.YticlnjfndjnfhaaDoor.bake
open Go Go.RowKit Go.Proofs.YticlnjfndjnfhaaDoor.base Go.Proofs.YticlnjfndjnfhaaDoor.dec

def lowC (c : UInt8) : UInt8 := if 65 ≤ c.toNat ∧ c.toNat ≤ 90 then UInt8.ofNat (c.toNat + 32) else c
def lowL (l : List UInt8) : List UInt8 := l.map lowC
theorem lowC_big {c : UInt8} (h : 65 ≤ c.toNat ∧ c.toNat ≤ 90) : ((lowC c).toNat : Int) = (c.toNat : Int) + 32 := by
  unfold lowC
  rw [if_pos h, UInt8.toNat_ofNat']
  omega
theorem lowC_small {c : UInt8} (h : ¬ (65 ≤ c.toNat ∧ c.toNat ≤ 90)) : lowC c = c := by
  unfold lowC
  rw [if_neg h]
/-- The bytes of a text in memory, the first k of them with small letters. -/
def LowI (s : ByteArray) (g k : Nat) (w wr : World) : Prop :=
  Below w.heap.size w wr ∧ w.heap.size ≤ g ∧ g < wr.heap.size ∧
  (∀ j (h : j < s.size), wr.cell? ⟨g, j, none⟩ = some (.int .u8 (if j < k then (lowC s[j]).toNat else s[j].toNat : Nat))) ∧
  (∀ j, j < s.size → wr.frozen? ⟨g, j, none⟩ = false)
theorem row_at (s : ByteArray) (cap : Nat) {j : Nat} (h : j < s.size) : (bytesRow s cap)[j]? = some (.int .u8 (s[j].toNat : Nat)) := by
  have h2 : j < s.data.size := h
  unfold bytesRow
  rw [Array.getElem?_append_left (by simpa using h2), Array.getElem?_map, Array.getElem?_eq_getElem h2]
  rfl
theorem low_start {s : ByteArray} {cap : Nat} {C : Array Value} {w : World} (hC : bytesRow s cap = C) : LowI s w.heap.size 0 w (w.alloc (.cells C 5 (C.size, C.size + 1))).drew := by
  subst hC
  refine ⟨(below_new w _).drew, Nat.le_refl _, by simp, ?_, ?_⟩
  · intro j hj
    rw [if_neg (Nat.not_lt_zero j), World.cell?_drew, World.cell?_alloc_mark, row_at s cap hj]
  · intro j hj
    have hn : j < (bytesRow s cap).size := by
      have := row_at s cap hj
      exact (Array.getElem?_eq_some_iff.1 this).1
    show (w.alloc _).frozen? _ = false
    rw [World.frozen?_alloc_mark]
    simp
    omega
theorem low_next {s : ByteArray} {g k : Nat} {w wr : World} {x : Int} (h : LowI s g k w wr) (hk : k < s.size) (hx : x = ((lowC s[k]).toNat : Int)) : LowI s g (k + 1) w (wr.setCell ⟨g, k, none⟩ (.int .u8 x)) := by
  obtain ⟨h1, h2, h3, h4, h5⟩ := h
  refine ⟨h1.setCell h2 _, h2, by simpa [World.setCell] using h3, ?_, fun j hj => by rw [World.frozen?_setCell]; exact h5 j hj⟩
  intro j hj
  by_cases e : j = k
  · subst e
    rw [World.cell?_setCell_same _ _ _ (h4 j hj), if_pos (by omega), hx]
  · rw [World.cell?_setCell_other _ _ _ _ (fun he => by injection he with _ he2; exact e he2.symm), h4 j hj]
    by_cases hjk : j < k
    · rw [if_pos hjk, if_pos (by omega)]
    · rw [if_neg hjk, if_neg (by omega)]
theorem low_skip {s : ByteArray} {g k : Nat} {w wr : World} (h : LowI s g k w wr) (hk : k < s.size) (hx : lowC s[k] = s[k]) : LowI s g (k + 1) w wr := by
  obtain ⟨h1, h2, h3, h4, h5⟩ := h
  refine ⟨h1, h2, h3, ?_, h5⟩
  intro j hj
  by_cases e : j = k
  · subst e
    rw [h4 j hj, if_neg (by omega), if_pos (by omega), hx]
  · rw [h4 j hj]
    by_cases hjk : j < k
    · rw [if_pos hjk, if_pos (by omega)]
    · rw [if_neg hjk, if_neg (by omega)]
theorem low_end {s : ByteArray} {g cap : Nat} {w wr : World} (h : LowI s g s.size w wr) : (convert 30 9 (.slice (some ⟨g, 0, none⟩) s.size cap)).run Tryd.prog wr = .ok (.string (mkB (lowL s.data.toList))) wr := by
  obtain ⟨h1, h2, h3, h4, h5⟩ := h
  have hl : (lowL s.data.toList).length = s.size := by unfold lowL; rw [List.length_map]; rfl
  rw [← hl]
  refine run_convert_bytes_back wr 30 9 5 ⟨g, 0, none⟩ cap (lowL s.data.toList) Tryd.underlying30 Tryd.underlying5 Tryd.underlying9 ?_
  intro j hj
  have hj2 : j < s.size := by omega
  have h6 := h4 j hj2
  rw [if_pos hj2] at h6
  have h7 : (lowL s.data.toList)[j] = lowC s[j] := by simp [lowL]; rfl
  rw [h7, ← h6]
  simp [Addr.add]
  split
  · rename_i e; rw [e]
  · rfl
set_option maxHeartbeats 3200000 in
theorem lower_any (s : ByteArray) (w : World) (hs : s.size ≤ 1000000) : Calls Tryd.prog 16 #[.string s] w fun e w' => e = .returned (.string (mkB (lowL s.data.toList))) ∧ Below w.heap.size w w' := by
  have hconv := run_bytes_of_string (P := Tryd.prog) w 9 30 5 s Tryd.underlying9 Tryd.underlying30 Tryd.underlying5
  generalize hcap : grownCap w s.size 0 5 = cap at hconv
  generalize hC : bytesRow s cap = C at hconv
  have HC := Lib.hid hC
  clear hC hcap
  go_enter Tryd.func16, Tryd.ntmps16
  go_wp2_with fail
  go_loopw [10] (fun x wr => ∃ k : Nat, k ≤ s.size ∧ x = .int .i64 k ∧ LowI s w.heap.size k w wr) (fun x _ => s.size - (intOf x).toNat)
  case atStart => exact ⟨0, by omega, rfl, low_start HC.out⟩
  case round =>
    obtain ⟨k, hk, rfl, hI⟩ := hrel
    have HI := Lib.hid hI
    by_cases h0 : k < s.size
    · have hc := hI.2.2.2.1 k h0
      rw [if_neg (Nat.lt_irrefl k)] at hc
      have hf := hI.2.2.2.2 k h0
      have h256 : s[k].toNat < 256 := s[k].toNat_lt
      clear hI
      by_cases hb : 65 ≤ s[k].toNat ∧ s[k].toNat ≤ 90
      · have d1 : decide ((65 : Int) ≤ (s[k].toNat : Int)) = true := by simp; omega
        have d2 : decide ((s[k].toNat : Int) ≤ 90) = true := by simp; omega
        have HB := Lib.hid (lowC_big hb)
        have HB2 := Lib.hid hb
        clear hb
        go_wp2_with fail
        go_round
        case rel => exact ⟨k + 1, by omega, by go_num, low_next HI.out h0 (by rw [HB.out]; have := HB2.out; omega)⟩
        case measure => simp [intOf]; omega
      · have HB := Lib.hid (lowC_small hb)
        by_cases h65 : 65 ≤ s[k].toNat
        · have d1 : decide ((65 : Int) ≤ (s[k].toNat : Int)) = true := by simp; omega
          have d2 : decide ((s[k].toNat : Int) ≤ 90) = false := by simp; omega
          clear hb
          go_wp2_with fail
          go_round
          case rel => exact ⟨k + 1, by omega, by go_num, low_skip HI.out h0 HB.out⟩
          case measure => simp [intOf]; omega
        · have d1 : decide ((65 : Int) ≤ (s[k].toNat : Int)) = false := by simp; omega
          clear hb
          go_wp2_with fail
          go_round
          case rel => exact ⟨k + 1, by omega, by go_num, low_skip HI.out h0 HB.out⟩
          case measure => simp [intOf]; omega
    · obtain rfl : k = s.size := by omega
      have hback := low_end (cap := cap) hI
      clear hI
      go_wp2_with fail
      go_ret
      exact ⟨rfl, HI.out.1⟩
end Go.Proofs.YticlnjfndjnfhaaDoor.bake
