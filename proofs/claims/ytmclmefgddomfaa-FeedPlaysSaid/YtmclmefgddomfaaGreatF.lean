/- The law's own great. -/
import Derived.Test.YtmclmefgddomfaaPlayF
namespace Go.Proofs.Ytmclmefgddomfaa.feed
open Go.RowKit Go.Proofs.Ytmclmefgddomfaa.base Go.Proofs.Ytmclmefgddomfaa.rowe Go.Proofs.Ytmclmefgddomfaa.err Go.Proofs.Ytmclmefgddomfaa.wire Go.Proofs.Ytmclmefgddomfaa.monoj

def bigW (x : Wr) : Bool := decide (100 < x.z.length) || (decide (1000 < x.se.size) || (decide (1000 < x.k.size) || decide (1000 < x.v.size)))
def greatW (L : List Wr) : Bool := decide (100 < L.length) || L.any bigW
/-- as RW, but for the numbers' count -/
def RA (w : World) (v : Value) (L : List Wr) : Prop := ∃ A c, v = .slice A L.length c ∧ L.length ≤ maxLen ∧ L.length ≤ c ∧ Reads w w.heap.size 10 A L.length (L.flatMap Wr.cells) ∧ ∀ x ∈ L, Nums w w.heap.size x.d x.z
theorem RA.rw {w : World} {v : Value} {L : List Wr} (h : RA w v L) (hg : greatW L = false) : RW w v L := by
  obtain ⟨A, c, h1, _, h3, h4, h5⟩ := h
  unfold greatW at hg
  simp only [Bool.or_eq_false_iff, decide_eq_false_iff_not, List.any_eq_false, Bool.not_eq_true] at hg
  refine ⟨A, c, h1, by omega, h3, h4, fun x hx => ⟨h5 x hx, ?_⟩⟩
  have := hg.2 x hx
  unfold bigW at this
  simp only [Bool.or_eq_false_iff, decide_eq_false_iff_not] at this
  omega
theorem RA.below {w w' : World} {v : Value} {L : List Wr} (h : RA w v L) (hb : Below w.heap.size w w') : RA w' v L := by
  obtain ⟨A, c, h1, h2, h3, h4, h5⟩ := h
  exact ⟨A, c, h1, h2, h3, (h4.below hb).more hb.size, fun x hx => ((h5 x hx).below hb).more hb.size⟩
set_option maxRecDepth 100000 in
set_option maxHeartbeats 1000000 in
theorem great_any (v : Value) (L : List Wr) (w : World) (h : RA w v L) : Calls Try.prog 18 #[v] w fun e w' => e = .returned (.bool (greatW L)) ∧ Below w.heap.size w w' := by
  obtain ⟨A, c, rfl, hm, hlc, hr, hn⟩ := h
  obtain ⟨m, hml⟩ : ∃ m, L.length = m := ⟨_, rfl⟩
  rw [hml] at hm hlc hr ⊢
  unfold maxLen at hm
  have Hr := Lib.hid hr
  have Hn := Lib.hid hn
  have Hml := Lib.hid hml
  clear hr hn hml
  by_cases hbig : 100 < m
  · have d1 : decide ((100 : Int) < (m : Int)) = true := by simp; omega
    have HF := Lib.hid (show greatW L = true by unfold greatW; rw [Hml.out, decide_eq_true hbig]; rfl)
    go_enter Try.func18, Try.ntmps18
    go_wp2
    go_ret
    exact ⟨ret_bool HF.out.symm, Below.refl _ _⟩
  · have d1 : decide ((100 : Int) < (m : Int)) = false := by simp; omega
    have HG := Lib.hid (show greatW L = (L.drop 0).any bigW by unfold greatW; rw [Hml.out, decide_eq_false hbig]; rfl)
    go_enter Try.func18, Try.ntmps18
    go_wp2
    go_loopw [4, 10] (fun _ i wr' => ∃ k : Nat, k ≤ m ∧ i = .int .i64 k ∧ greatW L = (L.drop k).any bigW ∧ Below w.heap.size w wr') (fun _ i _ => m - (intOf i).toNat)
    case atStart => exact ⟨0, by omega, rfl, HG.out, Below.refl _ _⟩
    case round =>
      clear HG
      obtain ⟨k, hk, rfl, hg, hb⟩ := hrel
      have hsz := hb.size
      by_cases hlt : k < m
      · obtain ⟨b, off, rfl, hbb⟩ := Hr.out.at_some (by omega)
        have hkl : k < L.length := by rw [Hml.out]; exact hlt
        rw [List.drop_eq_getElem_cons hkl, List.any_cons] at hg
        obtain ⟨e0, e1, e2, e3, e4, e5, e6, e7, e8, e9⟩ := ten_at (elem_at (Hr.out.below hb) hlt Hml.out)
        have hd := Hn.out _ (List.getElem_mem hkl)
        generalize L[k] = x at *
        obtain ⟨r, n, t, s, d, zs, se, kk, v, g, l⟩ := x
        dsimp only at e0 e1 e2 e3 e4 e5 e6 e7 e8 e9 hd
        obtain ⟨Ad, md, cd, rfl, hzl, _, _⟩ := hd
        have hb2 := Lib.hid (hb.alloc hsz (.cells #[.int .i64 r, .int .i64 n, .int .i64 t, .int .i64 s, .slice Ad md cd, .string se, .string kk, .string v, .bool g, .int .i64 l] 35))
        unfold bigW at hg
        dsimp only at hg
        rw [hzl] at hg
        have Hg := Lib.hid hg
        clear hg hb hzl
        cases g1 : decide ((100 : Int) < (md : Int)) with
        | true =>
          have HT := Lib.hid (show greatW L = true by rw [Hg.out, decide_eq_true (p := 100 < md) (by simp at g1; omega)]; simp)
          go_wp2
          go_ret
          exact ⟨ret_bool HT.out.symm, hb2.out⟩
        | false =>
          by_cases g2 : 1000 < se.size
          · have HT := Lib.hid (show greatW L = true by rw [Hg.out, decide_eq_true g2]; simp)
            go_wp2
            go_ret
            exact ⟨ret_bool HT.out.symm, hb2.out⟩
          · by_cases g3 : 1000 < kk.size
            · have HT := Lib.hid (show greatW L = true by rw [Hg.out, decide_eq_true g3]; simp)
              go_wp2
              go_ret
              exact ⟨ret_bool HT.out.symm, hb2.out⟩
            · by_cases g4 : 1000 < v.size
              · have HT := Lib.hid (show greatW L = true by rw [Hg.out, decide_eq_true g4]; simp)
                go_wp2
                go_ret
                exact ⟨ret_bool HT.out.symm, hb2.out⟩
              · have HT := Lib.hid (show greatW L = (L.drop (k + 1)).any bigW by rw [Hg.out, decide_eq_false g2, decide_eq_false g3, decide_eq_false g4, decide_eq_false (p := 100 < md) (by simp at g1; omega)]; rfl)
                go_wp2
                go_roundw
                case rel => exact ⟨k + 1, by omega, by go_num, HT.out, hb2.out⟩
                case measure => simp [intOf]; omega
      · obtain rfl : m = k := by omega
        have d2 : decide ((m : Int) < (m : Int)) = false := by simp
        have HT := Lib.hid (show greatW L = false by rw [hg, List.drop_eq_nil_of_le (by rw [Hml.out]; omega)]; rfl)
        have Hb := Lib.hid hb
        clear hb hg
        go_wp2
        go_ret
        exact ⟨ret_bool HT.out.symm, Hb.out⟩
end Go.Proofs.Ytmclmefgddomfaa.feed
