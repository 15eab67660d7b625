/- What drain shows, as a function. -/
import Derived.Test.YtedkcpncomgboaaOffer
namespace Go.Proofs.Ytedkcpncomgboaa.dep
open Go Go.RowKit Go.Proofs.Ytedkcpncomgboaa.base Go.Proofs.Ytedkcpncomgboaa.rowe Go.Proofs.Ytedkcpncomgboaa.wire Go.Proofs.Ytedkcpncomgboaa.vec Go.Proofs.Ytedkcpncomgboaa.cmp Go.Proofs.Ytedkcpncomgboaa.with_ Go.Proofs.Ytedkcpncomgboaa.monoj

def drainF : Nat → List Int → List Wr → List Int × List Wr × List Wr
  | 0, a, l => (a, l, [])
  | n + 1, a, l =>
    match l.findIdx? (readyB a) with
    | none => (a, l, [])
    | some k =>
      let r := drainF n (withL a (l.getD k wrZ).r (l.getD k wrZ).n) (l.eraseIdx k)
      (r.1, r.2.1, l.getD k wrZ :: r.2.2)
theorem drainF_none {a : List Int} {l : List Wr} (h : ∀ j, j < l.length → readyB a (l.getD j wrZ) = false) (n : Nat) : drainF n a l = (a, l, []) := by
  cases n with
  | zero => rfl
  | succ n =>
    unfold drainF
    have hn : l.findIdx? (readyB a) = none := by
      rw [List.findIdx?_eq_none_iff]
      intro x hx
      obtain ⟨j, hj, rfl⟩ := List.mem_iff_getElem.1 hx
      have := h j hj
      rwa [List.getD_eq_getElem?_getD, List.getElem?_eq_getElem hj] at this
    rw [hn]
theorem drainF_steps {ap : List Int} {ws : List Wr} {a : List Int} {l out : List Wr} (h : Steps ap ws a l out) : ∀ n, out.length ≤ n → drainF n ap ws = ((drainF (n - out.length) a l).1, (drainF (n - out.length) a l).2.1, out ++ (drainF (n - out.length) a l).2.2) := by
  induction h with
  | zero => intro n _; simp
  | @one a l out h k hk hr hn ih =>
    intro n hle
    rw [List.length_append] at hle
    simp only [List.length_cons, List.length_nil] at hle
    rw [ih n (by omega)]
    obtain ⟨m, hm⟩ : ∃ m, n - out.length = m + 1 := ⟨n - out.length - 1, by omega⟩
    have hf : l.findIdx? (readyB a) = some k := by
      rw [List.findIdx?_eq_some_iff_getElem]
      refine ⟨hk, ?_, fun j hj => ?_⟩
      · rwa [List.getD_eq_getElem?_getD, List.getElem?_eq_getElem hk] at hr
      · have := hn j hj
        rw [List.getD_eq_getElem?_getD, List.getElem?_eq_getElem (by omega)] at this
        simpa using this
    have hm2 : n - (out ++ [l.getD k wrZ]).length = m := by simp; omega
    rw [hm, hm2]
    conv => lhs; unfold drainF
    rw [hf]
    simp
theorem drainF_eq {ap : List Int} {ws : List Wr} {a : List Int} {l out : List Wr} (h : Steps ap ws a l out) (hn : ∀ j, j < l.length → readyB a (l.getD j wrZ) = false) : drainF ws.length ap ws = (a, l, out) := by
  rw [drainF_steps h ws.length (by have := h.ws_len; omega), drainF_none hn]
  simp
end Go.Proofs.Ytedkcpncomgboaa.dep
