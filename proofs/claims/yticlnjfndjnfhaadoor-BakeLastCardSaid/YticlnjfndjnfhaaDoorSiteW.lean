/- The name of a site. -/
import Derived.Test.YticlnjfndjnfhaaDoorNumW
namespace Go.Proofs.YticlnjfndjnfhaaDoor.bake
open Go Go.RowKit Go.Proofs.YticlnjfndjnfhaaDoor.base Go.Proofs.YticlnjfndjnfhaaDoor.dec

def siteL : Nat → List UInt8
  | 1 => [83, 116, 114, 105, 99, 116]
  | 2 => [76, 97, 120]
  | 3 => [78, 111, 110, 101]
  | _ => []
theorem site_any (n : Nat) (w : World) (hn : n ≤ 3) : Calls Tryd.prog 19 #[.int .i64 n] w fun e w' => e = .returned (.string (mkB (siteL n))) ∧ Below w.heap.size w w' := by
  have h4 : n = 0 ∨ n = 1 ∨ n = 2 ∨ n = 3 := by omega
  rcases h4 with rfl | rfl | rfl | rfl
  all_goals
    go_enter Tryd.func19, Tryd.ntmps19
    go_wp2
    go_ret
    exact ⟨rfl, below_new w _⟩
end Go.Proofs.YticlnjfndjnfhaaDoor.bake
