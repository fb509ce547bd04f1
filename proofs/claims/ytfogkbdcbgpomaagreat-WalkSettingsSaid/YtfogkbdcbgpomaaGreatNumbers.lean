/- super's numbers. -/
import Derived.Test.YtfogkbdcbgpomaaGreatFlash2
import Derived.BigRegion
set_option linter.unusedSimpArgs false
set_option linter.unusedVariables false
namespace Go.Proofs.YtfogkbdcbgpomaaGreat
open Go.RowKit

set_option maxRecDepth 100000 in
set_option maxHeartbeats 1000000 in
theorem super_numbers {w : World} {bb : Nat} :
    Calls Tryz.prog 93 #[.pointer (some ⟨bb, 0, none⟩)] w fun e w' => e = .returned (.agg #[.pointer (some ⟨bb, 0, none⟩), .pointer (some ⟨bb, 1, none⟩), .pointer (some ⟨bb, 2, none⟩), .pointer (some ⟨bb, 3, none⟩), .pointer (some ⟨bb, 4, none⟩)]) ∧ Below w.heap.size w w' := by
  go_enter Tryz.func93, Tryz.ntmps93
  go_wp2
  go_region
  go_wp2
  go_returns
  exact ⟨rfl, (below_alloc _ _).drew⟩

end Go.Proofs.YtfogkbdcbgpomaaGreat
