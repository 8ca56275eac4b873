/- Contracts of the program's functions over this seat's translation, written out by this session's own driver. Conditions: those in each statement. -/
import Derived.Test.YthpedogppiemkaaPrint0
import Derived.Test.YthpedogppiemkaaHawake
namespace Go.Proofs.Ythpedogppiemkaa.Print
open Go.RowKit Go.Proofs.YthpedogppiemkaaW.PrintWords Go.Proofs.YthpedogppiemkaaW.PrintLast Go.Proofs.YthpedogppiemkaaW.PrintMore
attribute [local go_sem] max2_int min2_int max_two min_two max_three min_three max_four min_four   -- for this text's walks alone
set_option linter.unusedVariables false
set_option linter.unusedSimpArgs false

/-! ### supercargolaw44_awake: function 8 -/
def supercargolaw44_awake.f : Option Bool := some true
theorem supercargolaw44_awake.calls  (r : Bool) (w : World) (h : supercargolaw44_awake.f  = some r) :
    Calls Try.prog 8 #[] w fun e w' => e = .returned (.bool r) ∧ Below w.heap.size w w' := by
  unfold supercargolaw44_awake.f at h
  obtain rfl := Option.some.inj h
  exact awake44_calls w


end Go.Proofs.Ythpedogppiemkaa.Print
