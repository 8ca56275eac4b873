/- Contracts of the program's functions over this seat's translation, written out by this session's own driver. Conditions: those in each statement. -/
import Derived.Test.YteeehijpdkbgkaaPrint0
import Derived.Test.YteeehijpdkbgkaaHmay
namespace Go.Proofs.Yteeehijpdkbgkaa.Print
open Go.RowKit Go.Proofs.YteeehijpdkbgkaaW.PrintWords Go.Proofs.YteeehijpdkbgkaaW.PrintLast Go.Proofs.YteeehijpdkbgkaaW.PrintMore
attribute [local go_sem] max2_int min2_int max_two min_two max_three min_three max_four min_four   -- for this text's walks alone
set_option linter.unusedVariables false
set_option linter.unusedSimpArgs false

/-! ### average_may: function 30 -/
def average_may.f (l0 : List S35) : Option Bool := if l0.length ≤ 4611686018427387904 ∧ l0.all (fun x => decide (x.f0.size ≤ 4611686018427387904)) = true then some (mayB l0) else none
theorem average_may.calls (A0 : Option Addr) (c0 : Nat) (l0 : List (S35)) (r : Bool) (w : World) (hr0 : Kd.C k35 w A0 l0.length l0) (hc0 : l0.length ≤ c0) (h : average_may.f l0 = some r) :
    Calls Try.prog 30 #[.slice A0 l0.length c0] w fun e w' => e = .returned (.bool r) ∧ Below w.heap.size w w' := by
  unfold average_may.f at h
  split at h
  · rename_i hn
    obtain rfl := Option.some.inj h
    exact may_calls A0 c0 l0 w hr0 hn.1 (fun x hx => by simpa using List.all_eq_true.1 hn.2 x hx)
  · cases h


end Go.Proofs.Yteeehijpdkbgkaa.Print
