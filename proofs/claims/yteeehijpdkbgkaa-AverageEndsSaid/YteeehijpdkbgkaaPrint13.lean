/- Contracts of the program's functions over this seat's translation, written out by this session's own driver. Conditions: those in each statement. -/
import Derived.Test.YteeehijpdkbgkaaPrint0
import Derived.Test.YteeehijpdkbgkaaHpays
namespace Go.Proofs.Yteeehijpdkbgkaa.Print
open Go.RowKit Go.Proofs.YteeehijpdkbgkaaW.PrintWords Go.Proofs.YteeehijpdkbgkaaW.PrintLast Go.Proofs.YteeehijpdkbgkaaW.PrintMore
attribute [local go_sem] max2_int min2_int max_two min_two max_three min_three max_four min_four   -- for this text's walks alone
set_option linter.unusedVariables false
set_option linter.unusedSimpArgs false

/-! ### average_Pays: function 12 -/
def average_Pays.f (k : Nat) (l0 : List S35) (l1 : List Int) (a2 : Int) : Option (List S40 × Int) := paysF k l0 l1 a2
theorem average_Pays.mono : ∀ a0 a1 a2 k, LeO (average_Pays.f k a0 a1 a2) (average_Pays.f (k + 1) a0 a1 a2) := fun a0 a1 a2 k => paysF_mono a0 a1 a2 k
theorem average_Pays.calls (k : Nat) (A0 : Option Addr) (c0 : Nat) (l0 : List (S35)) (A1 : Option Addr) (c1 : Nat) (l1 : List Int) (a2 : Int) (r1 : List (S40)) (r2 : Int) (w : World) (hr0 : Kd.C k35 w A0 l0.length l0) (hc0 : l0.length ≤ c0) (hr1 : Kd.C (Kd.int .i64) w A1 l1.length l1) (hc1 : l1.length ≤ c1) (h : average_Pays.f k l0 l1 a2 = some (r1, r2)) :
    Calls Try.prog 12 #[.slice A0 l0.length c0, .slice A1 l1.length c1, .int .i64 a2] w fun e w' => ∃ v0_ : Value, e = .returned (.tuple #[v0_, .int .i64 r2]) ∧ Kd.R k40 40 w' w.heap.size (fun _ => True) v0_ r1 ∧ Below w.heap.size w w' := by
  unfold average_Pays.f at h
  exact pays_calls k A0 c0 l0 A1 c1 l1 a2 r1 r2 w hr0 hc0 hr1 hc1 h


end Go.Proofs.Yteeehijpdkbgkaa.Print
