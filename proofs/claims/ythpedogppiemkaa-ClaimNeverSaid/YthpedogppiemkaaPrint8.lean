/- Contracts of the program's functions over this seat's translation, written out by this session's own driver. Conditions: those in each statement. -/
import Derived.Test.YthpedogppiemkaaPrint0
import Derived.Test.YthpedogppiemkaaHsc
namespace Go.Proofs.Ythpedogppiemkaa.Print
open Go.RowKit Go.Proofs.YthpedogppiemkaaW.PrintWords Go.Proofs.YthpedogppiemkaaW.PrintLast Go.Proofs.YthpedogppiemkaaW.PrintMore
attribute [local go_sem] max2_int min2_int max_two min_two max_three min_three max_four min_four   -- for this text's walks alone
set_option linter.unusedVariables false
set_option linter.unusedSimpArgs false

/-! ### share_Split: function 32 -/
def share_Split.f (a0 : Int) (l1 : List Int) : Option (List Int × Int) :=
  if l1.length ≤ 4611686018427387904 then some (if splitErr a0 l1 = 0 then (partsOf a0 l1, 0) else ([], splitErr a0 l1)) else none
theorem share_Split.calls (a0 : Int) (A1 : Option Addr) (c1 : Nat) (l1 : List Int) (r1 : List Int) (r2 : Int) (w : World) (hr1 : Kd.C (Kd.int .i64) w A1 l1.length l1) (hc1 : l1.length ≤ c1) (h : share_Split.f a0 l1 = some (r1, r2)) :
    Calls Try.prog 32 #[.int .i64 a0, .slice A1 l1.length c1] w fun e w' => ∃ v0_ : Value, e = .returned (.tuple #[v0_, .int .i64 r2]) ∧ Kd.R (Kd.int .i64) 2 w' w.heap.size (fun _ => True) v0_ r1 ∧ Below w.heap.size w w' := by
  unfold share_Split.f at h
  split at h
  · rename_i hn
    have h' := Option.some.inj h
    exact split_calls a0 A1 c1 l1 r1 r2 w hr1 hn h'
  · cases h


end Go.Proofs.Ythpedogppiemkaa.Print
