/- Contracts of the program's functions over this seat's translation, written out by this session's own driver. Conditions: those in each statement. -/
import Derived.Test.YthpedogppiemkaaPrint0
import Derived.Test.YthpedogppiemkaaPrint3
import Derived.Test.YthpedogppiemkaaHpol
namespace Go.Proofs.Ythpedogppiemkaa.Print
open Go.RowKit Go.Proofs.YthpedogppiemkaaW.PrintWords Go.Proofs.YthpedogppiemkaaW.PrintLast Go.Proofs.YthpedogppiemkaaW.PrintMore
attribute [local go_sem] max2_int min2_int max_two min_two max_three min_three max_four min_four   -- for this text's walks alone
set_option linter.unusedVariables false
set_option linter.unusedSimpArgs false

/-! ### claim_Share: function 10 -/
def claim_Share.f (k : Nat) (a0 : Int) (l1 : List S32) : Option (List Int × Int) := if l1.all (fun x => (mayK k x).isSome) = true then shareP (fun x => mayK k x == some true) a0 l1 else none
theorem claim_Share.mono : ∀ a0 a1 k, LeO (claim_Share.f k a0 a1) (claim_Share.f (k + 1) a0 a1) := by
  intro lo l k r h
  unfold claim_Share.f at h ⊢
  split at h
  · rename_i hall
    have hk : ∀ x ∈ l, mayK (k + 1) x = mayK k x := fun x hx => by
      obtain ⟨b, hb⟩ := Option.isSome_iff_exists.1 (List.all_eq_true.1 hall x hx)
      rw [hb]
      exact policy_May.mono _ _ _ _ _ _ _ _ _ k b hb
    rw [if_pos (List.all_eq_true.2 fun x hx => by rw [hk x hx]; exact List.all_eq_true.1 hall x hx), shareP_congr _ (fun x => mayK k x == some true) lo l (fun x hx => by rw [hk x hx])]
    exact h
  · cases h
theorem claim_Share.calls (k : Nat) (a0 : Int) (A1 : Option Addr) (c1 : Nat) (l1 : List (S32)) (r1 : List Int) (r2 : Int) (w : World) (hr1 : Kd.C k32 w A1 l1.length l1) (hc1 : l1.length ≤ c1) (h : claim_Share.f k a0 l1 = some (r1, r2)) :
    Calls Try.prog 10 #[.int .i64 a0, .slice A1 l1.length c1] w fun e w' => ∃ v0_ : Value, e = .returned (.tuple #[v0_, .int .i64 r2]) ∧ Kd.R (Kd.int .i64) 2 w' w.heap.size (fun _ => True) v0_ r1 ∧ Below w.heap.size w w' := by
  unfold claim_Share.f at h
  split at h
  · rename_i hall
    exact share_calls k (fun x => mayK k x == some true) w a0 A1 c1 l1 r1 r2 hr1 (fun x hx => by
      obtain ⟨b, hb⟩ := Option.isSome_iff_exists.1 (List.all_eq_true.1 hall x hx)
      rw [hb]
      cases b <;> rfl) h
  · cases h


end Go.Proofs.Ythpedogppiemkaa.Print
