/- INSURED ONCE: behind any acts all that was paid, and all that the insured got back, is at most the loss; nobody gets back more than they paid. Conditions: those of the given statement. -/
import Derived.Test.YthpedogppiemkaaHnevw
import Derived.Test.YthpedogppiemkaaHawake
import Derived.Test.YthpedogppiemkaaMacts
namespace Go.Proofs.Ythpedogppiemkaa.Pure
open Go.RowKit Go.Proofs.Ythpedogppiemkaa.Print Go.Proofs.YthpedogppiemkaaW.PrintWords Go.Proofs.YthpedogppiemkaaW.PrintLast
theorem ClaimNever (w : World) (lo va : Int) (A : Option Addr) (c : Nat) (l : List S41) (hr : Kd.C k41 w A l.length l) (hc : l.length ≤ c) (hl : l.length ≤ 9223372036854775807) (hs : ∀ x ∈ l, SizedA x) :
    Calls Try.prog 4 #[.int .i64 lo, .int .i64 va, .slice A l.length c] w fun e w' => e = .returned (.bool true) ∧ Below w.heap.size w w' := by
  obtain ⟨b, k, hk, hf⟩ := acts_ends l hl
  have HF : ∀ w : World, Kd.C k41 w A l.length l → Calls Try.prog 12 #[.slice A l.length c] w fun e w' => e = .returned (.bool b) ∧ Drawn0 w w' := fun w h => supercargolaw44_acts.calls k A c l b w h hc hk
  cases b with
  | false => exact never_few w lo va A c l hr awake44_calls HF
  | true =>
    cases hv : newB lo va with
    | false => exact never_no w lo va A c l hr hv awake44_calls HF
    | true => exact never_yes w lo va A c l hr hv hs (hf rfl) awake44_calls HF
end Go.Proofs.Ythpedogppiemkaa.Pure
