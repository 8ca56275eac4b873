/- WHOEVER PAYS FIRST: claimed of in whatever order, insurers that are unlike pay the same together. Conditions: those of the given statement. -/
import Derived.Test.YthpedogppiemkaaHordw
import Derived.Test.YthpedogppiemkaaHawake
import Derived.Test.YthpedogppiemkaaMfew
namespace Go.Proofs.Ythpedogppiemkaa.Pure
open Go.RowKit Go.Proofs.Ythpedogppiemkaa.Print Go.Proofs.YthpedogppiemkaaW.PrintWords Go.Proofs.YthpedogppiemkaaW.PrintLast
theorem ClaimOrder (w : World) (lo va : Int) (A : Option Addr) (c : Nat) (l : List S32) (hr : Kd.C k32 w A l.length l) (hc : l.length ≤ c) (hl : l.length ≤ 9223372036854775807) (hs : ∀ x ∈ l, Sized1 x) :
    Calls Try.prog 5 #[.int .i64 lo, .int .i64 va, .slice A l.length c] w fun e w' => e = .returned (.bool true) ∧ Below w.heap.size w w' := by
  obtain ⟨b, k, hk, hf⟩ := few_ends l hl
  have HF : ∀ w : World, Kd.C k32 w A l.length l → Calls Try.prog 9 #[.slice A l.length c] w fun e w' => e = .returned (.bool b) ∧ Drawn0 w w' := fun w h => supercargolaw44_few.calls k A c l b w h hc hk
  cases b with
  | false => exact order_few w lo va A c l hr hc awake44_calls HF
  | true =>
    cases hv : newB lo va with
    | false => exact order_no w lo va A c l hr hc hv awake44_calls HF
    | true => exact order_yes w lo va A c l hr hc hv hs (hf rfl) awake44_calls HF
end Go.Proofs.Ythpedogppiemkaa.Pure
