/- CLAIMS AND WHAT COMES BACK: behind any claims all that was paid, and got back, is at most the loss; all that the acts say is kept. Conditions: those of the given statement. -/
import Derived.Test.YtjkipjfcfcpcmaaHtopc
import Derived.Test.YtjkipjfcfcpcmaaHnets
namespace Go.Proofs.Ytjkipjfcfcpcmaa.Pure
open Go.RowKit Go.Proofs.Ytjkipjfcfcpcmaa.Print Go.Proofs.YtjkipjfcfcpcmaaW.PrintWords Go.Proofs.YtjkipjfcfcpcmaaW.PrintLast
theorem TopClaims (w : World) (a0 a1 : Int) (A : Option Addr) (c : Nat) (l : List S33) (A3 : Option Addr) (c3 : Nat) (bs : List Int) (ha0 : 0 ≤ a0) (ha1 : 0 ≤ a1) (hb0 : a0 ≤ 4294967295) (hb1 : a1 ≤ 4294967295)
    (hr : Kd.C k33 w A l.length l) (hr3 : Kd.C (Kd.int .u16) w A3 bs.length bs) (hl : l.length ≤ 9223372036854775807) (hb : bs.length ≤ 9223372036854775807) (hs : ∀ x ∈ l, Sized1 x) (hbw : ∀ x ∈ bs, 0 ≤ x ∧ x ≤ 65535) :
    Calls Try.prog 3 #[.int .u32 a0, .int .u32 a1, .slice A l.length c, .slice A3 bs.length c3] w fun e w' => e = .returned (.bool true) ∧ Below w.heap.size w w' := by
  by_cases h : 6 < l.length ∨ 6 < bs.length
  · exact topc_few w a0 a1 A c l A3 c3 bs hl hb h nets_calls
  · exact topc_main w a0 a1 A c l A3 c3 bs ha0 ha1 hb0 hb1 (by omega) (by omega) hr hr3 hs hbw nets_calls
end Go.Proofs.Ytjkipjfcfcpcmaa.Pure
