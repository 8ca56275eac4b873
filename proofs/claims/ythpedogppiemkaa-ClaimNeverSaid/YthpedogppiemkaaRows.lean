/-
  No cell of these rows narrows 'for every input' (looked for: loops, veiled, ifaces, maps, wideKeys, modest, calm, conditions, laid).
  DERIVED. THE GIVEN ROWS OF THIS SEAT. 5 by the template 'for every input the law returns true; each argument reads behind the call as it read before'; 0 by the template 'total and deterministic' (their statements: YthpedogppiemkaaTotals.lean).
  GIVEN WITH THE SEED: the statements are not yours to turn. If you find one false, say at which input.
  Laid BY PROGRAM, IN A SANDBOX (cutbox-rows.mjs): the forced cells as the released guide's own fill.sh prints them over the translation 033d24fbf0dbf833… (all of the seat's roots in one cut). By AI agents, Wed Nov 11 2026. No macro, syntax, notation, axiom, sorry.
-/
import Derived.Test.YthpedogppiemkaaChecked
import GoSem.Claim
import GoSem.ClaimJoined
import GoSem.ClaimMapViews
import Derived.JoinedTies
import Derived.KernelRfl
namespace Go.Proofs.Ythpedogppiemkaa
/- THE CELL 'sum', in the pinned program and in every row, IS THE sha256 OF THE DUMP (.gsa) THAT YthpedogppiemkaaProg.lean LOADS. Nothing in Lean hashes anything: it is a label: what it is worth is what the hold of that sum in a sandbox is worth. -/
noncomputable def Try.pinned : Pinned := { name := "ythpedogppiemkaa", sum := "033d24fbf0dbf8337da2c85d7e7c511c7dc347a1483e010e3a23dd748eaecc8c", checked := Try.checked }
namespace Rows
def none {H : Type} : Left H := { results := [], args := [] }

/-- 'supercargolaw44.ClaimWhole': WHATEVER THE INPUT: true; the input reads as it did. -/
def claimWholeSpec : ChangeSpec := { name := "claimWhole", fn := fun _ => fun
  | [d1, d2] => { results := [.lit (.bool true)], args := [d1, d2] }
  | _ => none }
def claimWholeRow : OpenClaim := { program := "ythpedogppiemkaa", sum := "033d24fbf0dbf8337da2c85d7e7c511c7dc347a1483e010e3a23dd748eaecc8c", func := "supercargo/supercargolaw44.ClaimWhole", spec := "claimWhole", unfollowed := true, recurses := true, named := ["math/bits.divideError", "math/bits.overflowError"], apart := false }
def ClaimWholeSaid : Prop := claimWholeRow.holds Try.pinned (OpenSpec.ofChange claimWholeSpec)

/-- ITS FALSE NEIGHBOUR: 'it returns false'. Refute it at one input. -/
def claimWholeWrong : ChangeSpec := { name := "claimWhole", fn := fun _ => fun
  | [d1, d2] => { results := [.lit (.bool false)], args := [d1, d2] }
  | _ => none }
def ClaimWholeWrongFalsely : Prop := claimWholeRow.holds Try.pinned (OpenSpec.ofChange claimWholeWrong)

/-- 'supercargolaw44.ClaimNever': WHATEVER THE INPUT: true; the input reads as it did. -/
def claimNeverSpec : ChangeSpec := { name := "claimNever", fn := fun _ => fun
  | [d1, d2, d3] => { results := [.lit (.bool true)], args := [d1, d2, d3] }
  | _ => none }
def claimNeverRow : OpenClaim := { program := "ythpedogppiemkaa", sum := "033d24fbf0dbf8337da2c85d7e7c511c7dc347a1483e010e3a23dd748eaecc8c", func := "supercargo/supercargolaw44.ClaimNever", spec := "claimNever", unfollowed := true, recurses := true, named := ["math/bits.divideError", "math/bits.overflowError"], apart := false }
def ClaimNeverSaid : Prop := claimNeverRow.holds Try.pinned (OpenSpec.ofChange claimNeverSpec)

/-- ITS FALSE NEIGHBOUR: 'it returns false'. Refute it at one input. -/
def claimNeverWrong : ChangeSpec := { name := "claimNever", fn := fun _ => fun
  | [d1, d2, d3] => { results := [.lit (.bool false)], args := [d1, d2, d3] }
  | _ => none }
def ClaimNeverWrongFalsely : Prop := claimNeverRow.holds Try.pinned (OpenSpec.ofChange claimNeverWrong)

/-- 'supercargolaw44.ClaimOrder': WHATEVER THE INPUT: true; the input reads as it did. -/
def claimOrderSpec : ChangeSpec := { name := "claimOrder", fn := fun _ => fun
  | [d1, d2, d3] => { results := [.lit (.bool true)], args := [d1, d2, d3] }
  | _ => none }
def claimOrderRow : OpenClaim := { program := "ythpedogppiemkaa", sum := "033d24fbf0dbf8337da2c85d7e7c511c7dc347a1483e010e3a23dd748eaecc8c", func := "supercargo/supercargolaw44.ClaimOrder", spec := "claimOrder", unfollowed := true, recurses := true, named := ["math/bits.divideError", "math/bits.overflowError"], apart := false }
def ClaimOrderSaid : Prop := claimOrderRow.holds Try.pinned (OpenSpec.ofChange claimOrderSpec)

/-- ITS FALSE NEIGHBOUR: 'it returns false'. Refute it at one input. -/
def claimOrderWrong : ChangeSpec := { name := "claimOrder", fn := fun _ => fun
  | [d1, d2, d3] => { results := [.lit (.bool false)], args := [d1, d2, d3] }
  | _ => none }
def ClaimOrderWrongFalsely : Prop := claimOrderRow.holds Try.pinned (OpenSpec.ofChange claimOrderWrong)

/-- 'supercargolaw44.ClaimCopies': WHATEVER THE INPUT: true; the input reads as it did. -/
def claimCopiesSpec : ChangeSpec := { name := "claimCopies", fn := fun _ => fun
  | [d1, d2, d3, d4, d5] => { results := [.lit (.bool true)], args := [d1, d2, d3, d4, d5] }
  | _ => none }
def claimCopiesRow : OpenClaim := { program := "ythpedogppiemkaa", sum := "033d24fbf0dbf8337da2c85d7e7c511c7dc347a1483e010e3a23dd748eaecc8c", func := "supercargo/supercargolaw44.ClaimCopies", spec := "claimCopies", unfollowed := true, recurses := true, named := ["math/bits.divideError", "math/bits.overflowError"], apart := false }
def ClaimCopiesSaid : Prop := claimCopiesRow.holds Try.pinned (OpenSpec.ofChange claimCopiesSpec)

/-- ITS FALSE NEIGHBOUR: 'it returns false'. Refute it at one input. -/
def claimCopiesWrong : ChangeSpec := { name := "claimCopies", fn := fun _ => fun
  | [d1, d2, d3, d4, d5] => { results := [.lit (.bool false)], args := [d1, d2, d3, d4, d5] }
  | _ => none }
def ClaimCopiesWrongFalsely : Prop := claimCopiesRow.holds Try.pinned (OpenSpec.ofChange claimCopiesWrong)

/-- 'supercargolaw44.ClaimSettles': WHATEVER THE INPUT: true; the input reads as it did. -/
def claimSettlesSpec : ChangeSpec := { name := "claimSettles", fn := fun _ => fun
  | [d1, d2, d3, d4, d5, d6] => { results := [.lit (.bool true)], args := [d1, d2, d3, d4, d5, d6] }
  | _ => none }
def claimSettlesRow : OpenClaim := { program := "ythpedogppiemkaa", sum := "033d24fbf0dbf8337da2c85d7e7c511c7dc347a1483e010e3a23dd748eaecc8c", func := "supercargo/supercargolaw44.ClaimSettles", spec := "claimSettles", unfollowed := true, recurses := true, named := ["math/bits.divideError", "math/bits.overflowError"], apart := false }
def ClaimSettlesSaid : Prop := claimSettlesRow.holds Try.pinned (OpenSpec.ofChange claimSettlesSpec)

/-- ITS FALSE NEIGHBOUR: 'it returns false'. Refute it at one input. -/
def claimSettlesWrong : ChangeSpec := { name := "claimSettles", fn := fun _ => fun
  | [d1, d2, d3, d4, d5, d6] => { results := [.lit (.bool false)], args := [d1, d2, d3, d4, d5, d6] }
  | _ => none }
def ClaimSettlesWrongFalsely : Prop := claimSettlesRow.holds Try.pinned (OpenSpec.ofChange claimSettlesWrong)

/- THE SECOND FORM. 'bulk': how many values and letters a reading holds, each counted each time it is reached (what is shared counts as often as it is met; a slice's spare places count too). A statement '..UptoSaid' is the law's where the arguments, and the package variables that the reading takes, are together of bulk at most 1048576: NARROWER than '..Said'. Prove '..Said' where nothing that the law and all that it calls make is longer than what came in: it says more and counts as full. Else prove '..UptoSaid'. A law counts once. -/
mutual
def uptoBulk {H : Type} : DataW H → Nat
  | .lit (.string bytes) => bytes.length + 1
  | .lit _ => 1
  | .nil => 1
  | .ptr d => uptoBulk d + 1
  | .slice elems spare => uptoBulkAll elems + uptoBulkAll spare + 1
  | .agg parts => uptoBulkAll parts + 1
  | .iface _ d => uptoBulk d + 1
  | .map entries => uptoBulkEntries entries + 1
  | .held _ => 1
def uptoBulkAll {H : Type} : List (DataW H) → Nat
  | [] => 0
  | d :: r => uptoBulk d + uptoBulkAll r
def uptoBulkEntries {H : Type} : List (Lit × DataW H) → Nat
  | [] => 0
  | x :: r => uptoBulkEntry x + uptoBulkEntries r
def uptoBulkEntry {H : Type} : Lit × DataW H → Nat
  | (.string bytes, d) => bytes.length + uptoBulk d + 1
  | (_, d) => uptoBulk d + 1
 end
def uptoSmall : (H : Type) → List (DataW H) → Bool := fun _ ds => decide (uptoBulkAll ds ≤ 1048576)
def OpenSpec.upto (s : _root_.Go.ChangeSpec) : _root_.Go.OpenSpec := { _root_.Go.OpenSpec.ofChange s with cond := some uptoSmall }

/-- 'supercargolaw44.ClaimWhole', WHERE WHAT IT READS IS OF BULK AT MOST 1048576: true; the input reads as it did. -/
def claimWholeUptoRow : OpenClaim := { program := "ythpedogppiemkaa", sum := "033d24fbf0dbf8337da2c85d7e7c511c7dc347a1483e010e3a23dd748eaecc8c", func := "supercargo/supercargolaw44.ClaimWhole", spec := "claimWhole", unfollowed := true, recurses := true, named := ["math/bits.divideError", "math/bits.overflowError"], apart := false, narrowed := true }
def ClaimWholeUptoSaid : Prop := claimWholeUptoRow.holds Try.pinned (OpenSpec.upto claimWholeSpec)

/-- 'supercargolaw44.ClaimNever', WHERE WHAT IT READS IS OF BULK AT MOST 1048576: true; the input reads as it did. -/
def claimNeverUptoRow : OpenClaim := { program := "ythpedogppiemkaa", sum := "033d24fbf0dbf8337da2c85d7e7c511c7dc347a1483e010e3a23dd748eaecc8c", func := "supercargo/supercargolaw44.ClaimNever", spec := "claimNever", unfollowed := true, recurses := true, named := ["math/bits.divideError", "math/bits.overflowError"], apart := false, narrowed := true }
def ClaimNeverUptoSaid : Prop := claimNeverUptoRow.holds Try.pinned (OpenSpec.upto claimNeverSpec)

/-- 'supercargolaw44.ClaimOrder', WHERE WHAT IT READS IS OF BULK AT MOST 1048576: true; the input reads as it did. -/
def claimOrderUptoRow : OpenClaim := { program := "ythpedogppiemkaa", sum := "033d24fbf0dbf8337da2c85d7e7c511c7dc347a1483e010e3a23dd748eaecc8c", func := "supercargo/supercargolaw44.ClaimOrder", spec := "claimOrder", unfollowed := true, recurses := true, named := ["math/bits.divideError", "math/bits.overflowError"], apart := false, narrowed := true }
def ClaimOrderUptoSaid : Prop := claimOrderUptoRow.holds Try.pinned (OpenSpec.upto claimOrderSpec)

/-- 'supercargolaw44.ClaimCopies', WHERE WHAT IT READS IS OF BULK AT MOST 1048576: true; the input reads as it did. -/
def claimCopiesUptoRow : OpenClaim := { program := "ythpedogppiemkaa", sum := "033d24fbf0dbf8337da2c85d7e7c511c7dc347a1483e010e3a23dd748eaecc8c", func := "supercargo/supercargolaw44.ClaimCopies", spec := "claimCopies", unfollowed := true, recurses := true, named := ["math/bits.divideError", "math/bits.overflowError"], apart := false, narrowed := true }
def ClaimCopiesUptoSaid : Prop := claimCopiesUptoRow.holds Try.pinned (OpenSpec.upto claimCopiesSpec)

/-- 'supercargolaw44.ClaimSettles', WHERE WHAT IT READS IS OF BULK AT MOST 1048576: true; the input reads as it did. -/
def claimSettlesUptoRow : OpenClaim := { program := "ythpedogppiemkaa", sum := "033d24fbf0dbf8337da2c85d7e7c511c7dc347a1483e010e3a23dd748eaecc8c", func := "supercargo/supercargolaw44.ClaimSettles", spec := "claimSettles", unfollowed := true, recurses := true, named := ["math/bits.divideError", "math/bits.overflowError"], apart := false, narrowed := true }
def ClaimSettlesUptoSaid : Prop := claimSettlesUptoRow.holds Try.pinned (OpenSpec.upto claimSettlesSpec)

end Rows
end Go.Proofs.Ythpedogppiemkaa
