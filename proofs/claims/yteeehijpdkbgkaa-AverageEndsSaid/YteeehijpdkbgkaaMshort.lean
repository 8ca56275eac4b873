/-
Short names for three rows of lists, for long walks.
-/
namespace Go.Proofs.Yteeehijpdkbgkaa.Print
theorem qa {α : Type _} (l : List α) (i : Nat) (a : α) : l.toArray.setIfInBounds i a = (l.set i a).toArray := List.setIfInBounds_toArray l i a
theorem qb {α : Type _} (x : α) (xs : List α) (a : α) : (x :: xs).set 0 a = a :: xs := by exact List.set_cons_zero
theorem qc {α : Type _} (x : α) (xs : List α) (n : Nat) (a : α) : (x :: xs).set (n + 1) a = x :: xs.set n a := by exact List.set_cons_succ
end Go.Proofs.Yteeehijpdkbgkaa.Print
