/-
Rounds: what a function with enough rounds comes to, step by step.
-/
import Derived.Test.YtjkipjfcfcpcmaaPrint0
namespace Go.Proofs.Ytjkipjfcfcpcmaa.Print
open Go.RowKit Go.Proofs.YtjkipjfcfcpcmaaW.PrintWords Go.Proofs.YtjkipjfcfcpcmaaW.PrintLast Go.Proofs.YtjkipjfcfcpcmaaW.PrintMore

section
variable {α β : Type} {f g : Nat → Option α} {r : α} {c : Prop} [Decidable c]
theorem Ev.pos (h : c) (H : Ev f r) : Ev (fun k => if c then f k else g k) r := Ev.congr (fun _ => if_pos h) H
theorem Ev.neg (h : ¬ c) (H : Ev g r) : Ev (fun k => if c then f k else g k) r := Ev.congr (fun _ => if_neg h) H
theorem Ev.both (h1 : c → Ev f r) (h2 : ¬ c → Ev g r) : Ev (fun k => if c then f k else g k) r := by
  by_cases h : c
  · exact Ev.pos h (h1 h)
  · exact Ev.neg h (h2 h)
/-- A call whose answer is known. -/
theorem Ev.call {h : Nat → α → Option β} {q : β} {o : Option α} (e : o = some r) (H : Ev (fun k => h k r) q) : Ev (fun k => o.bind (h k)) q := by
  subst e
  exact H
theorem Ev.le (H : Ev f r) : ∃ k, f k = some r := H.rounds
end

theorem w64 (x : Int) (h0 : -9223372036854775808 ≤ x) (h1 : x ≤ 9223372036854775807) : wrap64 x = x := by unfold wrap64; omega
theorem rd_get (l : List Int) (i : Nat) : rd l (i : Int) = l.getD i 0 := by simp [rd]
theorem getD_mem (l : List Int) (i : Nat) (h : i < l.length) : l.getD i 0 ∈ l := by simp [List.getD_eq_getElem?_getD, h]
theorem drop_cons (l : List Int) (i : Nat) (h : i < l.length) : l.drop i = l.getD i 0 :: l.drop (i + 1) := by
  rw [List.drop_eq_getElem_cons h]
  simp [List.getD_eq_getElem?_getD, h]
end Go.Proofs.Ytjkipjfcfcpcmaa.Print
