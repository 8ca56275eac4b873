/-
Are acts few? It always ends, and a yes says that they are.
-/
import Derived.Test.YthpedogppiemkaaMmayk
import Derived.Test.YthpedogppiemkaaPrint18
namespace Go.Proofs.Ythpedogppiemkaa.Print
open Go.RowKit Go.Proofs.YthpedogppiemkaaW.PrintWords Go.Proofs.YthpedogppiemkaaW.PrintLast Go.Proofs.YthpedogppiemkaaW.PrintMore

theorem acts_l0 (l : List S41) (hl : l.length ≤ 9223372036854775807) : ∀ (d i : Nat), i + d = l.length → Answers (fun k => supercargolaw44_acts.l0 k l (i : Int)) (l.length ≤ 20)
  | 0, i, h => by
    refine Answers.next (fun k => by rw [supercargolaw44_acts.l0]) ?_
    refine Answers.both (fun h => by omega) (fun _ => Answers.now _ (fun h => ?_))
    have := of_decide_eq_true h
    omega
  | d + 1, i, h => by
    have ih := acts_l0 l hl d (i + 1) (by omega)
    refine Answers.next (fun k => by rw [supercargolaw44_acts.l0]) ?_
    rw [w64 ((i : Int) + 1) (by omega) (by omega)]
    refine Answers.both (fun _ => ?_) (fun h => by omega)
    refine Answers.both (fun _ => ?_) (fun h => by omega)
    exact Answers.both (fun _ => Answers.now _ (by simp)) (fun _ => ih)
theorem acts_ends (l : List S41) (hl : l.length ≤ 9223372036854775807) : ∃ b k, supercargolaw44_acts.f k l = some b ∧ (b = true → l.length ≤ 20) := by
  obtain ⟨b, hb, hf⟩ := acts_l0 l hl l.length 0 (by omega)
  obtain ⟨k, hk⟩ := Ev.le hb
  exact ⟨b, k, hk, hf⟩
end Go.Proofs.Ythpedogppiemkaa.Print
