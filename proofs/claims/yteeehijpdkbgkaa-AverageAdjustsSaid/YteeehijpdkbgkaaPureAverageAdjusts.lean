/- The parts of any loss, by any interests, are just the reference's, or refused; just these are right. Conditions: those of the given statement. -/
import Derived.Test.YteeehijpdkbgkaaPrint23
import Derived.Test.YteeehijpdkbgkaaMavgc
namespace Go.Proofs.Yteeehijpdkbgkaa.Pure
open Go.RowKit Go.Proofs.Yteeehijpdkbgkaa.Print Go.Proofs.YteeehijpdkbgkaaW.PrintWords Go.Proofs.YteeehijpdkbgkaaW.PrintLast
theorem AverageAdjusts (t : Int) (l : List S35) (ps : List Int) (wt : (Lit.int .i64 t).wf = true) (wl : ∀ x ∈ l, x.f0.size ≤ maxLen ∧ (Lit.int .i64 x.f1).wf = true) (wp : ∀ x ∈ ps, (Lit.int .i64 x).wf = true) :
    ∃ k, supercargolaw43_AverageAdjusts.f k t l ps = some true := by
  refine Ev.le (r := true) ?_
  unfold supercargolaw43_AverageAdjusts.f
  refine Ev.bind awake43_ev (Ev.pos rfl (Ev.bind (few_ev l ps) ?_))
  refine Ev.both (fun hf => ?_) (fun _ => Ev.now _)
  rw [Bool.and_eq_true] at hf
  obtain ⟨hn, hs⟩ := fewB_facts l hf.1
  have hps : ps.length ≤ 60 := by simpa using hf.2
  have hs : ∀ x ∈ l, x.f0.size ≤ 4611686018427387904 := fun x hx => by have := hs x hx; omega
  have hl := adjustOf_length t l (by omega)
  refine Ev.bind (adjust_ev t l (by omega) hs) (Ev.bind (radjust_ev t l (by omega) hs) (Ev.bind (same_ev _ _ (by omega)) (Ev.pos (by simp) ?_)))
  have : ((adjustOf t l).2 != (adjustOf t l).2) = false := by simp
  rw [this]
  refine Ev.step (fun k => by rw [supercargolaw43_AverageAdjusts.j0]) ?_
  refine Ev.neg (by simp) (Ev.bind (aright_ev t ps l (by omega) hs) ?_)
  have h2 := aright_ev t (adjustOf t l).1 l (by omega) hs
  refine Ev.both (fun e => ?_) (fun e => ?_)
  · refine Ev.bind (same_ev _ _ (by omega)) ?_
    refine Ev.pos ?_ (Ev.bind h2 ?_)
    · rw [decide_eq_true e, Bool.true_and]
      simp only [beq_iff_eq, decide_eq_decide]
      exact eq_comm
    · simp only [e, decide_true, Bool.true_and, beq_self_eq_true]
      exact Ev.now _
  · refine Ev.pos (by rw [decide_eq_false e]; rfl) (Ev.bind h2 ?_)
    have : ((decide ((adjustOf t l).2 = 0) && decide ((adjustOf t l).1 = (adjustOf t l).1)) == ((adjustOf t l).2 == 0)) = true := by simp [e]
    rw [this]
    exact Ev.now _
end Go.Proofs.Yteeehijpdkbgkaa.Pure
