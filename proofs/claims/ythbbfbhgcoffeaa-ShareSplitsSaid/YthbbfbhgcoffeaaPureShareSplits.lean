/- Any total is shared by any weights as the reference says, or what is wrong is told; the weights stay as they were. Conditions: those of the given statement. -/
import Derived.Test.YthbbfbhgcoffeaaPrint7
import Derived.Test.YthbbfbhgcoffeaaMsplitb
namespace Go.Proofs.Ythbbfbhgcoffeaa.Pure
open Go.RowKit Go.Proofs.Ythbbfbhgcoffeaa.Print Go.Proofs.YthbbfbhgcoffeaaW.PrintWords Go.Proofs.YthbbfbhgcoffeaaW.PrintLast

theorem ShareSplits : supercargolaw04_ShareSplits.Pure := by
  intro t l wt hm hb wl
  refine Ev.le (r := true) ?_
  unfold supercargolaw04_ShareSplits.f
  refine Ev.bind awake04_ev (Ev.pos rfl ?_)
  refine Ev.step (fun k => by rw [supercargolaw04_ShareSplits.j0]) ?_
  refine Ev.both (fun e => Ev.bind awake04_ev (Ev.now _)) (fun e => ?_)
  have hn : l.length ≤ 40 := by simp at e; omega
  refine Ev.call rfl (Ev.pos (by simp; omega) (Ev.call rfl ?_))
  rw [List.nil_append]
  refine Ev.call (split_f t l (by omega)) ?_
  refine Ev.bind (same_ev l l (by omega)) (Ev.pos (by simp) ?_)
  refine Ev.bind (error_ev t l (by omega)) ?_
  by_cases he : splitErr t l = 0
  · rw [if_pos he, he]
    refine Ev.step (fun k => by rw [supercargolaw04_ShareSplits.j1]) ?_
    refine Ev.neg (by simp) (Ev.pos rfl ?_)
    refine Ev.bind (refsplit_ev t l he) ?_
    refine Ev.bind (same_ev _ _ (by rw [partsOf_length]; omega)) ?_
    simp only [decide_true]
    exact Ev.now _
  · rw [if_neg he]
    refine Ev.step (fun k => by rw [supercargolaw04_ShareSplits.j1]) ?_
    refine Ev.neg (by simp) (Ev.neg he ?_)
    exact Ev.now _
end Go.Proofs.Ythbbfbhgcoffeaa.Pure
