/-
Are two rows the same; a split, in plain words.
-/
import Derived.Test.YthpedogppiemkaaMev
import Derived.Test.YthpedogppiemkaaHsc
import Derived.Test.YthpedogppiemkaaPrint8
import Derived.Test.YthpedogppiemkaaPrint10
namespace Go.Proofs.Ythpedogppiemkaa.Print
open Go.RowKit Go.Proofs.YthpedogppiemkaaW.PrintWords Go.Proofs.YthpedogppiemkaaW.PrintLast Go.Proofs.YthpedogppiemkaaW.PrintMore

theorem same_l0 (a b : List Int) (hl : a.length = b.length) (hb : a.length ≤ 4611686018427387904) : ∀ (d i : Nat), i + d = a.length → Ev (fun k => supercargoref04_Same.l0 k a b (i : Int)) (decide (a.drop i = b.drop i))
  | 0, i, h => by
    refine Ev.step (fun k => by rw [supercargoref04_Same.l0]) ?_
    refine Ev.neg (by omega) ?_
    rw [List.drop_of_length_le (by omega), List.drop_of_length_le (by omega)]
    exact Ev.now _
  | d + 1, i, h => by
    refine Ev.step (fun k => by rw [supercargoref04_Same.l0]) ?_
    refine Ev.pos (by omega) (Ev.pos (by omega) (Ev.pos (by omega) ?_))
    rw [rd_get, rd_get, drop_cons a i (by omega), drop_cons b i (by omega)]
    refine Ev.both (fun e => ?_) (fun e => ?_)
    · have ih := same_l0 a b hl hb d (i + 1) (by omega)
      rw [w64 _ (by omega) (by omega)]
      have : decide (a.getD i 0 :: a.drop (i + 1) = b.getD i 0 :: b.drop (i + 1)) = decide (a.drop (i + 1) = b.drop (i + 1)) := by simp only [e, List.cons.injEq, true_and]
      rw [this]
      exact ih
    · have : decide (a.getD i 0 :: a.drop (i + 1) = b.getD i 0 :: b.drop (i + 1)) = false := by
        rw [decide_eq_false_iff_not]; intro h; exact e (List.cons.inj h).1
      rw [this]
      exact Ev.now _
theorem same_ev (a b : List Int) (hb : a.length ≤ 4611686018427387904) : Ev (fun k => supercargoref04_Same.f k a b) (decide (a = b)) := by
  unfold supercargoref04_Same.f
  refine Ev.both (fun e => ?_) (fun e => ?_)
  · have h := same_l0 a b (by omega) hb a.length 0 (by omega)
    simpa using h
  · have : decide (a = b) = false := by rw [decide_eq_false_iff_not]; rintro rfl; exact e rfl
    rw [this]
    exact Ev.now _

theorem split_f (t : Int) (l : List Int) (h : l.length ≤ 4611686018427387904) : share_Split.f t l = some (if splitErr t l = 0 then (partsOf t l, 0) else ([], splitErr t l)) := by
  unfold share_Split.f
  rw [if_pos h]

/-! ### supercargoref04.Error -/
end Go.Proofs.Ythpedogppiemkaa.Print
