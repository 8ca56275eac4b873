/- The place of the greatest number is told, of alike ones the first. Conditions: those of the given statement. -/
import Derived.Test.YthbbfbhgcoffeaaPrint10
import Derived.Test.YthbbfbhgcoffeaaMshare
namespace Go.Proofs.Ythbbfbhgcoffeaa.Pure
open Go.RowKit Go.Proofs.Ythbbfbhgcoffeaa.Print Go.Proofs.YthbbfbhgcoffeaaW.PrintWords Go.Proofs.YthbbfbhgcoffeaaW.PrintLast

/-- b: the first of the greatest ahead of i. -/
def Best (l : List Int) (i b : Nat) : Prop := b < i ∧ (∀ j, j < i → l.getD j 0 ≤ l.getD b 0) ∧ ∀ j, j < b → l.getD j 0 < l.getD b 0

theorem best_one (l : List Int) : Best l 1 0 := by
  refine ⟨by omega, fun j hj => ?_, fun j hj => by omega⟩
  obtain rfl : j = 0 := by omega
  exact Int.le_refl _

theorem most_l0 (l : List Int) (hn : l.length ≤ 4611686018427387904) : ∀ (d i b : Nat), i + d = l.length → Best l i b → ∃ b', Best l l.length b' ∧ Ev (fun k => share_Most.l0 k l (b : Int) l (l.length : Int) (i : Int)) (b' : Int)
  | 0, i, b, h, hB => by
    obtain rfl : i = l.length := by omega
    refine ⟨b, hB, Ev.step (fun k => by rw [share_Most.l0]) ?_⟩
    exact Ev.neg (by omega) (Ev.now _)
  | d + 1, i, b, h, hB => by
    obtain ⟨b1, b2, b3⟩ := hB
    by_cases hgt : l.getD b 0 < l.getD i 0
    · obtain ⟨b', hb', he⟩ := most_l0 l hn d (i + 1) i (by omega) ⟨by omega, fun j hj => by
        by_cases e : j = i
        · subst e; omega
        · have := b2 j (by omega); omega, fun j hj => by have := b2 j hj; omega⟩
      refine ⟨b', hb', Ev.step (fun k => by rw [share_Most.l0]) ?_⟩
      refine Ev.pos (by omega) (Ev.pos (by omega) (Ev.pos (by omega) (Ev.neg (by omega) (Ev.pos (by omega) (Ev.pos (by omega) ?_)))))
      rw [rd_get, rd_get, w64 _ (by omega) (by omega)]
      exact Ev.pos hgt he
    · obtain ⟨b', hb', he⟩ := most_l0 l hn d (i + 1) b (by omega) ⟨by omega, fun j hj => by
        by_cases e : j = i
        · subst e; omega
        · exact b2 j (by omega), b3⟩
      refine ⟨b', hb', Ev.step (fun k => by rw [share_Most.l0]) ?_⟩
      refine Ev.pos (by omega) (Ev.pos (by omega) (Ev.pos (by omega) (Ev.neg (by omega) (Ev.pos (by omega) (Ev.pos (by omega) ?_)))))
      rw [rd_get, rd_get, w64 _ (by omega) (by omega)]
      exact Ev.neg hgt he

theorem most_loop (l : List Int) (hn : l.length ≤ 4096) (b : Nat) (hB : Best l l.length b) : ∀ (d i : Nat), i + d = l.length → Ev (fun k => supercargolaw04_ShareMost.l0 k l (b : Int) l (l.length : Int) (i : Int)) true
  | 0, i, h => by
    refine Ev.step (fun k => by rw [supercargolaw04_ShareMost.l0]) ?_
    exact Ev.neg (by omega) (Ev.now _)
  | d + 1, i, h => by
    obtain ⟨b1, b2, b3⟩ := hB
    have h2 := b2 i (by omega)
    have ih := most_loop l hn b ⟨b1, b2, b3⟩ d (i + 1) (by omega)
    refine Ev.step (fun k => by rw [supercargolaw04_ShareMost.l0]) ?_
    refine Ev.pos (by omega) (Ev.pos (by omega) (Ev.pos (by omega) (Ev.pos (by omega) (Ev.pos (by omega) ?_))))
    rw [rd_get, rd_get, w64 _ (by omega) (by omega)]
    refine Ev.neg (by omega) ?_
    refine Ev.both (fun e => ?_) (fun _ => ih)
    refine Ev.neg (fun hlt => ?_) ih
    have := b3 i (by omega)
    omega

theorem ShareMost : supercargolaw04_ShareMost.Pure := by
  intro l hm hb wl
  refine Ev.le (r := true) ?_
  unfold supercargolaw04_ShareMost.f
  refine Ev.bind awake04_ev (Ev.pos rfl ?_)
  refine Ev.step (fun k => by rw [supercargolaw04_ShareMost.j0]) ?_
  refine Ev.both (fun e => Ev.bind awake04_ev (Ev.now _)) (fun e => ?_)
  have hn : l.length ≤ 200 := by simp at e; omega
  by_cases h0 : l.length = 0
  · refine Ev.bind (a := -1) ?_ ?_
    · unfold share_Most.f
      refine Ev.step (fun k => by rw [share_Most.l0]) ?_
      exact Ev.neg (by omega) (Ev.now _)
    · exact Ev.pos (by omega) (Ev.now _)
  · obtain ⟨b, hB, he⟩ := most_l0 l (by omega) (l.length - 1) 1 0 (by omega) (best_one l)
    refine Ev.bind (a := (b : Int)) ?_ ?_
    · unfold share_Most.f
      refine Ev.step (fun k => by rw [share_Most.l0]) ?_
      refine Ev.pos (by omega) (Ev.pos (by omega) (Ev.pos (by omega) (Ev.pos (by omega) ?_)))
      rw [w64 _ (by omega) (by omega)]
      exact he
    · have hbl := hB.1
      refine Ev.neg (by omega) (Ev.neg (by omega) ?_)
      rw [decide_eq_false (by omega)]
      refine Ev.step (fun k => by rw [supercargolaw04_ShareMost.j1]) ?_
      exact Ev.neg (by simp) (most_loop l (by omega) b hB l.length 0 (by omega))
end Go.Proofs.Ythbbfbhgcoffeaa.Pure
