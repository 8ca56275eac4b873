/- To the last unit: the parts sum to the total, and each lies less than one from its share. Conditions: those of the given statement. -/
import Derived.Test.YthbbfbhgcoffeaaPrint8
import Derived.Test.YthbbfbhgcoffeaaMparts
namespace Go.Proofs.Ythbbfbhgcoffeaa.Pure
open Go.RowKit Go.Proofs.Ythbbfbhgcoffeaa.Print Go.Proofs.YthbbfbhgcoffeaaW.PrintWords Go.Proofs.YthbbfbhgcoffeaaW.PrintLast

theorem sums_l1 (t : Int) (l ps : List Int) (hp : ps.length = l.length) (hn : l.length ≤ 4096) (hl : ∀ x ∈ l, 0 ≤ x ∧ x ≤ 1099511627776) (t0 : 0 ≤ t) (t1 : t ≤ 1099511627776) (hz : l.sum = 0 → t = 0)
    (hps : 0 < l.sum → ∀ i, i < l.length → ps.getD i 0 = t * l.getD i 0 / l.sum ∨ ps.getD i 0 = t * l.getD i 0 / l.sum + 1 ∧ t * l.getD i 0 % l.sum ≠ 0) :
    ∀ (d i : Nat), i + d = l.length → Ev (fun k => supercargolaw04_ShareSums.l1 k t l ps l.sum (ps.length : Int) (i : Int)) true
  | 0, i, h => by
    refine Ev.step (fun k => by rw [supercargolaw04_ShareSums.l1]) ?_
    exact Ev.neg (by omega) (Ev.now _)
  | d + 1, i, h => by
    refine Ev.step (fun k => by rw [supercargolaw04_ShareSums.l1]) ?_
    refine Ev.pos (by omega) ?_
    refine Ev.both (fun e => ?_) (fun e => ?_)
    · rw [hz e]; exact Ev.now _
    · have hsb := sumTo_bd l _ hl l.length (Nat.le_refl _)
      have e2 : sumTo l l.length = l.sum := by unfold sumTo; rw [List.take_of_length_le (Nat.le_refl _)]
      have hx := hl _ (getD_mem l i (by omega))
      have hxs := List.le_sum_of_mem_int l (fun z hz => (hl z hz).1) _ (getD_mem l i (by omega))
      have hbi : (baseL t l.sum l).getD i 0 = t * l.getD i 0 / l.sum := by simp [baseL, List.getD_eq_getElem?_getD, show i < l.length by omega]
      have hB := base_bd t l.sum l t0 (by omega) (fun y hy => ⟨(hl y hy).1, List.le_sum_of_mem_int l (fun z hz => (hl z hz).1) y hy⟩) t1 _ (getD_mem (baseL t l.sum l) i (by simp [baseL]; omega))
      rw [hbi] at hB
      refine Ev.pos (by omega) (Ev.pos (by omega) ?_)
      rw [rd_get, rd_get]
      refine Ev.bind (times_ev t (l.getD i 0) l.sum t0 (by omega) hx.1 (by omega) (by omega) (by omega) (by omega)) ?_
      refine Ev.pos (by omega) ?_
      have ih := sums_l1 t l ps hp hn hl t0 t1 hz hps d (i + 1) (by omega)
      have hc := hps (by omega) i (by omega)
      rw [w64 ((i : Int) + 1) (by omega) (by omega)]
      refine Ev.both (fun _ => ih) (fun e3 => ?_)
      rw [w64 (t * l.getD i 0 / l.sum + 1) (by omega) (by omega)]
      rcases hc with hc | ⟨hc, hr⟩
      · exact absurd hc e3
      · exact Ev.pos hc (Ev.neg hr ih)

theorem sums_l0 (t : Int) (l ps : List Int) (hp : ps.length = l.length) (hn : l.length ≤ 4096) (hl : ∀ x ∈ l, 0 ≤ x ∧ x ≤ 1099511627776) (hpl : ∀ x ∈ ps, 0 ≤ x ∧ x ≤ 1099511627777) (hs : ps.sum = t)
    (hend : Ev (fun k => supercargolaw04_ShareSums.l1 k t l ps l.sum (ps.length : Int) 0) true) :
    ∀ (d i : Nat), i + d = l.length → Ev (fun k => supercargolaw04_ShareSums.l0 k t l ps (sumTo ps i) (sumTo l i) (ps.length : Int) (i : Int)) true
  | 0, i, h => by
    refine Ev.step (fun k => by rw [supercargolaw04_ShareSums.l0]) ?_
    refine Ev.neg (by omega) ?_
    have e1 : sumTo ps i = t := by unfold sumTo; rw [List.take_of_length_le (by omega)]; exact hs
    have e2 : sumTo l i = l.sum := by unfold sumTo; rw [List.take_of_length_le (by omega)]
    rw [e1, e2]
    exact Ev.pos rfl hend
  | d + 1, i, h => by
    obtain ⟨⟨s0, s1⟩, ⟨x0, x1⟩, hsu⟩ := sum_facts l hl hn i (by omega)
    have b1 := sumTo_bd ps _ hpl i (by omega)
    have b2 := hpl _ (getD_mem ps i (by omega))
    have hsp := sumTo_succ ps i (by omega)
    refine Ev.step (fun k => by rw [supercargolaw04_ShareSums.l0]) ?_
    refine Ev.pos (by omega) (Ev.pos (by omega) (Ev.pos (by omega) (Ev.pos (by omega) ?_)))
    rw [rd_get, rd_get, w64 _ (by omega) (by omega), w64 _ (by omega) (by omega), w64 _ (by omega) (by omega), ← hsu, ← hsp]
    exact sums_l0 t l ps hp hn hl hpl hs hend d (i + 1) (by omega)

theorem ShareSums : supercargolaw04_ShareSums.Pure := by
  intro t l wt hm hb wl
  refine Ev.le (r := true) ?_
  unfold supercargolaw04_ShareSums.f
  refine Ev.bind awake04_ev (Ev.pos rfl ?_)
  refine Ev.step (fun k => by rw [supercargolaw04_ShareSums.j0]) ?_
  refine Ev.both (fun e => Ev.bind awake04_ev (Ev.now _)) (fun e => ?_)
  have hn : l.length ≤ 40 := by simp at e; omega
  refine Ev.call (split_f t l (by omega)) ?_
  by_cases he : splitErr t l = 0
  · rw [if_pos he]
    refine Ev.pos rfl (Ev.pos (by rw [partsOf_length]) ?_)
    obtain ⟨t0, t1, n0, n1, hl, hs⟩ := splitErr_facts t l he
    have hz : l.sum = 0 → t = 0 := fun h => by
      rcases Int.lt_or_le 0 t with h' | h'
      · have := hs h'; omega
      · omega
    have h1 := sums_l1 t l (partsOf t l) (partsOf_length t l) n1 hl t0 t1 hz (fun h i hi => parts_near t l h i hi) l.length 0 (by omega)
    have h0 := sums_l0 t l (partsOf t l) (partsOf_length t l) n1 hl (parts_bd t l t0 t1 hl hz) (parts_sum t l t0 hl hz) h1 l.length 0 (by omega)
    simpa [sumTo] using h0
  · rw [if_neg he]
    refine Ev.neg he ?_
    refine Ev.bind (error_ev t l (by omega)) ?_
    have : (splitErr t l != 0) = true := by simpa using he
    rw [this]
    exact Ev.now _
end Go.Proofs.Ythbbfbhgcoffeaa.Pure
