/-
Layer 43: the examples of its document hold; what the functions on interests come to, in plain words.
-/
import Derived.Test.YteeehijpdkbgkaaMsame
import Derived.Test.YteeehijpdkbgkaaPrint14
import Derived.Test.YteeehijpdkbgkaaHmay
import Derived.Laws.StructEq
import Derived.DataShut
import Derived.Test.YteeehijpdkbgkaaPrint10
import Derived.Test.YteeehijpdkbgkaaHsc
import Derived.Test.YteeehijpdkbgkaaMsplit
namespace Go.Proofs.Yteeehijpdkbgkaa.Print
open Go.RowKit Go.Proofs.YteeehijpdkbgkaaW.PrintWords Go.Proofs.YteeehijpdkbgkaaW.PrintLast Go.Proofs.YteeehijpdkbgkaaW.PrintMore

theorem awake43_ev : Ev (fun k => supercargolaw43_awake.f k) true := Ev.of (fun k => supercargolaw43_awake.mono k) (k := 40) (by decide +kernel)

def fewB (l : List S35) : Bool := decide (l.length ≤ 31) && l.all fun x => decide (x.f0.size ≤ 60)
theorem rdT_drop (l : List S35) (i : Nat) (h : i < l.length) : l.drop i = rd_T35 l i :: l.drop (i + 1) := by
  rw [List.drop_eq_getElem_cons h]
  simp [rd_T35, List.getD_eq_getElem?_getD, h]
theorem few_l0 (l : List S35) : ∀ (d i : Nat), i + d = l.length → i ≤ 31 → Ev (fun k => supercargoref43_Few.l0 k l (i : Int)) (decide (l.length ≤ 31) && (l.drop i).all fun x => decide (x.f0.size ≤ 60))
  | 0, i, h, hi => by
    refine Ev.step (fun k => by rw [supercargoref43_Few.l0]) ?_
    refine Ev.neg (by omega) ?_
    rw [List.drop_of_length_le (by omega), decide_eq_true (by omega)]
    exact Ev.now _
  | d + 1, i, h, hi => by
    refine Ev.step (fun k => by rw [supercargoref43_Few.l0]) ?_
    refine Ev.pos (by omega) ?_
    refine Ev.both (fun e => ?_) (fun e => Ev.pos (by omega) ?_)
    · rw [decide_eq_false (by omega)]; exact Ev.now _
    · rw [rdT_drop l i (by omega), List.all_cons]
      refine Ev.both (fun e2 => ?_) (fun e2 => ?_)
      · rw [decide_eq_false (show ¬ (rd_T35 l i).f0.size ≤ 60 by omega), Bool.false_and, Bool.and_false]; exact Ev.now _
      · rw [decide_eq_true (show (rd_T35 l i).f0.size ≤ 60 by omega), Bool.true_and, w64 _ (by omega) (by omega)]
        exact few_l0 l d (i + 1) (by omega) (by omega)
theorem few_ev (l : List S35) (g : List Int) : Ev (fun k => supercargolaw43_few.f k l g) (fewB l && decide (g.length ≤ 60)) := by
  unfold supercargolaw43_few.f supercargoref43_Few.f
  have h := few_l0 l l.length 0 (by omega) (by omega)
  rw [List.drop_zero] at h
  refine Ev.bind (a := fewB l) h ?_
  cases fewB l with
  | true =>
    refine Ev.pos rfl ?_
    rw [Bool.true_and, show decide (g.length ≤ 60) = decide ((g.length : Int) ≤ 60) by simp; omega]
    exact Ev.now _
  | false => exact Ev.neg (by decide) (Ev.now _)
theorem fewB_facts (l : List S35) (h : fewB l = true) : l.length ≤ 31 ∧ ∀ x ∈ l, x.f0.size ≤ 60 := by
  unfold fewB at h
  rw [Bool.and_eq_true] at h
  exact ⟨by simpa using h.1, fun x hx => by simpa using List.all_eq_true.1 h.2 x hx⟩

def vals (l : List S35) : List Int := l.map (·.f1)
theorem vals_length (l : List S35) : (vals l).length = l.length := by simp [vals]
theorem values_l0 (l : List S35) (hn : l.length ≤ 4096) : ∀ (d i : Nat) (acc : List Int), i + d = l.length → acc.length = i → Ev (fun k => average_values.l0 k acc l (l.length : Int) (i : Int)) (acc ++ vals (l.drop i))
  | 0, i, acc, h, ha => by
    refine Ev.step (fun k => by rw [average_values.l0]) ?_
    rw [List.drop_of_length_le (by omega)]
    refine Ev.neg (by omega) ?_
    rw [show vals [] = [] from rfl, List.append_nil]; exact Ev.now _
  | d + 1, i, acc, h, ha => by
    refine Ev.step (fun k => by rw [average_values.l0]) ?_
    refine Ev.pos (by omega) (Ev.pos (by omega) (Ev.pos (by omega) (Ev.pos (by omega) ?_)))
    have ih := values_l0 l hn d (i + 1) (acc ++ [(rd_T35 l i).f1]) (by omega) (by simp [ha])
    rw [w64 _ (by omega) (by omega), rdT_drop l i (by omega)]
    simpa [vals] using ih
theorem values_ev (l : List S35) (hn : l.length ≤ 4096) : Ev (fun k => average_values.f k l) (vals l) := by
  have h := values_l0 l hn l.length 0 [] (by omega) rfl
  unfold average_values.f
  simpa using h
theorem sumTo_all (l : List Int) : sumTo l l.length = l.sum := by unfold sumTo; rw [List.take_of_length_le (Nat.le_refl _)]
theorem asum_l0 (l : List Int) (hl : ∀ x ∈ l, 0 ≤ x ∧ x ≤ 1099511627776) (hn : l.length ≤ 4096) : ∀ (d i : Nat), i + d = l.length → Ev (fun k => average_sum.l0 k (sumTo l i) l (l.length : Int) (i : Int)) l.sum
  | 0, i, h => by
    refine Ev.step (fun k => by rw [average_sum.l0]) ?_
    obtain rfl : i = l.length := by omega
    rw [sumTo_all]
    exact Ev.neg (by omega) (Ev.now _)
  | d + 1, i, h => by
    obtain ⟨⟨s0, s1⟩, ⟨x0, x1⟩, hsu⟩ := sum_facts l hl hn i (by omega)
    refine Ev.step (fun k => by rw [average_sum.l0]) ?_
    refine Ev.pos (by omega) (Ev.pos (by omega) (Ev.pos (by omega) ?_))
    rw [rd_get, w64 _ (by omega) (by omega), w64 _ (by omega) (by omega), ← hsu]
    exact asum_l0 l hl hn d (i + 1) (by omega)
theorem asum_ev (l : List Int) (hl : ∀ x ∈ l, 0 ≤ x ∧ x ≤ 1099511627776) (hn : l.length ≤ 4096) : Ev (fun k => average_sum.f k l) l.sum := by
  have h := asum_l0 l hl hn l.length 0 (by omega)
  unfold average_sum.f
  simpa [sumTo] using h
theorem may_f (l : List S35) (hn : l.length ≤ 4611686018427387904) (hs : ∀ x ∈ l, x.f0.size ≤ 4611686018427387904) : average_may.f l = some (mayB l) := by
  unfold average_may.f
  rw [if_pos ⟨hn, List.all_eq_true.2 fun x hx => by simpa using hs x hx⟩]
theorem good_vals : ∀ (l : List S35) (ks : List ByteArray), good ks l = true → ∀ x ∈ vals l, 0 ≤ x ∧ x ≤ 1099511627776
  | [], _, _ => by simp [vals]
  | y :: r, ks, h => by
    unfold good at h
    simp only [Bool.and_eq_true, decide_eq_true_eq] at h
    intro x hx
    simp only [vals, List.map_cons, List.mem_cons] at hx
    rcases hx with rfl | hx
    · exact h.1.2
    · exact good_vals r _ h.2 x hx
theorem may_vals (l : List S35) (h : mayB l = true) : (∀ x ∈ vals l, 0 ≤ x ∧ x ≤ 1099511627776) ∧ 1 ≤ l.length ∧ l.length ≤ 4096 := by
  unfold mayB at h
  rw [Bool.and_eq_true] at h
  exact ⟨good_vals l [] h.1, by simpa using h.2⟩

/-- A loss is shared, or refused. -/
def adjustOf (t : Int) (l : List S35) : List Int × Int :=
  if mayB l = false ∨ t < 0 then ([], 1) else if t > (vals l).sum then ([], 3) else if splitErr t (vals l) = 0 then (partsOf t (vals l), 0) else ([], splitErr t (vals l))
theorem adjust_ev (t : Int) (l : List S35) (hn : l.length ≤ 4096) (hs : ∀ x ∈ l, x.f0.size ≤ 4611686018427387904) : Ev (fun k => average_Adjust.f k t l) (adjustOf t l) := by
  unfold average_Adjust.f
  refine Ev.bind (values_ev l hn) (Ev.call (may_f l (by omega) hs) ?_)
  have JT : Ev (fun k => average_Adjust.j0 k t (vals l) true) (([] : List Int), (1 : Int)) := by
    refine Ev.step (fun k => by rw [average_Adjust.j0]) ?_
    exact Ev.pos rfl (Ev.now _)
  unfold adjustOf
  cases hm : mayB l with
  | false => rw [if_pos (Or.inl rfl)]; exact Ev.neg (by simp) JT
  | true =>
    refine Ev.pos rfl ?_
    by_cases h0 : t < 0
    · rw [if_pos (Or.inr h0), decide_eq_true h0]; exact JT
    · rw [if_neg (by rintro (h | h); cases h; exact h0 h), decide_eq_false h0]
      obtain ⟨hv, _, _⟩ := may_vals l hm
      refine Ev.step (fun k => by rw [average_Adjust.j0]) ?_
      refine Ev.neg (by simp) (Ev.bind (asum_ev _ hv (by rw [vals_length]; omega)) ?_)
      refine Ev.both (fun e => ?_) (fun e => ?_)
      · rw [if_pos e]; exact Ev.now _
      · rw [if_neg e]
        refine Ev.call (split_f t _ (by rw [vals_length]; omega)) ?_
        split <;> exact Ev.now _
theorem adjustOf_length (t : Int) (l : List S35) (hn : l.length ≤ 4096) : (adjustOf t l).1.length ≤ 4096 := by
  unfold adjustOf
  split
  · simp
  · split
    · simp
    · split
      · simp only [partsOf_length, vals_length]; exact hn
      · simp
end Go.Proofs.Yteeehijpdkbgkaa.Print
