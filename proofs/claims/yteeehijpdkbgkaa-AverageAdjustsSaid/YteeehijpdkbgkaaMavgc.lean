/-
Layer 43: the examples of its document hold; what the functions on interests come to, in plain words.
-/
import Derived.Test.YteeehijpdkbgkaaMshare
import Derived.Test.YteeehijpdkbgkaaPrint14
import Derived.Test.YteeehijpdkbgkaaMsplitb
import Derived.Test.YteeehijpdkbgkaaHmay
import Derived.Laws.StructEq
import Derived.DataShut
import Derived.Test.YteeehijpdkbgkaaPrint17
import Derived.Test.YteeehijpdkbgkaaPrint10
import Derived.Test.YteeehijpdkbgkaaPrint23
namespace Go.Proofs.Yteeehijpdkbgkaa.Print
open Go.RowKit Go.Proofs.YteeehijpdkbgkaaW.PrintWords Go.Proofs.YteeehijpdkbgkaaW.PrintLast Go.Proofs.YteeehijpdkbgkaaW.PrintMore

theorem awake43_ev : Ev (fun k => supercargolaw43_awake.f k) true := Ev.of (fun k => supercargolaw43_awake.mono k) (k := 40) (by decide +kernel)

def fewB (l : List S35) : Bool := decide (l.length ≤ 31) && l.all fun x => decide (x.f0.size ≤ 60)
theorem rdT_drop (l : List S35) (i : Nat) (h : i < l.length) : l.drop i = rd_T35 l i :: l.drop (i + 1) := by
  rw [List.drop_eq_getElem_cons h]
  simp [rd_T35, List.getD_eq_getElem?_getD, h]
theorem few_l0 (l : List S35) : ∀ (d i : Nat), i + d = l.length → i ≤ 31 → Ev (fun k => supercargoref43_Few.l0 k l (i : Int)) (decide (l.length ≤ 31) && (l.drop i).all fun x => decide (x.f0.size ≤ 60))
  | 0, i, h, hi => by
    refine Ev.step (fun k => by rw [supercargoref43_Few.l0]) ?_
    refine Ev.neg (by omega) ?_
    rw [List.drop_of_length_le (by omega), decide_eq_true (by omega)]
    exact Ev.now _
  | d + 1, i, h, hi => by
    refine Ev.step (fun k => by rw [supercargoref43_Few.l0]) ?_
    refine Ev.pos (by omega) ?_
    refine Ev.both (fun e => ?_) (fun e => Ev.pos (by omega) ?_)
    · rw [decide_eq_false (by omega)]; exact Ev.now _
    · rw [rdT_drop l i (by omega), List.all_cons]
      refine Ev.both (fun e2 => ?_) (fun e2 => ?_)
      · rw [decide_eq_false (show ¬ (rd_T35 l i).f0.size ≤ 60 by omega), Bool.false_and, Bool.and_false]; exact Ev.now _
      · rw [decide_eq_true (show (rd_T35 l i).f0.size ≤ 60 by omega), Bool.true_and, w64 _ (by omega) (by omega)]
        exact few_l0 l d (i + 1) (by omega) (by omega)
theorem few_ev (l : List S35) (g : List Int) : Ev (fun k => supercargolaw43_few.f k l g) (fewB l && decide (g.length ≤ 60)) := by
  unfold supercargolaw43_few.f supercargoref43_Few.f
  have h := few_l0 l l.length 0 (by omega) (by omega)
  rw [List.drop_zero] at h
  refine Ev.bind (a := fewB l) h ?_
  cases fewB l with
  | true =>
    refine Ev.pos rfl ?_
    rw [Bool.true_and, show decide (g.length ≤ 60) = decide ((g.length : Int) ≤ 60) by simp; omega]
    exact Ev.now _
  | false => exact Ev.neg (by decide) (Ev.now _)
theorem fewB_facts (l : List S35) (h : fewB l = true) : l.length ≤ 31 ∧ ∀ x ∈ l, x.f0.size ≤ 60 := by
  unfold fewB at h
  rw [Bool.and_eq_true] at h
  exact ⟨by simpa using h.1, fun x hx => by simpa using List.all_eq_true.1 h.2 x hx⟩

def vals (l : List S35) : List Int := l.map (·.f1)
theorem vals_length (l : List S35) : (vals l).length = l.length := by simp [vals]
theorem values_l0 (l : List S35) (hn : l.length ≤ 4096) : ∀ (d i : Nat) (acc : List Int), i + d = l.length → acc.length = i → Ev (fun k => average_values.l0 k acc l (l.length : Int) (i : Int)) (acc ++ vals (l.drop i))
  | 0, i, acc, h, ha => by
    refine Ev.step (fun k => by rw [average_values.l0]) ?_
    rw [List.drop_of_length_le (by omega)]
    refine Ev.neg (by omega) ?_
    rw [show vals [] = [] from rfl, List.append_nil]; exact Ev.now _
  | d + 1, i, acc, h, ha => by
    refine Ev.step (fun k => by rw [average_values.l0]) ?_
    refine Ev.pos (by omega) (Ev.pos (by omega) (Ev.pos (by omega) (Ev.pos (by omega) ?_)))
    have ih := values_l0 l hn d (i + 1) (acc ++ [(rd_T35 l i).f1]) (by omega) (by simp [ha])
    rw [w64 _ (by omega) (by omega), rdT_drop l i (by omega)]
    simpa [vals] using ih
theorem values_ev (l : List S35) (hn : l.length ≤ 4096) : Ev (fun k => average_values.f k l) (vals l) := by
  have h := values_l0 l hn l.length 0 [] (by omega) rfl
  unfold average_values.f
  simpa using h
theorem weights_l0 (l : List S35) (hn : l.length ≤ 4096) : ∀ (d i : Nat) (acc : List Int), i + d = l.length → acc.length = i → Ev (fun k => supercargoref43_weights.l0 k l acc (i : Int)) (acc ++ vals (l.drop i))
  | 0, i, acc, h, ha => by
    refine Ev.step (fun k => by rw [supercargoref43_weights.l0]) ?_
    rw [List.drop_of_length_le (by omega)]
    refine Ev.neg (by omega) ?_
    rw [show vals [] = [] from rfl, List.append_nil]; exact Ev.now _
  | d + 1, i, acc, h, ha => by
    refine Ev.step (fun k => by rw [supercargoref43_weights.l0]) ?_
    refine Ev.pos (by omega) (Ev.pos (by omega) (Ev.pos (by omega) ?_))
    have ih := weights_l0 l hn d (i + 1) (acc ++ [(rd_T35 l i).f1]) (by omega) (by simp [ha])
    rw [w64 _ (by omega) (by omega), rdT_drop l i (by omega)]
    simpa [vals] using ih
theorem weights_ev (l : List S35) (hn : l.length ≤ 4096) : Ev (fun k => supercargoref43_weights.f k l) (vals l) := by
  have h := weights_l0 l hn l.length 0 [] (by omega) rfl
  unfold supercargoref43_weights.f
  simpa using h

theorem sumTo_all (l : List Int) : sumTo l l.length = l.sum := by unfold sumTo; rw [List.take_of_length_le (Nat.le_refl _)]
theorem asum_l0 (l : List Int) (hl : ∀ x ∈ l, 0 ≤ x ∧ x ≤ 1099511627776) (hn : l.length ≤ 4096) : ∀ (d i : Nat), i + d = l.length → Ev (fun k => average_sum.l0 k (sumTo l i) l (l.length : Int) (i : Int)) l.sum
  | 0, i, h => by
    refine Ev.step (fun k => by rw [average_sum.l0]) ?_
    obtain rfl : i = l.length := by omega
    rw [sumTo_all]
    exact Ev.neg (by omega) (Ev.now _)
  | d + 1, i, h => by
    obtain ⟨⟨s0, s1⟩, ⟨x0, x1⟩, hsu⟩ := sum_facts l hl hn i (by omega)
    refine Ev.step (fun k => by rw [average_sum.l0]) ?_
    refine Ev.pos (by omega) (Ev.pos (by omega) (Ev.pos (by omega) ?_))
    rw [rd_get, w64 _ (by omega) (by omega), w64 _ (by omega) (by omega), ← hsu]
    exact asum_l0 l hl hn d (i + 1) (by omega)
theorem asum_ev (l : List Int) (hl : ∀ x ∈ l, 0 ≤ x ∧ x ≤ 1099511627776) (hn : l.length ≤ 4096) : Ev (fun k => average_sum.f k l) l.sum := by
  have h := asum_l0 l hl hn l.length 0 (by omega)
  unfold average_sum.f
  simpa [sumTo] using h
theorem rsum_l0 (l : List Int) (hl : ∀ x ∈ l, 0 ≤ x ∧ x ≤ 1099511627776) (hn : l.length ≤ 4096) : ∀ (d i : Nat), i + d = l.length → Ev (fun k => supercargoref43_sum.l0 k l (sumTo l i) (i : Int)) l.sum
  | 0, i, h => by
    refine Ev.step (fun k => by rw [supercargoref43_sum.l0]) ?_
    obtain rfl : i = l.length := by omega
    rw [sumTo_all]
    exact Ev.neg (by omega) (Ev.now _)
  | d + 1, i, h => by
    obtain ⟨⟨s0, s1⟩, ⟨x0, x1⟩, hsu⟩ := sum_facts l hl hn i (by omega)
    refine Ev.step (fun k => by rw [supercargoref43_sum.l0]) ?_
    refine Ev.pos (by omega) (Ev.pos (by omega) ?_)
    rw [rd_get, w64 _ (by omega) (by omega), w64 _ (by omega) (by omega), ← hsu]
    exact rsum_l0 l hl hn d (i + 1) (by omega)
theorem rsum_ev (l : List Int) (hl : ∀ x ∈ l, 0 ≤ x ∧ x ≤ 1099511627776) (hn : l.length ≤ 4096) : Ev (fun k => supercargoref43_sum.f k l) l.sum := by
  have h := rsum_l0 l hl hn l.length 0 (by omega)
  unfold supercargoref43_sum.f
  simpa [sumTo] using h

theorem letter_f (c : Int) : supercargoref03_letter.f c = some (loB c) := by
  unfold supercargoref03_letter.f loB
  by_cases h : c ≥ 97
  · rw [if_pos h, decide_eq_true (show 97 ≤ c from h), Bool.true_and]
  · rw [if_neg h, decide_eq_false (show ¬ 97 ≤ c from h), Bool.false_and]
theorem digit_f (c : Int) : supercargoref03_digit.f c = some (dgB c) := by
  unfold supercargoref03_digit.f dgB
  by_cases h : c ≥ 48
  · rw [if_pos h, decide_eq_true (show 48 ≤ c from h), Bool.true_and]
  · rw [if_neg h, decide_eq_false (show ¬ 48 ≤ c from h), Bool.false_and]
theorem rname_l0 (s : ByteArray) (hn : s.size ≤ 4611686018427387904) : ∀ (d i : Nat), i + d = s.size →
    Ev (fun k => supercargoref03_Name.l0 k s (i : Int)) (decide (1 ≤ s.size) && decide (s.size ≤ 16) && (List.range d).all fun j => nameC (bt s ((i + j : Nat) : Int)))
  | 0, i, h => by
    refine Ev.step (fun k => by rw [supercargoref03_Name.l0]) ?_
    refine Ev.neg (by omega) ?_
    have : ((List.range 0).all fun j => nameC (bt s ((i + j : Nat) : Int))) = true := rfl
    rw [this, Bool.and_true]
    refine Ev.both (fun e => ?_) (fun e => ?_)
    · rw [decide_eq_true (show 1 ≤ s.size by omega), Bool.true_and, show decide ((s.size : Int) ≤ 16) = decide (s.size ≤ 16) by simp; omega]
      exact Ev.now _
    · rw [decide_eq_false (show ¬ 1 ≤ s.size by omega), Bool.false_and]; exact Ev.now _
  | d + 1, i, h => by
    have ih := rname_l0 s hn d (i + 1) (by omega)
    have hall : ((List.range (d + 1)).all fun j => nameC (bt s ((i + j : Nat) : Int))) = (nameC (bt s (i : Int)) && (List.range d).all fun j => nameC (bt s ((i + 1 + j : Nat) : Int))) := by
      rw [List.range_succ_eq_map, List.all_cons, List.all_map, Nat.add_zero]
      congr 1
      refine List.all_congr rfl fun j => ?_
      show nameC (bt s ((i + (j + 1) : Nat) : Int)) = _
      rw [show i + (j + 1) = i + 1 + j by omega]
    refine Ev.step (fun k => by rw [supercargoref03_Name.l0]) ?_
    refine Ev.pos (by omega) (Ev.pos (by omega) (Ev.call (letter_f _) ?_))
    rw [hall, w64 _ (by omega) (by omega)]
    by_cases h1 : loB (bt s (i : Int)) = true
    · rw [show nameC (bt s (i : Int)) = true by unfold nameC; rw [h1]; rfl, Bool.true_and]
      exact Ev.pos h1 ih
    · refine Ev.neg h1 (Ev.call (digit_f _) ?_)
      have h1 : loB (bt s (i : Int)) = false := by simpa using h1
      by_cases h2 : dgB (bt s (i : Int)) = true
      · rw [show nameC (bt s (i : Int)) = true by unfold nameC; rw [h1, h2]; rfl, Bool.true_and]
        exact Ev.pos h2 ih
      · refine Ev.neg h2 ?_
        have h2 : dgB (bt s (i : Int)) = false := by simpa using h2
        refine Ev.both (fun e => ?_) (fun e => ?_)
        · rw [show nameC (bt s (i : Int)) = true by unfold nameC; rw [h1, h2, e]; rfl, Bool.true_and]
          exact ih
        · rw [show nameC (bt s (i : Int)) = false by unfold nameC; rw [h1, h2]; simpa using e, Bool.false_and, Bool.and_false]
          exact Ev.now _
theorem rname_ev (s : ByteArray) (hn : s.size ≤ 4611686018427387904) : Ev (fun k => supercargoref03_Name.f k s) (nameB s) := by
  have h := rname_l0 s hn s.size 0 (by omega)
  unfold supercargoref03_Name.f nameB nameAll
  simpa using h

theorem toList_inj (a b : ByteArray) : a.toList = b.toList ↔ a = b := by
  rw [← MapKept.bytes_beq, beq_toListBytes]
  simp
theorem names_drop (l : List S35) (i j : Nat) (hi : i ≤ l.length) (hj : j < i) : (names l i).drop j = (rd_T35 l j).f0 :: (names l i).drop (j + 1) := by
  have hl : (names l i).length = i := by unfold names; simp; omega
  rw [List.drop_eq_getElem_cons (by omega)]
  congr 1
  unfold names
  simp [rd_T35, List.getD_eq_getElem?_getD, show j < l.length by omega]
theorem rmay_l1 (l : List S35) (hn : l.length ≤ 4611686018427387904) (i : Nat) (hi : i < l.length) (R : Bool) (hR : Ev (fun k => supercargoref43_May.l0 k l ((i + 1 : Nat) : Int)) R) : ∀ (d j : Nat), j + d = i →
    Ev (fun k => supercargoref43_May.l1 k l (i : Int) (j : Int)) (!decide ((rd_T35 l i).f0 ∈ (names l i).drop j) && R)
  | 0, j, h => by
    obtain rfl : j = i := by omega
    refine Ev.step (fun k => by rw [supercargoref43_May.l1]) ?_
    refine Ev.neg (by omega) ?_
    have hl : (names l j).length = j := by unfold names; simp; omega
    rw [List.drop_of_length_le (by omega), w64 _ (by omega) (by omega)]
    simpa using hR
  | d + 1, j, h => by
    have ih := rmay_l1 l hn i hi R hR d (j + 1) (by omega)
    refine Ev.step (fun k => by rw [supercargoref43_May.l1]) ?_
    refine Ev.pos (by omega) (Ev.pos (by omega) (Ev.pos (by omega) (Ev.pos (by omega) (Ev.pos (by omega) ?_))))
    rw [names_drop l i j (by omega) (by omega), w64 _ (by omega) (by omega)]
    refine Ev.both (fun e => ?_) (fun e => ?_)
    · have e := (toList_inj _ _).1 e
      rw [decide_eq_true (show (rd_T35 l i).f0 ∈ (rd_T35 l j).f0 :: (names l i).drop (j + 1) by rw [e]; exact List.mem_cons_self)]
      exact Ev.now _
    · have e : ¬ (rd_T35 l j).f0 = (rd_T35 l i).f0 := fun h => e ((toList_inj _ _).2 h)
      have : decide ((rd_T35 l i).f0 ∈ (rd_T35 l j).f0 :: (names l i).drop (j + 1)) = decide ((rd_T35 l i).f0 ∈ (names l i).drop (j + 1)) := by
        rw [decide_eq_decide, List.mem_cons]
        exact ⟨fun h => h.resolve_left (fun h => e h.symm), Or.inr⟩
      rw [this]; exact ih
theorem rmay_l0 (l : List S35) (hn : l.length ≤ 4611686018427387904) (hs : ∀ x ∈ l, x.f0.size ≤ 4611686018427387904) : ∀ (d i : Nat), i + d = l.length →
    Ev (fun k => supercargoref43_May.l0 k l (i : Int)) (good (names l i) (l.drop i) && decide (1 ≤ l.length ∧ l.length ≤ 4096))
  | 0, i, h => by
    refine Ev.step (fun k => by rw [supercargoref43_May.l0]) ?_
    refine Ev.neg (by omega) ?_
    rw [List.drop_of_length_le (by omega)]
    refine Ev.both (fun e => ?_) (fun e => ?_)
    · have : (good (names l i) [] && decide (1 ≤ l.length ∧ l.length ≤ 4096)) = decide ((l.length : Int) ≤ 4096) := by
        rw [show good (names l i) [] = true from rfl, Bool.true_and, decide_eq_decide]; omega
      rw [this]; exact Ev.now _
    · rw [decide_eq_false (show ¬ (1 ≤ l.length ∧ l.length ≤ 4096) by omega), Bool.and_false]; exact Ev.now _
  | d + 1, i, h => by
    have ih := rmay_l0 l hn hs d (i + 1) (by omega)
    have h1 := rmay_l1 l hn i (by omega) _ ih i 0 (by omega)
    rw [List.drop_zero] at h1
    refine Ev.step (fun k => by rw [supercargoref43_May.l0]) ?_
    refine Ev.pos (by omega) (Ev.pos (by omega) (Ev.bind (rname_ev _ (hs _ (rd_mem l i (by omega)))) ?_))
    rw [(good_step l i (by omega)).1]
    have JT : Ev (fun k => supercargoref43_May.j1 k l (i : Int) true) false := by
      refine Ev.step (fun k => by rw [supercargoref43_May.j1]) ?_
      exact Ev.pos rfl (Ev.now _)
    have JF : Ev (fun k => supercargoref43_May.j1 k l (i : Int) false) (!decide ((rd_T35 l i).f0 ∈ names l i) && (good (names l (i + 1)) (l.drop (i + 1)) && decide (1 ≤ l.length ∧ l.length ≤ 4096))) := by
      refine Ev.step (fun k => by rw [supercargoref43_May.j1]) ?_
      exact Ev.neg (by simp) h1
    cases hnm : nameB (rd_T35 l i).f0 with
    | false => exact Ev.neg (by simp) (by simpa using JT)
    | true =>
      refine Ev.pos rfl ?_
      refine Ev.both (fun e => ?_) (fun e => ?_)
      · rw [decide_eq_false (show ¬ (0 ≤ (rd_T35 l i).f1 ∧ (rd_T35 l i).f1 ≤ 1099511627776) by omega), Bool.and_false, Bool.false_and, Bool.false_and]; exact JT
      · by_cases e2 : (rd_T35 l i).f1 > 1099511627776
        · rw [decide_eq_true e2, decide_eq_false (show ¬ (0 ≤ (rd_T35 l i).f1 ∧ (rd_T35 l i).f1 ≤ 1099511627776) by omega), Bool.and_false, Bool.false_and, Bool.false_and]; exact JT
        · rw [decide_eq_false e2, decide_eq_true (show 0 ≤ (rd_T35 l i).f1 ∧ (rd_T35 l i).f1 ≤ 1099511627776 by omega), Bool.and_true, Bool.true_and, Bool.and_assoc]; exact JF
theorem rmay_ev (l : List S35) (hn : l.length ≤ 4611686018427387904) (hs : ∀ x ∈ l, x.f0.size ≤ 4611686018427387904) : Ev (fun k => supercargoref43_May.f k l) (mayB l) := by
  have h := rmay_l0 l hn hs l.length 0 (by omega)
  unfold supercargoref43_May.f mayB
  simpa [names] using h
theorem may_f (l : List S35) (hn : l.length ≤ 4611686018427387904) (hs : ∀ x ∈ l, x.f0.size ≤ 4611686018427387904) : average_may.f l = some (mayB l) := by
  unfold average_may.f
  rw [if_pos ⟨hn, List.all_eq_true.2 fun x hx => by simpa using hs x hx⟩]
theorem good_vals : ∀ (l : List S35) (ks : List ByteArray), good ks l = true → ∀ x ∈ vals l, 0 ≤ x ∧ x ≤ 1099511627776
  | [], _, _ => by simp [vals]
  | y :: r, ks, h => by
    unfold good at h
    simp only [Bool.and_eq_true, decide_eq_true_eq] at h
    intro x hx
    simp only [vals, List.map_cons, List.mem_cons] at hx
    rcases hx with rfl | hx
    · exact h.1.2
    · exact good_vals r _ h.2 x hx
theorem may_vals (l : List S35) (h : mayB l = true) : (∀ x ∈ vals l, 0 ≤ x ∧ x ≤ 1099511627776) ∧ 1 ≤ l.length ∧ l.length ≤ 4096 := by
  unfold mayB at h
  rw [Bool.and_eq_true] at h
  exact ⟨good_vals l [] h.1, by simpa using h.2⟩

/-- A loss is shared, or refused. -/
def adjustOf (t : Int) (l : List S35) : List Int × Int :=
  if mayB l = false ∨ t < 0 then ([], 1) else if t > (vals l).sum then ([], 3) else if splitErr t (vals l) = 0 then (partsOf t (vals l), 0) else ([], splitErr t (vals l))
theorem adjust_ev (t : Int) (l : List S35) (hn : l.length ≤ 4096) (hs : ∀ x ∈ l, x.f0.size ≤ 4611686018427387904) : Ev (fun k => average_Adjust.f k t l) (adjustOf t l) := by
  unfold average_Adjust.f
  refine Ev.bind (values_ev l hn) (Ev.call (may_f l (by omega) hs) ?_)
  have JT : Ev (fun k => average_Adjust.j0 k t (vals l) true) (([] : List Int), (1 : Int)) := by
    refine Ev.step (fun k => by rw [average_Adjust.j0]) ?_
    exact Ev.pos rfl (Ev.now _)
  unfold adjustOf
  cases hm : mayB l with
  | false => rw [if_pos (Or.inl rfl)]; exact Ev.neg (by simp) JT
  | true =>
    refine Ev.pos rfl ?_
    by_cases h0 : t < 0
    · rw [if_pos (Or.inr h0), decide_eq_true h0]; exact JT
    · rw [if_neg (by rintro (h | h); cases h; exact h0 h), decide_eq_false h0]
      obtain ⟨hv, _, _⟩ := may_vals l hm
      refine Ev.step (fun k => by rw [average_Adjust.j0]) ?_
      refine Ev.neg (by simp) (Ev.bind (asum_ev _ hv (by rw [vals_length]; omega)) ?_)
      refine Ev.both (fun e => ?_) (fun e => ?_)
      · rw [if_pos e]; exact Ev.now _
      · rw [if_neg e]
        refine Ev.call (split_f t _ (by rw [vals_length]; omega)) ?_
        split <;> exact Ev.now _
theorem radjust_ev (t : Int) (l : List S35) (hn : l.length ≤ 4096) (hs : ∀ x ∈ l, x.f0.size ≤ 4611686018427387904) : Ev (fun k => supercargoref43_Adjust.f k t l) (adjustOf t l) := by
  unfold supercargoref43_Adjust.f
  refine Ev.bind (rmay_ev l (by omega) hs) ?_
  have JT : Ev (fun k => supercargoref43_Adjust.j0 k t l true) (([] : List Int), (1 : Int)) := by
    refine Ev.step (fun k => by rw [supercargoref43_Adjust.j0]) ?_
    exact Ev.pos rfl (Ev.now _)
  unfold adjustOf
  cases hm : mayB l with
  | false => rw [if_pos (Or.inl rfl)]; exact Ev.neg (by simp) JT
  | true =>
    refine Ev.pos rfl ?_
    by_cases h0 : t < 0
    · rw [if_pos (Or.inr h0), decide_eq_true h0]; exact JT
    · rw [if_neg (by rintro (h | h); cases h; exact h0 h), decide_eq_false h0]
      obtain ⟨hv, _, _⟩ := may_vals l hm
      refine Ev.step (fun k => by rw [supercargoref43_Adjust.j0]) ?_
      refine Ev.neg (by simp) (Ev.bind (weights_ev l hn) (Ev.bind (rsum_ev _ hv (by rw [vals_length]; omega)) ?_))
      refine Ev.both (fun e => ?_) (fun e => ?_)
      · rw [if_pos e]; exact Ev.now _
      · rw [if_neg e]
        refine Ev.bind (weights_ev l hn) (Ev.bind (error_ev t _ (by rw [vals_length]; omega)) ?_)
        refine Ev.both (fun e2 => ?_) (fun e2 => ?_)
        · rw [if_pos e2]
          exact Ev.bind (weights_ev l hn) (Ev.bind (refsplit_ev t _ e2) (Ev.now _))
        · rw [if_neg e2]; exact Ev.now _

theorem equal_l0 (a b : List Int) (hl : a.length = b.length) (hb : a.length ≤ 4611686018427387904) : ∀ (d i : Nat), i + d = a.length → Ev (fun k => slices_Equal_int64_int64.l0 k a b (a.length : Int) (i : Int)) (decide (a.drop i = b.drop i))
  | 0, i, h => by
    refine Ev.step (fun k => by rw [slices_Equal_int64_int64.l0]) ?_
    refine Ev.neg (by omega) ?_
    rw [List.drop_of_length_le (by omega), List.drop_of_length_le (by omega)]
    exact Ev.now _
  | d + 1, i, h => by
    refine Ev.step (fun k => by rw [slices_Equal_int64_int64.l0]) ?_
    refine Ev.pos (by omega) (Ev.pos (by omega) (Ev.pos (by omega) (Ev.pos (by omega) ?_)))
    rw [rd_get, rd_get, drop_cons a i (by omega), drop_cons b i (by omega)]
    refine Ev.both (fun e => ?_) (fun e => ?_)
    · have ih := equal_l0 a b hl hb d (i + 1) (by omega)
      rw [w64 _ (by omega) (by omega)]
      have : decide (a.getD i 0 :: a.drop (i + 1) = b.getD i 0 :: b.drop (i + 1)) = decide (a.drop (i + 1) = b.drop (i + 1)) := by simp only [e, List.cons.injEq, true_and]
      rw [this]
      exact ih
    · have : decide (a.getD i 0 :: a.drop (i + 1) = b.getD i 0 :: b.drop (i + 1)) = false := by
        rw [decide_eq_false_iff_not]; intro h; exact e (List.cons.inj h).1
      rw [this]
      exact Ev.now _
theorem equal_ev (a b : List Int) (hb : a.length ≤ 4611686018427387904) : Ev (fun k => slices_Equal_int64_int64.f k a b) (decide (a = b)) := by
  unfold slices_Equal_int64_int64.f
  refine Ev.both (fun e => ?_) (fun e => ?_)
  · have h := equal_l0 a b (by omega) hb a.length 0 (by omega)
    simpa using h
  · have : decide (a = b) = false := by rw [decide_eq_false_iff_not]; rintro rfl; exact e rfl
    rw [this]
    exact Ev.now _
theorem adjustOf_length (t : Int) (l : List S35) (hn : l.length ≤ 4096) : (adjustOf t l).1.length ≤ 4096 := by
  unfold adjustOf
  split
  · simp
  · split
    · simp
    · split
      · simp only [partsOf_length, vals_length]; exact hn
      · simp
theorem aright_ev (t : Int) (ps : List Int) (l : List S35) (hn : l.length ≤ 4096) (hs : ∀ x ∈ l, x.f0.size ≤ 4611686018427387904) :
    Ev (fun k => average_Right.f k t ps l) (decide ((adjustOf t l).2 = 0) && decide ((adjustOf t l).1 = ps)) := by
  unfold average_Right.f
  refine Ev.bind (adjust_ev t l hn hs) ?_
  refine Ev.both (fun e => ?_) (fun e => ?_)
  · rw [decide_eq_true e, Bool.true_and]
    exact Ev.bind (equal_ev _ _ (by have := adjustOf_length t l hn; omega)) (Ev.now _)
  · rw [decide_eq_false e, Bool.false_and]; exact Ev.now _
end Go.Proofs.Yteeehijpdkbgkaa.Print
