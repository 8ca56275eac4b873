/- Just the parts of a split are right, and none of one that has an error. Conditions: those of the given statement. -/
import Derived.Test.YthbbfbhgcoffeaaPrint11
import Derived.DataShut
import Derived.Test.YthbbfbhgcoffeaaMparts
import Derived.Test.YthbbfbhgcoffeaaMshare
import Derived.Test.YthbbfbhgcoffeaaMsplitb
namespace Go.Proofs.Ythbbfbhgcoffeaa.Pure
open Go.RowKit Go.Proofs.Ythbbfbhgcoffeaa.Print Go.Proofs.YthbbfbhgcoffeaaW.PrintWords Go.Proofs.YthbbfbhgcoffeaaW.PrintLast

theorem equal_l0 (a b : List Int) (hl : a.length = b.length) (hb : a.length ≤ 4611686018427387904) : ∀ (d i : Nat), i + d = a.length → Ev (fun k => slices_Equal_int64_int64.l0 k a b (a.length : Int) (i : Int)) (decide (a.drop i = b.drop i))
  | 0, i, h => by
    refine Ev.step (fun k => by rw [slices_Equal_int64_int64.l0]) ?_
    refine Ev.neg (by omega) ?_
    rw [List.drop_of_length_le (by omega), List.drop_of_length_le (by omega)]
    exact Ev.now _
  | d + 1, i, h => by
    refine Ev.step (fun k => by rw [slices_Equal_int64_int64.l0]) ?_
    refine Ev.pos (by omega) (Ev.pos (by omega) (Ev.pos (by omega) (Ev.pos (by omega) ?_)))
    rw [rd_get, rd_get, drop_cons a i (by omega), drop_cons b i (by omega)]
    refine Ev.both (fun e => ?_) (fun e => ?_)
    · have ih := equal_l0 a b hl hb d (i + 1) (by omega)
      rw [w64 _ (by omega) (by omega)]
      have : decide (a.getD i 0 :: a.drop (i + 1) = b.getD i 0 :: b.drop (i + 1)) = decide (a.drop (i + 1) = b.drop (i + 1)) := by simp only [e, List.cons.injEq, true_and]
      rw [this]
      exact ih
    · have : decide (a.getD i 0 :: a.drop (i + 1) = b.getD i 0 :: b.drop (i + 1)) = false := by
        rw [decide_eq_false_iff_not]; intro h; exact e (List.cons.inj h).1
      rw [this]
      exact Ev.now _
theorem equal_ev (a b : List Int) (hb : a.length ≤ 4611686018427387904) : Ev (fun k => slices_Equal_int64_int64.f k a b) (decide (a = b)) := by
  unfold slices_Equal_int64_int64.f
  refine Ev.both (fun e => ?_) (fun e => ?_)
  · have h := equal_l0 a b (by omega) hb a.length 0 (by omega)
    simpa using h
  · have : decide (a = b) = false := by rw [decide_eq_false_iff_not]; rintro rfl; exact e rfl
    rw [this]
    exact Ev.now _
theorem right_ev (t : Int) (o l : List Int) (ho : o.length ≤ 4611686018427387904) (hl : l.length ≤ 4611686018427387904) :
    Ev (fun k => share_Right.f k t o l) (decide (splitErr t l = 0 ∧ o = partsOf t l)) := by
  unfold share_Right.f
  refine Ev.call (split_f t l hl) ?_
  by_cases he : splitErr t l = 0
  · rw [if_pos he]
    refine Ev.pos rfl (Ev.bind (equal_ev o _ ho) ?_)
    have : decide (splitErr t l = 0 ∧ o = partsOf t l) = decide (o = partsOf t l) := by simp only [he, true_and]
    rw [this]
    exact Ev.now _
  · rw [if_neg he]
    refine Ev.neg he ?_
    have : decide (splitErr t l = 0 ∧ o = partsOf t l) = false := by rw [decide_eq_false_iff_not]; rintro ⟨h, _⟩; exact he h
    rw [this]
    exact Ev.now _

theorem ShareRight : supercargolaw04_ShareRight.Pure := by
  intro t l o at_ more wt hm hb wl hm2 hb2 wo wat wmore
  refine Ev.le (r := true) ?_
  unfold supercargolaw04_ShareRight.f
  refine Ev.bind awake04_ev (Ev.pos rfl ?_)
  have J : ∀ b : Bool, (b = false → l.length ≤ 40 ∧ o.length ≤ 40) → Ev (fun k => supercargolaw04_ShareRight.j0 k t l o at_ more b) true := by
    intro b hbb
    refine Ev.step (fun k => by rw [supercargolaw04_ShareRight.j0]) ?_
    refine Ev.both (fun e => Ev.bind awake04_ev (Ev.now _)) (fun e => ?_)
    obtain ⟨hn, hno⟩ := hbb (by simpa using e)
    refine Ev.bind (error_ev t l (by omega)) ?_
    refine Ev.both (fun he => ?_) (fun he => ?_)
    · obtain ⟨t0, t1, n0, n1, hl, hs⟩ := splitErr_facts t l he
      refine Ev.bind (refsplit_ev t l he) ?_
      have hz : l.sum = 0 → t = 0 := fun h => by by_cases h0 : 0 < t; (have := hs h0; omega); omega
      have hpl := partsOf_length t l
      refine Ev.bind (right_ev t _ l (by omega) (by omega)) (Ev.pos (by simp [he]) ?_)
      refine Ev.bind (right_ev t o l (by omega) (by omega)) (Ev.bind (same_ev o _ (by omega)) ?_)
      refine Ev.neg (by simp [he]) (Ev.neg (by omega) ?_)
      have wa : 0 ≤ at_ ∧ at_ ≤ 255 := (Lit.wf_int_iff .u8 at_).1 wat
      have wm : -128 ≤ more ∧ more ≤ 127 := (Lit.wf_int_iff .i8 more).1 wmore
      have hlp : (0 : Int) < (partsOf t l).length := by omega
      rw [w64 at_ (by omega) (by omega), w64 more (by omega) (by omega), Int.tmod_eq_emod_of_nonneg wa.1]
      have h0 := Int.emod_nonneg at_ (show ((partsOf t l).length : Int) ≠ 0 by omega)
      have h1 := Int.emod_lt_of_pos at_ hlp
      obtain ⟨i, hi⟩ := Int.eq_ofNat_of_zero_le h0
      rw [hi] at h1 ⊢
      refine Ev.pos (by omega) (Ev.pos h1 ?_)
      rw [rd_get, Int.toNat_natCast]
      have hil : i < (partsOf t l).length := by omega
      have hb := parts_bd t l t0 t1 hl hz _ (getD_mem _ i hil)
      rw [w64 _ (by omega) (by omega)]
      refine Ev.bind (right_ev t _ l (by rw [List.length_set]; omega) (by omega)) ?_
      have hv : (decide (splitErr t l = 0 ∧ (partsOf t l).set i ((partsOf t l).getD i 0 + more) = partsOf t l) == (more == 0)) = true := by
        by_cases hm0 : more = 0
        · subst hm0
          have : (partsOf t l).set i ((partsOf t l).getD i 0 + 0) = partsOf t l := by
            rw [Int.add_zero, List.getD_eq_getElem?_getD, List.getElem?_eq_getElem hil, Option.getD_some, List.set_getElem_self]
          rw [this]; simp [he]
        · have : ¬ (partsOf t l).set i ((partsOf t l).getD i 0 + more) = partsOf t l := by
            intro h
            have h2 := getD_set (partsOf t l) i i ((partsOf t l).getD i 0 + more) hil
            rw [h, if_pos rfl] at h2
            omega
          rw [decide_eq_false (by rintro ⟨_, h⟩; exact this h)]; simp [hm0]
      rw [hv]
      exact Ev.now _
    · refine Ev.bind (right_ev t o l (by omega) (by omega)) (Ev.neg (by simp [he]) ?_)
      refine Ev.bind (right_ev t [] l (by simp) (by omega)) ?_
      have : (!decide (splitErr t l = 0 ∧ ([] : List Int) = partsOf t l)) = true := by simp [he]
      rw [this]
      exact Ev.now _
  refine Ev.both (fun e => J true (by simp)) (fun e => J _ (fun h => ?_))
  simp at h
  omega
end Go.Proofs.Ythbbfbhgcoffeaa.Pure
