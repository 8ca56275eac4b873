/- Contracts of the program's functions over this seat's translation, written out by this session's own driver. Conditions: those in each statement. -/
import Derived.Test.YteeehijpdkbgkaaPrint0
import Derived.Test.YteeehijpdkbgkaaPrint12
import Derived.Test.YteeehijpdkbgkaaPrint14
import Derived.Test.YteeehijpdkbgkaaPrint23
namespace Go.Proofs.Yteeehijpdkbgkaa.Print
open Go.RowKit Go.Proofs.YteeehijpdkbgkaaW.PrintWords Go.Proofs.YteeehijpdkbgkaaW.PrintLast Go.Proofs.YteeehijpdkbgkaaW.PrintMore
attribute [local go_sem] max2_int min2_int max_two min_two max_three min_three max_four min_four   -- for this text's walks alone
set_option linter.unusedVariables false
set_option linter.unusedSimpArgs false

/-! ### supercargolaw43_AverageFair: function 8 -/
mutual
def supercargolaw43_AverageFair.j0 : Nat → List (S35) → List Int → Int → Int → Int → Bool → Option (Bool)
  | 0, _, _, _, _, _, _ => none
  | k + 1, x0, x1, x2, x3, x4, x43 => if x43 = true then (some true) else ((average_Values.f k x0 x1).bind fun bt408 => ((average_Whole.f k x0 x1 x2).bind fun bt412 => (if bt412.2.2 = 0 then (if bt408.2 = 0 then (if (bt408.1.length : Int) = (x0.length : Int) then (if (bt412.2.1.length : Int) = (x0.length : Int) then (supercargolaw43_AverageFair.j1 k x0 x3 x4 bt408.1 bt412.1 bt412.2.1 ((bt412.1.length : Int) != (x0.length : Int))) else (supercargolaw43_AverageFair.j1 k x0 x3 x4 bt408.1 bt412.1 bt412.2.1 true)) else (supercargolaw43_AverageFair.j1 k x0 x3 x4 bt408.1 bt412.1 bt412.2.1 true)) else (supercargolaw43_AverageFair.j1 k x0 x3 x4 bt408.1 bt412.1 bt412.2.1 true)) else (if bt408.2 = 0 then (some true) else (if bt408.2 = bt412.2.2 then (some ((bt408.1.length : Int) == 0)) else (some false))))))
def supercargolaw43_AverageFair.j1 : Nat → List (S35) → Int → Int → List Int → List Int → List Int → Bool → Option (Bool)
  | 0, _, _, _, _, _, _, _ => none
  | k + 1, x0, x3, x4, x11, x13, x14, x94 => if x94 = true then (some false) else (if 0 ≤ x3 then (if x3 < (x11.length : Int) then (if x3 < (x14.length : Int) then (if 0 ≤ x4 then (if x4 < (x11.length : Int) then (if x4 < (x14.length : Int) then (if x3 < (x0.length : Int) then (if x3 < (x13.length : Int) then (if (wrap64 ((rd x11 x3) + (rd x14 x3))) = (wrap64 (((rd_T35 x0 x3).f1) - (rd x13 x3))) then (if x4 < (x0.length : Int) then (if x4 < (x13.length : Int) then (if (wrap64 ((rd x11 x4) + (rd x14 x4))) = (wrap64 (((rd_T35 x0 x4).f1) - (rd x13 x4))) then (if (wrap64 ((rd x11 x3) + (rd x14 x3))) < 0 then (some false) else (if (wrap64 ((rd x11 x4) + (rd x14 x4))) < 0 then (some false) else (if ((rd_T35 x0 x3).f1) = ((rd_T35 x0 x4).f1) then (if (wrap64 ((wrap64 ((rd x11 x3) + (rd x14 x3))) - (wrap64 ((rd x11 x4) + (rd x14 x4))))) ≤ 1 then (some (decide ((wrap64 ((wrap64 ((rd x11 x4) + (rd x14 x4))) - (wrap64 ((rd x11 x3) + (rd x14 x3))))) ≤ 1))) else (some false)) else (some true)))) else (some false)) else (none)) else (none)) else (some false)) else (none)) else (none)) else (none)) else (none)) else (none)) else (none)) else (none)) else (none))
end
def supercargolaw43_AverageFair.f (k : Nat) (l0 : List (S35)) (l1 : List Int) (a2 : Int) (a3 : Int) (a4 : Int) : Option (Bool) := (supercargolaw43_awake.f k).bind fun t406 => (if t406 = true then ((supercargolaw43_few.f k l0 l1).bind fun t407 => (if t407 = true then (if a3 < 0 then (supercargolaw43_AverageFair.j0 k l0 l1 a2 a3 a4 true) else (if a3 ≥ (l0.length : Int) then (supercargolaw43_AverageFair.j0 k l0 l1 a2 a3 a4 true) else (if a4 < 0 then (supercargolaw43_AverageFair.j0 k l0 l1 a2 a3 a4 true) else (supercargolaw43_AverageFair.j0 k l0 l1 a2 a3 a4 (decide (a4 ≥ (l0.length : Int))))))) else (supercargolaw43_AverageFair.j0 k l0 l1 a2 a3 a4 true))) else (some false))
theorem supercargolaw43_AverageFair.mono_l : ∀ k, (∀ y0 y1 y2 y3 y4 y5, LeO (supercargolaw43_AverageFair.j0 k y0 y1 y2 y3 y4 y5) (supercargolaw43_AverageFair.j0 (k + 1) y0 y1 y2 y3 y4 y5)) ∧ (∀ y0 y1 y2 y3 y4 y5 y6, LeO (supercargolaw43_AverageFair.j1 k y0 y1 y2 y3 y4 y5 y6) (supercargolaw43_AverageFair.j1 (k + 1) y0 y1 y2 y3 y4 y5 y6))
  | 0 => ⟨fun _ _ _ _ _ _ r h => by simp [supercargolaw43_AverageFair.j0] at h, fun _ _ _ _ _ _ _ r h => by simp [supercargolaw43_AverageFair.j1] at h⟩
  | k + 1 => by
    obtain ⟨ih0, ih1⟩ := supercargolaw43_AverageFair.mono_l k
    refine ⟨?_, ?_⟩
    · intro y0 y1 y2 y3 y4 y5
      unfold supercargolaw43_AverageFair.j0
      repeat' first
      | (with_reducible exact ih0 _ _ _ _ _ _)
      | (with_reducible exact ih1 _ _ _ _ _ _ _)
      | (with_reducible exact average_Values.mono _ _ _)
      | (with_reducible exact average_Whole.mono _ _ _ _)
      | (with_reducible exact supercargolaw43_awake.mono _)
      | (with_reducible exact supercargolaw43_few.mono _ _ _)
      | (with_reducible exact LeO.refl _)
      | (with_reducible exact LeO.none _)
      | (with_reducible refine LeO.ite ?_ ?_)
      | (with_reducible refine LeO.bind ?_ (fun _ => ?_))
      | exact ih0 _ _ _ _ _ _
      | exact ih1 _ _ _ _ _ _ _
      | exact average_Values.mono _ _ _
      | exact average_Whole.mono _ _ _ _
      | exact supercargolaw43_awake.mono _
      | exact supercargolaw43_few.mono _ _ _
      | exact LeO.none _
      | refine LeO.ite ?_ ?_
      | refine LeO.bind ?_ (fun _ => ?_)
    · intro y0 y1 y2 y3 y4 y5 y6
      unfold supercargolaw43_AverageFair.j1
      repeat' first
      | (with_reducible exact ih0 _ _ _ _ _ _)
      | (with_reducible exact ih1 _ _ _ _ _ _ _)
      | (with_reducible exact average_Values.mono _ _ _)
      | (with_reducible exact average_Whole.mono _ _ _ _)
      | (with_reducible exact supercargolaw43_awake.mono _)
      | (with_reducible exact supercargolaw43_few.mono _ _ _)
      | (with_reducible exact LeO.refl _)
      | (with_reducible exact LeO.none _)
      | (with_reducible refine LeO.ite ?_ ?_)
      | (with_reducible refine LeO.bind ?_ (fun _ => ?_))
      | exact ih0 _ _ _ _ _ _
      | exact ih1 _ _ _ _ _ _ _
      | exact average_Values.mono _ _ _
      | exact average_Whole.mono _ _ _ _
      | exact supercargolaw43_awake.mono _
      | exact supercargolaw43_few.mono _ _ _
      | exact LeO.none _
      | refine LeO.ite ?_ ?_
      | refine LeO.bind ?_ (fun _ => ?_)
theorem supercargolaw43_AverageFair.mono : ∀ a0 a1 a2 a3 a4 k, LeO (supercargolaw43_AverageFair.f k a0 a1 a2 a3 a4) (supercargolaw43_AverageFair.f (k + 1) a0 a1 a2 a3 a4) := by
  intro a0 a1 a2 a3 a4 k
  obtain ⟨ih0, ih1⟩ := supercargolaw43_AverageFair.mono_l k
  unfold supercargolaw43_AverageFair.f
  repeat' first
      | (with_reducible exact ih0 _ _ _ _ _ _)
      | (with_reducible exact ih1 _ _ _ _ _ _ _)
      | (with_reducible exact average_Values.mono _ _ _)
      | (with_reducible exact average_Whole.mono _ _ _ _)
      | (with_reducible exact supercargolaw43_awake.mono _)
      | (with_reducible exact supercargolaw43_few.mono _ _ _)
      | (with_reducible exact LeO.refl _)
      | (with_reducible exact LeO.none _)
      | (with_reducible refine LeO.ite ?_ ?_)
      | (with_reducible refine LeO.bind ?_ (fun _ => ?_))
      | exact ih0 _ _ _ _ _ _
      | exact ih1 _ _ _ _ _ _ _
      | exact average_Values.mono _ _ _
      | exact average_Whole.mono _ _ _ _
      | exact supercargolaw43_awake.mono _
      | exact supercargolaw43_few.mono _ _ _
      | exact LeO.none _
      | refine LeO.ite ?_ ?_
      | refine LeO.bind ?_ (fun _ => ?_)
set_option maxHeartbeats 8000000 in
set_option maxRecDepth 100000 in
theorem supercargolaw43_AverageFair.calls (k : Nat) (A0 : Option Addr) (c0 : Nat) (l0 : List (S35)) (A1 : Option Addr) (c1 : Nat) (l1 : List Int) (a2 : Int) (a3 : Int) (a4 : Int) (r : Bool) (w : World) (hr0 : Kd.C k35 w A0 l0.length l0) (hc0 : l0.length ≤ c0) (hr1 : Kd.C (Kd.int .i64) w A1 l1.length l1) (hc1 : l1.length ≤ c1) (h : supercargolaw43_AverageFair.f k l0 l1 a2 a3 a4 = some r) :
    Calls Try.prog 8 #[.slice A0 l0.length c0, .slice A1 l1.length c1, .int .i64 a2, .int .i64 a3, .int .i64 a4] w fun e w' => e = .returned (.bool r) ∧ Below w.heap.size w w' := by
  have HR0 := Aside0.mk hr0
  have HC0 := Aside0.mk hc0
  clear hr0 hc0
  have HR1 := Aside0.mk hr1
  have HC1 := Aside0.mk hc1
  clear hr1 hc1
  have HB := Aside0.mk (Below.refl w.heap.size w)
  have H : ((supercargolaw43_awake.f k).bind fun t406 => (if t406 = true then ((supercargolaw43_few.f k l0 l1).bind fun t407 => (if t407 = true then (if a3 < 0 then (supercargolaw43_AverageFair.j0 k l0 l1 a2 a3 a4 true) else (if a3 ≥ (l0.length : Int) then (supercargolaw43_AverageFair.j0 k l0 l1 a2 a3 a4 true) else (if a4 < 0 then (supercargolaw43_AverageFair.j0 k l0 l1 a2 a3 a4 true) else (supercargolaw43_AverageFair.j0 k l0 l1 a2 a3 a4 (decide (a4 ≥ (l0.length : Int))))))) else (supercargolaw43_AverageFair.j0 k l0 l1 a2 a3 a4 true))) else (some false))) = some r := h
  clear h
  replace H := Option.bind_eq_some_iff.mp H
  obtain ⟨t406, A60, H⟩ := H
  replace H : (if t406 = true then ((supercargolaw43_few.f k l0 l1).bind fun t407 => (if t407 = true then (if a3 < 0 then (supercargolaw43_AverageFair.j0 k l0 l1 a2 a3 a4 true) else (if a3 ≥ (l0.length : Int) then (supercargolaw43_AverageFair.j0 k l0 l1 a2 a3 a4 true) else (if a4 < 0 then (supercargolaw43_AverageFair.j0 k l0 l1 a2 a3 a4 true) else (supercargolaw43_AverageFair.j0 k l0 l1 a2 a3 a4 (decide (a4 ≥ (l0.length : Int))))))) else (supercargolaw43_AverageFair.j0 k l0 l1 a2 a3 a4 true))) else (some false)) = some r := H
  have A6 := Aside0.mk A60
  clear A60
  by_cases c7 : t406 = true
  · subst c7
    have H1 : ((supercargolaw43_few.f k l0 l1).bind fun t407 => (if t407 = true then (if a3 < 0 then (supercargolaw43_AverageFair.j0 k l0 l1 a2 a3 a4 true) else (if a3 ≥ (l0.length : Int) then (supercargolaw43_AverageFair.j0 k l0 l1 a2 a3 a4 true) else (if a4 < 0 then (supercargolaw43_AverageFair.j0 k l0 l1 a2 a3 a4 true) else (supercargolaw43_AverageFair.j0 k l0 l1 a2 a3 a4 (decide (a4 ≥ (l0.length : Int))))))) else (supercargolaw43_AverageFair.j0 k l0 l1 a2 a3 a4 true))) = some r := by rw [if_pos rfl] at H; exact H
    clear H
    have H := H1
    clear H1
    have HC8 := Aside0.mk H
    clear H
    go_enter Try.func8, Try.ntmps8
    go_upto_region 3 with (first | (go_at_call 10; (with_reducible refine (supercargolaw43_awake.calls k  true _ A6.out).mono ?_); rintro e w9 ⟨rfl, hb⟩; have n0_ := Aside0.mk (below_step (by repeat (first | (with_reducible first | exact HB.out | apply below_alloc | apply pw_below_drewN | apply below_drew1) | exact HB.out)) hb); clear HB; have HB := n0_; clear n0_; (try clear hb); (try clear hb2); (try clear hk); (try clear hi)))
    repeat (go_quiet (first | (go_at_call 10; (with_reducible refine (supercargolaw43_awake.calls k  true _ A6.out).mono ?_); rintro e w9 ⟨rfl, hb⟩; have n0_ := Aside0.mk (below_step (by repeat (first | (with_reducible first | exact HB.out | apply below_alloc | apply pw_below_drewN | apply below_drew1) | exact HB.out)) hb); clear HB; have HB := n0_; clear n0_; (try clear hb); (try clear hb2); (try clear hk); (try clear hi))); go_upto_region 3 with (first | (go_at_call 10; (with_reducible refine (supercargolaw43_awake.calls k  true _ A6.out).mono ?_); rintro e w9 ⟨rfl, hb⟩; have n0_ := Aside0.mk (below_step (by repeat (first | (with_reducible first | exact HB.out | apply below_alloc | apply pw_below_drewN | apply below_drew1) | exact HB.out)) hb); clear HB; have HB := n0_; clear n0_; (try clear hb); (try clear hb2); (try clear hk); (try clear hi))))
    (try simp only [Act.put, List.setIfInBounds_toArray, List.set_cons_zero, List.set_cons_succ])
    go_cut [43] (fun v43 wc => ∃ (kq : Nat) (x43_7 : Bool), v43 = .bool x43_7 ∧ Aside0 (supercargolaw43_AverageFair.j0 kq l0 l1 a2 a3 a4 x43_7 = some r) ∧ Aside0 (kq ≤ k) ∧ Aside0 (Below w.heap.size w wc))
    case first =>
      have H := HC8.out
      clear HC8
      replace H := Option.bind_eq_some_iff.mp H
      obtain ⟨t407, A100, H⟩ := H
      replace H : (if t407 = true then (if a3 < 0 then (supercargolaw43_AverageFair.j0 k l0 l1 a2 a3 a4 true) else (if a3 ≥ (l0.length : Int) then (supercargolaw43_AverageFair.j0 k l0 l1 a2 a3 a4 true) else (if a4 < 0 then (supercargolaw43_AverageFair.j0 k l0 l1 a2 a3 a4 true) else (supercargolaw43_AverageFair.j0 k l0 l1 a2 a3 a4 (decide (a4 ≥ (l0.length : Int))))))) else (supercargolaw43_AverageFair.j0 k l0 l1 a2 a3 a4 true)) = some r := H
      have A10 := Aside0.mk A100
      clear A100
      by_cases c11 : t407 = true
      · subst c11
        have H1 : (if a3 < 0 then (supercargolaw43_AverageFair.j0 k l0 l1 a2 a3 a4 true) else (if a3 ≥ (l0.length : Int) then (supercargolaw43_AverageFair.j0 k l0 l1 a2 a3 a4 true) else (if a4 < 0 then (supercargolaw43_AverageFair.j0 k l0 l1 a2 a3 a4 true) else (supercargolaw43_AverageFair.j0 k l0 l1 a2 a3 a4 (decide (a4 ≥ (l0.length : Int))))))) = some r := by rw [if_pos rfl] at H; exact H
        clear H
        have H := H1
        clear H1
        by_cases c12 : a3 < 0
        · rw [if_pos c12] at H
          have c12b0 : decide (a3 < 0) = true := decide_eq_true c12
          clear c12
          (first | rw [c12b0] | (simp only [i64_w, i32_w]; rw [c12b0]) | skip)
          have H' := Aside0.mk H
          clear H
          go_wp2_with (first | (go_at_call 11; (with_reducible refine (supercargolaw43_few.calls k _ _ l0 _ _ l1 true _ ?side1 ?side2 ?side3 ?side4 A10.out).mono ?_); (case side1 => repeat (first | exact (Kd.C_below HR0.out HB.out) | (with_reducible refine Kd.C_alloc ?_ _) | (with_reducible refine Kd.C_drewN ?_ _) | (with_reducible refine Kd.C_drew ?_))); (case side2 => exact HC0.out); (case side3 => repeat (first | exact (Kd.C_below HR1.out HB.out) | (with_reducible refine Kd.C_alloc ?_ _) | (with_reducible refine Kd.C_drewN ?_ _) | (with_reducible refine Kd.C_drew ?_))); (case side4 => exact HC1.out); rintro e w' ⟨rfl, ⟨nd, rfl⟩⟩; (try first | exact ⟨rfl, _, World.drewN_drewN _ _ _⟩ | exact ⟨rfl, _, Eq.trans (World.drewN_drewN _ _ _) (congrArg (World.drewN _) (Nat.add_assoc _ _ _))⟩)))
          repeat (go_quiet (first | (go_at_call 11; (with_reducible refine (supercargolaw43_few.calls k _ _ l0 _ _ l1 true _ ?side1 ?side2 ?side3 ?side4 A10.out).mono ?_); (case side1 => repeat (first | exact (Kd.C_below HR0.out HB.out) | (with_reducible refine Kd.C_alloc ?_ _) | (with_reducible refine Kd.C_drewN ?_ _) | (with_reducible refine Kd.C_drew ?_))); (case side2 => exact HC0.out); (case side3 => repeat (first | exact (Kd.C_below HR1.out HB.out) | (with_reducible refine Kd.C_alloc ?_ _) | (with_reducible refine Kd.C_drewN ?_ _) | (with_reducible refine Kd.C_drew ?_))); (case side4 => exact HC1.out); rintro e w' ⟨rfl, ⟨nd, rfl⟩⟩; (try first | exact ⟨rfl, _, World.drewN_drewN _ _ _⟩ | exact ⟨rfl, _, Eq.trans (World.drewN_drewN _ _ _) (congrArg (World.drewN _) (Nat.add_assoc _ _ _))⟩))); try go_wp2_with (first | (go_at_call 11; (with_reducible refine (supercargolaw43_few.calls k _ _ l0 _ _ l1 true _ ?side1 ?side2 ?side3 ?side4 A10.out).mono ?_); (case side1 => repeat (first | exact (Kd.C_below HR0.out HB.out) | (with_reducible refine Kd.C_alloc ?_ _) | (with_reducible refine Kd.C_drewN ?_ _) | (with_reducible refine Kd.C_drew ?_))); (case side2 => exact HC0.out); (case side3 => repeat (first | exact (Kd.C_below HR1.out HB.out) | (with_reducible refine Kd.C_alloc ?_ _) | (with_reducible refine Kd.C_drewN ?_ _) | (with_reducible refine Kd.C_drew ?_))); (case side4 => exact HC1.out); rintro e w' ⟨rfl, ⟨nd, rfl⟩⟩; (try first | exact ⟨rfl, _, World.drewN_drewN _ _ _⟩ | exact ⟨rfl, _, Eq.trans (World.drewN_drewN _ _ _) (congrArg (World.drewN _) (Nat.add_assoc _ _ _))⟩))))
          go_meet
          case rel => exact ⟨_, (true), (by first | rfl | (simp; done) | (simp [*]; done)), H', ⟨by first | omega | exact Nat.le_refl _⟩, ⟨by repeat (first | (with_reducible first | exact HB.out | apply below_alloc | apply pw_below_drewN | apply below_drew1) | exact HB.out)⟩⟩
        · rw [if_neg c12] at H
          have c12b0 : decide (a3 < 0) = false := decide_eq_false c12
          clear c12
          (first | rw [c12b0] | (simp only [i64_w, i32_w]; rw [c12b0]) | skip)
          by_cases c13 : a3 ≥ (l0.length : Int)
          · rw [if_pos c13] at H
            have c13b0 : decide ((l0.length : Int) ≤ a3) = true := decide_eq_true c13
            clear c13
            have H' := Aside0.mk H
            clear H
            go_wp2_with (first | (go_at_call 11; (with_reducible refine (supercargolaw43_few.calls k _ _ l0 _ _ l1 true _ ?side1 ?side2 ?side3 ?side4 A10.out).mono ?_); (case side1 => repeat (first | exact (Kd.C_below HR0.out HB.out) | (with_reducible refine Kd.C_alloc ?_ _) | (with_reducible refine Kd.C_drewN ?_ _) | (with_reducible refine Kd.C_drew ?_))); (case side2 => exact HC0.out); (case side3 => repeat (first | exact (Kd.C_below HR1.out HB.out) | (with_reducible refine Kd.C_alloc ?_ _) | (with_reducible refine Kd.C_drewN ?_ _) | (with_reducible refine Kd.C_drew ?_))); (case side4 => exact HC1.out); rintro e w' ⟨rfl, ⟨nd, rfl⟩⟩; (try first | exact ⟨rfl, _, World.drewN_drewN _ _ _⟩ | exact ⟨rfl, _, Eq.trans (World.drewN_drewN _ _ _) (congrArg (World.drewN _) (Nat.add_assoc _ _ _))⟩)))
            repeat (go_quiet (first | (go_at_call 11; (with_reducible refine (supercargolaw43_few.calls k _ _ l0 _ _ l1 true _ ?side1 ?side2 ?side3 ?side4 A10.out).mono ?_); (case side1 => repeat (first | exact (Kd.C_below HR0.out HB.out) | (with_reducible refine Kd.C_alloc ?_ _) | (with_reducible refine Kd.C_drewN ?_ _) | (with_reducible refine Kd.C_drew ?_))); (case side2 => exact HC0.out); (case side3 => repeat (first | exact (Kd.C_below HR1.out HB.out) | (with_reducible refine Kd.C_alloc ?_ _) | (with_reducible refine Kd.C_drewN ?_ _) | (with_reducible refine Kd.C_drew ?_))); (case side4 => exact HC1.out); rintro e w' ⟨rfl, ⟨nd, rfl⟩⟩; (try first | exact ⟨rfl, _, World.drewN_drewN _ _ _⟩ | exact ⟨rfl, _, Eq.trans (World.drewN_drewN _ _ _) (congrArg (World.drewN _) (Nat.add_assoc _ _ _))⟩))); try go_wp2_with (first | (go_at_call 11; (with_reducible refine (supercargolaw43_few.calls k _ _ l0 _ _ l1 true _ ?side1 ?side2 ?side3 ?side4 A10.out).mono ?_); (case side1 => repeat (first | exact (Kd.C_below HR0.out HB.out) | (with_reducible refine Kd.C_alloc ?_ _) | (with_reducible refine Kd.C_drewN ?_ _) | (with_reducible refine Kd.C_drew ?_))); (case side2 => exact HC0.out); (case side3 => repeat (first | exact (Kd.C_below HR1.out HB.out) | (with_reducible refine Kd.C_alloc ?_ _) | (with_reducible refine Kd.C_drewN ?_ _) | (with_reducible refine Kd.C_drew ?_))); (case side4 => exact HC1.out); rintro e w' ⟨rfl, ⟨nd, rfl⟩⟩; (try first | exact ⟨rfl, _, World.drewN_drewN _ _ _⟩ | exact ⟨rfl, _, Eq.trans (World.drewN_drewN _ _ _) (congrArg (World.drewN _) (Nat.add_assoc _ _ _))⟩))))
            go_meet
            case rel => exact ⟨_, (true), (by first | rfl | (simp; done) | (simp [*]; done)), H', ⟨by first | omega | exact Nat.le_refl _⟩, ⟨by repeat (first | (with_reducible first | exact HB.out | apply below_alloc | apply pw_below_drewN | apply below_drew1) | exact HB.out)⟩⟩
          · rw [if_neg c13] at H
            have c13b0 : decide ((l0.length : Int) ≤ a3) = false := decide_eq_false c13
            clear c13
            by_cases c14 : a4 < 0
            · rw [if_pos c14] at H
              have c14b0 : decide (a4 < 0) = true := decide_eq_true c14
              clear c14
              have H' := Aside0.mk H
              clear H
              go_wp2_with (first | (go_at_call 11; (with_reducible refine (supercargolaw43_few.calls k _ _ l0 _ _ l1 true _ ?side1 ?side2 ?side3 ?side4 A10.out).mono ?_); (case side1 => repeat (first | exact (Kd.C_below HR0.out HB.out) | (with_reducible refine Kd.C_alloc ?_ _) | (with_reducible refine Kd.C_drewN ?_ _) | (with_reducible refine Kd.C_drew ?_))); (case side2 => exact HC0.out); (case side3 => repeat (first | exact (Kd.C_below HR1.out HB.out) | (with_reducible refine Kd.C_alloc ?_ _) | (with_reducible refine Kd.C_drewN ?_ _) | (with_reducible refine Kd.C_drew ?_))); (case side4 => exact HC1.out); rintro e w' ⟨rfl, ⟨nd, rfl⟩⟩; (try first | exact ⟨rfl, _, World.drewN_drewN _ _ _⟩ | exact ⟨rfl, _, Eq.trans (World.drewN_drewN _ _ _) (congrArg (World.drewN _) (Nat.add_assoc _ _ _))⟩)))
              repeat (go_quiet (first | (go_at_call 11; (with_reducible refine (supercargolaw43_few.calls k _ _ l0 _ _ l1 true _ ?side1 ?side2 ?side3 ?side4 A10.out).mono ?_); (case side1 => repeat (first | exact (Kd.C_below HR0.out HB.out) | (with_reducible refine Kd.C_alloc ?_ _) | (with_reducible refine Kd.C_drewN ?_ _) | (with_reducible refine Kd.C_drew ?_))); (case side2 => exact HC0.out); (case side3 => repeat (first | exact (Kd.C_below HR1.out HB.out) | (with_reducible refine Kd.C_alloc ?_ _) | (with_reducible refine Kd.C_drewN ?_ _) | (with_reducible refine Kd.C_drew ?_))); (case side4 => exact HC1.out); rintro e w' ⟨rfl, ⟨nd, rfl⟩⟩; (try first | exact ⟨rfl, _, World.drewN_drewN _ _ _⟩ | exact ⟨rfl, _, Eq.trans (World.drewN_drewN _ _ _) (congrArg (World.drewN _) (Nat.add_assoc _ _ _))⟩))); try go_wp2_with (first | (go_at_call 11; (with_reducible refine (supercargolaw43_few.calls k _ _ l0 _ _ l1 true _ ?side1 ?side2 ?side3 ?side4 A10.out).mono ?_); (case side1 => repeat (first | exact (Kd.C_below HR0.out HB.out) | (with_reducible refine Kd.C_alloc ?_ _) | (with_reducible refine Kd.C_drewN ?_ _) | (with_reducible refine Kd.C_drew ?_))); (case side2 => exact HC0.out); (case side3 => repeat (first | exact (Kd.C_below HR1.out HB.out) | (with_reducible refine Kd.C_alloc ?_ _) | (with_reducible refine Kd.C_drewN ?_ _) | (with_reducible refine Kd.C_drew ?_))); (case side4 => exact HC1.out); rintro e w' ⟨rfl, ⟨nd, rfl⟩⟩; (try first | exact ⟨rfl, _, World.drewN_drewN _ _ _⟩ | exact ⟨rfl, _, Eq.trans (World.drewN_drewN _ _ _) (congrArg (World.drewN _) (Nat.add_assoc _ _ _))⟩))))
              go_meet
              case rel => exact ⟨_, (true), (by first | rfl | (simp; done) | (simp [*]; done)), H', ⟨by first | omega | exact Nat.le_refl _⟩, ⟨by repeat (first | (with_reducible first | exact HB.out | apply below_alloc | apply pw_below_drewN | apply below_drew1) | exact HB.out)⟩⟩
            · rw [if_neg c14] at H
              have c14b0 : decide (a4 < 0) = false := decide_eq_false c14
              clear c14
              have H' := Aside0.mk H
              clear H
              go_wp2_with (first | (go_at_call 11; (with_reducible refine (supercargolaw43_few.calls k _ _ l0 _ _ l1 true _ ?side1 ?side2 ?side3 ?side4 A10.out).mono ?_); (case side1 => repeat (first | exact (Kd.C_below HR0.out HB.out) | (with_reducible refine Kd.C_alloc ?_ _) | (with_reducible refine Kd.C_drewN ?_ _) | (with_reducible refine Kd.C_drew ?_))); (case side2 => exact HC0.out); (case side3 => repeat (first | exact (Kd.C_below HR1.out HB.out) | (with_reducible refine Kd.C_alloc ?_ _) | (with_reducible refine Kd.C_drewN ?_ _) | (with_reducible refine Kd.C_drew ?_))); (case side4 => exact HC1.out); rintro e w' ⟨rfl, ⟨nd, rfl⟩⟩; (try first | exact ⟨rfl, _, World.drewN_drewN _ _ _⟩ | exact ⟨rfl, _, Eq.trans (World.drewN_drewN _ _ _) (congrArg (World.drewN _) (Nat.add_assoc _ _ _))⟩)))
              repeat (go_quiet (first | (go_at_call 11; (with_reducible refine (supercargolaw43_few.calls k _ _ l0 _ _ l1 true _ ?side1 ?side2 ?side3 ?side4 A10.out).mono ?_); (case side1 => repeat (first | exact (Kd.C_below HR0.out HB.out) | (with_reducible refine Kd.C_alloc ?_ _) | (with_reducible refine Kd.C_drewN ?_ _) | (with_reducible refine Kd.C_drew ?_))); (case side2 => exact HC0.out); (case side3 => repeat (first | exact (Kd.C_below HR1.out HB.out) | (with_reducible refine Kd.C_alloc ?_ _) | (with_reducible refine Kd.C_drewN ?_ _) | (with_reducible refine Kd.C_drew ?_))); (case side4 => exact HC1.out); rintro e w' ⟨rfl, ⟨nd, rfl⟩⟩; (try first | exact ⟨rfl, _, World.drewN_drewN _ _ _⟩ | exact ⟨rfl, _, Eq.trans (World.drewN_drewN _ _ _) (congrArg (World.drewN _) (Nat.add_assoc _ _ _))⟩))); try go_wp2_with (first | (go_at_call 11; (with_reducible refine (supercargolaw43_few.calls k _ _ l0 _ _ l1 true _ ?side1 ?side2 ?side3 ?side4 A10.out).mono ?_); (case side1 => repeat (first | exact (Kd.C_below HR0.out HB.out) | (with_reducible refine Kd.C_alloc ?_ _) | (with_reducible refine Kd.C_drewN ?_ _) | (with_reducible refine Kd.C_drew ?_))); (case side2 => exact HC0.out); (case side3 => repeat (first | exact (Kd.C_below HR1.out HB.out) | (with_reducible refine Kd.C_alloc ?_ _) | (with_reducible refine Kd.C_drewN ?_ _) | (with_reducible refine Kd.C_drew ?_))); (case side4 => exact HC1.out); rintro e w' ⟨rfl, ⟨nd, rfl⟩⟩; (try first | exact ⟨rfl, _, World.drewN_drewN _ _ _⟩ | exact ⟨rfl, _, Eq.trans (World.drewN_drewN _ _ _) (congrArg (World.drewN _) (Nat.add_assoc _ _ _))⟩))))
              go_meet
              case rel => exact ⟨_, (decide (a4 ≥ (l0.length : Int))), (by first | rfl | (simp; done) | (simp [*]; done)), H', ⟨by first | omega | exact Nat.le_refl _⟩, ⟨by repeat (first | (with_reducible first | exact HB.out | apply below_alloc | apply pw_below_drewN | apply below_drew1) | exact HB.out)⟩⟩
      · replace c11 := Bool.eq_false_iff.mpr c11
        subst c11
        have H1 : (supercargolaw43_AverageFair.j0 k l0 l1 a2 a3 a4 true) = some r := by rw [if_neg (show ¬ (false = true) by decide)] at H; exact H
        clear H
        have H := H1
        clear H1
        have H' := Aside0.mk H
        clear H
        go_wp2_with (first | (go_at_call 11; (with_reducible refine (supercargolaw43_few.calls k _ _ l0 _ _ l1 false _ ?side1 ?side2 ?side3 ?side4 A10.out).mono ?_); (case side1 => repeat (first | exact (Kd.C_below HR0.out HB.out) | (with_reducible refine Kd.C_alloc ?_ _) | (with_reducible refine Kd.C_drewN ?_ _) | (with_reducible refine Kd.C_drew ?_))); (case side2 => exact HC0.out); (case side3 => repeat (first | exact (Kd.C_below HR1.out HB.out) | (with_reducible refine Kd.C_alloc ?_ _) | (with_reducible refine Kd.C_drewN ?_ _) | (with_reducible refine Kd.C_drew ?_))); (case side4 => exact HC1.out); rintro e w' ⟨rfl, ⟨nd, rfl⟩⟩; (try first | exact ⟨rfl, _, World.drewN_drewN _ _ _⟩ | exact ⟨rfl, _, Eq.trans (World.drewN_drewN _ _ _) (congrArg (World.drewN _) (Nat.add_assoc _ _ _))⟩)))
        repeat (go_quiet (first | (go_at_call 11; (with_reducible refine (supercargolaw43_few.calls k _ _ l0 _ _ l1 false _ ?side1 ?side2 ?side3 ?side4 A10.out).mono ?_); (case side1 => repeat (first | exact (Kd.C_below HR0.out HB.out) | (with_reducible refine Kd.C_alloc ?_ _) | (with_reducible refine Kd.C_drewN ?_ _) | (with_reducible refine Kd.C_drew ?_))); (case side2 => exact HC0.out); (case side3 => repeat (first | exact (Kd.C_below HR1.out HB.out) | (with_reducible refine Kd.C_alloc ?_ _) | (with_reducible refine Kd.C_drewN ?_ _) | (with_reducible refine Kd.C_drew ?_))); (case side4 => exact HC1.out); rintro e w' ⟨rfl, ⟨nd, rfl⟩⟩; (try first | exact ⟨rfl, _, World.drewN_drewN _ _ _⟩ | exact ⟨rfl, _, Eq.trans (World.drewN_drewN _ _ _) (congrArg (World.drewN _) (Nat.add_assoc _ _ _))⟩))); try go_wp2_with (first | (go_at_call 11; (with_reducible refine (supercargolaw43_few.calls k _ _ l0 _ _ l1 false _ ?side1 ?side2 ?side3 ?side4 A10.out).mono ?_); (case side1 => repeat (first | exact (Kd.C_below HR0.out HB.out) | (with_reducible refine Kd.C_alloc ?_ _) | (with_reducible refine Kd.C_drewN ?_ _) | (with_reducible refine Kd.C_drew ?_))); (case side2 => exact HC0.out); (case side3 => repeat (first | exact (Kd.C_below HR1.out HB.out) | (with_reducible refine Kd.C_alloc ?_ _) | (with_reducible refine Kd.C_drewN ?_ _) | (with_reducible refine Kd.C_drew ?_))); (case side4 => exact HC1.out); rintro e w' ⟨rfl, ⟨nd, rfl⟩⟩; (try first | exact ⟨rfl, _, World.drewN_drewN _ _ _⟩ | exact ⟨rfl, _, Eq.trans (World.drewN_drewN _ _ _) (congrArg (World.drewN _) (Nat.add_assoc _ _ _))⟩))))
        go_meet
        case rel => exact ⟨_, (true), (by first | rfl | (simp; done) | (simp [*]; done)), H', ⟨by first | omega | exact Nat.le_refl _⟩, ⟨by repeat (first | (with_reducible first | exact HB.out | apply below_alloc | apply pw_below_drewN | apply below_drew1) | exact HB.out)⟩⟩
    case rest =>
      clear HC8
      try clear c1
      try clear p2
      try clear c7
      try clear c8
      try clear c11
      try clear c12
      try clear c12b0
      try clear c13
      try clear c13b0
      try clear c14
      try clear c14b0
      obtain ⟨kq, x43_7, rfl, HA, HJ7, HB⟩ := hcut
      cases kq with
      | zero => exact absurd HA.out (by simp [supercargolaw43_AverageFair.j0])
      | succ kj7 =>
        have H := HA.out
        clear HA
        simp only [supercargolaw43_AverageFair.j0] at H
        by_cases c15 : x43_7 = true
        · subst c15
          have H1 : (some true) = some r := by rw [if_pos rfl] at H; exact H
          clear H
          have H := H1
          clear H1
          obtain rfl := Option.some.inj H
          go_wp2
          repeat (go_quiet (fail); try go_wp2)
          go_ret
          exact ⟨by first | rfl | (simp [errW_none, errW_some] <;> rfl) | (simp [*, errW_none, errW_some] <;> rfl), by repeat (first | (with_reducible first | exact HB.out | apply below_alloc | apply pw_below_drewN | apply below_drew1) | exact HB.out)⟩
        · replace c15 := Bool.eq_false_iff.mpr c15
          subst c15
          have H1 : ((average_Values.f kj7 l0 l1).bind fun bt408 => ((average_Whole.f kj7 l0 l1 a2).bind fun bt412 => (if bt412.2.2 = 0 then (if bt408.2 = 0 then (if (bt408.1.length : Int) = (l0.length : Int) then (if (bt412.2.1.length : Int) = (l0.length : Int) then (supercargolaw43_AverageFair.j1 kj7 l0 a3 a4 bt408.1 bt412.1 bt412.2.1 ((bt412.1.length : Int) != (l0.length : Int))) else (supercargolaw43_AverageFair.j1 kj7 l0 a3 a4 bt408.1 bt412.1 bt412.2.1 true)) else (supercargolaw43_AverageFair.j1 kj7 l0 a3 a4 bt408.1 bt412.1 bt412.2.1 true)) else (supercargolaw43_AverageFair.j1 kj7 l0 a3 a4 bt408.1 bt412.1 bt412.2.1 true)) else (if bt408.2 = 0 then (some true) else (if bt408.2 = bt412.2.2 then (some ((bt408.1.length : Int) == 0)) else (some false)))))) = some r := by rw [if_neg (show ¬ (false = true) by decide)] at H; exact H
          clear H
          have H := H1
          clear H1
          replace H := Option.bind_eq_some_iff.mp H
          obtain ⟨⟨t408, t409⟩, A160, H⟩ := H
          replace H : ((average_Whole.f kj7 l0 l1 a2).bind fun bt412 => (if bt412.2.2 = 0 then (if t409 = 0 then (if (t408.length : Int) = (l0.length : Int) then (if (bt412.2.1.length : Int) = (l0.length : Int) then (supercargolaw43_AverageFair.j1 kj7 l0 a3 a4 t408 bt412.1 bt412.2.1 ((bt412.1.length : Int) != (l0.length : Int))) else (supercargolaw43_AverageFair.j1 kj7 l0 a3 a4 t408 bt412.1 bt412.2.1 true)) else (supercargolaw43_AverageFair.j1 kj7 l0 a3 a4 t408 bt412.1 bt412.2.1 true)) else (supercargolaw43_AverageFair.j1 kj7 l0 a3 a4 t408 bt412.1 bt412.2.1 true)) else (if t409 = 0 then (some true) else (if t409 = bt412.2.2 then (some ((t408.length : Int) == 0)) else (some false))))) = some r := H
          have A16 := Aside0.mk A160
          clear A160
          replace H := Option.bind_eq_some_iff.mp H
          obtain ⟨⟨t412, t413, t414⟩, A170, H⟩ := H
          replace H : (if t414 = 0 then (if t409 = 0 then (if (t408.length : Int) = (l0.length : Int) then (if (t413.length : Int) = (l0.length : Int) then (supercargolaw43_AverageFair.j1 kj7 l0 a3 a4 t408 t412 t413 ((t412.length : Int) != (l0.length : Int))) else (supercargolaw43_AverageFair.j1 kj7 l0 a3 a4 t408 t412 t413 true)) else (supercargolaw43_AverageFair.j1 kj7 l0 a3 a4 t408 t412 t413 true)) else (supercargolaw43_AverageFair.j1 kj7 l0 a3 a4 t408 t412 t413 true)) else (if t409 = 0 then (some true) else (if t409 = t414 then (some ((t408.length : Int) == 0)) else (some false)))) = some r := H
          have A17 := Aside0.mk A170
          clear A170
          by_cases c18 : t414 = 0
          · rw [if_pos c18] at H
            have c18b0 : (t414 == 0) = true := beq_iff_eq.mpr c18
            have c18b1 : (t414 != 0) = false := bne_eq_false_iff_eq.mpr c18
            clear c18
            have HC19 := Aside0.mk H
            clear H
            go_upto_region 9 with (first | (go_at_call 18; (with_reducible refine (average_Values.calls kj7 _ _ l0 _ _ l1 t408 t409 _ ?side1 ?side2 ?side3 ?side4 A16.out).mono ?_); (case side1 => repeat (first | exact (Kd.C_below HR0.out HB.out) | (with_reducible refine Kd.C_alloc ?_ _) | (with_reducible refine Kd.C_drewN ?_ _) | (with_reducible refine Kd.C_drew ?_))); (case side2 => exact HC0.out); (case side3 => repeat (first | exact (Kd.C_below HR1.out HB.out) | (with_reducible refine Kd.C_alloc ?_ _) | (with_reducible refine Kd.C_drewN ?_ _) | (with_reducible refine Kd.C_drew ?_))); (case side4 => exact HC1.out); rintro e w20 ⟨v410, rfl, ho0, hb⟩; have n0_ := Aside0.mk (Kd.R_lower ho0 (below_size (by repeat (first | (with_reducible first | exact HB.out | apply below_alloc | apply pw_below_drewN | apply below_drew1) | exact HB.out)))); have n1_ := Aside0.mk (below_step (by repeat (first | (with_reducible first | exact HB.out | apply below_alloc | apply pw_below_drewN | apply below_drew1) | exact HB.out)) hb); clear HB; have HO411 := n0_; have HB := n1_; clear n0_ n1_; (try clear hb); (try clear hb2); (try clear hk); (try clear hi); (try clear ho0)) | (go_at_call 15; (with_reducible refine (average_Whole.calls kj7 _ _ l0 _ _ l1 a2 t412 t413 t414 _ ?side1 ?side2 ?side3 ?side4 A17.out).mono ?_); (case side1 => repeat (first | exact (Kd.C_below HR0.out HB.out) | (with_reducible refine Kd.C_alloc ?_ _) | (with_reducible refine Kd.C_drewN ?_ _) | (with_reducible refine Kd.C_drew ?_))); (case side2 => exact HC0.out); (case side3 => repeat (first | exact (Kd.C_below HR1.out HB.out) | (with_reducible refine Kd.C_alloc ?_ _) | (with_reducible refine Kd.C_drewN ?_ _) | (with_reducible refine Kd.C_drew ?_))); (case side4 => exact HC1.out); rintro e w21 ⟨v415, v417, rfl, ho0, ho1, hb⟩; have n0_ := Aside0.mk (Kd.R_mono (Kd.R_told (Kd.R_told (Kd.R_old (by (with_reducible repeat (first | apply Kd.R_alloc | apply Kd.R_drewN | apply Kd.R_drew)); exact HO411.out) hb) (Kd.R_base ho0)) (Kd.R_base ho1)) (fun _ h_ => h_.1)); have n1_ := Aside0.mk (Kd.R_lower (Kd.R_new' ho0 (Kd.R_lt (by (with_reducible repeat (first | apply Kd.R_alloc | apply Kd.R_drewN | apply Kd.R_drew)); exact HO411.out))) (below_size (by repeat (first | (with_reducible first | exact HB.out | apply below_alloc | apply pw_below_drewN | apply below_drew1) | exact HB.out)))); have n2_ := Aside0.mk (Kd.R_lower (Kd.R_new' ho1 (Kd.R_lt (by (with_reducible repeat (first | apply Kd.R_alloc | apply Kd.R_drewN | apply Kd.R_drew)); exact HO411.out))) (below_size (by repeat (first | (with_reducible first | exact HB.out | apply below_alloc | apply pw_below_drewN | apply below_drew1) | exact HB.out)))); have n3_ := Aside0.mk (below_step (by repeat (first | (with_reducible first | exact HB.out | apply below_alloc | apply pw_below_drewN | apply below_drew1) | exact HB.out)) hb); clear HO411; clear HB; have HO411 := n0_; have HO416 := n1_; have HO418 := n2_; have HB := n3_; clear n0_ n1_ n2_ n3_; (try clear hb); (try clear hb2); (try clear hk); (try clear hi); (try clear ho0); (try clear ho1)))
            repeat (go_quiet (first | (go_at_call 18; (with_reducible refine (average_Values.calls kj7 _ _ l0 _ _ l1 t408 t409 _ ?side1 ?side2 ?side3 ?side4 A16.out).mono ?_); (case side1 => repeat (first | exact (Kd.C_below HR0.out HB.out) | (with_reducible refine Kd.C_alloc ?_ _) | (with_reducible refine Kd.C_drewN ?_ _) | (with_reducible refine Kd.C_drew ?_))); (case side2 => exact HC0.out); (case side3 => repeat (first | exact (Kd.C_below HR1.out HB.out) | (with_reducible refine Kd.C_alloc ?_ _) | (with_reducible refine Kd.C_drewN ?_ _) | (with_reducible refine Kd.C_drew ?_))); (case side4 => exact HC1.out); rintro e w20 ⟨v410, rfl, ho0, hb⟩; have n0_ := Aside0.mk (Kd.R_lower ho0 (below_size (by repeat (first | (with_reducible first | exact HB.out | apply below_alloc | apply pw_below_drewN | apply below_drew1) | exact HB.out)))); have n1_ := Aside0.mk (below_step (by repeat (first | (with_reducible first | exact HB.out | apply below_alloc | apply pw_below_drewN | apply below_drew1) | exact HB.out)) hb); clear HB; have HO411 := n0_; have HB := n1_; clear n0_ n1_; (try clear hb); (try clear hb2); (try clear hk); (try clear hi); (try clear ho0)) | (go_at_call 15; (with_reducible refine (average_Whole.calls kj7 _ _ l0 _ _ l1 a2 t412 t413 t414 _ ?side1 ?side2 ?side3 ?side4 A17.out).mono ?_); (case side1 => repeat (first | exact (Kd.C_below HR0.out HB.out) | (with_reducible refine Kd.C_alloc ?_ _) | (with_reducible refine Kd.C_drewN ?_ _) | (with_reducible refine Kd.C_drew ?_))); (case side2 => exact HC0.out); (case side3 => repeat (first | exact (Kd.C_below HR1.out HB.out) | (with_reducible refine Kd.C_alloc ?_ _) | (with_reducible refine Kd.C_drewN ?_ _) | (with_reducible refine Kd.C_drew ?_))); (case side4 => exact HC1.out); rintro e w21 ⟨v415, v417, rfl, ho0, ho1, hb⟩; have n0_ := Aside0.mk (Kd.R_mono (Kd.R_told (Kd.R_told (Kd.R_old (by (with_reducible repeat (first | apply Kd.R_alloc | apply Kd.R_drewN | apply Kd.R_drew)); exact HO411.out) hb) (Kd.R_base ho0)) (Kd.R_base ho1)) (fun _ h_ => h_.1)); have n1_ := Aside0.mk (Kd.R_lower (Kd.R_new' ho0 (Kd.R_lt (by (with_reducible repeat (first | apply Kd.R_alloc | apply Kd.R_drewN | apply Kd.R_drew)); exact HO411.out))) (below_size (by repeat (first | (with_reducible first | exact HB.out | apply below_alloc | apply pw_below_drewN | apply below_drew1) | exact HB.out)))); have n2_ := Aside0.mk (Kd.R_lower (Kd.R_new' ho1 (Kd.R_lt (by (with_reducible repeat (first | apply Kd.R_alloc | apply Kd.R_drewN | apply Kd.R_drew)); exact HO411.out))) (below_size (by repeat (first | (with_reducible first | exact HB.out | apply below_alloc | apply pw_below_drewN | apply below_drew1) | exact HB.out)))); have n3_ := Aside0.mk (below_step (by repeat (first | (with_reducible first | exact HB.out | apply below_alloc | apply pw_below_drewN | apply below_drew1) | exact HB.out)) hb); clear HO411; clear HB; have HO411 := n0_; have HO416 := n1_; have HO418 := n2_; have HB := n3_; clear n0_ n1_ n2_ n3_; (try clear hb); (try clear hb2); (try clear hk); (try clear hi); (try clear ho0); (try clear ho1))); go_upto_region 9 with (first | (go_at_call 18; (with_reducible refine (average_Values.calls kj7 _ _ l0 _ _ l1 t408 t409 _ ?side1 ?side2 ?side3 ?side4 A16.out).mono ?_); (case side1 => repeat (first | exact (Kd.C_below HR0.out HB.out) | (with_reducible refine Kd.C_alloc ?_ _) | (with_reducible refine Kd.C_drewN ?_ _) | (with_reducible refine Kd.C_drew ?_))); (case side2 => exact HC0.out); (case side3 => repeat (first | exact (Kd.C_below HR1.out HB.out) | (with_reducible refine Kd.C_alloc ?_ _) | (with_reducible refine Kd.C_drewN ?_ _) | (with_reducible refine Kd.C_drew ?_))); (case side4 => exact HC1.out); rintro e w20 ⟨v410, rfl, ho0, hb⟩; have n0_ := Aside0.mk (Kd.R_lower ho0 (below_size (by repeat (first | (with_reducible first | exact HB.out | apply below_alloc | apply pw_below_drewN | apply below_drew1) | exact HB.out)))); have n1_ := Aside0.mk (below_step (by repeat (first | (with_reducible first | exact HB.out | apply below_alloc | apply pw_below_drewN | apply below_drew1) | exact HB.out)) hb); clear HB; have HO411 := n0_; have HB := n1_; clear n0_ n1_; (try clear hb); (try clear hb2); (try clear hk); (try clear hi); (try clear ho0)) | (go_at_call 15; (with_reducible refine (average_Whole.calls kj7 _ _ l0 _ _ l1 a2 t412 t413 t414 _ ?side1 ?side2 ?side3 ?side4 A17.out).mono ?_); (case side1 => repeat (first | exact (Kd.C_below HR0.out HB.out) | (with_reducible refine Kd.C_alloc ?_ _) | (with_reducible refine Kd.C_drewN ?_ _) | (with_reducible refine Kd.C_drew ?_))); (case side2 => exact HC0.out); (case side3 => repeat (first | exact (Kd.C_below HR1.out HB.out) | (with_reducible refine Kd.C_alloc ?_ _) | (with_reducible refine Kd.C_drewN ?_ _) | (with_reducible refine Kd.C_drew ?_))); (case side4 => exact HC1.out); rintro e w21 ⟨v415, v417, rfl, ho0, ho1, hb⟩; have n0_ := Aside0.mk (Kd.R_mono (Kd.R_told (Kd.R_told (Kd.R_old (by (with_reducible repeat (first | apply Kd.R_alloc | apply Kd.R_drewN | apply Kd.R_drew)); exact HO411.out) hb) (Kd.R_base ho0)) (Kd.R_base ho1)) (fun _ h_ => h_.1)); have n1_ := Aside0.mk (Kd.R_lower (Kd.R_new' ho0 (Kd.R_lt (by (with_reducible repeat (first | apply Kd.R_alloc | apply Kd.R_drewN | apply Kd.R_drew)); exact HO411.out))) (below_size (by repeat (first | (with_reducible first | exact HB.out | apply below_alloc | apply pw_below_drewN | apply below_drew1) | exact HB.out)))); have n2_ := Aside0.mk (Kd.R_lower (Kd.R_new' ho1 (Kd.R_lt (by (with_reducible repeat (first | apply Kd.R_alloc | apply Kd.R_drewN | apply Kd.R_drew)); exact HO411.out))) (below_size (by repeat (first | (with_reducible first | exact HB.out | apply below_alloc | apply pw_below_drewN | apply below_drew1) | exact HB.out)))); have n3_ := Aside0.mk (below_step (by repeat (first | (with_reducible first | exact HB.out | apply below_alloc | apply pw_below_drewN | apply below_drew1) | exact HB.out)) hb); clear HO411; clear HB; have HO411 := n0_; have HO416 := n1_; have HO418 := n2_; have HB := n3_; clear n0_ n1_ n2_ n3_; (try clear hb); (try clear hb2); (try clear hk); (try clear hi); (try clear ho0); (try clear ho1))))
            (try simp only [Act.put, List.setIfInBounds_toArray, List.set_cons_zero, List.set_cons_succ])
            go_cut [94] (fun v94 wc => ∃ (kq : Nat) (x94_18 : Bool), v94 = .bool x94_18 ∧ Aside0 (supercargolaw43_AverageFair.j1 kq l0 a3 a4 t408 t412 t413 x94_18 = some r) ∧ Aside0 (kq ≤ kj7) ∧ Aside0 (Kd.R (Kd.int .i64) 2 wc w.heap.size (fun k_ => some k_ ≠ (v415 : Value).ownBlock ∧ some k_ ≠ (v417 : Value).ownBlock) v410 t408) ∧ Aside0 (Kd.R (Kd.int .i64) 2 wc w.heap.size (fun k_ => some k_ ≠ (v410 : Value).ownBlock ∧ some k_ ≠ (v417 : Value).ownBlock) v415 t412) ∧ Aside0 (Kd.R (Kd.int .i64) 2 wc w.heap.size (fun k_ => some k_ ≠ (v410 : Value).ownBlock ∧ some k_ ≠ (v415 : Value).ownBlock) v417 t413) ∧ Aside0 (Below w.heap.size w wc))
            case first =>
              have H := HC19.out
              clear HC19
              by_cases c22 : t409 = 0
              · rw [if_pos c22] at H
                have c22b0 : (t409 == 0) = true := beq_iff_eq.mpr c22
                have c22b1 : (t409 != 0) = false := bne_eq_false_iff_eq.mpr c22
                clear c22
                (first | rw [c22b0] | (simp only [i64_w, i32_w]; rw [c22b0]) | skip)
                by_cases c23 : (t408.length : Int) = (l0.length : Int)
                · rw [if_pos c23] at H
                  have c23b0 : ((t408.length : Int) == (l0.length : Int)) = true := beq_iff_eq.mpr c23
                  have c23b1 : ((t408.length : Int) != (l0.length : Int)) = false := bne_eq_false_iff_eq.mpr c23
                  have c23b2 : (t408.length == l0.length) = true := by first | simpa using c23 | (simp at c23 ⊢; omega)
                  clear c23
                  by_cases c24 : (t413.length : Int) = (l0.length : Int)
                  · rw [if_pos c24] at H
                    have c24b0 : ((t413.length : Int) == (l0.length : Int)) = true := beq_iff_eq.mpr c24
                    have c24b1 : ((t413.length : Int) != (l0.length : Int)) = false := bne_eq_false_iff_eq.mpr c24
                    have c24b2 : (t413.length == l0.length) = true := by first | simpa using c24 | (simp at c24 ⊢; omega)
                    clear c24
                    have H' := Aside0.mk H
                    clear H
                    obtain ⟨Ao25, co25, eo25⟩ := Kd.R_slice HO411.out
                    subst eo25
                    obtain ⟨Ao26, co26, eo26⟩ := Kd.R_slice HO418.out
                    subst eo26
                    obtain ⟨Ao27, co27, eo27⟩ := Kd.R_slice HO416.out
                    subst eo27
                    go_wp2
                    repeat (go_quiet (fail); try go_wp2)
                    go_meet
                    case rel => exact ⟨_, (((t412.length : Int) != (l0.length : Int))), (by first | rfl | (simp; done) | (simp [*]; done)), H', ⟨by have := HJ7.out; first | omega | exact Nat.le_refl _⟩, ⟨by (with_reducible repeat (first | apply Kd.R_alloc | apply Kd.R_drewN | apply Kd.R_drew)); exact Kd.R_mono HO411.out (fun _ hk => ⟨hk.1.2, hk.2⟩)⟩, ⟨by (with_reducible repeat (first | apply Kd.R_alloc | apply Kd.R_drewN | apply Kd.R_drew)); exact Kd.R_mono HO416.out (fun _ hk => ⟨hk.2, hk.1⟩)⟩, ⟨by (with_reducible repeat (first | apply Kd.R_alloc | apply Kd.R_drewN | apply Kd.R_drew)); exact Kd.R_mono HO418.out (fun _ hk => ⟨hk.2, hk.1⟩)⟩, ⟨by repeat (first | (with_reducible first | exact HB.out | apply below_alloc | apply pw_below_drewN | apply below_drew1) | exact HB.out)⟩⟩
                  · rw [if_neg c24] at H
                    have c24b0 : ((t413.length : Int) == (l0.length : Int)) = false := beq_eq_false_iff_ne.mpr c24
                    have c24b1 : ((t413.length : Int) != (l0.length : Int)) = true := bne_iff_ne.mpr c24
                    have c24b2 : (t413.length == l0.length) = false := by first | simpa using c24 | (simp at c24 ⊢; omega)
                    have H' := Aside0.mk H
                    clear H
                    obtain ⟨Ao28, co28, eo28⟩ := Kd.R_slice HO411.out
                    subst eo28
                    obtain ⟨Ao29, co29, eo29⟩ := Kd.R_slice HO418.out
                    subst eo29
                    go_wp2
                    repeat (go_quiet (fail); try go_wp2)
                    go_meet
                    case rel => exact ⟨_, (true), (by first | rfl | (simp; done) | (simp [*]; done)), H', ⟨by have := HJ7.out; first | omega | exact Nat.le_refl _⟩, ⟨by (with_reducible repeat (first | apply Kd.R_alloc | apply Kd.R_drewN | apply Kd.R_drew)); exact Kd.R_mono HO411.out (fun _ hk => ⟨hk.1.2, hk.2⟩)⟩, ⟨by (with_reducible repeat (first | apply Kd.R_alloc | apply Kd.R_drewN | apply Kd.R_drew)); exact Kd.R_mono HO416.out (fun _ hk => ⟨hk.2, hk.1⟩)⟩, ⟨by (with_reducible repeat (first | apply Kd.R_alloc | apply Kd.R_drewN | apply Kd.R_drew)); exact Kd.R_mono HO418.out (fun _ hk => ⟨hk.2, hk.1⟩)⟩, ⟨by repeat (first | (with_reducible first | exact HB.out | apply below_alloc | apply pw_below_drewN | apply below_drew1) | exact HB.out)⟩⟩
                · rw [if_neg c23] at H
                  have c23b0 : ((t408.length : Int) == (l0.length : Int)) = false := beq_eq_false_iff_ne.mpr c23
                  have c23b1 : ((t408.length : Int) != (l0.length : Int)) = true := bne_iff_ne.mpr c23
                  have c23b2 : (t408.length == l0.length) = false := by first | simpa using c23 | (simp at c23 ⊢; omega)
                  have H' := Aside0.mk H
                  clear H
                  obtain ⟨Ao30, co30, eo30⟩ := Kd.R_slice HO411.out
                  subst eo30
                  go_wp2
                  repeat (go_quiet (fail); try go_wp2)
                  go_meet
                  case rel => exact ⟨_, (true), (by first | rfl | (simp; done) | (simp [*]; done)), H', ⟨by have := HJ7.out; first | omega | exact Nat.le_refl _⟩, ⟨by (with_reducible repeat (first | apply Kd.R_alloc | apply Kd.R_drewN | apply Kd.R_drew)); exact Kd.R_mono HO411.out (fun _ hk => ⟨hk.1.2, hk.2⟩)⟩, ⟨by (with_reducible repeat (first | apply Kd.R_alloc | apply Kd.R_drewN | apply Kd.R_drew)); exact Kd.R_mono HO416.out (fun _ hk => ⟨hk.2, hk.1⟩)⟩, ⟨by (with_reducible repeat (first | apply Kd.R_alloc | apply Kd.R_drewN | apply Kd.R_drew)); exact Kd.R_mono HO418.out (fun _ hk => ⟨hk.2, hk.1⟩)⟩, ⟨by repeat (first | (with_reducible first | exact HB.out | apply below_alloc | apply pw_below_drewN | apply below_drew1) | exact HB.out)⟩⟩
              · rw [if_neg c22] at H
                have c22b0 : (t409 == 0) = false := beq_eq_false_iff_ne.mpr c22
                have c22b1 : (t409 != 0) = true := bne_iff_ne.mpr c22
                (first | rw [c22b0] | (simp only [i64_w, i32_w]; rw [c22b0]) | skip)
                have H' := Aside0.mk H
                clear H
                go_wp2
                repeat (go_quiet (fail); try go_wp2)
                go_meet
                case rel => exact ⟨_, (true), (by first | rfl | (simp; done) | (simp [*]; done)), H', ⟨by have := HJ7.out; first | omega | exact Nat.le_refl _⟩, ⟨by (with_reducible repeat (first | apply Kd.R_alloc | apply Kd.R_drewN | apply Kd.R_drew)); exact Kd.R_mono HO411.out (fun _ hk => ⟨hk.1.2, hk.2⟩)⟩, ⟨by (with_reducible repeat (first | apply Kd.R_alloc | apply Kd.R_drewN | apply Kd.R_drew)); exact Kd.R_mono HO416.out (fun _ hk => ⟨hk.2, hk.1⟩)⟩, ⟨by (with_reducible repeat (first | apply Kd.R_alloc | apply Kd.R_drewN | apply Kd.R_drew)); exact Kd.R_mono HO418.out (fun _ hk => ⟨hk.2, hk.1⟩)⟩, ⟨by repeat (first | (with_reducible first | exact HB.out | apply below_alloc | apply pw_below_drewN | apply below_drew1) | exact HB.out)⟩⟩
            case rest =>
              clear HC19
              try clear c1
              try clear c2
              try clear p2
              try clear c7
              try clear c8
              try clear c11
              try clear c12
              try clear c12b0
              try clear c13
              try clear c13b0
              try clear c14
              try clear c14b0
              try clear c15
              try clear c18
              try clear c18b0
              try clear c18b1
              try clear c22
              try clear c22b0
              try clear c22b1
              try clear c23
              try clear c23b0
              try clear c23b1
              try clear c23b2
              try clear c24
              try clear c24b0
              try clear c24b1
              try clear c24b2
              try clear p2
              obtain ⟨kq, x94_18, rfl, HA, HJ18, HO_11, HO_13, HO_14, HB⟩ := hcut
              cases kq with
              | zero => exact absurd HA.out (by simp [supercargolaw43_AverageFair.j1])
              | succ kj18 =>
                have H := HA.out
                clear HA
                simp only [supercargolaw43_AverageFair.j1] at H
                by_cases c31 : x94_18 = true
                · subst c31
                  have H1 : (some false) = some r := by rw [if_pos rfl] at H; exact H
                  clear H
                  have H := H1
                  clear H1
                  obtain rfl := Option.some.inj H
                  go_wp2
                  repeat (go_quiet (fail); try go_wp2)
                  go_ret
                  exact ⟨by first | rfl | (simp [errW_none, errW_some] <;> rfl) | (simp [*, errW_none, errW_some] <;> rfl), by repeat (first | (with_reducible first | exact HB.out | apply below_alloc | apply pw_below_drewN | apply below_drew1) | exact HB.out)⟩
                · replace c31 := Bool.eq_false_iff.mpr c31
                  subst c31
                  have H1 : (if 0 ≤ a3 then (if a3 < (t408.length : Int) then (if a3 < (t413.length : Int) then (if 0 ≤ a4 then (if a4 < (t408.length : Int) then (if a4 < (t413.length : Int) then (if a3 < (l0.length : Int) then (if a3 < (t412.length : Int) then (if (wrap64 ((rd t408 a3) + (rd t413 a3))) = (wrap64 (((rd_T35 l0 a3).f1) - (rd t412 a3))) then (if a4 < (l0.length : Int) then (if a4 < (t412.length : Int) then (if (wrap64 ((rd t408 a4) + (rd t413 a4))) = (wrap64 (((rd_T35 l0 a4).f1) - (rd t412 a4))) then (if (wrap64 ((rd t408 a3) + (rd t413 a3))) < 0 then (some false) else (if (wrap64 ((rd t408 a4) + (rd t413 a4))) < 0 then (some false) else (if ((rd_T35 l0 a3).f1) = ((rd_T35 l0 a4).f1) then (if (wrap64 ((wrap64 ((rd t408 a3) + (rd t413 a3))) - (wrap64 ((rd t408 a4) + (rd t413 a4))))) ≤ 1 then (some (decide ((wrap64 ((wrap64 ((rd t408 a4) + (rd t413 a4))) - (wrap64 ((rd t408 a3) + (rd t413 a3))))) ≤ 1))) else (some false)) else (some true)))) else (some false)) else (none)) else (none)) else (some false)) else (none)) else (none)) else (none)) else (none)) else (none)) else (none)) else (none)) else (none)) = some r := by rw [if_neg (show ¬ (false = true) by decide)] at H; exact H
                  clear H
                  have H := H1
                  clear H1
                  by_cases c32 : 0 ≤ a3
                  · rw [if_pos c32] at H
                    have c32b0 : decide (0 ≤ a3) = true := decide_eq_true c32
                    clear c32
                    by_cases c33 : a3 < (t408.length : Int)
                    · rw [if_pos c33] at H
                      have c33b0 : decide (a3 < (t408.length : Int)) = true := decide_eq_true c33
                      clear c33
                      by_cases c34 : a3 < (t413.length : Int)
                      · rw [if_pos c34] at H
                        have c34b0 : decide (a3 < (t413.length : Int)) = true := decide_eq_true c34
                        clear c34
                        by_cases c35 : 0 ≤ a4
                        · rw [if_pos c35] at H
                          have c35b0 : decide (0 ≤ a4) = true := decide_eq_true c35
                          clear c35
                          by_cases c36 : a4 < (t408.length : Int)
                          · rw [if_pos c36] at H
                            have c36b0 : decide (a4 < (t408.length : Int)) = true := decide_eq_true c36
                            clear c36
                            by_cases c37 : a4 < (t413.length : Int)
                            · rw [if_pos c37] at H
                              have c37b0 : decide (a4 < (t413.length : Int)) = true := decide_eq_true c37
                              clear c37
                              by_cases c38 : a3 < (l0.length : Int)
                              · rw [if_pos c38] at H
                                have c38b0 : decide (a3 < (l0.length : Int)) = true := decide_eq_true c38
                                clear c38
                                by_cases c39 : a3 < (t412.length : Int)
                                · rw [if_pos c39] at H
                                  have c39b0 : decide (a3 < (t412.length : Int)) = true := decide_eq_true c39
                                  clear c39
                                  by_cases c40 : (wrap64 ((rd t408 a3) + (rd t413 a3))) = (wrap64 (((rd_T35 l0 a3).f1) - (rd t412 a3)))
                                  · rw [if_pos c40] at H
                                    have c40b0 : ((wrap64 ((rd t408 a3) + (rd t413 a3))) == (wrap64 (((rd_T35 l0 a3).f1) - (rd t412 a3)))) = true := beq_iff_eq.mpr c40
                                    have c40b1 : ((wrap64 ((rd t408 a3) + (rd t413 a3))) != (wrap64 (((rd_T35 l0 a3).f1) - (rd t412 a3)))) = false := bne_eq_false_iff_eq.mpr c40
                                    clear c40
                                    by_cases c41 : a4 < (l0.length : Int)
                                    · rw [if_pos c41] at H
                                      have c41b0 : decide (a4 < (l0.length : Int)) = true := decide_eq_true c41
                                      clear c41
                                      by_cases c42 : a4 < (t412.length : Int)
                                      · rw [if_pos c42] at H
                                        have c42b0 : decide (a4 < (t412.length : Int)) = true := decide_eq_true c42
                                        clear c42
                                        by_cases c43 : (wrap64 ((rd t408 a4) + (rd t413 a4))) = (wrap64 (((rd_T35 l0 a4).f1) - (rd t412 a4)))
                                        · rw [if_pos c43] at H
                                          have c43b0 : ((wrap64 ((rd t408 a4) + (rd t413 a4))) == (wrap64 (((rd_T35 l0 a4).f1) - (rd t412 a4)))) = true := beq_iff_eq.mpr c43
                                          have c43b1 : ((wrap64 ((rd t408 a4) + (rd t413 a4))) != (wrap64 (((rd_T35 l0 a4).f1) - (rd t412 a4)))) = false := bne_eq_false_iff_eq.mpr c43
                                          clear c43
                                          by_cases c44 : (wrap64 ((rd t408 a3) + (rd t413 a3))) < 0
                                          · rw [if_pos c44] at H
                                            have c44b0 : decide ((wrap64 ((rd t408 a3) + (rd t413 a3))) < 0) = true := decide_eq_true c44
                                            clear c44
                                            obtain rfl := Option.some.inj H
                                            obtain ⟨Ao45, co45, eo45⟩ := Kd.R_slice HO_11.out
                                            subst eo45
                                            have p419 : 0 ≤ (a3 : Int) := of_decide_eq_true (by first | (with_reducible assumption) | assumption)
                                            have q419 : a3 < (t408.length : Int) := of_decide_eq_true (by first | (with_reducible assumption) | assumption)
                                            obtain ⟨ad419, e419, hx419_0⟩ := Kd.at_int (Kd.R_reads' HO_11.out).2.2 a3 p419 q419
                                            cases e419
                                            replace p419 := eq_true p419
                                            replace q419 := eq_true q419
                                            obtain ⟨Ao46, co46, eo46⟩ := Kd.R_slice HO_14.out
                                            subst eo46
                                            have p420 : 0 ≤ (a3 : Int) := of_decide_eq_true (by first | (with_reducible assumption) | assumption)
                                            have q420 : a3 < (t413.length : Int) := of_decide_eq_true (by first | (with_reducible assumption) | assumption)
                                            obtain ⟨ad420, e420, hx420_0⟩ := Kd.at_int (Kd.R_reads' HO_14.out).2.2 a3 p420 q420
                                            cases e420
                                            replace p420 := eq_true p420
                                            replace q420 := eq_true q420
                                            have p421 : 0 ≤ (a4 : Int) := of_decide_eq_true (by first | (with_reducible assumption) | assumption)
                                            have q421 : a4 < (t408.length : Int) := of_decide_eq_true (by first | (with_reducible assumption) | assumption)
                                            obtain ⟨ad421, e421, hx421_0⟩ := Kd.at_int (Kd.R_reads' HO_11.out).2.2 a4 p421 q421
                                            obtain rfl : ad419 = ad421 := (by injection e421)
                                            replace p421 := eq_true p421
                                            replace q421 := eq_true q421
                                            have p422 : 0 ≤ (a4 : Int) := of_decide_eq_true (by first | (with_reducible assumption) | assumption)
                                            have q422 : a4 < (t413.length : Int) := of_decide_eq_true (by first | (with_reducible assumption) | assumption)
                                            obtain ⟨ad422, e422, hx422_0⟩ := Kd.at_int (Kd.R_reads' HO_14.out).2.2 a4 p422 q422
                                            obtain rfl : ad420 = ad422 := (by injection e422)
                                            replace p422 := eq_true p422
                                            replace q422 := eq_true q422
                                            have p423 : 0 ≤ (a3 : Int) := of_decide_eq_true (by first | (with_reducible assumption) | assumption)
                                            have q423 : a3 < (l0.length : Int) := of_decide_eq_true (by first | (with_reducible assumption) | assumption)
                                            obtain ⟨ad423, e423, hx423_0, hx423_1⟩ := at_T35 HR0.out a3 p423 q423
                                            cases e423
                                            replace hx423_0 := (HB.out.cell (World.block_lt_of_cell? w _ hx423_0)).trans hx423_0
                                            replace hx423_1 := (HB.out.cell (World.block_lt_of_cell? w _ hx423_1)).trans hx423_1
                                            replace p423 := eq_true p423
                                            replace q423 := eq_true q423
                                            obtain ⟨Ao47, co47, eo47⟩ := Kd.R_slice HO_13.out
                                            subst eo47
                                            have p424 : 0 ≤ (a3 : Int) := of_decide_eq_true (by first | (with_reducible assumption) | assumption)
                                            have q424 : a3 < (t412.length : Int) := of_decide_eq_true (by first | (with_reducible assumption) | assumption)
                                            obtain ⟨ad424, e424, hx424_0⟩ := Kd.at_int (Kd.R_reads' HO_13.out).2.2 a3 p424 q424
                                            cases e424
                                            replace p424 := eq_true p424
                                            replace q424 := eq_true q424
                                            have p425 : 0 ≤ (a4 : Int) := of_decide_eq_true (by first | (with_reducible assumption) | assumption)
                                            have q425 : a4 < (l0.length : Int) := of_decide_eq_true (by first | (with_reducible assumption) | assumption)
                                            obtain ⟨ad425, e425, hx425_0, hx425_1⟩ := at_T35 HR0.out a4 p425 q425
                                            obtain rfl : ad423 = ad425 := (by injection e425)
                                            replace hx425_0 := (HB.out.cell (World.block_lt_of_cell? w _ hx425_0)).trans hx425_0
                                            replace hx425_1 := (HB.out.cell (World.block_lt_of_cell? w _ hx425_1)).trans hx425_1
                                            replace p425 := eq_true p425
                                            replace q425 := eq_true q425
                                            have p426 : 0 ≤ (a4 : Int) := of_decide_eq_true (by first | (with_reducible assumption) | assumption)
                                            have q426 : a4 < (t412.length : Int) := of_decide_eq_true (by first | (with_reducible assumption) | assumption)
                                            obtain ⟨ad426, e426, hx426_0⟩ := Kd.at_int (Kd.R_reads' HO_13.out).2.2 a4 p426 q426
                                            obtain rfl : ad424 = ad426 := (by injection e426)
                                            replace p426 := eq_true p426
                                            replace q426 := eq_true q426
                                            go_wp2
                                            repeat (go_quiet (fail); try go_wp2)
                                            go_ret
                                            exact ⟨by first | rfl | (simp [errW_none, errW_some] <;> rfl) | (simp [*, errW_none, errW_some] <;> rfl), by repeat (first | (with_reducible first | exact HB.out | apply below_alloc | apply pw_below_drewN | apply below_drew1) | exact HB.out)⟩
                                          · rw [if_neg c44] at H
                                            have c44b0 : decide ((wrap64 ((rd t408 a3) + (rd t413 a3))) < 0) = false := decide_eq_false c44
                                            clear c44
                                            by_cases c48 : (wrap64 ((rd t408 a4) + (rd t413 a4))) < 0
                                            · rw [if_pos c48] at H
                                              have c48b0 : decide ((wrap64 ((rd t408 a4) + (rd t413 a4))) < 0) = true := decide_eq_true c48
                                              clear c48
                                              obtain rfl := Option.some.inj H
                                              obtain ⟨Ao49, co49, eo49⟩ := Kd.R_slice HO_11.out
                                              subst eo49
                                              have p419 : 0 ≤ (a3 : Int) := of_decide_eq_true (by first | (with_reducible assumption) | assumption)
                                              have q419 : a3 < (t408.length : Int) := of_decide_eq_true (by first | (with_reducible assumption) | assumption)
                                              obtain ⟨ad419, e419, hx419_0⟩ := Kd.at_int (Kd.R_reads' HO_11.out).2.2 a3 p419 q419
                                              cases e419
                                              replace p419 := eq_true p419
                                              replace q419 := eq_true q419
                                              obtain ⟨Ao50, co50, eo50⟩ := Kd.R_slice HO_14.out
                                              subst eo50
                                              have p420 : 0 ≤ (a3 : Int) := of_decide_eq_true (by first | (with_reducible assumption) | assumption)
                                              have q420 : a3 < (t413.length : Int) := of_decide_eq_true (by first | (with_reducible assumption) | assumption)
                                              obtain ⟨ad420, e420, hx420_0⟩ := Kd.at_int (Kd.R_reads' HO_14.out).2.2 a3 p420 q420
                                              cases e420
                                              replace p420 := eq_true p420
                                              replace q420 := eq_true q420
                                              have p421 : 0 ≤ (a4 : Int) := of_decide_eq_true (by first | (with_reducible assumption) | assumption)
                                              have q421 : a4 < (t408.length : Int) := of_decide_eq_true (by first | (with_reducible assumption) | assumption)
                                              obtain ⟨ad421, e421, hx421_0⟩ := Kd.at_int (Kd.R_reads' HO_11.out).2.2 a4 p421 q421
                                              obtain rfl : ad419 = ad421 := (by injection e421)
                                              replace p421 := eq_true p421
                                              replace q421 := eq_true q421
                                              have p422 : 0 ≤ (a4 : Int) := of_decide_eq_true (by first | (with_reducible assumption) | assumption)
                                              have q422 : a4 < (t413.length : Int) := of_decide_eq_true (by first | (with_reducible assumption) | assumption)
                                              obtain ⟨ad422, e422, hx422_0⟩ := Kd.at_int (Kd.R_reads' HO_14.out).2.2 a4 p422 q422
                                              obtain rfl : ad420 = ad422 := (by injection e422)
                                              replace p422 := eq_true p422
                                              replace q422 := eq_true q422
                                              have p423 : 0 ≤ (a3 : Int) := of_decide_eq_true (by first | (with_reducible assumption) | assumption)
                                              have q423 : a3 < (l0.length : Int) := of_decide_eq_true (by first | (with_reducible assumption) | assumption)
                                              obtain ⟨ad423, e423, hx423_0, hx423_1⟩ := at_T35 HR0.out a3 p423 q423
                                              cases e423
                                              replace hx423_0 := (HB.out.cell (World.block_lt_of_cell? w _ hx423_0)).trans hx423_0
                                              replace hx423_1 := (HB.out.cell (World.block_lt_of_cell? w _ hx423_1)).trans hx423_1
                                              replace p423 := eq_true p423
                                              replace q423 := eq_true q423
                                              obtain ⟨Ao51, co51, eo51⟩ := Kd.R_slice HO_13.out
                                              subst eo51
                                              have p424 : 0 ≤ (a3 : Int) := of_decide_eq_true (by first | (with_reducible assumption) | assumption)
                                              have q424 : a3 < (t412.length : Int) := of_decide_eq_true (by first | (with_reducible assumption) | assumption)
                                              obtain ⟨ad424, e424, hx424_0⟩ := Kd.at_int (Kd.R_reads' HO_13.out).2.2 a3 p424 q424
                                              cases e424
                                              replace p424 := eq_true p424
                                              replace q424 := eq_true q424
                                              have p425 : 0 ≤ (a4 : Int) := of_decide_eq_true (by first | (with_reducible assumption) | assumption)
                                              have q425 : a4 < (l0.length : Int) := of_decide_eq_true (by first | (with_reducible assumption) | assumption)
                                              obtain ⟨ad425, e425, hx425_0, hx425_1⟩ := at_T35 HR0.out a4 p425 q425
                                              obtain rfl : ad423 = ad425 := (by injection e425)
                                              replace hx425_0 := (HB.out.cell (World.block_lt_of_cell? w _ hx425_0)).trans hx425_0
                                              replace hx425_1 := (HB.out.cell (World.block_lt_of_cell? w _ hx425_1)).trans hx425_1
                                              replace p425 := eq_true p425
                                              replace q425 := eq_true q425
                                              have p426 : 0 ≤ (a4 : Int) := of_decide_eq_true (by first | (with_reducible assumption) | assumption)
                                              have q426 : a4 < (t412.length : Int) := of_decide_eq_true (by first | (with_reducible assumption) | assumption)
                                              obtain ⟨ad426, e426, hx426_0⟩ := Kd.at_int (Kd.R_reads' HO_13.out).2.2 a4 p426 q426
                                              obtain rfl : ad424 = ad426 := (by injection e426)
                                              replace p426 := eq_true p426
                                              replace q426 := eq_true q426
                                              go_wp2
                                              repeat (go_quiet (fail); try go_wp2)
                                              go_ret
                                              exact ⟨by first | rfl | (simp [errW_none, errW_some] <;> rfl) | (simp [*, errW_none, errW_some] <;> rfl), by repeat (first | (with_reducible first | exact HB.out | apply below_alloc | apply pw_below_drewN | apply below_drew1) | exact HB.out)⟩
                                            · rw [if_neg c48] at H
                                              have c48b0 : decide ((wrap64 ((rd t408 a4) + (rd t413 a4))) < 0) = false := decide_eq_false c48
                                              clear c48
                                              by_cases c52 : ((rd_T35 l0 a3).f1) = ((rd_T35 l0 a4).f1)
                                              · rw [if_pos c52] at H
                                                have c52b0 : (((rd_T35 l0 a3).f1) == ((rd_T35 l0 a4).f1)) = true := beq_iff_eq.mpr c52
                                                have c52b1 : (((rd_T35 l0 a3).f1) != ((rd_T35 l0 a4).f1)) = false := bne_eq_false_iff_eq.mpr c52
                                                clear c52
                                                by_cases c53 : (wrap64 ((wrap64 ((rd t408 a3) + (rd t413 a3))) - (wrap64 ((rd t408 a4) + (rd t413 a4))))) ≤ 1
                                                · rw [if_pos c53] at H
                                                  have c53b0 : decide ((wrap64 ((wrap64 ((rd t408 a3) + (rd t413 a3))) - (wrap64 ((rd t408 a4) + (rd t413 a4))))) ≤ 1) = true := decide_eq_true c53
                                                  clear c53
                                                  obtain rfl := Option.some.inj H
                                                  obtain ⟨Ao54, co54, eo54⟩ := Kd.R_slice HO_11.out
                                                  subst eo54
                                                  have p419 : 0 ≤ (a3 : Int) := of_decide_eq_true (by first | (with_reducible assumption) | assumption)
                                                  have q419 : a3 < (t408.length : Int) := of_decide_eq_true (by first | (with_reducible assumption) | assumption)
                                                  obtain ⟨ad419, e419, hx419_0⟩ := Kd.at_int (Kd.R_reads' HO_11.out).2.2 a3 p419 q419
                                                  cases e419
                                                  replace p419 := eq_true p419
                                                  replace q419 := eq_true q419
                                                  obtain ⟨Ao55, co55, eo55⟩ := Kd.R_slice HO_14.out
                                                  subst eo55
                                                  have p420 : 0 ≤ (a3 : Int) := of_decide_eq_true (by first | (with_reducible assumption) | assumption)
                                                  have q420 : a3 < (t413.length : Int) := of_decide_eq_true (by first | (with_reducible assumption) | assumption)
                                                  obtain ⟨ad420, e420, hx420_0⟩ := Kd.at_int (Kd.R_reads' HO_14.out).2.2 a3 p420 q420
                                                  cases e420
                                                  replace p420 := eq_true p420
                                                  replace q420 := eq_true q420
                                                  have p421 : 0 ≤ (a4 : Int) := of_decide_eq_true (by first | (with_reducible assumption) | assumption)
                                                  have q421 : a4 < (t408.length : Int) := of_decide_eq_true (by first | (with_reducible assumption) | assumption)
                                                  obtain ⟨ad421, e421, hx421_0⟩ := Kd.at_int (Kd.R_reads' HO_11.out).2.2 a4 p421 q421
                                                  obtain rfl : ad419 = ad421 := (by injection e421)
                                                  replace p421 := eq_true p421
                                                  replace q421 := eq_true q421
                                                  have p422 : 0 ≤ (a4 : Int) := of_decide_eq_true (by first | (with_reducible assumption) | assumption)
                                                  have q422 : a4 < (t413.length : Int) := of_decide_eq_true (by first | (with_reducible assumption) | assumption)
                                                  obtain ⟨ad422, e422, hx422_0⟩ := Kd.at_int (Kd.R_reads' HO_14.out).2.2 a4 p422 q422
                                                  obtain rfl : ad420 = ad422 := (by injection e422)
                                                  replace p422 := eq_true p422
                                                  replace q422 := eq_true q422
                                                  have p423 : 0 ≤ (a3 : Int) := of_decide_eq_true (by first | (with_reducible assumption) | assumption)
                                                  have q423 : a3 < (l0.length : Int) := of_decide_eq_true (by first | (with_reducible assumption) | assumption)
                                                  obtain ⟨ad423, e423, hx423_0, hx423_1⟩ := at_T35 HR0.out a3 p423 q423
                                                  cases e423
                                                  replace hx423_0 := (HB.out.cell (World.block_lt_of_cell? w _ hx423_0)).trans hx423_0
                                                  replace hx423_1 := (HB.out.cell (World.block_lt_of_cell? w _ hx423_1)).trans hx423_1
                                                  replace p423 := eq_true p423
                                                  replace q423 := eq_true q423
                                                  obtain ⟨Ao56, co56, eo56⟩ := Kd.R_slice HO_13.out
                                                  subst eo56
                                                  have p424 : 0 ≤ (a3 : Int) := of_decide_eq_true (by first | (with_reducible assumption) | assumption)
                                                  have q424 : a3 < (t412.length : Int) := of_decide_eq_true (by first | (with_reducible assumption) | assumption)
                                                  obtain ⟨ad424, e424, hx424_0⟩ := Kd.at_int (Kd.R_reads' HO_13.out).2.2 a3 p424 q424
                                                  cases e424
                                                  replace p424 := eq_true p424
                                                  replace q424 := eq_true q424
                                                  have p425 : 0 ≤ (a4 : Int) := of_decide_eq_true (by first | (with_reducible assumption) | assumption)
                                                  have q425 : a4 < (l0.length : Int) := of_decide_eq_true (by first | (with_reducible assumption) | assumption)
                                                  obtain ⟨ad425, e425, hx425_0, hx425_1⟩ := at_T35 HR0.out a4 p425 q425
                                                  obtain rfl : ad423 = ad425 := (by injection e425)
                                                  replace hx425_0 := (HB.out.cell (World.block_lt_of_cell? w _ hx425_0)).trans hx425_0
                                                  replace hx425_1 := (HB.out.cell (World.block_lt_of_cell? w _ hx425_1)).trans hx425_1
                                                  replace p425 := eq_true p425
                                                  replace q425 := eq_true q425
                                                  have p426 : 0 ≤ (a4 : Int) := of_decide_eq_true (by first | (with_reducible assumption) | assumption)
                                                  have q426 : a4 < (t412.length : Int) := of_decide_eq_true (by first | (with_reducible assumption) | assumption)
                                                  obtain ⟨ad426, e426, hx426_0⟩ := Kd.at_int (Kd.R_reads' HO_13.out).2.2 a4 p426 q426
                                                  obtain rfl : ad424 = ad426 := (by injection e426)
                                                  replace p426 := eq_true p426
                                                  replace q426 := eq_true q426
                                                  have p427 : 0 ≤ (a3 : Int) := of_decide_eq_true (by first | (with_reducible assumption) | assumption)
                                                  have q427 : a3 < (l0.length : Int) := of_decide_eq_true (by first | (with_reducible assumption) | assumption)
                                                  obtain ⟨ad427, e427, hx427_0, hx427_1⟩ := at_T35 HR0.out a3 p427 q427
                                                  obtain rfl : ad423 = ad427 := (by injection e427)
                                                  replace hx427_0 := (HB.out.cell (World.block_lt_of_cell? w _ hx427_0)).trans hx427_0
                                                  replace hx427_1 := (HB.out.cell (World.block_lt_of_cell? w _ hx427_1)).trans hx427_1
                                                  replace p427 := eq_true p427
                                                  replace q427 := eq_true q427
                                                  have p428 : 0 ≤ (a4 : Int) := of_decide_eq_true (by first | (with_reducible assumption) | assumption)
                                                  have q428 : a4 < (l0.length : Int) := of_decide_eq_true (by first | (with_reducible assumption) | assumption)
                                                  obtain ⟨ad428, e428, hx428_0, hx428_1⟩ := at_T35 HR0.out a4 p428 q428
                                                  obtain rfl : ad423 = ad428 := (by injection e428)
                                                  replace hx428_0 := (HB.out.cell (World.block_lt_of_cell? w _ hx428_0)).trans hx428_0
                                                  replace hx428_1 := (HB.out.cell (World.block_lt_of_cell? w _ hx428_1)).trans hx428_1
                                                  replace p428 := eq_true p428
                                                  replace q428 := eq_true q428
                                                  go_wp2
                                                  repeat (go_quiet (fail); try go_wp2)
                                                  go_ret
                                                  exact ⟨by first | rfl | (simp [errW_none, errW_some] <;> rfl) | (simp [*, errW_none, errW_some] <;> rfl), by repeat (first | (with_reducible first | exact HB.out | apply below_alloc | apply pw_below_drewN | apply below_drew1) | exact HB.out)⟩
                                                · rw [if_neg c53] at H
                                                  have c53b0 : decide ((wrap64 ((wrap64 ((rd t408 a3) + (rd t413 a3))) - (wrap64 ((rd t408 a4) + (rd t413 a4))))) ≤ 1) = false := decide_eq_false c53
                                                  clear c53
                                                  obtain rfl := Option.some.inj H
                                                  obtain ⟨Ao57, co57, eo57⟩ := Kd.R_slice HO_11.out
                                                  subst eo57
                                                  have p419 : 0 ≤ (a3 : Int) := of_decide_eq_true (by first | (with_reducible assumption) | assumption)
                                                  have q419 : a3 < (t408.length : Int) := of_decide_eq_true (by first | (with_reducible assumption) | assumption)
                                                  obtain ⟨ad419, e419, hx419_0⟩ := Kd.at_int (Kd.R_reads' HO_11.out).2.2 a3 p419 q419
                                                  cases e419
                                                  replace p419 := eq_true p419
                                                  replace q419 := eq_true q419
                                                  obtain ⟨Ao58, co58, eo58⟩ := Kd.R_slice HO_14.out
                                                  subst eo58
                                                  have p420 : 0 ≤ (a3 : Int) := of_decide_eq_true (by first | (with_reducible assumption) | assumption)
                                                  have q420 : a3 < (t413.length : Int) := of_decide_eq_true (by first | (with_reducible assumption) | assumption)
                                                  obtain ⟨ad420, e420, hx420_0⟩ := Kd.at_int (Kd.R_reads' HO_14.out).2.2 a3 p420 q420
                                                  cases e420
                                                  replace p420 := eq_true p420
                                                  replace q420 := eq_true q420
                                                  have p421 : 0 ≤ (a4 : Int) := of_decide_eq_true (by first | (with_reducible assumption) | assumption)
                                                  have q421 : a4 < (t408.length : Int) := of_decide_eq_true (by first | (with_reducible assumption) | assumption)
                                                  obtain ⟨ad421, e421, hx421_0⟩ := Kd.at_int (Kd.R_reads' HO_11.out).2.2 a4 p421 q421
                                                  obtain rfl : ad419 = ad421 := (by injection e421)
                                                  replace p421 := eq_true p421
                                                  replace q421 := eq_true q421
                                                  have p422 : 0 ≤ (a4 : Int) := of_decide_eq_true (by first | (with_reducible assumption) | assumption)
                                                  have q422 : a4 < (t413.length : Int) := of_decide_eq_true (by first | (with_reducible assumption) | assumption)
                                                  obtain ⟨ad422, e422, hx422_0⟩ := Kd.at_int (Kd.R_reads' HO_14.out).2.2 a4 p422 q422
                                                  obtain rfl : ad420 = ad422 := (by injection e422)
                                                  replace p422 := eq_true p422
                                                  replace q422 := eq_true q422
                                                  have p423 : 0 ≤ (a3 : Int) := of_decide_eq_true (by first | (with_reducible assumption) | assumption)
                                                  have q423 : a3 < (l0.length : Int) := of_decide_eq_true (by first | (with_reducible assumption) | assumption)
                                                  obtain ⟨ad423, e423, hx423_0, hx423_1⟩ := at_T35 HR0.out a3 p423 q423
                                                  cases e423
                                                  replace hx423_0 := (HB.out.cell (World.block_lt_of_cell? w _ hx423_0)).trans hx423_0
                                                  replace hx423_1 := (HB.out.cell (World.block_lt_of_cell? w _ hx423_1)).trans hx423_1
                                                  replace p423 := eq_true p423
                                                  replace q423 := eq_true q423
                                                  obtain ⟨Ao59, co59, eo59⟩ := Kd.R_slice HO_13.out
                                                  subst eo59
                                                  have p424 : 0 ≤ (a3 : Int) := of_decide_eq_true (by first | (with_reducible assumption) | assumption)
                                                  have q424 : a3 < (t412.length : Int) := of_decide_eq_true (by first | (with_reducible assumption) | assumption)
                                                  obtain ⟨ad424, e424, hx424_0⟩ := Kd.at_int (Kd.R_reads' HO_13.out).2.2 a3 p424 q424
                                                  cases e424
                                                  replace p424 := eq_true p424
                                                  replace q424 := eq_true q424
                                                  have p425 : 0 ≤ (a4 : Int) := of_decide_eq_true (by first | (with_reducible assumption) | assumption)
                                                  have q425 : a4 < (l0.length : Int) := of_decide_eq_true (by first | (with_reducible assumption) | assumption)
                                                  obtain ⟨ad425, e425, hx425_0, hx425_1⟩ := at_T35 HR0.out a4 p425 q425
                                                  obtain rfl : ad423 = ad425 := (by injection e425)
                                                  replace hx425_0 := (HB.out.cell (World.block_lt_of_cell? w _ hx425_0)).trans hx425_0
                                                  replace hx425_1 := (HB.out.cell (World.block_lt_of_cell? w _ hx425_1)).trans hx425_1
                                                  replace p425 := eq_true p425
                                                  replace q425 := eq_true q425
                                                  have p426 : 0 ≤ (a4 : Int) := of_decide_eq_true (by first | (with_reducible assumption) | assumption)
                                                  have q426 : a4 < (t412.length : Int) := of_decide_eq_true (by first | (with_reducible assumption) | assumption)
                                                  obtain ⟨ad426, e426, hx426_0⟩ := Kd.at_int (Kd.R_reads' HO_13.out).2.2 a4 p426 q426
                                                  obtain rfl : ad424 = ad426 := (by injection e426)
                                                  replace p426 := eq_true p426
                                                  replace q426 := eq_true q426
                                                  have p427 : 0 ≤ (a3 : Int) := of_decide_eq_true (by first | (with_reducible assumption) | assumption)
                                                  have q427 : a3 < (l0.length : Int) := of_decide_eq_true (by first | (with_reducible assumption) | assumption)
                                                  obtain ⟨ad427, e427, hx427_0, hx427_1⟩ := at_T35 HR0.out a3 p427 q427
                                                  obtain rfl : ad423 = ad427 := (by injection e427)
                                                  replace hx427_0 := (HB.out.cell (World.block_lt_of_cell? w _ hx427_0)).trans hx427_0
                                                  replace hx427_1 := (HB.out.cell (World.block_lt_of_cell? w _ hx427_1)).trans hx427_1
                                                  replace p427 := eq_true p427
                                                  replace q427 := eq_true q427
                                                  have p428 : 0 ≤ (a4 : Int) := of_decide_eq_true (by first | (with_reducible assumption) | assumption)
                                                  have q428 : a4 < (l0.length : Int) := of_decide_eq_true (by first | (with_reducible assumption) | assumption)
                                                  obtain ⟨ad428, e428, hx428_0, hx428_1⟩ := at_T35 HR0.out a4 p428 q428
                                                  obtain rfl : ad423 = ad428 := (by injection e428)
                                                  replace hx428_0 := (HB.out.cell (World.block_lt_of_cell? w _ hx428_0)).trans hx428_0
                                                  replace hx428_1 := (HB.out.cell (World.block_lt_of_cell? w _ hx428_1)).trans hx428_1
                                                  replace p428 := eq_true p428
                                                  replace q428 := eq_true q428
                                                  go_wp2
                                                  repeat (go_quiet (fail); try go_wp2)
                                                  go_ret
                                                  exact ⟨by first | rfl | (simp [errW_none, errW_some] <;> rfl) | (simp [*, errW_none, errW_some] <;> rfl), by repeat (first | (with_reducible first | exact HB.out | apply below_alloc | apply pw_below_drewN | apply below_drew1) | exact HB.out)⟩
                                              · rw [if_neg c52] at H
                                                have c52b0 : (((rd_T35 l0 a3).f1) == ((rd_T35 l0 a4).f1)) = false := beq_eq_false_iff_ne.mpr c52
                                                have c52b1 : (((rd_T35 l0 a3).f1) != ((rd_T35 l0 a4).f1)) = true := bne_iff_ne.mpr c52
                                                obtain rfl := Option.some.inj H
                                                obtain ⟨Ao60, co60, eo60⟩ := Kd.R_slice HO_11.out
                                                subst eo60
                                                have p419 : 0 ≤ (a3 : Int) := of_decide_eq_true (by first | (with_reducible assumption) | assumption)
                                                have q419 : a3 < (t408.length : Int) := of_decide_eq_true (by first | (with_reducible assumption) | assumption)
                                                obtain ⟨ad419, e419, hx419_0⟩ := Kd.at_int (Kd.R_reads' HO_11.out).2.2 a3 p419 q419
                                                cases e419
                                                replace p419 := eq_true p419
                                                replace q419 := eq_true q419
                                                obtain ⟨Ao61, co61, eo61⟩ := Kd.R_slice HO_14.out
                                                subst eo61
                                                have p420 : 0 ≤ (a3 : Int) := of_decide_eq_true (by first | (with_reducible assumption) | assumption)
                                                have q420 : a3 < (t413.length : Int) := of_decide_eq_true (by first | (with_reducible assumption) | assumption)
                                                obtain ⟨ad420, e420, hx420_0⟩ := Kd.at_int (Kd.R_reads' HO_14.out).2.2 a3 p420 q420
                                                cases e420
                                                replace p420 := eq_true p420
                                                replace q420 := eq_true q420
                                                have p421 : 0 ≤ (a4 : Int) := of_decide_eq_true (by first | (with_reducible assumption) | assumption)
                                                have q421 : a4 < (t408.length : Int) := of_decide_eq_true (by first | (with_reducible assumption) | assumption)
                                                obtain ⟨ad421, e421, hx421_0⟩ := Kd.at_int (Kd.R_reads' HO_11.out).2.2 a4 p421 q421
                                                obtain rfl : ad419 = ad421 := (by injection e421)
                                                replace p421 := eq_true p421
                                                replace q421 := eq_true q421
                                                have p422 : 0 ≤ (a4 : Int) := of_decide_eq_true (by first | (with_reducible assumption) | assumption)
                                                have q422 : a4 < (t413.length : Int) := of_decide_eq_true (by first | (with_reducible assumption) | assumption)
                                                obtain ⟨ad422, e422, hx422_0⟩ := Kd.at_int (Kd.R_reads' HO_14.out).2.2 a4 p422 q422
                                                obtain rfl : ad420 = ad422 := (by injection e422)
                                                replace p422 := eq_true p422
                                                replace q422 := eq_true q422
                                                have p423 : 0 ≤ (a3 : Int) := of_decide_eq_true (by first | (with_reducible assumption) | assumption)
                                                have q423 : a3 < (l0.length : Int) := of_decide_eq_true (by first | (with_reducible assumption) | assumption)
                                                obtain ⟨ad423, e423, hx423_0, hx423_1⟩ := at_T35 HR0.out a3 p423 q423
                                                cases e423
                                                replace hx423_0 := (HB.out.cell (World.block_lt_of_cell? w _ hx423_0)).trans hx423_0
                                                replace hx423_1 := (HB.out.cell (World.block_lt_of_cell? w _ hx423_1)).trans hx423_1
                                                replace p423 := eq_true p423
                                                replace q423 := eq_true q423
                                                obtain ⟨Ao62, co62, eo62⟩ := Kd.R_slice HO_13.out
                                                subst eo62
                                                have p424 : 0 ≤ (a3 : Int) := of_decide_eq_true (by first | (with_reducible assumption) | assumption)
                                                have q424 : a3 < (t412.length : Int) := of_decide_eq_true (by first | (with_reducible assumption) | assumption)
                                                obtain ⟨ad424, e424, hx424_0⟩ := Kd.at_int (Kd.R_reads' HO_13.out).2.2 a3 p424 q424
                                                cases e424
                                                replace p424 := eq_true p424
                                                replace q424 := eq_true q424
                                                have p425 : 0 ≤ (a4 : Int) := of_decide_eq_true (by first | (with_reducible assumption) | assumption)
                                                have q425 : a4 < (l0.length : Int) := of_decide_eq_true (by first | (with_reducible assumption) | assumption)
                                                obtain ⟨ad425, e425, hx425_0, hx425_1⟩ := at_T35 HR0.out a4 p425 q425
                                                obtain rfl : ad423 = ad425 := (by injection e425)
                                                replace hx425_0 := (HB.out.cell (World.block_lt_of_cell? w _ hx425_0)).trans hx425_0
                                                replace hx425_1 := (HB.out.cell (World.block_lt_of_cell? w _ hx425_1)).trans hx425_1
                                                replace p425 := eq_true p425
                                                replace q425 := eq_true q425
                                                have p426 : 0 ≤ (a4 : Int) := of_decide_eq_true (by first | (with_reducible assumption) | assumption)
                                                have q426 : a4 < (t412.length : Int) := of_decide_eq_true (by first | (with_reducible assumption) | assumption)
                                                obtain ⟨ad426, e426, hx426_0⟩ := Kd.at_int (Kd.R_reads' HO_13.out).2.2 a4 p426 q426
                                                obtain rfl : ad424 = ad426 := (by injection e426)
                                                replace p426 := eq_true p426
                                                replace q426 := eq_true q426
                                                have p427 : 0 ≤ (a3 : Int) := of_decide_eq_true (by first | (with_reducible assumption) | assumption)
                                                have q427 : a3 < (l0.length : Int) := of_decide_eq_true (by first | (with_reducible assumption) | assumption)
                                                obtain ⟨ad427, e427, hx427_0, hx427_1⟩ := at_T35 HR0.out a3 p427 q427
                                                obtain rfl : ad423 = ad427 := (by injection e427)
                                                replace hx427_0 := (HB.out.cell (World.block_lt_of_cell? w _ hx427_0)).trans hx427_0
                                                replace hx427_1 := (HB.out.cell (World.block_lt_of_cell? w _ hx427_1)).trans hx427_1
                                                replace p427 := eq_true p427
                                                replace q427 := eq_true q427
                                                have p428 : 0 ≤ (a4 : Int) := of_decide_eq_true (by first | (with_reducible assumption) | assumption)
                                                have q428 : a4 < (l0.length : Int) := of_decide_eq_true (by first | (with_reducible assumption) | assumption)
                                                obtain ⟨ad428, e428, hx428_0, hx428_1⟩ := at_T35 HR0.out a4 p428 q428
                                                obtain rfl : ad423 = ad428 := (by injection e428)
                                                replace hx428_0 := (HB.out.cell (World.block_lt_of_cell? w _ hx428_0)).trans hx428_0
                                                replace hx428_1 := (HB.out.cell (World.block_lt_of_cell? w _ hx428_1)).trans hx428_1
                                                replace p428 := eq_true p428
                                                replace q428 := eq_true q428
                                                go_wp2
                                                repeat (go_quiet (fail); try go_wp2)
                                                go_ret
                                                exact ⟨by first | rfl | (simp [errW_none, errW_some] <;> rfl) | (simp [*, errW_none, errW_some] <;> rfl), by repeat (first | (with_reducible first | exact HB.out | apply below_alloc | apply pw_below_drewN | apply below_drew1) | exact HB.out)⟩
                                        · rw [if_neg c43] at H
                                          have c43b0 : ((wrap64 ((rd t408 a4) + (rd t413 a4))) == (wrap64 (((rd_T35 l0 a4).f1) - (rd t412 a4)))) = false := beq_eq_false_iff_ne.mpr c43
                                          have c43b1 : ((wrap64 ((rd t408 a4) + (rd t413 a4))) != (wrap64 (((rd_T35 l0 a4).f1) - (rd t412 a4)))) = true := bne_iff_ne.mpr c43
                                          obtain rfl := Option.some.inj H
                                          obtain ⟨Ao63, co63, eo63⟩ := Kd.R_slice HO_11.out
                                          subst eo63
                                          have p419 : 0 ≤ (a3 : Int) := of_decide_eq_true (by first | (with_reducible assumption) | assumption)
                                          have q419 : a3 < (t408.length : Int) := of_decide_eq_true (by first | (with_reducible assumption) | assumption)
                                          obtain ⟨ad419, e419, hx419_0⟩ := Kd.at_int (Kd.R_reads' HO_11.out).2.2 a3 p419 q419
                                          cases e419
                                          replace p419 := eq_true p419
                                          replace q419 := eq_true q419
                                          obtain ⟨Ao64, co64, eo64⟩ := Kd.R_slice HO_14.out
                                          subst eo64
                                          have p420 : 0 ≤ (a3 : Int) := of_decide_eq_true (by first | (with_reducible assumption) | assumption)
                                          have q420 : a3 < (t413.length : Int) := of_decide_eq_true (by first | (with_reducible assumption) | assumption)
                                          obtain ⟨ad420, e420, hx420_0⟩ := Kd.at_int (Kd.R_reads' HO_14.out).2.2 a3 p420 q420
                                          cases e420
                                          replace p420 := eq_true p420
                                          replace q420 := eq_true q420
                                          have p421 : 0 ≤ (a4 : Int) := of_decide_eq_true (by first | (with_reducible assumption) | assumption)
                                          have q421 : a4 < (t408.length : Int) := of_decide_eq_true (by first | (with_reducible assumption) | assumption)
                                          obtain ⟨ad421, e421, hx421_0⟩ := Kd.at_int (Kd.R_reads' HO_11.out).2.2 a4 p421 q421
                                          obtain rfl : ad419 = ad421 := (by injection e421)
                                          replace p421 := eq_true p421
                                          replace q421 := eq_true q421
                                          have p422 : 0 ≤ (a4 : Int) := of_decide_eq_true (by first | (with_reducible assumption) | assumption)
                                          have q422 : a4 < (t413.length : Int) := of_decide_eq_true (by first | (with_reducible assumption) | assumption)
                                          obtain ⟨ad422, e422, hx422_0⟩ := Kd.at_int (Kd.R_reads' HO_14.out).2.2 a4 p422 q422
                                          obtain rfl : ad420 = ad422 := (by injection e422)
                                          replace p422 := eq_true p422
                                          replace q422 := eq_true q422
                                          have p423 : 0 ≤ (a3 : Int) := of_decide_eq_true (by first | (with_reducible assumption) | assumption)
                                          have q423 : a3 < (l0.length : Int) := of_decide_eq_true (by first | (with_reducible assumption) | assumption)
                                          obtain ⟨ad423, e423, hx423_0, hx423_1⟩ := at_T35 HR0.out a3 p423 q423
                                          cases e423
                                          replace hx423_0 := (HB.out.cell (World.block_lt_of_cell? w _ hx423_0)).trans hx423_0
                                          replace hx423_1 := (HB.out.cell (World.block_lt_of_cell? w _ hx423_1)).trans hx423_1
                                          replace p423 := eq_true p423
                                          replace q423 := eq_true q423
                                          obtain ⟨Ao65, co65, eo65⟩ := Kd.R_slice HO_13.out
                                          subst eo65
                                          have p424 : 0 ≤ (a3 : Int) := of_decide_eq_true (by first | (with_reducible assumption) | assumption)
                                          have q424 : a3 < (t412.length : Int) := of_decide_eq_true (by first | (with_reducible assumption) | assumption)
                                          obtain ⟨ad424, e424, hx424_0⟩ := Kd.at_int (Kd.R_reads' HO_13.out).2.2 a3 p424 q424
                                          cases e424
                                          replace p424 := eq_true p424
                                          replace q424 := eq_true q424
                                          have p425 : 0 ≤ (a4 : Int) := of_decide_eq_true (by first | (with_reducible assumption) | assumption)
                                          have q425 : a4 < (l0.length : Int) := of_decide_eq_true (by first | (with_reducible assumption) | assumption)
                                          obtain ⟨ad425, e425, hx425_0, hx425_1⟩ := at_T35 HR0.out a4 p425 q425
                                          obtain rfl : ad423 = ad425 := (by injection e425)
                                          replace hx425_0 := (HB.out.cell (World.block_lt_of_cell? w _ hx425_0)).trans hx425_0
                                          replace hx425_1 := (HB.out.cell (World.block_lt_of_cell? w _ hx425_1)).trans hx425_1
                                          replace p425 := eq_true p425
                                          replace q425 := eq_true q425
                                          have p426 : 0 ≤ (a4 : Int) := of_decide_eq_true (by first | (with_reducible assumption) | assumption)
                                          have q426 : a4 < (t412.length : Int) := of_decide_eq_true (by first | (with_reducible assumption) | assumption)
                                          obtain ⟨ad426, e426, hx426_0⟩ := Kd.at_int (Kd.R_reads' HO_13.out).2.2 a4 p426 q426
                                          obtain rfl : ad424 = ad426 := (by injection e426)
                                          replace p426 := eq_true p426
                                          replace q426 := eq_true q426
                                          go_wp2
                                          repeat (go_quiet (fail); try go_wp2)
                                          go_ret
                                          exact ⟨by first | rfl | (simp [errW_none, errW_some] <;> rfl) | (simp [*, errW_none, errW_some] <;> rfl), by repeat (first | (with_reducible first | exact HB.out | apply below_alloc | apply pw_below_drewN | apply below_drew1) | exact HB.out)⟩
                                      · rw [if_neg c42] at H
                                        exact absurd H (by simp)
                                    · rw [if_neg c41] at H
                                      exact absurd H (by simp)
                                  · rw [if_neg c40] at H
                                    have c40b0 : ((wrap64 ((rd t408 a3) + (rd t413 a3))) == (wrap64 (((rd_T35 l0 a3).f1) - (rd t412 a3)))) = false := beq_eq_false_iff_ne.mpr c40
                                    have c40b1 : ((wrap64 ((rd t408 a3) + (rd t413 a3))) != (wrap64 (((rd_T35 l0 a3).f1) - (rd t412 a3)))) = true := bne_iff_ne.mpr c40
                                    obtain rfl := Option.some.inj H
                                    obtain ⟨Ao66, co66, eo66⟩ := Kd.R_slice HO_11.out
                                    subst eo66
                                    have p419 : 0 ≤ (a3 : Int) := of_decide_eq_true (by first | (with_reducible assumption) | assumption)
                                    have q419 : a3 < (t408.length : Int) := of_decide_eq_true (by first | (with_reducible assumption) | assumption)
                                    obtain ⟨ad419, e419, hx419_0⟩ := Kd.at_int (Kd.R_reads' HO_11.out).2.2 a3 p419 q419
                                    cases e419
                                    replace p419 := eq_true p419
                                    replace q419 := eq_true q419
                                    obtain ⟨Ao67, co67, eo67⟩ := Kd.R_slice HO_14.out
                                    subst eo67
                                    have p420 : 0 ≤ (a3 : Int) := of_decide_eq_true (by first | (with_reducible assumption) | assumption)
                                    have q420 : a3 < (t413.length : Int) := of_decide_eq_true (by first | (with_reducible assumption) | assumption)
                                    obtain ⟨ad420, e420, hx420_0⟩ := Kd.at_int (Kd.R_reads' HO_14.out).2.2 a3 p420 q420
                                    cases e420
                                    replace p420 := eq_true p420
                                    replace q420 := eq_true q420
                                    have p421 : 0 ≤ (a4 : Int) := of_decide_eq_true (by first | (with_reducible assumption) | assumption)
                                    have q421 : a4 < (t408.length : Int) := of_decide_eq_true (by first | (with_reducible assumption) | assumption)
                                    obtain ⟨ad421, e421, hx421_0⟩ := Kd.at_int (Kd.R_reads' HO_11.out).2.2 a4 p421 q421
                                    obtain rfl : ad419 = ad421 := (by injection e421)
                                    replace p421 := eq_true p421
                                    replace q421 := eq_true q421
                                    have p422 : 0 ≤ (a4 : Int) := of_decide_eq_true (by first | (with_reducible assumption) | assumption)
                                    have q422 : a4 < (t413.length : Int) := of_decide_eq_true (by first | (with_reducible assumption) | assumption)
                                    obtain ⟨ad422, e422, hx422_0⟩ := Kd.at_int (Kd.R_reads' HO_14.out).2.2 a4 p422 q422
                                    obtain rfl : ad420 = ad422 := (by injection e422)
                                    replace p422 := eq_true p422
                                    replace q422 := eq_true q422
                                    have p423 : 0 ≤ (a3 : Int) := of_decide_eq_true (by first | (with_reducible assumption) | assumption)
                                    have q423 : a3 < (l0.length : Int) := of_decide_eq_true (by first | (with_reducible assumption) | assumption)
                                    obtain ⟨ad423, e423, hx423_0, hx423_1⟩ := at_T35 HR0.out a3 p423 q423
                                    cases e423
                                    replace hx423_0 := (HB.out.cell (World.block_lt_of_cell? w _ hx423_0)).trans hx423_0
                                    replace hx423_1 := (HB.out.cell (World.block_lt_of_cell? w _ hx423_1)).trans hx423_1
                                    replace p423 := eq_true p423
                                    replace q423 := eq_true q423
                                    obtain ⟨Ao68, co68, eo68⟩ := Kd.R_slice HO_13.out
                                    subst eo68
                                    have p424 : 0 ≤ (a3 : Int) := of_decide_eq_true (by first | (with_reducible assumption) | assumption)
                                    have q424 : a3 < (t412.length : Int) := of_decide_eq_true (by first | (with_reducible assumption) | assumption)
                                    obtain ⟨ad424, e424, hx424_0⟩ := Kd.at_int (Kd.R_reads' HO_13.out).2.2 a3 p424 q424
                                    cases e424
                                    replace p424 := eq_true p424
                                    replace q424 := eq_true q424
                                    go_wp2
                                    repeat (go_quiet (fail); try go_wp2)
                                    go_ret
                                    exact ⟨by first | rfl | (simp [errW_none, errW_some] <;> rfl) | (simp [*, errW_none, errW_some] <;> rfl), by repeat (first | (with_reducible first | exact HB.out | apply below_alloc | apply pw_below_drewN | apply below_drew1) | exact HB.out)⟩
                                · rw [if_neg c39] at H
                                  exact absurd H (by simp)
                              · rw [if_neg c38] at H
                                exact absurd H (by simp)
                            · rw [if_neg c37] at H
                              exact absurd H (by simp)
                          · rw [if_neg c36] at H
                            exact absurd H (by simp)
                        · rw [if_neg c35] at H
                          exact absurd H (by simp)
                      · rw [if_neg c34] at H
                        exact absurd H (by simp)
                    · rw [if_neg c33] at H
                      exact absurd H (by simp)
                  · rw [if_neg c32] at H
                    exact absurd H (by simp)
          · rw [if_neg c18] at H
            have c18b0 : (t414 == 0) = false := beq_eq_false_iff_ne.mpr c18
            have c18b1 : (t414 != 0) = true := bne_iff_ne.mpr c18
            by_cases c69 : t409 = 0
            · rw [if_pos c69] at H
              have c69b0 : (t409 == 0) = true := beq_iff_eq.mpr c69
              have c69b1 : (t409 != 0) = false := bne_eq_false_iff_eq.mpr c69
              clear c69
              obtain rfl := Option.some.inj H
              go_wp2_with (first | (go_at_call 18; (with_reducible refine (average_Values.calls kj7 _ _ l0 _ _ l1 t408 t409 _ ?side1 ?side2 ?side3 ?side4 A16.out).mono ?_); (case side1 => repeat (first | exact (Kd.C_below HR0.out HB.out) | (with_reducible refine Kd.C_alloc ?_ _) | (with_reducible refine Kd.C_drewN ?_ _) | (with_reducible refine Kd.C_drew ?_))); (case side2 => exact HC0.out); (case side3 => repeat (first | exact (Kd.C_below HR1.out HB.out) | (with_reducible refine Kd.C_alloc ?_ _) | (with_reducible refine Kd.C_drewN ?_ _) | (with_reducible refine Kd.C_drew ?_))); (case side4 => exact HC1.out); rintro e w70 ⟨v410, rfl, ho0, hb⟩; have n0_ := Aside0.mk (Kd.R_lower ho0 (below_size (by repeat (first | (with_reducible first | exact HB.out | apply below_alloc | apply pw_below_drewN | apply below_drew1) | exact HB.out)))); have n1_ := Aside0.mk (below_step (by repeat (first | (with_reducible first | exact HB.out | apply below_alloc | apply pw_below_drewN | apply below_drew1) | exact HB.out)) hb); clear HB; have HO411 := n0_; have HB := n1_; clear n0_ n1_; (try clear hb); (try clear hb2); (try clear hk); (try clear hi); (try clear ho0)) | (go_at_call 15; (with_reducible refine (average_Whole.calls kj7 _ _ l0 _ _ l1 a2 t412 t413 t414 _ ?side1 ?side2 ?side3 ?side4 A17.out).mono ?_); (case side1 => repeat (first | exact (Kd.C_below HR0.out HB.out) | (with_reducible refine Kd.C_alloc ?_ _) | (with_reducible refine Kd.C_drewN ?_ _) | (with_reducible refine Kd.C_drew ?_))); (case side2 => exact HC0.out); (case side3 => repeat (first | exact (Kd.C_below HR1.out HB.out) | (with_reducible refine Kd.C_alloc ?_ _) | (with_reducible refine Kd.C_drewN ?_ _) | (with_reducible refine Kd.C_drew ?_))); (case side4 => exact HC1.out); rintro e w71 ⟨v415, v417, rfl, ho0, ho1, hb⟩; have n0_ := Aside0.mk (Kd.R_mono (Kd.R_told (Kd.R_told (Kd.R_old (by (with_reducible repeat (first | apply Kd.R_alloc | apply Kd.R_drewN | apply Kd.R_drew)); exact HO411.out) hb) (Kd.R_base ho0)) (Kd.R_base ho1)) (fun _ h_ => h_.1)); have n1_ := Aside0.mk (Kd.R_lower (Kd.R_new' ho0 (Kd.R_lt (by (with_reducible repeat (first | apply Kd.R_alloc | apply Kd.R_drewN | apply Kd.R_drew)); exact HO411.out))) (below_size (by repeat (first | (with_reducible first | exact HB.out | apply below_alloc | apply pw_below_drewN | apply below_drew1) | exact HB.out)))); have n2_ := Aside0.mk (Kd.R_lower (Kd.R_new' ho1 (Kd.R_lt (by (with_reducible repeat (first | apply Kd.R_alloc | apply Kd.R_drewN | apply Kd.R_drew)); exact HO411.out))) (below_size (by repeat (first | (with_reducible first | exact HB.out | apply below_alloc | apply pw_below_drewN | apply below_drew1) | exact HB.out)))); have n3_ := Aside0.mk (below_step (by repeat (first | (with_reducible first | exact HB.out | apply below_alloc | apply pw_below_drewN | apply below_drew1) | exact HB.out)) hb); clear HO411; clear HB; have HO411 := n0_; have HO416 := n1_; have HO418 := n2_; have HB := n3_; clear n0_ n1_ n2_ n3_; (try clear hb); (try clear hb2); (try clear hk); (try clear hi); (try clear ho0); (try clear ho1)))
              repeat (go_quiet (first | (go_at_call 18; (with_reducible refine (average_Values.calls kj7 _ _ l0 _ _ l1 t408 t409 _ ?side1 ?side2 ?side3 ?side4 A16.out).mono ?_); (case side1 => repeat (first | exact (Kd.C_below HR0.out HB.out) | (with_reducible refine Kd.C_alloc ?_ _) | (with_reducible refine Kd.C_drewN ?_ _) | (with_reducible refine Kd.C_drew ?_))); (case side2 => exact HC0.out); (case side3 => repeat (first | exact (Kd.C_below HR1.out HB.out) | (with_reducible refine Kd.C_alloc ?_ _) | (with_reducible refine Kd.C_drewN ?_ _) | (with_reducible refine Kd.C_drew ?_))); (case side4 => exact HC1.out); rintro e w70 ⟨v410, rfl, ho0, hb⟩; have n0_ := Aside0.mk (Kd.R_lower ho0 (below_size (by repeat (first | (with_reducible first | exact HB.out | apply below_alloc | apply pw_below_drewN | apply below_drew1) | exact HB.out)))); have n1_ := Aside0.mk (below_step (by repeat (first | (with_reducible first | exact HB.out | apply below_alloc | apply pw_below_drewN | apply below_drew1) | exact HB.out)) hb); clear HB; have HO411 := n0_; have HB := n1_; clear n0_ n1_; (try clear hb); (try clear hb2); (try clear hk); (try clear hi); (try clear ho0)) | (go_at_call 15; (with_reducible refine (average_Whole.calls kj7 _ _ l0 _ _ l1 a2 t412 t413 t414 _ ?side1 ?side2 ?side3 ?side4 A17.out).mono ?_); (case side1 => repeat (first | exact (Kd.C_below HR0.out HB.out) | (with_reducible refine Kd.C_alloc ?_ _) | (with_reducible refine Kd.C_drewN ?_ _) | (with_reducible refine Kd.C_drew ?_))); (case side2 => exact HC0.out); (case side3 => repeat (first | exact (Kd.C_below HR1.out HB.out) | (with_reducible refine Kd.C_alloc ?_ _) | (with_reducible refine Kd.C_drewN ?_ _) | (with_reducible refine Kd.C_drew ?_))); (case side4 => exact HC1.out); rintro e w71 ⟨v415, v417, rfl, ho0, ho1, hb⟩; have n0_ := Aside0.mk (Kd.R_mono (Kd.R_told (Kd.R_told (Kd.R_old (by (with_reducible repeat (first | apply Kd.R_alloc | apply Kd.R_drewN | apply Kd.R_drew)); exact HO411.out) hb) (Kd.R_base ho0)) (Kd.R_base ho1)) (fun _ h_ => h_.1)); have n1_ := Aside0.mk (Kd.R_lower (Kd.R_new' ho0 (Kd.R_lt (by (with_reducible repeat (first | apply Kd.R_alloc | apply Kd.R_drewN | apply Kd.R_drew)); exact HO411.out))) (below_size (by repeat (first | (with_reducible first | exact HB.out | apply below_alloc | apply pw_below_drewN | apply below_drew1) | exact HB.out)))); have n2_ := Aside0.mk (Kd.R_lower (Kd.R_new' ho1 (Kd.R_lt (by (with_reducible repeat (first | apply Kd.R_alloc | apply Kd.R_drewN | apply Kd.R_drew)); exact HO411.out))) (below_size (by repeat (first | (with_reducible first | exact HB.out | apply below_alloc | apply pw_below_drewN | apply below_drew1) | exact HB.out)))); have n3_ := Aside0.mk (below_step (by repeat (first | (with_reducible first | exact HB.out | apply below_alloc | apply pw_below_drewN | apply below_drew1) | exact HB.out)) hb); clear HO411; clear HB; have HO411 := n0_; have HO416 := n1_; have HO418 := n2_; have HB := n3_; clear n0_ n1_ n2_ n3_; (try clear hb); (try clear hb2); (try clear hk); (try clear hi); (try clear ho0); (try clear ho1))); try go_wp2_with (first | (go_at_call 18; (with_reducible refine (average_Values.calls kj7 _ _ l0 _ _ l1 t408 t409 _ ?side1 ?side2 ?side3 ?side4 A16.out).mono ?_); (case side1 => repeat (first | exact (Kd.C_below HR0.out HB.out) | (with_reducible refine Kd.C_alloc ?_ _) | (with_reducible refine Kd.C_drewN ?_ _) | (with_reducible refine Kd.C_drew ?_))); (case side2 => exact HC0.out); (case side3 => repeat (first | exact (Kd.C_below HR1.out HB.out) | (with_reducible refine Kd.C_alloc ?_ _) | (with_reducible refine Kd.C_drewN ?_ _) | (with_reducible refine Kd.C_drew ?_))); (case side4 => exact HC1.out); rintro e w70 ⟨v410, rfl, ho0, hb⟩; have n0_ := Aside0.mk (Kd.R_lower ho0 (below_size (by repeat (first | (with_reducible first | exact HB.out | apply below_alloc | apply pw_below_drewN | apply below_drew1) | exact HB.out)))); have n1_ := Aside0.mk (below_step (by repeat (first | (with_reducible first | exact HB.out | apply below_alloc | apply pw_below_drewN | apply below_drew1) | exact HB.out)) hb); clear HB; have HO411 := n0_; have HB := n1_; clear n0_ n1_; (try clear hb); (try clear hb2); (try clear hk); (try clear hi); (try clear ho0)) | (go_at_call 15; (with_reducible refine (average_Whole.calls kj7 _ _ l0 _ _ l1 a2 t412 t413 t414 _ ?side1 ?side2 ?side3 ?side4 A17.out).mono ?_); (case side1 => repeat (first | exact (Kd.C_below HR0.out HB.out) | (with_reducible refine Kd.C_alloc ?_ _) | (with_reducible refine Kd.C_drewN ?_ _) | (with_reducible refine Kd.C_drew ?_))); (case side2 => exact HC0.out); (case side3 => repeat (first | exact (Kd.C_below HR1.out HB.out) | (with_reducible refine Kd.C_alloc ?_ _) | (with_reducible refine Kd.C_drewN ?_ _) | (with_reducible refine Kd.C_drew ?_))); (case side4 => exact HC1.out); rintro e w71 ⟨v415, v417, rfl, ho0, ho1, hb⟩; have n0_ := Aside0.mk (Kd.R_mono (Kd.R_told (Kd.R_told (Kd.R_old (by (with_reducible repeat (first | apply Kd.R_alloc | apply Kd.R_drewN | apply Kd.R_drew)); exact HO411.out) hb) (Kd.R_base ho0)) (Kd.R_base ho1)) (fun _ h_ => h_.1)); have n1_ := Aside0.mk (Kd.R_lower (Kd.R_new' ho0 (Kd.R_lt (by (with_reducible repeat (first | apply Kd.R_alloc | apply Kd.R_drewN | apply Kd.R_drew)); exact HO411.out))) (below_size (by repeat (first | (with_reducible first | exact HB.out | apply below_alloc | apply pw_below_drewN | apply below_drew1) | exact HB.out)))); have n2_ := Aside0.mk (Kd.R_lower (Kd.R_new' ho1 (Kd.R_lt (by (with_reducible repeat (first | apply Kd.R_alloc | apply Kd.R_drewN | apply Kd.R_drew)); exact HO411.out))) (below_size (by repeat (first | (with_reducible first | exact HB.out | apply below_alloc | apply pw_below_drewN | apply below_drew1) | exact HB.out)))); have n3_ := Aside0.mk (below_step (by repeat (first | (with_reducible first | exact HB.out | apply below_alloc | apply pw_below_drewN | apply below_drew1) | exact HB.out)) hb); clear HO411; clear HB; have HO411 := n0_; have HO416 := n1_; have HO418 := n2_; have HB := n3_; clear n0_ n1_ n2_ n3_; (try clear hb); (try clear hb2); (try clear hk); (try clear hi); (try clear ho0); (try clear ho1))))
              go_ret
              exact ⟨by first | rfl | (simp [errW_none, errW_some] <;> rfl) | (simp [*, errW_none, errW_some] <;> rfl), by repeat (first | (with_reducible first | exact HB.out | apply below_alloc | apply pw_below_drewN | apply below_drew1) | exact HB.out)⟩
            · rw [if_neg c69] at H
              have c69b0 : (t409 == 0) = false := beq_eq_false_iff_ne.mpr c69
              have c69b1 : (t409 != 0) = true := bne_iff_ne.mpr c69
              by_cases c72 : t409 = t414
              · rw [if_pos c72] at H
                have c72b0 : (t409 == t414) = true := beq_iff_eq.mpr c72
                have c72b1 : (t409 != t414) = false := bne_eq_false_iff_eq.mpr c72
                clear c72
                obtain rfl := Option.some.inj H
                go_wp2_with (first | (go_at_call 18; (with_reducible refine (average_Values.calls kj7 _ _ l0 _ _ l1 t408 t409 _ ?side1 ?side2 ?side3 ?side4 A16.out).mono ?_); (case side1 => repeat (first | exact (Kd.C_below HR0.out HB.out) | (with_reducible refine Kd.C_alloc ?_ _) | (with_reducible refine Kd.C_drewN ?_ _) | (with_reducible refine Kd.C_drew ?_))); (case side2 => exact HC0.out); (case side3 => repeat (first | exact (Kd.C_below HR1.out HB.out) | (with_reducible refine Kd.C_alloc ?_ _) | (with_reducible refine Kd.C_drewN ?_ _) | (with_reducible refine Kd.C_drew ?_))); (case side4 => exact HC1.out); rintro e w73 ⟨v410, rfl, ho0, hb⟩; have n0_ := Aside0.mk (Kd.R_lower ho0 (below_size (by repeat (first | (with_reducible first | exact HB.out | apply below_alloc | apply pw_below_drewN | apply below_drew1) | exact HB.out)))); have n1_ := Aside0.mk (below_step (by repeat (first | (with_reducible first | exact HB.out | apply below_alloc | apply pw_below_drewN | apply below_drew1) | exact HB.out)) hb); clear HB; have HO411 := n0_; have HB := n1_; clear n0_ n1_; (try clear hb); (try clear hb2); (try clear hk); (try clear hi); (try clear ho0)) | (go_at_call 15; (with_reducible refine (average_Whole.calls kj7 _ _ l0 _ _ l1 a2 t412 t413 t414 _ ?side1 ?side2 ?side3 ?side4 A17.out).mono ?_); (case side1 => repeat (first | exact (Kd.C_below HR0.out HB.out) | (with_reducible refine Kd.C_alloc ?_ _) | (with_reducible refine Kd.C_drewN ?_ _) | (with_reducible refine Kd.C_drew ?_))); (case side2 => exact HC0.out); (case side3 => repeat (first | exact (Kd.C_below HR1.out HB.out) | (with_reducible refine Kd.C_alloc ?_ _) | (with_reducible refine Kd.C_drewN ?_ _) | (with_reducible refine Kd.C_drew ?_))); (case side4 => exact HC1.out); rintro e w74 ⟨v415, v417, rfl, ho0, ho1, hb⟩; have n0_ := Aside0.mk (Kd.R_mono (Kd.R_told (Kd.R_told (Kd.R_old (by (with_reducible repeat (first | apply Kd.R_alloc | apply Kd.R_drewN | apply Kd.R_drew)); exact HO411.out) hb) (Kd.R_base ho0)) (Kd.R_base ho1)) (fun _ h_ => h_.1)); have n1_ := Aside0.mk (Kd.R_lower (Kd.R_new' ho0 (Kd.R_lt (by (with_reducible repeat (first | apply Kd.R_alloc | apply Kd.R_drewN | apply Kd.R_drew)); exact HO411.out))) (below_size (by repeat (first | (with_reducible first | exact HB.out | apply below_alloc | apply pw_below_drewN | apply below_drew1) | exact HB.out)))); have n2_ := Aside0.mk (Kd.R_lower (Kd.R_new' ho1 (Kd.R_lt (by (with_reducible repeat (first | apply Kd.R_alloc | apply Kd.R_drewN | apply Kd.R_drew)); exact HO411.out))) (below_size (by repeat (first | (with_reducible first | exact HB.out | apply below_alloc | apply pw_below_drewN | apply below_drew1) | exact HB.out)))); have n3_ := Aside0.mk (below_step (by repeat (first | (with_reducible first | exact HB.out | apply below_alloc | apply pw_below_drewN | apply below_drew1) | exact HB.out)) hb); clear HO411; clear HB; have HO411 := n0_; have HO416 := n1_; have HO418 := n2_; have HB := n3_; clear n0_ n1_ n2_ n3_; (try clear hb); (try clear hb2); (try clear hk); (try clear hi); (try clear ho0); (try clear ho1); obtain ⟨Ao75, co75, eo75⟩ := Kd.R_slice HO411.out; subst eo75))
                repeat (go_quiet (first | (go_at_call 18; (with_reducible refine (average_Values.calls kj7 _ _ l0 _ _ l1 t408 t409 _ ?side1 ?side2 ?side3 ?side4 A16.out).mono ?_); (case side1 => repeat (first | exact (Kd.C_below HR0.out HB.out) | (with_reducible refine Kd.C_alloc ?_ _) | (with_reducible refine Kd.C_drewN ?_ _) | (with_reducible refine Kd.C_drew ?_))); (case side2 => exact HC0.out); (case side3 => repeat (first | exact (Kd.C_below HR1.out HB.out) | (with_reducible refine Kd.C_alloc ?_ _) | (with_reducible refine Kd.C_drewN ?_ _) | (with_reducible refine Kd.C_drew ?_))); (case side4 => exact HC1.out); rintro e w73 ⟨v410, rfl, ho0, hb⟩; have n0_ := Aside0.mk (Kd.R_lower ho0 (below_size (by repeat (first | (with_reducible first | exact HB.out | apply below_alloc | apply pw_below_drewN | apply below_drew1) | exact HB.out)))); have n1_ := Aside0.mk (below_step (by repeat (first | (with_reducible first | exact HB.out | apply below_alloc | apply pw_below_drewN | apply below_drew1) | exact HB.out)) hb); clear HB; have HO411 := n0_; have HB := n1_; clear n0_ n1_; (try clear hb); (try clear hb2); (try clear hk); (try clear hi); (try clear ho0)) | (go_at_call 15; (with_reducible refine (average_Whole.calls kj7 _ _ l0 _ _ l1 a2 t412 t413 t414 _ ?side1 ?side2 ?side3 ?side4 A17.out).mono ?_); (case side1 => repeat (first | exact (Kd.C_below HR0.out HB.out) | (with_reducible refine Kd.C_alloc ?_ _) | (with_reducible refine Kd.C_drewN ?_ _) | (with_reducible refine Kd.C_drew ?_))); (case side2 => exact HC0.out); (case side3 => repeat (first | exact (Kd.C_below HR1.out HB.out) | (with_reducible refine Kd.C_alloc ?_ _) | (with_reducible refine Kd.C_drewN ?_ _) | (with_reducible refine Kd.C_drew ?_))); (case side4 => exact HC1.out); rintro e w74 ⟨v415, v417, rfl, ho0, ho1, hb⟩; have n0_ := Aside0.mk (Kd.R_mono (Kd.R_told (Kd.R_told (Kd.R_old (by (with_reducible repeat (first | apply Kd.R_alloc | apply Kd.R_drewN | apply Kd.R_drew)); exact HO411.out) hb) (Kd.R_base ho0)) (Kd.R_base ho1)) (fun _ h_ => h_.1)); have n1_ := Aside0.mk (Kd.R_lower (Kd.R_new' ho0 (Kd.R_lt (by (with_reducible repeat (first | apply Kd.R_alloc | apply Kd.R_drewN | apply Kd.R_drew)); exact HO411.out))) (below_size (by repeat (first | (with_reducible first | exact HB.out | apply below_alloc | apply pw_below_drewN | apply below_drew1) | exact HB.out)))); have n2_ := Aside0.mk (Kd.R_lower (Kd.R_new' ho1 (Kd.R_lt (by (with_reducible repeat (first | apply Kd.R_alloc | apply Kd.R_drewN | apply Kd.R_drew)); exact HO411.out))) (below_size (by repeat (first | (with_reducible first | exact HB.out | apply below_alloc | apply pw_below_drewN | apply below_drew1) | exact HB.out)))); have n3_ := Aside0.mk (below_step (by repeat (first | (with_reducible first | exact HB.out | apply below_alloc | apply pw_below_drewN | apply below_drew1) | exact HB.out)) hb); clear HO411; clear HB; have HO411 := n0_; have HO416 := n1_; have HO418 := n2_; have HB := n3_; clear n0_ n1_ n2_ n3_; (try clear hb); (try clear hb2); (try clear hk); (try clear hi); (try clear ho0); (try clear ho1); obtain ⟨Ao75, co75, eo75⟩ := Kd.R_slice HO411.out; subst eo75)); try go_wp2_with (first | (go_at_call 18; (with_reducible refine (average_Values.calls kj7 _ _ l0 _ _ l1 t408 t409 _ ?side1 ?side2 ?side3 ?side4 A16.out).mono ?_); (case side1 => repeat (first | exact (Kd.C_below HR0.out HB.out) | (with_reducible refine Kd.C_alloc ?_ _) | (with_reducible refine Kd.C_drewN ?_ _) | (with_reducible refine Kd.C_drew ?_))); (case side2 => exact HC0.out); (case side3 => repeat (first | exact (Kd.C_below HR1.out HB.out) | (with_reducible refine Kd.C_alloc ?_ _) | (with_reducible refine Kd.C_drewN ?_ _) | (with_reducible refine Kd.C_drew ?_))); (case side4 => exact HC1.out); rintro e w73 ⟨v410, rfl, ho0, hb⟩; have n0_ := Aside0.mk (Kd.R_lower ho0 (below_size (by repeat (first | (with_reducible first | exact HB.out | apply below_alloc | apply pw_below_drewN | apply below_drew1) | exact HB.out)))); have n1_ := Aside0.mk (below_step (by repeat (first | (with_reducible first | exact HB.out | apply below_alloc | apply pw_below_drewN | apply below_drew1) | exact HB.out)) hb); clear HB; have HO411 := n0_; have HB := n1_; clear n0_ n1_; (try clear hb); (try clear hb2); (try clear hk); (try clear hi); (try clear ho0)) | (go_at_call 15; (with_reducible refine (average_Whole.calls kj7 _ _ l0 _ _ l1 a2 t412 t413 t414 _ ?side1 ?side2 ?side3 ?side4 A17.out).mono ?_); (case side1 => repeat (first | exact (Kd.C_below HR0.out HB.out) | (with_reducible refine Kd.C_alloc ?_ _) | (with_reducible refine Kd.C_drewN ?_ _) | (with_reducible refine Kd.C_drew ?_))); (case side2 => exact HC0.out); (case side3 => repeat (first | exact (Kd.C_below HR1.out HB.out) | (with_reducible refine Kd.C_alloc ?_ _) | (with_reducible refine Kd.C_drewN ?_ _) | (with_reducible refine Kd.C_drew ?_))); (case side4 => exact HC1.out); rintro e w74 ⟨v415, v417, rfl, ho0, ho1, hb⟩; have n0_ := Aside0.mk (Kd.R_mono (Kd.R_told (Kd.R_told (Kd.R_old (by (with_reducible repeat (first | apply Kd.R_alloc | apply Kd.R_drewN | apply Kd.R_drew)); exact HO411.out) hb) (Kd.R_base ho0)) (Kd.R_base ho1)) (fun _ h_ => h_.1)); have n1_ := Aside0.mk (Kd.R_lower (Kd.R_new' ho0 (Kd.R_lt (by (with_reducible repeat (first | apply Kd.R_alloc | apply Kd.R_drewN | apply Kd.R_drew)); exact HO411.out))) (below_size (by repeat (first | (with_reducible first | exact HB.out | apply below_alloc | apply pw_below_drewN | apply below_drew1) | exact HB.out)))); have n2_ := Aside0.mk (Kd.R_lower (Kd.R_new' ho1 (Kd.R_lt (by (with_reducible repeat (first | apply Kd.R_alloc | apply Kd.R_drewN | apply Kd.R_drew)); exact HO411.out))) (below_size (by repeat (first | (with_reducible first | exact HB.out | apply below_alloc | apply pw_below_drewN | apply below_drew1) | exact HB.out)))); have n3_ := Aside0.mk (below_step (by repeat (first | (with_reducible first | exact HB.out | apply below_alloc | apply pw_below_drewN | apply below_drew1) | exact HB.out)) hb); clear HO411; clear HB; have HO411 := n0_; have HO416 := n1_; have HO418 := n2_; have HB := n3_; clear n0_ n1_ n2_ n3_; (try clear hb); (try clear hb2); (try clear hk); (try clear hi); (try clear ho0); (try clear ho1); obtain ⟨Ao75, co75, eo75⟩ := Kd.R_slice HO411.out; subst eo75)))
                go_ret
                exact ⟨by first | rfl | (simp [errW_none, errW_some] <;> rfl) | (simp [*, errW_none, errW_some] <;> rfl), by repeat (first | (with_reducible first | exact HB.out | apply below_alloc | apply pw_below_drewN | apply below_drew1) | exact HB.out)⟩
              · rw [if_neg c72] at H
                have c72b0 : (t409 == t414) = false := beq_eq_false_iff_ne.mpr c72
                have c72b1 : (t409 != t414) = true := bne_iff_ne.mpr c72
                obtain rfl := Option.some.inj H
                go_wp2_with (first | (go_at_call 18; (with_reducible refine (average_Values.calls kj7 _ _ l0 _ _ l1 t408 t409 _ ?side1 ?side2 ?side3 ?side4 A16.out).mono ?_); (case side1 => repeat (first | exact (Kd.C_below HR0.out HB.out) | (with_reducible refine Kd.C_alloc ?_ _) | (with_reducible refine Kd.C_drewN ?_ _) | (with_reducible refine Kd.C_drew ?_))); (case side2 => exact HC0.out); (case side3 => repeat (first | exact (Kd.C_below HR1.out HB.out) | (with_reducible refine Kd.C_alloc ?_ _) | (with_reducible refine Kd.C_drewN ?_ _) | (with_reducible refine Kd.C_drew ?_))); (case side4 => exact HC1.out); rintro e w76 ⟨v410, rfl, ho0, hb⟩; have n0_ := Aside0.mk (Kd.R_lower ho0 (below_size (by repeat (first | (with_reducible first | exact HB.out | apply below_alloc | apply pw_below_drewN | apply below_drew1) | exact HB.out)))); have n1_ := Aside0.mk (below_step (by repeat (first | (with_reducible first | exact HB.out | apply below_alloc | apply pw_below_drewN | apply below_drew1) | exact HB.out)) hb); clear HB; have HO411 := n0_; have HB := n1_; clear n0_ n1_; (try clear hb); (try clear hb2); (try clear hk); (try clear hi); (try clear ho0)) | (go_at_call 15; (with_reducible refine (average_Whole.calls kj7 _ _ l0 _ _ l1 a2 t412 t413 t414 _ ?side1 ?side2 ?side3 ?side4 A17.out).mono ?_); (case side1 => repeat (first | exact (Kd.C_below HR0.out HB.out) | (with_reducible refine Kd.C_alloc ?_ _) | (with_reducible refine Kd.C_drewN ?_ _) | (with_reducible refine Kd.C_drew ?_))); (case side2 => exact HC0.out); (case side3 => repeat (first | exact (Kd.C_below HR1.out HB.out) | (with_reducible refine Kd.C_alloc ?_ _) | (with_reducible refine Kd.C_drewN ?_ _) | (with_reducible refine Kd.C_drew ?_))); (case side4 => exact HC1.out); rintro e w77 ⟨v415, v417, rfl, ho0, ho1, hb⟩; have n0_ := Aside0.mk (Kd.R_mono (Kd.R_told (Kd.R_told (Kd.R_old (by (with_reducible repeat (first | apply Kd.R_alloc | apply Kd.R_drewN | apply Kd.R_drew)); exact HO411.out) hb) (Kd.R_base ho0)) (Kd.R_base ho1)) (fun _ h_ => h_.1)); have n1_ := Aside0.mk (Kd.R_lower (Kd.R_new' ho0 (Kd.R_lt (by (with_reducible repeat (first | apply Kd.R_alloc | apply Kd.R_drewN | apply Kd.R_drew)); exact HO411.out))) (below_size (by repeat (first | (with_reducible first | exact HB.out | apply below_alloc | apply pw_below_drewN | apply below_drew1) | exact HB.out)))); have n2_ := Aside0.mk (Kd.R_lower (Kd.R_new' ho1 (Kd.R_lt (by (with_reducible repeat (first | apply Kd.R_alloc | apply Kd.R_drewN | apply Kd.R_drew)); exact HO411.out))) (below_size (by repeat (first | (with_reducible first | exact HB.out | apply below_alloc | apply pw_below_drewN | apply below_drew1) | exact HB.out)))); have n3_ := Aside0.mk (below_step (by repeat (first | (with_reducible first | exact HB.out | apply below_alloc | apply pw_below_drewN | apply below_drew1) | exact HB.out)) hb); clear HO411; clear HB; have HO411 := n0_; have HO416 := n1_; have HO418 := n2_; have HB := n3_; clear n0_ n1_ n2_ n3_; (try clear hb); (try clear hb2); (try clear hk); (try clear hi); (try clear ho0); (try clear ho1)))
                repeat (go_quiet (first | (go_at_call 18; (with_reducible refine (average_Values.calls kj7 _ _ l0 _ _ l1 t408 t409 _ ?side1 ?side2 ?side3 ?side4 A16.out).mono ?_); (case side1 => repeat (first | exact (Kd.C_below HR0.out HB.out) | (with_reducible refine Kd.C_alloc ?_ _) | (with_reducible refine Kd.C_drewN ?_ _) | (with_reducible refine Kd.C_drew ?_))); (case side2 => exact HC0.out); (case side3 => repeat (first | exact (Kd.C_below HR1.out HB.out) | (with_reducible refine Kd.C_alloc ?_ _) | (with_reducible refine Kd.C_drewN ?_ _) | (with_reducible refine Kd.C_drew ?_))); (case side4 => exact HC1.out); rintro e w76 ⟨v410, rfl, ho0, hb⟩; have n0_ := Aside0.mk (Kd.R_lower ho0 (below_size (by repeat (first | (with_reducible first | exact HB.out | apply below_alloc | apply pw_below_drewN | apply below_drew1) | exact HB.out)))); have n1_ := Aside0.mk (below_step (by repeat (first | (with_reducible first | exact HB.out | apply below_alloc | apply pw_below_drewN | apply below_drew1) | exact HB.out)) hb); clear HB; have HO411 := n0_; have HB := n1_; clear n0_ n1_; (try clear hb); (try clear hb2); (try clear hk); (try clear hi); (try clear ho0)) | (go_at_call 15; (with_reducible refine (average_Whole.calls kj7 _ _ l0 _ _ l1 a2 t412 t413 t414 _ ?side1 ?side2 ?side3 ?side4 A17.out).mono ?_); (case side1 => repeat (first | exact (Kd.C_below HR0.out HB.out) | (with_reducible refine Kd.C_alloc ?_ _) | (with_reducible refine Kd.C_drewN ?_ _) | (with_reducible refine Kd.C_drew ?_))); (case side2 => exact HC0.out); (case side3 => repeat (first | exact (Kd.C_below HR1.out HB.out) | (with_reducible refine Kd.C_alloc ?_ _) | (with_reducible refine Kd.C_drewN ?_ _) | (with_reducible refine Kd.C_drew ?_))); (case side4 => exact HC1.out); rintro e w77 ⟨v415, v417, rfl, ho0, ho1, hb⟩; have n0_ := Aside0.mk (Kd.R_mono (Kd.R_told (Kd.R_told (Kd.R_old (by (with_reducible repeat (first | apply Kd.R_alloc | apply Kd.R_drewN | apply Kd.R_drew)); exact HO411.out) hb) (Kd.R_base ho0)) (Kd.R_base ho1)) (fun _ h_ => h_.1)); have n1_ := Aside0.mk (Kd.R_lower (Kd.R_new' ho0 (Kd.R_lt (by (with_reducible repeat (first | apply Kd.R_alloc | apply Kd.R_drewN | apply Kd.R_drew)); exact HO411.out))) (below_size (by repeat (first | (with_reducible first | exact HB.out | apply below_alloc | apply pw_below_drewN | apply below_drew1) | exact HB.out)))); have n2_ := Aside0.mk (Kd.R_lower (Kd.R_new' ho1 (Kd.R_lt (by (with_reducible repeat (first | apply Kd.R_alloc | apply Kd.R_drewN | apply Kd.R_drew)); exact HO411.out))) (below_size (by repeat (first | (with_reducible first | exact HB.out | apply below_alloc | apply pw_below_drewN | apply below_drew1) | exact HB.out)))); have n3_ := Aside0.mk (below_step (by repeat (first | (with_reducible first | exact HB.out | apply below_alloc | apply pw_below_drewN | apply below_drew1) | exact HB.out)) hb); clear HO411; clear HB; have HO411 := n0_; have HO416 := n1_; have HO418 := n2_; have HB := n3_; clear n0_ n1_ n2_ n3_; (try clear hb); (try clear hb2); (try clear hk); (try clear hi); (try clear ho0); (try clear ho1))); try go_wp2_with (first | (go_at_call 18; (with_reducible refine (average_Values.calls kj7 _ _ l0 _ _ l1 t408 t409 _ ?side1 ?side2 ?side3 ?side4 A16.out).mono ?_); (case side1 => repeat (first | exact (Kd.C_below HR0.out HB.out) | (with_reducible refine Kd.C_alloc ?_ _) | (with_reducible refine Kd.C_drewN ?_ _) | (with_reducible refine Kd.C_drew ?_))); (case side2 => exact HC0.out); (case side3 => repeat (first | exact (Kd.C_below HR1.out HB.out) | (with_reducible refine Kd.C_alloc ?_ _) | (with_reducible refine Kd.C_drewN ?_ _) | (with_reducible refine Kd.C_drew ?_))); (case side4 => exact HC1.out); rintro e w76 ⟨v410, rfl, ho0, hb⟩; have n0_ := Aside0.mk (Kd.R_lower ho0 (below_size (by repeat (first | (with_reducible first | exact HB.out | apply below_alloc | apply pw_below_drewN | apply below_drew1) | exact HB.out)))); have n1_ := Aside0.mk (below_step (by repeat (first | (with_reducible first | exact HB.out | apply below_alloc | apply pw_below_drewN | apply below_drew1) | exact HB.out)) hb); clear HB; have HO411 := n0_; have HB := n1_; clear n0_ n1_; (try clear hb); (try clear hb2); (try clear hk); (try clear hi); (try clear ho0)) | (go_at_call 15; (with_reducible refine (average_Whole.calls kj7 _ _ l0 _ _ l1 a2 t412 t413 t414 _ ?side1 ?side2 ?side3 ?side4 A17.out).mono ?_); (case side1 => repeat (first | exact (Kd.C_below HR0.out HB.out) | (with_reducible refine Kd.C_alloc ?_ _) | (with_reducible refine Kd.C_drewN ?_ _) | (with_reducible refine Kd.C_drew ?_))); (case side2 => exact HC0.out); (case side3 => repeat (first | exact (Kd.C_below HR1.out HB.out) | (with_reducible refine Kd.C_alloc ?_ _) | (with_reducible refine Kd.C_drewN ?_ _) | (with_reducible refine Kd.C_drew ?_))); (case side4 => exact HC1.out); rintro e w77 ⟨v415, v417, rfl, ho0, ho1, hb⟩; have n0_ := Aside0.mk (Kd.R_mono (Kd.R_told (Kd.R_told (Kd.R_old (by (with_reducible repeat (first | apply Kd.R_alloc | apply Kd.R_drewN | apply Kd.R_drew)); exact HO411.out) hb) (Kd.R_base ho0)) (Kd.R_base ho1)) (fun _ h_ => h_.1)); have n1_ := Aside0.mk (Kd.R_lower (Kd.R_new' ho0 (Kd.R_lt (by (with_reducible repeat (first | apply Kd.R_alloc | apply Kd.R_drewN | apply Kd.R_drew)); exact HO411.out))) (below_size (by repeat (first | (with_reducible first | exact HB.out | apply below_alloc | apply pw_below_drewN | apply below_drew1) | exact HB.out)))); have n2_ := Aside0.mk (Kd.R_lower (Kd.R_new' ho1 (Kd.R_lt (by (with_reducible repeat (first | apply Kd.R_alloc | apply Kd.R_drewN | apply Kd.R_drew)); exact HO411.out))) (below_size (by repeat (first | (with_reducible first | exact HB.out | apply below_alloc | apply pw_below_drewN | apply below_drew1) | exact HB.out)))); have n3_ := Aside0.mk (below_step (by repeat (first | (with_reducible first | exact HB.out | apply below_alloc | apply pw_below_drewN | apply below_drew1) | exact HB.out)) hb); clear HO411; clear HB; have HO411 := n0_; have HO416 := n1_; have HO418 := n2_; have HB := n3_; clear n0_ n1_ n2_ n3_; (try clear hb); (try clear hb2); (try clear hk); (try clear hi); (try clear ho0); (try clear ho1))))
                go_ret
                exact ⟨by first | rfl | (simp [errW_none, errW_some] <;> rfl) | (simp [*, errW_none, errW_some] <;> rfl), by repeat (first | (with_reducible first | exact HB.out | apply below_alloc | apply pw_below_drewN | apply below_drew1) | exact HB.out)⟩
  · replace c7 := Bool.eq_false_iff.mpr c7
    subst c7
    have H1 : (some false) = some r := by rw [if_neg (show ¬ (false = true) by decide)] at H; exact H
    clear H
    have H := H1
    clear H1
    obtain rfl := Option.some.inj H
    go_enter Try.func8, Try.ntmps8
    go_wp2_with (first | (go_at_call 10; (with_reducible refine (supercargolaw43_awake.calls k  false _ A6.out).mono ?_); rintro e w78 ⟨rfl, hb⟩; have n0_ := Aside0.mk (below_step (by repeat (first | (with_reducible first | exact HB.out | apply below_alloc | apply pw_below_drewN | apply below_drew1) | exact HB.out)) hb); clear HB; have HB := n0_; clear n0_; (try clear hb); (try clear hb2); (try clear hk); (try clear hi)))
    repeat (go_quiet (first | (go_at_call 10; (with_reducible refine (supercargolaw43_awake.calls k  false _ A6.out).mono ?_); rintro e w78 ⟨rfl, hb⟩; have n0_ := Aside0.mk (below_step (by repeat (first | (with_reducible first | exact HB.out | apply below_alloc | apply pw_below_drewN | apply below_drew1) | exact HB.out)) hb); clear HB; have HB := n0_; clear n0_; (try clear hb); (try clear hb2); (try clear hk); (try clear hi))); try go_wp2_with (first | (go_at_call 10; (with_reducible refine (supercargolaw43_awake.calls k  false _ A6.out).mono ?_); rintro e w78 ⟨rfl, hb⟩; have n0_ := Aside0.mk (below_step (by repeat (first | (with_reducible first | exact HB.out | apply below_alloc | apply pw_below_drewN | apply below_drew1) | exact HB.out)) hb); clear HB; have HB := n0_; clear n0_; (try clear hb); (try clear hb2); (try clear hk); (try clear hi))))
    go_ret
    exact ⟨by first | rfl | (simp [errW_none, errW_some] <;> rfl) | (simp [*, errW_none, errW_some] <;> rfl), by repeat (first | (with_reducible first | exact HB.out | apply below_alloc | apply pw_below_drewN | apply below_drew1) | exact HB.out)⟩

end Go.Proofs.Yteeehijpdkbgkaa.Print
