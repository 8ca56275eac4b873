/- Contracts of the program's functions over this seat's translation, written out by this session's own driver. Conditions: those in each statement. -/
import Derived.Test.YteeehijpdkbgkaaPrint0
import Derived.Test.YteeehijpdkbgkaaPrint12
import Derived.Test.YteeehijpdkbgkaaPrint14
import Derived.Test.YteeehijpdkbgkaaPrint16
namespace Go.Proofs.Yteeehijpdkbgkaa.Print
open Go.RowKit Go.Proofs.YteeehijpdkbgkaaW.PrintWords Go.Proofs.YteeehijpdkbgkaaW.PrintLast Go.Proofs.YteeehijpdkbgkaaW.PrintMore
attribute [local go_sem] max2_int min2_int max_two min_two max_three min_three max_four min_four   -- for this text's walks alone
set_option linter.unusedVariables false
set_option linter.unusedSimpArgs false

/-! ### supercargolaw43_AverageSums: function 4 -/
mutual
def supercargolaw43_AverageSums.j0 : Nat → List (S35) → List Int → Int → List Int → List Int → Bool → Option (Bool)
  | 0, _, _, _, _, _, _ => none
  | k + 1, x0, x1, x2, x7, x8, x60 => if x60 = true then (some false) else (supercargolaw43_AverageSums.l0 k x0 x1 x7 x8 x2 0 x2 0 0)
def supercargolaw43_AverageSums.l0 : Nat → List (S35) → List Int → List Int → List Int → Int → Int → Int → Int → Int → Option (Bool)
  | 0, _, _, _, _, _, _, _, _, _ => none
  | k + 1, x0, x1, x7, x8, x10, x11, x12, x13, x14 => if x14 < (x0.length : Int) then (if 0 ≤ x14 then (if x14 < (x1.length : Int) then (if x14 < (x7.length : Int) then (if x14 < (x8.length : Int) then (if (rd x8 x14) = (wrap64 ((rd x1 x14) - (rd x7 x14))) then (supercargolaw43_AverageSums.l0 k x0 x1 x7 x8 (wrap64 (x10 + (rd x1 x14))) (wrap64 (x11 + (rd x7 x14))) (wrap64 (x12 + (rd x8 x14))) (wrap64 (x13 + ((rd_T35 x0 x14).f1))) (wrap64 (x14 + 1))) else (some false)) else (none)) else (none)) else (none)) else (none)) else (supercargolaw43_AverageSums.l1 k x0 x7 x10 x11 x12 x13 0)
def supercargolaw43_AverageSums.l1 : Nat → List (S35) → List Int → Int → Int → Int → Int → Int → Option (Bool)
  | 0, _, _, _, _, _, _, _ => none
  | k + 1, x0, x7, x10, x11, x12, x13, x15 => if x15 < (x0.length : Int) then (supercargolaw43_AverageSums.j3 k x0 x7 x10 x11 x12 x13 x15 (decide (x13 > 0))) else (supercargolaw43_AverageSums.j3 k x0 x7 x10 x11 x12 x13 x15 false)
def supercargolaw43_AverageSums.j3 : Nat → List (S35) → List Int → Int → Int → Int → Int → Int → Bool → Option (Bool)
  | 0, _, _, _, _, _, _, _, _ => none
  | k + 1, x0, x7, x10, x11, x12, x13, x15, x115 => if x115 = true then (if 0 ≤ x15 then (if x15 < (x0.length : Int) then ((supercargoref04_Times.f k x10 ((rd_T35 x0 x15).f1) x13).bind fun bt294 => (if x15 < (x7.length : Int) then (if (rd x7 x15) < bt294.1 then (some false) else (if (rd x7 x15) > (wrap64 (bt294.1 + 1)) then (some false) else (if bt294.2 = 0 then (if (rd x7 x15) = bt294.1 then (supercargolaw43_AverageSums.l1 k x0 x7 x10 x11 x12 x13 (wrap64 (x15 + 1))) else (some false)) else (supercargolaw43_AverageSums.l1 k x0 x7 x10 x11 x12 x13 (wrap64 (x15 + 1)))))) else (none))) else (none)) else (none)) else (if x11 = x10 then (some (x12 == 0)) else (some false))
end
def supercargolaw43_AverageSums.f (k : Nat) (l0 : List (S35)) (l1 : List Int) (a2 : Int) : Option (Bool) := (supercargolaw43_awake.f k).bind fun t277 => (if t277 = true then ((supercargolaw43_few.f k l0 l1).bind fun t278 => (if t278 = true then ((average_Whole.f k l0 l1 a2).bind fun bt279 => (if bt279.2.2 = 0 then (if (bt279.1.length : Int) = (l0.length : Int) then (if (bt279.2.1.length : Int) = (l0.length : Int) then (supercargolaw43_AverageSums.j0 k l0 l1 a2 bt279.1 bt279.2.1 ((l1.length : Int) != (l0.length : Int))) else (supercargolaw43_AverageSums.j0 k l0 l1 a2 bt279.1 bt279.2.1 true)) else (supercargolaw43_AverageSums.j0 k l0 l1 a2 bt279.1 bt279.2.1 true)) else (if (bt279.1.length : Int) = 0 then (some ((bt279.2.1.length : Int) == 0)) else (some false)))) else (some true))) else (some false))
theorem supercargolaw43_AverageSums.mono_l : ∀ k, (∀ y0 y1 y2 y3 y4 y5, LeO (supercargolaw43_AverageSums.j0 k y0 y1 y2 y3 y4 y5) (supercargolaw43_AverageSums.j0 (k + 1) y0 y1 y2 y3 y4 y5)) ∧ (∀ y0 y1 y2 y3 y4 y5 y6 y7 y8, LeO (supercargolaw43_AverageSums.l0 k y0 y1 y2 y3 y4 y5 y6 y7 y8) (supercargolaw43_AverageSums.l0 (k + 1) y0 y1 y2 y3 y4 y5 y6 y7 y8)) ∧ (∀ y0 y1 y2 y3 y4 y5 y6, LeO (supercargolaw43_AverageSums.l1 k y0 y1 y2 y3 y4 y5 y6) (supercargolaw43_AverageSums.l1 (k + 1) y0 y1 y2 y3 y4 y5 y6)) ∧ (∀ y0 y1 y2 y3 y4 y5 y6 y7, LeO (supercargolaw43_AverageSums.j3 k y0 y1 y2 y3 y4 y5 y6 y7) (supercargolaw43_AverageSums.j3 (k + 1) y0 y1 y2 y3 y4 y5 y6 y7))
  | 0 => ⟨fun _ _ _ _ _ _ r h => by simp [supercargolaw43_AverageSums.j0] at h, fun _ _ _ _ _ _ _ _ _ r h => by simp [supercargolaw43_AverageSums.l0] at h, fun _ _ _ _ _ _ _ r h => by simp [supercargolaw43_AverageSums.l1] at h, fun _ _ _ _ _ _ _ _ r h => by simp [supercargolaw43_AverageSums.j3] at h⟩
  | k + 1 => by
    obtain ⟨ih0, ih1, ih2, ih3⟩ := supercargolaw43_AverageSums.mono_l k
    refine ⟨?_, ?_, ?_, ?_⟩
    · intro y0 y1 y2 y3 y4 y5
      unfold supercargolaw43_AverageSums.j0
      repeat' first
      | (with_reducible exact ih0 _ _ _ _ _ _)
      | (with_reducible exact ih1 _ _ _ _ _ _ _ _ _)
      | (with_reducible exact ih2 _ _ _ _ _ _ _)
      | (with_reducible exact ih3 _ _ _ _ _ _ _ _)
      | (with_reducible exact average_Whole.mono _ _ _ _)
      | (with_reducible exact supercargolaw43_awake.mono _)
      | (with_reducible exact supercargolaw43_few.mono _ _ _)
      | (with_reducible exact supercargoref04_Times.mono _ _ _ _)
      | (with_reducible exact LeO.refl _)
      | (with_reducible exact LeO.none _)
      | (with_reducible refine LeO.ite ?_ ?_)
      | (with_reducible refine LeO.bind ?_ (fun _ => ?_))
      | exact ih0 _ _ _ _ _ _
      | exact ih1 _ _ _ _ _ _ _ _ _
      | exact ih2 _ _ _ _ _ _ _
      | exact ih3 _ _ _ _ _ _ _ _
      | exact average_Whole.mono _ _ _ _
      | exact supercargolaw43_awake.mono _
      | exact supercargolaw43_few.mono _ _ _
      | exact supercargoref04_Times.mono _ _ _ _
      | exact LeO.none _
      | refine LeO.ite ?_ ?_
      | refine LeO.bind ?_ (fun _ => ?_)
    · intro y0 y1 y2 y3 y4 y5 y6 y7 y8
      unfold supercargolaw43_AverageSums.l0
      repeat' first
      | (with_reducible exact ih0 _ _ _ _ _ _)
      | (with_reducible exact ih1 _ _ _ _ _ _ _ _ _)
      | (with_reducible exact ih2 _ _ _ _ _ _ _)
      | (with_reducible exact ih3 _ _ _ _ _ _ _ _)
      | (with_reducible exact average_Whole.mono _ _ _ _)
      | (with_reducible exact supercargolaw43_awake.mono _)
      | (with_reducible exact supercargolaw43_few.mono _ _ _)
      | (with_reducible exact supercargoref04_Times.mono _ _ _ _)
      | (with_reducible exact LeO.refl _)
      | (with_reducible exact LeO.none _)
      | (with_reducible refine LeO.ite ?_ ?_)
      | (with_reducible refine LeO.bind ?_ (fun _ => ?_))
      | exact ih0 _ _ _ _ _ _
      | exact ih1 _ _ _ _ _ _ _ _ _
      | exact ih2 _ _ _ _ _ _ _
      | exact ih3 _ _ _ _ _ _ _ _
      | exact average_Whole.mono _ _ _ _
      | exact supercargolaw43_awake.mono _
      | exact supercargolaw43_few.mono _ _ _
      | exact supercargoref04_Times.mono _ _ _ _
      | exact LeO.none _
      | refine LeO.ite ?_ ?_
      | refine LeO.bind ?_ (fun _ => ?_)
    · intro y0 y1 y2 y3 y4 y5 y6
      unfold supercargolaw43_AverageSums.l1
      repeat' first
      | (with_reducible exact ih0 _ _ _ _ _ _)
      | (with_reducible exact ih1 _ _ _ _ _ _ _ _ _)
      | (with_reducible exact ih2 _ _ _ _ _ _ _)
      | (with_reducible exact ih3 _ _ _ _ _ _ _ _)
      | (with_reducible exact average_Whole.mono _ _ _ _)
      | (with_reducible exact supercargolaw43_awake.mono _)
      | (with_reducible exact supercargolaw43_few.mono _ _ _)
      | (with_reducible exact supercargoref04_Times.mono _ _ _ _)
      | (with_reducible exact LeO.refl _)
      | (with_reducible exact LeO.none _)
      | (with_reducible refine LeO.ite ?_ ?_)
      | (with_reducible refine LeO.bind ?_ (fun _ => ?_))
      | exact ih0 _ _ _ _ _ _
      | exact ih1 _ _ _ _ _ _ _ _ _
      | exact ih2 _ _ _ _ _ _ _
      | exact ih3 _ _ _ _ _ _ _ _
      | exact average_Whole.mono _ _ _ _
      | exact supercargolaw43_awake.mono _
      | exact supercargolaw43_few.mono _ _ _
      | exact supercargoref04_Times.mono _ _ _ _
      | exact LeO.none _
      | refine LeO.ite ?_ ?_
      | refine LeO.bind ?_ (fun _ => ?_)
    · intro y0 y1 y2 y3 y4 y5 y6 y7
      unfold supercargolaw43_AverageSums.j3
      repeat' first
      | (with_reducible exact ih0 _ _ _ _ _ _)
      | (with_reducible exact ih1 _ _ _ _ _ _ _ _ _)
      | (with_reducible exact ih2 _ _ _ _ _ _ _)
      | (with_reducible exact ih3 _ _ _ _ _ _ _ _)
      | (with_reducible exact average_Whole.mono _ _ _ _)
      | (with_reducible exact supercargolaw43_awake.mono _)
      | (with_reducible exact supercargolaw43_few.mono _ _ _)
      | (with_reducible exact supercargoref04_Times.mono _ _ _ _)
      | (with_reducible exact LeO.refl _)
      | (with_reducible exact LeO.none _)
      | (with_reducible refine LeO.ite ?_ ?_)
      | (with_reducible refine LeO.bind ?_ (fun _ => ?_))
      | exact ih0 _ _ _ _ _ _
      | exact ih1 _ _ _ _ _ _ _ _ _
      | exact ih2 _ _ _ _ _ _ _
      | exact ih3 _ _ _ _ _ _ _ _
      | exact average_Whole.mono _ _ _ _
      | exact supercargolaw43_awake.mono _
      | exact supercargolaw43_few.mono _ _ _
      | exact supercargoref04_Times.mono _ _ _ _
      | exact LeO.none _
      | refine LeO.ite ?_ ?_
      | refine LeO.bind ?_ (fun _ => ?_)
theorem supercargolaw43_AverageSums.mono : ∀ a0 a1 a2 k, LeO (supercargolaw43_AverageSums.f k a0 a1 a2) (supercargolaw43_AverageSums.f (k + 1) a0 a1 a2) := by
  intro a0 a1 a2 k
  obtain ⟨ih0, ih1, ih2, ih3⟩ := supercargolaw43_AverageSums.mono_l k
  unfold supercargolaw43_AverageSums.f
  repeat' first
      | (with_reducible exact ih0 _ _ _ _ _ _)
      | (with_reducible exact ih1 _ _ _ _ _ _ _ _ _)
      | (with_reducible exact ih2 _ _ _ _ _ _ _)
      | (with_reducible exact ih3 _ _ _ _ _ _ _ _)
      | (with_reducible exact average_Whole.mono _ _ _ _)
      | (with_reducible exact supercargolaw43_awake.mono _)
      | (with_reducible exact supercargolaw43_few.mono _ _ _)
      | (with_reducible exact supercargoref04_Times.mono _ _ _ _)
      | (with_reducible exact LeO.refl _)
      | (with_reducible exact LeO.none _)
      | (with_reducible refine LeO.ite ?_ ?_)
      | (with_reducible refine LeO.bind ?_ (fun _ => ?_))
      | exact ih0 _ _ _ _ _ _
      | exact ih1 _ _ _ _ _ _ _ _ _
      | exact ih2 _ _ _ _ _ _ _
      | exact ih3 _ _ _ _ _ _ _ _
      | exact average_Whole.mono _ _ _ _
      | exact supercargolaw43_awake.mono _
      | exact supercargolaw43_few.mono _ _ _
      | exact supercargoref04_Times.mono _ _ _ _
      | exact LeO.none _
      | refine LeO.ite ?_ ?_
      | refine LeO.bind ?_ (fun _ => ?_)
set_option maxHeartbeats 8000000 in
set_option maxRecDepth 100000 in
theorem supercargolaw43_AverageSums.calls (k : Nat) (A0 : Option Addr) (c0 : Nat) (l0 : List (S35)) (A1 : Option Addr) (c1 : Nat) (l1 : List Int) (a2 : Int) (r : Bool) (w : World) (hr0 : Kd.C k35 w A0 l0.length l0) (hc0 : l0.length ≤ c0) (hr1 : Kd.C (Kd.int .i64) w A1 l1.length l1) (hc1 : l1.length ≤ c1) (h : supercargolaw43_AverageSums.f k l0 l1 a2 = some r) :
    Calls Try.prog 4 #[.slice A0 l0.length c0, .slice A1 l1.length c1, .int .i64 a2] w fun e w' => e = .returned (.bool r) ∧ Below w.heap.size w w' := by
  have HR0 := Aside0.mk hr0
  have HC0 := Aside0.mk hc0
  clear hr0 hc0
  have HR1 := Aside0.mk hr1
  have HC1 := Aside0.mk hc1
  clear hr1 hc1
  have HB := Aside0.mk (Below.refl w.heap.size w)
  have H : ((supercargolaw43_awake.f k).bind fun t277 => (if t277 = true then ((supercargolaw43_few.f k l0 l1).bind fun t278 => (if t278 = true then ((average_Whole.f k l0 l1 a2).bind fun bt279 => (if bt279.2.2 = 0 then (if (bt279.1.length : Int) = (l0.length : Int) then (if (bt279.2.1.length : Int) = (l0.length : Int) then (supercargolaw43_AverageSums.j0 k l0 l1 a2 bt279.1 bt279.2.1 ((l1.length : Int) != (l0.length : Int))) else (supercargolaw43_AverageSums.j0 k l0 l1 a2 bt279.1 bt279.2.1 true)) else (supercargolaw43_AverageSums.j0 k l0 l1 a2 bt279.1 bt279.2.1 true)) else (if (bt279.1.length : Int) = 0 then (some ((bt279.2.1.length : Int) == 0)) else (some false)))) else (some true))) else (some false))) = some r := h
  clear h
  replace H := Option.bind_eq_some_iff.mp H
  obtain ⟨t277, A40, H⟩ := H
  replace H : (if t277 = true then ((supercargolaw43_few.f k l0 l1).bind fun t278 => (if t278 = true then ((average_Whole.f k l0 l1 a2).bind fun bt279 => (if bt279.2.2 = 0 then (if (bt279.1.length : Int) = (l0.length : Int) then (if (bt279.2.1.length : Int) = (l0.length : Int) then (supercargolaw43_AverageSums.j0 k l0 l1 a2 bt279.1 bt279.2.1 ((l1.length : Int) != (l0.length : Int))) else (supercargolaw43_AverageSums.j0 k l0 l1 a2 bt279.1 bt279.2.1 true)) else (supercargolaw43_AverageSums.j0 k l0 l1 a2 bt279.1 bt279.2.1 true)) else (if (bt279.1.length : Int) = 0 then (some ((bt279.2.1.length : Int) == 0)) else (some false)))) else (some true))) else (some false)) = some r := H
  have A4 := Aside0.mk A40
  clear A40
  by_cases c5 : t277 = true
  · subst c5
    have H1 : ((supercargolaw43_few.f k l0 l1).bind fun t278 => (if t278 = true then ((average_Whole.f k l0 l1 a2).bind fun bt279 => (if bt279.2.2 = 0 then (if (bt279.1.length : Int) = (l0.length : Int) then (if (bt279.2.1.length : Int) = (l0.length : Int) then (supercargolaw43_AverageSums.j0 k l0 l1 a2 bt279.1 bt279.2.1 ((l1.length : Int) != (l0.length : Int))) else (supercargolaw43_AverageSums.j0 k l0 l1 a2 bt279.1 bt279.2.1 true)) else (supercargolaw43_AverageSums.j0 k l0 l1 a2 bt279.1 bt279.2.1 true)) else (if (bt279.1.length : Int) = 0 then (some ((bt279.2.1.length : Int) == 0)) else (some false)))) else (some true))) = some r := by rw [if_pos rfl] at H; exact H
    clear H
    have H := H1
    clear H1
    replace H := Option.bind_eq_some_iff.mp H
    obtain ⟨t278, A60, H⟩ := H
    replace H : (if t278 = true then ((average_Whole.f k l0 l1 a2).bind fun bt279 => (if bt279.2.2 = 0 then (if (bt279.1.length : Int) = (l0.length : Int) then (if (bt279.2.1.length : Int) = (l0.length : Int) then (supercargolaw43_AverageSums.j0 k l0 l1 a2 bt279.1 bt279.2.1 ((l1.length : Int) != (l0.length : Int))) else (supercargolaw43_AverageSums.j0 k l0 l1 a2 bt279.1 bt279.2.1 true)) else (supercargolaw43_AverageSums.j0 k l0 l1 a2 bt279.1 bt279.2.1 true)) else (if (bt279.1.length : Int) = 0 then (some ((bt279.2.1.length : Int) == 0)) else (some false)))) else (some true)) = some r := H
    have A6 := Aside0.mk A60
    clear A60
    by_cases c7 : t278 = true
    · subst c7
      have H1 : ((average_Whole.f k l0 l1 a2).bind fun bt279 => (if bt279.2.2 = 0 then (if (bt279.1.length : Int) = (l0.length : Int) then (if (bt279.2.1.length : Int) = (l0.length : Int) then (supercargolaw43_AverageSums.j0 k l0 l1 a2 bt279.1 bt279.2.1 ((l1.length : Int) != (l0.length : Int))) else (supercargolaw43_AverageSums.j0 k l0 l1 a2 bt279.1 bt279.2.1 true)) else (supercargolaw43_AverageSums.j0 k l0 l1 a2 bt279.1 bt279.2.1 true)) else (if (bt279.1.length : Int) = 0 then (some ((bt279.2.1.length : Int) == 0)) else (some false)))) = some r := by rw [if_pos rfl] at H; exact H
      clear H
      have H := H1
      clear H1
      replace H := Option.bind_eq_some_iff.mp H
      obtain ⟨⟨t279, t280, t281⟩, A80, H⟩ := H
      replace H : (if t281 = 0 then (if (t279.length : Int) = (l0.length : Int) then (if (t280.length : Int) = (l0.length : Int) then (supercargolaw43_AverageSums.j0 k l0 l1 a2 t279 t280 ((l1.length : Int) != (l0.length : Int))) else (supercargolaw43_AverageSums.j0 k l0 l1 a2 t279 t280 true)) else (supercargolaw43_AverageSums.j0 k l0 l1 a2 t279 t280 true)) else (if (t279.length : Int) = 0 then (some ((t280.length : Int) == 0)) else (some false))) = some r := H
      have A8 := Aside0.mk A80
      clear A80
      by_cases c9 : t281 = 0
      · rw [if_pos c9] at H
        have c9b0 : (t281 == 0) = true := beq_iff_eq.mpr c9
        have c9b1 : (t281 != 0) = false := bne_eq_false_iff_eq.mpr c9
        clear c9
        have HC10 := Aside0.mk H
        clear H
        go_enter Try.func4, Try.ntmps4
        go_upto_region 8 with (first | (go_at_call 10; (with_reducible refine (supercargolaw43_awake.calls k  true _ A4.out).mono ?_); rintro e w11 ⟨rfl, hb⟩; have n0_ := Aside0.mk (below_step (by repeat (first | (with_reducible first | exact HB.out | apply below_alloc | apply pw_below_drewN | apply below_drew1) | exact HB.out)) hb); clear HB; have HB := n0_; clear n0_; (try clear hb); (try clear hb2); (try clear hk); (try clear hi)) | (go_at_call 11; (with_reducible refine (supercargolaw43_few.calls k _ _ l0 _ _ l1 true _ ?side1 ?side2 ?side3 ?side4 A6.out).mono ?_); (case side1 => repeat (first | exact (Kd.C_below HR0.out HB.out) | (with_reducible refine Kd.C_alloc ?_ _) | (with_reducible refine Kd.C_drewN ?_ _) | (with_reducible refine Kd.C_drew ?_))); (case side2 => exact HC0.out); (case side3 => repeat (first | exact (Kd.C_below HR1.out HB.out) | (with_reducible refine Kd.C_alloc ?_ _) | (with_reducible refine Kd.C_drewN ?_ _) | (with_reducible refine Kd.C_drew ?_))); (case side4 => exact HC1.out); rintro e w' ⟨rfl, ⟨nd, rfl⟩⟩; (try first | exact ⟨rfl, _, World.drewN_drewN _ _ _⟩ | exact ⟨rfl, _, Eq.trans (World.drewN_drewN _ _ _) (congrArg (World.drewN _) (Nat.add_assoc _ _ _))⟩)) | (go_at_call 15; (with_reducible refine (average_Whole.calls k _ _ l0 _ _ l1 a2 t279 t280 t281 _ ?side1 ?side2 ?side3 ?side4 A8.out).mono ?_); (case side1 => repeat (first | exact (Kd.C_below HR0.out (by repeat (first | (with_reducible first | exact HB.out | apply below_alloc | apply pw_below_drewN | apply below_drew1) | exact HB.out))) | (with_reducible refine Kd.C_alloc ?_ _) | (with_reducible refine Kd.C_drewN ?_ _) | (with_reducible refine Kd.C_drew ?_))); (case side2 => exact HC0.out); (case side3 => repeat (first | exact (Kd.C_below HR1.out (by repeat (first | (with_reducible first | exact HB.out | apply below_alloc | apply pw_below_drewN | apply below_drew1) | exact HB.out))) | (with_reducible refine Kd.C_alloc ?_ _) | (with_reducible refine Kd.C_drewN ?_ _) | (with_reducible refine Kd.C_drew ?_))); (case side4 => exact HC1.out); rintro e w12 ⟨v282, v284, rfl, ho0, ho1, hb⟩; have n0_ := Aside0.mk (Kd.R_lower ho0 (below_size (by repeat (first | (with_reducible first | exact HB.out | apply below_alloc | apply pw_below_drewN | apply below_drew1) | exact HB.out)))); have n1_ := Aside0.mk (Kd.R_lower ho1 (below_size (by repeat (first | (with_reducible first | exact HB.out | apply below_alloc | apply pw_below_drewN | apply below_drew1) | exact HB.out)))); have n2_ := Aside0.mk (below_step (by repeat (first | (with_reducible first | exact HB.out | apply below_alloc | apply pw_below_drewN | apply below_drew1) | exact HB.out)) hb); clear HB; have HO283 := n0_; have HO285 := n1_; have HB := n2_; clear n0_ n1_ n2_; (try clear hb); (try clear hb2); (try clear hk); (try clear hi); (try clear ho0); (try clear ho1)))
        repeat (go_quiet (first | (go_at_call 10; (with_reducible refine (supercargolaw43_awake.calls k  true _ A4.out).mono ?_); rintro e w11 ⟨rfl, hb⟩; have n0_ := Aside0.mk (below_step (by repeat (first | (with_reducible first | exact HB.out | apply below_alloc | apply pw_below_drewN | apply below_drew1) | exact HB.out)) hb); clear HB; have HB := n0_; clear n0_; (try clear hb); (try clear hb2); (try clear hk); (try clear hi)) | (go_at_call 11; (with_reducible refine (supercargolaw43_few.calls k _ _ l0 _ _ l1 true _ ?side1 ?side2 ?side3 ?side4 A6.out).mono ?_); (case side1 => repeat (first | exact (Kd.C_below HR0.out HB.out) | (with_reducible refine Kd.C_alloc ?_ _) | (with_reducible refine Kd.C_drewN ?_ _) | (with_reducible refine Kd.C_drew ?_))); (case side2 => exact HC0.out); (case side3 => repeat (first | exact (Kd.C_below HR1.out HB.out) | (with_reducible refine Kd.C_alloc ?_ _) | (with_reducible refine Kd.C_drewN ?_ _) | (with_reducible refine Kd.C_drew ?_))); (case side4 => exact HC1.out); rintro e w' ⟨rfl, ⟨nd, rfl⟩⟩; (try first | exact ⟨rfl, _, World.drewN_drewN _ _ _⟩ | exact ⟨rfl, _, Eq.trans (World.drewN_drewN _ _ _) (congrArg (World.drewN _) (Nat.add_assoc _ _ _))⟩)) | (go_at_call 15; (with_reducible refine (average_Whole.calls k _ _ l0 _ _ l1 a2 t279 t280 t281 _ ?side1 ?side2 ?side3 ?side4 A8.out).mono ?_); (case side1 => repeat (first | exact (Kd.C_below HR0.out (by repeat (first | (with_reducible first | exact HB.out | apply below_alloc | apply pw_below_drewN | apply below_drew1) | exact HB.out))) | (with_reducible refine Kd.C_alloc ?_ _) | (with_reducible refine Kd.C_drewN ?_ _) | (with_reducible refine Kd.C_drew ?_))); (case side2 => exact HC0.out); (case side3 => repeat (first | exact (Kd.C_below HR1.out (by repeat (first | (with_reducible first | exact HB.out | apply below_alloc | apply pw_below_drewN | apply below_drew1) | exact HB.out))) | (with_reducible refine Kd.C_alloc ?_ _) | (with_reducible refine Kd.C_drewN ?_ _) | (with_reducible refine Kd.C_drew ?_))); (case side4 => exact HC1.out); rintro e w12 ⟨v282, v284, rfl, ho0, ho1, hb⟩; have n0_ := Aside0.mk (Kd.R_lower ho0 (below_size (by repeat (first | (with_reducible first | exact HB.out | apply below_alloc | apply pw_below_drewN | apply below_drew1) | exact HB.out)))); have n1_ := Aside0.mk (Kd.R_lower ho1 (below_size (by repeat (first | (with_reducible first | exact HB.out | apply below_alloc | apply pw_below_drewN | apply below_drew1) | exact HB.out)))); have n2_ := Aside0.mk (below_step (by repeat (first | (with_reducible first | exact HB.out | apply below_alloc | apply pw_below_drewN | apply below_drew1) | exact HB.out)) hb); clear HB; have HO283 := n0_; have HO285 := n1_; have HB := n2_; clear n0_ n1_ n2_; (try clear hb); (try clear hb2); (try clear hk); (try clear hi); (try clear ho0); (try clear ho1))); go_upto_region 8 with (first | (go_at_call 10; (with_reducible refine (supercargolaw43_awake.calls k  true _ A4.out).mono ?_); rintro e w11 ⟨rfl, hb⟩; have n0_ := Aside0.mk (below_step (by repeat (first | (with_reducible first | exact HB.out | apply below_alloc | apply pw_below_drewN | apply below_drew1) | exact HB.out)) hb); clear HB; have HB := n0_; clear n0_; (try clear hb); (try clear hb2); (try clear hk); (try clear hi)) | (go_at_call 11; (with_reducible refine (supercargolaw43_few.calls k _ _ l0 _ _ l1 true _ ?side1 ?side2 ?side3 ?side4 A6.out).mono ?_); (case side1 => repeat (first | exact (Kd.C_below HR0.out HB.out) | (with_reducible refine Kd.C_alloc ?_ _) | (with_reducible refine Kd.C_drewN ?_ _) | (with_reducible refine Kd.C_drew ?_))); (case side2 => exact HC0.out); (case side3 => repeat (first | exact (Kd.C_below HR1.out HB.out) | (with_reducible refine Kd.C_alloc ?_ _) | (with_reducible refine Kd.C_drewN ?_ _) | (with_reducible refine Kd.C_drew ?_))); (case side4 => exact HC1.out); rintro e w' ⟨rfl, ⟨nd, rfl⟩⟩; (try first | exact ⟨rfl, _, World.drewN_drewN _ _ _⟩ | exact ⟨rfl, _, Eq.trans (World.drewN_drewN _ _ _) (congrArg (World.drewN _) (Nat.add_assoc _ _ _))⟩)) | (go_at_call 15; (with_reducible refine (average_Whole.calls k _ _ l0 _ _ l1 a2 t279 t280 t281 _ ?side1 ?side2 ?side3 ?side4 A8.out).mono ?_); (case side1 => repeat (first | exact (Kd.C_below HR0.out (by repeat (first | (with_reducible first | exact HB.out | apply below_alloc | apply pw_below_drewN | apply below_drew1) | exact HB.out))) | (with_reducible refine Kd.C_alloc ?_ _) | (with_reducible refine Kd.C_drewN ?_ _) | (with_reducible refine Kd.C_drew ?_))); (case side2 => exact HC0.out); (case side3 => repeat (first | exact (Kd.C_below HR1.out (by repeat (first | (with_reducible first | exact HB.out | apply below_alloc | apply pw_below_drewN | apply below_drew1) | exact HB.out))) | (with_reducible refine Kd.C_alloc ?_ _) | (with_reducible refine Kd.C_drewN ?_ _) | (with_reducible refine Kd.C_drew ?_))); (case side4 => exact HC1.out); rintro e w12 ⟨v282, v284, rfl, ho0, ho1, hb⟩; have n0_ := Aside0.mk (Kd.R_lower ho0 (below_size (by repeat (first | (with_reducible first | exact HB.out | apply below_alloc | apply pw_below_drewN | apply below_drew1) | exact HB.out)))); have n1_ := Aside0.mk (Kd.R_lower ho1 (below_size (by repeat (first | (with_reducible first | exact HB.out | apply below_alloc | apply pw_below_drewN | apply below_drew1) | exact HB.out)))); have n2_ := Aside0.mk (below_step (by repeat (first | (with_reducible first | exact HB.out | apply below_alloc | apply pw_below_drewN | apply below_drew1) | exact HB.out)) hb); clear HB; have HO283 := n0_; have HO285 := n1_; have HB := n2_; clear n0_ n1_ n2_; (try clear hb); (try clear hb2); (try clear hk); (try clear hi); (try clear ho0); (try clear ho1))))
        (try simp only [Act.put, List.setIfInBounds_toArray, List.set_cons_zero, List.set_cons_succ])
        go_cut [60] (fun v60 wc => ∃ (kq : Nat) (x60_9 : Bool), v60 = .bool x60_9 ∧ Aside0 (supercargolaw43_AverageSums.j0 kq l0 l1 a2 t279 t280 x60_9 = some r) ∧ Aside0 (kq ≤ k) ∧ Aside0 (Kd.R (Kd.int .i64) 2 wc w.heap.size (fun k_ => some k_ ≠ (v284 : Value).ownBlock) v282 t279) ∧ Aside0 (Kd.R (Kd.int .i64) 2 wc w.heap.size (fun k_ => some k_ ≠ (v282 : Value).ownBlock) v284 t280) ∧ Aside0 (Below w.heap.size w wc))
        case first =>
          have H := HC10.out
          clear HC10
          by_cases c13 : (t279.length : Int) = (l0.length : Int)
          · rw [if_pos c13] at H
            have c13b0 : ((t279.length : Int) == (l0.length : Int)) = true := beq_iff_eq.mpr c13
            have c13b1 : ((t279.length : Int) != (l0.length : Int)) = false := bne_eq_false_iff_eq.mpr c13
            have c13b2 : (t279.length == l0.length) = true := by first | simpa using c13 | (simp at c13 ⊢; omega)
            clear c13
            (first | rw [c13b0] | (simp only [i64_w, i32_w]; rw [c13b0]) | skip)
            by_cases c14 : (t280.length : Int) = (l0.length : Int)
            · rw [if_pos c14] at H
              have c14b0 : ((t280.length : Int) == (l0.length : Int)) = true := beq_iff_eq.mpr c14
              have c14b1 : ((t280.length : Int) != (l0.length : Int)) = false := bne_eq_false_iff_eq.mpr c14
              have c14b2 : (t280.length == l0.length) = true := by first | simpa using c14 | (simp at c14 ⊢; omega)
              clear c14
              have H' := Aside0.mk H
              clear H
              obtain ⟨Ao15, co15, eo15⟩ := Kd.R_slice HO283.out
              subst eo15
              obtain ⟨Ao16, co16, eo16⟩ := Kd.R_slice HO285.out
              subst eo16
              go_wp2
              repeat (go_quiet (fail); try go_wp2)
              go_meet
              case rel => exact ⟨_, (((l1.length : Int) != (l0.length : Int))), (by first | rfl | (simp; done) | (simp [*]; done)), H', ⟨by first | omega | exact Nat.le_refl _⟩, ⟨by (with_reducible repeat (first | apply Kd.R_alloc | apply Kd.R_drewN | apply Kd.R_drew)); exact HO283.out⟩, ⟨by (with_reducible repeat (first | apply Kd.R_alloc | apply Kd.R_drewN | apply Kd.R_drew)); exact HO285.out⟩, ⟨by repeat (first | (with_reducible first | exact HB.out | apply below_alloc | apply pw_below_drewN | apply below_drew1) | exact HB.out)⟩⟩
            · rw [if_neg c14] at H
              have c14b0 : ((t280.length : Int) == (l0.length : Int)) = false := beq_eq_false_iff_ne.mpr c14
              have c14b1 : ((t280.length : Int) != (l0.length : Int)) = true := bne_iff_ne.mpr c14
              have c14b2 : (t280.length == l0.length) = false := by first | simpa using c14 | (simp at c14 ⊢; omega)
              have H' := Aside0.mk H
              clear H
              obtain ⟨Ao17, co17, eo17⟩ := Kd.R_slice HO283.out
              subst eo17
              obtain ⟨Ao18, co18, eo18⟩ := Kd.R_slice HO285.out
              subst eo18
              go_wp2
              repeat (go_quiet (fail); try go_wp2)
              go_meet
              case rel => exact ⟨_, (true), (by first | rfl | (simp; done) | (simp [*]; done)), H', ⟨by first | omega | exact Nat.le_refl _⟩, ⟨by (with_reducible repeat (first | apply Kd.R_alloc | apply Kd.R_drewN | apply Kd.R_drew)); exact HO283.out⟩, ⟨by (with_reducible repeat (first | apply Kd.R_alloc | apply Kd.R_drewN | apply Kd.R_drew)); exact HO285.out⟩, ⟨by repeat (first | (with_reducible first | exact HB.out | apply below_alloc | apply pw_below_drewN | apply below_drew1) | exact HB.out)⟩⟩
          · rw [if_neg c13] at H
            have c13b0 : ((t279.length : Int) == (l0.length : Int)) = false := beq_eq_false_iff_ne.mpr c13
            have c13b1 : ((t279.length : Int) != (l0.length : Int)) = true := bne_iff_ne.mpr c13
            have c13b2 : (t279.length == l0.length) = false := by first | simpa using c13 | (simp at c13 ⊢; omega)
            (first | rw [c13b0] | (simp only [i64_w, i32_w]; rw [c13b0]) | skip)
            have H' := Aside0.mk H
            clear H
            obtain ⟨Ao19, co19, eo19⟩ := Kd.R_slice HO283.out
            subst eo19
            go_wp2
            repeat (go_quiet (fail); try go_wp2)
            go_meet
            case rel => exact ⟨_, (true), (by first | rfl | (simp; done) | (simp [*]; done)), H', ⟨by first | omega | exact Nat.le_refl _⟩, ⟨by (with_reducible repeat (first | apply Kd.R_alloc | apply Kd.R_drewN | apply Kd.R_drew)); exact HO283.out⟩, ⟨by (with_reducible repeat (first | apply Kd.R_alloc | apply Kd.R_drewN | apply Kd.R_drew)); exact HO285.out⟩, ⟨by repeat (first | (with_reducible first | exact HB.out | apply below_alloc | apply pw_below_drewN | apply below_drew1) | exact HB.out)⟩⟩
        case rest =>
          clear HC10
          try clear c1
          try clear p2
          try clear c4
          try clear c5
          try clear c7
          try clear c9
          try clear c9b0
          try clear c9b1
          try clear c13
          try clear c13b0
          try clear c13b1
          try clear c13b2
          try clear c14
          try clear c14b0
          try clear c14b1
          try clear c14b2
          obtain ⟨kq, x60_9, rfl, HA, HJ9, HO_7, HO_8, HB⟩ := hcut
          cases kq with
          | zero => exact absurd HA.out (by simp [supercargolaw43_AverageSums.j0])
          | succ kj9 =>
            have H := HA.out
            clear HA
            simp only [supercargolaw43_AverageSums.j0] at H
            by_cases c20 : x60_9 = true
            · subst c20
              have H1 : (some false) = some r := by rw [if_pos rfl] at H; exact H
              clear H
              have H := H1
              clear H1
              obtain rfl := Option.some.inj H
              go_wp2
              repeat (go_quiet (fail); try go_wp2)
              go_ret
              exact ⟨by first | rfl | (simp [errW_none, errW_some] <;> rfl) | (simp [*, errW_none, errW_some] <;> rfl), by repeat (first | (with_reducible first | exact HB.out | apply below_alloc | apply pw_below_drewN | apply below_drew1) | exact HB.out)⟩
            · replace c20 := Bool.eq_false_iff.mpr c20
              subst c20
              have H1 : (supercargolaw43_AverageSums.l0 kj9 l0 l1 t279 t280 a2 0 a2 0 0) = some r := by rw [if_neg (show ¬ (false = true) by decide)] at H; exact H
              clear H
              have H := H1
              clear H1
              have H' := Aside0.mk H
              clear H
              go_wp2
              repeat (go_quiet (fail); try go_wp2)
              go_loopg [10, 11, 12, 13, 14] kj9 (fun kq v10 v11 v12 v13 v14 w' => ∃ (x10_2 : Int) (x11_2 : Int) (x12_2 : Int) (x13_2 : Int) (x14_2 : Int), v10 = .int .i64 x10_2 ∧ v11 = .int .i64 x11_2 ∧ v12 = .int .i64 x12_2 ∧ v13 = .int .i64 x13_2 ∧ v14 = .int .i64 x14_2 ∧ Aside0 (supercargolaw43_AverageSums.l0 kq l0 l1 t279 t280 x10_2 x11_2 x12_2 x13_2 x14_2 = some r) ∧ Aside0 (kq ≤ kj9) ∧ Aside0 (Kd.R (Kd.int .i64) 2 w' w.heap.size (fun k_ => some k_ ≠ (v284 : Value).ownBlock) v282 t279) ∧ Aside0 (Kd.R (Kd.int .i64) 2 w' w.heap.size (fun k_ => some k_ ≠ (v282 : Value).ownBlock) v284 t280) ∧ Aside0 (Below w.heap.size w w'))
              case atStart => exact ⟨(a2), (0), (a2), (0), (0), (by first | rfl | (simp; done) | (simp [*]; done)), (by first | rfl | (simp; done) | (simp [*]; done)), (by first | rfl | (simp; done) | (simp [*]; done)), (by first | rfl | (simp; done) | (simp [*]; done)), (by first | rfl | (simp; done) | (simp [*]; done)), H', ⟨Nat.le_refl _⟩, ⟨by (with_reducible repeat (first | apply Kd.R_alloc | apply Kd.R_drewN | apply Kd.R_drew)); exact HO_7.out⟩, ⟨by (with_reducible repeat (first | apply Kd.R_alloc | apply Kd.R_drewN | apply Kd.R_drew)); exact HO_8.out⟩, ⟨by repeat (first | (with_reducible first | exact HB.out | apply below_alloc | apply pw_below_drewN | apply below_drew1) | exact HB.out)⟩⟩
              case round =>
                clear H'
                try clear c1
                try clear c2
                try clear p2
                try clear c4
                try clear c5
                try clear c7
                try clear c9
                try clear c9b0
                try clear c9b1
                try clear c13
                try clear c13b0
                try clear c13b1
                try clear c13b2
                try clear c14
                try clear c14b0
                try clear c14b1
                try clear c14b2
                try clear c20
                try clear p2
                obtain ⟨x10_2, x11_2, x12_2, x13_2, x14_2, rfl, rfl, rfl, rfl, rfl, HA, HK2, HO_7, HO_8, HB⟩ := hrel
                cases gk with
                | zero => exact absurd HA.out (by simp [supercargolaw43_AverageSums.l0])
                | succ k2 =>
                  have H := HA.out
                  clear HA
                  simp only [supercargolaw43_AverageSums.l0] at H
                  by_cases c21 : x14_2 < (l0.length : Int)
                  · rw [if_pos c21] at H
                    have c21b0 : decide (x14_2 < (l0.length : Int)) = true := decide_eq_true c21
                    clear c21
                    by_cases c22 : 0 ≤ x14_2
                    · rw [if_pos c22] at H
                      have c22b0 : decide (0 ≤ x14_2) = true := decide_eq_true c22
                      clear c22
                      by_cases c23 : x14_2 < (l1.length : Int)
                      · rw [if_pos c23] at H
                        have c23b0 : decide (x14_2 < (l1.length : Int)) = true := decide_eq_true c23
                        clear c23
                        by_cases c24 : x14_2 < (t279.length : Int)
                        · rw [if_pos c24] at H
                          have c24b0 : decide (x14_2 < (t279.length : Int)) = true := decide_eq_true c24
                          clear c24
                          by_cases c25 : x14_2 < (t280.length : Int)
                          · rw [if_pos c25] at H
                            have c25b0 : decide (x14_2 < (t280.length : Int)) = true := decide_eq_true c25
                            clear c25
                            by_cases c26 : (rd t280 x14_2) = (wrap64 ((rd l1 x14_2) - (rd t279 x14_2)))
                            · rw [if_pos c26] at H
                              have c26b0 : ((rd t280 x14_2) == (wrap64 ((rd l1 x14_2) - (rd t279 x14_2)))) = true := beq_iff_eq.mpr c26
                              have c26b1 : ((rd t280 x14_2) != (wrap64 ((rd l1 x14_2) - (rd t279 x14_2)))) = false := bne_eq_false_iff_eq.mpr c26
                              clear c26
                              have H' := Aside0.mk H
                              clear H
                              have p286 : 0 ≤ (x14_2 : Int) := of_decide_eq_true (by first | (with_reducible assumption) | assumption)
                              have q286 : x14_2 < (l1.length : Int) := of_decide_eq_true (by first | (with_reducible assumption) | assumption)
                              obtain ⟨ad286, e286, hx286_0⟩ := Kd.at_int HR1.out x14_2 p286 q286
                              cases e286
                              replace hx286_0 := (HB.out.cell (World.block_lt_of_cell? w _ hx286_0)).trans hx286_0
                              replace p286 := eq_true p286
                              replace q286 := eq_true q286
                              obtain ⟨Ao27, co27, eo27⟩ := Kd.R_slice HO_7.out
                              subst eo27
                              have p287 : 0 ≤ (x14_2 : Int) := of_decide_eq_true (by first | (with_reducible assumption) | assumption)
                              have q287 : x14_2 < (t279.length : Int) := of_decide_eq_true (by first | (with_reducible assumption) | assumption)
                              obtain ⟨ad287, e287, hx287_0⟩ := Kd.at_int (Kd.R_reads' HO_7.out).2.2 x14_2 p287 q287
                              cases e287
                              replace p287 := eq_true p287
                              replace q287 := eq_true q287
                              obtain ⟨Ao28, co28, eo28⟩ := Kd.R_slice HO_8.out
                              subst eo28
                              have p288 : 0 ≤ (x14_2 : Int) := of_decide_eq_true (by first | (with_reducible assumption) | assumption)
                              have q288 : x14_2 < (t280.length : Int) := of_decide_eq_true (by first | (with_reducible assumption) | assumption)
                              obtain ⟨ad288, e288, hx288_0⟩ := Kd.at_int (Kd.R_reads' HO_8.out).2.2 x14_2 p288 q288
                              cases e288
                              replace p288 := eq_true p288
                              replace q288 := eq_true q288
                              have p289 : 0 ≤ (x14_2 : Int) := of_decide_eq_true (by first | (with_reducible assumption) | assumption)
                              have q289 : x14_2 < (l0.length : Int) := of_decide_eq_true (by first | (with_reducible assumption) | assumption)
                              obtain ⟨ad289, e289, hx289_0, hx289_1⟩ := at_T35 HR0.out x14_2 p289 q289
                              cases e289
                              replace hx289_0 := (HB.out.cell (World.block_lt_of_cell? w _ hx289_0)).trans hx289_0
                              replace hx289_1 := (HB.out.cell (World.block_lt_of_cell? w _ hx289_1)).trans hx289_1
                              replace p289 := eq_true p289
                              replace q289 := eq_true q289
                              have p290 : 0 ≤ (x14_2 : Int) := of_decide_eq_true (by first | (with_reducible assumption) | assumption)
                              have q290 : x14_2 < (t280.length : Int) := of_decide_eq_true (by first | (with_reducible assumption) | assumption)
                              obtain ⟨ad290, e290, hx290_0⟩ := Kd.at_int (Kd.R_reads' HO_8.out).2.2 x14_2 p290 q290
                              obtain rfl : ad288 = ad290 := (by injection e290)
                              replace p290 := eq_true p290
                              replace q290 := eq_true q290
                              have p291 : 0 ≤ (x14_2 : Int) := of_decide_eq_true (by first | (with_reducible assumption) | assumption)
                              have q291 : x14_2 < (l1.length : Int) := of_decide_eq_true (by first | (with_reducible assumption) | assumption)
                              obtain ⟨ad291, e291, hx291_0⟩ := Kd.at_int HR1.out x14_2 p291 q291
                              obtain rfl : ad286 = ad291 := (by injection e291)
                              replace hx291_0 := (HB.out.cell (World.block_lt_of_cell? w _ hx291_0)).trans hx291_0
                              replace p291 := eq_true p291
                              replace q291 := eq_true q291
                              have p292 : 0 ≤ (x14_2 : Int) := of_decide_eq_true (by first | (with_reducible assumption) | assumption)
                              have q292 : x14_2 < (t279.length : Int) := of_decide_eq_true (by first | (with_reducible assumption) | assumption)
                              obtain ⟨ad292, e292, hx292_0⟩ := Kd.at_int (Kd.R_reads' HO_7.out).2.2 x14_2 p292 q292
                              obtain rfl : ad287 = ad292 := (by injection e292)
                              replace p292 := eq_true p292
                              replace q292 := eq_true q292
                              go_wp2
                              repeat (go_quiet (fail); try go_wp2)
                              go_roundg k2
                              case measure => have := HJ9.out; have := HK2.out; omega
                              case rel => exact ⟨(wrap64 (x10_2 + (rd l1 x14_2))), (wrap64 (x11_2 + (rd t279 x14_2))), (wrap64 (x12_2 + (rd t280 x14_2))), (wrap64 (x13_2 + ((rd_T35 l0 x14_2).f1))), (wrap64 (x14_2 + 1)), (by first | rfl | (simp; done) | (simp [*]; done)), (by first | rfl | (simp; done) | (simp [*]; done)), (by first | rfl | (simp; done) | (simp [*]; done)), (by first | rfl | (simp; done) | (simp [*]; done)), (by first | rfl | (simp; done) | (simp [*]; done)), H', ⟨by have := HJ9.out; have := HK2.out; omega⟩, ⟨by (with_reducible repeat (first | apply Kd.R_alloc | apply Kd.R_drewN | apply Kd.R_drew)); exact HO_7.out⟩, ⟨by (with_reducible repeat (first | apply Kd.R_alloc | apply Kd.R_drewN | apply Kd.R_drew)); exact HO_8.out⟩, ⟨by repeat (first | (with_reducible first | exact HB.out | apply below_alloc | apply pw_below_drewN | apply below_drew1) | exact HB.out)⟩⟩
                            · rw [if_neg c26] at H
                              have c26b0 : ((rd t280 x14_2) == (wrap64 ((rd l1 x14_2) - (rd t279 x14_2)))) = false := beq_eq_false_iff_ne.mpr c26
                              have c26b1 : ((rd t280 x14_2) != (wrap64 ((rd l1 x14_2) - (rd t279 x14_2)))) = true := bne_iff_ne.mpr c26
                              obtain rfl := Option.some.inj H
                              have p286 : 0 ≤ (x14_2 : Int) := of_decide_eq_true (by first | (with_reducible assumption) | assumption)
                              have q286 : x14_2 < (l1.length : Int) := of_decide_eq_true (by first | (with_reducible assumption) | assumption)
                              obtain ⟨ad286, e286, hx286_0⟩ := Kd.at_int HR1.out x14_2 p286 q286
                              cases e286
                              replace hx286_0 := (HB.out.cell (World.block_lt_of_cell? w _ hx286_0)).trans hx286_0
                              replace p286 := eq_true p286
                              replace q286 := eq_true q286
                              obtain ⟨Ao29, co29, eo29⟩ := Kd.R_slice HO_7.out
                              subst eo29
                              have p287 : 0 ≤ (x14_2 : Int) := of_decide_eq_true (by first | (with_reducible assumption) | assumption)
                              have q287 : x14_2 < (t279.length : Int) := of_decide_eq_true (by first | (with_reducible assumption) | assumption)
                              obtain ⟨ad287, e287, hx287_0⟩ := Kd.at_int (Kd.R_reads' HO_7.out).2.2 x14_2 p287 q287
                              cases e287
                              replace p287 := eq_true p287
                              replace q287 := eq_true q287
                              obtain ⟨Ao30, co30, eo30⟩ := Kd.R_slice HO_8.out
                              subst eo30
                              have p288 : 0 ≤ (x14_2 : Int) := of_decide_eq_true (by first | (with_reducible assumption) | assumption)
                              have q288 : x14_2 < (t280.length : Int) := of_decide_eq_true (by first | (with_reducible assumption) | assumption)
                              obtain ⟨ad288, e288, hx288_0⟩ := Kd.at_int (Kd.R_reads' HO_8.out).2.2 x14_2 p288 q288
                              cases e288
                              replace p288 := eq_true p288
                              replace q288 := eq_true q288
                              have p289 : 0 ≤ (x14_2 : Int) := of_decide_eq_true (by first | (with_reducible assumption) | assumption)
                              have q289 : x14_2 < (l0.length : Int) := of_decide_eq_true (by first | (with_reducible assumption) | assumption)
                              obtain ⟨ad289, e289, hx289_0, hx289_1⟩ := at_T35 HR0.out x14_2 p289 q289
                              cases e289
                              replace hx289_0 := (HB.out.cell (World.block_lt_of_cell? w _ hx289_0)).trans hx289_0
                              replace hx289_1 := (HB.out.cell (World.block_lt_of_cell? w _ hx289_1)).trans hx289_1
                              replace p289 := eq_true p289
                              replace q289 := eq_true q289
                              have p290 : 0 ≤ (x14_2 : Int) := of_decide_eq_true (by first | (with_reducible assumption) | assumption)
                              have q290 : x14_2 < (t280.length : Int) := of_decide_eq_true (by first | (with_reducible assumption) | assumption)
                              obtain ⟨ad290, e290, hx290_0⟩ := Kd.at_int (Kd.R_reads' HO_8.out).2.2 x14_2 p290 q290
                              obtain rfl : ad288 = ad290 := (by injection e290)
                              replace p290 := eq_true p290
                              replace q290 := eq_true q290
                              have p291 : 0 ≤ (x14_2 : Int) := of_decide_eq_true (by first | (with_reducible assumption) | assumption)
                              have q291 : x14_2 < (l1.length : Int) := of_decide_eq_true (by first | (with_reducible assumption) | assumption)
                              obtain ⟨ad291, e291, hx291_0⟩ := Kd.at_int HR1.out x14_2 p291 q291
                              obtain rfl : ad286 = ad291 := (by injection e291)
                              replace hx291_0 := (HB.out.cell (World.block_lt_of_cell? w _ hx291_0)).trans hx291_0
                              replace p291 := eq_true p291
                              replace q291 := eq_true q291
                              have p292 : 0 ≤ (x14_2 : Int) := of_decide_eq_true (by first | (with_reducible assumption) | assumption)
                              have q292 : x14_2 < (t279.length : Int) := of_decide_eq_true (by first | (with_reducible assumption) | assumption)
                              obtain ⟨ad292, e292, hx292_0⟩ := Kd.at_int (Kd.R_reads' HO_7.out).2.2 x14_2 p292 q292
                              obtain rfl : ad287 = ad292 := (by injection e292)
                              replace p292 := eq_true p292
                              replace q292 := eq_true q292
                              go_wp2
                              repeat (go_quiet (fail); try go_wp2)
                              go_ret
                              exact ⟨by first | rfl | (simp [errW_none, errW_some] <;> rfl) | (simp [*, errW_none, errW_some] <;> rfl), by repeat (first | (with_reducible first | exact HB.out | apply below_alloc | apply pw_below_drewN | apply below_drew1) | exact HB.out)⟩
                          · rw [if_neg c25] at H
                            exact absurd H (by simp)
                        · rw [if_neg c24] at H
                          exact absurd H (by simp)
                      · rw [if_neg c23] at H
                        exact absurd H (by simp)
                    · rw [if_neg c22] at H
                      exact absurd H (by simp)
                  · rw [if_neg c21] at H
                    have c21b0 : decide (x14_2 < (l0.length : Int)) = false := decide_eq_false c21
                    clear c21
                    have H' := Aside0.mk H
                    clear H
                    go_wp2
                    repeat (go_quiet (fail); try go_wp2)
                    go_loopg [15] k2 (fun kq v15 w' => ∃ (x15_3 : Int), v15 = .int .i64 x15_3 ∧ Aside0 (supercargolaw43_AverageSums.l1 kq l0 t279 x10_2 x11_2 x12_2 x13_2 x15_3 = some r) ∧ Aside0 (kq ≤ k2) ∧ Aside0 (Kd.R (Kd.int .i64) 2 w' w.heap.size (fun _ => True) v282 t279) ∧ Aside0 (Below w.heap.size w w'))
                    case atStart => exact ⟨(0), (by first | rfl | (simp; done) | (simp [*]; done)), H', ⟨Nat.le_refl _⟩, ⟨by (with_reducible repeat (first | apply Kd.R_alloc | apply Kd.R_drewN | apply Kd.R_drew)); exact Kd.R_mono HO_7.out (fun _ hk => trivial)⟩, ⟨by repeat (first | (with_reducible first | exact HB.out | apply below_alloc | apply pw_below_drewN | apply below_drew1) | exact HB.out)⟩⟩
                    case round =>
                      clear H'
                      try clear c1
                      try clear c2
                      try clear p2
                      try clear q2
                      try clear hx2
                      try clear c4
                      try clear c5
                      try clear p6
                      try clear c7
                      try clear c9
                      try clear c9b0
                      try clear c9b1
                      try clear c13
                      try clear c13b0
                      try clear c13b1
                      try clear c13b2
                      try clear c14
                      try clear c14b0
                      try clear c14b1
                      try clear c14b2
                      try clear c20
                      try clear c21
                      try clear c21b0
                      try clear c22
                      try clear c22b0
                      try clear c23
                      try clear c23b0
                      try clear c24
                      try clear c24b0
                      try clear c25
                      try clear c25b0
                      try clear c26
                      try clear c26b0
                      try clear c26b1
                      try clear p28
                      try clear q28
                      try clear hx28
                      try clear p29
                      try clear q29
                      try clear hx29
                      try clear hx286_0
                      try clear hx287_0
                      try clear hx288_0
                      try clear hx289_0
                      try clear hx289_1
                      try clear hx290_0
                      try clear hx291_0
                      try clear hx292_0
                      try clear p2
                      try clear p286
                      try clear p287
                      try clear p288
                      try clear p289
                      try clear p290
                      try clear p291
                      try clear p292
                      try clear q286
                      try clear q287
                      try clear q288
                      try clear q289
                      try clear q290
                      try clear q291
                      try clear q292
                      obtain ⟨x15_3, rfl, HA, HK3, HO_7, HB⟩ := hrel
                      cases gk with
                      | zero => exact absurd HA.out (by simp [supercargolaw43_AverageSums.l1])
                      | succ k3 =>
                        have H := HA.out
                        clear HA
                        simp only [supercargolaw43_AverageSums.l1] at H
                        have HC31 := Aside0.mk H
                        clear H
                        go_upto_region 18 with (fail)
                        repeat (go_quiet (fail); go_upto_region 18 with (fail))
                        go_cut [115] (fun v115 wc => ∃ (kq : Nat) (x115_30 : Bool), v115 = .bool x115_30 ∧ Aside0 (supercargolaw43_AverageSums.j3 kq l0 t279 x10_2 x11_2 x12_2 x13_2 x15_3 x115_30 = some r) ∧ Aside0 (kq ≤ k3) ∧ Aside0 (Kd.R (Kd.int .i64) 2 wc w.heap.size (fun _ => True) v282 t279) ∧ Aside0 (Below w.heap.size w wc))
                        case first =>
                          have H := HC31.out
                          clear HC31
                          by_cases c32 : x15_3 < (l0.length : Int)
                          · rw [if_pos c32] at H
                            have c32b0 : decide (x15_3 < (l0.length : Int)) = true := decide_eq_true c32
                            clear c32
                            (first | rw [c32b0] | (simp only [i64_w, i32_w]; rw [c32b0]) | skip)
                            have H' := Aside0.mk H
                            clear H
                            go_wp2
                            repeat (go_quiet (fail); try go_wp2)
                            go_meet
                            case rel => exact ⟨_, (decide (x13_2 > 0)), (by first | rfl | (simp; done) | (simp [*]; done)), H', ⟨by have := HJ9.out; have := HK2.out; have := HK3.out; first | omega | exact Nat.le_refl _⟩, ⟨by (with_reducible repeat (first | apply Kd.R_alloc | apply Kd.R_drewN | apply Kd.R_drew)); exact HO_7.out⟩, ⟨by repeat (first | (with_reducible first | exact HB.out | apply below_alloc | apply pw_below_drewN | apply below_drew1) | exact HB.out)⟩⟩
                          · rw [if_neg c32] at H
                            have c32b0 : decide (x15_3 < (l0.length : Int)) = false := decide_eq_false c32
                            clear c32
                            (first | rw [c32b0] | (simp only [i64_w, i32_w]; rw [c32b0]) | skip)
                            have H' := Aside0.mk H
                            clear H
                            go_wp2
                            repeat (go_quiet (fail); try go_wp2)
                            go_meet
                            case rel => exact ⟨_, (false), (by first | rfl | (simp; done) | (simp [*]; done)), H', ⟨by have := HJ9.out; have := HK2.out; have := HK3.out; first | omega | exact Nat.le_refl _⟩, ⟨by (with_reducible repeat (first | apply Kd.R_alloc | apply Kd.R_drewN | apply Kd.R_drew)); exact HO_7.out⟩, ⟨by repeat (first | (with_reducible first | exact HB.out | apply below_alloc | apply pw_below_drewN | apply below_drew1) | exact HB.out)⟩⟩
                        case rest =>
                          clear HC31
                          try clear c1
                          try clear c2
                          try clear p2
                          try clear q2
                          try clear hx2
                          try clear c3
                          try clear c4
                          try clear c5
                          try clear p6
                          try clear c7
                          try clear c9
                          try clear c9b0
                          try clear c9b1
                          try clear c13
                          try clear c13b0
                          try clear c13b1
                          try clear c13b2
                          try clear c14
                          try clear c14b0
                          try clear c14b1
                          try clear c14b2
                          try clear c20
                          try clear c21
                          try clear c21b0
                          try clear c22
                          try clear c22b0
                          try clear c23
                          try clear c23b0
                          try clear c24
                          try clear c24b0
                          try clear c25
                          try clear c25b0
                          try clear c26
                          try clear c26b0
                          try clear c26b1
                          try clear p28
                          try clear q28
                          try clear hx28
                          try clear p29
                          try clear q29
                          try clear hx29
                          try clear c32
                          try clear c32b0
                          try clear hx286_0
                          try clear hx287_0
                          try clear hx288_0
                          try clear hx289_0
                          try clear hx289_1
                          try clear hx290_0
                          try clear hx291_0
                          try clear hx292_0
                          try clear p2
                          try clear p28
                          try clear p286
                          try clear p287
                          try clear p288
                          try clear p289
                          try clear p29
                          try clear p290
                          try clear p291
                          try clear p292
                          try clear p6
                          try clear q2
                          try clear q28
                          try clear q286
                          try clear q287
                          try clear q288
                          try clear q289
                          try clear q29
                          try clear q290
                          try clear q291
                          try clear q292
                          obtain ⟨kq, x115_30, rfl, HA, HJ30, HO_7, HB⟩ := hcut
                          cases kq with
                          | zero => exact absurd HA.out (by simp [supercargolaw43_AverageSums.j3])
                          | succ kj30 =>
                            have H := HA.out
                            clear HA
                            simp only [supercargolaw43_AverageSums.j3] at H
                            by_cases c33 : x115_30 = true
                            · subst c33
                              have H1 : (if 0 ≤ x15_3 then (if x15_3 < (l0.length : Int) then ((supercargoref04_Times.f kj30 x10_2 ((rd_T35 l0 x15_3).f1) x13_2).bind fun bt294 => (if x15_3 < (t279.length : Int) then (if (rd t279 x15_3) < bt294.1 then (some false) else (if (rd t279 x15_3) > (wrap64 (bt294.1 + 1)) then (some false) else (if bt294.2 = 0 then (if (rd t279 x15_3) = bt294.1 then (supercargolaw43_AverageSums.l1 kj30 l0 t279 x10_2 x11_2 x12_2 x13_2 (wrap64 (x15_3 + 1))) else (some false)) else (supercargolaw43_AverageSums.l1 kj30 l0 t279 x10_2 x11_2 x12_2 x13_2 (wrap64 (x15_3 + 1)))))) else (none))) else (none)) else (none)) = some r := by rw [if_pos rfl] at H; exact H
                              clear H
                              have H := H1
                              clear H1
                              by_cases c34 : 0 ≤ x15_3
                              · rw [if_pos c34] at H
                                have c34b0 : decide (0 ≤ x15_3) = true := decide_eq_true c34
                                clear c34
                                by_cases c35 : x15_3 < (l0.length : Int)
                                · rw [if_pos c35] at H
                                  have c35b0 : decide (x15_3 < (l0.length : Int)) = true := decide_eq_true c35
                                  clear c35
                                  replace H := Option.bind_eq_some_iff.mp H
                                  obtain ⟨⟨t294, t295⟩, A360, H⟩ := H
                                  replace H : (if x15_3 < (t279.length : Int) then (if (rd t279 x15_3) < t294 then (some false) else (if (rd t279 x15_3) > (wrap64 (t294 + 1)) then (some false) else (if t295 = 0 then (if (rd t279 x15_3) = t294 then (supercargolaw43_AverageSums.l1 kj30 l0 t279 x10_2 x11_2 x12_2 x13_2 (wrap64 (x15_3 + 1))) else (some false)) else (supercargolaw43_AverageSums.l1 kj30 l0 t279 x10_2 x11_2 x12_2 x13_2 (wrap64 (x15_3 + 1)))))) else (none)) = some r := H
                                  have A36 := Aside0.mk A360
                                  clear A360
                                  by_cases c37 : x15_3 < (t279.length : Int)
                                  · rw [if_pos c37] at H
                                    have c37b0 : decide (x15_3 < (t279.length : Int)) = true := decide_eq_true c37
                                    clear c37
                                    by_cases c38 : (rd t279 x15_3) < t294
                                    · rw [if_pos c38] at H
                                      have c38b0 : decide ((rd t279 x15_3) < t294) = true := decide_eq_true c38
                                      clear c38
                                      obtain rfl := Option.some.inj H
                                      have p293 : 0 ≤ (x15_3 : Int) := of_decide_eq_true (by first | (with_reducible assumption) | assumption)
                                      have q293 : x15_3 < (l0.length : Int) := of_decide_eq_true (by first | (with_reducible assumption) | assumption)
                                      obtain ⟨ad293, e293, hx293_0, hx293_1⟩ := at_T35 HR0.out x15_3 p293 q293
                                      cases e293
                                      replace hx293_0 := (HB.out.cell (World.block_lt_of_cell? w _ hx293_0)).trans hx293_0
                                      replace hx293_1 := (HB.out.cell (World.block_lt_of_cell? w _ hx293_1)).trans hx293_1
                                      replace p293 := eq_true p293
                                      replace q293 := eq_true q293
                                      go_wp2_with (first | (go_at_call 16; (with_reducible refine (supercargoref04_Times.calls kj30 x10_2 ((rd_T35 l0 x15_3).f1) x13_2 t294 t295 _ A36.out).mono ?_); rintro e w' ⟨rfl, ⟨nd, rfl⟩⟩; (try first | exact ⟨rfl, _, World.drewN_drewN _ _ _⟩ | exact ⟨rfl, _, Eq.trans (World.drewN_drewN _ _ _) (congrArg (World.drewN _) (Nat.add_assoc _ _ _))⟩); obtain ⟨Ao39, co39, eo39⟩ := Kd.R_slice HO_7.out; subst eo39; have p296 : 0 ≤ (x15_3 : Int) := of_decide_eq_true (by first | (with_reducible assumption) | assumption); have q296 : x15_3 < (t279.length : Int) := of_decide_eq_true (by first | (with_reducible assumption) | assumption); obtain ⟨ad296, e296, hx296_0⟩ := Kd.at_int (Kd.R_reads' HO_7.out).2.2 x15_3 p296 q296; cases e296; replace p296 := eq_true p296; replace q296 := eq_true q296))
                                      repeat (go_quiet (first | (go_at_call 16; (with_reducible refine (supercargoref04_Times.calls kj30 x10_2 ((rd_T35 l0 x15_3).f1) x13_2 t294 t295 _ A36.out).mono ?_); rintro e w' ⟨rfl, ⟨nd, rfl⟩⟩; (try first | exact ⟨rfl, _, World.drewN_drewN _ _ _⟩ | exact ⟨rfl, _, Eq.trans (World.drewN_drewN _ _ _) (congrArg (World.drewN _) (Nat.add_assoc _ _ _))⟩); obtain ⟨Ao39, co39, eo39⟩ := Kd.R_slice HO_7.out; subst eo39; have p296 : 0 ≤ (x15_3 : Int) := of_decide_eq_true (by first | (with_reducible assumption) | assumption); have q296 : x15_3 < (t279.length : Int) := of_decide_eq_true (by first | (with_reducible assumption) | assumption); obtain ⟨ad296, e296, hx296_0⟩ := Kd.at_int (Kd.R_reads' HO_7.out).2.2 x15_3 p296 q296; cases e296; replace p296 := eq_true p296; replace q296 := eq_true q296)); try go_wp2_with (first | (go_at_call 16; (with_reducible refine (supercargoref04_Times.calls kj30 x10_2 ((rd_T35 l0 x15_3).f1) x13_2 t294 t295 _ A36.out).mono ?_); rintro e w' ⟨rfl, ⟨nd, rfl⟩⟩; (try first | exact ⟨rfl, _, World.drewN_drewN _ _ _⟩ | exact ⟨rfl, _, Eq.trans (World.drewN_drewN _ _ _) (congrArg (World.drewN _) (Nat.add_assoc _ _ _))⟩); obtain ⟨Ao39, co39, eo39⟩ := Kd.R_slice HO_7.out; subst eo39; have p296 : 0 ≤ (x15_3 : Int) := of_decide_eq_true (by first | (with_reducible assumption) | assumption); have q296 : x15_3 < (t279.length : Int) := of_decide_eq_true (by first | (with_reducible assumption) | assumption); obtain ⟨ad296, e296, hx296_0⟩ := Kd.at_int (Kd.R_reads' HO_7.out).2.2 x15_3 p296 q296; cases e296; replace p296 := eq_true p296; replace q296 := eq_true q296)))
                                      go_ret
                                      exact ⟨by first | rfl | (simp [errW_none, errW_some] <;> rfl) | (simp [*, errW_none, errW_some] <;> rfl), by repeat (first | (with_reducible first | exact HB.out | apply below_alloc | apply pw_below_drewN | apply below_drew1) | exact HB.out)⟩
                                    · rw [if_neg c38] at H
                                      have c38b0 : decide ((rd t279 x15_3) < t294) = false := decide_eq_false c38
                                      clear c38
                                      by_cases c40 : (rd t279 x15_3) > (wrap64 (t294 + 1))
                                      · rw [if_pos c40] at H
                                        have c40b0 : decide ((wrap64 (t294 + 1)) < (rd t279 x15_3)) = true := decide_eq_true c40
                                        clear c40
                                        obtain rfl := Option.some.inj H
                                        have p293 : 0 ≤ (x15_3 : Int) := of_decide_eq_true (by first | (with_reducible assumption) | assumption)
                                        have q293 : x15_3 < (l0.length : Int) := of_decide_eq_true (by first | (with_reducible assumption) | assumption)
                                        obtain ⟨ad293, e293, hx293_0, hx293_1⟩ := at_T35 HR0.out x15_3 p293 q293
                                        cases e293
                                        replace hx293_0 := (HB.out.cell (World.block_lt_of_cell? w _ hx293_0)).trans hx293_0
                                        replace hx293_1 := (HB.out.cell (World.block_lt_of_cell? w _ hx293_1)).trans hx293_1
                                        replace p293 := eq_true p293
                                        replace q293 := eq_true q293
                                        go_wp2_with (first | (go_at_call 16; (with_reducible refine (supercargoref04_Times.calls kj30 x10_2 ((rd_T35 l0 x15_3).f1) x13_2 t294 t295 _ A36.out).mono ?_); rintro e w' ⟨rfl, ⟨nd, rfl⟩⟩; (try first | exact ⟨rfl, _, World.drewN_drewN _ _ _⟩ | exact ⟨rfl, _, Eq.trans (World.drewN_drewN _ _ _) (congrArg (World.drewN _) (Nat.add_assoc _ _ _))⟩); obtain ⟨Ao41, co41, eo41⟩ := Kd.R_slice HO_7.out; subst eo41; have p296 : 0 ≤ (x15_3 : Int) := of_decide_eq_true (by first | (with_reducible assumption) | assumption); have q296 : x15_3 < (t279.length : Int) := of_decide_eq_true (by first | (with_reducible assumption) | assumption); obtain ⟨ad296, e296, hx296_0⟩ := Kd.at_int (Kd.R_reads' HO_7.out).2.2 x15_3 p296 q296; cases e296; replace p296 := eq_true p296; replace q296 := eq_true q296; have p297 : 0 ≤ (x15_3 : Int) := of_decide_eq_true (by first | (with_reducible assumption) | assumption); have q297 : x15_3 < (t279.length : Int) := of_decide_eq_true (by first | (with_reducible assumption) | assumption); obtain ⟨ad297, e297, hx297_0⟩ := Kd.at_int (Kd.R_reads' HO_7.out).2.2 x15_3 p297 q297; obtain rfl : ad296 = ad297 := (by injection e297); replace p297 := eq_true p297; replace q297 := eq_true q297))
                                        repeat (go_quiet (first | (go_at_call 16; (with_reducible refine (supercargoref04_Times.calls kj30 x10_2 ((rd_T35 l0 x15_3).f1) x13_2 t294 t295 _ A36.out).mono ?_); rintro e w' ⟨rfl, ⟨nd, rfl⟩⟩; (try first | exact ⟨rfl, _, World.drewN_drewN _ _ _⟩ | exact ⟨rfl, _, Eq.trans (World.drewN_drewN _ _ _) (congrArg (World.drewN _) (Nat.add_assoc _ _ _))⟩); obtain ⟨Ao41, co41, eo41⟩ := Kd.R_slice HO_7.out; subst eo41; have p296 : 0 ≤ (x15_3 : Int) := of_decide_eq_true (by first | (with_reducible assumption) | assumption); have q296 : x15_3 < (t279.length : Int) := of_decide_eq_true (by first | (with_reducible assumption) | assumption); obtain ⟨ad296, e296, hx296_0⟩ := Kd.at_int (Kd.R_reads' HO_7.out).2.2 x15_3 p296 q296; cases e296; replace p296 := eq_true p296; replace q296 := eq_true q296; have p297 : 0 ≤ (x15_3 : Int) := of_decide_eq_true (by first | (with_reducible assumption) | assumption); have q297 : x15_3 < (t279.length : Int) := of_decide_eq_true (by first | (with_reducible assumption) | assumption); obtain ⟨ad297, e297, hx297_0⟩ := Kd.at_int (Kd.R_reads' HO_7.out).2.2 x15_3 p297 q297; obtain rfl : ad296 = ad297 := (by injection e297); replace p297 := eq_true p297; replace q297 := eq_true q297)); try go_wp2_with (first | (go_at_call 16; (with_reducible refine (supercargoref04_Times.calls kj30 x10_2 ((rd_T35 l0 x15_3).f1) x13_2 t294 t295 _ A36.out).mono ?_); rintro e w' ⟨rfl, ⟨nd, rfl⟩⟩; (try first | exact ⟨rfl, _, World.drewN_drewN _ _ _⟩ | exact ⟨rfl, _, Eq.trans (World.drewN_drewN _ _ _) (congrArg (World.drewN _) (Nat.add_assoc _ _ _))⟩); obtain ⟨Ao41, co41, eo41⟩ := Kd.R_slice HO_7.out; subst eo41; have p296 : 0 ≤ (x15_3 : Int) := of_decide_eq_true (by first | (with_reducible assumption) | assumption); have q296 : x15_3 < (t279.length : Int) := of_decide_eq_true (by first | (with_reducible assumption) | assumption); obtain ⟨ad296, e296, hx296_0⟩ := Kd.at_int (Kd.R_reads' HO_7.out).2.2 x15_3 p296 q296; cases e296; replace p296 := eq_true p296; replace q296 := eq_true q296; have p297 : 0 ≤ (x15_3 : Int) := of_decide_eq_true (by first | (with_reducible assumption) | assumption); have q297 : x15_3 < (t279.length : Int) := of_decide_eq_true (by first | (with_reducible assumption) | assumption); obtain ⟨ad297, e297, hx297_0⟩ := Kd.at_int (Kd.R_reads' HO_7.out).2.2 x15_3 p297 q297; obtain rfl : ad296 = ad297 := (by injection e297); replace p297 := eq_true p297; replace q297 := eq_true q297)))
                                        go_ret
                                        exact ⟨by first | rfl | (simp [errW_none, errW_some] <;> rfl) | (simp [*, errW_none, errW_some] <;> rfl), by repeat (first | (with_reducible first | exact HB.out | apply below_alloc | apply pw_below_drewN | apply below_drew1) | exact HB.out)⟩
                                      · rw [if_neg c40] at H
                                        have c40b0 : decide ((wrap64 (t294 + 1)) < (rd t279 x15_3)) = false := decide_eq_false c40
                                        clear c40
                                        by_cases c42 : t295 = 0
                                        · rw [if_pos c42] at H
                                          have c42b0 : (t295 == 0) = true := beq_iff_eq.mpr c42
                                          have c42b1 : (t295 != 0) = false := bne_eq_false_iff_eq.mpr c42
                                          clear c42
                                          by_cases c43 : (rd t279 x15_3) = t294
                                          · rw [if_pos c43] at H
                                            have c43b0 : ((rd t279 x15_3) == t294) = true := beq_iff_eq.mpr c43
                                            have c43b1 : ((rd t279 x15_3) != t294) = false := bne_eq_false_iff_eq.mpr c43
                                            clear c43
                                            have H' := Aside0.mk H
                                            clear H
                                            have p293 : 0 ≤ (x15_3 : Int) := of_decide_eq_true (by first | (with_reducible assumption) | assumption)
                                            have q293 : x15_3 < (l0.length : Int) := of_decide_eq_true (by first | (with_reducible assumption) | assumption)
                                            obtain ⟨ad293, e293, hx293_0, hx293_1⟩ := at_T35 HR0.out x15_3 p293 q293
                                            cases e293
                                            replace hx293_0 := (HB.out.cell (World.block_lt_of_cell? w _ hx293_0)).trans hx293_0
                                            replace hx293_1 := (HB.out.cell (World.block_lt_of_cell? w _ hx293_1)).trans hx293_1
                                            replace p293 := eq_true p293
                                            replace q293 := eq_true q293
                                            go_wp2_with (first | (go_at_call 16; (with_reducible refine (supercargoref04_Times.calls kj30 x10_2 ((rd_T35 l0 x15_3).f1) x13_2 t294 t295 _ A36.out).mono ?_); rintro e w' ⟨rfl, ⟨nd, rfl⟩⟩; (try first | exact ⟨rfl, _, World.drewN_drewN _ _ _⟩ | exact ⟨rfl, _, Eq.trans (World.drewN_drewN _ _ _) (congrArg (World.drewN _) (Nat.add_assoc _ _ _))⟩); obtain ⟨Ao44, co44, eo44⟩ := Kd.R_slice HO_7.out; subst eo44; have p296 : 0 ≤ (x15_3 : Int) := of_decide_eq_true (by first | (with_reducible assumption) | assumption); have q296 : x15_3 < (t279.length : Int) := of_decide_eq_true (by first | (with_reducible assumption) | assumption); obtain ⟨ad296, e296, hx296_0⟩ := Kd.at_int (Kd.R_reads' HO_7.out).2.2 x15_3 p296 q296; cases e296; replace p296 := eq_true p296; replace q296 := eq_true q296; have p297 : 0 ≤ (x15_3 : Int) := of_decide_eq_true (by first | (with_reducible assumption) | assumption); have q297 : x15_3 < (t279.length : Int) := of_decide_eq_true (by first | (with_reducible assumption) | assumption); obtain ⟨ad297, e297, hx297_0⟩ := Kd.at_int (Kd.R_reads' HO_7.out).2.2 x15_3 p297 q297; obtain rfl : ad296 = ad297 := (by injection e297); replace p297 := eq_true p297; replace q297 := eq_true q297; have p298 : 0 ≤ (x15_3 : Int) := of_decide_eq_true (by first | (with_reducible assumption) | assumption); have q298 : x15_3 < (t279.length : Int) := of_decide_eq_true (by first | (with_reducible assumption) | assumption); obtain ⟨ad298, e298, hx298_0⟩ := Kd.at_int (Kd.R_reads' HO_7.out).2.2 x15_3 p298 q298; obtain rfl : ad296 = ad298 := (by injection e298); replace p298 := eq_true p298; replace q298 := eq_true q298))
                                            repeat (go_quiet (first | (go_at_call 16; (with_reducible refine (supercargoref04_Times.calls kj30 x10_2 ((rd_T35 l0 x15_3).f1) x13_2 t294 t295 _ A36.out).mono ?_); rintro e w' ⟨rfl, ⟨nd, rfl⟩⟩; (try first | exact ⟨rfl, _, World.drewN_drewN _ _ _⟩ | exact ⟨rfl, _, Eq.trans (World.drewN_drewN _ _ _) (congrArg (World.drewN _) (Nat.add_assoc _ _ _))⟩); obtain ⟨Ao44, co44, eo44⟩ := Kd.R_slice HO_7.out; subst eo44; have p296 : 0 ≤ (x15_3 : Int) := of_decide_eq_true (by first | (with_reducible assumption) | assumption); have q296 : x15_3 < (t279.length : Int) := of_decide_eq_true (by first | (with_reducible assumption) | assumption); obtain ⟨ad296, e296, hx296_0⟩ := Kd.at_int (Kd.R_reads' HO_7.out).2.2 x15_3 p296 q296; cases e296; replace p296 := eq_true p296; replace q296 := eq_true q296; have p297 : 0 ≤ (x15_3 : Int) := of_decide_eq_true (by first | (with_reducible assumption) | assumption); have q297 : x15_3 < (t279.length : Int) := of_decide_eq_true (by first | (with_reducible assumption) | assumption); obtain ⟨ad297, e297, hx297_0⟩ := Kd.at_int (Kd.R_reads' HO_7.out).2.2 x15_3 p297 q297; obtain rfl : ad296 = ad297 := (by injection e297); replace p297 := eq_true p297; replace q297 := eq_true q297; have p298 : 0 ≤ (x15_3 : Int) := of_decide_eq_true (by first | (with_reducible assumption) | assumption); have q298 : x15_3 < (t279.length : Int) := of_decide_eq_true (by first | (with_reducible assumption) | assumption); obtain ⟨ad298, e298, hx298_0⟩ := Kd.at_int (Kd.R_reads' HO_7.out).2.2 x15_3 p298 q298; obtain rfl : ad296 = ad298 := (by injection e298); replace p298 := eq_true p298; replace q298 := eq_true q298)); try go_wp2_with (first | (go_at_call 16; (with_reducible refine (supercargoref04_Times.calls kj30 x10_2 ((rd_T35 l0 x15_3).f1) x13_2 t294 t295 _ A36.out).mono ?_); rintro e w' ⟨rfl, ⟨nd, rfl⟩⟩; (try first | exact ⟨rfl, _, World.drewN_drewN _ _ _⟩ | exact ⟨rfl, _, Eq.trans (World.drewN_drewN _ _ _) (congrArg (World.drewN _) (Nat.add_assoc _ _ _))⟩); obtain ⟨Ao44, co44, eo44⟩ := Kd.R_slice HO_7.out; subst eo44; have p296 : 0 ≤ (x15_3 : Int) := of_decide_eq_true (by first | (with_reducible assumption) | assumption); have q296 : x15_3 < (t279.length : Int) := of_decide_eq_true (by first | (with_reducible assumption) | assumption); obtain ⟨ad296, e296, hx296_0⟩ := Kd.at_int (Kd.R_reads' HO_7.out).2.2 x15_3 p296 q296; cases e296; replace p296 := eq_true p296; replace q296 := eq_true q296; have p297 : 0 ≤ (x15_3 : Int) := of_decide_eq_true (by first | (with_reducible assumption) | assumption); have q297 : x15_3 < (t279.length : Int) := of_decide_eq_true (by first | (with_reducible assumption) | assumption); obtain ⟨ad297, e297, hx297_0⟩ := Kd.at_int (Kd.R_reads' HO_7.out).2.2 x15_3 p297 q297; obtain rfl : ad296 = ad297 := (by injection e297); replace p297 := eq_true p297; replace q297 := eq_true q297; have p298 : 0 ≤ (x15_3 : Int) := of_decide_eq_true (by first | (with_reducible assumption) | assumption); have q298 : x15_3 < (t279.length : Int) := of_decide_eq_true (by first | (with_reducible assumption) | assumption); obtain ⟨ad298, e298, hx298_0⟩ := Kd.at_int (Kd.R_reads' HO_7.out).2.2 x15_3 p298 q298; obtain rfl : ad296 = ad298 := (by injection e298); replace p298 := eq_true p298; replace q298 := eq_true q298)))
                                            go_roundg kj30
                                            case measure => have := HJ9.out; have := HK2.out; have := HK3.out; have := HJ30.out; omega
                                            case rel => exact ⟨(wrap64 (x15_3 + 1)), (by first | rfl | (simp; done) | (simp [*]; done)), H', ⟨by have := HJ9.out; have := HK2.out; have := HK3.out; have := HJ30.out; omega⟩, ⟨by (with_reducible repeat (first | apply Kd.R_alloc | apply Kd.R_drewN | apply Kd.R_drew)); exact HO_7.out⟩, ⟨by repeat (first | (with_reducible first | exact HB.out | apply below_alloc | apply pw_below_drewN | apply below_drew1) | exact HB.out)⟩⟩
                                          · rw [if_neg c43] at H
                                            have c43b0 : ((rd t279 x15_3) == t294) = false := beq_eq_false_iff_ne.mpr c43
                                            have c43b1 : ((rd t279 x15_3) != t294) = true := bne_iff_ne.mpr c43
                                            obtain rfl := Option.some.inj H
                                            have p293 : 0 ≤ (x15_3 : Int) := of_decide_eq_true (by first | (with_reducible assumption) | assumption)
                                            have q293 : x15_3 < (l0.length : Int) := of_decide_eq_true (by first | (with_reducible assumption) | assumption)
                                            obtain ⟨ad293, e293, hx293_0, hx293_1⟩ := at_T35 HR0.out x15_3 p293 q293
                                            cases e293
                                            replace hx293_0 := (HB.out.cell (World.block_lt_of_cell? w _ hx293_0)).trans hx293_0
                                            replace hx293_1 := (HB.out.cell (World.block_lt_of_cell? w _ hx293_1)).trans hx293_1
                                            replace p293 := eq_true p293
                                            replace q293 := eq_true q293
                                            go_wp2_with (first | (go_at_call 16; (with_reducible refine (supercargoref04_Times.calls kj30 x10_2 ((rd_T35 l0 x15_3).f1) x13_2 t294 t295 _ A36.out).mono ?_); rintro e w' ⟨rfl, ⟨nd, rfl⟩⟩; (try first | exact ⟨rfl, _, World.drewN_drewN _ _ _⟩ | exact ⟨rfl, _, Eq.trans (World.drewN_drewN _ _ _) (congrArg (World.drewN _) (Nat.add_assoc _ _ _))⟩); obtain ⟨Ao45, co45, eo45⟩ := Kd.R_slice HO_7.out; subst eo45; have p296 : 0 ≤ (x15_3 : Int) := of_decide_eq_true (by first | (with_reducible assumption) | assumption); have q296 : x15_3 < (t279.length : Int) := of_decide_eq_true (by first | (with_reducible assumption) | assumption); obtain ⟨ad296, e296, hx296_0⟩ := Kd.at_int (Kd.R_reads' HO_7.out).2.2 x15_3 p296 q296; cases e296; replace p296 := eq_true p296; replace q296 := eq_true q296; have p297 : 0 ≤ (x15_3 : Int) := of_decide_eq_true (by first | (with_reducible assumption) | assumption); have q297 : x15_3 < (t279.length : Int) := of_decide_eq_true (by first | (with_reducible assumption) | assumption); obtain ⟨ad297, e297, hx297_0⟩ := Kd.at_int (Kd.R_reads' HO_7.out).2.2 x15_3 p297 q297; obtain rfl : ad296 = ad297 := (by injection e297); replace p297 := eq_true p297; replace q297 := eq_true q297; have p298 : 0 ≤ (x15_3 : Int) := of_decide_eq_true (by first | (with_reducible assumption) | assumption); have q298 : x15_3 < (t279.length : Int) := of_decide_eq_true (by first | (with_reducible assumption) | assumption); obtain ⟨ad298, e298, hx298_0⟩ := Kd.at_int (Kd.R_reads' HO_7.out).2.2 x15_3 p298 q298; obtain rfl : ad296 = ad298 := (by injection e298); replace p298 := eq_true p298; replace q298 := eq_true q298))
                                            repeat (go_quiet (first | (go_at_call 16; (with_reducible refine (supercargoref04_Times.calls kj30 x10_2 ((rd_T35 l0 x15_3).f1) x13_2 t294 t295 _ A36.out).mono ?_); rintro e w' ⟨rfl, ⟨nd, rfl⟩⟩; (try first | exact ⟨rfl, _, World.drewN_drewN _ _ _⟩ | exact ⟨rfl, _, Eq.trans (World.drewN_drewN _ _ _) (congrArg (World.drewN _) (Nat.add_assoc _ _ _))⟩); obtain ⟨Ao45, co45, eo45⟩ := Kd.R_slice HO_7.out; subst eo45; have p296 : 0 ≤ (x15_3 : Int) := of_decide_eq_true (by first | (with_reducible assumption) | assumption); have q296 : x15_3 < (t279.length : Int) := of_decide_eq_true (by first | (with_reducible assumption) | assumption); obtain ⟨ad296, e296, hx296_0⟩ := Kd.at_int (Kd.R_reads' HO_7.out).2.2 x15_3 p296 q296; cases e296; replace p296 := eq_true p296; replace q296 := eq_true q296; have p297 : 0 ≤ (x15_3 : Int) := of_decide_eq_true (by first | (with_reducible assumption) | assumption); have q297 : x15_3 < (t279.length : Int) := of_decide_eq_true (by first | (with_reducible assumption) | assumption); obtain ⟨ad297, e297, hx297_0⟩ := Kd.at_int (Kd.R_reads' HO_7.out).2.2 x15_3 p297 q297; obtain rfl : ad296 = ad297 := (by injection e297); replace p297 := eq_true p297; replace q297 := eq_true q297; have p298 : 0 ≤ (x15_3 : Int) := of_decide_eq_true (by first | (with_reducible assumption) | assumption); have q298 : x15_3 < (t279.length : Int) := of_decide_eq_true (by first | (with_reducible assumption) | assumption); obtain ⟨ad298, e298, hx298_0⟩ := Kd.at_int (Kd.R_reads' HO_7.out).2.2 x15_3 p298 q298; obtain rfl : ad296 = ad298 := (by injection e298); replace p298 := eq_true p298; replace q298 := eq_true q298)); try go_wp2_with (first | (go_at_call 16; (with_reducible refine (supercargoref04_Times.calls kj30 x10_2 ((rd_T35 l0 x15_3).f1) x13_2 t294 t295 _ A36.out).mono ?_); rintro e w' ⟨rfl, ⟨nd, rfl⟩⟩; (try first | exact ⟨rfl, _, World.drewN_drewN _ _ _⟩ | exact ⟨rfl, _, Eq.trans (World.drewN_drewN _ _ _) (congrArg (World.drewN _) (Nat.add_assoc _ _ _))⟩); obtain ⟨Ao45, co45, eo45⟩ := Kd.R_slice HO_7.out; subst eo45; have p296 : 0 ≤ (x15_3 : Int) := of_decide_eq_true (by first | (with_reducible assumption) | assumption); have q296 : x15_3 < (t279.length : Int) := of_decide_eq_true (by first | (with_reducible assumption) | assumption); obtain ⟨ad296, e296, hx296_0⟩ := Kd.at_int (Kd.R_reads' HO_7.out).2.2 x15_3 p296 q296; cases e296; replace p296 := eq_true p296; replace q296 := eq_true q296; have p297 : 0 ≤ (x15_3 : Int) := of_decide_eq_true (by first | (with_reducible assumption) | assumption); have q297 : x15_3 < (t279.length : Int) := of_decide_eq_true (by first | (with_reducible assumption) | assumption); obtain ⟨ad297, e297, hx297_0⟩ := Kd.at_int (Kd.R_reads' HO_7.out).2.2 x15_3 p297 q297; obtain rfl : ad296 = ad297 := (by injection e297); replace p297 := eq_true p297; replace q297 := eq_true q297; have p298 : 0 ≤ (x15_3 : Int) := of_decide_eq_true (by first | (with_reducible assumption) | assumption); have q298 : x15_3 < (t279.length : Int) := of_decide_eq_true (by first | (with_reducible assumption) | assumption); obtain ⟨ad298, e298, hx298_0⟩ := Kd.at_int (Kd.R_reads' HO_7.out).2.2 x15_3 p298 q298; obtain rfl : ad296 = ad298 := (by injection e298); replace p298 := eq_true p298; replace q298 := eq_true q298)))
                                            go_ret
                                            exact ⟨by first | rfl | (simp [errW_none, errW_some] <;> rfl) | (simp [*, errW_none, errW_some] <;> rfl), by repeat (first | (with_reducible first | exact HB.out | apply below_alloc | apply pw_below_drewN | apply below_drew1) | exact HB.out)⟩
                                        · rw [if_neg c42] at H
                                          have c42b0 : (t295 == 0) = false := beq_eq_false_iff_ne.mpr c42
                                          have c42b1 : (t295 != 0) = true := bne_iff_ne.mpr c42
                                          have H' := Aside0.mk H
                                          clear H
                                          have p293 : 0 ≤ (x15_3 : Int) := of_decide_eq_true (by first | (with_reducible assumption) | assumption)
                                          have q293 : x15_3 < (l0.length : Int) := of_decide_eq_true (by first | (with_reducible assumption) | assumption)
                                          obtain ⟨ad293, e293, hx293_0, hx293_1⟩ := at_T35 HR0.out x15_3 p293 q293
                                          cases e293
                                          replace hx293_0 := (HB.out.cell (World.block_lt_of_cell? w _ hx293_0)).trans hx293_0
                                          replace hx293_1 := (HB.out.cell (World.block_lt_of_cell? w _ hx293_1)).trans hx293_1
                                          replace p293 := eq_true p293
                                          replace q293 := eq_true q293
                                          go_wp2_with (first | (go_at_call 16; (with_reducible refine (supercargoref04_Times.calls kj30 x10_2 ((rd_T35 l0 x15_3).f1) x13_2 t294 t295 _ A36.out).mono ?_); rintro e w' ⟨rfl, ⟨nd, rfl⟩⟩; (try first | exact ⟨rfl, _, World.drewN_drewN _ _ _⟩ | exact ⟨rfl, _, Eq.trans (World.drewN_drewN _ _ _) (congrArg (World.drewN _) (Nat.add_assoc _ _ _))⟩); obtain ⟨Ao46, co46, eo46⟩ := Kd.R_slice HO_7.out; subst eo46; have p296 : 0 ≤ (x15_3 : Int) := of_decide_eq_true (by first | (with_reducible assumption) | assumption); have q296 : x15_3 < (t279.length : Int) := of_decide_eq_true (by first | (with_reducible assumption) | assumption); obtain ⟨ad296, e296, hx296_0⟩ := Kd.at_int (Kd.R_reads' HO_7.out).2.2 x15_3 p296 q296; cases e296; replace p296 := eq_true p296; replace q296 := eq_true q296; have p297 : 0 ≤ (x15_3 : Int) := of_decide_eq_true (by first | (with_reducible assumption) | assumption); have q297 : x15_3 < (t279.length : Int) := of_decide_eq_true (by first | (with_reducible assumption) | assumption); obtain ⟨ad297, e297, hx297_0⟩ := Kd.at_int (Kd.R_reads' HO_7.out).2.2 x15_3 p297 q297; obtain rfl : ad296 = ad297 := (by injection e297); replace p297 := eq_true p297; replace q297 := eq_true q297))
                                          repeat (go_quiet (first | (go_at_call 16; (with_reducible refine (supercargoref04_Times.calls kj30 x10_2 ((rd_T35 l0 x15_3).f1) x13_2 t294 t295 _ A36.out).mono ?_); rintro e w' ⟨rfl, ⟨nd, rfl⟩⟩; (try first | exact ⟨rfl, _, World.drewN_drewN _ _ _⟩ | exact ⟨rfl, _, Eq.trans (World.drewN_drewN _ _ _) (congrArg (World.drewN _) (Nat.add_assoc _ _ _))⟩); obtain ⟨Ao46, co46, eo46⟩ := Kd.R_slice HO_7.out; subst eo46; have p296 : 0 ≤ (x15_3 : Int) := of_decide_eq_true (by first | (with_reducible assumption) | assumption); have q296 : x15_3 < (t279.length : Int) := of_decide_eq_true (by first | (with_reducible assumption) | assumption); obtain ⟨ad296, e296, hx296_0⟩ := Kd.at_int (Kd.R_reads' HO_7.out).2.2 x15_3 p296 q296; cases e296; replace p296 := eq_true p296; replace q296 := eq_true q296; have p297 : 0 ≤ (x15_3 : Int) := of_decide_eq_true (by first | (with_reducible assumption) | assumption); have q297 : x15_3 < (t279.length : Int) := of_decide_eq_true (by first | (with_reducible assumption) | assumption); obtain ⟨ad297, e297, hx297_0⟩ := Kd.at_int (Kd.R_reads' HO_7.out).2.2 x15_3 p297 q297; obtain rfl : ad296 = ad297 := (by injection e297); replace p297 := eq_true p297; replace q297 := eq_true q297)); try go_wp2_with (first | (go_at_call 16; (with_reducible refine (supercargoref04_Times.calls kj30 x10_2 ((rd_T35 l0 x15_3).f1) x13_2 t294 t295 _ A36.out).mono ?_); rintro e w' ⟨rfl, ⟨nd, rfl⟩⟩; (try first | exact ⟨rfl, _, World.drewN_drewN _ _ _⟩ | exact ⟨rfl, _, Eq.trans (World.drewN_drewN _ _ _) (congrArg (World.drewN _) (Nat.add_assoc _ _ _))⟩); obtain ⟨Ao46, co46, eo46⟩ := Kd.R_slice HO_7.out; subst eo46; have p296 : 0 ≤ (x15_3 : Int) := of_decide_eq_true (by first | (with_reducible assumption) | assumption); have q296 : x15_3 < (t279.length : Int) := of_decide_eq_true (by first | (with_reducible assumption) | assumption); obtain ⟨ad296, e296, hx296_0⟩ := Kd.at_int (Kd.R_reads' HO_7.out).2.2 x15_3 p296 q296; cases e296; replace p296 := eq_true p296; replace q296 := eq_true q296; have p297 : 0 ≤ (x15_3 : Int) := of_decide_eq_true (by first | (with_reducible assumption) | assumption); have q297 : x15_3 < (t279.length : Int) := of_decide_eq_true (by first | (with_reducible assumption) | assumption); obtain ⟨ad297, e297, hx297_0⟩ := Kd.at_int (Kd.R_reads' HO_7.out).2.2 x15_3 p297 q297; obtain rfl : ad296 = ad297 := (by injection e297); replace p297 := eq_true p297; replace q297 := eq_true q297)))
                                          go_roundg kj30
                                          case measure => have := HJ9.out; have := HK2.out; have := HK3.out; have := HJ30.out; omega
                                          case rel => exact ⟨(wrap64 (x15_3 + 1)), (by first | rfl | (simp; done) | (simp [*]; done)), H', ⟨by have := HJ9.out; have := HK2.out; have := HK3.out; have := HJ30.out; omega⟩, ⟨by (with_reducible repeat (first | apply Kd.R_alloc | apply Kd.R_drewN | apply Kd.R_drew)); exact HO_7.out⟩, ⟨by repeat (first | (with_reducible first | exact HB.out | apply below_alloc | apply pw_below_drewN | apply below_drew1) | exact HB.out)⟩⟩
                                  · rw [if_neg c37] at H
                                    exact absurd H (by simp)
                                · rw [if_neg c35] at H
                                  exact absurd H (by simp)
                              · rw [if_neg c34] at H
                                exact absurd H (by simp)
                            · replace c33 := Bool.eq_false_iff.mpr c33
                              subst c33
                              have H1 : (if x11_2 = x10_2 then (some (x12_2 == 0)) else (some false)) = some r := by rw [if_neg (show ¬ (false = true) by decide)] at H; exact H
                              clear H
                              have H := H1
                              clear H1
                              by_cases c47 : x11_2 = x10_2
                              · rw [if_pos c47] at H
                                have c47b0 : (x11_2 == x10_2) = true := beq_iff_eq.mpr c47
                                have c47b1 : (x11_2 != x10_2) = false := bne_eq_false_iff_eq.mpr c47
                                clear c47
                                obtain rfl := Option.some.inj H
                                go_wp2
                                repeat (go_quiet (fail); try go_wp2)
                                go_ret
                                exact ⟨by first | rfl | (simp [errW_none, errW_some] <;> rfl) | (simp [*, errW_none, errW_some] <;> rfl), by repeat (first | (with_reducible first | exact HB.out | apply below_alloc | apply pw_below_drewN | apply below_drew1) | exact HB.out)⟩
                              · rw [if_neg c47] at H
                                have c47b0 : (x11_2 == x10_2) = false := beq_eq_false_iff_ne.mpr c47
                                have c47b1 : (x11_2 != x10_2) = true := bne_iff_ne.mpr c47
                                obtain rfl := Option.some.inj H
                                go_wp2
                                repeat (go_quiet (fail); try go_wp2)
                                go_ret
                                exact ⟨by first | rfl | (simp [errW_none, errW_some] <;> rfl) | (simp [*, errW_none, errW_some] <;> rfl), by repeat (first | (with_reducible first | exact HB.out | apply below_alloc | apply pw_below_drewN | apply below_drew1) | exact HB.out)⟩
      · rw [if_neg c9] at H
        have c9b0 : (t281 == 0) = false := beq_eq_false_iff_ne.mpr c9
        have c9b1 : (t281 != 0) = true := bne_iff_ne.mpr c9
        by_cases c48 : (t279.length : Int) = 0
        · rw [if_pos c48] at H
          have c48b0 : ((t279.length : Int) == 0) = true := beq_iff_eq.mpr c48
          have c48b1 : ((t279.length : Int) != 0) = false := bne_eq_false_iff_eq.mpr c48
          clear c48
          obtain rfl := Option.some.inj H
          go_enter Try.func4, Try.ntmps4
          go_wp2_with (first | (go_at_call 10; (with_reducible refine (supercargolaw43_awake.calls k  true _ A4.out).mono ?_); rintro e w49 ⟨rfl, hb⟩; have n0_ := Aside0.mk (below_step (by repeat (first | (with_reducible first | exact HB.out | apply below_alloc | apply pw_below_drewN | apply below_drew1) | exact HB.out)) hb); clear HB; have HB := n0_; clear n0_; (try clear hb); (try clear hb2); (try clear hk); (try clear hi)) | (go_at_call 11; (with_reducible refine (supercargolaw43_few.calls k _ _ l0 _ _ l1 true _ ?side1 ?side2 ?side3 ?side4 A6.out).mono ?_); (case side1 => repeat (first | exact (Kd.C_below HR0.out HB.out) | (with_reducible refine Kd.C_alloc ?_ _) | (with_reducible refine Kd.C_drewN ?_ _) | (with_reducible refine Kd.C_drew ?_))); (case side2 => exact HC0.out); (case side3 => repeat (first | exact (Kd.C_below HR1.out HB.out) | (with_reducible refine Kd.C_alloc ?_ _) | (with_reducible refine Kd.C_drewN ?_ _) | (with_reducible refine Kd.C_drew ?_))); (case side4 => exact HC1.out); rintro e w' ⟨rfl, ⟨nd, rfl⟩⟩; (try first | exact ⟨rfl, _, World.drewN_drewN _ _ _⟩ | exact ⟨rfl, _, Eq.trans (World.drewN_drewN _ _ _) (congrArg (World.drewN _) (Nat.add_assoc _ _ _))⟩)) | (go_at_call 15; (with_reducible refine (average_Whole.calls k _ _ l0 _ _ l1 a2 t279 t280 t281 _ ?side1 ?side2 ?side3 ?side4 A8.out).mono ?_); (case side1 => repeat (first | exact (Kd.C_below HR0.out (by repeat (first | (with_reducible first | exact HB.out | apply below_alloc | apply pw_below_drewN | apply below_drew1) | exact HB.out))) | (with_reducible refine Kd.C_alloc ?_ _) | (with_reducible refine Kd.C_drewN ?_ _) | (with_reducible refine Kd.C_drew ?_))); (case side2 => exact HC0.out); (case side3 => repeat (first | exact (Kd.C_below HR1.out (by repeat (first | (with_reducible first | exact HB.out | apply below_alloc | apply pw_below_drewN | apply below_drew1) | exact HB.out))) | (with_reducible refine Kd.C_alloc ?_ _) | (with_reducible refine Kd.C_drewN ?_ _) | (with_reducible refine Kd.C_drew ?_))); (case side4 => exact HC1.out); rintro e w50 ⟨v282, v284, rfl, ho0, ho1, hb⟩; have n0_ := Aside0.mk (Kd.R_lower ho0 (below_size (by repeat (first | (with_reducible first | exact HB.out | apply below_alloc | apply pw_below_drewN | apply below_drew1) | exact HB.out)))); have n1_ := Aside0.mk (Kd.R_lower ho1 (below_size (by repeat (first | (with_reducible first | exact HB.out | apply below_alloc | apply pw_below_drewN | apply below_drew1) | exact HB.out)))); have n2_ := Aside0.mk (below_step (by repeat (first | (with_reducible first | exact HB.out | apply below_alloc | apply pw_below_drewN | apply below_drew1) | exact HB.out)) hb); clear HB; have HO283 := n0_; have HO285 := n1_; have HB := n2_; clear n0_ n1_ n2_; (try clear hb); (try clear hb2); (try clear hk); (try clear hi); (try clear ho0); (try clear ho1); obtain ⟨Ao51, co51, eo51⟩ := Kd.R_slice HO283.out; subst eo51; obtain ⟨Ao52, co52, eo52⟩ := Kd.R_slice HO285.out; subst eo52))
          repeat (go_quiet (first | (go_at_call 10; (with_reducible refine (supercargolaw43_awake.calls k  true _ A4.out).mono ?_); rintro e w49 ⟨rfl, hb⟩; have n0_ := Aside0.mk (below_step (by repeat (first | (with_reducible first | exact HB.out | apply below_alloc | apply pw_below_drewN | apply below_drew1) | exact HB.out)) hb); clear HB; have HB := n0_; clear n0_; (try clear hb); (try clear hb2); (try clear hk); (try clear hi)) | (go_at_call 11; (with_reducible refine (supercargolaw43_few.calls k _ _ l0 _ _ l1 true _ ?side1 ?side2 ?side3 ?side4 A6.out).mono ?_); (case side1 => repeat (first | exact (Kd.C_below HR0.out HB.out) | (with_reducible refine Kd.C_alloc ?_ _) | (with_reducible refine Kd.C_drewN ?_ _) | (with_reducible refine Kd.C_drew ?_))); (case side2 => exact HC0.out); (case side3 => repeat (first | exact (Kd.C_below HR1.out HB.out) | (with_reducible refine Kd.C_alloc ?_ _) | (with_reducible refine Kd.C_drewN ?_ _) | (with_reducible refine Kd.C_drew ?_))); (case side4 => exact HC1.out); rintro e w' ⟨rfl, ⟨nd, rfl⟩⟩; (try first | exact ⟨rfl, _, World.drewN_drewN _ _ _⟩ | exact ⟨rfl, _, Eq.trans (World.drewN_drewN _ _ _) (congrArg (World.drewN _) (Nat.add_assoc _ _ _))⟩)) | (go_at_call 15; (with_reducible refine (average_Whole.calls k _ _ l0 _ _ l1 a2 t279 t280 t281 _ ?side1 ?side2 ?side3 ?side4 A8.out).mono ?_); (case side1 => repeat (first | exact (Kd.C_below HR0.out (by repeat (first | (with_reducible first | exact HB.out | apply below_alloc | apply pw_below_drewN | apply below_drew1) | exact HB.out))) | (with_reducible refine Kd.C_alloc ?_ _) | (with_reducible refine Kd.C_drewN ?_ _) | (with_reducible refine Kd.C_drew ?_))); (case side2 => exact HC0.out); (case side3 => repeat (first | exact (Kd.C_below HR1.out (by repeat (first | (with_reducible first | exact HB.out | apply below_alloc | apply pw_below_drewN | apply below_drew1) | exact HB.out))) | (with_reducible refine Kd.C_alloc ?_ _) | (with_reducible refine Kd.C_drewN ?_ _) | (with_reducible refine Kd.C_drew ?_))); (case side4 => exact HC1.out); rintro e w50 ⟨v282, v284, rfl, ho0, ho1, hb⟩; have n0_ := Aside0.mk (Kd.R_lower ho0 (below_size (by repeat (first | (with_reducible first | exact HB.out | apply below_alloc | apply pw_below_drewN | apply below_drew1) | exact HB.out)))); have n1_ := Aside0.mk (Kd.R_lower ho1 (below_size (by repeat (first | (with_reducible first | exact HB.out | apply below_alloc | apply pw_below_drewN | apply below_drew1) | exact HB.out)))); have n2_ := Aside0.mk (below_step (by repeat (first | (with_reducible first | exact HB.out | apply below_alloc | apply pw_below_drewN | apply below_drew1) | exact HB.out)) hb); clear HB; have HO283 := n0_; have HO285 := n1_; have HB := n2_; clear n0_ n1_ n2_; (try clear hb); (try clear hb2); (try clear hk); (try clear hi); (try clear ho0); (try clear ho1); obtain ⟨Ao51, co51, eo51⟩ := Kd.R_slice HO283.out; subst eo51; obtain ⟨Ao52, co52, eo52⟩ := Kd.R_slice HO285.out; subst eo52)); try go_wp2_with (first | (go_at_call 10; (with_reducible refine (supercargolaw43_awake.calls k  true _ A4.out).mono ?_); rintro e w49 ⟨rfl, hb⟩; have n0_ := Aside0.mk (below_step (by repeat (first | (with_reducible first | exact HB.out | apply below_alloc | apply pw_below_drewN | apply below_drew1) | exact HB.out)) hb); clear HB; have HB := n0_; clear n0_; (try clear hb); (try clear hb2); (try clear hk); (try clear hi)) | (go_at_call 11; (with_reducible refine (supercargolaw43_few.calls k _ _ l0 _ _ l1 true _ ?side1 ?side2 ?side3 ?side4 A6.out).mono ?_); (case side1 => repeat (first | exact (Kd.C_below HR0.out HB.out) | (with_reducible refine Kd.C_alloc ?_ _) | (with_reducible refine Kd.C_drewN ?_ _) | (with_reducible refine Kd.C_drew ?_))); (case side2 => exact HC0.out); (case side3 => repeat (first | exact (Kd.C_below HR1.out HB.out) | (with_reducible refine Kd.C_alloc ?_ _) | (with_reducible refine Kd.C_drewN ?_ _) | (with_reducible refine Kd.C_drew ?_))); (case side4 => exact HC1.out); rintro e w' ⟨rfl, ⟨nd, rfl⟩⟩; (try first | exact ⟨rfl, _, World.drewN_drewN _ _ _⟩ | exact ⟨rfl, _, Eq.trans (World.drewN_drewN _ _ _) (congrArg (World.drewN _) (Nat.add_assoc _ _ _))⟩)) | (go_at_call 15; (with_reducible refine (average_Whole.calls k _ _ l0 _ _ l1 a2 t279 t280 t281 _ ?side1 ?side2 ?side3 ?side4 A8.out).mono ?_); (case side1 => repeat (first | exact (Kd.C_below HR0.out (by repeat (first | (with_reducible first | exact HB.out | apply below_alloc | apply pw_below_drewN | apply below_drew1) | exact HB.out))) | (with_reducible refine Kd.C_alloc ?_ _) | (with_reducible refine Kd.C_drewN ?_ _) | (with_reducible refine Kd.C_drew ?_))); (case side2 => exact HC0.out); (case side3 => repeat (first | exact (Kd.C_below HR1.out (by repeat (first | (with_reducible first | exact HB.out | apply below_alloc | apply pw_below_drewN | apply below_drew1) | exact HB.out))) | (with_reducible refine Kd.C_alloc ?_ _) | (with_reducible refine Kd.C_drewN ?_ _) | (with_reducible refine Kd.C_drew ?_))); (case side4 => exact HC1.out); rintro e w50 ⟨v282, v284, rfl, ho0, ho1, hb⟩; have n0_ := Aside0.mk (Kd.R_lower ho0 (below_size (by repeat (first | (with_reducible first | exact HB.out | apply below_alloc | apply pw_below_drewN | apply below_drew1) | exact HB.out)))); have n1_ := Aside0.mk (Kd.R_lower ho1 (below_size (by repeat (first | (with_reducible first | exact HB.out | apply below_alloc | apply pw_below_drewN | apply below_drew1) | exact HB.out)))); have n2_ := Aside0.mk (below_step (by repeat (first | (with_reducible first | exact HB.out | apply below_alloc | apply pw_below_drewN | apply below_drew1) | exact HB.out)) hb); clear HB; have HO283 := n0_; have HO285 := n1_; have HB := n2_; clear n0_ n1_ n2_; (try clear hb); (try clear hb2); (try clear hk); (try clear hi); (try clear ho0); (try clear ho1); obtain ⟨Ao51, co51, eo51⟩ := Kd.R_slice HO283.out; subst eo51; obtain ⟨Ao52, co52, eo52⟩ := Kd.R_slice HO285.out; subst eo52)))
          go_ret
          exact ⟨by first | rfl | (simp [errW_none, errW_some] <;> rfl) | (simp [*, errW_none, errW_some] <;> rfl), by repeat (first | (with_reducible first | exact HB.out | apply below_alloc | apply pw_below_drewN | apply below_drew1) | exact HB.out)⟩
        · rw [if_neg c48] at H
          have c48b0 : ((t279.length : Int) == 0) = false := beq_eq_false_iff_ne.mpr c48
          have c48b1 : ((t279.length : Int) != 0) = true := bne_iff_ne.mpr c48
          have c48b2 : ¬ (t279 = []) := fun h_ => c48 (by rw [h_]; rfl)
          obtain rfl := Option.some.inj H
          go_enter Try.func4, Try.ntmps4
          go_wp2_with (first | (go_at_call 10; (with_reducible refine (supercargolaw43_awake.calls k  true _ A4.out).mono ?_); rintro e w53 ⟨rfl, hb⟩; have n0_ := Aside0.mk (below_step (by repeat (first | (with_reducible first | exact HB.out | apply below_alloc | apply pw_below_drewN | apply below_drew1) | exact HB.out)) hb); clear HB; have HB := n0_; clear n0_; (try clear hb); (try clear hb2); (try clear hk); (try clear hi)) | (go_at_call 11; (with_reducible refine (supercargolaw43_few.calls k _ _ l0 _ _ l1 true _ ?side1 ?side2 ?side3 ?side4 A6.out).mono ?_); (case side1 => repeat (first | exact (Kd.C_below HR0.out HB.out) | (with_reducible refine Kd.C_alloc ?_ _) | (with_reducible refine Kd.C_drewN ?_ _) | (with_reducible refine Kd.C_drew ?_))); (case side2 => exact HC0.out); (case side3 => repeat (first | exact (Kd.C_below HR1.out HB.out) | (with_reducible refine Kd.C_alloc ?_ _) | (with_reducible refine Kd.C_drewN ?_ _) | (with_reducible refine Kd.C_drew ?_))); (case side4 => exact HC1.out); rintro e w' ⟨rfl, ⟨nd, rfl⟩⟩; (try first | exact ⟨rfl, _, World.drewN_drewN _ _ _⟩ | exact ⟨rfl, _, Eq.trans (World.drewN_drewN _ _ _) (congrArg (World.drewN _) (Nat.add_assoc _ _ _))⟩)) | (go_at_call 15; (with_reducible refine (average_Whole.calls k _ _ l0 _ _ l1 a2 t279 t280 t281 _ ?side1 ?side2 ?side3 ?side4 A8.out).mono ?_); (case side1 => repeat (first | exact (Kd.C_below HR0.out (by repeat (first | (with_reducible first | exact HB.out | apply below_alloc | apply pw_below_drewN | apply below_drew1) | exact HB.out))) | (with_reducible refine Kd.C_alloc ?_ _) | (with_reducible refine Kd.C_drewN ?_ _) | (with_reducible refine Kd.C_drew ?_))); (case side2 => exact HC0.out); (case side3 => repeat (first | exact (Kd.C_below HR1.out (by repeat (first | (with_reducible first | exact HB.out | apply below_alloc | apply pw_below_drewN | apply below_drew1) | exact HB.out))) | (with_reducible refine Kd.C_alloc ?_ _) | (with_reducible refine Kd.C_drewN ?_ _) | (with_reducible refine Kd.C_drew ?_))); (case side4 => exact HC1.out); rintro e w54 ⟨v282, v284, rfl, ho0, ho1, hb⟩; have n0_ := Aside0.mk (Kd.R_lower ho0 (below_size (by repeat (first | (with_reducible first | exact HB.out | apply below_alloc | apply pw_below_drewN | apply below_drew1) | exact HB.out)))); have n1_ := Aside0.mk (Kd.R_lower ho1 (below_size (by repeat (first | (with_reducible first | exact HB.out | apply below_alloc | apply pw_below_drewN | apply below_drew1) | exact HB.out)))); have n2_ := Aside0.mk (below_step (by repeat (first | (with_reducible first | exact HB.out | apply below_alloc | apply pw_below_drewN | apply below_drew1) | exact HB.out)) hb); clear HB; have HO283 := n0_; have HO285 := n1_; have HB := n2_; clear n0_ n1_ n2_; (try clear hb); (try clear hb2); (try clear hk); (try clear hi); (try clear ho0); (try clear ho1); obtain ⟨Ao55, co55, eo55⟩ := Kd.R_slice HO283.out; subst eo55))
          repeat (go_quiet (first | (go_at_call 10; (with_reducible refine (supercargolaw43_awake.calls k  true _ A4.out).mono ?_); rintro e w53 ⟨rfl, hb⟩; have n0_ := Aside0.mk (below_step (by repeat (first | (with_reducible first | exact HB.out | apply below_alloc | apply pw_below_drewN | apply below_drew1) | exact HB.out)) hb); clear HB; have HB := n0_; clear n0_; (try clear hb); (try clear hb2); (try clear hk); (try clear hi)) | (go_at_call 11; (with_reducible refine (supercargolaw43_few.calls k _ _ l0 _ _ l1 true _ ?side1 ?side2 ?side3 ?side4 A6.out).mono ?_); (case side1 => repeat (first | exact (Kd.C_below HR0.out HB.out) | (with_reducible refine Kd.C_alloc ?_ _) | (with_reducible refine Kd.C_drewN ?_ _) | (with_reducible refine Kd.C_drew ?_))); (case side2 => exact HC0.out); (case side3 => repeat (first | exact (Kd.C_below HR1.out HB.out) | (with_reducible refine Kd.C_alloc ?_ _) | (with_reducible refine Kd.C_drewN ?_ _) | (with_reducible refine Kd.C_drew ?_))); (case side4 => exact HC1.out); rintro e w' ⟨rfl, ⟨nd, rfl⟩⟩; (try first | exact ⟨rfl, _, World.drewN_drewN _ _ _⟩ | exact ⟨rfl, _, Eq.trans (World.drewN_drewN _ _ _) (congrArg (World.drewN _) (Nat.add_assoc _ _ _))⟩)) | (go_at_call 15; (with_reducible refine (average_Whole.calls k _ _ l0 _ _ l1 a2 t279 t280 t281 _ ?side1 ?side2 ?side3 ?side4 A8.out).mono ?_); (case side1 => repeat (first | exact (Kd.C_below HR0.out (by repeat (first | (with_reducible first | exact HB.out | apply below_alloc | apply pw_below_drewN | apply below_drew1) | exact HB.out))) | (with_reducible refine Kd.C_alloc ?_ _) | (with_reducible refine Kd.C_drewN ?_ _) | (with_reducible refine Kd.C_drew ?_))); (case side2 => exact HC0.out); (case side3 => repeat (first | exact (Kd.C_below HR1.out (by repeat (first | (with_reducible first | exact HB.out | apply below_alloc | apply pw_below_drewN | apply below_drew1) | exact HB.out))) | (with_reducible refine Kd.C_alloc ?_ _) | (with_reducible refine Kd.C_drewN ?_ _) | (with_reducible refine Kd.C_drew ?_))); (case side4 => exact HC1.out); rintro e w54 ⟨v282, v284, rfl, ho0, ho1, hb⟩; have n0_ := Aside0.mk (Kd.R_lower ho0 (below_size (by repeat (first | (with_reducible first | exact HB.out | apply below_alloc | apply pw_below_drewN | apply below_drew1) | exact HB.out)))); have n1_ := Aside0.mk (Kd.R_lower ho1 (below_size (by repeat (first | (with_reducible first | exact HB.out | apply below_alloc | apply pw_below_drewN | apply below_drew1) | exact HB.out)))); have n2_ := Aside0.mk (below_step (by repeat (first | (with_reducible first | exact HB.out | apply below_alloc | apply pw_below_drewN | apply below_drew1) | exact HB.out)) hb); clear HB; have HO283 := n0_; have HO285 := n1_; have HB := n2_; clear n0_ n1_ n2_; (try clear hb); (try clear hb2); (try clear hk); (try clear hi); (try clear ho0); (try clear ho1); obtain ⟨Ao55, co55, eo55⟩ := Kd.R_slice HO283.out; subst eo55)); try go_wp2_with (first | (go_at_call 10; (with_reducible refine (supercargolaw43_awake.calls k  true _ A4.out).mono ?_); rintro e w53 ⟨rfl, hb⟩; have n0_ := Aside0.mk (below_step (by repeat (first | (with_reducible first | exact HB.out | apply below_alloc | apply pw_below_drewN | apply below_drew1) | exact HB.out)) hb); clear HB; have HB := n0_; clear n0_; (try clear hb); (try clear hb2); (try clear hk); (try clear hi)) | (go_at_call 11; (with_reducible refine (supercargolaw43_few.calls k _ _ l0 _ _ l1 true _ ?side1 ?side2 ?side3 ?side4 A6.out).mono ?_); (case side1 => repeat (first | exact (Kd.C_below HR0.out HB.out) | (with_reducible refine Kd.C_alloc ?_ _) | (with_reducible refine Kd.C_drewN ?_ _) | (with_reducible refine Kd.C_drew ?_))); (case side2 => exact HC0.out); (case side3 => repeat (first | exact (Kd.C_below HR1.out HB.out) | (with_reducible refine Kd.C_alloc ?_ _) | (with_reducible refine Kd.C_drewN ?_ _) | (with_reducible refine Kd.C_drew ?_))); (case side4 => exact HC1.out); rintro e w' ⟨rfl, ⟨nd, rfl⟩⟩; (try first | exact ⟨rfl, _, World.drewN_drewN _ _ _⟩ | exact ⟨rfl, _, Eq.trans (World.drewN_drewN _ _ _) (congrArg (World.drewN _) (Nat.add_assoc _ _ _))⟩)) | (go_at_call 15; (with_reducible refine (average_Whole.calls k _ _ l0 _ _ l1 a2 t279 t280 t281 _ ?side1 ?side2 ?side3 ?side4 A8.out).mono ?_); (case side1 => repeat (first | exact (Kd.C_below HR0.out (by repeat (first | (with_reducible first | exact HB.out | apply below_alloc | apply pw_below_drewN | apply below_drew1) | exact HB.out))) | (with_reducible refine Kd.C_alloc ?_ _) | (with_reducible refine Kd.C_drewN ?_ _) | (with_reducible refine Kd.C_drew ?_))); (case side2 => exact HC0.out); (case side3 => repeat (first | exact (Kd.C_below HR1.out (by repeat (first | (with_reducible first | exact HB.out | apply below_alloc | apply pw_below_drewN | apply below_drew1) | exact HB.out))) | (with_reducible refine Kd.C_alloc ?_ _) | (with_reducible refine Kd.C_drewN ?_ _) | (with_reducible refine Kd.C_drew ?_))); (case side4 => exact HC1.out); rintro e w54 ⟨v282, v284, rfl, ho0, ho1, hb⟩; have n0_ := Aside0.mk (Kd.R_lower ho0 (below_size (by repeat (first | (with_reducible first | exact HB.out | apply below_alloc | apply pw_below_drewN | apply below_drew1) | exact HB.out)))); have n1_ := Aside0.mk (Kd.R_lower ho1 (below_size (by repeat (first | (with_reducible first | exact HB.out | apply below_alloc | apply pw_below_drewN | apply below_drew1) | exact HB.out)))); have n2_ := Aside0.mk (below_step (by repeat (first | (with_reducible first | exact HB.out | apply below_alloc | apply pw_below_drewN | apply below_drew1) | exact HB.out)) hb); clear HB; have HO283 := n0_; have HO285 := n1_; have HB := n2_; clear n0_ n1_ n2_; (try clear hb); (try clear hb2); (try clear hk); (try clear hi); (try clear ho0); (try clear ho1); obtain ⟨Ao55, co55, eo55⟩ := Kd.R_slice HO283.out; subst eo55)))
          go_ret
          exact ⟨by first | rfl | (simp [errW_none, errW_some] <;> rfl) | (simp [*, errW_none, errW_some] <;> rfl), by repeat (first | (with_reducible first | exact HB.out | apply below_alloc | apply pw_below_drewN | apply below_drew1) | exact HB.out)⟩
    · replace c7 := Bool.eq_false_iff.mpr c7
      subst c7
      have H1 : (some true) = some r := by rw [if_neg (show ¬ (false = true) by decide)] at H; exact H
      clear H
      have H := H1
      clear H1
      obtain rfl := Option.some.inj H
      go_enter Try.func4, Try.ntmps4
      go_wp2_with (first | (go_at_call 10; (with_reducible refine (supercargolaw43_awake.calls k  true _ A4.out).mono ?_); rintro e w56 ⟨rfl, hb⟩; have n0_ := Aside0.mk (below_step (by repeat (first | (with_reducible first | exact HB.out | apply below_alloc | apply pw_below_drewN | apply below_drew1) | exact HB.out)) hb); clear HB; have HB := n0_; clear n0_; (try clear hb); (try clear hb2); (try clear hk); (try clear hi)) | (go_at_call 11; (with_reducible refine (supercargolaw43_few.calls k _ _ l0 _ _ l1 false _ ?side1 ?side2 ?side3 ?side4 A6.out).mono ?_); (case side1 => repeat (first | exact (Kd.C_below HR0.out HB.out) | (with_reducible refine Kd.C_alloc ?_ _) | (with_reducible refine Kd.C_drewN ?_ _) | (with_reducible refine Kd.C_drew ?_))); (case side2 => exact HC0.out); (case side3 => repeat (first | exact (Kd.C_below HR1.out HB.out) | (with_reducible refine Kd.C_alloc ?_ _) | (with_reducible refine Kd.C_drewN ?_ _) | (with_reducible refine Kd.C_drew ?_))); (case side4 => exact HC1.out); rintro e w' ⟨rfl, ⟨nd, rfl⟩⟩; (try first | exact ⟨rfl, _, World.drewN_drewN _ _ _⟩ | exact ⟨rfl, _, Eq.trans (World.drewN_drewN _ _ _) (congrArg (World.drewN _) (Nat.add_assoc _ _ _))⟩)))
      repeat (go_quiet (first | (go_at_call 10; (with_reducible refine (supercargolaw43_awake.calls k  true _ A4.out).mono ?_); rintro e w56 ⟨rfl, hb⟩; have n0_ := Aside0.mk (below_step (by repeat (first | (with_reducible first | exact HB.out | apply below_alloc | apply pw_below_drewN | apply below_drew1) | exact HB.out)) hb); clear HB; have HB := n0_; clear n0_; (try clear hb); (try clear hb2); (try clear hk); (try clear hi)) | (go_at_call 11; (with_reducible refine (supercargolaw43_few.calls k _ _ l0 _ _ l1 false _ ?side1 ?side2 ?side3 ?side4 A6.out).mono ?_); (case side1 => repeat (first | exact (Kd.C_below HR0.out HB.out) | (with_reducible refine Kd.C_alloc ?_ _) | (with_reducible refine Kd.C_drewN ?_ _) | (with_reducible refine Kd.C_drew ?_))); (case side2 => exact HC0.out); (case side3 => repeat (first | exact (Kd.C_below HR1.out HB.out) | (with_reducible refine Kd.C_alloc ?_ _) | (with_reducible refine Kd.C_drewN ?_ _) | (with_reducible refine Kd.C_drew ?_))); (case side4 => exact HC1.out); rintro e w' ⟨rfl, ⟨nd, rfl⟩⟩; (try first | exact ⟨rfl, _, World.drewN_drewN _ _ _⟩ | exact ⟨rfl, _, Eq.trans (World.drewN_drewN _ _ _) (congrArg (World.drewN _) (Nat.add_assoc _ _ _))⟩))); try go_wp2_with (first | (go_at_call 10; (with_reducible refine (supercargolaw43_awake.calls k  true _ A4.out).mono ?_); rintro e w56 ⟨rfl, hb⟩; have n0_ := Aside0.mk (below_step (by repeat (first | (with_reducible first | exact HB.out | apply below_alloc | apply pw_below_drewN | apply below_drew1) | exact HB.out)) hb); clear HB; have HB := n0_; clear n0_; (try clear hb); (try clear hb2); (try clear hk); (try clear hi)) | (go_at_call 11; (with_reducible refine (supercargolaw43_few.calls k _ _ l0 _ _ l1 false _ ?side1 ?side2 ?side3 ?side4 A6.out).mono ?_); (case side1 => repeat (first | exact (Kd.C_below HR0.out HB.out) | (with_reducible refine Kd.C_alloc ?_ _) | (with_reducible refine Kd.C_drewN ?_ _) | (with_reducible refine Kd.C_drew ?_))); (case side2 => exact HC0.out); (case side3 => repeat (first | exact (Kd.C_below HR1.out HB.out) | (with_reducible refine Kd.C_alloc ?_ _) | (with_reducible refine Kd.C_drewN ?_ _) | (with_reducible refine Kd.C_drew ?_))); (case side4 => exact HC1.out); rintro e w' ⟨rfl, ⟨nd, rfl⟩⟩; (try first | exact ⟨rfl, _, World.drewN_drewN _ _ _⟩ | exact ⟨rfl, _, Eq.trans (World.drewN_drewN _ _ _) (congrArg (World.drewN _) (Nat.add_assoc _ _ _))⟩))))
      go_ret
      exact ⟨by first | rfl | (simp [errW_none, errW_some] <;> rfl) | (simp [*, errW_none, errW_some] <;> rfl), by repeat (first | (with_reducible first | exact HB.out | apply below_alloc | apply pw_below_drewN | apply below_drew1) | exact HB.out)⟩
  · replace c5 := Bool.eq_false_iff.mpr c5
    subst c5
    have H1 : (some false) = some r := by rw [if_neg (show ¬ (false = true) by decide)] at H; exact H
    clear H
    have H := H1
    clear H1
    obtain rfl := Option.some.inj H
    go_enter Try.func4, Try.ntmps4
    go_wp2_with (first | (go_at_call 10; (with_reducible refine (supercargolaw43_awake.calls k  false _ A4.out).mono ?_); rintro e w57 ⟨rfl, hb⟩; have n0_ := Aside0.mk (below_step (by repeat (first | (with_reducible first | exact HB.out | apply below_alloc | apply pw_below_drewN | apply below_drew1) | exact HB.out)) hb); clear HB; have HB := n0_; clear n0_; (try clear hb); (try clear hb2); (try clear hk); (try clear hi)))
    repeat (go_quiet (first | (go_at_call 10; (with_reducible refine (supercargolaw43_awake.calls k  false _ A4.out).mono ?_); rintro e w57 ⟨rfl, hb⟩; have n0_ := Aside0.mk (below_step (by repeat (first | (with_reducible first | exact HB.out | apply below_alloc | apply pw_below_drewN | apply below_drew1) | exact HB.out)) hb); clear HB; have HB := n0_; clear n0_; (try clear hb); (try clear hb2); (try clear hk); (try clear hi))); try go_wp2_with (first | (go_at_call 10; (with_reducible refine (supercargolaw43_awake.calls k  false _ A4.out).mono ?_); rintro e w57 ⟨rfl, hb⟩; have n0_ := Aside0.mk (below_step (by repeat (first | (with_reducible first | exact HB.out | apply below_alloc | apply pw_below_drewN | apply below_drew1) | exact HB.out)) hb); clear HB; have HB := n0_; clear n0_; (try clear hb); (try clear hb2); (try clear hk); (try clear hi))))
    go_ret
    exact ⟨by first | rfl | (simp [errW_none, errW_some] <;> rfl) | (simp [*, errW_none, errW_some] <;> rfl), by repeat (first | (with_reducible first | exact HB.out | apply below_alloc | apply pw_below_drewN | apply below_drew1) | exact HB.out)⟩

end Go.Proofs.Yteeehijpdkbgkaa.Print
