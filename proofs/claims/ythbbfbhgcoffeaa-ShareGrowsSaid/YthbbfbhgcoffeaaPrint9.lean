/- Contracts of the program's functions over this seat's translation, written out by this session's own driver. Conditions: those in each statement. -/
import Derived.Test.YthbbfbhgcoffeaaPrint0
import Derived.Test.YthbbfbhgcoffeaaPrint5
import Derived.Test.YthbbfbhgcoffeaaPrint6
namespace Go.Proofs.Ythbbfbhgcoffeaa.Print
open Go.RowKit Go.Proofs.YthbbfbhgcoffeaaW.PrintWords Go.Proofs.YthbbfbhgcoffeaaW.PrintLast Go.Proofs.YthbbfbhgcoffeaaW.PrintMore
attribute [local go_sem] max2_int min2_int max_two min_two max_three min_three max_four min_four   -- for this text's walks alone
set_option linter.unusedVariables false
set_option linter.unusedSimpArgs false

/-! ### supercargolaw04_ShareGrows: function 5 -/
mutual
def supercargolaw04_ShareGrows.j0 : Nat → Int → List Int → Bool → Option (Bool)
  | 0, _, _, _ => none
  | k + 1, x0, x1, x15 => if x15 = true then ((supercargolaw04_awake.f k).bind fun t185 => (some t185)) else ((share_Split.f x0 x1).bind fun bt186 => (if bt186.2 = 0 then (if (bt186.1.length : Int) = (x1.length : Int) then (supercargolaw04_ShareGrows.l0 k x1 bt186.1 (bt186.1.length : Int) 0) else (some false)) else (some ((bt186.1.length : Int) == 0))))
def supercargolaw04_ShareGrows.l0 : Nat → List Int → List Int → Int → Int → Option (Bool)
  | 0, _, _, _, _ => none
  | k + 1, x1, x5, x34, x35 => if x35 < x34 then (supercargolaw04_ShareGrows.l1 k x1 x5 x35 x34 x35 x35 0) else (some true)
def supercargolaw04_ShareGrows.l1 : Nat → List Int → List Int → Int → Int → Int → Int → Int → Option (Bool)
  | 0, _, _, _, _, _, _, _ => none
  | k + 1, x1, x5, x7, x34, x35, x38, x39 => if x39 < x38 then (if 0 ≤ x7 then (if x7 < (x1.length : Int) then (if 0 ≤ x39 then (if x39 < (x1.length : Int) then (if (rd x1 x7) > (rd x1 x39) then (if x7 < (x5.length : Int) then (if x39 < (x5.length : Int) then (if (rd x5 x7) < (rd x5 x39) then (supercargolaw04_ShareGrows.j3 k x1 x5 x7 x39 x34 x35 x38 x39 true) else (if (rd x1 x7) < (rd x1 x39) then (supercargolaw04_ShareGrows.j3 k x1 x5 x7 x39 x34 x35 x38 x39 (decide ((rd x5 x7) > (rd x5 x39)))) else (supercargolaw04_ShareGrows.j3 k x1 x5 x7 x39 x34 x35 x38 x39 false))) else (none)) else (none)) else (if (rd x1 x7) < (rd x1 x39) then (if x7 < (x5.length : Int) then (if x39 < (x5.length : Int) then (supercargolaw04_ShareGrows.j3 k x1 x5 x7 x39 x34 x35 x38 x39 (decide ((rd x5 x7) > (rd x5 x39)))) else (none)) else (none)) else (supercargolaw04_ShareGrows.j3 k x1 x5 x7 x39 x34 x35 x38 x39 false))) else (none)) else (none)) else (none)) else (none)) else (supercargolaw04_ShareGrows.l0 k x1 x5 x34 (wrap64 (x35 + 1)))
def supercargolaw04_ShareGrows.j3 : Nat → List Int → List Int → Int → Int → Int → Int → Int → Int → Bool → Option (Bool)
  | 0, _, _, _, _, _, _, _, _, _ => none
  | k + 1, x1, x5, x7, x8, x34, x35, x38, x39, x83 => if x83 = true then (some false) else (if 0 ≤ x7 then (if x7 < (x1.length : Int) then (if 0 ≤ x8 then (if x8 < (x1.length : Int) then (if (rd x1 x7) = (rd x1 x8) then (if x8 < (x5.length : Int) then (if x7 < (x5.length : Int) then (if (rd x5 x8) < (rd x5 x7) then (some false) else (if (rd x5 x8) > (wrap64 ((rd x5 x7) + 1)) then (some false) else (supercargolaw04_ShareGrows.l1 k x1 x5 x7 x34 x35 x38 (wrap64 (x39 + 1))))) else (none)) else (none)) else (supercargolaw04_ShareGrows.l1 k x1 x5 x7 x34 x35 x38 (wrap64 (x39 + 1)))) else (none)) else (none)) else (none)) else (none))
end
def supercargolaw04_ShareGrows.f (k : Nat) (a0 : Int) (l1 : List Int) : Option (Bool) := (supercargolaw04_awake.f k).bind fun t184 => (if t184 = true then (supercargolaw04_ShareGrows.j0 k a0 l1 (decide ((l1.length : Int) > 40))) else (supercargolaw04_ShareGrows.j0 k a0 l1 true))
theorem supercargolaw04_ShareGrows.mono_l : ∀ k, (∀ y0 y1 y2, LeO (supercargolaw04_ShareGrows.j0 k y0 y1 y2) (supercargolaw04_ShareGrows.j0 (k + 1) y0 y1 y2)) ∧ (∀ y0 y1 y2 y3, LeO (supercargolaw04_ShareGrows.l0 k y0 y1 y2 y3) (supercargolaw04_ShareGrows.l0 (k + 1) y0 y1 y2 y3)) ∧ (∀ y0 y1 y2 y3 y4 y5 y6, LeO (supercargolaw04_ShareGrows.l1 k y0 y1 y2 y3 y4 y5 y6) (supercargolaw04_ShareGrows.l1 (k + 1) y0 y1 y2 y3 y4 y5 y6)) ∧ (∀ y0 y1 y2 y3 y4 y5 y6 y7 y8, LeO (supercargolaw04_ShareGrows.j3 k y0 y1 y2 y3 y4 y5 y6 y7 y8) (supercargolaw04_ShareGrows.j3 (k + 1) y0 y1 y2 y3 y4 y5 y6 y7 y8))
  | 0 => ⟨fun _ _ _ r h => by simp [supercargolaw04_ShareGrows.j0] at h, fun _ _ _ _ r h => by simp [supercargolaw04_ShareGrows.l0] at h, fun _ _ _ _ _ _ _ r h => by simp [supercargolaw04_ShareGrows.l1] at h, fun _ _ _ _ _ _ _ _ _ r h => by simp [supercargolaw04_ShareGrows.j3] at h⟩
  | k + 1 => by
    obtain ⟨ih0, ih1, ih2, ih3⟩ := supercargolaw04_ShareGrows.mono_l k
    refine ⟨?_, ?_, ?_, ?_⟩
    · intro y0 y1 y2
      unfold supercargolaw04_ShareGrows.j0
      repeat' first
      | (with_reducible exact ih0 _ _ _)
      | (with_reducible exact ih1 _ _ _ _)
      | (with_reducible exact ih2 _ _ _ _ _ _ _)
      | (with_reducible exact ih3 _ _ _ _ _ _ _ _ _)
      | (with_reducible exact supercargolaw04_awake.mono _)
      | (with_reducible exact LeO.refl _)
      | (with_reducible exact LeO.none _)
      | (with_reducible refine LeO.ite ?_ ?_)
      | (with_reducible refine LeO.bind ?_ (fun _ => ?_))
      | exact ih0 _ _ _
      | exact ih1 _ _ _ _
      | exact ih2 _ _ _ _ _ _ _
      | exact ih3 _ _ _ _ _ _ _ _ _
      | exact supercargolaw04_awake.mono _
      | exact LeO.none _
      | refine LeO.ite ?_ ?_
      | refine LeO.bind ?_ (fun _ => ?_)
    · intro y0 y1 y2 y3
      unfold supercargolaw04_ShareGrows.l0
      repeat' first
      | (with_reducible exact ih0 _ _ _)
      | (with_reducible exact ih1 _ _ _ _)
      | (with_reducible exact ih2 _ _ _ _ _ _ _)
      | (with_reducible exact ih3 _ _ _ _ _ _ _ _ _)
      | (with_reducible exact supercargolaw04_awake.mono _)
      | (with_reducible exact LeO.refl _)
      | (with_reducible exact LeO.none _)
      | (with_reducible refine LeO.ite ?_ ?_)
      | (with_reducible refine LeO.bind ?_ (fun _ => ?_))
      | exact ih0 _ _ _
      | exact ih1 _ _ _ _
      | exact ih2 _ _ _ _ _ _ _
      | exact ih3 _ _ _ _ _ _ _ _ _
      | exact supercargolaw04_awake.mono _
      | exact LeO.none _
      | refine LeO.ite ?_ ?_
      | refine LeO.bind ?_ (fun _ => ?_)
    · intro y0 y1 y2 y3 y4 y5 y6
      unfold supercargolaw04_ShareGrows.l1
      repeat' first
      | (with_reducible exact ih0 _ _ _)
      | (with_reducible exact ih1 _ _ _ _)
      | (with_reducible exact ih2 _ _ _ _ _ _ _)
      | (with_reducible exact ih3 _ _ _ _ _ _ _ _ _)
      | (with_reducible exact supercargolaw04_awake.mono _)
      | (with_reducible exact LeO.refl _)
      | (with_reducible exact LeO.none _)
      | (with_reducible refine LeO.ite ?_ ?_)
      | (with_reducible refine LeO.bind ?_ (fun _ => ?_))
      | exact ih0 _ _ _
      | exact ih1 _ _ _ _
      | exact ih2 _ _ _ _ _ _ _
      | exact ih3 _ _ _ _ _ _ _ _ _
      | exact supercargolaw04_awake.mono _
      | exact LeO.none _
      | refine LeO.ite ?_ ?_
      | refine LeO.bind ?_ (fun _ => ?_)
    · intro y0 y1 y2 y3 y4 y5 y6 y7 y8
      unfold supercargolaw04_ShareGrows.j3
      repeat' first
      | (with_reducible exact ih0 _ _ _)
      | (with_reducible exact ih1 _ _ _ _)
      | (with_reducible exact ih2 _ _ _ _ _ _ _)
      | (with_reducible exact ih3 _ _ _ _ _ _ _ _ _)
      | (with_reducible exact supercargolaw04_awake.mono _)
      | (with_reducible exact LeO.refl _)
      | (with_reducible exact LeO.none _)
      | (with_reducible refine LeO.ite ?_ ?_)
      | (with_reducible refine LeO.bind ?_ (fun _ => ?_))
      | exact ih0 _ _ _
      | exact ih1 _ _ _ _
      | exact ih2 _ _ _ _ _ _ _
      | exact ih3 _ _ _ _ _ _ _ _ _
      | exact supercargolaw04_awake.mono _
      | exact LeO.none _
      | refine LeO.ite ?_ ?_
      | refine LeO.bind ?_ (fun _ => ?_)
theorem supercargolaw04_ShareGrows.mono : ∀ a0 a1 k, LeO (supercargolaw04_ShareGrows.f k a0 a1) (supercargolaw04_ShareGrows.f (k + 1) a0 a1) := by
  intro a0 a1 k
  obtain ⟨ih0, ih1, ih2, ih3⟩ := supercargolaw04_ShareGrows.mono_l k
  unfold supercargolaw04_ShareGrows.f
  repeat' first
      | (with_reducible exact ih0 _ _ _)
      | (with_reducible exact ih1 _ _ _ _)
      | (with_reducible exact ih2 _ _ _ _ _ _ _)
      | (with_reducible exact ih3 _ _ _ _ _ _ _ _ _)
      | (with_reducible exact supercargolaw04_awake.mono _)
      | (with_reducible exact LeO.refl _)
      | (with_reducible exact LeO.none _)
      | (with_reducible refine LeO.ite ?_ ?_)
      | (with_reducible refine LeO.bind ?_ (fun _ => ?_))
      | exact ih0 _ _ _
      | exact ih1 _ _ _ _
      | exact ih2 _ _ _ _ _ _ _
      | exact ih3 _ _ _ _ _ _ _ _ _
      | exact supercargolaw04_awake.mono _
      | exact LeO.none _
      | refine LeO.ite ?_ ?_
      | refine LeO.bind ?_ (fun _ => ?_)
set_option maxHeartbeats 8000000 in
set_option maxRecDepth 100000 in
theorem supercargolaw04_ShareGrows.calls (k : Nat) (a0 : Int) (A1 : Option Addr) (c1 : Nat) (l1 : List Int) (r : Bool) (w : World) (hr1 : Kd.C (Kd.int .i64) w A1 l1.length l1) (hc1 : l1.length ≤ c1) (h : supercargolaw04_ShareGrows.f k a0 l1 = some r) :
    Calls Try.prog 5 #[.int .i64 a0, .slice A1 l1.length c1] w fun e w' => e = .returned (.bool r) ∧ Below w.heap.size w w' := by
  have HR1 := Aside0.mk hr1
  have HC1 := Aside0.mk hc1
  clear hr1 hc1
  have HB := Aside0.mk (Below.refl w.heap.size w)
  have H : ((supercargolaw04_awake.f k).bind fun t184 => (if t184 = true then (supercargolaw04_ShareGrows.j0 k a0 l1 (decide ((l1.length : Int) > 40))) else (supercargolaw04_ShareGrows.j0 k a0 l1 true))) = some r := h
  clear h
  have HC3 := Aside0.mk H
  clear H
  go_enter Try.func5, Try.ntmps5
  go_upto_region 1 with (fail)
  repeat (go_quiet (fail); go_upto_region 1 with (fail))
  go_cut [15] (fun v15 wc => ∃ (kq : Nat) (x15_2 : Bool), v15 = .bool x15_2 ∧ Aside0 (supercargolaw04_ShareGrows.j0 kq a0 l1 x15_2 = some r) ∧ Aside0 (kq ≤ k) ∧ Aside0 (Below w.heap.size w wc))
  case first =>
    have H := HC3.out
    clear HC3
    replace H := Option.bind_eq_some_iff.mp H
    obtain ⟨t184, A40, H⟩ := H
    replace H : (if t184 = true then (supercargolaw04_ShareGrows.j0 k a0 l1 (decide ((l1.length : Int) > 40))) else (supercargolaw04_ShareGrows.j0 k a0 l1 true)) = some r := H
    have A4 := Aside0.mk A40
    clear A40
    by_cases c5 : t184 = true
    · subst c5
      have H1 : (supercargolaw04_ShareGrows.j0 k a0 l1 (decide ((l1.length : Int) > 40))) = some r := by rw [if_pos rfl] at H; exact H
      clear H
      have H := H1
      clear H1
      have H' := Aside0.mk H
      clear H
      go_wp2_with (first | (go_at_call 10; (with_reducible refine (supercargolaw04_awake.calls k  true _ A4.out).mono ?_); rintro e w6 ⟨rfl, hb⟩; have n0_ := Aside0.mk (below_step (by repeat (first | (with_reducible first | exact HB.out | apply below_alloc | apply pw_below_drewN | apply below_drew1) | exact HB.out)) hb); clear HB; have HB := n0_; clear n0_; (try clear hb); (try clear hb2); (try clear hk); (try clear hi)))
      repeat (go_quiet (first | (go_at_call 10; (with_reducible refine (supercargolaw04_awake.calls k  true _ A4.out).mono ?_); rintro e w6 ⟨rfl, hb⟩; have n0_ := Aside0.mk (below_step (by repeat (first | (with_reducible first | exact HB.out | apply below_alloc | apply pw_below_drewN | apply below_drew1) | exact HB.out)) hb); clear HB; have HB := n0_; clear n0_; (try clear hb); (try clear hb2); (try clear hk); (try clear hi))); try go_wp2_with (first | (go_at_call 10; (with_reducible refine (supercargolaw04_awake.calls k  true _ A4.out).mono ?_); rintro e w6 ⟨rfl, hb⟩; have n0_ := Aside0.mk (below_step (by repeat (first | (with_reducible first | exact HB.out | apply below_alloc | apply pw_below_drewN | apply below_drew1) | exact HB.out)) hb); clear HB; have HB := n0_; clear n0_; (try clear hb); (try clear hb2); (try clear hk); (try clear hi))))
      go_meet
      case rel => exact ⟨_, (decide ((l1.length : Int) > 40)), (by first | rfl | (simp; done) | (simp [*]; done)), H', ⟨by first | omega | exact Nat.le_refl _⟩, ⟨by repeat (first | (with_reducible first | exact HB.out | apply below_alloc | apply pw_below_drewN | apply below_drew1) | exact HB.out)⟩⟩
    · replace c5 := Bool.eq_false_iff.mpr c5
      subst c5
      have H1 : (supercargolaw04_ShareGrows.j0 k a0 l1 true) = some r := by rw [if_neg (show ¬ (false = true) by decide)] at H; exact H
      clear H
      have H := H1
      clear H1
      have H' := Aside0.mk H
      clear H
      go_wp2_with (first | (go_at_call 10; (with_reducible refine (supercargolaw04_awake.calls k  false _ A4.out).mono ?_); rintro e w7 ⟨rfl, hb⟩; have n0_ := Aside0.mk (below_step (by repeat (first | (with_reducible first | exact HB.out | apply below_alloc | apply pw_below_drewN | apply below_drew1) | exact HB.out)) hb); clear HB; have HB := n0_; clear n0_; (try clear hb); (try clear hb2); (try clear hk); (try clear hi)))
      repeat (go_quiet (first | (go_at_call 10; (with_reducible refine (supercargolaw04_awake.calls k  false _ A4.out).mono ?_); rintro e w7 ⟨rfl, hb⟩; have n0_ := Aside0.mk (below_step (by repeat (first | (with_reducible first | exact HB.out | apply below_alloc | apply pw_below_drewN | apply below_drew1) | exact HB.out)) hb); clear HB; have HB := n0_; clear n0_; (try clear hb); (try clear hb2); (try clear hk); (try clear hi))); try go_wp2_with (first | (go_at_call 10; (with_reducible refine (supercargolaw04_awake.calls k  false _ A4.out).mono ?_); rintro e w7 ⟨rfl, hb⟩; have n0_ := Aside0.mk (below_step (by repeat (first | (with_reducible first | exact HB.out | apply below_alloc | apply pw_below_drewN | apply below_drew1) | exact HB.out)) hb); clear HB; have HB := n0_; clear n0_; (try clear hb); (try clear hb2); (try clear hk); (try clear hi))))
      go_meet
      case rel => exact ⟨_, (true), (by first | rfl | (simp; done) | (simp [*]; done)), H', ⟨by first | omega | exact Nat.le_refl _⟩, ⟨by repeat (first | (with_reducible first | exact HB.out | apply below_alloc | apply pw_below_drewN | apply below_drew1) | exact HB.out)⟩⟩
  case rest =>
    clear HC3
    try clear c1
    try clear p2
    try clear c5
    obtain ⟨kq, x15_2, rfl, HA, HJ2, HB⟩ := hcut
    cases kq with
    | zero => exact absurd HA.out (by simp [supercargolaw04_ShareGrows.j0])
    | succ kj2 =>
      have H := HA.out
      clear HA
      simp only [supercargolaw04_ShareGrows.j0] at H
      by_cases c8 : x15_2 = true
      · subst c8
        have H1 : ((supercargolaw04_awake.f kj2).bind fun t185 => (some t185)) = some r := by rw [if_pos rfl] at H; exact H
        clear H
        have H := H1
        clear H1
        replace H := Option.bind_eq_some_iff.mp H
        obtain ⟨t185, A90, H⟩ := H
        replace H : (some t185) = some r := H
        have A9 := Aside0.mk A90
        clear A90
        obtain rfl := Option.some.inj H
        go_wp2_with (first | (go_at_call 10; (with_reducible refine (supercargolaw04_awake.calls kj2  t185 _ A9.out).mono ?_); rintro e w10 ⟨rfl, hb⟩; have n0_ := Aside0.mk (below_step (by repeat (first | (with_reducible first | exact HB.out | apply below_alloc | apply pw_below_drewN | apply below_drew1) | exact HB.out)) hb); clear HB; have HB := n0_; clear n0_; (try clear hb); (try clear hb2); (try clear hk); (try clear hi)))
        repeat (go_quiet (first | (go_at_call 10; (with_reducible refine (supercargolaw04_awake.calls kj2  t185 _ A9.out).mono ?_); rintro e w10 ⟨rfl, hb⟩; have n0_ := Aside0.mk (below_step (by repeat (first | (with_reducible first | exact HB.out | apply below_alloc | apply pw_below_drewN | apply below_drew1) | exact HB.out)) hb); clear HB; have HB := n0_; clear n0_; (try clear hb); (try clear hb2); (try clear hk); (try clear hi))); try go_wp2_with (first | (go_at_call 10; (with_reducible refine (supercargolaw04_awake.calls kj2  t185 _ A9.out).mono ?_); rintro e w10 ⟨rfl, hb⟩; have n0_ := Aside0.mk (below_step (by repeat (first | (with_reducible first | exact HB.out | apply below_alloc | apply pw_below_drewN | apply below_drew1) | exact HB.out)) hb); clear HB; have HB := n0_; clear n0_; (try clear hb); (try clear hb2); (try clear hk); (try clear hi))))
        go_ret
        exact ⟨by first | rfl | (simp [errW_none, errW_some] <;> rfl) | (simp [*, errW_none, errW_some] <;> rfl), by repeat (first | (with_reducible first | exact HB.out | apply below_alloc | apply pw_below_drewN | apply below_drew1) | exact HB.out)⟩
      · replace c8 := Bool.eq_false_iff.mpr c8
        subst c8
        have H1 : ((share_Split.f a0 l1).bind fun bt186 => (if bt186.2 = 0 then (if (bt186.1.length : Int) = (l1.length : Int) then (supercargolaw04_ShareGrows.l0 kj2 l1 bt186.1 (bt186.1.length : Int) 0) else (some false)) else (some ((bt186.1.length : Int) == 0)))) = some r := by rw [if_neg (show ¬ (false = true) by decide)] at H; exact H
        clear H
        have H := H1
        clear H1
        replace H := Option.bind_eq_some_iff.mp H
        obtain ⟨⟨t186, t187⟩, A110, H⟩ := H
        replace H : (if t187 = 0 then (if (t186.length : Int) = (l1.length : Int) then (supercargolaw04_ShareGrows.l0 kj2 l1 t186 (t186.length : Int) 0) else (some false)) else (some ((t186.length : Int) == 0))) = some r := H
        have A11 := Aside0.mk A110
        clear A110
        by_cases c12 : t187 = 0
        · rw [if_pos c12] at H
          have c12b0 : (t187 == 0) = true := beq_iff_eq.mpr c12
          have c12b1 : (t187 != 0) = false := bne_eq_false_iff_eq.mpr c12
          clear c12
          by_cases c13 : (t186.length : Int) = (l1.length : Int)
          · rw [if_pos c13] at H
            have c13b0 : ((t186.length : Int) == (l1.length : Int)) = true := beq_iff_eq.mpr c13
            have c13b1 : ((t186.length : Int) != (l1.length : Int)) = false := bne_eq_false_iff_eq.mpr c13
            have c13b2 : (t186.length == l1.length) = true := by first | simpa using c13 | (simp at c13 ⊢; omega)
            clear c13
            have H' := Aside0.mk H
            clear H
            go_wp2_with (first | (go_at_call 11; (with_reducible refine (share_Split.calls a0 _ _ l1 t186 t187 _ ?side1 ?side2 A11.out).mono ?_); (case side1 => repeat (first | exact (Kd.C_below HR1.out HB.out) | (with_reducible refine Kd.C_alloc ?_ _) | (with_reducible refine Kd.C_drewN ?_ _) | (with_reducible refine Kd.C_drew ?_))); (case side2 => exact HC1.out); rintro e w14 ⟨v188, rfl, ho0, hb⟩; have n0_ := Aside0.mk (Kd.R_lower ho0 (below_size (by repeat (first | (with_reducible first | exact HB.out | apply below_alloc | apply pw_below_drewN | apply below_drew1) | exact HB.out)))); have n1_ := Aside0.mk (below_step (by repeat (first | (with_reducible first | exact HB.out | apply below_alloc | apply pw_below_drewN | apply below_drew1) | exact HB.out)) hb); clear HB; have HO189 := n0_; have HB := n1_; clear n0_ n1_; (try clear hb); (try clear hb2); (try clear hk); (try clear hi); (try clear ho0); obtain ⟨Ao15, co15, eo15⟩ := Kd.R_slice HO189.out; subst eo15))
            repeat (go_quiet (first | (go_at_call 11; (with_reducible refine (share_Split.calls a0 _ _ l1 t186 t187 _ ?side1 ?side2 A11.out).mono ?_); (case side1 => repeat (first | exact (Kd.C_below HR1.out HB.out) | (with_reducible refine Kd.C_alloc ?_ _) | (with_reducible refine Kd.C_drewN ?_ _) | (with_reducible refine Kd.C_drew ?_))); (case side2 => exact HC1.out); rintro e w14 ⟨v188, rfl, ho0, hb⟩; have n0_ := Aside0.mk (Kd.R_lower ho0 (below_size (by repeat (first | (with_reducible first | exact HB.out | apply below_alloc | apply pw_below_drewN | apply below_drew1) | exact HB.out)))); have n1_ := Aside0.mk (below_step (by repeat (first | (with_reducible first | exact HB.out | apply below_alloc | apply pw_below_drewN | apply below_drew1) | exact HB.out)) hb); clear HB; have HO189 := n0_; have HB := n1_; clear n0_ n1_; (try clear hb); (try clear hb2); (try clear hk); (try clear hi); (try clear ho0); obtain ⟨Ao15, co15, eo15⟩ := Kd.R_slice HO189.out; subst eo15)); try go_wp2_with (first | (go_at_call 11; (with_reducible refine (share_Split.calls a0 _ _ l1 t186 t187 _ ?side1 ?side2 A11.out).mono ?_); (case side1 => repeat (first | exact (Kd.C_below HR1.out HB.out) | (with_reducible refine Kd.C_alloc ?_ _) | (with_reducible refine Kd.C_drewN ?_ _) | (with_reducible refine Kd.C_drew ?_))); (case side2 => exact HC1.out); rintro e w14 ⟨v188, rfl, ho0, hb⟩; have n0_ := Aside0.mk (Kd.R_lower ho0 (below_size (by repeat (first | (with_reducible first | exact HB.out | apply below_alloc | apply pw_below_drewN | apply below_drew1) | exact HB.out)))); have n1_ := Aside0.mk (below_step (by repeat (first | (with_reducible first | exact HB.out | apply below_alloc | apply pw_below_drewN | apply below_drew1) | exact HB.out)) hb); clear HB; have HO189 := n0_; have HB := n1_; clear n0_ n1_; (try clear hb); (try clear hb2); (try clear hk); (try clear hi); (try clear ho0); obtain ⟨Ao15, co15, eo15⟩ := Kd.R_slice HO189.out; subst eo15)))
            go_loopg [35] kj2 (fun kq v35 w' => ∃ (x35_2 : Int), v35 = .int .i64 x35_2 ∧ Aside0 (supercargolaw04_ShareGrows.l0 kq l1 t186 (t186.length : Int) x35_2 = some r) ∧ Aside0 (kq ≤ kj2) ∧ Aside0 (Kd.R (Kd.int .i64) 2 w' w.heap.size (fun _ => True) (.slice Ao15 t186.length co15) t186) ∧ Aside0 (Below w.heap.size w w'))
            case atStart => exact ⟨(0), (by first | rfl | (simp; done) | (simp [*]; done)), H', ⟨Nat.le_refl _⟩, ⟨by (with_reducible repeat (first | apply Kd.R_alloc | apply Kd.R_drewN | apply Kd.R_drew)); exact HO189.out⟩, ⟨by repeat (first | (with_reducible first | exact HB.out | apply below_alloc | apply pw_below_drewN | apply below_drew1) | exact HB.out)⟩⟩
            case round =>
              clear H'
              try clear c1
              try clear p2
              try clear c5
              try clear c8
              try clear c12
              try clear c12b0
              try clear c12b1
              try clear c13
              try clear c13b0
              try clear c13b1
              try clear c13b2
              try clear p2
              obtain ⟨x35_2, rfl, HA, HK2, HO_5, HB⟩ := hrel
              cases gk with
              | zero => exact absurd HA.out (by simp [supercargolaw04_ShareGrows.l0])
              | succ k2 =>
                have H := HA.out
                clear HA
                simp only [supercargolaw04_ShareGrows.l0] at H
                by_cases c16 : x35_2 < (t186.length : Int)
                · rw [if_pos c16] at H
                  have c16b0 : decide (x35_2 < (t186.length : Int)) = true := decide_eq_true c16
                  clear c16
                  have H' := Aside0.mk H
                  clear H
                  go_wp2
                  repeat (go_quiet (fail); try go_wp2)
                  go_loopg [39] k2 (fun kq v39 w' => ∃ (x39_3 : Int), v39 = .int .i64 x39_3 ∧ Aside0 (supercargolaw04_ShareGrows.l1 kq l1 t186 x35_2 (t186.length : Int) x35_2 x35_2 x39_3 = some r) ∧ Aside0 (kq ≤ k2) ∧ Aside0 (Kd.R (Kd.int .i64) 2 w' w.heap.size (fun _ => True) (.slice Ao15 t186.length co15) t186) ∧ Aside0 (Below w.heap.size w w'))
                  case atStart => exact ⟨(0), (by first | rfl | (simp; done) | (simp [*]; done)), H', ⟨Nat.le_refl _⟩, ⟨by (with_reducible repeat (first | apply Kd.R_alloc | apply Kd.R_drewN | apply Kd.R_drew)); exact HO_5.out⟩, ⟨by repeat (first | (with_reducible first | exact HB.out | apply below_alloc | apply pw_below_drewN | apply below_drew1) | exact HB.out)⟩⟩
                  case round =>
                    clear H'
                    try clear c1
                    try clear p2
                    try clear c5
                    try clear c8
                    try clear c12
                    try clear c12b0
                    try clear c12b1
                    try clear c13
                    try clear c13b0
                    try clear c13b1
                    try clear c13b2
                    try clear c16
                    try clear c16b0
                    try clear p2
                    obtain ⟨x39_3, rfl, HA, HK3, HO_5, HB⟩ := hrel
                    cases gk with
                    | zero => exact absurd HA.out (by simp [supercargolaw04_ShareGrows.l1])
                    | succ k3 =>
                      have H := HA.out
                      clear HA
                      simp only [supercargolaw04_ShareGrows.l1] at H
                      by_cases c17 : x39_3 < x35_2
                      · rw [if_pos c17] at H
                        have c17b0 : decide (x39_3 < x35_2) = true := decide_eq_true c17
                        clear c17
                        have HC18 := Aside0.mk H
                        clear H
                        go_upto_region 14 with (fail)
                        repeat (go_quiet (fail); go_upto_region 14 with (fail))
                        go_cut [83] (fun v83 wc => ∃ (kq : Nat) (x83_17 : Bool), v83 = .bool x83_17 ∧ Aside0 (supercargolaw04_ShareGrows.j3 kq l1 t186 x35_2 x39_3 (t186.length : Int) x35_2 x35_2 x39_3 x83_17 = some r) ∧ Aside0 (kq ≤ k3) ∧ Aside0 (Kd.R (Kd.int .i64) 2 wc w.heap.size (fun _ => True) (.slice Ao15 t186.length co15) t186) ∧ Aside0 (Below w.heap.size w wc))
                        case first =>
                          have H := HC18.out
                          clear HC18
                          by_cases c19 : 0 ≤ x35_2
                          · rw [if_pos c19] at H
                            have c19b0 : decide (0 ≤ x35_2) = true := decide_eq_true c19
                            clear c19
                            (first | rw [c19b0] | (simp only [i64_w, i32_w]; rw [c19b0]) | skip)
                            by_cases c20 : x35_2 < (l1.length : Int)
                            · rw [if_pos c20] at H
                              have c20b0 : decide (x35_2 < (l1.length : Int)) = true := decide_eq_true c20
                              clear c20
                              by_cases c21 : 0 ≤ x39_3
                              · rw [if_pos c21] at H
                                have c21b0 : decide (0 ≤ x39_3) = true := decide_eq_true c21
                                clear c21
                                by_cases c22 : x39_3 < (l1.length : Int)
                                · rw [if_pos c22] at H
                                  have c22b0 : decide (x39_3 < (l1.length : Int)) = true := decide_eq_true c22
                                  clear c22
                                  by_cases c23 : (rd l1 x35_2) > (rd l1 x39_3)
                                  · rw [if_pos c23] at H
                                    have c23b0 : decide ((rd l1 x39_3) < (rd l1 x35_2)) = true := decide_eq_true c23
                                    clear c23
                                    by_cases c24 : x35_2 < (t186.length : Int)
                                    · rw [if_pos c24] at H
                                      have c24b0 : decide (x35_2 < (t186.length : Int)) = true := decide_eq_true c24
                                      clear c24
                                      by_cases c25 : x39_3 < (t186.length : Int)
                                      · rw [if_pos c25] at H
                                        have c25b0 : decide (x39_3 < (t186.length : Int)) = true := decide_eq_true c25
                                        clear c25
                                        by_cases c26 : (rd t186 x35_2) < (rd t186 x39_3)
                                        · rw [if_pos c26] at H
                                          have c26b0 : decide ((rd t186 x35_2) < (rd t186 x39_3)) = true := decide_eq_true c26
                                          clear c26
                                          have H' := Aside0.mk H
                                          clear H
                                          have p190 : 0 ≤ (x35_2 : Int) := of_decide_eq_true (by first | (with_reducible assumption) | assumption)
                                          have q190 : x35_2 < (l1.length : Int) := of_decide_eq_true (by first | (with_reducible assumption) | assumption)
                                          obtain ⟨ad190, e190, hx190_0⟩ := Kd.at_int HR1.out x35_2 p190 q190
                                          cases e190
                                          replace hx190_0 := (HB.out.cell (World.block_lt_of_cell? w _ hx190_0)).trans hx190_0
                                          replace p190 := eq_true p190
                                          replace q190 := eq_true q190
                                          have p191 : 0 ≤ (x39_3 : Int) := of_decide_eq_true (by first | (with_reducible assumption) | assumption)
                                          have q191 : x39_3 < (l1.length : Int) := of_decide_eq_true (by first | (with_reducible assumption) | assumption)
                                          obtain ⟨ad191, e191, hx191_0⟩ := Kd.at_int HR1.out x39_3 p191 q191
                                          obtain rfl : ad190 = ad191 := (by injection e191)
                                          replace hx191_0 := (HB.out.cell (World.block_lt_of_cell? w _ hx191_0)).trans hx191_0
                                          replace p191 := eq_true p191
                                          replace q191 := eq_true q191
                                          have p192 : 0 ≤ (x35_2 : Int) := of_decide_eq_true (by first | (with_reducible assumption) | assumption)
                                          have q192 : x35_2 < (t186.length : Int) := of_decide_eq_true (by first | (with_reducible assumption) | assumption)
                                          obtain ⟨ad192, e192, hx192_0⟩ := Kd.at_int (Kd.R_reads' HO_5.out).2.2 x35_2 p192 q192
                                          cases e192
                                          replace p192 := eq_true p192
                                          replace q192 := eq_true q192
                                          have p193 : 0 ≤ (x39_3 : Int) := of_decide_eq_true (by first | (with_reducible assumption) | assumption)
                                          have q193 : x39_3 < (t186.length : Int) := of_decide_eq_true (by first | (with_reducible assumption) | assumption)
                                          obtain ⟨ad193, e193, hx193_0⟩ := Kd.at_int (Kd.R_reads' HO_5.out).2.2 x39_3 p193 q193
                                          obtain rfl : ad192 = ad193 := (by injection e193)
                                          replace p193 := eq_true p193
                                          replace q193 := eq_true q193
                                          go_wp2
                                          repeat (go_quiet (fail); try go_wp2)
                                          go_meet
                                          case rel => exact ⟨_, (true), (by first | rfl | (simp; done) | (simp [*]; done)), H', ⟨by have := HJ2.out; have := HK2.out; have := HK3.out; first | omega | exact Nat.le_refl _⟩, ⟨by (with_reducible repeat (first | apply Kd.R_alloc | apply Kd.R_drewN | apply Kd.R_drew)); exact HO_5.out⟩, ⟨by repeat (first | (with_reducible first | exact HB.out | apply below_alloc | apply pw_below_drewN | apply below_drew1) | exact HB.out)⟩⟩
                                        · rw [if_neg c26] at H
                                          have c26b0 : decide ((rd t186 x35_2) < (rd t186 x39_3)) = false := decide_eq_false c26
                                          clear c26
                                          by_cases c27 : (rd l1 x35_2) < (rd l1 x39_3)
                                          · rw [if_pos c27] at H
                                            have c27b0 : decide ((rd l1 x35_2) < (rd l1 x39_3)) = true := decide_eq_true c27
                                            clear c27
                                            have H' := Aside0.mk H
                                            clear H
                                            have p190 : 0 ≤ (x35_2 : Int) := of_decide_eq_true (by first | (with_reducible assumption) | assumption)
                                            have q190 : x35_2 < (l1.length : Int) := of_decide_eq_true (by first | (with_reducible assumption) | assumption)
                                            obtain ⟨ad190, e190, hx190_0⟩ := Kd.at_int HR1.out x35_2 p190 q190
                                            cases e190
                                            replace hx190_0 := (HB.out.cell (World.block_lt_of_cell? w _ hx190_0)).trans hx190_0
                                            replace p190 := eq_true p190
                                            replace q190 := eq_true q190
                                            have p191 : 0 ≤ (x39_3 : Int) := of_decide_eq_true (by first | (with_reducible assumption) | assumption)
                                            have q191 : x39_3 < (l1.length : Int) := of_decide_eq_true (by first | (with_reducible assumption) | assumption)
                                            obtain ⟨ad191, e191, hx191_0⟩ := Kd.at_int HR1.out x39_3 p191 q191
                                            obtain rfl : ad190 = ad191 := (by injection e191)
                                            replace hx191_0 := (HB.out.cell (World.block_lt_of_cell? w _ hx191_0)).trans hx191_0
                                            replace p191 := eq_true p191
                                            replace q191 := eq_true q191
                                            have p192 : 0 ≤ (x35_2 : Int) := of_decide_eq_true (by first | (with_reducible assumption) | assumption)
                                            have q192 : x35_2 < (t186.length : Int) := of_decide_eq_true (by first | (with_reducible assumption) | assumption)
                                            obtain ⟨ad192, e192, hx192_0⟩ := Kd.at_int (Kd.R_reads' HO_5.out).2.2 x35_2 p192 q192
                                            cases e192
                                            replace p192 := eq_true p192
                                            replace q192 := eq_true q192
                                            have p193 : 0 ≤ (x39_3 : Int) := of_decide_eq_true (by first | (with_reducible assumption) | assumption)
                                            have q193 : x39_3 < (t186.length : Int) := of_decide_eq_true (by first | (with_reducible assumption) | assumption)
                                            obtain ⟨ad193, e193, hx193_0⟩ := Kd.at_int (Kd.R_reads' HO_5.out).2.2 x39_3 p193 q193
                                            obtain rfl : ad192 = ad193 := (by injection e193)
                                            replace p193 := eq_true p193
                                            replace q193 := eq_true q193
                                            have p194 : 0 ≤ (x35_2 : Int) := of_decide_eq_true (by first | (with_reducible assumption) | assumption)
                                            have q194 : x35_2 < (l1.length : Int) := of_decide_eq_true (by first | (with_reducible assumption) | assumption)
                                            obtain ⟨ad194, e194, hx194_0⟩ := Kd.at_int HR1.out x35_2 p194 q194
                                            obtain rfl : ad190 = ad194 := (by injection e194)
                                            replace hx194_0 := (HB.out.cell (World.block_lt_of_cell? w _ hx194_0)).trans hx194_0
                                            replace p194 := eq_true p194
                                            replace q194 := eq_true q194
                                            have p195 : 0 ≤ (x39_3 : Int) := of_decide_eq_true (by first | (with_reducible assumption) | assumption)
                                            have q195 : x39_3 < (l1.length : Int) := of_decide_eq_true (by first | (with_reducible assumption) | assumption)
                                            obtain ⟨ad195, e195, hx195_0⟩ := Kd.at_int HR1.out x39_3 p195 q195
                                            obtain rfl : ad190 = ad195 := (by injection e195)
                                            replace hx195_0 := (HB.out.cell (World.block_lt_of_cell? w _ hx195_0)).trans hx195_0
                                            replace p195 := eq_true p195
                                            replace q195 := eq_true q195
                                            have p196 : 0 ≤ (x35_2 : Int) := of_decide_eq_true (by first | (with_reducible assumption) | assumption)
                                            have q196 : x35_2 < (t186.length : Int) := of_decide_eq_true (by first | (with_reducible assumption) | assumption)
                                            obtain ⟨ad196, e196, hx196_0⟩ := Kd.at_int (Kd.R_reads' HO_5.out).2.2 x35_2 p196 q196
                                            obtain rfl : ad192 = ad196 := (by injection e196)
                                            replace p196 := eq_true p196
                                            replace q196 := eq_true q196
                                            have p197 : 0 ≤ (x39_3 : Int) := of_decide_eq_true (by first | (with_reducible assumption) | assumption)
                                            have q197 : x39_3 < (t186.length : Int) := of_decide_eq_true (by first | (with_reducible assumption) | assumption)
                                            obtain ⟨ad197, e197, hx197_0⟩ := Kd.at_int (Kd.R_reads' HO_5.out).2.2 x39_3 p197 q197
                                            obtain rfl : ad192 = ad197 := (by injection e197)
                                            replace p197 := eq_true p197
                                            replace q197 := eq_true q197
                                            go_wp2
                                            repeat (go_quiet (fail); try go_wp2)
                                            go_meet
                                            case rel => exact ⟨_, (decide ((rd t186 x35_2) > (rd t186 x39_3))), (by first | rfl | (simp; done) | (simp [*]; done)), H', ⟨by have := HJ2.out; have := HK2.out; have := HK3.out; first | omega | exact Nat.le_refl _⟩, ⟨by (with_reducible repeat (first | apply Kd.R_alloc | apply Kd.R_drewN | apply Kd.R_drew)); exact HO_5.out⟩, ⟨by repeat (first | (with_reducible first | exact HB.out | apply below_alloc | apply pw_below_drewN | apply below_drew1) | exact HB.out)⟩⟩
                                          · rw [if_neg c27] at H
                                            have c27b0 : decide ((rd l1 x35_2) < (rd l1 x39_3)) = false := decide_eq_false c27
                                            clear c27
                                            have H' := Aside0.mk H
                                            clear H
                                            have p190 : 0 ≤ (x35_2 : Int) := of_decide_eq_true (by first | (with_reducible assumption) | assumption)
                                            have q190 : x35_2 < (l1.length : Int) := of_decide_eq_true (by first | (with_reducible assumption) | assumption)
                                            obtain ⟨ad190, e190, hx190_0⟩ := Kd.at_int HR1.out x35_2 p190 q190
                                            cases e190
                                            replace hx190_0 := (HB.out.cell (World.block_lt_of_cell? w _ hx190_0)).trans hx190_0
                                            replace p190 := eq_true p190
                                            replace q190 := eq_true q190
                                            have p191 : 0 ≤ (x39_3 : Int) := of_decide_eq_true (by first | (with_reducible assumption) | assumption)
                                            have q191 : x39_3 < (l1.length : Int) := of_decide_eq_true (by first | (with_reducible assumption) | assumption)
                                            obtain ⟨ad191, e191, hx191_0⟩ := Kd.at_int HR1.out x39_3 p191 q191
                                            obtain rfl : ad190 = ad191 := (by injection e191)
                                            replace hx191_0 := (HB.out.cell (World.block_lt_of_cell? w _ hx191_0)).trans hx191_0
                                            replace p191 := eq_true p191
                                            replace q191 := eq_true q191
                                            have p192 : 0 ≤ (x35_2 : Int) := of_decide_eq_true (by first | (with_reducible assumption) | assumption)
                                            have q192 : x35_2 < (t186.length : Int) := of_decide_eq_true (by first | (with_reducible assumption) | assumption)
                                            obtain ⟨ad192, e192, hx192_0⟩ := Kd.at_int (Kd.R_reads' HO_5.out).2.2 x35_2 p192 q192
                                            cases e192
                                            replace p192 := eq_true p192
                                            replace q192 := eq_true q192
                                            have p193 : 0 ≤ (x39_3 : Int) := of_decide_eq_true (by first | (with_reducible assumption) | assumption)
                                            have q193 : x39_3 < (t186.length : Int) := of_decide_eq_true (by first | (with_reducible assumption) | assumption)
                                            obtain ⟨ad193, e193, hx193_0⟩ := Kd.at_int (Kd.R_reads' HO_5.out).2.2 x39_3 p193 q193
                                            obtain rfl : ad192 = ad193 := (by injection e193)
                                            replace p193 := eq_true p193
                                            replace q193 := eq_true q193
                                            have p194 : 0 ≤ (x35_2 : Int) := of_decide_eq_true (by first | (with_reducible assumption) | assumption)
                                            have q194 : x35_2 < (l1.length : Int) := of_decide_eq_true (by first | (with_reducible assumption) | assumption)
                                            obtain ⟨ad194, e194, hx194_0⟩ := Kd.at_int HR1.out x35_2 p194 q194
                                            obtain rfl : ad190 = ad194 := (by injection e194)
                                            replace hx194_0 := (HB.out.cell (World.block_lt_of_cell? w _ hx194_0)).trans hx194_0
                                            replace p194 := eq_true p194
                                            replace q194 := eq_true q194
                                            have p195 : 0 ≤ (x39_3 : Int) := of_decide_eq_true (by first | (with_reducible assumption) | assumption)
                                            have q195 : x39_3 < (l1.length : Int) := of_decide_eq_true (by first | (with_reducible assumption) | assumption)
                                            obtain ⟨ad195, e195, hx195_0⟩ := Kd.at_int HR1.out x39_3 p195 q195
                                            obtain rfl : ad190 = ad195 := (by injection e195)
                                            replace hx195_0 := (HB.out.cell (World.block_lt_of_cell? w _ hx195_0)).trans hx195_0
                                            replace p195 := eq_true p195
                                            replace q195 := eq_true q195
                                            go_wp2
                                            repeat (go_quiet (fail); try go_wp2)
                                            go_meet
                                            case rel => exact ⟨_, (false), (by first | rfl | (simp; done) | (simp [*]; done)), H', ⟨by have := HJ2.out; have := HK2.out; have := HK3.out; first | omega | exact Nat.le_refl _⟩, ⟨by (with_reducible repeat (first | apply Kd.R_alloc | apply Kd.R_drewN | apply Kd.R_drew)); exact HO_5.out⟩, ⟨by repeat (first | (with_reducible first | exact HB.out | apply below_alloc | apply pw_below_drewN | apply below_drew1) | exact HB.out)⟩⟩
                                      · rw [if_neg c25] at H
                                        exact absurd H (by simp)
                                    · rw [if_neg c24] at H
                                      exact absurd H (by simp)
                                  · rw [if_neg c23] at H
                                    have c23b0 : decide ((rd l1 x39_3) < (rd l1 x35_2)) = false := decide_eq_false c23
                                    clear c23
                                    by_cases c28 : (rd l1 x35_2) < (rd l1 x39_3)
                                    · rw [if_pos c28] at H
                                      have c28b0 : decide ((rd l1 x35_2) < (rd l1 x39_3)) = true := decide_eq_true c28
                                      clear c28
                                      by_cases c29 : x35_2 < (t186.length : Int)
                                      · rw [if_pos c29] at H
                                        have c29b0 : decide (x35_2 < (t186.length : Int)) = true := decide_eq_true c29
                                        clear c29
                                        by_cases c30 : x39_3 < (t186.length : Int)
                                        · rw [if_pos c30] at H
                                          have c30b0 : decide (x39_3 < (t186.length : Int)) = true := decide_eq_true c30
                                          clear c30
                                          have H' := Aside0.mk H
                                          clear H
                                          have p190 : 0 ≤ (x35_2 : Int) := of_decide_eq_true (by first | (with_reducible assumption) | assumption)
                                          have q190 : x35_2 < (l1.length : Int) := of_decide_eq_true (by first | (with_reducible assumption) | assumption)
                                          obtain ⟨ad190, e190, hx190_0⟩ := Kd.at_int HR1.out x35_2 p190 q190
                                          cases e190
                                          replace hx190_0 := (HB.out.cell (World.block_lt_of_cell? w _ hx190_0)).trans hx190_0
                                          replace p190 := eq_true p190
                                          replace q190 := eq_true q190
                                          have p191 : 0 ≤ (x39_3 : Int) := of_decide_eq_true (by first | (with_reducible assumption) | assumption)
                                          have q191 : x39_3 < (l1.length : Int) := of_decide_eq_true (by first | (with_reducible assumption) | assumption)
                                          obtain ⟨ad191, e191, hx191_0⟩ := Kd.at_int HR1.out x39_3 p191 q191
                                          obtain rfl : ad190 = ad191 := (by injection e191)
                                          replace hx191_0 := (HB.out.cell (World.block_lt_of_cell? w _ hx191_0)).trans hx191_0
                                          replace p191 := eq_true p191
                                          replace q191 := eq_true q191
                                          have p198 : 0 ≤ (x35_2 : Int) := of_decide_eq_true (by first | (with_reducible assumption) | assumption)
                                          have q198 : x35_2 < (l1.length : Int) := of_decide_eq_true (by first | (with_reducible assumption) | assumption)
                                          obtain ⟨ad198, e198, hx198_0⟩ := Kd.at_int HR1.out x35_2 p198 q198
                                          obtain rfl : ad190 = ad198 := (by injection e198)
                                          replace hx198_0 := (HB.out.cell (World.block_lt_of_cell? w _ hx198_0)).trans hx198_0
                                          replace p198 := eq_true p198
                                          replace q198 := eq_true q198
                                          have p199 : 0 ≤ (x39_3 : Int) := of_decide_eq_true (by first | (with_reducible assumption) | assumption)
                                          have q199 : x39_3 < (l1.length : Int) := of_decide_eq_true (by first | (with_reducible assumption) | assumption)
                                          obtain ⟨ad199, e199, hx199_0⟩ := Kd.at_int HR1.out x39_3 p199 q199
                                          obtain rfl : ad190 = ad199 := (by injection e199)
                                          replace hx199_0 := (HB.out.cell (World.block_lt_of_cell? w _ hx199_0)).trans hx199_0
                                          replace p199 := eq_true p199
                                          replace q199 := eq_true q199
                                          have p200 : 0 ≤ (x35_2 : Int) := of_decide_eq_true (by first | (with_reducible assumption) | assumption)
                                          have q200 : x35_2 < (t186.length : Int) := of_decide_eq_true (by first | (with_reducible assumption) | assumption)
                                          obtain ⟨ad200, e200, hx200_0⟩ := Kd.at_int (Kd.R_reads' HO_5.out).2.2 x35_2 p200 q200
                                          cases e200
                                          replace p200 := eq_true p200
                                          replace q200 := eq_true q200
                                          have p201 : 0 ≤ (x39_3 : Int) := of_decide_eq_true (by first | (with_reducible assumption) | assumption)
                                          have q201 : x39_3 < (t186.length : Int) := of_decide_eq_true (by first | (with_reducible assumption) | assumption)
                                          obtain ⟨ad201, e201, hx201_0⟩ := Kd.at_int (Kd.R_reads' HO_5.out).2.2 x39_3 p201 q201
                                          obtain rfl : ad200 = ad201 := (by injection e201)
                                          replace p201 := eq_true p201
                                          replace q201 := eq_true q201
                                          go_wp2
                                          repeat (go_quiet (fail); try go_wp2)
                                          go_meet
                                          case rel => exact ⟨_, (decide ((rd t186 x35_2) > (rd t186 x39_3))), (by first | rfl | (simp; done) | (simp [*]; done)), H', ⟨by have := HJ2.out; have := HK2.out; have := HK3.out; first | omega | exact Nat.le_refl _⟩, ⟨by (with_reducible repeat (first | apply Kd.R_alloc | apply Kd.R_drewN | apply Kd.R_drew)); exact HO_5.out⟩, ⟨by repeat (first | (with_reducible first | exact HB.out | apply below_alloc | apply pw_below_drewN | apply below_drew1) | exact HB.out)⟩⟩
                                        · rw [if_neg c30] at H
                                          exact absurd H (by simp)
                                      · rw [if_neg c29] at H
                                        exact absurd H (by simp)
                                    · rw [if_neg c28] at H
                                      have c28b0 : decide ((rd l1 x35_2) < (rd l1 x39_3)) = false := decide_eq_false c28
                                      clear c28
                                      have H' := Aside0.mk H
                                      clear H
                                      have p190 : 0 ≤ (x35_2 : Int) := of_decide_eq_true (by first | (with_reducible assumption) | assumption)
                                      have q190 : x35_2 < (l1.length : Int) := of_decide_eq_true (by first | (with_reducible assumption) | assumption)
                                      obtain ⟨ad190, e190, hx190_0⟩ := Kd.at_int HR1.out x35_2 p190 q190
                                      cases e190
                                      replace hx190_0 := (HB.out.cell (World.block_lt_of_cell? w _ hx190_0)).trans hx190_0
                                      replace p190 := eq_true p190
                                      replace q190 := eq_true q190
                                      have p191 : 0 ≤ (x39_3 : Int) := of_decide_eq_true (by first | (with_reducible assumption) | assumption)
                                      have q191 : x39_3 < (l1.length : Int) := of_decide_eq_true (by first | (with_reducible assumption) | assumption)
                                      obtain ⟨ad191, e191, hx191_0⟩ := Kd.at_int HR1.out x39_3 p191 q191
                                      obtain rfl : ad190 = ad191 := (by injection e191)
                                      replace hx191_0 := (HB.out.cell (World.block_lt_of_cell? w _ hx191_0)).trans hx191_0
                                      replace p191 := eq_true p191
                                      replace q191 := eq_true q191
                                      have p198 : 0 ≤ (x35_2 : Int) := of_decide_eq_true (by first | (with_reducible assumption) | assumption)
                                      have q198 : x35_2 < (l1.length : Int) := of_decide_eq_true (by first | (with_reducible assumption) | assumption)
                                      obtain ⟨ad198, e198, hx198_0⟩ := Kd.at_int HR1.out x35_2 p198 q198
                                      obtain rfl : ad190 = ad198 := (by injection e198)
                                      replace hx198_0 := (HB.out.cell (World.block_lt_of_cell? w _ hx198_0)).trans hx198_0
                                      replace p198 := eq_true p198
                                      replace q198 := eq_true q198
                                      have p199 : 0 ≤ (x39_3 : Int) := of_decide_eq_true (by first | (with_reducible assumption) | assumption)
                                      have q199 : x39_3 < (l1.length : Int) := of_decide_eq_true (by first | (with_reducible assumption) | assumption)
                                      obtain ⟨ad199, e199, hx199_0⟩ := Kd.at_int HR1.out x39_3 p199 q199
                                      obtain rfl : ad190 = ad199 := (by injection e199)
                                      replace hx199_0 := (HB.out.cell (World.block_lt_of_cell? w _ hx199_0)).trans hx199_0
                                      replace p199 := eq_true p199
                                      replace q199 := eq_true q199
                                      go_wp2
                                      repeat (go_quiet (fail); try go_wp2)
                                      go_meet
                                      case rel => exact ⟨_, (false), (by first | rfl | (simp; done) | (simp [*]; done)), H', ⟨by have := HJ2.out; have := HK2.out; have := HK3.out; first | omega | exact Nat.le_refl _⟩, ⟨by (with_reducible repeat (first | apply Kd.R_alloc | apply Kd.R_drewN | apply Kd.R_drew)); exact HO_5.out⟩, ⟨by repeat (first | (with_reducible first | exact HB.out | apply below_alloc | apply pw_below_drewN | apply below_drew1) | exact HB.out)⟩⟩
                                · rw [if_neg c22] at H
                                  exact absurd H (by simp)
                              · rw [if_neg c21] at H
                                exact absurd H (by simp)
                            · rw [if_neg c20] at H
                              exact absurd H (by simp)
                          · rw [if_neg c19] at H
                            exact absurd H (by simp)
                        case rest =>
                          clear HC18
                          try clear c1
                          try clear p1
                          try clear q1
                          try clear hx1
                          try clear c2
                          try clear p2
                          try clear q2
                          try clear hx2
                          try clear c3
                          try clear c5
                          try clear c8
                          try clear c12
                          try clear c12b0
                          try clear c12b1
                          try clear c13
                          try clear c13b0
                          try clear c13b1
                          try clear c13b2
                          try clear c16
                          try clear c16b0
                          try clear c17
                          try clear c17b0
                          try clear c19
                          try clear c19b0
                          try clear p19
                          try clear q19
                          try clear hx19
                          try clear c20
                          try clear c20b0
                          try clear p20
                          try clear q20
                          try clear hx20
                          try clear c21
                          try clear c21b0
                          try clear c22
                          try clear c22b0
                          try clear c23
                          try clear c23b0
                          try clear c24
                          try clear c24b0
                          try clear c25
                          try clear c25b0
                          try clear c26
                          try clear c26b0
                          try clear c27
                          try clear c27b0
                          try clear c28
                          try clear c28b0
                          try clear c29
                          try clear c29b0
                          try clear c30
                          try clear c30b0
                          try clear hx190_0
                          try clear hx191_0
                          try clear hx192_0
                          try clear hx193_0
                          try clear hx194_0
                          try clear hx195_0
                          try clear hx196_0
                          try clear hx197_0
                          try clear hx198_0
                          try clear hx199_0
                          try clear hx200_0
                          try clear hx201_0
                          try clear p190
                          try clear p191
                          try clear p192
                          try clear p193
                          try clear p194
                          try clear p195
                          try clear p196
                          try clear p197
                          try clear p198
                          try clear p199
                          try clear p2
                          try clear p200
                          try clear p201
                          try clear q190
                          try clear q191
                          try clear q192
                          try clear q193
                          try clear q194
                          try clear q195
                          try clear q196
                          try clear q197
                          try clear q198
                          try clear q199
                          try clear q200
                          try clear q201
                          obtain ⟨kq, x83_17, rfl, HA, HJ17, HO_5, HB⟩ := hcut
                          cases kq with
                          | zero => exact absurd HA.out (by simp [supercargolaw04_ShareGrows.j3])
                          | succ kj17 =>
                            have H := HA.out
                            clear HA
                            simp only [supercargolaw04_ShareGrows.j3] at H
                            by_cases c31 : x83_17 = true
                            · subst c31
                              have H1 : (some false) = some r := by rw [if_pos rfl] at H; exact H
                              clear H
                              have H := H1
                              clear H1
                              obtain rfl := Option.some.inj H
                              go_wp2
                              repeat (go_quiet (fail); try go_wp2)
                              go_ret
                              exact ⟨by first | rfl | (simp [errW_none, errW_some] <;> rfl) | (simp [*, errW_none, errW_some] <;> rfl), by repeat (first | (with_reducible first | exact HB.out | apply below_alloc | apply pw_below_drewN | apply below_drew1) | exact HB.out)⟩
                            · replace c31 := Bool.eq_false_iff.mpr c31
                              subst c31
                              have H1 : (if 0 ≤ x35_2 then (if x35_2 < (l1.length : Int) then (if 0 ≤ x39_3 then (if x39_3 < (l1.length : Int) then (if (rd l1 x35_2) = (rd l1 x39_3) then (if x39_3 < (t186.length : Int) then (if x35_2 < (t186.length : Int) then (if (rd t186 x39_3) < (rd t186 x35_2) then (some false) else (if (rd t186 x39_3) > (wrap64 ((rd t186 x35_2) + 1)) then (some false) else (supercargolaw04_ShareGrows.l1 kj17 l1 t186 x35_2 (t186.length : Int) x35_2 x35_2 (wrap64 (x39_3 + 1))))) else (none)) else (none)) else (supercargolaw04_ShareGrows.l1 kj17 l1 t186 x35_2 (t186.length : Int) x35_2 x35_2 (wrap64 (x39_3 + 1)))) else (none)) else (none)) else (none)) else (none)) = some r := by rw [if_neg (show ¬ (false = true) by decide)] at H; exact H
                              clear H
                              have H := H1
                              clear H1
                              by_cases c32 : 0 ≤ x35_2
                              · rw [if_pos c32] at H
                                have c32b0 : decide (0 ≤ x35_2) = true := decide_eq_true c32
                                clear c32
                                by_cases c33 : x35_2 < (l1.length : Int)
                                · rw [if_pos c33] at H
                                  have c33b0 : decide (x35_2 < (l1.length : Int)) = true := decide_eq_true c33
                                  clear c33
                                  by_cases c34 : 0 ≤ x39_3
                                  · rw [if_pos c34] at H
                                    have c34b0 : decide (0 ≤ x39_3) = true := decide_eq_true c34
                                    clear c34
                                    by_cases c35 : x39_3 < (l1.length : Int)
                                    · rw [if_pos c35] at H
                                      have c35b0 : decide (x39_3 < (l1.length : Int)) = true := decide_eq_true c35
                                      clear c35
                                      by_cases c36 : (rd l1 x35_2) = (rd l1 x39_3)
                                      · rw [if_pos c36] at H
                                        have c36b0 : ((rd l1 x35_2) == (rd l1 x39_3)) = true := beq_iff_eq.mpr c36
                                        have c36b1 : ((rd l1 x35_2) != (rd l1 x39_3)) = false := bne_eq_false_iff_eq.mpr c36
                                        clear c36
                                        by_cases c37 : x39_3 < (t186.length : Int)
                                        · rw [if_pos c37] at H
                                          have c37b0 : decide (x39_3 < (t186.length : Int)) = true := decide_eq_true c37
                                          clear c37
                                          by_cases c38 : x35_2 < (t186.length : Int)
                                          · rw [if_pos c38] at H
                                            have c38b0 : decide (x35_2 < (t186.length : Int)) = true := decide_eq_true c38
                                            clear c38
                                            by_cases c39 : (rd t186 x39_3) < (rd t186 x35_2)
                                            · rw [if_pos c39] at H
                                              have c39b0 : decide ((rd t186 x39_3) < (rd t186 x35_2)) = true := decide_eq_true c39
                                              clear c39
                                              obtain rfl := Option.some.inj H
                                              have p202 : 0 ≤ (x35_2 : Int) := of_decide_eq_true (by first | (with_reducible assumption) | assumption)
                                              have q202 : x35_2 < (l1.length : Int) := of_decide_eq_true (by first | (with_reducible assumption) | assumption)
                                              obtain ⟨ad202, e202, hx202_0⟩ := Kd.at_int HR1.out x35_2 p202 q202
                                              cases e202
                                              replace hx202_0 := (HB.out.cell (World.block_lt_of_cell? w _ hx202_0)).trans hx202_0
                                              replace p202 := eq_true p202
                                              replace q202 := eq_true q202
                                              have p203 : 0 ≤ (x39_3 : Int) := of_decide_eq_true (by first | (with_reducible assumption) | assumption)
                                              have q203 : x39_3 < (l1.length : Int) := of_decide_eq_true (by first | (with_reducible assumption) | assumption)
                                              obtain ⟨ad203, e203, hx203_0⟩ := Kd.at_int HR1.out x39_3 p203 q203
                                              obtain rfl : ad202 = ad203 := (by injection e203)
                                              replace hx203_0 := (HB.out.cell (World.block_lt_of_cell? w _ hx203_0)).trans hx203_0
                                              replace p203 := eq_true p203
                                              replace q203 := eq_true q203
                                              have p204 : 0 ≤ (x39_3 : Int) := of_decide_eq_true (by first | (with_reducible assumption) | assumption)
                                              have q204 : x39_3 < (t186.length : Int) := of_decide_eq_true (by first | (with_reducible assumption) | assumption)
                                              obtain ⟨ad204, e204, hx204_0⟩ := Kd.at_int (Kd.R_reads' HO_5.out).2.2 x39_3 p204 q204
                                              cases e204
                                              replace p204 := eq_true p204
                                              replace q204 := eq_true q204
                                              have p205 : 0 ≤ (x35_2 : Int) := of_decide_eq_true (by first | (with_reducible assumption) | assumption)
                                              have q205 : x35_2 < (t186.length : Int) := of_decide_eq_true (by first | (with_reducible assumption) | assumption)
                                              obtain ⟨ad205, e205, hx205_0⟩ := Kd.at_int (Kd.R_reads' HO_5.out).2.2 x35_2 p205 q205
                                              obtain rfl : ad204 = ad205 := (by injection e205)
                                              replace p205 := eq_true p205
                                              replace q205 := eq_true q205
                                              go_wp2
                                              repeat (go_quiet (fail); try go_wp2)
                                              go_ret
                                              exact ⟨by first | rfl | (simp [errW_none, errW_some] <;> rfl) | (simp [*, errW_none, errW_some] <;> rfl), by repeat (first | (with_reducible first | exact HB.out | apply below_alloc | apply pw_below_drewN | apply below_drew1) | exact HB.out)⟩
                                            · rw [if_neg c39] at H
                                              have c39b0 : decide ((rd t186 x39_3) < (rd t186 x35_2)) = false := decide_eq_false c39
                                              clear c39
                                              by_cases c40 : (rd t186 x39_3) > (wrap64 ((rd t186 x35_2) + 1))
                                              · rw [if_pos c40] at H
                                                have c40b0 : decide ((wrap64 ((rd t186 x35_2) + 1)) < (rd t186 x39_3)) = true := decide_eq_true c40
                                                clear c40
                                                obtain rfl := Option.some.inj H
                                                have p202 : 0 ≤ (x35_2 : Int) := of_decide_eq_true (by first | (with_reducible assumption) | assumption)
                                                have q202 : x35_2 < (l1.length : Int) := of_decide_eq_true (by first | (with_reducible assumption) | assumption)
                                                obtain ⟨ad202, e202, hx202_0⟩ := Kd.at_int HR1.out x35_2 p202 q202
                                                cases e202
                                                replace hx202_0 := (HB.out.cell (World.block_lt_of_cell? w _ hx202_0)).trans hx202_0
                                                replace p202 := eq_true p202
                                                replace q202 := eq_true q202
                                                have p203 : 0 ≤ (x39_3 : Int) := of_decide_eq_true (by first | (with_reducible assumption) | assumption)
                                                have q203 : x39_3 < (l1.length : Int) := of_decide_eq_true (by first | (with_reducible assumption) | assumption)
                                                obtain ⟨ad203, e203, hx203_0⟩ := Kd.at_int HR1.out x39_3 p203 q203
                                                obtain rfl : ad202 = ad203 := (by injection e203)
                                                replace hx203_0 := (HB.out.cell (World.block_lt_of_cell? w _ hx203_0)).trans hx203_0
                                                replace p203 := eq_true p203
                                                replace q203 := eq_true q203
                                                have p204 : 0 ≤ (x39_3 : Int) := of_decide_eq_true (by first | (with_reducible assumption) | assumption)
                                                have q204 : x39_3 < (t186.length : Int) := of_decide_eq_true (by first | (with_reducible assumption) | assumption)
                                                obtain ⟨ad204, e204, hx204_0⟩ := Kd.at_int (Kd.R_reads' HO_5.out).2.2 x39_3 p204 q204
                                                cases e204
                                                replace p204 := eq_true p204
                                                replace q204 := eq_true q204
                                                have p205 : 0 ≤ (x35_2 : Int) := of_decide_eq_true (by first | (with_reducible assumption) | assumption)
                                                have q205 : x35_2 < (t186.length : Int) := of_decide_eq_true (by first | (with_reducible assumption) | assumption)
                                                obtain ⟨ad205, e205, hx205_0⟩ := Kd.at_int (Kd.R_reads' HO_5.out).2.2 x35_2 p205 q205
                                                obtain rfl : ad204 = ad205 := (by injection e205)
                                                replace p205 := eq_true p205
                                                replace q205 := eq_true q205
                                                have p206 : 0 ≤ (x39_3 : Int) := of_decide_eq_true (by first | (with_reducible assumption) | assumption)
                                                have q206 : x39_3 < (t186.length : Int) := of_decide_eq_true (by first | (with_reducible assumption) | assumption)
                                                obtain ⟨ad206, e206, hx206_0⟩ := Kd.at_int (Kd.R_reads' HO_5.out).2.2 x39_3 p206 q206
                                                obtain rfl : ad204 = ad206 := (by injection e206)
                                                replace p206 := eq_true p206
                                                replace q206 := eq_true q206
                                                have p207 : 0 ≤ (x35_2 : Int) := of_decide_eq_true (by first | (with_reducible assumption) | assumption)
                                                have q207 : x35_2 < (t186.length : Int) := of_decide_eq_true (by first | (with_reducible assumption) | assumption)
                                                obtain ⟨ad207, e207, hx207_0⟩ := Kd.at_int (Kd.R_reads' HO_5.out).2.2 x35_2 p207 q207
                                                obtain rfl : ad204 = ad207 := (by injection e207)
                                                replace p207 := eq_true p207
                                                replace q207 := eq_true q207
                                                go_wp2
                                                repeat (go_quiet (fail); try go_wp2)
                                                go_ret
                                                exact ⟨by first | rfl | (simp [errW_none, errW_some] <;> rfl) | (simp [*, errW_none, errW_some] <;> rfl), by repeat (first | (with_reducible first | exact HB.out | apply below_alloc | apply pw_below_drewN | apply below_drew1) | exact HB.out)⟩
                                              · rw [if_neg c40] at H
                                                have c40b0 : decide ((wrap64 ((rd t186 x35_2) + 1)) < (rd t186 x39_3)) = false := decide_eq_false c40
                                                clear c40
                                                have H' := Aside0.mk H
                                                clear H
                                                have p202 : 0 ≤ (x35_2 : Int) := of_decide_eq_true (by first | (with_reducible assumption) | assumption)
                                                have q202 : x35_2 < (l1.length : Int) := of_decide_eq_true (by first | (with_reducible assumption) | assumption)
                                                obtain ⟨ad202, e202, hx202_0⟩ := Kd.at_int HR1.out x35_2 p202 q202
                                                cases e202
                                                replace hx202_0 := (HB.out.cell (World.block_lt_of_cell? w _ hx202_0)).trans hx202_0
                                                replace p202 := eq_true p202
                                                replace q202 := eq_true q202
                                                have p203 : 0 ≤ (x39_3 : Int) := of_decide_eq_true (by first | (with_reducible assumption) | assumption)
                                                have q203 : x39_3 < (l1.length : Int) := of_decide_eq_true (by first | (with_reducible assumption) | assumption)
                                                obtain ⟨ad203, e203, hx203_0⟩ := Kd.at_int HR1.out x39_3 p203 q203
                                                obtain rfl : ad202 = ad203 := (by injection e203)
                                                replace hx203_0 := (HB.out.cell (World.block_lt_of_cell? w _ hx203_0)).trans hx203_0
                                                replace p203 := eq_true p203
                                                replace q203 := eq_true q203
                                                have p204 : 0 ≤ (x39_3 : Int) := of_decide_eq_true (by first | (with_reducible assumption) | assumption)
                                                have q204 : x39_3 < (t186.length : Int) := of_decide_eq_true (by first | (with_reducible assumption) | assumption)
                                                obtain ⟨ad204, e204, hx204_0⟩ := Kd.at_int (Kd.R_reads' HO_5.out).2.2 x39_3 p204 q204
                                                cases e204
                                                replace p204 := eq_true p204
                                                replace q204 := eq_true q204
                                                have p205 : 0 ≤ (x35_2 : Int) := of_decide_eq_true (by first | (with_reducible assumption) | assumption)
                                                have q205 : x35_2 < (t186.length : Int) := of_decide_eq_true (by first | (with_reducible assumption) | assumption)
                                                obtain ⟨ad205, e205, hx205_0⟩ := Kd.at_int (Kd.R_reads' HO_5.out).2.2 x35_2 p205 q205
                                                obtain rfl : ad204 = ad205 := (by injection e205)
                                                replace p205 := eq_true p205
                                                replace q205 := eq_true q205
                                                have p206 : 0 ≤ (x39_3 : Int) := of_decide_eq_true (by first | (with_reducible assumption) | assumption)
                                                have q206 : x39_3 < (t186.length : Int) := of_decide_eq_true (by first | (with_reducible assumption) | assumption)
                                                obtain ⟨ad206, e206, hx206_0⟩ := Kd.at_int (Kd.R_reads' HO_5.out).2.2 x39_3 p206 q206
                                                obtain rfl : ad204 = ad206 := (by injection e206)
                                                replace p206 := eq_true p206
                                                replace q206 := eq_true q206
                                                have p207 : 0 ≤ (x35_2 : Int) := of_decide_eq_true (by first | (with_reducible assumption) | assumption)
                                                have q207 : x35_2 < (t186.length : Int) := of_decide_eq_true (by first | (with_reducible assumption) | assumption)
                                                obtain ⟨ad207, e207, hx207_0⟩ := Kd.at_int (Kd.R_reads' HO_5.out).2.2 x35_2 p207 q207
                                                obtain rfl : ad204 = ad207 := (by injection e207)
                                                replace p207 := eq_true p207
                                                replace q207 := eq_true q207
                                                go_wp2
                                                repeat (go_quiet (fail); try go_wp2)
                                                go_roundg kj17
                                                case measure => have := HJ2.out; have := HK2.out; have := HK3.out; have := HJ17.out; omega
                                                case rel => exact ⟨(wrap64 (x39_3 + 1)), (by first | rfl | (simp; done) | (simp [*]; done)), H', ⟨by have := HJ2.out; have := HK2.out; have := HK3.out; have := HJ17.out; omega⟩, ⟨by (with_reducible repeat (first | apply Kd.R_alloc | apply Kd.R_drewN | apply Kd.R_drew)); exact HO_5.out⟩, ⟨by repeat (first | (with_reducible first | exact HB.out | apply below_alloc | apply pw_below_drewN | apply below_drew1) | exact HB.out)⟩⟩
                                          · rw [if_neg c38] at H
                                            exact absurd H (by simp)
                                        · rw [if_neg c37] at H
                                          exact absurd H (by simp)
                                      · rw [if_neg c36] at H
                                        have c36b0 : ((rd l1 x35_2) == (rd l1 x39_3)) = false := beq_eq_false_iff_ne.mpr c36
                                        have c36b1 : ((rd l1 x35_2) != (rd l1 x39_3)) = true := bne_iff_ne.mpr c36
                                        have H' := Aside0.mk H
                                        clear H
                                        have p202 : 0 ≤ (x35_2 : Int) := of_decide_eq_true (by first | (with_reducible assumption) | assumption)
                                        have q202 : x35_2 < (l1.length : Int) := of_decide_eq_true (by first | (with_reducible assumption) | assumption)
                                        obtain ⟨ad202, e202, hx202_0⟩ := Kd.at_int HR1.out x35_2 p202 q202
                                        cases e202
                                        replace hx202_0 := (HB.out.cell (World.block_lt_of_cell? w _ hx202_0)).trans hx202_0
                                        replace p202 := eq_true p202
                                        replace q202 := eq_true q202
                                        have p203 : 0 ≤ (x39_3 : Int) := of_decide_eq_true (by first | (with_reducible assumption) | assumption)
                                        have q203 : x39_3 < (l1.length : Int) := of_decide_eq_true (by first | (with_reducible assumption) | assumption)
                                        obtain ⟨ad203, e203, hx203_0⟩ := Kd.at_int HR1.out x39_3 p203 q203
                                        obtain rfl : ad202 = ad203 := (by injection e203)
                                        replace hx203_0 := (HB.out.cell (World.block_lt_of_cell? w _ hx203_0)).trans hx203_0
                                        replace p203 := eq_true p203
                                        replace q203 := eq_true q203
                                        go_wp2
                                        repeat (go_quiet (fail); try go_wp2)
                                        go_roundg kj17
                                        case measure => have := HJ2.out; have := HK2.out; have := HK3.out; have := HJ17.out; omega
                                        case rel => exact ⟨(wrap64 (x39_3 + 1)), (by first | rfl | (simp; done) | (simp [*]; done)), H', ⟨by have := HJ2.out; have := HK2.out; have := HK3.out; have := HJ17.out; omega⟩, ⟨by (with_reducible repeat (first | apply Kd.R_alloc | apply Kd.R_drewN | apply Kd.R_drew)); exact HO_5.out⟩, ⟨by repeat (first | (with_reducible first | exact HB.out | apply below_alloc | apply pw_below_drewN | apply below_drew1) | exact HB.out)⟩⟩
                                    · rw [if_neg c35] at H
                                      exact absurd H (by simp)
                                  · rw [if_neg c34] at H
                                    exact absurd H (by simp)
                                · rw [if_neg c33] at H
                                  exact absurd H (by simp)
                              · rw [if_neg c32] at H
                                exact absurd H (by simp)
                      · rw [if_neg c17] at H
                        have c17b0 : decide (x39_3 < x35_2) = false := decide_eq_false c17
                        clear c17
                        have H' := Aside0.mk H
                        clear H
                        go_wp2
                        repeat (go_quiet (fail); try go_wp2)
                        go_roundg k3
                        case measure => have := HJ2.out; have := HK2.out; have := HK3.out; omega
                        case rel => exact ⟨(wrap64 (x35_2 + 1)), (by first | rfl | (simp; done) | (simp [*]; done)), H', ⟨by have := HJ2.out; have := HK2.out; have := HK3.out; omega⟩, ⟨by (with_reducible repeat (first | apply Kd.R_alloc | apply Kd.R_drewN | apply Kd.R_drew)); exact HO_5.out⟩, ⟨by repeat (first | (with_reducible first | exact HB.out | apply below_alloc | apply pw_below_drewN | apply below_drew1) | exact HB.out)⟩⟩
                · rw [if_neg c16] at H
                  have c16b0 : decide (x35_2 < (t186.length : Int)) = false := decide_eq_false c16
                  clear c16
                  obtain rfl := Option.some.inj H
                  go_wp2
                  repeat (go_quiet (fail); try go_wp2)
                  go_ret
                  exact ⟨by first | rfl | (simp [errW_none, errW_some] <;> rfl) | (simp [*, errW_none, errW_some] <;> rfl), by repeat (first | (with_reducible first | exact HB.out | apply below_alloc | apply pw_below_drewN | apply below_drew1) | exact HB.out)⟩
          · rw [if_neg c13] at H
            have c13b0 : ((t186.length : Int) == (l1.length : Int)) = false := beq_eq_false_iff_ne.mpr c13
            have c13b1 : ((t186.length : Int) != (l1.length : Int)) = true := bne_iff_ne.mpr c13
            have c13b2 : (t186.length == l1.length) = false := by first | simpa using c13 | (simp at c13 ⊢; omega)
            obtain rfl := Option.some.inj H
            go_wp2_with (first | (go_at_call 11; (with_reducible refine (share_Split.calls a0 _ _ l1 t186 t187 _ ?side1 ?side2 A11.out).mono ?_); (case side1 => repeat (first | exact (Kd.C_below HR1.out HB.out) | (with_reducible refine Kd.C_alloc ?_ _) | (with_reducible refine Kd.C_drewN ?_ _) | (with_reducible refine Kd.C_drew ?_))); (case side2 => exact HC1.out); rintro e w41 ⟨v188, rfl, ho0, hb⟩; have n0_ := Aside0.mk (Kd.R_lower ho0 (below_size (by repeat (first | (with_reducible first | exact HB.out | apply below_alloc | apply pw_below_drewN | apply below_drew1) | exact HB.out)))); have n1_ := Aside0.mk (below_step (by repeat (first | (with_reducible first | exact HB.out | apply below_alloc | apply pw_below_drewN | apply below_drew1) | exact HB.out)) hb); clear HB; have HO189 := n0_; have HB := n1_; clear n0_ n1_; (try clear hb); (try clear hb2); (try clear hk); (try clear hi); (try clear ho0); obtain ⟨Ao42, co42, eo42⟩ := Kd.R_slice HO189.out; subst eo42))
            repeat (go_quiet (first | (go_at_call 11; (with_reducible refine (share_Split.calls a0 _ _ l1 t186 t187 _ ?side1 ?side2 A11.out).mono ?_); (case side1 => repeat (first | exact (Kd.C_below HR1.out HB.out) | (with_reducible refine Kd.C_alloc ?_ _) | (with_reducible refine Kd.C_drewN ?_ _) | (with_reducible refine Kd.C_drew ?_))); (case side2 => exact HC1.out); rintro e w41 ⟨v188, rfl, ho0, hb⟩; have n0_ := Aside0.mk (Kd.R_lower ho0 (below_size (by repeat (first | (with_reducible first | exact HB.out | apply below_alloc | apply pw_below_drewN | apply below_drew1) | exact HB.out)))); have n1_ := Aside0.mk (below_step (by repeat (first | (with_reducible first | exact HB.out | apply below_alloc | apply pw_below_drewN | apply below_drew1) | exact HB.out)) hb); clear HB; have HO189 := n0_; have HB := n1_; clear n0_ n1_; (try clear hb); (try clear hb2); (try clear hk); (try clear hi); (try clear ho0); obtain ⟨Ao42, co42, eo42⟩ := Kd.R_slice HO189.out; subst eo42)); try go_wp2_with (first | (go_at_call 11; (with_reducible refine (share_Split.calls a0 _ _ l1 t186 t187 _ ?side1 ?side2 A11.out).mono ?_); (case side1 => repeat (first | exact (Kd.C_below HR1.out HB.out) | (with_reducible refine Kd.C_alloc ?_ _) | (with_reducible refine Kd.C_drewN ?_ _) | (with_reducible refine Kd.C_drew ?_))); (case side2 => exact HC1.out); rintro e w41 ⟨v188, rfl, ho0, hb⟩; have n0_ := Aside0.mk (Kd.R_lower ho0 (below_size (by repeat (first | (with_reducible first | exact HB.out | apply below_alloc | apply pw_below_drewN | apply below_drew1) | exact HB.out)))); have n1_ := Aside0.mk (below_step (by repeat (first | (with_reducible first | exact HB.out | apply below_alloc | apply pw_below_drewN | apply below_drew1) | exact HB.out)) hb); clear HB; have HO189 := n0_; have HB := n1_; clear n0_ n1_; (try clear hb); (try clear hb2); (try clear hk); (try clear hi); (try clear ho0); obtain ⟨Ao42, co42, eo42⟩ := Kd.R_slice HO189.out; subst eo42)))
            go_ret
            exact ⟨by first | rfl | (simp [errW_none, errW_some] <;> rfl) | (simp [*, errW_none, errW_some] <;> rfl), by repeat (first | (with_reducible first | exact HB.out | apply below_alloc | apply pw_below_drewN | apply below_drew1) | exact HB.out)⟩
        · rw [if_neg c12] at H
          have c12b0 : (t187 == 0) = false := beq_eq_false_iff_ne.mpr c12
          have c12b1 : (t187 != 0) = true := bne_iff_ne.mpr c12
          obtain rfl := Option.some.inj H
          go_wp2_with (first | (go_at_call 11; (with_reducible refine (share_Split.calls a0 _ _ l1 t186 t187 _ ?side1 ?side2 A11.out).mono ?_); (case side1 => repeat (first | exact (Kd.C_below HR1.out HB.out) | (with_reducible refine Kd.C_alloc ?_ _) | (with_reducible refine Kd.C_drewN ?_ _) | (with_reducible refine Kd.C_drew ?_))); (case side2 => exact HC1.out); rintro e w43 ⟨v188, rfl, ho0, hb⟩; have n0_ := Aside0.mk (Kd.R_lower ho0 (below_size (by repeat (first | (with_reducible first | exact HB.out | apply below_alloc | apply pw_below_drewN | apply below_drew1) | exact HB.out)))); have n1_ := Aside0.mk (below_step (by repeat (first | (with_reducible first | exact HB.out | apply below_alloc | apply pw_below_drewN | apply below_drew1) | exact HB.out)) hb); clear HB; have HO189 := n0_; have HB := n1_; clear n0_ n1_; (try clear hb); (try clear hb2); (try clear hk); (try clear hi); (try clear ho0); obtain ⟨Ao44, co44, eo44⟩ := Kd.R_slice HO189.out; subst eo44))
          repeat (go_quiet (first | (go_at_call 11; (with_reducible refine (share_Split.calls a0 _ _ l1 t186 t187 _ ?side1 ?side2 A11.out).mono ?_); (case side1 => repeat (first | exact (Kd.C_below HR1.out HB.out) | (with_reducible refine Kd.C_alloc ?_ _) | (with_reducible refine Kd.C_drewN ?_ _) | (with_reducible refine Kd.C_drew ?_))); (case side2 => exact HC1.out); rintro e w43 ⟨v188, rfl, ho0, hb⟩; have n0_ := Aside0.mk (Kd.R_lower ho0 (below_size (by repeat (first | (with_reducible first | exact HB.out | apply below_alloc | apply pw_below_drewN | apply below_drew1) | exact HB.out)))); have n1_ := Aside0.mk (below_step (by repeat (first | (with_reducible first | exact HB.out | apply below_alloc | apply pw_below_drewN | apply below_drew1) | exact HB.out)) hb); clear HB; have HO189 := n0_; have HB := n1_; clear n0_ n1_; (try clear hb); (try clear hb2); (try clear hk); (try clear hi); (try clear ho0); obtain ⟨Ao44, co44, eo44⟩ := Kd.R_slice HO189.out; subst eo44)); try go_wp2_with (first | (go_at_call 11; (with_reducible refine (share_Split.calls a0 _ _ l1 t186 t187 _ ?side1 ?side2 A11.out).mono ?_); (case side1 => repeat (first | exact (Kd.C_below HR1.out HB.out) | (with_reducible refine Kd.C_alloc ?_ _) | (with_reducible refine Kd.C_drewN ?_ _) | (with_reducible refine Kd.C_drew ?_))); (case side2 => exact HC1.out); rintro e w43 ⟨v188, rfl, ho0, hb⟩; have n0_ := Aside0.mk (Kd.R_lower ho0 (below_size (by repeat (first | (with_reducible first | exact HB.out | apply below_alloc | apply pw_below_drewN | apply below_drew1) | exact HB.out)))); have n1_ := Aside0.mk (below_step (by repeat (first | (with_reducible first | exact HB.out | apply below_alloc | apply pw_below_drewN | apply below_drew1) | exact HB.out)) hb); clear HB; have HO189 := n0_; have HB := n1_; clear n0_ n1_; (try clear hb); (try clear hb2); (try clear hk); (try clear hi); (try clear ho0); obtain ⟨Ao44, co44, eo44⟩ := Kd.R_slice HO189.out; subst eo44)))
          go_ret
          exact ⟨by first | rfl | (simp [errW_none, errW_some] <;> rfl) | (simp [*, errW_none, errW_some] <;> rfl), by repeat (first | (with_reducible first | exact HB.out | apply below_alloc | apply pw_below_drewN | apply below_drew1) | exact HB.out)⟩

/-- THE ONE PURE STATEMENT of supercargolaw04_ShareGrows: yours. -/
def supercargolaw04_ShareGrows.Pure : Prop := ∀ (a0 : Int) (l1 : List Int), (Lit.int .i64 a0).wf = true → l1.length ≤ maxLen → l1.length * 8 ≤ 140737488351232 → (∀ x ∈ l1, (Lit.int .i64 x).wf = true) → ∃ k, supercargolaw04_ShareGrows.f k a0 l1 = some true
theorem supercargolaw04_ShareGrows.walk (P : supercargolaw04_ShareGrows.Pure) (a0 : Int) (a1 : Option Addr) (len1 cap1 : Nat) (z1 : List Int) (w : World) (w0 : (Lit.int .i64 a0).wf = true) (w1 : (a1 = none ∧ len1 = 0 ∧ cap1 = 0 ∧ z1 = []) ∨ ∃ x, a1 = some x ∧ len1 ≤ cap1 ∧ cap1 ≤ maxLen ∧ z1.length = cap1 ∧ (∀ i, i < z1.length → w.cell? (x.add i) = some (.int .i64 (z1.getD i 0))) ∧ ∀ n ∈ z1, (Lit.int .i64 n).wf = true) (y1 : len1 * 8 ≤ 140737488351232) :
    Calls Try.prog 5 #[.int .i64 a0, .slice a1 len1 cap1] w fun e w' => e = .returned (.bool true) ∧ Below w.heap.size w w' := by
  obtain ⟨l1, rfl, hr1, hm1, hw1, hc1⟩ := ReadsInt.ofRowC w1
  obtain ⟨k, h⟩ := P a0 l1 w0 hm1 y1 hw1
  refine (supercargolaw04_ShareGrows.calls k a0 _ _ l1 true w (Kd.C_of_reads (d := (0 : Int)) (h1 := fun _ => rfl) hr1) hc1 h).mono ?_
  rintro e w' ⟨rfl, hd⟩
  exact ⟨rfl, hd⟩

end Go.Proofs.Ythbbfbhgcoffeaa.Print
