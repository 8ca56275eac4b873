/- Contracts of the program's functions over this seat's translation, written out by this session's own driver. Conditions: those in each statement. -/
import Derived.Test.YteeehijpdkbgkaaPrint0
import Derived.Test.YteeehijpdkbgkaaPrint1
import Derived.Test.YteeehijpdkbgkaaPrint12
import Derived.Test.YteeehijpdkbgkaaPrint13
namespace Go.Proofs.Yteeehijpdkbgkaa.Print
open Go.RowKit Go.Proofs.YteeehijpdkbgkaaW.PrintWords Go.Proofs.YteeehijpdkbgkaaW.PrintLast Go.Proofs.YteeehijpdkbgkaaW.PrintMore
attribute [local go_sem] max2_int min2_int max_two min_two max_three min_three max_four min_four   -- for this text's walks alone
set_option linter.unusedVariables false
set_option linter.unusedSimpArgs false

attribute [local go_sem high] eqA40
/-! ### supercargoref43_Debts: function 14 -/
def supercargoref43_Debts.l0 : Nat → List (S40) → List (S40) → Int → Option (Bool)
  | 0, _, _, _ => none
  | k + 1, x0, x1, x5 => if x5 < (x0.length : Int) then (if 0 ≤ x5 then (if x5 < (x1.length : Int) then (if (!((((rd_T40 x0 x5).f0).toList) == (((rd_T40 x1 x5).f0).toList)) || (!((((rd_T40 x0 x5).f1).toList) == (((rd_T40 x1 x5).f1).toList)) || (!((((rd_T40 x0 x5).f2).toList) == (((rd_T40 x1 x5).f2).toList)) || (!(((rd_T40 x0 x5).f3) == ((rd_T40 x1 x5).f3)))))) = true then (some false) else (supercargoref43_Debts.l0 k x0 x1 (wrap64 (x5 + 1)))) else (none)) else (none)) else (some true)
def supercargoref43_Debts.f (k : Nat) (l0 : List (S40)) (l1 : List (S40)) : Option (Bool) := if (l0.length : Int) = (l1.length : Int) then (supercargoref43_Debts.l0 k l0 l1 0) else (some false)
theorem supercargoref43_Debts.mono_l : ∀ k, (∀ y0 y1 y2, LeO (supercargoref43_Debts.l0 k y0 y1 y2) (supercargoref43_Debts.l0 (k + 1) y0 y1 y2))
  | 0 => fun _ _ _ r h => by simp [supercargoref43_Debts.l0] at h
  | k + 1 => by
    have ih0 := supercargoref43_Debts.mono_l k
    · intro y0 y1 y2
      unfold supercargoref43_Debts.l0
      repeat' first
      | (with_reducible exact ih0 _ _ _)
      | (with_reducible exact LeO.refl _)
      | (with_reducible exact LeO.none _)
      | (with_reducible refine LeO.ite ?_ ?_)
      | (with_reducible refine LeO.bind ?_ (fun _ => ?_))
      | exact ih0 _ _ _
      | exact LeO.none _
      | refine LeO.ite ?_ ?_
      | refine LeO.bind ?_ (fun _ => ?_)
theorem supercargoref43_Debts.mono : ∀ a0 a1 k, LeO (supercargoref43_Debts.f k a0 a1) (supercargoref43_Debts.f (k + 1) a0 a1) := by
  intro a0 a1 k
  have ih0 := supercargoref43_Debts.mono_l k
  unfold supercargoref43_Debts.f
  repeat' first
      | (with_reducible exact ih0 _ _ _)
      | (with_reducible exact LeO.refl _)
      | (with_reducible exact LeO.none _)
      | (with_reducible refine LeO.ite ?_ ?_)
      | (with_reducible refine LeO.bind ?_ (fun _ => ?_))
      | exact ih0 _ _ _
      | exact LeO.none _
      | refine LeO.ite ?_ ?_
      | refine LeO.bind ?_ (fun _ => ?_)
set_option maxHeartbeats 8000000 in
set_option maxRecDepth 100000 in
theorem supercargoref43_Debts.calls (k : Nat) (A0 : Option Addr) (c0 : Nat) (l0 : List (S40)) (A1 : Option Addr) (c1 : Nat) (l1 : List (S40)) (r : Bool) (w : World) (hr0 : Kd.C k40 w A0 l0.length l0) (hc0 : l0.length ≤ c0) (hr1 : Kd.C k40 w A1 l1.length l1) (hc1 : l1.length ≤ c1) (h : supercargoref43_Debts.f k l0 l1 = some r) :
    Calls Try.prog 14 #[.slice A0 l0.length c0, .slice A1 l1.length c1] w fun e w' => e = .returned (.bool r) ∧ Drawn0 w w' := by
  have hu40 := Try.underlying40
  have HR0 := Aside0.mk hr0
  have HC0 := Aside0.mk hc0
  clear hr0 hc0
  have HR1 := Aside0.mk hr1
  have HC1 := Aside0.mk hc1
  clear hr1 hc1
  have H : (if (l0.length : Int) = (l1.length : Int) then (supercargoref43_Debts.l0 k l0 l1 0) else (some false)) = some r := h
  clear h
  by_cases c3 : (l0.length : Int) = (l1.length : Int)
  · rw [if_pos c3] at H
    have c3b0 : ((l0.length : Int) == (l1.length : Int)) = true := beq_iff_eq.mpr c3
    have c3b1 : ((l0.length : Int) != (l1.length : Int)) = false := bne_eq_false_iff_eq.mpr c3
    have c3b2 : (l0.length == l1.length) = true := by first | simpa using c3 | (simp at c3 ⊢; omega)
    clear c3
    have H' := Aside0.mk H
    clear H
    go_enter Try.func14, Try.ntmps14
    go_wp2
    repeat (go_quiet (fail); try go_wp2)
    go_loopg [5] k (fun kq v5 w' => ∃ (x5_1 : Int), v5 = .int .i64 x5_1 ∧ Aside0 (supercargoref43_Debts.l0 kq l0 l1 x5_1 = some r) ∧ Aside0 (kq ≤ k) ∧ Drawn0 w w')
    case atStart => exact ⟨(0), (by first | rfl | (simp; done) | (simp [*]; done)), H', ⟨Nat.le_refl _⟩, by repeat (first | exact Drawn0.refl _ | apply Drawn0.step)⟩
    case round =>
      clear H'
      try clear c1
      try clear p2
      try clear c3
      try clear c3b0
      try clear c3b1
      try clear c3b2
      obtain ⟨x5_1, rfl, HA, HK1, ⟨m1, rfl⟩⟩ := hrel
      cases gk with
      | zero => exact absurd HA.out (by simp [supercargoref43_Debts.l0])
      | succ k1 =>
        have H := HA.out
        clear HA
        simp only [supercargoref43_Debts.l0] at H
        by_cases c4 : x5_1 < (l0.length : Int)
        · rw [if_pos c4] at H
          have c4b0 : decide (x5_1 < (l0.length : Int)) = true := decide_eq_true c4
          clear c4
          by_cases c5 : 0 ≤ x5_1
          · rw [if_pos c5] at H
            have c5b0 : decide (0 ≤ x5_1) = true := decide_eq_true c5
            clear c5
            by_cases c6 : x5_1 < (l1.length : Int)
            · rw [if_pos c6] at H
              have c6b0 : decide (x5_1 < (l1.length : Int)) = true := decide_eq_true c6
              clear c6
              by_cases c7 : (!((((rd_T40 l0 x5_1).f0).toList) == (((rd_T40 l1 x5_1).f0).toList)) || (!((((rd_T40 l0 x5_1).f1).toList) == (((rd_T40 l1 x5_1).f1).toList)) || (!((((rd_T40 l0 x5_1).f2).toList) == (((rd_T40 l1 x5_1).f2).toList)) || (!(((rd_T40 l0 x5_1).f3) == ((rd_T40 l1 x5_1).f3)))))) = true
              · rw [if_pos c7] at H
                have c7b0 : (!((((rd_T40 l0 x5_1).f0).toList) == (((rd_T40 l1 x5_1).f0).toList)) || (!((((rd_T40 l0 x5_1).f1).toList) == (((rd_T40 l1 x5_1).f1).toList)) || (!((((rd_T40 l0 x5_1).f2).toList) == (((rd_T40 l1 x5_1).f2).toList)) || (!(((rd_T40 l0 x5_1).f3) == ((rd_T40 l1 x5_1).f3)))))) = true := c7
                clear c7
                obtain rfl := Option.some.inj H
                have p138 : 0 ≤ (x5_1 : Int) := of_decide_eq_true (by first | (with_reducible assumption) | assumption)
                have q138 : x5_1 < (l0.length : Int) := of_decide_eq_true (by first | (with_reducible assumption) | assumption)
                obtain ⟨ad138, e138, hx138_0, hx138_1, hx138_2, hx138_3⟩ := at_T40 HR0.out x5_1 p138 q138
                cases e138
                replace p138 := eq_true p138
                replace q138 := eq_true q138
                have p139 : 0 ≤ (x5_1 : Int) := of_decide_eq_true (by first | (with_reducible assumption) | assumption)
                have q139 : x5_1 < (l1.length : Int) := of_decide_eq_true (by first | (with_reducible assumption) | assumption)
                obtain ⟨ad139, e139, hx139_0, hx139_1, hx139_2, hx139_3⟩ := at_T40 HR1.out x5_1 p139 q139
                cases e139
                replace p139 := eq_true p139
                replace q139 := eq_true q139
                go_wp2
                repeat (go_quiet (fail); try go_wp2)
                go_ret
                exact ⟨by first | rfl | (simp; done) | (simp [*]; done), by repeat (first | exact Drawn0.refl _ | apply Drawn0.step)⟩
              · rw [if_neg c7] at H
                have c7b0 : (!((((rd_T40 l0 x5_1).f0).toList) == (((rd_T40 l1 x5_1).f0).toList)) || (!((((rd_T40 l0 x5_1).f1).toList) == (((rd_T40 l1 x5_1).f1).toList)) || (!((((rd_T40 l0 x5_1).f2).toList) == (((rd_T40 l1 x5_1).f2).toList)) || (!(((rd_T40 l0 x5_1).f3) == ((rd_T40 l1 x5_1).f3)))))) = false := by simpa using c7
                clear c7
                have H' := Aside0.mk H
                clear H
                have p138 : 0 ≤ (x5_1 : Int) := of_decide_eq_true (by first | (with_reducible assumption) | assumption)
                have q138 : x5_1 < (l0.length : Int) := of_decide_eq_true (by first | (with_reducible assumption) | assumption)
                obtain ⟨ad138, e138, hx138_0, hx138_1, hx138_2, hx138_3⟩ := at_T40 HR0.out x5_1 p138 q138
                cases e138
                replace p138 := eq_true p138
                replace q138 := eq_true q138
                have p139 : 0 ≤ (x5_1 : Int) := of_decide_eq_true (by first | (with_reducible assumption) | assumption)
                have q139 : x5_1 < (l1.length : Int) := of_decide_eq_true (by first | (with_reducible assumption) | assumption)
                obtain ⟨ad139, e139, hx139_0, hx139_1, hx139_2, hx139_3⟩ := at_T40 HR1.out x5_1 p139 q139
                cases e139
                replace p139 := eq_true p139
                replace q139 := eq_true q139
                go_wp2
                repeat (go_quiet (fail); try go_wp2)
                go_roundg k1
                case measure => have := HK1.out; omega
                case rel => exact ⟨(wrap64 (x5_1 + 1)), (by first | rfl | (simp; done) | (simp [*]; done)), H', ⟨by have := HK1.out; omega⟩, by repeat (first | exact Drawn0.refl _ | apply Drawn0.step)⟩
            · rw [if_neg c6] at H
              exact absurd H (by simp)
          · rw [if_neg c5] at H
            exact absurd H (by simp)
        · rw [if_neg c4] at H
          have c4b0 : decide (x5_1 < (l0.length : Int)) = false := decide_eq_false c4
          clear c4
          obtain rfl := Option.some.inj H
          go_wp2
          repeat (go_quiet (fail); try go_wp2)
          go_ret
          exact ⟨by first | rfl | (simp; done) | (simp [*]; done), by repeat (first | exact Drawn0.refl _ | apply Drawn0.step)⟩
  · rw [if_neg c3] at H
    have c3b0 : ((l0.length : Int) == (l1.length : Int)) = false := beq_eq_false_iff_ne.mpr c3
    have c3b1 : ((l0.length : Int) != (l1.length : Int)) = true := bne_iff_ne.mpr c3
    have c3b2 : (l0.length == l1.length) = false := by first | simpa using c3 | (simp at c3 ⊢; omega)
    obtain rfl := Option.some.inj H
    go_enter Try.func14, Try.ntmps14
    go_wp2
    repeat (go_quiet (fail); try go_wp2)
    go_ret
    exact ⟨by first | rfl | (simp; done) | (simp [*]; done), by repeat (first | exact Drawn0.refl _ | apply Drawn0.step)⟩

/-! ### supercargoref04_Same: function 17 -/
def supercargoref04_Same.l0 : Nat → List Int → List Int → Int → Option (Bool)
  | 0, _, _, _ => none
  | k + 1, x0, x1, x5 => if x5 < (x0.length : Int) then (if 0 ≤ x5 then (if x5 < (x1.length : Int) then (if (rd x0 x5) = (rd x1 x5) then (supercargoref04_Same.l0 k x0 x1 (wrap64 (x5 + 1))) else (some false)) else (none)) else (none)) else (some true)
def supercargoref04_Same.f (k : Nat) (l0 : List Int) (l1 : List Int) : Option (Bool) := if (l0.length : Int) = (l1.length : Int) then (supercargoref04_Same.l0 k l0 l1 0) else (some false)
theorem supercargoref04_Same.mono_l : ∀ k, (∀ y0 y1 y2, LeO (supercargoref04_Same.l0 k y0 y1 y2) (supercargoref04_Same.l0 (k + 1) y0 y1 y2))
  | 0 => fun _ _ _ r h => by simp [supercargoref04_Same.l0] at h
  | k + 1 => by
    have ih0 := supercargoref04_Same.mono_l k
    · intro y0 y1 y2
      unfold supercargoref04_Same.l0
      repeat' first
      | (with_reducible exact ih0 _ _ _)
      | (with_reducible exact LeO.refl _)
      | (with_reducible exact LeO.none _)
      | (with_reducible refine LeO.ite ?_ ?_)
      | (with_reducible refine LeO.bind ?_ (fun _ => ?_))
      | exact ih0 _ _ _
      | exact LeO.none _
      | refine LeO.ite ?_ ?_
      | refine LeO.bind ?_ (fun _ => ?_)
theorem supercargoref04_Same.mono : ∀ a0 a1 k, LeO (supercargoref04_Same.f k a0 a1) (supercargoref04_Same.f (k + 1) a0 a1) := by
  intro a0 a1 k
  have ih0 := supercargoref04_Same.mono_l k
  unfold supercargoref04_Same.f
  repeat' first
      | (with_reducible exact ih0 _ _ _)
      | (with_reducible exact LeO.refl _)
      | (with_reducible exact LeO.none _)
      | (with_reducible refine LeO.ite ?_ ?_)
      | (with_reducible refine LeO.bind ?_ (fun _ => ?_))
      | exact ih0 _ _ _
      | exact LeO.none _
      | refine LeO.ite ?_ ?_
      | refine LeO.bind ?_ (fun _ => ?_)
set_option maxHeartbeats 8000000 in
set_option maxRecDepth 100000 in
theorem supercargoref04_Same.calls (k : Nat) (A0 : Option Addr) (c0 : Nat) (l0 : List Int) (A1 : Option Addr) (c1 : Nat) (l1 : List Int) (r : Bool) (w : World) (hr0 : Kd.C (Kd.int .i64) w A0 l0.length l0) (hc0 : l0.length ≤ c0) (hr1 : Kd.C (Kd.int .i64) w A1 l1.length l1) (hc1 : l1.length ≤ c1) (h : supercargoref04_Same.f k l0 l1 = some r) :
    Calls Try.prog 17 #[.slice A0 l0.length c0, .slice A1 l1.length c1] w fun e w' => e = .returned (.bool r) ∧ Drawn0 w w' := by
  have HR0 := Aside0.mk hr0
  have HC0 := Aside0.mk hc0
  clear hr0 hc0
  have HR1 := Aside0.mk hr1
  have HC1 := Aside0.mk hc1
  clear hr1 hc1
  have H : (if (l0.length : Int) = (l1.length : Int) then (supercargoref04_Same.l0 k l0 l1 0) else (some false)) = some r := h
  clear h
  by_cases c3 : (l0.length : Int) = (l1.length : Int)
  · rw [if_pos c3] at H
    have c3b0 : ((l0.length : Int) == (l1.length : Int)) = true := beq_iff_eq.mpr c3
    have c3b1 : ((l0.length : Int) != (l1.length : Int)) = false := bne_eq_false_iff_eq.mpr c3
    have c3b2 : (l0.length == l1.length) = true := by first | simpa using c3 | (simp at c3 ⊢; omega)
    clear c3
    have H' := Aside0.mk H
    clear H
    go_enter Try.func17, Try.ntmps17
    go_wp2
    repeat (go_quiet (fail); try go_wp2)
    go_loopg [5] k (fun kq v5 w' => ∃ (x5_1 : Int), v5 = .int .i64 x5_1 ∧ Aside0 (supercargoref04_Same.l0 kq l0 l1 x5_1 = some r) ∧ Aside0 (kq ≤ k) ∧ Drawn0 w w')
    case atStart => exact ⟨(0), (by first | rfl | (simp; done) | (simp [*]; done)), H', ⟨Nat.le_refl _⟩, by repeat (first | exact Drawn0.refl _ | apply Drawn0.step)⟩
    case round =>
      clear H'
      try clear c1
      try clear p2
      try clear c3
      try clear c3b0
      try clear c3b1
      try clear c3b2
      obtain ⟨x5_1, rfl, HA, HK1, ⟨m1, rfl⟩⟩ := hrel
      cases gk with
      | zero => exact absurd HA.out (by simp [supercargoref04_Same.l0])
      | succ k1 =>
        have H := HA.out
        clear HA
        simp only [supercargoref04_Same.l0] at H
        by_cases c4 : x5_1 < (l0.length : Int)
        · rw [if_pos c4] at H
          have c4b0 : decide (x5_1 < (l0.length : Int)) = true := decide_eq_true c4
          clear c4
          by_cases c5 : 0 ≤ x5_1
          · rw [if_pos c5] at H
            have c5b0 : decide (0 ≤ x5_1) = true := decide_eq_true c5
            clear c5
            by_cases c6 : x5_1 < (l1.length : Int)
            · rw [if_pos c6] at H
              have c6b0 : decide (x5_1 < (l1.length : Int)) = true := decide_eq_true c6
              clear c6
              by_cases c7 : (rd l0 x5_1) = (rd l1 x5_1)
              · rw [if_pos c7] at H
                have c7b0 : ((rd l0 x5_1) == (rd l1 x5_1)) = true := beq_iff_eq.mpr c7
                have c7b1 : ((rd l0 x5_1) != (rd l1 x5_1)) = false := bne_eq_false_iff_eq.mpr c7
                clear c7
                have H' := Aside0.mk H
                clear H
                have p140 : 0 ≤ (x5_1 : Int) := of_decide_eq_true (by first | (with_reducible assumption) | assumption)
                have q140 : x5_1 < (l0.length : Int) := of_decide_eq_true (by first | (with_reducible assumption) | assumption)
                obtain ⟨ad140, e140, hx140_0⟩ := Kd.at_int HR0.out x5_1 p140 q140
                cases e140
                replace p140 := eq_true p140
                replace q140 := eq_true q140
                have p141 : 0 ≤ (x5_1 : Int) := of_decide_eq_true (by first | (with_reducible assumption) | assumption)
                have q141 : x5_1 < (l1.length : Int) := of_decide_eq_true (by first | (with_reducible assumption) | assumption)
                obtain ⟨ad141, e141, hx141_0⟩ := Kd.at_int HR1.out x5_1 p141 q141
                cases e141
                replace p141 := eq_true p141
                replace q141 := eq_true q141
                go_wp2
                repeat (go_quiet (fail); try go_wp2)
                go_roundg k1
                case measure => have := HK1.out; omega
                case rel => exact ⟨(wrap64 (x5_1 + 1)), (by first | rfl | (simp; done) | (simp [*]; done)), H', ⟨by have := HK1.out; omega⟩, by repeat (first | exact Drawn0.refl _ | apply Drawn0.step)⟩
              · rw [if_neg c7] at H
                have c7b0 : ((rd l0 x5_1) == (rd l1 x5_1)) = false := beq_eq_false_iff_ne.mpr c7
                have c7b1 : ((rd l0 x5_1) != (rd l1 x5_1)) = true := bne_iff_ne.mpr c7
                obtain rfl := Option.some.inj H
                have p140 : 0 ≤ (x5_1 : Int) := of_decide_eq_true (by first | (with_reducible assumption) | assumption)
                have q140 : x5_1 < (l0.length : Int) := of_decide_eq_true (by first | (with_reducible assumption) | assumption)
                obtain ⟨ad140, e140, hx140_0⟩ := Kd.at_int HR0.out x5_1 p140 q140
                cases e140
                replace p140 := eq_true p140
                replace q140 := eq_true q140
                have p141 : 0 ≤ (x5_1 : Int) := of_decide_eq_true (by first | (with_reducible assumption) | assumption)
                have q141 : x5_1 < (l1.length : Int) := of_decide_eq_true (by first | (with_reducible assumption) | assumption)
                obtain ⟨ad141, e141, hx141_0⟩ := Kd.at_int HR1.out x5_1 p141 q141
                cases e141
                replace p141 := eq_true p141
                replace q141 := eq_true q141
                go_wp2
                repeat (go_quiet (fail); try go_wp2)
                go_ret
                exact ⟨by first | rfl | (simp; done) | (simp [*]; done), by repeat (first | exact Drawn0.refl _ | apply Drawn0.step)⟩
            · rw [if_neg c6] at H
              exact absurd H (by simp)
          · rw [if_neg c5] at H
            exact absurd H (by simp)
        · rw [if_neg c4] at H
          have c4b0 : decide (x5_1 < (l0.length : Int)) = false := decide_eq_false c4
          clear c4
          obtain rfl := Option.some.inj H
          go_wp2
          repeat (go_quiet (fail); try go_wp2)
          go_ret
          exact ⟨by first | rfl | (simp; done) | (simp [*]; done), by repeat (first | exact Drawn0.refl _ | apply Drawn0.step)⟩
  · rw [if_neg c3] at H
    have c3b0 : ((l0.length : Int) == (l1.length : Int)) = false := beq_eq_false_iff_ne.mpr c3
    have c3b1 : ((l0.length : Int) != (l1.length : Int)) = true := bne_iff_ne.mpr c3
    have c3b2 : (l0.length == l1.length) = false := by first | simpa using c3 | (simp at c3 ⊢; omega)
    obtain rfl := Option.some.inj H
    go_enter Try.func17, Try.ntmps17
    go_wp2
    repeat (go_quiet (fail); try go_wp2)
    go_ret
    exact ⟨by first | rfl | (simp; done) | (simp [*]; done), by repeat (first | exact Drawn0.refl _ | apply Drawn0.step)⟩

/-! ### supercargolaw43_awake: function 10 -/
def supercargolaw43_awake.f (k : Nat)  : Option (Bool) := (some (([(⟨(⟨#[115, 104, 105, 112]⟩ : ByteArray), 60⟩ : S35), (⟨(⟨#[97]⟩ : ByteArray), 30⟩ : S35), (⟨(⟨#[98]⟩ : ByteArray), 10⟩ : S35)] : List (S35)) : List (S35))).bind fun y142 => ((average_Whole.f k y142 (([0, 20, 0] : List Int)) 0).bind fun bt148 => ((average_Pays.f k y142 (([0, 20, 0] : List Int)) 0).bind fun bt158 => (if bt148.2.2 = 0 then (if bt158.2 = 0 then ((supercargoref04_Same.f k bt148.1 (([12, 6, 2] : List Int))).bind fun t165 => (if t165 = true then ((supercargoref04_Same.f k bt148.2.1 (([(-12), 14, (-2)] : List Int))).bind fun t169 => (if t169 = true then ((supercargoref43_Debts.f k bt158.1 (([(⟨(⟨#[115, 104, 105, 112]⟩ : ByteArray), (⟨#[97]⟩ : ByteArray), (⟨#[]⟩ : ByteArray), 12⟩ : S40), (⟨(⟨#[98]⟩ : ByteArray), (⟨#[97]⟩ : ByteArray), (⟨#[]⟩ : ByteArray), 2⟩ : S40)] : List (S40)))).bind fun t173 => (some t173)) else (none))) else (none))) else (none)) else (none))))
theorem supercargolaw43_awake.mono : ∀ k, LeO (supercargolaw43_awake.f k ) (supercargolaw43_awake.f (k + 1) ) := by
  intro  k
  unfold supercargolaw43_awake.f
  repeat' first
      | (with_reducible exact average_Pays.mono _ _ _ _)
      | (with_reducible exact average_Whole.mono _ _ _ _)
      | (with_reducible exact supercargoref04_Same.mono _ _ _)
      | (with_reducible exact supercargoref43_Debts.mono _ _ _)
      | (with_reducible exact LeO.refl _)
      | (with_reducible exact LeO.none _)
      | (with_reducible refine LeO.ite ?_ ?_)
      | (with_reducible refine LeO.bind ?_ (fun _ => ?_))
      | exact average_Pays.mono _ _ _ _
      | exact average_Whole.mono _ _ _ _
      | exact supercargoref04_Same.mono _ _ _
      | exact supercargoref43_Debts.mono _ _ _
      | exact LeO.none _
      | refine LeO.ite ?_ ?_
      | refine LeO.bind ?_ (fun _ => ?_)
set_option maxHeartbeats 8000000 in
set_option maxRecDepth 100000 in
theorem supercargolaw43_awake.calls (k : Nat)  (r : Bool) (w : World) (h : supercargolaw43_awake.f k  = some r) :
    Calls Try.prog 10 #[] w fun e w' => e = .returned (.bool r) ∧ Below w.heap.size w w' := by
  have hu35 := Try.underlying35
  have hu40 := Try.underlying40
  have HB := Aside0.mk (Below.refl w.heap.size w)
  have H : ((some (([(⟨(⟨#[115, 104, 105, 112]⟩ : ByteArray), 60⟩ : S35), (⟨(⟨#[97]⟩ : ByteArray), 30⟩ : S35), (⟨(⟨#[98]⟩ : ByteArray), 10⟩ : S35)] : List (S35)) : List (S35))).bind fun y142 => ((average_Whole.f k y142 (([0, 20, 0] : List Int)) 0).bind fun bt148 => ((average_Pays.f k y142 (([0, 20, 0] : List Int)) 0).bind fun bt158 => (if bt148.2.2 = 0 then (if bt158.2 = 0 then ((supercargoref04_Same.f k bt148.1 (([12, 6, 2] : List Int))).bind fun t165 => (if t165 = true then ((supercargoref04_Same.f k bt148.2.1 (([(-12), 14, (-2)] : List Int))).bind fun t169 => (if t169 = true then ((supercargoref43_Debts.f k bt158.1 (([(⟨(⟨#[115, 104, 105, 112]⟩ : ByteArray), (⟨#[97]⟩ : ByteArray), (⟨#[]⟩ : ByteArray), 12⟩ : S40), (⟨(⟨#[98]⟩ : ByteArray), (⟨#[97]⟩ : ByteArray), (⟨#[]⟩ : ByteArray), 2⟩ : S40)] : List (S40)))).bind fun t173 => (some t173)) else (none))) else (none))) else (none)) else (none))))) = some r := h
  clear h
  obtain ⟨y142, hy142⟩ : ∃ y_ : List (S35), y_ = (([(⟨(⟨#[115, 104, 105, 112]⟩ : ByteArray), 60⟩ : S35), (⟨(⟨#[97]⟩ : ByteArray), 30⟩ : S35), (⟨(⟨#[98]⟩ : ByteArray), 10⟩ : S35)] : List (S35))) := ⟨_, rfl⟩
  replace H : ((average_Whole.f k y142 (([0, 20, 0] : List Int)) 0).bind fun bt148 => ((average_Pays.f k y142 (([0, 20, 0] : List Int)) 0).bind fun bt158 => (if bt148.2.2 = 0 then (if bt158.2 = 0 then ((supercargoref04_Same.f k bt148.1 (([12, 6, 2] : List Int))).bind fun t165 => (if t165 = true then ((supercargoref04_Same.f k bt148.2.1 (([(-12), 14, (-2)] : List Int))).bind fun t169 => (if t169 = true then ((supercargoref43_Debts.f k bt158.1 (([(⟨(⟨#[115, 104, 105, 112]⟩ : ByteArray), (⟨#[97]⟩ : ByteArray), (⟨#[]⟩ : ByteArray), 12⟩ : S40), (⟨(⟨#[98]⟩ : ByteArray), (⟨#[97]⟩ : ByteArray), (⟨#[]⟩ : ByteArray), 2⟩ : S40)] : List (S40)))).bind fun t173 => (some t173)) else (none))) else (none))) else (none)) else (none)))) = some r := by first | (rw [hy142]; with_reducible exact H) | (have H2_ := (Option.bind_some _ _).symm.trans H; rw [hy142]; with_reducible exact H2_) | (have H2_ := (Option.bind_some _ _).symm.trans H; with_reducible exact H2_) | with_reducible exact H | (rw [hy142]; exact H) | exact H
  have Ny142 := Aside0.mk hy142
  clear hy142
  obtain ⟨y145, hy145⟩ : ∃ y_ : List Int, y_ = (([0, 20, 0] : List Int)) := ⟨_, rfl⟩
  replace H : ((average_Whole.f k y142 y145 0).bind fun bt148 => ((average_Pays.f k y142 (([0, 20, 0] : List Int)) 0).bind fun bt158 => (if bt148.2.2 = 0 then (if bt158.2 = 0 then ((supercargoref04_Same.f k bt148.1 (([12, 6, 2] : List Int))).bind fun t165 => (if t165 = true then ((supercargoref04_Same.f k bt148.2.1 (([(-12), 14, (-2)] : List Int))).bind fun t169 => (if t169 = true then ((supercargoref43_Debts.f k bt158.1 (([(⟨(⟨#[115, 104, 105, 112]⟩ : ByteArray), (⟨#[97]⟩ : ByteArray), (⟨#[]⟩ : ByteArray), 12⟩ : S40), (⟨(⟨#[98]⟩ : ByteArray), (⟨#[97]⟩ : ByteArray), (⟨#[]⟩ : ByteArray), 2⟩ : S40)] : List (S40)))).bind fun t173 => (some t173)) else (none))) else (none))) else (none)) else (none)))) = some r := by first | (rw [hy145]; with_reducible exact H) | (have H2_ := (Option.bind_some _ _).symm.trans H; rw [hy145]; with_reducible exact H2_) | (have H2_ := (Option.bind_some _ _).symm.trans H; with_reducible exact H2_) | with_reducible exact H | (rw [hy145]; exact H) | exact H
  have Ny145 := Aside0.mk hy145
  clear hy145
  replace H := Option.bind_eq_some_iff.mp H
  obtain ⟨⟨t148, t149, t150⟩, A10, H⟩ := H
  replace H : ((average_Pays.f k y142 (([0, 20, 0] : List Int)) 0).bind fun bt158 => (if t150 = 0 then (if bt158.2 = 0 then ((supercargoref04_Same.f k t148 (([12, 6, 2] : List Int))).bind fun t165 => (if t165 = true then ((supercargoref04_Same.f k t149 (([(-12), 14, (-2)] : List Int))).bind fun t169 => (if t169 = true then ((supercargoref43_Debts.f k bt158.1 (([(⟨(⟨#[115, 104, 105, 112]⟩ : ByteArray), (⟨#[97]⟩ : ByteArray), (⟨#[]⟩ : ByteArray), 12⟩ : S40), (⟨(⟨#[98]⟩ : ByteArray), (⟨#[97]⟩ : ByteArray), (⟨#[]⟩ : ByteArray), 2⟩ : S40)] : List (S40)))).bind fun t173 => (some t173)) else (none))) else (none))) else (none)) else (none))) = some r := H
  have A1 := Aside0.mk A10
  clear A10
  obtain ⟨y155, hy155⟩ : ∃ y_ : List Int, y_ = (([0, 20, 0] : List Int)) := ⟨_, rfl⟩
  replace H : ((average_Pays.f k y142 y155 0).bind fun bt158 => (if t150 = 0 then (if bt158.2 = 0 then ((supercargoref04_Same.f k t148 (([12, 6, 2] : List Int))).bind fun t165 => (if t165 = true then ((supercargoref04_Same.f k t149 (([(-12), 14, (-2)] : List Int))).bind fun t169 => (if t169 = true then ((supercargoref43_Debts.f k bt158.1 (([(⟨(⟨#[115, 104, 105, 112]⟩ : ByteArray), (⟨#[97]⟩ : ByteArray), (⟨#[]⟩ : ByteArray), 12⟩ : S40), (⟨(⟨#[98]⟩ : ByteArray), (⟨#[97]⟩ : ByteArray), (⟨#[]⟩ : ByteArray), 2⟩ : S40)] : List (S40)))).bind fun t173 => (some t173)) else (none))) else (none))) else (none)) else (none))) = some r := by first | (rw [hy155]; with_reducible exact H) | (have H2_ := (Option.bind_some _ _).symm.trans H; rw [hy155]; with_reducible exact H2_) | (have H2_ := (Option.bind_some _ _).symm.trans H; with_reducible exact H2_) | with_reducible exact H | (rw [hy155]; exact H) | exact H
  have Ny155 := Aside0.mk hy155
  clear hy155
  replace H := Option.bind_eq_some_iff.mp H
  obtain ⟨⟨t158, t159⟩, A20, H⟩ := H
  replace H : (if t150 = 0 then (if t159 = 0 then ((supercargoref04_Same.f k t148 (([12, 6, 2] : List Int))).bind fun t165 => (if t165 = true then ((supercargoref04_Same.f k t149 (([(-12), 14, (-2)] : List Int))).bind fun t169 => (if t169 = true then ((supercargoref43_Debts.f k t158 (([(⟨(⟨#[115, 104, 105, 112]⟩ : ByteArray), (⟨#[97]⟩ : ByteArray), (⟨#[]⟩ : ByteArray), 12⟩ : S40), (⟨(⟨#[98]⟩ : ByteArray), (⟨#[97]⟩ : ByteArray), (⟨#[]⟩ : ByteArray), 2⟩ : S40)] : List (S40)))).bind fun t173 => (some t173)) else (none))) else (none))) else (none)) else (none)) = some r := H
  have A2 := Aside0.mk A20
  clear A20
  by_cases c3 : t150 = 0
  · rw [if_pos c3] at H
    have c3b0 : (t150 == 0) = true := beq_iff_eq.mpr c3
    have c3b1 : (t150 != 0) = false := bne_eq_false_iff_eq.mpr c3
    clear c3
    by_cases c4 : t159 = 0
    · rw [if_pos c4] at H
      have c4b0 : (t159 == 0) = true := beq_iff_eq.mpr c4
      have c4b1 : (t159 != 0) = false := bne_eq_false_iff_eq.mpr c4
      clear c4
      obtain ⟨y162, hy162⟩ : ∃ y_ : List Int, y_ = (([12, 6, 2] : List Int)) := ⟨_, rfl⟩
      replace H : ((supercargoref04_Same.f k t148 y162).bind fun t165 => (if t165 = true then ((supercargoref04_Same.f k t149 (([(-12), 14, (-2)] : List Int))).bind fun t169 => (if t169 = true then ((supercargoref43_Debts.f k t158 (([(⟨(⟨#[115, 104, 105, 112]⟩ : ByteArray), (⟨#[97]⟩ : ByteArray), (⟨#[]⟩ : ByteArray), 12⟩ : S40), (⟨(⟨#[98]⟩ : ByteArray), (⟨#[97]⟩ : ByteArray), (⟨#[]⟩ : ByteArray), 2⟩ : S40)] : List (S40)))).bind fun t173 => (some t173)) else (none))) else (none))) = some r := by first | (rw [hy162]; with_reducible exact H) | (have H2_ := (Option.bind_some _ _).symm.trans H; rw [hy162]; with_reducible exact H2_) | (have H2_ := (Option.bind_some _ _).symm.trans H; with_reducible exact H2_) | with_reducible exact H | (rw [hy162]; exact H) | exact H
      have Ny162 := Aside0.mk hy162
      clear hy162
      replace H := Option.bind_eq_some_iff.mp H
      obtain ⟨t165, A50, H⟩ := H
      replace H : (if t165 = true then ((supercargoref04_Same.f k t149 (([(-12), 14, (-2)] : List Int))).bind fun t169 => (if t169 = true then ((supercargoref43_Debts.f k t158 (([(⟨(⟨#[115, 104, 105, 112]⟩ : ByteArray), (⟨#[97]⟩ : ByteArray), (⟨#[]⟩ : ByteArray), 12⟩ : S40), (⟨(⟨#[98]⟩ : ByteArray), (⟨#[97]⟩ : ByteArray), (⟨#[]⟩ : ByteArray), 2⟩ : S40)] : List (S40)))).bind fun t173 => (some t173)) else (none))) else (none)) = some r := H
      have A5 := Aside0.mk A50
      clear A50
      by_cases c6 : t165 = true
      · subst c6
        have H1 : ((supercargoref04_Same.f k t149 (([(-12), 14, (-2)] : List Int))).bind fun t169 => (if t169 = true then ((supercargoref43_Debts.f k t158 (([(⟨(⟨#[115, 104, 105, 112]⟩ : ByteArray), (⟨#[97]⟩ : ByteArray), (⟨#[]⟩ : ByteArray), 12⟩ : S40), (⟨(⟨#[98]⟩ : ByteArray), (⟨#[97]⟩ : ByteArray), (⟨#[]⟩ : ByteArray), 2⟩ : S40)] : List (S40)))).bind fun t173 => (some t173)) else (none))) = some r := by rw [if_pos rfl] at H; exact H
        clear H
        have H := H1
        clear H1
        obtain ⟨y166, hy166⟩ : ∃ y_ : List Int, y_ = (([(-12), 14, (-2)] : List Int)) := ⟨_, rfl⟩
        replace H : ((supercargoref04_Same.f k t149 y166).bind fun t169 => (if t169 = true then ((supercargoref43_Debts.f k t158 (([(⟨(⟨#[115, 104, 105, 112]⟩ : ByteArray), (⟨#[97]⟩ : ByteArray), (⟨#[]⟩ : ByteArray), 12⟩ : S40), (⟨(⟨#[98]⟩ : ByteArray), (⟨#[97]⟩ : ByteArray), (⟨#[]⟩ : ByteArray), 2⟩ : S40)] : List (S40)))).bind fun t173 => (some t173)) else (none))) = some r := by first | (rw [hy166]; with_reducible exact H) | (have H2_ := (Option.bind_some _ _).symm.trans H; rw [hy166]; with_reducible exact H2_) | (have H2_ := (Option.bind_some _ _).symm.trans H; with_reducible exact H2_) | with_reducible exact H | (rw [hy166]; exact H) | exact H
        have Ny166 := Aside0.mk hy166
        clear hy166
        replace H := Option.bind_eq_some_iff.mp H
        obtain ⟨t169, A70, H⟩ := H
        replace H : (if t169 = true then ((supercargoref43_Debts.f k t158 (([(⟨(⟨#[115, 104, 105, 112]⟩ : ByteArray), (⟨#[97]⟩ : ByteArray), (⟨#[]⟩ : ByteArray), 12⟩ : S40), (⟨(⟨#[98]⟩ : ByteArray), (⟨#[97]⟩ : ByteArray), (⟨#[]⟩ : ByteArray), 2⟩ : S40)] : List (S40)))).bind fun t173 => (some t173)) else (none)) = some r := H
        have A7 := Aside0.mk A70
        clear A70
        by_cases c8 : t169 = true
        · subst c8
          have H1 : ((supercargoref43_Debts.f k t158 (([(⟨(⟨#[115, 104, 105, 112]⟩ : ByteArray), (⟨#[97]⟩ : ByteArray), (⟨#[]⟩ : ByteArray), 12⟩ : S40), (⟨(⟨#[98]⟩ : ByteArray), (⟨#[97]⟩ : ByteArray), (⟨#[]⟩ : ByteArray), 2⟩ : S40)] : List (S40)))).bind fun t173 => (some t173)) = some r := by rw [if_pos rfl] at H; exact H
          clear H
          have H := H1
          clear H1
          obtain ⟨y170, hy170⟩ : ∃ y_ : List (S40), y_ = (([(⟨(⟨#[115, 104, 105, 112]⟩ : ByteArray), (⟨#[97]⟩ : ByteArray), (⟨#[]⟩ : ByteArray), 12⟩ : S40), (⟨(⟨#[98]⟩ : ByteArray), (⟨#[97]⟩ : ByteArray), (⟨#[]⟩ : ByteArray), 2⟩ : S40)] : List (S40))) := ⟨_, rfl⟩
          replace H : ((supercargoref43_Debts.f k t158 y170).bind fun t173 => (some t173)) = some r := by first | (rw [hy170]; with_reducible exact H) | (have H2_ := (Option.bind_some _ _).symm.trans H; rw [hy170]; with_reducible exact H2_) | (have H2_ := (Option.bind_some _ _).symm.trans H; with_reducible exact H2_) | with_reducible exact H | (rw [hy170]; exact H) | exact H
          have Ny170 := Aside0.mk hy170
          clear hy170
          replace H := Option.bind_eq_some_iff.mp H
          obtain ⟨t173, A90, H⟩ := H
          replace H : (some t173) = some r := H
          have A9 := Aside0.mk A90
          clear A90
          obtain rfl := Option.some.inj H
          go_enter Try.func10, Try.ntmps10
          go_wp2_with (first | ((with_reducible refine gate_dst (N := 10) rfl ?_); (try (refine gate_guard (by rfl) ?_; dsimp only)); refine Kd.R_lit k35 _ 35 ?hg (N := 10) ?hd (xs := ([(⟨(⟨#[115, 104, 105, 112]⟩ : ByteArray), 60⟩ : S35), (⟨(⟨#[97]⟩ : ByteArray), 30⟩ : S35), (⟨(⟨#[98]⟩ : ByteArray), 10⟩ : S35)] : List (S35))) (inner := [.string (⟨#[115, 104, 105, 112]⟩ : ByteArray), .int .i64 60, .string (⟨#[97]⟩ : ByteArray), .int .i64 30, .string (⟨#[98]⟩ : ByteArray), .int .i64 10]) (ok := fun _ => True) (okp := fun _ => True) ?hr ?hp (fun _ hk => hk) trivial (Below.refl _ _) (Nat.le_refl _) (by simp) ?_; (case hd => rfl); (case hg => rfl); (case hr => first | (go_simp; done) | (go_simp; rfl)); (case hp => exact (Reps.c2 (show Kd.M k35 _ _ _ (⟨(⟨#[115, 104, 105, 112]⟩ : ByteArray), 60⟩ : S35) [.string (⟨#[115, 104, 105, 112]⟩ : ByteArray), .int .i64 60] from (k35_mkM _ _ _ (⟨(⟨#[115, 104, 105, 112]⟩ : ByteArray), 60⟩ : S35) )) (Reps.c2 (show Kd.M k35 _ _ _ (⟨(⟨#[97]⟩ : ByteArray), 30⟩ : S35) [.string (⟨#[97]⟩ : ByteArray), .int .i64 30] from (k35_mkM _ _ _ (⟨(⟨#[97]⟩ : ByteArray), 30⟩ : S35) )) (Reps.c2 (show Kd.M k35 _ _ _ (⟨(⟨#[98]⟩ : ByteArray), 10⟩ : S35) [.string (⟨#[98]⟩ : ByteArray), .int .i64 10] from (k35_mkM _ _ _ (⟨(⟨#[98]⟩ : ByteArray), 10⟩ : S35) )) (Reps.none _ _))))); intro v143 w10 ho11 hb hg_ hnew_; clear hg_ hnew_; (first | rw [← Ny142.out] at ho11 | (simp only [Int.reduceToNat] at ho11; rw [← Ny142.out] at ho11)); have n0_ := Aside0.mk (Kd.R_lower ho11 (below_size (by repeat (first | (with_reducible first | exact HB.out | apply below_alloc | apply pw_below_drewN | apply below_drew1) | exact HB.out)))); have n1_ := Aside0.mk (below_step (by repeat (first | (with_reducible first | exact HB.out | apply below_alloc | apply pw_below_drewN | apply below_drew1) | exact HB.out)) hb); clear HB; have HO144 := n0_; have HB := n1_; clear n0_ n1_; clear hb ho11) | ((with_reducible refine gate_dst (N := 13) rfl ?_); (try (refine gate_guard (by rfl) ?_; dsimp only)); refine Kd.R_lit (Kd.int .i64) _ 2 ?hg (N := 13) ?hd (xs := ([0, 20, 0] : List Int)) (inner := [.int .i64 0, .int .i64 20, .int .i64 0]) (ok := fun _ => True) (okp := fun _ => True) ?hr ?hp (fun _ hk => hk) trivial (Below.refl _ _) (Nat.le_refl _) (by simp) ?_; (case hd => rfl); (case hg => rfl); (case hr => first | (go_simp; done) | (go_simp; rfl)); (case hp => exact (Reps.one (show Kd.M (Kd.int .i64) _ _ _ 0 [.int .i64 0] from rfl) (Reps.one (show Kd.M (Kd.int .i64) _ _ _ 20 [.int .i64 20] from rfl) (Reps.one (show Kd.M (Kd.int .i64) _ _ _ 0 [.int .i64 0] from rfl) (Reps.none _ _))))); intro v146 w12 ho13 hb hg_ hnew_; clear hg_ hnew_; (first | rw [← Ny145.out] at ho13 | (simp only [Int.reduceToNat] at ho13; rw [← Ny145.out] at ho13)); have n0_ := Aside0.mk (Kd.R_below (by (with_reducible repeat (first | apply Kd.R_alloc | apply Kd.R_drewN | apply Kd.R_drew)); exact HO144.out) hb); have n1_ := Aside0.mk (Kd.R_lower ho13 (below_size (by repeat (first | (with_reducible first | exact HB.out | apply below_alloc | apply pw_below_drewN | apply below_drew1) | exact HB.out)))); have n2_ := Aside0.mk (below_step (by repeat (first | (with_reducible first | exact HB.out | apply below_alloc | apply pw_below_drewN | apply below_drew1) | exact HB.out)) hb); clear HO144; clear HB; have HO144 := n0_; have HO147 := n1_; have HB := n2_; clear n0_ n1_ n2_; clear hb ho13; obtain ⟨Ao14, co14, eo14⟩ := Kd.R_slice HO144.out; subst eo14; obtain ⟨Ao15, co15, eo15⟩ := Kd.R_slice HO147.out; subst eo15) | ((with_reducible refine gate_callee (f := 15) rfl ?_); refine goesL_ (some 14) rfl rfl Try.func15 (by kernel_rfl) rfl #[.slice Ao14 y142.length co14, .slice Ao15 y145.length co15, .int .i64 0] rfl (by (try simp only [List.map_toArray, List.map_cons, List.map_nil]); first | done | rfl | (simp only [List.length_drop, List.length_take]; rfl)) ?_; (with_reducible refine (average_Whole.calls k _ _ y142 _ _ y145 0 t148 t149 t150 _ ?side1 ?side2 ?side3 ?side4 A1.out).mono ?_); (case side1 => repeat (first | exact (Kd.R_reads' HO144.out).2.2 | (with_reducible refine Kd.C_alloc ?_ _) | (with_reducible refine Kd.C_drewN ?_ _) | (with_reducible refine Kd.C_drew ?_))); (case side2 => exact (Kd.R_reads' HO144.out).2.1); (case side3 => repeat (first | exact (Kd.R_reads' HO147.out).2.2 | (with_reducible refine Kd.C_alloc ?_ _) | (with_reducible refine Kd.C_drewN ?_ _) | (with_reducible refine Kd.C_drew ?_))); (case side4 => exact (Kd.R_reads' HO147.out).2.1); rintro e w16 ⟨v151, v153, rfl, ho0, ho1, hb⟩; refine ⟨_, rfl, ?_⟩; have n0_ := Aside0.mk (Kd.R_below (by (with_reducible repeat (first | apply Kd.R_alloc | apply Kd.R_drewN | apply Kd.R_drew)); exact HO144.out) hb); have n1_ := Aside0.mk (Kd.R_mono (Kd.R_told (Kd.R_told (Kd.R_old (by (with_reducible repeat (first | apply Kd.R_alloc | apply Kd.R_drewN | apply Kd.R_drew)); exact HO147.out) hb) (Kd.R_base ho0)) (Kd.R_base ho1)) (fun _ h_ => h_.1)); have n2_ := Aside0.mk (Kd.R_lower (Kd.R_new' ho0 (Kd.R_lt (by (with_reducible repeat (first | apply Kd.R_alloc | apply Kd.R_drewN | apply Kd.R_drew)); exact HO147.out))) (below_size (by repeat (first | (with_reducible first | exact HB.out | apply below_alloc | apply pw_below_drewN | apply below_drew1) | exact HB.out)))); have n3_ := Aside0.mk (Kd.R_lower (Kd.R_new' ho1 (Kd.R_lt (by (with_reducible repeat (first | apply Kd.R_alloc | apply Kd.R_drewN | apply Kd.R_drew)); exact HO147.out))) (below_size (by repeat (first | (with_reducible first | exact HB.out | apply below_alloc | apply pw_below_drewN | apply below_drew1) | exact HB.out)))); have n4_ := Aside0.mk (below_step (by repeat (first | (with_reducible first | exact HB.out | apply below_alloc | apply pw_below_drewN | apply below_drew1) | exact HB.out)) hb); clear HO144; clear HO147; clear HB; have HO144 := n0_; have HO147 := n1_; have HO152 := n2_; have HO154 := n3_; have HB := n4_; clear n0_ n1_ n2_ n3_ n4_; (try clear hb); (try clear hb2); (try clear hk); (try clear hi); (try clear ho0); (try clear ho1)) | ((with_reducible refine gate_dst (N := 20) rfl ?_); (try (refine gate_guard (by rfl) ?_; dsimp only)); refine Kd.R_lit (Kd.int .i64) _ 2 ?hg (N := 20) ?hd (xs := ([0, 20, 0] : List Int)) (inner := [.int .i64 0, .int .i64 20, .int .i64 0]) (ok := fun _ => True) (okp := fun _ => True) ?hr ?hp (fun _ hk => hk) trivial (Below.refl _ _) (Nat.le_refl _) (by simp) ?_; (case hd => rfl); (case hg => rfl); (case hr => first | (go_simp; done) | (go_simp; rfl)); (case hp => exact (Reps.one (show Kd.M (Kd.int .i64) _ _ _ 0 [.int .i64 0] from rfl) (Reps.one (show Kd.M (Kd.int .i64) _ _ _ 20 [.int .i64 20] from rfl) (Reps.one (show Kd.M (Kd.int .i64) _ _ _ 0 [.int .i64 0] from rfl) (Reps.none _ _))))); intro v156 w17 ho18 hb hg_ hnew_; clear hg_ hnew_; (first | rw [← Ny155.out] at ho18 | (simp only [Int.reduceToNat] at ho18; rw [← Ny155.out] at ho18)); have n0_ := Aside0.mk (Kd.R_below (by (with_reducible repeat (first | apply Kd.R_alloc | apply Kd.R_drewN | apply Kd.R_drew)); exact HO144.out) hb); have n1_ := Aside0.mk (Kd.R_elder' (by (with_reducible repeat (first | apply Kd.R_alloc | apply Kd.R_drewN | apply Kd.R_drew)); exact HO147.out) (Kd.R_base ho18) hb); have n2_ := Aside0.mk (Kd.R_elder' (by (with_reducible repeat (first | apply Kd.R_alloc | apply Kd.R_drewN | apply Kd.R_drew)); exact HO152.out) (Kd.R_base ho18) hb); have n3_ := Aside0.mk (Kd.R_elder' (by (with_reducible repeat (first | apply Kd.R_alloc | apply Kd.R_drewN | apply Kd.R_drew)); exact HO154.out) (Kd.R_base ho18) hb); have n4_ := Aside0.mk (Kd.R_lower (Kd.R_new' (Kd.R_new' (Kd.R_new' ho18 (Kd.R_lt (by (with_reducible repeat (first | apply Kd.R_alloc | apply Kd.R_drewN | apply Kd.R_drew)); exact HO147.out))) (Kd.R_lt (by (with_reducible repeat (first | apply Kd.R_alloc | apply Kd.R_drewN | apply Kd.R_drew)); exact HO152.out))) (Kd.R_lt (by (with_reducible repeat (first | apply Kd.R_alloc | apply Kd.R_drewN | apply Kd.R_drew)); exact HO154.out))) (below_size (by repeat (first | (with_reducible first | exact HB.out | apply below_alloc | apply pw_below_drewN | apply below_drew1) | exact HB.out)))); have n5_ := Aside0.mk (below_step (by repeat (first | (with_reducible first | exact HB.out | apply below_alloc | apply pw_below_drewN | apply below_drew1) | exact HB.out)) hb); clear HO144; clear HO147; clear HO152; clear HO154; clear HB; have HO144 := n0_; have HO147 := n1_; have HO152 := n2_; have HO154 := n3_; have HO157 := n4_; have HB := n5_; clear n0_ n1_ n2_ n3_ n4_ n5_; clear hb ho18; obtain ⟨Ao19, co19, eo19⟩ := Kd.R_slice HO157.out; subst eo19) | ((with_reducible refine gate_callee (f := 12) rfl ?_); refine goesL_ (some 21) rfl rfl Try.func12 (by kernel_rfl) rfl #[.slice Ao14 y142.length co14, .slice Ao19 y155.length co19, .int .i64 0] rfl (by (try simp only [List.map_toArray, List.map_cons, List.map_nil]); first | done | rfl | (simp only [List.length_drop, List.length_take]; rfl)) ?_; (with_reducible refine (average_Pays.calls k _ _ y142 _ _ y155 0 t158 t159 _ ?side1 ?side2 ?side3 ?side4 A2.out).mono ?_); (case side1 => repeat (first | exact (Kd.R_reads' HO144.out).2.2 | (with_reducible refine Kd.C_alloc ?_ _) | (with_reducible refine Kd.C_drewN ?_ _) | (with_reducible refine Kd.C_drew ?_))); (case side2 => exact (Kd.R_reads' HO144.out).2.1); (case side3 => repeat (first | exact (Kd.R_reads' HO157.out).2.2 | (with_reducible refine Kd.C_alloc ?_ _) | (with_reducible refine Kd.C_drewN ?_ _) | (with_reducible refine Kd.C_drew ?_))); (case side4 => exact (Kd.R_reads' HO157.out).2.1); rintro e w20 ⟨v160, rfl, ho0, hb⟩; refine ⟨_, rfl, ?_⟩; have n0_ := Aside0.mk (Kd.R_below (by (with_reducible repeat (first | apply Kd.R_alloc | apply Kd.R_drewN | apply Kd.R_drew)); exact HO144.out) hb); have n1_ := Aside0.mk (Kd.R_below (by (with_reducible repeat (first | apply Kd.R_alloc | apply Kd.R_drewN | apply Kd.R_drew)); exact HO147.out) hb); have n2_ := Aside0.mk (Kd.R_below (by (with_reducible repeat (first | apply Kd.R_alloc | apply Kd.R_drewN | apply Kd.R_drew)); exact HO152.out) hb); have n3_ := Aside0.mk (Kd.R_below (by (with_reducible repeat (first | apply Kd.R_alloc | apply Kd.R_drewN | apply Kd.R_drew)); exact HO154.out) hb); have n4_ := Aside0.mk (Kd.R_below (by (with_reducible repeat (first | apply Kd.R_alloc | apply Kd.R_drewN | apply Kd.R_drew)); exact HO157.out) hb); have n5_ := Aside0.mk (Kd.R_lower ho0 (below_size (by repeat (first | (with_reducible first | exact HB.out | apply below_alloc | apply pw_below_drewN | apply below_drew1) | exact HB.out)))); have n6_ := Aside0.mk (below_step (by repeat (first | (with_reducible first | exact HB.out | apply below_alloc | apply pw_below_drewN | apply below_drew1) | exact HB.out)) hb); clear HO144; clear HO147; clear HO152; clear HO154; clear HO157; clear HB; have HO144 := n0_; have HO147 := n1_; have HO152 := n2_; have HO154 := n3_; have HO157 := n4_; have HO161 := n5_; have HB := n6_; clear n0_ n1_ n2_ n3_ n4_ n5_ n6_; (try clear hb); (try clear hb2); (try clear hk); (try clear hi); (try clear ho0)) | ((with_reducible refine gate_dst (N := 32) rfl ?_); (try (refine gate_guard (by rfl) ?_; dsimp only)); refine Kd.R_lit (Kd.int .i64) _ 2 ?hg (N := 32) ?hd (xs := ([12, 6, 2] : List Int)) (inner := [.int .i64 12, .int .i64 6, .int .i64 2]) (ok := fun _ => True) (okp := fun _ => True) ?hr ?hp (fun _ hk => hk) trivial (Below.refl _ _) (Nat.le_refl _) (by simp) ?_; (case hd => rfl); (case hg => rfl); (case hr => first | (go_simp; done) | (go_simp; rfl)); (case hp => exact (Reps.one (show Kd.M (Kd.int .i64) _ _ _ 12 [.int .i64 12] from rfl) (Reps.one (show Kd.M (Kd.int .i64) _ _ _ 6 [.int .i64 6] from rfl) (Reps.one (show Kd.M (Kd.int .i64) _ _ _ 2 [.int .i64 2] from rfl) (Reps.none _ _))))); intro v163 w21 ho22 hb hg_ hnew_; clear hg_ hnew_; (first | rw [← Ny162.out] at ho22 | (simp only [Int.reduceToNat] at ho22; rw [← Ny162.out] at ho22)); have n0_ := Aside0.mk (Kd.R_below (by (with_reducible repeat (first | apply Kd.R_alloc | apply Kd.R_drewN | apply Kd.R_drew)); exact HO144.out) hb); have n1_ := Aside0.mk (Kd.R_elder' (by (with_reducible repeat (first | apply Kd.R_alloc | apply Kd.R_drewN | apply Kd.R_drew)); exact HO147.out) (Kd.R_base ho22) hb); have n2_ := Aside0.mk (Kd.R_elder' (by (with_reducible repeat (first | apply Kd.R_alloc | apply Kd.R_drewN | apply Kd.R_drew)); exact HO152.out) (Kd.R_base ho22) hb); have n3_ := Aside0.mk (Kd.R_elder' (by (with_reducible repeat (first | apply Kd.R_alloc | apply Kd.R_drewN | apply Kd.R_drew)); exact HO154.out) (Kd.R_base ho22) hb); have n4_ := Aside0.mk (Kd.R_elder' (by (with_reducible repeat (first | apply Kd.R_alloc | apply Kd.R_drewN | apply Kd.R_drew)); exact HO157.out) (Kd.R_base ho22) hb); have n5_ := Aside0.mk (Kd.R_below (by (with_reducible repeat (first | apply Kd.R_alloc | apply Kd.R_drewN | apply Kd.R_drew)); exact HO161.out) hb); have n6_ := Aside0.mk (Kd.R_lower (Kd.R_new' (Kd.R_new' (Kd.R_new' (Kd.R_new' ho22 (Kd.R_lt (by (with_reducible repeat (first | apply Kd.R_alloc | apply Kd.R_drewN | apply Kd.R_drew)); exact HO147.out))) (Kd.R_lt (by (with_reducible repeat (first | apply Kd.R_alloc | apply Kd.R_drewN | apply Kd.R_drew)); exact HO152.out))) (Kd.R_lt (by (with_reducible repeat (first | apply Kd.R_alloc | apply Kd.R_drewN | apply Kd.R_drew)); exact HO154.out))) (Kd.R_lt (by (with_reducible repeat (first | apply Kd.R_alloc | apply Kd.R_drewN | apply Kd.R_drew)); exact HO157.out))) (below_size (by repeat (first | (with_reducible first | exact HB.out | apply below_alloc | apply pw_below_drewN | apply below_drew1) | exact HB.out)))); have n7_ := Aside0.mk (below_step (by repeat (first | (with_reducible first | exact HB.out | apply below_alloc | apply pw_below_drewN | apply below_drew1) | exact HB.out)) hb); clear HO144; clear HO147; clear HO152; clear HO154; clear HO157; clear HO161; clear HB; have HO144 := n0_; have HO147 := n1_; have HO152 := n2_; have HO154 := n3_; have HO157 := n4_; have HO161 := n5_; have HO164 := n6_; have HB := n7_; clear n0_ n1_ n2_ n3_ n4_ n5_ n6_ n7_; clear hb ho22; obtain ⟨Ao23, co23, eo23⟩ := Kd.R_slice HO152.out; subst eo23; obtain ⟨Ao24, co24, eo24⟩ := Kd.R_slice HO164.out; subst eo24) | (go_at_call 17; (with_reducible refine (supercargoref04_Same.calls k _ _ t148 _ _ y162 true _ ?side1 ?side2 ?side3 ?side4 A5.out).mono ?_); (case side1 => repeat (first | exact (Kd.R_reads' HO152.out).2.2 | (with_reducible refine Kd.C_alloc ?_ _) | (with_reducible refine Kd.C_drewN ?_ _) | (with_reducible refine Kd.C_drew ?_))); (case side2 => exact (Kd.R_reads' HO152.out).2.1); (case side3 => repeat (first | exact (Kd.R_reads' HO164.out).2.2 | (with_reducible refine Kd.C_alloc ?_ _) | (with_reducible refine Kd.C_drewN ?_ _) | (with_reducible refine Kd.C_drew ?_))); (case side4 => exact (Kd.R_reads' HO164.out).2.1); rintro e w' ⟨rfl, ⟨nd, rfl⟩⟩) | ((with_reducible refine gate_dst (N := 37) rfl ?_); (try (refine gate_guard (by rfl) ?_; dsimp only)); refine Kd.R_lit (Kd.int .i64) _ 2 ?hg (N := 37) ?hd (xs := ([(-12), 14, (-2)] : List Int)) (inner := [.int .i64 (-12), .int .i64 14, .int .i64 (-2)]) (ok := fun _ => True) (okp := fun _ => True) ?hr ?hp (fun _ hk => hk) trivial (Below.refl _ _) (Nat.le_refl _) (by simp) ?_; (case hd => rfl); (case hg => rfl); (case hr => first | (go_simp; done) | (go_simp; rfl)); (case hp => exact (Reps.one (show Kd.M (Kd.int .i64) _ _ _ (-12) [.int .i64 (-12)] from rfl) (Reps.one (show Kd.M (Kd.int .i64) _ _ _ 14 [.int .i64 14] from rfl) (Reps.one (show Kd.M (Kd.int .i64) _ _ _ (-2) [.int .i64 (-2)] from rfl) (Reps.none _ _))))); intro v167 w25 ho26 hb hg_ hnew_; clear hg_ hnew_; (first | rw [← Ny166.out] at ho26 | (simp only [Int.reduceToNat] at ho26; rw [← Ny166.out] at ho26)); have n0_ := Aside0.mk (Kd.R_below (by (with_reducible repeat (first | apply Kd.R_alloc | apply Kd.R_drewN | apply Kd.R_drew)); exact HO144.out) hb); have n1_ := Aside0.mk (Kd.R_elder' (by (with_reducible repeat (first | apply Kd.R_alloc | apply Kd.R_drewN | apply Kd.R_drew)); exact HO147.out) (Kd.R_base ho26) hb); have n2_ := Aside0.mk (Kd.R_elder' (by (with_reducible repeat (first | apply Kd.R_alloc | apply Kd.R_drewN | apply Kd.R_drew)); exact HO152.out) (Kd.R_base ho26) hb); have n3_ := Aside0.mk (Kd.R_elder' (by (with_reducible repeat (first | apply Kd.R_alloc | apply Kd.R_drewN | apply Kd.R_drew)); exact HO154.out) (Kd.R_base ho26) hb); have n4_ := Aside0.mk (Kd.R_elder' (by (with_reducible repeat (first | apply Kd.R_alloc | apply Kd.R_drewN | apply Kd.R_drew)); exact HO157.out) (Kd.R_base ho26) hb); have n5_ := Aside0.mk (Kd.R_below (by (with_reducible repeat (first | apply Kd.R_alloc | apply Kd.R_drewN | apply Kd.R_drew)); exact HO161.out) hb); have n6_ := Aside0.mk (Kd.R_elder' (by (with_reducible repeat (first | apply Kd.R_alloc | apply Kd.R_drewN | apply Kd.R_drew)); exact HO164.out) (Kd.R_base ho26) hb); have n7_ := Aside0.mk (Kd.R_lower (Kd.R_new' (Kd.R_new' (Kd.R_new' (Kd.R_new' (Kd.R_new' ho26 (Kd.R_lt (by (with_reducible repeat (first | apply Kd.R_alloc | apply Kd.R_drewN | apply Kd.R_drew)); exact HO147.out))) (Kd.R_lt (by (with_reducible repeat (first | apply Kd.R_alloc | apply Kd.R_drewN | apply Kd.R_drew)); exact HO152.out))) (Kd.R_lt (by (with_reducible repeat (first | apply Kd.R_alloc | apply Kd.R_drewN | apply Kd.R_drew)); exact HO154.out))) (Kd.R_lt (by (with_reducible repeat (first | apply Kd.R_alloc | apply Kd.R_drewN | apply Kd.R_drew)); exact HO157.out))) (Kd.R_lt (by (with_reducible repeat (first | apply Kd.R_alloc | apply Kd.R_drewN | apply Kd.R_drew)); exact HO164.out))) (below_size (by repeat (first | (with_reducible first | exact HB.out | apply below_alloc | apply pw_below_drewN | apply below_drew1) | exact HB.out)))); have n8_ := Aside0.mk (below_step (by repeat (first | (with_reducible first | exact HB.out | apply below_alloc | apply pw_below_drewN | apply below_drew1) | exact HB.out)) hb); clear HO144; clear HO147; clear HO152; clear HO154; clear HO157; clear HO161; clear HO164; clear HB; have HO144 := n0_; have HO147 := n1_; have HO152 := n2_; have HO154 := n3_; have HO157 := n4_; have HO161 := n5_; have HO164 := n6_; have HO168 := n7_; have HB := n8_; clear n0_ n1_ n2_ n3_ n4_ n5_ n6_ n7_ n8_; clear hb ho26; obtain ⟨Ao27, co27, eo27⟩ := Kd.R_slice HO154.out; subst eo27; obtain ⟨Ao28, co28, eo28⟩ := Kd.R_slice HO168.out; subst eo28) | (go_at_call 17; (with_reducible refine (supercargoref04_Same.calls k _ _ t149 _ _ y166 true _ ?side1 ?side2 ?side3 ?side4 A7.out).mono ?_); (case side1 => repeat (first | exact (Kd.R_reads' HO154.out).2.2 | (with_reducible refine Kd.C_alloc ?_ _) | (with_reducible refine Kd.C_drewN ?_ _) | (with_reducible refine Kd.C_drew ?_))); (case side2 => exact (Kd.R_reads' HO154.out).2.1); (case side3 => repeat (first | exact (Kd.R_reads' HO168.out).2.2 | (with_reducible refine Kd.C_alloc ?_ _) | (with_reducible refine Kd.C_drewN ?_ _) | (with_reducible refine Kd.C_drew ?_))); (case side4 => exact (Kd.R_reads' HO168.out).2.1); rintro e w' ⟨rfl, ⟨nd, rfl⟩⟩) | ((with_reducible refine gate_dst (N := 44) rfl ?_); (try (refine gate_guard (by rfl) ?_; dsimp only)); refine Kd.R_lit k40 _ 40 ?hg (N := 44) ?hd (xs := ([(⟨(⟨#[115, 104, 105, 112]⟩ : ByteArray), (⟨#[97]⟩ : ByteArray), (⟨#[]⟩ : ByteArray), 12⟩ : S40), (⟨(⟨#[98]⟩ : ByteArray), (⟨#[97]⟩ : ByteArray), (⟨#[]⟩ : ByteArray), 2⟩ : S40)] : List (S40))) (inner := [.string (⟨#[115, 104, 105, 112]⟩ : ByteArray), .string (⟨#[97]⟩ : ByteArray), .string (⟨#[]⟩ : ByteArray), .int .i64 12, .string (⟨#[98]⟩ : ByteArray), .string (⟨#[97]⟩ : ByteArray), .string (⟨#[]⟩ : ByteArray), .int .i64 2]) (ok := fun _ => True) (okp := fun _ => True) ?hr ?hp (fun _ hk => hk) trivial (Below.refl _ _) (Nat.le_refl _) (by simp) ?_; (case hd => rfl); (case hg => rfl); (case hr => first | (go_simp; done) | (go_simp; rfl)); (case hp => exact (Reps.c4 (show Kd.M k40 _ _ _ (⟨(⟨#[115, 104, 105, 112]⟩ : ByteArray), (⟨#[97]⟩ : ByteArray), (⟨#[]⟩ : ByteArray), 12⟩ : S40) [.string (⟨#[115, 104, 105, 112]⟩ : ByteArray), .string (⟨#[97]⟩ : ByteArray), .string (⟨#[]⟩ : ByteArray), .int .i64 12] from (k40_mkM _ _ _ (⟨(⟨#[115, 104, 105, 112]⟩ : ByteArray), (⟨#[97]⟩ : ByteArray), (⟨#[]⟩ : ByteArray), 12⟩ : S40) )) (Reps.c4 (show Kd.M k40 _ _ _ (⟨(⟨#[98]⟩ : ByteArray), (⟨#[97]⟩ : ByteArray), (⟨#[]⟩ : ByteArray), 2⟩ : S40) [.string (⟨#[98]⟩ : ByteArray), .string (⟨#[97]⟩ : ByteArray), .string (⟨#[]⟩ : ByteArray), .int .i64 2] from (k40_mkM _ _ _ (⟨(⟨#[98]⟩ : ByteArray), (⟨#[97]⟩ : ByteArray), (⟨#[]⟩ : ByteArray), 2⟩ : S40) )) (Reps.none _ _)))); intro v171 w29 ho30 hb hg_ hnew_; clear hg_ hnew_; (first | rw [← Ny170.out] at ho30 | (simp only [Int.reduceToNat] at ho30; rw [← Ny170.out] at ho30)); have n0_ := Aside0.mk (Kd.R_below (by (with_reducible repeat (first | apply Kd.R_alloc | apply Kd.R_drewN | apply Kd.R_drew)); exact HO144.out) hb); have n1_ := Aside0.mk (Kd.R_below (by (with_reducible repeat (first | apply Kd.R_alloc | apply Kd.R_drewN | apply Kd.R_drew)); exact HO147.out) hb); have n2_ := Aside0.mk (Kd.R_below (by (with_reducible repeat (first | apply Kd.R_alloc | apply Kd.R_drewN | apply Kd.R_drew)); exact HO152.out) hb); have n3_ := Aside0.mk (Kd.R_below (by (with_reducible repeat (first | apply Kd.R_alloc | apply Kd.R_drewN | apply Kd.R_drew)); exact HO154.out) hb); have n4_ := Aside0.mk (Kd.R_below (by (with_reducible repeat (first | apply Kd.R_alloc | apply Kd.R_drewN | apply Kd.R_drew)); exact HO157.out) hb); have n5_ := Aside0.mk (Kd.R_elder' (by (with_reducible repeat (first | apply Kd.R_alloc | apply Kd.R_drewN | apply Kd.R_drew)); exact HO161.out) (Kd.R_base ho30) hb); have n6_ := Aside0.mk (Kd.R_below (by (with_reducible repeat (first | apply Kd.R_alloc | apply Kd.R_drewN | apply Kd.R_drew)); exact HO164.out) hb); have n7_ := Aside0.mk (Kd.R_below (by (with_reducible repeat (first | apply Kd.R_alloc | apply Kd.R_drewN | apply Kd.R_drew)); exact HO168.out) hb); have n8_ := Aside0.mk (Kd.R_lower (Kd.R_new' ho30 (Kd.R_lt (by (with_reducible repeat (first | apply Kd.R_alloc | apply Kd.R_drewN | apply Kd.R_drew)); exact HO161.out))) (below_size (by repeat (first | (with_reducible first | exact HB.out | apply below_alloc | apply pw_below_drewN | apply below_drew1) | exact HB.out)))); have n9_ := Aside0.mk (below_step (by repeat (first | (with_reducible first | exact HB.out | apply below_alloc | apply pw_below_drewN | apply below_drew1) | exact HB.out)) hb); clear HO144; clear HO147; clear HO152; clear HO154; clear HO157; clear HO161; clear HO164; clear HO168; clear HB; have HO144 := n0_; have HO147 := n1_; have HO152 := n2_; have HO154 := n3_; have HO157 := n4_; have HO161 := n5_; have HO164 := n6_; have HO168 := n7_; have HO172 := n8_; have HB := n9_; clear n0_ n1_ n2_ n3_ n4_ n5_ n6_ n7_ n8_ n9_; clear hb ho30; obtain ⟨Ao31, co31, eo31⟩ := Kd.R_slice HO161.out; subst eo31; obtain ⟨Ao32, co32, eo32⟩ := Kd.R_slice HO172.out; subst eo32) | (go_at_call 14; (with_reducible refine (supercargoref43_Debts.calls k _ _ t158 _ _ y170 t173 _ ?side1 ?side2 ?side3 ?side4 A9.out).mono ?_); (case side1 => repeat (first | exact (Kd.R_reads' HO161.out).2.2 | (with_reducible refine Kd.C_alloc ?_ _) | (with_reducible refine Kd.C_drewN ?_ _) | (with_reducible refine Kd.C_drew ?_))); (case side2 => exact (Kd.R_reads' HO161.out).2.1); (case side3 => repeat (first | exact (Kd.R_reads' HO172.out).2.2 | (with_reducible refine Kd.C_alloc ?_ _) | (with_reducible refine Kd.C_drewN ?_ _) | (with_reducible refine Kd.C_drew ?_))); (case side4 => exact (Kd.R_reads' HO172.out).2.1); rintro e w' ⟨rfl, ⟨nd, rfl⟩⟩))
          go_ret
          exact ⟨by first | rfl | (simp [errW_none, errW_some] <;> rfl) | (simp [*, errW_none, errW_some] <;> rfl), by repeat (first | (with_reducible first | exact HB.out | apply below_alloc | apply pw_below_drewN | apply below_drew1) | exact HB.out)⟩
        · replace c8 := Bool.eq_false_iff.mpr c8
          subst c8
          have H1 : (none) = some r := by rw [if_neg (show ¬ (false = true) by decide)] at H; exact H
          clear H
          have H := H1
          clear H1
          exact absurd H (by simp)
      · replace c6 := Bool.eq_false_iff.mpr c6
        subst c6
        have H1 : (none) = some r := by rw [if_neg (show ¬ (false = true) by decide)] at H; exact H
        clear H
        have H := H1
        clear H1
        exact absurd H (by simp)
    · rw [if_neg c4] at H
      exact absurd H (by simp)
  · rw [if_neg c3] at H
    exact absurd H (by simp)

/-! ### supercargoref43_Few: function 22 -/
def supercargoref43_Few.l0 : Nat → List (S35) → Int → Option (Bool)
  | 0, _, _ => none
  | k + 1, x0, x3 => if x3 < (x0.length : Int) then (if x3 > 30 then (some false) else (if 0 ≤ x3 then (if (((rd_T35 x0 x3).f0).size : Int) > 60 then (some false) else (supercargoref43_Few.l0 k x0 (wrap64 (x3 + 1)))) else (none))) else (some true)
def supercargoref43_Few.f (k : Nat) (l0 : List (S35)) : Option (Bool) := supercargoref43_Few.l0 k l0 0
theorem supercargoref43_Few.mono_l : ∀ k, (∀ y0 y1, LeO (supercargoref43_Few.l0 k y0 y1) (supercargoref43_Few.l0 (k + 1) y0 y1))
  | 0 => fun _ _ r h => by simp [supercargoref43_Few.l0] at h
  | k + 1 => by
    have ih0 := supercargoref43_Few.mono_l k
    · intro y0 y1
      unfold supercargoref43_Few.l0
      repeat' first
      | (with_reducible exact ih0 _ _)
      | (with_reducible exact LeO.refl _)
      | (with_reducible exact LeO.none _)
      | (with_reducible refine LeO.ite ?_ ?_)
      | (with_reducible refine LeO.bind ?_ (fun _ => ?_))
      | exact ih0 _ _
      | exact LeO.none _
      | refine LeO.ite ?_ ?_
      | refine LeO.bind ?_ (fun _ => ?_)
theorem supercargoref43_Few.mono : ∀ a0 k, LeO (supercargoref43_Few.f k a0) (supercargoref43_Few.f (k + 1) a0) := by
  intro a0 k
  have ih0 := supercargoref43_Few.mono_l k
  unfold supercargoref43_Few.f
  repeat' first
      | (with_reducible exact ih0 _ _)
      | (with_reducible exact LeO.refl _)
      | (with_reducible exact LeO.none _)
      | (with_reducible refine LeO.ite ?_ ?_)
      | (with_reducible refine LeO.bind ?_ (fun _ => ?_))
      | exact ih0 _ _
      | exact LeO.none _
      | refine LeO.ite ?_ ?_
      | refine LeO.bind ?_ (fun _ => ?_)
set_option maxHeartbeats 8000000 in
set_option maxRecDepth 100000 in
theorem supercargoref43_Few.calls (k : Nat) (A0 : Option Addr) (c0 : Nat) (l0 : List (S35)) (r : Bool) (w : World) (hr0 : Kd.C k35 w A0 l0.length l0) (hc0 : l0.length ≤ c0) (h : supercargoref43_Few.f k l0 = some r) :
    Calls Try.prog 22 #[.slice A0 l0.length c0] w fun e w' => e = .returned (.bool r) ∧ Drawn0 w w' := by
  have HR0 := Aside0.mk hr0
  have HC0 := Aside0.mk hc0
  clear hr0 hc0
  have H : (supercargoref43_Few.l0 k l0 0) = some r := h
  clear h
  have H' := Aside0.mk H
  clear H
  go_enter Try.func22, Try.ntmps22
  go_wp2
  go_loopg [3] k (fun kq v3 w' => ∃ (x3_1 : Int), v3 = .int .i64 x3_1 ∧ Aside0 (supercargoref43_Few.l0 kq l0 x3_1 = some r) ∧ Aside0 (kq ≤ k) ∧ Drawn0 w w')
  case atStart => exact ⟨(0), (by first | rfl | (simp; done) | (simp [*]; done)), H', ⟨Nat.le_refl _⟩, by repeat (first | exact Drawn0.refl _ | apply Drawn0.step)⟩
  case round =>
    clear H'
    obtain ⟨x3_1, rfl, HA, HK1, ⟨m1, rfl⟩⟩ := hrel
    cases gk with
    | zero => exact absurd HA.out (by simp [supercargoref43_Few.l0])
    | succ k1 =>
      have H := HA.out
      clear HA
      simp only [supercargoref43_Few.l0] at H
      by_cases c2 : x3_1 < (l0.length : Int)
      · rw [if_pos c2] at H
        have c2b0 : decide (x3_1 < (l0.length : Int)) = true := decide_eq_true c2
        clear c2
        by_cases c3 : x3_1 > 30
        · rw [if_pos c3] at H
          have c3b0 : decide (30 < x3_1) = true := decide_eq_true c3
          clear c3
          obtain rfl := Option.some.inj H
          go_wp2
          go_ret
          exact ⟨by first | rfl | (simp; done) | (simp [*]; done), by repeat (first | exact Drawn0.refl _ | apply Drawn0.step)⟩
        · rw [if_neg c3] at H
          have c3b0 : decide (30 < x3_1) = false := decide_eq_false c3
          clear c3
          by_cases c4 : 0 ≤ x3_1
          · rw [if_pos c4] at H
            have c4b0 : decide (0 ≤ x3_1) = true := decide_eq_true c4
            clear c4
            by_cases c5 : (((rd_T35 l0 x3_1).f0).size : Int) > 60
            · rw [if_pos c5] at H
              have c5b0 : decide (60 < (((rd_T35 l0 x3_1).f0).size : Int)) = true := decide_eq_true c5
              have c5b1 : decide (60 < ((rd_T35 l0 x3_1).f0).size) = true := decide_eq_true (by omega)
              clear c5
              obtain rfl := Option.some.inj H
              have p174 : 0 ≤ (x3_1 : Int) := of_decide_eq_true (by first | (with_reducible assumption) | assumption)
              have q174 : x3_1 < (l0.length : Int) := of_decide_eq_true (by first | (with_reducible assumption) | assumption)
              obtain ⟨ad174, e174, hx174_0, hx174_1⟩ := at_T35 HR0.out x3_1 p174 q174
              cases e174
              replace p174 := eq_true p174
              replace q174 := eq_true q174
              go_wp2
              go_ret
              exact ⟨by first | rfl | (simp; done) | (simp [*]; done), by repeat (first | exact Drawn0.refl _ | apply Drawn0.step)⟩
            · rw [if_neg c5] at H
              have c5b0 : decide (60 < (((rd_T35 l0 x3_1).f0).size : Int)) = false := decide_eq_false c5
              have c5b1 : decide (60 < ((rd_T35 l0 x3_1).f0).size) = false := decide_eq_false (by omega)
              clear c5
              have H' := Aside0.mk H
              clear H
              have p174 : 0 ≤ (x3_1 : Int) := of_decide_eq_true (by first | (with_reducible assumption) | assumption)
              have q174 : x3_1 < (l0.length : Int) := of_decide_eq_true (by first | (with_reducible assumption) | assumption)
              obtain ⟨ad174, e174, hx174_0, hx174_1⟩ := at_T35 HR0.out x3_1 p174 q174
              cases e174
              replace p174 := eq_true p174
              replace q174 := eq_true q174
              go_wp2
              go_roundg k1
              case measure => have := HK1.out; omega
              case rel => exact ⟨(wrap64 (x3_1 + 1)), (by first | rfl | (simp; done) | (simp [*]; done)), H', ⟨by have := HK1.out; omega⟩, by repeat (first | exact Drawn0.refl _ | apply Drawn0.step)⟩
          · rw [if_neg c4] at H
            exact absurd H (by simp)
      · rw [if_neg c2] at H
        have c2b0 : decide (x3_1 < (l0.length : Int)) = false := decide_eq_false c2
        clear c2
        obtain rfl := Option.some.inj H
        go_wp2
        go_ret
        exact ⟨by first | rfl | (simp; done) | (simp [*]; done), by repeat (first | exact Drawn0.refl _ | apply Drawn0.step)⟩

/-! ### supercargolaw43_few: function 11 -/
def supercargolaw43_few.f (k : Nat) (l0 : List (S35)) (l1 : List Int) : Option (Bool) := (supercargoref43_Few.f k l0).bind fun t175 => (if t175 = true then (some (decide ((l1.length : Int) ≤ 60))) else (some false))
theorem supercargolaw43_few.mono : ∀ a0 a1 k, LeO (supercargolaw43_few.f k a0 a1) (supercargolaw43_few.f (k + 1) a0 a1) := by
  intro a0 a1 k
  unfold supercargolaw43_few.f
  repeat' first
      | (with_reducible exact supercargoref43_Few.mono _ _)
      | (with_reducible exact LeO.refl _)
      | (with_reducible exact LeO.none _)
      | (with_reducible refine LeO.ite ?_ ?_)
      | (with_reducible refine LeO.bind ?_ (fun _ => ?_))
      | exact supercargoref43_Few.mono _ _
      | exact LeO.none _
      | refine LeO.ite ?_ ?_
      | refine LeO.bind ?_ (fun _ => ?_)
set_option maxHeartbeats 8000000 in
set_option maxRecDepth 100000 in
theorem supercargolaw43_few.calls (k : Nat) (A0 : Option Addr) (c0 : Nat) (l0 : List (S35)) (A1 : Option Addr) (c1 : Nat) (l1 : List Int) (r : Bool) (w : World) (hr0 : Kd.C k35 w A0 l0.length l0) (hc0 : l0.length ≤ c0) (hr1 : Kd.C (Kd.int .i64) w A1 l1.length l1) (hc1 : l1.length ≤ c1) (h : supercargolaw43_few.f k l0 l1 = some r) :
    Calls Try.prog 11 #[.slice A0 l0.length c0, .slice A1 l1.length c1] w fun e w' => e = .returned (.bool r) ∧ Drawn0 w w' := by
  have HR0 := Aside0.mk hr0
  have HC0 := Aside0.mk hc0
  clear hr0 hc0
  have HR1 := Aside0.mk hr1
  have HC1 := Aside0.mk hc1
  clear hr1 hc1
  have H : ((supercargoref43_Few.f k l0).bind fun t175 => (if t175 = true then (some (decide ((l1.length : Int) ≤ 60))) else (some false))) = some r := h
  clear h
  replace H := Option.bind_eq_some_iff.mp H
  obtain ⟨t175, A30, H⟩ := H
  replace H : (if t175 = true then (some (decide ((l1.length : Int) ≤ 60))) else (some false)) = some r := H
  have A3 := Aside0.mk A30
  clear A30
  by_cases c4 : t175 = true
  · subst c4
    have H1 : (some (decide ((l1.length : Int) ≤ 60))) = some r := by rw [if_pos rfl] at H; exact H
    clear H
    have H := H1
    clear H1
    obtain rfl := Option.some.inj H
    go_enter Try.func11, Try.ntmps11
    go_wp2_with (first | ((with_reducible refine gate_callee (f := 22) rfl ?_); refine goesL_ (some 6) rfl rfl Try.func22 (by kernel_rfl) rfl #[.slice A0 l0.length c0] rfl (by (try simp only [List.map_toArray, List.map_cons, List.map_nil]); first | done | rfl | (simp only [List.length_drop, List.length_take]; rfl)) ?_; (with_reducible refine (supercargoref43_Few.calls k _ _ l0 true _ ?side1 ?side2 A3.out).mono ?_); (case side1 => repeat (first | exact HR0.out | (with_reducible refine Kd.C_alloc ?_ _) | (with_reducible refine Kd.C_drewN ?_ _) | (with_reducible refine Kd.C_drew ?_))); (case side2 => exact HC0.out); rintro e w' ⟨rfl, ⟨nd, rfl⟩⟩; refine ⟨_, rfl, ?_⟩))
    go_ret
    exact ⟨by first | rfl | (simp; done) | (simp [*]; done), by repeat (first | exact Drawn0.refl _ | apply Drawn0.step)⟩
  · replace c4 := Bool.eq_false_iff.mpr c4
    subst c4
    have H1 : (some false) = some r := by rw [if_neg (show ¬ (false = true) by decide)] at H; exact H
    clear H
    have H := H1
    clear H1
    obtain rfl := Option.some.inj H
    go_enter Try.func11, Try.ntmps11
    go_wp2_with (first | ((with_reducible refine gate_callee (f := 22) rfl ?_); refine goesL_ (some 6) rfl rfl Try.func22 (by kernel_rfl) rfl #[.slice A0 l0.length c0] rfl (by (try simp only [List.map_toArray, List.map_cons, List.map_nil]); first | done | rfl | (simp only [List.length_drop, List.length_take]; rfl)) ?_; (with_reducible refine (supercargoref43_Few.calls k _ _ l0 false _ ?side1 ?side2 A3.out).mono ?_); (case side1 => repeat (first | exact HR0.out | (with_reducible refine Kd.C_alloc ?_ _) | (with_reducible refine Kd.C_drewN ?_ _) | (with_reducible refine Kd.C_drew ?_))); (case side2 => exact HC0.out); rintro e w' ⟨rfl, ⟨nd, rfl⟩⟩; refine ⟨_, rfl, ?_⟩))
    go_ret
    exact ⟨by first | rfl | (simp; done) | (simp [*]; done), by repeat (first | exact Drawn0.refl _ | apply Drawn0.step)⟩

/-! ### supercargoref03_letter: function 62 -/
def supercargoref03_letter.f (a0 : Int) : Option (Bool) := if a0 ≥ 97 then (some (decide (a0 ≤ 122))) else (some false)
set_option maxHeartbeats 8000000 in
set_option maxRecDepth 100000 in
theorem supercargoref03_letter.calls (a0 : Int) (r : Bool) (w : World) (h : supercargoref03_letter.f a0 = some r) :
    Calls Try.prog 62 #[.int .u8 a0] w fun e w' => e = .returned (.bool r) ∧ Drawn0 w w' := by
  have H : (if a0 ≥ 97 then (some (decide (a0 ≤ 122))) else (some false)) = some r := h
  clear h
  by_cases c2 : a0 ≥ 97
  · rw [if_pos c2] at H
    have c2b0 : decide (97 ≤ a0) = true := decide_eq_true c2
    clear c2
    obtain rfl := Option.some.inj H
    go_enter Try.func62, Try.ntmps62
    go_wp2
    go_ret
    exact ⟨by first | rfl | (simp; done) | (simp [*]; done), by repeat (first | exact Drawn0.refl _ | apply Drawn0.step)⟩
  · rw [if_neg c2] at H
    have c2b0 : decide (97 ≤ a0) = false := decide_eq_false c2
    clear c2
    obtain rfl := Option.some.inj H
    go_enter Try.func62, Try.ntmps62
    go_wp2
    go_ret
    exact ⟨by first | rfl | (simp; done) | (simp [*]; done), by repeat (first | exact Drawn0.refl _ | apply Drawn0.step)⟩

/-! ### supercargoref03_digit: function 63 -/
def supercargoref03_digit.f (a0 : Int) : Option (Bool) := if a0 ≥ 48 then (some (decide (a0 ≤ 57))) else (some false)
set_option maxHeartbeats 8000000 in
set_option maxRecDepth 100000 in
theorem supercargoref03_digit.calls (a0 : Int) (r : Bool) (w : World) (h : supercargoref03_digit.f a0 = some r) :
    Calls Try.prog 63 #[.int .u8 a0] w fun e w' => e = .returned (.bool r) ∧ Drawn0 w w' := by
  have H : (if a0 ≥ 48 then (some (decide (a0 ≤ 57))) else (some false)) = some r := h
  clear h
  by_cases c2 : a0 ≥ 48
  · rw [if_pos c2] at H
    have c2b0 : decide (48 ≤ a0) = true := decide_eq_true c2
    clear c2
    obtain rfl := Option.some.inj H
    go_enter Try.func63, Try.ntmps63
    go_wp2
    go_ret
    exact ⟨by first | rfl | (simp; done) | (simp [*]; done), by repeat (first | exact Drawn0.refl _ | apply Drawn0.step)⟩
  · rw [if_neg c2] at H
    have c2b0 : decide (48 ≤ a0) = false := decide_eq_false c2
    clear c2
    obtain rfl := Option.some.inj H
    go_enter Try.func63, Try.ntmps63
    go_wp2
    go_ret
    exact ⟨by first | rfl | (simp; done) | (simp [*]; done), by repeat (first | exact Drawn0.refl _ | apply Drawn0.step)⟩

/-! ### supercargoref03_Name: function 48 -/
def supercargoref03_Name.l0 : Nat → ByteArray → Int → Option (Bool)
  | 0, _, _ => none
  | k + 1, x0, x3 => if x3 < (x0.size : Int) then (if 0 ≤ x3 then ((supercargoref03_letter.f (bt x0 x3)).bind fun t176 => (if t176 = true then (supercargoref03_Name.l0 k x0 (wrap64 (x3 + 1))) else ((supercargoref03_digit.f (bt x0 x3)).bind fun t177 => (if t177 = true then (supercargoref03_Name.l0 k x0 (wrap64 (x3 + 1))) else (if (bt x0 x3) = 45 then (supercargoref03_Name.l0 k x0 (wrap64 (x3 + 1))) else (some false)))))) else (none)) else (if (x0.size : Int) ≥ 1 then (some (decide ((x0.size : Int) ≤ 16))) else (some false))
def supercargoref03_Name.f (k : Nat) (a0 : ByteArray) : Option (Bool) := supercargoref03_Name.l0 k a0 0
theorem supercargoref03_Name.mono_l : ∀ k, (∀ y0 y1, LeO (supercargoref03_Name.l0 k y0 y1) (supercargoref03_Name.l0 (k + 1) y0 y1))
  | 0 => fun _ _ r h => by simp [supercargoref03_Name.l0] at h
  | k + 1 => by
    have ih0 := supercargoref03_Name.mono_l k
    · intro y0 y1
      unfold supercargoref03_Name.l0
      repeat' first
      | (with_reducible exact ih0 _ _)
      | (with_reducible exact LeO.refl _)
      | (with_reducible exact LeO.none _)
      | (with_reducible refine LeO.ite ?_ ?_)
      | (with_reducible refine LeO.bind ?_ (fun _ => ?_))
      | exact ih0 _ _
      | exact LeO.none _
      | refine LeO.ite ?_ ?_
      | refine LeO.bind ?_ (fun _ => ?_)
theorem supercargoref03_Name.mono : ∀ a0 k, LeO (supercargoref03_Name.f k a0) (supercargoref03_Name.f (k + 1) a0) := by
  intro a0 k
  have ih0 := supercargoref03_Name.mono_l k
  unfold supercargoref03_Name.f
  repeat' first
      | (with_reducible exact ih0 _ _)
      | (with_reducible exact LeO.refl _)
      | (with_reducible exact LeO.none _)
      | (with_reducible refine LeO.ite ?_ ?_)
      | (with_reducible refine LeO.bind ?_ (fun _ => ?_))
      | exact ih0 _ _
      | exact LeO.none _
      | refine LeO.ite ?_ ?_
      | refine LeO.bind ?_ (fun _ => ?_)
set_option maxHeartbeats 8000000 in
set_option maxRecDepth 100000 in
theorem supercargoref03_Name.calls (k : Nat) (a0 : ByteArray) (r : Bool) (w : World) (h : supercargoref03_Name.f k a0 = some r) :
    Calls Try.prog 48 #[.string a0] w fun e w' => e = .returned (.bool r) ∧ Drawn0 w w' := by
  have H : (supercargoref03_Name.l0 k a0 0) = some r := h
  clear h
  have H' := Aside0.mk H
  clear H
  go_enter Try.func48, Try.ntmps48
  go_wp2
  go_loopg [3] k (fun kq v3 w' => ∃ (x3_1 : Int), v3 = .int .i64 x3_1 ∧ Aside0 (supercargoref03_Name.l0 kq a0 x3_1 = some r) ∧ Aside0 (kq ≤ k) ∧ Drawn0 w w')
  case atStart => exact ⟨(0), (by first | rfl | (simp; done) | (simp [*]; done)), H', ⟨Nat.le_refl _⟩, by repeat (first | exact Drawn0.refl _ | apply Drawn0.step)⟩
  case round =>
    clear H'
    obtain ⟨x3_1, rfl, HA, HK1, ⟨m1, rfl⟩⟩ := hrel
    cases gk with
    | zero => exact absurd HA.out (by simp [supercargoref03_Name.l0])
    | succ k1 =>
      have H := HA.out
      clear HA
      simp only [supercargoref03_Name.l0] at H
      by_cases c2 : x3_1 < (a0.size : Int)
      · rw [if_pos c2] at H
        have c2b0 : decide (x3_1 < (a0.size : Int)) = true := decide_eq_true c2
        clear c2
        by_cases c3 : 0 ≤ x3_1
        · rw [if_pos c3] at H
          have c3b0 : decide (0 ≤ x3_1) = true := decide_eq_true c3
          clear c3
          replace H := Option.bind_eq_some_iff.mp H
          obtain ⟨t176, A50, H⟩ := H
          replace H : (if t176 = true then (supercargoref03_Name.l0 k1 a0 (wrap64 (x3_1 + 1))) else ((supercargoref03_digit.f (bt a0 x3_1)).bind fun t177 => (if t177 = true then (supercargoref03_Name.l0 k1 a0 (wrap64 (x3_1 + 1))) else (if (bt a0 x3_1) = 45 then (supercargoref03_Name.l0 k1 a0 (wrap64 (x3_1 + 1))) else (some false))))) = some r := H
          have A5 := Aside0.mk A50
          clear A50
          by_cases c6 : t176 = true
          · subst c6
            have H1 : (supercargoref03_Name.l0 k1 a0 (wrap64 (x3_1 + 1))) = some r := by rw [if_pos rfl] at H; exact H
            clear H
            have H := H1
            clear H1
            have H' := Aside0.mk H
            clear H
            have p4 : 0 ≤ (x3_1 : Int) := of_decide_eq_true (by first | (with_reducible assumption) | assumption)
            have q4 : x3_1 < (a0.size : Int) := of_decide_eq_true (by first | (with_reducible assumption) | assumption)
            have hx4 := bt_at a0 x3_1
            replace p4 := eq_true p4
            replace q4 := eq_true q4
            go_wp2_with (first | ((with_reducible refine gate_callee (f := 62) rfl ?_); refine goesL_ (some 13) rfl rfl Try.func62 (by kernel_rfl) rfl #[.int .u8 (bt a0 x3_1)] rfl (by (try simp only [List.map_toArray, List.map_cons, List.map_nil]); first | done | rfl | (simp only [List.length_drop, List.length_take]; rfl)) ?_; (with_reducible refine (supercargoref03_letter.calls (bt a0 x3_1) true _ A5.out).mono ?_); rintro e w' ⟨rfl, ⟨nd, rfl⟩⟩; refine ⟨_, rfl, ?_⟩))
            go_roundg k1
            case measure => have := HK1.out; omega
            case rel => exact ⟨(wrap64 (x3_1 + 1)), (by first | rfl | (simp; done) | (simp [*]; done)), H', ⟨by have := HK1.out; omega⟩, by repeat (first | exact Drawn0.refl _ | apply Drawn0.step)⟩
          · replace c6 := Bool.eq_false_iff.mpr c6
            subst c6
            have H1 : ((supercargoref03_digit.f (bt a0 x3_1)).bind fun t177 => (if t177 = true then (supercargoref03_Name.l0 k1 a0 (wrap64 (x3_1 + 1))) else (if (bt a0 x3_1) = 45 then (supercargoref03_Name.l0 k1 a0 (wrap64 (x3_1 + 1))) else (some false)))) = some r := by rw [if_neg (show ¬ (false = true) by decide)] at H; exact H
            clear H
            have H := H1
            clear H1
            replace H := Option.bind_eq_some_iff.mp H
            obtain ⟨t177, A80, H⟩ := H
            replace H : (if t177 = true then (supercargoref03_Name.l0 k1 a0 (wrap64 (x3_1 + 1))) else (if (bt a0 x3_1) = 45 then (supercargoref03_Name.l0 k1 a0 (wrap64 (x3_1 + 1))) else (some false))) = some r := H
            have A8 := Aside0.mk A80
            clear A80
            by_cases c9 : t177 = true
            · subst c9
              have H1 : (supercargoref03_Name.l0 k1 a0 (wrap64 (x3_1 + 1))) = some r := by rw [if_pos rfl] at H; exact H
              clear H
              have H := H1
              clear H1
              have H' := Aside0.mk H
              clear H
              have p4 : 0 ≤ (x3_1 : Int) := of_decide_eq_true (by first | (with_reducible assumption) | assumption)
              have q4 : x3_1 < (a0.size : Int) := of_decide_eq_true (by first | (with_reducible assumption) | assumption)
              have hx4 := bt_at a0 x3_1
              replace p4 := eq_true p4
              replace q4 := eq_true q4
              go_wp2_with (first | ((with_reducible refine gate_callee (f := 62) rfl ?_); refine goesL_ (some 13) rfl rfl Try.func62 (by kernel_rfl) rfl #[.int .u8 (bt a0 x3_1)] rfl (by (try simp only [List.map_toArray, List.map_cons, List.map_nil]); first | done | rfl | (simp only [List.length_drop, List.length_take]; rfl)) ?_; (with_reducible refine (supercargoref03_letter.calls (bt a0 x3_1) false _ A5.out).mono ?_); rintro e w' ⟨rfl, ⟨nd, rfl⟩⟩; refine ⟨_, rfl, ?_⟩; have p7 : 0 ≤ (x3_1 : Int) := of_decide_eq_true (by first | (with_reducible assumption) | assumption); have q7 : x3_1 < (a0.size : Int) := of_decide_eq_true (by first | (with_reducible assumption) | assumption); have hx7 := bt_at a0 x3_1; replace p7 := eq_true p7; replace q7 := eq_true q7) | (go_at_call 63; (with_reducible refine (supercargoref03_digit.calls (bt a0 x3_1) true _ A8.out).mono ?_); rintro e w' ⟨rfl, ⟨nd, rfl⟩⟩))
              go_roundg k1
              case measure => have := HK1.out; omega
              case rel => exact ⟨(wrap64 (x3_1 + 1)), (by first | rfl | (simp; done) | (simp [*]; done)), H', ⟨by have := HK1.out; omega⟩, by repeat (first | exact Drawn0.refl _ | apply Drawn0.step)⟩
            · replace c9 := Bool.eq_false_iff.mpr c9
              subst c9
              have H1 : (if (bt a0 x3_1) = 45 then (supercargoref03_Name.l0 k1 a0 (wrap64 (x3_1 + 1))) else (some false)) = some r := by rw [if_neg (show ¬ (false = true) by decide)] at H; exact H
              clear H
              have H := H1
              clear H1
              by_cases c11 : (bt a0 x3_1) = 45
              · rw [if_pos c11] at H
                have c11b0 : ((bt a0 x3_1) == 45) = true := beq_iff_eq.mpr c11
                have c11b1 : ((bt a0 x3_1) != 45) = false := bne_eq_false_iff_eq.mpr c11
                clear c11
                have H' := Aside0.mk H
                clear H
                have p4 : 0 ≤ (x3_1 : Int) := of_decide_eq_true (by first | (with_reducible assumption) | assumption)
                have q4 : x3_1 < (a0.size : Int) := of_decide_eq_true (by first | (with_reducible assumption) | assumption)
                have hx4 := bt_at a0 x3_1
                replace p4 := eq_true p4
                replace q4 := eq_true q4
                go_wp2_with (first | ((with_reducible refine gate_callee (f := 62) rfl ?_); refine goesL_ (some 13) rfl rfl Try.func62 (by kernel_rfl) rfl #[.int .u8 (bt a0 x3_1)] rfl (by (try simp only [List.map_toArray, List.map_cons, List.map_nil]); first | done | rfl | (simp only [List.length_drop, List.length_take]; rfl)) ?_; (with_reducible refine (supercargoref03_letter.calls (bt a0 x3_1) false _ A5.out).mono ?_); rintro e w' ⟨rfl, ⟨nd, rfl⟩⟩; refine ⟨_, rfl, ?_⟩; have p7 : 0 ≤ (x3_1 : Int) := of_decide_eq_true (by first | (with_reducible assumption) | assumption); have q7 : x3_1 < (a0.size : Int) := of_decide_eq_true (by first | (with_reducible assumption) | assumption); have hx7 := bt_at a0 x3_1; replace p7 := eq_true p7; replace q7 := eq_true q7) | (go_at_call 63; (with_reducible refine (supercargoref03_digit.calls (bt a0 x3_1) false _ A8.out).mono ?_); rintro e w' ⟨rfl, ⟨nd, rfl⟩⟩; have p10 : 0 ≤ (x3_1 : Int) := of_decide_eq_true (by first | (with_reducible assumption) | assumption); have q10 : x3_1 < (a0.size : Int) := of_decide_eq_true (by first | (with_reducible assumption) | assumption); have hx10 := bt_at a0 x3_1; replace p10 := eq_true p10; replace q10 := eq_true q10))
                go_roundg k1
                case measure => have := HK1.out; omega
                case rel => exact ⟨(wrap64 (x3_1 + 1)), (by first | rfl | (simp; done) | (simp [*]; done)), H', ⟨by have := HK1.out; omega⟩, by repeat (first | exact Drawn0.refl _ | apply Drawn0.step)⟩
              · rw [if_neg c11] at H
                have c11b0 : ((bt a0 x3_1) == 45) = false := beq_eq_false_iff_ne.mpr c11
                have c11b1 : ((bt a0 x3_1) != 45) = true := bne_iff_ne.mpr c11
                obtain rfl := Option.some.inj H
                have p4 : 0 ≤ (x3_1 : Int) := of_decide_eq_true (by first | (with_reducible assumption) | assumption)
                have q4 : x3_1 < (a0.size : Int) := of_decide_eq_true (by first | (with_reducible assumption) | assumption)
                have hx4 := bt_at a0 x3_1
                replace p4 := eq_true p4
                replace q4 := eq_true q4
                go_wp2_with (first | ((with_reducible refine gate_callee (f := 62) rfl ?_); refine goesL_ (some 13) rfl rfl Try.func62 (by kernel_rfl) rfl #[.int .u8 (bt a0 x3_1)] rfl (by (try simp only [List.map_toArray, List.map_cons, List.map_nil]); first | done | rfl | (simp only [List.length_drop, List.length_take]; rfl)) ?_; (with_reducible refine (supercargoref03_letter.calls (bt a0 x3_1) false _ A5.out).mono ?_); rintro e w' ⟨rfl, ⟨nd, rfl⟩⟩; refine ⟨_, rfl, ?_⟩; have p7 : 0 ≤ (x3_1 : Int) := of_decide_eq_true (by first | (with_reducible assumption) | assumption); have q7 : x3_1 < (a0.size : Int) := of_decide_eq_true (by first | (with_reducible assumption) | assumption); have hx7 := bt_at a0 x3_1; replace p7 := eq_true p7; replace q7 := eq_true q7) | (go_at_call 63; (with_reducible refine (supercargoref03_digit.calls (bt a0 x3_1) false _ A8.out).mono ?_); rintro e w' ⟨rfl, ⟨nd, rfl⟩⟩; have p10 : 0 ≤ (x3_1 : Int) := of_decide_eq_true (by first | (with_reducible assumption) | assumption); have q10 : x3_1 < (a0.size : Int) := of_decide_eq_true (by first | (with_reducible assumption) | assumption); have hx10 := bt_at a0 x3_1; replace p10 := eq_true p10; replace q10 := eq_true q10))
                go_ret
                exact ⟨by first | rfl | (simp; done) | (simp [*]; done), by repeat (first | exact Drawn0.refl _ | apply Drawn0.step)⟩
        · rw [if_neg c3] at H
          exact absurd H (by simp)
      · rw [if_neg c2] at H
        have c2b0 : decide (x3_1 < (a0.size : Int)) = false := decide_eq_false c2
        clear c2
        by_cases c12 : (a0.size : Int) ≥ 1
        · rw [if_pos c12] at H
          have c12b0 : decide (1 ≤ (a0.size : Int)) = true := decide_eq_true c12
          have c12b1 : decide (1 ≤ a0.size) = true := decide_eq_true (by omega)
          clear c12
          obtain rfl := Option.some.inj H
          go_wp2
          go_ret
          exact ⟨by first | rfl | (simp; done) | (simp [*]; done), by repeat (first | exact Drawn0.refl _ | apply Drawn0.step)⟩
        · rw [if_neg c12] at H
          have c12b0 : decide (1 ≤ (a0.size : Int)) = false := decide_eq_false c12
          have c12b1 : decide (1 ≤ a0.size) = false := decide_eq_false (by omega)
          clear c12
          obtain rfl := Option.some.inj H
          go_wp2
          go_ret
          exact ⟨by first | rfl | (simp; done) | (simp [*]; done), by repeat (first | exact Drawn0.refl _ | apply Drawn0.step)⟩

end Go.Proofs.Yteeehijpdkbgkaa.Print
