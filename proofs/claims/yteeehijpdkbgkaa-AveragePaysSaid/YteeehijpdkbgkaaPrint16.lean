/- Contracts of the program's functions over this seat's translation, written out by this session's own driver. Conditions: those in each statement. -/
import Derived.Test.YteeehijpdkbgkaaPrint0
namespace Go.Proofs.Yteeehijpdkbgkaa.Print
open Go.RowKit Go.Proofs.YteeehijpdkbgkaaW.PrintWords Go.Proofs.YteeehijpdkbgkaaW.PrintLast Go.Proofs.YteeehijpdkbgkaaW.PrintMore
attribute [local go_sem] max2_int min2_int max_two min_two max_three min_three max_four min_four   -- for this text's walks alone
set_option linter.unusedVariables false
set_option linter.unusedSimpArgs false

/-! ### supercargoref04_Error: function 35 -/
mutual
def supercargoref04_Error.j0 : Nat → Int → List Int → Bool → Option (Int)
  | 0, _, _, _ => none
  | k + 1, x0, x1, x14 => if x14 = true then (some 1) else (supercargoref04_Error.l0 k x0 x1 0)
def supercargoref04_Error.l0 : Nat → Int → List Int → Int → Option (Int)
  | 0, _, _, _ => none
  | k + 1, x0, x1, x5 => if x5 < (x1.length : Int) then (if 0 ≤ x5 then (if (rd x1 x5) < 0 then (some 1) else (supercargoref04_Error.l0 k x0 x1 (wrap64 (x5 + 1)))) else (none)) else (if x0 > 1099511627776 then (supercargoref04_Error.j2 k x0 x1 true) else (supercargoref04_Error.j2 k x0 x1 (decide ((x1.length : Int) > 4096))))
def supercargoref04_Error.j2 : Nat → Int → List Int → Bool → Option (Int)
  | 0, _, _, _ => none
  | k + 1, x0, x1, x32 => if x32 = true then (some 3) else (supercargoref04_Error.l1 k x0 x1 0 0)
def supercargoref04_Error.l1 : Nat → Int → List Int → Int → Int → Option (Int)
  | 0, _, _, _, _ => none
  | k + 1, x0, x1, x6, x7 => if x7 < (x1.length : Int) then (if 0 ≤ x7 then (if (rd x1 x7) > 1099511627776 then (some 3) else (supercargoref04_Error.l1 k x0 x1 (wrap64 (x6 + (rd x1 x7))) (wrap64 (x7 + 1)))) else (none)) else (if x6 = 0 then (if x0 > 0 then (some 4) else (some 0)) else (some 0))
end
def supercargoref04_Error.f (k : Nat) (a0 : Int) (l1 : List Int) : Option (Int) := if a0 < 0 then (supercargoref04_Error.j0 k a0 l1 true) else (supercargoref04_Error.j0 k a0 l1 ((l1.length : Int) == 0))
theorem supercargoref04_Error.mono_l : ∀ k, (∀ y0 y1 y2, LeO (supercargoref04_Error.j0 k y0 y1 y2) (supercargoref04_Error.j0 (k + 1) y0 y1 y2)) ∧ (∀ y0 y1 y2, LeO (supercargoref04_Error.l0 k y0 y1 y2) (supercargoref04_Error.l0 (k + 1) y0 y1 y2)) ∧ (∀ y0 y1 y2, LeO (supercargoref04_Error.j2 k y0 y1 y2) (supercargoref04_Error.j2 (k + 1) y0 y1 y2)) ∧ (∀ y0 y1 y2 y3, LeO (supercargoref04_Error.l1 k y0 y1 y2 y3) (supercargoref04_Error.l1 (k + 1) y0 y1 y2 y3))
  | 0 => ⟨fun _ _ _ r h => by simp [supercargoref04_Error.j0] at h, fun _ _ _ r h => by simp [supercargoref04_Error.l0] at h, fun _ _ _ r h => by simp [supercargoref04_Error.j2] at h, fun _ _ _ _ r h => by simp [supercargoref04_Error.l1] at h⟩
  | k + 1 => by
    obtain ⟨ih0, ih1, ih2, ih3⟩ := supercargoref04_Error.mono_l k
    refine ⟨?_, ?_, ?_, ?_⟩
    · intro y0 y1 y2
      unfold supercargoref04_Error.j0
      repeat' first
      | (with_reducible exact ih0 _ _ _)
      | (with_reducible exact ih1 _ _ _)
      | (with_reducible exact ih2 _ _ _)
      | (with_reducible exact ih3 _ _ _ _)
      | (with_reducible exact LeO.refl _)
      | (with_reducible exact LeO.none _)
      | (with_reducible refine LeO.ite ?_ ?_)
      | (with_reducible refine LeO.bind ?_ (fun _ => ?_))
      | exact ih0 _ _ _
      | exact ih1 _ _ _
      | exact ih2 _ _ _
      | exact ih3 _ _ _ _
      | exact LeO.none _
      | refine LeO.ite ?_ ?_
      | refine LeO.bind ?_ (fun _ => ?_)
    · intro y0 y1 y2
      unfold supercargoref04_Error.l0
      repeat' first
      | (with_reducible exact ih0 _ _ _)
      | (with_reducible exact ih1 _ _ _)
      | (with_reducible exact ih2 _ _ _)
      | (with_reducible exact ih3 _ _ _ _)
      | (with_reducible exact LeO.refl _)
      | (with_reducible exact LeO.none _)
      | (with_reducible refine LeO.ite ?_ ?_)
      | (with_reducible refine LeO.bind ?_ (fun _ => ?_))
      | exact ih0 _ _ _
      | exact ih1 _ _ _
      | exact ih2 _ _ _
      | exact ih3 _ _ _ _
      | exact LeO.none _
      | refine LeO.ite ?_ ?_
      | refine LeO.bind ?_ (fun _ => ?_)
    · intro y0 y1 y2
      unfold supercargoref04_Error.j2
      repeat' first
      | (with_reducible exact ih0 _ _ _)
      | (with_reducible exact ih1 _ _ _)
      | (with_reducible exact ih2 _ _ _)
      | (with_reducible exact ih3 _ _ _ _)
      | (with_reducible exact LeO.refl _)
      | (with_reducible exact LeO.none _)
      | (with_reducible refine LeO.ite ?_ ?_)
      | (with_reducible refine LeO.bind ?_ (fun _ => ?_))
      | exact ih0 _ _ _
      | exact ih1 _ _ _
      | exact ih2 _ _ _
      | exact ih3 _ _ _ _
      | exact LeO.none _
      | refine LeO.ite ?_ ?_
      | refine LeO.bind ?_ (fun _ => ?_)
    · intro y0 y1 y2 y3
      unfold supercargoref04_Error.l1
      repeat' first
      | (with_reducible exact ih0 _ _ _)
      | (with_reducible exact ih1 _ _ _)
      | (with_reducible exact ih2 _ _ _)
      | (with_reducible exact ih3 _ _ _ _)
      | (with_reducible exact LeO.refl _)
      | (with_reducible exact LeO.none _)
      | (with_reducible refine LeO.ite ?_ ?_)
      | (with_reducible refine LeO.bind ?_ (fun _ => ?_))
      | exact ih0 _ _ _
      | exact ih1 _ _ _
      | exact ih2 _ _ _
      | exact ih3 _ _ _ _
      | exact LeO.none _
      | refine LeO.ite ?_ ?_
      | refine LeO.bind ?_ (fun _ => ?_)
theorem supercargoref04_Error.mono : ∀ a0 a1 k, LeO (supercargoref04_Error.f k a0 a1) (supercargoref04_Error.f (k + 1) a0 a1) := by
  intro a0 a1 k
  obtain ⟨ih0, ih1, ih2, ih3⟩ := supercargoref04_Error.mono_l k
  unfold supercargoref04_Error.f
  repeat' first
      | (with_reducible exact ih0 _ _ _)
      | (with_reducible exact ih1 _ _ _)
      | (with_reducible exact ih2 _ _ _)
      | (with_reducible exact ih3 _ _ _ _)
      | (with_reducible exact LeO.refl _)
      | (with_reducible exact LeO.none _)
      | (with_reducible refine LeO.ite ?_ ?_)
      | (with_reducible refine LeO.bind ?_ (fun _ => ?_))
      | exact ih0 _ _ _
      | exact ih1 _ _ _
      | exact ih2 _ _ _
      | exact ih3 _ _ _ _
      | exact LeO.none _
      | refine LeO.ite ?_ ?_
      | refine LeO.bind ?_ (fun _ => ?_)
set_option maxHeartbeats 8000000 in
set_option maxRecDepth 100000 in
theorem supercargoref04_Error.calls (k : Nat) (a0 : Int) (A1 : Option Addr) (c1 : Nat) (l1 : List Int) (r : Int) (w : World) (hr1 : Kd.C (Kd.int .i64) w A1 l1.length l1) (hc1 : l1.length ≤ c1) (h : supercargoref04_Error.f k a0 l1 = some r) :
    Calls Try.prog 35 #[.int .i64 a0, .slice A1 l1.length c1] w fun e w' => e = .returned (.int .i64 r) ∧ Drawn0 w w' := by
  have HR1 := Aside0.mk hr1
  have HC1 := Aside0.mk hc1
  clear hr1 hc1
  have H : (if a0 < 0 then (supercargoref04_Error.j0 k a0 l1 true) else (supercargoref04_Error.j0 k a0 l1 ((l1.length : Int) == 0))) = some r := h
  clear h
  have HC3 := Aside0.mk H
  clear H
  go_enter Try.func35, Try.ntmps35
  go_upto_region 1 with (fail)
  go_cut [14] (fun v14 wc => ∃ (kq : Nat) (x14_2 : Bool), v14 = .bool x14_2 ∧ Aside0 (supercargoref04_Error.j0 kq a0 l1 x14_2 = some r) ∧ Aside0 (kq ≤ k) ∧ Drawn0 w wc)
  case first =>
    have H := HC3.out
    clear HC3
    by_cases c4 : a0 < 0
    · rw [if_pos c4] at H
      have c4b0 : decide (a0 < 0) = true := decide_eq_true c4
      clear c4
      (first | rw [c4b0] | (simp only [i64_w, i32_w]; rw [c4b0]) | skip)
      have H' := Aside0.mk H
      clear H
      go_wp2
      go_meet
      case rel => exact ⟨_, (true), (by first | rfl | (simp; done) | (simp [*]; done)), H', ⟨by first | omega | exact Nat.le_refl _⟩, by repeat (first | exact Drawn0.refl _ | apply Drawn0.step)⟩
    · rw [if_neg c4] at H
      have c4b0 : decide (a0 < 0) = false := decide_eq_false c4
      clear c4
      (first | rw [c4b0] | (simp only [i64_w, i32_w]; rw [c4b0]) | skip)
      have H' := Aside0.mk H
      clear H
      go_wp2
      go_meet
      case rel => exact ⟨_, (((l1.length : Int) == 0)), (by first | rfl | (simp; done) | (simp [*]; done)), H', ⟨by first | omega | exact Nat.le_refl _⟩, by repeat (first | exact Drawn0.refl _ | apply Drawn0.step)⟩
  case rest =>
    clear HC3
    try clear c1
    try clear p2
    try clear c3
    try clear c4
    try clear c4b0
    obtain ⟨kq, x14_2, rfl, HA, HJ2, ⟨mc2, rfl⟩⟩ := hcut
    cases kq with
    | zero => exact absurd HA.out (by simp [supercargoref04_Error.j0])
    | succ kj2 =>
      have H := HA.out
      clear HA
      simp only [supercargoref04_Error.j0] at H
      by_cases c5 : x14_2 = true
      · subst c5
        have H1 : (some 1) = some r := by rw [if_pos rfl] at H; exact H
        clear H
        have H := H1
        clear H1
        obtain rfl := Option.some.inj H
        go_wp2
        go_ret
        exact ⟨by first | rfl | (simp; done) | (simp [*]; done), by repeat (first | exact Drawn0.refl _ | apply Drawn0.step)⟩
      · replace c5 := Bool.eq_false_iff.mpr c5
        subst c5
        have H1 : (supercargoref04_Error.l0 kj2 a0 l1 0) = some r := by rw [if_neg (show ¬ (false = true) by decide)] at H; exact H
        clear H
        have H := H1
        clear H1
        have H' := Aside0.mk H
        clear H
        go_wp2
        go_loopg [5] kj2 (fun kq v5 w' => ∃ (x5_2 : Int), v5 = .int .i64 x5_2 ∧ Aside0 (supercargoref04_Error.l0 kq a0 l1 x5_2 = some r) ∧ Aside0 (kq ≤ kj2) ∧ Drawn0 w w')
        case atStart => exact ⟨(0), (by first | rfl | (simp; done) | (simp [*]; done)), H', ⟨Nat.le_refl _⟩, by repeat (first | exact Drawn0.refl _ | apply Drawn0.step)⟩
        case round =>
          clear H'
          try clear c1
          try clear c2
          try clear p2
          try clear c3
          try clear c4
          try clear c4b0
          try clear c5
          try clear p2
          obtain ⟨x5_2, rfl, HA, HK2, ⟨m2, rfl⟩⟩ := hrel
          cases gk with
          | zero => exact absurd HA.out (by simp [supercargoref04_Error.l0])
          | succ k2 =>
            have H := HA.out
            clear HA
            simp only [supercargoref04_Error.l0] at H
            by_cases c6 : x5_2 < (l1.length : Int)
            · rw [if_pos c6] at H
              have c6b0 : decide (x5_2 < (l1.length : Int)) = true := decide_eq_true c6
              clear c6
              by_cases c7 : 0 ≤ x5_2
              · rw [if_pos c7] at H
                have c7b0 : decide (0 ≤ x5_2) = true := decide_eq_true c7
                clear c7
                by_cases c8 : (rd l1 x5_2) < 0
                · rw [if_pos c8] at H
                  have c8b0 : decide ((rd l1 x5_2) < 0) = true := decide_eq_true c8
                  clear c8
                  obtain rfl := Option.some.inj H
                  have p192 : 0 ≤ (x5_2 : Int) := of_decide_eq_true (by first | (with_reducible assumption) | assumption)
                  have q192 : x5_2 < (l1.length : Int) := of_decide_eq_true (by first | (with_reducible assumption) | assumption)
                  obtain ⟨ad192, e192, hx192_0⟩ := Kd.at_int HR1.out x5_2 p192 q192
                  cases e192
                  replace p192 := eq_true p192
                  replace q192 := eq_true q192
                  go_wp2
                  go_ret
                  exact ⟨by first | rfl | (simp; done) | (simp [*]; done), by repeat (first | exact Drawn0.refl _ | apply Drawn0.step)⟩
                · rw [if_neg c8] at H
                  have c8b0 : decide ((rd l1 x5_2) < 0) = false := decide_eq_false c8
                  clear c8
                  have H' := Aside0.mk H
                  clear H
                  have p192 : 0 ≤ (x5_2 : Int) := of_decide_eq_true (by first | (with_reducible assumption) | assumption)
                  have q192 : x5_2 < (l1.length : Int) := of_decide_eq_true (by first | (with_reducible assumption) | assumption)
                  obtain ⟨ad192, e192, hx192_0⟩ := Kd.at_int HR1.out x5_2 p192 q192
                  cases e192
                  replace p192 := eq_true p192
                  replace q192 := eq_true q192
                  go_wp2
                  go_roundg k2
                  case measure => have := HJ2.out; have := HK2.out; omega
                  case rel => exact ⟨(wrap64 (x5_2 + 1)), (by first | rfl | (simp; done) | (simp [*]; done)), H', ⟨by have := HJ2.out; have := HK2.out; omega⟩, by repeat (first | exact Drawn0.refl _ | apply Drawn0.step)⟩
              · rw [if_neg c7] at H
                exact absurd H (by simp)
            · rw [if_neg c6] at H
              have c6b0 : decide (x5_2 < (l1.length : Int)) = false := decide_eq_false c6
              clear c6
              have HC9 := Aside0.mk H
              clear H
              go_upto_region 8 with (fail)
              go_cut [32] (fun v32 wc => ∃ (kq : Nat) (x32_8 : Bool), v32 = .bool x32_8 ∧ Aside0 (supercargoref04_Error.j2 kq a0 l1 x32_8 = some r) ∧ Aside0 (kq ≤ k2) ∧ Drawn0 w wc)
              case first =>
                have H := HC9.out
                clear HC9
                by_cases c10 : a0 > 1099511627776
                · rw [if_pos c10] at H
                  have c10b0 : decide (1099511627776 < a0) = true := decide_eq_true c10
                  clear c10
                  (first | rw [c10b0] | (simp only [i64_w, i32_w]; rw [c10b0]) | skip)
                  have H' := Aside0.mk H
                  clear H
                  go_wp2
                  go_meet
                  case rel => exact ⟨_, (true), (by first | rfl | (simp; done) | (simp [*]; done)), H', ⟨by have := HJ2.out; have := HK2.out; first | omega | exact Nat.le_refl _⟩, by repeat (first | exact Drawn0.refl _ | apply Drawn0.step)⟩
                · rw [if_neg c10] at H
                  have c10b0 : decide (1099511627776 < a0) = false := decide_eq_false c10
                  clear c10
                  (first | rw [c10b0] | (simp only [i64_w, i32_w]; rw [c10b0]) | skip)
                  have H' := Aside0.mk H
                  clear H
                  go_wp2
                  go_meet
                  case rel => exact ⟨_, (decide ((l1.length : Int) > 4096)), (by first | rfl | (simp; done) | (simp [*]; done)), H', ⟨by have := HJ2.out; have := HK2.out; first | omega | exact Nat.le_refl _⟩, by repeat (first | exact Drawn0.refl _ | apply Drawn0.step)⟩
              case rest =>
                clear HC9
                try clear c1
                try clear p1
                try clear q1
                try clear hx1
                try clear c2
                try clear p2
                try clear c3
                try clear c4
                try clear c4b0
                try clear c5
                try clear c6
                try clear c6b0
                try clear p6
                try clear c7
                try clear c7b0
                try clear c8
                try clear c8b0
                try clear c10
                try clear c10b0
                try clear hx192_0
                try clear p192
                try clear p2
                try clear q192
                obtain ⟨kq, x32_8, rfl, HA, HJ8, ⟨mc8, rfl⟩⟩ := hcut
                cases kq with
                | zero => exact absurd HA.out (by simp [supercargoref04_Error.j2])
                | succ kj8 =>
                  have H := HA.out
                  clear HA
                  simp only [supercargoref04_Error.j2] at H
                  by_cases c11 : x32_8 = true
                  · subst c11
                    have H1 : (some 3) = some r := by rw [if_pos rfl] at H; exact H
                    clear H
                    have H := H1
                    clear H1
                    obtain rfl := Option.some.inj H
                    go_wp2
                    go_ret
                    exact ⟨by first | rfl | (simp; done) | (simp [*]; done), by repeat (first | exact Drawn0.refl _ | apply Drawn0.step)⟩
                  · replace c11 := Bool.eq_false_iff.mpr c11
                    subst c11
                    have H1 : (supercargoref04_Error.l1 kj8 a0 l1 0 0) = some r := by rw [if_neg (show ¬ (false = true) by decide)] at H; exact H
                    clear H
                    have H := H1
                    clear H1
                    have H' := Aside0.mk H
                    clear H
                    go_wp2
                    go_loopg [6, 7] kj8 (fun kq v6 v7 w' => ∃ (x6_4 : Int) (x7_4 : Int), v6 = .int .i64 x6_4 ∧ v7 = .int .i64 x7_4 ∧ Aside0 (supercargoref04_Error.l1 kq a0 l1 x6_4 x7_4 = some r) ∧ Aside0 (kq ≤ kj8) ∧ Drawn0 w w')
                    case atStart => exact ⟨(0), (0), (by first | rfl | (simp; done) | (simp [*]; done)), (by first | rfl | (simp; done) | (simp [*]; done)), H', ⟨Nat.le_refl _⟩, by repeat (first | exact Drawn0.refl _ | apply Drawn0.step)⟩
                    case round =>
                      clear H'
                      try clear c1
                      try clear p1
                      try clear q1
                      try clear hx1
                      try clear c2
                      try clear p2
                      try clear c3
                      try clear c4
                      try clear c4b0
                      try clear c5
                      try clear c6
                      try clear c6b0
                      try clear p6
                      try clear c7
                      try clear c7b0
                      try clear c8
                      try clear c8b0
                      try clear c10
                      try clear c10b0
                      try clear c11
                      try clear hx192_0
                      try clear p1
                      try clear p192
                      try clear p2
                      try clear p6
                      try clear q1
                      try clear q192
                      obtain ⟨x6_4, x7_4, rfl, rfl, HA, HK4, ⟨m4, rfl⟩⟩ := hrel
                      cases gk with
                      | zero => exact absurd HA.out (by simp [supercargoref04_Error.l1])
                      | succ k4 =>
                        have H := HA.out
                        clear HA
                        simp only [supercargoref04_Error.l1] at H
                        by_cases c12 : x7_4 < (l1.length : Int)
                        · rw [if_pos c12] at H
                          have c12b0 : decide (x7_4 < (l1.length : Int)) = true := decide_eq_true c12
                          clear c12
                          by_cases c13 : 0 ≤ x7_4
                          · rw [if_pos c13] at H
                            have c13b0 : decide (0 ≤ x7_4) = true := decide_eq_true c13
                            clear c13
                            by_cases c14 : (rd l1 x7_4) > 1099511627776
                            · rw [if_pos c14] at H
                              have c14b0 : decide (1099511627776 < (rd l1 x7_4)) = true := decide_eq_true c14
                              clear c14
                              obtain rfl := Option.some.inj H
                              have p193 : 0 ≤ (x7_4 : Int) := of_decide_eq_true (by first | (with_reducible assumption) | assumption)
                              have q193 : x7_4 < (l1.length : Int) := of_decide_eq_true (by first | (with_reducible assumption) | assumption)
                              obtain ⟨ad193, e193, hx193_0⟩ := Kd.at_int HR1.out x7_4 p193 q193
                              cases e193
                              replace p193 := eq_true p193
                              replace q193 := eq_true q193
                              go_wp2
                              go_ret
                              exact ⟨by first | rfl | (simp; done) | (simp [*]; done), by repeat (first | exact Drawn0.refl _ | apply Drawn0.step)⟩
                            · rw [if_neg c14] at H
                              have c14b0 : decide (1099511627776 < (rd l1 x7_4)) = false := decide_eq_false c14
                              clear c14
                              have H' := Aside0.mk H
                              clear H
                              have p193 : 0 ≤ (x7_4 : Int) := of_decide_eq_true (by first | (with_reducible assumption) | assumption)
                              have q193 : x7_4 < (l1.length : Int) := of_decide_eq_true (by first | (with_reducible assumption) | assumption)
                              obtain ⟨ad193, e193, hx193_0⟩ := Kd.at_int HR1.out x7_4 p193 q193
                              cases e193
                              replace p193 := eq_true p193
                              replace q193 := eq_true q193
                              have p194 : 0 ≤ (x7_4 : Int) := of_decide_eq_true (by first | (with_reducible assumption) | assumption)
                              have q194 : x7_4 < (l1.length : Int) := of_decide_eq_true (by first | (with_reducible assumption) | assumption)
                              obtain ⟨ad194, e194, hx194_0⟩ := Kd.at_int HR1.out x7_4 p194 q194
                              obtain rfl : ad193 = ad194 := (by injection e194)
                              replace p194 := eq_true p194
                              replace q194 := eq_true q194
                              go_wp2
                              go_roundg k4
                              case measure => have := HJ2.out; have := HK2.out; have := HJ8.out; have := HK4.out; omega
                              case rel => exact ⟨(wrap64 (x6_4 + (rd l1 x7_4))), (wrap64 (x7_4 + 1)), (by first | rfl | (simp; done) | (simp [*]; done)), (by first | rfl | (simp; done) | (simp [*]; done)), H', ⟨by have := HJ2.out; have := HK2.out; have := HJ8.out; have := HK4.out; omega⟩, by repeat (first | exact Drawn0.refl _ | apply Drawn0.step)⟩
                          · rw [if_neg c13] at H
                            exact absurd H (by simp)
                        · rw [if_neg c12] at H
                          have c12b0 : decide (x7_4 < (l1.length : Int)) = false := decide_eq_false c12
                          clear c12
                          by_cases c15 : x6_4 = 0
                          · rw [if_pos c15] at H
                            have c15b0 : (x6_4 == 0) = true := beq_iff_eq.mpr c15
                            have c15b1 : (x6_4 != 0) = false := bne_eq_false_iff_eq.mpr c15
                            clear c15
                            by_cases c16 : a0 > 0
                            · rw [if_pos c16] at H
                              have c16b0 : decide (0 < a0) = true := decide_eq_true c16
                              clear c16
                              obtain rfl := Option.some.inj H
                              go_wp2
                              go_ret
                              exact ⟨by first | rfl | (simp; done) | (simp [*]; done), by repeat (first | exact Drawn0.refl _ | apply Drawn0.step)⟩
                            · rw [if_neg c16] at H
                              have c16b0 : decide (0 < a0) = false := decide_eq_false c16
                              clear c16
                              obtain rfl := Option.some.inj H
                              go_wp2
                              go_ret
                              exact ⟨by first | rfl | (simp; done) | (simp [*]; done), by repeat (first | exact Drawn0.refl _ | apply Drawn0.step)⟩
                          · rw [if_neg c15] at H
                            have c15b0 : (x6_4 == 0) = false := beq_eq_false_iff_ne.mpr c15
                            have c15b1 : (x6_4 != 0) = true := bne_iff_ne.mpr c15
                            obtain rfl := Option.some.inj H
                            go_wp2
                            go_ret
                            exact ⟨by first | rfl | (simp; done) | (simp [*]; done), by repeat (first | exact Drawn0.refl _ | apply Drawn0.step)⟩

/-! ### supercargoref04_Times: function 16 -/
mutual
def supercargoref04_Times.l0 : Nat → Int → Int → Int → Int → Int → Int → Option (Int × Int)
  | 0, _, _, _, _, _, _ => none
  | k + 1, x0, x1, x2, x8, x9, x10 => if x10 ≥ 0 then (if (wrap64 (2 * x9)) ≥ x2 then (supercargoref04_Times.j1 k x0 x1 x2 (wrap64 ((wrap64 (2 * x8)) + 1)) (wrap64 ((wrap64 (2 * x9)) - x2)) x10) else (supercargoref04_Times.j1 k x0 x1 x2 (wrap64 (2 * x8)) (wrap64 (2 * x9)) x10)) else (some (x8, x9))
def supercargoref04_Times.j1 : Nat → Int → Int → Int → Int → Int → Int → Option (Int × Int)
  | 0, _, _, _, _, _, _ => none
  | k + 1, x0, x1, x2, x8, x9, x10 => if 0 ≤ x10 then (if (Go.bits .and .i64 (shr .i64 x0 x10) 1) = 1 then (if x2 = 0 then (none) else (if (wrap64 (x9 + (Int.tmod x1 x2))) ≥ x2 then (supercargoref04_Times.l0 k x0 x1 x2 (wrap64 ((wrap64 (x8 + (wrap64 (Int.tdiv x1 x2)))) + 1)) (wrap64 ((wrap64 (x9 + (Int.tmod x1 x2))) - x2)) (wrap64 (x10 - 1))) else (supercargoref04_Times.l0 k x0 x1 x2 (wrap64 (x8 + (wrap64 (Int.tdiv x1 x2)))) (wrap64 (x9 + (Int.tmod x1 x2))) (wrap64 (x10 - 1))))) else (supercargoref04_Times.l0 k x0 x1 x2 x8 x9 (wrap64 (x10 - 1)))) else (none)
end
def supercargoref04_Times.f (k : Nat) (a0 : Int) (a1 : Int) (a2 : Int) : Option (Int × Int) := supercargoref04_Times.l0 k a0 a1 a2 0 0 62
theorem supercargoref04_Times.mono_l : ∀ k, (∀ y0 y1 y2 y3 y4 y5, LeO (supercargoref04_Times.l0 k y0 y1 y2 y3 y4 y5) (supercargoref04_Times.l0 (k + 1) y0 y1 y2 y3 y4 y5)) ∧ (∀ y0 y1 y2 y3 y4 y5, LeO (supercargoref04_Times.j1 k y0 y1 y2 y3 y4 y5) (supercargoref04_Times.j1 (k + 1) y0 y1 y2 y3 y4 y5))
  | 0 => ⟨fun _ _ _ _ _ _ r h => by simp [supercargoref04_Times.l0] at h, fun _ _ _ _ _ _ r h => by simp [supercargoref04_Times.j1] at h⟩
  | k + 1 => by
    obtain ⟨ih0, ih1⟩ := supercargoref04_Times.mono_l k
    refine ⟨?_, ?_⟩
    · intro y0 y1 y2 y3 y4 y5
      unfold supercargoref04_Times.l0
      repeat' first
      | (with_reducible exact ih0 _ _ _ _ _ _)
      | (with_reducible exact ih1 _ _ _ _ _ _)
      | (with_reducible exact LeO.refl _)
      | (with_reducible exact LeO.none _)
      | (with_reducible refine LeO.ite ?_ ?_)
      | (with_reducible refine LeO.bind ?_ (fun _ => ?_))
      | exact ih0 _ _ _ _ _ _
      | exact ih1 _ _ _ _ _ _
      | exact LeO.none _
      | refine LeO.ite ?_ ?_
      | refine LeO.bind ?_ (fun _ => ?_)
    · intro y0 y1 y2 y3 y4 y5
      unfold supercargoref04_Times.j1
      repeat' first
      | (with_reducible exact ih0 _ _ _ _ _ _)
      | (with_reducible exact ih1 _ _ _ _ _ _)
      | (with_reducible exact LeO.refl _)
      | (with_reducible exact LeO.none _)
      | (with_reducible refine LeO.ite ?_ ?_)
      | (with_reducible refine LeO.bind ?_ (fun _ => ?_))
      | exact ih0 _ _ _ _ _ _
      | exact ih1 _ _ _ _ _ _
      | exact LeO.none _
      | refine LeO.ite ?_ ?_
      | refine LeO.bind ?_ (fun _ => ?_)
theorem supercargoref04_Times.mono : ∀ a0 a1 a2 k, LeO (supercargoref04_Times.f k a0 a1 a2) (supercargoref04_Times.f (k + 1) a0 a1 a2) := by
  intro a0 a1 a2 k
  obtain ⟨ih0, ih1⟩ := supercargoref04_Times.mono_l k
  unfold supercargoref04_Times.f
  repeat' first
      | (with_reducible exact ih0 _ _ _ _ _ _)
      | (with_reducible exact ih1 _ _ _ _ _ _)
      | (with_reducible exact LeO.refl _)
      | (with_reducible exact LeO.none _)
      | (with_reducible refine LeO.ite ?_ ?_)
      | (with_reducible refine LeO.bind ?_ (fun _ => ?_))
      | exact ih0 _ _ _ _ _ _
      | exact ih1 _ _ _ _ _ _
      | exact LeO.none _
      | refine LeO.ite ?_ ?_
      | refine LeO.bind ?_ (fun _ => ?_)
set_option maxHeartbeats 8000000 in
set_option maxRecDepth 100000 in
theorem supercargoref04_Times.calls (k : Nat) (a0 : Int) (a1 : Int) (a2 : Int) (r1 : Int) (r2 : Int) (w : World) (h : supercargoref04_Times.f k a0 a1 a2 = some (r1, r2)) :
    Calls Try.prog 16 #[.int .i64 a0, .int .i64 a1, .int .i64 a2] w fun e w' => e = .returned (.tuple #[.int .i64 r1, .int .i64 r2]) ∧ Drawn0 w w' := by
  have H : (supercargoref04_Times.l0 k a0 a1 a2 0 0 62) = some (r1, r2) := h
  clear h
  have H' := Aside0.mk H
  clear H
  go_enter Try.func16, Try.ntmps16
  go_wp2
  go_loopg [8, 9, 10] k (fun kq v8 v9 v10 w' => ∃ (x8_1 : Int) (x9_1 : Int) (x10_1 : Int), v8 = .int .i64 x8_1 ∧ v9 = .int .i64 x9_1 ∧ v10 = .int .i64 x10_1 ∧ Aside0 (supercargoref04_Times.l0 kq a0 a1 a2 x8_1 x9_1 x10_1 = some (r1, r2)) ∧ Aside0 (kq ≤ k) ∧ Drawn0 w w')
  case atStart => exact ⟨(0), (0), (62), (by first | rfl | (simp; done) | (simp [*]; done)), (by first | rfl | (simp; done) | (simp [*]; done)), (by first | rfl | (simp; done) | (simp [*]; done)), H', ⟨Nat.le_refl _⟩, by repeat (first | exact Drawn0.refl _ | apply Drawn0.step)⟩
  case round =>
    clear H'
    try clear c1
    try clear p2
    obtain ⟨x8_1, x9_1, x10_1, rfl, rfl, rfl, HA, HK1, ⟨m1, rfl⟩⟩ := hrel
    cases gk with
    | zero => exact absurd HA.out (by simp [supercargoref04_Times.l0])
    | succ k1 =>
      have H := HA.out
      clear HA
      simp only [supercargoref04_Times.l0] at H
      by_cases c4 : x10_1 ≥ 0
      · rw [if_pos c4] at H
        have c4b0 : decide (0 ≤ x10_1) = true := decide_eq_true c4
        clear c4
        have HC5 := Aside0.mk H
        clear H
        go_upto_if 21 with (fail)
        go_cut [8, 9] (fun v8 v9 wc => ∃ (kq : Nat) (x8_4 : Int) (x9_4 : Int), v8 = .int .i64 x8_4 ∧ v9 = .int .i64 x9_4 ∧ Aside0 (supercargoref04_Times.j1 kq a0 a1 a2 x8_4 x9_4 x10_1 = some (r1, r2)) ∧ Aside0 (kq ≤ k1) ∧ Drawn0 w wc)
        case first =>
          have H := HC5.out
          clear HC5
          by_cases c6 : (wrap64 (2 * x9_1)) ≥ a2
          · rw [if_pos c6] at H
            have c6b0 : decide (a2 ≤ (wrap64 (2 * x9_1))) = true := decide_eq_true c6
            clear c6
            (first | rw [c6b0] | (simp only [i64_w, i32_w]; rw [c6b0]) | skip)
            have H' := Aside0.mk H
            clear H
            go_wp2
            go_meet
            case rel => exact ⟨_, (wrap64 ((wrap64 (2 * x8_1)) + 1)), (wrap64 ((wrap64 (2 * x9_1)) - a2)), (by first | rfl | (simp; done) | (simp [*]; done)), (by first | rfl | (simp; done) | (simp [*]; done)), H', ⟨by have := HK1.out; first | omega | exact Nat.le_refl _⟩, by repeat (first | exact Drawn0.refl _ | apply Drawn0.step)⟩
          · rw [if_neg c6] at H
            have c6b0 : decide (a2 ≤ (wrap64 (2 * x9_1))) = false := decide_eq_false c6
            clear c6
            (first | rw [c6b0] | (simp only [i64_w, i32_w]; rw [c6b0]) | skip)
            have H' := Aside0.mk H
            clear H
            go_wp2
            go_meet
            case rel => exact ⟨_, (wrap64 (2 * x8_1)), (wrap64 (2 * x9_1)), (by first | rfl | (simp; done) | (simp [*]; done)), (by first | rfl | (simp; done) | (simp [*]; done)), H', ⟨by have := HK1.out; first | omega | exact Nat.le_refl _⟩, by repeat (first | exact Drawn0.refl _ | apply Drawn0.step)⟩
        case rest =>
          clear HC5
          try clear c1
          try clear p2
          try clear c4
          try clear c4b0
          try clear c6
          try clear c6b0
          try clear p6
          try clear p2
          obtain ⟨kq, x8_4, x9_4, rfl, rfl, HA, HJ4, ⟨mc4, rfl⟩⟩ := hcut
          cases kq with
          | zero => exact absurd HA.out (by simp [supercargoref04_Times.j1])
          | succ kj4 =>
            have H := HA.out
            clear HA
            simp only [supercargoref04_Times.j1] at H
            by_cases c7 : 0 ≤ x10_1
            · rw [if_pos c7] at H
              have c7b0 := eq_true c7
              have c7b1 : decide (0 ≤ x10_1) = true := decide_eq_true c7
              clear c7
              obtain ⟨ji8, hji8⟩ : ∃ j_ : Int, (shr .i64 a0 x10_1) = j_ := ⟨_, rfl⟩
              replace H : (if (Go.bits .and .i64 (ji8) 1) = 1 then (if a2 = 0 then (none) else (if (wrap64 (x9_4 + (Int.tmod a1 a2))) ≥ a2 then (supercargoref04_Times.l0 kj4 a0 a1 a2 (wrap64 ((wrap64 (x8_4 + (wrap64 (Int.tdiv a1 a2)))) + 1)) (wrap64 ((wrap64 (x9_4 + (Int.tmod a1 a2))) - a2)) (wrap64 (x10_1 - 1))) else (supercargoref04_Times.l0 kj4 a0 a1 a2 (wrap64 (x8_4 + (wrap64 (Int.tdiv a1 a2)))) (wrap64 (x9_4 + (Int.tmod a1 a2))) (wrap64 (x10_1 - 1))))) else (supercargoref04_Times.l0 kj4 a0 a1 a2 x8_4 x9_4 (wrap64 (x10_1 - 1)))) = some (r1, r2) := by first | (rw [hji8] at H; exact H) | (simp only [hji8] at H ⊢; exact H)
              have hji8_ : (a0 / 2 ^ min x10_1.toNat 64) = ji8 := hji8
              have hji8z : x10_1 ≤ 64 → (a0 / 2 ^ x10_1.toNat) = ji8 := shr_small hji8
              by_cases c9 : (Go.bits .and .i64 (ji8) 1) = 1
              · rw [if_pos c9] at H
                have c9b0 : ((Go.bits .and .i64 (ji8) 1) == 1) = true := beq_iff_eq.mpr c9
                have c9b1 : ((Go.bits .and .i64 (ji8) 1) != 1) = false := bne_eq_false_iff_eq.mpr c9
                clear c9
                by_cases c10 : a2 = 0
                · rw [if_pos c10] at H
                  exact absurd H (by simp)
                · rw [if_neg c10] at H
                  have c10b0 : (a2 == 0) = false := beq_eq_false_iff_ne.mpr c10
                  have c10b1 : (a2 != 0) = true := bne_iff_ne.mpr c10
                  by_cases c11 : (wrap64 (x9_4 + (Int.tmod a1 a2))) ≥ a2
                  · rw [if_pos c11] at H
                    have c11b0 : decide (a2 ≤ (wrap64 (x9_4 + (Int.tmod a1 a2)))) = true := decide_eq_true c11
                    clear c11
                    have H' := Aside0.mk H
                    clear H
                    go_wp2
                    go_roundg kj4
                    case measure => have := HK1.out; have := HJ4.out; omega
                    case rel => exact ⟨(wrap64 ((wrap64 (x8_4 + (wrap64 (Int.tdiv a1 a2)))) + 1)), (wrap64 ((wrap64 (x9_4 + (Int.tmod a1 a2))) - a2)), (wrap64 (x10_1 - 1)), (by first | rfl | (simp; done) | (simp [*]; done)), (by first | rfl | (simp; done) | (simp [*]; done)), (by first | rfl | (simp; done) | (simp [*]; done)), H', ⟨by have := HK1.out; have := HJ4.out; omega⟩, by repeat (first | exact Drawn0.refl _ | apply Drawn0.step)⟩
                  · rw [if_neg c11] at H
                    have c11b0 : decide (a2 ≤ (wrap64 (x9_4 + (Int.tmod a1 a2)))) = false := decide_eq_false c11
                    clear c11
                    have H' := Aside0.mk H
                    clear H
                    go_wp2
                    go_roundg kj4
                    case measure => have := HK1.out; have := HJ4.out; omega
                    case rel => exact ⟨(wrap64 (x8_4 + (wrap64 (Int.tdiv a1 a2)))), (wrap64 (x9_4 + (Int.tmod a1 a2))), (wrap64 (x10_1 - 1)), (by first | rfl | (simp; done) | (simp [*]; done)), (by first | rfl | (simp; done) | (simp [*]; done)), (by first | rfl | (simp; done) | (simp [*]; done)), H', ⟨by have := HK1.out; have := HJ4.out; omega⟩, by repeat (first | exact Drawn0.refl _ | apply Drawn0.step)⟩
              · rw [if_neg c9] at H
                have c9b0 : ((Go.bits .and .i64 (ji8) 1) == 1) = false := beq_eq_false_iff_ne.mpr c9
                have c9b1 : ((Go.bits .and .i64 (ji8) 1) != 1) = true := bne_iff_ne.mpr c9
                have H' := Aside0.mk H
                clear H
                go_wp2
                go_roundg kj4
                case measure => have := HK1.out; have := HJ4.out; omega
                case rel => exact ⟨(x8_4), (x9_4), (wrap64 (x10_1 - 1)), (by first | rfl | (simp; done) | (simp [*]; done)), (by first | rfl | (simp; done) | (simp [*]; done)), (by first | rfl | (simp; done) | (simp [*]; done)), H', ⟨by have := HK1.out; have := HJ4.out; omega⟩, by repeat (first | exact Drawn0.refl _ | apply Drawn0.step)⟩
            · rw [if_neg c7] at H
              exact absurd H (by simp)
      · rw [if_neg c4] at H
        have c4b0 : decide (0 ≤ x10_1) = false := decide_eq_false c4
        clear c4
        simp only [Option.some.injEq, Prod.mk.injEq] at H
        obtain ⟨rfl, rfl⟩ := H
        go_wp2
        go_ret2
        exact ⟨by first | rfl | (simp; done) | (simp [*]; done), by repeat (first | exact Drawn0.refl _ | apply Drawn0.step)⟩

end Go.Proofs.Yteeehijpdkbgkaa.Print
