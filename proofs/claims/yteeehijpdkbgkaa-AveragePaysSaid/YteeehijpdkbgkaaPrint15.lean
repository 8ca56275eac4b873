/- Contracts of the program's functions over this seat's translation, written out by this session's own driver. Conditions: those in each statement. -/
import Derived.Test.YteeehijpdkbgkaaPrint0
import Derived.Test.YteeehijpdkbgkaaPrint14
namespace Go.Proofs.Yteeehijpdkbgkaa.Print
open Go.RowKit Go.Proofs.YteeehijpdkbgkaaW.PrintWords Go.Proofs.YteeehijpdkbgkaaW.PrintLast Go.Proofs.YteeehijpdkbgkaaW.PrintMore
attribute [local go_sem] max2_int min2_int max_two min_two max_three min_three max_four min_four   -- for this text's walks alone
set_option linter.unusedVariables false
set_option linter.unusedSimpArgs false

/-! ### supercargoref43_May: function 32 -/
mutual
def supercargoref43_May.l0 : Nat → List (S35) → Int → Option (Bool)
  | 0, _, _ => none
  | k + 1, x0, x3 => if x3 < (x0.length : Int) then (if 0 ≤ x3 then ((supercargoref03_Name.f k ((rd_T35 x0 x3).f0)).bind fun t179 => (if t179 = true then (if ((rd_T35 x0 x3).f1) < 0 then (supercargoref43_May.j1 k x0 x3 true) else (supercargoref43_May.j1 k x0 x3 (decide (((rd_T35 x0 x3).f1) > 1099511627776)))) else (supercargoref43_May.j1 k x0 x3 true))) else (none)) else (if (x0.length : Int) ≥ 1 then (some (decide ((x0.length : Int) ≤ 4096))) else (some false))
def supercargoref43_May.j1 : Nat → List (S35) → Int → Bool → Option (Bool)
  | 0, _, _, _ => none
  | k + 1, x0, x3, x33 => if x33 = true then (some false) else (supercargoref43_May.l1 k x0 x3 0)
def supercargoref43_May.l1 : Nat → List (S35) → Int → Int → Option (Bool)
  | 0, _, _, _ => none
  | k + 1, x0, x3, x4 => if x4 < x3 then (if 0 ≤ x4 then (if x4 < (x0.length : Int) then (if 0 ≤ x3 then (if x3 < (x0.length : Int) then (if ((rd_T35 x0 x4).f0).toList = ((rd_T35 x0 x3).f0).toList then (some false) else (supercargoref43_May.l1 k x0 x3 (wrap64 (x4 + 1)))) else (none)) else (none)) else (none)) else (none)) else (supercargoref43_May.l0 k x0 (wrap64 (x3 + 1)))
end
def supercargoref43_May.f (k : Nat) (l0 : List (S35)) : Option (Bool) := supercargoref43_May.l0 k l0 0
theorem supercargoref43_May.mono_l : ∀ k, (∀ y0 y1, LeO (supercargoref43_May.l0 k y0 y1) (supercargoref43_May.l0 (k + 1) y0 y1)) ∧ (∀ y0 y1 y2, LeO (supercargoref43_May.j1 k y0 y1 y2) (supercargoref43_May.j1 (k + 1) y0 y1 y2)) ∧ (∀ y0 y1 y2, LeO (supercargoref43_May.l1 k y0 y1 y2) (supercargoref43_May.l1 (k + 1) y0 y1 y2))
  | 0 => ⟨fun _ _ r h => by simp [supercargoref43_May.l0] at h, fun _ _ _ r h => by simp [supercargoref43_May.j1] at h, fun _ _ _ r h => by simp [supercargoref43_May.l1] at h⟩
  | k + 1 => by
    obtain ⟨ih0, ih1, ih2⟩ := supercargoref43_May.mono_l k
    refine ⟨?_, ?_, ?_⟩
    · intro y0 y1
      unfold supercargoref43_May.l0
      repeat' first
      | (with_reducible exact ih0 _ _)
      | (with_reducible exact ih1 _ _ _)
      | (with_reducible exact ih2 _ _ _)
      | (with_reducible exact supercargoref03_Name.mono _ _)
      | (with_reducible exact LeO.refl _)
      | (with_reducible exact LeO.none _)
      | (with_reducible refine LeO.ite ?_ ?_)
      | (with_reducible refine LeO.bind ?_ (fun _ => ?_))
      | exact ih0 _ _
      | exact ih1 _ _ _
      | exact ih2 _ _ _
      | exact supercargoref03_Name.mono _ _
      | exact LeO.none _
      | refine LeO.ite ?_ ?_
      | refine LeO.bind ?_ (fun _ => ?_)
    · intro y0 y1 y2
      unfold supercargoref43_May.j1
      repeat' first
      | (with_reducible exact ih0 _ _)
      | (with_reducible exact ih1 _ _ _)
      | (with_reducible exact ih2 _ _ _)
      | (with_reducible exact supercargoref03_Name.mono _ _)
      | (with_reducible exact LeO.refl _)
      | (with_reducible exact LeO.none _)
      | (with_reducible refine LeO.ite ?_ ?_)
      | (with_reducible refine LeO.bind ?_ (fun _ => ?_))
      | exact ih0 _ _
      | exact ih1 _ _ _
      | exact ih2 _ _ _
      | exact supercargoref03_Name.mono _ _
      | exact LeO.none _
      | refine LeO.ite ?_ ?_
      | refine LeO.bind ?_ (fun _ => ?_)
    · intro y0 y1 y2
      unfold supercargoref43_May.l1
      repeat' first
      | (with_reducible exact ih0 _ _)
      | (with_reducible exact ih1 _ _ _)
      | (with_reducible exact ih2 _ _ _)
      | (with_reducible exact supercargoref03_Name.mono _ _)
      | (with_reducible exact LeO.refl _)
      | (with_reducible exact LeO.none _)
      | (with_reducible refine LeO.ite ?_ ?_)
      | (with_reducible refine LeO.bind ?_ (fun _ => ?_))
      | exact ih0 _ _
      | exact ih1 _ _ _
      | exact ih2 _ _ _
      | exact supercargoref03_Name.mono _ _
      | exact LeO.none _
      | refine LeO.ite ?_ ?_
      | refine LeO.bind ?_ (fun _ => ?_)
theorem supercargoref43_May.mono : ∀ a0 k, LeO (supercargoref43_May.f k a0) (supercargoref43_May.f (k + 1) a0) := by
  intro a0 k
  obtain ⟨ih0, ih1, ih2⟩ := supercargoref43_May.mono_l k
  unfold supercargoref43_May.f
  repeat' first
      | (with_reducible exact ih0 _ _)
      | (with_reducible exact ih1 _ _ _)
      | (with_reducible exact ih2 _ _ _)
      | (with_reducible exact supercargoref03_Name.mono _ _)
      | (with_reducible exact LeO.refl _)
      | (with_reducible exact LeO.none _)
      | (with_reducible refine LeO.ite ?_ ?_)
      | (with_reducible refine LeO.bind ?_ (fun _ => ?_))
      | exact ih0 _ _
      | exact ih1 _ _ _
      | exact ih2 _ _ _
      | exact supercargoref03_Name.mono _ _
      | exact LeO.none _
      | refine LeO.ite ?_ ?_
      | refine LeO.bind ?_ (fun _ => ?_)
set_option maxHeartbeats 8000000 in
set_option maxRecDepth 100000 in
theorem supercargoref43_May.calls (k : Nat) (A0 : Option Addr) (c0 : Nat) (l0 : List (S35)) (r : Bool) (w : World) (hr0 : Kd.C k35 w A0 l0.length l0) (hc0 : l0.length ≤ c0) (h : supercargoref43_May.f k l0 = some r) :
    Calls Try.prog 32 #[.slice A0 l0.length c0] w fun e w' => e = .returned (.bool r) ∧ Drawn0 w w' := by
  have HR0 := Aside0.mk hr0
  have HC0 := Aside0.mk hc0
  clear hr0 hc0
  have H : (supercargoref43_May.l0 k l0 0) = some r := h
  clear h
  have H' := Aside0.mk H
  clear H
  go_enter Try.func32, Try.ntmps32
  go_wp2
  repeat (go_quiet (fail); try go_wp2)
  go_loopg [3] k (fun kq v3 w' => ∃ (x3_1 : Int), v3 = .int .i64 x3_1 ∧ Aside0 (supercargoref43_May.l0 kq l0 x3_1 = some r) ∧ Aside0 (kq ≤ k) ∧ Drawn0 w w')
  case atStart => exact ⟨(0), (by first | rfl | (simp; done) | (simp [*]; done)), H', ⟨Nat.le_refl _⟩, by repeat (first | exact Drawn0.refl _ | apply Drawn0.step)⟩
  case round =>
    clear H'
    obtain ⟨x3_1, rfl, HA, HK1, ⟨m1, rfl⟩⟩ := hrel
    cases gk with
    | zero => exact absurd HA.out (by simp [supercargoref43_May.l0])
    | succ k1 =>
      have H := HA.out
      clear HA
      simp only [supercargoref43_May.l0] at H
      by_cases c2 : x3_1 < (l0.length : Int)
      · rw [if_pos c2] at H
        have c2b0 : decide (x3_1 < (l0.length : Int)) = true := decide_eq_true c2
        clear c2
        have HC3 := Aside0.mk H
        clear H
        go_upto_region 4 with (fail)
        repeat (go_quiet (fail); go_upto_region 4 with (fail))
        go_cut [33] (fun v33 wc => ∃ (kq : Nat) (x33_2 : Bool), v33 = .bool x33_2 ∧ Aside0 (supercargoref43_May.j1 kq l0 x3_1 x33_2 = some r) ∧ Aside0 (kq ≤ k1) ∧ Drawn0 w wc)
        case first =>
          have H := HC3.out
          clear HC3
          by_cases c4 : 0 ≤ x3_1
          · rw [if_pos c4] at H
            have c4b0 : decide (0 ≤ x3_1) = true := decide_eq_true c4
            clear c4
            (first | rw [c4b0] | (simp only [i64_w, i32_w]; rw [c4b0]) | skip)
            replace H := Option.bind_eq_some_iff.mp H
            obtain ⟨t179, A50, H⟩ := H
            replace H : (if t179 = true then (if ((rd_T35 l0 x3_1).f1) < 0 then (supercargoref43_May.j1 k1 l0 x3_1 true) else (supercargoref43_May.j1 k1 l0 x3_1 (decide (((rd_T35 l0 x3_1).f1) > 1099511627776)))) else (supercargoref43_May.j1 k1 l0 x3_1 true)) = some r := H
            have A5 := Aside0.mk A50
            clear A50
            by_cases c6 : t179 = true
            · subst c6
              have H1 : (if ((rd_T35 l0 x3_1).f1) < 0 then (supercargoref43_May.j1 k1 l0 x3_1 true) else (supercargoref43_May.j1 k1 l0 x3_1 (decide (((rd_T35 l0 x3_1).f1) > 1099511627776)))) = some r := by rw [if_pos rfl] at H; exact H
              clear H
              have H := H1
              clear H1
              by_cases c7 : ((rd_T35 l0 x3_1).f1) < 0
              · rw [if_pos c7] at H
                have c7b0 : decide (((rd_T35 l0 x3_1).f1) < 0) = true := decide_eq_true c7
                clear c7
                have H' := Aside0.mk H
                clear H
                have p178 : 0 ≤ (x3_1 : Int) := of_decide_eq_true (by first | (with_reducible assumption) | assumption)
                have q178 : x3_1 < (l0.length : Int) := of_decide_eq_true (by first | (with_reducible assumption) | assumption)
                obtain ⟨ad178, e178, hx178_0, hx178_1⟩ := at_T35 HR0.out x3_1 p178 q178
                cases e178
                replace p178 := eq_true p178
                replace q178 := eq_true q178
                go_wp2_with (first | (go_at_call 48; (with_reducible refine (supercargoref03_Name.calls k1 ((rd_T35 l0 x3_1).f0) true _ A5.out).mono ?_); rintro e w' ⟨rfl, ⟨nd, rfl⟩⟩; (try first | exact ⟨rfl, _, World.drewN_drewN _ _ _⟩ | exact ⟨rfl, _, Eq.trans (World.drewN_drewN _ _ _) (congrArg (World.drewN _) (Nat.add_assoc _ _ _))⟩); have p180 : 0 ≤ (x3_1 : Int) := of_decide_eq_true (by first | (with_reducible assumption) | assumption); have q180 : x3_1 < (l0.length : Int) := of_decide_eq_true (by first | (with_reducible assumption) | assumption); obtain ⟨ad180, e180, hx180_0, hx180_1⟩ := at_T35 HR0.out x3_1 p180 q180; obtain rfl : ad178 = ad180 := (by injection e180); replace p180 := eq_true p180; replace q180 := eq_true q180))
                repeat (go_quiet (first | (go_at_call 48; (with_reducible refine (supercargoref03_Name.calls k1 ((rd_T35 l0 x3_1).f0) true _ A5.out).mono ?_); rintro e w' ⟨rfl, ⟨nd, rfl⟩⟩; (try first | exact ⟨rfl, _, World.drewN_drewN _ _ _⟩ | exact ⟨rfl, _, Eq.trans (World.drewN_drewN _ _ _) (congrArg (World.drewN _) (Nat.add_assoc _ _ _))⟩); have p180 : 0 ≤ (x3_1 : Int) := of_decide_eq_true (by first | (with_reducible assumption) | assumption); have q180 : x3_1 < (l0.length : Int) := of_decide_eq_true (by first | (with_reducible assumption) | assumption); obtain ⟨ad180, e180, hx180_0, hx180_1⟩ := at_T35 HR0.out x3_1 p180 q180; obtain rfl : ad178 = ad180 := (by injection e180); replace p180 := eq_true p180; replace q180 := eq_true q180)); try go_wp2_with (first | (go_at_call 48; (with_reducible refine (supercargoref03_Name.calls k1 ((rd_T35 l0 x3_1).f0) true _ A5.out).mono ?_); rintro e w' ⟨rfl, ⟨nd, rfl⟩⟩; (try first | exact ⟨rfl, _, World.drewN_drewN _ _ _⟩ | exact ⟨rfl, _, Eq.trans (World.drewN_drewN _ _ _) (congrArg (World.drewN _) (Nat.add_assoc _ _ _))⟩); have p180 : 0 ≤ (x3_1 : Int) := of_decide_eq_true (by first | (with_reducible assumption) | assumption); have q180 : x3_1 < (l0.length : Int) := of_decide_eq_true (by first | (with_reducible assumption) | assumption); obtain ⟨ad180, e180, hx180_0, hx180_1⟩ := at_T35 HR0.out x3_1 p180 q180; obtain rfl : ad178 = ad180 := (by injection e180); replace p180 := eq_true p180; replace q180 := eq_true q180)))
                go_meet
                case rel => exact ⟨_, (true), (by first | rfl | (simp; done) | (simp [*]; done)), H', ⟨by have := HK1.out; first | omega | exact Nat.le_refl _⟩, by repeat (first | exact Drawn0.refl _ | apply Drawn0.step)⟩
              · rw [if_neg c7] at H
                have c7b0 : decide (((rd_T35 l0 x3_1).f1) < 0) = false := decide_eq_false c7
                clear c7
                have H' := Aside0.mk H
                clear H
                have p178 : 0 ≤ (x3_1 : Int) := of_decide_eq_true (by first | (with_reducible assumption) | assumption)
                have q178 : x3_1 < (l0.length : Int) := of_decide_eq_true (by first | (with_reducible assumption) | assumption)
                obtain ⟨ad178, e178, hx178_0, hx178_1⟩ := at_T35 HR0.out x3_1 p178 q178
                cases e178
                replace p178 := eq_true p178
                replace q178 := eq_true q178
                go_wp2_with (first | (go_at_call 48; (with_reducible refine (supercargoref03_Name.calls k1 ((rd_T35 l0 x3_1).f0) true _ A5.out).mono ?_); rintro e w' ⟨rfl, ⟨nd, rfl⟩⟩; (try first | exact ⟨rfl, _, World.drewN_drewN _ _ _⟩ | exact ⟨rfl, _, Eq.trans (World.drewN_drewN _ _ _) (congrArg (World.drewN _) (Nat.add_assoc _ _ _))⟩); have p180 : 0 ≤ (x3_1 : Int) := of_decide_eq_true (by first | (with_reducible assumption) | assumption); have q180 : x3_1 < (l0.length : Int) := of_decide_eq_true (by first | (with_reducible assumption) | assumption); obtain ⟨ad180, e180, hx180_0, hx180_1⟩ := at_T35 HR0.out x3_1 p180 q180; obtain rfl : ad178 = ad180 := (by injection e180); replace p180 := eq_true p180; replace q180 := eq_true q180; have p181 : 0 ≤ (x3_1 : Int) := of_decide_eq_true (by first | (with_reducible assumption) | assumption); have q181 : x3_1 < (l0.length : Int) := of_decide_eq_true (by first | (with_reducible assumption) | assumption); obtain ⟨ad181, e181, hx181_0, hx181_1⟩ := at_T35 HR0.out x3_1 p181 q181; obtain rfl : ad178 = ad181 := (by injection e181); replace p181 := eq_true p181; replace q181 := eq_true q181))
                repeat (go_quiet (first | (go_at_call 48; (with_reducible refine (supercargoref03_Name.calls k1 ((rd_T35 l0 x3_1).f0) true _ A5.out).mono ?_); rintro e w' ⟨rfl, ⟨nd, rfl⟩⟩; (try first | exact ⟨rfl, _, World.drewN_drewN _ _ _⟩ | exact ⟨rfl, _, Eq.trans (World.drewN_drewN _ _ _) (congrArg (World.drewN _) (Nat.add_assoc _ _ _))⟩); have p180 : 0 ≤ (x3_1 : Int) := of_decide_eq_true (by first | (with_reducible assumption) | assumption); have q180 : x3_1 < (l0.length : Int) := of_decide_eq_true (by first | (with_reducible assumption) | assumption); obtain ⟨ad180, e180, hx180_0, hx180_1⟩ := at_T35 HR0.out x3_1 p180 q180; obtain rfl : ad178 = ad180 := (by injection e180); replace p180 := eq_true p180; replace q180 := eq_true q180; have p181 : 0 ≤ (x3_1 : Int) := of_decide_eq_true (by first | (with_reducible assumption) | assumption); have q181 : x3_1 < (l0.length : Int) := of_decide_eq_true (by first | (with_reducible assumption) | assumption); obtain ⟨ad181, e181, hx181_0, hx181_1⟩ := at_T35 HR0.out x3_1 p181 q181; obtain rfl : ad178 = ad181 := (by injection e181); replace p181 := eq_true p181; replace q181 := eq_true q181)); try go_wp2_with (first | (go_at_call 48; (with_reducible refine (supercargoref03_Name.calls k1 ((rd_T35 l0 x3_1).f0) true _ A5.out).mono ?_); rintro e w' ⟨rfl, ⟨nd, rfl⟩⟩; (try first | exact ⟨rfl, _, World.drewN_drewN _ _ _⟩ | exact ⟨rfl, _, Eq.trans (World.drewN_drewN _ _ _) (congrArg (World.drewN _) (Nat.add_assoc _ _ _))⟩); have p180 : 0 ≤ (x3_1 : Int) := of_decide_eq_true (by first | (with_reducible assumption) | assumption); have q180 : x3_1 < (l0.length : Int) := of_decide_eq_true (by first | (with_reducible assumption) | assumption); obtain ⟨ad180, e180, hx180_0, hx180_1⟩ := at_T35 HR0.out x3_1 p180 q180; obtain rfl : ad178 = ad180 := (by injection e180); replace p180 := eq_true p180; replace q180 := eq_true q180; have p181 : 0 ≤ (x3_1 : Int) := of_decide_eq_true (by first | (with_reducible assumption) | assumption); have q181 : x3_1 < (l0.length : Int) := of_decide_eq_true (by first | (with_reducible assumption) | assumption); obtain ⟨ad181, e181, hx181_0, hx181_1⟩ := at_T35 HR0.out x3_1 p181 q181; obtain rfl : ad178 = ad181 := (by injection e181); replace p181 := eq_true p181; replace q181 := eq_true q181)))
                go_meet
                case rel => exact ⟨_, (decide (((rd_T35 l0 x3_1).f1) > 1099511627776)), (by first | rfl | (simp; done) | (simp [*]; done)), H', ⟨by have := HK1.out; first | omega | exact Nat.le_refl _⟩, by repeat (first | exact Drawn0.refl _ | apply Drawn0.step)⟩
            · replace c6 := Bool.eq_false_iff.mpr c6
              subst c6
              have H1 : (supercargoref43_May.j1 k1 l0 x3_1 true) = some r := by rw [if_neg (show ¬ (false = true) by decide)] at H; exact H
              clear H
              have H := H1
              clear H1
              have H' := Aside0.mk H
              clear H
              have p178 : 0 ≤ (x3_1 : Int) := of_decide_eq_true (by first | (with_reducible assumption) | assumption)
              have q178 : x3_1 < (l0.length : Int) := of_decide_eq_true (by first | (with_reducible assumption) | assumption)
              obtain ⟨ad178, e178, hx178_0, hx178_1⟩ := at_T35 HR0.out x3_1 p178 q178
              cases e178
              replace p178 := eq_true p178
              replace q178 := eq_true q178
              go_wp2_with (first | (go_at_call 48; (with_reducible refine (supercargoref03_Name.calls k1 ((rd_T35 l0 x3_1).f0) false _ A5.out).mono ?_); rintro e w' ⟨rfl, ⟨nd, rfl⟩⟩; (try first | exact ⟨rfl, _, World.drewN_drewN _ _ _⟩ | exact ⟨rfl, _, Eq.trans (World.drewN_drewN _ _ _) (congrArg (World.drewN _) (Nat.add_assoc _ _ _))⟩)))
              repeat (go_quiet (first | (go_at_call 48; (with_reducible refine (supercargoref03_Name.calls k1 ((rd_T35 l0 x3_1).f0) false _ A5.out).mono ?_); rintro e w' ⟨rfl, ⟨nd, rfl⟩⟩; (try first | exact ⟨rfl, _, World.drewN_drewN _ _ _⟩ | exact ⟨rfl, _, Eq.trans (World.drewN_drewN _ _ _) (congrArg (World.drewN _) (Nat.add_assoc _ _ _))⟩))); try go_wp2_with (first | (go_at_call 48; (with_reducible refine (supercargoref03_Name.calls k1 ((rd_T35 l0 x3_1).f0) false _ A5.out).mono ?_); rintro e w' ⟨rfl, ⟨nd, rfl⟩⟩; (try first | exact ⟨rfl, _, World.drewN_drewN _ _ _⟩ | exact ⟨rfl, _, Eq.trans (World.drewN_drewN _ _ _) (congrArg (World.drewN _) (Nat.add_assoc _ _ _))⟩))))
              go_meet
              case rel => exact ⟨_, (true), (by first | rfl | (simp; done) | (simp [*]; done)), H', ⟨by have := HK1.out; first | omega | exact Nat.le_refl _⟩, by repeat (first | exact Drawn0.refl _ | apply Drawn0.step)⟩
          · rw [if_neg c4] at H
            exact absurd H (by simp)
        case rest =>
          clear HC3
          try clear p1
          try clear q1
          try clear hx1
          try clear c2
          try clear c2b0
          try clear p2
          try clear c3
          try clear c4
          try clear c4b0
          try clear c6
          try clear c7
          try clear c7b0
          try clear hx178_0
          try clear hx178_1
          try clear hx180_0
          try clear hx180_1
          try clear hx181_0
          try clear hx181_1
          try clear p178
          try clear p180
          try clear p181
          try clear q178
          try clear q180
          try clear q181
          obtain ⟨kq, x33_2, rfl, HA, HJ2, ⟨mc2, rfl⟩⟩ := hcut
          cases kq with
          | zero => exact absurd HA.out (by simp [supercargoref43_May.j1])
          | succ kj2 =>
            have H := HA.out
            clear HA
            simp only [supercargoref43_May.j1] at H
            by_cases c8 : x33_2 = true
            · subst c8
              have H1 : (some false) = some r := by rw [if_pos rfl] at H; exact H
              clear H
              have H := H1
              clear H1
              obtain rfl := Option.some.inj H
              go_wp2
              repeat (go_quiet (fail); try go_wp2)
              go_ret
              exact ⟨by first | rfl | (simp; done) | (simp [*]; done), by repeat (first | exact Drawn0.refl _ | apply Drawn0.step)⟩
            · replace c8 := Bool.eq_false_iff.mpr c8
              subst c8
              have H1 : (supercargoref43_May.l1 kj2 l0 x3_1 0) = some r := by rw [if_neg (show ¬ (false = true) by decide)] at H; exact H
              clear H
              have H := H1
              clear H1
              have H' := Aside0.mk H
              clear H
              go_wp2
              repeat (go_quiet (fail); try go_wp2)
              go_loopg [4] kj2 (fun kq v4 w' => ∃ (x4_3 : Int), v4 = .int .i64 x4_3 ∧ Aside0 (supercargoref43_May.l1 kq l0 x3_1 x4_3 = some r) ∧ Aside0 (kq ≤ kj2) ∧ Drawn0 w w')
              case atStart => exact ⟨(0), (by first | rfl | (simp; done) | (simp [*]; done)), H', ⟨Nat.le_refl _⟩, by repeat (first | exact Drawn0.refl _ | apply Drawn0.step)⟩
              case round =>
                clear H'
                try clear p1
                try clear q1
                try clear hx1
                try clear c2
                try clear c2b0
                try clear p2
                try clear c3
                try clear c4
                try clear c4b0
                try clear c6
                try clear c7
                try clear c7b0
                try clear c8
                try clear hx178_0
                try clear hx178_1
                try clear hx180_0
                try clear hx180_1
                try clear hx181_0
                try clear hx181_1
                try clear p1
                try clear p178
                try clear p180
                try clear p181
                try clear p2
                try clear q1
                try clear q178
                try clear q180
                try clear q181
                obtain ⟨x4_3, rfl, HA, HK3, ⟨m3, rfl⟩⟩ := hrel
                cases gk with
                | zero => exact absurd HA.out (by simp [supercargoref43_May.l1])
                | succ k3 =>
                  have H := HA.out
                  clear HA
                  simp only [supercargoref43_May.l1] at H
                  by_cases c9 : x4_3 < x3_1
                  · rw [if_pos c9] at H
                    have c9b0 : decide (x4_3 < x3_1) = true := decide_eq_true c9
                    clear c9
                    by_cases c10 : 0 ≤ x4_3
                    · rw [if_pos c10] at H
                      have c10b0 : decide (0 ≤ x4_3) = true := decide_eq_true c10
                      clear c10
                      by_cases c11 : x4_3 < (l0.length : Int)
                      · rw [if_pos c11] at H
                        have c11b0 : decide (x4_3 < (l0.length : Int)) = true := decide_eq_true c11
                        clear c11
                        by_cases c12 : 0 ≤ x3_1
                        · rw [if_pos c12] at H
                          have c12b0 : decide (0 ≤ x3_1) = true := decide_eq_true c12
                          clear c12
                          by_cases c13 : x3_1 < (l0.length : Int)
                          · rw [if_pos c13] at H
                            have c13b0 : decide (x3_1 < (l0.length : Int)) = true := decide_eq_true c13
                            clear c13
                            by_cases c14 : ((rd_T35 l0 x4_3).f0).toList = ((rd_T35 l0 x3_1).f0).toList
                            · rw [if_pos c14] at H
                              have c14b0 : (((rd_T35 l0 x4_3).f0).toList == ((rd_T35 l0 x3_1).f0).toList) = true := beq_iff_eq.mpr c14
                              have c14b1 : (((rd_T35 l0 x4_3).f0).toList != ((rd_T35 l0 x3_1).f0).toList) = false := bne_eq_false_iff_eq.mpr c14
                              clear c14
                              obtain rfl := Option.some.inj H
                              have p182 : 0 ≤ (x4_3 : Int) := of_decide_eq_true (by first | (with_reducible assumption) | assumption)
                              have q182 : x4_3 < (l0.length : Int) := of_decide_eq_true (by first | (with_reducible assumption) | assumption)
                              obtain ⟨ad182, e182, hx182_0, hx182_1⟩ := at_T35 HR0.out x4_3 p182 q182
                              cases e182
                              replace p182 := eq_true p182
                              replace q182 := eq_true q182
                              have p183 : 0 ≤ (x3_1 : Int) := of_decide_eq_true (by first | (with_reducible assumption) | assumption)
                              have q183 : x3_1 < (l0.length : Int) := of_decide_eq_true (by first | (with_reducible assumption) | assumption)
                              obtain ⟨ad183, e183, hx183_0, hx183_1⟩ := at_T35 HR0.out x3_1 p183 q183
                              obtain rfl : ad182 = ad183 := (by injection e183)
                              replace p183 := eq_true p183
                              replace q183 := eq_true q183
                              go_wp2
                              repeat (go_quiet (fail); try go_wp2)
                              go_ret
                              exact ⟨by first | rfl | (simp; done) | (simp [*]; done), by repeat (first | exact Drawn0.refl _ | apply Drawn0.step)⟩
                            · rw [if_neg c14] at H
                              have c14b0 : (((rd_T35 l0 x4_3).f0).toList == ((rd_T35 l0 x3_1).f0).toList) = false := beq_eq_false_iff_ne.mpr c14
                              have c14b1 : (((rd_T35 l0 x4_3).f0).toList != ((rd_T35 l0 x3_1).f0).toList) = true := bne_iff_ne.mpr c14
                              have H' := Aside0.mk H
                              clear H
                              have p182 : 0 ≤ (x4_3 : Int) := of_decide_eq_true (by first | (with_reducible assumption) | assumption)
                              have q182 : x4_3 < (l0.length : Int) := of_decide_eq_true (by first | (with_reducible assumption) | assumption)
                              obtain ⟨ad182, e182, hx182_0, hx182_1⟩ := at_T35 HR0.out x4_3 p182 q182
                              cases e182
                              replace p182 := eq_true p182
                              replace q182 := eq_true q182
                              have p183 : 0 ≤ (x3_1 : Int) := of_decide_eq_true (by first | (with_reducible assumption) | assumption)
                              have q183 : x3_1 < (l0.length : Int) := of_decide_eq_true (by first | (with_reducible assumption) | assumption)
                              obtain ⟨ad183, e183, hx183_0, hx183_1⟩ := at_T35 HR0.out x3_1 p183 q183
                              obtain rfl : ad182 = ad183 := (by injection e183)
                              replace p183 := eq_true p183
                              replace q183 := eq_true q183
                              go_wp2
                              repeat (go_quiet (fail); try go_wp2)
                              go_roundg k3
                              case measure => have := HK1.out; have := HJ2.out; have := HK3.out; omega
                              case rel => exact ⟨(wrap64 (x4_3 + 1)), (by first | rfl | (simp; done) | (simp [*]; done)), H', ⟨by have := HK1.out; have := HJ2.out; have := HK3.out; omega⟩, by repeat (first | exact Drawn0.refl _ | apply Drawn0.step)⟩
                          · rw [if_neg c13] at H
                            exact absurd H (by simp)
                        · rw [if_neg c12] at H
                          exact absurd H (by simp)
                      · rw [if_neg c11] at H
                        exact absurd H (by simp)
                    · rw [if_neg c10] at H
                      exact absurd H (by simp)
                  · rw [if_neg c9] at H
                    have c9b0 : decide (x4_3 < x3_1) = false := decide_eq_false c9
                    clear c9
                    have H' := Aside0.mk H
                    clear H
                    go_wp2
                    repeat (go_quiet (fail); try go_wp2)
                    go_roundg k3
                    case measure => have := HK1.out; have := HJ2.out; have := HK3.out; omega
                    case rel => exact ⟨(wrap64 (x3_1 + 1)), (by first | rfl | (simp; done) | (simp [*]; done)), H', ⟨by have := HK1.out; have := HJ2.out; have := HK3.out; omega⟩, by repeat (first | exact Drawn0.refl _ | apply Drawn0.step)⟩
      · rw [if_neg c2] at H
        have c2b0 : decide (x3_1 < (l0.length : Int)) = false := decide_eq_false c2
        clear c2
        by_cases c15 : (l0.length : Int) ≥ 1
        · rw [if_pos c15] at H
          have c15b0 : decide (1 ≤ (l0.length : Int)) = true := decide_eq_true c15
          have c15b1 : decide (1 ≤ l0.length) = true := decide_eq_true (by omega)
          clear c15
          obtain rfl := Option.some.inj H
          go_wp2
          repeat (go_quiet (fail); try go_wp2)
          go_ret
          exact ⟨by first | rfl | (simp; done) | (simp [*]; done), by repeat (first | exact Drawn0.refl _ | apply Drawn0.step)⟩
        · rw [if_neg c15] at H
          have c15b0 : decide (1 ≤ (l0.length : Int)) = false := decide_eq_false c15
          have c15b1 : decide (1 ≤ l0.length) = false := decide_eq_false (by omega)
          clear c15
          obtain rfl := Option.some.inj H
          go_wp2
          repeat (go_quiet (fail); try go_wp2)
          go_ret
          exact ⟨by first | rfl | (simp; done) | (simp [*]; done), by repeat (first | exact Drawn0.refl _ | apply Drawn0.step)⟩

/-! ### supercargoref43_sum: function 33 -/
def supercargoref43_sum.l0 : Nat → List Int → Int → Int → Option (Int)
  | 0, _, _, _ => none
  | k + 1, x0, x3, x4 => if x4 < (x0.length : Int) then (if 0 ≤ x4 then (supercargoref43_sum.l0 k x0 (wrap64 (x3 + (rd x0 x4))) (wrap64 (x4 + 1))) else (none)) else (some x3)
def supercargoref43_sum.f (k : Nat) (l0 : List Int) : Option (Int) := supercargoref43_sum.l0 k l0 0 0
theorem supercargoref43_sum.mono_l : ∀ k, (∀ y0 y1 y2, LeO (supercargoref43_sum.l0 k y0 y1 y2) (supercargoref43_sum.l0 (k + 1) y0 y1 y2))
  | 0 => fun _ _ _ r h => by simp [supercargoref43_sum.l0] at h
  | k + 1 => by
    have ih0 := supercargoref43_sum.mono_l k
    · intro y0 y1 y2
      unfold supercargoref43_sum.l0
      repeat' first
      | (with_reducible exact ih0 _ _ _)
      | (with_reducible exact LeO.refl _)
      | (with_reducible exact LeO.none _)
      | (with_reducible refine LeO.ite ?_ ?_)
      | (with_reducible refine LeO.bind ?_ (fun _ => ?_))
      | exact ih0 _ _ _
      | exact LeO.none _
      | refine LeO.ite ?_ ?_
      | refine LeO.bind ?_ (fun _ => ?_)
theorem supercargoref43_sum.mono : ∀ a0 k, LeO (supercargoref43_sum.f k a0) (supercargoref43_sum.f (k + 1) a0) := by
  intro a0 k
  have ih0 := supercargoref43_sum.mono_l k
  unfold supercargoref43_sum.f
  repeat' first
      | (with_reducible exact ih0 _ _ _)
      | (with_reducible exact LeO.refl _)
      | (with_reducible exact LeO.none _)
      | (with_reducible refine LeO.ite ?_ ?_)
      | (with_reducible refine LeO.bind ?_ (fun _ => ?_))
      | exact ih0 _ _ _
      | exact LeO.none _
      | refine LeO.ite ?_ ?_
      | refine LeO.bind ?_ (fun _ => ?_)
set_option maxHeartbeats 8000000 in
set_option maxRecDepth 100000 in
theorem supercargoref43_sum.calls (k : Nat) (A0 : Option Addr) (c0 : Nat) (l0 : List Int) (r : Int) (w : World) (hr0 : Kd.C (Kd.int .i64) w A0 l0.length l0) (hc0 : l0.length ≤ c0) (h : supercargoref43_sum.f k l0 = some r) :
    Calls Try.prog 33 #[.slice A0 l0.length c0] w fun e w' => e = .returned (.int .i64 r) ∧ Drawn0 w w' := by
  have HR0 := Aside0.mk hr0
  have HC0 := Aside0.mk hc0
  clear hr0 hc0
  have H : (supercargoref43_sum.l0 k l0 0 0) = some r := h
  clear h
  have H' := Aside0.mk H
  clear H
  go_enter Try.func33, Try.ntmps33
  go_wp2
  go_loopg [3, 4] k (fun kq v3 v4 w' => ∃ (x3_1 : Int) (x4_1 : Int), v3 = .int .i64 x3_1 ∧ v4 = .int .i64 x4_1 ∧ Aside0 (supercargoref43_sum.l0 kq l0 x3_1 x4_1 = some r) ∧ Aside0 (kq ≤ k) ∧ Drawn0 w w')
  case atStart => exact ⟨(0), (0), (by first | rfl | (simp; done) | (simp [*]; done)), (by first | rfl | (simp; done) | (simp [*]; done)), H', ⟨Nat.le_refl _⟩, by repeat (first | exact Drawn0.refl _ | apply Drawn0.step)⟩
  case round =>
    clear H'
    obtain ⟨x3_1, x4_1, rfl, rfl, HA, HK1, ⟨m1, rfl⟩⟩ := hrel
    cases gk with
    | zero => exact absurd HA.out (by simp [supercargoref43_sum.l0])
    | succ k1 =>
      have H := HA.out
      clear HA
      simp only [supercargoref43_sum.l0] at H
      by_cases c2 : x4_1 < (l0.length : Int)
      · rw [if_pos c2] at H
        have c2b0 : decide (x4_1 < (l0.length : Int)) = true := decide_eq_true c2
        clear c2
        by_cases c3 : 0 ≤ x4_1
        · rw [if_pos c3] at H
          have c3b0 : decide (0 ≤ x4_1) = true := decide_eq_true c3
          clear c3
          have H' := Aside0.mk H
          clear H
          have p184 : 0 ≤ (x4_1 : Int) := of_decide_eq_true (by first | (with_reducible assumption) | assumption)
          have q184 : x4_1 < (l0.length : Int) := of_decide_eq_true (by first | (with_reducible assumption) | assumption)
          obtain ⟨ad184, e184, hx184_0⟩ := Kd.at_int HR0.out x4_1 p184 q184
          cases e184
          replace p184 := eq_true p184
          replace q184 := eq_true q184
          go_wp2
          go_roundg k1
          case measure => have := HK1.out; omega
          case rel => exact ⟨(wrap64 (x3_1 + (rd l0 x4_1))), (wrap64 (x4_1 + 1)), (by first | rfl | (simp; done) | (simp [*]; done)), (by first | rfl | (simp; done) | (simp [*]; done)), H', ⟨by have := HK1.out; omega⟩, by repeat (first | exact Drawn0.refl _ | apply Drawn0.step)⟩
        · rw [if_neg c3] at H
          exact absurd H (by simp)
      · rw [if_neg c2] at H
        have c2b0 : decide (x4_1 < (l0.length : Int)) = false := decide_eq_false c2
        clear c2
        obtain rfl := Option.some.inj H
        go_wp2
        go_ret
        exact ⟨by first | rfl | (simp; done) | (simp [*]; done), by repeat (first | exact Drawn0.refl _ | apply Drawn0.step)⟩

/-! ### supercargoref43_weights: function 34 -/
def supercargoref43_weights.l0 : Nat → List (S35) → List Int → Int → Option (List Int)
  | 0, _, _, _ => none
  | k + 1, x0, x3, x4 => if x4 < (x0.length : Int) then (if 0 ≤ x4 then (if x3.length < 17592186044416 then (supercargoref43_weights.l0 k x0 (x3 ++ [(rd_T35 x0 x4).f1]) (wrap64 (x4 + 1))) else (none)) else (none)) else (some x3)
def supercargoref43_weights.f (k : Nat) (l0 : List (S35)) : Option (List Int) := supercargoref43_weights.l0 k l0 (([] : List Int)) 0
theorem supercargoref43_weights.mono_l : ∀ k, (∀ y0 y1 y2, LeO (supercargoref43_weights.l0 k y0 y1 y2) (supercargoref43_weights.l0 (k + 1) y0 y1 y2))
  | 0 => fun _ _ _ r h => by simp [supercargoref43_weights.l0] at h
  | k + 1 => by
    have ih0 := supercargoref43_weights.mono_l k
    · intro y0 y1 y2
      unfold supercargoref43_weights.l0
      repeat' first
      | (with_reducible exact ih0 _ _ _)
      | (with_reducible exact LeO.refl _)
      | (with_reducible exact LeO.none _)
      | (with_reducible refine LeO.ite ?_ ?_)
      | (with_reducible refine LeO.bind ?_ (fun _ => ?_))
      | exact ih0 _ _ _
      | exact LeO.none _
      | refine LeO.ite ?_ ?_
      | refine LeO.bind ?_ (fun _ => ?_)
theorem supercargoref43_weights.mono : ∀ a0 k, LeO (supercargoref43_weights.f k a0) (supercargoref43_weights.f (k + 1) a0) := by
  intro a0 k
  have ih0 := supercargoref43_weights.mono_l k
  unfold supercargoref43_weights.f
  repeat' first
      | (with_reducible exact ih0 _ _ _)
      | (with_reducible exact LeO.refl _)
      | (with_reducible exact LeO.none _)
      | (with_reducible refine LeO.ite ?_ ?_)
      | (with_reducible refine LeO.bind ?_ (fun _ => ?_))
      | exact ih0 _ _ _
      | exact LeO.none _
      | refine LeO.ite ?_ ?_
      | refine LeO.bind ?_ (fun _ => ?_)
set_option maxHeartbeats 8000000 in
set_option maxRecDepth 100000 in
theorem supercargoref43_weights.calls (k : Nat) (A0 : Option Addr) (c0 : Nat) (l0 : List (S35)) (r : List Int) (w : World) (hr0 : Kd.C k35 w A0 l0.length l0) (hc0 : l0.length ≤ c0) (h : supercargoref43_weights.f k l0 = some r) :
    Calls Try.prog 34 #[.slice A0 l0.length c0] w fun e w' => ∃ v0_ : Value, e = .returned (v0_) ∧ Kd.R (Kd.int .i64) 2 w' w.heap.size (fun _ => True) v0_ r ∧ Below w.heap.size w w' := by
  have HR0 := Aside0.mk hr0
  have HC0 := Aside0.mk hc0
  clear hr0 hc0
  have HB := Aside0.mk (Below.refl w.heap.size w)
  have H : (supercargoref43_weights.l0 k l0 (([] : List Int)) 0) = some r := h
  clear h
  obtain ⟨y185, hy185⟩ : ∃ y_ : List Int, y_ = (([] : List Int)) := ⟨_, rfl⟩
  replace H : (supercargoref43_weights.l0 k l0 y185 0) = some r := by first | (rw [hy185]; with_reducible exact H) | (have H2_ := (Option.bind_some _ _).symm.trans H; rw [hy185]; with_reducible exact H2_) | (have H2_ := (Option.bind_some _ _).symm.trans H; with_reducible exact H2_) | with_reducible exact H | (rw [hy185]; exact H) | exact H
  have Ny185 := Aside0.mk hy185
  clear hy185
  have H' := Aside0.mk H
  clear H
  go_enter Try.func34, Try.ntmps34
  go_wp2_with (first | ((with_reducible refine gate_dst (N := 5) rfl ?_); refine Kd.R_lit (Kd.int .i64) _ 2 ?hg (N := 5) ?hd (xs := ([] : List Int)) (inner := []) (ok := fun _ => True) (okp := fun _ => True) ?hr ?hp (fun _ hk => hk) trivial (Below.refl _ _) (Nat.le_refl _) (by simp) ?_; (case hd => rfl); (case hg => rfl); (case hr => first | (go_simp; done) | (go_simp; rfl)); (case hp => exact (Reps.none _ _)); intro v186 w2 ho3 hb hg_ hnew_; clear hg_ hnew_; (first | rw [← Ny185.out] at ho3 | (simp only [Int.reduceToNat] at ho3; rw [← Ny185.out] at ho3)); have n0_ := Aside0.mk (Kd.R_lower ho3 (below_size (by repeat (first | (with_reducible first | exact HB.out | apply below_alloc | apply pw_below_drewN | apply below_drew1) | exact HB.out)))); have n1_ := Aside0.mk (below_step (by repeat (first | (with_reducible first | exact HB.out | apply below_alloc | apply pw_below_drewN | apply below_drew1) | exact HB.out)) hb); clear HB; have HO187 := n0_; have HB := n1_; clear n0_ n1_; clear hb ho3))
  go_loopg [3, 4] k (fun kq v3 v4 w' => ∃ (x3_1 : List Int) (x4_1 : Int), v4 = .int .i64 x4_1 ∧ Aside0 (supercargoref43_weights.l0 kq l0 x3_1 x4_1 = some r) ∧ Aside0 (kq ≤ k) ∧ Aside0 (Kd.R (Kd.int .i64) 2 w' w.heap.size (fun _ => True) v3 x3_1) ∧ Aside0 (Below w.heap.size w w'))
  case atStart => exact ⟨(y185), (0), (by first | rfl | (simp; done) | (simp [*]; done)), H', ⟨Nat.le_refl _⟩, ⟨by (with_reducible repeat (first | apply Kd.R_alloc | apply Kd.R_drewN | apply Kd.R_drew)); exact HO187.out⟩, ⟨by repeat (first | (with_reducible first | exact HB.out | apply below_alloc | apply pw_below_drewN | apply below_drew1) | exact HB.out)⟩⟩
  case round =>
    clear H'
    try clear p2
    try clear c3
    obtain ⟨x3_1, x4_1, rfl, HA, HK1, HO_3, HB⟩ := hrel
    cases gk with
    | zero => exact absurd HA.out (by simp [supercargoref43_weights.l0])
    | succ k1 =>
      have H := HA.out
      clear HA
      simp only [supercargoref43_weights.l0] at H
      by_cases c4 : x4_1 < (l0.length : Int)
      · rw [if_pos c4] at H
        have c4b0 : decide (x4_1 < (l0.length : Int)) = true := decide_eq_true c4
        clear c4
        by_cases c5 : 0 ≤ x4_1
        · rw [if_pos c5] at H
          have c5b0 : decide (0 ≤ x4_1) = true := decide_eq_true c5
          clear c5
          by_cases c6 : x3_1.length < 17592186044416
          · rw [if_pos c6] at H
            have LMc6 := Aside0.mk c6
            clear c6
            obtain ⟨y189, hy189⟩ : ∃ y_ : List Int, y_ = (x3_1 ++ [(rd_T35 l0 x4_1).f1]) := ⟨_, rfl⟩
            replace H : (supercargoref43_weights.l0 k1 l0 y189 (wrap64 (x4_1 + 1))) = some r := by first | (rw [hy189]; with_reducible exact H) | (have H2_ := (Option.bind_some _ _).symm.trans H; rw [hy189]; with_reducible exact H2_) | (have H2_ := (Option.bind_some _ _).symm.trans H; with_reducible exact H2_) | with_reducible exact H | (rw [hy189]; exact H) | exact H
            have Ny189 := Aside0.mk hy189
            clear hy189
            have H' := Aside0.mk H
            clear H
            have p188 : 0 ≤ (x4_1 : Int) := of_decide_eq_true (by first | (with_reducible assumption) | assumption)
            have q188 : x4_1 < (l0.length : Int) := of_decide_eq_true (by first | (with_reducible assumption) | assumption)
            obtain ⟨ad188, e188, hx188_0, hx188_1⟩ := at_T35 HR0.out x4_1 p188 q188
            cases e188
            replace hx188_0 := (HB.out.cell (World.block_lt_of_cell? w _ hx188_0)).trans hx188_0
            replace hx188_1 := (HB.out.cell (World.block_lt_of_cell? w _ hx188_1)).trans hx188_1
            replace p188 := eq_true p188
            replace q188 := eq_true q188
            go_wp2_with (first | ((with_reducible refine gate_builtin (b := .append) (xs := #[.tmp 12, .tmp 18]) rfl ?_); at_builtin; refine Kd.R_append (Kd.int .i64) (w0 := w) w.heap.size rfl (.tmp 12) (.tmp 18) 23 2 (.int .i64 0) 8 rfl Try.underlying23 info2 rfl (by decide) (by omega) u3 x3_1 ((rd_T35 l0 x4_1).f1) [.int .i64 ((rd_T35 l0 x4_1).f1)] (fun _ => True) (fun _ => False) rfl rfl ?aP (fun _ hk => hk.elim) ?aF ?aO ?aB ?aS ?aL ?_; (case aP => exact rfl); (case aB => exact (by repeat (first | (with_reducible first | exact HB.out | apply below_alloc | apply pw_below_drewN | apply below_drew1) | exact HB.out))); (case aF => exact (fun _ _ => trivial)); (case aO => exact (by (with_reducible repeat (first | apply Kd.R_alloc | apply Kd.R_drewN | apply Kd.R_drew)); exact HO_3.out)); (case aS => exact (below_size (by repeat (first | (with_reducible first | exact HB.out | apply below_alloc | apply pw_below_drewN | apply below_drew1) | exact HB.out)))); (case aL => have := LMc6.out; omega); intro v190 w7 ho hb hg hat; rw [← Ny189.out] at ho; have n0_ := Aside0.mk (hb); have n1_ := Aside0.mk (ho); clear HB; clear HO_3; have HB := n0_; have HO191 := n1_; clear n0_ n1_; clear ho hb hg hat))
            go_roundg k1
            case measure => have := HK1.out; omega
            case rel => exact ⟨(y189), (wrap64 (x4_1 + 1)), (by first | rfl | (simp; done) | (simp [*]; done)), H', ⟨by have := HK1.out; omega⟩, ⟨by (with_reducible repeat (first | apply Kd.R_alloc | apply Kd.R_drewN | apply Kd.R_drew)); exact HO191.out⟩, ⟨by repeat (first | (with_reducible first | exact HB.out | apply below_alloc | apply pw_below_drewN | apply below_drew1) | exact HB.out)⟩⟩
          · rw [if_neg c6] at H
            exact absurd H (by simp)
        · rw [if_neg c5] at H
          exact absurd H (by simp)
      · rw [if_neg c4] at H
        have c4b0 : decide (x4_1 < (l0.length : Int)) = false := decide_eq_false c4
        clear c4
        obtain rfl := Option.some.inj H
        go_wp2
        go_ret
        exact ⟨_, by first | rfl | (simp [errW_none, errW_some] <;> rfl) | (simp [*, errW_none, errW_some] <;> rfl), by (with_reducible repeat (first | apply Kd.R_alloc | apply Kd.R_drewN | apply Kd.R_drew)); exact HO_3.out, by repeat (first | (with_reducible first | exact HB.out | apply below_alloc | apply pw_below_drewN | apply below_drew1) | exact HB.out)⟩

end Go.Proofs.Yteeehijpdkbgkaa.Print
