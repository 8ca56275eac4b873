/- Contracts of the program's functions over this seat's translation, written out by this session's own driver. Conditions: those in each statement. -/
import Derived.Test.YthbbfbhgcoffeaaPrint0
import Derived.Test.YthbbfbhgcoffeaaPrint5
import Derived.Test.YthbbfbhgcoffeaaPrint6
namespace Go.Proofs.Ythbbfbhgcoffeaa.Print
open Go.RowKit Go.Proofs.YthbbfbhgcoffeaaW.PrintWords Go.Proofs.YthbbfbhgcoffeaaW.PrintLast Go.Proofs.YthbbfbhgcoffeaaW.PrintMore
attribute [local go_sem] max2_int min2_int max_two min_two max_three min_three max_four min_four   -- for this text's walks alone
set_option linter.unusedVariables false
set_option linter.unusedSimpArgs false

/-! ### supercargolaw04_ShareSums: function 4 -/
mutual
def supercargolaw04_ShareSums.j0 : Nat → Int → List Int → Bool → Option (Bool)
  | 0, _, _, _ => none
  | k + 1, x0, x1, x19 => if x19 = true then ((supercargolaw04_awake.f k).bind fun t171 => (some t171)) else ((share_Split.f x0 x1).bind fun bt172 => (if bt172.2 = 0 then (if (bt172.1.length : Int) = (x1.length : Int) then (supercargolaw04_ShareSums.l0 k x0 x1 bt172.1 0 0 (bt172.1.length : Int) 0) else (some false)) else ((supercargoref04_Error.f k x0 x1).bind fun t176 => (some (t176 != 0)))))
def supercargolaw04_ShareSums.l0 : Nat → Int → List Int → List Int → Int → Int → Int → Int → Option (Bool)
  | 0, _, _, _, _, _, _, _ => none
  | k + 1, x0, x1, x5, x7, x8, x39, x40 => if x40 < x39 then (if 0 ≤ x40 then (if x40 < (x5.length : Int) then (if x40 < (x1.length : Int) then (supercargolaw04_ShareSums.l0 k x0 x1 x5 (wrap64 (x7 + (rd x5 x40))) (wrap64 (x8 + (rd x1 x40))) x39 (wrap64 (x40 + 1))) else (none)) else (none)) else (none)) else (if x7 = x0 then (supercargolaw04_ShareSums.l1 k x0 x1 x5 x8 (x5.length : Int) 0) else (some false))
def supercargolaw04_ShareSums.l1 : Nat → Int → List Int → List Int → Int → Int → Int → Option (Bool)
  | 0, _, _, _, _, _, _ => none
  | k + 1, x0, x1, x5, x8, x60, x61 => if x61 < x60 then (if x8 = 0 then (some (x0 == 0)) else (if 0 ≤ x61 then (if x61 < (x1.length : Int) then ((supercargoref04_Times.f k x0 (rd x1 x61) x8).bind fun bt180 => (if x61 < (x5.length : Int) then (if (rd x5 x61) = bt180.1 then (supercargolaw04_ShareSums.l1 k x0 x1 x5 x8 x60 (wrap64 (x61 + 1))) else (if (rd x5 x61) = (wrap64 (bt180.1 + 1)) then (if bt180.2 = 0 then (some false) else (supercargolaw04_ShareSums.l1 k x0 x1 x5 x8 x60 (wrap64 (x61 + 1)))) else (some false))) else (none))) else (none)) else (none))) else (some true)
end
def supercargolaw04_ShareSums.f (k : Nat) (a0 : Int) (l1 : List Int) : Option (Bool) := (supercargolaw04_awake.f k).bind fun t170 => (if t170 = true then (supercargolaw04_ShareSums.j0 k a0 l1 (decide ((l1.length : Int) > 40))) else (supercargolaw04_ShareSums.j0 k a0 l1 true))
theorem supercargolaw04_ShareSums.mono_l : ∀ k, (∀ y0 y1 y2, LeO (supercargolaw04_ShareSums.j0 k y0 y1 y2) (supercargolaw04_ShareSums.j0 (k + 1) y0 y1 y2)) ∧ (∀ y0 y1 y2 y3 y4 y5 y6, LeO (supercargolaw04_ShareSums.l0 k y0 y1 y2 y3 y4 y5 y6) (supercargolaw04_ShareSums.l0 (k + 1) y0 y1 y2 y3 y4 y5 y6)) ∧ (∀ y0 y1 y2 y3 y4 y5, LeO (supercargolaw04_ShareSums.l1 k y0 y1 y2 y3 y4 y5) (supercargolaw04_ShareSums.l1 (k + 1) y0 y1 y2 y3 y4 y5))
  | 0 => ⟨fun _ _ _ r h => by simp [supercargolaw04_ShareSums.j0] at h, fun _ _ _ _ _ _ _ r h => by simp [supercargolaw04_ShareSums.l0] at h, fun _ _ _ _ _ _ r h => by simp [supercargolaw04_ShareSums.l1] at h⟩
  | k + 1 => by
    obtain ⟨ih0, ih1, ih2⟩ := supercargolaw04_ShareSums.mono_l k
    refine ⟨?_, ?_, ?_⟩
    · intro y0 y1 y2
      unfold supercargolaw04_ShareSums.j0
      repeat' first
      | (with_reducible exact ih0 _ _ _)
      | (with_reducible exact ih1 _ _ _ _ _ _ _)
      | (with_reducible exact ih2 _ _ _ _ _ _)
      | (with_reducible exact supercargolaw04_awake.mono _)
      | (with_reducible exact supercargoref04_Error.mono _ _ _)
      | (with_reducible exact supercargoref04_Times.mono _ _ _ _)
      | (with_reducible exact LeO.refl _)
      | (with_reducible exact LeO.none _)
      | (with_reducible refine LeO.ite ?_ ?_)
      | (with_reducible refine LeO.bind ?_ (fun _ => ?_))
      | exact ih0 _ _ _
      | exact ih1 _ _ _ _ _ _ _
      | exact ih2 _ _ _ _ _ _
      | exact supercargolaw04_awake.mono _
      | exact supercargoref04_Error.mono _ _ _
      | exact supercargoref04_Times.mono _ _ _ _
      | exact LeO.none _
      | refine LeO.ite ?_ ?_
      | refine LeO.bind ?_ (fun _ => ?_)
    · intro y0 y1 y2 y3 y4 y5 y6
      unfold supercargolaw04_ShareSums.l0
      repeat' first
      | (with_reducible exact ih0 _ _ _)
      | (with_reducible exact ih1 _ _ _ _ _ _ _)
      | (with_reducible exact ih2 _ _ _ _ _ _)
      | (with_reducible exact supercargolaw04_awake.mono _)
      | (with_reducible exact supercargoref04_Error.mono _ _ _)
      | (with_reducible exact supercargoref04_Times.mono _ _ _ _)
      | (with_reducible exact LeO.refl _)
      | (with_reducible exact LeO.none _)
      | (with_reducible refine LeO.ite ?_ ?_)
      | (with_reducible refine LeO.bind ?_ (fun _ => ?_))
      | exact ih0 _ _ _
      | exact ih1 _ _ _ _ _ _ _
      | exact ih2 _ _ _ _ _ _
      | exact supercargolaw04_awake.mono _
      | exact supercargoref04_Error.mono _ _ _
      | exact supercargoref04_Times.mono _ _ _ _
      | exact LeO.none _
      | refine LeO.ite ?_ ?_
      | refine LeO.bind ?_ (fun _ => ?_)
    · intro y0 y1 y2 y3 y4 y5
      unfold supercargolaw04_ShareSums.l1
      repeat' first
      | (with_reducible exact ih0 _ _ _)
      | (with_reducible exact ih1 _ _ _ _ _ _ _)
      | (with_reducible exact ih2 _ _ _ _ _ _)
      | (with_reducible exact supercargolaw04_awake.mono _)
      | (with_reducible exact supercargoref04_Error.mono _ _ _)
      | (with_reducible exact supercargoref04_Times.mono _ _ _ _)
      | (with_reducible exact LeO.refl _)
      | (with_reducible exact LeO.none _)
      | (with_reducible refine LeO.ite ?_ ?_)
      | (with_reducible refine LeO.bind ?_ (fun _ => ?_))
      | exact ih0 _ _ _
      | exact ih1 _ _ _ _ _ _ _
      | exact ih2 _ _ _ _ _ _
      | exact supercargolaw04_awake.mono _
      | exact supercargoref04_Error.mono _ _ _
      | exact supercargoref04_Times.mono _ _ _ _
      | exact LeO.none _
      | refine LeO.ite ?_ ?_
      | refine LeO.bind ?_ (fun _ => ?_)
theorem supercargolaw04_ShareSums.mono : ∀ a0 a1 k, LeO (supercargolaw04_ShareSums.f k a0 a1) (supercargolaw04_ShareSums.f (k + 1) a0 a1) := by
  intro a0 a1 k
  obtain ⟨ih0, ih1, ih2⟩ := supercargolaw04_ShareSums.mono_l k
  unfold supercargolaw04_ShareSums.f
  repeat' first
      | (with_reducible exact ih0 _ _ _)
      | (with_reducible exact ih1 _ _ _ _ _ _ _)
      | (with_reducible exact ih2 _ _ _ _ _ _)
      | (with_reducible exact supercargolaw04_awake.mono _)
      | (with_reducible exact supercargoref04_Error.mono _ _ _)
      | (with_reducible exact supercargoref04_Times.mono _ _ _ _)
      | (with_reducible exact LeO.refl _)
      | (with_reducible exact LeO.none _)
      | (with_reducible refine LeO.ite ?_ ?_)
      | (with_reducible refine LeO.bind ?_ (fun _ => ?_))
      | exact ih0 _ _ _
      | exact ih1 _ _ _ _ _ _ _
      | exact ih2 _ _ _ _ _ _
      | exact supercargolaw04_awake.mono _
      | exact supercargoref04_Error.mono _ _ _
      | exact supercargoref04_Times.mono _ _ _ _
      | exact LeO.none _
      | refine LeO.ite ?_ ?_
      | refine LeO.bind ?_ (fun _ => ?_)
set_option maxHeartbeats 8000000 in
set_option maxRecDepth 100000 in
theorem supercargolaw04_ShareSums.calls (k : Nat) (a0 : Int) (A1 : Option Addr) (c1 : Nat) (l1 : List Int) (r : Bool) (w : World) (hr1 : Kd.C (Kd.int .i64) w A1 l1.length l1) (hc1 : l1.length ≤ c1) (h : supercargolaw04_ShareSums.f k a0 l1 = some r) :
    Calls Try.prog 4 #[.int .i64 a0, .slice A1 l1.length c1] w fun e w' => e = .returned (.bool r) ∧ Below w.heap.size w w' := by
  have HR1 := Aside0.mk hr1
  have HC1 := Aside0.mk hc1
  clear hr1 hc1
  have HB := Aside0.mk (Below.refl w.heap.size w)
  have H : ((supercargolaw04_awake.f k).bind fun t170 => (if t170 = true then (supercargolaw04_ShareSums.j0 k a0 l1 (decide ((l1.length : Int) > 40))) else (supercargolaw04_ShareSums.j0 k a0 l1 true))) = some r := h
  clear h
  have HC3 := Aside0.mk H
  clear H
  go_enter Try.func4, Try.ntmps4
  go_upto_region 1 with (fail)
  go_cut [19] (fun v19 wc => ∃ (kq : Nat) (x19_2 : Bool), v19 = .bool x19_2 ∧ Aside0 (supercargolaw04_ShareSums.j0 kq a0 l1 x19_2 = some r) ∧ Aside0 (kq ≤ k) ∧ Aside0 (Below w.heap.size w wc))
  case first =>
    have H := HC3.out
    clear HC3
    replace H := Option.bind_eq_some_iff.mp H
    obtain ⟨t170, A40, H⟩ := H
    replace H : (if t170 = true then (supercargolaw04_ShareSums.j0 k a0 l1 (decide ((l1.length : Int) > 40))) else (supercargolaw04_ShareSums.j0 k a0 l1 true)) = some r := H
    have A4 := Aside0.mk A40
    clear A40
    by_cases c5 : t170 = true
    · subst c5
      have H1 : (supercargolaw04_ShareSums.j0 k a0 l1 (decide ((l1.length : Int) > 40))) = some r := by rw [if_pos rfl] at H; exact H
      clear H
      have H := H1
      clear H1
      have H' := Aside0.mk H
      clear H
      go_wp2_with (first | ((with_reducible refine gate_callee (f := 10) rfl ?_); refine goesL_ (some 13) rfl rfl Try.func10 (by kernel_rfl) rfl #[] rfl (by (try simp only [List.map_toArray, List.map_cons, List.map_nil]); first | done | rfl | (simp only [List.length_drop, List.length_take]; rfl)) ?_; (with_reducible refine (supercargolaw04_awake.calls k  true _ A4.out).mono ?_); rintro e w6 ⟨rfl, hb⟩; refine ⟨_, rfl, ?_⟩; have n0_ := Aside0.mk (below_step (by repeat (first | (with_reducible first | exact HB.out | apply below_alloc | apply pw_below_drewN | apply below_drew1) | exact HB.out)) hb); clear HB; have HB := n0_; clear n0_; (try clear hb); (try clear hb2); (try clear hk); (try clear hi)))
      go_meet
      case rel => exact ⟨_, (decide ((l1.length : Int) > 40)), (by first | rfl | (simp; done) | (simp [*]; done)), H', ⟨by first | omega | exact Nat.le_refl _⟩, ⟨by repeat (first | (with_reducible first | exact HB.out | apply below_alloc | apply pw_below_drewN | apply below_drew1) | exact HB.out)⟩⟩
    · replace c5 := Bool.eq_false_iff.mpr c5
      subst c5
      have H1 : (supercargolaw04_ShareSums.j0 k a0 l1 true) = some r := by rw [if_neg (show ¬ (false = true) by decide)] at H; exact H
      clear H
      have H := H1
      clear H1
      have H' := Aside0.mk H
      clear H
      go_wp2_with (first | ((with_reducible refine gate_callee (f := 10) rfl ?_); refine goesL_ (some 13) rfl rfl Try.func10 (by kernel_rfl) rfl #[] rfl (by (try simp only [List.map_toArray, List.map_cons, List.map_nil]); first | done | rfl | (simp only [List.length_drop, List.length_take]; rfl)) ?_; (with_reducible refine (supercargolaw04_awake.calls k  false _ A4.out).mono ?_); rintro e w7 ⟨rfl, hb⟩; refine ⟨_, rfl, ?_⟩; have n0_ := Aside0.mk (below_step (by repeat (first | (with_reducible first | exact HB.out | apply below_alloc | apply pw_below_drewN | apply below_drew1) | exact HB.out)) hb); clear HB; have HB := n0_; clear n0_; (try clear hb); (try clear hb2); (try clear hk); (try clear hi)))
      go_meet
      case rel => exact ⟨_, (true), (by first | rfl | (simp; done) | (simp [*]; done)), H', ⟨by first | omega | exact Nat.le_refl _⟩, ⟨by repeat (first | (with_reducible first | exact HB.out | apply below_alloc | apply pw_below_drewN | apply below_drew1) | exact HB.out)⟩⟩
  case rest =>
    clear HC3
    try clear c1
    try clear p2
    try clear c4
    try clear c5
    obtain ⟨kq, x19_2, rfl, HA, HJ2, HB⟩ := hcut
    cases kq with
    | zero => exact absurd HA.out (by simp [supercargolaw04_ShareSums.j0])
    | succ kj2 =>
      have H := HA.out
      clear HA
      simp only [supercargolaw04_ShareSums.j0] at H
      by_cases c8 : x19_2 = true
      · subst c8
        have H1 : ((supercargolaw04_awake.f kj2).bind fun t171 => (some t171)) = some r := by rw [if_pos rfl] at H; exact H
        clear H
        have H := H1
        clear H1
        replace H := Option.bind_eq_some_iff.mp H
        obtain ⟨t171, A90, H⟩ := H
        replace H : (some t171) = some r := H
        have A9 := Aside0.mk A90
        clear A90
        obtain rfl := Option.some.inj H
        go_wp2_with (first | ((with_reducible refine gate_callee (f := 10) rfl ?_); refine goesL_ (some 20) rfl rfl Try.func10 (by kernel_rfl) rfl #[] rfl (by (try simp only [List.map_toArray, List.map_cons, List.map_nil]); first | done | rfl | (simp only [List.length_drop, List.length_take]; rfl)) ?_; (with_reducible refine (supercargolaw04_awake.calls kj2  t171 _ A9.out).mono ?_); rintro e w10 ⟨rfl, hb⟩; refine ⟨_, rfl, ?_⟩; have n0_ := Aside0.mk (below_step (by repeat (first | (with_reducible first | exact HB.out | apply below_alloc | apply pw_below_drewN | apply below_drew1) | exact HB.out)) hb); clear HB; have HB := n0_; clear n0_; (try clear hb); (try clear hb2); (try clear hk); (try clear hi)))
        go_ret
        exact ⟨by first | rfl | (simp [errW_none, errW_some] <;> rfl) | (simp [*, errW_none, errW_some] <;> rfl), by repeat (first | (with_reducible first | exact HB.out | apply below_alloc | apply pw_below_drewN | apply below_drew1) | exact HB.out)⟩
      · replace c8 := Bool.eq_false_iff.mpr c8
        subst c8
        have H1 : ((share_Split.f a0 l1).bind fun bt172 => (if bt172.2 = 0 then (if (bt172.1.length : Int) = (l1.length : Int) then (supercargolaw04_ShareSums.l0 kj2 a0 l1 bt172.1 0 0 (bt172.1.length : Int) 0) else (some false)) else ((supercargoref04_Error.f kj2 a0 l1).bind fun t176 => (some (t176 != 0))))) = some r := by rw [if_neg (show ¬ (false = true) by decide)] at H; exact H
        clear H
        have H := H1
        clear H1
        replace H := Option.bind_eq_some_iff.mp H
        obtain ⟨⟨t172, t173⟩, A110, H⟩ := H
        replace H : (if t173 = 0 then (if (t172.length : Int) = (l1.length : Int) then (supercargolaw04_ShareSums.l0 kj2 a0 l1 t172 0 0 (t172.length : Int) 0) else (some false)) else ((supercargoref04_Error.f kj2 a0 l1).bind fun t176 => (some (t176 != 0)))) = some r := H
        have A11 := Aside0.mk A110
        clear A110
        by_cases c12 : t173 = 0
        · rw [if_pos c12] at H
          have c12b0 : (t173 == 0) = true := beq_iff_eq.mpr c12
          have c12b1 : (t173 != 0) = false := bne_eq_false_iff_eq.mpr c12
          clear c12
          by_cases c13 : (t172.length : Int) = (l1.length : Int)
          · rw [if_pos c13] at H
            have c13b0 : ((t172.length : Int) == (l1.length : Int)) = true := beq_iff_eq.mpr c13
            have c13b1 : ((t172.length : Int) != (l1.length : Int)) = false := bne_eq_false_iff_eq.mpr c13
            have c13b2 : (t172.length == l1.length) = true := by first | simpa using c13 | (simp at c13 ⊢; omega)
            clear c13
            have H' := Aside0.mk H
            clear H
            go_wp2_with (first | ((with_reducible refine gate_callee (f := 11) rfl ?_); refine goesL_ (some 24) rfl rfl Try.func11 (by kernel_rfl) rfl #[.int .i64 a0, .slice A1 l1.length c1] rfl (by (try simp only [List.map_toArray, List.map_cons, List.map_nil]); first | done | rfl | (simp only [List.length_drop, List.length_take]; rfl)) ?_; (with_reducible refine (share_Split.calls a0 _ _ l1 t172 t173 _ ?side1 ?side2 A11.out).mono ?_); (case side1 => repeat (first | exact (Kd.C_below HR1.out HB.out) | (with_reducible refine Kd.C_alloc ?_ _) | (with_reducible refine Kd.C_drewN ?_ _) | (with_reducible refine Kd.C_drew ?_))); (case side2 => exact HC1.out); rintro e w14 ⟨v174, rfl, ho0, hb⟩; refine ⟨_, rfl, ?_⟩; have n0_ := Aside0.mk (Kd.R_lower ho0 (below_size (by repeat (first | (with_reducible first | exact HB.out | apply below_alloc | apply pw_below_drewN | apply below_drew1) | exact HB.out)))); have n1_ := Aside0.mk (below_step (by repeat (first | (with_reducible first | exact HB.out | apply below_alloc | apply pw_below_drewN | apply below_drew1) | exact HB.out)) hb); clear HB; have HO175 := n0_; have HB := n1_; clear n0_ n1_; (try clear hb); (try clear hb2); (try clear hk); (try clear hi); (try clear ho0); obtain ⟨Ao15, co15, eo15⟩ := Kd.R_slice HO175.out; subst eo15))
            go_loopg [7, 8, 40] kj2 (fun kq v7 v8 v40 w' => ∃ (x7_2 : Int) (x8_2 : Int) (x40_2 : Int), v7 = .int .i64 x7_2 ∧ v8 = .int .i64 x8_2 ∧ v40 = .int .i64 x40_2 ∧ Aside0 (supercargolaw04_ShareSums.l0 kq a0 l1 t172 x7_2 x8_2 (t172.length : Int) x40_2 = some r) ∧ Aside0 (kq ≤ kj2) ∧ Aside0 (Kd.R (Kd.int .i64) 2 w' w.heap.size (fun _ => True) (.slice Ao15 t172.length co15) t172) ∧ Aside0 (Below w.heap.size w w'))
            case atStart => exact ⟨(0), (0), (0), (by first | rfl | (simp; done) | (simp [*]; done)), (by first | rfl | (simp; done) | (simp [*]; done)), (by first | rfl | (simp; done) | (simp [*]; done)), H', ⟨Nat.le_refl _⟩, ⟨by (with_reducible repeat (first | apply Kd.R_alloc | apply Kd.R_drewN | apply Kd.R_drew)); exact HO175.out⟩, ⟨by repeat (first | (with_reducible first | exact HB.out | apply below_alloc | apply pw_below_drewN | apply below_drew1) | exact HB.out)⟩⟩
            case round =>
              clear H'
              try clear c1
              try clear p2
              try clear c4
              try clear c5
              try clear c8
              try clear c10
              try clear c11
              try clear c12
              try clear c12b0
              try clear c12b1
              try clear c13
              try clear c13b0
              try clear c13b1
              try clear c13b2
              try clear p2
              obtain ⟨x7_2, x8_2, x40_2, rfl, rfl, rfl, HA, HK2, HO_5, HB⟩ := hrel
              cases gk with
              | zero => exact absurd HA.out (by simp [supercargolaw04_ShareSums.l0])
              | succ k2 =>
                have H := HA.out
                clear HA
                simp only [supercargolaw04_ShareSums.l0] at H
                by_cases c16 : x40_2 < (t172.length : Int)
                · rw [if_pos c16] at H
                  have c16b0 : decide (x40_2 < (t172.length : Int)) = true := decide_eq_true c16
                  clear c16
                  by_cases c17 : 0 ≤ x40_2
                  · rw [if_pos c17] at H
                    have c17b0 : decide (0 ≤ x40_2) = true := decide_eq_true c17
                    clear c17
                    by_cases c18 : x40_2 < (t172.length : Int)
                    · rw [if_pos c18] at H
                      have c18b0 : decide (x40_2 < (t172.length : Int)) = true := decide_eq_true c18
                      clear c18
                      by_cases c19 : x40_2 < (l1.length : Int)
                      · rw [if_pos c19] at H
                        have c19b0 : decide (x40_2 < (l1.length : Int)) = true := decide_eq_true c19
                        clear c19
                        have H' := Aside0.mk H
                        clear H
                        have p177 : 0 ≤ (x40_2 : Int) := of_decide_eq_true (by first | (with_reducible assumption) | assumption)
                        have q177 : x40_2 < (t172.length : Int) := of_decide_eq_true (by first | (with_reducible assumption) | assumption)
                        obtain ⟨ad177, e177, hx177_0⟩ := Kd.at_int (Kd.R_reads' HO_5.out).2.2 x40_2 p177 q177
                        cases e177
                        replace p177 := eq_true p177
                        replace q177 := eq_true q177
                        have p178 : 0 ≤ (x40_2 : Int) := of_decide_eq_true (by first | (with_reducible assumption) | assumption)
                        have q178 : x40_2 < (l1.length : Int) := of_decide_eq_true (by first | (with_reducible assumption) | assumption)
                        obtain ⟨ad178, e178, hx178_0⟩ := Kd.at_int HR1.out x40_2 p178 q178
                        cases e178
                        replace hx178_0 := (HB.out.cell (World.block_lt_of_cell? w _ hx178_0)).trans hx178_0
                        replace p178 := eq_true p178
                        replace q178 := eq_true q178
                        go_wp2
                        go_roundg k2
                        case measure => have := HJ2.out; have := HK2.out; omega
                        case rel => exact ⟨(wrap64 (x7_2 + (rd t172 x40_2))), (wrap64 (x8_2 + (rd l1 x40_2))), (wrap64 (x40_2 + 1)), (by first | rfl | (simp; done) | (simp [*]; done)), (by first | rfl | (simp; done) | (simp [*]; done)), (by first | rfl | (simp; done) | (simp [*]; done)), H', ⟨by have := HJ2.out; have := HK2.out; omega⟩, ⟨by (with_reducible repeat (first | apply Kd.R_alloc | apply Kd.R_drewN | apply Kd.R_drew)); exact HO_5.out⟩, ⟨by repeat (first | (with_reducible first | exact HB.out | apply below_alloc | apply pw_below_drewN | apply below_drew1) | exact HB.out)⟩⟩
                      · rw [if_neg c19] at H
                        exact absurd H (by simp)
                    · rw [if_neg c18] at H
                      exact absurd H (by simp)
                  · rw [if_neg c17] at H
                    exact absurd H (by simp)
                · rw [if_neg c16] at H
                  have c16b0 : decide (x40_2 < (t172.length : Int)) = false := decide_eq_false c16
                  clear c16
                  by_cases c20 : x7_2 = a0
                  · rw [if_pos c20] at H
                    have c20b0 : (x7_2 == a0) = true := beq_iff_eq.mpr c20
                    have c20b1 : (x7_2 != a0) = false := bne_eq_false_iff_eq.mpr c20
                    clear c20
                    have H' := Aside0.mk H
                    clear H
                    go_wp2
                    go_loopg [61] k2 (fun kq v61 w' => ∃ (x61_3 : Int), v61 = .int .i64 x61_3 ∧ Aside0 (supercargolaw04_ShareSums.l1 kq a0 l1 t172 x8_2 (t172.length : Int) x61_3 = some r) ∧ Aside0 (kq ≤ k2) ∧ Aside0 (Kd.R (Kd.int .i64) 2 w' w.heap.size (fun _ => True) (.slice Ao15 t172.length co15) t172) ∧ Aside0 (Below w.heap.size w w'))
                    case atStart => exact ⟨(0), (by first | rfl | (simp; done) | (simp [*]; done)), H', ⟨Nat.le_refl _⟩, ⟨by (with_reducible repeat (first | apply Kd.R_alloc | apply Kd.R_drewN | apply Kd.R_drew)); exact HO_5.out⟩, ⟨by repeat (first | (with_reducible first | exact HB.out | apply below_alloc | apply pw_below_drewN | apply below_drew1) | exact HB.out)⟩⟩
                    case round =>
                      clear H'
                      try clear c1
                      try clear p1
                      try clear q1
                      try clear hx1
                      try clear c2
                      try clear p2
                      try clear c4
                      try clear c5
                      try clear p6
                      try clear c8
                      try clear c10
                      try clear c11
                      try clear c12
                      try clear c12b0
                      try clear c12b1
                      try clear c13
                      try clear c13b0
                      try clear c13b1
                      try clear c13b2
                      try clear c16
                      try clear c16b0
                      try clear c17
                      try clear c17b0
                      try clear p17
                      try clear q17
                      try clear hx17
                      try clear c18
                      try clear c18b0
                      try clear c19
                      try clear c19b0
                      try clear c20
                      try clear c20b0
                      try clear c20b1
                      try clear hx177_0
                      try clear hx178_0
                      try clear p177
                      try clear p178
                      try clear p2
                      try clear q177
                      try clear q178
                      obtain ⟨x61_3, rfl, HA, HK3, HO_5, HB⟩ := hrel
                      cases gk with
                      | zero => exact absurd HA.out (by simp [supercargolaw04_ShareSums.l1])
                      | succ k3 =>
                        have H := HA.out
                        clear HA
                        simp only [supercargolaw04_ShareSums.l1] at H
                        by_cases c21 : x61_3 < (t172.length : Int)
                        · rw [if_pos c21] at H
                          have c21b0 : decide (x61_3 < (t172.length : Int)) = true := decide_eq_true c21
                          clear c21
                          by_cases c22 : x8_2 = 0
                          · rw [if_pos c22] at H
                            have c22b0 : (x8_2 == 0) = true := beq_iff_eq.mpr c22
                            have c22b1 : (x8_2 != 0) = false := bne_eq_false_iff_eq.mpr c22
                            clear c22
                            obtain rfl := Option.some.inj H
                            go_wp2
                            go_ret
                            exact ⟨by first | rfl | (simp [errW_none, errW_some] <;> rfl) | (simp [*, errW_none, errW_some] <;> rfl), by repeat (first | (with_reducible first | exact HB.out | apply below_alloc | apply pw_below_drewN | apply below_drew1) | exact HB.out)⟩
                          · rw [if_neg c22] at H
                            have c22b0 : (x8_2 == 0) = false := beq_eq_false_iff_ne.mpr c22
                            have c22b1 : (x8_2 != 0) = true := bne_iff_ne.mpr c22
                            by_cases c23 : 0 ≤ x61_3
                            · rw [if_pos c23] at H
                              have c23b0 : decide (0 ≤ x61_3) = true := decide_eq_true c23
                              clear c23
                              by_cases c24 : x61_3 < (l1.length : Int)
                              · rw [if_pos c24] at H
                                have c24b0 : decide (x61_3 < (l1.length : Int)) = true := decide_eq_true c24
                                clear c24
                                replace H := Option.bind_eq_some_iff.mp H
                                obtain ⟨⟨t180, t181⟩, A250, H⟩ := H
                                replace H : (if x61_3 < (t172.length : Int) then (if (rd t172 x61_3) = t180 then (supercargolaw04_ShareSums.l1 k3 a0 l1 t172 x8_2 (t172.length : Int) (wrap64 (x61_3 + 1))) else (if (rd t172 x61_3) = (wrap64 (t180 + 1)) then (if t181 = 0 then (some false) else (supercargolaw04_ShareSums.l1 k3 a0 l1 t172 x8_2 (t172.length : Int) (wrap64 (x61_3 + 1)))) else (some false))) else (none)) = some r := H
                                have A25 := Aside0.mk A250
                                clear A250
                                by_cases c26 : x61_3 < (t172.length : Int)
                                · rw [if_pos c26] at H
                                  have c26b0 : decide (x61_3 < (t172.length : Int)) = true := decide_eq_true c26
                                  clear c26
                                  by_cases c27 : (rd t172 x61_3) = t180
                                  · rw [if_pos c27] at H
                                    have c27b0 : ((rd t172 x61_3) == t180) = true := beq_iff_eq.mpr c27
                                    have c27b1 : ((rd t172 x61_3) != t180) = false := bne_eq_false_iff_eq.mpr c27
                                    clear c27
                                    have H' := Aside0.mk H
                                    clear H
                                    have p179 : 0 ≤ (x61_3 : Int) := of_decide_eq_true (by first | (with_reducible assumption) | assumption)
                                    have q179 : x61_3 < (l1.length : Int) := of_decide_eq_true (by first | (with_reducible assumption) | assumption)
                                    obtain ⟨ad179, e179, hx179_0⟩ := Kd.at_int HR1.out x61_3 p179 q179
                                    cases e179
                                    replace hx179_0 := (HB.out.cell (World.block_lt_of_cell? w _ hx179_0)).trans hx179_0
                                    replace p179 := eq_true p179
                                    replace q179 := eq_true q179
                                    go_wp2_with (first | ((with_reducible refine gate_callee (f := 15) rfl ?_); refine goesL_ (some 75) rfl rfl Try.func15 (by kernel_rfl) rfl #[.int .i64 a0, .int .i64 (rd l1 x61_3), .int .i64 x8_2] rfl (by (try simp only [List.map_toArray, List.map_cons, List.map_nil]); first | done | rfl | (simp only [List.length_drop, List.length_take]; rfl)) ?_; (with_reducible refine (supercargoref04_Times.calls k3 a0 (rd l1 x61_3) x8_2 t180 t181 _ A25.out).mono ?_); rintro e w' ⟨rfl, ⟨nd, rfl⟩⟩; refine ⟨_, rfl, ?_⟩; have p182 : 0 ≤ (x61_3 : Int) := of_decide_eq_true (by first | (with_reducible assumption) | assumption); have q182 : x61_3 < (t172.length : Int) := of_decide_eq_true (by first | (with_reducible assumption) | assumption); obtain ⟨ad182, e182, hx182_0⟩ := Kd.at_int (Kd.R_reads' HO_5.out).2.2 x61_3 p182 q182; cases e182; replace p182 := eq_true p182; replace q182 := eq_true q182))
                                    go_roundg k3
                                    case measure => have := HJ2.out; have := HK2.out; have := HK3.out; omega
                                    case rel => exact ⟨(wrap64 (x61_3 + 1)), (by first | rfl | (simp; done) | (simp [*]; done)), H', ⟨by have := HJ2.out; have := HK2.out; have := HK3.out; omega⟩, ⟨by (with_reducible repeat (first | apply Kd.R_alloc | apply Kd.R_drewN | apply Kd.R_drew)); exact HO_5.out⟩, ⟨by repeat (first | (with_reducible first | exact HB.out | apply below_alloc | apply pw_below_drewN | apply below_drew1) | exact HB.out)⟩⟩
                                  · rw [if_neg c27] at H
                                    have c27b0 : ((rd t172 x61_3) == t180) = false := beq_eq_false_iff_ne.mpr c27
                                    have c27b1 : ((rd t172 x61_3) != t180) = true := bne_iff_ne.mpr c27
                                    by_cases c28 : (rd t172 x61_3) = (wrap64 (t180 + 1))
                                    · rw [if_pos c28] at H
                                      have c28b0 : ((rd t172 x61_3) == (wrap64 (t180 + 1))) = true := beq_iff_eq.mpr c28
                                      have c28b1 : ((rd t172 x61_3) != (wrap64 (t180 + 1))) = false := bne_eq_false_iff_eq.mpr c28
                                      clear c28
                                      by_cases c29 : t181 = 0
                                      · rw [if_pos c29] at H
                                        have c29b0 : (t181 == 0) = true := beq_iff_eq.mpr c29
                                        have c29b1 : (t181 != 0) = false := bne_eq_false_iff_eq.mpr c29
                                        clear c29
                                        obtain rfl := Option.some.inj H
                                        have p179 : 0 ≤ (x61_3 : Int) := of_decide_eq_true (by first | (with_reducible assumption) | assumption)
                                        have q179 : x61_3 < (l1.length : Int) := of_decide_eq_true (by first | (with_reducible assumption) | assumption)
                                        obtain ⟨ad179, e179, hx179_0⟩ := Kd.at_int HR1.out x61_3 p179 q179
                                        cases e179
                                        replace hx179_0 := (HB.out.cell (World.block_lt_of_cell? w _ hx179_0)).trans hx179_0
                                        replace p179 := eq_true p179
                                        replace q179 := eq_true q179
                                        go_wp2_with (first | ((with_reducible refine gate_callee (f := 15) rfl ?_); refine goesL_ (some 75) rfl rfl Try.func15 (by kernel_rfl) rfl #[.int .i64 a0, .int .i64 (rd l1 x61_3), .int .i64 x8_2] rfl (by (try simp only [List.map_toArray, List.map_cons, List.map_nil]); first | done | rfl | (simp only [List.length_drop, List.length_take]; rfl)) ?_; (with_reducible refine (supercargoref04_Times.calls k3 a0 (rd l1 x61_3) x8_2 t180 t181 _ A25.out).mono ?_); rintro e w' ⟨rfl, ⟨nd, rfl⟩⟩; refine ⟨_, rfl, ?_⟩; have p182 : 0 ≤ (x61_3 : Int) := of_decide_eq_true (by first | (with_reducible assumption) | assumption); have q182 : x61_3 < (t172.length : Int) := of_decide_eq_true (by first | (with_reducible assumption) | assumption); obtain ⟨ad182, e182, hx182_0⟩ := Kd.at_int (Kd.R_reads' HO_5.out).2.2 x61_3 p182 q182; cases e182; replace p182 := eq_true p182; replace q182 := eq_true q182; have p183 : 0 ≤ (x61_3 : Int) := of_decide_eq_true (by first | (with_reducible assumption) | assumption); have q183 : x61_3 < (t172.length : Int) := of_decide_eq_true (by first | (with_reducible assumption) | assumption); obtain ⟨ad183, e183, hx183_0⟩ := Kd.at_int (Kd.R_reads' HO_5.out).2.2 x61_3 p183 q183; obtain rfl : ad182 = ad183 := (by injection e183); replace p183 := eq_true p183; replace q183 := eq_true q183))
                                        go_ret
                                        exact ⟨by first | rfl | (simp [errW_none, errW_some] <;> rfl) | (simp [*, errW_none, errW_some] <;> rfl), by repeat (first | (with_reducible first | exact HB.out | apply below_alloc | apply pw_below_drewN | apply below_drew1) | exact HB.out)⟩
                                      · rw [if_neg c29] at H
                                        have c29b0 : (t181 == 0) = false := beq_eq_false_iff_ne.mpr c29
                                        have c29b1 : (t181 != 0) = true := bne_iff_ne.mpr c29
                                        have H' := Aside0.mk H
                                        clear H
                                        have p179 : 0 ≤ (x61_3 : Int) := of_decide_eq_true (by first | (with_reducible assumption) | assumption)
                                        have q179 : x61_3 < (l1.length : Int) := of_decide_eq_true (by first | (with_reducible assumption) | assumption)
                                        obtain ⟨ad179, e179, hx179_0⟩ := Kd.at_int HR1.out x61_3 p179 q179
                                        cases e179
                                        replace hx179_0 := (HB.out.cell (World.block_lt_of_cell? w _ hx179_0)).trans hx179_0
                                        replace p179 := eq_true p179
                                        replace q179 := eq_true q179
                                        go_wp2_with (first | ((with_reducible refine gate_callee (f := 15) rfl ?_); refine goesL_ (some 75) rfl rfl Try.func15 (by kernel_rfl) rfl #[.int .i64 a0, .int .i64 (rd l1 x61_3), .int .i64 x8_2] rfl (by (try simp only [List.map_toArray, List.map_cons, List.map_nil]); first | done | rfl | (simp only [List.length_drop, List.length_take]; rfl)) ?_; (with_reducible refine (supercargoref04_Times.calls k3 a0 (rd l1 x61_3) x8_2 t180 t181 _ A25.out).mono ?_); rintro e w' ⟨rfl, ⟨nd, rfl⟩⟩; refine ⟨_, rfl, ?_⟩; have p182 : 0 ≤ (x61_3 : Int) := of_decide_eq_true (by first | (with_reducible assumption) | assumption); have q182 : x61_3 < (t172.length : Int) := of_decide_eq_true (by first | (with_reducible assumption) | assumption); obtain ⟨ad182, e182, hx182_0⟩ := Kd.at_int (Kd.R_reads' HO_5.out).2.2 x61_3 p182 q182; cases e182; replace p182 := eq_true p182; replace q182 := eq_true q182; have p183 : 0 ≤ (x61_3 : Int) := of_decide_eq_true (by first | (with_reducible assumption) | assumption); have q183 : x61_3 < (t172.length : Int) := of_decide_eq_true (by first | (with_reducible assumption) | assumption); obtain ⟨ad183, e183, hx183_0⟩ := Kd.at_int (Kd.R_reads' HO_5.out).2.2 x61_3 p183 q183; obtain rfl : ad182 = ad183 := (by injection e183); replace p183 := eq_true p183; replace q183 := eq_true q183))
                                        go_roundg k3
                                        case measure => have := HJ2.out; have := HK2.out; have := HK3.out; omega
                                        case rel => exact ⟨(wrap64 (x61_3 + 1)), (by first | rfl | (simp; done) | (simp [*]; done)), H', ⟨by have := HJ2.out; have := HK2.out; have := HK3.out; omega⟩, ⟨by (with_reducible repeat (first | apply Kd.R_alloc | apply Kd.R_drewN | apply Kd.R_drew)); exact HO_5.out⟩, ⟨by repeat (first | (with_reducible first | exact HB.out | apply below_alloc | apply pw_below_drewN | apply below_drew1) | exact HB.out)⟩⟩
                                    · rw [if_neg c28] at H
                                      have c28b0 : ((rd t172 x61_3) == (wrap64 (t180 + 1))) = false := beq_eq_false_iff_ne.mpr c28
                                      have c28b1 : ((rd t172 x61_3) != (wrap64 (t180 + 1))) = true := bne_iff_ne.mpr c28
                                      obtain rfl := Option.some.inj H
                                      have p179 : 0 ≤ (x61_3 : Int) := of_decide_eq_true (by first | (with_reducible assumption) | assumption)
                                      have q179 : x61_3 < (l1.length : Int) := of_decide_eq_true (by first | (with_reducible assumption) | assumption)
                                      obtain ⟨ad179, e179, hx179_0⟩ := Kd.at_int HR1.out x61_3 p179 q179
                                      cases e179
                                      replace hx179_0 := (HB.out.cell (World.block_lt_of_cell? w _ hx179_0)).trans hx179_0
                                      replace p179 := eq_true p179
                                      replace q179 := eq_true q179
                                      go_wp2_with (first | ((with_reducible refine gate_callee (f := 15) rfl ?_); refine goesL_ (some 75) rfl rfl Try.func15 (by kernel_rfl) rfl #[.int .i64 a0, .int .i64 (rd l1 x61_3), .int .i64 x8_2] rfl (by (try simp only [List.map_toArray, List.map_cons, List.map_nil]); first | done | rfl | (simp only [List.length_drop, List.length_take]; rfl)) ?_; (with_reducible refine (supercargoref04_Times.calls k3 a0 (rd l1 x61_3) x8_2 t180 t181 _ A25.out).mono ?_); rintro e w' ⟨rfl, ⟨nd, rfl⟩⟩; refine ⟨_, rfl, ?_⟩; have p182 : 0 ≤ (x61_3 : Int) := of_decide_eq_true (by first | (with_reducible assumption) | assumption); have q182 : x61_3 < (t172.length : Int) := of_decide_eq_true (by first | (with_reducible assumption) | assumption); obtain ⟨ad182, e182, hx182_0⟩ := Kd.at_int (Kd.R_reads' HO_5.out).2.2 x61_3 p182 q182; cases e182; replace p182 := eq_true p182; replace q182 := eq_true q182; have p183 : 0 ≤ (x61_3 : Int) := of_decide_eq_true (by first | (with_reducible assumption) | assumption); have q183 : x61_3 < (t172.length : Int) := of_decide_eq_true (by first | (with_reducible assumption) | assumption); obtain ⟨ad183, e183, hx183_0⟩ := Kd.at_int (Kd.R_reads' HO_5.out).2.2 x61_3 p183 q183; obtain rfl : ad182 = ad183 := (by injection e183); replace p183 := eq_true p183; replace q183 := eq_true q183))
                                      go_ret
                                      exact ⟨by first | rfl | (simp [errW_none, errW_some] <;> rfl) | (simp [*, errW_none, errW_some] <;> rfl), by repeat (first | (with_reducible first | exact HB.out | apply below_alloc | apply pw_below_drewN | apply below_drew1) | exact HB.out)⟩
                                · rw [if_neg c26] at H
                                  exact absurd H (by simp)
                              · rw [if_neg c24] at H
                                exact absurd H (by simp)
                            · rw [if_neg c23] at H
                              exact absurd H (by simp)
                        · rw [if_neg c21] at H
                          have c21b0 : decide (x61_3 < (t172.length : Int)) = false := decide_eq_false c21
                          clear c21
                          obtain rfl := Option.some.inj H
                          go_wp2
                          go_ret
                          exact ⟨by first | rfl | (simp [errW_none, errW_some] <;> rfl) | (simp [*, errW_none, errW_some] <;> rfl), by repeat (first | (with_reducible first | exact HB.out | apply below_alloc | apply pw_below_drewN | apply below_drew1) | exact HB.out)⟩
                  · rw [if_neg c20] at H
                    have c20b0 : (x7_2 == a0) = false := beq_eq_false_iff_ne.mpr c20
                    have c20b1 : (x7_2 != a0) = true := bne_iff_ne.mpr c20
                    obtain rfl := Option.some.inj H
                    go_wp2
                    go_ret
                    exact ⟨by first | rfl | (simp [errW_none, errW_some] <;> rfl) | (simp [*, errW_none, errW_some] <;> rfl), by repeat (first | (with_reducible first | exact HB.out | apply below_alloc | apply pw_below_drewN | apply below_drew1) | exact HB.out)⟩
          · rw [if_neg c13] at H
            have c13b0 : ((t172.length : Int) == (l1.length : Int)) = false := beq_eq_false_iff_ne.mpr c13
            have c13b1 : ((t172.length : Int) != (l1.length : Int)) = true := bne_iff_ne.mpr c13
            have c13b2 : (t172.length == l1.length) = false := by first | simpa using c13 | (simp at c13 ⊢; omega)
            obtain rfl := Option.some.inj H
            go_wp2_with (first | ((with_reducible refine gate_callee (f := 11) rfl ?_); refine goesL_ (some 24) rfl rfl Try.func11 (by kernel_rfl) rfl #[.int .i64 a0, .slice A1 l1.length c1] rfl (by (try simp only [List.map_toArray, List.map_cons, List.map_nil]); first | done | rfl | (simp only [List.length_drop, List.length_take]; rfl)) ?_; (with_reducible refine (share_Split.calls a0 _ _ l1 t172 t173 _ ?side1 ?side2 A11.out).mono ?_); (case side1 => repeat (first | exact (Kd.C_below HR1.out HB.out) | (with_reducible refine Kd.C_alloc ?_ _) | (with_reducible refine Kd.C_drewN ?_ _) | (with_reducible refine Kd.C_drew ?_))); (case side2 => exact HC1.out); rintro e w30 ⟨v174, rfl, ho0, hb⟩; refine ⟨_, rfl, ?_⟩; have n0_ := Aside0.mk (Kd.R_lower ho0 (below_size (by repeat (first | (with_reducible first | exact HB.out | apply below_alloc | apply pw_below_drewN | apply below_drew1) | exact HB.out)))); have n1_ := Aside0.mk (below_step (by repeat (first | (with_reducible first | exact HB.out | apply below_alloc | apply pw_below_drewN | apply below_drew1) | exact HB.out)) hb); clear HB; have HO175 := n0_; have HB := n1_; clear n0_ n1_; (try clear hb); (try clear hb2); (try clear hk); (try clear hi); (try clear ho0); obtain ⟨Ao31, co31, eo31⟩ := Kd.R_slice HO175.out; subst eo31))
            go_ret
            exact ⟨by first | rfl | (simp [errW_none, errW_some] <;> rfl) | (simp [*, errW_none, errW_some] <;> rfl), by repeat (first | (with_reducible first | exact HB.out | apply below_alloc | apply pw_below_drewN | apply below_drew1) | exact HB.out)⟩
        · rw [if_neg c12] at H
          have c12b0 : (t173 == 0) = false := beq_eq_false_iff_ne.mpr c12
          have c12b1 : (t173 != 0) = true := bne_iff_ne.mpr c12
          replace H := Option.bind_eq_some_iff.mp H
          obtain ⟨t176, A320, H⟩ := H
          replace H : (some (t176 != 0)) = some r := H
          have A32 := Aside0.mk A320
          clear A320
          obtain rfl := Option.some.inj H
          go_wp2_with (first | ((with_reducible refine gate_callee (f := 11) rfl ?_); refine goesL_ (some 24) rfl rfl Try.func11 (by kernel_rfl) rfl #[.int .i64 a0, .slice A1 l1.length c1] rfl (by (try simp only [List.map_toArray, List.map_cons, List.map_nil]); first | done | rfl | (simp only [List.length_drop, List.length_take]; rfl)) ?_; (with_reducible refine (share_Split.calls a0 _ _ l1 t172 t173 _ ?side1 ?side2 A11.out).mono ?_); (case side1 => repeat (first | exact (Kd.C_below HR1.out HB.out) | (with_reducible refine Kd.C_alloc ?_ _) | (with_reducible refine Kd.C_drewN ?_ _) | (with_reducible refine Kd.C_drew ?_))); (case side2 => exact HC1.out); rintro e w33 ⟨v174, rfl, ho0, hb⟩; refine ⟨_, rfl, ?_⟩; have n0_ := Aside0.mk (Kd.R_lower ho0 (below_size (by repeat (first | (with_reducible first | exact HB.out | apply below_alloc | apply pw_below_drewN | apply below_drew1) | exact HB.out)))); have n1_ := Aside0.mk (below_step (by repeat (first | (with_reducible first | exact HB.out | apply below_alloc | apply pw_below_drewN | apply below_drew1) | exact HB.out)) hb); clear HB; have HO175 := n0_; have HB := n1_; clear n0_ n1_; (try clear hb); (try clear hb2); (try clear hk); (try clear hi); (try clear ho0)) | ((with_reducible refine gate_callee (f := 13) rfl ?_); refine goesL_ (some 31) rfl rfl Try.func13 (by kernel_rfl) rfl #[.int .i64 a0, .slice A1 l1.length c1] rfl (by (try simp only [List.map_toArray, List.map_cons, List.map_nil]); first | done | rfl | (simp only [List.length_drop, List.length_take]; rfl)) ?_; (with_reducible refine (supercargoref04_Error.calls kj2 a0 _ _ l1 t176 _ ?side1 ?side2 A32.out).mono ?_); (case side1 => repeat (first | exact (Kd.C_below HR1.out HB.out) | (with_reducible refine Kd.C_alloc ?_ _) | (with_reducible refine Kd.C_drewN ?_ _) | (with_reducible refine Kd.C_drew ?_))); (case side2 => exact HC1.out); rintro e w' ⟨rfl, ⟨nd, rfl⟩⟩; refine ⟨_, rfl, ?_⟩))
          go_ret
          exact ⟨by first | rfl | (simp [errW_none, errW_some] <;> rfl) | (simp [*, errW_none, errW_some] <;> rfl), by repeat (first | (with_reducible first | exact HB.out | apply below_alloc | apply pw_below_drewN | apply below_drew1) | exact HB.out)⟩

/-- THE ONE PURE STATEMENT of supercargolaw04_ShareSums: yours. -/
def supercargolaw04_ShareSums.Pure : Prop := ∀ (a0 : Int) (l1 : List Int), (Lit.int .i64 a0).wf = true → l1.length ≤ maxLen → l1.length * 8 ≤ 140737488351232 → (∀ x ∈ l1, (Lit.int .i64 x).wf = true) → ∃ k, supercargolaw04_ShareSums.f k a0 l1 = some true
theorem supercargolaw04_ShareSums.walk (P : supercargolaw04_ShareSums.Pure) (a0 : Int) (a1 : Option Addr) (len1 cap1 : Nat) (z1 : List Int) (w : World) (w0 : (Lit.int .i64 a0).wf = true) (w1 : (a1 = none ∧ len1 = 0 ∧ cap1 = 0 ∧ z1 = []) ∨ ∃ x, a1 = some x ∧ len1 ≤ cap1 ∧ cap1 ≤ maxLen ∧ z1.length = cap1 ∧ (∀ i, i < z1.length → w.cell? (x.add i) = some (.int .i64 (z1.getD i 0))) ∧ ∀ n ∈ z1, (Lit.int .i64 n).wf = true) (y1 : len1 * 8 ≤ 140737488351232) :
    Calls Try.prog 4 #[.int .i64 a0, .slice a1 len1 cap1] w fun e w' => e = .returned (.bool true) ∧ Below w.heap.size w w' := by
  obtain ⟨l1, rfl, hr1, hm1, hw1, hc1⟩ := ReadsInt.ofRowC w1
  obtain ⟨k, h⟩ := P a0 l1 w0 hm1 y1 hw1
  refine (supercargolaw04_ShareSums.calls k a0 _ _ l1 true w (Kd.C_of_reads (d := (0 : Int)) (h1 := fun _ => rfl) hr1) hc1 h).mono ?_
  rintro e w' ⟨rfl, hd⟩
  exact ⟨rfl, hd⟩

end Go.Proofs.Ythbbfbhgcoffeaa.Print
