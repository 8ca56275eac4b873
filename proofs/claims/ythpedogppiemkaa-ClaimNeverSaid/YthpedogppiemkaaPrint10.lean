/- Contracts of the program's functions over this seat's translation, written out by this session's own driver. Conditions: those in each statement. -/
import Derived.Test.YthpedogppiemkaaPrint0
import Derived.Test.YthpedogppiemkaaPrint3
import Derived.Test.YthpedogppiemkaaPrint4
import Derived.Test.YthpedogppiemkaaPrint6
namespace Go.Proofs.Ythpedogppiemkaa.Print
open Go.RowKit Go.Proofs.YthpedogppiemkaaW.PrintWords Go.Proofs.YthpedogppiemkaaW.PrintLast Go.Proofs.YthpedogppiemkaaW.PrintMore
attribute [local go_sem] max2_int min2_int max_two min_two max_three min_three max_four min_four   -- for this text's walks alone
set_option linter.unusedVariables false
set_option linter.unusedSimpArgs false

/-! ### supercargolaw44_policy: function 25 -/
def supercargolaw44_policy.f (a0 : ByteArray) (a1 : Int) : Option (ByteArray × ByteArray × ByteArray × Int × Int × List Int × Int × Int × Int) := some (a0, (⟨#[102]⟩ : ByteArray), (⟨#[116]⟩ : ByteArray), a1, 0, ([] : List Int), 0, 9, 1000)
set_option maxHeartbeats 8000000 in
set_option maxRecDepth 100000 in
theorem supercargolaw44_policy.calls (a0 : ByteArray) (a1 : Int) (r1 : ByteArray) (r2 : ByteArray) (r3 : ByteArray) (r4 : Int) (r5 : Int) (r6 : List Int) (r7 : Int) (r8 : Int) (r9 : Int) (w : World) (h : supercargolaw44_policy.f a0 a1 = some (r1, r2, r3, r4, r5, r6, r7, r8, r9)) :
    Calls Try.prog 25 #[.string a0, .int .i64 a1] w fun e w' => ∃ v5_ : Value, e = .returned (.agg #[.string r1, .string r2, .string r3, .int .i64 r4, .int .i64 r5, v5_, .int .i64 r7, .int .i64 r8, .int .i64 r9]) ∧ Kd.R (Kd.int .i64) 3 w' w.heap.size (fun _ => True) v5_ r6 ∧ Below w.heap.size w w' := by
  have hu32 := Try.underlying32
  have HB := Aside0.mk (Below.refl w.heap.size w)
  have H : (some (a0, (⟨#[102]⟩ : ByteArray), (⟨#[116]⟩ : ByteArray), a1, 0, ([] : List Int), 0, 9, 1000)) = some (r1, r2, r3, r4, r5, r6, r7, r8, r9) := h
  clear h
  simp only [Option.some.injEq, Prod.mk.injEq] at H
  obtain ⟨rfl, rfl, rfl, rfl, rfl, rfl, rfl, rfl, rfl⟩ := H
  go_enter Try.func25, Try.ntmps25
  go_wp2_with (first | ((with_reducible refine gate_dst (N := 4) rfl ?_); refine box_event ?hg (N := 4) ?hd (cs := #[.string (⟨#[]⟩ : ByteArray), .string (⟨#[]⟩ : ByteArray), .string (⟨#[]⟩ : ByteArray), .int .i64 0, .int .i64 0, .slice none 0 0, .int .i64 0, .int .i64 0, .int .i64 0]) (t := 32) ?hr ?_; (case hd => rfl); (case hg => rfl); (case hr => first | (go_simp; done) | (go_simp; rfl)); intro gb121 hg w3 hbox hb; have n0_ := Aside0.mk (below_step (by repeat (first | (with_reducible first | exact HB.out | apply below_alloc | apply pw_below_drewN | apply below_drew1) | exact HB.out)) hb); have n1_ := Aside0.mk (hbox); have n2_ := Aside0.mk ((by rw [hg]; exact (below_size (by repeat (first | (with_reducible first | exact HB.out | apply below_alloc | apply pw_below_drewN | apply below_drew1) | exact HB.out))) : w.heap.size ≤ gb121)); have n3_ := Aside0.mk ((by rw [hg]; exact (below_size (by repeat (first | (with_reducible first | exact HB.out | apply below_alloc | apply pw_below_drewN | apply below_drew1) | exact HB.out))) : w.heap.size ≤ gb121)); clear HB; have HB := n0_; have BK121 := n1_; have GW121 := n2_; have GE121 := n3_; clear n0_ n1_ n2_ n3_; clear hb hbox hg; have hcz4_0 : w3.cell? ⟨gb121, 0, none⟩ = some (.string (⟨#[]⟩ : ByteArray)) := (blk_cell BK121.out 0).trans rfl; have hcz4_1 : w3.cell? ⟨gb121, 1, none⟩ = some (.string (⟨#[]⟩ : ByteArray)) := (blk_cell BK121.out 1).trans rfl; have hcz4_2 : w3.cell? ⟨gb121, 2, none⟩ = some (.string (⟨#[]⟩ : ByteArray)) := (blk_cell BK121.out 2).trans rfl; have hcz4_3 : w3.cell? ⟨gb121, 3, none⟩ = some (.int .i64 0) := (blk_cell BK121.out 3).trans rfl; have hcz4_4 : w3.cell? ⟨gb121, 4, none⟩ = some (.int .i64 0) := (blk_cell BK121.out 4).trans rfl; have hcz4_5 : w3.cell? ⟨gb121, 5, none⟩ = some (.slice none 0 0) := (blk_cell BK121.out 5).trans rfl; have hcz4_6 : w3.cell? ⟨gb121, 6, none⟩ = some (.int .i64 0) := (blk_cell BK121.out 6).trans rfl; have hcz4_7 : w3.cell? ⟨gb121, 7, none⟩ = some (.int .i64 0) := (blk_cell BK121.out 7).trans rfl; have hcz4_8 : w3.cell? ⟨gb121, 8, none⟩ = some (.int .i64 0) := (blk_cell BK121.out 8).trans rfl; have hfz4_0 := blk_frozen BK121.out 0; have hfz4_1 := blk_frozen BK121.out 1; have hfz4_2 := blk_frozen BK121.out 2; have hfz4_3 := blk_frozen BK121.out 3; have hfz4_4 := blk_frozen BK121.out 4; have hfz4_5 := blk_frozen BK121.out 5; have hfz4_6 := blk_frozen BK121.out 6; have hfz4_7 := blk_frozen BK121.out 7; have hfz4_8 := blk_frozen BK121.out 8))
  refine bodyPost_ret (results_cell_row rfl _ _ gb121 32 #[.string a0, .string (⟨#[102]⟩ : ByteArray), .string (⟨#[116]⟩ : ByteArray), .int .i64 a1, .int .i64 0, .slice none 0 0, .int .i64 0, .int .i64 9, .int .i64 1000] (0, 0) _ rfl (by (with_reducible repeat (first | refine blk_drewN ?_ _ | refine blk_drew ?_ | refine blk_alloc ?_ _)); refine blk_put (cs := #[.string a0, .string (⟨#[102]⟩ : ByteArray), .string (⟨#[116]⟩ : ByteArray), .int .i64 a1, .int .i64 0, .slice none 0 0, .int .i64 0, .int .i64 9, .int .i64 0]) ?_ 8 _ rfl; (with_reducible repeat (first | refine blk_drewN ?_ _ | refine blk_drew ?_ | refine blk_alloc ?_ _)); refine blk_put (cs := #[.string a0, .string (⟨#[102]⟩ : ByteArray), .string (⟨#[116]⟩ : ByteArray), .int .i64 a1, .int .i64 0, .slice none 0 0, .int .i64 0, .int .i64 0, .int .i64 0]) ?_ 7 _ rfl; (with_reducible repeat (first | refine blk_drewN ?_ _ | refine blk_drew ?_ | refine blk_alloc ?_ _)); refine blk_put (cs := #[.string a0, .string (⟨#[102]⟩ : ByteArray), .string (⟨#[116]⟩ : ByteArray), .int .i64 a1, .int .i64 0, .slice none 0 0, .int .i64 0, .int .i64 0, .int .i64 0]) ?_ 6 _ rfl; (with_reducible repeat (first | refine blk_drewN ?_ _ | refine blk_drew ?_ | refine blk_alloc ?_ _)); refine blk_put (cs := #[.string a0, .string (⟨#[102]⟩ : ByteArray), .string (⟨#[116]⟩ : ByteArray), .int .i64 a1, .int .i64 0, .slice none 0 0, .int .i64 0, .int .i64 0, .int .i64 0]) ?_ 5 _ rfl; (with_reducible repeat (first | refine blk_drewN ?_ _ | refine blk_drew ?_ | refine blk_alloc ?_ _)); refine blk_put (cs := #[.string a0, .string (⟨#[102]⟩ : ByteArray), .string (⟨#[116]⟩ : ByteArray), .int .i64 a1, .int .i64 0, .slice none 0 0, .int .i64 0, .int .i64 0, .int .i64 0]) ?_ 4 _ rfl; (with_reducible repeat (first | refine blk_drewN ?_ _ | refine blk_drew ?_ | refine blk_alloc ?_ _)); refine blk_put (cs := #[.string a0, .string (⟨#[102]⟩ : ByteArray), .string (⟨#[116]⟩ : ByteArray), .int .i64 0, .int .i64 0, .slice none 0 0, .int .i64 0, .int .i64 0, .int .i64 0]) ?_ 3 _ rfl; (with_reducible repeat (first | refine blk_drewN ?_ _ | refine blk_drew ?_ | refine blk_alloc ?_ _)); refine blk_put (cs := #[.string a0, .string (⟨#[102]⟩ : ByteArray), .string (⟨#[]⟩ : ByteArray), .int .i64 0, .int .i64 0, .slice none 0 0, .int .i64 0, .int .i64 0, .int .i64 0]) ?_ 2 _ rfl; (with_reducible repeat (first | refine blk_drewN ?_ _ | refine blk_drew ?_ | refine blk_alloc ?_ _)); refine blk_put (cs := #[.string a0, .string (⟨#[]⟩ : ByteArray), .string (⟨#[]⟩ : ByteArray), .int .i64 0, .int .i64 0, .slice none 0 0, .int .i64 0, .int .i64 0, .int .i64 0]) ?_ 1 _ rfl; (with_reducible repeat (first | refine blk_drewN ?_ _ | refine blk_drew ?_ | refine blk_alloc ?_ _)); refine blk_put (cs := #[.string (⟨#[]⟩ : ByteArray), .string (⟨#[]⟩ : ByteArray), .string (⟨#[]⟩ : ByteArray), .int .i64 0, .int .i64 0, .slice none 0 0, .int .i64 0, .int .i64 0, .int .i64 0]) ?_ 0 _ rfl; (with_reducible repeat (first | refine blk_drewN ?_ _ | refine blk_drew ?_ | refine blk_alloc ?_ _)); exact BK121.out) Try.underlying32 rfl (by kernel_rfl)) rfl ?_
  exact ⟨_, by first | rfl | (simp [errW_none, errW_some] <;> rfl) | (simp [*, errW_none, errW_some] <;> rfl), by first | exact Kd.R_nil _ _ _ _ _ | exact Kd.N_nil _ _ _ _ _ | exact Kd.V_nil _ _ _ _ _ | exact Kd.Q_nil _ _ _ _ _ | exact Kd.S_nil _ _ _ _ _, by repeat (first | (with_reducible first | exact HB.out | apply below_alloc | apply pw_below_drewN | apply below_drew1 | refine below_set ?_ GE121.out) | exact HB.out)⟩

/-! ### supercargoref04_Same: function 26 -/
def supercargoref04_Same.l0 : Nat → List Int → List Int → Int → Option (Bool)
  | 0, _, _, _ => none
  | k + 1, x0, x1, x5 => if x5 < (x0.length : Int) then (if 0 ≤ x5 then (if x5 < (x1.length : Int) then (if (rd x0 x5) = (rd x1 x5) then (supercargoref04_Same.l0 k x0 x1 (wrap64 (x5 + 1))) else (some false)) else (none)) else (none)) else (some true)
def supercargoref04_Same.f (k : Nat) (l0 : List Int) (l1 : List Int) : Option (Bool) := if (l0.length : Int) = (l1.length : Int) then (supercargoref04_Same.l0 k l0 l1 0) else (some false)
theorem supercargoref04_Same.mono_l : ∀ k, (∀ y0 y1 y2, LeO (supercargoref04_Same.l0 k y0 y1 y2) (supercargoref04_Same.l0 (k + 1) y0 y1 y2))
  | 0 => fun _ _ _ r h => by simp [supercargoref04_Same.l0] at h
  | k + 1 => by
    have ih0 := supercargoref04_Same.mono_l k
    · intro y0 y1 y2
      unfold supercargoref04_Same.l0
      repeat' first
      | (with_reducible exact ih0 _ _ _)
      | (with_reducible exact LeO.refl _)
      | (with_reducible exact LeO.none _)
      | (with_reducible refine LeO.ite ?_ ?_)
      | (with_reducible refine LeO.bind ?_ (fun _ => ?_))
      | exact ih0 _ _ _
      | exact LeO.none _
      | refine LeO.ite ?_ ?_
      | refine LeO.bind ?_ (fun _ => ?_)
theorem supercargoref04_Same.mono : ∀ a0 a1 k, LeO (supercargoref04_Same.f k a0 a1) (supercargoref04_Same.f (k + 1) a0 a1) := by
  intro a0 a1 k
  have ih0 := supercargoref04_Same.mono_l k
  unfold supercargoref04_Same.f
  repeat' first
      | (with_reducible exact ih0 _ _ _)
      | (with_reducible exact LeO.refl _)
      | (with_reducible exact LeO.none _)
      | (with_reducible refine LeO.ite ?_ ?_)
      | (with_reducible refine LeO.bind ?_ (fun _ => ?_))
      | exact ih0 _ _ _
      | exact LeO.none _
      | refine LeO.ite ?_ ?_
      | refine LeO.bind ?_ (fun _ => ?_)
set_option maxHeartbeats 8000000 in
set_option maxRecDepth 100000 in
theorem supercargoref04_Same.calls (k : Nat) (A0 : Option Addr) (c0 : Nat) (l0 : List Int) (A1 : Option Addr) (c1 : Nat) (l1 : List Int) (r : Bool) (w : World) (hr0 : Kd.C (Kd.int .i64) w A0 l0.length l0) (hc0 : l0.length ≤ c0) (hr1 : Kd.C (Kd.int .i64) w A1 l1.length l1) (hc1 : l1.length ≤ c1) (h : supercargoref04_Same.f k l0 l1 = some r) :
    Calls Try.prog 26 #[.slice A0 l0.length c0, .slice A1 l1.length c1] w fun e w' => e = .returned (.bool r) ∧ Drawn0 w w' := by
  have HR0 := Aside0.mk hr0
  have HC0 := Aside0.mk hc0
  clear hr0 hc0
  have HR1 := Aside0.mk hr1
  have HC1 := Aside0.mk hc1
  clear hr1 hc1
  have H : (if (l0.length : Int) = (l1.length : Int) then (supercargoref04_Same.l0 k l0 l1 0) else (some false)) = some r := h
  clear h
  by_cases c3 : (l0.length : Int) = (l1.length : Int)
  · rw [if_pos c3] at H
    have c3b0 : ((l0.length : Int) == (l1.length : Int)) = true := beq_iff_eq.mpr c3
    have c3b1 : ((l0.length : Int) != (l1.length : Int)) = false := bne_eq_false_iff_eq.mpr c3
    have c3b2 : (l0.length == l1.length) = true := by first | simpa using c3 | (simp at c3 ⊢; omega)
    clear c3
    have H' := Aside0.mk H
    clear H
    go_enter Try.func26, Try.ntmps26
    go_wp2
    repeat (go_quiet (fail); try go_wp2)
    go_loopg [5] k (fun kq v5 w' => ∃ (x5_1 : Int), v5 = .int .i64 x5_1 ∧ Aside0 (supercargoref04_Same.l0 kq l0 l1 x5_1 = some r) ∧ Aside0 (kq ≤ k) ∧ Drawn0 w w')
    case atStart => exact ⟨(0), (by first | rfl | (simp; done) | (simp [*]; done)), H', ⟨Nat.le_refl _⟩, by repeat (first | exact Drawn0.refl _ | apply Drawn0.step)⟩
    case round =>
      clear H'
      try clear c1
      try clear c2
      try clear p2
      try clear c3
      try clear c3b0
      try clear c3b1
      try clear c3b2
      obtain ⟨x5_1, rfl, HA, HK1, ⟨m1, rfl⟩⟩ := hrel
      cases gk with
      | zero => exact absurd HA.out (by simp [supercargoref04_Same.l0])
      | succ k1 =>
        have H := HA.out
        clear HA
        simp only [supercargoref04_Same.l0] at H
        by_cases c4 : x5_1 < (l0.length : Int)
        · rw [if_pos c4] at H
          have c4b0 : decide (x5_1 < (l0.length : Int)) = true := decide_eq_true c4
          clear c4
          by_cases c5 : 0 ≤ x5_1
          · rw [if_pos c5] at H
            have c5b0 : decide (0 ≤ x5_1) = true := decide_eq_true c5
            clear c5
            by_cases c6 : x5_1 < (l1.length : Int)
            · rw [if_pos c6] at H
              have c6b0 : decide (x5_1 < (l1.length : Int)) = true := decide_eq_true c6
              clear c6
              by_cases c7 : (rd l0 x5_1) = (rd l1 x5_1)
              · rw [if_pos c7] at H
                have c7b0 : ((rd l0 x5_1) == (rd l1 x5_1)) = true := beq_iff_eq.mpr c7
                have c7b1 : ((rd l0 x5_1) != (rd l1 x5_1)) = false := bne_eq_false_iff_eq.mpr c7
                clear c7
                have H' := Aside0.mk H
                clear H
                have p122 : 0 ≤ (x5_1 : Int) := of_decide_eq_true (by first | (with_reducible assumption) | assumption)
                have q122 : x5_1 < (l0.length : Int) := of_decide_eq_true (by first | (with_reducible assumption) | assumption)
                obtain ⟨ad122, e122, hx122_0⟩ := Kd.at_int HR0.out x5_1 p122 q122
                cases e122
                replace p122 := eq_true p122
                replace q122 := eq_true q122
                have p123 : 0 ≤ (x5_1 : Int) := of_decide_eq_true (by first | (with_reducible assumption) | assumption)
                have q123 : x5_1 < (l1.length : Int) := of_decide_eq_true (by first | (with_reducible assumption) | assumption)
                obtain ⟨ad123, e123, hx123_0⟩ := Kd.at_int HR1.out x5_1 p123 q123
                cases e123
                replace p123 := eq_true p123
                replace q123 := eq_true q123
                go_wp2
                repeat (go_quiet (fail); try go_wp2)
                go_roundg k1
                case measure => have := HK1.out; omega
                case rel => exact ⟨(wrap64 (x5_1 + 1)), (by first | rfl | (simp; done) | (simp [*]; done)), H', ⟨by have := HK1.out; omega⟩, by repeat (first | exact Drawn0.refl _ | apply Drawn0.step)⟩
              · rw [if_neg c7] at H
                have c7b0 : ((rd l0 x5_1) == (rd l1 x5_1)) = false := beq_eq_false_iff_ne.mpr c7
                have c7b1 : ((rd l0 x5_1) != (rd l1 x5_1)) = true := bne_iff_ne.mpr c7
                obtain rfl := Option.some.inj H
                have p122 : 0 ≤ (x5_1 : Int) := of_decide_eq_true (by first | (with_reducible assumption) | assumption)
                have q122 : x5_1 < (l0.length : Int) := of_decide_eq_true (by first | (with_reducible assumption) | assumption)
                obtain ⟨ad122, e122, hx122_0⟩ := Kd.at_int HR0.out x5_1 p122 q122
                cases e122
                replace p122 := eq_true p122
                replace q122 := eq_true q122
                have p123 : 0 ≤ (x5_1 : Int) := of_decide_eq_true (by first | (with_reducible assumption) | assumption)
                have q123 : x5_1 < (l1.length : Int) := of_decide_eq_true (by first | (with_reducible assumption) | assumption)
                obtain ⟨ad123, e123, hx123_0⟩ := Kd.at_int HR1.out x5_1 p123 q123
                cases e123
                replace p123 := eq_true p123
                replace q123 := eq_true q123
                go_wp2
                repeat (go_quiet (fail); try go_wp2)
                go_ret
                exact ⟨by first | rfl | (simp; done) | (simp [*]; done), by repeat (first | exact Drawn0.refl _ | apply Drawn0.step)⟩
            · rw [if_neg c6] at H
              exact absurd H (by simp)
          · rw [if_neg c5] at H
            exact absurd H (by simp)
        · rw [if_neg c4] at H
          have c4b0 : decide (x5_1 < (l0.length : Int)) = false := decide_eq_false c4
          clear c4
          obtain rfl := Option.some.inj H
          go_wp2
          repeat (go_quiet (fail); try go_wp2)
          go_ret
          exact ⟨by first | rfl | (simp; done) | (simp [*]; done), by repeat (first | exact Drawn0.refl _ | apply Drawn0.step)⟩
  · rw [if_neg c3] at H
    have c3b0 : ((l0.length : Int) == (l1.length : Int)) = false := beq_eq_false_iff_ne.mpr c3
    have c3b1 : ((l0.length : Int) != (l1.length : Int)) = true := bne_iff_ne.mpr c3
    have c3b2 : (l0.length == l1.length) = false := by first | simpa using c3 | (simp at c3 ⊢; omega)
    obtain rfl := Option.some.inj H
    go_enter Try.func26, Try.ntmps26
    go_wp2
    repeat (go_quiet (fail); try go_wp2)
    go_ret
    exact ⟨by first | rfl | (simp; done) | (simp [*]; done), by repeat (first | exact Drawn0.refl _ | apply Drawn0.step)⟩

/-! ### policy_Insured: function 61 -/
def policy_Insured.f (k : Nat) (a0_0 : ByteArray) (a0_1 : ByteArray) (a0_2 : ByteArray) (a0_3 : Int) (a0_4 : Int) (l0_5 : List Int) (a0_6 : Int) (a0_7 : Int) (a0_8 : Int) (a1 : Int) : Option (Int × Bool) := (policy_May.f k a0_0 a0_1 a0_2 a0_3 a0_4 l0_5 a0_6 a0_7 a0_8).bind fun t125 => (if t125 = true then ((policy_within.f a1 1 1099511627776).bind fun t126 => (if t126 = true then (some (mn a1 a0_3, true)) else (some (0, false)))) else (some (0, false)))
theorem policy_Insured.mono : ∀ a0 a1 a2 a3 a4 a5 a6 a7 a8 a9 k, LeO (policy_Insured.f k a0 a1 a2 a3 a4 a5 a6 a7 a8 a9) (policy_Insured.f (k + 1) a0 a1 a2 a3 a4 a5 a6 a7 a8 a9) := by
  intro a0 a1 a2 a3 a4 a5 a6 a7 a8 a9 k
  unfold policy_Insured.f
  repeat' first
      | (with_reducible exact policy_May.mono _ _ _ _ _ _ _ _ _ _)
      | (with_reducible exact LeO.refl _)
      | (with_reducible exact LeO.none _)
      | (with_reducible refine LeO.ite ?_ ?_)
      | (with_reducible refine LeO.bind ?_ (fun _ => ?_))
      | exact policy_May.mono _ _ _ _ _ _ _ _ _ _
      | exact LeO.none _
      | refine LeO.ite ?_ ?_
      | refine LeO.bind ?_ (fun _ => ?_)
set_option maxHeartbeats 8000000 in
set_option maxRecDepth 100000 in
theorem policy_Insured.calls (k : Nat) (a0_0 : ByteArray) (a0_1 : ByteArray) (a0_2 : ByteArray) (a0_3 : Int) (a0_4 : Int) (A0_5 : Option Addr) (c0_5 : Nat) (l0_5 : List Int) (a0_6 : Int) (a0_7 : Int) (a0_8 : Int) (a1 : Int) (r1 : Int) (r2 : Bool) (w : World) (hr0_5 : Kd.C (Kd.int .i64) w A0_5 l0_5.length l0_5) (hc0_5 : l0_5.length ≤ c0_5) (h : policy_Insured.f k a0_0 a0_1 a0_2 a0_3 a0_4 l0_5 a0_6 a0_7 a0_8 a1 = some (r1, r2)) :
    Calls Try.prog 61 #[.agg #[.string a0_0, .string a0_1, .string a0_2, .int .i64 a0_3, .int .i64 a0_4, .slice A0_5 l0_5.length c0_5, .int .i64 a0_6, .int .i64 a0_7, .int .i64 a0_8], .int .i64 a1] w fun e w' => e = .returned (.tuple #[.int .i64 r1, .bool r2]) ∧ Below w.heap.size w w' := by
  have hu32 := Try.underlying32
  have HR0_5 := Aside0.mk hr0_5
  have HC0_5 := Aside0.mk hc0_5
  clear hr0_5 hc0_5
  have HB := Aside0.mk (Below.refl w.heap.size w)
  have H : ((policy_May.f k a0_0 a0_1 a0_2 a0_3 a0_4 l0_5 a0_6 a0_7 a0_8).bind fun t125 => (if t125 = true then ((policy_within.f a1 1 1099511627776).bind fun t126 => (if t126 = true then (some (mn a1 a0_3, true)) else (some (0, false)))) else (some (0, false)))) = some (r1, r2) := h
  clear h
  replace H := Option.bind_eq_some_iff.mp H
  obtain ⟨t125, A30, H⟩ := H
  replace H : (if t125 = true then ((policy_within.f a1 1 1099511627776).bind fun t126 => (if t126 = true then (some (mn a1 a0_3, true)) else (some (0, false)))) else (some (0, false))) = some (r1, r2) := H
  have A3 := Aside0.mk A30
  clear A30
  by_cases c4 : t125 = true
  · subst c4
    have H1 : ((policy_within.f a1 1 1099511627776).bind fun t126 => (if t126 = true then (some (mn a1 a0_3, true)) else (some (0, false)))) = some (r1, r2) := by rw [if_pos rfl] at H; exact H
    clear H
    have H := H1
    clear H1
    replace H := Option.bind_eq_some_iff.mp H
    obtain ⟨t126, A50, H⟩ := H
    replace H : (if t126 = true then (some (mn a1 a0_3, true)) else (some (0, false))) = some (r1, r2) := H
    have A5 := Aside0.mk A50
    clear A50
    by_cases c6 : t126 = true
    · subst c6
      have H1 : (some (mn a1 a0_3, true)) = some (r1, r2) := by rw [if_pos rfl] at H; exact H
      clear H
      have H := H1
      clear H1
      obtain ⟨ji7, hji7⟩ : ∃ j_ : Int, (mn a1 a0_3) = j_ := ⟨_, rfl⟩
      replace H : (some (ji7, true)) = some (r1, r2) := by first | (rw [hji7] at H; exact H) | (simp only [hji7] at H ⊢; exact H)
      (try rw [hji7] at A3)
      (try rw [hji7] at A5)
      have hji7_ : (if a0_3 < a1 then a0_3 else a1) = ji7 := hji7
      simp only [Option.some.injEq, Prod.mk.injEq] at H
      obtain ⟨rfl, rfl⟩ := H
      go_enter Try.func61, Try.ntmps61
      go_wp2_with (first | ((with_reducible refine gate_dst (N := 2) rfl ?_); refine box_event ?hg (N := 2) ?hd (cs := #[.string a0_0, .string a0_1, .string a0_2, .int .i64 a0_3, .int .i64 a0_4, .slice A0_5 l0_5.length c0_5, .int .i64 a0_6, .int .i64 a0_7, .int .i64 a0_8]) (t := 32) ?hr ?_; (case hd => rfl); (case hg => rfl); (case hr => first | (go_simp; done) | (go_simp; rfl)); intro gb124 hg w8 hbox hb; have n0_ := Aside0.mk (below_step (by repeat (first | (with_reducible first | exact HB.out | apply below_alloc | apply pw_below_drewN | apply below_drew1) | exact HB.out)) hb); have n1_ := Aside0.mk (hbox); have n2_ := Aside0.mk ((by rw [hg]; exact (below_size (by repeat (first | (with_reducible first | exact HB.out | apply below_alloc | apply pw_below_drewN | apply below_drew1) | exact HB.out))) : w.heap.size ≤ gb124)); have n3_ := Aside0.mk ((by rw [hg]; exact (below_size (by repeat (first | (with_reducible first | exact HB.out | apply below_alloc | apply pw_below_drewN | apply below_drew1) | exact HB.out))) : w.heap.size ≤ gb124)); clear HB; have HB := n0_; have BK124 := n1_; have GW124 := n2_; have GE124 := n3_; clear n0_ n1_ n2_ n3_; clear hb hbox hg; have hcz9_0 : w8.cell? ⟨gb124, 0, none⟩ = some (.string a0_0) := (blk_cell BK124.out 0).trans rfl; have hcz9_1 : w8.cell? ⟨gb124, 1, none⟩ = some (.string a0_1) := (blk_cell BK124.out 1).trans rfl; have hcz9_2 : w8.cell? ⟨gb124, 2, none⟩ = some (.string a0_2) := (blk_cell BK124.out 2).trans rfl; have hcz9_3 : w8.cell? ⟨gb124, 3, none⟩ = some (.int .i64 a0_3) := (blk_cell BK124.out 3).trans rfl; have hcz9_4 : w8.cell? ⟨gb124, 4, none⟩ = some (.int .i64 a0_4) := (blk_cell BK124.out 4).trans rfl; have hcz9_5 : w8.cell? ⟨gb124, 5, none⟩ = some (.slice A0_5 l0_5.length c0_5) := (blk_cell BK124.out 5).trans rfl; have hcz9_6 : w8.cell? ⟨gb124, 6, none⟩ = some (.int .i64 a0_6) := (blk_cell BK124.out 6).trans rfl; have hcz9_7 : w8.cell? ⟨gb124, 7, none⟩ = some (.int .i64 a0_7) := (blk_cell BK124.out 7).trans rfl; have hcz9_8 : w8.cell? ⟨gb124, 8, none⟩ = some (.int .i64 a0_8) := (blk_cell BK124.out 8).trans rfl; have hfz9_0 := blk_frozen BK124.out 0; have hfz9_1 := blk_frozen BK124.out 1; have hfz9_2 := blk_frozen BK124.out 2; have hfz9_3 := blk_frozen BK124.out 3; have hfz9_4 := blk_frozen BK124.out 4; have hfz9_5 := blk_frozen BK124.out 5; have hfz9_6 := blk_frozen BK124.out 6; have hfz9_7 := blk_frozen BK124.out 7; have hfz9_8 := blk_frozen BK124.out 8) | ((with_reducible refine gate_callee (f := 28) rfl ?_); refine goesL_ (some 7) rfl rfl Try.func28 (by kernel_rfl) rfl #[.agg #[.string a0_0, .string a0_1, .string a0_2, .int .i64 a0_3, .int .i64 a0_4, .slice A0_5 l0_5.length c0_5, .int .i64 a0_6, .int .i64 a0_7, .int .i64 a0_8]] rfl (by (try simp only [List.map_toArray, List.map_cons, List.map_nil]); first | done | rfl | (simp only [List.length_drop, List.length_take]; rfl)) ?_; (with_reducible refine (policy_May.calls k a0_0 a0_1 a0_2 a0_3 a0_4 _ _ l0_5 a0_6 a0_7 a0_8 true _ ?side1 ?side2 A3.out).mono ?_); (case side1 => repeat (first | exact (Kd.C_below HR0_5.out HB.out) | (with_reducible refine Kd.C_alloc ?_ _) | (with_reducible refine Kd.C_drewN ?_ _) | (with_reducible refine Kd.C_drew ?_))); (case side2 => exact HC0_5.out); rintro e w10 ⟨rfl, hb⟩; refine ⟨_, rfl, ?_⟩; have n0_ := Aside0.mk (blk_below (g := gb124) (o := .cells #[.string a0_0, .string a0_1, .string a0_2, .int .i64 a0_3, .int .i64 a0_4, .slice A0_5 l0_5.length c0_5, .int .i64 a0_6, .int .i64 a0_7, .int .i64 a0_8] 32 (0, 0)) (by (with_reducible repeat (first | refine blk_drewN ?_ _ | refine blk_drew ?_ | refine blk_alloc ?_ _)); exact BK124.out) hb); have n1_ := Aside0.mk (below_step (by repeat (first | (with_reducible first | exact HB.out | apply below_alloc | apply pw_below_drewN | apply below_drew1 | refine below_set ?_ GE124.out) | exact HB.out)) hb); clear BK124; clear HB; have BK124 := n0_; have HB := n1_; clear n0_ n1_; (try clear hb); (try clear hb2); (try clear hk); (try clear hi)) | (go_at_call 49; (with_reducible refine (policy_within.calls a1 1 1099511627776 true _ A5.out).mono ?_); rintro e w' ⟨rfl, ⟨nd, rfl⟩⟩; have hcz11_0 : w10.cell? ⟨gb124, 0, none⟩ = some (.string a0_0) := (blk_cell BK124.out 0).trans rfl; have hcz11_1 : w10.cell? ⟨gb124, 1, none⟩ = some (.string a0_1) := (blk_cell BK124.out 1).trans rfl; have hcz11_2 : w10.cell? ⟨gb124, 2, none⟩ = some (.string a0_2) := (blk_cell BK124.out 2).trans rfl; have hcz11_3 : w10.cell? ⟨gb124, 3, none⟩ = some (.int .i64 a0_3) := (blk_cell BK124.out 3).trans rfl; have hcz11_4 : w10.cell? ⟨gb124, 4, none⟩ = some (.int .i64 a0_4) := (blk_cell BK124.out 4).trans rfl; have hcz11_5 : w10.cell? ⟨gb124, 5, none⟩ = some (.slice A0_5 l0_5.length c0_5) := (blk_cell BK124.out 5).trans rfl; have hcz11_6 : w10.cell? ⟨gb124, 6, none⟩ = some (.int .i64 a0_6) := (blk_cell BK124.out 6).trans rfl; have hcz11_7 : w10.cell? ⟨gb124, 7, none⟩ = some (.int .i64 a0_7) := (blk_cell BK124.out 7).trans rfl; have hcz11_8 : w10.cell? ⟨gb124, 8, none⟩ = some (.int .i64 a0_8) := (blk_cell BK124.out 8).trans rfl; have hfz11_0 := blk_frozen BK124.out 0; have hfz11_1 := blk_frozen BK124.out 1; have hfz11_2 := blk_frozen BK124.out 2; have hfz11_3 := blk_frozen BK124.out 3; have hfz11_4 := blk_frozen BK124.out 4; have hfz11_5 := blk_frozen BK124.out 5; have hfz11_6 := blk_frozen BK124.out 6; have hfz11_7 := blk_frozen BK124.out 7; have hfz11_8 := blk_frozen BK124.out 8))
      go_ret2
      exact ⟨by first | rfl | (simp [errW_none, errW_some] <;> rfl) | (simp only [← hji7]; first | rfl | (simp [errW_none, errW_some] <;> rfl)) | (simp [*, errW_none, errW_some] <;> rfl), by repeat (first | (with_reducible first | exact HB.out | apply below_alloc | apply pw_below_drewN | apply below_drew1 | refine below_set ?_ GE124.out) | exact HB.out)⟩
    · replace c6 := Bool.eq_false_iff.mpr c6
      subst c6
      have H1 : (some (0, false)) = some (r1, r2) := by rw [if_neg (show ¬ (false = true) by decide)] at H; exact H
      clear H
      have H := H1
      clear H1
      simp only [Option.some.injEq, Prod.mk.injEq] at H
      obtain ⟨rfl, rfl⟩ := H
      go_enter Try.func61, Try.ntmps61
      go_wp2_with (first | ((with_reducible refine gate_dst (N := 2) rfl ?_); refine box_event ?hg (N := 2) ?hd (cs := #[.string a0_0, .string a0_1, .string a0_2, .int .i64 a0_3, .int .i64 a0_4, .slice A0_5 l0_5.length c0_5, .int .i64 a0_6, .int .i64 a0_7, .int .i64 a0_8]) (t := 32) ?hr ?_; (case hd => rfl); (case hg => rfl); (case hr => first | (go_simp; done) | (go_simp; rfl)); intro gb124 hg w12 hbox hb; have n0_ := Aside0.mk (below_step (by repeat (first | (with_reducible first | exact HB.out | apply below_alloc | apply pw_below_drewN | apply below_drew1) | exact HB.out)) hb); have n1_ := Aside0.mk (hbox); have n2_ := Aside0.mk ((by rw [hg]; exact (below_size (by repeat (first | (with_reducible first | exact HB.out | apply below_alloc | apply pw_below_drewN | apply below_drew1) | exact HB.out))) : w.heap.size ≤ gb124)); have n3_ := Aside0.mk ((by rw [hg]; exact (below_size (by repeat (first | (with_reducible first | exact HB.out | apply below_alloc | apply pw_below_drewN | apply below_drew1) | exact HB.out))) : w.heap.size ≤ gb124)); clear HB; have HB := n0_; have BK124 := n1_; have GW124 := n2_; have GE124 := n3_; clear n0_ n1_ n2_ n3_; clear hb hbox hg; have hcz13_0 : w12.cell? ⟨gb124, 0, none⟩ = some (.string a0_0) := (blk_cell BK124.out 0).trans rfl; have hcz13_1 : w12.cell? ⟨gb124, 1, none⟩ = some (.string a0_1) := (blk_cell BK124.out 1).trans rfl; have hcz13_2 : w12.cell? ⟨gb124, 2, none⟩ = some (.string a0_2) := (blk_cell BK124.out 2).trans rfl; have hcz13_3 : w12.cell? ⟨gb124, 3, none⟩ = some (.int .i64 a0_3) := (blk_cell BK124.out 3).trans rfl; have hcz13_4 : w12.cell? ⟨gb124, 4, none⟩ = some (.int .i64 a0_4) := (blk_cell BK124.out 4).trans rfl; have hcz13_5 : w12.cell? ⟨gb124, 5, none⟩ = some (.slice A0_5 l0_5.length c0_5) := (blk_cell BK124.out 5).trans rfl; have hcz13_6 : w12.cell? ⟨gb124, 6, none⟩ = some (.int .i64 a0_6) := (blk_cell BK124.out 6).trans rfl; have hcz13_7 : w12.cell? ⟨gb124, 7, none⟩ = some (.int .i64 a0_7) := (blk_cell BK124.out 7).trans rfl; have hcz13_8 : w12.cell? ⟨gb124, 8, none⟩ = some (.int .i64 a0_8) := (blk_cell BK124.out 8).trans rfl; have hfz13_0 := blk_frozen BK124.out 0; have hfz13_1 := blk_frozen BK124.out 1; have hfz13_2 := blk_frozen BK124.out 2; have hfz13_3 := blk_frozen BK124.out 3; have hfz13_4 := blk_frozen BK124.out 4; have hfz13_5 := blk_frozen BK124.out 5; have hfz13_6 := blk_frozen BK124.out 6; have hfz13_7 := blk_frozen BK124.out 7; have hfz13_8 := blk_frozen BK124.out 8) | ((with_reducible refine gate_callee (f := 28) rfl ?_); refine goesL_ (some 7) rfl rfl Try.func28 (by kernel_rfl) rfl #[.agg #[.string a0_0, .string a0_1, .string a0_2, .int .i64 a0_3, .int .i64 a0_4, .slice A0_5 l0_5.length c0_5, .int .i64 a0_6, .int .i64 a0_7, .int .i64 a0_8]] rfl (by (try simp only [List.map_toArray, List.map_cons, List.map_nil]); first | done | rfl | (simp only [List.length_drop, List.length_take]; rfl)) ?_; (with_reducible refine (policy_May.calls k a0_0 a0_1 a0_2 a0_3 a0_4 _ _ l0_5 a0_6 a0_7 a0_8 true _ ?side1 ?side2 A3.out).mono ?_); (case side1 => repeat (first | exact (Kd.C_below HR0_5.out HB.out) | (with_reducible refine Kd.C_alloc ?_ _) | (with_reducible refine Kd.C_drewN ?_ _) | (with_reducible refine Kd.C_drew ?_))); (case side2 => exact HC0_5.out); rintro e w14 ⟨rfl, hb⟩; refine ⟨_, rfl, ?_⟩; have n0_ := Aside0.mk (blk_below (g := gb124) (o := .cells #[.string a0_0, .string a0_1, .string a0_2, .int .i64 a0_3, .int .i64 a0_4, .slice A0_5 l0_5.length c0_5, .int .i64 a0_6, .int .i64 a0_7, .int .i64 a0_8] 32 (0, 0)) (by (with_reducible repeat (first | refine blk_drewN ?_ _ | refine blk_drew ?_ | refine blk_alloc ?_ _)); exact BK124.out) hb); have n1_ := Aside0.mk (below_step (by repeat (first | (with_reducible first | exact HB.out | apply below_alloc | apply pw_below_drewN | apply below_drew1 | refine below_set ?_ GE124.out) | exact HB.out)) hb); clear BK124; clear HB; have BK124 := n0_; have HB := n1_; clear n0_ n1_; (try clear hb); (try clear hb2); (try clear hk); (try clear hi)) | (go_at_call 49; (with_reducible refine (policy_within.calls a1 1 1099511627776 false _ A5.out).mono ?_); rintro e w' ⟨rfl, ⟨nd, rfl⟩⟩))
      go_ret2
      exact ⟨by first | rfl | (simp [errW_none, errW_some] <;> rfl) | (simp [*, errW_none, errW_some] <;> rfl), by repeat (first | (with_reducible first | exact HB.out | apply below_alloc | apply pw_below_drewN | apply below_drew1 | refine below_set ?_ GE124.out) | exact HB.out)⟩
  · replace c4 := Bool.eq_false_iff.mpr c4
    subst c4
    have H1 : (some (0, false)) = some (r1, r2) := by rw [if_neg (show ¬ (false = true) by decide)] at H; exact H
    clear H
    have H := H1
    clear H1
    simp only [Option.some.injEq, Prod.mk.injEq] at H
    obtain ⟨rfl, rfl⟩ := H
    go_enter Try.func61, Try.ntmps61
    go_wp2_with (first | ((with_reducible refine gate_dst (N := 2) rfl ?_); refine box_event ?hg (N := 2) ?hd (cs := #[.string a0_0, .string a0_1, .string a0_2, .int .i64 a0_3, .int .i64 a0_4, .slice A0_5 l0_5.length c0_5, .int .i64 a0_6, .int .i64 a0_7, .int .i64 a0_8]) (t := 32) ?hr ?_; (case hd => rfl); (case hg => rfl); (case hr => first | (go_simp; done) | (go_simp; rfl)); intro gb124 hg w15 hbox hb; have n0_ := Aside0.mk (below_step (by repeat (first | (with_reducible first | exact HB.out | apply below_alloc | apply pw_below_drewN | apply below_drew1) | exact HB.out)) hb); have n1_ := Aside0.mk (hbox); have n2_ := Aside0.mk ((by rw [hg]; exact (below_size (by repeat (first | (with_reducible first | exact HB.out | apply below_alloc | apply pw_below_drewN | apply below_drew1) | exact HB.out))) : w.heap.size ≤ gb124)); have n3_ := Aside0.mk ((by rw [hg]; exact (below_size (by repeat (first | (with_reducible first | exact HB.out | apply below_alloc | apply pw_below_drewN | apply below_drew1) | exact HB.out))) : w.heap.size ≤ gb124)); clear HB; have HB := n0_; have BK124 := n1_; have GW124 := n2_; have GE124 := n3_; clear n0_ n1_ n2_ n3_; clear hb hbox hg; have hcz16_0 : w15.cell? ⟨gb124, 0, none⟩ = some (.string a0_0) := (blk_cell BK124.out 0).trans rfl; have hcz16_1 : w15.cell? ⟨gb124, 1, none⟩ = some (.string a0_1) := (blk_cell BK124.out 1).trans rfl; have hcz16_2 : w15.cell? ⟨gb124, 2, none⟩ = some (.string a0_2) := (blk_cell BK124.out 2).trans rfl; have hcz16_3 : w15.cell? ⟨gb124, 3, none⟩ = some (.int .i64 a0_3) := (blk_cell BK124.out 3).trans rfl; have hcz16_4 : w15.cell? ⟨gb124, 4, none⟩ = some (.int .i64 a0_4) := (blk_cell BK124.out 4).trans rfl; have hcz16_5 : w15.cell? ⟨gb124, 5, none⟩ = some (.slice A0_5 l0_5.length c0_5) := (blk_cell BK124.out 5).trans rfl; have hcz16_6 : w15.cell? ⟨gb124, 6, none⟩ = some (.int .i64 a0_6) := (blk_cell BK124.out 6).trans rfl; have hcz16_7 : w15.cell? ⟨gb124, 7, none⟩ = some (.int .i64 a0_7) := (blk_cell BK124.out 7).trans rfl; have hcz16_8 : w15.cell? ⟨gb124, 8, none⟩ = some (.int .i64 a0_8) := (blk_cell BK124.out 8).trans rfl; have hfz16_0 := blk_frozen BK124.out 0; have hfz16_1 := blk_frozen BK124.out 1; have hfz16_2 := blk_frozen BK124.out 2; have hfz16_3 := blk_frozen BK124.out 3; have hfz16_4 := blk_frozen BK124.out 4; have hfz16_5 := blk_frozen BK124.out 5; have hfz16_6 := blk_frozen BK124.out 6; have hfz16_7 := blk_frozen BK124.out 7; have hfz16_8 := blk_frozen BK124.out 8) | ((with_reducible refine gate_callee (f := 28) rfl ?_); refine goesL_ (some 7) rfl rfl Try.func28 (by kernel_rfl) rfl #[.agg #[.string a0_0, .string a0_1, .string a0_2, .int .i64 a0_3, .int .i64 a0_4, .slice A0_5 l0_5.length c0_5, .int .i64 a0_6, .int .i64 a0_7, .int .i64 a0_8]] rfl (by (try simp only [List.map_toArray, List.map_cons, List.map_nil]); first | done | rfl | (simp only [List.length_drop, List.length_take]; rfl)) ?_; (with_reducible refine (policy_May.calls k a0_0 a0_1 a0_2 a0_3 a0_4 _ _ l0_5 a0_6 a0_7 a0_8 false _ ?side1 ?side2 A3.out).mono ?_); (case side1 => repeat (first | exact (Kd.C_below HR0_5.out HB.out) | (with_reducible refine Kd.C_alloc ?_ _) | (with_reducible refine Kd.C_drewN ?_ _) | (with_reducible refine Kd.C_drew ?_))); (case side2 => exact HC0_5.out); rintro e w17 ⟨rfl, hb⟩; refine ⟨_, rfl, ?_⟩; have n0_ := Aside0.mk (blk_below (g := gb124) (o := .cells #[.string a0_0, .string a0_1, .string a0_2, .int .i64 a0_3, .int .i64 a0_4, .slice A0_5 l0_5.length c0_5, .int .i64 a0_6, .int .i64 a0_7, .int .i64 a0_8] 32 (0, 0)) (by (with_reducible repeat (first | refine blk_drewN ?_ _ | refine blk_drew ?_ | refine blk_alloc ?_ _)); exact BK124.out) hb); have n1_ := Aside0.mk (below_step (by repeat (first | (with_reducible first | exact HB.out | apply below_alloc | apply pw_below_drewN | apply below_drew1 | refine below_set ?_ GE124.out) | exact HB.out)) hb); clear BK124; clear HB; have BK124 := n0_; have HB := n1_; clear n0_ n1_; (try clear hb); (try clear hb2); (try clear hk); (try clear hi)))
    go_ret2
    exact ⟨by first | rfl | (simp [errW_none, errW_some] <;> rfl) | (simp [*, errW_none, errW_some] <;> rfl), by repeat (first | (with_reducible first | exact HB.out | apply below_alloc | apply pw_below_drewN | apply below_drew1 | refine below_set ?_ GE124.out) | exact HB.out)⟩

/-! ### share_may: function 83 -/
def share_may.f (a0_0 : Int) (a0_1 : Int) : Option (Bool) := if a0_0 ≥ 0 then (some (decide (a0_1 ≥ 1))) else (some false)
set_option maxHeartbeats 8000000 in
set_option maxRecDepth 100000 in
theorem share_may.calls (a0_0 : Int) (a0_1 : Int) (r : Bool) (w : World) (h : share_may.f a0_0 a0_1 = some r) :
    Calls Try.prog 83 #[.agg #[.int .i64 a0_0, .int .i64 a0_1]] w fun e w' => e = .returned (.bool r) ∧ Below w.heap.size w w' := by
  have hu114 := Try.underlying114
  have HB := Aside0.mk (Below.refl w.heap.size w)
  have H : (if a0_0 ≥ 0 then (some (decide (a0_1 ≥ 1))) else (some false)) = some r := h
  clear h
  by_cases c2 : a0_0 ≥ 0
  · rw [if_pos c2] at H
    have c2b0 : decide (0 ≤ a0_0) = true := decide_eq_true c2
    clear c2
    obtain rfl := Option.some.inj H
    go_enter Try.func83, Try.ntmps83
    go_wp2_with (first | ((with_reducible refine gate_dst (N := 1) rfl ?_); refine box_event ?hg (N := 1) ?hd (cs := #[.int .i64 a0_0, .int .i64 a0_1]) (t := 114) ?hr ?_; (case hd => rfl); (case hg => rfl); (case hr => first | (go_simp; done) | (go_simp; rfl)); intro gb127 hg w3 hbox hb; have n0_ := Aside0.mk (below_step (by repeat (first | (with_reducible first | exact HB.out | apply below_alloc | apply pw_below_drewN | apply below_drew1) | exact HB.out)) hb); have n1_ := Aside0.mk (hbox); have n2_ := Aside0.mk ((by rw [hg]; exact (below_size (by repeat (first | (with_reducible first | exact HB.out | apply below_alloc | apply pw_below_drewN | apply below_drew1) | exact HB.out))) : w.heap.size ≤ gb127)); have n3_ := Aside0.mk ((by rw [hg]; exact (below_size (by repeat (first | (with_reducible first | exact HB.out | apply below_alloc | apply pw_below_drewN | apply below_drew1) | exact HB.out))) : w.heap.size ≤ gb127)); clear HB; have HB := n0_; have BK127 := n1_; have GW127 := n2_; have GE127 := n3_; clear n0_ n1_ n2_ n3_; clear hb hbox hg; have hcz4_0 : w3.cell? ⟨gb127, 0, none⟩ = some (.int .i64 a0_0) := (blk_cell BK127.out 0).trans rfl; have hcz4_1 : w3.cell? ⟨gb127, 1, none⟩ = some (.int .i64 a0_1) := (blk_cell BK127.out 1).trans rfl; have hfz4_0 := blk_frozen BK127.out 0; have hfz4_1 := blk_frozen BK127.out 1))
    go_ret
    exact ⟨by first | rfl | (simp [errW_none, errW_some] <;> rfl) | (simp [*, errW_none, errW_some] <;> rfl), by repeat (first | (with_reducible first | exact HB.out | apply below_alloc | apply pw_below_drewN | apply below_drew1 | refine below_set ?_ GE127.out) | exact HB.out)⟩
  · rw [if_neg c2] at H
    have c2b0 : decide (0 ≤ a0_0) = false := decide_eq_false c2
    clear c2
    obtain rfl := Option.some.inj H
    go_enter Try.func83, Try.ntmps83
    go_wp2_with (first | ((with_reducible refine gate_dst (N := 1) rfl ?_); refine box_event ?hg (N := 1) ?hd (cs := #[.int .i64 a0_0, .int .i64 a0_1]) (t := 114) ?hr ?_; (case hd => rfl); (case hg => rfl); (case hr => first | (go_simp; done) | (go_simp; rfl)); intro gb127 hg w5 hbox hb; have n0_ := Aside0.mk (below_step (by repeat (first | (with_reducible first | exact HB.out | apply below_alloc | apply pw_below_drewN | apply below_drew1) | exact HB.out)) hb); have n1_ := Aside0.mk (hbox); have n2_ := Aside0.mk ((by rw [hg]; exact (below_size (by repeat (first | (with_reducible first | exact HB.out | apply below_alloc | apply pw_below_drewN | apply below_drew1) | exact HB.out))) : w.heap.size ≤ gb127)); have n3_ := Aside0.mk ((by rw [hg]; exact (below_size (by repeat (first | (with_reducible first | exact HB.out | apply below_alloc | apply pw_below_drewN | apply below_drew1) | exact HB.out))) : w.heap.size ≤ gb127)); clear HB; have HB := n0_; have BK127 := n1_; have GW127 := n2_; have GE127 := n3_; clear n0_ n1_ n2_ n3_; clear hb hbox hg; have hcz6_0 : w5.cell? ⟨gb127, 0, none⟩ = some (.int .i64 a0_0) := (blk_cell BK127.out 0).trans rfl; have hcz6_1 : w5.cell? ⟨gb127, 1, none⟩ = some (.int .i64 a0_1) := (blk_cell BK127.out 1).trans rfl; have hfz6_0 := blk_frozen BK127.out 0; have hfz6_1 := blk_frozen BK127.out 1))
    go_ret
    exact ⟨by first | rfl | (simp [errW_none, errW_some] <;> rfl) | (simp [*, errW_none, errW_some] <;> rfl), by repeat (first | (with_reducible first | exact HB.out | apply below_alloc | apply pw_below_drewN | apply below_drew1 | refine below_set ?_ GE127.out) | exact HB.out)⟩

/-! ### share_Of: function 62 -/
def share_Of.j0 : Nat → Int → Bool → Int → Int → Option (Int × Bool)
  | 0, _, _, _, _ => none
  | k + 1, x0, x20, x129000, x129001 => if x20 = true then (some (0, false)) else ((bits_Mul64.f (IntKind.u64.wrap (x0)) (IntKind.u64.wrap (x129000))).bind fun bt130 => (if bt130.1 ≥ (IntKind.u64.wrap (x129001)) then (some (0, false)) else ((bits_Div64.f k bt130.1 bt130.2 (IntKind.u64.wrap (x129001))).bind fun bt132 => (if bt132.1 > 1099511627776 then (some (0, false)) else (some (wrap64 (bt132.1), true))))))
def share_Of.f (k : Nat) (a0 : Int) (a1_0 : Int) (a1_1 : Int) : Option (Int × Bool) := (share_may.f a1_0 a1_1).bind fun t129 => (if t129 = true then (if a0 < 0 then (share_Of.j0 k a0 true a1_0 a1_1) else (share_Of.j0 k a0 (decide (a0 > 1099511627776)) a1_0 a1_1)) else (share_Of.j0 k a0 true a1_0 a1_1))
theorem share_Of.mono_l : ∀ k, (∀ y0 y1 y2 y3, LeO (share_Of.j0 k y0 y1 y2 y3) (share_Of.j0 (k + 1) y0 y1 y2 y3))
  | 0 => fun _ _ _ _ r h => by simp [share_Of.j0] at h
  | k + 1 => by
    have ih0 := share_Of.mono_l k
    · intro y0 y1 y2 y3
      unfold share_Of.j0
      repeat' first
      | (with_reducible exact ih0 _ _ _ _)
      | (with_reducible exact bits_Div64.mono _ _ _ _)
      | (with_reducible exact LeO.refl _)
      | (with_reducible exact LeO.none _)
      | (with_reducible refine LeO.ite ?_ ?_)
      | (with_reducible refine LeO.bind ?_ (fun _ => ?_))
      | exact ih0 _ _ _ _
      | exact bits_Div64.mono _ _ _ _
      | exact LeO.none _
      | refine LeO.ite ?_ ?_
      | refine LeO.bind ?_ (fun _ => ?_)
theorem share_Of.mono : ∀ a0 a1 a2 k, LeO (share_Of.f k a0 a1 a2) (share_Of.f (k + 1) a0 a1 a2) := by
  intro a0 a1 a2 k
  have ih0 := share_Of.mono_l k
  unfold share_Of.f
  repeat' first
      | (with_reducible exact ih0 _ _ _ _)
      | (with_reducible exact bits_Div64.mono _ _ _ _)
      | (with_reducible exact LeO.refl _)
      | (with_reducible exact LeO.none _)
      | (with_reducible refine LeO.ite ?_ ?_)
      | (with_reducible refine LeO.bind ?_ (fun _ => ?_))
      | exact ih0 _ _ _ _
      | exact bits_Div64.mono _ _ _ _
      | exact LeO.none _
      | refine LeO.ite ?_ ?_
      | refine LeO.bind ?_ (fun _ => ?_)
set_option maxHeartbeats 8000000 in
set_option maxRecDepth 100000 in
theorem share_Of.calls (k : Nat) (a0 : Int) (a1_0 : Int) (a1_1 : Int) (r1 : Int) (r2 : Bool) (w : World) (h : share_Of.f k a0 a1_0 a1_1 = some (r1, r2)) :
    Calls Try.prog 62 #[.int .i64 a0, .agg #[.int .i64 a1_0, .int .i64 a1_1]] w fun e w' => e = .returned (.tuple #[.int .i64 r1, .bool r2]) ∧ Below w.heap.size w w' := by
  have hu114 := Try.underlying114
  have HB := Aside0.mk (Below.refl w.heap.size w)
  have H : ((share_may.f a1_0 a1_1).bind fun t129 => (if t129 = true then (if a0 < 0 then (share_Of.j0 k a0 true a1_0 a1_1) else (share_Of.j0 k a0 (decide (a0 > 1099511627776)) a1_0 a1_1)) else (share_Of.j0 k a0 true a1_0 a1_1))) = some (r1, r2) := h
  clear h
  have HC3 := Aside0.mk H
  clear H
  go_enter Try.func62, Try.ntmps62
  go_upto_region 1 with (first | ((with_reducible refine gate_dst (N := 3) rfl ?_); refine box_event ?hg (N := 3) ?hd (cs := #[.int .i64 a1_0, .int .i64 a1_1]) (t := 114) ?hr ?_; (case hd => rfl); (case hg => rfl); (case hr => first | (go_simp; done) | (go_simp; rfl)); intro gb128 hg w4 hbox hb; have n0_ := Aside0.mk (below_step (by repeat (first | (with_reducible first | exact HB.out | apply below_alloc | apply pw_below_drewN | apply below_drew1) | exact HB.out)) hb); have n1_ := Aside0.mk (hbox); have n2_ := Aside0.mk ((by rw [hg]; exact (below_size (by repeat (first | (with_reducible first | exact HB.out | apply below_alloc | apply pw_below_drewN | apply below_drew1) | exact HB.out))) : w.heap.size ≤ gb128)); have n3_ := Aside0.mk ((by rw [hg]; exact (below_size (by repeat (first | (with_reducible first | exact HB.out | apply below_alloc | apply pw_below_drewN | apply below_drew1) | exact HB.out))) : w.heap.size ≤ gb128)); clear HB; have HB := n0_; have BK128 := n1_; have GW128 := n2_; have GE128 := n3_; clear n0_ n1_ n2_ n3_; clear hb hbox hg))
  (try simp only [Act.put, List.setIfInBounds_toArray, List.set_cons_zero, List.set_cons_succ])
  go_cut [20] (fun v20 wc => ∃ (kq : Nat) (x20_2 : Bool), v20 = .bool x20_2 ∧ Aside0 (share_Of.j0 kq a0 x20_2 a1_0 a1_1 = some (r1, r2)) ∧ Aside0 (kq ≤ k) ∧ Aside0 (wc.heap[gb128]? = some (.cells #[.int .i64 a1_0, .int .i64 a1_1] 114 (0, 0))) ∧ Aside0 (Below w.heap.size w wc))
  case first =>
    have H := HC3.out
    clear HC3
    replace H := Option.bind_eq_some_iff.mp H
    obtain ⟨t129, A50, H⟩ := H
    replace H : (if t129 = true then (if a0 < 0 then (share_Of.j0 k a0 true a1_0 a1_1) else (share_Of.j0 k a0 (decide (a0 > 1099511627776)) a1_0 a1_1)) else (share_Of.j0 k a0 true a1_0 a1_1)) = some (r1, r2) := H
    have A5 := Aside0.mk A50
    clear A50
    by_cases c6 : t129 = true
    · subst c6
      have H1 : (if a0 < 0 then (share_Of.j0 k a0 true a1_0 a1_1) else (share_Of.j0 k a0 (decide (a0 > 1099511627776)) a1_0 a1_1)) = some (r1, r2) := by rw [if_pos rfl] at H; exact H
      clear H
      have H := H1
      clear H1
      by_cases c7 : a0 < 0
      · rw [if_pos c7] at H
        have c7b0 : decide (a0 < 0) = true := decide_eq_true c7
        clear c7
        (first | rw [c7b0] | (simp only [i64_w, i32_w]; rw [c7b0]) | skip)
        have H' := Aside0.mk H
        clear H
        have hcz8_0 : w4.cell? ⟨gb128, 0, none⟩ = some (.int .i64 a1_0) := (blk_cell BK128.out 0).trans rfl
        have hcz8_1 : w4.cell? ⟨gb128, 1, none⟩ = some (.int .i64 a1_1) := (blk_cell BK128.out 1).trans rfl
        have hfz8_0 := blk_frozen BK128.out 0
        have hfz8_1 := blk_frozen BK128.out 1
        go_wp2_with (first | ((with_reducible refine gate_callee (f := 83) rfl ?_); refine goesL_ (some 11) rfl rfl Try.func83 (by kernel_rfl) rfl #[.agg #[.int .i64 a1_0, .int .i64 a1_1]] rfl (by (try simp only [List.map_toArray, List.map_cons, List.map_nil]); first | done | rfl | (simp only [List.length_drop, List.length_take]; rfl)) ?_; (with_reducible refine (share_may.calls a1_0 a1_1 true _ A5.out).mono ?_); rintro e w9 ⟨rfl, hb⟩; refine ⟨_, rfl, ?_⟩; have n0_ := Aside0.mk (blk_below (g := gb128) (o := .cells #[.int .i64 a1_0, .int .i64 a1_1] 114 (0, 0)) (by (with_reducible repeat (first | refine blk_drewN ?_ _ | refine blk_drew ?_ | refine blk_alloc ?_ _)); exact BK128.out) hb); have n1_ := Aside0.mk (below_step (by repeat (first | (with_reducible first | exact HB.out | apply below_alloc | apply pw_below_drewN | apply below_drew1 | refine below_set ?_ GE128.out) | exact HB.out)) hb); clear BK128; clear HB; have BK128 := n0_; have HB := n1_; clear n0_ n1_; (try clear hb); (try clear hb2); (try clear hk); (try clear hi)))
        go_meet
        case rel => exact ⟨_, (true), (by first | rfl | (simp; done) | (simp [*]; done)), H', ⟨by first | omega | exact Nat.le_refl _⟩, ⟨by (with_reducible repeat (first | refine blk_drewN ?_ _ | refine blk_drew ?_ | refine blk_alloc ?_ _)); exact BK128.out⟩, ⟨by repeat (first | (with_reducible first | exact HB.out | apply below_alloc | apply pw_below_drewN | apply below_drew1 | refine below_set ?_ GE128.out) | exact HB.out)⟩⟩
      · rw [if_neg c7] at H
        have c7b0 : decide (a0 < 0) = false := decide_eq_false c7
        clear c7
        (first | rw [c7b0] | (simp only [i64_w, i32_w]; rw [c7b0]) | skip)
        have H' := Aside0.mk H
        clear H
        have hcz10_0 : w4.cell? ⟨gb128, 0, none⟩ = some (.int .i64 a1_0) := (blk_cell BK128.out 0).trans rfl
        have hcz10_1 : w4.cell? ⟨gb128, 1, none⟩ = some (.int .i64 a1_1) := (blk_cell BK128.out 1).trans rfl
        have hfz10_0 := blk_frozen BK128.out 0
        have hfz10_1 := blk_frozen BK128.out 1
        go_wp2_with (first | ((with_reducible refine gate_callee (f := 83) rfl ?_); refine goesL_ (some 11) rfl rfl Try.func83 (by kernel_rfl) rfl #[.agg #[.int .i64 a1_0, .int .i64 a1_1]] rfl (by (try simp only [List.map_toArray, List.map_cons, List.map_nil]); first | done | rfl | (simp only [List.length_drop, List.length_take]; rfl)) ?_; (with_reducible refine (share_may.calls a1_0 a1_1 true _ A5.out).mono ?_); rintro e w11 ⟨rfl, hb⟩; refine ⟨_, rfl, ?_⟩; have n0_ := Aside0.mk (blk_below (g := gb128) (o := .cells #[.int .i64 a1_0, .int .i64 a1_1] 114 (0, 0)) (by (with_reducible repeat (first | refine blk_drewN ?_ _ | refine blk_drew ?_ | refine blk_alloc ?_ _)); exact BK128.out) hb); have n1_ := Aside0.mk (below_step (by repeat (first | (with_reducible first | exact HB.out | apply below_alloc | apply pw_below_drewN | apply below_drew1 | refine below_set ?_ GE128.out) | exact HB.out)) hb); clear BK128; clear HB; have BK128 := n0_; have HB := n1_; clear n0_ n1_; (try clear hb); (try clear hb2); (try clear hk); (try clear hi)))
        go_meet
        case rel => exact ⟨_, (decide (a0 > 1099511627776)), (by first | rfl | (simp; done) | (simp [*]; done)), H', ⟨by first | omega | exact Nat.le_refl _⟩, ⟨by (with_reducible repeat (first | refine blk_drewN ?_ _ | refine blk_drew ?_ | refine blk_alloc ?_ _)); exact BK128.out⟩, ⟨by repeat (first | (with_reducible first | exact HB.out | apply below_alloc | apply pw_below_drewN | apply below_drew1 | refine below_set ?_ GE128.out) | exact HB.out)⟩⟩
    · replace c6 := Bool.eq_false_iff.mpr c6
      subst c6
      have H1 : (share_Of.j0 k a0 true a1_0 a1_1) = some (r1, r2) := by rw [if_neg (show ¬ (false = true) by decide)] at H; exact H
      clear H
      have H := H1
      clear H1
      have H' := Aside0.mk H
      clear H
      have hcz12_0 : w4.cell? ⟨gb128, 0, none⟩ = some (.int .i64 a1_0) := (blk_cell BK128.out 0).trans rfl
      have hcz12_1 : w4.cell? ⟨gb128, 1, none⟩ = some (.int .i64 a1_1) := (blk_cell BK128.out 1).trans rfl
      have hfz12_0 := blk_frozen BK128.out 0
      have hfz12_1 := blk_frozen BK128.out 1
      go_wp2_with (first | ((with_reducible refine gate_callee (f := 83) rfl ?_); refine goesL_ (some 11) rfl rfl Try.func83 (by kernel_rfl) rfl #[.agg #[.int .i64 a1_0, .int .i64 a1_1]] rfl (by (try simp only [List.map_toArray, List.map_cons, List.map_nil]); first | done | rfl | (simp only [List.length_drop, List.length_take]; rfl)) ?_; (with_reducible refine (share_may.calls a1_0 a1_1 false _ A5.out).mono ?_); rintro e w13 ⟨rfl, hb⟩; refine ⟨_, rfl, ?_⟩; have n0_ := Aside0.mk (blk_below (g := gb128) (o := .cells #[.int .i64 a1_0, .int .i64 a1_1] 114 (0, 0)) (by (with_reducible repeat (first | refine blk_drewN ?_ _ | refine blk_drew ?_ | refine blk_alloc ?_ _)); exact BK128.out) hb); have n1_ := Aside0.mk (below_step (by repeat (first | (with_reducible first | exact HB.out | apply below_alloc | apply pw_below_drewN | apply below_drew1 | refine below_set ?_ GE128.out) | exact HB.out)) hb); clear BK128; clear HB; have BK128 := n0_; have HB := n1_; clear n0_ n1_; (try clear hb); (try clear hb2); (try clear hk); (try clear hi)))
      go_meet
      case rel => exact ⟨_, (true), (by first | rfl | (simp; done) | (simp [*]; done)), H', ⟨by first | omega | exact Nat.le_refl _⟩, ⟨by (with_reducible repeat (first | refine blk_drewN ?_ _ | refine blk_drew ?_ | refine blk_alloc ?_ _)); exact BK128.out⟩, ⟨by repeat (first | (with_reducible first | exact HB.out | apply below_alloc | apply pw_below_drewN | apply below_drew1 | refine below_set ?_ GE128.out) | exact HB.out)⟩⟩
  case rest =>
    clear HC3
    try clear p2
    try clear c6
    try clear c7
    try clear c7b0
    try clear c8
    try clear hcz10_0
    try clear hcz10_1
    try clear hcz12_0
    try clear hcz12_1
    try clear hcz8_0
    try clear hcz8_1
    try clear hfz10_0
    try clear hfz10_1
    try clear hfz12_0
    try clear hfz12_1
    try clear hfz8_0
    try clear hfz8_1
    obtain ⟨kq, x20_2, rfl, HA, HJ2, BK128, HB⟩ := hcut
    cases kq with
    | zero => exact absurd HA.out (by simp [share_Of.j0])
    | succ kj2 =>
      have H := HA.out
      clear HA
      simp only [share_Of.j0] at H
      by_cases c14 : x20_2 = true
      · subst c14
        have H1 : (some (0, false)) = some (r1, r2) := by rw [if_pos rfl] at H; exact H
        clear H
        have H := H1
        clear H1
        simp only [Option.some.injEq, Prod.mk.injEq] at H
        obtain ⟨rfl, rfl⟩ := H
        go_wp2
        go_ret2
        exact ⟨by first | rfl | (simp [errW_none, errW_some] <;> rfl) | (simp [*, errW_none, errW_some] <;> rfl), by repeat (first | (with_reducible first | exact HB.out | apply below_alloc | apply pw_below_drewN | apply below_drew1 | refine below_set ?_ GE128.out) | exact HB.out)⟩
      · replace c14 := Bool.eq_false_iff.mpr c14
        subst c14
        have H1 : ((bits_Mul64.f (IntKind.u64.wrap (a0)) (IntKind.u64.wrap (a1_0))).bind fun bt130 => (if bt130.1 ≥ (IntKind.u64.wrap (a1_1)) then (some (0, false)) else ((bits_Div64.f kj2 bt130.1 bt130.2 (IntKind.u64.wrap (a1_1))).bind fun bt132 => (if bt132.1 > 1099511627776 then (some (0, false)) else (some (wrap64 (bt132.1), true)))))) = some (r1, r2) := by rw [if_neg (show ¬ (false = true) by decide)] at H; exact H
        clear H
        have H := H1
        clear H1
        replace H := Option.bind_eq_some_iff.mp H
        obtain ⟨⟨t130, t131⟩, A150, H⟩ := H
        replace H : (if t130 ≥ (IntKind.u64.wrap (a1_1)) then (some (0, false)) else ((bits_Div64.f kj2 t130 t131 (IntKind.u64.wrap (a1_1))).bind fun bt132 => (if bt132.1 > 1099511627776 then (some (0, false)) else (some (wrap64 (bt132.1), true))))) = some (r1, r2) := H
        have A15 := Aside0.mk A150
        clear A150
        by_cases c16 : t130 ≥ (IntKind.u64.wrap (a1_1))
        · rw [if_pos c16] at H
          have c16b0 : decide ((IntKind.u64.wrap (a1_1)) ≤ t130) = true := decide_eq_true c16
          clear c16
          simp only [Option.some.injEq, Prod.mk.injEq] at H
          obtain ⟨rfl, rfl⟩ := H
          have hcz17_0 : wc.cell? ⟨gb128, 0, none⟩ = some (.int .i64 a1_0) := (blk_cell BK128.out 0).trans rfl
          have hcz17_1 : wc.cell? ⟨gb128, 1, none⟩ = some (.int .i64 a1_1) := (blk_cell BK128.out 1).trans rfl
          have hfz17_0 := blk_frozen BK128.out 0
          have hfz17_1 := blk_frozen BK128.out 1
          go_wp2_with (first | ((with_reducible refine gate_callee (f := 53) rfl ?_); refine goesL_ (some 27) rfl rfl Try.func53 (by kernel_rfl) rfl #[.int .u64 (IntKind.u64.wrap (a0)), .int .u64 (IntKind.u64.wrap (a1_0))] rfl (by (try simp only [List.map_toArray, List.map_cons, List.map_nil]); first | done | rfl | (simp only [List.length_drop, List.length_take]; rfl)) ?_; (with_reducible refine (bits_Mul64.calls (IntKind.u64.wrap (a0)) (IntKind.u64.wrap (a1_0)) t130 t131 _ A15.out).mono ?_); rintro e w' ⟨rfl, ⟨nd, rfl⟩⟩; refine ⟨_, rfl, ?_⟩))
          go_ret2
          exact ⟨by first | rfl | (simp [errW_none, errW_some] <;> rfl) | (simp [*, errW_none, errW_some] <;> rfl), by repeat (first | (with_reducible first | exact HB.out | apply below_alloc | apply pw_below_drewN | apply below_drew1 | refine below_set ?_ GE128.out) | exact HB.out)⟩
        · rw [if_neg c16] at H
          have c16b0 : decide ((IntKind.u64.wrap (a1_1)) ≤ t130) = false := decide_eq_false c16
          clear c16
          replace H := Option.bind_eq_some_iff.mp H
          obtain ⟨⟨t132, t133⟩, A180, H⟩ := H
          replace H : (if t132 > 1099511627776 then (some (0, false)) else (some (wrap64 (t132), true))) = some (r1, r2) := H
          have A18 := Aside0.mk A180
          clear A180
          by_cases c19 : t132 > 1099511627776
          · rw [if_pos c19] at H
            have c19b0 : decide (1099511627776 < t132) = true := decide_eq_true c19
            clear c19
            simp only [Option.some.injEq, Prod.mk.injEq] at H
            obtain ⟨rfl, rfl⟩ := H
            have hcz20_0 : wc.cell? ⟨gb128, 0, none⟩ = some (.int .i64 a1_0) := (blk_cell BK128.out 0).trans rfl
            have hcz20_1 : wc.cell? ⟨gb128, 1, none⟩ = some (.int .i64 a1_1) := (blk_cell BK128.out 1).trans rfl
            have hfz20_0 := blk_frozen BK128.out 0
            have hfz20_1 := blk_frozen BK128.out 1
            go_wp2_with (first | ((with_reducible refine gate_callee (f := 53) rfl ?_); refine goesL_ (some 27) rfl rfl Try.func53 (by kernel_rfl) rfl #[.int .u64 (IntKind.u64.wrap (a0)), .int .u64 (IntKind.u64.wrap (a1_0))] rfl (by (try simp only [List.map_toArray, List.map_cons, List.map_nil]); first | done | rfl | (simp only [List.length_drop, List.length_take]; rfl)) ?_; (with_reducible refine (bits_Mul64.calls (IntKind.u64.wrap (a0)) (IntKind.u64.wrap (a1_0)) t130 t131 _ A15.out).mono ?_); rintro e w' ⟨rfl, ⟨nd, rfl⟩⟩; refine ⟨_, rfl, ?_⟩) | ((with_reducible refine gate_callee (f := 54) rfl ?_); refine goesL_ (some 41) rfl rfl Try.func54 (by kernel_rfl) rfl #[.int .u64 t130, .int .u64 t131, .int .u64 (IntKind.u64.wrap (a1_1))] rfl (by (try simp only [List.map_toArray, List.map_cons, List.map_nil]); first | done | rfl | (simp only [List.length_drop, List.length_take]; rfl)) ?_; (with_reducible refine (bits_Div64.calls kj2 t130 t131 (IntKind.u64.wrap (a1_1)) t132 t133 _ A18.out).mono ?_); rintro e w' ⟨rfl, ⟨nd, rfl⟩⟩; refine ⟨_, rfl, ?_⟩))
            go_ret2
            exact ⟨by first | rfl | (simp [errW_none, errW_some] <;> rfl) | (simp [*, errW_none, errW_some] <;> rfl), by repeat (first | (with_reducible first | exact HB.out | apply below_alloc | apply pw_below_drewN | apply below_drew1 | refine below_set ?_ GE128.out) | exact HB.out)⟩
          · rw [if_neg c19] at H
            have c19b0 : decide (1099511627776 < t132) = false := decide_eq_false c19
            clear c19
            simp only [Option.some.injEq, Prod.mk.injEq] at H
            obtain ⟨rfl, rfl⟩ := H
            have hcz21_0 : wc.cell? ⟨gb128, 0, none⟩ = some (.int .i64 a1_0) := (blk_cell BK128.out 0).trans rfl
            have hcz21_1 : wc.cell? ⟨gb128, 1, none⟩ = some (.int .i64 a1_1) := (blk_cell BK128.out 1).trans rfl
            have hfz21_0 := blk_frozen BK128.out 0
            have hfz21_1 := blk_frozen BK128.out 1
            go_wp2_with (first | ((with_reducible refine gate_callee (f := 53) rfl ?_); refine goesL_ (some 27) rfl rfl Try.func53 (by kernel_rfl) rfl #[.int .u64 (IntKind.u64.wrap (a0)), .int .u64 (IntKind.u64.wrap (a1_0))] rfl (by (try simp only [List.map_toArray, List.map_cons, List.map_nil]); first | done | rfl | (simp only [List.length_drop, List.length_take]; rfl)) ?_; (with_reducible refine (bits_Mul64.calls (IntKind.u64.wrap (a0)) (IntKind.u64.wrap (a1_0)) t130 t131 _ A15.out).mono ?_); rintro e w' ⟨rfl, ⟨nd, rfl⟩⟩; refine ⟨_, rfl, ?_⟩) | ((with_reducible refine gate_callee (f := 54) rfl ?_); refine goesL_ (some 41) rfl rfl Try.func54 (by kernel_rfl) rfl #[.int .u64 t130, .int .u64 t131, .int .u64 (IntKind.u64.wrap (a1_1))] rfl (by (try simp only [List.map_toArray, List.map_cons, List.map_nil]); first | done | rfl | (simp only [List.length_drop, List.length_take]; rfl)) ?_; (with_reducible refine (bits_Div64.calls kj2 t130 t131 (IntKind.u64.wrap (a1_1)) t132 t133 _ A18.out).mono ?_); rintro e w' ⟨rfl, ⟨nd, rfl⟩⟩; refine ⟨_, rfl, ?_⟩))
            go_ret2
            exact ⟨by first | rfl | (simp [errW_none, errW_some] <;> rfl) | (simp [*, errW_none, errW_some] <;> rfl), by repeat (first | (with_reducible first | exact HB.out | apply below_alloc | apply pw_below_drewN | apply below_drew1 | refine below_set ?_ GE128.out) | exact HB.out)⟩

/-! ### policy_Pays: function 39 -/
def policy_Pays.f (k : Nat) (a0_0 : ByteArray) (a0_1 : ByteArray) (a0_2 : ByteArray) (a0_3 : Int) (a0_4 : Int) (l0_5 : List Int) (a0_6 : Int) (a0_7 : Int) (a0_8 : Int) (a1 : Int) (a2 : Int) : Option (Int × Bool) := (policy_Insured.f k a0_0 a0_1 a0_2 a0_3 a0_4 l0_5 a0_6 a0_7 a0_8 a2).bind fun bt135 => (if bt135.2 = true then ((policy_within.f a1 0 1099511627776).bind fun t137 => (if t137 = true then ((share_Of.f k (mn a1 a2) bt135.1 a2).bind fun bt138 => (some (wrap64 (Int.tdiv (wrap64 ((mx (wrap64 (bt138.1 - a0_4)) 0) * a0_8)) 1000), true))) else (some (0, false)))) else (some (0, false)))
theorem policy_Pays.mono : ∀ a0 a1 a2 a3 a4 a5 a6 a7 a8 a9 a10 k, LeO (policy_Pays.f k a0 a1 a2 a3 a4 a5 a6 a7 a8 a9 a10) (policy_Pays.f (k + 1) a0 a1 a2 a3 a4 a5 a6 a7 a8 a9 a10) := by
  intro a0 a1 a2 a3 a4 a5 a6 a7 a8 a9 a10 k
  unfold policy_Pays.f
  repeat' first
      | (with_reducible exact policy_Insured.mono _ _ _ _ _ _ _ _ _ _ _)
      | (with_reducible exact share_Of.mono _ _ _ _)
      | (with_reducible exact LeO.refl _)
      | (with_reducible exact LeO.none _)
      | (with_reducible refine LeO.ite ?_ ?_)
      | (with_reducible refine LeO.bind ?_ (fun _ => ?_))
      | exact policy_Insured.mono _ _ _ _ _ _ _ _ _ _ _
      | exact share_Of.mono _ _ _ _
      | exact LeO.none _
      | refine LeO.ite ?_ ?_
      | refine LeO.bind ?_ (fun _ => ?_)
set_option maxHeartbeats 8000000 in
set_option maxRecDepth 100000 in
theorem policy_Pays.calls (k : Nat) (a0_0 : ByteArray) (a0_1 : ByteArray) (a0_2 : ByteArray) (a0_3 : Int) (a0_4 : Int) (A0_5 : Option Addr) (c0_5 : Nat) (l0_5 : List Int) (a0_6 : Int) (a0_7 : Int) (a0_8 : Int) (a1 : Int) (a2 : Int) (r1 : Int) (r2 : Bool) (w : World) (hr0_5 : Kd.C (Kd.int .i64) w A0_5 l0_5.length l0_5) (hc0_5 : l0_5.length ≤ c0_5) (h : policy_Pays.f k a0_0 a0_1 a0_2 a0_3 a0_4 l0_5 a0_6 a0_7 a0_8 a1 a2 = some (r1, r2)) :
    Calls Try.prog 39 #[.agg #[.string a0_0, .string a0_1, .string a0_2, .int .i64 a0_3, .int .i64 a0_4, .slice A0_5 l0_5.length c0_5, .int .i64 a0_6, .int .i64 a0_7, .int .i64 a0_8], .int .i64 a1, .int .i64 a2] w fun e w' => e = .returned (.tuple #[.int .i64 r1, .bool r2]) ∧ Below w.heap.size w w' := by
  have hu32 := Try.underlying32
  have hu114 := Try.underlying114
  have HR0_5 := Aside0.mk hr0_5
  have HC0_5 := Aside0.mk hc0_5
  clear hr0_5 hc0_5
  have HB := Aside0.mk (Below.refl w.heap.size w)
  have H : ((policy_Insured.f k a0_0 a0_1 a0_2 a0_3 a0_4 l0_5 a0_6 a0_7 a0_8 a2).bind fun bt135 => (if bt135.2 = true then ((policy_within.f a1 0 1099511627776).bind fun t137 => (if t137 = true then ((share_Of.f k (mn a1 a2) bt135.1 a2).bind fun bt138 => (some (wrap64 (Int.tdiv (wrap64 ((mx (wrap64 (bt138.1 - a0_4)) 0) * a0_8)) 1000), true))) else (some (0, false)))) else (some (0, false)))) = some (r1, r2) := h
  clear h
  replace H := Option.bind_eq_some_iff.mp H
  obtain ⟨⟨t135, t136⟩, A40, H⟩ := H
  replace H : (if t136 = true then ((policy_within.f a1 0 1099511627776).bind fun t137 => (if t137 = true then ((share_Of.f k (mn a1 a2) t135 a2).bind fun bt138 => (some (wrap64 (Int.tdiv (wrap64 ((mx (wrap64 (bt138.1 - a0_4)) 0) * a0_8)) 1000), true))) else (some (0, false)))) else (some (0, false))) = some (r1, r2) := H
  have A4 := Aside0.mk A40
  clear A40
  by_cases c5 : t136 = true
  · subst c5
    have H1 : ((policy_within.f a1 0 1099511627776).bind fun t137 => (if t137 = true then ((share_Of.f k (mn a1 a2) t135 a2).bind fun bt138 => (some (wrap64 (Int.tdiv (wrap64 ((mx (wrap64 (bt138.1 - a0_4)) 0) * a0_8)) 1000), true))) else (some (0, false)))) = some (r1, r2) := by rw [if_pos rfl] at H; exact H
    clear H
    have H := H1
    clear H1
    replace H := Option.bind_eq_some_iff.mp H
    obtain ⟨t137, A60, H⟩ := H
    replace H : (if t137 = true then ((share_Of.f k (mn a1 a2) t135 a2).bind fun bt138 => (some (wrap64 (Int.tdiv (wrap64 ((mx (wrap64 (bt138.1 - a0_4)) 0) * a0_8)) 1000), true))) else (some (0, false))) = some (r1, r2) := H
    have A6 := Aside0.mk A60
    clear A60
    by_cases c7 : t137 = true
    · subst c7
      have H1 : ((share_Of.f k (mn a1 a2) t135 a2).bind fun bt138 => (some (wrap64 (Int.tdiv (wrap64 ((mx (wrap64 (bt138.1 - a0_4)) 0) * a0_8)) 1000), true))) = some (r1, r2) := by rw [if_pos rfl] at H; exact H
      clear H
      have H := H1
      clear H1
      obtain ⟨ji8, hji8⟩ : ∃ j_ : Int, (mn a1 a2) = j_ := ⟨_, rfl⟩
      replace H : ((share_Of.f k (ji8) t135 a2).bind fun bt138 => (some (wrap64 (Int.tdiv (wrap64 ((mx (wrap64 (bt138.1 - a0_4)) 0) * a0_8)) 1000), true))) = some (r1, r2) := by first | (rw [hji8] at H; exact H) | (simp only [hji8] at H ⊢; exact H)
      (try rw [hji8] at A4)
      (try rw [hji8] at A6)
      have hji8_ : (if a2 < a1 then a2 else a1) = ji8 := hji8
      replace H := Option.bind_eq_some_iff.mp H
      obtain ⟨⟨t138, t139⟩, A90, H⟩ := H
      replace H : (some (wrap64 (Int.tdiv (wrap64 ((mx (wrap64 (t138 - a0_4)) 0) * a0_8)) 1000), true)) = some (r1, r2) := H
      have A9 := Aside0.mk A90
      clear A90
      obtain ⟨ji10, hji10⟩ : ∃ j_ : Int, (mx (wrap64 (t138 - a0_4)) 0) = j_ := ⟨_, rfl⟩
      replace H : (some (wrap64 (Int.tdiv (wrap64 ((ji10) * a0_8)) 1000), true)) = some (r1, r2) := by first | (rw [hji10] at H; exact H) | (simp only [hji10] at H ⊢; exact H)
      (try rw [hji10] at A4)
      (try rw [hji10] at A6)
      (try rw [hji10] at A9)
      (try (have hji10l : 0 ≤ ji10 := by (rw [← hji10]; unfold mx; (repeat' split) <;> omega)))
      (try (have hji10m : 0 ≤ ji10 := by omega))
      have hji10_ : (if (wrap64 (t138 - a0_4)) < 0 then 0 else (wrap64 (t138 - a0_4))) = ji10 := hji10
      simp only [Option.some.injEq, Prod.mk.injEq] at H
      obtain ⟨rfl, rfl⟩ := H
      go_enter Try.func39, Try.ntmps39
      go_wp2_with (first | ((with_reducible refine gate_dst (N := 3) rfl ?_); refine box_event ?hg (N := 3) ?hd (cs := #[.string a0_0, .string a0_1, .string a0_2, .int .i64 a0_3, .int .i64 a0_4, .slice A0_5 l0_5.length c0_5, .int .i64 a0_6, .int .i64 a0_7, .int .i64 a0_8]) (t := 32) ?hr ?_; (case hd => rfl); (case hg => rfl); (case hr => first | (go_simp; done) | (go_simp; rfl)); intro gb134 hg w11 hbox hb; have n0_ := Aside0.mk (below_step (by repeat (first | (with_reducible first | exact HB.out | apply below_alloc | apply pw_below_drewN | apply below_drew1) | exact HB.out)) hb); have n1_ := Aside0.mk (hbox); have n2_ := Aside0.mk ((by rw [hg]; exact (below_size (by repeat (first | (with_reducible first | exact HB.out | apply below_alloc | apply pw_below_drewN | apply below_drew1) | exact HB.out))) : w.heap.size ≤ gb134)); have n3_ := Aside0.mk ((by rw [hg]; exact (below_size (by repeat (first | (with_reducible first | exact HB.out | apply below_alloc | apply pw_below_drewN | apply below_drew1) | exact HB.out))) : w.heap.size ≤ gb134)); clear HB; have HB := n0_; have BK134 := n1_; have GW134 := n2_; have GE134 := n3_; clear n0_ n1_ n2_ n3_; clear hb hbox hg; have hcz12_0 : w11.cell? ⟨gb134, 0, none⟩ = some (.string a0_0) := (blk_cell BK134.out 0).trans rfl; have hcz12_1 : w11.cell? ⟨gb134, 1, none⟩ = some (.string a0_1) := (blk_cell BK134.out 1).trans rfl; have hcz12_2 : w11.cell? ⟨gb134, 2, none⟩ = some (.string a0_2) := (blk_cell BK134.out 2).trans rfl; have hcz12_3 : w11.cell? ⟨gb134, 3, none⟩ = some (.int .i64 a0_3) := (blk_cell BK134.out 3).trans rfl; have hcz12_4 : w11.cell? ⟨gb134, 4, none⟩ = some (.int .i64 a0_4) := (blk_cell BK134.out 4).trans rfl; have hcz12_5 : w11.cell? ⟨gb134, 5, none⟩ = some (.slice A0_5 l0_5.length c0_5) := (blk_cell BK134.out 5).trans rfl; have hcz12_6 : w11.cell? ⟨gb134, 6, none⟩ = some (.int .i64 a0_6) := (blk_cell BK134.out 6).trans rfl; have hcz12_7 : w11.cell? ⟨gb134, 7, none⟩ = some (.int .i64 a0_7) := (blk_cell BK134.out 7).trans rfl; have hcz12_8 : w11.cell? ⟨gb134, 8, none⟩ = some (.int .i64 a0_8) := (blk_cell BK134.out 8).trans rfl; have hfz12_0 := blk_frozen BK134.out 0; have hfz12_1 := blk_frozen BK134.out 1; have hfz12_2 := blk_frozen BK134.out 2; have hfz12_3 := blk_frozen BK134.out 3; have hfz12_4 := blk_frozen BK134.out 4; have hfz12_5 := blk_frozen BK134.out 5; have hfz12_6 := blk_frozen BK134.out 6; have hfz12_7 := blk_frozen BK134.out 7; have hfz12_8 := blk_frozen BK134.out 8) | ((with_reducible refine gate_callee (f := 61) rfl ?_); refine goesL_ (some 15) rfl rfl Try.func61 (by kernel_rfl) rfl #[.agg #[.string a0_0, .string a0_1, .string a0_2, .int .i64 a0_3, .int .i64 a0_4, .slice A0_5 l0_5.length c0_5, .int .i64 a0_6, .int .i64 a0_7, .int .i64 a0_8], .int .i64 a2] rfl (by (try simp only [List.map_toArray, List.map_cons, List.map_nil]); first | done | rfl | (simp only [List.length_drop, List.length_take]; rfl)) ?_; (with_reducible refine (policy_Insured.calls k a0_0 a0_1 a0_2 a0_3 a0_4 _ _ l0_5 a0_6 a0_7 a0_8 a2 t135 true _ ?side1 ?side2 A4.out).mono ?_); (case side1 => repeat (first | exact (Kd.C_below HR0_5.out HB.out) | (with_reducible refine Kd.C_alloc ?_ _) | (with_reducible refine Kd.C_drewN ?_ _) | (with_reducible refine Kd.C_drew ?_))); (case side2 => exact HC0_5.out); rintro e w13 ⟨rfl, hb⟩; refine ⟨_, rfl, ?_⟩; have n0_ := Aside0.mk (blk_below (g := gb134) (o := .cells #[.string a0_0, .string a0_1, .string a0_2, .int .i64 a0_3, .int .i64 a0_4, .slice A0_5 l0_5.length c0_5, .int .i64 a0_6, .int .i64 a0_7, .int .i64 a0_8] 32 (0, 0)) (by (with_reducible repeat (first | refine blk_drewN ?_ _ | refine blk_drew ?_ | refine blk_alloc ?_ _)); exact BK134.out) hb); have n1_ := Aside0.mk (below_step (by repeat (first | (with_reducible first | exact HB.out | apply below_alloc | apply pw_below_drewN | apply below_drew1 | refine below_set ?_ GE134.out) | exact HB.out)) hb); clear BK134; clear HB; have BK134 := n0_; have HB := n1_; clear n0_ n1_; (try clear hb); (try clear hb2); (try clear hk); (try clear hi)) | (go_at_call 49; (with_reducible refine (policy_within.calls a1 0 1099511627776 true _ A6.out).mono ?_); rintro e w' ⟨rfl, ⟨nd, rfl⟩⟩) | ((with_reducible refine gate_callee (f := 62) rfl ?_); refine goesL_ (some 32) rfl rfl Try.func62 (by kernel_rfl) rfl #[.int .i64 ji8, .agg #[.int .i64 t135, .int .i64 a2]] rfl (by (try simp only [List.map_toArray, List.map_cons, List.map_nil]); first | done | (simp only [hji8]; rfl) | rfl | (simp only [List.length_drop, List.length_take]; rfl)) ?_; (with_reducible refine (share_Of.calls k ji8 t135 a2 t138 t139 _ A9.out).mono ?_); rintro e w14 ⟨rfl, hb⟩; refine ⟨_, rfl, ?_⟩; have n0_ := Aside0.mk (blk_below (g := gb134) (o := .cells #[.string a0_0, .string a0_1, .string a0_2, .int .i64 a0_3, .int .i64 a0_4, .slice A0_5 l0_5.length c0_5, .int .i64 a0_6, .int .i64 a0_7, .int .i64 a0_8] 32 (0, 0)) (by (with_reducible repeat (first | refine blk_drewN ?_ _ | refine blk_drew ?_ | refine blk_alloc ?_ _)); exact BK134.out) hb); have n1_ := Aside0.mk (below_step (by repeat (first | (with_reducible first | exact HB.out | apply below_alloc | apply pw_below_drewN | apply below_drew1 | refine below_set ?_ GE134.out) | exact HB.out)) hb); clear BK134; clear HB; have BK134 := n0_; have HB := n1_; clear n0_ n1_; (try clear hb); (try clear hb2); (try clear hk); (try clear hi); have hcz15_0 : w14.cell? ⟨gb134, 0, none⟩ = some (.string a0_0) := (blk_cell BK134.out 0).trans rfl; have hcz15_1 : w14.cell? ⟨gb134, 1, none⟩ = some (.string a0_1) := (blk_cell BK134.out 1).trans rfl; have hcz15_2 : w14.cell? ⟨gb134, 2, none⟩ = some (.string a0_2) := (blk_cell BK134.out 2).trans rfl; have hcz15_3 : w14.cell? ⟨gb134, 3, none⟩ = some (.int .i64 a0_3) := (blk_cell BK134.out 3).trans rfl; have hcz15_4 : w14.cell? ⟨gb134, 4, none⟩ = some (.int .i64 a0_4) := (blk_cell BK134.out 4).trans rfl; have hcz15_5 : w14.cell? ⟨gb134, 5, none⟩ = some (.slice A0_5 l0_5.length c0_5) := (blk_cell BK134.out 5).trans rfl; have hcz15_6 : w14.cell? ⟨gb134, 6, none⟩ = some (.int .i64 a0_6) := (blk_cell BK134.out 6).trans rfl; have hcz15_7 : w14.cell? ⟨gb134, 7, none⟩ = some (.int .i64 a0_7) := (blk_cell BK134.out 7).trans rfl; have hcz15_8 : w14.cell? ⟨gb134, 8, none⟩ = some (.int .i64 a0_8) := (blk_cell BK134.out 8).trans rfl; have hfz15_0 := blk_frozen BK134.out 0; have hfz15_1 := blk_frozen BK134.out 1; have hfz15_2 := blk_frozen BK134.out 2; have hfz15_3 := blk_frozen BK134.out 3; have hfz15_4 := blk_frozen BK134.out 4; have hfz15_5 := blk_frozen BK134.out 5; have hfz15_6 := blk_frozen BK134.out 6; have hfz15_7 := blk_frozen BK134.out 7; have hfz15_8 := blk_frozen BK134.out 8))
      go_ret2
      exact ⟨by first | rfl | (simp [errW_none, errW_some] <;> rfl) | (simp only [← hji8, ← hji10]; first | rfl | (simp [errW_none, errW_some] <;> rfl)) | (simp [*, errW_none, errW_some] <;> rfl), by repeat (first | (with_reducible first | exact HB.out | apply below_alloc | apply pw_below_drewN | apply below_drew1 | refine below_set ?_ GE134.out) | exact HB.out)⟩
    · replace c7 := Bool.eq_false_iff.mpr c7
      subst c7
      have H1 : (some (0, false)) = some (r1, r2) := by rw [if_neg (show ¬ (false = true) by decide)] at H; exact H
      clear H
      have H := H1
      clear H1
      simp only [Option.some.injEq, Prod.mk.injEq] at H
      obtain ⟨rfl, rfl⟩ := H
      go_enter Try.func39, Try.ntmps39
      go_wp2_with (first | ((with_reducible refine gate_dst (N := 3) rfl ?_); refine box_event ?hg (N := 3) ?hd (cs := #[.string a0_0, .string a0_1, .string a0_2, .int .i64 a0_3, .int .i64 a0_4, .slice A0_5 l0_5.length c0_5, .int .i64 a0_6, .int .i64 a0_7, .int .i64 a0_8]) (t := 32) ?hr ?_; (case hd => rfl); (case hg => rfl); (case hr => first | (go_simp; done) | (go_simp; rfl)); intro gb134 hg w16 hbox hb; have n0_ := Aside0.mk (below_step (by repeat (first | (with_reducible first | exact HB.out | apply below_alloc | apply pw_below_drewN | apply below_drew1) | exact HB.out)) hb); have n1_ := Aside0.mk (hbox); have n2_ := Aside0.mk ((by rw [hg]; exact (below_size (by repeat (first | (with_reducible first | exact HB.out | apply below_alloc | apply pw_below_drewN | apply below_drew1) | exact HB.out))) : w.heap.size ≤ gb134)); have n3_ := Aside0.mk ((by rw [hg]; exact (below_size (by repeat (first | (with_reducible first | exact HB.out | apply below_alloc | apply pw_below_drewN | apply below_drew1) | exact HB.out))) : w.heap.size ≤ gb134)); clear HB; have HB := n0_; have BK134 := n1_; have GW134 := n2_; have GE134 := n3_; clear n0_ n1_ n2_ n3_; clear hb hbox hg; have hcz17_0 : w16.cell? ⟨gb134, 0, none⟩ = some (.string a0_0) := (blk_cell BK134.out 0).trans rfl; have hcz17_1 : w16.cell? ⟨gb134, 1, none⟩ = some (.string a0_1) := (blk_cell BK134.out 1).trans rfl; have hcz17_2 : w16.cell? ⟨gb134, 2, none⟩ = some (.string a0_2) := (blk_cell BK134.out 2).trans rfl; have hcz17_3 : w16.cell? ⟨gb134, 3, none⟩ = some (.int .i64 a0_3) := (blk_cell BK134.out 3).trans rfl; have hcz17_4 : w16.cell? ⟨gb134, 4, none⟩ = some (.int .i64 a0_4) := (blk_cell BK134.out 4).trans rfl; have hcz17_5 : w16.cell? ⟨gb134, 5, none⟩ = some (.slice A0_5 l0_5.length c0_5) := (blk_cell BK134.out 5).trans rfl; have hcz17_6 : w16.cell? ⟨gb134, 6, none⟩ = some (.int .i64 a0_6) := (blk_cell BK134.out 6).trans rfl; have hcz17_7 : w16.cell? ⟨gb134, 7, none⟩ = some (.int .i64 a0_7) := (blk_cell BK134.out 7).trans rfl; have hcz17_8 : w16.cell? ⟨gb134, 8, none⟩ = some (.int .i64 a0_8) := (blk_cell BK134.out 8).trans rfl; have hfz17_0 := blk_frozen BK134.out 0; have hfz17_1 := blk_frozen BK134.out 1; have hfz17_2 := blk_frozen BK134.out 2; have hfz17_3 := blk_frozen BK134.out 3; have hfz17_4 := blk_frozen BK134.out 4; have hfz17_5 := blk_frozen BK134.out 5; have hfz17_6 := blk_frozen BK134.out 6; have hfz17_7 := blk_frozen BK134.out 7; have hfz17_8 := blk_frozen BK134.out 8) | ((with_reducible refine gate_callee (f := 61) rfl ?_); refine goesL_ (some 15) rfl rfl Try.func61 (by kernel_rfl) rfl #[.agg #[.string a0_0, .string a0_1, .string a0_2, .int .i64 a0_3, .int .i64 a0_4, .slice A0_5 l0_5.length c0_5, .int .i64 a0_6, .int .i64 a0_7, .int .i64 a0_8], .int .i64 a2] rfl (by (try simp only [List.map_toArray, List.map_cons, List.map_nil]); first | done | rfl | (simp only [List.length_drop, List.length_take]; rfl)) ?_; (with_reducible refine (policy_Insured.calls k a0_0 a0_1 a0_2 a0_3 a0_4 _ _ l0_5 a0_6 a0_7 a0_8 a2 t135 true _ ?side1 ?side2 A4.out).mono ?_); (case side1 => repeat (first | exact (Kd.C_below HR0_5.out HB.out) | (with_reducible refine Kd.C_alloc ?_ _) | (with_reducible refine Kd.C_drewN ?_ _) | (with_reducible refine Kd.C_drew ?_))); (case side2 => exact HC0_5.out); rintro e w18 ⟨rfl, hb⟩; refine ⟨_, rfl, ?_⟩; have n0_ := Aside0.mk (blk_below (g := gb134) (o := .cells #[.string a0_0, .string a0_1, .string a0_2, .int .i64 a0_3, .int .i64 a0_4, .slice A0_5 l0_5.length c0_5, .int .i64 a0_6, .int .i64 a0_7, .int .i64 a0_8] 32 (0, 0)) (by (with_reducible repeat (first | refine blk_drewN ?_ _ | refine blk_drew ?_ | refine blk_alloc ?_ _)); exact BK134.out) hb); have n1_ := Aside0.mk (below_step (by repeat (first | (with_reducible first | exact HB.out | apply below_alloc | apply pw_below_drewN | apply below_drew1 | refine below_set ?_ GE134.out) | exact HB.out)) hb); clear BK134; clear HB; have BK134 := n0_; have HB := n1_; clear n0_ n1_; (try clear hb); (try clear hb2); (try clear hk); (try clear hi)) | (go_at_call 49; (with_reducible refine (policy_within.calls a1 0 1099511627776 false _ A6.out).mono ?_); rintro e w' ⟨rfl, ⟨nd, rfl⟩⟩))
      go_ret2
      exact ⟨by first | rfl | (simp [errW_none, errW_some] <;> rfl) | (simp [*, errW_none, errW_some] <;> rfl), by repeat (first | (with_reducible first | exact HB.out | apply below_alloc | apply pw_below_drewN | apply below_drew1 | refine below_set ?_ GE134.out) | exact HB.out)⟩
  · replace c5 := Bool.eq_false_iff.mpr c5
    subst c5
    have H1 : (some (0, false)) = some (r1, r2) := by rw [if_neg (show ¬ (false = true) by decide)] at H; exact H
    clear H
    have H := H1
    clear H1
    simp only [Option.some.injEq, Prod.mk.injEq] at H
    obtain ⟨rfl, rfl⟩ := H
    go_enter Try.func39, Try.ntmps39
    go_wp2_with (first | ((with_reducible refine gate_dst (N := 3) rfl ?_); refine box_event ?hg (N := 3) ?hd (cs := #[.string a0_0, .string a0_1, .string a0_2, .int .i64 a0_3, .int .i64 a0_4, .slice A0_5 l0_5.length c0_5, .int .i64 a0_6, .int .i64 a0_7, .int .i64 a0_8]) (t := 32) ?hr ?_; (case hd => rfl); (case hg => rfl); (case hr => first | (go_simp; done) | (go_simp; rfl)); intro gb134 hg w19 hbox hb; have n0_ := Aside0.mk (below_step (by repeat (first | (with_reducible first | exact HB.out | apply below_alloc | apply pw_below_drewN | apply below_drew1) | exact HB.out)) hb); have n1_ := Aside0.mk (hbox); have n2_ := Aside0.mk ((by rw [hg]; exact (below_size (by repeat (first | (with_reducible first | exact HB.out | apply below_alloc | apply pw_below_drewN | apply below_drew1) | exact HB.out))) : w.heap.size ≤ gb134)); have n3_ := Aside0.mk ((by rw [hg]; exact (below_size (by repeat (first | (with_reducible first | exact HB.out | apply below_alloc | apply pw_below_drewN | apply below_drew1) | exact HB.out))) : w.heap.size ≤ gb134)); clear HB; have HB := n0_; have BK134 := n1_; have GW134 := n2_; have GE134 := n3_; clear n0_ n1_ n2_ n3_; clear hb hbox hg; have hcz20_0 : w19.cell? ⟨gb134, 0, none⟩ = some (.string a0_0) := (blk_cell BK134.out 0).trans rfl; have hcz20_1 : w19.cell? ⟨gb134, 1, none⟩ = some (.string a0_1) := (blk_cell BK134.out 1).trans rfl; have hcz20_2 : w19.cell? ⟨gb134, 2, none⟩ = some (.string a0_2) := (blk_cell BK134.out 2).trans rfl; have hcz20_3 : w19.cell? ⟨gb134, 3, none⟩ = some (.int .i64 a0_3) := (blk_cell BK134.out 3).trans rfl; have hcz20_4 : w19.cell? ⟨gb134, 4, none⟩ = some (.int .i64 a0_4) := (blk_cell BK134.out 4).trans rfl; have hcz20_5 : w19.cell? ⟨gb134, 5, none⟩ = some (.slice A0_5 l0_5.length c0_5) := (blk_cell BK134.out 5).trans rfl; have hcz20_6 : w19.cell? ⟨gb134, 6, none⟩ = some (.int .i64 a0_6) := (blk_cell BK134.out 6).trans rfl; have hcz20_7 : w19.cell? ⟨gb134, 7, none⟩ = some (.int .i64 a0_7) := (blk_cell BK134.out 7).trans rfl; have hcz20_8 : w19.cell? ⟨gb134, 8, none⟩ = some (.int .i64 a0_8) := (blk_cell BK134.out 8).trans rfl; have hfz20_0 := blk_frozen BK134.out 0; have hfz20_1 := blk_frozen BK134.out 1; have hfz20_2 := blk_frozen BK134.out 2; have hfz20_3 := blk_frozen BK134.out 3; have hfz20_4 := blk_frozen BK134.out 4; have hfz20_5 := blk_frozen BK134.out 5; have hfz20_6 := blk_frozen BK134.out 6; have hfz20_7 := blk_frozen BK134.out 7; have hfz20_8 := blk_frozen BK134.out 8) | ((with_reducible refine gate_callee (f := 61) rfl ?_); refine goesL_ (some 15) rfl rfl Try.func61 (by kernel_rfl) rfl #[.agg #[.string a0_0, .string a0_1, .string a0_2, .int .i64 a0_3, .int .i64 a0_4, .slice A0_5 l0_5.length c0_5, .int .i64 a0_6, .int .i64 a0_7, .int .i64 a0_8], .int .i64 a2] rfl (by (try simp only [List.map_toArray, List.map_cons, List.map_nil]); first | done | rfl | (simp only [List.length_drop, List.length_take]; rfl)) ?_; (with_reducible refine (policy_Insured.calls k a0_0 a0_1 a0_2 a0_3 a0_4 _ _ l0_5 a0_6 a0_7 a0_8 a2 t135 false _ ?side1 ?side2 A4.out).mono ?_); (case side1 => repeat (first | exact (Kd.C_below HR0_5.out HB.out) | (with_reducible refine Kd.C_alloc ?_ _) | (with_reducible refine Kd.C_drewN ?_ _) | (with_reducible refine Kd.C_drew ?_))); (case side2 => exact HC0_5.out); rintro e w21 ⟨rfl, hb⟩; refine ⟨_, rfl, ?_⟩; have n0_ := Aside0.mk (blk_below (g := gb134) (o := .cells #[.string a0_0, .string a0_1, .string a0_2, .int .i64 a0_3, .int .i64 a0_4, .slice A0_5 l0_5.length c0_5, .int .i64 a0_6, .int .i64 a0_7, .int .i64 a0_8] 32 (0, 0)) (by (with_reducible repeat (first | refine blk_drewN ?_ _ | refine blk_drew ?_ | refine blk_alloc ?_ _)); exact BK134.out) hb); have n1_ := Aside0.mk (below_step (by repeat (first | (with_reducible first | exact HB.out | apply below_alloc | apply pw_below_drewN | apply below_drew1 | refine below_set ?_ GE134.out) | exact HB.out)) hb); clear BK134; clear HB; have BK134 := n0_; have HB := n1_; clear n0_ n1_; (try clear hb); (try clear hb2); (try clear hk); (try clear hi)))
    go_ret2
    exact ⟨by first | rfl | (simp [errW_none, errW_some] <;> rfl) | (simp [*, errW_none, errW_some] <;> rfl), by repeat (first | (with_reducible first | exact HB.out | apply below_alloc | apply pw_below_drewN | apply below_drew1 | refine below_set ?_ GE134.out) | exact HB.out)⟩

end Go.Proofs.Ythpedogppiemkaa.Print
