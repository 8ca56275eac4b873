/- Contracts of the program's functions over this seat's translation, written out by this session's own driver. Conditions: those in each statement. -/
import Derived.Test.YthbbfbhgcoffeaaPrint0
import Derived.Test.YthbbfbhgcoffeaaPrint6
import Derived.Test.YthbbfbhgcoffeaaPrint13
namespace Go.Proofs.Ythbbfbhgcoffeaa.Print
open Go.RowKit Go.Proofs.YthbbfbhgcoffeaaW.PrintWords Go.Proofs.YthbbfbhgcoffeaaW.PrintLast Go.Proofs.YthbbfbhgcoffeaaW.PrintMore
attribute [local go_sem] max2_int min2_int max_two min_two max_three min_three max_four min_four   -- for this text's walks alone
set_option linter.unusedVariables false
set_option linter.unusedSimpArgs false

/-! ### supercargolaw04_ShareOf: function 7 -/
mutual
def supercargolaw04_ShareOf.j0 : Nat → Int → Int → Bool → Bool → Int → Int → Option (Bool)
  | 0, _, _, _, _, _, _ => none
  | k + 1, x0, x5, x6, x30, x262000, x262001 => if x30 = true then (if x5 = 0 then (some (!x6)) else (some false)) else (if x262001 = 0 then (none) else (if x0 > 0 then (if x0 = 0 then (none) else (supercargolaw04_ShareOf.j1 k x0 x5 x6 (wrap64 (Int.tdiv x262000 x262001)) (Int.tmod x262000 x262001) (decide ((wrap64 (Int.tdiv x262000 x262001)) > (wrap64 ((1099511627776 : Int) / x0)))) x262000 x262001)) else (supercargolaw04_ShareOf.j1 k x0 x5 x6 (wrap64 (Int.tdiv x262000 x262001)) (Int.tmod x262000 x262001) false x262000 x262001)))
def supercargolaw04_ShareOf.j1 : Nat → Int → Int → Bool → Int → Int → Bool → Int → Int → Option (Bool)
  | 0, _, _, _, _, _, _, _, _ => none
  | k + 1, x0, x5, x6, x7, x8, x54, x262000, x262001 => if x54 = true then (if x5 = 0 then (some (!x6)) else (some false)) else (if x262001 > 4611686018427387904 then (if x6 = true then (if x5 ≥ (wrap64 (x0 * x7)) then (some (decide (x5 ≤ (wrap64 (x0 * (wrap64 (x7 + 1))))))) else (some false)) else (if x5 = 0 then (if (wrap64 (x0 * (wrap64 (x7 + 1)))) > 1099511627776 then (some true) else (some false)) else (some false))) else ((supercargoref04_Times.f k x0 x8 x262001).bind fun bt266 => (if (wrap64 ((wrap64 (x0 * x7)) + bt266.1)) > 1099511627776 then (if x5 = 0 then (some (!x6)) else (some false)) else (if x5 = (wrap64 ((wrap64 (x0 * x7)) + bt266.1)) then (some x6) else (some false)))))
end
def supercargolaw04_ShareOf.f (k : Nat) (a0 : Int) (a1_0 : Int) (a1_1 : Int) : Option (Bool) := (supercargolaw04_awake.f k).bind fun t262 => (if t262 = true then ((share_Of.f k a0 a1_0 a1_1).bind fun bt263 => ((supercargoref04_May.f a1_0 a1_1).bind fun t265 => (if t265 = true then (if a0 < 0 then (supercargolaw04_ShareOf.j0 k a0 bt263.1 bt263.2 true a1_0 a1_1) else (supercargolaw04_ShareOf.j0 k a0 bt263.1 bt263.2 (decide (a0 > 1099511627776)) a1_0 a1_1)) else (supercargolaw04_ShareOf.j0 k a0 bt263.1 bt263.2 true a1_0 a1_1)))) else (some false))
theorem supercargolaw04_ShareOf.mono_l : ∀ k, (∀ y0 y1 y2 y3 y4 y5, LeO (supercargolaw04_ShareOf.j0 k y0 y1 y2 y3 y4 y5) (supercargolaw04_ShareOf.j0 (k + 1) y0 y1 y2 y3 y4 y5)) ∧ (∀ y0 y1 y2 y3 y4 y5 y6 y7, LeO (supercargolaw04_ShareOf.j1 k y0 y1 y2 y3 y4 y5 y6 y7) (supercargolaw04_ShareOf.j1 (k + 1) y0 y1 y2 y3 y4 y5 y6 y7))
  | 0 => ⟨fun _ _ _ _ _ _ r h => by simp [supercargolaw04_ShareOf.j0] at h, fun _ _ _ _ _ _ _ _ r h => by simp [supercargolaw04_ShareOf.j1] at h⟩
  | k + 1 => by
    obtain ⟨ih0, ih1⟩ := supercargolaw04_ShareOf.mono_l k
    refine ⟨?_, ?_⟩
    · intro y0 y1 y2 y3 y4 y5
      unfold supercargolaw04_ShareOf.j0
      repeat' first
      | (with_reducible exact ih0 _ _ _ _ _ _)
      | (with_reducible exact ih1 _ _ _ _ _ _ _ _)
      | (with_reducible exact share_Of.mono _ _ _ _)
      | (with_reducible exact supercargolaw04_awake.mono _)
      | (with_reducible exact supercargoref04_Times.mono _ _ _ _)
      | (with_reducible exact LeO.refl _)
      | (with_reducible exact LeO.none _)
      | (with_reducible refine LeO.ite ?_ ?_)
      | (with_reducible refine LeO.bind ?_ (fun _ => ?_))
      | exact ih0 _ _ _ _ _ _
      | exact ih1 _ _ _ _ _ _ _ _
      | exact share_Of.mono _ _ _ _
      | exact supercargolaw04_awake.mono _
      | exact supercargoref04_Times.mono _ _ _ _
      | exact LeO.none _
      | refine LeO.ite ?_ ?_
      | refine LeO.bind ?_ (fun _ => ?_)
    · intro y0 y1 y2 y3 y4 y5 y6 y7
      unfold supercargolaw04_ShareOf.j1
      repeat' first
      | (with_reducible exact ih0 _ _ _ _ _ _)
      | (with_reducible exact ih1 _ _ _ _ _ _ _ _)
      | (with_reducible exact share_Of.mono _ _ _ _)
      | (with_reducible exact supercargolaw04_awake.mono _)
      | (with_reducible exact supercargoref04_Times.mono _ _ _ _)
      | (with_reducible exact LeO.refl _)
      | (with_reducible exact LeO.none _)
      | (with_reducible refine LeO.ite ?_ ?_)
      | (with_reducible refine LeO.bind ?_ (fun _ => ?_))
      | exact ih0 _ _ _ _ _ _
      | exact ih1 _ _ _ _ _ _ _ _
      | exact share_Of.mono _ _ _ _
      | exact supercargolaw04_awake.mono _
      | exact supercargoref04_Times.mono _ _ _ _
      | exact LeO.none _
      | refine LeO.ite ?_ ?_
      | refine LeO.bind ?_ (fun _ => ?_)
theorem supercargolaw04_ShareOf.mono : ∀ a0 a1 a2 k, LeO (supercargolaw04_ShareOf.f k a0 a1 a2) (supercargolaw04_ShareOf.f (k + 1) a0 a1 a2) := by
  intro a0 a1 a2 k
  obtain ⟨ih0, ih1⟩ := supercargolaw04_ShareOf.mono_l k
  unfold supercargolaw04_ShareOf.f
  repeat' first
      | (with_reducible exact ih0 _ _ _ _ _ _)
      | (with_reducible exact ih1 _ _ _ _ _ _ _ _)
      | (with_reducible exact share_Of.mono _ _ _ _)
      | (with_reducible exact supercargolaw04_awake.mono _)
      | (with_reducible exact supercargoref04_Times.mono _ _ _ _)
      | (with_reducible exact LeO.refl _)
      | (with_reducible exact LeO.none _)
      | (with_reducible refine LeO.ite ?_ ?_)
      | (with_reducible refine LeO.bind ?_ (fun _ => ?_))
      | exact ih0 _ _ _ _ _ _
      | exact ih1 _ _ _ _ _ _ _ _
      | exact share_Of.mono _ _ _ _
      | exact supercargolaw04_awake.mono _
      | exact supercargoref04_Times.mono _ _ _ _
      | exact LeO.none _
      | refine LeO.ite ?_ ?_
      | refine LeO.bind ?_ (fun _ => ?_)
set_option maxHeartbeats 8000000 in
set_option maxRecDepth 100000 in
theorem supercargolaw04_ShareOf.calls (k : Nat) (a0 : Int) (a1_0 : Int) (a1_1 : Int) (r : Bool) (w : World) (h : supercargolaw04_ShareOf.f k a0 a1_0 a1_1 = some r) :
    Calls Try.prog 7 #[.int .i64 a0, .agg #[.int .i64 a1_0, .int .i64 a1_1]] w fun e w' => e = .returned (.bool r) ∧ Below w.heap.size w w' := by
  have hu36 := Try.underlying36
  have HB := Aside0.mk (Below.refl w.heap.size w)
  have H : ((supercargolaw04_awake.f k).bind fun t262 => (if t262 = true then ((share_Of.f k a0 a1_0 a1_1).bind fun bt263 => ((supercargoref04_May.f a1_0 a1_1).bind fun t265 => (if t265 = true then (if a0 < 0 then (supercargolaw04_ShareOf.j0 k a0 bt263.1 bt263.2 true a1_0 a1_1) else (supercargolaw04_ShareOf.j0 k a0 bt263.1 bt263.2 (decide (a0 > 1099511627776)) a1_0 a1_1)) else (supercargolaw04_ShareOf.j0 k a0 bt263.1 bt263.2 true a1_0 a1_1)))) else (some false))) = some r := h
  clear h
  replace H := Option.bind_eq_some_iff.mp H
  obtain ⟨t262, A30, H⟩ := H
  replace H : (if t262 = true then ((share_Of.f k a0 a1_0 a1_1).bind fun bt263 => ((supercargoref04_May.f a1_0 a1_1).bind fun t265 => (if t265 = true then (if a0 < 0 then (supercargolaw04_ShareOf.j0 k a0 bt263.1 bt263.2 true a1_0 a1_1) else (supercargolaw04_ShareOf.j0 k a0 bt263.1 bt263.2 (decide (a0 > 1099511627776)) a1_0 a1_1)) else (supercargolaw04_ShareOf.j0 k a0 bt263.1 bt263.2 true a1_0 a1_1)))) else (some false)) = some r := H
  have A3 := Aside0.mk A30
  clear A30
  by_cases c4 : t262 = true
  · subst c4
    have H1 : ((share_Of.f k a0 a1_0 a1_1).bind fun bt263 => ((supercargoref04_May.f a1_0 a1_1).bind fun t265 => (if t265 = true then (if a0 < 0 then (supercargolaw04_ShareOf.j0 k a0 bt263.1 bt263.2 true a1_0 a1_1) else (supercargolaw04_ShareOf.j0 k a0 bt263.1 bt263.2 (decide (a0 > 1099511627776)) a1_0 a1_1)) else (supercargolaw04_ShareOf.j0 k a0 bt263.1 bt263.2 true a1_0 a1_1)))) = some r := by rw [if_pos rfl] at H; exact H
    clear H
    have H := H1
    clear H1
    replace H := Option.bind_eq_some_iff.mp H
    obtain ⟨⟨t263, t264⟩, A50, H⟩ := H
    replace H : ((supercargoref04_May.f a1_0 a1_1).bind fun t265 => (if t265 = true then (if a0 < 0 then (supercargolaw04_ShareOf.j0 k a0 t263 t264 true a1_0 a1_1) else (supercargolaw04_ShareOf.j0 k a0 t263 t264 (decide (a0 > 1099511627776)) a1_0 a1_1)) else (supercargolaw04_ShareOf.j0 k a0 t263 t264 true a1_0 a1_1))) = some r := H
    have A5 := Aside0.mk A50
    clear A50
    have HC6 := Aside0.mk H
    clear H
    go_enter Try.func7, Try.ntmps7
    go_upto_region 4 with (first | ((with_reducible refine gate_dst (N := 3) rfl ?_); refine box_event ?hg (N := 3) ?hd (cs := #[.int .i64 a1_0, .int .i64 a1_1]) (t := 36) ?hr ?_; (case hd => rfl); (case hg => rfl); (case hr => first | (go_simp; done) | (go_simp; rfl)); intro gb261 hg w7 hbox hb; have n0_ := Aside0.mk (below_step (by repeat (first | (with_reducible first | exact HB.out | apply below_alloc | apply pw_below_drewN | apply below_drew1) | exact HB.out)) hb); have n1_ := Aside0.mk (hbox); have n2_ := Aside0.mk ((by rw [hg]; exact (below_size (by repeat (first | (with_reducible first | exact HB.out | apply below_alloc | apply pw_below_drewN | apply below_drew1) | exact HB.out))) : w.heap.size ≤ gb261)); have n3_ := Aside0.mk ((by rw [hg]; exact (below_size (by repeat (first | (with_reducible first | exact HB.out | apply below_alloc | apply pw_below_drewN | apply below_drew1) | exact HB.out))) : w.heap.size ≤ gb261)); clear HB; have HB := n0_; have BK261 := n1_; have GW261 := n2_; have GE261 := n3_; clear n0_ n1_ n2_ n3_; clear hb hbox hg) | (go_at_call 10; (with_reducible refine (supercargolaw04_awake.calls k  true _ A3.out).mono ?_); rintro e w8 ⟨rfl, hb⟩; have n0_ := Aside0.mk (blk_below (g := gb261) (o := .cells #[.int .i64 a1_0, .int .i64 a1_1] 36 (0, 0)) (by (with_reducible repeat (first | refine blk_drewN ?_ _ | refine blk_drew ?_ | refine blk_alloc ?_ _)); exact BK261.out) hb); have n1_ := Aside0.mk (below_step (by repeat (first | (with_reducible first | exact HB.out | apply below_alloc | apply pw_below_drewN | apply below_drew1 | refine below_set ?_ GE261.out) | exact HB.out)) hb); clear BK261; clear HB; have BK261 := n0_; have HB := n1_; clear n0_ n1_; (try clear hb); (try clear hb2); (try clear hk); (try clear hi); have hcz9_0 : w8.cell? ⟨gb261, 0, none⟩ = some (.int .i64 a1_0) := (blk_cell BK261.out 0).trans rfl; have hcz9_1 : w8.cell? ⟨gb261, 1, none⟩ = some (.int .i64 a1_1) := (blk_cell BK261.out 1).trans rfl; have hfz9_0 := blk_frozen BK261.out 0; have hfz9_1 := blk_frozen BK261.out 1) | (go_at_call 17; (with_reducible refine (share_Of.calls k a0 a1_0 a1_1 t263 t264 _ A5.out).mono ?_); rintro e w10 ⟨rfl, hb⟩; have n0_ := Aside0.mk (blk_below (g := gb261) (o := .cells #[.int .i64 a1_0, .int .i64 a1_1] 36 (0, 0)) (by (with_reducible repeat (first | refine blk_drewN ?_ _ | refine blk_drew ?_ | refine blk_alloc ?_ _)); exact BK261.out) hb); have n1_ := Aside0.mk (below_step (by repeat (first | (with_reducible first | exact HB.out | apply below_alloc | apply pw_below_drewN | apply below_drew1 | refine below_set ?_ GE261.out) | exact HB.out)) hb); clear BK261; clear HB; have BK261 := n0_; have HB := n1_; clear n0_ n1_; (try clear hb); (try clear hb2); (try clear hk); (try clear hi)))
    repeat (go_quiet (first | ((with_reducible refine gate_dst (N := 3) rfl ?_); refine box_event ?hg (N := 3) ?hd (cs := #[.int .i64 a1_0, .int .i64 a1_1]) (t := 36) ?hr ?_; (case hd => rfl); (case hg => rfl); (case hr => first | (go_simp; done) | (go_simp; rfl)); intro gb261 hg w7 hbox hb; have n0_ := Aside0.mk (below_step (by repeat (first | (with_reducible first | exact HB.out | apply below_alloc | apply pw_below_drewN | apply below_drew1) | exact HB.out)) hb); have n1_ := Aside0.mk (hbox); have n2_ := Aside0.mk ((by rw [hg]; exact (below_size (by repeat (first | (with_reducible first | exact HB.out | apply below_alloc | apply pw_below_drewN | apply below_drew1) | exact HB.out))) : w.heap.size ≤ gb261)); have n3_ := Aside0.mk ((by rw [hg]; exact (below_size (by repeat (first | (with_reducible first | exact HB.out | apply below_alloc | apply pw_below_drewN | apply below_drew1) | exact HB.out))) : w.heap.size ≤ gb261)); clear HB; have HB := n0_; have BK261 := n1_; have GW261 := n2_; have GE261 := n3_; clear n0_ n1_ n2_ n3_; clear hb hbox hg) | (go_at_call 10; (with_reducible refine (supercargolaw04_awake.calls k  true _ A3.out).mono ?_); rintro e w8 ⟨rfl, hb⟩; have n0_ := Aside0.mk (blk_below (g := gb261) (o := .cells #[.int .i64 a1_0, .int .i64 a1_1] 36 (0, 0)) (by (with_reducible repeat (first | refine blk_drewN ?_ _ | refine blk_drew ?_ | refine blk_alloc ?_ _)); exact BK261.out) hb); have n1_ := Aside0.mk (below_step (by repeat (first | (with_reducible first | exact HB.out | apply below_alloc | apply pw_below_drewN | apply below_drew1 | refine below_set ?_ GE261.out) | exact HB.out)) hb); clear BK261; clear HB; have BK261 := n0_; have HB := n1_; clear n0_ n1_; (try clear hb); (try clear hb2); (try clear hk); (try clear hi); have hcz9_0 : w8.cell? ⟨gb261, 0, none⟩ = some (.int .i64 a1_0) := (blk_cell BK261.out 0).trans rfl; have hcz9_1 : w8.cell? ⟨gb261, 1, none⟩ = some (.int .i64 a1_1) := (blk_cell BK261.out 1).trans rfl; have hfz9_0 := blk_frozen BK261.out 0; have hfz9_1 := blk_frozen BK261.out 1) | (go_at_call 17; (with_reducible refine (share_Of.calls k a0 a1_0 a1_1 t263 t264 _ A5.out).mono ?_); rintro e w10 ⟨rfl, hb⟩; have n0_ := Aside0.mk (blk_below (g := gb261) (o := .cells #[.int .i64 a1_0, .int .i64 a1_1] 36 (0, 0)) (by (with_reducible repeat (first | refine blk_drewN ?_ _ | refine blk_drew ?_ | refine blk_alloc ?_ _)); exact BK261.out) hb); have n1_ := Aside0.mk (below_step (by repeat (first | (with_reducible first | exact HB.out | apply below_alloc | apply pw_below_drewN | apply below_drew1 | refine below_set ?_ GE261.out) | exact HB.out)) hb); clear BK261; clear HB; have BK261 := n0_; have HB := n1_; clear n0_ n1_; (try clear hb); (try clear hb2); (try clear hk); (try clear hi))); go_upto_region 4 with (first | ((with_reducible refine gate_dst (N := 3) rfl ?_); refine box_event ?hg (N := 3) ?hd (cs := #[.int .i64 a1_0, .int .i64 a1_1]) (t := 36) ?hr ?_; (case hd => rfl); (case hg => rfl); (case hr => first | (go_simp; done) | (go_simp; rfl)); intro gb261 hg w7 hbox hb; have n0_ := Aside0.mk (below_step (by repeat (first | (with_reducible first | exact HB.out | apply below_alloc | apply pw_below_drewN | apply below_drew1) | exact HB.out)) hb); have n1_ := Aside0.mk (hbox); have n2_ := Aside0.mk ((by rw [hg]; exact (below_size (by repeat (first | (with_reducible first | exact HB.out | apply below_alloc | apply pw_below_drewN | apply below_drew1) | exact HB.out))) : w.heap.size ≤ gb261)); have n3_ := Aside0.mk ((by rw [hg]; exact (below_size (by repeat (first | (with_reducible first | exact HB.out | apply below_alloc | apply pw_below_drewN | apply below_drew1) | exact HB.out))) : w.heap.size ≤ gb261)); clear HB; have HB := n0_; have BK261 := n1_; have GW261 := n2_; have GE261 := n3_; clear n0_ n1_ n2_ n3_; clear hb hbox hg) | (go_at_call 10; (with_reducible refine (supercargolaw04_awake.calls k  true _ A3.out).mono ?_); rintro e w8 ⟨rfl, hb⟩; have n0_ := Aside0.mk (blk_below (g := gb261) (o := .cells #[.int .i64 a1_0, .int .i64 a1_1] 36 (0, 0)) (by (with_reducible repeat (first | refine blk_drewN ?_ _ | refine blk_drew ?_ | refine blk_alloc ?_ _)); exact BK261.out) hb); have n1_ := Aside0.mk (below_step (by repeat (first | (with_reducible first | exact HB.out | apply below_alloc | apply pw_below_drewN | apply below_drew1 | refine below_set ?_ GE261.out) | exact HB.out)) hb); clear BK261; clear HB; have BK261 := n0_; have HB := n1_; clear n0_ n1_; (try clear hb); (try clear hb2); (try clear hk); (try clear hi); have hcz9_0 : w8.cell? ⟨gb261, 0, none⟩ = some (.int .i64 a1_0) := (blk_cell BK261.out 0).trans rfl; have hcz9_1 : w8.cell? ⟨gb261, 1, none⟩ = some (.int .i64 a1_1) := (blk_cell BK261.out 1).trans rfl; have hfz9_0 := blk_frozen BK261.out 0; have hfz9_1 := blk_frozen BK261.out 1) | (go_at_call 17; (with_reducible refine (share_Of.calls k a0 a1_0 a1_1 t263 t264 _ A5.out).mono ?_); rintro e w10 ⟨rfl, hb⟩; have n0_ := Aside0.mk (blk_below (g := gb261) (o := .cells #[.int .i64 a1_0, .int .i64 a1_1] 36 (0, 0)) (by (with_reducible repeat (first | refine blk_drewN ?_ _ | refine blk_drew ?_ | refine blk_alloc ?_ _)); exact BK261.out) hb); have n1_ := Aside0.mk (below_step (by repeat (first | (with_reducible first | exact HB.out | apply below_alloc | apply pw_below_drewN | apply below_drew1 | refine below_set ?_ GE261.out) | exact HB.out)) hb); clear BK261; clear HB; have BK261 := n0_; have HB := n1_; clear n0_ n1_; (try clear hb); (try clear hb2); (try clear hk); (try clear hi))))
    (try simp only [Act.put, List.setIfInBounds_toArray, List.set_cons_zero, List.set_cons_succ])
    go_cut [30] (fun v30 wc => ∃ (kq : Nat) (x30_5 : Bool), v30 = .bool x30_5 ∧ Aside0 (supercargolaw04_ShareOf.j0 kq a0 t263 t264 x30_5 a1_0 a1_1 = some r) ∧ Aside0 (kq ≤ k) ∧ Aside0 (wc.heap[gb261]? = some (.cells #[.int .i64 a1_0, .int .i64 a1_1] 36 (0, 0))) ∧ Aside0 (Below w.heap.size w wc))
    case first =>
      have H := HC6.out
      clear HC6
      replace H := Option.bind_eq_some_iff.mp H
      obtain ⟨t265, A110, H⟩ := H
      replace H : (if t265 = true then (if a0 < 0 then (supercargolaw04_ShareOf.j0 k a0 t263 t264 true a1_0 a1_1) else (supercargolaw04_ShareOf.j0 k a0 t263 t264 (decide (a0 > 1099511627776)) a1_0 a1_1)) else (supercargolaw04_ShareOf.j0 k a0 t263 t264 true a1_0 a1_1)) = some r := H
      have A11 := Aside0.mk A110
      clear A110
      by_cases c12 : t265 = true
      · subst c12
        have H1 : (if a0 < 0 then (supercargolaw04_ShareOf.j0 k a0 t263 t264 true a1_0 a1_1) else (supercargolaw04_ShareOf.j0 k a0 t263 t264 (decide (a0 > 1099511627776)) a1_0 a1_1)) = some r := by rw [if_pos rfl] at H; exact H
        clear H
        have H := H1
        clear H1
        by_cases c13 : a0 < 0
        · rw [if_pos c13] at H
          have c13b0 : decide (a0 < 0) = true := decide_eq_true c13
          clear c13
          (first | rw [c13b0] | (simp only [i64_w, i32_w]; rw [c13b0]) | skip)
          have H' := Aside0.mk H
          clear H
          have hcz14_0 : w10.cell? ⟨gb261, 0, none⟩ = some (.int .i64 a1_0) := (blk_cell BK261.out 0).trans rfl
          have hcz14_1 : w10.cell? ⟨gb261, 1, none⟩ = some (.int .i64 a1_1) := (blk_cell BK261.out 1).trans rfl
          have hfz14_0 := blk_frozen BK261.out 0
          have hfz14_1 := blk_frozen BK261.out 1
          go_wp2_with (first | (go_at_call 18; (with_reducible refine (supercargoref04_May.calls a1_0 a1_1 true _ A11.out).mono ?_); rintro e w15 ⟨rfl, hb⟩; have n0_ := Aside0.mk (blk_below (g := gb261) (o := .cells #[.int .i64 a1_0, .int .i64 a1_1] 36 (0, 0)) (by (with_reducible repeat (first | refine blk_drewN ?_ _ | refine blk_drew ?_ | refine blk_alloc ?_ _)); exact BK261.out) hb); have n1_ := Aside0.mk (below_step (by repeat (first | (with_reducible first | exact HB.out | apply below_alloc | apply pw_below_drewN | apply below_drew1 | refine below_set ?_ GE261.out) | exact HB.out)) hb); clear BK261; clear HB; have BK261 := n0_; have HB := n1_; clear n0_ n1_; (try clear hb); (try clear hb2); (try clear hk); (try clear hi)))
          repeat (go_quiet (first | (go_at_call 18; (with_reducible refine (supercargoref04_May.calls a1_0 a1_1 true _ A11.out).mono ?_); rintro e w15 ⟨rfl, hb⟩; have n0_ := Aside0.mk (blk_below (g := gb261) (o := .cells #[.int .i64 a1_0, .int .i64 a1_1] 36 (0, 0)) (by (with_reducible repeat (first | refine blk_drewN ?_ _ | refine blk_drew ?_ | refine blk_alloc ?_ _)); exact BK261.out) hb); have n1_ := Aside0.mk (below_step (by repeat (first | (with_reducible first | exact HB.out | apply below_alloc | apply pw_below_drewN | apply below_drew1 | refine below_set ?_ GE261.out) | exact HB.out)) hb); clear BK261; clear HB; have BK261 := n0_; have HB := n1_; clear n0_ n1_; (try clear hb); (try clear hb2); (try clear hk); (try clear hi))); try go_wp2_with (first | (go_at_call 18; (with_reducible refine (supercargoref04_May.calls a1_0 a1_1 true _ A11.out).mono ?_); rintro e w15 ⟨rfl, hb⟩; have n0_ := Aside0.mk (blk_below (g := gb261) (o := .cells #[.int .i64 a1_0, .int .i64 a1_1] 36 (0, 0)) (by (with_reducible repeat (first | refine blk_drewN ?_ _ | refine blk_drew ?_ | refine blk_alloc ?_ _)); exact BK261.out) hb); have n1_ := Aside0.mk (below_step (by repeat (first | (with_reducible first | exact HB.out | apply below_alloc | apply pw_below_drewN | apply below_drew1 | refine below_set ?_ GE261.out) | exact HB.out)) hb); clear BK261; clear HB; have BK261 := n0_; have HB := n1_; clear n0_ n1_; (try clear hb); (try clear hb2); (try clear hk); (try clear hi))))
          go_meet
          case rel => exact ⟨_, (true), (by first | rfl | (simp; done) | (simp [*]; done)), H', ⟨by first | omega | exact Nat.le_refl _⟩, ⟨by (with_reducible repeat (first | refine blk_drewN ?_ _ | refine blk_drew ?_ | refine blk_alloc ?_ _)); exact BK261.out⟩, ⟨by repeat (first | (with_reducible first | exact HB.out | apply below_alloc | apply pw_below_drewN | apply below_drew1 | refine below_set ?_ GE261.out) | exact HB.out)⟩⟩
        · rw [if_neg c13] at H
          have c13b0 : decide (a0 < 0) = false := decide_eq_false c13
          clear c13
          (first | rw [c13b0] | (simp only [i64_w, i32_w]; rw [c13b0]) | skip)
          have H' := Aside0.mk H
          clear H
          have hcz16_0 : w10.cell? ⟨gb261, 0, none⟩ = some (.int .i64 a1_0) := (blk_cell BK261.out 0).trans rfl
          have hcz16_1 : w10.cell? ⟨gb261, 1, none⟩ = some (.int .i64 a1_1) := (blk_cell BK261.out 1).trans rfl
          have hfz16_0 := blk_frozen BK261.out 0
          have hfz16_1 := blk_frozen BK261.out 1
          go_wp2_with (first | (go_at_call 18; (with_reducible refine (supercargoref04_May.calls a1_0 a1_1 true _ A11.out).mono ?_); rintro e w17 ⟨rfl, hb⟩; have n0_ := Aside0.mk (blk_below (g := gb261) (o := .cells #[.int .i64 a1_0, .int .i64 a1_1] 36 (0, 0)) (by (with_reducible repeat (first | refine blk_drewN ?_ _ | refine blk_drew ?_ | refine blk_alloc ?_ _)); exact BK261.out) hb); have n1_ := Aside0.mk (below_step (by repeat (first | (with_reducible first | exact HB.out | apply below_alloc | apply pw_below_drewN | apply below_drew1 | refine below_set ?_ GE261.out) | exact HB.out)) hb); clear BK261; clear HB; have BK261 := n0_; have HB := n1_; clear n0_ n1_; (try clear hb); (try clear hb2); (try clear hk); (try clear hi)))
          repeat (go_quiet (first | (go_at_call 18; (with_reducible refine (supercargoref04_May.calls a1_0 a1_1 true _ A11.out).mono ?_); rintro e w17 ⟨rfl, hb⟩; have n0_ := Aside0.mk (blk_below (g := gb261) (o := .cells #[.int .i64 a1_0, .int .i64 a1_1] 36 (0, 0)) (by (with_reducible repeat (first | refine blk_drewN ?_ _ | refine blk_drew ?_ | refine blk_alloc ?_ _)); exact BK261.out) hb); have n1_ := Aside0.mk (below_step (by repeat (first | (with_reducible first | exact HB.out | apply below_alloc | apply pw_below_drewN | apply below_drew1 | refine below_set ?_ GE261.out) | exact HB.out)) hb); clear BK261; clear HB; have BK261 := n0_; have HB := n1_; clear n0_ n1_; (try clear hb); (try clear hb2); (try clear hk); (try clear hi))); try go_wp2_with (first | (go_at_call 18; (with_reducible refine (supercargoref04_May.calls a1_0 a1_1 true _ A11.out).mono ?_); rintro e w17 ⟨rfl, hb⟩; have n0_ := Aside0.mk (blk_below (g := gb261) (o := .cells #[.int .i64 a1_0, .int .i64 a1_1] 36 (0, 0)) (by (with_reducible repeat (first | refine blk_drewN ?_ _ | refine blk_drew ?_ | refine blk_alloc ?_ _)); exact BK261.out) hb); have n1_ := Aside0.mk (below_step (by repeat (first | (with_reducible first | exact HB.out | apply below_alloc | apply pw_below_drewN | apply below_drew1 | refine below_set ?_ GE261.out) | exact HB.out)) hb); clear BK261; clear HB; have BK261 := n0_; have HB := n1_; clear n0_ n1_; (try clear hb); (try clear hb2); (try clear hk); (try clear hi))))
          go_meet
          case rel => exact ⟨_, (decide (a0 > 1099511627776)), (by first | rfl | (simp; done) | (simp [*]; done)), H', ⟨by first | omega | exact Nat.le_refl _⟩, ⟨by (with_reducible repeat (first | refine blk_drewN ?_ _ | refine blk_drew ?_ | refine blk_alloc ?_ _)); exact BK261.out⟩, ⟨by repeat (first | (with_reducible first | exact HB.out | apply below_alloc | apply pw_below_drewN | apply below_drew1 | refine below_set ?_ GE261.out) | exact HB.out)⟩⟩
      · replace c12 := Bool.eq_false_iff.mpr c12
        subst c12
        have H1 : (supercargolaw04_ShareOf.j0 k a0 t263 t264 true a1_0 a1_1) = some r := by rw [if_neg (show ¬ (false = true) by decide)] at H; exact H
        clear H
        have H := H1
        clear H1
        have H' := Aside0.mk H
        clear H
        have hcz18_0 : w10.cell? ⟨gb261, 0, none⟩ = some (.int .i64 a1_0) := (blk_cell BK261.out 0).trans rfl
        have hcz18_1 : w10.cell? ⟨gb261, 1, none⟩ = some (.int .i64 a1_1) := (blk_cell BK261.out 1).trans rfl
        have hfz18_0 := blk_frozen BK261.out 0
        have hfz18_1 := blk_frozen BK261.out 1
        go_wp2_with (first | (go_at_call 18; (with_reducible refine (supercargoref04_May.calls a1_0 a1_1 false _ A11.out).mono ?_); rintro e w19 ⟨rfl, hb⟩; have n0_ := Aside0.mk (blk_below (g := gb261) (o := .cells #[.int .i64 a1_0, .int .i64 a1_1] 36 (0, 0)) (by (with_reducible repeat (first | refine blk_drewN ?_ _ | refine blk_drew ?_ | refine blk_alloc ?_ _)); exact BK261.out) hb); have n1_ := Aside0.mk (below_step (by repeat (first | (with_reducible first | exact HB.out | apply below_alloc | apply pw_below_drewN | apply below_drew1 | refine below_set ?_ GE261.out) | exact HB.out)) hb); clear BK261; clear HB; have BK261 := n0_; have HB := n1_; clear n0_ n1_; (try clear hb); (try clear hb2); (try clear hk); (try clear hi)))
        repeat (go_quiet (first | (go_at_call 18; (with_reducible refine (supercargoref04_May.calls a1_0 a1_1 false _ A11.out).mono ?_); rintro e w19 ⟨rfl, hb⟩; have n0_ := Aside0.mk (blk_below (g := gb261) (o := .cells #[.int .i64 a1_0, .int .i64 a1_1] 36 (0, 0)) (by (with_reducible repeat (first | refine blk_drewN ?_ _ | refine blk_drew ?_ | refine blk_alloc ?_ _)); exact BK261.out) hb); have n1_ := Aside0.mk (below_step (by repeat (first | (with_reducible first | exact HB.out | apply below_alloc | apply pw_below_drewN | apply below_drew1 | refine below_set ?_ GE261.out) | exact HB.out)) hb); clear BK261; clear HB; have BK261 := n0_; have HB := n1_; clear n0_ n1_; (try clear hb); (try clear hb2); (try clear hk); (try clear hi))); try go_wp2_with (first | (go_at_call 18; (with_reducible refine (supercargoref04_May.calls a1_0 a1_1 false _ A11.out).mono ?_); rintro e w19 ⟨rfl, hb⟩; have n0_ := Aside0.mk (blk_below (g := gb261) (o := .cells #[.int .i64 a1_0, .int .i64 a1_1] 36 (0, 0)) (by (with_reducible repeat (first | refine blk_drewN ?_ _ | refine blk_drew ?_ | refine blk_alloc ?_ _)); exact BK261.out) hb); have n1_ := Aside0.mk (below_step (by repeat (first | (with_reducible first | exact HB.out | apply below_alloc | apply pw_below_drewN | apply below_drew1 | refine below_set ?_ GE261.out) | exact HB.out)) hb); clear BK261; clear HB; have BK261 := n0_; have HB := n1_; clear n0_ n1_; (try clear hb); (try clear hb2); (try clear hk); (try clear hi))))
        go_meet
        case rel => exact ⟨_, (true), (by first | rfl | (simp; done) | (simp [*]; done)), H', ⟨by first | omega | exact Nat.le_refl _⟩, ⟨by (with_reducible repeat (first | refine blk_drewN ?_ _ | refine blk_drew ?_ | refine blk_alloc ?_ _)); exact BK261.out⟩, ⟨by repeat (first | (with_reducible first | exact HB.out | apply below_alloc | apply pw_below_drewN | apply below_drew1 | refine below_set ?_ GE261.out) | exact HB.out)⟩⟩
    case rest =>
      clear HC6
      try clear c1
      try clear p2
      try clear c4
      try clear c7
      try clear c12
      try clear c13
      try clear c13b0
      try clear hcz14_0
      try clear hcz14_1
      try clear hcz16_0
      try clear hcz16_1
      try clear hcz18_0
      try clear hcz18_1
      try clear hcz9_0
      try clear hcz9_1
      try clear hfz14_0
      try clear hfz14_1
      try clear hfz16_0
      try clear hfz16_1
      try clear hfz18_0
      try clear hfz18_1
      try clear hfz9_0
      try clear hfz9_1
      obtain ⟨kq, x30_5, rfl, HA, HJ5, BK261, HB⟩ := hcut
      cases kq with
      | zero => exact absurd HA.out (by simp [supercargolaw04_ShareOf.j0])
      | succ kj5 =>
        have H := HA.out
        clear HA
        simp only [supercargolaw04_ShareOf.j0] at H
        by_cases c20 : x30_5 = true
        · subst c20
          have H1 : (if t263 = 0 then (some (!t264)) else (some false)) = some r := by rw [if_pos rfl] at H; exact H
          clear H
          have H := H1
          clear H1
          by_cases c21 : t263 = 0
          · rw [if_pos c21] at H
            have c21b0 : (t263 == 0) = true := beq_iff_eq.mpr c21
            have c21b1 : (t263 != 0) = false := bne_eq_false_iff_eq.mpr c21
            clear c21
            obtain rfl := Option.some.inj H
            go_wp2
            repeat (go_quiet (fail); try go_wp2)
            go_ret
            exact ⟨by first | rfl | (simp [errW_none, errW_some] <;> rfl) | (simp [*, errW_none, errW_some] <;> rfl), by repeat (first | (with_reducible first | exact HB.out | apply below_alloc | apply pw_below_drewN | apply below_drew1 | refine below_set ?_ GE261.out) | exact HB.out)⟩
          · rw [if_neg c21] at H
            have c21b0 : (t263 == 0) = false := beq_eq_false_iff_ne.mpr c21
            have c21b1 : (t263 != 0) = true := bne_iff_ne.mpr c21
            obtain rfl := Option.some.inj H
            go_wp2
            repeat (go_quiet (fail); try go_wp2)
            go_ret
            exact ⟨by first | rfl | (simp [errW_none, errW_some] <;> rfl) | (simp [*, errW_none, errW_some] <;> rfl), by repeat (first | (with_reducible first | exact HB.out | apply below_alloc | apply pw_below_drewN | apply below_drew1 | refine below_set ?_ GE261.out) | exact HB.out)⟩
        · replace c20 := Bool.eq_false_iff.mpr c20
          subst c20
          have H1 : (if a1_1 = 0 then (none) else (if a0 > 0 then (if a0 = 0 then (none) else (supercargolaw04_ShareOf.j1 kj5 a0 t263 t264 (wrap64 (Int.tdiv a1_0 a1_1)) (Int.tmod a1_0 a1_1) (decide ((wrap64 (Int.tdiv a1_0 a1_1)) > (wrap64 ((1099511627776 : Int) / a0)))) a1_0 a1_1)) else (supercargolaw04_ShareOf.j1 kj5 a0 t263 t264 (wrap64 (Int.tdiv a1_0 a1_1)) (Int.tmod a1_0 a1_1) false a1_0 a1_1))) = some r := by rw [if_neg (show ¬ (false = true) by decide)] at H; exact H
          clear H
          have H := H1
          clear H1
          by_cases c22 : a1_1 = 0
          · rw [if_pos c22] at H
            exact absurd H (by simp)
          · rw [if_neg c22] at H
            have c22b0 : (a1_1 == 0) = false := beq_eq_false_iff_ne.mpr c22
            have c22b1 : (a1_1 != 0) = true := bne_iff_ne.mpr c22
            have HC23 := Aside0.mk H
            clear H
            have hcz24_0 : wc.cell? ⟨gb261, 0, none⟩ = some (.int .i64 a1_0) := (blk_cell BK261.out 0).trans rfl
            have hcz24_1 : wc.cell? ⟨gb261, 1, none⟩ = some (.int .i64 a1_1) := (blk_cell BK261.out 1).trans rfl
            have hfz24_0 := blk_frozen BK261.out 0
            have hfz24_1 := blk_frozen BK261.out 1
            go_upto_region 7 with (fail)
            repeat (go_quiet (fail); go_upto_region 7 with (fail))
            go_cut [54] (fun v54 wc => ∃ (kq : Nat) (x54_22 : Bool), v54 = .bool x54_22 ∧ Aside0 (supercargolaw04_ShareOf.j1 kq a0 t263 t264 (wrap64 (Int.tdiv a1_0 a1_1)) (Int.tmod a1_0 a1_1) x54_22 a1_0 a1_1 = some r) ∧ Aside0 (kq ≤ kj5) ∧ Aside0 (wc.heap[gb261]? = some (.cells #[.int .i64 a1_0, .int .i64 a1_1] 36 (0, 0))) ∧ Aside0 (Below w.heap.size w wc))
            case first =>
              have H := HC23.out
              clear HC23
              by_cases c25 : a0 > 0
              · rw [if_pos c25] at H
                have c25b0 : decide (0 < a0) = true := decide_eq_true c25
                clear c25
                (first | rw [c25b0] | (simp only [i64_w, i32_w]; rw [c25b0]) | skip)
                by_cases c26 : a0 = 0
                · rw [if_pos c26] at H
                  exact absurd H (by simp)
                · rw [if_neg c26] at H
                  have c26b0 : (a0 == 0) = false := beq_eq_false_iff_ne.mpr c26
                  have c26b1 : (a0 != 0) = true := bne_iff_ne.mpr c26
                  have H' := Aside0.mk H
                  clear H
                  go_wp2
                  repeat (go_quiet (fail); try go_wp2)
                  go_meet
                  case rel => exact ⟨_, (decide ((wrap64 (Int.tdiv a1_0 a1_1)) > (wrap64 ((1099511627776 : Int) / a0)))), (by first | rfl | (simp; done) | (simp [*]; done) | (simp [Int.tdiv_eq_ediv_of_nonneg]; done)), H', ⟨by have := HJ5.out; first | omega | exact Nat.le_refl _⟩, ⟨by (with_reducible repeat (first | refine blk_drewN ?_ _ | refine blk_drew ?_ | refine blk_alloc ?_ _)); exact BK261.out⟩, ⟨by repeat (first | (with_reducible first | exact HB.out | apply below_alloc | apply pw_below_drewN | apply below_drew1 | refine below_set ?_ GE261.out) | exact HB.out)⟩⟩
              · rw [if_neg c25] at H
                have c25b0 : decide (0 < a0) = false := decide_eq_false c25
                clear c25
                (first | rw [c25b0] | (simp only [i64_w, i32_w]; rw [c25b0]) | skip)
                have H' := Aside0.mk H
                clear H
                go_wp2
                repeat (go_quiet (fail); try go_wp2)
                go_meet
                case rel => exact ⟨_, (false), (by first | rfl | (simp; done) | (simp [*]; done)), H', ⟨by have := HJ5.out; first | omega | exact Nat.le_refl _⟩, ⟨by (with_reducible repeat (first | refine blk_drewN ?_ _ | refine blk_drew ?_ | refine blk_alloc ?_ _)); exact BK261.out⟩, ⟨by repeat (first | (with_reducible first | exact HB.out | apply below_alloc | apply pw_below_drewN | apply below_drew1 | refine below_set ?_ GE261.out) | exact HB.out)⟩⟩
            case rest =>
              clear HC23
              try clear c1
              try clear c2
              try clear p2
              try clear c4
              try clear p6
              try clear c7
              try clear c12
              try clear c13
              try clear c13b0
              try clear c20
              try clear c21
              try clear c21b0
              try clear c21b1
              try clear c22
              try clear c22b0
              try clear c22b1
              try clear c25
              try clear c25b0
              try clear c26
              try clear c26b0
              try clear c26b1
              try clear hcz14_0
              try clear hcz14_1
              try clear hcz16_0
              try clear hcz16_1
              try clear hcz18_0
              try clear hcz18_1
              try clear hcz24_0
              try clear hcz24_1
              try clear hcz9_0
              try clear hcz9_1
              try clear hfz14_0
              try clear hfz14_1
              try clear hfz16_0
              try clear hfz16_1
              try clear hfz18_0
              try clear hfz18_1
              try clear hfz24_0
              try clear hfz24_1
              try clear hfz9_0
              try clear hfz9_1
              try clear p2
              obtain ⟨kq, x54_22, rfl, HA, HJ22, BK261, HB⟩ := hcut
              cases kq with
              | zero => exact absurd HA.out (by simp [supercargolaw04_ShareOf.j1])
              | succ kj22 =>
                have H := HA.out
                clear HA
                simp only [supercargolaw04_ShareOf.j1] at H
                by_cases c27 : x54_22 = true
                · subst c27
                  have H1 : (if t263 = 0 then (some (!t264)) else (some false)) = some r := by rw [if_pos rfl] at H; exact H
                  clear H
                  have H := H1
                  clear H1
                  by_cases c28 : t263 = 0
                  · rw [if_pos c28] at H
                    have c28b0 : (t263 == 0) = true := beq_iff_eq.mpr c28
                    have c28b1 : (t263 != 0) = false := bne_eq_false_iff_eq.mpr c28
                    clear c28
                    obtain rfl := Option.some.inj H
                    go_wp2
                    repeat (go_quiet (fail); try go_wp2)
                    go_ret
                    exact ⟨by first | rfl | (simp [errW_none, errW_some] <;> rfl) | (simp [*, errW_none, errW_some] <;> rfl), by repeat (first | (with_reducible first | exact HB.out | apply below_alloc | apply pw_below_drewN | apply below_drew1 | refine below_set ?_ GE261.out) | exact HB.out)⟩
                  · rw [if_neg c28] at H
                    have c28b0 : (t263 == 0) = false := beq_eq_false_iff_ne.mpr c28
                    have c28b1 : (t263 != 0) = true := bne_iff_ne.mpr c28
                    obtain rfl := Option.some.inj H
                    go_wp2
                    repeat (go_quiet (fail); try go_wp2)
                    go_ret
                    exact ⟨by first | rfl | (simp [errW_none, errW_some] <;> rfl) | (simp [*, errW_none, errW_some] <;> rfl), by repeat (first | (with_reducible first | exact HB.out | apply below_alloc | apply pw_below_drewN | apply below_drew1 | refine below_set ?_ GE261.out) | exact HB.out)⟩
                · replace c27 := Bool.eq_false_iff.mpr c27
                  subst c27
                  have H1 : (if a1_1 > 4611686018427387904 then (if t264 = true then (if t263 ≥ (wrap64 (a0 * (wrap64 (Int.tdiv a1_0 a1_1)))) then (some (decide (t263 ≤ (wrap64 (a0 * (wrap64 ((wrap64 (Int.tdiv a1_0 a1_1)) + 1))))))) else (some false)) else (if t263 = 0 then (if (wrap64 (a0 * (wrap64 ((wrap64 (Int.tdiv a1_0 a1_1)) + 1)))) > 1099511627776 then (some true) else (some false)) else (some false))) else ((supercargoref04_Times.f kj22 a0 (Int.tmod a1_0 a1_1) a1_1).bind fun bt266 => (if (wrap64 ((wrap64 (a0 * (wrap64 (Int.tdiv a1_0 a1_1)))) + bt266.1)) > 1099511627776 then (if t263 = 0 then (some (!t264)) else (some false)) else (if t263 = (wrap64 ((wrap64 (a0 * (wrap64 (Int.tdiv a1_0 a1_1)))) + bt266.1)) then (some t264) else (some false))))) = some r := by rw [if_neg (show ¬ (false = true) by decide)] at H; exact H
                  clear H
                  have H := H1
                  clear H1
                  by_cases c29 : a1_1 > 4611686018427387904
                  · rw [if_pos c29] at H
                    have c29b0 : decide (4611686018427387904 < a1_1) = true := decide_eq_true c29
                    clear c29
                    by_cases c30 : t264 = true
                    · subst c30
                      have H1 : (if t263 ≥ (wrap64 (a0 * (wrap64 (Int.tdiv a1_0 a1_1)))) then (some (decide (t263 ≤ (wrap64 (a0 * (wrap64 ((wrap64 (Int.tdiv a1_0 a1_1)) + 1))))))) else (some false)) = some r := by rw [if_pos rfl] at H; exact H
                      clear H
                      have H := H1
                      clear H1
                      by_cases c31 : t263 ≥ (wrap64 (a0 * (wrap64 (Int.tdiv a1_0 a1_1))))
                      · rw [if_pos c31] at H
                        have c31b0 : decide ((wrap64 (a0 * (wrap64 (Int.tdiv a1_0 a1_1)))) ≤ t263) = true := decide_eq_true c31
                        clear c31
                        obtain rfl := Option.some.inj H
                        have hcz32_0 : wc.cell? ⟨gb261, 0, none⟩ = some (.int .i64 a1_0) := (blk_cell BK261.out 0).trans rfl
                        have hcz32_1 : wc.cell? ⟨gb261, 1, none⟩ = some (.int .i64 a1_1) := (blk_cell BK261.out 1).trans rfl
                        have hfz32_0 := blk_frozen BK261.out 0
                        have hfz32_1 := blk_frozen BK261.out 1
                        go_wp2
                        repeat (go_quiet (fail); try go_wp2)
                        go_ret
                        exact ⟨by first | rfl | (simp [errW_none, errW_some] <;> rfl) | (simp [*, errW_none, errW_some] <;> rfl), by repeat (first | (with_reducible first | exact HB.out | apply below_alloc | apply pw_below_drewN | apply below_drew1 | refine below_set ?_ GE261.out) | exact HB.out)⟩
                      · rw [if_neg c31] at H
                        have c31b0 : decide ((wrap64 (a0 * (wrap64 (Int.tdiv a1_0 a1_1)))) ≤ t263) = false := decide_eq_false c31
                        clear c31
                        obtain rfl := Option.some.inj H
                        have hcz33_0 : wc.cell? ⟨gb261, 0, none⟩ = some (.int .i64 a1_0) := (blk_cell BK261.out 0).trans rfl
                        have hcz33_1 : wc.cell? ⟨gb261, 1, none⟩ = some (.int .i64 a1_1) := (blk_cell BK261.out 1).trans rfl
                        have hfz33_0 := blk_frozen BK261.out 0
                        have hfz33_1 := blk_frozen BK261.out 1
                        go_wp2
                        repeat (go_quiet (fail); try go_wp2)
                        go_ret
                        exact ⟨by first | rfl | (simp [errW_none, errW_some] <;> rfl) | (simp [*, errW_none, errW_some] <;> rfl), by repeat (first | (with_reducible first | exact HB.out | apply below_alloc | apply pw_below_drewN | apply below_drew1 | refine below_set ?_ GE261.out) | exact HB.out)⟩
                    · replace c30 := Bool.eq_false_iff.mpr c30
                      subst c30
                      have H1 : (if t263 = 0 then (if (wrap64 (a0 * (wrap64 ((wrap64 (Int.tdiv a1_0 a1_1)) + 1)))) > 1099511627776 then (some true) else (some false)) else (some false)) = some r := by rw [if_neg (show ¬ (false = true) by decide)] at H; exact H
                      clear H
                      have H := H1
                      clear H1
                      by_cases c34 : t263 = 0
                      · rw [if_pos c34] at H
                        have c34b0 : (t263 == 0) = true := beq_iff_eq.mpr c34
                        have c34b1 : (t263 != 0) = false := bne_eq_false_iff_eq.mpr c34
                        clear c34
                        by_cases c35 : (wrap64 (a0 * (wrap64 ((wrap64 (Int.tdiv a1_0 a1_1)) + 1)))) > 1099511627776
                        · rw [if_pos c35] at H
                          have c35b0 : decide (1099511627776 < (wrap64 (a0 * (wrap64 ((wrap64 (Int.tdiv a1_0 a1_1)) + 1))))) = true := decide_eq_true c35
                          clear c35
                          obtain rfl := Option.some.inj H
                          have hcz36_0 : wc.cell? ⟨gb261, 0, none⟩ = some (.int .i64 a1_0) := (blk_cell BK261.out 0).trans rfl
                          have hcz36_1 : wc.cell? ⟨gb261, 1, none⟩ = some (.int .i64 a1_1) := (blk_cell BK261.out 1).trans rfl
                          have hfz36_0 := blk_frozen BK261.out 0
                          have hfz36_1 := blk_frozen BK261.out 1
                          go_wp2
                          repeat (go_quiet (fail); try go_wp2)
                          go_ret
                          exact ⟨by first | rfl | (simp [errW_none, errW_some] <;> rfl) | (simp [*, errW_none, errW_some] <;> rfl), by repeat (first | (with_reducible first | exact HB.out | apply below_alloc | apply pw_below_drewN | apply below_drew1 | refine below_set ?_ GE261.out) | exact HB.out)⟩
                        · rw [if_neg c35] at H
                          have c35b0 : decide (1099511627776 < (wrap64 (a0 * (wrap64 ((wrap64 (Int.tdiv a1_0 a1_1)) + 1))))) = false := decide_eq_false c35
                          clear c35
                          obtain rfl := Option.some.inj H
                          have hcz37_0 : wc.cell? ⟨gb261, 0, none⟩ = some (.int .i64 a1_0) := (blk_cell BK261.out 0).trans rfl
                          have hcz37_1 : wc.cell? ⟨gb261, 1, none⟩ = some (.int .i64 a1_1) := (blk_cell BK261.out 1).trans rfl
                          have hfz37_0 := blk_frozen BK261.out 0
                          have hfz37_1 := blk_frozen BK261.out 1
                          go_wp2
                          repeat (go_quiet (fail); try go_wp2)
                          go_ret
                          exact ⟨by first | rfl | (simp [errW_none, errW_some] <;> rfl) | (simp [*, errW_none, errW_some] <;> rfl), by repeat (first | (with_reducible first | exact HB.out | apply below_alloc | apply pw_below_drewN | apply below_drew1 | refine below_set ?_ GE261.out) | exact HB.out)⟩
                      · rw [if_neg c34] at H
                        have c34b0 : (t263 == 0) = false := beq_eq_false_iff_ne.mpr c34
                        have c34b1 : (t263 != 0) = true := bne_iff_ne.mpr c34
                        obtain rfl := Option.some.inj H
                        have hcz38_0 : wc.cell? ⟨gb261, 0, none⟩ = some (.int .i64 a1_0) := (blk_cell BK261.out 0).trans rfl
                        have hcz38_1 : wc.cell? ⟨gb261, 1, none⟩ = some (.int .i64 a1_1) := (blk_cell BK261.out 1).trans rfl
                        have hfz38_0 := blk_frozen BK261.out 0
                        have hfz38_1 := blk_frozen BK261.out 1
                        go_wp2
                        repeat (go_quiet (fail); try go_wp2)
                        go_ret
                        exact ⟨by first | rfl | (simp [errW_none, errW_some] <;> rfl) | (simp [*, errW_none, errW_some] <;> rfl), by repeat (first | (with_reducible first | exact HB.out | apply below_alloc | apply pw_below_drewN | apply below_drew1 | refine below_set ?_ GE261.out) | exact HB.out)⟩
                  · rw [if_neg c29] at H
                    have c29b0 : decide (4611686018427387904 < a1_1) = false := decide_eq_false c29
                    clear c29
                    replace H := Option.bind_eq_some_iff.mp H
                    obtain ⟨⟨t266, t267⟩, A390, H⟩ := H
                    replace H : (if (wrap64 ((wrap64 (a0 * (wrap64 (Int.tdiv a1_0 a1_1)))) + t266)) > 1099511627776 then (if t263 = 0 then (some (!t264)) else (some false)) else (if t263 = (wrap64 ((wrap64 (a0 * (wrap64 (Int.tdiv a1_0 a1_1)))) + t266)) then (some t264) else (some false))) = some r := H
                    have A39 := Aside0.mk A390
                    clear A390
                    by_cases c40 : (wrap64 ((wrap64 (a0 * (wrap64 (Int.tdiv a1_0 a1_1)))) + t266)) > 1099511627776
                    · rw [if_pos c40] at H
                      have c40b0 : decide (1099511627776 < (wrap64 ((wrap64 (a0 * (wrap64 (Int.tdiv a1_0 a1_1)))) + t266))) = true := decide_eq_true c40
                      clear c40
                      by_cases c41 : t263 = 0
                      · rw [if_pos c41] at H
                        have c41b0 : (t263 == 0) = true := beq_iff_eq.mpr c41
                        have c41b1 : (t263 != 0) = false := bne_eq_false_iff_eq.mpr c41
                        clear c41
                        obtain rfl := Option.some.inj H
                        have hcz42_0 : wc.cell? ⟨gb261, 0, none⟩ = some (.int .i64 a1_0) := (blk_cell BK261.out 0).trans rfl
                        have hcz42_1 : wc.cell? ⟨gb261, 1, none⟩ = some (.int .i64 a1_1) := (blk_cell BK261.out 1).trans rfl
                        have hfz42_0 := blk_frozen BK261.out 0
                        have hfz42_1 := blk_frozen BK261.out 1
                        go_wp2_with (first | (go_at_call 15; (with_reducible refine (supercargoref04_Times.calls kj22 a0 (Int.tmod a1_0 a1_1) a1_1 t266 t267 _ A39.out).mono ?_); rintro e w' ⟨rfl, ⟨nd, rfl⟩⟩; (try first | exact ⟨rfl, _, World.drewN_drewN _ _ _⟩ | exact ⟨rfl, _, Eq.trans (World.drewN_drewN _ _ _) (congrArg (World.drewN _) (Nat.add_assoc _ _ _))⟩)))
                        repeat (go_quiet (first | (go_at_call 15; (with_reducible refine (supercargoref04_Times.calls kj22 a0 (Int.tmod a1_0 a1_1) a1_1 t266 t267 _ A39.out).mono ?_); rintro e w' ⟨rfl, ⟨nd, rfl⟩⟩; (try first | exact ⟨rfl, _, World.drewN_drewN _ _ _⟩ | exact ⟨rfl, _, Eq.trans (World.drewN_drewN _ _ _) (congrArg (World.drewN _) (Nat.add_assoc _ _ _))⟩))); try go_wp2_with (first | (go_at_call 15; (with_reducible refine (supercargoref04_Times.calls kj22 a0 (Int.tmod a1_0 a1_1) a1_1 t266 t267 _ A39.out).mono ?_); rintro e w' ⟨rfl, ⟨nd, rfl⟩⟩; (try first | exact ⟨rfl, _, World.drewN_drewN _ _ _⟩ | exact ⟨rfl, _, Eq.trans (World.drewN_drewN _ _ _) (congrArg (World.drewN _) (Nat.add_assoc _ _ _))⟩))))
                        go_ret
                        exact ⟨by first | rfl | (simp [errW_none, errW_some] <;> rfl) | (simp [*, errW_none, errW_some] <;> rfl), by repeat (first | (with_reducible first | exact HB.out | apply below_alloc | apply pw_below_drewN | apply below_drew1 | refine below_set ?_ GE261.out) | exact HB.out)⟩
                      · rw [if_neg c41] at H
                        have c41b0 : (t263 == 0) = false := beq_eq_false_iff_ne.mpr c41
                        have c41b1 : (t263 != 0) = true := bne_iff_ne.mpr c41
                        obtain rfl := Option.some.inj H
                        have hcz43_0 : wc.cell? ⟨gb261, 0, none⟩ = some (.int .i64 a1_0) := (blk_cell BK261.out 0).trans rfl
                        have hcz43_1 : wc.cell? ⟨gb261, 1, none⟩ = some (.int .i64 a1_1) := (blk_cell BK261.out 1).trans rfl
                        have hfz43_0 := blk_frozen BK261.out 0
                        have hfz43_1 := blk_frozen BK261.out 1
                        go_wp2_with (first | (go_at_call 15; (with_reducible refine (supercargoref04_Times.calls kj22 a0 (Int.tmod a1_0 a1_1) a1_1 t266 t267 _ A39.out).mono ?_); rintro e w' ⟨rfl, ⟨nd, rfl⟩⟩; (try first | exact ⟨rfl, _, World.drewN_drewN _ _ _⟩ | exact ⟨rfl, _, Eq.trans (World.drewN_drewN _ _ _) (congrArg (World.drewN _) (Nat.add_assoc _ _ _))⟩)))
                        repeat (go_quiet (first | (go_at_call 15; (with_reducible refine (supercargoref04_Times.calls kj22 a0 (Int.tmod a1_0 a1_1) a1_1 t266 t267 _ A39.out).mono ?_); rintro e w' ⟨rfl, ⟨nd, rfl⟩⟩; (try first | exact ⟨rfl, _, World.drewN_drewN _ _ _⟩ | exact ⟨rfl, _, Eq.trans (World.drewN_drewN _ _ _) (congrArg (World.drewN _) (Nat.add_assoc _ _ _))⟩))); try go_wp2_with (first | (go_at_call 15; (with_reducible refine (supercargoref04_Times.calls kj22 a0 (Int.tmod a1_0 a1_1) a1_1 t266 t267 _ A39.out).mono ?_); rintro e w' ⟨rfl, ⟨nd, rfl⟩⟩; (try first | exact ⟨rfl, _, World.drewN_drewN _ _ _⟩ | exact ⟨rfl, _, Eq.trans (World.drewN_drewN _ _ _) (congrArg (World.drewN _) (Nat.add_assoc _ _ _))⟩))))
                        go_ret
                        exact ⟨by first | rfl | (simp [errW_none, errW_some] <;> rfl) | (simp [*, errW_none, errW_some] <;> rfl), by repeat (first | (with_reducible first | exact HB.out | apply below_alloc | apply pw_below_drewN | apply below_drew1 | refine below_set ?_ GE261.out) | exact HB.out)⟩
                    · rw [if_neg c40] at H
                      have c40b0 : decide (1099511627776 < (wrap64 ((wrap64 (a0 * (wrap64 (Int.tdiv a1_0 a1_1)))) + t266))) = false := decide_eq_false c40
                      clear c40
                      by_cases c44 : t263 = (wrap64 ((wrap64 (a0 * (wrap64 (Int.tdiv a1_0 a1_1)))) + t266))
                      · rw [if_pos c44] at H
                        have c44b0 : (t263 == (wrap64 ((wrap64 (a0 * (wrap64 (Int.tdiv a1_0 a1_1)))) + t266))) = true := beq_iff_eq.mpr c44
                        have c44b1 : (t263 != (wrap64 ((wrap64 (a0 * (wrap64 (Int.tdiv a1_0 a1_1)))) + t266))) = false := bne_eq_false_iff_eq.mpr c44
                        clear c44
                        obtain rfl := Option.some.inj H
                        have hcz45_0 : wc.cell? ⟨gb261, 0, none⟩ = some (.int .i64 a1_0) := (blk_cell BK261.out 0).trans rfl
                        have hcz45_1 : wc.cell? ⟨gb261, 1, none⟩ = some (.int .i64 a1_1) := (blk_cell BK261.out 1).trans rfl
                        have hfz45_0 := blk_frozen BK261.out 0
                        have hfz45_1 := blk_frozen BK261.out 1
                        go_wp2_with (first | (go_at_call 15; (with_reducible refine (supercargoref04_Times.calls kj22 a0 (Int.tmod a1_0 a1_1) a1_1 t266 t267 _ A39.out).mono ?_); rintro e w' ⟨rfl, ⟨nd, rfl⟩⟩; (try first | exact ⟨rfl, _, World.drewN_drewN _ _ _⟩ | exact ⟨rfl, _, Eq.trans (World.drewN_drewN _ _ _) (congrArg (World.drewN _) (Nat.add_assoc _ _ _))⟩)))
                        repeat (go_quiet (first | (go_at_call 15; (with_reducible refine (supercargoref04_Times.calls kj22 a0 (Int.tmod a1_0 a1_1) a1_1 t266 t267 _ A39.out).mono ?_); rintro e w' ⟨rfl, ⟨nd, rfl⟩⟩; (try first | exact ⟨rfl, _, World.drewN_drewN _ _ _⟩ | exact ⟨rfl, _, Eq.trans (World.drewN_drewN _ _ _) (congrArg (World.drewN _) (Nat.add_assoc _ _ _))⟩))); try go_wp2_with (first | (go_at_call 15; (with_reducible refine (supercargoref04_Times.calls kj22 a0 (Int.tmod a1_0 a1_1) a1_1 t266 t267 _ A39.out).mono ?_); rintro e w' ⟨rfl, ⟨nd, rfl⟩⟩; (try first | exact ⟨rfl, _, World.drewN_drewN _ _ _⟩ | exact ⟨rfl, _, Eq.trans (World.drewN_drewN _ _ _) (congrArg (World.drewN _) (Nat.add_assoc _ _ _))⟩))))
                        go_ret
                        exact ⟨by first | rfl | (simp [errW_none, errW_some] <;> rfl) | (simp [*, errW_none, errW_some] <;> rfl), by repeat (first | (with_reducible first | exact HB.out | apply below_alloc | apply pw_below_drewN | apply below_drew1 | refine below_set ?_ GE261.out) | exact HB.out)⟩
                      · rw [if_neg c44] at H
                        have c44b0 : (t263 == (wrap64 ((wrap64 (a0 * (wrap64 (Int.tdiv a1_0 a1_1)))) + t266))) = false := beq_eq_false_iff_ne.mpr c44
                        have c44b1 : (t263 != (wrap64 ((wrap64 (a0 * (wrap64 (Int.tdiv a1_0 a1_1)))) + t266))) = true := bne_iff_ne.mpr c44
                        obtain rfl := Option.some.inj H
                        have hcz46_0 : wc.cell? ⟨gb261, 0, none⟩ = some (.int .i64 a1_0) := (blk_cell BK261.out 0).trans rfl
                        have hcz46_1 : wc.cell? ⟨gb261, 1, none⟩ = some (.int .i64 a1_1) := (blk_cell BK261.out 1).trans rfl
                        have hfz46_0 := blk_frozen BK261.out 0
                        have hfz46_1 := blk_frozen BK261.out 1
                        go_wp2_with (first | (go_at_call 15; (with_reducible refine (supercargoref04_Times.calls kj22 a0 (Int.tmod a1_0 a1_1) a1_1 t266 t267 _ A39.out).mono ?_); rintro e w' ⟨rfl, ⟨nd, rfl⟩⟩; (try first | exact ⟨rfl, _, World.drewN_drewN _ _ _⟩ | exact ⟨rfl, _, Eq.trans (World.drewN_drewN _ _ _) (congrArg (World.drewN _) (Nat.add_assoc _ _ _))⟩)))
                        repeat (go_quiet (first | (go_at_call 15; (with_reducible refine (supercargoref04_Times.calls kj22 a0 (Int.tmod a1_0 a1_1) a1_1 t266 t267 _ A39.out).mono ?_); rintro e w' ⟨rfl, ⟨nd, rfl⟩⟩; (try first | exact ⟨rfl, _, World.drewN_drewN _ _ _⟩ | exact ⟨rfl, _, Eq.trans (World.drewN_drewN _ _ _) (congrArg (World.drewN _) (Nat.add_assoc _ _ _))⟩))); try go_wp2_with (first | (go_at_call 15; (with_reducible refine (supercargoref04_Times.calls kj22 a0 (Int.tmod a1_0 a1_1) a1_1 t266 t267 _ A39.out).mono ?_); rintro e w' ⟨rfl, ⟨nd, rfl⟩⟩; (try first | exact ⟨rfl, _, World.drewN_drewN _ _ _⟩ | exact ⟨rfl, _, Eq.trans (World.drewN_drewN _ _ _) (congrArg (World.drewN _) (Nat.add_assoc _ _ _))⟩))))
                        go_ret
                        exact ⟨by first | rfl | (simp [errW_none, errW_some] <;> rfl) | (simp [*, errW_none, errW_some] <;> rfl), by repeat (first | (with_reducible first | exact HB.out | apply below_alloc | apply pw_below_drewN | apply below_drew1 | refine below_set ?_ GE261.out) | exact HB.out)⟩
  · replace c4 := Bool.eq_false_iff.mpr c4
    subst c4
    have H1 : (some false) = some r := by rw [if_neg (show ¬ (false = true) by decide)] at H; exact H
    clear H
    have H := H1
    clear H1
    obtain rfl := Option.some.inj H
    go_enter Try.func7, Try.ntmps7
    go_wp2_with (first | ((with_reducible refine gate_dst (N := 3) rfl ?_); refine box_event ?hg (N := 3) ?hd (cs := #[.int .i64 a1_0, .int .i64 a1_1]) (t := 36) ?hr ?_; (case hd => rfl); (case hg => rfl); (case hr => first | (go_simp; done) | (go_simp; rfl)); intro gb261 hg w47 hbox hb; have n0_ := Aside0.mk (below_step (by repeat (first | (with_reducible first | exact HB.out | apply below_alloc | apply pw_below_drewN | apply below_drew1) | exact HB.out)) hb); have n1_ := Aside0.mk (hbox); have n2_ := Aside0.mk ((by rw [hg]; exact (below_size (by repeat (first | (with_reducible first | exact HB.out | apply below_alloc | apply pw_below_drewN | apply below_drew1) | exact HB.out))) : w.heap.size ≤ gb261)); have n3_ := Aside0.mk ((by rw [hg]; exact (below_size (by repeat (first | (with_reducible first | exact HB.out | apply below_alloc | apply pw_below_drewN | apply below_drew1) | exact HB.out))) : w.heap.size ≤ gb261)); clear HB; have HB := n0_; have BK261 := n1_; have GW261 := n2_; have GE261 := n3_; clear n0_ n1_ n2_ n3_; clear hb hbox hg) | (go_at_call 10; (with_reducible refine (supercargolaw04_awake.calls k  false _ A3.out).mono ?_); rintro e w48 ⟨rfl, hb⟩; have n0_ := Aside0.mk (blk_below (g := gb261) (o := .cells #[.int .i64 a1_0, .int .i64 a1_1] 36 (0, 0)) (by (with_reducible repeat (first | refine blk_drewN ?_ _ | refine blk_drew ?_ | refine blk_alloc ?_ _)); exact BK261.out) hb); have n1_ := Aside0.mk (below_step (by repeat (first | (with_reducible first | exact HB.out | apply below_alloc | apply pw_below_drewN | apply below_drew1 | refine below_set ?_ GE261.out) | exact HB.out)) hb); clear BK261; clear HB; have BK261 := n0_; have HB := n1_; clear n0_ n1_; (try clear hb); (try clear hb2); (try clear hk); (try clear hi)))
    repeat (go_quiet (first | ((with_reducible refine gate_dst (N := 3) rfl ?_); refine box_event ?hg (N := 3) ?hd (cs := #[.int .i64 a1_0, .int .i64 a1_1]) (t := 36) ?hr ?_; (case hd => rfl); (case hg => rfl); (case hr => first | (go_simp; done) | (go_simp; rfl)); intro gb261 hg w47 hbox hb; have n0_ := Aside0.mk (below_step (by repeat (first | (with_reducible first | exact HB.out | apply below_alloc | apply pw_below_drewN | apply below_drew1) | exact HB.out)) hb); have n1_ := Aside0.mk (hbox); have n2_ := Aside0.mk ((by rw [hg]; exact (below_size (by repeat (first | (with_reducible first | exact HB.out | apply below_alloc | apply pw_below_drewN | apply below_drew1) | exact HB.out))) : w.heap.size ≤ gb261)); have n3_ := Aside0.mk ((by rw [hg]; exact (below_size (by repeat (first | (with_reducible first | exact HB.out | apply below_alloc | apply pw_below_drewN | apply below_drew1) | exact HB.out))) : w.heap.size ≤ gb261)); clear HB; have HB := n0_; have BK261 := n1_; have GW261 := n2_; have GE261 := n3_; clear n0_ n1_ n2_ n3_; clear hb hbox hg) | (go_at_call 10; (with_reducible refine (supercargolaw04_awake.calls k  false _ A3.out).mono ?_); rintro e w48 ⟨rfl, hb⟩; have n0_ := Aside0.mk (blk_below (g := gb261) (o := .cells #[.int .i64 a1_0, .int .i64 a1_1] 36 (0, 0)) (by (with_reducible repeat (first | refine blk_drewN ?_ _ | refine blk_drew ?_ | refine blk_alloc ?_ _)); exact BK261.out) hb); have n1_ := Aside0.mk (below_step (by repeat (first | (with_reducible first | exact HB.out | apply below_alloc | apply pw_below_drewN | apply below_drew1 | refine below_set ?_ GE261.out) | exact HB.out)) hb); clear BK261; clear HB; have BK261 := n0_; have HB := n1_; clear n0_ n1_; (try clear hb); (try clear hb2); (try clear hk); (try clear hi))); try go_wp2_with (first | ((with_reducible refine gate_dst (N := 3) rfl ?_); refine box_event ?hg (N := 3) ?hd (cs := #[.int .i64 a1_0, .int .i64 a1_1]) (t := 36) ?hr ?_; (case hd => rfl); (case hg => rfl); (case hr => first | (go_simp; done) | (go_simp; rfl)); intro gb261 hg w47 hbox hb; have n0_ := Aside0.mk (below_step (by repeat (first | (with_reducible first | exact HB.out | apply below_alloc | apply pw_below_drewN | apply below_drew1) | exact HB.out)) hb); have n1_ := Aside0.mk (hbox); have n2_ := Aside0.mk ((by rw [hg]; exact (below_size (by repeat (first | (with_reducible first | exact HB.out | apply below_alloc | apply pw_below_drewN | apply below_drew1) | exact HB.out))) : w.heap.size ≤ gb261)); have n3_ := Aside0.mk ((by rw [hg]; exact (below_size (by repeat (first | (with_reducible first | exact HB.out | apply below_alloc | apply pw_below_drewN | apply below_drew1) | exact HB.out))) : w.heap.size ≤ gb261)); clear HB; have HB := n0_; have BK261 := n1_; have GW261 := n2_; have GE261 := n3_; clear n0_ n1_ n2_ n3_; clear hb hbox hg) | (go_at_call 10; (with_reducible refine (supercargolaw04_awake.calls k  false _ A3.out).mono ?_); rintro e w48 ⟨rfl, hb⟩; have n0_ := Aside0.mk (blk_below (g := gb261) (o := .cells #[.int .i64 a1_0, .int .i64 a1_1] 36 (0, 0)) (by (with_reducible repeat (first | refine blk_drewN ?_ _ | refine blk_drew ?_ | refine blk_alloc ?_ _)); exact BK261.out) hb); have n1_ := Aside0.mk (below_step (by repeat (first | (with_reducible first | exact HB.out | apply below_alloc | apply pw_below_drewN | apply below_drew1 | refine below_set ?_ GE261.out) | exact HB.out)) hb); clear BK261; clear HB; have BK261 := n0_; have HB := n1_; clear n0_ n1_; (try clear hb); (try clear hb2); (try clear hk); (try clear hi))))
    go_ret
    exact ⟨by first | rfl | (simp [errW_none, errW_some] <;> rfl) | (simp [*, errW_none, errW_some] <;> rfl), by repeat (first | (with_reducible first | exact HB.out | apply below_alloc | apply pw_below_drewN | apply below_drew1 | refine below_set ?_ GE261.out) | exact HB.out)⟩

end Go.Proofs.Ythbbfbhgcoffeaa.Print
