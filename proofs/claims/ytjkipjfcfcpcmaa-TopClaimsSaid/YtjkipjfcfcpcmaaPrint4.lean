/- Contracts of the program's functions over this seat's translation, written out by this session's own driver. Conditions: those in each statement. -/
import Derived.Test.YtjkipjfcfcpcmaaPrint0
import Derived.Test.YtjkipjfcfcpcmaaPrint3
namespace Go.Proofs.Ytjkipjfcfcpcmaa.Print
open Go.RowKit Go.Proofs.YtjkipjfcfcpcmaaW.PrintWords Go.Proofs.YtjkipjfcfcpcmaaW.PrintLast Go.Proofs.YtjkipjfcfcpcmaaW.PrintMore
attribute [local go_sem] max2_int min2_int max_two min_two max_three min_three max_four min_four   -- for this text's walks alone
set_option linter.unusedVariables false
set_option linter.unusedSimpArgs false

/-! ### policy_within: function 29 -/
def policy_within.f (a0 : Int) (a1 : Int) (a2 : Int) : Option (Bool) := if a0 ≥ a1 then (some (decide (a0 ≤ a2))) else (some false)
set_option maxHeartbeats 8000000 in
set_option maxRecDepth 100000 in
theorem policy_within.calls (a0 : Int) (a1 : Int) (a2 : Int) (r : Bool) (w : World) (h : policy_within.f a0 a1 a2 = some r) :
    Calls Try.prog 29 #[.int .i64 a0, .int .i64 a1, .int .i64 a2] w fun e w' => e = .returned (.bool r) ∧ Drawn0 w w' := by
  have H : (if a0 ≥ a1 then (some (decide (a0 ≤ a2))) else (some false)) = some r := h
  clear h
  by_cases c4 : a0 ≥ a1
  · rw [if_pos c4] at H
    have c4b0 : decide (a1 ≤ a0) = true := decide_eq_true c4
    clear c4
    obtain rfl := Option.some.inj H
    go_enter Try.func29, Try.ntmps29
    go_wp2
    go_ret
    exact ⟨by first | rfl | (simp; done) | (simp [*]; done), by repeat (first | exact Drawn0.refl _ | apply Drawn0.step)⟩
  · rw [if_neg c4] at H
    have c4b0 : decide (a1 ≤ a0) = false := decide_eq_false c4
    clear c4
    obtain rfl := Option.some.inj H
    go_enter Try.func29, Try.ntmps29
    go_wp2
    go_ret
    exact ⟨by first | rfl | (simp; done) | (simp [*]; done), by repeat (first | exact Drawn0.refl _ | apply Drawn0.step)⟩

/-! ### policy_day: function 30 -/
def policy_day.f (a0 : Int) : Option (Bool) := (policy_within.f a0 0 1048576).bind fun t101 => (some t101)
set_option maxHeartbeats 8000000 in
set_option maxRecDepth 100000 in
theorem policy_day.calls (a0 : Int) (r : Bool) (w : World) (h : policy_day.f a0 = some r) :
    Calls Try.prog 30 #[.int .i64 a0] w fun e w' => e = .returned (.bool r) ∧ Drawn0 w w' := by
  have H : ((policy_within.f a0 0 1048576).bind fun t101 => (some t101)) = some r := h
  clear h
  replace H := Option.bind_eq_some_iff.mp H
  obtain ⟨t101, A20, H⟩ := H
  replace H : (some t101) = some r := H
  have A2 := Aside0.mk A20
  clear A20
  obtain rfl := Option.some.inj H
  go_enter Try.func30, Try.ntmps30
  go_wp2_with (first | ((with_reducible refine gate_callee (f := 29) rfl ?_); refine goesL_ (some 4) rfl rfl Try.func29 (by kernel_rfl) rfl #[.int .i64 a0, .int .i64 0, .int .i64 1048576] rfl (by (try simp only [List.map_toArray, List.map_cons, List.map_nil]); first | done | rfl | (simp only [List.length_drop, List.length_take]; rfl)) ?_; (with_reducible refine (policy_within.calls a0 0 1048576 t101 _ A2.out).mono ?_); rintro e w' ⟨rfl, ⟨nd, rfl⟩⟩; refine ⟨_, rfl, ?_⟩))
  go_ret
  exact ⟨by first | rfl | (simp; done) | (simp [*]; done), by repeat (first | exact Drawn0.refl _ | apply Drawn0.step)⟩

/-! ### policy_May: function 13 -/
mutual
def policy_May.j0 : Nat → Bool → ByteArray → ByteArray → ByteArray → Int → Int → List Int → Int → Int → Int → Option (Bool)
  | 0, _, _, _, _, _, _, _, _, _, _ => none
  | k + 1, x26, x103000, x103001, x103002, x103003, x103004, x103005, x103006, x103007, x103008 => if x26 = true then (some false) else (policy_May.l0 k x103005 (x103005.length : Int) 0 x103000 x103001 x103002 x103003 x103004 x103005 x103006 x103007 x103008)
def policy_May.l0 : Nat → List Int → Int → Int → ByteArray → ByteArray → ByteArray → Int → Int → List Int → Int → Int → Int → Option (Bool)
  | 0, _, _, _, _, _, _, _, _, _, _, _, _ => none
  | k + 1, x28, x29, x30, x103000, x103001, x103002, x103003, x103004, x103005, x103006, x103007, x103008 => if x30 < x29 then (if 0 ≤ x30 then (if x30 < (x28.length : Int) then ((policy_within.f (rd x28 x30) 0 1048576).bind fun t107 => (if t107 = true then (if x30 > 0 then (if 0 ≤ (wrap64 (x30 - 1)) then (if (wrap64 (x30 - 1)) < (x103005.length : Int) then (if (rd x103005 (wrap64 (x30 - 1))) ≥ (rd x28 x30) then (some false) else (policy_May.l0 k x28 x29 (wrap64 (x30 + 1)) x103000 x103001 x103002 x103003 x103004 x103005 x103006 x103007 x103008)) else (none)) else (none)) else (policy_May.l0 k x28 x29 (wrap64 (x30 + 1)) x103000 x103001 x103002 x103003 x103004 x103005 x103006 x103007 x103008)) else (some false))) else (none)) else (none)) else ((policy_within.f x103003 1 1099511627776).bind fun t109 => (if t109 = true then ((policy_within.f x103004 0 x103003).bind fun t110 => (if t110 = true then ((policy_within.f x103008 1 1000).bind fun t111 => (if t111 = true then ((policy_day.f x103006).bind fun t112 => (if t112 = true then ((policy_day.f x103007).bind fun t113 => (if t113 = true then (some (decide (x103006 ≤ x103007))) else (some false))) else (some false))) else (some false))) else (some false))) else (some false)))
end
def policy_May.f (k : Nat) (a0_0 : ByteArray) (a0_1 : ByteArray) (a0_2 : ByteArray) (a0_3 : Int) (a0_4 : Int) (l0_5 : List Int) (a0_6 : Int) (a0_7 : Int) (a0_8 : Int) : Option (Bool) := (mark_Name.f a0_0).bind fun t103 => (if t103 = true then ((mark_Name.f a0_1).bind fun t104 => (if t104 = true then ((mark_Name.f a0_2).bind fun t105 => (if t105 = true then (policy_May.j0 k (decide ((l0_5.length : Int) > 64)) a0_0 a0_1 a0_2 a0_3 a0_4 l0_5 a0_6 a0_7 a0_8) else (policy_May.j0 k true a0_0 a0_1 a0_2 a0_3 a0_4 l0_5 a0_6 a0_7 a0_8))) else (policy_May.j0 k true a0_0 a0_1 a0_2 a0_3 a0_4 l0_5 a0_6 a0_7 a0_8))) else (policy_May.j0 k true a0_0 a0_1 a0_2 a0_3 a0_4 l0_5 a0_6 a0_7 a0_8))
theorem policy_May.mono_l : ∀ k, (∀ y0 y1 y2 y3 y4 y5 y6 y7 y8 y9, LeO (policy_May.j0 k y0 y1 y2 y3 y4 y5 y6 y7 y8 y9) (policy_May.j0 (k + 1) y0 y1 y2 y3 y4 y5 y6 y7 y8 y9)) ∧ (∀ y0 y1 y2 y3 y4 y5 y6 y7 y8 y9 y10 y11, LeO (policy_May.l0 k y0 y1 y2 y3 y4 y5 y6 y7 y8 y9 y10 y11) (policy_May.l0 (k + 1) y0 y1 y2 y3 y4 y5 y6 y7 y8 y9 y10 y11))
  | 0 => ⟨fun _ _ _ _ _ _ _ _ _ _ r h => by simp [policy_May.j0] at h, fun _ _ _ _ _ _ _ _ _ _ _ _ r h => by simp [policy_May.l0] at h⟩
  | k + 1 => by
    obtain ⟨ih0, ih1⟩ := policy_May.mono_l k
    refine ⟨?_, ?_⟩
    · intro y0 y1 y2 y3 y4 y5 y6 y7 y8 y9
      unfold policy_May.j0
      repeat' first
      | (with_reducible exact ih0 _ _ _ _ _ _ _ _ _ _)
      | (with_reducible exact ih1 _ _ _ _ _ _ _ _ _ _ _ _)
      | (with_reducible exact LeO.refl _)
      | (with_reducible exact LeO.none _)
      | (with_reducible refine LeO.ite ?_ ?_)
      | (with_reducible refine LeO.bind ?_ (fun _ => ?_))
      | exact ih0 _ _ _ _ _ _ _ _ _ _
      | exact ih1 _ _ _ _ _ _ _ _ _ _ _ _
      | exact LeO.none _
      | refine LeO.ite ?_ ?_
      | refine LeO.bind ?_ (fun _ => ?_)
    · intro y0 y1 y2 y3 y4 y5 y6 y7 y8 y9 y10 y11
      unfold policy_May.l0
      repeat' first
      | (with_reducible exact ih0 _ _ _ _ _ _ _ _ _ _)
      | (with_reducible exact ih1 _ _ _ _ _ _ _ _ _ _ _ _)
      | (with_reducible exact LeO.refl _)
      | (with_reducible exact LeO.none _)
      | (with_reducible refine LeO.ite ?_ ?_)
      | (with_reducible refine LeO.bind ?_ (fun _ => ?_))
      | exact ih0 _ _ _ _ _ _ _ _ _ _
      | exact ih1 _ _ _ _ _ _ _ _ _ _ _ _
      | exact LeO.none _
      | refine LeO.ite ?_ ?_
      | refine LeO.bind ?_ (fun _ => ?_)
theorem policy_May.mono : ∀ a0 a1 a2 a3 a4 a5 a6 a7 a8 k, LeO (policy_May.f k a0 a1 a2 a3 a4 a5 a6 a7 a8) (policy_May.f (k + 1) a0 a1 a2 a3 a4 a5 a6 a7 a8) := by
  intro a0 a1 a2 a3 a4 a5 a6 a7 a8 k
  obtain ⟨ih0, ih1⟩ := policy_May.mono_l k
  unfold policy_May.f
  repeat' first
      | (with_reducible exact ih0 _ _ _ _ _ _ _ _ _ _)
      | (with_reducible exact ih1 _ _ _ _ _ _ _ _ _ _ _ _)
      | (with_reducible exact LeO.refl _)
      | (with_reducible exact LeO.none _)
      | (with_reducible refine LeO.ite ?_ ?_)
      | (with_reducible refine LeO.bind ?_ (fun _ => ?_))
      | exact ih0 _ _ _ _ _ _ _ _ _ _
      | exact ih1 _ _ _ _ _ _ _ _ _ _ _ _
      | exact LeO.none _
      | refine LeO.ite ?_ ?_
      | refine LeO.bind ?_ (fun _ => ?_)
set_option maxHeartbeats 8000000 in
set_option maxRecDepth 100000 in
theorem policy_May.calls (k : Nat) (a0_0 : ByteArray) (a0_1 : ByteArray) (a0_2 : ByteArray) (a0_3 : Int) (a0_4 : Int) (A0_5 : Option Addr) (c0_5 : Nat) (l0_5 : List Int) (a0_6 : Int) (a0_7 : Int) (a0_8 : Int) (r : Bool) (w : World) (hr0_5 : Kd.C (Kd.int .i64) w A0_5 l0_5.length l0_5) (hc0_5 : l0_5.length ≤ c0_5) (h : policy_May.f k a0_0 a0_1 a0_2 a0_3 a0_4 l0_5 a0_6 a0_7 a0_8 = some r) :
    Calls Try.prog 13 #[.agg #[.string a0_0, .string a0_1, .string a0_2, .int .i64 a0_3, .int .i64 a0_4, .slice A0_5 l0_5.length c0_5, .int .i64 a0_6, .int .i64 a0_7, .int .i64 a0_8]] w fun e w' => e = .returned (.bool r) ∧ Below w.heap.size w w' := by
  have hu33 := Try.underlying33
  have HR0_5 := Aside0.mk hr0_5
  have HC0_5 := Aside0.mk hc0_5
  clear hr0_5 hc0_5
  have HB := Aside0.mk (Below.refl w.heap.size w)
  have H : ((mark_Name.f a0_0).bind fun t103 => (if t103 = true then ((mark_Name.f a0_1).bind fun t104 => (if t104 = true then ((mark_Name.f a0_2).bind fun t105 => (if t105 = true then (policy_May.j0 k (decide ((l0_5.length : Int) > 64)) a0_0 a0_1 a0_2 a0_3 a0_4 l0_5 a0_6 a0_7 a0_8) else (policy_May.j0 k true a0_0 a0_1 a0_2 a0_3 a0_4 l0_5 a0_6 a0_7 a0_8))) else (policy_May.j0 k true a0_0 a0_1 a0_2 a0_3 a0_4 l0_5 a0_6 a0_7 a0_8))) else (policy_May.j0 k true a0_0 a0_1 a0_2 a0_3 a0_4 l0_5 a0_6 a0_7 a0_8))) = some r := h
  clear h
  have HC2 := Aside0.mk H
  clear H
  go_enter Try.func13, Try.ntmps13
  go_upto_region 1 with (first | ((with_reducible refine gate_dst (N := 1) rfl ?_); (try (refine gate_guard (by rfl) ?_; dsimp only)); refine box_event ?hg (N := 1) ?hd (cs := #[.string a0_0, .string a0_1, .string a0_2, .int .i64 a0_3, .int .i64 a0_4, .slice A0_5 l0_5.length c0_5, .int .i64 a0_6, .int .i64 a0_7, .int .i64 a0_8]) (t := 33) ?hr ?_; (case hd => rfl); (case hg => rfl); (case hr => first | (go_simp; done) | (go_simp; rfl)); intro gb102 hg w3 hbox hb; have n0_ := Aside0.mk (below_step (by repeat (first | (with_reducible first | exact HB.out | apply below_alloc | apply pw_below_drewN | apply below_drew1) | exact HB.out)) hb); have n1_ := Aside0.mk (hbox); have n2_ := Aside0.mk ((by rw [hg]; exact (below_size (by repeat (first | (with_reducible first | exact HB.out | apply below_alloc | apply pw_below_drewN | apply below_drew1) | exact HB.out))) : w.heap.size ≤ gb102)); have n3_ := Aside0.mk ((by rw [hg]; exact (below_size (by repeat (first | (with_reducible first | exact HB.out | apply below_alloc | apply pw_below_drewN | apply below_drew1) | exact HB.out))) : w.heap.size ≤ gb102)); clear HB; have HB := n0_; have BK102 := n1_; have GW102 := n2_; have GE102 := n3_; clear n0_ n1_ n2_ n3_; clear hb hbox hg))
  (try simp only [Act.put, List.setIfInBounds_toArray, List.set_cons_zero, List.set_cons_succ])
  go_cut [26] (fun v26 wc => ∃ (kq : Nat) (x26_1 : Bool), v26 = .bool x26_1 ∧ Aside0 (policy_May.j0 kq x26_1 a0_0 a0_1 a0_2 a0_3 a0_4 l0_5 a0_6 a0_7 a0_8 = some r) ∧ Aside0 (kq ≤ k) ∧ Aside0 (wc.heap[gb102]? = some (.cells #[.string a0_0, .string a0_1, .string a0_2, .int .i64 a0_3, .int .i64 a0_4, (.slice A0_5 l0_5.length c0_5), .int .i64 a0_6, .int .i64 a0_7, .int .i64 a0_8] 33 (0, 0))) ∧ Aside0 (Below w.heap.size w wc))
  case first =>
    have H := HC2.out
    clear HC2
    replace H := Option.bind_eq_some_iff.mp H
    obtain ⟨t103, A40, H⟩ := H
    replace H : (if t103 = true then ((mark_Name.f a0_1).bind fun t104 => (if t104 = true then ((mark_Name.f a0_2).bind fun t105 => (if t105 = true then (policy_May.j0 k (decide ((l0_5.length : Int) > 64)) a0_0 a0_1 a0_2 a0_3 a0_4 l0_5 a0_6 a0_7 a0_8) else (policy_May.j0 k true a0_0 a0_1 a0_2 a0_3 a0_4 l0_5 a0_6 a0_7 a0_8))) else (policy_May.j0 k true a0_0 a0_1 a0_2 a0_3 a0_4 l0_5 a0_6 a0_7 a0_8))) else (policy_May.j0 k true a0_0 a0_1 a0_2 a0_3 a0_4 l0_5 a0_6 a0_7 a0_8)) = some r := H
    have A4 := Aside0.mk A40
    clear A40
    by_cases c5 : t103 = true
    · subst c5
      have H1 : ((mark_Name.f a0_1).bind fun t104 => (if t104 = true then ((mark_Name.f a0_2).bind fun t105 => (if t105 = true then (policy_May.j0 k (decide ((l0_5.length : Int) > 64)) a0_0 a0_1 a0_2 a0_3 a0_4 l0_5 a0_6 a0_7 a0_8) else (policy_May.j0 k true a0_0 a0_1 a0_2 a0_3 a0_4 l0_5 a0_6 a0_7 a0_8))) else (policy_May.j0 k true a0_0 a0_1 a0_2 a0_3 a0_4 l0_5 a0_6 a0_7 a0_8))) = some r := by rw [if_pos rfl] at H; exact H
      clear H
      have H := H1
      clear H1
      replace H := Option.bind_eq_some_iff.mp H
      obtain ⟨t104, A60, H⟩ := H
      replace H : (if t104 = true then ((mark_Name.f a0_2).bind fun t105 => (if t105 = true then (policy_May.j0 k (decide ((l0_5.length : Int) > 64)) a0_0 a0_1 a0_2 a0_3 a0_4 l0_5 a0_6 a0_7 a0_8) else (policy_May.j0 k true a0_0 a0_1 a0_2 a0_3 a0_4 l0_5 a0_6 a0_7 a0_8))) else (policy_May.j0 k true a0_0 a0_1 a0_2 a0_3 a0_4 l0_5 a0_6 a0_7 a0_8)) = some r := H
      have A6 := Aside0.mk A60
      clear A60
      by_cases c7 : t104 = true
      · subst c7
        have H1 : ((mark_Name.f a0_2).bind fun t105 => (if t105 = true then (policy_May.j0 k (decide ((l0_5.length : Int) > 64)) a0_0 a0_1 a0_2 a0_3 a0_4 l0_5 a0_6 a0_7 a0_8) else (policy_May.j0 k true a0_0 a0_1 a0_2 a0_3 a0_4 l0_5 a0_6 a0_7 a0_8))) = some r := by rw [if_pos rfl] at H; exact H
        clear H
        have H := H1
        clear H1
        replace H := Option.bind_eq_some_iff.mp H
        obtain ⟨t105, A80, H⟩ := H
        replace H : (if t105 = true then (policy_May.j0 k (decide ((l0_5.length : Int) > 64)) a0_0 a0_1 a0_2 a0_3 a0_4 l0_5 a0_6 a0_7 a0_8) else (policy_May.j0 k true a0_0 a0_1 a0_2 a0_3 a0_4 l0_5 a0_6 a0_7 a0_8)) = some r := H
        have A8 := Aside0.mk A80
        clear A80
        by_cases c9 : t105 = true
        · subst c9
          have H1 : (policy_May.j0 k (decide ((l0_5.length : Int) > 64)) a0_0 a0_1 a0_2 a0_3 a0_4 l0_5 a0_6 a0_7 a0_8) = some r := by rw [if_pos rfl] at H; exact H
          clear H
          have H := H1
          clear H1
          have H' := Aside0.mk H
          clear H
          have hcz10_0 : w3.cell? ⟨gb102, 0, none⟩ = some (.string a0_0) := (blk_cell BK102.out 0).trans rfl
          have hcz10_1 : w3.cell? ⟨gb102, 1, none⟩ = some (.string a0_1) := (blk_cell BK102.out 1).trans rfl
          have hcz10_2 : w3.cell? ⟨gb102, 2, none⟩ = some (.string a0_2) := (blk_cell BK102.out 2).trans rfl
          have hcz10_3 : w3.cell? ⟨gb102, 3, none⟩ = some (.int .i64 a0_3) := (blk_cell BK102.out 3).trans rfl
          have hcz10_4 : w3.cell? ⟨gb102, 4, none⟩ = some (.int .i64 a0_4) := (blk_cell BK102.out 4).trans rfl
          have hcz10_5 : w3.cell? ⟨gb102, 5, none⟩ = some (.slice A0_5 l0_5.length c0_5) := (blk_cell BK102.out 5).trans rfl
          have hcz10_6 : w3.cell? ⟨gb102, 6, none⟩ = some (.int .i64 a0_6) := (blk_cell BK102.out 6).trans rfl
          have hcz10_7 : w3.cell? ⟨gb102, 7, none⟩ = some (.int .i64 a0_7) := (blk_cell BK102.out 7).trans rfl
          have hcz10_8 : w3.cell? ⟨gb102, 8, none⟩ = some (.int .i64 a0_8) := (blk_cell BK102.out 8).trans rfl
          have hfz10_0 := blk_frozen BK102.out 0
          have hfz10_1 := blk_frozen BK102.out 1
          have hfz10_2 := blk_frozen BK102.out 2
          have hfz10_3 := blk_frozen BK102.out 3
          have hfz10_4 := blk_frozen BK102.out 4
          have hfz10_5 := blk_frozen BK102.out 5
          have hfz10_6 := blk_frozen BK102.out 6
          have hfz10_7 := blk_frozen BK102.out 7
          have hfz10_8 := blk_frozen BK102.out 8
          go_wp2_with (first | ((with_reducible refine gate_callee (f := 28) rfl ?_); refine goesL_ (some 7) rfl rfl Try.func28 (by kernel_rfl) rfl #[.string a0_0] rfl (by (try simp only [List.map_toArray, List.map_cons, List.map_nil]); first | done | rfl | (simp only [List.length_drop, List.length_take]; rfl)) ?_; (with_reducible refine (mark_Name.calls a0_0 true _ A4.out).mono ?_); rintro e w' ⟨rfl, ⟨nd, rfl⟩⟩; refine ⟨_, rfl, ?_⟩) | (go_at_call 28; (with_reducible refine (mark_Name.calls a0_1 true _ A6.out).mono ?_); rintro e w' ⟨rfl, ⟨nd, rfl⟩⟩) | (go_at_call 28; (with_reducible refine (mark_Name.calls a0_2 true _ A8.out).mono ?_); rintro e w' ⟨rfl, ⟨nd, rfl⟩⟩))
          go_meet
          case rel => exact ⟨_, (decide ((l0_5.length : Int) > 64)), (by first | rfl | (simp; done) | (simp [*]; done)), H', ⟨by first | omega | exact Nat.le_refl _⟩, ⟨by (with_reducible repeat (first | refine blk_drewN ?_ _ | refine blk_drew ?_ | refine blk_alloc ?_ _)); exact BK102.out⟩, ⟨by repeat (first | (with_reducible first | exact HB.out | apply below_alloc | apply pw_below_drewN | apply below_drew1 | refine below_set ?_ GE102.out) | exact HB.out)⟩⟩
        · replace c9 := Bool.eq_false_iff.mpr c9
          subst c9
          have H1 : (policy_May.j0 k true a0_0 a0_1 a0_2 a0_3 a0_4 l0_5 a0_6 a0_7 a0_8) = some r := by rw [if_neg (show ¬ (false = true) by decide)] at H; exact H
          clear H
          have H := H1
          clear H1
          have H' := Aside0.mk H
          clear H
          have hcz11_0 : w3.cell? ⟨gb102, 0, none⟩ = some (.string a0_0) := (blk_cell BK102.out 0).trans rfl
          have hcz11_1 : w3.cell? ⟨gb102, 1, none⟩ = some (.string a0_1) := (blk_cell BK102.out 1).trans rfl
          have hcz11_2 : w3.cell? ⟨gb102, 2, none⟩ = some (.string a0_2) := (blk_cell BK102.out 2).trans rfl
          have hcz11_3 : w3.cell? ⟨gb102, 3, none⟩ = some (.int .i64 a0_3) := (blk_cell BK102.out 3).trans rfl
          have hcz11_4 : w3.cell? ⟨gb102, 4, none⟩ = some (.int .i64 a0_4) := (blk_cell BK102.out 4).trans rfl
          have hcz11_5 : w3.cell? ⟨gb102, 5, none⟩ = some (.slice A0_5 l0_5.length c0_5) := (blk_cell BK102.out 5).trans rfl
          have hcz11_6 : w3.cell? ⟨gb102, 6, none⟩ = some (.int .i64 a0_6) := (blk_cell BK102.out 6).trans rfl
          have hcz11_7 : w3.cell? ⟨gb102, 7, none⟩ = some (.int .i64 a0_7) := (blk_cell BK102.out 7).trans rfl
          have hcz11_8 : w3.cell? ⟨gb102, 8, none⟩ = some (.int .i64 a0_8) := (blk_cell BK102.out 8).trans rfl
          have hfz11_0 := blk_frozen BK102.out 0
          have hfz11_1 := blk_frozen BK102.out 1
          have hfz11_2 := blk_frozen BK102.out 2
          have hfz11_3 := blk_frozen BK102.out 3
          have hfz11_4 := blk_frozen BK102.out 4
          have hfz11_5 := blk_frozen BK102.out 5
          have hfz11_6 := blk_frozen BK102.out 6
          have hfz11_7 := blk_frozen BK102.out 7
          have hfz11_8 := blk_frozen BK102.out 8
          go_wp2_with (first | ((with_reducible refine gate_callee (f := 28) rfl ?_); refine goesL_ (some 7) rfl rfl Try.func28 (by kernel_rfl) rfl #[.string a0_0] rfl (by (try simp only [List.map_toArray, List.map_cons, List.map_nil]); first | done | rfl | (simp only [List.length_drop, List.length_take]; rfl)) ?_; (with_reducible refine (mark_Name.calls a0_0 true _ A4.out).mono ?_); rintro e w' ⟨rfl, ⟨nd, rfl⟩⟩; refine ⟨_, rfl, ?_⟩) | (go_at_call 28; (with_reducible refine (mark_Name.calls a0_1 true _ A6.out).mono ?_); rintro e w' ⟨rfl, ⟨nd, rfl⟩⟩) | (go_at_call 28; (with_reducible refine (mark_Name.calls a0_2 false _ A8.out).mono ?_); rintro e w' ⟨rfl, ⟨nd, rfl⟩⟩))
          go_meet
          case rel => exact ⟨_, (true), (by first | rfl | (simp; done) | (simp [*]; done)), H', ⟨by first | omega | exact Nat.le_refl _⟩, ⟨by (with_reducible repeat (first | refine blk_drewN ?_ _ | refine blk_drew ?_ | refine blk_alloc ?_ _)); exact BK102.out⟩, ⟨by repeat (first | (with_reducible first | exact HB.out | apply below_alloc | apply pw_below_drewN | apply below_drew1 | refine below_set ?_ GE102.out) | exact HB.out)⟩⟩
      · replace c7 := Bool.eq_false_iff.mpr c7
        subst c7
        have H1 : (policy_May.j0 k true a0_0 a0_1 a0_2 a0_3 a0_4 l0_5 a0_6 a0_7 a0_8) = some r := by rw [if_neg (show ¬ (false = true) by decide)] at H; exact H
        clear H
        have H := H1
        clear H1
        have H' := Aside0.mk H
        clear H
        have hcz12_0 : w3.cell? ⟨gb102, 0, none⟩ = some (.string a0_0) := (blk_cell BK102.out 0).trans rfl
        have hcz12_1 : w3.cell? ⟨gb102, 1, none⟩ = some (.string a0_1) := (blk_cell BK102.out 1).trans rfl
        have hcz12_2 : w3.cell? ⟨gb102, 2, none⟩ = some (.string a0_2) := (blk_cell BK102.out 2).trans rfl
        have hcz12_3 : w3.cell? ⟨gb102, 3, none⟩ = some (.int .i64 a0_3) := (blk_cell BK102.out 3).trans rfl
        have hcz12_4 : w3.cell? ⟨gb102, 4, none⟩ = some (.int .i64 a0_4) := (blk_cell BK102.out 4).trans rfl
        have hcz12_5 : w3.cell? ⟨gb102, 5, none⟩ = some (.slice A0_5 l0_5.length c0_5) := (blk_cell BK102.out 5).trans rfl
        have hcz12_6 : w3.cell? ⟨gb102, 6, none⟩ = some (.int .i64 a0_6) := (blk_cell BK102.out 6).trans rfl
        have hcz12_7 : w3.cell? ⟨gb102, 7, none⟩ = some (.int .i64 a0_7) := (blk_cell BK102.out 7).trans rfl
        have hcz12_8 : w3.cell? ⟨gb102, 8, none⟩ = some (.int .i64 a0_8) := (blk_cell BK102.out 8).trans rfl
        have hfz12_0 := blk_frozen BK102.out 0
        have hfz12_1 := blk_frozen BK102.out 1
        have hfz12_2 := blk_frozen BK102.out 2
        have hfz12_3 := blk_frozen BK102.out 3
        have hfz12_4 := blk_frozen BK102.out 4
        have hfz12_5 := blk_frozen BK102.out 5
        have hfz12_6 := blk_frozen BK102.out 6
        have hfz12_7 := blk_frozen BK102.out 7
        have hfz12_8 := blk_frozen BK102.out 8
        go_wp2_with (first | ((with_reducible refine gate_callee (f := 28) rfl ?_); refine goesL_ (some 7) rfl rfl Try.func28 (by kernel_rfl) rfl #[.string a0_0] rfl (by (try simp only [List.map_toArray, List.map_cons, List.map_nil]); first | done | rfl | (simp only [List.length_drop, List.length_take]; rfl)) ?_; (with_reducible refine (mark_Name.calls a0_0 true _ A4.out).mono ?_); rintro e w' ⟨rfl, ⟨nd, rfl⟩⟩; refine ⟨_, rfl, ?_⟩) | (go_at_call 28; (with_reducible refine (mark_Name.calls a0_1 false _ A6.out).mono ?_); rintro e w' ⟨rfl, ⟨nd, rfl⟩⟩))
        go_meet
        case rel => exact ⟨_, (true), (by first | rfl | (simp; done) | (simp [*]; done)), H', ⟨by first | omega | exact Nat.le_refl _⟩, ⟨by (with_reducible repeat (first | refine blk_drewN ?_ _ | refine blk_drew ?_ | refine blk_alloc ?_ _)); exact BK102.out⟩, ⟨by repeat (first | (with_reducible first | exact HB.out | apply below_alloc | apply pw_below_drewN | apply below_drew1 | refine below_set ?_ GE102.out) | exact HB.out)⟩⟩
    · replace c5 := Bool.eq_false_iff.mpr c5
      subst c5
      have H1 : (policy_May.j0 k true a0_0 a0_1 a0_2 a0_3 a0_4 l0_5 a0_6 a0_7 a0_8) = some r := by rw [if_neg (show ¬ (false = true) by decide)] at H; exact H
      clear H
      have H := H1
      clear H1
      have H' := Aside0.mk H
      clear H
      have hcz13_0 : w3.cell? ⟨gb102, 0, none⟩ = some (.string a0_0) := (blk_cell BK102.out 0).trans rfl
      have hcz13_1 : w3.cell? ⟨gb102, 1, none⟩ = some (.string a0_1) := (blk_cell BK102.out 1).trans rfl
      have hcz13_2 : w3.cell? ⟨gb102, 2, none⟩ = some (.string a0_2) := (blk_cell BK102.out 2).trans rfl
      have hcz13_3 : w3.cell? ⟨gb102, 3, none⟩ = some (.int .i64 a0_3) := (blk_cell BK102.out 3).trans rfl
      have hcz13_4 : w3.cell? ⟨gb102, 4, none⟩ = some (.int .i64 a0_4) := (blk_cell BK102.out 4).trans rfl
      have hcz13_5 : w3.cell? ⟨gb102, 5, none⟩ = some (.slice A0_5 l0_5.length c0_5) := (blk_cell BK102.out 5).trans rfl
      have hcz13_6 : w3.cell? ⟨gb102, 6, none⟩ = some (.int .i64 a0_6) := (blk_cell BK102.out 6).trans rfl
      have hcz13_7 : w3.cell? ⟨gb102, 7, none⟩ = some (.int .i64 a0_7) := (blk_cell BK102.out 7).trans rfl
      have hcz13_8 : w3.cell? ⟨gb102, 8, none⟩ = some (.int .i64 a0_8) := (blk_cell BK102.out 8).trans rfl
      have hfz13_0 := blk_frozen BK102.out 0
      have hfz13_1 := blk_frozen BK102.out 1
      have hfz13_2 := blk_frozen BK102.out 2
      have hfz13_3 := blk_frozen BK102.out 3
      have hfz13_4 := blk_frozen BK102.out 4
      have hfz13_5 := blk_frozen BK102.out 5
      have hfz13_6 := blk_frozen BK102.out 6
      have hfz13_7 := blk_frozen BK102.out 7
      have hfz13_8 := blk_frozen BK102.out 8
      go_wp2_with (first | ((with_reducible refine gate_callee (f := 28) rfl ?_); refine goesL_ (some 7) rfl rfl Try.func28 (by kernel_rfl) rfl #[.string a0_0] rfl (by (try simp only [List.map_toArray, List.map_cons, List.map_nil]); first | done | rfl | (simp only [List.length_drop, List.length_take]; rfl)) ?_; (with_reducible refine (mark_Name.calls a0_0 false _ A4.out).mono ?_); rintro e w' ⟨rfl, ⟨nd, rfl⟩⟩; refine ⟨_, rfl, ?_⟩))
      go_meet
      case rel => exact ⟨_, (true), (by first | rfl | (simp; done) | (simp [*]; done)), H', ⟨by first | omega | exact Nat.le_refl _⟩, ⟨by (with_reducible repeat (first | refine blk_drewN ?_ _ | refine blk_drew ?_ | refine blk_alloc ?_ _)); exact BK102.out⟩, ⟨by repeat (first | (with_reducible first | exact HB.out | apply below_alloc | apply pw_below_drewN | apply below_drew1 | refine below_set ?_ GE102.out) | exact HB.out)⟩⟩
  case rest =>
    clear HC2
    try clear c1
    try clear c2
    try clear p2
    try clear c5
    try clear c7
    try clear c9
    try clear c13
    try clear hcz10_0
    try clear hcz10_1
    try clear hcz10_2
    try clear hcz10_3
    try clear hcz10_4
    try clear hcz10_5
    try clear hcz10_6
    try clear hcz10_7
    try clear hcz10_8
    try clear hcz11_0
    try clear hcz11_1
    try clear hcz11_2
    try clear hcz11_3
    try clear hcz11_4
    try clear hcz11_5
    try clear hcz11_6
    try clear hcz11_7
    try clear hcz11_8
    try clear hcz12_0
    try clear hcz12_1
    try clear hcz12_2
    try clear hcz12_3
    try clear hcz12_4
    try clear hcz12_5
    try clear hcz12_6
    try clear hcz12_7
    try clear hcz12_8
    try clear hcz13_0
    try clear hcz13_1
    try clear hcz13_2
    try clear hcz13_3
    try clear hcz13_4
    try clear hcz13_5
    try clear hcz13_6
    try clear hcz13_7
    try clear hcz13_8
    try clear hfz10_0
    try clear hfz10_1
    try clear hfz10_2
    try clear hfz10_3
    try clear hfz10_4
    try clear hfz10_5
    try clear hfz10_6
    try clear hfz10_7
    try clear hfz10_8
    try clear hfz11_0
    try clear hfz11_1
    try clear hfz11_2
    try clear hfz11_3
    try clear hfz11_4
    try clear hfz11_5
    try clear hfz11_6
    try clear hfz11_7
    try clear hfz11_8
    try clear hfz12_0
    try clear hfz12_1
    try clear hfz12_2
    try clear hfz12_3
    try clear hfz12_4
    try clear hfz12_5
    try clear hfz12_6
    try clear hfz12_7
    try clear hfz12_8
    try clear hfz13_0
    try clear hfz13_1
    try clear hfz13_2
    try clear hfz13_3
    try clear hfz13_4
    try clear hfz13_5
    try clear hfz13_6
    try clear hfz13_7
    try clear hfz13_8
    obtain ⟨kq, x26_1, rfl, HA, HJ1, BK102, HB⟩ := hcut
    cases kq with
    | zero => exact absurd HA.out (by simp [policy_May.j0])
    | succ kj1 =>
      have H := HA.out
      clear HA
      simp only [policy_May.j0] at H
      by_cases c14 : x26_1 = true
      · subst c14
        have H1 : (some false) = some r := by rw [if_pos rfl] at H; exact H
        clear H
        have H := H1
        clear H1
        obtain rfl := Option.some.inj H
        go_wp2
        go_ret
        exact ⟨by first | rfl | (simp [errW_none, errW_some] <;> rfl) | (simp [*, errW_none, errW_some] <;> rfl), by repeat (first | (with_reducible first | exact HB.out | apply below_alloc | apply pw_below_drewN | apply below_drew1 | refine below_set ?_ GE102.out) | exact HB.out)⟩
      · replace c14 := Bool.eq_false_iff.mpr c14
        subst c14
        have H1 : (policy_May.l0 kj1 l0_5 (l0_5.length : Int) 0 a0_0 a0_1 a0_2 a0_3 a0_4 l0_5 a0_6 a0_7 a0_8) = some r := by rw [if_neg (show ¬ (false = true) by decide)] at H; exact H
        clear H
        have H := H1
        clear H1
        have H' := Aside0.mk H
        clear H
        have hcz15_0 : wc.cell? ⟨gb102, 0, none⟩ = some (.string a0_0) := (blk_cell BK102.out 0).trans rfl
        have hcz15_1 : wc.cell? ⟨gb102, 1, none⟩ = some (.string a0_1) := (blk_cell BK102.out 1).trans rfl
        have hcz15_2 : wc.cell? ⟨gb102, 2, none⟩ = some (.string a0_2) := (blk_cell BK102.out 2).trans rfl
        have hcz15_3 : wc.cell? ⟨gb102, 3, none⟩ = some (.int .i64 a0_3) := (blk_cell BK102.out 3).trans rfl
        have hcz15_4 : wc.cell? ⟨gb102, 4, none⟩ = some (.int .i64 a0_4) := (blk_cell BK102.out 4).trans rfl
        have hcz15_5 : wc.cell? ⟨gb102, 5, none⟩ = some (.slice A0_5 l0_5.length c0_5) := (blk_cell BK102.out 5).trans rfl
        have hcz15_6 : wc.cell? ⟨gb102, 6, none⟩ = some (.int .i64 a0_6) := (blk_cell BK102.out 6).trans rfl
        have hcz15_7 : wc.cell? ⟨gb102, 7, none⟩ = some (.int .i64 a0_7) := (blk_cell BK102.out 7).trans rfl
        have hcz15_8 : wc.cell? ⟨gb102, 8, none⟩ = some (.int .i64 a0_8) := (blk_cell BK102.out 8).trans rfl
        have hfz15_0 := blk_frozen BK102.out 0
        have hfz15_1 := blk_frozen BK102.out 1
        have hfz15_2 := blk_frozen BK102.out 2
        have hfz15_3 := blk_frozen BK102.out 3
        have hfz15_4 := blk_frozen BK102.out 4
        have hfz15_5 := blk_frozen BK102.out 5
        have hfz15_6 := blk_frozen BK102.out 6
        have hfz15_7 := blk_frozen BK102.out 7
        have hfz15_8 := blk_frozen BK102.out 8
        go_wp2
        go_loopg [30] kj1 (fun kq v30 w' => ∃ (x30_2 : Int), v30 = .int .i64 x30_2 ∧ Aside0 (policy_May.l0 kq l0_5 (l0_5.length : Int) x30_2 a0_0 a0_1 a0_2 a0_3 a0_4 l0_5 a0_6 a0_7 a0_8 = some r) ∧ Aside0 (kq ≤ kj1) ∧ Aside0 (w'.heap[gb102]? = some (.cells #[.string a0_0, .string a0_1, .string a0_2, .int .i64 a0_3, .int .i64 a0_4, (.slice A0_5 l0_5.length c0_5), .int .i64 a0_6, .int .i64 a0_7, .int .i64 a0_8] 33 (0, 0))) ∧ Aside0 (Below w.heap.size w w'))
        case atStart => exact ⟨(0), (by first | rfl | (simp; done) | (simp [*]; done)), H', ⟨Nat.le_refl _⟩, ⟨by (with_reducible repeat (first | refine blk_drewN ?_ _ | refine blk_drew ?_ | refine blk_alloc ?_ _)); exact BK102.out⟩, ⟨by repeat (first | (with_reducible first | exact HB.out | apply below_alloc | apply pw_below_drewN | apply below_drew1 | refine below_set ?_ GE102.out) | exact HB.out)⟩⟩
        case round =>
          clear H'
          try clear c1
          try clear c2
          try clear p2
          try clear c5
          try clear c7
          try clear c9
          try clear c13
          try clear c14
          try clear hcz10_0
          try clear hcz10_1
          try clear hcz10_2
          try clear hcz10_3
          try clear hcz10_4
          try clear hcz10_5
          try clear hcz10_6
          try clear hcz10_7
          try clear hcz10_8
          try clear hcz11_0
          try clear hcz11_1
          try clear hcz11_2
          try clear hcz11_3
          try clear hcz11_4
          try clear hcz11_5
          try clear hcz11_6
          try clear hcz11_7
          try clear hcz11_8
          try clear hcz12_0
          try clear hcz12_1
          try clear hcz12_2
          try clear hcz12_3
          try clear hcz12_4
          try clear hcz12_5
          try clear hcz12_6
          try clear hcz12_7
          try clear hcz12_8
          try clear hcz13_0
          try clear hcz13_1
          try clear hcz13_2
          try clear hcz13_3
          try clear hcz13_4
          try clear hcz13_5
          try clear hcz13_6
          try clear hcz13_7
          try clear hcz13_8
          try clear hcz15_0
          try clear hcz15_1
          try clear hcz15_2
          try clear hcz15_3
          try clear hcz15_4
          try clear hcz15_5
          try clear hcz15_6
          try clear hcz15_7
          try clear hcz15_8
          try clear hfz10_0
          try clear hfz10_1
          try clear hfz10_2
          try clear hfz10_3
          try clear hfz10_4
          try clear hfz10_5
          try clear hfz10_6
          try clear hfz10_7
          try clear hfz10_8
          try clear hfz11_0
          try clear hfz11_1
          try clear hfz11_2
          try clear hfz11_3
          try clear hfz11_4
          try clear hfz11_5
          try clear hfz11_6
          try clear hfz11_7
          try clear hfz11_8
          try clear hfz12_0
          try clear hfz12_1
          try clear hfz12_2
          try clear hfz12_3
          try clear hfz12_4
          try clear hfz12_5
          try clear hfz12_6
          try clear hfz12_7
          try clear hfz12_8
          try clear hfz13_0
          try clear hfz13_1
          try clear hfz13_2
          try clear hfz13_3
          try clear hfz13_4
          try clear hfz13_5
          try clear hfz13_6
          try clear hfz13_7
          try clear hfz13_8
          try clear hfz15_0
          try clear hfz15_1
          try clear hfz15_2
          try clear hfz15_3
          try clear hfz15_4
          try clear hfz15_5
          try clear hfz15_6
          try clear hfz15_7
          try clear hfz15_8
          try clear p2
          obtain ⟨x30_2, rfl, HA, HK2, BK102, HB⟩ := hrel
          cases gk with
          | zero => exact absurd HA.out (by simp [policy_May.l0])
          | succ k2 =>
            have H := HA.out
            clear HA
            simp only [policy_May.l0] at H
            by_cases c16 : x30_2 < (l0_5.length : Int)
            · rw [if_pos c16] at H
              have c16b0 : decide (x30_2 < (l0_5.length : Int)) = true := decide_eq_true c16
              clear c16
              by_cases c17 : 0 ≤ x30_2
              · rw [if_pos c17] at H
                have c17b0 : decide (0 ≤ x30_2) = true := decide_eq_true c17
                clear c17
                by_cases c18 : x30_2 < (l0_5.length : Int)
                · rw [if_pos c18] at H
                  have c18b0 : decide (x30_2 < (l0_5.length : Int)) = true := decide_eq_true c18
                  clear c18
                  replace H := Option.bind_eq_some_iff.mp H
                  obtain ⟨t107, A190, H⟩ := H
                  replace H : (if t107 = true then (if x30_2 > 0 then (if 0 ≤ (wrap64 (x30_2 - 1)) then (if (wrap64 (x30_2 - 1)) < (l0_5.length : Int) then (if (rd l0_5 (wrap64 (x30_2 - 1))) ≥ (rd l0_5 x30_2) then (some false) else (policy_May.l0 k2 l0_5 (l0_5.length : Int) (wrap64 (x30_2 + 1)) a0_0 a0_1 a0_2 a0_3 a0_4 l0_5 a0_6 a0_7 a0_8)) else (none)) else (none)) else (policy_May.l0 k2 l0_5 (l0_5.length : Int) (wrap64 (x30_2 + 1)) a0_0 a0_1 a0_2 a0_3 a0_4 l0_5 a0_6 a0_7 a0_8)) else (some false)) = some r := H
                  have A19 := Aside0.mk A190
                  clear A190
                  by_cases c20 : t107 = true
                  · subst c20
                    have H1 : (if x30_2 > 0 then (if 0 ≤ (wrap64 (x30_2 - 1)) then (if (wrap64 (x30_2 - 1)) < (l0_5.length : Int) then (if (rd l0_5 (wrap64 (x30_2 - 1))) ≥ (rd l0_5 x30_2) then (some false) else (policy_May.l0 k2 l0_5 (l0_5.length : Int) (wrap64 (x30_2 + 1)) a0_0 a0_1 a0_2 a0_3 a0_4 l0_5 a0_6 a0_7 a0_8)) else (none)) else (none)) else (policy_May.l0 k2 l0_5 (l0_5.length : Int) (wrap64 (x30_2 + 1)) a0_0 a0_1 a0_2 a0_3 a0_4 l0_5 a0_6 a0_7 a0_8)) = some r := by rw [if_pos rfl] at H; exact H
                    clear H
                    have H := H1
                    clear H1
                    by_cases c21 : x30_2 > 0
                    · rw [if_pos c21] at H
                      have c21b0 : decide (0 < x30_2) = true := decide_eq_true c21
                      clear c21
                      obtain ⟨ji22, hji22⟩ : ∃ j_ : Int, (wrap64 (x30_2 - 1)) = j_ := ⟨_, rfl⟩
                      replace H : (if 0 ≤ (ji22) then (if (ji22) < (l0_5.length : Int) then (if (rd l0_5 (ji22)) ≥ (rd l0_5 x30_2) then (some false) else (policy_May.l0 k2 l0_5 (l0_5.length : Int) (wrap64 (x30_2 + 1)) a0_0 a0_1 a0_2 a0_3 a0_4 l0_5 a0_6 a0_7 a0_8)) else (none)) else (none)) = some r := by first | (rw [hji22] at H; exact H) | (simp only [hji22] at H ⊢; exact H)
                      (try rw [hji22] at A19)
                      have hji22w : (IntKind.i64.wrap (x30_2 - 1)) = ji22 := (i64_w _).trans hji22
                      by_cases c23 : 0 ≤ (ji22)
                      · rw [if_pos c23] at H
                        have c23b0 : decide (0 ≤ (ji22)) = true := decide_eq_true c23
                        clear c23
                        by_cases c24 : (ji22) < (l0_5.length : Int)
                        · rw [if_pos c24] at H
                          have c24b0 : decide ((ji22) < (l0_5.length : Int)) = true := decide_eq_true c24
                          clear c24
                          by_cases c25 : (rd l0_5 (ji22)) ≥ (rd l0_5 x30_2)
                          · rw [if_pos c25] at H
                            have c25b0 : decide ((rd l0_5 x30_2) ≤ (rd l0_5 (ji22))) = true := decide_eq_true c25
                            clear c25
                            obtain rfl := Option.some.inj H
                            have p106 : 0 ≤ (x30_2 : Int) := of_decide_eq_true (by first | (with_reducible assumption) | assumption)
                            have q106 : x30_2 < (l0_5.length : Int) := of_decide_eq_true (by first | (with_reducible assumption) | assumption)
                            obtain ⟨ad106, e106, hx106_0⟩ := Kd.at_int HR0_5.out x30_2 p106 q106
                            cases e106
                            replace hx106_0 := (HB.out.cell (World.block_lt_of_cell? w _ hx106_0)).trans hx106_0
                            replace p106 := eq_true p106
                            replace q106 := eq_true q106
                            go_wp2_with (first | ((with_reducible refine gate_callee (f := 29) rfl ?_); refine goesL_ (some 36) rfl rfl Try.func29 (by kernel_rfl) rfl #[.int .i64 (rd l0_5 x30_2), .int .i64 0, .int .i64 1048576] rfl (by (try simp only [List.map_toArray, List.map_cons, List.map_nil]); first | done | rfl | (simp only [List.length_drop, List.length_take]; rfl)) ?_; (with_reducible refine (policy_within.calls (rd l0_5 x30_2) 0 1048576 true _ A19.out).mono ?_); rintro e w' ⟨rfl, ⟨nd, rfl⟩⟩; refine ⟨_, rfl, ?_⟩; have hcz26_0 : wr.cell? ⟨gb102, 0, none⟩ = some (.string a0_0) := (blk_cell BK102.out 0).trans rfl; have hcz26_1 : wr.cell? ⟨gb102, 1, none⟩ = some (.string a0_1) := (blk_cell BK102.out 1).trans rfl; have hcz26_2 : wr.cell? ⟨gb102, 2, none⟩ = some (.string a0_2) := (blk_cell BK102.out 2).trans rfl; have hcz26_3 : wr.cell? ⟨gb102, 3, none⟩ = some (.int .i64 a0_3) := (blk_cell BK102.out 3).trans rfl; have hcz26_4 : wr.cell? ⟨gb102, 4, none⟩ = some (.int .i64 a0_4) := (blk_cell BK102.out 4).trans rfl; have hcz26_5 : wr.cell? ⟨gb102, 5, none⟩ = some (.slice (some ad106) l0_5.length c0_5) := (blk_cell BK102.out 5).trans rfl; have hcz26_6 : wr.cell? ⟨gb102, 6, none⟩ = some (.int .i64 a0_6) := (blk_cell BK102.out 6).trans rfl; have hcz26_7 : wr.cell? ⟨gb102, 7, none⟩ = some (.int .i64 a0_7) := (blk_cell BK102.out 7).trans rfl; have hcz26_8 : wr.cell? ⟨gb102, 8, none⟩ = some (.int .i64 a0_8) := (blk_cell BK102.out 8).trans rfl; have hfz26_0 := blk_frozen BK102.out 0; have hfz26_1 := blk_frozen BK102.out 1; have hfz26_2 := blk_frozen BK102.out 2; have hfz26_3 := blk_frozen BK102.out 3; have hfz26_4 := blk_frozen BK102.out 4; have hfz26_5 := blk_frozen BK102.out 5; have hfz26_6 := blk_frozen BK102.out 6; have hfz26_7 := blk_frozen BK102.out 7; have hfz26_8 := blk_frozen BK102.out 8; have p108 : 0 ≤ ((ji22) : Int) := of_decide_eq_true (by first | (with_reducible assumption) | assumption); have q108 : (ji22) < (l0_5.length : Int) := of_decide_eq_true (by first | (with_reducible assumption) | assumption); obtain ⟨ad108, e108, hx108_0⟩ := Kd.at_int HR0_5.out (ji22) p108 q108; obtain rfl : ad106 = ad108 := (by injection e108); replace hx108_0 := (HB.out.cell (World.block_lt_of_cell? w _ hx108_0)).trans hx108_0; replace p108 := eq_true p108; replace q108 := eq_true q108))
                            go_ret
                            exact ⟨by first | rfl | (simp [errW_none, errW_some] <;> rfl) | (simp only [← hji22]; first | rfl | (simp [errW_none, errW_some] <;> rfl)) | (simp [*, errW_none, errW_some] <;> rfl), by repeat (first | (with_reducible first | exact HB.out | apply below_alloc | apply pw_below_drewN | apply below_drew1 | refine below_set ?_ GE102.out) | exact HB.out)⟩
                          · rw [if_neg c25] at H
                            have c25b0 : decide ((rd l0_5 x30_2) ≤ (rd l0_5 (ji22))) = false := decide_eq_false c25
                            clear c25
                            have H' := Aside0.mk H
                            clear H
                            have p106 : 0 ≤ (x30_2 : Int) := of_decide_eq_true (by first | (with_reducible assumption) | assumption)
                            have q106 : x30_2 < (l0_5.length : Int) := of_decide_eq_true (by first | (with_reducible assumption) | assumption)
                            obtain ⟨ad106, e106, hx106_0⟩ := Kd.at_int HR0_5.out x30_2 p106 q106
                            cases e106
                            replace hx106_0 := (HB.out.cell (World.block_lt_of_cell? w _ hx106_0)).trans hx106_0
                            replace p106 := eq_true p106
                            replace q106 := eq_true q106
                            go_wp2_with (first | ((with_reducible refine gate_callee (f := 29) rfl ?_); refine goesL_ (some 36) rfl rfl Try.func29 (by kernel_rfl) rfl #[.int .i64 (rd l0_5 x30_2), .int .i64 0, .int .i64 1048576] rfl (by (try simp only [List.map_toArray, List.map_cons, List.map_nil]); first | done | rfl | (simp only [List.length_drop, List.length_take]; rfl)) ?_; (with_reducible refine (policy_within.calls (rd l0_5 x30_2) 0 1048576 true _ A19.out).mono ?_); rintro e w' ⟨rfl, ⟨nd, rfl⟩⟩; refine ⟨_, rfl, ?_⟩; have hcz27_0 : wr.cell? ⟨gb102, 0, none⟩ = some (.string a0_0) := (blk_cell BK102.out 0).trans rfl; have hcz27_1 : wr.cell? ⟨gb102, 1, none⟩ = some (.string a0_1) := (blk_cell BK102.out 1).trans rfl; have hcz27_2 : wr.cell? ⟨gb102, 2, none⟩ = some (.string a0_2) := (blk_cell BK102.out 2).trans rfl; have hcz27_3 : wr.cell? ⟨gb102, 3, none⟩ = some (.int .i64 a0_3) := (blk_cell BK102.out 3).trans rfl; have hcz27_4 : wr.cell? ⟨gb102, 4, none⟩ = some (.int .i64 a0_4) := (blk_cell BK102.out 4).trans rfl; have hcz27_5 : wr.cell? ⟨gb102, 5, none⟩ = some (.slice (some ad106) l0_5.length c0_5) := (blk_cell BK102.out 5).trans rfl; have hcz27_6 : wr.cell? ⟨gb102, 6, none⟩ = some (.int .i64 a0_6) := (blk_cell BK102.out 6).trans rfl; have hcz27_7 : wr.cell? ⟨gb102, 7, none⟩ = some (.int .i64 a0_7) := (blk_cell BK102.out 7).trans rfl; have hcz27_8 : wr.cell? ⟨gb102, 8, none⟩ = some (.int .i64 a0_8) := (blk_cell BK102.out 8).trans rfl; have hfz27_0 := blk_frozen BK102.out 0; have hfz27_1 := blk_frozen BK102.out 1; have hfz27_2 := blk_frozen BK102.out 2; have hfz27_3 := blk_frozen BK102.out 3; have hfz27_4 := blk_frozen BK102.out 4; have hfz27_5 := blk_frozen BK102.out 5; have hfz27_6 := blk_frozen BK102.out 6; have hfz27_7 := blk_frozen BK102.out 7; have hfz27_8 := blk_frozen BK102.out 8; have p108 : 0 ≤ ((ji22) : Int) := of_decide_eq_true (by first | (with_reducible assumption) | assumption); have q108 : (ji22) < (l0_5.length : Int) := of_decide_eq_true (by first | (with_reducible assumption) | assumption); obtain ⟨ad108, e108, hx108_0⟩ := Kd.at_int HR0_5.out (ji22) p108 q108; obtain rfl : ad106 = ad108 := (by injection e108); replace hx108_0 := (HB.out.cell (World.block_lt_of_cell? w _ hx108_0)).trans hx108_0; replace p108 := eq_true p108; replace q108 := eq_true q108))
                            go_roundg k2
                            case measure => have := HJ1.out; have := HK2.out; omega
                            case rel => exact ⟨(wrap64 (x30_2 + 1)), (by first | rfl | (simp; done) | (simp [*]; done)), H', ⟨by have := HJ1.out; have := HK2.out; omega⟩, ⟨by (with_reducible repeat (first | refine blk_drewN ?_ _ | refine blk_drew ?_ | refine blk_alloc ?_ _)); exact BK102.out⟩, ⟨by repeat (first | (with_reducible first | exact HB.out | apply below_alloc | apply pw_below_drewN | apply below_drew1 | refine below_set ?_ GE102.out) | exact HB.out)⟩⟩
                        · rw [if_neg c24] at H
                          exact absurd H (by simp)
                      · rw [if_neg c23] at H
                        exact absurd H (by simp)
                    · rw [if_neg c21] at H
                      have c21b0 : decide (0 < x30_2) = false := decide_eq_false c21
                      clear c21
                      have H' := Aside0.mk H
                      clear H
                      have p106 : 0 ≤ (x30_2 : Int) := of_decide_eq_true (by first | (with_reducible assumption) | assumption)
                      have q106 : x30_2 < (l0_5.length : Int) := of_decide_eq_true (by first | (with_reducible assumption) | assumption)
                      obtain ⟨ad106, e106, hx106_0⟩ := Kd.at_int HR0_5.out x30_2 p106 q106
                      cases e106
                      replace hx106_0 := (HB.out.cell (World.block_lt_of_cell? w _ hx106_0)).trans hx106_0
                      replace p106 := eq_true p106
                      replace q106 := eq_true q106
                      go_wp2_with (first | ((with_reducible refine gate_callee (f := 29) rfl ?_); refine goesL_ (some 36) rfl rfl Try.func29 (by kernel_rfl) rfl #[.int .i64 (rd l0_5 x30_2), .int .i64 0, .int .i64 1048576] rfl (by (try simp only [List.map_toArray, List.map_cons, List.map_nil]); first | done | rfl | (simp only [List.length_drop, List.length_take]; rfl)) ?_; (with_reducible refine (policy_within.calls (rd l0_5 x30_2) 0 1048576 true _ A19.out).mono ?_); rintro e w' ⟨rfl, ⟨nd, rfl⟩⟩; refine ⟨_, rfl, ?_⟩))
                      go_roundg k2
                      case measure => have := HJ1.out; have := HK2.out; omega
                      case rel => exact ⟨(wrap64 (x30_2 + 1)), (by first | rfl | (simp; done) | (simp [*]; done)), H', ⟨by have := HJ1.out; have := HK2.out; omega⟩, ⟨by (with_reducible repeat (first | refine blk_drewN ?_ _ | refine blk_drew ?_ | refine blk_alloc ?_ _)); exact BK102.out⟩, ⟨by repeat (first | (with_reducible first | exact HB.out | apply below_alloc | apply pw_below_drewN | apply below_drew1 | refine below_set ?_ GE102.out) | exact HB.out)⟩⟩
                  · replace c20 := Bool.eq_false_iff.mpr c20
                    subst c20
                    have H1 : (some false) = some r := by rw [if_neg (show ¬ (false = true) by decide)] at H; exact H
                    clear H
                    have H := H1
                    clear H1
                    obtain rfl := Option.some.inj H
                    have p106 : 0 ≤ (x30_2 : Int) := of_decide_eq_true (by first | (with_reducible assumption) | assumption)
                    have q106 : x30_2 < (l0_5.length : Int) := of_decide_eq_true (by first | (with_reducible assumption) | assumption)
                    obtain ⟨ad106, e106, hx106_0⟩ := Kd.at_int HR0_5.out x30_2 p106 q106
                    cases e106
                    replace hx106_0 := (HB.out.cell (World.block_lt_of_cell? w _ hx106_0)).trans hx106_0
                    replace p106 := eq_true p106
                    replace q106 := eq_true q106
                    go_wp2_with (first | ((with_reducible refine gate_callee (f := 29) rfl ?_); refine goesL_ (some 36) rfl rfl Try.func29 (by kernel_rfl) rfl #[.int .i64 (rd l0_5 x30_2), .int .i64 0, .int .i64 1048576] rfl (by (try simp only [List.map_toArray, List.map_cons, List.map_nil]); first | done | rfl | (simp only [List.length_drop, List.length_take]; rfl)) ?_; (with_reducible refine (policy_within.calls (rd l0_5 x30_2) 0 1048576 false _ A19.out).mono ?_); rintro e w' ⟨rfl, ⟨nd, rfl⟩⟩; refine ⟨_, rfl, ?_⟩))
                    go_ret
                    exact ⟨by first | rfl | (simp [errW_none, errW_some] <;> rfl) | (simp [*, errW_none, errW_some] <;> rfl), by repeat (first | (with_reducible first | exact HB.out | apply below_alloc | apply pw_below_drewN | apply below_drew1 | refine below_set ?_ GE102.out) | exact HB.out)⟩
                · rw [if_neg c18] at H
                  exact absurd H (by simp)
              · rw [if_neg c17] at H
                exact absurd H (by simp)
            · rw [if_neg c16] at H
              have c16b0 : decide (x30_2 < (l0_5.length : Int)) = false := decide_eq_false c16
              clear c16
              replace H := Option.bind_eq_some_iff.mp H
              obtain ⟨t109, A280, H⟩ := H
              replace H : (if t109 = true then ((policy_within.f a0_4 0 a0_3).bind fun t110 => (if t110 = true then ((policy_within.f a0_8 1 1000).bind fun t111 => (if t111 = true then ((policy_day.f a0_6).bind fun t112 => (if t112 = true then ((policy_day.f a0_7).bind fun t113 => (if t113 = true then (some (decide (a0_6 ≤ a0_7))) else (some false))) else (some false))) else (some false))) else (some false))) else (some false)) = some r := H
              have A28 := Aside0.mk A280
              clear A280
              by_cases c29 : t109 = true
              · subst c29
                have H1 : ((policy_within.f a0_4 0 a0_3).bind fun t110 => (if t110 = true then ((policy_within.f a0_8 1 1000).bind fun t111 => (if t111 = true then ((policy_day.f a0_6).bind fun t112 => (if t112 = true then ((policy_day.f a0_7).bind fun t113 => (if t113 = true then (some (decide (a0_6 ≤ a0_7))) else (some false))) else (some false))) else (some false))) else (some false))) = some r := by rw [if_pos rfl] at H; exact H
                clear H
                have H := H1
                clear H1
                replace H := Option.bind_eq_some_iff.mp H
                obtain ⟨t110, A300, H⟩ := H
                replace H : (if t110 = true then ((policy_within.f a0_8 1 1000).bind fun t111 => (if t111 = true then ((policy_day.f a0_6).bind fun t112 => (if t112 = true then ((policy_day.f a0_7).bind fun t113 => (if t113 = true then (some (decide (a0_6 ≤ a0_7))) else (some false))) else (some false))) else (some false))) else (some false)) = some r := H
                have A30 := Aside0.mk A300
                clear A300
                by_cases c31 : t110 = true
                · subst c31
                  have H1 : ((policy_within.f a0_8 1 1000).bind fun t111 => (if t111 = true then ((policy_day.f a0_6).bind fun t112 => (if t112 = true then ((policy_day.f a0_7).bind fun t113 => (if t113 = true then (some (decide (a0_6 ≤ a0_7))) else (some false))) else (some false))) else (some false))) = some r := by rw [if_pos rfl] at H; exact H
                  clear H
                  have H := H1
                  clear H1
                  replace H := Option.bind_eq_some_iff.mp H
                  obtain ⟨t111, A320, H⟩ := H
                  replace H : (if t111 = true then ((policy_day.f a0_6).bind fun t112 => (if t112 = true then ((policy_day.f a0_7).bind fun t113 => (if t113 = true then (some (decide (a0_6 ≤ a0_7))) else (some false))) else (some false))) else (some false)) = some r := H
                  have A32 := Aside0.mk A320
                  clear A320
                  by_cases c33 : t111 = true
                  · subst c33
                    have H1 : ((policy_day.f a0_6).bind fun t112 => (if t112 = true then ((policy_day.f a0_7).bind fun t113 => (if t113 = true then (some (decide (a0_6 ≤ a0_7))) else (some false))) else (some false))) = some r := by rw [if_pos rfl] at H; exact H
                    clear H
                    have H := H1
                    clear H1
                    replace H := Option.bind_eq_some_iff.mp H
                    obtain ⟨t112, A340, H⟩ := H
                    replace H : (if t112 = true then ((policy_day.f a0_7).bind fun t113 => (if t113 = true then (some (decide (a0_6 ≤ a0_7))) else (some false))) else (some false)) = some r := H
                    have A34 := Aside0.mk A340
                    clear A340
                    by_cases c35 : t112 = true
                    · subst c35
                      have H1 : ((policy_day.f a0_7).bind fun t113 => (if t113 = true then (some (decide (a0_6 ≤ a0_7))) else (some false))) = some r := by rw [if_pos rfl] at H; exact H
                      clear H
                      have H := H1
                      clear H1
                      replace H := Option.bind_eq_some_iff.mp H
                      obtain ⟨t113, A360, H⟩ := H
                      replace H : (if t113 = true then (some (decide (a0_6 ≤ a0_7))) else (some false)) = some r := H
                      have A36 := Aside0.mk A360
                      clear A360
                      by_cases c37 : t113 = true
                      · subst c37
                        have H1 : (some (decide (a0_6 ≤ a0_7))) = some r := by rw [if_pos rfl] at H; exact H
                        clear H
                        have H := H1
                        clear H1
                        obtain rfl := Option.some.inj H
                        have hcz38_0 : wr.cell? ⟨gb102, 0, none⟩ = some (.string a0_0) := (blk_cell BK102.out 0).trans rfl
                        have hcz38_1 : wr.cell? ⟨gb102, 1, none⟩ = some (.string a0_1) := (blk_cell BK102.out 1).trans rfl
                        have hcz38_2 : wr.cell? ⟨gb102, 2, none⟩ = some (.string a0_2) := (blk_cell BK102.out 2).trans rfl
                        have hcz38_3 : wr.cell? ⟨gb102, 3, none⟩ = some (.int .i64 a0_3) := (blk_cell BK102.out 3).trans rfl
                        have hcz38_4 : wr.cell? ⟨gb102, 4, none⟩ = some (.int .i64 a0_4) := (blk_cell BK102.out 4).trans rfl
                        have hcz38_5 : wr.cell? ⟨gb102, 5, none⟩ = some (.slice A0_5 l0_5.length c0_5) := (blk_cell BK102.out 5).trans rfl
                        have hcz38_6 : wr.cell? ⟨gb102, 6, none⟩ = some (.int .i64 a0_6) := (blk_cell BK102.out 6).trans rfl
                        have hcz38_7 : wr.cell? ⟨gb102, 7, none⟩ = some (.int .i64 a0_7) := (blk_cell BK102.out 7).trans rfl
                        have hcz38_8 : wr.cell? ⟨gb102, 8, none⟩ = some (.int .i64 a0_8) := (blk_cell BK102.out 8).trans rfl
                        have hfz38_0 := blk_frozen BK102.out 0
                        have hfz38_1 := blk_frozen BK102.out 1
                        have hfz38_2 := blk_frozen BK102.out 2
                        have hfz38_3 := blk_frozen BK102.out 3
                        have hfz38_4 := blk_frozen BK102.out 4
                        have hfz38_5 := blk_frozen BK102.out 5
                        have hfz38_6 := blk_frozen BK102.out 6
                        have hfz38_7 := blk_frozen BK102.out 7
                        have hfz38_8 := blk_frozen BK102.out 8
                        go_wp2_with (first | ((with_reducible refine gate_callee (f := 29) rfl ?_); refine goesL_ (some 55) rfl rfl Try.func29 (by kernel_rfl) rfl #[.int .i64 a0_3, .int .i64 1, .int .i64 1099511627776] rfl (by (try simp only [List.map_toArray, List.map_cons, List.map_nil]); first | done | rfl | (simp only [List.length_drop, List.length_take]; rfl)) ?_; (with_reducible refine (policy_within.calls a0_3 1 1099511627776 true _ A28.out).mono ?_); rintro e w' ⟨rfl, ⟨nd, rfl⟩⟩; refine ⟨_, rfl, ?_⟩) | (go_at_call 29; (with_reducible refine (policy_within.calls a0_4 0 a0_3 true _ A30.out).mono ?_); rintro e w' ⟨rfl, ⟨nd, rfl⟩⟩) | (go_at_call 29; (with_reducible refine (policy_within.calls a0_8 1 1000 true _ A32.out).mono ?_); rintro e w' ⟨rfl, ⟨nd, rfl⟩⟩) | (go_at_call 30; (with_reducible refine (policy_day.calls a0_6 true _ A34.out).mono ?_); rintro e w' ⟨rfl, ⟨nd, rfl⟩⟩) | (go_at_call 30; (with_reducible refine (policy_day.calls a0_7 true _ A36.out).mono ?_); rintro e w' ⟨rfl, ⟨nd, rfl⟩⟩))
                        go_ret
                        exact ⟨by first | rfl | (simp [errW_none, errW_some] <;> rfl) | (simp [*, errW_none, errW_some] <;> rfl), by repeat (first | (with_reducible first | exact HB.out | apply below_alloc | apply pw_below_drewN | apply below_drew1 | refine below_set ?_ GE102.out) | exact HB.out)⟩
                      · replace c37 := Bool.eq_false_iff.mpr c37
                        subst c37
                        have H1 : (some false) = some r := by rw [if_neg (show ¬ (false = true) by decide)] at H; exact H
                        clear H
                        have H := H1
                        clear H1
                        obtain rfl := Option.some.inj H
                        have hcz39_0 : wr.cell? ⟨gb102, 0, none⟩ = some (.string a0_0) := (blk_cell BK102.out 0).trans rfl
                        have hcz39_1 : wr.cell? ⟨gb102, 1, none⟩ = some (.string a0_1) := (blk_cell BK102.out 1).trans rfl
                        have hcz39_2 : wr.cell? ⟨gb102, 2, none⟩ = some (.string a0_2) := (blk_cell BK102.out 2).trans rfl
                        have hcz39_3 : wr.cell? ⟨gb102, 3, none⟩ = some (.int .i64 a0_3) := (blk_cell BK102.out 3).trans rfl
                        have hcz39_4 : wr.cell? ⟨gb102, 4, none⟩ = some (.int .i64 a0_4) := (blk_cell BK102.out 4).trans rfl
                        have hcz39_5 : wr.cell? ⟨gb102, 5, none⟩ = some (.slice A0_5 l0_5.length c0_5) := (blk_cell BK102.out 5).trans rfl
                        have hcz39_6 : wr.cell? ⟨gb102, 6, none⟩ = some (.int .i64 a0_6) := (blk_cell BK102.out 6).trans rfl
                        have hcz39_7 : wr.cell? ⟨gb102, 7, none⟩ = some (.int .i64 a0_7) := (blk_cell BK102.out 7).trans rfl
                        have hcz39_8 : wr.cell? ⟨gb102, 8, none⟩ = some (.int .i64 a0_8) := (blk_cell BK102.out 8).trans rfl
                        have hfz39_0 := blk_frozen BK102.out 0
                        have hfz39_1 := blk_frozen BK102.out 1
                        have hfz39_2 := blk_frozen BK102.out 2
                        have hfz39_3 := blk_frozen BK102.out 3
                        have hfz39_4 := blk_frozen BK102.out 4
                        have hfz39_5 := blk_frozen BK102.out 5
                        have hfz39_6 := blk_frozen BK102.out 6
                        have hfz39_7 := blk_frozen BK102.out 7
                        have hfz39_8 := blk_frozen BK102.out 8
                        go_wp2_with (first | ((with_reducible refine gate_callee (f := 29) rfl ?_); refine goesL_ (some 55) rfl rfl Try.func29 (by kernel_rfl) rfl #[.int .i64 a0_3, .int .i64 1, .int .i64 1099511627776] rfl (by (try simp only [List.map_toArray, List.map_cons, List.map_nil]); first | done | rfl | (simp only [List.length_drop, List.length_take]; rfl)) ?_; (with_reducible refine (policy_within.calls a0_3 1 1099511627776 true _ A28.out).mono ?_); rintro e w' ⟨rfl, ⟨nd, rfl⟩⟩; refine ⟨_, rfl, ?_⟩) | (go_at_call 29; (with_reducible refine (policy_within.calls a0_4 0 a0_3 true _ A30.out).mono ?_); rintro e w' ⟨rfl, ⟨nd, rfl⟩⟩) | (go_at_call 29; (with_reducible refine (policy_within.calls a0_8 1 1000 true _ A32.out).mono ?_); rintro e w' ⟨rfl, ⟨nd, rfl⟩⟩) | (go_at_call 30; (with_reducible refine (policy_day.calls a0_6 true _ A34.out).mono ?_); rintro e w' ⟨rfl, ⟨nd, rfl⟩⟩) | (go_at_call 30; (with_reducible refine (policy_day.calls a0_7 false _ A36.out).mono ?_); rintro e w' ⟨rfl, ⟨nd, rfl⟩⟩))
                        go_ret
                        exact ⟨by first | rfl | (simp [errW_none, errW_some] <;> rfl) | (simp [*, errW_none, errW_some] <;> rfl), by repeat (first | (with_reducible first | exact HB.out | apply below_alloc | apply pw_below_drewN | apply below_drew1 | refine below_set ?_ GE102.out) | exact HB.out)⟩
                    · replace c35 := Bool.eq_false_iff.mpr c35
                      subst c35
                      have H1 : (some false) = some r := by rw [if_neg (show ¬ (false = true) by decide)] at H; exact H
                      clear H
                      have H := H1
                      clear H1
                      obtain rfl := Option.some.inj H
                      have hcz40_0 : wr.cell? ⟨gb102, 0, none⟩ = some (.string a0_0) := (blk_cell BK102.out 0).trans rfl
                      have hcz40_1 : wr.cell? ⟨gb102, 1, none⟩ = some (.string a0_1) := (blk_cell BK102.out 1).trans rfl
                      have hcz40_2 : wr.cell? ⟨gb102, 2, none⟩ = some (.string a0_2) := (blk_cell BK102.out 2).trans rfl
                      have hcz40_3 : wr.cell? ⟨gb102, 3, none⟩ = some (.int .i64 a0_3) := (blk_cell BK102.out 3).trans rfl
                      have hcz40_4 : wr.cell? ⟨gb102, 4, none⟩ = some (.int .i64 a0_4) := (blk_cell BK102.out 4).trans rfl
                      have hcz40_5 : wr.cell? ⟨gb102, 5, none⟩ = some (.slice A0_5 l0_5.length c0_5) := (blk_cell BK102.out 5).trans rfl
                      have hcz40_6 : wr.cell? ⟨gb102, 6, none⟩ = some (.int .i64 a0_6) := (blk_cell BK102.out 6).trans rfl
                      have hcz40_7 : wr.cell? ⟨gb102, 7, none⟩ = some (.int .i64 a0_7) := (blk_cell BK102.out 7).trans rfl
                      have hcz40_8 : wr.cell? ⟨gb102, 8, none⟩ = some (.int .i64 a0_8) := (blk_cell BK102.out 8).trans rfl
                      have hfz40_0 := blk_frozen BK102.out 0
                      have hfz40_1 := blk_frozen BK102.out 1
                      have hfz40_2 := blk_frozen BK102.out 2
                      have hfz40_3 := blk_frozen BK102.out 3
                      have hfz40_4 := blk_frozen BK102.out 4
                      have hfz40_5 := blk_frozen BK102.out 5
                      have hfz40_6 := blk_frozen BK102.out 6
                      have hfz40_7 := blk_frozen BK102.out 7
                      have hfz40_8 := blk_frozen BK102.out 8
                      go_wp2_with (first | ((with_reducible refine gate_callee (f := 29) rfl ?_); refine goesL_ (some 55) rfl rfl Try.func29 (by kernel_rfl) rfl #[.int .i64 a0_3, .int .i64 1, .int .i64 1099511627776] rfl (by (try simp only [List.map_toArray, List.map_cons, List.map_nil]); first | done | rfl | (simp only [List.length_drop, List.length_take]; rfl)) ?_; (with_reducible refine (policy_within.calls a0_3 1 1099511627776 true _ A28.out).mono ?_); rintro e w' ⟨rfl, ⟨nd, rfl⟩⟩; refine ⟨_, rfl, ?_⟩) | (go_at_call 29; (with_reducible refine (policy_within.calls a0_4 0 a0_3 true _ A30.out).mono ?_); rintro e w' ⟨rfl, ⟨nd, rfl⟩⟩) | (go_at_call 29; (with_reducible refine (policy_within.calls a0_8 1 1000 true _ A32.out).mono ?_); rintro e w' ⟨rfl, ⟨nd, rfl⟩⟩) | (go_at_call 30; (with_reducible refine (policy_day.calls a0_6 false _ A34.out).mono ?_); rintro e w' ⟨rfl, ⟨nd, rfl⟩⟩))
                      go_ret
                      exact ⟨by first | rfl | (simp [errW_none, errW_some] <;> rfl) | (simp [*, errW_none, errW_some] <;> rfl), by repeat (first | (with_reducible first | exact HB.out | apply below_alloc | apply pw_below_drewN | apply below_drew1 | refine below_set ?_ GE102.out) | exact HB.out)⟩
                  · replace c33 := Bool.eq_false_iff.mpr c33
                    subst c33
                    have H1 : (some false) = some r := by rw [if_neg (show ¬ (false = true) by decide)] at H; exact H
                    clear H
                    have H := H1
                    clear H1
                    obtain rfl := Option.some.inj H
                    have hcz41_0 : wr.cell? ⟨gb102, 0, none⟩ = some (.string a0_0) := (blk_cell BK102.out 0).trans rfl
                    have hcz41_1 : wr.cell? ⟨gb102, 1, none⟩ = some (.string a0_1) := (blk_cell BK102.out 1).trans rfl
                    have hcz41_2 : wr.cell? ⟨gb102, 2, none⟩ = some (.string a0_2) := (blk_cell BK102.out 2).trans rfl
                    have hcz41_3 : wr.cell? ⟨gb102, 3, none⟩ = some (.int .i64 a0_3) := (blk_cell BK102.out 3).trans rfl
                    have hcz41_4 : wr.cell? ⟨gb102, 4, none⟩ = some (.int .i64 a0_4) := (blk_cell BK102.out 4).trans rfl
                    have hcz41_5 : wr.cell? ⟨gb102, 5, none⟩ = some (.slice A0_5 l0_5.length c0_5) := (blk_cell BK102.out 5).trans rfl
                    have hcz41_6 : wr.cell? ⟨gb102, 6, none⟩ = some (.int .i64 a0_6) := (blk_cell BK102.out 6).trans rfl
                    have hcz41_7 : wr.cell? ⟨gb102, 7, none⟩ = some (.int .i64 a0_7) := (blk_cell BK102.out 7).trans rfl
                    have hcz41_8 : wr.cell? ⟨gb102, 8, none⟩ = some (.int .i64 a0_8) := (blk_cell BK102.out 8).trans rfl
                    have hfz41_0 := blk_frozen BK102.out 0
                    have hfz41_1 := blk_frozen BK102.out 1
                    have hfz41_2 := blk_frozen BK102.out 2
                    have hfz41_3 := blk_frozen BK102.out 3
                    have hfz41_4 := blk_frozen BK102.out 4
                    have hfz41_5 := blk_frozen BK102.out 5
                    have hfz41_6 := blk_frozen BK102.out 6
                    have hfz41_7 := blk_frozen BK102.out 7
                    have hfz41_8 := blk_frozen BK102.out 8
                    go_wp2_with (first | ((with_reducible refine gate_callee (f := 29) rfl ?_); refine goesL_ (some 55) rfl rfl Try.func29 (by kernel_rfl) rfl #[.int .i64 a0_3, .int .i64 1, .int .i64 1099511627776] rfl (by (try simp only [List.map_toArray, List.map_cons, List.map_nil]); first | done | rfl | (simp only [List.length_drop, List.length_take]; rfl)) ?_; (with_reducible refine (policy_within.calls a0_3 1 1099511627776 true _ A28.out).mono ?_); rintro e w' ⟨rfl, ⟨nd, rfl⟩⟩; refine ⟨_, rfl, ?_⟩) | (go_at_call 29; (with_reducible refine (policy_within.calls a0_4 0 a0_3 true _ A30.out).mono ?_); rintro e w' ⟨rfl, ⟨nd, rfl⟩⟩) | (go_at_call 29; (with_reducible refine (policy_within.calls a0_8 1 1000 false _ A32.out).mono ?_); rintro e w' ⟨rfl, ⟨nd, rfl⟩⟩))
                    go_ret
                    exact ⟨by first | rfl | (simp [errW_none, errW_some] <;> rfl) | (simp [*, errW_none, errW_some] <;> rfl), by repeat (first | (with_reducible first | exact HB.out | apply below_alloc | apply pw_below_drewN | apply below_drew1 | refine below_set ?_ GE102.out) | exact HB.out)⟩
                · replace c31 := Bool.eq_false_iff.mpr c31
                  subst c31
                  have H1 : (some false) = some r := by rw [if_neg (show ¬ (false = true) by decide)] at H; exact H
                  clear H
                  have H := H1
                  clear H1
                  obtain rfl := Option.some.inj H
                  have hcz42_0 : wr.cell? ⟨gb102, 0, none⟩ = some (.string a0_0) := (blk_cell BK102.out 0).trans rfl
                  have hcz42_1 : wr.cell? ⟨gb102, 1, none⟩ = some (.string a0_1) := (blk_cell BK102.out 1).trans rfl
                  have hcz42_2 : wr.cell? ⟨gb102, 2, none⟩ = some (.string a0_2) := (blk_cell BK102.out 2).trans rfl
                  have hcz42_3 : wr.cell? ⟨gb102, 3, none⟩ = some (.int .i64 a0_3) := (blk_cell BK102.out 3).trans rfl
                  have hcz42_4 : wr.cell? ⟨gb102, 4, none⟩ = some (.int .i64 a0_4) := (blk_cell BK102.out 4).trans rfl
                  have hcz42_5 : wr.cell? ⟨gb102, 5, none⟩ = some (.slice A0_5 l0_5.length c0_5) := (blk_cell BK102.out 5).trans rfl
                  have hcz42_6 : wr.cell? ⟨gb102, 6, none⟩ = some (.int .i64 a0_6) := (blk_cell BK102.out 6).trans rfl
                  have hcz42_7 : wr.cell? ⟨gb102, 7, none⟩ = some (.int .i64 a0_7) := (blk_cell BK102.out 7).trans rfl
                  have hcz42_8 : wr.cell? ⟨gb102, 8, none⟩ = some (.int .i64 a0_8) := (blk_cell BK102.out 8).trans rfl
                  have hfz42_0 := blk_frozen BK102.out 0
                  have hfz42_1 := blk_frozen BK102.out 1
                  have hfz42_2 := blk_frozen BK102.out 2
                  have hfz42_3 := blk_frozen BK102.out 3
                  have hfz42_4 := blk_frozen BK102.out 4
                  have hfz42_5 := blk_frozen BK102.out 5
                  have hfz42_6 := blk_frozen BK102.out 6
                  have hfz42_7 := blk_frozen BK102.out 7
                  have hfz42_8 := blk_frozen BK102.out 8
                  go_wp2_with (first | ((with_reducible refine gate_callee (f := 29) rfl ?_); refine goesL_ (some 55) rfl rfl Try.func29 (by kernel_rfl) rfl #[.int .i64 a0_3, .int .i64 1, .int .i64 1099511627776] rfl (by (try simp only [List.map_toArray, List.map_cons, List.map_nil]); first | done | rfl | (simp only [List.length_drop, List.length_take]; rfl)) ?_; (with_reducible refine (policy_within.calls a0_3 1 1099511627776 true _ A28.out).mono ?_); rintro e w' ⟨rfl, ⟨nd, rfl⟩⟩; refine ⟨_, rfl, ?_⟩) | (go_at_call 29; (with_reducible refine (policy_within.calls a0_4 0 a0_3 false _ A30.out).mono ?_); rintro e w' ⟨rfl, ⟨nd, rfl⟩⟩))
                  go_ret
                  exact ⟨by first | rfl | (simp [errW_none, errW_some] <;> rfl) | (simp [*, errW_none, errW_some] <;> rfl), by repeat (first | (with_reducible first | exact HB.out | apply below_alloc | apply pw_below_drewN | apply below_drew1 | refine below_set ?_ GE102.out) | exact HB.out)⟩
              · replace c29 := Bool.eq_false_iff.mpr c29
                subst c29
                have H1 : (some false) = some r := by rw [if_neg (show ¬ (false = true) by decide)] at H; exact H
                clear H
                have H := H1
                clear H1
                obtain rfl := Option.some.inj H
                have hcz43_0 : wr.cell? ⟨gb102, 0, none⟩ = some (.string a0_0) := (blk_cell BK102.out 0).trans rfl
                have hcz43_1 : wr.cell? ⟨gb102, 1, none⟩ = some (.string a0_1) := (blk_cell BK102.out 1).trans rfl
                have hcz43_2 : wr.cell? ⟨gb102, 2, none⟩ = some (.string a0_2) := (blk_cell BK102.out 2).trans rfl
                have hcz43_3 : wr.cell? ⟨gb102, 3, none⟩ = some (.int .i64 a0_3) := (blk_cell BK102.out 3).trans rfl
                have hcz43_4 : wr.cell? ⟨gb102, 4, none⟩ = some (.int .i64 a0_4) := (blk_cell BK102.out 4).trans rfl
                have hcz43_5 : wr.cell? ⟨gb102, 5, none⟩ = some (.slice A0_5 l0_5.length c0_5) := (blk_cell BK102.out 5).trans rfl
                have hcz43_6 : wr.cell? ⟨gb102, 6, none⟩ = some (.int .i64 a0_6) := (blk_cell BK102.out 6).trans rfl
                have hcz43_7 : wr.cell? ⟨gb102, 7, none⟩ = some (.int .i64 a0_7) := (blk_cell BK102.out 7).trans rfl
                have hcz43_8 : wr.cell? ⟨gb102, 8, none⟩ = some (.int .i64 a0_8) := (blk_cell BK102.out 8).trans rfl
                have hfz43_0 := blk_frozen BK102.out 0
                have hfz43_1 := blk_frozen BK102.out 1
                have hfz43_2 := blk_frozen BK102.out 2
                have hfz43_3 := blk_frozen BK102.out 3
                have hfz43_4 := blk_frozen BK102.out 4
                have hfz43_5 := blk_frozen BK102.out 5
                have hfz43_6 := blk_frozen BK102.out 6
                have hfz43_7 := blk_frozen BK102.out 7
                have hfz43_8 := blk_frozen BK102.out 8
                go_wp2_with (first | ((with_reducible refine gate_callee (f := 29) rfl ?_); refine goesL_ (some 55) rfl rfl Try.func29 (by kernel_rfl) rfl #[.int .i64 a0_3, .int .i64 1, .int .i64 1099511627776] rfl (by (try simp only [List.map_toArray, List.map_cons, List.map_nil]); first | done | rfl | (simp only [List.length_drop, List.length_take]; rfl)) ?_; (with_reducible refine (policy_within.calls a0_3 1 1099511627776 false _ A28.out).mono ?_); rintro e w' ⟨rfl, ⟨nd, rfl⟩⟩; refine ⟨_, rfl, ?_⟩))
                go_ret
                exact ⟨by first | rfl | (simp [errW_none, errW_some] <;> rfl) | (simp [*, errW_none, errW_some] <;> rfl), by repeat (first | (with_reducible first | exact HB.out | apply below_alloc | apply pw_below_drewN | apply below_drew1 | refine below_set ?_ GE102.out) | exact HB.out)⟩

-- NOT PRINTED: function 31 (claim_payment_31)

-- NOT PRINTED: function 14 (claim_payment_14)

end Go.Proofs.Ytjkipjfcfcpcmaa.Print
