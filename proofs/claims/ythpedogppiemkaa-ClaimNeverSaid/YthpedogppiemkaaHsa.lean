import Derived.Test.YthpedogppiemkaaPrint0
import Derived.Test.YthpedogppiemkaaShelf
import Derived.StillTailTactics
import Derived.Lib.Hide
namespace Go.Proofs.Ythpedogppiemkaa.Print
open Go.RowKit Go.Proofs.YthpedogppiemkaaW.PrintWords Go.Proofs.YthpedogppiemkaaW.PrintLast Go.Proofs.YthpedogppiemkaaW.PrintMore

/-- 'cmp.Compare' as a number. -/
def cmpI (x y : Int) : Int := if x < y then -1 else if y < x then 1 else 0

set_option maxHeartbeats 1000000 in
theorem cmpU_calls (a b : Int) (w : World) :
    Calls Try.prog 58 #[.int .u64 a, .int .u64 b] w fun e w' => e = .returned (.int .i64 (cmpI a b)) ∧ w' = w := by
  unfold cmpI
  have h1 : (a != a) = false := by simp
  have h2 : (b != b) = false := by simp
  by_cases h : a < b
  · rw [if_pos h]
    go_enter Try.func58, Try.ntmps58
    go_wp2
    go_ret
    exact ⟨rfl, rfl⟩
  · by_cases h' : b < a
    · rw [if_neg h, if_pos h']
      go_enter Try.func58, Try.ntmps58
      go_wp2
      go_ret
      exact ⟨rfl, rfl⟩
    · rw [if_neg h, if_neg h']
      go_enter Try.func58, Try.ntmps58
      go_wp2
      go_ret
      exact ⟨rfl, rfl⟩

set_option maxHeartbeats 1000000 in
theorem cmpN_calls (a b : Int) (w : World) :
    Calls Try.prog 59 #[.int .i64 a, .int .i64 b] w fun e w' => e = .returned (.int .i64 (cmpI a b)) ∧ w' = w := by
  unfold cmpI
  have h1 : (a != a) = false := by simp
  have h2 : (b != b) = false := by simp
  by_cases h : a < b
  · rw [if_pos h]
    go_enter Try.func59, Try.ntmps59
    go_wp2
    go_ret
    exact ⟨rfl, rfl⟩
  · by_cases h' : b < a
    · rw [if_neg h, if_pos h']
      go_enter Try.func59, Try.ntmps59
      go_wp2
      go_ret
      exact ⟨rfl, rfl⟩
    · rw [if_neg h, if_neg h']
      go_enter Try.func59, Try.ntmps59
      go_wp2
      go_ret
      exact ⟨rfl, rfl⟩

/-- 'cmp.Or' of two. -/
def orI (x y : Int) : Int := if x = 0 then y else x

set_option maxHeartbeats 1000000 in
theorem or_calls (x y : Int) (B c : Nat) (w : World) (h0 : w.cell? ⟨B, 0, none⟩ = some (.int .i64 x)) (h1 : w.cell? ⟨B, 1, none⟩ = some (.int .i64 y)) :
    Calls Try.prog 57 #[.slice (some ⟨B, 0, none⟩) 2 c] w fun e w' => e = .returned (.int .i64 (orI x y)) ∧ w' = w := by
  unfold orI
  by_cases hx : x = 0
  · subst hx
    rw [if_pos rfl]
    by_cases hy : y = 0
    · subst hy
      go_enter Try.func57, Try.ntmps57
      go_wp2
      refine wp_loop_rounds 3 ?_
      rw [rounds_succ]
      go_wp2
      rw [rounds_succ]
      go_wp2
      rw [rounds_succ]
      go_wp2
      go_ret
      exact ⟨rfl, rfl⟩
    · have hy' : (y != 0) = true := by simpa using hy
      go_enter Try.func57, Try.ntmps57
      go_wp2
      refine wp_loop_rounds 2 ?_
      rw [rounds_succ]
      go_wp2
      rw [rounds_succ]
      go_wp2
      go_ret
      exact ⟨rfl, rfl⟩
  · rw [if_neg hx]
    have hx' : (x != 0) = true := by simpa using hx
    go_enter Try.func57, Try.ntmps57
    go_wp2
    refine wp_loop_rounds 1 ?_
    rw [rounds_succ]
    go_wp2
    go_ret
    exact ⟨rfl, rfl⟩

set_option maxHeartbeats 1000000 in
set_option maxRecDepth 100000 in
/-- The comparison that Split hands to the sort. -/
theorem less_calls (rests : List Int) (B1 B2 cap : Nat) (a b : Int) (W : World) (hbox : W.cell? ⟨B2, 0, none⟩ = some (.slice (some ⟨B1, 0, none⟩) rests.length cap))
    (hr : ∀ i : Nat, i < rests.length → W.cell? ⟨B1, i, none⟩ = some (.int .u64 (rests.getD i 0))) (a0 : 0 ≤ a) (a1 : a < rests.length) (b0 : 0 ≤ b) (b1 : b < rests.length) :
    Calls Try.prog 56 #[.int .i64 a, .int .i64 b, .pointer (some ⟨B2, 0, none⟩)] W fun e w' =>
      e = .returned (.int .i64 (orI (cmpI (rests.getD b.toNat 0) (rests.getD a.toNat 0)) (cmpI a b))) ∧ ∃ q os', w' = Go.Sort.grow (W.drewN q) os' := by
  have ha := hr a.toNat (by omega)
  have hb := hr b.toNat (by omega)
  clear hr
  generalize rests.getD b.toNat 0 = rb at hb ⊢
  generalize rests.getD a.toNat 0 = ra at ha ⊢
  generalize rests.length = n at *
  go_enter Try.func56, Try.ntmps56
  go_wp2
  go_still_tail 12, (by kernel_rfl)
  still_call (cmpU_calls _ _ _)
  repeat still_step
  still_call (cmpN_calls _ _ _)
  repeat still_step
  refine wpStill_nil ?_
  change wpList _ _ _ _ _ W.drew
  clear ha hb hbox
  generalize hw2 : W.drew = w2
  have HW2 := Lib.hid hw2
  clear hw2
  go_wp2_with (go_at_call 57; refine (or_calls (cmpI rb ra) (cmpI a b) _ _ _ (by simp) (by simp)).mono ?_; rintro e w' ⟨rfl, rfl⟩)
  go_ret
  refine ⟨rfl, 1, ?_⟩
  rw [show W.drewN 1 = w2 from HW2.out]
  exact ⟨_, Go.Sort.alloc_eq_grow _ _⟩
end Go.Proofs.Ythpedogppiemkaa.Print
