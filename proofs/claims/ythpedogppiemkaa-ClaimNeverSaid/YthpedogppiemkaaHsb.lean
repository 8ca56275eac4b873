import Derived.Test.YthpedogppiemkaaPrint0
import Derived.Lib.Hide
import Derived.Shelf.Abstract
namespace Go.Proofs.Ythpedogppiemkaa.Print
open Go.RowKit Go.Proofs.YthpedogppiemkaaW.PrintWords Go.Proofs.YthpedogppiemkaaW.PrintLast Go.Proofs.YthpedogppiemkaaW.PrintMore

theorem any_take_succ (p : Int → Bool) (l : List Int) (k : Nat) (hk : k < l.length) : (l.take (k + 1)).any p = ((l.take k).any p || p (l.getD k 0)) := by
  rw [List.take_succ_eq_append_getElem hk, List.any_append]
  simp [List.getD_eq_getElem?_getD, List.getElem?_eq_getElem hk]

set_option maxHeartbeats 1000000 in
/-- 'slices.IndexFunc' at int64s, by a predicate that only computes. -/
theorem indexFunc_calls (p : Int → Bool) (g : Nat) (eg : ∀ args w, (callFunc g args).run Try.prog w = .ok (.enter g args) w)
    (hg : ∀ (x : Int) (W : World), Calls Try.prog g #[.int .i64 x] W fun e w' => e = .returned (.bool (p x)) ∧ w' = W)
    (A : Option Addr) (c : Nat) (l : List Int) (w : World) (hr : Kd.C (Kd.int .i64) w A l.length l) (hn : l.length ≤ 4611686018427387904) :
    Calls Try.prog 85 #[.slice A l.length c, .func (.func g) #[] #[]] w fun e w' => ∃ i : Int, (e = .returned (.int .i64 i) ∧ w' = w) ∧ decide (0 ≤ i) = l.any p := by
  have HR := Aside0.mk hr
  have HG := Aside0.mk hg
  clear hr hg
  go_enter Try.func85, Try.ntmps85
  go_wp2
  go_loop [8] (fun v => ∃ k : Nat, k ≤ l.length ∧ v = .int .i64 k ∧ Aside0 ((l.take k).any p = false)) (fun v => l.length - (intOf v).toNat)
  case atStart => exact ⟨0, Nat.zero_le _, rfl, ⟨by simp⟩⟩
  case round =>
    obtain ⟨k, hk, rfl, HA⟩ := hrel
    by_cases hlt : k < l.length
    · have h0 : (0 : Int) ≤ (k : Int) := by omega
      have h1 : (k : Int) < (l.length : Int) := by omega
      obtain ⟨ad, rfl, hc⟩ := Kd.at_int HR.out k h0 h1
      have hts := any_take_succ p l k hlt
      simp only [Int.toNat_natCast] at hc
      have hrd : rd l k = l.getD k 0 := by simp [rd]
      rw [hrd] at hc
      generalize l.getD k 0 = x at hc hts
      have HTS := Aside0.mk hts
      clear hts hrd
      cases hpx : p x with
      | true =>
        have hgx := HG.out x
        rw [hpx] at hgx
        go_wp2_with (go_at_fn g; refine (hgx _).mono ?_; rintro e w' ⟨rfl, rfl⟩)
        go_ret
        refine ⟨k, ⟨rfl, rfl⟩, ?_⟩
        have : l.any p = true := by
          rw [← List.take_append_drop (k + 1) l, List.any_append, HTS.out, HA.out, hpx]; rfl
        rw [this]; simp
      | false =>
        have hgx := HG.out x
        rw [hpx] at hgx
        go_wp2_with (go_at_fn g; refine (hgx _).mono ?_; rintro e w' ⟨rfl, rfl⟩)
        go_round
        case rel => exact ⟨k + 1, by omega, by go_num, ⟨by rw [HTS.out, HA.out, hpx]; rfl⟩⟩
        case measure => simp [intOf]; omega
    · go_wp2
      go_ret
      refine ⟨-1, ⟨rfl, rfl⟩, ?_⟩
      have := HA.out
      rw [List.take_of_length_le (by omega)] at this
      rw [this]; rfl

set_option maxHeartbeats 1000000 in
theorem containsFunc_calls (p : Int → Bool) (g : Nat) (eg : ∀ args w, (callFunc g args).run Try.prog w = .ok (.enter g args) w)
    (hg : ∀ (x : Int) (W : World), Calls Try.prog g #[.int .i64 x] W fun e w' => e = .returned (.bool (p x)) ∧ w' = W)
    (A : Option Addr) (c : Nat) (l : List Int) (w : World) (hr : Kd.C (Kd.int .i64) w A l.length l) (hn : l.length ≤ 4611686018427387904) :
    Calls Try.prog 77 #[.slice A l.length c, .func (.func g) #[] #[]] w fun e w' => e = .returned (.bool (l.any p)) ∧ w' = w := by
  have h := indexFunc_calls p g eg hg A c l w hr hn
  clear hr hg
  go_enter Try.func77, Try.ntmps77
  go_wp2_with (go_at_call 85; refine h.mono ?_; rintro e w' ⟨i, ⟨rfl, rfl⟩, hi⟩; have HI := Aside0.mk hi; clear hi)
  go_ret
  refine ⟨?_, rfl⟩
  show Ending.returned (.bool (decide (0 ≤ i))) = _
  rw [HI.out]

theorem below_calls (x : Int) (W : World) : Calls Try.prog 74 #[.int .i64 x] W fun e w' => e = .returned (.bool (decide (x < 0))) ∧ w' = W := by
  go_enter Try.func74, Try.ntmps74
  go_wp2
  go_ret
  exact ⟨rfl, rfl⟩
theorem above_calls (x : Int) (W : World) : Calls Try.prog 75 #[.int .i64 x] W fun e w' => e = .returned (.bool (decide (1099511627776 < x))) ∧ w' = W := by
  go_enter Try.func75, Try.ntmps75
  go_wp2
  go_ret
  exact ⟨rfl, rfl⟩
theorem some_calls (x : Int) (W : World) : Calls Try.prog 76 #[.int .i64 x] W fun e w' => e = .returned (.bool (decide (0 < x))) ∧ w' = W := by
  go_enter Try.func76, Try.ntmps76
  go_wp2
  go_ret
  exact ⟨rfl, rfl⟩

/-- What is wrong with a split: the error's number. -/
def splitErr (t : Int) (l : List Int) : Int :=
  if (t < 0 ∨ l.length = 0) ∨ l.any (fun x => decide (x < 0)) = true then 1
  else if (1099511627776 < t ∨ l.any (fun x => decide (1099511627776 < x)) = true) ∨ 4096 < l.length then 3
  else if 0 < t ∧ l.any (fun x => decide (0 < x)) = false then 4 else 0

set_option maxHeartbeats 2000000 in
theorem wrong_calls (t : Int) (A : Option Addr) (c : Nat) (l : List Int) (w : World) (hr : Kd.C (Kd.int .i64) w A l.length l) (hn : l.length ≤ 4611686018427387904) :
    Calls Try.prog 52 #[.int .i64 t, .slice A l.length c] w fun e w' => e = .returned (.int .i64 (splitErr t l)) ∧ w' = w := by
  have c1 := fun W h => containsFunc_calls _ 74 (Go.Proofs.enters_of Try.func74 (by kernel_rfl) rfl) below_calls A c l W h hn
  have c2 := fun W h => containsFunc_calls _ 75 (Go.Proofs.enters_of Try.func75 (by kernel_rfl) rfl) above_calls A c l W h hn
  have c3 := fun W h => containsFunc_calls _ 76 (Go.Proofs.enters_of Try.func76 (by kernel_rfl) rfl) some_calls A c l W h hn
  have HR := Aside0.mk hr
  clear hr
  have e0 : splitErr t l = if (t < 0 ∨ l.length = 0) ∨ l.any (fun x => decide (x < 0)) = true then 1
    else if (1099511627776 < t ∨ l.any (fun x => decide (1099511627776 < x)) = true) ∨ 4096 < l.length then 3
    else if 0 < t ∧ l.any (fun x => decide (0 < x)) = false then 4 else 0 := rfl
  generalize splitErr t l = r at e0 ⊢
  generalize l.any (fun x => decide (x < 0)) = b1 at c1 e0
  generalize l.any (fun x => decide (1099511627776 < x)) = b2 at c2 e0
  generalize l.any (fun x => decide (0 < x)) = b3 at c3 e0
  generalize l.length = n at *
  by_cases k1 : t < 0
  · rw [if_pos (.inl (.inl k1))] at e0
    subst e0
    clear c1 c2 c3
    go_enter Try.func52, Try.ntmps52
    go_wp2
    go_ret
    exact ⟨rfl, rfl⟩
  by_cases k2 : n = 0
  · rw [if_pos (.inl (.inr k2))] at e0
    subst e0
    have k2' : ((n : Int) == 0) = true := by simpa using k2
    have K := Aside0.mk k2
    clear c1 c2 c3 k2
    go_enter Try.func52, Try.ntmps52
    go_wp2
    go_ret
    exact ⟨rfl, rfl⟩
  have k2' : ((n : Int) == 0) = false := by simpa using k2
  have d1 := c1 w HR.out
  have d2 := c2 w HR.out
  have d3 := c3 w HR.out
  clear c1 c2 c3 HR
  cases b1 with
  | true =>
    rw [if_pos (.inr rfl)] at e0
    subst e0
    go_enter Try.func52, Try.ntmps52
    go_wp2_with (go_at_call 77; refine d1.mono ?_; rintro e w' ⟨rfl, rfl⟩)
    go_ret
    exact ⟨rfl, rfl⟩
  | false =>
  rw [if_neg (by rintro ((h | h) | h) <;> first | omega | cases h)] at e0
  by_cases k3 : 1099511627776 < t
  · rw [if_pos (.inl (.inl k3))] at e0
    subst e0
    go_enter Try.func52, Try.ntmps52
    go_wp2_with (go_at_call 77; refine d1.mono ?_; rintro e w' ⟨rfl, rfl⟩)
    go_ret
    exact ⟨rfl, rfl⟩
  cases b2 with
  | true =>
    rw [if_pos (.inl (.inr rfl))] at e0
    subst e0
    go_enter Try.func52, Try.ntmps52
    go_wp2_with fail
    refine d1.mono ?_
    rintro e w' ⟨rfl, rfl⟩
    go_wp2_with fail
    refine d2.mono ?_
    rintro e w' ⟨rfl, rfl⟩
    go_wp2_with fail
    go_ret
    exact ⟨rfl, rfl⟩
  | false =>
  by_cases k4 : 4096 < n
  · rw [if_pos (.inr k4)] at e0
    subst e0
    go_enter Try.func52, Try.ntmps52
    go_wp2_with fail
    refine d1.mono ?_
    rintro e w' ⟨rfl, rfl⟩
    go_wp2_with fail
    refine d2.mono ?_
    rintro e w' ⟨rfl, rfl⟩
    go_wp2_with fail
    go_ret
    exact ⟨rfl, rfl⟩
  rw [if_neg (by rintro ((h | h) | h) <;> first | omega | cases h)] at e0
  by_cases k5 : 0 < t
  · cases b3 with
    | true =>
      rw [if_neg (by rintro ⟨_, h⟩; cases h)] at e0
      subst e0
      go_enter Try.func52, Try.ntmps52
      go_wp2_with fail
      refine d1.mono ?_
      rintro e w' ⟨rfl, rfl⟩
      go_wp2_with fail
      refine d2.mono ?_
      rintro e w' ⟨rfl, rfl⟩
      go_wp2_with fail
      refine d3.mono ?_
      rintro e w' ⟨rfl, rfl⟩
      go_wp2_with fail
      go_ret
      exact ⟨rfl, rfl⟩
    | false =>
      rw [if_pos ⟨k5, rfl⟩] at e0
      subst e0
      go_enter Try.func52, Try.ntmps52
      go_wp2_with fail
      refine d1.mono ?_
      rintro e w' ⟨rfl, rfl⟩
      go_wp2_with fail
      refine d2.mono ?_
      rintro e w' ⟨rfl, rfl⟩
      go_wp2_with fail
      refine d3.mono ?_
      rintro e w' ⟨rfl, rfl⟩
      go_wp2_with fail
      go_ret
      exact ⟨rfl, rfl⟩
  · rw [if_neg (by omega)] at e0
    subst e0
    clear d3
    go_enter Try.func52, Try.ntmps52
    go_wp2_with fail
    refine d1.mono ?_
    rintro e w' ⟨rfl, rfl⟩
    go_wp2_with fail
    refine d2.mono ?_
    rintro e w' ⟨rfl, rfl⟩
    go_wp2_with fail
    go_ret
    exact ⟨rfl, rfl⟩
end Go.Proofs.Ythpedogppiemkaa.Print
