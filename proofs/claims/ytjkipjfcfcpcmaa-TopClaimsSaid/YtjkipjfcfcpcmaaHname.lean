/-
mark.Name by walk: the closure, the loop over the signs.
-/
import Derived.Test.YtjkipjfcfcpcmaaPrint0
import Derived.Lib.Hide
import Derived.Shelf.Abstract
namespace Go.Proofs.Ytjkipjfcfcpcmaa.Print
open Go.RowKit Go.Proofs.YtjkipjfcfcpcmaaW.PrintWords Go.Proofs.YtjkipjfcfcpcmaaW.PrintLast Go.Proofs.YtjkipjfcfcpcmaaW.PrintMore

def loB (c : Int) : Bool := decide (97 ≤ c) && decide (c ≤ 122)
def dgB (c : Int) : Bool := decide (48 ≤ c) && decide (c ≤ 57)
/-- May a sign stand in a name? -/
def nameC (c : Int) : Bool := loB c || dgB c || (c == 45)
def nameAll (s : ByteArray) (n : Nat) : Bool := (List.range n).all fun i => nameC (bt s i)
def nameB (s : ByteArray) : Bool := decide (1 ≤ s.size) && decide (s.size ≤ 16) && nameAll s s.size

theorem lower_calls (c : Int) (w : World) : Calls Try.prog 45 #[.int .u8 c] w fun e w' => e = .returned (.bool (loB c)) ∧ w' = w := by
  obtain ⟨b, hb⟩ : ∃ b, b = loB c := ⟨_, rfl⟩
  rw [← hb]
  unfold loB at hb
  by_cases h1 : 97 ≤ c
  · have d1 : decide (97 ≤ c) = true := by simpa using h1
    by_cases h2 : c ≤ 122
    · have d2 : decide (c ≤ 122) = true := by simpa using h2
      rw [d1, d2] at hb
      subst hb
      go_enter Try.func45, Try.ntmps45
      go_wp2
      go_ret
      exact ⟨rfl, rfl⟩
    · have d2 : decide (c ≤ 122) = false := by simpa using h2
      rw [d1, d2] at hb
      subst hb
      go_enter Try.func45, Try.ntmps45
      go_wp2
      go_ret
      exact ⟨rfl, rfl⟩
  · have d1 : decide (97 ≤ c) = false := by simpa using h1
    rw [d1] at hb
    simp only [Bool.false_and] at hb
    subst hb
    go_enter Try.func45, Try.ntmps45
    go_wp2
    go_ret
    exact ⟨rfl, rfl⟩

theorem digit_calls (c : Int) (w : World) : Calls Try.prog 46 #[.int .u8 c] w fun e w' => e = .returned (.bool (dgB c)) ∧ w' = w := by
  obtain ⟨b, hb⟩ : ∃ b, b = dgB c := ⟨_, rfl⟩
  rw [← hb]
  unfold dgB at hb
  by_cases h1 : 48 ≤ c
  · have d1 : decide (48 ≤ c) = true := by simpa using h1
    by_cases h2 : c ≤ 57
    · have d2 : decide (c ≤ 57) = true := by simpa using h2
      rw [d1, d2] at hb
      subst hb
      go_enter Try.func46, Try.ntmps46
      go_wp2
      go_ret
      exact ⟨rfl, rfl⟩
    · have d2 : decide (c ≤ 57) = false := by simpa using h2
      rw [d1, d2] at hb
      subst hb
      go_enter Try.func46, Try.ntmps46
      go_wp2
      go_ret
      exact ⟨rfl, rfl⟩
  · have d1 : decide (48 ≤ c) = false := by simpa using h1
    rw [d1] at hb
    simp only [Bool.false_and] at hb
    subst hb
    go_enter Try.func46, Try.ntmps46
    go_wp2
    go_ret
    exact ⟨rfl, rfl⟩

theorem sign_calls (c : Int) (w : World) : Calls Try.prog 44 #[.int .u8 c] w fun e w' => e = .returned (.bool (nameC c)) ∧ w' = w := by
  have h1 := lower_calls c w
  have h2 := digit_calls c w
  obtain ⟨b, hb⟩ : ∃ b, b = nameC c := ⟨_, rfl⟩
  rw [← hb]
  unfold nameC at hb
  generalize loB c = b1 at h1 hb
  generalize dgB c = b2 at h2 hb
  cases b1 with
  | true =>
    simp only [Bool.true_or] at hb
    subst hb
    go_enter Try.func44, Try.ntmps44
    go_wp2_with (go_at_call 45; refine h1.mono ?_; rintro e w' ⟨rfl, rfl⟩)
    go_ret
    exact ⟨rfl, rfl⟩
  | false =>
    cases b2 with
    | true =>
      simp only [Bool.false_or, Bool.true_or] at hb
      subst hb
      go_enter Try.func44, Try.ntmps44
      go_wp2_with fail
      refine h1.mono ?_
      rintro e w' ⟨rfl, rfl⟩
      go_wp2_with fail
      refine h2.mono ?_
      rintro e w' ⟨rfl, rfl⟩
      go_wp2_with fail
      go_ret
      exact ⟨rfl, rfl⟩
    | false =>
      simp only [Bool.false_or] at hb
      by_cases h3 : c = 45
      · have d3 : (c == 45) = true := by simpa using h3
        rw [d3] at hb
        subst hb
        clear h3
        go_enter Try.func44, Try.ntmps44
        go_wp2_with fail
        refine h1.mono ?_
        rintro e w' ⟨rfl, rfl⟩
        go_wp2_with fail
        refine h2.mono ?_
        rintro e w' ⟨rfl, rfl⟩
        go_wp2_with fail
        go_ret
        exact ⟨rfl, rfl⟩
      · have d3 : (c == 45) = false := by simpa using h3
        rw [d3] at hb
        subst hb
        go_enter Try.func44, Try.ntmps44
        go_wp2_with fail
        refine h1.mono ?_
        rintro e w' ⟨rfl, rfl⟩
        go_wp2_with fail
        refine h2.mono ?_
        rintro e w' ⟨rfl, rfl⟩
        go_wp2_with fail
        go_ret
        exact ⟨rfl, rfl⟩

theorem nameAll_succ (s : ByteArray) (k : Nat) : nameAll s (k + 1) = (nameAll s k && nameC (bt s k)) := by
  unfold nameAll
  rw [List.range_succ, List.all_append]
  simp
theorem nameAll_stop (s : ByteArray) (k n : Nat) (hk : k < n) (h : nameC (bt s k) = false) : nameAll s n = false := by
  unfold nameAll
  rw [List.all_eq_false]
  exact ⟨k, by simpa using hk, by simp [h]⟩

set_option maxHeartbeats 1000000 in
theorem all_calls (s : ByteArray) (w : World) (hs : s.size ≤ 9223372036854775807) :
    Calls Try.prog 43 #[.string s, .func (.func 44) #[] #[]] w fun e w' => e = .returned (.bool (nameAll s s.size)) ∧ w' = w := by
  have eg := Go.Proofs.enters_of Try.func44 (by kernel_rfl) rfl
  go_enter Try.func43, Try.ntmps43
  go_wp2
  go_loop [8] (fun v => ∃ k : Nat, k ≤ s.size ∧ v = .int .i64 k ∧ Aside0 (nameAll s k = true)) (fun v => s.size - (intOf v).toNat)
  case atStart => exact ⟨0, Nat.zero_le _, rfl, ⟨rfl⟩⟩
  case round =>
    obtain ⟨k, hk, rfl, HA⟩ := hrel
    by_cases hlt : k < s.size
    · have h0 : (0 : Int) ≤ (k : Int) := by omega
      have h1 : (k : Int) < (s.size : Int) := by omega
      have hb := bt_at s (k : Int)
      simp only [Int.toNat_natCast] at hb
      have hsg := sign_calls (bt s k)
      cases hnc : nameC (bt s k) with
      | true =>
        have HN := Aside0.mk hnc
        rw [hnc] at hsg
        clear hnc
        go_wp2_with (go_at_call 44; refine (hsg _).mono ?_; rintro e w' ⟨rfl, rfl⟩)
        go_round
        case rel => exact ⟨k + 1, by omega, by go_num, ⟨by rw [nameAll_succ, HA.out, HN.out]; rfl⟩⟩
        case measure => simp [intOf]; omega
      | false =>
        have HN := Aside0.mk (nameAll_stop s k s.size hlt hnc)
        rw [hnc] at hsg
        clear hnc
        go_wp2_with (go_at_call 44; refine (hsg _).mono ?_; rintro e w' ⟨rfl, rfl⟩)
        go_ret
        exact ⟨by rw [HN.out]; rfl, rfl⟩
    · obtain rfl : k = s.size := by omega
      go_wp2
      go_ret
      exact ⟨by rw [HA.out]; rfl, rfl⟩

set_option maxHeartbeats 1000000 in
theorem name_calls (s : ByteArray) (w : World) (hs : s.size ≤ 9223372036854775807) :
    Calls Try.prog 28 #[.string s] w fun e w' => e = .returned (.bool (nameB s)) ∧ w' = w := by
  have ha := all_calls s w hs
  obtain ⟨b, hb⟩ : ∃ b, b = nameB s := ⟨_, rfl⟩
  rw [← hb]
  unfold nameB at hb
  generalize nameAll s s.size = b1 at ha hb
  by_cases h1 : 1 ≤ s.size
  · have d1 : decide (1 ≤ s.size) = true := by simpa using h1
    have z1 : (1 : Int) ≤ (s.size : Int) := by omega
    by_cases h2 : s.size ≤ 16
    · have d2 : decide (s.size ≤ 16) = true := by simpa using h2
      have z2 : (s.size : Int) ≤ 16 := by omega
      rw [d1, d2] at hb
      simp only [Bool.true_and] at hb
      subst hb
      go_enter Try.func28, Try.ntmps28
      go_wp2_with (go_at_call 43; refine ha.mono ?_; rintro e w' ⟨rfl, rfl⟩)
      go_ret
      exact ⟨rfl, rfl⟩
    · have d2 : decide (s.size ≤ 16) = false := by simpa using h2
      have z2 : decide ((s.size : Int) ≤ 16) = false := by simp; omega
      rw [d1, d2] at hb
      simp only [Bool.and_false, Bool.false_and] at hb
      subst hb
      clear ha
      go_enter Try.func28, Try.ntmps28
      go_wp2
      go_ret
      exact ⟨rfl, rfl⟩
  · have d1 : decide (1 ≤ s.size) = false := by simpa using h1
    have z1 : decide ((1 : Int) ≤ (s.size : Int)) = false := by simp; omega
    rw [d1] at hb
    simp only [Bool.false_and] at hb
    subst hb
    clear ha
    go_enter Try.func28, Try.ntmps28
    go_wp2
    go_ret
    exact ⟨rfl, rfl⟩
end Go.Proofs.Ytjkipjfcfcpcmaa.Print
