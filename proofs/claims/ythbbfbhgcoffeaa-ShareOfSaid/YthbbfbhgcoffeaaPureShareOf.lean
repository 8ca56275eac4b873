/- A fraction of any total is rounded down, or isn't told. Conditions: those of the given statement. -/
import Derived.Test.YthbbfbhgcoffeaaPrint14
import Derived.DataShut
import Derived.Test.YthbbfbhgcoffeaaMdiv
import Derived.Test.YthbbfbhgcoffeaaMparts
import Derived.Test.YthbbfbhgcoffeaaMshare
namespace Go.Proofs.Ythbbfbhgcoffeaa.Pure
open Go.RowKit Go.Proofs.Ythbbfbhgcoffeaa.Print Go.Proofs.YthbbfbhgcoffeaaW.PrintWords Go.Proofs.YthbbfbhgcoffeaaW.PrintLast

theorem u64w (x : Int) (h0 : 0 ≤ x) (h1 : x ≤ 18446744073709551615) : IntKind.u64.wrap x = x := by simp [IntKind.wrap, IntKind.bits, IntKind.signed]; omega

/-- What a fraction comes to. -/
theorem of_parts (t n d : Int) (ht : 0 ≤ t) (hn : 0 ≤ n) (hd : 0 < d) :
    t * n / d = t * (n / d) + t * (n % d) / d ∧ 0 ≤ t * (n % d) / d ∧ t * (n % d) / d ≤ t ∧ 0 ≤ t * (n / d) := by
  have h0 := Int.emod_nonneg n (show d ≠ 0 by omega)
  have h1 := Int.emod_lt_of_pos n hd
  have e : t * n = t * (n % d) + t * (n / d) * d := by
    have := Int.mul_ediv_add_emod n d
    calc t * n = t * (d * (n / d) + n % d) := by rw [this]
      _ = t * (n % d) + t * (n / d) * d := by rw [Int.mul_add, Int.mul_comm d (n / d), ← Int.mul_assoc]; omega
  refine ⟨?_, Int.ediv_nonneg (Int.mul_nonneg ht h0) (by omega), ?_, Int.mul_nonneg ht (Int.ediv_nonneg hn (by omega))⟩
  · rw [e, Int.add_mul_ediv_right _ _ (by omega)]; omega
  · have : t * (n % d) ≤ t * d := Int.mul_le_mul_of_nonneg_left (by omega) ht
    calc t * (n % d) / d ≤ t * d / d := Int.ediv_le_ediv hd this
      _ = t := Int.mul_ediv_cancel _ (by omega)

theorem of_ev (t n d : Int) (ht : 0 ≤ t) (ht2 : t ≤ 1099511627776) (hn : 0 ≤ n) (hn2 : n ≤ 9223372036854775807) (hd : 1 ≤ d) (hd2 : d ≤ 9223372036854775807) :
    Ev (fun k => share_Of.f k t n d) (if t * n / d > 1099511627776 then (0, false) else (t * n / d, true)) := by
  unfold share_Of.f
  refine Ev.call (r := true) (by unfold share_may.f; rw [if_pos hn, decide_eq_true hd]) (Ev.pos rfl (Ev.neg (by omega) ?_))
  refine Ev.step (fun k => by rw [share_Of.j0]) (Ev.neg (by simp; omega) ?_)
  rw [u64w t (by omega) (by omega), u64w n (by omega) (by omega), u64w d (by omega) (by omega)]
  refine Ev.call (r := (t * n / 18446744073709551616, t * n % 18446744073709551616)) (by unfold bits_Mul64.f; rw [if_pos ⟨⟨by omega, by omega⟩, by omega, by omega⟩]) ?_
  have hp : 0 ≤ t * n := Int.mul_nonneg ht hn
  refine Ev.both (fun h => ?_) (fun h => ?_)
  · have h : d ≤ t * n / 18446744073709551616 := h
    rw [if_pos]
    · exact Ev.now _
    · have h2 : d * 18446744073709551616 ≤ t * n := (Int.le_ediv_iff_mul_le (by omega)).1 h
      have h3 : 18446744073709551616 ≤ t * n / d := (Int.le_ediv_iff_mul_le (by omega)).2 (by rw [Int.mul_comm]; exact h2)
      omega
  · have h : ¬ d ≤ t * n / 18446744073709551616 := h
    obtain ⟨p, hp'⟩ := Int.eq_ofNat_of_zero_le hp
    obtain ⟨dn, rfl⟩ := Int.eq_ofNat_of_zero_le (show 0 ≤ d by omega)
    rw [hp'] at h ⊢
    obtain ⟨k, hk⟩ := div64_f (p / 18446744073709551616) (p % 18446744073709551616) dn (Nat.mod_lt _ (by decide)) (by omega) (by omega)
    have e : ((p / 18446744073709551616 : Nat) : Int) * 18446744073709551616 + ((p % 18446744073709551616 : Nat) : Int) = p := by omega
    rw [e] at hk
    have E := Ev.of (bits_Div64.mono _ _ _) hk
    refine Ev.bind E ?_
    have hq0 : (0 : Int) ≤ (p : Int) / dn := Int.ediv_nonneg (by omega) (by omega)
    refine Ev.both (fun h => ?_) (fun h => ?_)
    · have h : (p : Int) / dn > 1099511627776 := h
      rw [if_pos h]; exact Ev.now _
    · have h : ¬ (p : Int) / dn > 1099511627776 := h
      rw [if_neg h]
      show Ev (fun k => some (wrap64 ((p : Int) / dn), true)) _
      rw [w64 _ (by omega) (by omega)]; exact Ev.now _

theorem of_no (t n d : Int) (h : ¬ (0 ≤ t ∧ t ≤ 1099511627776 ∧ 0 ≤ n ∧ 1 ≤ d)) : Ev (fun k => share_Of.f k t n d) (0, false) := by
  unfold share_Of.f
  have J : Ev (fun k => share_Of.j0 k t true n d) (0, false) := Ev.step (fun k => by rw [share_Of.j0]) (Ev.pos rfl (Ev.now _))
  refine Ev.call (r := decide (0 ≤ n ∧ 1 ≤ d)) (by
    unfold share_may.f
    by_cases h0 : n ≥ 0
    · rw [if_pos h0]; simp [show 0 ≤ n from h0]
    · rw [if_neg h0, decide_eq_false (by omega)]) ?_
  refine Ev.both (fun hm => ?_) (fun _ => J)
  have hm := of_decide_eq_true hm
  refine Ev.both (fun _ => J) (fun h0 => ?_)
  have : decide (t > 1099511627776) = true := decide_eq_true (by omega)
  rw [this]; exact J

theorem ShareOf (t n d : Int) (wt : (Lit.int .i64 t).wf = true) (wn : (Lit.int .i64 n).wf = true) (wd : (Lit.int .i64 d).wf = true) : ∃ k, supercargolaw04_ShareOf.f k t n d = some true := by
  have wt : -9223372036854775808 ≤ t ∧ t ≤ 9223372036854775807 := (Lit.wf_int_iff .i64 t).1 wt
  have wn : -9223372036854775808 ≤ n ∧ n ≤ 9223372036854775807 := (Lit.wf_int_iff .i64 n).1 wn
  have wd : -9223372036854775808 ≤ d ∧ d ≤ 9223372036854775807 := (Lit.wf_int_iff .i64 d).1 wd
  refine Ev.le (r := true) ?_
  unfold supercargolaw04_ShareOf.f
  refine Ev.bind awake04_ev (Ev.pos rfl ?_)
  have hM : supercargoref04_May.f n d = some (decide (0 ≤ n ∧ 1 ≤ d)) := by
    unfold supercargoref04_May.f
    by_cases h0 : n ≥ 0
    · rw [if_pos h0]; simp [show 0 ≤ n from h0]
    · rw [if_neg h0, decide_eq_false (by omega)]
  by_cases hv : 0 ≤ t ∧ t ≤ 1099511627776 ∧ 0 ≤ n ∧ 1 ≤ d
  · obtain ⟨t0, t1, n0, d1⟩ := hv
    refine Ev.bind (of_ev t n d t0 t1 n0 wn.2 d1 wd.2) (Ev.call (r := true) (by rw [hM, decide_eq_true ⟨n0, d1⟩]) (Ev.pos rfl (Ev.neg (by omega) ?_)))
    have : decide (t > 1099511627776) = false := decide_eq_false (by omega)
    rw [this]
    obtain ⟨hq, hP0, hP1, hW0⟩ := of_parts t n d t0 n0 (by omega)
    have hw0 := Int.ediv_nonneg n0 (show 0 ≤ d by omega)
    have hw1 : n / d ≤ n := Int.ediv_le_self _ n0
    have hr0 := Int.emod_nonneg n (show d ≠ 0 by omega)
    have hr1 := Int.emod_lt_of_pos n (show 0 < d by omega)
    refine Ev.step (fun k => by rw [supercargolaw04_ShareOf.j0]) (Ev.neg (by simp) (Ev.neg (by omega) ?_))
    rw [Int.tdiv_eq_ediv_of_nonneg n0, Int.tmod_eq_emod_of_nonneg n0, w64 (n / d) (by omega) (by omega)]
    -- what the rest of the law says
    have J : ∀ b : Bool, (b = true → t * (n / d) > 1099511627776) → (b = false → t * (n / d) ≤ 1099511627776) →
        Ev (fun k => supercargolaw04_ShareOf.j1 k t (if t * n / d > 1099511627776 then ((0 : Int), false) else (t * n / d, true)).1 (if t * n / d > 1099511627776 then ((0 : Int), false) else (t * n / d, true)).2 (n / d) (n % d) b n d) true := by
      intro b h1 h2
      refine Ev.step (fun k => by rw [supercargolaw04_ShareOf.j1]) ?_
      refine Ev.both (fun hb => ?_) (fun hb => ?_)
      · have := h1 hb
        rw [if_pos (show t * n / d > 1099511627776 by omega)]
        exact Ev.pos rfl (Ev.now _)
      · have hle := h2 (by simpa using hb)
        have hadd : t * (n / d + 1) = t * (n / d) + t := by rw [Int.mul_add, Int.mul_one]
        refine Ev.both (fun hd => ?_) (fun hd => ?_)
        · have hwl : n / d ≤ 1 := by
            have : n / d < 2 := (Int.ediv_lt_iff_lt_mul (by omega)).2 (by omega)
            omega
          rw [w64 (n / d + 1) (by omega) (by omega), w64 (t * (n / d + 1)) (by omega) (by omega), w64 (t * (n / d)) (by omega) (by omega)]
          by_cases hb : t * n / d > 1099511627776
          · rw [if_pos hb]
            exact Ev.neg (by simp) (Ev.pos rfl (Ev.pos (by omega) (Ev.now _)))
          · rw [if_neg hb]
            refine Ev.pos rfl (Ev.pos (show t * n / d ≥ t * (n / d) by omega) ?_)
            have : decide (t * n / d ≤ t * (n / d + 1)) = true := decide_eq_true (by omega)
            show Ev (fun k => some (decide (t * n / d ≤ t * (n / d + 1)))) true
            rw [this]; exact Ev.now _
        · refine Ev.bind (times_ev t (n % d) d t0 (by omega) hr0 (by omega) (by omega) (by omega) (by omega)) ?_
          rw [w64 (t * (n / d)) (by omega) (by omega)]
          show Ev (fun k => if wrap64 (t * (n / d) + t * (n % d) / d) > 1099511627776 then _ else _) true
          rw [w64 (t * (n / d) + t * (n % d) / d) (by omega) (by omega), ← hq]
          by_cases hb : t * n / d > 1099511627776
          · refine Ev.pos hb ?_
            rw [if_pos hb]
            exact Ev.pos rfl (Ev.now _)
          · refine Ev.neg hb ?_
            rw [if_neg hb]
            exact Ev.pos rfl (Ev.now _)
    refine Ev.both (fun hp => ?_) (fun hp => ?_)
    · refine Ev.neg (by omega) ?_
      have e0 := Int.ediv_nonneg (show (0 : Int) ≤ 1099511627776 by omega) (show 0 ≤ t by omega)
      have e1 : (1099511627776 : Int) / t ≤ 1099511627776 := Int.ediv_le_self _ (by omega)
      rw [w64 ((1099511627776 : Int) / t) (by omega) (by omega)]
      refine J _ (fun h => ?_) (fun h => ?_)
      · have h := of_decide_eq_true h
        have := (Int.ediv_lt_iff_lt_mul (show 0 < t by omega)).1 h
        rw [Int.mul_comm]; exact this
      · have h := of_decide_eq_false h
        have := (Int.le_ediv_iff_mul_le (show 0 < t by omega)).1 (Int.not_lt.1 h)
        rw [Int.mul_comm]; exact this
    · obtain rfl : t = 0 := by omega
      exact J false (by simp) (fun _ => by omega)
  · refine Ev.bind (of_no t n d hv) (Ev.call hM ?_)
    have J0 : Ev (fun k => supercargolaw04_ShareOf.j0 k t 0 false true n d) true := by
      refine Ev.step (fun k => by rw [supercargolaw04_ShareOf.j0]) ?_
      exact Ev.pos rfl (Ev.pos rfl (Ev.now _))
    have J : Ev (fun k => supercargolaw04_ShareOf.j0 k t (0, false).1 (0, false).2 true n d) true := J0
    refine Ev.both (fun hm => ?_) (fun _ => J)
    have hm := of_decide_eq_true hm
    refine Ev.both (fun _ => J) (fun h0 => ?_)
    have : decide (t > 1099511627776) = true := decide_eq_true (by omega)
    rw [this]; exact J
end Go.Proofs.Ythbbfbhgcoffeaa.Pure
