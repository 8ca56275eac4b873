/-
What a policy pays for a loss, in plain words.
-/
import Derived.Test.YtjkipjfcfcpcmaaMmayk
import Derived.Test.YtjkipjfcfcpcmaaMdiv
import Derived.Test.YtjkipjfcfcpcmaaPrint9
namespace Go.Proofs.Ytjkipjfcfcpcmaa.Print
open Go.RowKit Go.Proofs.YtjkipjfcfcpcmaaW.PrintWords Go.Proofs.YtjkipjfcfcpcmaaW.PrintLast Go.Proofs.YtjkipjfcfcpcmaaW.PrintMore

theorem u64w' (x : Int) (h0 : 0 ≤ x) (h1 : x ≤ 18446744073709551615) : IntKind.u64.wrap x = x := by simp [IntKind.wrap, IntKind.bits, IntKind.signed]; omega
theorem of_ev (t n d : Int) (ht : 0 ≤ t) (ht2 : t ≤ 1099511627776) (hn : 0 ≤ n) (hn2 : n ≤ 9223372036854775807) (hd : 1 ≤ d) (hd2 : d ≤ 9223372036854775807) :
    Ev (fun k => share_Of.f k t n d) (if t * n / d > 1099511627776 then (0, false) else (t * n / d, true)) := by
  unfold share_Of.f
  refine Ev.call (r := true) (by unfold share_may.f; rw [if_pos hn, decide_eq_true hd]) (Ev.pos rfl (Ev.neg (by omega) ?_))
  refine Ev.step (fun k => by rw [share_Of.j0]) (Ev.neg (by simp; omega) ?_)
  rw [u64w' t (by omega) (by omega), u64w' n (by omega) (by omega), u64w' d (by omega) (by omega)]
  refine Ev.call (r := (t * n / 18446744073709551616, t * n % 18446744073709551616)) (by unfold bits_Mul64.f; rw [if_pos ⟨⟨by omega, by omega⟩, by omega, by omega⟩]) ?_
  have hp : 0 ≤ t * n := Int.mul_nonneg ht hn
  refine Ev.both (fun h => ?_) (fun h => ?_)
  · have h : d ≤ t * n / 18446744073709551616 := h
    rw [if_pos]
    · exact Ev.now _
    · have h2 : d * 18446744073709551616 ≤ t * n := (Int.le_ediv_iff_mul_le (by omega)).1 h
      have h3 : 18446744073709551616 ≤ t * n / d := (Int.le_ediv_iff_mul_le (by omega)).2 (by rw [Int.mul_comm]; exact h2)
      omega
  · have h : ¬ d ≤ t * n / 18446744073709551616 := h
    obtain ⟨p, hp'⟩ := Int.eq_ofNat_of_zero_le hp
    obtain ⟨dn, rfl⟩ := Int.eq_ofNat_of_zero_le (show 0 ≤ d by omega)
    rw [hp'] at h ⊢
    obtain ⟨k, hk⟩ := div64_f (p / 18446744073709551616) (p % 18446744073709551616) dn (Nat.mod_lt _ (by decide)) (by omega) (by omega)
    have e : ((p / 18446744073709551616 : Nat) : Int) * 18446744073709551616 + ((p % 18446744073709551616 : Nat) : Int) = p := by omega
    rw [e] at hk
    have E := Ev.of (bits_Div64.mono _ _ _) hk
    refine Ev.bind E ?_
    have hq0 : (0 : Int) ≤ (p : Int) / dn := Int.ediv_nonneg (by omega) (by omega)
    refine Ev.both (fun h => ?_) (fun h => ?_)
    · have h : (p : Int) / dn > 1099511627776 := h
      rw [if_pos h]; exact Ev.now _
    · have h : ¬ (p : Int) / dn > 1099511627776 := h
      rw [if_neg h]
      show Ev (fun k => some (wrap64 ((p : Int) / dn), true)) _
      rw [w64 _ (by omega) (by omega)]; exact Ev.now _

/-- What is paid of a loss of a value; ahead of the own part. -/
def rawN (x : S33) (lo va : Int) : Int := mn lo va * mn va x.f3 / va
def paysN (x : S33) (lo va : Int) : Int := mx (rawN x lo va - x.f4) 0 * x.f8 / 1000
theorem rawN_facts (x : S33) (h : MayFacts x.f3 x.f4 x.f8) (lo va : Int) (h0 : 0 ≤ lo) (h1 : 1 ≤ va) : 0 ≤ rawN x lo va ∧ rawN x lo va ≤ lo ∧ rawN x lo va ≤ va ∧ rawN x lo va ≤ x.f3 := by
  obtain ⟨a, b, c, d, e, f⟩ := h
  have m1 : 0 ≤ mn lo va ∧ mn lo va ≤ lo ∧ mn lo va ≤ va := by unfold mn; split <;> omega
  have m2 : 0 ≤ mn va x.f3 ∧ mn va x.f3 ≤ va ∧ mn va x.f3 ≤ x.f3 := by unfold mn; split <;> omega
  unfold rawN
  have p0 : 0 ≤ mn lo va * mn va x.f3 := Int.mul_nonneg m1.1 m2.1
  have p1 : mn lo va * mn va x.f3 ≤ mn lo va * va := Int.mul_le_mul_of_nonneg_left m2.2.1 m1.1
  have p2 : mn lo va * mn va x.f3 ≤ va * mn va x.f3 := Int.mul_le_mul_of_nonneg_right m1.2.2 m2.1
  have q0 := Int.ediv_nonneg p0 (show 0 ≤ va by omega)
  have q1 : mn lo va * mn va x.f3 / va ≤ mn lo va := Int.ediv_le_of_le_mul (by omega) p1
  have q2 : mn lo va * mn va x.f3 / va ≤ mn va x.f3 := Int.ediv_le_of_le_mul (by omega) (by rw [Int.mul_comm (mn va x.f3)]; exact p2)
  omega
theorem scale_facts (n s : Int) (h0 : 0 ≤ n) (h1 : n ≤ 1099511627776) (s0 : 1 ≤ s) (s1 : s ≤ 1000) : 0 ≤ n * s ∧ n * s ≤ 1099511627776000 ∧ 0 ≤ n * s / 1000 ∧ n * s / 1000 ≤ n := by
  have a : 0 ≤ n * s := Int.mul_nonneg h0 (by omega)
  have b : n * s ≤ n * 1000 := Int.mul_le_mul_of_nonneg_left s1 h0
  omega
theorem paysN_facts (x : S33) (h : MayFacts x.f3 x.f4 x.f8) (lo va : Int) (h0 : 0 ≤ lo) (h1 : 1 ≤ va) : 0 ≤ paysN x lo va ∧ paysN x lo va ≤ lo ∧ paysN x lo va ≤ va ∧ paysN x lo va ≤ x.f3 ∧ paysN x lo va ≤ 1099511627776 := by
  have hr := rawN_facts x h lo va h0 h1
  obtain ⟨a, b, c, d, e, f⟩ := h
  have m1 : 0 ≤ mx (rawN x lo va - x.f4) 0 ∧ mx (rawN x lo va - x.f4) 0 ≤ rawN x lo va := by unfold mx; split <;> omega
  have hs := scale_facts (mx (rawN x lo va - x.f4) 0) x.f8 m1.1 (by omega) e f
  unfold paysN
  omega

theorem insured_may (x : S33) (hs : Sized1 x) (va : Int) : ∃ r, Ev (fun k => policy_Insured.f k x.f0 x.f1 x.f2 x.f3 x.f4 x.f5 x.f6 x.f7 x.f8 va) r ∧
    (r.2 = true ↔ mayOf x = true ∧ 1 ≤ va ∧ va ≤ 1099511627776) ∧ (r.2 = true → r.1 = mn va x.f3) := by
  obtain ⟨hm, hf⟩ := may_of x hs
  unfold policy_Insured.f
  by_cases c1 : mayOf x = true
  · rw [c1] at hm
    by_cases c2 : 1 ≤ va ∧ va ≤ 1099511627776
    · refine ⟨(mn va x.f3, true), ?_, by simp [c1, c2], fun _ => rfl⟩
      refine Ev.bind hm ?_
      refine Ev.pos rfl ?_
      refine Ev.call (within_f _ _ _) ?_
      refine Ev.pos (by simpa using c2) ?_
      exact Ev.now _
    · refine ⟨(0, false), ?_, by simp only [Bool.false_eq_true, false_iff]; exact fun h => c2 ⟨h.2.1, h.2.2⟩, fun h => by simp at h⟩
      refine Ev.bind hm ?_
      refine Ev.pos rfl ?_
      refine Ev.call (within_f _ _ _) ?_
      refine Ev.neg (by simpa using c2) ?_
      exact Ev.now _
  · refine ⟨(0, false), ?_, by simp [c1], fun h => by simp at h⟩
    refine Ev.bind hm ?_
    refine Ev.neg c1 ?_
    exact Ev.now _
theorem pays_may (x : S33) (hs : Sized1 x) (lo va : Int) : ∃ r, Ev (fun k => policy_Pays.f k x.f0 x.f1 x.f2 x.f3 x.f4 x.f5 x.f6 x.f7 x.f8 lo va) r ∧
    (r.2 = true ↔ mayOf x = true ∧ 1 ≤ va ∧ va ≤ 1099511627776 ∧ 0 ≤ lo ∧ lo ≤ 1099511627776) ∧ (r.2 = true → r.1 = paysN x lo va) ∧ (r.2 = false → r.1 = 0) := by
  obtain ⟨⟨r1, r2⟩, hi, hiff, hv⟩ := insured_may x hs va
  unfold policy_Pays.f
  by_cases c1 : r2 = true
  · subst c1
    obtain ⟨d1, d2, d3⟩ := hiff.1 rfl
    have hv : r1 = mn va x.f3 := hv rfl
    subst hv
    by_cases c3 : 0 ≤ lo ∧ lo ≤ 1099511627776
    · refine ⟨(paysN x lo va, true), ?_, by simp [d1, d2, d3, c3], fun _ => rfl, fun h => by simp at h⟩
      refine Ev.bind hi ?_
      refine Ev.pos rfl ?_
      refine Ev.call (within_f _ _ _) ?_
      refine Ev.pos (by simpa using c3) ?_
      have hf := ((may_of x hs).2 d1).1
      have hr := rawN_facts x hf lo va c3.1 d2
      have m1 : 0 ≤ mn lo va ∧ mn lo va ≤ lo := by unfold mn; split <;> omega
      have m2 : 0 ≤ mn va x.f3 ∧ mn va x.f3 ≤ va := by have := hf.a; unfold mn; split <;> omega
      have ho := of_ev (mn lo va) (mn va x.f3) va m1.1 (by omega) m2.1 (by omega) d2 (by omega)
      rw [if_neg (by show ¬ rawN x lo va > _; omega)] at ho
      refine Ev.bind ho ?_
      obtain ⟨a, b, c, d, e, f⟩ := hf
      have m3 : 0 ≤ mx (rawN x lo va - x.f4) 0 ∧ mx (rawN x lo va - x.f4) 0 ≤ rawN x lo va := by unfold mx; split <;> omega
      have hs := scale_facts (mx (rawN x lo va - x.f4) 0) x.f8 m3.1 (by omega) e f
      show Ev (fun k => some (wrap64 (Int.tdiv (wrap64 ((mx (wrap64 (rawN x lo va - x.f4)) 0) * x.f8)) 1000), true)) _
      rw [w64 (rawN x lo va - x.f4) (by omega) (by omega), w64 (mx (rawN x lo va - x.f4) 0 * x.f8) (by omega) (by omega), Int.tdiv_eq_ediv_of_nonneg hs.1, w64 _ (by omega) (by omega)]
      exact Ev.now _
    · refine ⟨(0, false), ?_, by simp only [Bool.false_eq_true, false_iff]; exact fun h => c3 ⟨h.2.2.2.1, h.2.2.2.2⟩, fun h => by simp at h, fun _ => rfl⟩
      refine Ev.bind hi ?_
      refine Ev.pos rfl ?_
      refine Ev.call (within_f _ _ _) ?_
      refine Ev.neg (by simpa using c3) ?_
      exact Ev.now _
  · refine ⟨(0, false), ?_, ?_, fun h => by simp at h, fun _ => rfl⟩
    · refine Ev.bind hi ?_
      refine Ev.neg c1 ?_
      exact Ev.now _
    · simp only [Bool.false_eq_true, false_iff]
      exact fun h => c1 (hiff.2 ⟨h.1, h.2.1, h.2.2.1⟩)
end Go.Proofs.Ytjkipjfcfcpcmaa.Print
