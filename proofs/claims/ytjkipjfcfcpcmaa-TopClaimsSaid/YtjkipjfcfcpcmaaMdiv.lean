/-
Long division by two digits of 32 bits: the plain law of math/bits.Div64's printed form.
-/
import Derived.Test.YtjkipjfcfcpcmaaPrint8
import Derived.Lib.ItoaNum
namespace Go.Proofs.Ytjkipjfcfcpcmaa.Print
open Go.RowKit Go.Proofs.YtjkipjfcfcpcmaaW.PrintWords Go.Proofs.YtjkipjfcfcpcmaaW.PrintLast Go.Proofs.YtjkipjfcfcpcmaaW.PrintMore

theorem u64w (n : Int) : IntKind.u64.wrap n = n % 18446744073709551616 := by simp [IntKind.wrap, IntKind.bits, IntKind.signed]
theorem u64i (n : Int) (h0 : 0 ≤ n) (h1 : n < 18446744073709551616) : IntKind.u64.wrap n = n := by rw [u64w]; omega

/-- What a digit's loop keeps: U below Y, d a digit, Q the digit that is looked for. -/
structure Dig (y1 y0 U d Q : Int) : Prop where
  a1 : 2147483648 ≤ y1
  a2 : y1 < 4294967296
  b1 : 0 ≤ y0
  b2 : y0 < 4294967296
  u0 : 0 ≤ U
  u1 : U < y1 * 4294967296 + y0
  d0 : 0 ≤ d
  d1 : d < 4294967296
  q0 : 0 ≤ Q
  lo : Q * (y1 * 4294967296 + y0) ≤ U * 4294967296 + d
  hi : U * 4294967296 + d < (Q + 1) * (y1 * 4294967296 + y0)

variable {y1 y0 U d Q : Int}
theorem Dig.lt_of {q : Int} (h : Dig y1 y0 U d Q) (hq : U * 4294967296 + d < q * (y1 * 4294967296 + y0)) : Q < q := by
  have hY : 0 < y1 * 4294967296 + y0 := by have := h.a1; have := h.b1; omega
  rcases Int.lt_or_le Q q with h' | h'
  · exact h'
  · have := Int.mul_le_mul_of_nonneg_right h' (Int.le_of_lt hY)
    have := h.lo
    omega
theorem Dig.le_of {q : Int} (h : Dig y1 y0 U d Q) (hq : q * (y1 * 4294967296 + y0) ≤ U * 4294967296 + d) : q ≤ Q := by
  have hY : 0 < y1 * 4294967296 + y0 := by have := h.a1; have := h.b1; omega
  rcases Int.lt_or_le Q q with h' | h'
  · have := Int.mul_le_mul_of_nonneg_right (show Q + 1 ≤ q by omega) (Int.le_of_lt hY)
    have := h.hi
    omega
  · exact h'
theorem Dig.small (h : Dig y1 y0 U d Q) : Q < 4294967296 := by
  refine h.lt_of ?_
  have := h.u1
  have := h.d1
  omega
/-- q times Y, by q's own parts. -/
theorem qY (q r : Int) (e : q * y1 + r = U) : q * (y1 * 4294967296 + y0) = (U - r) * 4294967296 + q * y0 := by
  rw [Int.mul_add, ← Int.mul_assoc]
  have : q * y1 = U - r := by omega
  rw [this]
theorem Dig.over1 {q : Int} (h : Dig y1 y0 U d Q) (hq : 4294967296 ≤ q) : Q < q := by have := h.small; omega
theorem Dig.over2 {q r : Int} (h : Dig y1 y0 U d Q) (e : q * y1 + r = U) (hq : 4294967296 * r + d < q * y0) : Q < q := by
  refine h.lt_of ?_
  rw [qY q r e]
  omega
theorem Dig.done {q r : Int} (h : Dig y1 y0 U d Q) (e : q * y1 + r = U) (hQ : Q ≤ q) (hq : q * y0 ≤ 4294967296 * r + d) : q = Q := by
  have := h.le_of (q := q) (by rw [qY q r e]; omega)
  omega
theorem Dig.stop {q r : Int} (h : Dig y1 y0 U d Q) (e : q * y1 + r = U) (hQ : Q ≤ q) (hr : 4294967296 ≤ r) : q = Q := by
  have h0 := h.q0
  have hq : q < 4294967296 := by
    rcases Int.lt_or_le q 4294967296 with h' | h'
    · exact h'
    · have := Int.mul_le_mul_of_nonneg_right h' (show 0 ≤ y1 by have := h.a1; omega)
      have := h.u1; have := h.b2
      omega
  refine h.done e hQ ?_
  have : q * y0 ≤ q * 4294967295 := Int.mul_le_mul_of_nonneg_left (by have := h.b2; omega) (by omega)
  have := h.d0
  omega

/-- The first digit's loop comes to Q. -/
theorem div_l0 (x2 x8 x14 : Int) (R : Int × Int) (h : Dig y1 y0 U d Q) (k0 : Nat) (hR : bits_Div64.j2 k0 x2 x8 y1 y0 U d x14 Q = some R) :
    ∀ (n : Nat) (q r : Int), q * y1 + r = U → Q ≤ q → q ≤ 8589934592 → 0 ≤ r → r < 4294967296 → (q - Q).toNat ≤ n → ∃ k, bits_Div64.l0 k x2 x8 y1 y0 U d x14 q r = some R := by
  have ha1 := h.a1
  have ha2 := h.a2
  have hb1 := h.b1
  have hb2 := h.b2
  have hd0 := h.d0
  have hd1 := h.d1
  have hq0 := h.q0
  intro n
  induction n with
  | zero =>
    intro q r e hQ hq8 hr0 hr1 hn
    obtain rfl : q = Q := by omega
    have hs := h.small
    have hc : q * y0 ≤ 4294967296 * r + d := by
      rcases Int.lt_or_le (4294967296 * r + d) (q * y0) with h' | h'
      · have := h.over2 e h'; omega
      · exact h'
    have hp : 0 ≤ q * y0 := Int.mul_nonneg hq0 hb1
    refine ⟨k0 + 2, ?_⟩
    simp only [bits_Div64.l0]
    rw [if_neg (by omega), u64i (q * y0) hp (by omega), u64i (4294967296 * r) (by omega) (by omega), u64i _ (by omega) (by omega)]
    rw [decide_eq_false (by omega)]
    simp only [bits_Div64.j1]
    rw [if_neg (by simp)]
    exact hR
  | succ n ih =>
    intro q r e hQ hq8 hr0 hr1 hn
    -- one round down
    have down : Q < q → ∃ k, bits_Div64.j1 k x2 x8 y1 y0 U d x14 q r true = some R := by
      intro hlt
      have e' : (q - 1) * y1 + (r + y1) = U := by rw [Int.sub_mul, Int.one_mul]; omega
      have w1 : IntKind.u64.wrap (r + y1) = r + y1 := u64i _ (by omega) (by omega)
      have w2 : IntKind.u64.wrap (q - 1) = q - 1 := u64i _ (by omega) (by omega)
      by_cases hb : r + y1 ≥ 4294967296
      · have := h.stop e' (by omega) hb
        refine ⟨k0 + 1, ?_⟩
        simp only [bits_Div64.j1]
        rw [if_pos trivial, w1, if_pos hb, w2, this]
        exact hR
      · obtain ⟨k, hk⟩ := ih (q - 1) (r + y1) e' (by omega) (by omega) (by omega) (by omega) (by omega)
        refine ⟨k + 1, ?_⟩
        simp only [bits_Div64.j1]
        rw [if_pos trivial, w1, if_neg hb, w2]
        exact hk
    by_cases hbig : q ≥ 4294967296
    · obtain ⟨k, hk⟩ := down (h.over1 hbig)
      refine ⟨k + 1, ?_⟩
      simp only [bits_Div64.l0]
      rw [if_pos hbig]
      exact hk
    · have hp : 0 ≤ q * y0 := Int.mul_nonneg (by omega) hb1
      have hp2 : q * y0 ≤ q * 4294967295 := Int.mul_le_mul_of_nonneg_left (by omega) (by omega)
      by_cases hc : 4294967296 * r + d < q * y0
      · obtain ⟨k, hk⟩ := down (h.over2 e hc)
        refine ⟨k + 1, ?_⟩
        simp only [bits_Div64.l0]
        rw [if_neg hbig, u64i (q * y0) hp (by omega), u64i (4294967296 * r) (by omega) (by omega), u64i _ (by omega) (by omega), decide_eq_true (by omega)]
        exact hk
      · have := h.done e hQ (by omega)
        subst this
        refine ⟨k0 + 2, ?_⟩
        simp only [bits_Div64.l0]
        rw [if_neg hbig, u64i (q * y0) hp (by omega), u64i (4294967296 * r) (by omega) (by omega), u64i _ (by omega) (by omega), decide_eq_false (by omega)]
        simp only [bits_Div64.j1]
        rw [if_neg (by simp)]
        exact hR

/-- The second digit's loop. -/
theorem div_l1 (x2 x8 x15 x17 : Int) (h : Dig y1 y0 U d Q) (h8 : 0 ≤ x8) :
    ∀ (n : Nat) (q r : Int), q * y1 + r = U → Q ≤ q → q ≤ 8589934592 → 0 ≤ r → r < 4294967296 → (q - Q).toNat ≤ n → ∃ k, bits_Div64.l1 k x2 x8 y1 y0 d x15 r x17 q =
      some (IntKind.u64.wrap ((IntKind.u64.wrap (x15 * 4294967296)) + Q), shr .u64 (IntKind.u64.wrap ((IntKind.u64.wrap ((IntKind.u64.wrap (x17 * 4294967296)) + d)) - (IntKind.u64.wrap (Q * x2)))) x8) := by
  have ha1 := h.a1
  have ha2 := h.a2
  have hb1 := h.b1
  have hb2 := h.b2
  have hd0 := h.d0
  have hd1 := h.d1
  have hq0 := h.q0
  intro n
  induction n with
  | zero =>
    intro q r e hQ hq8 hr0 hr1 hn
    obtain rfl : q = Q := by omega
    have hs := h.small
    have hc : q * y0 ≤ 4294967296 * r + d := by
      rcases Int.lt_or_le (4294967296 * r + d) (q * y0) with h' | h'
      · have := h.over2 e h'; omega
      · exact h'
    have hp : 0 ≤ q * y0 := Int.mul_nonneg hq0 hb1
    refine ⟨2, ?_⟩
    simp only [bits_Div64.l1]
    rw [if_neg (by omega), u64i (q * y0) hp (by omega), u64i (4294967296 * r) (by omega) (by omega), u64i _ (by omega) (by omega)]
    rw [decide_eq_false (by omega)]
    simp only [bits_Div64.j4]
    rw [if_neg (by simp), if_pos h8]
  | succ n ih =>
    intro q r e hQ hq8 hr0 hr1 hn
    have down : Q < q → ∃ k, bits_Div64.j4 k x2 x8 y1 y0 d x15 r x17 q true = some (IntKind.u64.wrap ((IntKind.u64.wrap (x15 * 4294967296)) + Q), shr .u64 (IntKind.u64.wrap ((IntKind.u64.wrap ((IntKind.u64.wrap (x17 * 4294967296)) + d)) - (IntKind.u64.wrap (Q * x2)))) x8) := by
      intro hlt
      have e' : (q - 1) * y1 + (r + y1) = U := by rw [Int.sub_mul, Int.one_mul]; omega
      have w1 : IntKind.u64.wrap (r + y1) = r + y1 := u64i _ (by omega) (by omega)
      have w2 : IntKind.u64.wrap (q - 1) = q - 1 := u64i _ (by omega) (by omega)
      by_cases hb : r + y1 ≥ 4294967296
      · have := h.stop e' (by omega) hb
        refine ⟨1, ?_⟩
        simp only [bits_Div64.j4]
        rw [if_pos trivial, w1, if_pos hb, if_pos h8, w2, this]
      · obtain ⟨k, hk⟩ := ih (q - 1) (r + y1) e' (by omega) (by omega) (by omega) (by omega) (by omega)
        refine ⟨k + 1, ?_⟩
        simp only [bits_Div64.j4]
        rw [if_pos trivial, w1, if_neg hb, w2]
        exact hk
    by_cases hbig : q ≥ 4294967296
    · obtain ⟨k, hk⟩ := down (h.over1 hbig)
      refine ⟨k + 1, ?_⟩
      simp only [bits_Div64.l1]
      rw [if_pos hbig]
      exact hk
    · have hp : 0 ≤ q * y0 := Int.mul_nonneg (by omega) hb1
      have hp2 : q * y0 ≤ q * 4294967295 := Int.mul_le_mul_of_nonneg_left (by omega) (by omega)
      by_cases hc : 4294967296 * r + d < q * y0
      · obtain ⟨k, hk⟩ := down (h.over2 e hc)
        refine ⟨k + 1, ?_⟩
        simp only [bits_Div64.l1]
        rw [if_neg hbig, u64i (q * y0) hp (by omega), u64i (4294967296 * r) (by omega) (by omega), u64i _ (by omega) (by omega), decide_eq_true (by omega)]
        exact hk
      · have := h.done e hQ (by omega)
        subst this
        refine ⟨2, ?_⟩
        simp only [bits_Div64.l1]
        rw [if_neg hbig, u64i (q * y0) hp (by omega), u64i (4294967296 * r) (by omega) (by omega), u64i _ (by omega) (by omega), decide_eq_false (by omega)]
        simp only [bits_Div64.j4]
        rw [if_neg (by simp), if_pos h8]

/-- A digit out of any remainder below Y. -/
theorem dig_of (a1 : 2147483648 ≤ y1) (a2 : y1 < 4294967296) (b1 : 0 ≤ y0) (b2 : y0 < 4294967296) (u0 : 0 ≤ U) (u1 : U < y1 * 4294967296 + y0) (d0 : 0 ≤ d) (d1 : d < 4294967296) :
    Dig y1 y0 U d ((U * 4294967296 + d) / (y1 * 4294967296 + y0)) := by
  have hY : 0 < y1 * 4294967296 + y0 := by omega
  have h1 := Int.mul_ediv_add_emod (U * 4294967296 + d) (y1 * 4294967296 + y0)
  have h2 := Int.emod_nonneg (U * 4294967296 + d) (show y1 * 4294967296 + y0 ≠ 0 by omega)
  have h3 := Int.emod_lt_of_pos (U * 4294967296 + d) hY
  have h0 : 0 ≤ (U * 4294967296 + d) / (y1 * 4294967296 + y0) := Int.ediv_nonneg (by omega) (by omega)
  generalize (U * 4294967296 + d) / (y1 * 4294967296 + y0) = q at h1 h0 ⊢
  rw [Int.mul_comm (y1 * 4294967296 + y0) q] at h1
  refine ⟨a1, a2, b1, b2, u0, u1, d0, d1, h0, by omega, ?_⟩
  rw [Int.add_mul, Int.one_mul]
  omega

/-- Both digits: (U, d1, d0) over Y. -/
theorem div_both (Y s U e1 e0 : Int) (y1 y0 : Int) (hY : Y = y1 * 4294967296 + y0) (a1 : 2147483648 ≤ y1) (a2 : y1 < 4294967296) (b1 : 0 ≤ y0) (b2 : y0 < 4294967296) (u0 : 0 ≤ U) (u1 : U < Y)
    (h1 : 0 ≤ e1) (h1' : e1 < 4294967296) (h0 : 0 ≤ e0) (h0' : e0 < 4294967296) (hs : 0 ≤ s) :
    ∃ k, bits_Div64.l0 k Y s y1 y0 U e1 e0 (IntKind.u64.wrap (Int.tdiv U y1)) (IntKind.u64.wrap (U - (IntKind.u64.wrap ((IntKind.u64.wrap (Int.tdiv U y1)) * y1)))) =
      some ((U * 18446744073709551616 + e1 * 4294967296 + e0) / Y, shr .u64 ((U * 18446744073709551616 + e1 * 4294967296 + e0) % Y) s) := by
  subst hY
  have D1 := dig_of a1 a2 b1 b2 u0 u1 h1 h1'
  have hYp : 0 < y1 * 4294967296 + y0 := by omega
  have hYlt : y1 * 4294967296 + y0 < 18446744073709551616 := by omega
  have p1 : 0 < y1 := by omega
  generalize hQ1 : (U * 4294967296 + e1) / (y1 * 4294967296 + y0) = Q1 at D1
  have hR1 := Int.mul_ediv_add_emod (U * 4294967296 + e1) (y1 * 4294967296 + y0)
  rw [hQ1, Int.mul_comm] at hR1
  have r0 := Int.emod_nonneg (U * 4294967296 + e1) (show y1 * 4294967296 + y0 ≠ 0 by omega)
  have r1 := Int.emod_lt_of_pos (U * 4294967296 + e1) hYp
  generalize (U * 4294967296 + e1) % (y1 * 4294967296 + y0) = R1 at hR1 r0 r1
  have D0 := dig_of a1 a2 b1 b2 r0 r1 h0 h0'
  generalize hQ0 : (R1 * 4294967296 + e0) / (y1 * 4294967296 + y0) = Q0 at D0
  have hR0 := Int.mul_ediv_add_emod (R1 * 4294967296 + e0) (y1 * 4294967296 + y0)
  rw [hQ0, Int.mul_comm] at hR0
  have s0 := Int.emod_nonneg (R1 * 4294967296 + e0) (show y1 * 4294967296 + y0 ≠ 0 by omega)
  have s1 := Int.emod_lt_of_pos (R1 * 4294967296 + e0) hYp
  generalize (R1 * 4294967296 + e0) % (y1 * 4294967296 + y0) = R0 at hR0 s0 s1
  have q1lt := D1.small
  have q0lt := D0.small
  have q1p := D1.q0
  have q0p := D0.q0
  -- any number's first guess of a digit
  have guess : ∀ V : Int, 0 ≤ V → V < 18446744073709551616 → IntKind.u64.wrap (Int.tdiv V y1) = V / y1 ∧ IntKind.u64.wrap (V - IntKind.u64.wrap (V / y1 * y1)) = V % y1 ∧ V / y1 ≤ 8589934592 ∧ V / y1 * y1 + V % y1 = V ∧ 0 ≤ V % y1 ∧ V % y1 < 4294967296 ∧ 0 ≤ V / y1 := by
    intro V v0 v1
    have e := Int.mul_ediv_add_emod V y1
    have e0 := Int.emod_nonneg V (show y1 ≠ 0 by omega)
    have e1 := Int.emod_lt_of_pos V p1
    have e2 : 0 ≤ V / y1 := Int.ediv_nonneg v0 (by omega)
    have e3 : V / y1 ≤ 8589934592 := by
      have : V / y1 ≤ V / 2147483648 := by
        apply (Int.le_ediv_iff_mul_le (by omega)).2
        have := Int.mul_le_mul_of_nonneg_left a1 e2
        rw [Int.mul_comm y1] at e
        omega
      omega
    rw [Int.mul_comm] at e
    have hm : 0 ≤ V / y1 * y1 := Int.mul_nonneg e2 (by omega)
    rw [Int.tdiv_eq_ediv_of_nonneg v0, u64i (V / y1) e2 (by omega), u64i (V / y1 * y1) hm (by omega), u64i _ (by omega) (by omega)]
    exact ⟨rfl, by omega, e3, e, e0, by omega, e2⟩
  obtain ⟨g1, g2, g3, g4, g5, g6, g7⟩ := guess U u0 (by omega)
  obtain ⟨k1, k2, k3, k4, k5, k6, k7⟩ := guess R1 r0 (by omega)
  have hle1 : Q1 ≤ U / y1 := by
    rcases Int.lt_or_le (U / y1) Q1 with h' | h'
    · exfalso
      have := Int.mul_le_mul_of_nonneg_right (show U / y1 + 1 ≤ Q1 by omega) (show 0 ≤ y1 * 4294967296 + y0 by omega)
      have e := qY (y0 := y0) (U / y1) (U % y1) g4
      have e2 : (U / y1 + 1) * (y1 * 4294967296 + y0) = U / y1 * (y1 * 4294967296 + y0) + (y1 * 4294967296 + y0) := by rw [Int.add_mul, Int.one_mul]
      have e3 : 0 ≤ U / y1 * y0 := Int.mul_nonneg g7 b1
      have := Int.emod_lt_of_pos U p1
      omega
    · exact h'
  have hle0 : Q0 ≤ R1 / y1 := by
    rcases Int.lt_or_le (R1 / y1) Q0 with h' | h'
    · exfalso
      have := Int.mul_le_mul_of_nonneg_right (show R1 / y1 + 1 ≤ Q0 by omega) (show 0 ≤ y1 * 4294967296 + y0 by omega)
      have e := qY (y0 := y0) (R1 / y1) (R1 % y1) k4
      have e2 : (R1 / y1 + 1) * (y1 * 4294967296 + y0) = R1 / y1 * (y1 * 4294967296 + y0) + (y1 * 4294967296 + y0) := by rw [Int.add_mul, Int.one_mul]
      have e3 : 0 ≤ R1 / y1 * y0 := Int.mul_nonneg k7 b1
      have := Int.emod_lt_of_pos R1 p1
      omega
    · exact h'
  obtain ⟨j, hj⟩ := div_l1 (y1 * 4294967296 + y0) s Q1 R1 D0 hs (R1 / y1 - Q0).toNat (R1 / y1) (R1 % y1) k4 hle0 k3 k5 k6 (Nat.le_refl _)
  have hu21 : IntKind.u64.wrap ((IntKind.u64.wrap ((IntKind.u64.wrap (U * 4294967296)) + e1)) - (IntKind.u64.wrap (Q1 * (y1 * 4294967296 + y0)))) = R1 := by
    rw [u64w, u64w, u64w, u64w]
    generalize Q1 * (y1 * 4294967296 + y0) = P at *
    omega
  have hrem : IntKind.u64.wrap ((IntKind.u64.wrap ((IntKind.u64.wrap (R1 * 4294967296)) + e0)) - (IntKind.u64.wrap (Q0 * (y1 * 4294967296 + y0)))) = R0 := by
    rw [u64w, u64w, u64w, u64w]
    generalize Q0 * (y1 * 4294967296 + y0) = P at *
    omega
  have hquo : IntKind.u64.wrap ((IntKind.u64.wrap (Q1 * 4294967296)) + Q0) = Q1 * 4294967296 + Q0 := by
    rw [u64i (Q1 * 4294967296) (by omega) (by omega), u64i _ (by omega) (by omega)]
  rw [hrem, hquo] at hj
  have hN : U * 18446744073709551616 + e1 * 4294967296 + e0 = (Q1 * 4294967296 + Q0) * (y1 * 4294967296 + y0) + R0 := by
    rw [Int.add_mul, Int.mul_assoc, Int.mul_comm 4294967296, ← Int.mul_assoc]
    generalize Q1 * (y1 * 4294967296 + y0) = P at *
    generalize Q0 * (y1 * 4294967296 + y0) = P2 at *
    omega
  have hdiv : (U * 18446744073709551616 + e1 * 4294967296 + e0) / (y1 * 4294967296 + y0) = Q1 * 4294967296 + Q0 ∧ (U * 18446744073709551616 + e1 * 4294967296 + e0) % (y1 * 4294967296 + y0) = R0 := by
    rw [hN]
    refine ⟨?_, ?_⟩
    · rw [Int.add_comm, Int.add_mul_ediv_right _ _ (by omega), Int.ediv_eq_zero_of_lt s0 s1, Int.zero_add]
    · rw [Int.add_comm, Int.add_mul_emod_self_right, Int.emod_eq_of_lt s0 s1]
  rw [hdiv.1, hdiv.2, g1, g2]
  refine div_l0 (y1 * 4294967296 + y0) s e0 _ D1 (j + 1) ?_ (U / y1 - Q1).toNat (U / y1) (U % y1) g4 hle1 g3 g5 g6 (Nat.le_refl _)
  simp only [bits_Div64.j2]
  rw [if_neg (by omega), hu21, k1, k2]
  exact hj

theorem u64wraps (n : Int) (h0 : 0 ≤ n) (h1 : n < 2 ^ 64) : IntKind.u64.wrap n = n := u64i n h0 (by simpa using h1)

theorem mul_emod_mul_right (a b c : Int) (hc : 0 < c) : a * c % (b * c) = a % b * c := by
  rw [Int.mul_comm a c, Int.mul_comm b c, Int.mul_emod_mul_of_pos a b hc, Int.mul_comm]

/-- **math/bits.Div64, of a quotient that fits.** -/
theorem div64_f (hi lo y : Nat) (hlo : lo < 18446744073709551616) (hy : hi < y) (hy2 : y < 18446744073709551616) :
    ∃ k, bits_Div64.f k hi lo y = some (((hi : Int) * 18446744073709551616 + lo) / y, ((hi : Int) * 18446744073709551616 + lo) % y) := by
  by_cases h0 : hi = 0
  · subst h0
    refine ⟨0, ?_⟩
    unfold bits_Div64.f
    rw [if_neg (by omega), if_neg (by omega), if_pos (by simp)]
    have e1 : (lo : Int).tdiv y = (lo : Int) / y := Int.tdiv_eq_ediv_of_nonneg (by omega)
    have e2 : (lo : Int).tmod y = (lo : Int) % y := Int.tmod_eq_emod_of_nonneg (by omega)
    have e3 : (lo : Int) / y < 18446744073709551616 := by
      have : (lo : Int) / y ≤ lo := Int.ediv_le_self _ (by omega)
      omega
    rw [e1, e2, u64i _ (Int.ediv_nonneg (by omega) (by omega)) e3]
    simp
  · have hL : 1 ≤ Lib.bitLen y ∧ 2 ^ (Lib.bitLen y - 1) ≤ y ∧ y < 2 ^ Lib.bitLen y := Lib.bitLenAux_bounds 64 y (by simpa using hy2) (by omega)
    obtain ⟨L1, L2, L3⟩ := hL
    have L4 : Lib.bitLen y ≤ 64 := Lib.bitLen_le y 64 (Nat.le_refl _) (by simpa using hy2)
    generalize hLL : Lib.bitLen y = L at L1 L2 L3 L4
    obtain ⟨s, hs⟩ : ∃ s, L + s = 64 := ⟨64 - L, by omega⟩
    have hpow : (2 : Nat) ^ L * 2 ^ s = 18446744073709551616 := by rw [← Nat.pow_add, hs]
    have hpow1 : (2 : Nat) ^ (L - 1) * 2 ^ s = 9223372036854775808 := by rw [← Nat.pow_add, show L - 1 + s = 63 by omega]
    have hP : 0 < (2 : Nat) ^ s := Nat.two_pow_pos s
    have Y1 : 9223372036854775808 ≤ y * 2 ^ s := by rw [← hpow1]; exact Nat.mul_le_mul_right _ L2
    have Y2 : y * 2 ^ s < 18446744073709551616 := by rw [← hpow]; exact (Nat.mul_lt_mul_right hP).2 L3
    have H2 : hi * 2 ^ s < y * 2 ^ s := (Nat.mul_lt_mul_right hP).2 hy
    have V2 : lo / 2 ^ L < 2 ^ s := by
      rw [Nat.div_lt_iff_lt_mul (Nat.two_pow_pos L), Nat.mul_comm, hpow]; exact hlo
    -- the shifts
    have w1 : bits_LeadingZeros64.f y = some ((s : Nat) : Int) := by
      unfold bits_LeadingZeros64.f
      rw [if_pos (by omega), Int.toNat_natCast, hLL]
      congr 1
      omega
    have w2 : IntKind.u64.wrap ((s : Nat) : Int) = (s : Int) := u64i _ (by omega) (by omega)
    have w3 : IntKind.u64.wrap (64 - (s : Int)) = (L : Int) := by rw [u64i _ (by omega) (by omega)]; omega
    have sh (x : Nat) : shl .u64 x (s : Int) = ((x * 2 ^ s % 18446744073709551616 : Nat) : Int) := by
      unfold shl
      rw [Int.toNat_natCast, Nat.min_eq_left (by simp [IntKind.bits]; omega), u64w]
      simp
    have e1 : shl .u64 y (s : Int) = ((y * 2 ^ s : Nat) : Int) := by rw [sh, Nat.mod_eq_of_lt Y2]
    have e2 : shl .u64 hi (s : Int) = ((hi * 2 ^ s : Nat) : Int) := by rw [sh, Nat.mod_eq_of_lt (by omega)]
    have e3 : shr .u64 lo (L : Int) = ((lo / 2 ^ L : Nat) : Int) := by
      unfold shr
      rw [Int.toNat_natCast, Nat.min_eq_left (by simp [IntKind.bits]; omega)]
      simp
    have e4 : Go.bits .or .u64 ((hi * 2 ^ s : Nat) : Int) ((lo / 2 ^ L : Nat) : Int) = ((hi * 2 ^ s + lo / 2 ^ L : Nat) : Int) := by
      rw [bits_join .u64 64 (by decide) u64wraps s _ _ (by omega) (by simp) (by
        have : ((2 : Int) ^ 64) = 18446744073709551616 := by decide
        rw [this]; omega) (Int.natCast_nonneg _) (by exact_mod_cast V2) (by
        have : ((2 : Int) ^ 64) = 18446744073709551616 := by decide
        have h := Nat.div_le_self lo (2 ^ L)
        rw [this]; omega)]
      simp
    have mask (x : Nat) (hx : x < 18446744073709551616) : Go.bits .and .u64 ((x : Nat) : Int) 4294967295 = (x : Int) % 4294967296 := by
      have := bits_mask .u64 64 (by decide) u64wraps 32 (by decide) (x : Int) (by omega) (by
        have : ((2 : Int) ^ 64) = 18446744073709551616 := by decide
        rw [this]; omega)
      simpa using this
    have hlt : hi * 2 ^ s + lo / 2 ^ L < y * 2 ^ s := by
      have : (hi + 1) * 2 ^ s ≤ y * 2 ^ s := Nat.mul_le_mul_right _ hy
      rw [Nat.add_mul, Nat.one_mul] at this
      omega
    have hsplit : lo * 2 ^ s = lo / 2 ^ L * 18446744073709551616 + lo * 2 ^ s % 18446744073709551616 := by
      have h := Nat.div_add_mod (lo * 2 ^ s) 18446744073709551616
      have h2 : lo * 2 ^ s / 18446744073709551616 = lo / 2 ^ L := by rw [← hpow, Nat.mul_div_mul_right _ _ hP]
      rw [h2] at h
      omega
    have hN : ((hi * 2 ^ s + lo / 2 ^ L : Nat) : Int) * 18446744073709551616 + ((lo * 2 ^ s % 18446744073709551616 : Nat) : Int) / 4294967296 * 4294967296 + ((lo * 2 ^ s % 18446744073709551616 : Nat) : Int) % 4294967296 =
        ((hi : Int) * 18446744073709551616 + lo) * ((2 ^ s : Nat) : Int) := by
      have h1 : (hi * 18446744073709551616 + lo) * 2 ^ s = (hi * 2 ^ s) * 18446744073709551616 + lo * 2 ^ s := by
        rw [Nat.add_mul, Nat.mul_assoc, Nat.mul_comm 18446744073709551616, ← Nat.mul_assoc]
      have h2 : ((hi : Int) * 18446744073709551616 + lo) * ((2 ^ s : Nat) : Int) = (((hi * 18446744073709551616 + lo) * 2 ^ s : Nat) : Int) := by simp
      rw [h2, h1]
      generalize hi * 2 ^ s = a at *
      generalize lo * 2 ^ s = b at *
      omega
    have hm := mask (y * 2 ^ s) Y2
    have hml := mask (lo * 2 ^ s % 18446744073709551616) (Nat.mod_lt _ (by decide))
    obtain ⟨k, hk⟩ := div_both ((y * 2 ^ s : Nat) : Int) (s : Int) ((hi * 2 ^ s + lo / 2 ^ L : Nat) : Int) (((lo * 2 ^ s % 18446744073709551616 : Nat) : Int) / 4294967296) (((lo * 2 ^ s % 18446744073709551616 : Nat) : Int) % 4294967296)
      (((y * 2 ^ s : Nat) : Int) / 4294967296) (((y * 2 ^ s : Nat) : Int) % 4294967296) (by omega) (by omega) (by omega) (by omega) (by omega) (by omega) (by omega) (by omega)
      (by have := Nat.mod_lt (lo * 2 ^ s) (show 0 < 18446744073709551616 by decide); omega) (by omega) (by omega) (by omega)
    refine ⟨k, ?_⟩
    unfold bits_Div64.f
    rw [if_neg (by omega), if_neg (by omega), if_neg (by omega), w1]
    simp only [Option.bind_some]
    rw [w2, w3, if_pos (by omega), if_pos (by omega), e1, e2, e3, e4, hm, sh lo, hml, if_neg (by omega), hk, hN]
    have hPz : (0 : Int) < ((2 ^ s : Nat) : Int) := by omega
    have hYe : ((y * 2 ^ s : Nat) : Int) = (y : Int) * ((2 ^ s : Nat) : Int) := by simp
    rw [hYe, Int.mul_ediv_mul_of_pos_left _ _ hPz, mul_emod_mul_right _ _ _ hPz]
    congr 2
    unfold shr
    rw [Int.toNat_natCast, Nat.min_eq_left (by simp [IntKind.bits]; omega)]
    have : ((2 ^ s : Nat) : Int) = (2 : Int) ^ s := by simp
    rw [← this, Int.mul_ediv_cancel _ (by omega)]

theorem div64_calls (x y s : Nat) (hx : x ≤ 1099511627776) (hy : y ≤ s) (hs : 0 < s) (hs2 : s ≤ 4611686018427387904) (w : World) :
    Calls Try.prog 49 #[.int .u64 ((x * y / 18446744073709551616 : Nat) : Int), .int .u64 ((x * y % 18446744073709551616 : Nat) : Int), .int .u64 (s : Int)] w fun e w' =>
      ∃ q r : Nat, e = .returned (.tuple #[.int .u64 (q : Int), .int .u64 (r : Int)]) ∧ Aside0 (q = x * y / s ∧ r = x * y % s) ∧ q ≤ 1099511627776 ∧ Drawn0 w w' := by
  have hle : x * y ≤ 1099511627776 * s := Nat.mul_le_mul hx hy
  obtain ⟨k, hk⟩ := div64_f (x * y / 18446744073709551616) (x * y % 18446744073709551616) s (Nat.mod_lt _ (by decide)) (by omega) (by omega)
  have e : ((x * y / 18446744073709551616 : Nat) : Int) * 18446744073709551616 + ((x * y % 18446744073709551616 : Nat) : Int) = ((x * y : Nat) : Int) := by omega
  rw [e] at hk
  refine (bits_Div64.calls k _ _ _ _ _ w hk).mono ?_
  rintro e w' ⟨rfl, hd⟩
  refine ⟨x * y / s, x * y % s, by simp, ⟨rfl, rfl⟩, ?_, hd⟩
  exact Nat.div_le_of_le_mul (by rw [Nat.mul_comm s]; exact hle)
end Go.Proofs.Ytjkipjfcfcpcmaa.Print
