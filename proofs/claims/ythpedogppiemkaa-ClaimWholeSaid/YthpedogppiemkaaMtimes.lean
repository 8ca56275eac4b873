/-
The reference's quotient of a product.
-/
import Derived.Test.YthpedogppiemkaaMev
import Derived.Test.YthpedogppiemkaaPrint12
namespace Go.Proofs.Ythpedogppiemkaa.Print
open Go.RowKit Go.Proofs.YthpedogppiemkaaW.PrintWords Go.Proofs.YthpedogppiemkaaW.PrintLast Go.Proofs.YthpedogppiemkaaW.PrintMore
theorem i64wraps (n : Int) (h0 : 0 ≤ n) (h1 : n < 2 ^ 63) : IntKind.i64.wrap n = n := by
  have : ((2 : Int) ^ 63) = 9223372036854775808 := by decide
  rw [this] at h1
  rw [IntKind.wrap_i64]; omega
theorem bit_i64 (a i : Nat) (ha : a < 9223372036854775808) (hi : i ≤ 62) : Go.bits .and .i64 (shr .i64 (a : Int) (i : Int)) 1 = ((a / 2 ^ i % 2 : Nat) : Int) := by
  have e : shr .i64 (a : Int) (i : Int) = ((a / 2 ^ i : Nat) : Int) := by
    unfold shr
    rw [Int.toNat_natCast, Nat.min_eq_left (by simp [IntKind.bits]; omega)]
    simp
  rw [e]
  have h := Nat.div_le_self a (2 ^ i)
  have := bits_mask .i64 63 (by decide) i64wraps 1 (by decide) ((a / 2 ^ i : Nat) : Int) (Int.natCast_nonneg _) (by
    have : ((2 : Int) ^ 63) = 9223372036854775808 := by decide
    rw [this]; omega)
  simpa using this

theorem times_loop (a b c : Nat) (ha : a < 9223372036854775808) (hb : b < 9223372036854775808) (hc : 0 < c) (hc2 : c ≤ 4611686018427387904) (hq : a * b / c < 9223372036854775808) :
    ∀ (i q r : Nat), i ≤ 63 → q * c + r = a / 2 ^ i * b → r < c → Ev (fun k => supercargoref04_Times.l0 k a b c (q : Int) (r : Int) ((i : Int) - 1)) (((a * b / c : Nat) : Int), ((a * b % c : Nat) : Int))
  | 0, q, r, _, h, hr => by
    refine Ev.step (fun k => by rw [supercargoref04_Times.l0]) ?_
    refine Ev.neg (by omega) ?_
    rw [Nat.pow_zero, Nat.div_one] at h
    have h1 : a * b / c = q := by
      rw [← h, Nat.add_comm, Nat.add_mul_div_right _ _ hc, Nat.div_eq_of_lt hr, Nat.zero_add]
    have h2 : a * b % c = r := by
      rw [← h, Nat.add_comm, Nat.add_mul_mod_self_right, Nat.mod_eq_of_lt hr]
    rw [h1, h2]
    exact Ev.now _
  | i + 1, q, r, hi, h, hr => by
    have hhalf : a / 2 ^ (i + 1) = a / 2 ^ i / 2 := by rw [Nat.pow_succ, Nat.div_div_eq_div_mul]
    rw [hhalf] at h
    have hle : a / 2 ^ i * b ≤ a * b := Nat.mul_le_mul_right _ (Nat.div_le_self _ _)
    generalize hA : a / 2 ^ i = A at h hle
    have hbit : A = 2 * (A / 2) + A % 2 := by omega
    -- what is doubled
    have hdbl : 2 * q * c + 2 * r + A % 2 * b = A * b := by
      have : A * b = 2 * (A / 2 * b) + A % 2 * b := by
        conv => lhs; rw [hbit]
        rw [Nat.add_mul, Nat.mul_assoc]
      rw [this, ← h, Nat.mul_add, Nat.mul_assoc]
    have hqb : ∀ m : Nat, m * c ≤ a * b → m < 9223372036854775808 := fun m hm => by
      have : m ≤ a * b / c := (Nat.le_div_iff_mul_le hc).2 hm
      omega
    have hq2 : 2 * q < 9223372036854775808 := hqb _ (by omega)
    have hb1 : Int.tdiv (b : Int) c = ((b / c : Nat) : Int) := by rw [Int.tdiv_eq_ediv_of_nonneg (by omega)]; simp
    have hb2 : Int.tmod (b : Int) c = ((b % c : Nat) : Int) := by rw [Int.tmod_eq_emod_of_nonneg (by omega)]; simp
    have hbq : b / c < 9223372036854775808 := Nat.lt_of_le_of_lt (Nat.div_le_self _ _) hb
    have hbr : b % c < c := Nat.mod_lt _ hc
    have hbc : b = b / c * c + b % c := by rw [Nat.mul_comm]; exact (Nat.div_add_mod b c).symm
    generalize b / c = bq at hb1 hbq hbc
    generalize b % c = br at hb2 hbr hbc
    -- the second half of a round, out of any state that holds the doubled numbers
    have second : ∀ q' r' : Nat, q' * c + r' = 2 * q * c + 2 * r → r' < c → Ev (fun k => supercargoref04_Times.j1 k a b c (q' : Int) (r' : Int) ((i + 1 : Nat) - 1 : Int)) (((a * b / c : Nat) : Int), ((a * b % c : Nat) : Int)) := by
      intro q' r' h' hr'
      have ei : ((i + 1 : Nat) - 1 : Int) = (i : Int) := by omega
      rw [ei]
      refine Ev.step (fun k => by rw [supercargoref04_Times.j1]) ?_
      refine Ev.pos (by omega) ?_
      rw [bit_i64 a i ha (by omega), hA]
      have hw : wrap64 ((i : Int) - 1) = (i : Int) - 1 := w64 _ (by omega) (by omega)
      rw [hw]
      by_cases hb0 : A % 2 = 1
      · refine Ev.pos (by omega) (Ev.neg (by omega) ?_)
        rw [hb1, hb2]
        rw [hb0, Nat.one_mul] at hdbl
        have htot : (q' + bq) * c + (r' + br) = A * b := by rw [Nat.add_mul]; omega
        have hqs : q' + bq < 9223372036854775808 := hqb _ (by omega)
        rw [w64 (bq : Int) (by omega) (by omega), w64 ((q' : Int) + (bq : Int)) (by omega) (by omega), w64 ((r' : Int) + (br : Int)) (by omega) (by omega)]
        refine Ev.both (fun e => ?_) (fun e => ?_)
        · have htot2 : (q' + bq + 1) * c + (r' + br - c) = A * b := by rw [Nat.add_mul (q' + bq) 1, Nat.one_mul]; omega
          have hqs2 : q' + bq + 1 < 9223372036854775808 := hqb _ (by omega)
          have ih := times_loop a b c ha hb hc hc2 hq i (q' + bq + 1) (r' + br - c) (by omega) (by rw [hA]; exact htot2) (by omega)
          rw [w64 _ (by omega) (by omega), w64 _ (by omega) (by omega)]
          have e1 : ((q' : Int) + (bq : Int) + 1) = ((q' + bq + 1 : Nat) : Int) := by omega
          have e2 : ((r' : Int) + (br : Int) - (c : Int)) = ((r' + br - c : Nat) : Int) := by omega
          rw [e1, e2]
          exact ih
        · have ih := times_loop a b c ha hb hc hc2 hq i (q' + bq) (r' + br) (by omega) (by rw [hA]; exact htot) (by omega)
          have e1 : ((q' : Int) + (bq : Int)) = ((q' + bq : Nat) : Int) := by omega
          have e2 : ((r' : Int) + (br : Int)) = ((r' + br : Nat) : Int) := by omega
          rw [e1, e2]
          exact ih
      · refine Ev.neg (by omega) ?_
        have hz : A % 2 = 0 := by omega
        rw [hz, Nat.zero_mul] at hdbl
        exact times_loop a b c ha hb hc hc2 hq i q' r' (by omega) (by rw [hA]; omega) hr'
    refine Ev.step (fun k => by rw [supercargoref04_Times.l0]) ?_
    refine Ev.pos (by omega) ?_
    rw [w64 (2 * (r : Int)) (by omega) (by omega), w64 (2 * (q : Int)) (by omega) (by omega)]
    refine Ev.both (fun e => ?_) (fun e => ?_)
    · have ht : (2 * q + 1) * c + (2 * r - c) = 2 * q * c + 2 * r := by rw [Nat.add_mul, Nat.one_mul]; omega
      have hqs : 2 * q + 1 < 9223372036854775808 := hqb _ (by omega)
      have := second (2 * q + 1) (2 * r - c) ht (by omega)
      rw [w64 _ (by omega) (by omega), w64 _ (by omega) (by omega)]
      have e1 : (2 * (q : Int) + 1) = ((2 * q + 1 : Nat) : Int) := by omega
      have e2 : (2 * (r : Int) - (c : Int)) = ((2 * r - c : Nat) : Int) := by omega
      rw [e1, e2]
      exact this
    · have := second (2 * q) (2 * r) rfl (by omega)
      have e1 : (2 * (q : Int)) = ((2 * q : Nat) : Int) := by omega
      have e2 : (2 * (r : Int)) = ((2 * r : Nat) : Int) := by omega
      rw [e1, e2]
      exact this

/-- **supercargoref04.Times: a quotient that fits.** -/
theorem times_ev (a b c : Int) (ha : 0 ≤ a) (ha2 : a ≤ 9223372036854775807) (hb : 0 ≤ b) (hb2 : b ≤ 9223372036854775807) (hc : 0 < c) (hc2 : c ≤ 4611686018427387904) (hq : a * b / c ≤ 9223372036854775807) :
    Ev (fun k => supercargoref04_Times.f k a b c) (a * b / c, a * b % c) := by
  obtain ⟨a, rfl⟩ := Int.eq_ofNat_of_zero_le ha
  obtain ⟨b, rfl⟩ := Int.eq_ofNat_of_zero_le hb
  obtain ⟨c, rfl⟩ := Int.eq_ofNat_of_zero_le (Int.le_of_lt hc)
  have e1 : (a : Int) * b / c = ((a * b / c : Nat) : Int) := by simp
  have e2 : (a : Int) * b % c = ((a * b % c : Nat) : Int) := by simp
  rw [e1] at hq
  rw [e1, e2]
  have hz : a / 2 ^ 63 = 0 := Nat.div_eq_of_lt (by have : (2 : Nat) ^ 63 = 9223372036854775808 := by decide
                                                   omega)
  have := times_loop a b c (by omega) (by omega) (by omega) (by omega) (by omega) 63 0 0 (Nat.le_refl _) (by rw [hz]; simp) (by omega)
  exact this
end Go.Proofs.Ythpedogppiemkaa.Print
