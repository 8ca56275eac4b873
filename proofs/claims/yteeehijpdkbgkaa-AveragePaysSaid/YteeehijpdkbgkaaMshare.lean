/-
The plain laws of layer 4's printed functions.
-/
import Derived.Test.YteeehijpdkbgkaaMev
import Derived.Test.YteeehijpdkbgkaaHsc
import Derived.Test.YteeehijpdkbgkaaPrint17
namespace Go.Proofs.Yteeehijpdkbgkaa.Print
open Go.RowKit Go.Proofs.YteeehijpdkbgkaaW.PrintWords Go.Proofs.YteeehijpdkbgkaaW.PrintLast Go.Proofs.YteeehijpdkbgkaaW.PrintMore

theorem same_l0 (a b : List Int) (hl : a.length = b.length) (hb : a.length ≤ 4611686018427387904) : ∀ (d i : Nat), i + d = a.length → Ev (fun k => supercargoref04_Same.l0 k a b (i : Int)) (decide (a.drop i = b.drop i))
  | 0, i, h => by
    refine Ev.step (fun k => by rw [supercargoref04_Same.l0]) ?_
    refine Ev.neg (by omega) ?_
    rw [List.drop_of_length_le (by omega), List.drop_of_length_le (by omega)]
    exact Ev.now _
  | d + 1, i, h => by
    refine Ev.step (fun k => by rw [supercargoref04_Same.l0]) ?_
    refine Ev.pos (by omega) (Ev.pos (by omega) (Ev.pos (by omega) ?_))
    rw [rd_get, rd_get, drop_cons a i (by omega), drop_cons b i (by omega)]
    refine Ev.both (fun e => ?_) (fun e => ?_)
    · have ih := same_l0 a b hl hb d (i + 1) (by omega)
      rw [w64 _ (by omega) (by omega)]
      have : decide (a.getD i 0 :: a.drop (i + 1) = b.getD i 0 :: b.drop (i + 1)) = decide (a.drop (i + 1) = b.drop (i + 1)) := by simp only [e, List.cons.injEq, true_and]
      rw [this]
      exact ih
    · have : decide (a.getD i 0 :: a.drop (i + 1) = b.getD i 0 :: b.drop (i + 1)) = false := by
        rw [decide_eq_false_iff_not]; intro h; exact e (List.cons.inj h).1
      rw [this]
      exact Ev.now _
theorem same_ev (a b : List Int) (hb : a.length ≤ 4611686018427387904) : Ev (fun k => supercargoref04_Same.f k a b) (decide (a = b)) := by
  unfold supercargoref04_Same.f
  refine Ev.both (fun e => ?_) (fun e => ?_)
  · have h := same_l0 a b (by omega) hb a.length 0 (by omega)
    simpa using h
  · have : decide (a = b) = false := by rw [decide_eq_false_iff_not]; rintro rfl; exact e rfl
    rw [this]
    exact Ev.now _

theorem split_f (t : Int) (l : List Int) (h : l.length ≤ 4611686018427387904) : share_Split.f t l = some (if splitErr t l = 0 then (partsOf t l, 0) else ([], splitErr t l)) := by
  unfold share_Split.f
  rw [if_pos h]

/-! ### supercargoref04.Error -/
theorem error_l1 (t : Int) (l : List Int) (hn : l.length ≤ 4096) (hp : ∀ x ∈ l, 0 ≤ x) (h0 : 0 ≤ t) :
    ∀ (d i : Nat), i + d = l.length → (∀ x ∈ l.take i, x ≤ 1099511627776) →
      Ev (fun k => supercargoref04_Error.l1 k t l (sumTo l i) (i : Int)) (if l.any (fun x => decide (1099511627776 < x)) = true then 3 else if 0 < t ∧ l.any (fun x => decide (0 < x)) = false then 4 else 0)
  | 0, i, h, hs => by
    rw [List.take_of_length_le (by omega)] at hs
    have hA : ¬ l.any (fun x => decide (1099511627776 < x)) = true := by
      rw [List.any_eq_true]; rintro ⟨x, hx, hlt⟩; have := hs x hx; simp at hlt; omega
    rw [if_neg hA]
    refine Ev.step (fun k => by rw [supercargoref04_Error.l1]) ?_
    refine Ev.neg (by omega) ?_
    have hsum : sumTo l i = l.sum := by unfold sumTo; rw [List.take_of_length_le (by omega)]
    rw [hsum]
    refine Ev.both (fun e => ?_) (fun e => ?_)
    · have hz : l.any (fun x => decide (0 < x)) = false := by
        rw [List.any_eq_false]; intro x hx hlt; have := List.le_sum_of_mem_int l hp x hx; simp at hlt; omega
      refine Ev.both (fun ht => ?_) (fun ht => ?_)
      · rw [if_pos ⟨by omega, hz⟩]; exact Ev.now _
      · rw [if_neg (by rintro ⟨h, _⟩; omega)]; exact Ev.now _
    · have hz : l.any (fun x => decide (0 < x)) = true := by
        rcases hb : l.any (fun x => decide (0 < x)) with _ | _
        · exfalso
          rw [List.any_eq_false] at hb
          refine e ?_
          have : ∀ l : List Int, (∀ x ∈ l, 0 ≤ x) → (∀ x ∈ l, ¬ 0 < x) → l.sum = 0 := fun l => by
            induction l with
            | nil => intros; rfl
            | cons y r ih => intro h1 h2; rw [List.sum_cons, ih (fun z hz => h1 z (by simp [hz])) (fun z hz => h2 z (by simp [hz]))]; have := h1 y (by simp); have := h2 y (by simp); omega
          exact this l hp fun x hx h => hb x hx (by simpa using h)
        · rfl
      rw [if_neg (by rw [hz]; rintro ⟨_, h⟩; cases h)]
      exact Ev.now _
  | d + 1, i, h, hs => by
    refine Ev.step (fun k => by rw [supercargoref04_Error.l1]) ?_
    refine Ev.pos (by omega) (Ev.pos (by omega) ?_)
    rw [rd_get]
    refine Ev.both (fun e => ?_) (fun e => ?_)
    · rw [if_pos (List.any_eq_true.2 ⟨_, getD_mem l i (by omega), by simpa using e⟩)]
      exact Ev.now _
    · have hb : ∀ y ∈ l.take i, 0 ≤ y ∧ y ≤ 1099511627776 := fun y hy => ⟨hp y (List.mem_of_mem_take hy), hs y hy⟩
      have hbd : 0 ≤ sumTo l i ∧ sumTo l i ≤ 1099511627776 * i := by
        have := sumTo_bd (l.take i) _ hb i (by rw [List.length_take]; omega)
        unfold sumTo at *
        rw [List.take_take, Nat.min_self] at this
        exact this
      have hx := hp _ (getD_mem l i (by omega))
      have ih := error_l1 t l hn hp h0 d (i + 1) (by omega) (fun x hx => by
        rw [List.take_succ_eq_append_getElem (by omega)] at hx
        rcases List.mem_append.1 hx with hx | hx
        · exact hs x hx
        · simp only [List.mem_singleton] at hx
          subst hx
          simp only [List.getD_eq_getElem?_getD, List.getElem?_eq_getElem (show i < l.length by omega), Option.getD_some] at e
          omega)
      rw [w64 _ (by omega) (by omega), w64 _ (by omega) (by omega), ← sumTo_succ l i (by omega)]
      exact ih

theorem error_l0 (t : Int) (l : List Int) (hn : l.length ≤ 4611686018427387904) (h0 : 0 ≤ t) (hne : l.length ≠ 0) :
    ∀ (d i : Nat), i + d = l.length → (∀ x ∈ l.take i, 0 ≤ x) → Ev (fun k => supercargoref04_Error.l0 k t l (i : Int)) (splitErr t l)
  | 0, i, h, hs => by
    rw [List.take_of_length_le (by omega)] at hs
    have hA : ¬ l.any (fun x => decide (x < 0)) = true := by
      rw [List.any_eq_true]; rintro ⟨x, hx, hlt⟩; have := hs x hx; simp at hlt; omega
    refine Ev.step (fun k => by rw [supercargoref04_Error.l0]) ?_
    refine Ev.neg (by omega) ?_
    unfold splitErr
    rw [if_neg (by rintro ((h | h) | h); omega; omega; exact hA h)]
    refine Ev.both (fun e => ?_) (fun e => ?_)
    · rw [if_pos (.inl (.inl (by omega)))]
      refine Ev.step (fun k => by rw [supercargoref04_Error.j2]) ?_
      exact Ev.pos rfl (Ev.now _)
    · refine Ev.step (fun k => by rw [supercargoref04_Error.j2]) ?_
      refine Ev.both (fun e2 => ?_) (fun e2 => ?_)
      · rw [if_pos (.inr (by simp at e2; omega))]
        exact Ev.now _
      · have e3 : l.length ≤ 4096 := by simp at e2; omega
        have := error_l1 t l e3 hs h0 l.length 0 (by omega) (by simp)
        have hsz : sumTo l 0 = 0 := by simp [sumTo]
        rw [hsz] at this
        have e4 : (if (1099511627776 < t ∨ l.any (fun x => decide (1099511627776 < x)) = true) ∨ 4096 < l.length then (3 : Int) else if 0 < t ∧ l.any (fun x => decide (0 < x)) = false then 4 else 0) =
            if l.any (fun x => decide (1099511627776 < x)) = true then 3 else if 0 < t ∧ l.any (fun x => decide (0 < x)) = false then 4 else 0 := by
          by_cases hb : l.any (fun x => decide (1099511627776 < x)) = true
          · rw [if_pos (.inl (.inr hb)), if_pos hb]
          · rw [if_neg (by rintro ((h | h) | h); omega; exact hb h; omega), if_neg hb]
        rw [e4]
        exact this
  | d + 1, i, h, hs => by
    refine Ev.step (fun k => by rw [supercargoref04_Error.l0]) ?_
    refine Ev.pos (by omega) (Ev.pos (by omega) ?_)
    rw [rd_get]
    refine Ev.both (fun e => ?_) (fun e => ?_)
    · unfold splitErr
      rw [if_pos (.inr (List.any_eq_true.2 ⟨_, getD_mem l i (by omega), by simpa using e⟩))]
      exact Ev.now _
    · have ih := error_l0 t l hn h0 hne d (i + 1) (by omega) (fun x hx => by
        rw [List.take_succ_eq_append_getElem (by omega)] at hx
        rcases List.mem_append.1 hx with hx | hx
        · exact hs x hx
        · simp only [List.mem_singleton] at hx
          subst hx
          simp only [List.getD_eq_getElem?_getD, List.getElem?_eq_getElem (show i < l.length by omega), Option.getD_some] at e
          omega)
      rw [w64 _ (by omega) (by omega)]
      exact ih

theorem error_ev (t : Int) (l : List Int) (hn : l.length ≤ 4611686018427387904) : Ev (fun k => supercargoref04_Error.f k t l) (splitErr t l) := by
  unfold supercargoref04_Error.f
  refine Ev.both (fun e => ?_) (fun e => ?_)
  · refine Ev.step (fun k => by rw [supercargoref04_Error.j0]) ?_
    unfold splitErr
    rw [if_pos (.inl (.inl e))]
    exact Ev.pos rfl (Ev.now _)
  · refine Ev.step (fun k => by rw [supercargoref04_Error.j0]) ?_
    refine Ev.both (fun e2 => ?_) (fun e2 => ?_)
    · unfold splitErr
      rw [if_pos (.inl (.inr (by simpa using e2)))]
      exact Ev.now _
    · have e3 : l.length ≠ 0 := by simpa using e2
      exact error_l0 t l hn (by omega) e3 l.length 0 (by omega) (by simp)

/-! ### supercargoref04.Times -/
theorem i64wraps (n : Int) (h0 : 0 ≤ n) (h1 : n < 2 ^ 63) : IntKind.i64.wrap n = n := by
  have : ((2 : Int) ^ 63) = 9223372036854775808 := by decide
  rw [this] at h1
  rw [IntKind.wrap_i64]; omega
theorem bit_i64 (a i : Nat) (ha : a < 9223372036854775808) (hi : i ≤ 62) : Go.bits .and .i64 (shr .i64 (a : Int) (i : Int)) 1 = ((a / 2 ^ i % 2 : Nat) : Int) := by
  have e : shr .i64 (a : Int) (i : Int) = ((a / 2 ^ i : Nat) : Int) := by
    unfold shr
    rw [Int.toNat_natCast, Nat.min_eq_left (by simp [IntKind.bits]; omega)]
    simp
  rw [e]
  have h := Nat.div_le_self a (2 ^ i)
  have := bits_mask .i64 63 (by decide) i64wraps 1 (by decide) ((a / 2 ^ i : Nat) : Int) (Int.natCast_nonneg _) (by
    have : ((2 : Int) ^ 63) = 9223372036854775808 := by decide
    rw [this]; omega)
  simpa using this

theorem times_loop (a b c : Nat) (ha : a < 9223372036854775808) (hb : b < 9223372036854775808) (hc : 0 < c) (hc2 : c ≤ 4611686018427387904) (hq : a * b / c < 9223372036854775808) :
    ∀ (i q r : Nat), i ≤ 63 → q * c + r = a / 2 ^ i * b → r < c → Ev (fun k => supercargoref04_Times.l0 k a b c (q : Int) (r : Int) ((i : Int) - 1)) (((a * b / c : Nat) : Int), ((a * b % c : Nat) : Int))
  | 0, q, r, _, h, hr => by
    refine Ev.step (fun k => by rw [supercargoref04_Times.l0]) ?_
    refine Ev.neg (by omega) ?_
    rw [Nat.pow_zero, Nat.div_one] at h
    have h1 : a * b / c = q := by
      rw [← h, Nat.add_comm, Nat.add_mul_div_right _ _ hc, Nat.div_eq_of_lt hr, Nat.zero_add]
    have h2 : a * b % c = r := by
      rw [← h, Nat.add_comm, Nat.add_mul_mod_self_right, Nat.mod_eq_of_lt hr]
    rw [h1, h2]
    exact Ev.now _
  | i + 1, q, r, hi, h, hr => by
    have hhalf : a / 2 ^ (i + 1) = a / 2 ^ i / 2 := by rw [Nat.pow_succ, Nat.div_div_eq_div_mul]
    rw [hhalf] at h
    have hle : a / 2 ^ i * b ≤ a * b := Nat.mul_le_mul_right _ (Nat.div_le_self _ _)
    generalize hA : a / 2 ^ i = A at h hle
    have hbit : A = 2 * (A / 2) + A % 2 := by omega
    -- what is doubled
    have hdbl : 2 * q * c + 2 * r + A % 2 * b = A * b := by
      have : A * b = 2 * (A / 2 * b) + A % 2 * b := by
        conv => lhs; rw [hbit]
        rw [Nat.add_mul, Nat.mul_assoc]
      rw [this, ← h, Nat.mul_add, Nat.mul_assoc]
    have hqb : ∀ m : Nat, m * c ≤ a * b → m < 9223372036854775808 := fun m hm => by
      have : m ≤ a * b / c := (Nat.le_div_iff_mul_le hc).2 hm
      omega
    have hq2 : 2 * q < 9223372036854775808 := hqb _ (by omega)
    have hb1 : Int.tdiv (b : Int) c = ((b / c : Nat) : Int) := by rw [Int.tdiv_eq_ediv_of_nonneg (by omega)]; simp
    have hb2 : Int.tmod (b : Int) c = ((b % c : Nat) : Int) := by rw [Int.tmod_eq_emod_of_nonneg (by omega)]; simp
    have hbq : b / c < 9223372036854775808 := Nat.lt_of_le_of_lt (Nat.div_le_self _ _) hb
    have hbr : b % c < c := Nat.mod_lt _ hc
    have hbc : b = b / c * c + b % c := by rw [Nat.mul_comm]; exact (Nat.div_add_mod b c).symm
    generalize b / c = bq at hb1 hbq hbc
    generalize b % c = br at hb2 hbr hbc
    -- the second half of a round, out of any state that holds the doubled numbers
    have second : ∀ q' r' : Nat, q' * c + r' = 2 * q * c + 2 * r → r' < c → Ev (fun k => supercargoref04_Times.j1 k a b c (q' : Int) (r' : Int) ((i + 1 : Nat) - 1 : Int)) (((a * b / c : Nat) : Int), ((a * b % c : Nat) : Int)) := by
      intro q' r' h' hr'
      have ei : ((i + 1 : Nat) - 1 : Int) = (i : Int) := by omega
      rw [ei]
      refine Ev.step (fun k => by rw [supercargoref04_Times.j1]) ?_
      refine Ev.pos (by omega) ?_
      rw [bit_i64 a i ha (by omega), hA]
      have hw : wrap64 ((i : Int) - 1) = (i : Int) - 1 := w64 _ (by omega) (by omega)
      rw [hw]
      by_cases hb0 : A % 2 = 1
      · refine Ev.pos (by omega) (Ev.neg (by omega) ?_)
        rw [hb1, hb2]
        rw [hb0, Nat.one_mul] at hdbl
        have htot : (q' + bq) * c + (r' + br) = A * b := by rw [Nat.add_mul]; omega
        have hqs : q' + bq < 9223372036854775808 := hqb _ (by omega)
        rw [w64 (bq : Int) (by omega) (by omega), w64 ((q' : Int) + (bq : Int)) (by omega) (by omega), w64 ((r' : Int) + (br : Int)) (by omega) (by omega)]
        refine Ev.both (fun e => ?_) (fun e => ?_)
        · have htot2 : (q' + bq + 1) * c + (r' + br - c) = A * b := by rw [Nat.add_mul (q' + bq) 1, Nat.one_mul]; omega
          have hqs2 : q' + bq + 1 < 9223372036854775808 := hqb _ (by omega)
          have ih := times_loop a b c ha hb hc hc2 hq i (q' + bq + 1) (r' + br - c) (by omega) (by rw [hA]; exact htot2) (by omega)
          rw [w64 _ (by omega) (by omega), w64 _ (by omega) (by omega)]
          have e1 : ((q' : Int) + (bq : Int) + 1) = ((q' + bq + 1 : Nat) : Int) := by omega
          have e2 : ((r' : Int) + (br : Int) - (c : Int)) = ((r' + br - c : Nat) : Int) := by omega
          rw [e1, e2]
          exact ih
        · have ih := times_loop a b c ha hb hc hc2 hq i (q' + bq) (r' + br) (by omega) (by rw [hA]; exact htot) (by omega)
          have e1 : ((q' : Int) + (bq : Int)) = ((q' + bq : Nat) : Int) := by omega
          have e2 : ((r' : Int) + (br : Int)) = ((r' + br : Nat) : Int) := by omega
          rw [e1, e2]
          exact ih
      · refine Ev.neg (by omega) ?_
        have hz : A % 2 = 0 := by omega
        rw [hz, Nat.zero_mul] at hdbl
        exact times_loop a b c ha hb hc hc2 hq i q' r' (by omega) (by rw [hA]; omega) hr'
    refine Ev.step (fun k => by rw [supercargoref04_Times.l0]) ?_
    refine Ev.pos (by omega) ?_
    rw [w64 (2 * (r : Int)) (by omega) (by omega), w64 (2 * (q : Int)) (by omega) (by omega)]
    refine Ev.both (fun e => ?_) (fun e => ?_)
    · have ht : (2 * q + 1) * c + (2 * r - c) = 2 * q * c + 2 * r := by rw [Nat.add_mul, Nat.one_mul]; omega
      have hqs : 2 * q + 1 < 9223372036854775808 := hqb _ (by omega)
      have := second (2 * q + 1) (2 * r - c) ht (by omega)
      rw [w64 _ (by omega) (by omega), w64 _ (by omega) (by omega)]
      have e1 : (2 * (q : Int) + 1) = ((2 * q + 1 : Nat) : Int) := by omega
      have e2 : (2 * (r : Int) - (c : Int)) = ((2 * r - c : Nat) : Int) := by omega
      rw [e1, e2]
      exact this
    · have := second (2 * q) (2 * r) rfl (by omega)
      have e1 : (2 * (q : Int)) = ((2 * q : Nat) : Int) := by omega
      have e2 : (2 * (r : Int)) = ((2 * r : Nat) : Int) := by omega
      rw [e1, e2]
      exact this

/-- **supercargoref04.Times: a quotient that fits.** -/
theorem times_ev (a b c : Int) (ha : 0 ≤ a) (ha2 : a ≤ 9223372036854775807) (hb : 0 ≤ b) (hb2 : b ≤ 9223372036854775807) (hc : 0 < c) (hc2 : c ≤ 4611686018427387904) (hq : a * b / c ≤ 9223372036854775807) :
    Ev (fun k => supercargoref04_Times.f k a b c) (a * b / c, a * b % c) := by
  obtain ⟨a, rfl⟩ := Int.eq_ofNat_of_zero_le ha
  obtain ⟨b, rfl⟩ := Int.eq_ofNat_of_zero_le hb
  obtain ⟨c, rfl⟩ := Int.eq_ofNat_of_zero_le (Int.le_of_lt hc)
  have e1 : (a : Int) * b / c = ((a * b / c : Nat) : Int) := by simp
  have e2 : (a : Int) * b % c = ((a * b % c : Nat) : Int) := by simp
  rw [e1] at hq
  rw [e1, e2]
  have hz : a / 2 ^ 63 = 0 := Nat.div_eq_of_lt (by have : (2 : Nat) ^ 63 = 9223372036854775808 := by decide
                                                   omega)
  have := times_loop a b c (by omega) (by omega) (by omega) (by omega) (by omega) 63 0 0 (Nat.le_refl _) (by rw [hz]; simp) (by omega)
  exact this
end Go.Proofs.Yteeehijpdkbgkaa.Print
