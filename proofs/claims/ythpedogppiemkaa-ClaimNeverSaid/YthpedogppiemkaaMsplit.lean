/-
The plain mathematics of a split: its parts, told by the rank of each rest.
-/
namespace Go.Proofs.Ythpedogppiemkaa.Print

/-- Does j stand before i: a greater rest, or an alike one that stands first? -/
def bef (rs : List Int) (j i : Nat) : Bool := decide (rs.getD i 0 < rs.getD j 0) || (decide (rs.getD j 0 = rs.getD i 0) && decide (j < i))
def rank (rs : List Int) (i : Nat) : Nat := (List.range rs.length).countP (fun j => bef rs j i)
def baseL (t s : Int) (l : List Int) : List Int := l.map fun w => t * w / s
def restL (t s : Int) (l : List Int) : List Int := l.map fun w => t * w % s
def leftOf (t : Int) (l : List Int) : Int := t - (baseL t l.sum l).sum
def partsOf (t : Int) (l : List Int) : List Int :=
  (List.range l.length).map fun i => (baseL t l.sum l).getD i 0 + if (rank (restL t l.sum l) i : Int) < leftOf t l then 1 else 0

theorem partsOf_length (t : Int) (l : List Int) : (partsOf t l).length = l.length := by simp [partsOf]
theorem partsOf_get (t : Int) (l : List Int) (i : Nat) (h : i < l.length) :
    (partsOf t l).getD i 0 = t * l.getD i 0 / l.sum + if (rank (restL t l.sum l) i : Int) < leftOf t l then 1 else 0 := by
  simp [partsOf, baseL, List.getD_eq_getElem?_getD, h]

theorem bef_iff (rs : List Int) (j i : Nat) : bef rs j i = true ↔ rs.getD i 0 < rs.getD j 0 ∨ (rs.getD j 0 = rs.getD i 0 ∧ j < i) := by
  simp [bef]
theorem bef_irrefl (rs : List Int) (i : Nat) : bef rs i i = false := by
  have : ¬ bef rs i i = true := by rw [bef_iff]; omega
  simpa using this
theorem bef_trans (rs : List Int) {a b c : Nat} (h1 : bef rs a b = true) (h2 : bef rs b c = true) : bef rs a c = true := by
  rw [bef_iff] at *; omega
theorem bef_total (rs : List Int) {a b : Nat} (h : a ≠ b) : bef rs a b = true ∨ bef rs b a = true := by
  rw [bef_iff, bef_iff]; omega
theorem bef_asymm (rs : List Int) {a b : Nat} (h1 : bef rs a b = true) : bef rs b a = false := by
  have : ¬ bef rs b a = true := by rw [bef_iff] at *; omega
  simpa using this

theorem countP_le_of_imp {α : Type} (p q : α → Bool) (l : List α) (h : ∀ x ∈ l, p x = true → q x = true) : l.countP p ≤ l.countP q := List.countP_mono_left h

theorem rank_mono (rs : List Int) {a b : Nat} (ha : a < rs.length) (h : bef rs a b = true) : rank rs a < rank rs b := by
  unfold rank
  have h1 : (List.range rs.length).countP (fun j => bef rs j a) < (List.range rs.length).countP (fun j => bef rs j a || decide (j = a)) := by
    have e : ∀ n, (∀ x ∈ List.range n, x ≠ a) ∨ a < n := fun n => by
      by_cases hn : a < n
      · exact .inr hn
      · exact .inl fun x hx => by simp at hx; omega
    have key : ∀ l : List Nat, a ∈ l → l.countP (fun j => bef rs j a) < l.countP (fun j => bef rs j a || decide (j = a)) := by
      intro l hl
      induction l with
      | nil => cases hl
      | cons x r ih =>
        rw [List.countP_cons, List.countP_cons]
        have hm : r.countP (fun j => bef rs j a) ≤ r.countP (fun j => bef rs j a || decide (j = a)) := List.countP_mono_left fun y _ hy => by simp [hy]
        by_cases hx : x = a
        · subst hx
          simp [bef_irrefl]
          omega
        · have := ih (by rcases List.mem_cons.1 hl with h | h; exact absurd h.symm hx; exact h)
          simp [hx]
          omega
    exact key _ (by simp [ha])
  refine Nat.lt_of_lt_of_le h1 (List.countP_mono_left fun x _ hx => ?_)
  simp only [Bool.or_eq_true, decide_eq_true_eq] at hx
  rcases hx with hx | rfl
  · exact bef_trans rs hx h
  · exact h
theorem rank_lt_iff (rs : List Int) {a b : Nat} (ha : a < rs.length) (hb : b < rs.length) : rank rs a < rank rs b ↔ bef rs a b = true := by
  constructor
  · intro h
    rcases Nat.decEq a b with hne | rfl
    · rcases bef_total rs hne with h' | h'
      · exact h'
      · have := rank_mono rs hb h'; omega
    · omega
  · exact rank_mono rs ha

/-- K: the first ones, all before all others: they are just those whose rank is below their number. -/
theorem mem_iff_rank (rs : List Int) (K : List Nat) (hn : K.Nodup) (hK : ∀ p ∈ K, p < rs.length) (hB : ∀ p ∈ K, ∀ q, q < rs.length → q ∉ K → bef rs p q = true)
    (i : Nat) (hi : i < rs.length) : i ∈ K ↔ rank rs i < K.length := by
  have hperm : ∀ S : List Nat, S.Nodup → (∀ x ∈ S, x < rs.length) → ∀ f : Nat → Bool, (∀ x, x < rs.length → f x = true → x ∈ S) → (List.range rs.length).countP f = S.countP f := by
    intro S hS hlt f hf
    rw [List.countP_eq_length_filter, List.countP_eq_length_filter]
    refine List.Perm.length_eq ((List.perm_ext_iff_of_nodup (List.nodup_range.filter _) (hS.filter _)).2 fun x => ?_)
    simp only [List.mem_filter, List.mem_range]
    exact ⟨fun ⟨h1, h2⟩ => ⟨hf x h1 h2, h2⟩, fun ⟨h1, h2⟩ => ⟨hlt x h1, h2⟩⟩
  constructor
  · intro hm
    -- all before i lie in K, and i itself is not before itself
    have h1 : rank rs i = K.countP (fun j => bef rs j i) := hperm K hn hK _ fun x hx hxb => by
      by_cases hxK : x ∈ K
      · exact hxK
      · have := bef_asymm rs (hB i hm x hx hxK); rw [this] at hxb; cases hxb
    rw [h1]
    rcases Nat.lt_or_ge (K.countP fun j => bef rs j i) K.length with h | h
    · exact h
    · have : K.countP (fun j => bef rs j i) = K.length := Nat.le_antisymm List.countP_le_length h
      rw [List.countP_eq_length] at this
      have := this i hm
      rw [bef_irrefl] at this; cases this
  · intro hr
    by_cases hm : i ∈ K
    · exact hm
    · exfalso
      have h2 : (List.range rs.length).countP (fun j => decide (j ∈ K)) = K.length := by
        rw [hperm K hn hK (fun j => decide (j ∈ K)) fun x _ hx => by simpa using hx]
        exact List.countP_eq_length.2 fun p hp => by simpa using hp
      have h3 : K.length ≤ rank rs i := by
        rw [← h2]
        exact List.countP_mono_left fun x _ hx => hB x (by simpa using hx) i hi hm
      omega

/-! ### what is left for the greatest rests -/
theorem base_rest_sum (t s : Int) : ∀ l : List Int, (baseL t s l).sum * s + (restL t s l).sum = t * l.sum
  | [] => by simp [baseL, restL]
  | x :: r => by
    have ih := base_rest_sum t s r
    simp only [baseL, restL, List.map_cons, List.sum_cons] at ih ⊢
    have h := Int.mul_ediv_add_emod (t * x) s
    rw [Int.add_mul, Int.mul_add, ← ih, Int.mul_comm (t * x / s) s]
    omega
theorem rest_sum_bd (t s : Int) (hs : 0 < s) : ∀ l : List Int, 0 ≤ (restL t s l).sum ∧ (restL t s l).sum ≤ (s - 1) * l.length
  | [] => by simp [restL]
  | x :: r => by
    have ih := rest_sum_bd t s hs r
    simp only [restL, List.map_cons, List.sum_cons] at ih ⊢
    have h1 := Int.emod_nonneg (t * x) (show s ≠ 0 by omega)
    have h2 := Int.emod_lt_of_pos (t * x) hs
    have e : (s - 1) * ((x :: r).length : Int) = (s - 1) * r.length + (s - 1) := by
      rw [List.length_cons, Int.natCast_succ, Int.mul_add, Int.mul_one]
    omega
theorem left_bd (t : Int) (l : List Int) (hs : 0 < l.sum) : 0 ≤ leftOf t l ∧ leftOf t l < l.length := by
  have h := base_rest_sum t l.sum l
  have h2 := rest_sum_bd t l.sum hs l
  have hn : 0 < l.length := by cases l with
    | nil => simp at hs
    | cons x r => simp
  have e : leftOf t l * l.sum = (restL t l.sum l).sum := by unfold leftOf; rw [Int.sub_mul]; omega
  constructor
  · rcases Int.lt_or_le (leftOf t l) 0 with h3 | h3
    · have : leftOf t l * l.sum < 0 := Int.mul_neg_of_neg_of_pos h3 hs
      omega
    · exact h3
  · rcases Int.lt_or_le (leftOf t l) l.length with h3 | h3
    · exact h3
    · have h4 : (l.length : Int) * l.sum ≤ leftOf t l * l.sum := Int.mul_le_mul_of_nonneg_right h3 (by omega)
      have h5 : (l.sum - 1) * (l.length : Int) = (l.length : Int) * l.sum - l.length := by rw [Int.sub_mul, Int.one_mul, Int.mul_comm]
      omega
end Go.Proofs.Ythpedogppiemkaa.Print
