/-
What parts are: near their shares; together the total.
-/
import Derived.Test.YthbbfbhgcoffeaaMsplitb
namespace Go.Proofs.Ythbbfbhgcoffeaa.Print

theorem nonneg_sum (l : List Int) (hl : ∀ x ∈ l, 0 ≤ x) : 0 ≤ l.sum := by
  induction l with
  | nil => simp
  | cons x r ih => have := hl x (by simp); have := ih (fun y hy => hl y (by simp [hy])); simp only [List.sum_cons]; omega

/-- The parts are the shares rounded down, but for the first ones by rank. -/
theorem sum_map_add (f g : Nat → Int) (L : List Nat) : (L.map fun i => f i + g i).sum = (L.map f).sum + (L.map g).sum := by
  induction L with
  | nil => simp
  | cons x r ih => simp only [List.map_cons, List.sum_cons, ih]; omega
theorem sum_ite_count (p : Nat → Bool) (L : List Nat) : (L.map fun i => if p i = true then (1 : Int) else 0).sum = (L.countP p : Nat) := by
  induction L with
  | nil => simp
  | cons x r ih =>
    simp only [List.map_cons, List.sum_cons, ih, List.countP_cons]
    by_cases h : p x = true
    · simp [h]; omega
    · simp [h]
theorem map_range_getD (l : List Int) : (List.range l.length).map (fun i => l.getD i 0) = l := by
  apply List.ext_getElem
  · simp
  · intro i h1 h2
    simp [List.getD_eq_getElem?_getD, h2]

/-- Just m places have a rank below m. -/
theorem count_rank (rs : List Int) (m : Nat) (hm : m ≤ rs.length) : (List.range rs.length).countP (fun i => decide (rank rs i < m)) = m := by
  -- the places in the order of their ranks
  induction m with
  | zero =>
    rw [List.countP_eq_zero]
    intro x _ h
    simp at h
  | succ m ih =>
    have ih := ih (by omega)
    -- some place has rank m: else all of rank below m + 1 have rank below m, and the first of the others has rank m
    have hex : ∃ q, q < rs.length ∧ rank rs q = m := by
      -- the others, and the first one of them
      have hne : ∃ q, q < rs.length ∧ ¬ rank rs q < m := by
        refine Classical.byContradiction fun hno => ?_
        have : (List.range rs.length).countP (fun i => decide (rank rs i < m)) = (List.range rs.length).length := List.countP_eq_length.2 fun x hx => by
          have hx' : x < rs.length := by simpa using hx
          have : rank rs x < m := Classical.byContradiction fun h => hno ⟨x, hx', h⟩
          simpa using this
        rw [ih, List.length_range] at this
        omega
      obtain ⟨q0, hq0, hr0⟩ := hne
      -- the least rank among the others
      have hmin : ∀ d q, q < rs.length → ¬ rank rs q < m → rank rs q ≤ m + d → ∃ q', q' < rs.length ∧ ¬ rank rs q' < m ∧ ∀ p, p < rs.length → ¬ rank rs p < m → rank rs q' ≤ rank rs p := by
        intro d
        induction d with
        | zero => intro q h1 h2 h3; exact ⟨q, h1, h2, fun p _ hp => by omega⟩
        | succ d ihd =>
          intro q h1 h2 h3
          by_cases hb : ∃ p, p < rs.length ∧ ¬ rank rs p < m ∧ rank rs p < rank rs q
          · obtain ⟨p, hp1, hp2, hp3⟩ := hb
            exact ihd p hp1 hp2 (by omega)
          · exact ⟨q, h1, h2, fun p hp1 hp2 => Classical.byContradiction fun h => hb ⟨p, hp1, hp2, by omega⟩⟩
      obtain ⟨q, hq, hqm, hqmin⟩ := hmin (rank rs q0) q0 hq0 hr0 (by omega)
      refine ⟨q, hq, ?_⟩
      -- just those below m stand before q
      have : rank rs q = (List.range rs.length).countP (fun i => decide (rank rs i < m)) := by
        unfold rank
        refine List.countP_congr fun x hx => ?_
        have hx' : x < rs.length := by simpa using hx
        have h := rank_lt_iff rs hx' hq
        constructor
        · intro hb
          have h1 := h.2 hb
          have : rank rs x < m := Classical.byContradiction fun h2 => by have := hqmin x hx' h2; omega
          unfold rank at this
          simpa using this
        · intro hb
          have hb' : rank rs x < m := by unfold rank; simpa using hb
          exact h.1 (by omega)
      rw [this, ih]
    obtain ⟨q, hq, hqm⟩ := hex
    have hsplit : (List.range rs.length).countP (fun i => decide (rank rs i < m + 1)) = (List.range rs.length).countP (fun i => decide (rank rs i < m)) + (List.range rs.length).countP (fun i => decide (i = q)) := by
      have key : ∀ L : List Nat, (∀ x ∈ L, x < rs.length) → L.countP (fun i => decide (rank rs i < m + 1)) = L.countP (fun i => decide (rank rs i < m)) + L.countP (fun i => decide (i = q)) := by
        intro L hL
        induction L with
        | nil => rfl
        | cons x r ihr =>
          have hx := hL x (by simp)
          have ihr := ihr (fun y hy => hL y (by simp [hy]))
          rw [List.countP_cons, List.countP_cons, List.countP_cons, ihr]
          by_cases e : x = q
          · subst e
            simp [hqm]
            omega
          · have hne : rank rs x ≠ m := by
              intro h
              rcases bef_total rs e with h' | h'
              · have := rank_mono rs hx h'; omega
              · have := rank_mono rs hq h'; omega
            by_cases h2 : rank rs x < m
            · have : rank rs x < m + 1 := by omega
              simp [h2, e, this]
              omega
            · have : ¬ rank rs x < m + 1 := by omega
              simp [h2, e, this]
      exact key _ (by simp)
    have hone : (List.range rs.length).countP (fun i => decide (i = q)) = 1 := by
      have key : ∀ n, q < n → (List.range n).countP (fun i => decide (i = q)) = 1 := fun n => by
        induction n with
        | zero => intro h; omega
        | succ n ih =>
          intro h
          rw [List.range_succ, List.countP_append]
          by_cases e : n = q
          · subst e
            have : (List.range n).countP (fun i => decide (i = n)) = 0 := by
              rw [List.countP_eq_zero]
              intro x hx hxe
              have h1 : x < n := by simpa using hx
              have h2 : x = n := by simpa using hxe
              omega
            rw [this]
            simp
          · rw [ih (by omega)]
            simp [e]
      exact key _ hq
    rw [hsplit, ih, hone]

theorem parts_sum (t : Int) (l : List Int) (t0 : 0 ≤ t) (hl : ∀ x ∈ l, 0 ≤ x ∧ x ≤ 1099511627776) (hz : l.sum = 0 → t = 0) : (partsOf t l).sum = t := by
  by_cases hs : l.sum = 0
  · rw [hz hs, partsOf_zero]
    generalize l.length = n
    induction n with
    | zero => rfl
    | succ n ih => rw [List.replicate_succ, List.sum_cons, ih]; rfl
  · have hpos : 0 < l.sum := by have := nonneg_sum l (fun x hx => (hl x hx).1); omega
    have hlb := left_bd t l hpos
    obtain ⟨m, hm⟩ := Int.eq_ofNat_of_zero_le hlb.1
    have hrl : (restL t l.sum l).length = l.length := by simp [restL]
    have hbl : (baseL t l.sum l).length = l.length := by simp [baseL]
    unfold partsOf
    rw [sum_map_add, hm]
    have e1 : (List.range l.length).map (fun i => (baseL t l.sum l).getD i 0) = baseL t l.sum l := by
      have := map_range_getD (baseL t l.sum l)
      rwa [hbl] at this
    have e2 : (fun i => if (rank (restL t l.sum l) i : Int) < (m : Int) then (1 : Int) else 0) = fun i => if (fun i => decide (rank (restL t l.sum l) i < m)) i = true then (1 : Int) else 0 := by
      funext i
      by_cases h : rank (restL t l.sum l) i < m
      · rw [if_pos (by omega), if_pos (by simpa using h)]
      · rw [if_neg (by omega), if_neg (by simpa using h)]
    rw [e1, e2, sum_ite_count]
    have hc := count_rank (restL t l.sum l) m (by omega)
    rw [hrl] at hc
    rw [hc]
    unfold leftOf at hm
    omega

theorem parts_near (t : Int) (l : List Int) (hs : 0 < l.sum) (i : Nat) (hi : i < l.length) :
    (partsOf t l).getD i 0 = t * l.getD i 0 / l.sum ∨ (partsOf t l).getD i 0 = t * l.getD i 0 / l.sum + 1 ∧ t * l.getD i 0 % l.sum ≠ 0 := by
  rw [partsOf_get t l i hi]
  by_cases h : (rank (restL t l.sum l) i : Int) < leftOf t l
  · rw [if_pos h]
    refine .inr ⟨rfl, fun hr => ?_⟩
    -- a place without a rest stands behind all that have one: then all rests that lack are fewer than are left
    have hlb := left_bd t l hs
    have hrl : (restL t l.sum l).length = l.length := by simp [restL]
    have hri : (restL t l.sum l).getD i 0 = 0 := by
      have : (restL t l.sum l).getD i 0 = t * l.getD i 0 % l.sum := by simp [restL, List.getD_eq_getElem?_getD, hi]
      rw [this, hr]
    -- the rests that aren't nothing
    have hsum := base_rest_sum t l.sum l
    have hcount : ∀ r : List Int, (∀ x ∈ r, 0 ≤ x ∧ x < l.sum) → r.sum ≤ (l.sum - 1) * (r.countP (fun x => decide (0 < x)) : Nat) := by
      intro r hr
      induction r with
      | nil => simp
      | cons x q ih =>
        have hx := hr x (by simp)
        have ih := ih (fun y hy => hr y (by simp [hy]))
        rw [List.sum_cons, List.countP_cons]
        by_cases h0 : 0 < x
        · have e : (l.sum - 1) * ((q.countP (fun x => decide (0 < x)) + 1 : Nat) : Int) = (l.sum - 1) * (q.countP (fun x => decide (0 < x)) : Nat) + (l.sum - 1) := by
            rw [Int.natCast_succ, Int.mul_add, Int.mul_one]
          simp only [h0, decide_true, if_true]
          omega
        · simp only [h0, decide_false]
          simp only [Bool.false_eq_true, if_false, Nat.add_zero]
          omega
    have hb := hcount (restL t l.sum l) (fun x hx => by
      simp only [restL, List.mem_map] at hx
      obtain ⟨y, _, rfl⟩ := hx
      exact ⟨Int.emod_nonneg _ (by omega), Int.emod_lt_of_pos _ hs⟩)
    -- each of them stands before i
    have hrk : (restL t l.sum l).countP (fun x => decide (0 < x)) ≤ rank (restL t l.sum l) i := by
      have e : (restL t l.sum l).countP (fun x => decide (0 < x)) = (List.range (restL t l.sum l).length).countP (fun j => decide (0 < (restL t l.sum l).getD j 0)) := by
        conv => lhs; rw [← map_range_getD (restL t l.sum l)]
        rw [List.countP_map]
        rfl
      rw [e]
      unfold rank
      refine List.countP_mono_left fun x _ hx => ?_
      rw [bef_iff, hri]
      exact .inl (by simpa using hx)
    have hle : leftOf t l * l.sum = (restL t l.sum l).sum := by unfold leftOf; rw [Int.sub_mul]; omega
    generalize hcn : (restL t l.sum l).countP (fun x => decide (0 < x)) = cn at *
    have h1 : ((cn : Nat) : Int) + 1 ≤ leftOf t l := by omega
    have h2 := Int.mul_le_mul_of_nonneg_right h1 (show 0 ≤ l.sum by omega)
    rw [Int.add_mul, Int.one_mul] at h2
    have h3 : (l.sum - 1) * (cn : Int) = (cn : Int) * l.sum - cn := by rw [Int.sub_mul, Int.one_mul, Int.mul_comm]
    omega
  · rw [if_neg h]
    exact .inl (by omega)

theorem parts_bd (t : Int) (l : List Int) (t0 : 0 ≤ t) (t1 : t ≤ 1099511627776) (hl : ∀ x ∈ l, 0 ≤ x ∧ x ≤ 1099511627776) (hz : l.sum = 0 → t = 0) : ∀ x ∈ partsOf t l, 0 ≤ x ∧ x ≤ 1099511627777 := by
  intro x hx
  by_cases hs : l.sum = 0
  · rw [hz hs, partsOf_zero] at hx
    have := List.eq_of_mem_replicate hx
    omega
  · have hpos : 0 < l.sum := by have := nonneg_sum l (fun x hx => (hl x hx).1); omega
    have hbd := base_bd t l.sum l t0 hpos (fun y hy => ⟨(hl y hy).1, List.le_sum_of_mem_int l (fun z hz => (hl z hz).1) y hy⟩) t1
    obtain ⟨i, hi, rfl⟩ := List.getElem_of_mem hx
    rw [partsOf_length] at hi
    have e : (partsOf t l)[i] = (partsOf t l).getD i 0 := by simp [List.getD_eq_getElem?_getD, partsOf_length, hi]
    have hb := hbd _ (getD_mem (baseL t l.sum l) i (by simp [baseL]; omega))
    have hbi : (baseL t l.sum l).getD i 0 = t * l.getD i 0 / l.sum := by simp [baseL, List.getD_eq_getElem?_getD, hi]
    rw [hbi] at hb
    rw [e]
    rcases parts_near t l hpos i hi with h | ⟨h, _⟩ <;> rw [h] <;> omega

/-- What the law asks of two places, k ahead of i. -/
def FairAt (l ps : List Int) (i k : Nat) : Prop :=
  (l.getD k 0 < l.getD i 0 → ps.getD k 0 ≤ ps.getD i 0) ∧ (l.getD i 0 < l.getD k 0 → ps.getD i 0 ≤ ps.getD k 0) ∧ (l.getD i 0 = l.getD k 0 → ps.getD i 0 ≤ ps.getD k 0 ∧ ps.getD k 0 ≤ ps.getD i 0 + 1)

/-- The parts are fair. -/
theorem parts_fair (t : Int) (l : List Int) (t0 : 0 ≤ t) (hl : ∀ x ∈ l, 0 ≤ x ∧ x ≤ 1099511627776) (hz : l.sum = 0 → t = 0) (i k : Nat) (hi : i < l.length) (hk : k < i) : FairAt l (partsOf t l) i k := by
  by_cases hs : l.sum = 0
  · rw [hz hs, partsOf_zero]
    have e : ∀ j, j < l.length → (List.replicate l.length (0 : Int)).getD j 0 = 0 := fun j hj => by simp [List.getD_eq_getElem?_getD, hj]
    unfold FairAt
    rw [e i hi, e k (by omega)]
    omega
  · have hpos : 0 < l.sum := by have := nonneg_sum l (fun x hx => (hl x hx).1); omega
    have hrl : (restL t l.sum l).length = l.length := by simp [restL]
    have hr : ∀ j, j < l.length → (restL t l.sum l).getD j 0 = t * l.getD j 0 % l.sum := fun j hj => by simp [restL, List.getD_eq_getElem?_getD, hj]
    -- a greater weight: a greater or alike base; where it is alike, no smaller rest
    have mono : ∀ a b, a < l.length → b < l.length → l.getD a 0 < l.getD b 0 → (partsOf t l).getD a 0 ≤ (partsOf t l).getD b 0 := by
      intro a b ha hb h
      have hm : t * l.getD a 0 ≤ t * l.getD b 0 := Int.mul_le_mul_of_nonneg_left (by omega) t0
      have hd : t * l.getD a 0 / l.sum ≤ t * l.getD b 0 / l.sum := Int.ediv_le_ediv hpos hm
      rw [partsOf_get t l a ha, partsOf_get t l b hb]
      by_cases he : t * l.getD a 0 / l.sum = t * l.getD b 0 / l.sum
      · by_cases h1 : (rank (restL t l.sum l) a : Int) < leftOf t l
        · -- then b has a smaller rank
          have e1 := Int.mul_ediv_add_emod (t * l.getD a 0) l.sum
          have e2 := Int.mul_ediv_add_emod (t * l.getD b 0) l.sum
          rw [he] at e1
          by_cases ht : t = 0
          · subst ht
            have hl0 : leftOf 0 l = 0 := by
              have := parts_sum 0 l (Int.le_refl 0) hl hz
              have hb0 : (baseL 0 l.sum l).sum = 0 := by
                have h1 := base_rest_sum 0 l.sum l
                have h2 := (rest_sum_bd 0 l.sum hpos l).1
                have h3 : 0 ≤ (baseL 0 l.sum l).sum := nonneg_sum _ fun x hx => by
                  simp only [baseL, List.mem_map] at hx
                  obtain ⟨y, _, rfl⟩ := hx
                  simp
                rw [Int.zero_mul] at h1
                have h4 : 0 ≤ (baseL 0 l.sum l).sum * l.sum := Int.mul_nonneg h3 (by omega)
                have h5 : (baseL 0 l.sum l).sum * l.sum = 0 := by omega
                rcases Int.mul_eq_zero.1 h5 with h6 | h6
                · exact h6
                · omega
              unfold leftOf
              omega
            rw [hl0] at h1
            omega
          · have hm2 : t * l.getD a 0 < t * l.getD b 0 := Int.mul_lt_mul_of_pos_left h (by omega)
            have hb1 : bef (restL t l.sum l) b a = true := by rw [bef_iff, hr a ha, hr b hb]; exact .inl (by omega)
            have := rank_mono (restL t l.sum l) (by rw [hrl]; exact hb) hb1
            rw [if_pos h1, if_pos (by omega)]
            omega
        · rw [if_neg h1]
          split <;> omega
      · split <;> split <;> omega
    refine ⟨mono k i (by omega) hi, mono i k hi (by omega), fun e => ?_⟩
    rw [partsOf_get t l i hi, partsOf_get t l k (by omega), e]
    have hb1 : bef (restL t l.sum l) k i = true := by rw [bef_iff, hr i hi, hr k (by omega), e]; exact .inr ⟨rfl, hk⟩
    have := rank_mono (restL t l.sum l) (by rw [hrl]; omega) hb1
    by_cases h1 : (rank (restL t l.sum l) i : Int) < leftOf t l
    · rw [if_pos h1, if_pos (by omega)]; omega
    · rw [if_neg h1]; split <;> omega

end Go.Proofs.Ythbbfbhgcoffeaa.Print
