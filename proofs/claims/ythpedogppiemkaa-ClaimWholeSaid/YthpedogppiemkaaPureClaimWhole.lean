/- NEVER MORE THAN THE LOSS: what is shared is the loss, or all lines, if that is less; nobody pays more than a line. Conditions: those of the given statement. -/
import Derived.Test.YthpedogppiemkaaPrint12
import Derived.Test.YthpedogppiemkaaMmay
import Derived.Test.YthpedogppiemkaaMsame
import Derived.Test.YthpedogppiemkaaMtimes
import Derived.Test.YthpedogppiemkaaMsplit
namespace Go.Proofs.Ythpedogppiemkaa.Print

theorem nonneg_sum (l : List Int) (hl : ∀ x ∈ l, 0 ≤ x) : 0 ≤ l.sum := by
  induction l with
  | nil => simp
  | cons x r ih => have := hl x (by simp); have := ih (fun y hy => hl y (by simp [hy])); simp only [List.sum_cons]; omega

/-- The parts are the shares rounded down, but for the first ones by rank. -/
theorem sum_map_add (f g : Nat → Int) (L : List Nat) : (L.map fun i => f i + g i).sum = (L.map f).sum + (L.map g).sum := by
  induction L with
  | nil => simp
  | cons x r ih => simp only [List.map_cons, List.sum_cons, ih]; omega
theorem sum_ite_count (p : Nat → Bool) (L : List Nat) : (L.map fun i => if p i = true then (1 : Int) else 0).sum = (L.countP p : Nat) := by
  induction L with
  | nil => simp
  | cons x r ih =>
    simp only [List.map_cons, List.sum_cons, ih, List.countP_cons]
    by_cases h : p x = true
    · simp [h]; omega
    · simp [h]
theorem map_range_getD (l : List Int) : (List.range l.length).map (fun i => l.getD i 0) = l := by
  apply List.ext_getElem
  · simp
  · intro i h1 h2
    simp [List.getD_eq_getElem?_getD, h2]

/-- Just m places have a rank below m. -/
theorem count_rank (rs : List Int) (m : Nat) (hm : m ≤ rs.length) : (List.range rs.length).countP (fun i => decide (rank rs i < m)) = m := by
  -- the places in the order of their ranks
  induction m with
  | zero =>
    rw [List.countP_eq_zero]
    intro x _ h
    simp at h
  | succ m ih =>
    have ih := ih (by omega)
    -- some place has rank m: else all of rank below m + 1 have rank below m, and the first of the others has rank m
    have hex : ∃ q, q < rs.length ∧ rank rs q = m := by
      -- the others, and the first one of them
      have hne : ∃ q, q < rs.length ∧ ¬ rank rs q < m := by
        refine Classical.byContradiction fun hno => ?_
        have : (List.range rs.length).countP (fun i => decide (rank rs i < m)) = (List.range rs.length).length := List.countP_eq_length.2 fun x hx => by
          have hx' : x < rs.length := by simpa using hx
          have : rank rs x < m := Classical.byContradiction fun h => hno ⟨x, hx', h⟩
          simpa using this
        rw [ih, List.length_range] at this
        omega
      obtain ⟨q0, hq0, hr0⟩ := hne
      -- the least rank among the others
      have hmin : ∀ d q, q < rs.length → ¬ rank rs q < m → rank rs q ≤ m + d → ∃ q', q' < rs.length ∧ ¬ rank rs q' < m ∧ ∀ p, p < rs.length → ¬ rank rs p < m → rank rs q' ≤ rank rs p := by
        intro d
        induction d with
        | zero => intro q h1 h2 h3; exact ⟨q, h1, h2, fun p _ hp => by omega⟩
        | succ d ihd =>
          intro q h1 h2 h3
          by_cases hb : ∃ p, p < rs.length ∧ ¬ rank rs p < m ∧ rank rs p < rank rs q
          · obtain ⟨p, hp1, hp2, hp3⟩ := hb
            exact ihd p hp1 hp2 (by omega)
          · exact ⟨q, h1, h2, fun p hp1 hp2 => Classical.byContradiction fun h => hb ⟨p, hp1, hp2, by omega⟩⟩
      obtain ⟨q, hq, hqm, hqmin⟩ := hmin (rank rs q0) q0 hq0 hr0 (by omega)
      refine ⟨q, hq, ?_⟩
      -- just those below m stand before q
      have : rank rs q = (List.range rs.length).countP (fun i => decide (rank rs i < m)) := by
        unfold rank
        refine List.countP_congr fun x hx => ?_
        have hx' : x < rs.length := by simpa using hx
        have h := rank_lt_iff rs hx' hq
        constructor
        · intro hb
          have h1 := h.2 hb
          have : rank rs x < m := Classical.byContradiction fun h2 => by have := hqmin x hx' h2; omega
          unfold rank at this
          simpa using this
        · intro hb
          have hb' : rank rs x < m := by unfold rank; simpa using hb
          exact h.1 (by omega)
      rw [this, ih]
    obtain ⟨q, hq, hqm⟩ := hex
    have hsplit : (List.range rs.length).countP (fun i => decide (rank rs i < m + 1)) = (List.range rs.length).countP (fun i => decide (rank rs i < m)) + (List.range rs.length).countP (fun i => decide (i = q)) := by
      have key : ∀ L : List Nat, (∀ x ∈ L, x < rs.length) → L.countP (fun i => decide (rank rs i < m + 1)) = L.countP (fun i => decide (rank rs i < m)) + L.countP (fun i => decide (i = q)) := by
        intro L hL
        induction L with
        | nil => rfl
        | cons x r ihr =>
          have hx := hL x (by simp)
          have ihr := ihr (fun y hy => hL y (by simp [hy]))
          rw [List.countP_cons, List.countP_cons, List.countP_cons, ihr]
          by_cases e : x = q
          · subst e
            simp [hqm]
            omega
          · have hne : rank rs x ≠ m := by
              intro h
              rcases bef_total rs e with h' | h'
              · have := rank_mono rs hx h'; omega
              · have := rank_mono rs hq h'; omega
            by_cases h2 : rank rs x < m
            · have : rank rs x < m + 1 := by omega
              simp [h2, e, this]
              omega
            · have : ¬ rank rs x < m + 1 := by omega
              simp [h2, e, this]
      exact key _ (by simp)
    have hone : (List.range rs.length).countP (fun i => decide (i = q)) = 1 := by
      have key : ∀ n, q < n → (List.range n).countP (fun i => decide (i = q)) = 1 := fun n => by
        induction n with
        | zero => intro h; omega
        | succ n ih =>
          intro h
          rw [List.range_succ, List.countP_append]
          by_cases e : n = q
          · subst e
            have : (List.range n).countP (fun i => decide (i = n)) = 0 := by
              rw [List.countP_eq_zero]
              intro x hx hxe
              have h1 : x < n := by simpa using hx
              have h2 : x = n := by simpa using hxe
              omega
            rw [this]
            simp
          · rw [ih (by omega)]
            simp [e]
      exact key _ hq
    rw [hsplit, ih, hone]

theorem parts_sum (t : Int) (l : List Int) (_ : 0 ≤ t) (hl : ∀ x ∈ l, 0 ≤ x ∧ x ≤ 1099511627776) (hz : l.sum = 0 → t = 0) : (partsOf t l).sum = t := by
  by_cases hs : l.sum = 0
  · rw [hz hs, partsOf_zero]
    generalize l.length = n
    induction n with
    | zero => rfl
    | succ n ih => rw [List.replicate_succ, List.sum_cons, ih]; rfl
  · have hpos : 0 < l.sum := by have := nonneg_sum l (fun x hx => (hl x hx).1); omega
    have hlb := left_bd t l hpos
    obtain ⟨m, hm⟩ := Int.eq_ofNat_of_zero_le hlb.1
    have hrl : (restL t l.sum l).length = l.length := by simp [restL]
    have hbl : (baseL t l.sum l).length = l.length := by simp [baseL]
    unfold partsOf
    rw [sum_map_add, hm]
    have e1 : (List.range l.length).map (fun i => (baseL t l.sum l).getD i 0) = baseL t l.sum l := by
      have := map_range_getD (baseL t l.sum l)
      rwa [hbl] at this
    have e2 : (fun i => if (rank (restL t l.sum l) i : Int) < (m : Int) then (1 : Int) else 0) = fun i => if (fun i => decide (rank (restL t l.sum l) i < m)) i = true then (1 : Int) else 0 := by
      funext i
      by_cases h : rank (restL t l.sum l) i < m
      · rw [if_pos (by omega), if_pos (by simpa using h)]
      · rw [if_neg (by omega), if_neg (by simpa using h)]
    rw [e1, e2, sum_ite_count]
    have hc := count_rank (restL t l.sum l) m (by omega)
    rw [hrl] at hc
    rw [hc]
    unfold leftOf at hm
    omega

theorem parts_near (t : Int) (l : List Int) (hs : 0 < l.sum) (i : Nat) (hi : i < l.length) :
    (partsOf t l).getD i 0 = t * l.getD i 0 / l.sum ∨ (partsOf t l).getD i 0 = t * l.getD i 0 / l.sum + 1 ∧ t * l.getD i 0 % l.sum ≠ 0 := by
  rw [partsOf_get t l i hi]
  by_cases h : (rank (restL t l.sum l) i : Int) < leftOf t l
  · rw [if_pos h]
    refine .inr ⟨rfl, fun hr => ?_⟩
    -- a place without a rest stands behind all that have one: then all rests that lack are fewer than are left
    have hlb := left_bd t l hs
    have hrl : (restL t l.sum l).length = l.length := by simp [restL]
    have hri : (restL t l.sum l).getD i 0 = 0 := by
      have : (restL t l.sum l).getD i 0 = t * l.getD i 0 % l.sum := by simp [restL, List.getD_eq_getElem?_getD, hi]
      rw [this, hr]
    -- the rests that aren't nothing
    have hsum := base_rest_sum t l.sum l
    have hcount : ∀ r : List Int, (∀ x ∈ r, 0 ≤ x ∧ x < l.sum) → r.sum ≤ (l.sum - 1) * (r.countP (fun x => decide (0 < x)) : Nat) := by
      intro r hr
      induction r with
      | nil => simp
      | cons x q ih =>
        have hx := hr x (by simp)
        have ih := ih (fun y hy => hr y (by simp [hy]))
        rw [List.sum_cons, List.countP_cons]
        by_cases h0 : 0 < x
        · have e : (l.sum - 1) * ((q.countP (fun x => decide (0 < x)) + 1 : Nat) : Int) = (l.sum - 1) * (q.countP (fun x => decide (0 < x)) : Nat) + (l.sum - 1) := by
            rw [Int.natCast_succ, Int.mul_add, Int.mul_one]
          simp only [h0, decide_true, if_true]
          omega
        · simp only [h0, decide_false]
          simp only [Bool.false_eq_true, if_false, Nat.add_zero]
          omega
    have hb := hcount (restL t l.sum l) (fun x hx => by
      simp only [restL, List.mem_map] at hx
      obtain ⟨y, _, rfl⟩ := hx
      exact ⟨Int.emod_nonneg _ (by omega), Int.emod_lt_of_pos _ hs⟩)
    -- each of them stands before i
    have hrk : (restL t l.sum l).countP (fun x => decide (0 < x)) ≤ rank (restL t l.sum l) i := by
      have e : (restL t l.sum l).countP (fun x => decide (0 < x)) = (List.range (restL t l.sum l).length).countP (fun j => decide (0 < (restL t l.sum l).getD j 0)) := by
        conv => lhs; rw [← map_range_getD (restL t l.sum l)]
        rw [List.countP_map]
        rfl
      rw [e]
      unfold rank
      refine List.countP_mono_left fun x _ hx => ?_
      rw [bef_iff, hri]
      exact .inl (by simpa using hx)
    have hle : leftOf t l * l.sum = (restL t l.sum l).sum := by unfold leftOf; rw [Int.sub_mul]; omega
    generalize hcn : (restL t l.sum l).countP (fun x => decide (0 < x)) = cn at *
    have h1 : ((cn : Nat) : Int) + 1 ≤ leftOf t l := by omega
    have h2 := Int.mul_le_mul_of_nonneg_right h1 (show 0 ≤ l.sum by omega)
    rw [Int.add_mul, Int.one_mul] at h2
    have h3 : (l.sum - 1) * (cn : Int) = (cn : Int) * l.sum - cn := by rw [Int.sub_mul, Int.one_mul, Int.mul_comm]
    omega
  · rw [if_neg h]
    exact .inl (by omega)

theorem parts_bd (t : Int) (l : List Int) (t0 : 0 ≤ t) (t1 : t ≤ 1099511627776) (hl : ∀ x ∈ l, 0 ≤ x ∧ x ≤ 1099511627776) (hz : l.sum = 0 → t = 0) : ∀ x ∈ partsOf t l, 0 ≤ x ∧ x ≤ 1099511627777 := by
  intro x hx
  by_cases hs : l.sum = 0
  · rw [hz hs, partsOf_zero] at hx
    have := List.eq_of_mem_replicate hx
    omega
  · have hpos : 0 < l.sum := by have := nonneg_sum l (fun x hx => (hl x hx).1); omega
    have hbd := base_bd t l.sum l t0 hpos (fun y hy => ⟨(hl y hy).1, List.le_sum_of_mem_int l (fun z hz => (hl z hz).1) y hy⟩) t1
    obtain ⟨i, hi, rfl⟩ := List.getElem_of_mem hx
    rw [partsOf_length] at hi
    have e : (partsOf t l)[i] = (partsOf t l).getD i 0 := by simp [List.getD_eq_getElem?_getD, partsOf_length, hi]
    have hb := hbd _ (getD_mem (baseL t l.sum l) i (by simp [baseL]; omega))
    have hbi : (baseL t l.sum l).getD i 0 = t * l.getD i 0 / l.sum := by simp [baseL, List.getD_eq_getElem?_getD, hi]
    rw [hbi] at hb
    rw [e]
    rcases parts_near t l hpos i hi with h | ⟨h, _⟩ <;> rw [h] <;> omega

end Go.Proofs.Ythpedogppiemkaa.Print

namespace Go.Proofs.Ythpedogppiemkaa.Pure
open Go.RowKit Go.Proofs.Ythpedogppiemkaa.Print Go.Proofs.YthpedogppiemkaaW.PrintWords Go.Proofs.YthpedogppiemkaaW.PrintLast

theorem sumTo_whole (l : List Int) : sumTo l l.length = l.sum := by unfold sumTo; rw [List.take_of_length_le (Nat.le_refl _)]

theorem line_facts (x : S32) (h : MayFacts x.f3 x.f4 x.f8) : lineP x = x.f3 * x.f8 / 1000 ∧ 0 ≤ lineP x ∧ lineP x ≤ 1099511627776 := by
  obtain ⟨h1, h2, _, _, h5, h6⟩ := h
  have p1 : 0 ≤ x.f3 * x.f8 := Int.mul_nonneg (by omega) (by omega)
  have p2 : x.f3 * x.f8 ≤ 1099511627776 * 1000 := Int.mul_le_mul h2 h6 (by omega) (by omega)
  have e : lineP x = x.f3 * x.f8 / 1000 := by
    unfold lineP
    rw [w64 (x.f3 * x.f8) (by omega) (by omega), Int.tdiv_eq_ediv_of_nonneg p1, w64 _ (by omega) (by omega)]
  rw [e]
  omega

theorem line_ev (x : S32) (h : MayFacts x.f3 x.f4 x.f8) : Ev (fun k => supercargoref44_Line.f k x.f0 x.f1 x.f2 x.f3 x.f4 x.f5 x.f6 x.f7 x.f8) (lineP x) := by
  have hf := line_facts x h
  obtain ⟨h1, h2, _, _, h5, h6⟩ := h
  unfold supercargoref44_Line.f
  refine Ev.bind (times_ev x.f3 x.f8 1000 (by omega) (by omega) (by omega) (by omega) (by omega) (by omega) (by omega)) ?_
  rw [hf.1]
  exact Ev.now _

theorem few_l0 (l : List S32) (hl : l.length ≤ 9223372036854775807) : ∀ (d i : Nat), i + d = l.length → Answers (fun k => supercargolaw44_few.l0 k l (i : Int)) (l.length ≤ 12)
  | 0, i, h => by
    refine Answers.next (fun k => by rw [supercargolaw44_few.l0]) ?_
    refine Answers.both (fun h => by omega) (fun _ => Answers.now _ (fun h => ?_))
    have := of_decide_eq_true h
    omega
  | d + 1, i, h => by
    have ih := few_l0 l hl d (i + 1) (by omega)
    refine Answers.next (fun k => by rw [supercargolaw44_few.l0]) ?_
    rw [w64 ((i : Int) + 1) (by omega) (by omega)]
    refine Answers.both (fun _ => ?_) (fun h => by omega)
    refine Answers.both (fun _ => ?_) (fun h => by omega)
    exact Answers.both (fun _ => Answers.now _ (by simp)) (fun _ => ih)

theorem lsum_eq (l : List S32) (h12 : l.length ≤ 4096) (hln : ∀ x ∈ l, 0 ≤ lineP x ∧ lineP x ≤ 1099511627776) : ∀ i, i ≤ l.length → lsumTo l i = (linesTo l i).sum ∧ 0 ≤ lsumTo l i ∧ lsumTo l i ≤ 1099511627776 * (i : Int)
  | 0, _ => by simp [lsumTo, linesTo]
  | i + 1, h => by
    obtain ⟨a, b, c⟩ := lsum_eq l h12 hln i (by omega)
    have hx := hln _ (rd_mem_p l i (by omega))
    rw [lsumTo_succ l i (by omega), linesTo_succ l i (by omega), List.sum_append, ← a, w64 _ (by omega) (by omega)]
    simp only [List.sum_cons, List.sum_nil]
    omega

theorem whole44 (p : S32 → Bool) (lo : Int) (l : List S32) (hp : ∀ x ∈ l, p x = true → MayFacts x.f3 x.f4 x.f8) (h12 : l.length ≤ 12) :
    ∃ ns e, shareP p lo l = some (ns, e) ∧ (e ≠ 0 → ns = []) ∧ (e = 0 → (∀ x ∈ l, MayFacts x.f3 x.f4 x.f8) ∧ ns.length = l.length ∧ ns.sum = mn lo (l.map lineP).sum ∧
      ∀ i, i < l.length → 0 ≤ ns.getD i 0 ∧ ns.getD i 0 ≤ (l.map lineP).getD i 0) := by
  unfold shareP
  by_cases h1 : l.length = 0
  · rw [if_pos h1]; exact ⟨_, _, rfl, fun _ => rfl, fun h => absurd h (by decide)⟩
  rw [if_neg h1]
  by_cases h2 : l.any (fun x => !p x) = true
  · rw [if_pos h2]; exact ⟨_, _, rfl, fun _ => rfl, fun h => absurd h (by decide)⟩
  rw [if_neg h2]
  by_cases h3 : 0 ≤ lo ∧ lo ≤ 1099511627776
  · rw [if_pos h3, if_neg (by omega)]
    have hall : ∀ x ∈ l, MayFacts x.f3 x.f4 x.f8 := fun x hx => hp x hx (by
      cases hpx : p x with
      | true => rfl
      | false => exact absurd (List.any_eq_true.2 ⟨x, hx, by simp [hpx]⟩) h2)
    have hlp : ∀ x ∈ l, 0 ≤ lineP x ∧ lineP x ≤ 1099511627776 := fun x hx => (line_facts x (hall x hx)).2
    have hln : ∀ y ∈ l.map lineP, 0 ≤ y ∧ y ≤ 1099511627776 := fun y hy => by
      obtain ⟨x, hx, rfl⟩ := List.mem_map.1 hy
      exact hlp x hx
    have hlines : linesTo l l.length = l.map lineP := by simp [linesTo]
    have hls := lsum_eq l (by omega) hlp l.length (Nat.le_refl _)
    rw [hlines] at hls
    rw [hls.1, hlines]
    have hlen : (l.map lineP).length = l.length := by simp
    generalize hL : l.map lineP = L at *
    have hL0 := nonneg_sum L (fun x hx => (hln x hx).1)
    by_cases h4 : lo > L.sum
    · rw [if_pos h4]
      refine ⟨_, _, rfl, fun h => absurd rfl h, fun _ => ⟨hall, hlen, ?_, fun i hi => ⟨(hln _ (getD_mem L i (by omega))).1, Int.le_refl _⟩⟩⟩
      unfold mn
      split <;> omega
    · rw [if_neg h4, split_f _ _ (by omega)]
      by_cases h5 : splitErr lo L = 0
      · rw [if_pos h5]
        have hz : L.sum = 0 → lo = 0 := fun h => by omega
        refine ⟨_, _, rfl, fun h => absurd rfl h, fun _ => ⟨hall, by rw [partsOf_length, hlen], ?_, fun i hi => ?_⟩⟩
        · rw [parts_sum lo L h3.1 hln hz]
          unfold mn
          split <;> omega
        · have hb := parts_bd lo L h3.1 h3.2 hln hz _ (getD_mem (partsOf lo L) i (by rw [partsOf_length]; omega))
          refine ⟨hb.1, ?_⟩
          have hx := hln _ (getD_mem L i (by omega))
          by_cases hs : L.sum = 0
          · have : lo = 0 := hz hs
            subst this
            rw [partsOf_zero]
            have : (List.replicate L.length (0 : Int)).getD i 0 = 0 := by simp [List.getD_eq_getElem?_getD, List.getElem?_replicate]; split <;> rfl
            rw [this]
            exact hx.1
          · have hpos : 0 < L.sum := by omega
            have hm : lo * L.getD i 0 ≤ L.sum * L.getD i 0 := Int.mul_le_mul_of_nonneg_right (by omega) hx.1
            have hd : lo * L.getD i 0 / L.sum ≤ L.getD i 0 := Int.ediv_le_of_le_mul hpos (by rw [Int.mul_comm (L.getD i 0)]; exact hm)
            rcases parts_near lo L hpos i (by omega) with h | ⟨h, hr⟩
            · rw [h]; exact hd
            · rw [h]
              have : lo * L.getD i 0 / L.sum ≠ L.getD i 0 := fun e => by
                have hdm := Int.emod_add_mul_ediv (lo * L.getD i 0) L.sum
                rw [e] at hdm
                have := Int.emod_nonneg (lo * L.getD i 0) (show L.sum ≠ 0 by omega)
                omega
              omega
      · rw [if_neg h5]; exact ⟨_, _, rfl, fun _ => rfl, fun h => absurd h h5⟩
  · rw [if_neg h3]; exact ⟨_, _, rfl, fun _ => rfl, fun h => absurd h (by decide)⟩

theorem whole_l0 (lo : Int) (l : List S32) (ns : List Int) (hlen : ns.length = l.length) (h12 : l.length ≤ 12) (hall : ∀ x ∈ l, MayFacts x.f3 x.f4 x.f8)
    (hb : ∀ i, i < l.length → 0 ≤ ns.getD i 0 ∧ ns.getD i 0 ≤ (l.map lineP).getD i 0) (hsum : ns.sum = mn lo (l.map lineP).sum) (hln : ∀ x ∈ l.map lineP, 0 ≤ x ∧ x ≤ 1099511627776) (hnb : ∀ x ∈ ns, 0 ≤ x ∧ x ≤ 1099511627776) :
    ∀ (d i : Nat), i + d = l.length → Ev (fun k => supercargolaw44_ClaimWhole.l0 k lo l (sumTo ns i) (sumTo (l.map lineP) i) ns (ns.length : Int) (i : Int)) true
  | 0, i, h => by
    have hml : (l.map lineP).length = l.length := by simp
    refine Ev.step (fun k => by rw [supercargolaw44_ClaimWhole.l0]) ?_
    refine Ev.neg (by omega) ?_
    have e : ∀ x : List Int, x.length = i → sumTo x i = x.sum := fun x hx => by rw [← hx]; exact sumTo_whole x
    rw [e ns (by omega), e (l.map lineP) (by omega), hsum, show (mn lo (l.map lineP).sum == mn lo (l.map lineP).sum) = true by simp]
    exact Ev.now _
  | d + 1, i, h => by
    have hml : (l.map lineP).length = l.length := by simp
    have ih := whole_l0 lo l ns hlen h12 hall hb hsum hln hnb d (i + 1) (by omega)
    have b1 := sumTo_bd ns _ hnb i (by omega)
    have b2 := sumTo_bd (l.map lineP) _ hln i (by omega)
    have c1 := hb i (by omega)
    have c2 := hln _ (getD_mem (l.map lineP) i (by omega))
    have g1 := sumTo_succ ns i (by omega)
    have g2 := sumTo_succ (l.map lineP) i (by omega)
    refine Ev.step (fun k => by rw [supercargolaw44_ClaimWhole.l0]) ?_
    refine Ev.pos (by omega) (Ev.pos (by omega) (Ev.pos (by omega) (Ev.pos (by omega) ?_)))
    have hg : lineP (rd_T32 l (i : Int)) = (l.map lineP).getD i 0 := by simp [rd_T32, List.getD_eq_getElem?_getD, show i < l.length by omega]
    refine Ev.bind (line_ev _ (hall _ (rd_mem_p l i (by omega)))) ?_
    rw [hg, rd_get, w64 ((i : Int) + 1) (by omega) (by omega), w64 (sumTo ns i + ns.getD i 0) (by omega) (by omega), w64 (sumTo (l.map lineP) i + (l.map lineP).getD i 0) (by omega) (by omega), ← g1, ← g2]
    exact Ev.neg (by omega) (Ev.neg (by omega) ih)

theorem mem_getD (l : List Int) (x : Int) (h : x ∈ l) : ∃ i, i < l.length ∧ l.getD i 0 = x := by
  obtain ⟨i, hi, e⟩ := List.getElem_of_mem h
  exact ⟨i, hi, by simp [List.getD_eq_getElem?_getD, hi, e]⟩

theorem ClaimWhole (lo : Int) (l : List S32) (hl : l.length ≤ 9223372036854775807) (hs : ∀ x ∈ l, Sized1 x) :
    ∃ k, supercargolaw44_ClaimWhole.f k lo l = some true := by
  refine Ev.le (r := true) ?_
  unfold supercargolaw44_ClaimWhole.f
  refine Ev.call (r := true) rfl (Ev.pos rfl ?_)
  have hfew : Answers (fun k => supercargolaw44_few.f k l) (l.length ≤ 12) := by
    unfold supercargolaw44_few.f
    exact few_l0 l hl l.length 0 (by omega)
  obtain ⟨b, hb, hf⟩ := hfew
  refine Ev.bind hb ?_
  cases b with
  | false =>
    refine Ev.step (fun k => by rw [supercargolaw44_ClaimWhole.j0]) ?_
    refine Ev.pos rfl ?_
    exact Ev.call (r := true) rfl (Ev.now _)
  | true =>
    have h12 := hf rfl
    refine Ev.step (fun k => by rw [supercargolaw44_ClaimWhole.j0]) ?_
    refine Ev.neg (by decide) ?_
    obtain ⟨p, hpf, hev⟩ := share_ev lo l hs
    obtain ⟨ns, e, hsh, h1, h2⟩ := whole44 p lo l hpf h12
    refine Ev.bind (hev _ hsh) ?_
    by_cases he : e = 0
    · subst he
      obtain ⟨hall, hlen, hsum, hbd⟩ := h2 rfl
      refine Ev.pos rfl (Ev.pos (by show (ns.length : Int) = _; omega) ?_)
      have hln : ∀ y ∈ l.map lineP, 0 ≤ y ∧ y ≤ 1099511627776 := fun y hy => by
        obtain ⟨x, hx, rfl⟩ := List.mem_map.1 hy
        exact (line_facts x (hall x hx)).2
      have hnb : ∀ y ∈ ns, 0 ≤ y ∧ y ≤ 1099511627776 := fun y hy => by
        obtain ⟨i, hi, rfl⟩ := mem_getD ns y hy
        have := hbd i (by omega)
        have := hln _ (getD_mem (l.map lineP) i (by simp; omega))
        omega
      have h0 := whole_l0 lo l ns hlen h12 hall hbd hsum hln hnb l.length 0 (by omega)
      simpa [sumTo] using h0
    · refine Ev.neg he ?_
      rw [h1 he]
      exact Ev.now _
end Go.Proofs.Ythpedogppiemkaa.Pure
