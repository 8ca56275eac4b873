/- Whoever gave up what, the parts hang on the loss and the values alone: given up by another one, or spent, it is shared the same. Conditions: those of the given statement. -/
import Derived.Test.YteeehijpdkbgkaaPrint21
import Derived.Test.YteeehijpdkbgkaaMavga
import Derived.Test.YteeehijpdkbgkaaMsame
import Derived.Test.YteeehijpdkbgkaaHsc
import Derived.Test.YteeehijpdkbgkaaMsplit
import Derived.Test.YteeehijpdkbgkaaPrint12
namespace Go.Proofs.Yteeehijpdkbgkaa.Print

theorem nonneg_sum (l : List Int) (hl : ∀ x ∈ l, 0 ≤ x) : 0 ≤ l.sum := by
  induction l with
  | nil => simp
  | cons x r ih => have := hl x (by simp); have := ih (fun y hy => hl y (by simp [hy])); simp only [List.sum_cons]; omega

/-- The parts are the shares rounded down, but for the first ones by rank. -/
theorem sum_map_add (f g : Nat → Int) (L : List Nat) : (L.map fun i => f i + g i).sum = (L.map f).sum + (L.map g).sum := by
  induction L with
  | nil => simp
  | cons x r ih => simp only [List.map_cons, List.sum_cons, ih]; omega
theorem sum_ite_count (p : Nat → Bool) (L : List Nat) : (L.map fun i => if p i = true then (1 : Int) else 0).sum = (L.countP p : Nat) := by
  induction L with
  | nil => simp
  | cons x r ih =>
    simp only [List.map_cons, List.sum_cons, ih, List.countP_cons]
    by_cases h : p x = true
    · simp [h]; omega
    · simp [h]
theorem map_range_getD (l : List Int) : (List.range l.length).map (fun i => l.getD i 0) = l := by
  apply List.ext_getElem
  · simp
  · intro i h1 h2
    simp [List.getD_eq_getElem?_getD, h2]

/-- Just m places have a rank below m. -/
theorem count_rank (rs : List Int) (m : Nat) (hm : m ≤ rs.length) : (List.range rs.length).countP (fun i => decide (rank rs i < m)) = m := by
  -- the places in the order of their ranks
  induction m with
  | zero =>
    rw [List.countP_eq_zero]
    intro x _ h
    simp at h
  | succ m ih =>
    have ih := ih (by omega)
    -- some place has rank m: else all of rank below m + 1 have rank below m, and the first of the others has rank m
    have hex : ∃ q, q < rs.length ∧ rank rs q = m := by
      -- the others, and the first one of them
      have hne : ∃ q, q < rs.length ∧ ¬ rank rs q < m := by
        refine Classical.byContradiction fun hno => ?_
        have : (List.range rs.length).countP (fun i => decide (rank rs i < m)) = (List.range rs.length).length := List.countP_eq_length.2 fun x hx => by
          have hx' : x < rs.length := by simpa using hx
          have : rank rs x < m := Classical.byContradiction fun h => hno ⟨x, hx', h⟩
          simpa using this
        rw [ih, List.length_range] at this
        omega
      obtain ⟨q0, hq0, hr0⟩ := hne
      -- the least rank among the others
      have hmin : ∀ d q, q < rs.length → ¬ rank rs q < m → rank rs q ≤ m + d → ∃ q', q' < rs.length ∧ ¬ rank rs q' < m ∧ ∀ p, p < rs.length → ¬ rank rs p < m → rank rs q' ≤ rank rs p := by
        intro d
        induction d with
        | zero => intro q h1 h2 h3; exact ⟨q, h1, h2, fun p _ hp => by omega⟩
        | succ d ihd =>
          intro q h1 h2 h3
          by_cases hb : ∃ p, p < rs.length ∧ ¬ rank rs p < m ∧ rank rs p < rank rs q
          · obtain ⟨p, hp1, hp2, hp3⟩ := hb
            exact ihd p hp1 hp2 (by omega)
          · exact ⟨q, h1, h2, fun p hp1 hp2 => Classical.byContradiction fun h => hb ⟨p, hp1, hp2, by omega⟩⟩
      obtain ⟨q, hq, hqm, hqmin⟩ := hmin (rank rs q0) q0 hq0 hr0 (by omega)
      refine ⟨q, hq, ?_⟩
      -- just those below m stand before q
      have : rank rs q = (List.range rs.length).countP (fun i => decide (rank rs i < m)) := by
        unfold rank
        refine List.countP_congr fun x hx => ?_
        have hx' : x < rs.length := by simpa using hx
        have h := rank_lt_iff rs hx' hq
        constructor
        · intro hb
          have h1 := h.2 hb
          have : rank rs x < m := Classical.byContradiction fun h2 => by have := hqmin x hx' h2; omega
          unfold rank at this
          simpa using this
        · intro hb
          have hb' : rank rs x < m := by unfold rank; simpa using hb
          exact h.1 (by omega)
      rw [this, ih]
    obtain ⟨q, hq, hqm⟩ := hex
    have hsplit : (List.range rs.length).countP (fun i => decide (rank rs i < m + 1)) = (List.range rs.length).countP (fun i => decide (rank rs i < m)) + (List.range rs.length).countP (fun i => decide (i = q)) := by
      have key : ∀ L : List Nat, (∀ x ∈ L, x < rs.length) → L.countP (fun i => decide (rank rs i < m + 1)) = L.countP (fun i => decide (rank rs i < m)) + L.countP (fun i => decide (i = q)) := by
        intro L hL
        induction L with
        | nil => rfl
        | cons x r ihr =>
          have hx := hL x (by simp)
          have ihr := ihr (fun y hy => hL y (by simp [hy]))
          rw [List.countP_cons, List.countP_cons, List.countP_cons, ihr]
          by_cases e : x = q
          · subst e
            simp [hqm]
            omega
          · have hne : rank rs x ≠ m := by
              intro h
              rcases bef_total rs e with h' | h'
              · have := rank_mono rs hx h'; omega
              · have := rank_mono rs hq h'; omega
            by_cases h2 : rank rs x < m
            · have : rank rs x < m + 1 := by omega
              simp [h2, e, this]
              omega
            · have : ¬ rank rs x < m + 1 := by omega
              simp [h2, e, this]
      exact key _ (by simp)
    have hone : (List.range rs.length).countP (fun i => decide (i = q)) = 1 := by
      have key : ∀ n, q < n → (List.range n).countP (fun i => decide (i = q)) = 1 := fun n => by
        induction n with
        | zero => intro h; omega
        | succ n ih =>
          intro h
          rw [List.range_succ, List.countP_append]
          by_cases e : n = q
          · subst e
            have : (List.range n).countP (fun i => decide (i = n)) = 0 := by
              rw [List.countP_eq_zero]
              intro x hx hxe
              have h1 : x < n := by simpa using hx
              have h2 : x = n := by simpa using hxe
              omega
            rw [this]
            simp
          · rw [ih (by omega)]
            simp [e]
      exact key _ hq
    rw [hsplit, ih, hone]

theorem parts_sum (t : Int) (l : List Int) (_ : 0 ≤ t) (hl : ∀ x ∈ l, 0 ≤ x ∧ x ≤ 1099511627776) (hz : l.sum = 0 → t = 0) : (partsOf t l).sum = t := by
  by_cases hs : l.sum = 0
  · rw [hz hs, partsOf_zero]
    generalize l.length = n
    induction n with
    | zero => rfl
    | succ n ih => rw [List.replicate_succ, List.sum_cons, ih]; rfl
  · have hpos : 0 < l.sum := by have := nonneg_sum l (fun x hx => (hl x hx).1); omega
    have hlb := left_bd t l hpos
    obtain ⟨m, hm⟩ := Int.eq_ofNat_of_zero_le hlb.1
    have hrl : (restL t l.sum l).length = l.length := by simp [restL]
    have hbl : (baseL t l.sum l).length = l.length := by simp [baseL]
    unfold partsOf
    rw [sum_map_add, hm]
    have e1 : (List.range l.length).map (fun i => (baseL t l.sum l).getD i 0) = baseL t l.sum l := by
      have := map_range_getD (baseL t l.sum l)
      rwa [hbl] at this
    have e2 : (fun i => if (rank (restL t l.sum l) i : Int) < (m : Int) then (1 : Int) else 0) = fun i => if (fun i => decide (rank (restL t l.sum l) i < m)) i = true then (1 : Int) else 0 := by
      funext i
      by_cases h : rank (restL t l.sum l) i < m
      · rw [if_pos (by omega), if_pos (by simpa using h)]
      · rw [if_neg (by omega), if_neg (by simpa using h)]
    rw [e1, e2, sum_ite_count]
    have hc := count_rank (restL t l.sum l) m (by omega)
    rw [hrl] at hc
    rw [hc]
    unfold leftOf at hm
    omega

theorem parts_near (t : Int) (l : List Int) (hs : 0 < l.sum) (i : Nat) (hi : i < l.length) :
    (partsOf t l).getD i 0 = t * l.getD i 0 / l.sum ∨ (partsOf t l).getD i 0 = t * l.getD i 0 / l.sum + 1 ∧ t * l.getD i 0 % l.sum ≠ 0 := by
  rw [partsOf_get t l i hi]
  by_cases h : (rank (restL t l.sum l) i : Int) < leftOf t l
  · rw [if_pos h]
    refine .inr ⟨rfl, fun hr => ?_⟩
    -- a place without a rest stands behind all that have one: then all rests that lack are fewer than are left
    have hlb := left_bd t l hs
    have hrl : (restL t l.sum l).length = l.length := by simp [restL]
    have hri : (restL t l.sum l).getD i 0 = 0 := by
      have : (restL t l.sum l).getD i 0 = t * l.getD i 0 % l.sum := by simp [restL, List.getD_eq_getElem?_getD, hi]
      rw [this, hr]
    -- the rests that aren't nothing
    have hsum := base_rest_sum t l.sum l
    have hcount : ∀ r : List Int, (∀ x ∈ r, 0 ≤ x ∧ x < l.sum) → r.sum ≤ (l.sum - 1) * (r.countP (fun x => decide (0 < x)) : Nat) := by
      intro r hr
      induction r with
      | nil => simp
      | cons x q ih =>
        have hx := hr x (by simp)
        have ih := ih (fun y hy => hr y (by simp [hy]))
        rw [List.sum_cons, List.countP_cons]
        by_cases h0 : 0 < x
        · have e : (l.sum - 1) * ((q.countP (fun x => decide (0 < x)) + 1 : Nat) : Int) = (l.sum - 1) * (q.countP (fun x => decide (0 < x)) : Nat) + (l.sum - 1) := by
            rw [Int.natCast_succ, Int.mul_add, Int.mul_one]
          simp only [h0, decide_true, if_true]
          omega
        · simp only [h0, decide_false]
          simp only [Bool.false_eq_true, if_false, Nat.add_zero]
          omega
    have hb := hcount (restL t l.sum l) (fun x hx => by
      simp only [restL, List.mem_map] at hx
      obtain ⟨y, _, rfl⟩ := hx
      exact ⟨Int.emod_nonneg _ (by omega), Int.emod_lt_of_pos _ hs⟩)
    -- each of them stands before i
    have hrk : (restL t l.sum l).countP (fun x => decide (0 < x)) ≤ rank (restL t l.sum l) i := by
      have e : (restL t l.sum l).countP (fun x => decide (0 < x)) = (List.range (restL t l.sum l).length).countP (fun j => decide (0 < (restL t l.sum l).getD j 0)) := by
        conv => lhs; rw [← map_range_getD (restL t l.sum l)]
        rw [List.countP_map]
        rfl
      rw [e]
      unfold rank
      refine List.countP_mono_left fun x _ hx => ?_
      rw [bef_iff, hri]
      exact .inl (by simpa using hx)
    have hle : leftOf t l * l.sum = (restL t l.sum l).sum := by unfold leftOf; rw [Int.sub_mul]; omega
    generalize hcn : (restL t l.sum l).countP (fun x => decide (0 < x)) = cn at *
    have h1 : ((cn : Nat) : Int) + 1 ≤ leftOf t l := by omega
    have h2 := Int.mul_le_mul_of_nonneg_right h1 (show 0 ≤ l.sum by omega)
    rw [Int.add_mul, Int.one_mul] at h2
    have h3 : (l.sum - 1) * (cn : Int) = (cn : Int) * l.sum - cn := by rw [Int.sub_mul, Int.one_mul, Int.mul_comm]
    omega
  · rw [if_neg h]
    exact .inl (by omega)

theorem parts_bd (t : Int) (l : List Int) (t0 : 0 ≤ t) (t1 : t ≤ 1099511627776) (hl : ∀ x ∈ l, 0 ≤ x ∧ x ≤ 1099511627776) (hz : l.sum = 0 → t = 0) : ∀ x ∈ partsOf t l, 0 ≤ x ∧ x ≤ 1099511627777 := by
  intro x hx
  by_cases hs : l.sum = 0
  · rw [hz hs, partsOf_zero] at hx
    have := List.eq_of_mem_replicate hx
    omega
  · have hpos : 0 < l.sum := by have := nonneg_sum l (fun x hx => (hl x hx).1); omega
    have hbd := base_bd t l.sum l t0 hpos (fun y hy => ⟨(hl y hy).1, List.le_sum_of_mem_int l (fun z hz => (hl z hz).1) y hy⟩) t1
    obtain ⟨i, hi, rfl⟩ := List.getElem_of_mem hx
    rw [partsOf_length] at hi
    have e : (partsOf t l)[i] = (partsOf t l).getD i 0 := by simp [List.getD_eq_getElem?_getD, partsOf_length, hi]
    have hb := hbd _ (getD_mem (baseL t l.sum l) i (by simp [baseL]; omega))
    have hbi : (baseL t l.sum l).getD i 0 = t * l.getD i 0 / l.sum := by simp [baseL, List.getD_eq_getElem?_getD, hi]
    rw [hbi] at hb
    rw [e]
    rcases parts_near t l hpos i hi with h | ⟨h, _⟩ <;> rw [h] <;> omega

end Go.Proofs.Yteeehijpdkbgkaa.Print

namespace Go.Proofs.Yteeehijpdkbgkaa.Print
open Go.RowKit Go.Proofs.YteeehijpdkbgkaaW.PrintWords Go.Proofs.YteeehijpdkbgkaaW.PrintLast Go.Proofs.YteeehijpdkbgkaaW.PrintMore

def goneAt (l : List S35) (g : List Int) (i : Nat) : Bool := decide (0 ≤ g.getD i 0 ∧ g.getD i 0 ≤ (vals l).getD i 0)
def givenB (l : List S35) (g : List Int) : Bool := mayB l && decide (g.length = l.length) && (List.range g.length).all (goneAt l g)
theorem vals_get (l : List S35) (i : Nat) (h : i < l.length) : (rd_T35 l i).f1 = (vals l).getD i 0 := by
  simp [rd_T35, vals, List.getD_eq_getElem?_getD, h]
theorem given_l0 (l : List S35) (g : List Int) (hg : g.length = l.length) (hn : g.length ≤ 4096) : ∀ (d i : Nat), i + d = g.length →
    Ev (fun k => average_given.l0 k l g (g.length : Int) (i : Int)) ((List.range d).all fun j => goneAt l g (i + j))
  | 0, i, h => by
    refine Ev.step (fun k => by rw [average_given.l0]) ?_
    exact Ev.neg (by omega) (Ev.now _)
  | d + 1, i, h => by
    have ih := given_l0 l g hg hn d (i + 1) (by omega)
    have hall : ((List.range (d + 1)).all fun j => goneAt l g (i + j)) = (goneAt l g i && (List.range d).all fun j => goneAt l g (i + 1 + j)) := by
      rw [List.range_succ_eq_map, List.all_cons, List.all_map, Nat.add_zero]
      congr 1
      refine List.all_congr rfl fun j => ?_
      show goneAt l g (i + (j + 1)) = _
      rw [show i + (j + 1) = i + 1 + j by omega]
    rw [hall]
    refine Ev.step (fun k => by rw [average_given.l0]) ?_
    refine Ev.pos (by omega) (Ev.pos (by omega) (Ev.pos (by omega) ?_))
    rw [rd_get, vals_get l i (by omega), w64 _ (by omega) (by omega)]
    refine Ev.both (fun e => ?_) (fun e => Ev.pos (by omega) (Ev.both (fun e2 => ?_) (fun e2 => ?_)))
    · rw [show goneAt l g i = false by unfold goneAt; exact decide_eq_false (by omega), Bool.false_and]; exact Ev.now _
    · rw [show goneAt l g i = false by unfold goneAt; exact decide_eq_false (by omega), Bool.false_and]; exact Ev.now _
    · rw [show goneAt l g i = true by unfold goneAt; exact decide_eq_true (by omega), Bool.true_and]; exact ih
theorem given_ev (l : List S35) (g : List Int) (hn : l.length ≤ 4096) (hs : ∀ x ∈ l, x.f0.size ≤ 4611686018427387904) : Ev (fun k => average_given.f k l g) (givenB l g) := by
  unfold average_given.f
  refine Ev.call (may_f l (by omega) hs) ?_
  have JT : Ev (fun k => average_given.j0 k l g true) false := by
    refine Ev.step (fun k => by rw [average_given.j0]) ?_
    exact Ev.pos rfl (Ev.now _)
  unfold givenB
  cases mayB l with
  | false => exact Ev.neg (by simp) JT
  | true =>
    refine Ev.pos rfl ?_
    by_cases hl : g.length = l.length
    · rw [show (((g.length : Int) != (l.length : Int))) = false by simp [hl], decide_eq_true hl, Bool.true_and, Bool.true_and]
      refine Ev.step (fun k => by rw [average_given.j0]) ?_
      refine Ev.neg (by simp) ?_
      have h := given_l0 l g hl (by omega) g.length 0 (by omega)
      simpa using h
    · rw [show (((g.length : Int) != (l.length : Int))) = true by simp; omega, decide_eq_false hl, Bool.and_false, Bool.false_and]
      exact JT
theorem given_facts (l : List S35) (g : List Int) (h : givenB l g = true) :
    mayB l = true ∧ g.length = l.length ∧ (∀ x ∈ vals l, 0 ≤ x ∧ x ≤ 1099511627776) ∧ 1 ≤ l.length ∧ l.length ≤ 4096 ∧ (∀ i, i < g.length → 0 ≤ g.getD i 0 ∧ g.getD i 0 ≤ (vals l).getD i 0) ∧ ∀ x ∈ g, 0 ≤ x ∧ x ≤ 1099511627776 := by
  unfold givenB at h
  rw [Bool.and_eq_true, Bool.and_eq_true] at h
  obtain ⟨⟨hm, hl⟩, ha⟩ := h
  have hl : g.length = l.length := by simpa using hl
  obtain ⟨hv, h1, h2⟩ := may_vals l hm
  have hi : ∀ i, i < g.length → 0 ≤ g.getD i 0 ∧ g.getD i 0 ≤ (vals l).getD i 0 := fun i hi => by
    have := List.all_eq_true.1 ha i (by simpa using hi)
    exact of_decide_eq_true this
  refine ⟨hm, hl, hv, h1, h2, hi, fun x hx => ?_⟩
  obtain ⟨i, hlt, rfl⟩ := List.mem_iff_getElem.1 hx
  have a := hi i hlt
  have b := hv _ (getD_mem (vals l) i (by rw [vals_length]; omega))
  rw [List.getD_eq_getElem?_getD, List.getElem?_eq_getElem hlt, Option.getD_some] at a
  omega

def gets (g ps : List Int) : List Int := (List.range g.length).map fun i => g.getD i 0 - ps.getD i 0
theorem gets_length (g ps : List Int) : (gets g ps).length = g.length := by simp [gets]
theorem gets_get (g ps : List Int) (i : Nat) (h : i < g.length) : (gets g ps).getD i 0 = g.getD i 0 - ps.getD i 0 := by simp [gets, List.getD_eq_getElem?_getD, h]
/-- What all bear, what all get, and what is wrong. -/
def wholeOf (l : List S35) (g : List Int) (s : Int) : List Int × List Int × Int :=
  if givenB l g = false ∨ ¬ (0 ≤ s ∧ s ≤ 1099511627776) then ([], [], 1)
  else if (adjustOf (g.sum + s) l).2 = 0 then ((adjustOf (g.sum + s) l).1, gets g (adjustOf (g.sum + s) l).1, 0) else ([], [], (adjustOf (g.sum + s) l).2)
theorem adjust_ok (t : Int) (l : List S35) (h : (adjustOf t l).2 = 0) : (adjustOf t l).1 = partsOf t (vals l) ∧ splitErr t (vals l) = 0 ∧ mayB l = true := by
  unfold adjustOf at h ⊢
  split at h
  · cases h
  rename_i h1
  rw [if_neg h1]
  split at h
  · cases h
  rename_i h2
  rw [if_neg h2]
  split at h
  · rename_i h3
    rw [if_pos h3]
    exact ⟨rfl, h3, by
      cases hm : mayB l with
      | true => rfl
      | false => exact absurd (Or.inl hm) h1⟩
  · rename_i h3
    exact absurd h h3
theorem set_app (a b : List Int) (i : Nat) (x y : Int) (h : a.length = i) : (a ++ y :: b).set i x = a ++ x :: b := by
  rw [List.set_append_right _ _ (by omega), h, Nat.sub_self]; rfl
theorem whole_l0 (g ps : List Int) (hl : g.length = ps.length) (hn : g.length ≤ 4096) (hg : ∀ x ∈ g, 0 ≤ x ∧ x ≤ 1099511627776) (hp : ∀ x ∈ ps, 0 ≤ x ∧ x ≤ 1099511627777) : ∀ (d i : Nat), i + d = g.length →
    Ev (fun k => average_Whole.l0 k ps ((gets g ps).take i ++ g.drop i) ps (ps.length : Int) (i : Int)) (ps, gets g ps, 0)
  | 0, i, h => by
    refine Ev.step (fun k => by rw [average_Whole.l0]) ?_
    refine Ev.neg (by omega) ?_
    rw [List.take_of_length_le (by rw [gets_length]; omega), List.drop_of_length_le (by omega), List.append_nil]
    exact Ev.now _
  | d + 1, i, h => by
    have ih := whole_l0 g ps hl hn hg hp d (i + 1) (by omega)
    have a := hg _ (getD_mem g i (by omega))
    have b := hp _ (getD_mem ps i (by omega))
    have hlen : ((gets g ps).take i ++ g.drop i).length = g.length := by rw [List.length_append, List.length_take, List.length_drop, gets_length]; omega
    have hlt : ((gets g ps).take i).length = i := by rw [List.length_take, gets_length]; omega
    have hrd : ((gets g ps).take i ++ g.drop i).getD i 0 = g.getD i 0 := by
      rw [drop_cons g i (by omega), List.getD_eq_getElem?_getD, List.getElem?_append_right (by omega), hlt, Nat.sub_self]; rfl
    have hset : ((gets g ps).take i ++ g.drop i).set i (g.getD i 0 - ps.getD i 0) = (gets g ps).take (i + 1) ++ g.drop (i + 1) := by
      rw [drop_cons g i (by omega), set_app _ _ i _ _ hlt, List.take_succ_eq_append_getElem (by rw [gets_length]; omega), List.append_assoc]
      congr 1
      have := gets_get g ps i (by omega)
      rw [List.getD_eq_getElem?_getD, List.getElem?_eq_getElem (by rw [gets_length]; omega), Option.getD_some] at this
      rw [this]; rfl
    refine Ev.step (fun k => by rw [average_Whole.l0]) ?_
    refine Ev.pos (by omega) (Ev.pos (by omega) (Ev.pos (by omega) (Ev.pos (by omega) ?_)))
    rw [rd_get, rd_get, hrd, Int.toNat_natCast, w64 _ (by omega) (by omega), w64 _ (by omega) (by omega), hset]
    exact ih
theorem whole_ev (l : List S35) (g : List Int) (s : Int) (hn : l.length ≤ 4096) (hs : ∀ x ∈ l, x.f0.size ≤ 4611686018427387904) : Ev (fun k => average_Whole.f k l g s) (wholeOf l g s) := by
  unfold average_Whole.f
  refine Ev.bind (given_ev l g hn hs) ?_
  have JT : Ev (fun k => average_Whole.j0 k l g s true) (([] : List Int), ([] : List Int), (1 : Int)) := by
    refine Ev.step (fun k => by rw [average_Whole.j0]) ?_
    exact Ev.pos rfl (Ev.now _)
  unfold wholeOf
  cases hgv : givenB l g with
  | false => rw [if_pos (Or.inl rfl)]; exact Ev.neg (by simp) JT
  | true =>
    refine Ev.pos rfl (Ev.call (amount_f s) ?_)
    by_cases hsp : 0 ≤ s ∧ s ≤ 1099511627776
    · rw [if_neg (by rintro (h | h); cases h; exact h hsp), decide_eq_true hsp]
      obtain ⟨hm, hlen, hv, h1, h2, hi, hgb⟩ := given_facts l g hgv
      have hsum := sumTo_bd g _ hgb g.length (Nat.le_refl _)
      rw [sumTo_all] at hsum
      refine Ev.step (fun k => by rw [average_Whole.j0]) ?_
      refine Ev.neg (by simp) (Ev.bind (asum_ev g hgb (by omega)) ?_)
      rw [w64 (g.sum + s) (by omega) (by omega)]
      refine Ev.bind (adjust_ev _ l hn hs) ?_
      refine Ev.both (fun e => ?_) (fun e => ?_)
      · rw [if_pos e]
        obtain ⟨hp, he, _⟩ := adjust_ok _ l e
        obtain ⟨t0, t1, _, _, _, hz⟩ := splitErr_facts _ _ he
        refine Ev.call (r := g) (by unfold slices_Clone_int64_int64.f; rw [if_pos (by omega)]) ?_
        rw [hp]
        have hb := parts_bd (g.sum + s) (vals l) t0 t1 hv (fun h => by by_cases h0 : 0 < g.sum + s; (have := hz h0; omega); omega)
        have h := whole_l0 g (partsOf (g.sum + s) (vals l)) (by rw [partsOf_length, vals_length]; exact hlen) (by omega) hgb hb g.length 0 (by omega)
        simpa using h
      · rw [if_neg e]; exact Ev.now _
    · rw [if_pos (Or.inr hsp), decide_eq_false hsp]; exact JT
end Go.Proofs.Yteeehijpdkbgkaa.Print

namespace Go.Proofs.Yteeehijpdkbgkaa.Pure
open Go.RowKit Go.Proofs.Yteeehijpdkbgkaa.Print Go.Proofs.YteeehijpdkbgkaaW.PrintWords Go.Proofs.YteeehijpdkbgkaaW.PrintLast

theorem sum_set : ∀ (g : List Int) (i : Nat) (x : Int), i < g.length → (g.set i x).sum = g.sum - g.getD i 0 + x
  | [], i, x, h => by simp at h
  | y :: r, 0, x, _ => by simp; omega
  | y :: r, i + 1, x, h => by
    have ih := sum_set r i x (by simpa using h)
    simp only [List.set_cons_succ, List.sum_cons, ih, List.getD_cons_succ]
    omega
theorem get_set (gs : List Int) (i j : Nat) (x : Int) (h : i < gs.length) : (gs.set i x).getD j 0 = if i = j then x else gs.getD j 0 := by
  by_cases e : i = j
  · subst e; simp [List.getD_eq_getElem?_getD, h]
  · rw [if_neg e]; simp [List.getD_eq_getElem?_getD, e]

/-- What one gave up is told as spent: who may give what up is the same. -/
theorem given_set (l : List S35) (g : List Int) (i : Nat) (n : Int) (hlen : g.length = l.length) (hi : i < g.length) (h1 : g.getD i 0 ≤ (vals l).getD i 0) (h2 : 0 ≤ n) (h3 : n ≤ g.getD i 0) :
    givenB l (g.set i (g.getD i 0 - n)) = givenB l g := by
  unfold givenB
  rw [List.length_set]
  congr 1
  have e : ∀ j, goneAt l (g.set i (g.getD i 0 - n)) j = goneAt l g j := by
    intro j
    unfold goneAt
    rw [get_set g i j _ hi, decide_eq_decide]
    by_cases hj : i = j
    · subst hj
      rw [if_pos rfl]
      omega
    · rw [if_neg hj]
  exact List.all_congr rfl e

theorem AverageOrder (l : List S35) (g : List Int) (s i n : Int) (wl : ∀ x ∈ l, x.f0.size ≤ maxLen ∧ (Lit.int .i64 x.f1).wf = true) (wg : ∀ x ∈ g, (Lit.int .i64 x).wf = true) (ws : (Lit.int .i64 s).wf = true)
    (wi : (Lit.int .i64 i).wf = true) (wn : (Lit.int .i64 n).wf = true) : ∃ k, supercargolaw43_AverageOrder.f k l g s i n = some true := by
  refine Ev.le (r := true) ?_
  have JT : Ev (fun k => supercargolaw43_AverageOrder.j0 k l g s i n true) true := by
    refine Ev.step (fun k => by rw [supercargolaw43_AverageOrder.j0]) ?_
    exact Ev.pos rfl (Ev.now _)
  unfold supercargolaw43_AverageOrder.f
  refine Ev.bind awake43_ev (Ev.pos rfl (Ev.bind (few_ev l g) ?_))
  refine Ev.both (fun hf => ?_) (fun _ => JT)
  rw [Bool.and_eq_true] at hf
  obtain ⟨hn, hs⟩ := fewB_facts l hf.1
  have hg60 : g.length ≤ 60 := by simpa using hf.2
  have hs : ∀ x ∈ l, x.f0.size ≤ 4611686018427387904 := fun x hx => by have := hs x hx; omega
  refine Ev.both (fun hlen => ?_) (fun _ => JT)
  have hlen : g.length = l.length := by omega
  refine Ev.both (fun _ => JT) (fun i0 => Ev.both (fun _ => JT) (fun i1 => Ev.pos (by omega) (Ev.pos (by omega) (Ev.pos (by omega) ?_))))
  obtain ⟨a, rfl⟩ := Int.eq_ofNat_of_zero_le (show 0 ≤ i by omega)
  rw [rd_get, vals_get l a (by omega)]
  refine Ev.both (fun _ => JT) (fun v0 => Ev.both (fun _ => JT) (fun n0 => Ev.both (fun _ => JT) (fun n1 => Ev.both (fun _ => JT) (fun s0 => ?_))))
  by_cases s1 : s > 1099511627776
  · rw [decide_eq_true s1]; exact JT
  rw [decide_eq_false s1]
  refine Ev.step (fun k => by rw [supercargolaw43_AverageOrder.j0]) ?_
  refine Ev.neg (by simp) ?_
  show Ev (fun k => if ([] : List Int).length + g.length < 17592186044416 then _ else none) true
  refine Ev.pos (by simp; omega) ?_
  show Ev (fun k => if (0 : Int) ≤ (a : Int) then (if (a : Int) < ((([] : List Int) ++ g).length : Int) then ((average_Whole.f k l g s).bind fun bt312 => ((average_Whole.f k l ((([] : List Int) ++ g).set (a : Int).toNat (wrap64 ((rd (([] : List Int) ++ g) a) - n))) (wrap64 (s + n))).bind fun bt319 => (if (wrap64 (s + n)) > 1099511627776 then (some (bt319.2.2 == 1)) else (if bt312.2.2 = bt319.2.2 then ((supercargoref04_Same.f k bt312.1 bt319.1).bind fun t326 => (some t326)) else (none))))) else none) else none) true
  rw [List.nil_append, Int.toNat_natCast, rd_get]
  refine Ev.pos (by omega) (Ev.pos (by omega) ?_)
  refine Ev.bind (whole_ev l g s (by omega) hs) (Ev.bind (whole_ev l _ _ (by omega) hs) ?_)
  -- both tell the same
  have key : ∀ g2 : List Int, ∀ s2 : Int, (∀ b, wholeOf l g2 s2 = b → (s2 > 1099511627776 → b.2.2 = 1) ∧ (¬ s2 > 1099511627776 → (wholeOf l g s).1 = b.1 ∧ (wholeOf l g s).2.2 = b.2.2)) →
      Ev (fun k => if s2 > 1099511627776 then some ((wholeOf l g2 s2).2.2 == 1) else if (wholeOf l g s).2.2 = (wholeOf l g2 s2).2.2 then (supercargoref04_Same.f k (wholeOf l g s).1 (wholeOf l g2 s2).1).bind fun t => some t else none) true := by
    intro g2 s2 h
    obtain ⟨h1, h2⟩ := h _ rfl
    refine Ev.both (fun e => ?_) (fun e => ?_)
    · rw [h1 e]; exact Ev.now _
    · obtain ⟨e1, e2⟩ := h2 e
      refine Ev.pos e2 ?_
      have hl : (wholeOf l g s).1.length ≤ 4611686018427387904 := by
        unfold wholeOf
        split
        · simp
        · split
          · have := adjustOf_length (g.sum + s) l (by omega); show (adjustOf (g.sum + s) l).1.length ≤ _; omega
          · simp
      refine Ev.bind (same_ev _ _ hl) ?_
      rw [e1, decide_eq_true rfl]
      exact Ev.now _
  refine key _ _ (fun b hb => ?_)
  subst hb
  by_cases hm : mayB l = true
  · obtain ⟨hv, _, _⟩ := may_vals l hm
    have hvl := vals_length l
    have hva := hv _ (getD_mem (vals l) a (by omega))
    rw [w64 (s + n) (by omega) (by omega), w64 (g.getD a 0 - n) (by omega) (by omega)]
    have hgs := given_set l g a n hlen (by omega) (by omega) (by omega) (by omega)
    refine ⟨fun e => ?_, fun e => ?_⟩
    · unfold wholeOf
      rw [if_pos (.inr (by omega))]
    · unfold wholeOf
      rw [hgs]
      by_cases hgv : givenB l g = false
      · rw [if_pos (.inl hgv), if_pos (.inl hgv)]
        exact ⟨rfl, rfl⟩
      · have hA : ¬ (givenB l g = false ∨ ¬ (0 ≤ s ∧ s ≤ 1099511627776)) := by
          rintro (h | h)
          · exact hgv h
          · omega
        have hB : ¬ (givenB l g = false ∨ ¬ (0 ≤ s + n ∧ s + n ≤ 1099511627776)) := by
          rintro (h | h)
          · exact hgv h
          · omega
        rw [if_neg hA, if_neg hB, sum_set g a _ (by omega), show g.sum - g.getD a 0 + (g.getD a 0 - n) + (s + n) = g.sum + s by omega]
        by_cases hE : (adjustOf (g.sum + s) l).2 = 0
        · rw [if_pos hE, if_pos hE]
          exact ⟨rfl, rfl⟩
        · rw [if_neg hE, if_neg hE]
          exact ⟨rfl, rfl⟩
  · have hm : mayB l = false := by simpa using hm
    have hf : ∀ g2 s2, wholeOf l g2 s2 = ([], [], 1) := fun g2 s2 => by
      unfold wholeOf
      rw [if_pos (.inl (by unfold givenB; rw [hm]; rfl))]
    rw [hf, hf]
    exact ⟨fun _ => rfl, fun _ => ⟨rfl, rfl⟩⟩
end Go.Proofs.Yteeehijpdkbgkaa.Pure
