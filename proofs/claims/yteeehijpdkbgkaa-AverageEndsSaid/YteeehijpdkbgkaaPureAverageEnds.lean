/- Who has nothing at stake bears nothing, and gets nothing; when all is given up nobody gets or pays anything; when nothing is lost nobody bears anything. Conditions: those of the given statement. -/
import Derived.Test.YteeehijpdkbgkaaPrint22
import Derived.Test.YteeehijpdkbgkaaMavga
import Derived.Test.YteeehijpdkbgkaaMsame
import Derived.Test.YteeehijpdkbgkaaHsc
import Derived.Test.YteeehijpdkbgkaaMsplit
import Derived.Test.YteeehijpdkbgkaaHpays
import Derived.Test.YteeehijpdkbgkaaPrint12
import Derived.Test.YteeehijpdkbgkaaPrint13
namespace Go.Proofs.Yteeehijpdkbgkaa.Print

theorem nonneg_sum (l : List Int) (hl : ∀ x ∈ l, 0 ≤ x) : 0 ≤ l.sum := by
  induction l with
  | nil => simp
  | cons x r ih => have := hl x (by simp); have := ih (fun y hy => hl y (by simp [hy])); simp only [List.sum_cons]; omega

/-- The parts are the shares rounded down, but for the first ones by rank. -/
theorem sum_map_add (f g : Nat → Int) (L : List Nat) : (L.map fun i => f i + g i).sum = (L.map f).sum + (L.map g).sum := by
  induction L with
  | nil => simp
  | cons x r ih => simp only [List.map_cons, List.sum_cons, ih]; omega
theorem sum_ite_count (p : Nat → Bool) (L : List Nat) : (L.map fun i => if p i = true then (1 : Int) else 0).sum = (L.countP p : Nat) := by
  induction L with
  | nil => simp
  | cons x r ih =>
    simp only [List.map_cons, List.sum_cons, ih, List.countP_cons]
    by_cases h : p x = true
    · simp [h]; omega
    · simp [h]
theorem map_range_getD (l : List Int) : (List.range l.length).map (fun i => l.getD i 0) = l := by
  apply List.ext_getElem
  · simp
  · intro i h1 h2
    simp [List.getD_eq_getElem?_getD, h2]

/-- Just m places have a rank below m. -/
theorem count_rank (rs : List Int) (m : Nat) (hm : m ≤ rs.length) : (List.range rs.length).countP (fun i => decide (rank rs i < m)) = m := by
  -- the places in the order of their ranks
  induction m with
  | zero =>
    rw [List.countP_eq_zero]
    intro x _ h
    simp at h
  | succ m ih =>
    have ih := ih (by omega)
    -- some place has rank m: else all of rank below m + 1 have rank below m, and the first of the others has rank m
    have hex : ∃ q, q < rs.length ∧ rank rs q = m := by
      -- the others, and the first one of them
      have hne : ∃ q, q < rs.length ∧ ¬ rank rs q < m := by
        refine Classical.byContradiction fun hno => ?_
        have : (List.range rs.length).countP (fun i => decide (rank rs i < m)) = (List.range rs.length).length := List.countP_eq_length.2 fun x hx => by
          have hx' : x < rs.length := by simpa using hx
          have : rank rs x < m := Classical.byContradiction fun h => hno ⟨x, hx', h⟩
          simpa using this
        rw [ih, List.length_range] at this
        omega
      obtain ⟨q0, hq0, hr0⟩ := hne
      -- the least rank among the others
      have hmin : ∀ d q, q < rs.length → ¬ rank rs q < m → rank rs q ≤ m + d → ∃ q', q' < rs.length ∧ ¬ rank rs q' < m ∧ ∀ p, p < rs.length → ¬ rank rs p < m → rank rs q' ≤ rank rs p := by
        intro d
        induction d with
        | zero => intro q h1 h2 h3; exact ⟨q, h1, h2, fun p _ hp => by omega⟩
        | succ d ihd =>
          intro q h1 h2 h3
          by_cases hb : ∃ p, p < rs.length ∧ ¬ rank rs p < m ∧ rank rs p < rank rs q
          · obtain ⟨p, hp1, hp2, hp3⟩ := hb
            exact ihd p hp1 hp2 (by omega)
          · exact ⟨q, h1, h2, fun p hp1 hp2 => Classical.byContradiction fun h => hb ⟨p, hp1, hp2, by omega⟩⟩
      obtain ⟨q, hq, hqm, hqmin⟩ := hmin (rank rs q0) q0 hq0 hr0 (by omega)
      refine ⟨q, hq, ?_⟩
      -- just those below m stand before q
      have : rank rs q = (List.range rs.length).countP (fun i => decide (rank rs i < m)) := by
        unfold rank
        refine List.countP_congr fun x hx => ?_
        have hx' : x < rs.length := by simpa using hx
        have h := rank_lt_iff rs hx' hq
        constructor
        · intro hb
          have h1 := h.2 hb
          have : rank rs x < m := Classical.byContradiction fun h2 => by have := hqmin x hx' h2; omega
          unfold rank at this
          simpa using this
        · intro hb
          have hb' : rank rs x < m := by unfold rank; simpa using hb
          exact h.1 (by omega)
      rw [this, ih]
    obtain ⟨q, hq, hqm⟩ := hex
    have hsplit : (List.range rs.length).countP (fun i => decide (rank rs i < m + 1)) = (List.range rs.length).countP (fun i => decide (rank rs i < m)) + (List.range rs.length).countP (fun i => decide (i = q)) := by
      have key : ∀ L : List Nat, (∀ x ∈ L, x < rs.length) → L.countP (fun i => decide (rank rs i < m + 1)) = L.countP (fun i => decide (rank rs i < m)) + L.countP (fun i => decide (i = q)) := by
        intro L hL
        induction L with
        | nil => rfl
        | cons x r ihr =>
          have hx := hL x (by simp)
          have ihr := ihr (fun y hy => hL y (by simp [hy]))
          rw [List.countP_cons, List.countP_cons, List.countP_cons, ihr]
          by_cases e : x = q
          · subst e
            simp [hqm]
            omega
          · have hne : rank rs x ≠ m := by
              intro h
              rcases bef_total rs e with h' | h'
              · have := rank_mono rs hx h'; omega
              · have := rank_mono rs hq h'; omega
            by_cases h2 : rank rs x < m
            · have : rank rs x < m + 1 := by omega
              simp [h2, e, this]
              omega
            · have : ¬ rank rs x < m + 1 := by omega
              simp [h2, e, this]
      exact key _ (by simp)
    have hone : (List.range rs.length).countP (fun i => decide (i = q)) = 1 := by
      have key : ∀ n, q < n → (List.range n).countP (fun i => decide (i = q)) = 1 := fun n => by
        induction n with
        | zero => intro h; omega
        | succ n ih =>
          intro h
          rw [List.range_succ, List.countP_append]
          by_cases e : n = q
          · subst e
            have : (List.range n).countP (fun i => decide (i = n)) = 0 := by
              rw [List.countP_eq_zero]
              intro x hx hxe
              have h1 : x < n := by simpa using hx
              have h2 : x = n := by simpa using hxe
              omega
            rw [this]
            simp
          · rw [ih (by omega)]
            simp [e]
      exact key _ hq
    rw [hsplit, ih, hone]

theorem parts_sum (t : Int) (l : List Int) (_ : 0 ≤ t) (hl : ∀ x ∈ l, 0 ≤ x ∧ x ≤ 1099511627776) (hz : l.sum = 0 → t = 0) : (partsOf t l).sum = t := by
  by_cases hs : l.sum = 0
  · rw [hz hs, partsOf_zero]
    generalize l.length = n
    induction n with
    | zero => rfl
    | succ n ih => rw [List.replicate_succ, List.sum_cons, ih]; rfl
  · have hpos : 0 < l.sum := by have := nonneg_sum l (fun x hx => (hl x hx).1); omega
    have hlb := left_bd t l hpos
    obtain ⟨m, hm⟩ := Int.eq_ofNat_of_zero_le hlb.1
    have hrl : (restL t l.sum l).length = l.length := by simp [restL]
    have hbl : (baseL t l.sum l).length = l.length := by simp [baseL]
    unfold partsOf
    rw [sum_map_add, hm]
    have e1 : (List.range l.length).map (fun i => (baseL t l.sum l).getD i 0) = baseL t l.sum l := by
      have := map_range_getD (baseL t l.sum l)
      rwa [hbl] at this
    have e2 : (fun i => if (rank (restL t l.sum l) i : Int) < (m : Int) then (1 : Int) else 0) = fun i => if (fun i => decide (rank (restL t l.sum l) i < m)) i = true then (1 : Int) else 0 := by
      funext i
      by_cases h : rank (restL t l.sum l) i < m
      · rw [if_pos (by omega), if_pos (by simpa using h)]
      · rw [if_neg (by omega), if_neg (by simpa using h)]
    rw [e1, e2, sum_ite_count]
    have hc := count_rank (restL t l.sum l) m (by omega)
    rw [hrl] at hc
    rw [hc]
    unfold leftOf at hm
    omega

theorem parts_near (t : Int) (l : List Int) (hs : 0 < l.sum) (i : Nat) (hi : i < l.length) :
    (partsOf t l).getD i 0 = t * l.getD i 0 / l.sum ∨ (partsOf t l).getD i 0 = t * l.getD i 0 / l.sum + 1 ∧ t * l.getD i 0 % l.sum ≠ 0 := by
  rw [partsOf_get t l i hi]
  by_cases h : (rank (restL t l.sum l) i : Int) < leftOf t l
  · rw [if_pos h]
    refine .inr ⟨rfl, fun hr => ?_⟩
    -- a place without a rest stands behind all that have one: then all rests that lack are fewer than are left
    have hlb := left_bd t l hs
    have hrl : (restL t l.sum l).length = l.length := by simp [restL]
    have hri : (restL t l.sum l).getD i 0 = 0 := by
      have : (restL t l.sum l).getD i 0 = t * l.getD i 0 % l.sum := by simp [restL, List.getD_eq_getElem?_getD, hi]
      rw [this, hr]
    -- the rests that aren't nothing
    have hsum := base_rest_sum t l.sum l
    have hcount : ∀ r : List Int, (∀ x ∈ r, 0 ≤ x ∧ x < l.sum) → r.sum ≤ (l.sum - 1) * (r.countP (fun x => decide (0 < x)) : Nat) := by
      intro r hr
      induction r with
      | nil => simp
      | cons x q ih =>
        have hx := hr x (by simp)
        have ih := ih (fun y hy => hr y (by simp [hy]))
        rw [List.sum_cons, List.countP_cons]
        by_cases h0 : 0 < x
        · have e : (l.sum - 1) * ((q.countP (fun x => decide (0 < x)) + 1 : Nat) : Int) = (l.sum - 1) * (q.countP (fun x => decide (0 < x)) : Nat) + (l.sum - 1) := by
            rw [Int.natCast_succ, Int.mul_add, Int.mul_one]
          simp only [h0, decide_true, if_true]
          omega
        · simp only [h0, decide_false]
          simp only [Bool.false_eq_true, if_false, Nat.add_zero]
          omega
    have hb := hcount (restL t l.sum l) (fun x hx => by
      simp only [restL, List.mem_map] at hx
      obtain ⟨y, _, rfl⟩ := hx
      exact ⟨Int.emod_nonneg _ (by omega), Int.emod_lt_of_pos _ hs⟩)
    -- each of them stands before i
    have hrk : (restL t l.sum l).countP (fun x => decide (0 < x)) ≤ rank (restL t l.sum l) i := by
      have e : (restL t l.sum l).countP (fun x => decide (0 < x)) = (List.range (restL t l.sum l).length).countP (fun j => decide (0 < (restL t l.sum l).getD j 0)) := by
        conv => lhs; rw [← map_range_getD (restL t l.sum l)]
        rw [List.countP_map]
        rfl
      rw [e]
      unfold rank
      refine List.countP_mono_left fun x _ hx => ?_
      rw [bef_iff, hri]
      exact .inl (by simpa using hx)
    have hle : leftOf t l * l.sum = (restL t l.sum l).sum := by unfold leftOf; rw [Int.sub_mul]; omega
    generalize hcn : (restL t l.sum l).countP (fun x => decide (0 < x)) = cn at *
    have h1 : ((cn : Nat) : Int) + 1 ≤ leftOf t l := by omega
    have h2 := Int.mul_le_mul_of_nonneg_right h1 (show 0 ≤ l.sum by omega)
    rw [Int.add_mul, Int.one_mul] at h2
    have h3 : (l.sum - 1) * (cn : Int) = (cn : Int) * l.sum - cn := by rw [Int.sub_mul, Int.one_mul, Int.mul_comm]
    omega
  · rw [if_neg h]
    exact .inl (by omega)

theorem parts_bd (t : Int) (l : List Int) (t0 : 0 ≤ t) (t1 : t ≤ 1099511627776) (hl : ∀ x ∈ l, 0 ≤ x ∧ x ≤ 1099511627776) (hz : l.sum = 0 → t = 0) : ∀ x ∈ partsOf t l, 0 ≤ x ∧ x ≤ 1099511627777 := by
  intro x hx
  by_cases hs : l.sum = 0
  · rw [hz hs, partsOf_zero] at hx
    have := List.eq_of_mem_replicate hx
    omega
  · have hpos : 0 < l.sum := by have := nonneg_sum l (fun x hx => (hl x hx).1); omega
    have hbd := base_bd t l.sum l t0 hpos (fun y hy => ⟨(hl y hy).1, List.le_sum_of_mem_int l (fun z hz => (hl z hz).1) y hy⟩) t1
    obtain ⟨i, hi, rfl⟩ := List.getElem_of_mem hx
    rw [partsOf_length] at hi
    have e : (partsOf t l)[i] = (partsOf t l).getD i 0 := by simp [List.getD_eq_getElem?_getD, partsOf_length, hi]
    have hb := hbd _ (getD_mem (baseL t l.sum l) i (by simp [baseL]; omega))
    have hbi : (baseL t l.sum l).getD i 0 = t * l.getD i 0 / l.sum := by simp [baseL, List.getD_eq_getElem?_getD, hi]
    rw [hbi] at hb
    rw [e]
    rcases parts_near t l hpos i hi with h | ⟨h, _⟩ <;> rw [h] <;> omega

end Go.Proofs.Yteeehijpdkbgkaa.Print

namespace Go.Proofs.Yteeehijpdkbgkaa.Print
open Go.RowKit Go.Proofs.YteeehijpdkbgkaaW.PrintWords Go.Proofs.YteeehijpdkbgkaaW.PrintLast Go.Proofs.YteeehijpdkbgkaaW.PrintMore

def goneAt (l : List S35) (g : List Int) (i : Nat) : Bool := decide (0 ≤ g.getD i 0 ∧ g.getD i 0 ≤ (vals l).getD i 0)
def givenB (l : List S35) (g : List Int) : Bool := mayB l && decide (g.length = l.length) && (List.range g.length).all (goneAt l g)
theorem vals_get (l : List S35) (i : Nat) (h : i < l.length) : (rd_T35 l i).f1 = (vals l).getD i 0 := by
  simp [rd_T35, vals, List.getD_eq_getElem?_getD, h]
theorem given_l0 (l : List S35) (g : List Int) (hg : g.length = l.length) (hn : g.length ≤ 4096) : ∀ (d i : Nat), i + d = g.length →
    Ev (fun k => average_given.l0 k l g (g.length : Int) (i : Int)) ((List.range d).all fun j => goneAt l g (i + j))
  | 0, i, h => by
    refine Ev.step (fun k => by rw [average_given.l0]) ?_
    exact Ev.neg (by omega) (Ev.now _)
  | d + 1, i, h => by
    have ih := given_l0 l g hg hn d (i + 1) (by omega)
    have hall : ((List.range (d + 1)).all fun j => goneAt l g (i + j)) = (goneAt l g i && (List.range d).all fun j => goneAt l g (i + 1 + j)) := by
      rw [List.range_succ_eq_map, List.all_cons, List.all_map, Nat.add_zero]
      congr 1
      refine List.all_congr rfl fun j => ?_
      show goneAt l g (i + (j + 1)) = _
      rw [show i + (j + 1) = i + 1 + j by omega]
    rw [hall]
    refine Ev.step (fun k => by rw [average_given.l0]) ?_
    refine Ev.pos (by omega) (Ev.pos (by omega) (Ev.pos (by omega) ?_))
    rw [rd_get, vals_get l i (by omega), w64 _ (by omega) (by omega)]
    refine Ev.both (fun e => ?_) (fun e => Ev.pos (by omega) (Ev.both (fun e2 => ?_) (fun e2 => ?_)))
    · rw [show goneAt l g i = false by unfold goneAt; exact decide_eq_false (by omega), Bool.false_and]; exact Ev.now _
    · rw [show goneAt l g i = false by unfold goneAt; exact decide_eq_false (by omega), Bool.false_and]; exact Ev.now _
    · rw [show goneAt l g i = true by unfold goneAt; exact decide_eq_true (by omega), Bool.true_and]; exact ih
theorem given_ev (l : List S35) (g : List Int) (hn : l.length ≤ 4096) (hs : ∀ x ∈ l, x.f0.size ≤ 4611686018427387904) : Ev (fun k => average_given.f k l g) (givenB l g) := by
  unfold average_given.f
  refine Ev.call (may_f l (by omega) hs) ?_
  have JT : Ev (fun k => average_given.j0 k l g true) false := by
    refine Ev.step (fun k => by rw [average_given.j0]) ?_
    exact Ev.pos rfl (Ev.now _)
  unfold givenB
  cases mayB l with
  | false => exact Ev.neg (by simp) JT
  | true =>
    refine Ev.pos rfl ?_
    by_cases hl : g.length = l.length
    · rw [show (((g.length : Int) != (l.length : Int))) = false by simp [hl], decide_eq_true hl, Bool.true_and, Bool.true_and]
      refine Ev.step (fun k => by rw [average_given.j0]) ?_
      refine Ev.neg (by simp) ?_
      have h := given_l0 l g hl (by omega) g.length 0 (by omega)
      simpa using h
    · rw [show (((g.length : Int) != (l.length : Int))) = true by simp; omega, decide_eq_false hl, Bool.and_false, Bool.false_and]
      exact JT
theorem given_facts (l : List S35) (g : List Int) (h : givenB l g = true) :
    mayB l = true ∧ g.length = l.length ∧ (∀ x ∈ vals l, 0 ≤ x ∧ x ≤ 1099511627776) ∧ 1 ≤ l.length ∧ l.length ≤ 4096 ∧ (∀ i, i < g.length → 0 ≤ g.getD i 0 ∧ g.getD i 0 ≤ (vals l).getD i 0) ∧ ∀ x ∈ g, 0 ≤ x ∧ x ≤ 1099511627776 := by
  unfold givenB at h
  rw [Bool.and_eq_true, Bool.and_eq_true] at h
  obtain ⟨⟨hm, hl⟩, ha⟩ := h
  have hl : g.length = l.length := by simpa using hl
  obtain ⟨hv, h1, h2⟩ := may_vals l hm
  have hi : ∀ i, i < g.length → 0 ≤ g.getD i 0 ∧ g.getD i 0 ≤ (vals l).getD i 0 := fun i hi => by
    have := List.all_eq_true.1 ha i (by simpa using hi)
    exact of_decide_eq_true this
  refine ⟨hm, hl, hv, h1, h2, hi, fun x hx => ?_⟩
  obtain ⟨i, hlt, rfl⟩ := List.mem_iff_getElem.1 hx
  have a := hi i hlt
  have b := hv _ (getD_mem (vals l) i (by rw [vals_length]; omega))
  rw [List.getD_eq_getElem?_getD, List.getElem?_eq_getElem hlt, Option.getD_some] at a
  omega

def gets (g ps : List Int) : List Int := (List.range g.length).map fun i => g.getD i 0 - ps.getD i 0
theorem gets_length (g ps : List Int) : (gets g ps).length = g.length := by simp [gets]
theorem gets_get (g ps : List Int) (i : Nat) (h : i < g.length) : (gets g ps).getD i 0 = g.getD i 0 - ps.getD i 0 := by simp [gets, List.getD_eq_getElem?_getD, h]
/-- What all bear, what all get, and what is wrong. -/
def wholeOf (l : List S35) (g : List Int) (s : Int) : List Int × List Int × Int :=
  if givenB l g = false ∨ ¬ (0 ≤ s ∧ s ≤ 1099511627776) then ([], [], 1)
  else if (adjustOf (g.sum + s) l).2 = 0 then ((adjustOf (g.sum + s) l).1, gets g (adjustOf (g.sum + s) l).1, 0) else ([], [], (adjustOf (g.sum + s) l).2)
theorem adjust_ok (t : Int) (l : List S35) (h : (adjustOf t l).2 = 0) : (adjustOf t l).1 = partsOf t (vals l) ∧ splitErr t (vals l) = 0 ∧ mayB l = true := by
  unfold adjustOf at h ⊢
  split at h
  · cases h
  rename_i h1
  rw [if_neg h1]
  split at h
  · cases h
  rename_i h2
  rw [if_neg h2]
  split at h
  · rename_i h3
    rw [if_pos h3]
    exact ⟨rfl, h3, by
      cases hm : mayB l with
      | true => rfl
      | false => exact absurd (Or.inl hm) h1⟩
  · rename_i h3
    exact absurd h h3
theorem set_app (a b : List Int) (i : Nat) (x y : Int) (h : a.length = i) : (a ++ y :: b).set i x = a ++ x :: b := by
  rw [List.set_append_right _ _ (by omega), h, Nat.sub_self]; rfl
theorem whole_l0 (g ps : List Int) (hl : g.length = ps.length) (hn : g.length ≤ 4096) (hg : ∀ x ∈ g, 0 ≤ x ∧ x ≤ 1099511627776) (hp : ∀ x ∈ ps, 0 ≤ x ∧ x ≤ 1099511627777) : ∀ (d i : Nat), i + d = g.length →
    Ev (fun k => average_Whole.l0 k ps ((gets g ps).take i ++ g.drop i) ps (ps.length : Int) (i : Int)) (ps, gets g ps, 0)
  | 0, i, h => by
    refine Ev.step (fun k => by rw [average_Whole.l0]) ?_
    refine Ev.neg (by omega) ?_
    rw [List.take_of_length_le (by rw [gets_length]; omega), List.drop_of_length_le (by omega), List.append_nil]
    exact Ev.now _
  | d + 1, i, h => by
    have ih := whole_l0 g ps hl hn hg hp d (i + 1) (by omega)
    have a := hg _ (getD_mem g i (by omega))
    have b := hp _ (getD_mem ps i (by omega))
    have hlen : ((gets g ps).take i ++ g.drop i).length = g.length := by rw [List.length_append, List.length_take, List.length_drop, gets_length]; omega
    have hlt : ((gets g ps).take i).length = i := by rw [List.length_take, gets_length]; omega
    have hrd : ((gets g ps).take i ++ g.drop i).getD i 0 = g.getD i 0 := by
      rw [drop_cons g i (by omega), List.getD_eq_getElem?_getD, List.getElem?_append_right (by omega), hlt, Nat.sub_self]; rfl
    have hset : ((gets g ps).take i ++ g.drop i).set i (g.getD i 0 - ps.getD i 0) = (gets g ps).take (i + 1) ++ g.drop (i + 1) := by
      rw [drop_cons g i (by omega), set_app _ _ i _ _ hlt, List.take_succ_eq_append_getElem (by rw [gets_length]; omega), List.append_assoc]
      congr 1
      have := gets_get g ps i (by omega)
      rw [List.getD_eq_getElem?_getD, List.getElem?_eq_getElem (by rw [gets_length]; omega), Option.getD_some] at this
      rw [this]; rfl
    refine Ev.step (fun k => by rw [average_Whole.l0]) ?_
    refine Ev.pos (by omega) (Ev.pos (by omega) (Ev.pos (by omega) (Ev.pos (by omega) ?_)))
    rw [rd_get, rd_get, hrd, Int.toNat_natCast, w64 _ (by omega) (by omega), w64 _ (by omega) (by omega), hset]
    exact ih
theorem whole_ev (l : List S35) (g : List Int) (s : Int) (hn : l.length ≤ 4096) (hs : ∀ x ∈ l, x.f0.size ≤ 4611686018427387904) : Ev (fun k => average_Whole.f k l g s) (wholeOf l g s) := by
  unfold average_Whole.f
  refine Ev.bind (given_ev l g hn hs) ?_
  have JT : Ev (fun k => average_Whole.j0 k l g s true) (([] : List Int), ([] : List Int), (1 : Int)) := by
    refine Ev.step (fun k => by rw [average_Whole.j0]) ?_
    exact Ev.pos rfl (Ev.now _)
  unfold wholeOf
  cases hgv : givenB l g with
  | false => rw [if_pos (Or.inl rfl)]; exact Ev.neg (by simp) JT
  | true =>
    refine Ev.pos rfl (Ev.call (amount_f s) ?_)
    by_cases hsp : 0 ≤ s ∧ s ≤ 1099511627776
    · rw [if_neg (by rintro (h | h); cases h; exact h hsp), decide_eq_true hsp]
      obtain ⟨hm, hlen, hv, h1, h2, hi, hgb⟩ := given_facts l g hgv
      have hsum := sumTo_bd g _ hgb g.length (Nat.le_refl _)
      rw [sumTo_all] at hsum
      refine Ev.step (fun k => by rw [average_Whole.j0]) ?_
      refine Ev.neg (by simp) (Ev.bind (asum_ev g hgb (by omega)) ?_)
      rw [w64 (g.sum + s) (by omega) (by omega)]
      refine Ev.bind (adjust_ev _ l hn hs) ?_
      refine Ev.both (fun e => ?_) (fun e => ?_)
      · rw [if_pos e]
        obtain ⟨hp, he, _⟩ := adjust_ok _ l e
        obtain ⟨t0, t1, _, _, _, hz⟩ := splitErr_facts _ _ he
        refine Ev.call (r := g) (by unfold slices_Clone_int64_int64.f; rw [if_pos (by omega)]) ?_
        rw [hp]
        have hb := parts_bd (g.sum + s) (vals l) t0 t1 hv (fun h => by by_cases h0 : 0 < g.sum + s; (have := hz h0; omega); omega)
        have h := whole_l0 g (partsOf (g.sum + s) (vals l)) (by rw [partsOf_length, vals_length]; exact hlen) (by omega) hgb hb g.length 0 (by omega)
        simpa using h
      · rw [if_neg e]; exact Ev.now _
    · rw [if_pos (Or.inr hsp), decide_eq_false hsp]; exact JT
end Go.Proofs.Yteeehijpdkbgkaa.Print

namespace Go.Proofs.Yteeehijpdkbgkaa.Print
open Go.RowKit Go.Proofs.YteeehijpdkbgkaaW.PrintWords Go.Proofs.YteeehijpdkbgkaaW.PrintLast Go.Proofs.YteeehijpdkbgkaaW.PrintMore

/-- One who gets is paid, by those from place i on (d of them): what all get then, and the debts. -/
def payN (l : List S35) (nm : ByteArray) : Nat → Nat → List Int → List S40 → Int → List Int × List S40
  | 0, _, gs, os, _ => (gs, os)
  | d + 1, i, gs, os, due =>
    if due > 0 then
      if gs.getD i 0 < 0 then
        payN l nm d (i + 1) (gs.set i (gs.getD i 0 + mn due (- gs.getD i 0))) (os ++ [⟨(rd_T35 l (i : Int)).f0, nm, ⟨#[]⟩, mn due (- gs.getD i 0)⟩]) (due - mn due (- gs.getD i 0))
      else payN l nm d (i + 1) gs os due
    else (gs, os)
theorem payN_done (l : List S35) (nm : ByteArray) (d i : Nat) (gs : List Int) (os : List S40) (due : Int) (h : ¬ due > 0) : payN l nm d i gs os due = (gs, os) := by
  cases d with
  | zero => rfl
  | succ d => rw [payN, if_neg h]
theorem payN_skip (l : List S35) (nm : ByteArray) (gs : List Int) (os : List S40) (due : Int) (d : Nat) : ∀ (m i : Nat), (∀ j, i ≤ j → j < i + m → 0 ≤ gs.getD j 0) → payN l nm (m + d) i gs os due = payN l nm d (i + m) gs os due
  | 0, i, _ => by rw [Nat.zero_add, Nat.add_zero]
  | m + 1, i, h => by
    have ih := payN_skip l nm gs os due d m (i + 1) (fun j h1 h2 => h j (by omega) (by omega))
    have h0 := h i (by omega) (by omega)
    rw [show m + 1 + d = m + d + 1 by omega]
    by_cases hd : due > 0
    · rw [payN, if_pos hd, if_neg (by omega), ih, show i + 1 + m = i + (m + 1) by omega]
    · rw [payN_done _ _ _ _ _ _ _ hd, payN_done _ _ _ _ _ _ _ hd]

/-- What those from place i on still owe. -/
def owed (gs : List Int) (i : Nat) : Int := ((gs.drop i).map fun x => mx (-x) 0).sum
theorem owed_step (gs : List Int) (i : Nat) (h : i < gs.length) : owed gs i = mx (- gs.getD i 0) 0 + owed gs (i + 1) := by
  unfold owed
  rw [drop_cons gs i h, List.map_cons, List.sum_cons]
theorem owed_end (gs : List Int) (i : Nat) (h : gs.length ≤ i) : owed gs i = 0 := by
  unfold owed
  rw [List.drop_of_length_le h]; rfl
theorem owed_set (gs : List Int) (i : Nat) (x : Int) : owed (gs.set i x) (i + 1) = owed gs (i + 1) := by
  unfold owed
  rw [List.drop_set_of_lt (by omega)]
theorem set_get (gs : List Int) (i j : Nat) (x : Int) (h : i < gs.length) : (gs.set i x).getD j 0 = if i = j then x else gs.getD j 0 := by
  by_cases e : i = j
  · subst e; simp [List.getD_eq_getElem?_getD, h]
  · rw [if_neg e]; simp [List.getD_eq_getElem?_getD, e]
theorem getD_zero (gs : List Int) (j : Nat) (h : gs.length ≤ j) : gs.getD j 0 = 0 := by simp [List.getD_eq_getElem?_getD, h]

/-- The closure pays as the plain function does; who stood before the payer owes nothing. -/
theorem pay_ev (l : List S35) (nm : ByteArray) (hn : l.length ≤ 4096) : ∀ (d i : Nat) (gs : List Int) (os : List S40) (due : Int), i + d = gs.length → gs.length = l.length →
    os.length + d ≤ 999999999999 → 0 ≤ due → due ≤ 4611686018427387904 → due ≤ owed gs i → (∀ x ∈ gs, -4611686018427387904 ≤ x ∧ x ≤ 4611686018427387904) → (∀ j, j < i → 0 ≤ gs.getD j 0) →
    ∃ p : Nat, p ≤ gs.length ∧ Ev (fun k => payF k l nm gs (i : Int) os due) ((payN l nm d i gs os due).1, (p : Int), (payN l nm d i gs os due).2) ∧ ∀ j, j < p → 0 ≤ (payN l nm d i gs os due).1.getD j 0
  | 0, i, gs, os, due, h, hl, ho, h0, hdm, h1, hb, hp => by
    rw [owed_end gs i (by omega)] at h1
    refine ⟨i, by omega, ?_, hp⟩
    refine Ev.step (fun k => by rw [payF]) ?_
    exact Ev.neg (by omega) (Ev.now _)
  | d + 1, i, gs, os, due, h, hl, ho, h0, hdm, h1, hb, hp => by
    by_cases hd : due > 0
    · have hx := hb _ (getD_mem gs i (by omega))
      rw [owed_step gs i (by omega)] at h1
      rw [payN, if_pos hd]
      by_cases hg : gs.getD i 0 < 0
      · rw [if_pos hg]
        have hm : mn due (- gs.getD i 0) ≤ due ∧ mn due (- gs.getD i 0) ≤ - gs.getD i 0 ∧ 0 < mn due (- gs.getD i 0) ∧ (mn due (- gs.getD i 0) = due ∨ mn due (- gs.getD i 0) = - gs.getD i 0) := by unfold mn; split <;> omega
        have hmx : mx (- gs.getD i 0) 0 = - gs.getD i 0 := by unfold mx; split <;> omega
        rw [hmx] at h1
        generalize hme : mn due (- gs.getD i 0) = m at hm ⊢
        have hlen : (gs.set i (gs.getD i 0 + m)).length = gs.length := by simp
        have hb' : ∀ x ∈ gs.set i (gs.getD i 0 + m), -4611686018427387904 ≤ x ∧ x ≤ 4611686018427387904 := fun x hx' => by
          rcases List.mem_or_eq_of_mem_set hx' with h2 | rfl
          · exact hb x h2
          · omega
        have first : ∀ (r : List Int × Int × List S40), Ev (fun k => payF k l nm (gs.set i (gs.getD i 0 + m)) (i : Int) (os ++ [⟨(rd_T35 l (i : Int)).f0, nm, ⟨#[]⟩, m⟩]) (due - m)) r → Ev (fun k => payF k l nm gs (i : Int) os due) r := by
          intro r hr
          refine Ev.step (fun k => by rw [payF]) ?_
          refine Ev.pos hd (Ev.pos (by omega) (Ev.neg (by rw [rd_get]; omega) (Ev.pos (by omega) ?_)))
          rw [rd_get, w64 (- gs.getD i 0) (by omega) (by omega), hme, w64 (gs.getD i 0 + m) (by omega) (by omega), w64 (due - m) (by omega) (by omega), Int.toNat_natCast]
          exact hr
        by_cases hr : due - m > 0
        · -- the payer is done
          have hmd : m = - gs.getD i 0 := by omega
          have hz : (gs.set i (gs.getD i 0 + m)).getD i 0 = 0 := by rw [set_get gs i i _ (by omega), if_pos rfl]; omega
          have hpre : ∀ j, j < i + 1 → 0 ≤ (gs.set i (gs.getD i 0 + m)).getD j 0 := fun j hj => by
            rw [set_get gs i j _ (by omega)]
            split
            · omega
            · exact hp j (by omega)
          obtain ⟨p, p1, p2, p3⟩ := pay_ev l nm hn d (i + 1) (gs.set i (gs.getD i 0 + m)) (os ++ [⟨(rd_T35 l (i : Int)).f0, nm, ⟨#[]⟩, m⟩]) (due - m) (by omega) (by omega)
            (by rw [List.length_append, List.length_singleton]; omega) (by omega) (by omega) (by rw [owed_set]; omega) hb' hpre
          refine ⟨p, by omega, first _ ?_, p3⟩
          refine Ev.step (fun k => by rw [payF]) ?_
          refine Ev.pos hr (Ev.pos (by omega) (Ev.pos (by rw [rd_get, hz]; omega) ?_))
          rw [w64 ((i : Int) + 1) (by omega) (by omega)]
          exact p2
        · have e : due - m = 0 := by omega
          rw [payN_done _ _ _ _ _ _ _ hr]
          refine ⟨i, by omega, first _ ?_, fun j hj => ?_⟩
          · refine Ev.step (fun k => by rw [payF]) ?_
            exact Ev.neg hr (Ev.now _)
          · show 0 ≤ (gs.set i (gs.getD i 0 + m)).getD j 0
            rw [set_get gs i j _ (by omega), if_neg (by omega)]
            exact hp j hj
      · rw [if_neg hg]
        have hmx : mx (- gs.getD i 0) 0 = 0 := by unfold mx; split <;> omega
        rw [hmx] at h1
        obtain ⟨p, p1, p2, p3⟩ := pay_ev l nm hn d (i + 1) gs os due (by omega) hl (by omega) h0 hdm (by omega) hb (fun j hj => by
          by_cases e : j = i
          · subst e; omega
          · exact hp j (by omega))
        refine ⟨p, p1, ?_, p3⟩
        refine Ev.step (fun k => by rw [payF]) ?_
        refine Ev.pos hd (Ev.pos (by omega) (Ev.pos (by rw [rd_get]; omega) ?_))
        rw [w64 ((i : Int) + 1) (by omega) (by omega)]
        exact p2
    · rw [payN_done _ _ _ _ _ _ _ hd]
      refine ⟨i, by omega, ?_, hp⟩
      refine Ev.step (fun k => by rw [payF]) ?_
      exact Ev.neg hd (Ev.now _)

/-- What is paid: the sum, the bounds, who isn't a payer stays. -/
theorem payN_facts (l : List S35) (nm : ByteArray) : ∀ (d i : Nat) (gs : List Int) (os : List S40) (due : Int), i + d = gs.length → 0 ≤ due → due ≤ owed gs i →
    (payN l nm d i gs os due).1.length = gs.length ∧ (payN l nm d i gs os due).1.sum = gs.sum + due ∧ (payN l nm d i gs os due).2.length ≤ os.length + d ∧
    ∀ j, (0 ≤ gs.getD j 0 → (payN l nm d i gs os due).1.getD j 0 = gs.getD j 0) ∧ (gs.getD j 0 < 0 → gs.getD j 0 ≤ (payN l nm d i gs os due).1.getD j 0 ∧ (payN l nm d i gs os due).1.getD j 0 ≤ 0)
  | 0, i, gs, os, due, h, h0, h1 => by
    rw [owed_end gs i (by omega)] at h1
    rw [payN]
    exact ⟨rfl, by show gs.sum = gs.sum + due; omega, by show os.length ≤ os.length + 0; omega, fun j => ⟨fun _ => rfl, fun _ => by show gs.getD j 0 ≤ gs.getD j 0 ∧ gs.getD j 0 ≤ 0; omega⟩⟩
  | d + 1, i, gs, os, due, h, h0, h1 => by
    by_cases hd : due > 0
    · rw [owed_step gs i (by omega)] at h1
      rw [payN, if_pos hd]
      by_cases hg : gs.getD i 0 < 0
      · rw [if_pos hg]
        have hm : mn due (- gs.getD i 0) ≤ due ∧ mn due (- gs.getD i 0) ≤ - gs.getD i 0 ∧ 0 < mn due (- gs.getD i 0) ∧ (mn due (- gs.getD i 0) = due ∨ mn due (- gs.getD i 0) = - gs.getD i 0) := by unfold mn; split <;> omega
        have hmx : mx (- gs.getD i 0) 0 = - gs.getD i 0 := by unfold mx; split <;> omega
        rw [hmx] at h1
        generalize hme : mn due (- gs.getD i 0) = m at hm ⊢
        have how : 0 ≤ owed gs (i + 1) := nonneg_sum _ (fun x hx => by
          obtain ⟨y, _, rfl⟩ := List.mem_map.1 hx
          unfold mx; split <;> omega)
        obtain ⟨a, b, c, e⟩ := payN_facts l nm d (i + 1) (gs.set i (gs.getD i 0 + m)) (os ++ [⟨(rd_T35 l (i : Int)).f0, nm, ⟨#[]⟩, m⟩]) (due - m) (by simp; omega) (by omega) (by rw [owed_set]; omega)
        have hss : (gs.set i (gs.getD i 0 + m)).sum = gs.sum + m := by
          have h2 : gs = gs.take i ++ gs.getD i 0 :: gs.drop (i + 1) := by rw [← drop_cons gs i (by omega), List.take_append_drop]
          have h3 : gs.set i (gs.getD i 0 + m) = gs.take i ++ (gs.getD i 0 + m) :: gs.drop (i + 1) := by
            conv => lhs; rw [h2]
            rw [List.set_append_right _ _ (by simp; omega)]
            have : i - (gs.take i).length = 0 := by simp; omega
            rw [this]
            have hz : (gs.take i ++ gs.getD i 0 :: gs.drop (i + 1)).getD i 0 = gs.getD i 0 := by rw [← h2]
            rw [hz]
            rfl
          rw [h3]
          conv => rhs; rw [h2]
          rw [List.sum_append_int, List.sum_append_int, List.sum_cons, List.sum_cons]
          omega
        refine ⟨by rw [a]; simp, by rw [b, hss]; omega, by rw [List.length_append, List.length_singleton] at c; omega, fun j => ?_⟩
        obtain ⟨e1, e2⟩ := e j
        rw [set_get gs i j _ (by omega)] at e1 e2
        by_cases hj : i = j
        · subst hj
          rw [if_pos rfl] at e1 e2
          refine ⟨fun h => by omega, fun _ => ?_⟩
          by_cases hq : 0 ≤ gs.getD i 0 + m
          · have := e1 hq; omega
          · have := e2 (by omega); omega
        · rw [if_neg hj] at e1 e2
          exact ⟨e1, e2⟩
      · rw [if_neg hg]
        have hmx : mx (- gs.getD i 0) 0 = 0 := by unfold mx; split <;> omega
        rw [hmx] at h1
        obtain ⟨a, b, c, e⟩ := payN_facts l nm d (i + 1) gs os due (by omega) h0 (by omega)
        exact ⟨a, b, by omega, e⟩
    · rw [payN_done _ _ _ _ _ _ _ hd]
      exact ⟨rfl, by show gs.sum = gs.sum + due; omega, by show os.length ≤ _; omega, fun j => ⟨fun _ => rfl, fun _ => by show gs.getD j 0 ≤ gs.getD j 0 ∧ gs.getD j 0 ≤ 0; omega⟩⟩

/-- All who get something are paid, one behind the other, from place i on. -/
def payAll (l : List S35) : Nat → Nat → List Int → List S40 → List Int × List S40
  | 0, _, gs, os => (gs, os)
  | d + 1, i, gs, os => payAll l d (i + 1) (payN l (rd_T35 l (i : Int)).f0 l.length 0 gs os (mx (gs.getD i 0) 0)).1 (payN l (rd_T35 l (i : Int)).f0 l.length 0 gs os (mx (gs.getD i 0) 0)).2
/-- Who pays whom. -/
def paidOf (l : List S35) (gs : List Int) (s : Int) : List Int × List S40 :=
  payAll l l.length 0 (payN l ⟨#[]⟩ l.length 0 gs [] s).1 (payN l ⟨#[]⟩ l.length 0 gs [] s).2

/-- What those from place i on are to get. -/
def toGet (gs : List Int) (i : Nat) : Int := ((gs.drop i).map fun x => mx x 0).sum
theorem toGet_step (gs : List Int) (i : Nat) (h : i < gs.length) : toGet gs i = mx (gs.getD i 0) 0 + toGet gs (i + 1) := by
  unfold toGet
  rw [drop_cons gs i h, List.map_cons, List.sum_cons]
theorem toGet_nonneg (gs : List Int) (i : Nat) : 0 ≤ toGet gs i := nonneg_sum _ (fun x hx => by
  obtain ⟨y, _, rfl⟩ := List.mem_map.1 hx
  unfold mx; split <;> omega)
theorem owed_toGet : ∀ (gs : List Int), owed gs 0 = toGet gs 0 - gs.sum := by
  intro gs
  induction gs with
  | nil => rfl
  | cons x r ih =>
    have a : owed (x :: r) 0 = mx (-x) 0 + owed r 0 := by unfold owed; simp
    have b : toGet (x :: r) 0 = mx x 0 + toGet r 0 := by unfold toGet; simp
    rw [a, b, List.sum_cons, ih]
    unfold mx
    split <;> split <;> omega
theorem toGet_congr (a b : List Int) (hl : a.length = b.length) (h : ∀ j, mx (a.getD j 0) 0 = mx (b.getD j 0) 0) (i : Nat) : toGet a i = toGet b i := by
  unfold toGet
  congr 1
  refine List.ext_getElem (by simp [hl]) fun j h1 h2 => ?_
  have h1' : i + j < a.length := by simp at h1; omega
  have h2' : i + j < b.length := by omega
  have := h (i + j)
  simp [List.getD_eq_getElem?_getD, h1', h2'] at this
  simpa using this
/-- What is paid leaves all who get with what they got. -/
theorem payN_toGet (l : List S35) (nm : ByteArray) (d i : Nat) (gs : List Int) (os : List S40) (due : Int) (h : i + d = gs.length) (h0 : 0 ≤ due) (h1 : due ≤ owed gs i) (i' : Nat) : toGet (payN l nm d i gs os due).1 i' = toGet gs i' := by
  obtain ⟨a, b, c, e⟩ := payN_facts l nm d i gs os due h h0 h1
  refine toGet_congr _ _ a (fun j => ?_) i'
  obtain ⟨e1, e2⟩ := e j
  by_cases hj : 0 ≤ gs.getD j 0
  · rw [e1 hj]
  · have := e2 (by omega)
    unfold mx
    split <;> split <;> omega

theorem owed_pre (gs : List Int) : ∀ (p : Nat), p ≤ gs.length → (∀ j, j < p → 0 ≤ gs.getD j 0) → owed gs 0 = owed gs p
  | 0, _, _ => rfl
  | p + 1, h, hj => by
    rw [owed_pre gs p (by omega) (fun j h' => hj j (by omega)), owed_step gs p (by omega)]
    have := hj p (by omega)
    have e : mx (- gs.getD p 0) 0 = 0 := by unfold mx; split <;> omega
    omega
theorem payN_bd (l : List S35) (nm : ByteArray) (d i : Nat) (gs : List Int) (os : List S40) (due : Int) (h : i + d = gs.length) (h0 : 0 ≤ due) (h1 : due ≤ owed gs i)
    (hb : ∀ x ∈ gs, -4611686018427387904 ≤ x ∧ x ≤ 4611686018427387904) : ∀ x ∈ (payN l nm d i gs os due).1, -4611686018427387904 ≤ x ∧ x ≤ 4611686018427387904 := by
  obtain ⟨a, b, c, e⟩ := payN_facts l nm d i gs os due h h0 h1
  intro x hx
  obtain ⟨j, hj, rfl⟩ := List.getElem_of_mem hx
  have ej : (payN l nm d i gs os due).1[j] = (payN l nm d i gs os due).1.getD j 0 := by simp [List.getD_eq_getElem?_getD, hj]
  rw [ej]
  have hg := hb _ (getD_mem gs j (by omega))
  obtain ⟨e1, e2⟩ := e j
  by_cases hq : 0 ≤ gs.getD j 0
  · rw [e1 hq]; exact hg
  · have := e2 (by omega); omega
/-- A payment from the payer on who is first one that owes is one from the first place on. -/
theorem pay_from (l : List S35) (nm : ByteArray) (gs : List Int) (os : List S40) (due : Int) (p : Nat) (hp : p ≤ gs.length) (hl : gs.length = l.length) (hj : ∀ j, j < p → 0 ≤ gs.getD j 0) :
    payN l nm (gs.length - p) p gs os due = payN l nm l.length 0 gs os due := by
  have h := payN_skip l nm gs os due (gs.length - p) p 0 (fun j _ h2 => hj j (by omega))
  rw [Nat.zero_add, show p + (gs.length - p) = l.length by omega] at h
  exact h.symm
theorem paysL_ev (l : List S35) (hn : l.length ≤ 4096) : ∀ (d i : Nat) (gs : List Int) (p : Nat) (os : List S40), i + d = l.length → gs.length = l.length → p ≤ gs.length →
    os.length + (d + 1) * 4096 ≤ 999999999999 → toGet gs i ≤ owed gs 0 → (∀ x ∈ gs, -4611686018427387904 ≤ x ∧ x ≤ 4611686018427387904) → (∀ j, j < p → 0 ≤ gs.getD j 0) →
    Ev (fun k => paysL k l gs (p : Int) os (i : Int)) ((payAll l d i gs os).2, 0)
  | 0, i, gs, p, os, h, hl, hp, ho, hb, hx, hj => by
    refine Ev.step (fun k => by rw [paysL]) ?_
    exact Ev.neg (by omega) (Ev.now _)
  | d + 1, i, gs, p, os, h, hl, hp, ho, hb, hx, hj => by
    have hs := toGet_step gs i (by omega)
    have hz := toGet_nonneg gs (i + 1)
    have h0 : 0 ≤ mx (gs.getD i 0) 0 := by unfold mx; split <;> omega
    have hpre := owed_pre gs p hp hj
    obtain ⟨p', p1, p2, p3⟩ := pay_ev l (rd_T35 l (i : Int)).f0 hn (gs.length - p) p gs os (mx (gs.getD i 0) 0) (by omega) hl (by omega) h0 (by have := hx _ (getD_mem gs i (by omega)); unfold mx; split <;> omega) (by omega) hx hj
    rw [pay_from l _ gs os _ p hp hl hj] at p2 p3
    obtain ⟨a, b, c, e⟩ := payN_facts l (rd_T35 l (i : Int)).f0 l.length 0 gs os (mx (gs.getD i 0) 0) (by omega) h0 (by omega)
    have ht := payN_toGet l (rd_T35 l (i : Int)).f0 l.length 0 gs os (mx (gs.getD i 0) 0) (by omega) h0 (by omega)
    have ih := paysL_ev l hn d (i + 1) (payN l (rd_T35 l (i : Int)).f0 l.length 0 gs os (mx (gs.getD i 0) 0)).1 p' (payN l (rd_T35 l (i : Int)).f0 l.length 0 gs os (mx (gs.getD i 0) 0)).2 (by omega) (a.trans hl) (by omega) (by omega)
      (by rw [ht]; have q1 := owed_toGet (payN l (rd_T35 l (i : Int)).f0 l.length 0 gs os (mx (gs.getD i 0) 0)).1; have q2 := owed_toGet gs; rw [ht, b] at q1; omega)
      (payN_bd l _ l.length 0 gs os _ (by omega) h0 (by omega) hx) p3
    refine Ev.step (fun k => by rw [paysL]) ?_
    refine Ev.pos (by omega) (Ev.pos (by omega) ?_)
    rw [rd_get]
    refine Ev.bind p2 ?_
    show Ev (fun k => paysL k l _ _ _ (wrap64 ((i : Int) + 1))) _
    rw [w64 ((i : Int) + 1) (by omega) (by omega)]
    exact ih

theorem gets_sum (g ps : List Int) (h : g.length = ps.length) : (gets g ps).sum = g.sum - ps.sum := by
  have e : gets g ps = List.zipWith (· - ·) g ps := by
    refine List.ext_getElem (by simp [gets, h]) fun i h1 h2 => ?_
    have h1' : i < g.length := by simpa [gets] using h1
    simp [gets, List.getD_eq_getElem?_getD, h1', show i < ps.length by omega]
  rw [e]
  clear e
  induction g generalizing ps with
  | nil => cases ps with
    | nil => rfl
    | cons _ _ => simp at h
  | cons x r ih => cases ps with
    | nil => simp at h
    | cons y q =>
      rw [List.zipWith_cons_cons, List.sum_cons, List.sum_cons, List.sum_cons, ih q (by simpa using h)]
      omega
/-- What is wrong, or who pays whom. -/
def debtsOf (l : List S35) (g : List Int) (s : Int) : List S40 × Int :=
  if (wholeOf l g s).2.2 = 0 then ((paidOf l (wholeOf l g s).2.1 s).2, 0) else ([], (wholeOf l g s).2.2)
theorem whole_ok (l : List S35) (g : List Int) (s : Int) (h : (wholeOf l g s).2.2 = 0) :
    givenB l g = true ∧ 0 ≤ s ∧ s ≤ 1099511627776 ∧ (adjustOf (g.sum + s) l).2 = 0 ∧ (wholeOf l g s).1 = partsOf (g.sum + s) (vals l) ∧ (wholeOf l g s).2.1 = gets g (partsOf (g.sum + s) (vals l)) := by
  unfold wholeOf at h ⊢
  by_cases h1 : givenB l g = false ∨ ¬ (0 ≤ s ∧ s ≤ 1099511627776)
  · rw [if_pos h1] at h; cases h
  · rw [if_neg h1] at h ⊢
    have hgv : givenB l g = true := by
      cases hb : givenB l g with
      | true => rfl
      | false => exact absurd (Or.inl hb) h1
    have hsp : 0 ≤ s ∧ s ≤ 1099511627776 := by
      by_cases hq : 0 ≤ s ∧ s ≤ 1099511627776
      · exact hq
      · exact absurd (Or.inr hq) h1
    by_cases he : (adjustOf (g.sum + s) l).2 = 0
    · rw [if_pos he]
      obtain ⟨hp, _, _⟩ := adjust_ok _ l he
      exact ⟨hgv, hsp.1, hsp.2, he, hp, by show gets g _ = _; rw [hp]⟩
    · rw [if_neg he] at h
      exact absurd h he
theorem whole_facts (l : List S35) (g : List Int) (s : Int) (h : (wholeOf l g s).2.2 = 0) :
    0 ≤ s ∧ s ≤ 1099511627776 ∧ (wholeOf l g s).2.1.length = l.length ∧ s + (wholeOf l g s).2.1.sum = 0 ∧ ∀ x ∈ (wholeOf l g s).2.1, -4611686018427387904 ≤ x ∧ x ≤ 4611686018427387904 := by
  obtain ⟨hgv, s0, s1, he, _, hg⟩ := whole_ok l g s h
  obtain ⟨hm, hlen, hv, n1, n2, hi, hgb⟩ := given_facts l g hgv
  obtain ⟨_, hsplit, _⟩ := adjust_ok _ l he
  obtain ⟨t0, t1, _, _, _, hz⟩ := splitErr_facts _ _ hsplit
  have hz' : (vals l).sum = 0 → g.sum + s = 0 := fun h => by by_cases h0 : 0 < g.sum + s; (have := hz h0; omega); omega
  have hpb := parts_bd (g.sum + s) (vals l) t0 t1 hv hz'
  have hps := parts_sum (g.sum + s) (vals l) t0 hv hz'
  have hpl : (partsOf (g.sum + s) (vals l)).length = l.length := by rw [partsOf_length, vals_length]
  rw [hg]
  refine ⟨s0, s1, by rw [gets_length]; exact hlen, by rw [gets_sum _ _ (by omega), hps]; omega, fun x hx => ?_⟩
  obtain ⟨j, hj, rfl⟩ := List.getElem_of_mem hx
  rw [gets_length] at hj
  have ej : (gets g (partsOf (g.sum + s) (vals l)))[j] = (gets g (partsOf (g.sum + s) (vals l))).getD j 0 := by simp [List.getD_eq_getElem?_getD, gets_length, hj]
  have a := hgb _ (getD_mem g j hj)
  have b := hpb _ (getD_mem (partsOf (g.sum + s) (vals l)) j (by omega))
  rw [ej, gets_get _ _ j hj]
  omega
theorem pays_ev (l : List S35) (g : List Int) (s : Int) (hn : l.length ≤ 4096) (hs : ∀ x ∈ l, x.f0.size ≤ 4611686018427387904) : Ev (fun k => average_Pays.f k l g s) (debtsOf l g s) := by
  unfold average_Pays.f paysF debtsOf
  refine Ev.bind (whole_ev l g s hn hs) ?_
  refine Ev.both (fun e => ?_) (fun e => by rw [if_neg e]; exact Ev.now _)
  rw [if_pos e]
  obtain ⟨s0, s1, hl, hsum, hx⟩ := whole_facts l g s e
  generalize (wholeOf l g s).2.1 = gs at hl hsum hx ⊢
  have q0 := owed_toGet gs
  have hz := toGet_nonneg gs 0
  obtain ⟨a, b, c, f⟩ := payN_facts l ⟨#[]⟩ l.length 0 gs [] s (by omega) s0 (by omega)
  have ht := payN_toGet l ⟨#[]⟩ l.length 0 gs [] s (by omega) s0 (by omega) 0
  obtain ⟨p, p1, p2, p3⟩ := pay_ev l ⟨#[]⟩ hn l.length 0 gs [] s (by omega) hl (by rw [List.length_nil]; omega) s0 (by omega) (by omega) hx (fun j hj => by omega)
  refine Ev.bind p2 ?_
  exact paysL_ev l hn l.length 0 (payN l ⟨#[]⟩ l.length 0 gs [] s).1 p (payN l ⟨#[]⟩ l.length 0 gs [] s).2 (by omega) (a.trans hl) (by omega) (by rw [List.length_nil] at c; omega)
    (by have q1 := owed_toGet (payN l ⟨#[]⟩ l.length 0 gs [] s).1; rw [ht, b] at q1; omega)
    (payN_bd l ⟨#[]⟩ l.length 0 gs [] s (by omega) s0 (by omega) hx) p3
end Go.Proofs.Yteeehijpdkbgkaa.Print

namespace Go.Proofs.Yteeehijpdkbgkaa.Pure
open Go.RowKit Go.Proofs.Yteeehijpdkbgkaa.Print Go.Proofs.YteeehijpdkbgkaaW.PrintWords Go.Proofs.YteeehijpdkbgkaaW.PrintLast

def zeros (n : Nat) : List Int := List.replicate n 0
theorem zeros_get (n i : Nat) : (zeros n).getD i 0 = 0 := by
  unfold zeros
  by_cases h : i < n
  · simp [List.getD_eq_getElem?_getD, h]
  · simp [List.getD_eq_getElem?_getD, h]
theorem zeros_sum (n : Nat) : (zeros n).sum = 0 := by
  unfold zeros
  induction n with
  | zero => rfl
  | succ n ih => rw [List.replicate_succ, List.sum_cons, ih]; rfl
theorem given_of (l : List S35) (g : List Int) (hm : mayB l = true) (hl : g.length = l.length) (hg : ∀ i, i < g.length → 0 ≤ g.getD i 0 ∧ g.getD i 0 ≤ (vals l).getD i 0) : givenB l g = true := by
  unfold givenB
  rw [hm, decide_eq_true hl, Bool.true_and, Bool.true_and, List.all_eq_true]
  intro i hi
  exact decide_eq_true (hg i (by simpa using hi))
theorem err_zero (v : List Int) (hv : ∀ x ∈ v, 0 ≤ x ∧ x ≤ 1099511627776) (h1 : 1 ≤ v.length) (h2 : v.length ≤ 4096) (t : Int) (t0 : 0 ≤ t) (t1 : t ≤ v.sum) : splitErr t v = 0 ∨ splitErr t v = 3 := by
  unfold splitErr
  rw [if_neg]
  · by_cases h3 : (1099511627776 < t ∨ v.any (fun x => decide (1099511627776 < x)) = true) ∨ 4096 < v.length
    · rw [if_pos h3]; exact .inr rfl
    · rw [if_neg h3, if_neg]
      · exact .inl rfl
      · rintro ⟨h, ha⟩
        have hz : ∀ x ∈ v, x = 0 := fun x hx => by
          have := List.any_eq_false.1 ha x hx
          have h0 := (hv x hx).1
          simp at this
          omega
        have : v.sum = 0 := by
          clear hv h1 h2 t1 ha h3
          induction v with
          | nil => rfl
          | cons x r ih => rw [List.sum_cons, hz x (by simp), ih (fun y hy => hz y (by simp [hy]))]; rfl
        omega
  · rintro ((h | h) | h)
    · omega
    · omega
    · obtain ⟨x, hx, h⟩ := List.any_eq_true.1 h
      have := (hv x hx).1
      simp at h
      omega
theorem err_none (v : List Int) (hv : ∀ x ∈ v, 0 ≤ x ∧ x ≤ 1099511627776) (h1 : 1 ≤ v.length) (h2 : v.length ≤ 4096) : splitErr 0 v = 0 := by
  unfold splitErr
  rw [if_neg, if_neg, if_neg]
  · rintro ⟨h, _⟩; omega
  · rintro ((h | h) | h)
    · omega
    · obtain ⟨x, hx, h⟩ := List.any_eq_true.1 h
      have := (hv x hx).2
      simp at h
      omega
    · omega
  · rintro ((h | h) | h)
    · omega
    · omega
    · obtain ⟨x, hx, h⟩ := List.any_eq_true.1 h
      have := (hv x hx).1
      simp at h
      omega
/-- All is lost: each bears what was at stake. -/
theorem parts_all (v : List Int) (hv : ∀ x ∈ v, 0 ≤ x ∧ x ≤ 1099511627776) : partsOf v.sum v = v := by
  refine List.ext_getElem (by rw [partsOf_length]) fun i h1 h2 => ?_
  have e1 : (partsOf v.sum v)[i] = (partsOf v.sum v).getD i 0 := by simp [List.getD_eq_getElem?_getD, h1]
  have e2 : v[i] = v.getD i 0 := by simp [List.getD_eq_getElem?_getD, h2]
  have hx := hv _ (getD_mem v i h2)
  rw [e1, e2]
  by_cases hs : v.sum = 0
  · rw [hs, partsOf_zero]
    have := List.le_sum_of_mem_int v (fun z hz => (hv z hz).1) _ (getD_mem v i h2)
    have h0 : (List.replicate v.length (0 : Int)).getD i 0 = 0 := zeros_get v.length i
    rw [h0]
    omega
  · have hpos : 0 < v.sum := by have := nonneg_sum v (fun x hx => (hv x hx).1); omega
    rcases parts_near v.sum v hpos i h2 with h | ⟨_, h⟩
    · rw [h, Int.mul_ediv_cancel_left _ hs]
    · exact absurd (Int.mul_emod_right _ _) h
/-- Nothing at stake: nothing borne. -/
theorem part_none (t : Int) (v : List Int) (hv : ∀ x ∈ v, 0 ≤ x ∧ x ≤ 1099511627776) (hz : v.sum = 0 → t = 0) (i : Nat) (hi : i < v.length) (h0 : v.getD i 0 = 0) : (partsOf t v).getD i 0 = 0 := by
  by_cases hs : v.sum = 0
  · rw [hz hs, partsOf_zero]
    exact zeros_get v.length i
  · have hpos : 0 < v.sum := by have := nonneg_sum v (fun x hx => (hv x hx).1); omega
    rcases parts_near t v hpos i hi with h | ⟨_, h⟩
    · rw [h, h0, Int.mul_zero, Int.zero_ediv]
    · rw [h0, Int.mul_zero, Int.zero_emod] at h
      exact absurd rfl h
theorem gets_same (v : List Int) : gets v v = zeros v.length := by
  refine List.ext_getElem (by simp [gets, zeros]) fun i h1 h2 => ?_
  simp [gets, zeros]
theorem gets_zero (n : Nat) : gets (zeros n) (zeros n) = zeros n := by
  rw [gets_same]; simp [zeros]
theorem may_not (l : List S35) (g : List Int) (s : Int) (hm : mayB l = false) : wholeOf l g s = ([], [], 1) := by
  unfold wholeOf
  rw [if_pos (.inl (by unfold givenB; rw [hm]; rfl))]
/-- Nothing is lost. -/
theorem whole_none (l : List S35) (hm : mayB l = true) : wholeOf l (zeros l.length) 0 = (zeros l.length, zeros l.length, 0) := by
  obtain ⟨hv, h1, h2⟩ := may_vals l hm
  have hvl := vals_length l
  have hgv : givenB l (zeros l.length) = true := given_of l _ hm (by simp [zeros]) (fun i hi => by
    rw [zeros_get]
    exact ⟨Int.le_refl 0, (hv _ (getD_mem (vals l) i (by simp [zeros] at hi; omega))).1⟩)
  have hA : adjustOf 0 l = (zeros l.length, 0) := by
    unfold adjustOf
    have := nonneg_sum (vals l) (fun x hx => (hv x hx).1)
    rw [if_neg (by rintro (h | h); (rw [hm] at h; cases h); omega), if_neg (by omega), if_pos (err_none _ hv (by omega) (by omega)), partsOf_zero, hvl]
    rfl
  unfold wholeOf
  rw [if_neg (by rintro (h | h); (rw [hgv] at h; cases h); omega), zeros_sum, Int.add_zero, hA, if_pos rfl, gets_zero]
/-- All is lost, or it can't be shared. -/
theorem whole_all (l : List S35) (hm : mayB l = true) : wholeOf l (vals l) 0 = ([], [], 3) ∨ wholeOf l (vals l) 0 = (vals l, zeros l.length, 0) := by
  obtain ⟨hv, h1, h2⟩ := may_vals l hm
  have hvl := vals_length l
  have hgv : givenB l (vals l) = true := given_of l _ hm hvl (fun i hi => ⟨(hv _ (getD_mem (vals l) i hi)).1, Int.le_refl _⟩)
  have h0 := nonneg_sum (vals l) (fun x hx => (hv x hx).1)
  have hA : adjustOf (vals l).sum l = if splitErr (vals l).sum (vals l) = 0 then (partsOf (vals l).sum (vals l), 0) else ([], splitErr (vals l).sum (vals l)) := by
    unfold adjustOf
    rw [if_neg (by rintro (h | h); (rw [hm] at h; cases h); omega), if_neg (by omega)]
  unfold wholeOf
  rw [if_neg (by rintro (h | h); (rw [hgv] at h; cases h); omega), Int.add_zero, hA]
  rcases err_zero (vals l) hv (by omega) (by omega) (vals l).sum h0 (Int.le_refl _) with h | h
  · right
    rw [if_pos h, if_pos rfl, parts_all _ hv, gets_same, hvl]
  · left
    rw [if_neg (show ¬ splitErr (vals l).sum (vals l) = 0 by omega), if_neg (show ¬ splitErr (vals l).sum (vals l) = 0 by omega), h]
theorem payN_none (l : List S35) (nm : ByteArray) (d i : Nat) (gs : List Int) (os : List S40) : payN l nm d i gs os 0 = (gs, os) := payN_done l nm d i gs os 0 (by omega)
theorem payAll_none (l : List S35) (n : Nat) : ∀ (d i : Nat), payAll l d i (zeros n) [] = (zeros n, [])
  | 0, _ => rfl
  | d + 1, i => by
    rw [payAll, zeros_get, show mx (0 : Int) 0 = 0 by unfold mx; split <;> omega, payN_none]
    exact payAll_none l n d (i + 1)
theorem debts_none (l : List S35) (h : wholeOf l (vals l) 0 = (vals l, zeros l.length, 0)) : debtsOf l (vals l) 0 = ([], 0) := by
  unfold debtsOf
  rw [h, if_pos rfl]
  unfold paidOf
  rw [payN_none, payAll_none]

def nobody : S35 := ⟨⟨#[110, 111, 98, 111, 100, 121, 45, 97, 116, 45, 115, 116, 97, 107, 101]⟩, 0⟩
theorem ends_l1 (l : List S35) (hm : mayB l = true) (hn : l.length ≤ 31) (hs : ∀ x ∈ l, x.f0.size ≤ 4611686018427387904) : ∀ (d i : Nat), i + d = l.length →
    Ev (fun k => supercargolaw43_AverageEnds.l1 k l (zeros l.length) (vals l) (zeros l.length) (zeros l.length) (vals l) (zeros l.length) [] 0 (i : Int)) true
  | d + 1, i, h => by
    have hvl := vals_length l
    have hz : (zeros l.length).length = l.length := by simp [zeros]
    have ih := ends_l1 l hm hn hs d (i + 1) (by omega)
    refine Ev.step (fun k => by rw [supercargolaw43_AverageEnds.l1]) ?_
    refine Ev.pos (by omega) (Ev.neg (by omega) (Ev.neg (by omega) (Ev.neg (by omega) (Ev.neg (by omega) (Ev.pos (by omega) (Ev.pos (by omega) ?_))))))
    refine Ev.pos (by rw [rd_get, zeros_get]) (Ev.pos (by omega) (Ev.pos (by rw [rd_get, zeros_get]) (Ev.pos (by omega) (Ev.pos (by rw [rd_get, vals_get l i (by omega)]) (Ev.pos (by omega) (Ev.pos (by rw [rd_get, zeros_get]) ?_))))))
    rw [w64 _ (by omega) (by omega)]
    exact ih
  | 0, i, h => by
    obtain ⟨hv, h1, h2⟩ := may_vals l hm
    have hvl := vals_length l
    have hz : (zeros l.length).length = l.length := by simp [zeros]
    refine Ev.step (fun k => by rw [supercargolaw43_AverageEnds.l1]) ?_
    refine Ev.neg (by omega) ?_
    show Ev (fun k => if (([] : List S35).length + l.length) < 5864062014805 then _ else none) true
    refine Ev.pos (by simp; omega) ?_
    show Ev (fun k => if ((([] : List S35) ++ l).length + [nobody].length) < 5864062014805 then _ else none) true
    refine Ev.pos (by simp; omega) ?_
    show Ev (fun k => if (([] : List Int).length + (zeros l.length).length) < 17592186044416 then _ else none) true
    refine Ev.pos (by rw [hz, List.length_nil]; omega) ?_
    show Ev (fun k => if ((([] : List Int) ++ zeros l.length).length + [(0 : Int)].length) < 17592186044416 then _ else none) true
    refine Ev.pos (by rw [List.nil_append, hz, List.length_singleton]; omega) (Ev.pos (by omega) ?_)
    have hone : (([] : List S35) ++ l ++ [nobody]).length = l.length + 1 := by simp
    have hw := whole_ev (([] : List S35) ++ l ++ [nobody]) (([] : List Int) ++ zeros l.length ++ [0]) (mn (rd (vals l) 0) 9) (by omega) (fun x hx => by
      rw [List.nil_append, List.mem_append, List.mem_singleton] at hx
      rcases hx with hx | rfl
      · exact hs x hx
      · show (⟨#[110, 111, 98, 111, 100, 121, 45, 97, 116, 45, 115, 116, 97, 107, 101]⟩ : ByteArray).size ≤ _; decide)
    refine Ev.bind hw ?_
    refine Ev.step (fun k => by rw [supercargolaw43_AverageEnds.j2]) ?_
    refine Ev.pos rfl (Ev.pos rfl ?_)
    refine Ev.both (fun he => ?_) (fun _ => Ev.now _)
    obtain ⟨hgv, s0, s1, hadj, e1, e2⟩ := whole_ok _ _ _ he
    obtain ⟨hm2, hlen2, hv2, _, _, _, _⟩ := given_facts _ _ hgv
    obtain ⟨_, hsplit, _⟩ := adjust_ok _ _ hadj
    obtain ⟨t0, t1, _, _, _, hzz⟩ := splitErr_facts _ _ hsplit
    have hvl2 := vals_length (([] : List S35) ++ l ++ [nobody])
    have hz' : (vals (([] : List S35) ++ l ++ [nobody])).sum = 0 → (([] : List Int) ++ zeros l.length ++ [0]).sum + mn (rd (vals l) 0) 9 = 0 := fun h => by
      by_cases h0 : 0 < (([] : List Int) ++ zeros l.length ++ [0]).sum + mn (rd (vals l) 0) 9
      · have := hzz h0; omega
      · omega
    have hv0 : (vals (([] : List S35) ++ l ++ [nobody])).getD l.length 0 = 0 := by
      simp [vals, nobody, List.getD_eq_getElem?_getD]
    have hp0 := part_none _ _ hv2 hz' l.length (by omega) hv0
    rw [e1, e2]
    have hpl := partsOf_length ((([] : List Int) ++ zeros l.length ++ [0]).sum + mn (rd (vals l) 0) 9) (vals (([] : List S35) ++ l ++ [nobody]))
    have hgl := gets_length (([] : List Int) ++ zeros l.length ++ [0]) (partsOf ((([] : List Int) ++ zeros l.length ++ [0]).sum + mn (rd (vals l) 0) 9) (vals (([] : List S35) ++ l ++ [nobody])))
    refine Ev.pos (by show ((partsOf _ _).length : Int) = ((([] : List S35) ++ l ++ [nobody]).length : Int); omega) (Ev.pos (by omega) (Ev.pos (by omega) (Ev.pos (by rw [rd_get, hp0]) (Ev.pos (by omega) ?_))))
    rw [rd_get, gets_get _ _ _ (by omega), hp0]
    have hg0 : (([] : List Int) ++ zeros l.length ++ [0]).getD l.length 0 = 0 := by simp [zeros, List.getD_eq_getElem?_getD]
    rw [hg0]
    exact Ev.now _
theorem ends_l0 (l : List S35) (hn : l.length ≤ 31) (hs : ∀ x ∈ l, x.f0.size ≤ 4611686018427387904) : ∀ (d i : Nat), i + d = l.length →
    Ev (fun k => supercargolaw43_AverageEnds.l0 k l (zeros l.length) ((vals l).take i) (i : Int)) true
  | d + 1, i, h => by
    have hvl := vals_length l
    have ih := ends_l0 l hn hs d (i + 1) (by omega)
    refine Ev.step (fun k => by rw [supercargolaw43_AverageEnds.l0]) ?_
    refine Ev.pos (by omega) (Ev.pos (by omega) ?_)
    show Ev (fun k => if ((vals l).take i).length + [(rd_T35 l (i : Int)).f1].length < 17592186044416 then supercargolaw43_AverageEnds.l0 k l (zeros l.length) ((vals l).take i ++ [(rd_T35 l (i : Int)).f1]) (wrap64 ((i : Int) + 1)) else none) true
    refine Ev.pos (by rw [List.length_take, List.length_singleton]; omega) ?_
    rw [w64 _ (by omega) (by omega), vals_get l i (by omega)]
    have : (vals l).take i ++ [(vals l).getD i 0] = (vals l).take (i + 1) := by
      rw [List.take_succ_eq_append_getElem (by omega)]
      simp [List.getD_eq_getElem?_getD, show i < (vals l).length by omega]
    rw [this]
    exact ih
  | 0, i, h => by
    have hvl := vals_length l
    have hz : (zeros l.length).length = l.length := by simp [zeros]
    refine Ev.step (fun k => by rw [supercargolaw43_AverageEnds.l0]) ?_
    refine Ev.neg (by omega) ?_
    rw [List.take_of_length_le (by omega)]
    refine Ev.bind (whole_ev l _ 0 (by omega) hs) (Ev.bind (whole_ev l _ 0 (by omega) hs) (Ev.bind (pays_ev l _ 0 (by omega) hs) ?_))
    cases hm : mayB l with
    | false =>
      rw [may_not l _ _ hm, may_not l _ _ hm]
      exact Ev.neg (by decide) (Ev.pos rfl (Ev.now _))
    | true =>
      rw [whole_none l hm]
      refine Ev.pos rfl ?_
      rcases whole_all l hm with h3 | h3
      · rw [h3]
        exact Ev.neg (by decide) (Ev.pos rfl (Ev.now _))
      · rw [h3, debts_none l h3]
        refine Ev.pos rfl ?_
        exact ends_l1 l hm hn hs l.length 0 (by omega)

theorem AverageEnds (l : List S35) (wl : ∀ x ∈ l, x.f0.size ≤ maxLen ∧ (Lit.int .i64 x.f1).wf = true) : ∃ k, supercargolaw43_AverageEnds.f k l = some true := by
  refine Ev.le (r := true) ?_
  unfold supercargolaw43_AverageEnds.f
  refine Ev.bind awake43_ev (Ev.pos rfl (Ev.bind (few_ev l []) ?_))
  refine Ev.both (fun hf => ?_) (fun _ => Ev.now _)
  rw [Bool.and_eq_true] at hf
  obtain ⟨hn, hs⟩ := fewB_facts l hf.1
  have hs : ∀ x ∈ l, x.f0.size ≤ 4611686018427387904 := fun x hx => by have := hs x hx; omega
  refine Ev.pos (by omega) (Ev.pos (by omega) ?_)
  rw [Int.toNat_natCast]
  have h := ends_l0 l hn hs l.length 0 (by omega)
  rwa [List.take_zero] at h
end Go.Proofs.Yteeehijpdkbgkaa.Pure
