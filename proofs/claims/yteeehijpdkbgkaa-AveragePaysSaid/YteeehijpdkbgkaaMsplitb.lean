/-
The reference's split comes to the same parts.
-/
import Derived.Test.YteeehijpdkbgkaaMshare
namespace Go.Proofs.Yteeehijpdkbgkaa.Print
open Go.RowKit Go.Proofs.YteeehijpdkbgkaaW.PrintWords Go.Proofs.YteeehijpdkbgkaaW.PrintLast Go.Proofs.YteeehijpdkbgkaaW.PrintMore

theorem parts_of_K (t : Int) (l ps : List Int) (K : List Nat) (hl : ps.length = l.length) (hn : K.Nodup) (hK : ∀ p ∈ K, p < l.length)
    (hB : ∀ p ∈ K, ∀ q, q < l.length → q ∉ K → bef (restL t l.sum l) p q = true) (hlen : (K.length : Int) = leftOf t l)
    (hps : ∀ i, i < l.length → ps.getD i 0 = (baseL t l.sum l).getD i 0 + if i ∈ K then 1 else 0) : ps = partsOf t l := by
  have hrl : (restL t l.sum l).length = l.length := by simp [restL]
  apply List.ext_getElem
  · rw [hl, partsOf_length]
  · intro i h1 h2
    rw [partsOf_length] at h2
    have a := hps i h2
    have b := partsOf_get t l i h2
    have hb : (baseL t l.sum l).getD i 0 = t * l.getD i 0 / l.sum := by simp [baseL, List.getD_eq_getElem?_getD, h2]
    have hm := mem_iff_rank (restL t l.sum l) K hn (by rw [hrl]; exact hK) (by rw [hrl]; exact hB) i (by rw [hrl]; exact h2)
    rw [hb] at a
    simp only [List.getD_eq_getElem?_getD, List.getElem?_eq_getElem h1, List.getElem?_eq_getElem (show i < (partsOf t l).length by rw [partsOf_length]; exact h2), Option.getD_some] at a b
    rw [a, b]
    congr 1
    by_cases h : i ∈ K
    · rw [if_pos h, if_pos (by have := hm.1 h; omega)]
    · rw [if_neg h, if_neg (by intro h'; exact h (hm.2 (by omega)))]

theorem nodup_subset_length : ∀ (A B : List Nat), A.Nodup → (∀ x ∈ A, x ∈ B) → A.length ≤ B.length
  | [], _, _, _ => Nat.zero_le _
  | a :: r, B, hn, hs => by
    have hn' := List.nodup_cons.1 hn
    have ih := nodup_subset_length r (B.erase a) hn'.2 (fun x hx => (List.mem_erase_of_ne (by rintro rfl; exact hn'.1 hx)).2 (hs x (List.mem_cons_of_mem _ hx)))
    have hl := List.length_erase_of_mem (hs a List.mem_cons_self)
    have := List.length_pos_of_mem (hs a List.mem_cons_self)
    simp only [List.length_cons]
    omega

theorem getD_set (l : List Int) (i j : Nat) (x : Int) (hj : j < l.length) : (l.set i x).getD j 0 = if i = j then x else l.getD j 0 := by
  rw [List.getD_eq_getElem?_getD, List.getElem?_set]
  by_cases h : i = j
  · subst h; simp [hj]
  · rw [if_neg h, if_neg h, List.getD_eq_getElem?_getD]

/-- The greatest rest, the first of alike ones, of those that lie ahead of i. -/
theorem ref_l3 (n : Nat) (ps rs : List Int) (hp : ps.length = n) (hr : rs.length = n) (hn : n ≤ 4096) (lf : Int) (R : List Int)
    (hK : ∀ b : Nat, b < n → (∀ j, j < n → j ≠ b → bef rs b j = true) → Ev (fun k => supercargoref04_Split.l2 k (ps.set b (wrap64 (ps.getD b 0 + 1))) (rs.set b (-1)) (wrap64 (lf - 1))) R) :
    ∀ (d i b : Nat), i + d = n → b < n → b < i → (∀ j, j < i → j ≠ b → bef rs b j = true) → Ev (fun k => supercargoref04_Split.l3 k ps rs lf (b : Int) (i : Int)) R
  | 0, i, b, h, hb, hbi, hB => by
    refine Ev.step (fun k => by rw [supercargoref04_Split.l3]) ?_
    refine Ev.neg (by omega) (Ev.pos (by omega) (Ev.pos (by omega) (Ev.pos (by omega) ?_)))
    rw [rd_get, Int.toNat_natCast]
    exact hK b hb (fun j hj => hB j (by omega))
  | d + 1, i, b, h, hb, hbi, hB => by
    refine Ev.step (fun k => by rw [supercargoref04_Split.l3]) ?_
    refine Ev.pos (by omega) (Ev.pos (by omega) (Ev.pos (by omega) (Ev.pos (by omega) ?_)))
    rw [rd_get, rd_get, w64 _ (by omega) (by omega)]
    refine Ev.both (fun e => ?_) (fun e => ?_)
    · refine ref_l3 n ps rs hp hr hn lf R hK d (i + 1) i (by omega) (by omega) (by omega) (fun j hj hne => ?_)
      by_cases hjb : j = b
      · subst hjb; rw [bef_iff]; exact .inl e
      · have := hB j (by omega) hjb
        rw [bef_iff] at *
        omega
    · refine ref_l3 n ps rs hp hr hn lf R hK d (i + 1) b (by omega) hb (by omega) (fun j hj hne => ?_)
      by_cases hji : j = i
      · subst hji; rw [bef_iff]; omega
      · exact hB j (by omega) hne

theorem ref_l2 (t : Int) (l : List Int) (hn0 : 0 < l.length) (hn : l.length ≤ 4096) (hbase : ∀ x ∈ baseL t l.sum l, 0 ≤ x ∧ x ≤ 1099511627776) (hrest : ∀ x ∈ restL t l.sum l, 0 ≤ x) (hlb : leftOf t l < l.length) :
    ∀ (d : Nat) (K : List Nat) (ps rs : List Int), K.length + d = leftOf t l → K.Nodup → (∀ p ∈ K, p < l.length) → (∀ p ∈ K, ∀ q, q < l.length → q ∉ K → bef (restL t l.sum l) p q = true) →
      ps.length = l.length → rs.length = l.length → (∀ i, i < l.length → ps.getD i 0 = (baseL t l.sum l).getD i 0 + if i ∈ K then 1 else 0) →
      (∀ i, i < l.length → rs.getD i 0 = if i ∈ K then -1 else (restL t l.sum l).getD i 0) → Ev (fun k => supercargoref04_Split.l2 k ps rs (d : Int)) (partsOf t l)
  | 0, K, ps, rs, h, hnd, hKl, hB, hp, hr, hps, hrs => by
    refine Ev.step (fun k => by rw [supercargoref04_Split.l2]) ?_
    refine Ev.neg (by omega) ?_
    rw [parts_of_K t l ps K hp hnd hKl hB (by omega) hps]
    exact Ev.now _
  | d + 1, K, ps, rs, h, hnd, hKl, hB, hp, hr, hps, hrs => by
    refine Ev.step (fun k => by rw [supercargoref04_Split.l2]) ?_
    refine Ev.pos (by omega) ?_
    refine ref_l3 l.length ps rs hp hr hn ((d + 1 : Nat) : Int) (partsOf t l) (fun b hb hmax => ?_) (l.length - 1) 1 0 (by omega) hn0 (by omega) (fun j hj hne => by omega)
    have hbl : (baseL t l.sum l).length = l.length := by simp [baseL]
    have hrl : (restL t l.sum l).length = l.length := by simp [restL]
    -- b is none of those that were taken
    have hbK : b ∉ K := by
      intro hbK
      have hsome : ∃ q, q < l.length ∧ q ∉ K := by
        refine Classical.byContradiction fun hno => ?_
        have hall : ∀ q, q < l.length → q ∈ K := fun q hq => Classical.byContradiction fun h' => hno ⟨q, hq, h'⟩
        have h1 : (List.range l.length).length ≤ K.length := nodup_subset_length _ _ List.nodup_range (fun x hx => hall x (by simpa using hx))
        rw [List.length_range] at h1
        omega
      obtain ⟨q, hq, hqK⟩ := hsome
      have hne : q ≠ b := fun e => hqK (e ▸ hbK)
      have h1 := hmax q hq hne
      rw [bef_iff, hrs b hb, hrs q hq, if_pos hbK, if_neg hqK] at h1
      have := hrest _ (getD_mem (restL t l.sum l) q (by omega))
      omega
    have hbb := hbase _ (getD_mem (baseL t l.sum l) b (by omega))
    have hpb := hps b hb
    rw [if_neg hbK] at hpb
    have ih := ref_l2 t l hn0 hn hbase hrest hlb d (b :: K) (ps.set b (ps.getD b 0 + 1)) (rs.set b (-1)) (by simp only [List.length_cons]; omega) (List.nodup_cons.2 ⟨hbK, hnd⟩)
      (fun p hp' => by rcases List.mem_cons.1 hp' with rfl | h'; exact hb; exact hKl p h')
      (fun p hp' q hq hqn => by
        have hqK : q ∉ K := fun h' => hqn (List.mem_cons_of_mem _ h')
        have hqb : q ≠ b := fun h' => hqn (h' ▸ List.mem_cons_self)
        rcases List.mem_cons.1 hp' with rfl | h'
        · have h1 := hmax q hq hqb
          rw [bef_iff, hrs p hb, hrs q hq, if_neg hbK, if_neg hqK] at h1
          rw [bef_iff]
          exact h1
        · exact hB p h' q hq hqK)
      (by simpa using hp) (by simpa using hr)
      (fun i hi => by
        rw [getD_set _ _ _ _ (by omega)]
        by_cases e : b = i
        · subst e; rw [if_pos rfl, if_pos List.mem_cons_self, hpb]; omega
        · rw [if_neg e, hps i hi]
          have : (i ∈ b :: K) ↔ (i ∈ K) := ⟨fun h' => (List.mem_cons.1 h').resolve_left (fun h2 => e h2.symm), List.mem_cons_of_mem _⟩
          simp only [this])
      (fun i hi => by
        rw [getD_set _ _ _ _ (by omega)]
        by_cases e : b = i
        · subst e; rw [if_pos rfl, if_pos List.mem_cons_self]
        · rw [if_neg e, hrs i hi]
          have : (i ∈ b :: K) ↔ (i ∈ K) := ⟨fun h' => (List.mem_cons.1 h').resolve_left (fun h2 => e h2.symm), List.mem_cons_of_mem _⟩
          simp only [this])
    rw [w64 _ (by omega) (by omega), w64 _ (by omega) (by omega)]
    have e1 : (((d + 1 : Nat) : Int) - 1) = (d : Int) := by omega
    rw [e1]
    exact ih

/-- The shares, one behind the other. -/
theorem ref_l1 (t : Int) (l : List Int) (hn0 : 0 < l.length) (hn : l.length ≤ 4096) (hl : ∀ x ∈ l, 0 ≤ x ∧ x ≤ 1099511627776) (t0 : 0 ≤ t) (t1 : t ≤ 1099511627776) (hs : 0 < l.sum) :
    ∀ (d i : Nat) (ps rs : List Int), i + d = l.length → fillsTo l.length i (fun j => t * l.getD j 0 / l.sum) ps → fillsTo l.length i (fun j => t * l.getD j 0 % l.sum) rs →
      Ev (fun k => supercargoref04_Split.l1 k t l ps rs l.sum (t - sumTo (baseL t l.sum l) i) (i : Int)) (partsOf t l)
  | 0, i, ps, rs, h, f0, f1 => by
    have hi : i = l.length := by omega
    subst hi
    have hbl : (baseL t l.sum l).length = l.length := by simp [baseL]
    have hrl : (restL t l.sum l).length = l.length := by simp [restL]
    have e0 : ps = baseL t l.sum l := fills_eq f0 hbl fun i hi => by simp [baseL, List.getD_eq_getElem?_getD, hi]
    have e1 : rs = restL t l.sum l := fills_eq f1 hrl fun i hi => by simp [restL, List.getD_eq_getElem?_getD, hi]
    have hsum : sumTo (baseL t l.sum l) l.length = (baseL t l.sum l).sum := by unfold sumTo; rw [List.take_of_length_le (by omega)]
    have hlb := left_bd t l hs
    refine Ev.step (fun k => by rw [supercargoref04_Split.l1]) ?_
    refine Ev.neg (by omega) ?_
    rw [hsum, e0, e1]
    obtain ⟨d, hd⟩ := Int.eq_ofNat_of_zero_le hlb.1
    have hd' : t - (baseL t l.sum l).sum = (d : Int) := hd
    rw [hd']
    refine ref_l2 t l hn0 hn (base_bd t l.sum l t0 hs (fun y hy => ⟨(hl y hy).1, List.le_sum_of_mem_int l (fun z hz => (hl z hz).1) y hy⟩) t1) (fun x hx => ?_) hlb.2 d [] _ _ (by simp; omega) List.nodup_nil (by simp) (by simp) hbl hrl (by simp) (by simp)
    simp only [restL, List.mem_map] at hx
    obtain ⟨y, _, rfl⟩ := hx
    exact Int.emod_nonneg _ (by omega)
  | d + 1, i, ps, rs, h, f0, f1 => by
    have hbl : (baseL t l.sum l).length = l.length := by simp [baseL]
    have hx := hl _ (getD_mem l i (by omega))
    have hxs := List.le_sum_of_mem_int l (fun z hz => (hl z hz).1) _ (getD_mem l i (by omega))
    have hsb : l.sum ≤ 4611686018427387904 := by
      have := sumTo_bd l _ hl l.length (Nat.le_refl _)
      have e : sumTo l l.length = l.sum := by unfold sumTo; rw [List.take_of_length_le (Nat.le_refl _)]
      omega
    have hB := base_bd t l.sum l t0 hs (fun y hy => ⟨(hl y hy).1, List.le_sum_of_mem_int l (fun z hz => (hl z hz).1) y hy⟩) t1
    have hbi : (baseL t l.sum l).getD i 0 = t * l.getD i 0 / l.sum := by simp [baseL, List.getD_eq_getElem?_getD, show i < l.length by omega]
    have hq := hB _ (getD_mem (baseL t l.sum l) i (by omega))
    rw [hbi] at hq
    have hsb2 := sumTo_bd (baseL t l.sum l) _ hB i (by omega)
    refine Ev.step (fun k => by rw [supercargoref04_Split.l1]) ?_
    refine Ev.pos (by omega) (Ev.pos (by omega) ?_)
    rw [rd_get]
    refine Ev.bind (times_ev t (l.getD i 0) l.sum t0 (by omega) hx.1 (by omega) hs hsb (by omega)) ?_
    refine Ev.pos (by rw [f0.1]; omega) ?_
    rw [Int.toNat_natCast]
    refine Ev.call rfl (Ev.pos (by rw [f1.1]; omega) ?_)
    have g0 := fillsTo_succ f0 (show i < l.length by omega) (x := t * l.getD i 0 / l.sum) rfl
    have g1 := fillsTo_succ f1 (show i < l.length by omega) (x := t * l.getD i 0 % l.sum) rfl
    have hrd : rd (ps.set i (t * l.getD i 0 / l.sum)) i = t * l.getD i 0 / l.sum := by
      rw [rd_get, getD_set _ _ _ _ (by rw [f0.1]; omega), if_pos rfl]
    rw [hrd, w64 _ (by omega) (by omega), w64 ((i : Int) + 1) (by omega) (by omega)]
    have ih := ref_l1 t l hn0 hn hl t0 t1 hs d (i + 1) _ _ (by omega) g0 g1
    have e1 : t - sumTo (baseL t l.sum l) i - t * l.getD i 0 / l.sum = t - sumTo (baseL t l.sum l) (i + 1) := by
      rw [sumTo_succ _ _ (by omega), hbi]; omega
    rw [e1]
    exact ih

theorem ref_l0 (t : Int) (l : List Int) (hn : l.length ≤ 4096) (hl : ∀ x ∈ l, 0 ≤ x ∧ x ≤ 1099511627776) (zs : List Int)
    (hend : Ev (fun k => if l.sum = 0 then some zs else supercargoref04_Split.l1 k t l zs zs l.sum t 0) (partsOf t l)) :
    ∀ (d i : Nat), i + d = l.length → Ev (fun k => supercargoref04_Split.l0 k t l zs zs (sumTo l i) (i : Int)) (partsOf t l)
  | 0, i, h => by
    refine Ev.step (fun k => by rw [supercargoref04_Split.l0]) ?_
    refine Ev.neg (by omega) ?_
    have hsum : sumTo l i = l.sum := by unfold sumTo; rw [List.take_of_length_le (by omega)]
    rw [hsum]
    exact hend
  | d + 1, i, h => by
    obtain ⟨⟨s0, s1⟩, ⟨x0, x1⟩, hsu⟩ := sum_facts l hl hn i (by omega)
    refine Ev.step (fun k => by rw [supercargoref04_Split.l0]) ?_
    refine Ev.pos (by omega) (Ev.pos (by omega) ?_)
    rw [rd_get, w64 _ (by omega) (by omega), w64 _ (by omega) (by omega), ← hsu]
    exact ref_l0 t l hn hl zs hend d (i + 1) (by omega)

/-- **supercargoref04.Split comes to the parts.** -/
theorem refsplit_ev (t : Int) (l : List Int) (h : splitErr t l = 0) : Ev (fun k => supercargoref04_Split.f k t l) (partsOf t l) := by
  obtain ⟨t0, t1, n0, n1, hl, hs⟩ := splitErr_facts t l h
  unfold supercargoref04_Split.f
  refine Ev.pos (by omega) (Ev.pos (by omega) ?_)
  rw [Int.toNat_natCast]
  have := ref_l0 t l n1 hl (List.replicate l.length 0) ?_ l.length 0 (by omega)
  · simpa [sumTo] using this
  · refine Ev.both (fun e => ?_) (fun e => ?_)
    · have ht : t = 0 := by
        rcases Int.lt_or_le 0 t with h' | h'
        · have := hs h'; omega
        · omega
      subst ht
      rw [partsOf_zero]
      exact Ev.now _
    · have hsum : 0 ≤ l.sum := by
        have := sumTo_bd l _ hl l.length (Nat.le_refl _)
        have e : sumTo l l.length = l.sum := by unfold sumTo; rw [List.take_of_length_le (Nat.le_refl _)]
        omega
      have := ref_l1 t l n0 n1 hl t0 t1 (by omega) l.length 0 _ _ (by omega) (fillsTo_zero _ _) (fillsTo_zero _ _)
      simpa [sumTo] using this
end Go.Proofs.Yteeehijpdkbgkaa.Print
