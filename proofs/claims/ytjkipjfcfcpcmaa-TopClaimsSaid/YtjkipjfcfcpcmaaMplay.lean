/-
A file of a loss in plain words: what is claimed, what comes back; never more than the loss.
-/
import Derived.Test.YtjkipjfcfcpcmaaMpol
import Derived.Test.YtjkipjfcfcpcmaaHrec
import Derived.Test.YtjkipjfcfcpcmaaHclaim
namespace Go.Proofs.Ytjkipjfcfcpcmaa.Print
open Go.RowKit Go.Proofs.YtjkipjfcfcpcmaaW.PrintWords Go.Proofs.YtjkipjfcfcpcmaaW.PrintLast Go.Proofs.YtjkipjfcfcpcmaaW.PrintMore

theorem toList_inj {a b : ByteArray} (h : a.toList = b.toList) : a = b := Go.WideShapes.bytes_inj (by simpa [ByteArray.toList_eq] using h)
theorem named_iff (nm : ByteArray) (p : S64) : named nm p = true ↔ p.f0 = nm := by
  unfold named
  exact ⟨fun h => toList_inj (eq_of_beq h), fun h => by rw [h]; exact beq_self_eq_true _⟩

theorem sum0 {l : List Int} (h : ∀ x ∈ l, 0 ≤ x) : 0 ≤ l.sum := by
  induction l with
  | nil => simp
  | cons x r ih =>
    have := ih (fun y hy => h y (by simp [hy]))
    have := h x (by simp)
    simp only [List.sum_cons]
    omega
theorem fold_sum {α : Type} (g : α → Int) : ∀ (l : List α) (a : Int), (∀ p ∈ l, 0 ≤ g p) → 0 ≤ a → a + (l.map g).sum ≤ 4611686018427387904 → l.foldl (fun n p => wrap64 (n + g p)) a = a + (l.map g).sum
  | [], a, _, _, _ => by simp
  | x :: r, a, h, h0, hb => by
    have hx := h x (by simp)
    have hr : 0 ≤ (r.map g).sum := sum0 (fun y hy => by obtain ⟨z, hz, rfl⟩ := List.mem_map.1 hy; exact h z (by simp [hz]))
    simp only [List.map_cons, List.sum_cons] at hb ⊢
    rw [List.foldl_cons, w64 (a + g x) (by omega) (by omega), fold_sum g r _ (fun p hp => h p (by simp [hp])) (by omega) (by omega)]
    omega

def paidS (ps : List S64) : Int := (ps.map (·.f1)).sum
def backS (ps : List S64) : Int := (ps.map (·.f2)).sum
def Each (ps : List S64) : Prop := ∀ p ∈ ps, 0 ≤ p.f2 ∧ p.f2 ≤ p.f1 ∧ p.f1 ≤ 1099511627776
theorem Each.tail {p : S64} {r : List S64} (h : Each (p :: r)) : Each r := fun q hq => h q (by simp [hq])
theorem paidS_cons (p : S64) (r : List S64) : paidS (p :: r) = p.f1 + paidS r := rfl
theorem backS_cons (p : S64) (r : List S64) : backS (p :: r) = p.f2 + backS r := rfl
theorem paidS_snoc (p : S64) (r : List S64) : paidS (r ++ [p]) = paidS r + p.f1 := by simp [paidS]
theorem backS_snoc (p : S64) (r : List S64) : backS (r ++ [p]) = backS r + p.f2 := by simp [backS]
theorem Each.sums : ∀ {ps : List S64}, Each ps → 0 ≤ backS ps ∧ backS ps ≤ paidS ps
  | [], _ => by simp [backS, paidS]
  | p :: r, h => by
    have := Each.sums h.tail
    have := h p (by simp)
    rw [paidS_cons, backS_cons]
    omega

/-- A file that may be. -/
structure Fok (lo : Int) (ps : List S64) (bk : Int) : Prop where
  lo1 : lo ≤ 1099511627776
  bk0 : 0 ≤ bk
  each : Each ps
  left : paidS ps + bk ≤ lo
  nm : ∀ s ∈ ps.map (·.f0), 1 ≤ s.size ∧ s.size ≤ 16
theorem Fok.new {lo : Int} (h : 0 ≤ lo) (h1 : lo ≤ 1099511627776) : Fok lo [] 0 := ⟨h1, by omega, by simp [Each], by simp [paidS, h], by simp⟩

section
variable {lo bk : Int} {ps : List S64}
theorem Fok.paid (h : Fok lo ps bk) : paidF ps = paidS ps := by
  have hs := h.each.sums
  have h1 := h.lo1
  have h2 := h.bk0
  have h3 := h.left
  unfold paidF paidTo
  rw [List.take_of_length_le (Nat.le_refl _), fold_sum (fun p => p.f1) ps 0 (fun p hp => by have := h.each p hp; show 0 ≤ p.f1; omega) (Int.le_refl _) (by show 0 + paidS ps ≤ _; omega)]
  exact Int.zero_add _
theorem Fok.leftF (h : Fok lo ps bk) : leftF lo ps bk = lo - paidS ps - bk := by
  have hs := h.each.sums
  have h1 := h.lo1
  have h2 := h.bk0
  have h3 := h.left
  unfold Print.leftF
  rw [h.paid, w64 (lo - paidS ps) (by omega) (by omega), w64 _ (by omega) (by omega)]
theorem map_sub : ∀ {ps : List S64}, Each ps → (ps.map fun p => wrap64 (p.f1 - p.f2)).sum = paidS ps - backS ps
  | [], _ => rfl
  | p :: r, h => by
    have hp := h p (by simp)
    rw [List.map_cons, List.sum_cons, map_sub h.tail, paidS_cons, backS_cons, w64 _ (by omega) (by omega)]
    omega
theorem Fok.outF (h : Fok lo ps bk) : outF lo ps bk = lo - bk - backS ps := by
  have hs := h.each.sums
  have h1 := h.lo1
  have h2 := h.bk0
  have h3 := h.left
  unfold Print.outF outTo
  rw [List.take_of_length_le (Nat.le_refl _), h.leftF, fold_sum (fun p => wrap64 (p.f1 - p.f2)) ps _ (fun p hp => by have := h.each p hp; show 0 ≤ wrap64 (p.f1 - p.f2); rw [w64 _ (by omega) (by omega)]; omega) (by omega) (by rw [map_sub h.each]; omega), map_sub h.each]
  omega
end

theorem took_app (os : List S42) (who : ByteArray) (n : Int) : took os who n = os ++ took [] who n := by unfold took; split <;> simp

/-- What comes back goes down the row, told by the row. -/
def recS : List S64 → Int → List S64 × Int × List S42
  | [], s => ([], s, [])
  | p :: r, s => (⟨p.f0, p.f1, p.f2 + mn s (p.f1 - p.f2)⟩ :: (recS r (s - mn s (p.f1 - p.f2))).1, (recS r (s - mn s (p.f1 - p.f2))).2.1, took [] p.f0 (mn s (p.f1 - p.f2)) ++ (recS r (s - mn s (p.f1 - p.f2))).2.2)
theorem mn_facts {s d : Int} (h0 : 0 ≤ s) (hd : 0 ≤ d) : 0 ≤ mn s d ∧ mn s d ≤ s ∧ mn s d ≤ d ∧ (mn s d = s ∨ mn s d = d) := by unfold mn; split <;> omega
theorem recL_eq : ∀ (rest pre : List S64) (s : Int) (os : List S42), Each rest → 0 ≤ s → s ≤ 1099511627776 →
    recL rest.length pre.length (pre ++ rest) s os = (pre ++ (recS rest s).1, (recS rest s).2.1, os ++ (recS rest s).2.2)
  | [], pre, s, os, _, _, _ => by simp [recL, recS]
  | p :: r, pre, s, os, he, h0, h1 => by
    have hp := he p (by simp)
    have hm := mn_facts h0 (show 0 ≤ p.f1 - p.f2 by omega)
    have e : rd_T64 (pre ++ p :: r) (pre.length : Int) = p := by simp [rd_T64, List.getD_eq_getElem?_getD]
    rw [List.length_cons, recL, e, w64 (p.f1 - p.f2) (by omega) (by omega)]
    rw [w64 (p.f2 + mn s (p.f1 - p.f2)) (by omega) (by omega), w64 (s - mn s (p.f1 - p.f2)) (by omega) (by omega), took_app]
    have hset : (pre ++ p :: r).set pre.length ⟨p.f0, p.f1, p.f2 + mn s (p.f1 - p.f2)⟩ = (pre ++ [⟨p.f0, p.f1, p.f2 + mn s (p.f1 - p.f2)⟩]) ++ r := by simp
    rw [hset]
    have ih := recL_eq r (pre ++ [⟨p.f0, p.f1, p.f2 + mn s (p.f1 - p.f2)⟩]) (s - mn s (p.f1 - p.f2)) (os ++ took [] p.f0 (mn s (p.f1 - p.f2))) he.tail (by omega) (by omega)
    rw [List.length_append, List.length_singleton] at ih
    rw [ih]
    simp [recS]

/-- The sum of a name's entries; of all. -/
def entS : List S42 → ByteArray → Int
  | [], _ => 0
  | x :: r, t => (if x.f0 = t then x.f2 else 0) + entS r t
def entA (os : List S42) : Int := (os.map (·.f2)).sum
/-- What one of a name was paid; gave back. -/
def paidBy : List S64 → ByteArray → Int
  | [], _ => 0
  | p :: r, t => (if p.f0 = t then p.f1 else 0) + paidBy r t
def backBy : List S64 → ByteArray → Int
  | [], _ => 0
  | p :: r, t => (if p.f0 = t then p.f2 else 0) + backBy r t
theorem entS_app : ∀ (a b : List S42) (t : ByteArray), entS (a ++ b) t = entS a t + entS b t
  | [], b, t => by simp [entS]
  | x :: r, b, t => by rw [List.cons_append, entS, entS, entS_app r b t]; omega
theorem entA_app (a b : List S42) : entA (a ++ b) = entA a + entA b := by simp [entA]
theorem paidBy_snoc : ∀ (a : List S64) (p : S64) (t : ByteArray), paidBy (a ++ [p]) t = paidBy a t + (if p.f0 = t then p.f1 else 0)
  | [], p, t => by simp [paidBy]
  | x :: r, p, t => by rw [List.cons_append, paidBy, paidBy, paidBy_snoc r p t]; omega
theorem backBy_snoc : ∀ (a : List S64) (p : S64) (t : ByteArray), backBy (a ++ [p]) t = backBy a t + (if p.f0 = t then p.f2 else 0)
  | [], p, t => by simp [backBy]
  | x :: r, p, t => by rw [List.cons_append, backBy, backBy, backBy_snoc r p t]; omega
theorem backBy_le : ∀ {ps : List S64}, Each ps → ∀ t, 0 ≤ backBy ps t ∧ backBy ps t ≤ paidBy ps t ∧ paidBy ps t ≤ paidS ps
  | [], _, t => by simp [backBy, paidBy, paidS]
  | p :: r, h, t => by
    have ih := backBy_le h.tail t
    have hp := h p (by simp)
    rw [backBy, paidBy, paidS_cons]
    split <;> omega
theorem paidBy_none : ∀ {ps : List S64} {t : ByteArray}, ps.any (named t) = false → paidBy ps t = 0 ∧ backBy ps t = 0
  | [], _, _ => by simp [backBy, paidBy]
  | p :: r, t, h => by
    simp only [List.any_cons, Bool.or_eq_false_iff] at h
    have ih := paidBy_none h.2
    have : p.f0 ≠ t := fun e => by rw [(named_iff t p).2 e] at h; exact absurd h.1 (by simp)
    rw [backBy, paidBy, if_neg this, if_neg this]
    omega
theorem took_facts (who : ByteArray) (n : Int) (h : 0 ≤ n) : entA (took [] who n) = n ∧ (∀ t, entS (took [] who n) t = if who = t then n else 0) ∧ ∀ x ∈ took [] who n, x.f0 = who ∧ 0 < x.f2 ∧ x.f2 ≤ n := by
  unfold took
  by_cases hn : n > 0
  · rw [if_pos hn]
    refine ⟨by simp [entA], fun t => by simp [entS], fun x hx => ?_⟩
    simp at hx
    subst hx
    exact ⟨rfl, hn, Int.le_refl _⟩
  · rw [if_neg hn]
    exact ⟨by simp [entA]; omega, fun t => by simp only [entS]; split <;> omega, fun x hx => by simp at hx⟩

theorem recS_facts : ∀ (ps : List S64) (s : Int), Each ps → 0 ≤ s →
    Each (recS ps s).1 ∧ (recS ps s).1.map (·.f0) = ps.map (·.f0) ∧ (recS ps s).1.map (·.f1) = ps.map (·.f1) ∧ 0 ≤ (recS ps s).2.1 ∧ (recS ps s).2.1 ≤ s ∧
    backS (recS ps s).1 = backS ps + (s - (recS ps s).2.1) ∧ (paidS ps - backS ps ≤ s → (recS ps s).2.1 = s - (paidS ps - backS ps)) ∧ (s ≤ paidS ps - backS ps → (recS ps s).2.1 = 0) ∧
    entA (recS ps s).2.2 = s - (recS ps s).2.1 ∧ (∀ t, entS (recS ps s).2.2 t = backBy (recS ps s).1 t - backBy ps t) ∧ (∀ t, paidBy (recS ps s).1 t = paidBy ps t) ∧
    ∀ x ∈ (recS ps s).2.2, (∃ p ∈ ps, p.f0 = x.f0) ∧ 0 < x.f2
  | [], s, _, h0 => by
    refine ⟨by simp [recS, Each], rfl, rfl, h0, Int.le_refl _, by simp [recS, backS], by simp [recS, paidS, backS], by simp only [recS, paidS, backS, List.map_nil, List.sum_nil]; omega, by simp [recS, entA], fun t => by simp [recS, entS, backBy], fun t => rfl, by simp [recS]⟩
  | p :: r, s, h, h0 => by
    have hp := h p (by simp)
    have hm := mn_facts h0 (show 0 ≤ p.f1 - p.f2 by omega)
    obtain ⟨a1, a2, a3, a4, a5, a6, a7, a8, a9, a10, a11, a12⟩ := recS_facts r (s - mn s (p.f1 - p.f2)) h.tail (by omega)
    obtain ⟨t1, t2, t3⟩ := took_facts p.f0 (mn s (p.f1 - p.f2)) hm.1
    have hs := h.tail.sums
    refine ⟨?_, ?_, ?_, a4, ?_, ?_, ?_, ?_, ?_, ?_, ?_, ?_⟩
    · intro q hq
      simp only [recS, List.mem_cons] at hq
      rcases hq with rfl | hq
      · show 0 ≤ p.f2 + _ ∧ p.f2 + _ ≤ p.f1 ∧ p.f1 ≤ _
        omega
      · exact a1 q hq
    · simp only [recS, List.map_cons, a2]
    · simp only [recS, List.map_cons, a3]
    · show (recS r _).2.1 ≤ s
      omega
    · simp only [recS, backS_cons, a6]
      omega
    · simp only [recS, backS_cons, paidS_cons]
      intro hle
      rcases hm.2.2.2 with e | e
      · rw [e] at a7 a8 a4 a5 ⊢; omega
      · rw [e] at a7 ⊢; rw [a7 (by omega)]; omega
    · simp only [recS, backS_cons, paidS_cons]
      intro hle
      exact a8 (by rcases hm.2.2.2 with e | e <;> rw [e] <;> omega)
    · simp only [recS, entA_app, t1, a9]
      omega
    · intro t
      simp only [recS, entS_app, t2, a10, backBy]
      split <;> omega
    · intro t
      simp only [recS, paidBy, a11]
    · intro x hx
      simp only [recS, List.mem_append] at hx
      rcases hx with hx | hx
      · have := t3 x hx
        exact ⟨⟨p, by simp, this.1.symm⟩, this.2.1⟩
      · obtain ⟨⟨q, hq, e⟩, h2⟩ := a12 x hx
        exact ⟨⟨q, by simp [hq], e⟩, h2⟩

/-- What comes back, in plain words. -/
def recP (lo : Int) (ps : List S64) (bk s : Int) : List S64 × Int × List S42 × Int :=
  if s < 1 ∨ s > 1099511627776 then (ps, bk, [], 3)
  else if s > lo - bk - backS ps then (ps, bk, [], 10)
  else ((recS ps s).1, bk + (recS ps s).2.1, (recS ps s).2.2 ++ took [] ⟨#[]⟩ (recS ps s).2.1, 0)
theorem Fok.recF {lo bk : Int} {ps : List S64} (h : Fok lo ps bk) (s : Int) : recF lo ps bk s = recP lo ps bk s := by
  have hs := h.each.sums
  have h1 := h.lo1
  have h2 := h.bk0
  have h3 := h.left
  unfold Print.recF recP
  rw [h.outF]
  by_cases c1 : s < 1 ∨ s > 1099511627776
  · rw [if_pos c1, if_pos c1]
  · rw [if_neg c1, if_neg c1]
    by_cases c2 : s > lo - bk - backS ps
    · rw [if_pos c2, if_pos c2]
    · rw [if_neg c2, if_neg c2]
      have e := recL_eq ps [] s [] h.each (by omega) (by omega)
      simp only [List.nil_append, List.length_nil] at e
      rw [e, h.leftF]
      obtain ⟨a1, a2, a3, a4, a5, a6, a7, a8, _⟩ := recS_facts ps s h.each (by omega)
      have hr : mn (recS ps s).2.1 (lo - paidS ps - bk) = (recS ps s).2.1 := by
        unfold mn
        rw [if_neg]
        by_cases c3 : paidS ps - backS ps ≤ s
        · rw [a7 c3]; omega
        · rw [a8 (by omega)]; omega
      simp only [hr]
      rw [w64 _ (by omega) (by omega), took_app]

/-- What a file is like behind what comes back. -/
structure Recd (lo : Int) (ps : List S64) (bk s : Int) (r : List S64 × Int × List S42 × Int) : Prop where
  ok : Fok lo r.1 r.2.1
  len : r.1.length = ps.length
  nms : r.1.map (·.f0) = ps.map (·.f0)
  pds : r.1.map (·.f1) = ps.map (·.f1)
  by1 : ∀ t, paidBy r.1 t = paidBy ps t
  by2 : ∀ t, backBy r.1 t + (if t = ⟨#[]⟩ then r.2.1 else 0) = backBy ps t + (if t = ⟨#[]⟩ then bk else 0) + entS r.2.2.1 t
  no : r.2.2.2 ≠ 0 → r.2.2.1 = []
  yes : r.2.2.2 = 0 → entA r.2.2.1 = s
  tot : r.2.1 + backS r.1 = bk + backS ps + entA r.2.2.1
  pos : ∀ x ∈ r.2.2.1, 0 < x.f2
  elen : r.2.2.1.length ≤ ps.length + 1
  acc : ∀ x ∈ r.2.2.1, x.f0.size ≤ 16
  err : r.2.2.2 = 0 ↔ 1 ≤ s ∧ s ≤ lo - bk - backS ps
theorem took_len (os : List S42) (who : ByteArray) (n : Int) : (took os who n).length ≤ os.length + 1 := by unfold took; split <;> simp
theorem recS_len : ∀ (ps : List S64) (s : Int), (recS ps s).1.length = ps.length ∧ (recS ps s).2.2.length ≤ ps.length
  | [], s => by simp [recS]
  | p :: r, s => by
    have ih := recS_len r (s - mn s (p.f1 - p.f2))
    have := took_len [] p.f0 (mn s (p.f1 - p.f2))
    simp only [recS, List.length_cons, List.length_append, List.length_nil] at this ⊢
    omega
theorem Fok.recd {lo bk : Int} {ps : List S64} (h : Fok lo ps bk) (s : Int) : Recd lo ps bk s (recP lo ps bk s) := by
  have hs := h.each.sums
  have h1 := h.lo1
  have h2 := h.bk0
  have h3 := h.left
  unfold recP
  by_cases c1 : s < 1 ∨ s > 1099511627776
  · rw [if_pos c1]
    exact ⟨h, rfl, rfl, rfl, fun t => rfl, fun t => by simp [entS], fun _ => rfl, fun e => by simp at e, by simp [entA], by simp, by simp, by simp, by simp; omega⟩
  · rw [if_neg c1]
    by_cases c2 : s > lo - bk - backS ps
    · rw [if_pos c2]
      exact ⟨h, rfl, rfl, rfl, fun t => rfl, fun t => by simp [entS], fun _ => rfl, fun e => by simp at e, by simp [entA], by simp, by simp, by simp, by simp; omega⟩
    · rw [if_neg c2]
      obtain ⟨a1, a2, a3, a4, a5, a6, a7, a8, a9, a10, a11, a12⟩ := recS_facts ps s h.each (by omega)
      obtain ⟨l1, l2⟩ := recS_len ps s
      obtain ⟨t1, t2, t3⟩ := took_facts ⟨#[]⟩ (recS ps s).2.1 a4
      have hp : paidS (recS ps s).1 = paidS ps := by unfold paidS; rw [a3]
      have hl := took_len [] ⟨#[]⟩ (recS ps s).2.1
      refine ⟨⟨h1, by show 0 ≤ bk + _; omega, a1, ?_, fun q hq => h.nm q (by rw [← a2]; exact hq)⟩, l1, a2, a3, a11, fun t => ?_, fun e => absurd rfl e, fun _ => ?_, ?_, fun x hx => ?_, ?_, fun x hx => ?_, ?_⟩
      · show paidS (recS ps s).1 + (bk + (recS ps s).2.1) ≤ lo
        rw [hp]
        by_cases c3 : paidS ps - backS ps ≤ s
        · rw [a7 c3]; omega
        · rw [a8 (by omega)]; omega
      · show backBy (recS ps s).1 t + (if t = ⟨#[]⟩ then bk + (recS ps s).2.1 else 0) = backBy ps t + (if t = ⟨#[]⟩ then bk else 0) + entS ((recS ps s).2.2 ++ took [] ⟨#[]⟩ (recS ps s).2.1) t
        rw [entS_app, a10, t2]
        by_cases e : t = ⟨#[]⟩
        · rw [if_pos e, if_pos e, if_pos e.symm]; omega
        · rw [if_neg e, if_neg e, if_neg (fun h => e h.symm)]; omega
      · show entA ((recS ps s).2.2 ++ took [] ⟨#[]⟩ (recS ps s).2.1) = s
        rw [entA_app, a9, t1]; omega
      · show bk + (recS ps s).2.1 + backS (recS ps s).1 = bk + backS ps + entA ((recS ps s).2.2 ++ took [] ⟨#[]⟩ (recS ps s).2.1)
        rw [entA_app, a9, t1, a6]; omega
      · rcases List.mem_append.1 hx with hx | hx
        · exact (a12 x hx).2
        · exact (t3 x hx).2.1
      · show ((recS ps s).2.2 ++ took [] ⟨#[]⟩ (recS ps s).2.1).length ≤ _
        rw [List.length_append]
        simp only [List.length_nil] at hl
        omega
      · rcases List.mem_append.1 hx with hx | hx
        · obtain ⟨⟨p, hp, e⟩, _⟩ := a12 x hx
          rw [← e]
          exact (h.nm p.f0 (List.mem_map.2 ⟨p, hp, rfl⟩)).2
        · rw [(t3 x hx).1]; decide
      · simp; omega

/-- A claim, in plain words: m: may the policy be; n: what it pays. -/
def claimP (lo : Int) (ps : List S64) (bk : Int) (nm : ByteArray) (x : S33) (m : Bool) (n : Int) : List S64 × Int × Int :=
  if m = true then
    if nm = x.f0 then
      if ps.any (named nm) = true then (ps, 0, 5)
      else if ps.length ≥ 4096 then (ps, 0, 7)
      else (ps ++ [⟨nm, mn n (lo - paidS ps - bk), 0⟩], mn n (lo - paidS ps - bk), 0)
    else (ps, 0, 8)
  else (ps, 0, 1)
structure Claimed (lo : Int) (ps : List S64) (bk : Int) (nm : ByteArray) (n : Int) (r : List S64 × Int × Int) : Prop where
  ok : Fok lo r.1 bk
  len : r.1.length ≤ ps.length + 1
  by1 : ∀ t, paidBy r.1 t = paidBy ps t + (if nm = t then r.2.1 else 0)
  by2 : ∀ t, backBy r.1 t = backBy ps t
  no : r.2.2 ≠ 0 → r.1 = ps ∧ r.2.1 = 0
  yes : r.2.2 = 0 → paidBy ps nm = 0 ∧ r.2.1 ≤ n
  pos : 0 ≤ r.2.1
  paid : paidS r.1 = paidS ps + r.2.1
  back : backS r.1 = backS ps
theorem Fok.claimed {lo bk : Int} {ps : List S64} (h : Fok lo ps bk) (nm : ByteArray) (x : S33) (m : Bool) (n : Int) (hn : m = true → 0 ≤ n ∧ 1 ≤ x.f0.size ∧ x.f0.size ≤ 16) : Claimed lo ps bk nm n (claimP lo ps bk nm x m n) := by
  have hs := h.each.sums
  have h1 := h.lo1
  have h2 := h.bk0
  have h3 := h.left
  have same : ∀ e : Int, e ≠ 0 → Claimed lo ps bk nm n (ps, 0, e) := fun e he =>
    ⟨h, Nat.le_succ _, fun t => by simp, fun t => rfl, fun _ => ⟨rfl, rfl⟩, fun e' => absurd e' he, Int.le_refl _, by simp, rfl⟩
  unfold claimP
  by_cases c1 : m = true
  · rw [if_pos c1]
    by_cases c2 : nm = x.f0
    · rw [if_pos c2]
      by_cases c3 : ps.any (named nm) = true
      · rw [if_pos c3]; exact same 5 (by decide)
      · rw [if_neg c3]
        by_cases c4 : ps.length ≥ 4096
        · rw [if_pos c4]; exact same 7 (by decide)
        · rw [if_neg c4]
          have hm := mn_facts (hn c1).1 (show 0 ≤ lo - paidS ps - bk by omega)
          have hz := paidBy_none (by simpa using c3)
          refine ⟨⟨h1, h2, fun p hp => ?_, ?_, fun s hs => ?_⟩, by simp, fun t => ?_, fun t => ?_, fun e => absurd rfl e, fun _ => ⟨hz.1, hm.2.1⟩, hm.1, ?_, ?_⟩
          · rcases List.mem_append.1 hp with hp | hp
            · exact h.each p hp
            · simp at hp; subst hp
              show 0 ≤ (0 : Int) ∧ 0 ≤ mn n (lo - paidS ps - bk) ∧ mn n (lo - paidS ps - bk) ≤ 1099511627776
              omega
          · rw [paidS_snoc]
            show paidS ps + mn n (lo - paidS ps - bk) + bk ≤ lo
            omega
          · simp only [List.map_append, List.map_cons, List.map_nil, List.mem_append, List.mem_singleton] at hs
            rcases hs with hs | rfl
            · exact h.nm s hs
            · rw [c2]; exact (hn c1).2
          · rw [paidBy_snoc]
          · rw [backBy_snoc]; simp
          · rw [paidS_snoc]
          · rw [backS_snoc]; simp
    · rw [if_neg c2]; exact same 8 (by decide)
  · rw [if_neg c1]; exact same 1 (by decide)

theorem by_empty : ∀ {ps : List S64}, (∀ s ∈ ps.map (·.f0), 1 ≤ s.size ∧ s.size ≤ 16) → backBy ps ⟨#[]⟩ = 0 ∧ paidBy ps ⟨#[]⟩ = 0
  | [], _ => ⟨rfl, rfl⟩
  | p :: r, h => by
    have ih := by_empty (ps := r) (fun s hs => h s (by rw [List.map_cons]; exact List.mem_cons_of_mem _ hs))
    have hp : p.f0 ≠ ⟨#[]⟩ := fun e => by have := (h p.f0 (by simp)).1; rw [e] at this; exact absurd this (by decide)
    rw [backBy, paidBy, if_neg hp, if_neg hp]
    omega

theorem new_facts {lo va : Int} (h : newB lo va = true) : 1 ≤ va ∧ va ≤ 1099511627776 ∧ 0 ≤ lo ∧ lo ≤ va := by
  unfold newB at h
  simp at h
  omega
/-- A claim, with enough rounds. -/
theorem claim_ev (x : S33) (hs : Sized1 x) (lo va : Int) (hv : newB lo va = true) (ps : List S64) (bk : Int) (hF : Fok lo ps bk) (nm : ByteArray) :
    Ev (fun k => claimF k lo va ps bk nm x) (claimP lo ps bk nm x (mayOf x) (paysN x lo va)) := by
  obtain ⟨v1, v2, v3, v4⟩ := new_facts hv
  unfold claimF claimP
  refine Ev.bind (may_of x hs).1 ?_
  by_cases c1 : mayOf x = true
  · rw [if_pos c1]
    refine Ev.pos c1 ?_
    by_cases c2 : nm = x.f0
    · rw [if_pos c2]
      refine Ev.pos (by rw [c2]; exact beq_self_eq_true _) ?_
      by_cases c3 : ps.any (named nm) = true
      · rw [if_pos c3]
        exact Ev.pos c3 (Ev.now _)
      · rw [if_neg c3]
        refine Ev.neg c3 ?_
        by_cases c4 : ps.length ≥ 4096
        · rw [if_pos c4]
          exact Ev.pos c4 (Ev.now _)
        · rw [if_neg c4]
          refine Ev.neg c4 ?_
          obtain ⟨r, hr, hi, hv1, _⟩ := pays_may x hs lo va
          have h2 : r.2 = true := hi.2 ⟨c1, v1, v2, v3, by omega⟩
          refine Ev.bind hr ?_
          rw [hv1 h2, hF.leftF]
          exact Ev.now _
    · rw [if_neg c2]
      exact Ev.neg (fun h => c2 (toList_inj (eq_of_beq h))) (Ev.now _)
  · rw [if_neg c1]
    exact Ev.neg c1 (Ev.now _)
theorem claim_ok (x : S33) (hs : Sized1 x) (lo va : Int) (hv : newB lo va = true) (ps : List S64) (bk : Int) (hF : Fok lo ps bk) (nm : ByteArray) :
    Claimed lo ps bk nm (paysN x lo va) (claimP lo ps bk nm x (mayOf x) (paysN x lo va)) := by
  obtain ⟨v1, v2, v3, v4⟩ := new_facts hv
  exact hF.claimed nm x _ _ (fun h => ⟨(paysN_facts x ((may_of x hs).2 h).1 lo va v3 v1).1, ((may_of x hs).2 h).2⟩)
end Go.Proofs.Ytjkipjfcfcpcmaa.Print
