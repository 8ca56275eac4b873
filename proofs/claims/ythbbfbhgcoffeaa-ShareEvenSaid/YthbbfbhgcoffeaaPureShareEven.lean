/- Shared evenly, nobody has more than 1 more than anybody, and those who do stand first. Conditions: those of the given statement. -/
import Derived.Test.YthbbfbhgcoffeaaPrint13
import Derived.DataShut
import Derived.Test.YthbbfbhgcoffeaaMparts
import Derived.Test.YthbbfbhgcoffeaaMshare
import Derived.Test.YthbbfbhgcoffeaaMsplitb
namespace Go.Proofs.Ythbbfbhgcoffeaa.Pure
open Go.RowKit Go.Proofs.Ythbbfbhgcoffeaa.Print Go.Proofs.YthbbfbhgcoffeaaW.PrintWords Go.Proofs.YthbbfbhgcoffeaaW.PrintLast

theorem getD_rep (n i : Nat) (x : Int) (h : i < n) : (List.replicate n x).getD i 0 = x := by simp [List.getD_eq_getElem?_getD, h]
theorem sum_rep (n : Nat) : (List.replicate n (1 : Int)).sum = n := by
  induction n with
  | zero => rfl
  | succ n ih => rw [List.replicate_succ, List.sum_cons, ih]; omega
theorem sum_repx (x : Int) : ∀ n : Nat, (List.replicate n x).sum = n * x
  | 0 => by simp
  | n + 1 => by rw [List.replicate_succ, List.sum_cons, sum_repx x n]; rw [show ((n + 1 : Nat) : Int) = n + 1 by omega, Int.add_mul]; omega
theorem restEven (t : Int) (n : Nat) : restL t (List.replicate n (1 : Int)).sum (List.replicate n 1) = List.replicate n (t % n) := by
  rw [sum_rep]; simp [restL]
theorem rankEven (n i : Nat) (x : Int) (h : i < n) : rank (List.replicate n x) i = i := by
  unfold rank
  rw [List.length_replicate]
  have e : (List.range n).countP (fun j => bef (List.replicate n x) j i) = (List.range n).countP (fun j => decide (j < i)) := by
    refine List.countP_congr fun j hj => ?_
    have hj : j < n := by simpa using hj
    rw [bef_iff, getD_rep n i x h, getD_rep n j x hj]
    simp
  rw [e]
  clear e
  induction n with
  | zero => omega
  | succ m ih =>
    rw [List.range_succ, List.countP_append]
    by_cases him : i = m
    · subst him
      have : (List.range i).countP (fun j => decide (j < i)) = i := by
        have h := List.countP_eq_length (p := fun j => decide (j < i)) (l := List.range i) |>.2 (fun j hj => by simpa using hj)
        rw [h, List.length_range]
      rw [this]; simp
    · rw [ih (by omega)]
      have : ¬ m < i := by omega
      simp [this]
theorem evenParts (t : Int) (n i : Nat) (t0 : 0 ≤ t) (h : i < n) : (partsOf t (List.replicate n 1)).getD i 0 = t / n + if (i : Int) < t % n then 1 else 0 := by
  rw [partsOf_get _ _ _ (by rw [List.length_replicate]; exact h), restEven, rankEven n i _ h, getD_rep n i 1 h, sum_rep, Int.mul_one]
  have hl : Print.leftOf t (List.replicate n 1) = t % n := by
    unfold Print.leftOf
    have : baseL t (List.replicate n (1 : Int)).sum (List.replicate n 1) = List.replicate n (t / n) := by rw [sum_rep]; simp [baseL]
    rw [this, sum_repx]
    have := Int.mul_ediv_add_emod t n
    omega
  rw [hl]

theorem even_loop (t : Int) (n : Nat) (t0 : 0 ≤ t) (t1 : t ≤ 1099511627776) (hn : 0 < n) (hn2 : n ≤ 4096) : ∀ (d i : Nat), i + d = n →
    Ev (fun k => supercargolaw04_ShareEven.l0 k t n (partsOf t (List.replicate n 1)) (n : Int) (i : Int)) true
  | 0, i, h => by
    refine Ev.step (fun k => by rw [supercargolaw04_ShareEven.l0]) ?_
    exact Ev.neg (by omega) (Ev.now _)
  | d + 1, i, h => by
    have ih := even_loop t n t0 t1 hn hn2 d (i + 1) (by omega)
    have hlen : (partsOf t (List.replicate n 1)).length = n := by rw [partsOf_length, List.length_replicate]
    have hp := evenParts t n i t0 (by omega)
    have q0 := Int.ediv_nonneg t0 (show (0 : Int) ≤ n by omega)
    have q1 : t / n ≤ 1099511627776 := Int.le_trans (Int.ediv_le_self _ t0) t1
    refine Ev.step (fun k => by rw [supercargolaw04_ShareEven.l0]) ?_
    refine Ev.pos (by omega) (Ev.pos (by omega) (Ev.pos (by omega) (Ev.neg (by omega) ?_)))
    rw [Int.tmod_eq_emod_of_nonneg t0, Int.tdiv_eq_ediv_of_nonneg t0, rd_get, hp, w64 (t / n) (by omega) (by omega), w64 (t / n + 1) (by omega) (by omega), w64 ((i : Int) + 1) (by omega) (by omega)]
    refine Ev.both (fun e => ?_) (fun e => ?_)
    · exact Ev.pos (by rw [if_pos e]) ih
    · exact Ev.pos (by rw [if_neg e]; omega) ih

theorem even_err (t : Int) (n : Nat) (h0 : 0 < n) (h1 : n ≤ 4096) (t0 : 0 ≤ t) (t1 : t ≤ 1099511627776) : splitErr t (List.replicate n 1) = 0 := by
  unfold splitErr
  have e1 : (List.replicate n (1 : Int)).any (fun x => decide (x < 0)) = false := by rw [List.any_eq_false]; intro x hx; obtain ⟨_, rfl⟩ := List.mem_replicate.1 hx; simp
  have e2 : (List.replicate n (1 : Int)).any (fun x => decide (1099511627776 < x)) = false := by rw [List.any_eq_false]; intro x hx; obtain ⟨_, rfl⟩ := List.mem_replicate.1 hx; simp
  have e3 : (List.replicate n (1 : Int)).any (fun x => decide (0 < x)) = true := by rw [List.any_eq_true]; exact ⟨1, List.mem_replicate.2 ⟨by omega, rfl⟩, by simp⟩
  rw [e1, e2, e3, List.length_replicate, if_neg (by rintro ((h | h) | h); omega; omega; cases h), if_neg (by rintro ((h | h) | h); omega; cases h; omega), if_neg (by rintro ⟨_, h⟩; cases h)]
theorem ShareEven : supercargolaw04_ShareEven.Pure := by
  intro t n wt wn
  refine Ev.le (r := true) ?_
  unfold supercargolaw04_ShareEven.f
  refine Ev.bind awake04_ev (Ev.pos rfl ?_)
  refine Ev.step (fun k => by rw [supercargolaw04_ShareEven.j0]) ?_
  refine Ev.both (fun e => Ev.bind awake04_ev (Ev.now _)) (fun e => ?_)
  have hn : n ≤ 100 := by simp at e; omega
  have J : ∀ (l : List Int) (b : Bool), (b = true → l.length = 0) → (b = false → 0 < n ∧ 0 ≤ t ∧ t ≤ 1099511627776 ∧ l = partsOf t (List.replicate n.toNat 1)) →
      Ev (fun k => supercargolaw04_ShareEven.j1 k t n l b) true := by
    intro l b h1 h2
    refine Ev.step (fun k => by rw [supercargolaw04_ShareEven.j1]) ?_
    refine Ev.both (fun e => ?_) (fun e => ?_)
    · have : ((l.length : Int) == 0) = true := by rw [h1 e]; rfl
      rw [this]; exact Ev.now _
    · obtain ⟨n0, t0, t1, rfl⟩ := h2 (by simpa using e)
      obtain ⟨m, rfl⟩ := Int.eq_ofNat_of_zero_le (show 0 ≤ n by omega)
      rw [Int.toNat_natCast, partsOf_length, List.length_replicate]
      refine Ev.pos rfl ?_
      exact even_loop t m t0 t1 (by omega) (by omega) m 0 (by omega)
  have E : Ev (fun k => share_Even.f k t n) (if 0 < n ∧ 0 ≤ t ∧ t ≤ 1099511627776 then partsOf t (List.replicate n.toNat 1) else []) := by
    unfold share_Even.f
    refine Ev.both (fun h => ?_) (fun h => ?_)
    · refine Ev.step (fun k => by rw [share_Even.j0]) (Ev.pos rfl ?_)
      rw [if_neg (by omega)]; exact Ev.now _
    · refine Ev.step (fun k => by rw [share_Even.j0]) (Ev.neg (by simp; omega) ?_)
      obtain ⟨m, rfl⟩ := Int.eq_ofNat_of_zero_le (show 0 ≤ n by omega)
      refine Ev.call (r := List.replicate m 1) (by unfold slices_Repeat_int64_int64.f; rw [if_pos ⟨rfl, by omega, by omega⟩]; simp) ?_
      refine Ev.call (split_f t _ (by rw [List.length_replicate]; omega)) ?_
      rw [Int.toNat_natCast]
      by_cases hs : splitErr t (List.replicate m 1) = 0
      · obtain ⟨t0, t1, _⟩ := splitErr_facts t _ hs
        rw [if_pos hs]
        refine Ev.pos rfl ?_
        rw [if_pos ⟨by omega, t0, t1⟩]
        exact Ev.now _
      · rw [if_neg hs]
        refine Ev.neg hs ?_
        rw [if_neg]
        · exact Ev.now _
        · rintro ⟨_, t0, t1⟩
          exact hs (even_err t m (by omega) (by omega) t0 t1)
  refine Ev.bind E ?_
  refine Ev.both (fun h => J _ true (fun _ => by rw [if_neg (by omega)]; rfl) (by simp)) (fun h => ?_)
  refine Ev.both (fun h' => J _ true (fun _ => by rw [if_neg (by omega)]; rfl) (by simp)) (fun h' => ?_)
  refine J _ _ (fun e => ?_) (fun e => ?_)
  · simp at e; rw [if_neg (by omega)]; rfl
  · simp at e
    exact ⟨by omega, by omega, e, by rw [if_pos ⟨by omega, by omega, e⟩]⟩
end Go.Proofs.Ythbbfbhgcoffeaa.Pure
