import Derived.Test.YthpedogppiemkaaHsa
import Derived.Test.YthpedogppiemkaaHsb
import Derived.Test.YthpedogppiemkaaHarr
import Derived.Test.YthpedogppiemkaaMsplit
import Derived.Test.YthpedogppiemkaaMdiv
import Derived.BigRegion
namespace Go.Proofs.Ythpedogppiemkaa.Print
open Go.RowKit Go.Proofs.YthpedogppiemkaaW.PrintWords Go.Proofs.YthpedogppiemkaaW.PrintLast Go.Proofs.YthpedogppiemkaaW.PrintMore

/-- The rows behind the loop's first k rounds. -/
def fillsTo (n k : Nat) (f : Nat → Int) (ps : List Int) : Prop := ps.length = n ∧ ∀ i, i < n → ps.getD i 0 = if i < k then f i else 0
theorem fillsTo_zero (n : Nat) (f : Nat → Int) : fillsTo n 0 f (List.replicate n 0) := ⟨by simp, fun i hi => by simp [List.getD_eq_getElem?_getD, hi]⟩
theorem fillsTo_succ {n k : Nat} {f : Nat → Int} {ps : List Int} (h : fillsTo n k f ps) (hk : k < n) {x : Int} (hx : x = f k) : fillsTo n (k + 1) f (ps.set k x) := by
  refine ⟨by simpa using h.1, fun i hi => ?_⟩
  have := h.2 i hi
  have hl := h.1
  by_cases e : i = k
  · subst e
    simp [List.getD_eq_getElem?_getD, hl, hi, hx]
  · have e' : k ≠ i := fun h => e h.symm
    rw [List.getD_eq_getElem?_getD, List.getElem?_set, if_neg e', ← List.getD_eq_getElem?_getD, this]
    by_cases h2 : i < k
    · rw [if_pos h2, if_pos (by omega)]
    · rw [if_neg h2, if_neg (by omega)]

def sumTo (l : List Int) (k : Nat) : Int := (l.take k).sum
theorem sumTo_succ (l : List Int) (k : Nat) (hk : k < l.length) : sumTo l (k + 1) = sumTo l k + l.getD k 0 := by
  unfold sumTo
  rw [List.take_succ_eq_append_getElem hk, List.sum_append]
  simp [List.getD_eq_getElem?_getD, hk]
theorem sumTo_bd (l : List Int) (M : Int) (hM : ∀ x ∈ l, 0 ≤ x ∧ x ≤ M) : ∀ k, k ≤ l.length → 0 ≤ sumTo l k ∧ sumTo l k ≤ M * k
  | 0, _ => by simp [sumTo]
  | k + 1, h => by
    have ih := sumTo_bd l M hM k (by omega)
    rw [sumTo_succ l k h]
    have := hM (l.getD k 0) (by simp [List.getD_eq_getElem?_getD, show k < l.length from h])
    have e : M * ((k + 1 : Nat) : Int) = M * k + M := by rw [Int.natCast_succ, Int.mul_add, Int.mul_one]
    omega

theorem sum_facts (l : List Int) (hl : ∀ x ∈ l, 0 ≤ x ∧ x ≤ 1099511627776) (hn : l.length ≤ 4096) (k : Nat) (hk : k < l.length) :
    (0 ≤ sumTo l k ∧ sumTo l k ≤ 4503599627370496) ∧ (0 ≤ l.getD k 0 ∧ l.getD k 0 ≤ 1099511627776) ∧ sumTo l (k + 1) = sumTo l k + l.getD k 0 :=
  ⟨by have := sumTo_bd l _ hl k (by omega); omega, hl _ (by simp [List.getD_eq_getElem?_getD, hk]), sumTo_succ l k hk⟩

/-- What stands behind the loop's first k rounds: the three rows, the variable that the comparison reads. -/
def SplitRel (W0 wr : World) (n k : Nat) (tn sn : Int) (l : List Int) : Prop := ∃ ps rs qs : List Int,
  Arr wr W0.heap.size 2 .i64 ps ∧ Arr wr (W0.heap.size + 1) 101 .u64 rs ∧ One wr (W0.heap.size + 1 + 1) 102 (.slice (some ⟨W0.heap.size + 1, 0, none⟩) n n) ∧ Arr wr (W0.heap.size + 1 + 1 + 1) 3 .i64 qs ∧
    fillsTo n k (fun j => tn * l.getD j 0 / sn) ps ∧ fillsTo n k (fun j => tn * l.getD j 0 % sn) rs ∧ fillsTo n k (fun j => (j : Int)) qs ∧ Below W0.heap.size W0 wr

theorem SplitRel.start (W0 : World) (n : Nat) (tn sn : Int) (l : List Int) :
    SplitRel W0 ((((W0.alloc (.cells (Array.replicate n (.int .i64 0)) 2)).alloc (.cells (Array.replicate n (.int .u64 0)) 101)).alloc (.cells #[.slice (some ⟨W0.heap.size + 1, 0, none⟩) n n] 102)).alloc (.cells (Array.replicate n (.int .i64 0)) 3)) n 0 tn sn l := by
  have e (k : IntKind) : Array.replicate n (Value.int k 0) = ((List.replicate n (0 : Int)).map (Value.int k)).toArray := by simp
  have z (w : World) (o : Obj) : (w.alloc o).heap.size = w.heap.size + 1 := by simp
  rw [e, e]
  refine ⟨List.replicate n 0, List.replicate n 0, List.replicate n 0, ?_, ?_, ?_, ?_, fillsTo_zero _ _, fillsTo_zero _ _, fillsTo_zero _ _, ?_⟩
  · exact (((Arr.new W0 2 .i64 (List.replicate n 0)).alloc _).alloc _).alloc _
  · have := ((Arr.new (W0.alloc (.cells ((List.replicate n (0 : Int)).map (Value.int .i64)).toArray 2)) 101 .u64 (List.replicate n 0)).alloc (.cells #[.slice (some ⟨W0.heap.size + 1, 0, none⟩) n n] 102)).alloc (.cells ((List.replicate n (0 : Int)).map (Value.int .i64)).toArray 3)
    rwa [z] at this
  · have := (One.new ((W0.alloc (.cells ((List.replicate n (0 : Int)).map (Value.int .i64)).toArray 2)).alloc (.cells ((List.replicate n (0 : Int)).map (Value.int .u64)).toArray 101)) 102 (.slice (some ⟨W0.heap.size + 1, 0, none⟩) n n)).alloc (.cells ((List.replicate n (0 : Int)).map (Value.int .i64)).toArray 3)
    rwa [z, z] at this
  · have := Arr.new (((W0.alloc (.cells ((List.replicate n (0 : Int)).map (Value.int .i64)).toArray 2)).alloc (.cells ((List.replicate n (0 : Int)).map (Value.int .u64)).toArray 101)).alloc (.cells #[.slice (some ⟨W0.heap.size + 1, 0, none⟩) n n] 102)) 3 .i64 (List.replicate n 0)
    rwa [z, z, z] at this
  · exact ((((Below.refl _ _).alloc (Nat.le_refl _) _).alloc (by simp) _).alloc (by simp; omega) _).alloc (by simp; omega) _

theorem SplitRel.step {W0 wr : World} {n k : Nat} {tn sn : Int} {l : List Int} (h : SplitRel W0 wr n k tn sn l) (hk : k < n) (m : Nat) {q r : Int} (hq : q = tn * l.getD k 0 / sn) (hr : r = tn * l.getD k 0 % sn) :
    SplitRel W0 ((((wr.drewN m).setCell ⟨W0.heap.size, k, none⟩ (.int .i64 q)).setCell ⟨W0.heap.size + 1, k, none⟩ (.int .u64 r)).setCell ⟨W0.heap.size + 1 + 1 + 1, k, none⟩ (.int .i64 k)) n (k + 1) tn sn l := by
  obtain ⟨ps, rs, qs, a0, a1, a2, a3, f0, f1, f2, hb⟩ := h
  refine ⟨_, _, _, ?_, ?_, ?_, ?_, fillsTo_succ f0 hk hq, fillsTo_succ f1 hk hr, fillsTo_succ f2 hk rfl, ?_⟩
  · exact (((a0.drewN m).set k q).other _ (by simp) _).other _ (by simp; omega) _
  · exact (((a1.drewN m).other _ (by simp) _).set k r).other _ (by simp) _
  · exact (((a2.drewN m).other _ (by simp; omega) _).other _ (by simp) _).other _ (by simp) _
  · exact (((a3.drewN m).other _ (by simp; omega) _).other _ (by simp; omega) _).set k k
  · exact (((pw_below_drewN hb m).setCell (by simp) _).setCell (by simp) _).setCell (by simp; omega) _

theorem List.le_sum_of_mem_int : ∀ (l : List Int), (∀ y ∈ l, 0 ≤ y) → ∀ x ∈ l, x ≤ l.sum
  | [], _, x, h => by cases h
  | y :: r, hp, x, h => by
    have hr : ∀ z ∈ r, 0 ≤ z := fun z hz => hp z (List.mem_cons_of_mem _ hz)
    have h0 : 0 ≤ r.sum := by
      clear h hp x
      induction r with
      | nil => simp
      | cons z q ih => have := hr z (by simp); have := ih (fun u hu => hr u (List.mem_cons_of_mem _ hu)); simp only [List.sum_cons]; omega
    have hy := hp y (by simp)
    rw [List.sum_cons]
    rcases List.mem_cons.1 h with rfl | h
    · omega
    · have := List.le_sum_of_mem_int r hr x h; omega

/-! ### the sort -/
section
open Go.Sort
theorem lt_cf (rs : List Int) (x y : Nat) : decide (orI (cmpI (rs.getD y 0) (rs.getD x 0)) (cmpI x y) < 0) = bef rs x y := by
  unfold orI cmpI bef
  generalize rs.getD y 0 = b
  generalize rs.getD x 0 = a
  by_cases h1 : b < a
  · simp [h1]
  · by_cases h2 : a < b
    · have : ¬ a = b := by omega
      simp [h1, h2, this]
    · obtain rfl : a = b := by omega
      by_cases h3 : x < y
      · have : (x : Int) < y := by omega
        simp [h3]
      · by_cases h4 : y < x
        · simp [h3, h4]
        · simp [h3, h4]

theorem fills_all {n : Nat} {f : Nat → Int} {ps : List Int} (h : fillsTo n n f ps) (i : Nat) (hi : i < n) : ps.getD i 0 = f i := by
  rw [h.2 i hi, if_pos hi]

theorem fills_eq {n : Nat} {f : Nat → Int} {ps qs : List Int} (h : fillsTo n n f ps) (hl : qs.length = n) (hq : ∀ i, i < n → qs.getD i 0 = f i) : ps = qs := by
  apply List.ext_getElem
  · rw [h.1, hl]
  · intro i h1 h2
    have a := fills_all h i (by rw [← h.1]; exact h1)
    have b := hq i (by rw [← hl]; exact h2)
    simp only [List.getD_eq_getElem?_getD, List.getElem?_eq_getElem h1, List.getElem?_eq_getElem h2, Option.getD_some] at a b
    rw [a, b]

set_option maxHeartbeats 2000000 in
theorem sort_calls (W0 wr : World) (m : Nat) (tn sn : Int) (l : List Int) (hl : l.length = m + 1) (hn : m + 1 ≤ 4096) (h : SplitRel W0 wr (m + 1) (m + 1) tn sn l) :
    Calls Try.prog 55 #[.slice (some ⟨W0.heap.size + 1 + 1 + 1, 0, none⟩) (m + 1) (m + 1), .func (.func 56) #[] #[.pointer (some ⟨W0.heap.size + 1 + 1, 0, none⟩)]] wr fun e w' =>
      e = .returned (.tuple #[]) ∧ Aside0 (∃ L : List Nat, L.Perm (List.range (m + 1)) ∧ L.Pairwise (fun a b => bef (restL tn sn l) a b = true) ∧
        (∀ j, j < m + 1 → w'.cell? ⟨W0.heap.size + 1 + 1 + 1, j, none⟩ = some (.int .i64 (L.getD j 0 : Nat))) ∧ Arr w' W0.heap.size 2 .i64 (baseL tn sn l) ∧ Below W0.heap.size W0 w') := by
  obtain ⟨ps, rs, qs, a0, a1, a2, a3, f0, f1, f2, hb⟩ := h
  have hps : ps = baseL tn sn l := fills_eq f0 (by simp [baseL, hl]) fun i hi => by simp [baseL, List.getD_eq_getElem?_getD, show i < l.length by omega]
  have hrs : rs = restL tn sn l := fills_eq f1 (by simp [restL, hl]) fun i hi => by simp [restL, List.getD_eq_getElem?_getD, show i < l.length by omega]
  have hrl : (restL tn sn l).length = m + 1 := by simp [restL, hl]
  subst hps hrs
  let enc : Fin (m + 1) → Value := fun i => .int .i64 (i.val : Int)
  let cf : Fin (m + 1) → Fin (m + 1) → Int := fun x y => orI (cmpI ((restL tn sn l).getD y.val 0) ((restL tn sn l).getD x.val 0)) (cmpI x.val y.val)
  have hlt : ∀ x y, ltOf cf x y = bef (restL tn sn l) x.val y.val := fun x y => lt_cf _ _ _
  have hO : SWO (ltOf cf) := {
    irrefl := fun x => by rw [hlt]; exact bef_irrefl _ _
    trans := fun x y z h1 h2 => by rw [hlt] at *; exact bef_trans _ h1 h2
    ntrans := fun x y z h1 h2 => by
      rw [hlt] at *
      have e1 : ¬ bef (restL tn sn l) x.val y.val = true := by rw [h1]; simp
      have e2 : ¬ bef (restL tn sn l) y.val z.val = true := by rw [h2]; simp
      have : ¬ bef (restL tn sn l) x.val z.val = true := by rw [bef_iff] at *; omega
      simpa using this }
  have hT : ∀ x y, ltOf cf x y = false → ltOf cf y x = false → x = y := fun x y h1 h2 => by
    rw [hlt] at h1 h2
    rcases Nat.decEq x.val y.val with hne | he
    · rcases bef_total (restL tn sn l) hne with h' | h'
      · rw [h1] at h'; cases h'
      · rw [h2] at h'; cases h'
    · exact Fin.ext he
  have hd : (Array.ofFn (fun i : Fin (m + 1) => i)).size = m + 1 := by simp
  have hH : Holds enc wr (W0.heap.size + 1 + 1 + 1) 0 (Array.ofFn (fun i : Fin (m + 1) => i)) := fun j hj => by
    rw [hd] at hj
    have c := a3.cell j (by rw [f2.1]; exact hj)
    rw [fills_all f2 j hj] at c
    rw [Nat.zero_add]
    refine ⟨?_, a3.frozen j⟩
    rw [c]
    have : (Array.ofFn (fun i : Fin (m + 1) => i))[j]! = ⟨j, hj⟩ := by rw [getElem!_pos _ _ (by simpa using hj)]; simp
    rw [this]
  have hcmp : CmpLays1 Try.prog 56 #[.pointer (some ⟨W0.heap.size + 1 + 1, 0, none⟩)] enc cf (W0.heap.size + 1 + 1 + 1) 0 (Array.ofFn (fun i : Fin (m + 1) => i)).size wr := fun q os dk hs x y => by
    have l1 := a1.lt
    have l2 := a2.lt
    have b2 := a2.of_heap (heap_sortWorld_other enc wr (W0.heap.size + 1 + 1 + 1) 0 q dk os _ (by omega) l2)
    have b1 := a1.of_heap (heap_sortWorld_other enc wr (W0.heap.size + 1 + 1 + 1) 0 q dk os _ (by omega) l1)
    have hx := x.isLt
    have hy := y.isLt
    have c2 := b2.cell
    have e : (((m + 1 : Nat) : Nat)) = (restL tn sn l).length := hrl.symm
    exact less_calls (restL tn sn l) (W0.heap.size + 1) (W0.heap.size + 1 + 1) (m + 1) (x.val : Int) (y.val : Int) _ (by rw [hrl]; exact c2) (fun i hi => b1.cell i hi) (by omega) (by rw [hrl]; omega) (by omega) (by rw [hrl]; omega)
  have hS := Try.slices_SortFunc_total enc (fun _ => rfl) cf hO 56 #[.pointer (some ⟨W0.heap.size + 1 + 1, 0, none⟩)] (W0.heap.size + 1 + 1 + 1) 0 (m + 1) (Array.ofFn (fun i : Fin (m + 1) => i)) wr
    (Go.Proofs.enters_of Try.func56 (by kernel_rfl) rfl) hcmp hH a3.lt (by rw [hd]; omega) hT
  rw [hd] at hS
  refine hS.mono ?_
  rintro e w' ⟨rfl, q, os, rfl⟩
  refine ⟨rfl, ⟨?_⟩⟩
  generalize hsd : ((Array.ofFn (fun i : Fin (m + 1) => i)).toList.mergeSort fun x y => !(ltOf cf) y x) = sd
  have hperm : sd.Perm (List.ofFn (fun i : Fin (m + 1) => i)) := by
    rw [← hsd]
    exact (List.mergeSort_perm _ _).trans (by simp)
  have hsl : sd.length = m + 1 := by rw [hperm.length_eq]; simp
  have hp2 : (sd.map Fin.val).Perm (List.range (m + 1)) := by
    refine (hperm.map Fin.val).trans ?_
    have : (List.ofFn (fun i : Fin (m + 1) => i)).map Fin.val = List.range (m + 1) := by
      apply List.ext_getElem
      · simp
      · intro i h1 h2; rw [List.getElem_map, List.getElem_ofFn, List.getElem_range]
    rw [this]
  have hpw : sd.Pairwise (fun a b => bef (restL tn sn l) a.val b.val = true) := by
    have h1 : sd.Pairwise (fun x y => (!(ltOf cf) y x) = true) := by
      rw [← hsd]
      refine List.pairwise_mergeSort (fun a b c h1 h2 => ?_) (fun a b => ?_) _
      · simp only [Bool.not_eq_true'] at *
        exact hO.ntrans c b a h2 h1
      · rcases Nat.decEq a.val b.val with hne | he
        · rcases bef_total (restL tn sn l) hne with h' | h'
          · have := bef_asymm _ h'; rw [← hlt] at this; simp [this]
          · have := bef_asymm _ h'; rw [← hlt] at this; simp [this]
        · have e : a = b := Fin.ext he
          subst e
          simp [hO.irrefl]
    have h2 : sd.Pairwise (fun a b => a.val ≠ b.val) := by
      have := hp2.nodup_iff.2 List.nodup_range
      rw [List.nodup_iff_pairwise_ne, List.pairwise_map] at this
      exact this
    refine (h1.and h2).imp fun {a b} ⟨h3, h4⟩ => ?_
    simp only [Bool.not_eq_true'] at h3
    rw [hlt] at h3
    rcases bef_total (restL tn sn l) h4 with h' | h'
    · exact h'
    · rw [h3] at h'; cases h'
  refine ⟨sd.map Fin.val, ?_, ?_, ?_, ?_, ?_⟩
  · exact hp2
  · rw [List.pairwise_map]; exact hpw
  · intro j hj
    have hh := holds_grow enc (putRow enc (Sort.ahead wr q) (W0.heap.size + 1 + 1 + 1) 0 sd.toArray) os (W0.heap.size + 1 + 1 + 1) 0 sd.toArray (by rw [size_putRow]; exact a3.lt)
      (holds_putRow enc (Sort.ahead wr q) (W0.heap.size + 1 + 1 + 1) 0 _ sd.toArray (holds_ahead enc wr q _ 0 _ hH) (by rw [hd]; simpa using hsl))
    have := (hh j (by simpa [hsl] using hj)).1
    rw [Nat.zero_add] at this
    refine this.trans ?_
    have e1 : sd.toArray[j]! = sd[j]'(by omega) := by rw [getElem!_pos _ _ (by simpa [hsl] using hj)]; simp
    rw [e1]
    simp [enc, List.getD_eq_getElem?_getD, show j < sd.length by omega]
  · exact a0.of_heap (heap_sortWorld_other enc wr (W0.heap.size + 1 + 1 + 1) 0 q _ os _ (by omega) a0.lt)
  · refine hb.trans ⟨rfl, rfl, rfl, ?_, fun k hk => ?_⟩
    · exact size_sortWorld enc wr (W0.heap.size + 1 + 1 + 1) 0 q _ os
    · exact heap_sortWorld_other enc wr (W0.heap.size + 1 + 1 + 1) 0 q _ os k (by omega) (by have := a0.lt; omega)
end

/-- What stands behind the last loop's first k rounds. -/
def IncRel (W0 w2 : World) (n k : Nat) (L : List Nat) (bs : List Int) : Prop := ∃ ps : List Int, Arr w2 W0.heap.size 2 .i64 ps ∧ ps.length = n ∧
  (∀ i, i < n → ps.getD i 0 = bs.getD i 0 + if i ∈ L.take k then 1 else 0) ∧ (∀ j, j < n → w2.cell? ⟨W0.heap.size + 1 + 1 + 1, j, none⟩ = some (.int .i64 (L.getD j 0 : Nat))) ∧ Below W0.heap.size W0 w2

theorem take_succ_nat (L : List Nat) (k : Nat) (hk : k < L.length) : L.take (k + 1) = L.take k ++ [L.getD k 0] := by
  rw [List.take_succ_eq_append_getElem hk]
  simp [List.getD_eq_getElem?_getD, hk]
theorem not_mem_take (L : List Nat) (hn : L.Nodup) (k : Nat) (hk : k < L.length) : L.getD k 0 ∉ L.take k := by
  intro h
  have := List.take_append_drop (k + 1) L
  rw [take_succ_nat L k hk] at this
  rw [← this] at hn
  rw [List.nodup_append] at hn
  have h1 := hn.1
  rw [List.nodup_append] at h1
  exact h1.2.2 _ h _ (by simp) rfl

theorem IncRel.step {W0 w2 : World} {n k : Nat} {L : List Nat} {bs : List Int} (h : IncRel W0 w2 n k L bs) (hL : L.Nodup) (hl : L.length = n) (hk : k < n) (hp : L.getD k 0 < n) {v : Int} (hv : v = bs.getD (L.getD k 0) 0) :
    IncRel W0 (w2.setCell ⟨W0.heap.size, L.getD k 0, none⟩ (.int .i64 (v + 1))) n (k + 1) L bs := by
  obtain ⟨ps, a0, l0, hps, hc, hb⟩ := h
  have hnm := not_mem_take L hL k (by omega)
  refine ⟨_, a0.set _ _, by simpa using l0, fun i hi => ?_, fun j hj => ?_, hb.setCell (Nat.le_refl _) _⟩
  · rw [take_succ_nat L k (by omega)]
    generalize L.getD k 0 = p at *
    by_cases e : i = p
    · subst e
      rw [if_pos (by simp), hv]
      simp [List.getD_eq_getElem?_getD, l0, hi]
    · have e' : p ≠ i := fun h => e h.symm
      rw [List.getD_eq_getElem?_getD, List.getElem?_set, if_neg e', ← List.getD_eq_getElem?_getD, hps i hi]
      have : (i ∈ L.take k ++ [p]) = (i ∈ L.take k) := by simp [e]
      simp only [this]
  · rw [World.cell?_setCell_other _ _ _ _ (by simp)]
    exact hc j hj

theorem parts_eq (tn : Int) (l : List Int) (ps : List Int) (L : List Nat) (lf : Nat) (hs : 0 < l.sum) (hl : ps.length = l.length) (hperm : L.Perm (List.range l.length))
    (hpw : L.Pairwise (fun a b => bef (restL tn l.sum l) a b = true)) (hlf : (lf : Int) = leftOf tn l) (hps : ∀ i, i < l.length → ps.getD i 0 = (baseL tn l.sum l).getD i 0 + if i ∈ L.take lf then 1 else 0) : ps = partsOf tn l := by
  have hrl : (restL tn l.sum l).length = l.length := by simp [restL]
  have hll : L.length = l.length := by rw [hperm.length_eq]; simp
  have hlt := (left_bd tn l hs).2
  have hnd : L.Nodup := hperm.nodup_iff.2 List.nodup_range
  apply List.ext_getElem
  · rw [hl, partsOf_length]
  · intro i h1 h2
    rw [partsOf_length] at h2
    have a := hps i h2
    have b := partsOf_get tn l i h2
    have hb : (baseL tn l.sum l).getD i 0 = tn * l.getD i 0 / l.sum := by simp [baseL, List.getD_eq_getElem?_getD, h2]
    have hm := mem_iff_rank (restL tn l.sum l) (L.take lf) (hnd.sublist (List.take_sublist _ _)) (fun p hp => by
        have := hperm.mem_iff.1 (List.mem_of_mem_take hp); rw [hrl]; simpa using this)
      (fun p hp q hq hqn => by
        have hq' : q ∈ L := hperm.mem_iff.2 (by rw [hrl] at hq; simpa using hq)
        rw [← List.take_append_drop lf L] at hq' hpw
        rw [List.pairwise_append] at hpw
        rcases List.mem_append.1 hq' with h | h
        · exact absurd h hqn
        · exact hpw.2.2 p hp q h) i (by rw [hrl]; exact h2)
    rw [List.length_take, Nat.min_eq_left (by omega)] at hm
    rw [hb] at a
    simp only [List.getD_eq_getElem?_getD, List.getElem?_eq_getElem h1, List.getElem?_eq_getElem (show i < (partsOf tn l).length by rw [partsOf_length]; exact h2), Option.getD_some] at a b
    rw [a, b]
    congr 1
    by_cases h : i ∈ L.take lf
    · rw [if_pos h, if_pos (by have := hm.1 h; omega)]
    · rw [if_neg h, if_neg (by intro h'; exact h (hm.2 (by omega)))]

theorem base_bd (t s : Int) (l : List Int) (h0 : 0 ≤ t) (hs : 0 < s) (hl : ∀ y ∈ l, 0 ≤ y ∧ y ≤ s) (ht : t ≤ 1099511627776) : ∀ x ∈ baseL t s l, 0 ≤ x ∧ x ≤ 1099511627776 := by
  intro x hx
  simp only [baseL, List.mem_map] at hx
  obtain ⟨y, hy, rfl⟩ := hx
  have h := hl y hy
  refine ⟨Int.ediv_nonneg (Int.mul_nonneg h0 h.1) (by omega), ?_⟩
  have : t * y / s ≤ t := by
    refine Int.le_trans (Int.ediv_le_ediv hs (Int.mul_le_mul_of_nonneg_left h.2 h0)) ?_
    rw [Int.mul_ediv_cancel _ (by omega)]
    exact Int.le_refl _
  omega

set_option maxHeartbeats 2000000 in
set_option maxRecDepth 100000 in
theorem split_main (t : Int) (A : Option Addr) (c : Nat) (l : List Int) (w : World) (hr : Kd.C (Kd.int .i64) w A l.length l) (he : splitErr t l = 0) (t1 : 0 < t) (t2 : t ≤ 1099511627776)
    (hn1 : 0 < l.length) (hn2 : l.length ≤ 4096) (hl : ∀ x ∈ l, 0 ≤ x ∧ x ≤ 1099511627776) (hs : 0 < l.sum) :
    Calls Try.prog 32 #[.int .i64 t, .slice A l.length c] w fun e w' => ∃ v0_ : Value, e = .returned (.tuple #[v0_, .int .i64 0]) ∧ Kd.R (Kd.int .i64) 2 w' w.heap.size (fun _ => True) v0_ (partsOf t l) ∧ Below w.heap.size w w' := by
  have hw := wrong_calls t A c l w hr (by omega)
  rw [he] at hw
  have m22 := run_make_int 25 2 .i64 8 Try.underlying25 (by kernel_rfl) l.length (by omega) (by omega)
  have m118 := run_make_int 102 101 .u64 8 Try.underlying102 (by kernel_rfl) l.length (by omega) (by omega)
  have m48 := run_make_int 30 3 .i64 8 Try.underlying30 (by kernel_rfl) l.length (by omega) (by omega)
  have hi2 := Try.underlying102
  have HR := Aside0.mk hr
  have HS := Aside0.mk hs
  clear hr hs he
  have HL := Aside0.mk hl
  clear hl
  obtain ⟨n, hn⟩ : ∃ n, n = l.length := ⟨_, rfl⟩
  rw [← hn] at m22 m118 m48 hn1 hn2 HR hw ⊢
  have HN := Aside0.mk hn
  clear hn
  have tne : (t == 0) = false := by simp; omega
  obtain ⟨tn, rfl⟩ := Int.eq_ofNat_of_zero_le (show 0 ≤ t by omega)
  go_enter Try.func32, Try.ntmps32
  go_wp2_with fail
  refine hw.mono ?_
  rintro e w' ⟨rfl, rfl⟩
  go_wp2_with fail
  go_loop [8, 36] (fun s i => ∃ k : Nat, k ≤ n ∧ s = .int .u64 (sumTo l k) ∧ i = .int .i64 k) (fun _ i => n - (intOf i).toNat)
  case atStart => exact ⟨0, Nat.zero_le _, by simp [sumTo], rfl⟩
  case round =>
    obtain ⟨k, hk, rfl, rfl⟩ := hrel
    by_cases hlt : k < n
    · have h0 : (0 : Int) ≤ (k : Int) := by omega
      have h1 : (k : Int) < (n : Int) := by omega
      obtain ⟨ad, rfl, hc⟩ := Kd.at_int HR.out k h0 h1
      have hc2 := ((Below.refl w'.heap.size w').alloc (Nat.le_refl _) (.cells (Array.replicate n (.int .i64 0)) 2)).cell (World.block_lt_of_cell? w' _ hc)
      rw [hc] at hc2
      clear hc
      obtain ⟨⟨s0, s1⟩, ⟨x0, x1⟩, hsucc⟩ := sum_facts l HL.out (by have := HN.out; omega) k (by have := HN.out; omega)
      have hrd : rd l k = l.getD k 0 := by simp [rd]
      rw [hrd] at hc2
      clear hrd
      have HSU := Aside0.mk hsucc
      clear hsucc
      simp only [Int.toNat_natCast] at hc2
      obtain ⟨S, hS⟩ : ∃ S, S = sumTo l k := ⟨_, rfl⟩
      obtain ⟨x, hx⟩ : ∃ x, x = l.getD k 0 := ⟨_, rfl⟩
      rw [← hS] at s0 s1 ⊢
      rw [← hx] at hc2 x0 x1
      have HX := Aside0.mk hx
      have HSS := Aside0.mk hS
      clear hx hS
      have hw : IntKind.u64.wrap x = x := by simp [IntKind.wrap, IntKind.bits, IntKind.signed]; omega
      have hw2 : IntKind.u64.wrap (S + x) = S + x := by simp [IntKind.wrap, IntKind.bits, IntKind.signed]; omega
      go_wp2
      go_round
      case rel => exact ⟨k + 1, by omega, by rw [HSU.out, ← HX.out, ← HSS.out], by go_num⟩
      case measure => simp [intOf]; omega
    · obtain rfl : n = k := by omega
      have hsum : sumTo l n = l.sum := by unfold sumTo; rw [List.take_of_length_le (by have := HN.out; omega)]
      rw [hsum]
      clear hsum
      go_wp2
      obtain ⟨sn, hsn⟩ := Int.eq_ofNat_of_zero_le (show 0 ≤ l.sum from by have := HS.out; omega)
      have sp : 0 < sn := by have := HS.out; omega
      have sb : sn ≤ 4611686018427387904 := by
        have h := sumTo_bd l _ HL.out l.length (Nat.le_refl _)
        have e : sumTo l l.length = l.sum := by unfold sumTo; rw [List.take_of_length_le (Nat.le_refl _)]
        have := HN.out
        omega
      rw [hsn]
      have HSN := Aside0.mk hsn
      clear hsn
      go_loopw [13, 54] (fun lf i wr => ∃ k : Nat, k ≤ n ∧ i = .int .i64 k ∧ lf = .int .i64 (tn - sumTo (baseL tn sn l) k) ∧
          Aside0 (SplitRel w' wr n k tn sn l))
        (fun _ i _ => n - (intOf i).toNat)
      case atStart =>
        exact ⟨0, Nat.zero_le _, rfl, by simp [sumTo], ⟨SplitRel.start _ _ _ _ _⟩⟩
      case round =>
        obtain ⟨k, hk, rfl, rfl, HREL⟩ := hrel
        obtain ⟨ps, rs, qs, a0, a1, a2, a3, f0, f1, f2, hb⟩ := HREL.out
        by_cases hlt : k < n
        · have h0 : (0 : Int) ≤ (k : Int) := by omega
          have h1 : (k : Int) < (n : Int) := by omega
          obtain ⟨ad, rfl, hc⟩ := Kd.at_int HR.out k h0 h1
          have hc2 := hb.cell (World.block_lt_of_cell? w' _ hc)
          rw [hc] at hc2
          clear hc
          obtain ⟨_, ⟨x0, x1⟩, _⟩ := sum_facts l HL.out (by have := HN.out; omega) k (by have := HN.out; omega)
          have hrd : rd l k = l.getD k 0 := by simp [rd]
          rw [hrd] at hc2
          clear hrd
          simp only [Int.toNat_natCast] at hc2
          obtain ⟨x, hx⟩ := Int.eq_ofNat_of_zero_le x0
          rw [hx] at hc2 x1
          have HX := Aside0.mk hx
          clear hx x0
          have g0 := a0.cell k (by rw [f0.1]; exact hlt)
          have g1 := a1.cell k (by rw [f1.1]; exact hlt)
          have g2 := a2.cell
          have g3 := a3.cell k (by rw [f2.1]; exact hlt)
          have z0 := a0.frozen k
          have z1 := a1.frozen k
          have z3 := a3.frozen k
          clear a0 a1 a2 a3 f0 f1 f2 hb
          have XS := Aside0.mk (show x ≤ sn from by
            have h := List.le_sum_of_mem_int l (fun y hy => (HL.out y hy).1) (l.getD k 0) (by have := HN.out; simp [List.getD_eq_getElem?_getD, show k < l.length by omega])
            have := HX.out; have := HSN.out; omega)
          have wt : IntKind.u64.wrap (tn : Int) = tn := by simp [IntKind.wrap, IntKind.bits, IntKind.signed]; omega
          have wx : IntKind.u64.wrap (x : Int) = x := by simp [IntKind.wrap, IntKind.bits, IntKind.signed]; omega
          go_wp2_with (first | (go_at_call 53; refine (Try.bits_Mul64 tn x (by omega) (by omega) _).mono ?_; rintro e w2 ⟨rfl, rfl⟩) | (go_at_call 54; refine (div64_calls tn x sn (by omega) XS.out sp sb _).mono ?_; rintro e w3 ⟨q, r, rfl, HQ, q1, ⟨m1, rfl⟩⟩))
          have wq : IntKind.i64.wrap (q : Int) = q := by rw [IntKind.wrap_i64]; omega
          go_region
          go_wp2
          obtain ⟨eq, er⟩ := HQ.out
          have hx := HX.out
          have hbl : (baseL tn sn l).length = l.length := by simp [baseL]
          have hkl : k < l.length := by have := HN.out; omega
          have hq : (q : Int) = tn * l.getD k 0 / sn := by rw [eq, hx]; simp
          have hrr : (r : Int) = tn * l.getD k 0 % sn := by rw [er, hx]; simp
          have hbase : sumTo (baseL tn sn l) (k + 1) = sumTo (baseL tn sn l) k + q := by
            rw [sumTo_succ _ _ (by rw [hbl]; exact hkl), hq]
            simp [baseL, List.getD_eq_getElem?_getD, hkl]
          have hbb := sumTo_bd (baseL tn sn l) 1099511627776 (base_bd tn sn l (by omega) (by omega) (fun y hy => ⟨(HL.out y hy).1, by have := List.le_sum_of_mem_int l (fun z hz => (HL.out z hz).1) y hy; have := HSN.out; omega⟩) (by omega)) k (by rw [hbl]; omega)
          go_roundw
          case rel =>
            refine ⟨k + 1, by omega, by go_num, ?_, ⟨?_⟩⟩
            · rw [hbase, IntWalk.wrap64_in _ (by have := HN.out; omega)]
              congr 1
              omega
            · exact HREL.out.step hlt (m1 + 1) hq hrr
          case measure => simp [intOf]; omega
        · obtain rfl : n = k := by omega
          obtain ⟨m, rfl⟩ : ∃ m, n = m + 1 := ⟨n - 1, by omega⟩
          have hbl : (baseL tn sn l).length = l.length := by simp [baseL]
          have hsum : sumTo (baseL tn sn l) (m + 1) = (baseL tn sn l).sum := by unfold sumTo; rw [List.take_of_length_le (by have := HN.out; omega)]
          have hsn := HSN.out
          have hlb := left_bd tn l (by omega)
          obtain ⟨lf, hlf⟩ := Int.eq_ofNat_of_zero_le hlb.1
          have hle : (tn : Int) - sumTo (baseL tn sn l) (m + 1) = lf := by rw [hsum, ← hsn]; exact hlf
          have hlt2 : (lf : Int) ≤ ((m + 1 : Nat) : Int) := by have := HN.out; omega
          rw [hle]
          have HLF := Aside0.mk hlf
          have hll : l.length = m + 1 := by have := HN.out; omega
          have hso := sort_calls w' wr m tn sn l hll hn2 HREL.out
          clear hle hlf hlb hsn hsum hbl hll HREL ps rs qs a0 a1 a2 a3 f0 f1 f2 hb
          go_wp2_with fail
          refine hso.mono ?_
          rintro e w3 ⟨rfl, HL3⟩
          obtain ⟨L, hperm, hpw, hcl, harr, hbel⟩ := HL3.out
          have hll : L.length = m + 1 := by rw [hperm.length_eq]; simp
          have hnd : L.Nodup := hperm.nodup_iff.2 List.nodup_range
          have hmem : ∀ k, k < m + 1 → L.getD k 0 < m + 1 := fun k hk => by
            have : L.getD k 0 ∈ L := by simp [List.getD_eq_getElem?_getD, show k < L.length by omega]
            simpa using hperm.mem_iff.1 this
          have HINC : Aside0 (IncRel w' w3 (m + 1) 0 L (baseL tn sn l)) := ⟨baseL tn sn l, harr, by have := HN.out; simp [baseL]; omega, fun i _ => by simp, hcl, hbel⟩
          have HPL := Aside0.mk (show _ ∧ _ ∧ _ ∧ _ ∧ _ from ⟨hperm, hpw, hll, hnd, hmem⟩)
          clear hso HL3 hperm hpw hcl harr hbel hll hnd hmem
          go_wp2_with fail
          go_loopw [101] (fun i w4 => ∃ k : Nat, k ≤ lf ∧ i = .int .i64 k ∧ Aside0 (IncRel w' w4 (m + 1) k L (baseL tn sn l))) (fun i _ => lf - (intOf i).toNat)
          case atStart => exact ⟨0, Nat.zero_le _, rfl, HINC⟩
          case round =>
            obtain ⟨k, hk, rfl, HI⟩ := hrel
            clear HINC
            obtain ⟨hperm, hpw, hll, hnd, hmem⟩ := HPL.out
            by_cases hlt : k < lf
            · have hp := hmem k (by omega)
              have HSTEP := Aside0.mk (fun v hv => HI.out.step hnd hll (by omega) hp (v := v) hv)
              obtain ⟨ps, a0, l0, hps, hc, hb⟩ := HI.out
              have hck := hc k (by omega)
              have hnm := not_mem_take L hnd k (by omega)
              have hv := hps _ hp
              rw [if_neg hnm, Int.add_zero] at hv
              have hbb := base_bd tn sn l (by omega) (by omega) (fun y hy => ⟨(HL.out y hy).1, by have := List.le_sum_of_mem_int l (fun z hz => (HL.out z hz).1) y hy; have := HSN.out; omega⟩) (by omega) ((baseL tn sn l).getD (L.getD k 0) 0) (by
                have : (baseL tn sn l).length = m + 1 := by have := HN.out; simp [baseL]; omega
                simp only [List.getD_eq_getElem?_getD] at hp ⊢
                rw [List.getElem?_eq_getElem (by omega)]
                simp)
              have hcp := a0.cell (L.getD k 0) (by omega)
              have hfp := a0.frozen (L.getD k 0)
              rw [hv] at hcp
              obtain ⟨p, hpe⟩ : ∃ p, p = L.getD k 0 := ⟨_, rfl⟩
              rw [← hpe] at hp hck hcp hfp hbb
              obtain ⟨v, hve⟩ : ∃ v, v = (baseL tn sn l).getD p 0 := ⟨_, rfl⟩
              rw [← hve] at hcp hbb
              have HE := Aside0.mk (show _ ∧ _ from ⟨hpe, hve⟩)
              have hkz : (k : Int) < (lf : Int) := by omega
              have hkm : (k : Int) < ((m + 1 : Nat) : Int) := by omega
              have hpz : (p : Int) < ((m + 1 : Nat) : Int) := by omega
              clear hperm hpw hll hnd hmem hps hc hb hv hnm a0 l0 hpe hve
              go_wp2
              go_roundw
              case rel => exact ⟨k + 1, by omega, by go_num, ⟨by
                have h := HSTEP.out v (by obtain ⟨h1, h2⟩ := HE.out; rw [h2, h1])
                rw [← HE.out.1] at h
                exact h⟩⟩
              case measure => simp [intOf]; omega
            · obtain rfl : k = lf := by omega
              clear hmem hnd hll hpw hperm
              go_wp2
              go_ret2
              obtain ⟨hperm, hpw, hll, hnd, hmem⟩ := HPL.out
              obtain ⟨ps, a0, l0, hps, hc, hb⟩ := HI.out
              have hsn := HSN.out
              have hlen : l.length = m + 1 := by have := HN.out; omega
              have hpe : ps = partsOf tn l := parts_eq tn l ps L k (by omega) (by omega) (by rw [hlen]; exact hperm) (by rw [hsn]; exact hpw) HLF.out.symm (by rw [hsn, hlen]; exact hps)
              refine ⟨_, rfl, ?_, hb⟩
              have h := a0.toR w'.heap.size (Nat.le_refl _) (by rw [l0]; unfold maxLen; omega)
              rw [l0, hpe] at h
              exact h

theorem splitErr_facts (t : Int) (l : List Int) (h : splitErr t l = 0) :
    0 ≤ t ∧ t ≤ 1099511627776 ∧ 0 < l.length ∧ l.length ≤ 4096 ∧ (∀ x ∈ l, 0 ≤ x ∧ x ≤ 1099511627776) ∧ (0 < t → 0 < l.sum) := by
  unfold splitErr at h
  split at h
  · cases h
  rename_i h1
  split at h
  · cases h
  rename_i h2
  split at h
  · cases h
  rename_i h3
  have n1 : ∀ x ∈ l, 0 ≤ x := fun x hx => by
    rcases Int.lt_or_le x 0 with h' | h'
    · exact absurd (.inr (List.any_eq_true.2 ⟨x, hx, by simpa using h'⟩)) h1
    · exact h'
  refine ⟨by omega, by omega, by omega, by omega, fun x hx => ⟨n1 x hx, ?_⟩, fun ht => ?_⟩
  · rcases Int.lt_or_le 1099511627776 x with h' | h'
    · exact absurd (.inl (.inr (List.any_eq_true.2 ⟨x, hx, by simpa using h'⟩))) h2
    · exact h'
  · rcases hb : l.any (fun x => decide (0 < x)) with _ | _
    · exact absurd ⟨ht, hb⟩ h3
    · obtain ⟨x, hx, hp⟩ := List.any_eq_true.1 hb
      have := List.le_sum_of_mem_int l n1 x hx
      have : 0 < x := by simpa using hp
      omega

theorem partsOf_zero (l : List Int) : partsOf 0 l = List.replicate l.length 0 := by
  have hb : ∀ s : Int, ∀ l : List Int, (baseL 0 s l) = List.replicate l.length 0 := fun s l => by
    induction l with
    | nil => rfl
    | cons x r ih => simp only [baseL, List.map_cons] at ih ⊢; rw [ih]; simp [List.replicate_succ]
  have hsum : ∀ n : Nat, (List.replicate n (0 : Int)).sum = 0 := fun n => by
    induction n with
    | zero => rfl
    | succ n ih => rw [List.replicate_succ, List.sum_cons, ih]; rfl
  have hl : leftOf 0 l = 0 := by unfold leftOf; rw [hb, hsum]; rfl
  unfold partsOf
  rw [hl, hb]
  apply List.ext_getElem
  · simp
  · intro i h1 h2
    simp only [List.length_map, List.length_range] at h1
    simp only [List.getElem_map, List.getElem_range, List.getElem_replicate, List.getD_eq_getElem?_getD]
    rw [if_neg (by omega)]
    simp [h1]

set_option maxHeartbeats 2000000 in
set_option maxRecDepth 100000 in
theorem split_zero (A : Option Addr) (c : Nat) (l : List Int) (w : World) (hr : Kd.C (Kd.int .i64) w A l.length l) (he : splitErr 0 l = 0) (hn2 : l.length ≤ 4096) :
    Calls Try.prog 32 #[.int .i64 0, .slice A l.length c] w fun e w' => ∃ v0_ : Value, e = .returned (.tuple #[v0_, .int .i64 0]) ∧ Kd.R (Kd.int .i64) 2 w' w.heap.size (fun _ => True) v0_ (List.replicate l.length 0) ∧ Below w.heap.size w w' := by
  have hw := wrong_calls 0 A c l w hr (by omega)
  rw [he] at hw
  have m22 := run_make_int 25 2 .i64 8 Try.underlying25 (by kernel_rfl) l.length (by omega) (by omega)
  clear he hr
  generalize l.length = n at *
  go_enter Try.func32, Try.ntmps32
  go_wp2_with fail
  refine hw.mono ?_
  rintro e w' ⟨rfl, rfl⟩
  go_wp2
  go_ret2
  have h := (Arr.new w' 2 .i64 (List.replicate n 0)).toR w'.heap.size (Nat.le_refl _) (by simp [maxLen]; omega)
  rw [List.length_replicate] at h
  refine ⟨_, rfl, ?_, (Below.refl _ _).alloc (Nat.le_refl _) _⟩
  have e : Array.replicate n (Value.int .i64 0) = ((List.replicate n (0 : Int)).map (Value.int .i64)).toArray := by simp
  rw [e]
  exact h

set_option maxHeartbeats 2000000 in
set_option maxRecDepth 100000 in
theorem split_err (t E : Int) (A : Option Addr) (c : Nat) (l : List Int) (w : World) (hr : Kd.C (Kd.int .i64) w A l.length l) (he : splitErr t l = E) (hE : E ≠ 0) (hn2 : l.length ≤ 4611686018427387904) :
    Calls Try.prog 32 #[.int .i64 t, .slice A l.length c] w fun e w' => e = .returned (.tuple #[.slice none 0 0, .int .i64 E]) ∧ w = w' := by
  have hw := wrong_calls t A c l w hr hn2
  rw [he] at hw
  have hE' : (E != 0) = true := by simpa using hE
  clear he hr
  generalize l.length = n at *
  go_enter Try.func32, Try.ntmps32
  go_wp2_with fail
  refine hw.mono ?_
  rintro e w' ⟨rfl, rfl⟩
  go_wp2
  go_ret2
  exact ⟨rfl, rfl⟩

/-- **share.Split: the parts, or what is wrong.** -/
theorem split_calls (t : Int) (A : Option Addr) (c : Nat) (l : List Int) (r1 : List Int) (r2 : Int) (w : World) (hr : Kd.C (Kd.int .i64) w A l.length l) (hn : l.length ≤ 4611686018427387904)
    (h : (if splitErr t l = 0 then (partsOf t l, (0 : Int)) else ([], splitErr t l)) = (r1, r2)) :
    Calls Try.prog 32 #[.int .i64 t, .slice A l.length c] w fun e w' => ∃ v0_ : Value, e = .returned (.tuple #[v0_, .int .i64 r2]) ∧ Kd.R (Kd.int .i64) 2 w' w.heap.size (fun _ => True) v0_ r1 ∧ Below w.heap.size w w' := by
  by_cases he : splitErr t l = 0
  · rw [if_pos he, Prod.mk.injEq] at h
    obtain ⟨rfl, rfl⟩ := h
    obtain ⟨t0, t1, n0, n1, hl, hs⟩ := splitErr_facts t l he
    by_cases ht : t = 0
    · subst ht
      rw [partsOf_zero]
      exact split_zero A c l w hr he n1
    · exact split_main t A c l w hr he (by omega) t1 n0 n1 hl (hs (by omega))
  · rw [if_neg he, Prod.mk.injEq] at h
    obtain ⟨rfl, rfl⟩ := h
    refine (split_err t _ A c l w hr rfl he hn).mono ?_
    rintro e w' ⟨rfl, rfl⟩
    exact ⟨_, rfl, Kd.R_nil _ _ _ _ _, Below.refl _ _⟩
end Go.Proofs.Ythpedogppiemkaa.Print
