/-
What is owed there and back, taken together: the example's two debts, walked.
-/
import Derived.Test.YtjkipjfcfcpcmaaHroad
import Derived.StillTailTactics
namespace Go.Proofs.Ytjkipjfcfcpcmaa.Print
open Go.RowKit Go.Maps Go.Proofs.YtjkipjfcfcpcmaaW.PrintWords Go.Proofs.YtjkipjfcfcpcmaaW.PrintLast Go.Proofs.YtjkipjfcfcpcmaaW.PrintMore

theorem setb_other (W : World) (M k : Nat) (o : Obj) (h : k ≠ M) : (ChangeMaps.setBlock W M o).heap[k]? = W.heap[k]? := by
  simp only [ChangeMaps.setBlock]
  exact Array.getElem?_setIfInBounds_ne (fun e => h e.symm)
theorem setb_below {w W : World} {M : Nat} (hb : Below w.heap.size w W) (hM : w.heap.size ≤ M) (o : Obj) : Below w.heap.size w (ChangeMaps.setBlock W M o) := by
  refine ⟨hb.os, hb.tape, hb.output, by have := hb.size; simpa [ChangeMaps.setBlock] using this, fun i hi => ?_⟩
  rw [setb_other W M i o (by omega)]
  exact hb.block i hi

/-- The debts' block, and the map under way. -/
structure Pmt (w W : World) (b M : Nat) (es : Array MapEntry) (n : Nat) : Prop where
  l : L2 w W b
  m : W.heap[M]? = some (.map es n)
  bM : w.heap.size ≤ M
theorem Pmt.below {w W W1 : World} {b M n : Nat} {es : Array MapEntry} (h : Pmt w W b M es n) (hb : Below W.heap.size W W1) : Pmt w W1 b M es n :=
  ⟨h.l.below hb, (hb.block M (Array.getElem?_eq_some_iff.1 h.m).1).trans h.m, h.bM⟩
theorem Pmt.set {w W : World} {b M n : Nat} {es : Array MapEntry} (h : Pmt w W b M es n) (es' : Array MapEntry) (n' : Nat) : Pmt w (ChangeMaps.setBlock W M (.map es' n')) b M es' n' :=
  ⟨⟨(setb_other W M b _ (fun e => by have := h.l.hL; rw [e, h.m] at this; cases this)).trans h.l.hL, setb_below h.l.hb h.bM _⟩, setb W M _ (Array.getElem?_eq_some_iff.1 h.m).1, h.bM⟩

/-- What a round reads. -/
structure Rs (W : World) (G M : Nat) (f t : ByteArray) (n : Int) : Prop where
  c0 : W.cell? ⟨G, 0, none⟩ = some (.string f)
  c1 : W.cell? ⟨G, 1, none⟩ = some (.string t)
  c2 : W.cell? ⟨G, 2, none⟩ = some (.string usd)
  c3 : W.cell? ⟨G, 3, none⟩ = some (.int .i64 n)
  lk : (Instr.lookup 77 (.map (some M)) (.agg #[.string usd, .string f, .string t]) false).run Try.prog W = .ok (.int .i64 0) W
theorem Rs.mk' {W : World} {G M : Nat} {f t : ByteArray} {n : Int} (hG : W.heap[G]? = some (.cells #[.string f, .string t, .string usd, .int .i64 n] 55 (0, 0)))
    (lk : (Instr.lookup 77 (.map (some M)) (.agg #[.string usd, .string f, .string t]) false).run Try.prog W = .ok (.int .i64 0) W) : Rs W G M f t n :=
  ⟨(blk_cell hG 0).trans rfl, (blk_cell hG 1).trans rfl, (blk_cell hG 2).trans rfl, (blk_cell hG 3).trans rfl, lk⟩

theorem MapKept_alloc {W : World} {b : Nat} {o' : Obj} (h : W.heap[b]? = some o') (o : Obj) : (W.alloc o).heap[b]? = some o' := by
  have hlt := (Array.getElem?_eq_some_iff.1 h).1
  show (W.heap.push o)[b]? = _
  rw [Array.getElem?_push, if_neg (by omega), h]
/-- A round: what is read, what is entered, what is stored. -/
theorem round_new {w W : World} {b M : Nat} {es : Array MapEntry} {clock : Nat} {f t : ByteArray} {n : Int} {kl : Lit} (h : Pmt w W b M es clock) (hkey : keyOf Try.prog 95 (.agg #[.string usd, .string f, .string t]) = some kl)
    (hks : ∀ e ∈ es.toList, (∃ l, keyOf Try.prog 95 e.key = some l) ∧ e.key ≠ .agg #[.string usd, .string f, .string t]) (hborn : ∀ e ∈ es.toList, e.born ≠ clock) (hw : w.heap.size ≤ W.heap.size) :
    Rs (W.alloc (.cells #[.string f, .string t, .string usd, .int .i64 n] 55)).drew W.heap.size M f t n ∧
    ∃ W2, (Instr.mapEntry 77 (.map (some M)) (.agg #[.string usd, .string f, .string t])).run Try.prog (W.alloc (.cells #[.string f, .string t, .string usd, .int .i64 n] 55)).drew = .ok (.tuple #[.int .i64 0, .int .i64 clock]) W2 ∧ Rs W2 W.heap.size M f t n ∧
    ∃ W3, (Instr.entryStore 77 (.map (some M)) (.int .i64 clock) (.int .i64 n)).run Try.prog W2 = .ok () W3 ∧ Pmt w W3 b M (es.push ⟨.agg #[.string usd, .string f, .string t], .int .i64 n, clock⟩) (clock + 1) := by
  have h1 : Pmt w (W.alloc (.cells #[.string f, .string t, .string usd, .int .i64 n] 55)).drew b M es clock := h.below (below_drew1 (below_alloc (Below.refl _ _) _))
  have hG : (W.alloc (.cells #[.string f, .string t, .string usd, .int .i64 n] 55)).drew.heap[W.heap.size]? = some (.cells #[.string f, .string t, .string usd, .int .i64 n] 55 (0, 0)) := blk_new W _
  have hne : W.heap.size ≠ M := fun e => by rw [e, h1.m] at hG; cases hG
  obtain ⟨l1, e1⟩ := road_new _ M es clock _ kl hkey h1.m hks
  have h2 := h1.set (es.push ⟨.agg #[.string usd, .string f, .string t], .int .i64 0, clock⟩) (clock + 1)
  have hG2 := (setb_other _ M W.heap.size (.map (es.push ⟨.agg #[.string usd, .string f, .string t], .int .i64 0, clock⟩) (clock + 1)) hne).trans hG
  refine ⟨Rs.mk' hG l1, _, e1, Rs.mk' hG2 (road_at _ M _ _ _ kl hkey h2.m (.int .i64 0) (fun e he => ?_) ⟨⟨.agg #[.string usd, .string f, .string t], .int .i64 0, clock⟩, by simp, rfl⟩), _, store_at _ M es _ (.int .i64 n) clock (clock + 1) _ h2.m hborn, h2.set _ _⟩
  simp only [Array.toList_push, List.mem_append, List.mem_singleton] at he
  rcases he with he | rfl
  · exact ⟨(hks e he).1, fun h => absurd h (hks e he).2⟩
  · exact ⟨⟨kl, hkey⟩, fun _ => rfl⟩

set_option maxHeartbeats 8000000 in
set_option maxRecDepth 100000 in
theorem paired_calls (w W : World) (b : Nat) (h : L2 w W b) : Calls Try.prog 38 #[.slice (some ⟨b, 0, none⟩) 2 2] W fun e w' => ∃ O, e = .returned (.map (some O)) ∧ one w' O ∧ w.heap.size ≤ O ∧ Below w.heap.size w w' := by
  have hmm := @run_makeMap Try.prog
  obtain ⟨l1, l2, RD⟩ := roads
  have HRD := Aside0.mk RD
  have HL := Aside0.mk h
  have HP := Aside0.mk (show Pmt w (W.alloc (.map #[] 0)) b W.heap.size #[] 0 from ⟨h.below (below_alloc (Below.refl _ _) _), by show (W.heap.push _)[_]? = _; rw [Array.getElem?_push, if_pos rfl], h.hb.size⟩)
  clear h RD
  obtain ⟨M, hM⟩ : ∃ M, M = W.heap.size := ⟨_, rfl⟩
  go_enter Try.func38, Try.ntmps38
  go_wp2
  rw [← hM] at HP ⊢
  have hz : W.heap.size ≤ (W.alloc (.map #[] 0)).heap.size := by simp
  have hwz : w.heap.size ≤ (W.alloc (.map #[] 0)).heap.size := Nat.le_trans HL.out.hb.size hz
  generalize W.alloc (.map #[] 0) = W0 at HP hwz ⊢
  clear hM HL hz
  refine wp_loop_rounds 3 ?_
  rw [rounds_succ]
  obtain ⟨⟨c0, c1, c2, c3⟩, c4, c5, c6, c7⟩ := HP.out.l.at_
  obtain ⟨s1, W2, e1, g1, W3, t1, p1⟩ := round_new (n := 5) HP.out HRD.out.k1 (fun e he => by simp at he) (fun e he => by simp at he) hwz
  have HS1 := Aside0.mk s1
  have HE1 := Aside0.mk g1
  have HP3 := Aside0.mk p1
  clear s1 g1 p1
  obtain ⟨G1, hG1⟩ : ∃ G1, G1 = W0.heap.size := ⟨_, rfl⟩
  rw [← hG1] at HS1 HE1
  go_wp2
  rw [← hG1]
  clear hG1 c0 c1 c2 c3 c4 c5 c6 c7
  have q1 : wrap64 5 = 5 := by unfold wrap64; omega
  rw [show ((0 : Nat) : Int) = 0 from rfl] at e1 t1
  refine start_ (n := 15) (S := fun w' => w'.cell? ⟨G1, 2, none⟩ = some (.string usd) ∧ w'.cell? ⟨G1, 0, none⟩ = some (.string ea) ∧ w'.cell? ⟨G1, 1, none⟩ = some (.string eb) ∧ (Instr.lookup 77 (.map (some M)) (.agg #[.string usd, .string ea, .string eb]) false).run Try.prog w' = .ok (.int .i64 0) w' ∧ w'.cell? ⟨G1, 3, none⟩ = some (.int .i64 5)) (ds := [14]) #[false, false, false, false, false, false, false, false, false, false, false, false, false, false, false] (by kernel_rfl) rfl rfl ⟨HS1.out.c2, HS1.out.c0, HS1.out.c1, HS1.out.lk, HS1.out.c3⟩ (fun hHeld => ?_)
  refine pure_ (i := 0) (N := some 16) (v := ?_) (a' := ?_) #[true, false, false, false, false, false, false, false, false, false, false, false, false, false, false] rfl rfl (by kernel_rfl) (fun _ _ _ h => h) (Or.inl ⟨by rfl, ?_⟩) ?_ ?_
  rotate_left
  · intro w'
    go_simp
    with_reducible rfl
  rotate_left
  · simp only [Act.put, List.setIfInBounds_toArray, List.set_cons_zero, List.set_cons_succ, i64_w, i32_w]
    rfl
  refine pure_ (i := 1) (N := some 17) (v := ?_) (a' := ?_) #[true, true, false, false, false, false, false, false, false, false, false, false, false, false, false] rfl rfl (by kernel_rfl) (fun _ _ _ h => h) (Or.inl ⟨by rfl, ?_⟩) ?_ ?_
  rotate_left
  · intro w'
    go_simp
    with_reducible rfl
  rotate_left
  · simp only [Act.put, List.setIfInBounds_toArray, List.set_cons_zero, List.set_cons_succ, i64_w, i32_w]
    rfl
  refine pure_ (i := 3) (N := some 19) (v := ?_) (a' := ?_) #[true, true, false, true, false, false, false, false, false, false, false, false, false, false, false] rfl rfl (by kernel_rfl) (fun _ _ _ h => h) (Or.inl ⟨by rfl, ?_⟩) ?_ ?_
  rotate_left
  · intro w'
    go_simp
    with_reducible rfl
  rotate_left
  · simp only [Act.put, List.setIfInBounds_toArray, List.set_cons_zero, List.set_cons_succ, i64_w, i32_w]
    rfl
  refine pure_ (i := 5) (N := some 21) (v := ?_) (a' := ?_) #[true, true, false, true, false, true, false, false, false, false, false, false, false, false, false] rfl rfl (by kernel_rfl) (fun _ _ _ h => h) (Or.inl ⟨by rfl, ?_⟩) ?_ ?_
  rotate_left
  · intro w'
    go_simp
    with_reducible rfl
  rotate_left
  · simp only [Act.put, List.setIfInBounds_toArray, List.set_cons_zero, List.set_cons_succ, i64_w, i32_w]
    rfl
  refine pure_ (i := 9) (N := some 25) (v := ?_) (a' := ?_) #[true, true, false, true, false, true, false, false, false, true, false, false, false, false, false] rfl rfl (by kernel_rfl) (fun _ _ _ h => h) (Or.inl ⟨by rfl, ?_⟩) ?_ ?_
  rotate_left
  · intro w'
    go_simp
    with_reducible rfl
  rotate_left
  · simp only [Act.put, List.setIfInBounds_toArray, List.set_cons_zero, List.set_cons_succ, i64_w, i32_w]
    rfl
  refine take_ (i := 2) (N := some 18) (v := ?_) (a' := ?_) #[true, true, true, true, false, true, false, false, false, true, false, false, false, false, false] rfl rfl (by kernel_rfl) (fun _ _ _ h => h) (Or.inl ⟨by rfl, ?_⟩) hHeld ?_ ?_
  rotate_left
  · rintro w' ⟨s0, s1, s2, s3, s4⟩
    go_simp
    with_reducible rfl
  rotate_left
  · simp only [Act.put, List.setIfInBounds_toArray, List.set_cons_zero, List.set_cons_succ, i64_w, i32_w]
    rfl
  refine take_ (i := 4) (N := some 20) (v := ?_) (a' := ?_) #[true, true, true, true, true, true, false, false, false, true, false, false, false, false, false] rfl rfl (by kernel_rfl) (fun _ _ _ h => h) (Or.inl ⟨by rfl, ?_⟩) hHeld ?_ ?_
  rotate_left
  · rintro w' ⟨s0, s1, s2, s3, s4⟩
    go_simp
    with_reducible rfl
  rotate_left
  · simp only [Act.put, List.setIfInBounds_toArray, List.set_cons_zero, List.set_cons_succ, i64_w, i32_w]
    rfl
  refine take_ (i := 6) (N := some 22) (v := ?_) (a' := ?_) #[true, true, true, true, true, true, true, false, false, true, false, false, false, false, false] rfl rfl (by kernel_rfl) (fun _ _ _ h => h) (Or.inl ⟨by rfl, ?_⟩) hHeld ?_ ?_
  rotate_left
  · rintro w' ⟨s0, s1, s2, s3, s4⟩
    go_simp
    with_reducible rfl
  rotate_left
  · simp only [Act.put, List.setIfInBounds_toArray, List.set_cons_zero, List.set_cons_succ, i64_w, i32_w]
    rfl
  refine pure_ (i := 7) (N := some 23) (v := ?_) (a' := ?_) #[true, true, true, true, true, true, true, true, false, true, false, false, false, false, false] rfl rfl (by kernel_rfl) (fun _ _ _ h => h) (Or.inl ⟨by rfl, ?_⟩) ?_ ?_
  rotate_left
  · intro w'
    go_simp
    with_reducible rfl
  rotate_left
  · simp only [Act.put, List.setIfInBounds_toArray, List.set_cons_zero, List.set_cons_succ, i64_w, i32_w]
    rfl
  refine take_ (i := 8) (N := some 24) (v := ?_) (a' := ?_) #[true, true, true, true, true, true, true, true, true, true, false, false, false, false, false] rfl rfl (by kernel_rfl) (fun _ _ _ h => h) (Or.inl ⟨by rfl, ?_⟩) hHeld ?_ ?_
  rotate_left
  · rintro w' ⟨s0, s1, s2, s3, s4⟩
    go_simp
    with_reducible rfl
  rotate_left
  · simp only [Act.put, List.setIfInBounds_toArray, List.set_cons_zero, List.set_cons_succ, i64_w, i32_w]
    rfl
  refine take_ (i := 10) (N := some 26) (v := ?_) (a' := ?_) #[true, true, true, true, true, true, true, true, true, true, true, false, false, false, false] rfl rfl (by kernel_rfl) (fun _ _ _ h => h) (Or.inl ⟨by rfl, ?_⟩) hHeld ?_ ?_
  rotate_left
  · rintro w' ⟨s0, s1, s2, s3, s4⟩
    go_simp
    with_reducible rfl
  rotate_left
  · simp only [Act.put, List.setIfInBounds_toArray, List.set_cons_zero, List.set_cons_succ, i64_w, i32_w]
    rfl
  refine pure_ (i := 11) (N := some 27) (v := ?_) (a' := ?_) #[true, true, true, true, true, true, true, true, true, true, true, true, false, false, false] rfl rfl (by kernel_rfl) (fun _ _ _ h => h) (Or.inl ⟨by rfl, ?_⟩) ?_ ?_
  rotate_left
  · intro w'
    go_simp
    with_reducible rfl
  rotate_left
  · simp only [Act.put, List.setIfInBounds_toArray, List.set_cons_zero, List.set_cons_succ, i64_w, i32_w]
    rfl
  refine one_ (i := 12) (N := some 28) #[true, true, true, true, true, true, true, true, true, true, true, true, true, false, false] rfl rfl (by kernel_rfl) (by decide) (fun K hK => ?_)
  refine value_ (w1 := ?_) (v := ?_) (by rfl) rfl ?_ ?_
  rotate_left 2
  · go_simp
    constructor
    · rfl
    · rfl
  refine hK.out _ _ ⟨HE1.out.c2, HE1.out.c0, HE1.out.c1, HE1.out.lk, HE1.out.c3⟩ (fun hHeld => ?_)
  clear hK K
  refine norm_ (a' := ?_) ?_ ?_
  rotate_left
  · show Act.put _ (some 28) _ = _
    simp only [Act.put, List.setIfInBounds_toArray, List.set_cons_zero, List.set_cons_succ, i64_w, i32_w]
    rfl
  refine pure_ (i := 13) (N := some 29) (v := ?_) (a' := ?_) #[true, true, true, true, true, true, true, true, true, true, true, true, true, true, false] rfl rfl (by kernel_rfl) (fun _ _ _ h => h) (Or.inl ⟨by rfl, ?_⟩) ?_ ?_
  rotate_left
  · intro w'
    go_simp
    with_reducible rfl
  rotate_left
  · simp only [Act.put, List.setIfInBounds_toArray, List.set_cons_zero, List.set_cons_succ, i64_w, i32_w]
    rfl
  refine last_ (i := 14) (N := none) #[true, true, true, true, true, true, true, true, true, true, true, true, true, true, true] rfl rfl (by kernel_rfl) (by decide) (fun K hK => ?_)
  refine skip_ (w1 := ?_) (by rfl) rfl ?_ ?_
  rotate_left
  · go_simp
    rfl
  refine hK.out _ _ ?_
  clear hK K
  refine done_ (by kernel_rfl) ?_

  clear q1 e1 t1
  go_wp2
  rw [rounds_succ]
  obtain ⟨⟨c0, c1, c2, c3⟩, c4, c5, c6, c7⟩ := HP3.out.l.at_
  obtain ⟨s2, W2, e2, g2, W5, t2, p2⟩ := round_new (n := 3) HP3.out HRD.out.k2 (fun e he => by simp at he; subst he; exact ⟨⟨l1, HRD.out.k1⟩, rk_ne⟩) (fun e he => by simp at he; subst he; simp) (Nat.le_trans HP3.out.l.hb.size (Nat.le_refl _))
  have HS2 := Aside0.mk s2
  have HE2 := Aside0.mk g2
  have HP5 := Aside0.mk p2
  clear s2 g2 p2
  obtain ⟨G2, hG2⟩ : ∃ G2, G2 = W3.heap.size := ⟨_, rfl⟩
  rw [← hG2] at HS2 HE2
  go_wp2
  rw [← hG2]
  clear hG2 c0 c1 c2 c3 c4 c5 c6 c7
  have q2 : wrap64 3 = 3 := by unfold wrap64; omega
  rw [show ((1 : Nat) : Int) = 1 from rfl] at e2 t2
  refine start_ (n := 15) (S := fun w' => w'.cell? ⟨G2, 2, none⟩ = some (.string usd) ∧ w'.cell? ⟨G2, 0, none⟩ = some (.string eb) ∧ w'.cell? ⟨G2, 1, none⟩ = some (.string ea) ∧ (Instr.lookup 77 (.map (some M)) (.agg #[.string usd, .string eb, .string ea]) false).run Try.prog w' = .ok (.int .i64 0) w' ∧ w'.cell? ⟨G2, 3, none⟩ = some (.int .i64 3)) (ds := [14]) #[false, false, false, false, false, false, false, false, false, false, false, false, false, false, false] (by kernel_rfl) rfl rfl ⟨HS2.out.c2, HS2.out.c0, HS2.out.c1, HS2.out.lk, HS2.out.c3⟩ (fun hHeld => ?_)
  refine pure_ (i := 0) (N := some 16) (v := ?_) (a' := ?_) #[true, false, false, false, false, false, false, false, false, false, false, false, false, false, false] rfl rfl (by kernel_rfl) (fun _ _ _ h => h) (Or.inl ⟨by rfl, ?_⟩) ?_ ?_
  rotate_left
  · intro w'
    go_simp
    with_reducible rfl
  rotate_left
  · simp only [Act.put, List.setIfInBounds_toArray, List.set_cons_zero, List.set_cons_succ, i64_w, i32_w]
    rfl
  refine pure_ (i := 1) (N := some 17) (v := ?_) (a' := ?_) #[true, true, false, false, false, false, false, false, false, false, false, false, false, false, false] rfl rfl (by kernel_rfl) (fun _ _ _ h => h) (Or.inl ⟨by rfl, ?_⟩) ?_ ?_
  rotate_left
  · intro w'
    go_simp
    with_reducible rfl
  rotate_left
  · simp only [Act.put, List.setIfInBounds_toArray, List.set_cons_zero, List.set_cons_succ, i64_w, i32_w]
    rfl
  refine pure_ (i := 3) (N := some 19) (v := ?_) (a' := ?_) #[true, true, false, true, false, false, false, false, false, false, false, false, false, false, false] rfl rfl (by kernel_rfl) (fun _ _ _ h => h) (Or.inl ⟨by rfl, ?_⟩) ?_ ?_
  rotate_left
  · intro w'
    go_simp
    with_reducible rfl
  rotate_left
  · simp only [Act.put, List.setIfInBounds_toArray, List.set_cons_zero, List.set_cons_succ, i64_w, i32_w]
    rfl
  refine pure_ (i := 5) (N := some 21) (v := ?_) (a' := ?_) #[true, true, false, true, false, true, false, false, false, false, false, false, false, false, false] rfl rfl (by kernel_rfl) (fun _ _ _ h => h) (Or.inl ⟨by rfl, ?_⟩) ?_ ?_
  rotate_left
  · intro w'
    go_simp
    with_reducible rfl
  rotate_left
  · simp only [Act.put, List.setIfInBounds_toArray, List.set_cons_zero, List.set_cons_succ, i64_w, i32_w]
    rfl
  refine pure_ (i := 9) (N := some 25) (v := ?_) (a' := ?_) #[true, true, false, true, false, true, false, false, false, true, false, false, false, false, false] rfl rfl (by kernel_rfl) (fun _ _ _ h => h) (Or.inl ⟨by rfl, ?_⟩) ?_ ?_
  rotate_left
  · intro w'
    go_simp
    with_reducible rfl
  rotate_left
  · simp only [Act.put, List.setIfInBounds_toArray, List.set_cons_zero, List.set_cons_succ, i64_w, i32_w]
    rfl
  refine take_ (i := 2) (N := some 18) (v := ?_) (a' := ?_) #[true, true, true, true, false, true, false, false, false, true, false, false, false, false, false] rfl rfl (by kernel_rfl) (fun _ _ _ h => h) (Or.inl ⟨by rfl, ?_⟩) hHeld ?_ ?_
  rotate_left
  · rintro w' ⟨s0, s1, s2, s3, s4⟩
    go_simp
    with_reducible rfl
  rotate_left
  · simp only [Act.put, List.setIfInBounds_toArray, List.set_cons_zero, List.set_cons_succ, i64_w, i32_w]
    rfl
  refine take_ (i := 4) (N := some 20) (v := ?_) (a' := ?_) #[true, true, true, true, true, true, false, false, false, true, false, false, false, false, false] rfl rfl (by kernel_rfl) (fun _ _ _ h => h) (Or.inl ⟨by rfl, ?_⟩) hHeld ?_ ?_
  rotate_left
  · rintro w' ⟨s0, s1, s2, s3, s4⟩
    go_simp
    with_reducible rfl
  rotate_left
  · simp only [Act.put, List.setIfInBounds_toArray, List.set_cons_zero, List.set_cons_succ, i64_w, i32_w]
    rfl
  refine take_ (i := 6) (N := some 22) (v := ?_) (a' := ?_) #[true, true, true, true, true, true, true, false, false, true, false, false, false, false, false] rfl rfl (by kernel_rfl) (fun _ _ _ h => h) (Or.inl ⟨by rfl, ?_⟩) hHeld ?_ ?_
  rotate_left
  · rintro w' ⟨s0, s1, s2, s3, s4⟩
    go_simp
    with_reducible rfl
  rotate_left
  · simp only [Act.put, List.setIfInBounds_toArray, List.set_cons_zero, List.set_cons_succ, i64_w, i32_w]
    rfl
  refine pure_ (i := 7) (N := some 23) (v := ?_) (a' := ?_) #[true, true, true, true, true, true, true, true, false, true, false, false, false, false, false] rfl rfl (by kernel_rfl) (fun _ _ _ h => h) (Or.inl ⟨by rfl, ?_⟩) ?_ ?_
  rotate_left
  · intro w'
    go_simp
    with_reducible rfl
  rotate_left
  · simp only [Act.put, List.setIfInBounds_toArray, List.set_cons_zero, List.set_cons_succ, i64_w, i32_w]
    rfl
  refine take_ (i := 8) (N := some 24) (v := ?_) (a' := ?_) #[true, true, true, true, true, true, true, true, true, true, false, false, false, false, false] rfl rfl (by kernel_rfl) (fun _ _ _ h => h) (Or.inl ⟨by rfl, ?_⟩) hHeld ?_ ?_
  rotate_left
  · rintro w' ⟨s0, s1, s2, s3, s4⟩
    go_simp
    with_reducible rfl
  rotate_left
  · simp only [Act.put, List.setIfInBounds_toArray, List.set_cons_zero, List.set_cons_succ, i64_w, i32_w]
    rfl
  refine take_ (i := 10) (N := some 26) (v := ?_) (a' := ?_) #[true, true, true, true, true, true, true, true, true, true, true, false, false, false, false] rfl rfl (by kernel_rfl) (fun _ _ _ h => h) (Or.inl ⟨by rfl, ?_⟩) hHeld ?_ ?_
  rotate_left
  · rintro w' ⟨s0, s1, s2, s3, s4⟩
    go_simp
    with_reducible rfl
  rotate_left
  · simp only [Act.put, List.setIfInBounds_toArray, List.set_cons_zero, List.set_cons_succ, i64_w, i32_w]
    rfl
  refine pure_ (i := 11) (N := some 27) (v := ?_) (a' := ?_) #[true, true, true, true, true, true, true, true, true, true, true, true, false, false, false] rfl rfl (by kernel_rfl) (fun _ _ _ h => h) (Or.inl ⟨by rfl, ?_⟩) ?_ ?_
  rotate_left
  · intro w'
    go_simp
    with_reducible rfl
  rotate_left
  · simp only [Act.put, List.setIfInBounds_toArray, List.set_cons_zero, List.set_cons_succ, i64_w, i32_w]
    rfl
  refine one_ (i := 12) (N := some 28) #[true, true, true, true, true, true, true, true, true, true, true, true, true, false, false] rfl rfl (by kernel_rfl) (by decide) (fun K hK => ?_)
  refine value_ (w1 := ?_) (v := ?_) (by rfl) rfl ?_ ?_
  rotate_left 2
  · go_simp
    constructor
    · rfl
    · rfl
  refine hK.out _ _ ⟨HE2.out.c2, HE2.out.c0, HE2.out.c1, HE2.out.lk, HE2.out.c3⟩ (fun hHeld => ?_)
  clear hK K
  refine norm_ (a' := ?_) ?_ ?_
  rotate_left
  · show Act.put _ (some 28) _ = _
    simp only [Act.put, List.setIfInBounds_toArray, List.set_cons_zero, List.set_cons_succ, i64_w, i32_w]
    rfl
  refine pure_ (i := 13) (N := some 29) (v := ?_) (a' := ?_) #[true, true, true, true, true, true, true, true, true, true, true, true, true, true, false] rfl rfl (by kernel_rfl) (fun _ _ _ h => h) (Or.inl ⟨by rfl, ?_⟩) ?_ ?_
  rotate_left
  · intro w'
    go_simp
    with_reducible rfl
  rotate_left
  · simp only [Act.put, List.setIfInBounds_toArray, List.set_cons_zero, List.set_cons_succ, i64_w, i32_w]
    rfl
  refine last_ (i := 14) (N := none) #[true, true, true, true, true, true, true, true, true, true, true, true, true, true, true] rfl rfl (by kernel_rfl) (by decide) (fun K hK => ?_)
  refine skip_ (w1 := ?_) (by rfl) rfl ?_ ?_
  rotate_left
  · go_simp
    rfl
  refine hK.out _ _ ?_
  clear hK K
  refine done_ (by kernel_rfl) ?_

  clear q2 e2 t2
  go_wp2
  rw [rounds_succ]
  have HTW := Aside0.mk (show two (W5.alloc (.map #[] 0)) M from MapKept_alloc HP5.out.m _)
  have HBW := Aside0.mk (show w.heap.size ≤ W5.heap.size from HP5.out.l.hb.size)
  have HB5 := Aside0.mk (below_alloc HP5.out.l.hb (.map #[] 0))
  have HO5 := Aside0.mk (show (W5.alloc (.map #[] 0)).heap[W5.heap.size]? = some (.map #[] 0) by show (W5.heap.push _)[_]? = _; rw [Array.getElem?_push, if_pos rfl])
  obtain ⟨D, hD, hTD⟩ := two_owns HRD.out HTW.out
  have HTD := Aside0.mk hTD
  have HDD := Aside0.mk hD
  have HMO := Aside0.mk (show M ≠ W5.heap.size from Nat.ne_of_lt (Array.getElem?_eq_some_iff.1 HP5.out.m).1)
  have HMS := Aside0.mk (show M < (W5.alloc (.map #[] 0)).heap.size from (Array.getElem?_eq_some_iff.1 HTW.out).1)
  have HZS := Aside0.mk (show W5.heap.size + 1 = (W5.alloc (.map #[] 0)).heap.size by simp)
  clear hD hTD HP HP3 HP5 HTW HS1 HS2 HE1 HE2
  go_wp2_with (at_range; refine wpList_range_own _ rfl _ 77 rfl 95 2 keyR Try.underlying77 _ M 2 D rfl HDD.out ?_; intro w0 hrg0 hg0 hs0)
  rw [← HZS.out] at hrg0
  have HRG := Aside0.mk hrg0
  have HB7 := Aside0.mk (show Below w.heap.size w w0 from HB5.out.trans (Below.mono ⟨hg0.os, hg0.tape, hg0.output, hg0.size, fun i hi => hg0.block i hi (by simp)⟩ HB5.out.size))
  have HO7 := Aside0.mk (show w0.heap[W5.heap.size]? = some (.map #[] 0) from (hg0.block W5.heap.size (Array.getElem?_eq_some_iff.1 HO5.out).1 (by simp)).trans HO5.out)
  have HOR := Aside0.mk (show W5.heap.size < W5.heap.size + 1 from Nat.lt_succ_self _)
  rw [← HZS.out] at HMS
  have HBR := Aside0.mk (show w.heap.size ≤ W5.heap.size + 1 from Nat.le_succ_of_le HBW.out)
  clear hrg0 hg0 hs0 HO5 HDD HB5 HZS
  go_frame
  obtain ⟨O, hO⟩ : ∃ O, O = W5.heap.size := ⟨_, rfl⟩
  simp only [World.size_alloc]
  rw [← hO] at HBW HO7 HMO HOR HMS HBR HRG ⊢
  clear hO
  obtain ⟨r, hr⟩ : ∃ r, r = O + 1 := ⟨_, rfl⟩
  rw [← hr] at HRG HOR HMS HBR ⊢
  clear hr
  go_loopw [7, 8] (fun _ _ ws => ∃ (left : Lit → Bool) (cnt : Nat), Aside0 (ws.ranges Try.prog 95 (plainElem Try.prog 2) M r 2 D left cnt) ∧ Aside0 (∀ kl, left kl = true → kl = l1 ∨ kl = l2) ∧ Aside0 (if left l1 = true then ws.heap[O]? = some (.map #[] 0) else one ws O) ∧ Aside0 (Below w.heap.size w ws)) (fun _ _ ws => ws.rangeLeft M r)
  case atStart => exact ⟨_, _, HRG, ⟨HTD.out.ks⟩, ⟨by rw [if_pos HTD.out.h1]; exact HO7.out⟩, HB7⟩
  case round =>
    clear HRG HO7 HB7
    obtain ⟨left, cnt, HRG, HLL, HO, HB⟩ := hrel
    go_wp2_with (at_next; refine wpList_next_road _ rfl _ rfl M r 2 D left cnt rfl HRG.out ?_ ?_)
    · intro hl
      have HO2 := Aside0.mk (show one wr O by have := HO.out; rwa [if_neg (by rw [hl l1]; simp)] at this)
      clear hl
      go_wp2
      go_ret
      exact ⟨O, rfl, HO2.out, HBW.out, HB.out⟩
    · intro x c kl w5 cnt' hx hlk hat hrg5 hlt5 hg5 hen
      have HRG5 := Aside0.mk hrg5
      have HB5 := Aside0.mk (show Below w.heap.size w w5 from HB.out.grown hg5 HB.out.size (fun j hj => by cases hj; exact HBR.out))
      have hO5 : w5.heap[O]? = wr.heap[O]? := by
        refine hg5.block O ?_ (fun e => by have := HOR.out; injection e with e; omega)
        have h := HO.out
        split at h
        · exact (Array.getElem?_eq_some_iff.1 h).1
        · exact (Array.getElem?_eq_some_iff.1 h).1
      have HO5 := Aside0.mk (show if left l1 = true then w5.heap[O]? = some (.map #[] 0) else one w5 O by
        have h := HO.out
        unfold one at h ⊢
        rw [hO5]
        exact h)
      have HGO := Aside0.mk (show w5.heap.size < w5.heap.size + 1 from Nat.lt_succ_self _)
      have HOS := Aside0.mk (show O < w5.heap.size from by
        have h := HO5.out
        split at h
        · exact (Array.getElem?_eq_some_iff.1 h).1
        · exact (Array.getElem?_eq_some_iff.1 h).1)
      have HLEFT := Aside0.mk (show wr.rangeLeft M r = cnt from HRG.out.left_eq)
      have HLT := Aside0.mk hlt5
      have HAT := Aside0.mk hat
      have HLK := Aside0.mk hlk
      have HX := Aside0.mk hx
      clear hrg5 hlt5 hg5 hO5 HRG HO HB hat hlk hx
      rcases HLL.out kl HLK.out with ekl | ekl
      · have hkx : x = rk1 := lawR.inj (ekl ▸ HX.out) HRD.out.k1
        have hc : c = 5 := by
          have h := HTD.out.a1 (.lit (.int .i64 0))
          rw [← ekl, HAT.out] at h
          injection h with h
          injection h
        have HEK := Aside0.mk ekl
        clear ekl HAT HX
        subst hc
        subst hkx
        unfold rk1 at hen
        have ho1 : (w5.alloc (.cells #[.string usd, .string ea, .string eb] 95)).heap[O]? = some (.map #[] 0) := MapKept_alloc (by have h := HO5.out; rwa [if_pos (by rw [← HEK.out]; exact HLK.out)] at h) _
        have HRG7 := Aside0.mk (HRG5.out.alloc (.cells #[.string usd, .string ea, .string eb] 95))
        have HB7 := Aside0.mk (below_alloc HB5.out (.cells #[.string usd, .string ea, .string eb] 95))
        obtain ⟨c2, hlk2, hat2, _⟩ := HRG7.out.owns.lookup_int keyR Try.underlying77 Try.underlying2 (by kernel_rfl) HRD.out.k2
        have hc2 : c2 = 3 := by
          rw [HTD.out.a2] at hat2
          injection hat2 with h
          injection h with _ h
          exact h.symm
        subst hc2
        unfold rk2 at hlk2
        have hupd := road_upd _ O #[] 0 rk1 (.int .i64 2) l1 HRD.out.k1 ho1 (fun e he => by simp at he)
        unfold rk1 at hupd
        have HNW := Aside0.mk (show (ChangeMaps.setBlock (w5.alloc (.cells #[.string usd, .string ea, .string eb] 95)) O (.map (#[].push ⟨.agg #[.string usd, .string ea, .string eb], .int .i64 2, 0⟩) 1)).heap[O]? = _ from setb _ O _ (Array.getElem?_eq_some_iff.1 ho1).1)
        have HB8 := Aside0.mk (setb_below HB7.out HBW.out (.map (#[].push ⟨.agg #[.string usd, .string ea, .string eb], .int .i64 2, 0⟩) 1))
        have HRG8 := Aside0.mk (HRG7.out.kept (w' := ChangeMaps.setBlock (w5.alloc (.cells #[.string usd, .string ea, .string eb] 95)) O (.map (#[].push ⟨.agg #[.string usd, .string ea, .string eb], .int .i64 2, 0⟩) 1)) (row := some O) ⟨rfl, rfl, rfl, by simp [ChangeMaps.setBlock], fun i _ hi => setb_other _ O i _ (fun e => hi (by rw [e]))⟩ (fun e => HMO.out (by injection e)) (fun e => by have := HOR.out; injection e with e; omega))
        clear hat2 ho1 HRG7 HB7 HRG5 HB5 HO5
        have q2 : wrap64 (5 - 3) = 2 := by unfold wrap64; omega
        go_wp2
        go_roundw
        case rel => exact ⟨_, cnt', HRG8, ⟨fun k hk => HLL.out k (by simp at hk; exact hk.1)⟩, ⟨by rw [if_neg (by rw [HEK.out, same_self HRD.out.k1]; simp)]; exact HNW.out⟩, HB8⟩
        case measure => have h1 := HRG8.out.left_eq; have h2 := HLEFT.out; have h3 := HLT.out; exact (by rw [h2]; exact Nat.lt_of_le_of_lt (Nat.le_of_eq h1) h3)
      · have hkx : x = rk2 := lawR.inj (ekl ▸ HX.out) HRD.out.k2
        have hc : c = 3 := by
          have h := HTD.out.a2 (.lit (.int .i64 0))
          rw [← ekl, HAT.out] at h
          injection h with h
          injection h
        have HEK := Aside0.mk ekl
        clear ekl HAT HX
        subst hc
        subst hkx
        unfold rk2 at hen
        have HRG7 := Aside0.mk (HRG5.out.alloc (.cells #[.string usd, .string eb, .string ea] 95))
        have HB7 := Aside0.mk (below_alloc HB5.out (.cells #[.string usd, .string eb, .string ea] 95))
        obtain ⟨c2, hlk2, hat2, _⟩ := HRG7.out.owns.lookup_int keyR Try.underlying77 Try.underlying2 (by kernel_rfl) HRD.out.k1
        have hc2 : c2 = 5 := by
          rw [HTD.out.a1] at hat2
          injection hat2 with h
          injection h with _ h
          exact h.symm
        subst hc2
        unfold rk1 at hlk2
        have HO7 := Aside0.mk (show if left l1 = true then (w5.alloc (.cells #[.string usd, .string eb, .string ea] 95)).heap[O]? = some (.map #[] 0) else one (w5.alloc (.cells #[.string usd, .string eb, .string ea] 95)) O by
          have h := HO5.out
          have e : (w5.alloc (.cells #[.string usd, .string eb, .string ea] 95)).heap[O]? = w5.heap[O]? := by
            have := HOS.out
            show (w5.heap.push _)[_]? = _
            rw [Array.getElem?_push, if_neg (by omega)]
          unfold one at h ⊢
          rw [e]
          exact h)
        clear hat2 HRG5 HB5 HO5
        have q2 : wrap64 (3 - 5) = -2 := by unfold wrap64; omega
        go_wp2
        go_roundw
        case rel => exact ⟨_, cnt', HRG7, ⟨fun k hk => HLL.out k (by simp at hk; exact hk.1)⟩, ⟨by have h := HO7.out; rw [HEK.out, Maps.sameKey_ne HRD.out.ne]; simpa using h⟩, HB7⟩
        case measure => have h1 := HRG7.out.left_eq; have h2 := HLEFT.out; have h3 := HLT.out; exact (by rw [h2]; exact Nat.lt_of_le_of_lt (Nat.le_of_eq h1) h3)
end Go.Proofs.Ytjkipjfcfcpcmaa.Print
