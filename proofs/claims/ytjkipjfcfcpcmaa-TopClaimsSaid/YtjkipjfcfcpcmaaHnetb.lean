/-
The netting's debts: may all of them be.
-/
import Derived.Test.YtjkipjfcfcpcmaaHneta
import Derived.Deep.LoopGhost
namespace Go.Proofs.Ytjkipjfcfcpcmaa.Print
open Go.RowKit Go.Proofs.YtjkipjfcfcpcmaaW.PrintWords Go.Proofs.YtjkipjfcfcpcmaaW.PrintLast Go.Proofs.YtjkipjfcfcpcmaaW.PrintMore

def ea : ByteArray := ⟨#[97]⟩
def eb : ByteArray := ⟨#[98]⟩
/-- A debt of the example: from a to b, or back. -/
structure Dbt (f t : ByteArray) (n : Int) : Prop where
  f1 : nameB f = true
  t1 : nameB t = true
  ne : (f.toList != t.toList) = true
  sf : f.size = 1
  st : t.size = 1
  n0 : 1 ≤ n
  n1 : n ≤ 5
theorem dbt1 : Dbt ea eb 5 := ⟨by decide, by decide, by simp [ByteArray.toList_eq, ea, eb], rfl, rfl, by omega, by omega⟩
theorem dbt2 : Dbt eb ea 3 := ⟨by decide, by decide, by simp [ByteArray.toList_eq, ea, eb], rfl, rfl, by omega, by omega⟩

set_option maxHeartbeats 1000000 in
set_option maxRecDepth 100000 in
theorem dmay_calls (f t : ByteArray) (n : Int) (h : Dbt f t n) (w : World) : Calls Try.prog 57 #[.agg #[.string f, .string t, .string usd, .int .i64 n]] w fun e w' => e = .returned (.bool true) ∧ Below w.heap.size w w' := by
  have H := Aside0.mk h
  have hne := h.ne
  have hne2 : (f.toList == t.toList) = false := by simpa [bne] using hne
  have h0 := h.n0
  have HBK := Aside0.mk (blk_new w (.cells #[.string f, .string t, .string usd, .int .i64 n] 55 (0, 0)))
  have HB := Aside0.mk (below_alloc (Below.refl w.heap.size w) (.cells #[.string f, .string t, .string usd, .int .i64 n] 55))
  clear h
  go_enter Try.func57, Try.ntmps57
  go_wp2_with (first
    | (go_at_call 28; (with_reducible refine (name_calls f _ (by have := H.out.sf; omega)).mono ?_); rintro e w1 ⟨rfl, rfl⟩; rw [H.out.f1])
    | (go_at_call 28; (with_reducible refine (name_calls t _ (by have := H.out.st; omega)).mono ?_); rintro e w1 ⟨rfl, rfl⟩; rw [H.out.t1])
    | (go_at_call 70; refine (money_calls n H.out.n0 H.out.n1 _).mono ?_; rintro e w1 ⟨rfl, hb⟩; have HB2 := Aside0.mk (below_step HB.out hb); clear hb))
  go_ret
  exact ⟨rfl, HB2.out⟩
set_option maxRecDepth 100000 in
theorem odd1_calls (f t : ByteArray) (n : Int) (h : Dbt f t n) (w : World) : Calls Try.prog 56 #[.agg #[.string f, .string t, .string usd, .int .i64 n]] w fun e w' => e = .returned (.bool false) ∧ Below w.heap.size w w' := by
  have H := Aside0.mk h
  clear h
  go_enter Try.func56, Try.ntmps56
  go_wp2_with (go_at_call 57; refine (dmay_calls f t n H.out _).mono ?_; rintro e w1 ⟨rfl, hb⟩; have HB2 := Aside0.mk (below_step (below_alloc (Below.refl _ _) _) hb); clear hb)
  go_ret
  exact ⟨rfl, HB2.out⟩

/-- The two debts in their block. -/
def lit2 : Array Value := #[.string ea, .string eb, .string usd, .int .i64 5, .string eb, .string ea, .string usd, .int .i64 3]
structure L2 (w W : World) (b : Nat) : Prop where
  hL : W.heap[b]? = some (.cells lit2 55 (0, 0))
  hb : Below w.heap.size w W
theorem L2.below {w W W1 : World} {b : Nat} (h : L2 w W b) (hb : Below W.heap.size W W1) : L2 w W1 b := ⟨blk_below h.hL hb, below_step h.hb hb⟩
theorem L2.at_ {w W : World} {b : Nat} (h : L2 w W b) : (W.cell? ⟨b, 0, none⟩ = some (.string ea) ∧ W.cell? ⟨b, 1, none⟩ = some (.string eb) ∧ W.cell? ⟨b, 2, none⟩ = some (.string usd) ∧ W.cell? ⟨b, 3, none⟩ = some (.int .i64 5)) ∧
    W.cell? ⟨b, 4, none⟩ = some (.string eb) ∧ W.cell? ⟨b, 5, none⟩ = some (.string ea) ∧ W.cell? ⟨b, 6, none⟩ = some (.string usd) ∧ W.cell? ⟨b, 7, none⟩ = some (.int .i64 3) :=
  ⟨⟨(blk_cell h.hL 0).trans rfl, (blk_cell h.hL 1).trans rfl, (blk_cell h.hL 2).trans rfl, (blk_cell h.hL 3).trans rfl⟩, (blk_cell h.hL 4).trans rfl, (blk_cell h.hL 5).trans rfl, (blk_cell h.hL 6).trans rfl, (blk_cell h.hL 7).trans rfl⟩

set_option maxHeartbeats 2000000 in
set_option maxRecDepth 100000 in
theorem dindex_calls (w W : World) (b : Nat) (h : L2 w W b) : Calls Try.prog 69 #[.slice (some ⟨b, 0, none⟩) 2 2, .func (.func 56) #[] #[]] W fun e w' => e = .returned (.int .i64 (-1)) ∧ L2 w w' b := by
  have HL := Aside0.mk h
  obtain ⟨⟨c0, c1, c2, c3⟩, c4, c5, c6, c7⟩ := h.at_
  clear h
  go_enter Try.func69, Try.ntmps69
  go_wp2
  refine wp_loop_rounds 3 ?_
  rw [rounds_succ]
  go_wp2_with (go_at_call 56; refine (odd1_calls ea eb 5 dbt1 _).mono ?_; rintro e w1 ⟨rfl, hb⟩; have HL1 := Aside0.mk (HL.out.below hb); clear hb)
  clear c0 c1 c2 c3 c4 c5 c6 c7
  obtain ⟨_, c4, c5, c6, c7⟩ := HL1.out.at_
  rw [rounds_succ]
  go_wp2_with (go_at_call 56; refine (odd1_calls eb ea 3 dbt2 _).mono ?_; rintro e w2 ⟨rfl, hb⟩; have HL2 := Aside0.mk (HL1.out.below hb); clear hb)
  rw [rounds_succ]
  go_wp2
  go_ret
  exact ⟨rfl, HL2.out⟩
set_option maxRecDepth 100000 in
theorem dcontains_calls (w W : World) (b : Nat) (h : L2 w W b) : Calls Try.prog 55 #[.slice (some ⟨b, 0, none⟩) 2 2, .func (.func 56) #[] #[]] W fun e w' => e = .returned (.bool false) ∧ L2 w w' b := by
  have HL := Aside0.mk h
  clear h
  go_enter Try.func55, Try.ntmps55
  go_wp2_with (go_at_call 69; refine (dindex_calls w _ b HL.out).mono ?_; rintro e w1 ⟨rfl, hl⟩; have HL1 := Aside0.mk hl; clear hl)
  go_ret
  exact ⟨rfl, HL1.out⟩
set_option maxRecDepth 100000 in
theorem dall_calls (w W : World) (b : Nat) (h : L2 w W b) : Calls Try.prog 37 #[.slice (some ⟨b, 0, none⟩) 2 2] W fun e w' => e = .returned (.bool true) ∧ L2 w w' b := by
  have HL := Aside0.mk h
  clear h
  go_enter Try.func37, Try.ntmps37
  go_wp2_with (go_at_call 55; refine (dcontains_calls w _ b HL.out).mono ?_; rintro e w1 ⟨rfl, hl⟩; have HL1 := Aside0.mk hl; clear hl)
  go_ret
  exact ⟨rfl, HL1.out⟩
end Go.Proofs.Ytjkipjfcfcpcmaa.Print
