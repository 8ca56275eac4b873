/-
Layer 44: the examples of its document hold.
-/
import Derived.Test.YthpedogppiemkaaHpol
import Derived.Test.YthpedogppiemkaaHclaim
import Derived.Test.YthpedogppiemkaaHrec
import Derived.Test.YthpedogppiemkaaPrint10
namespace Go.Proofs.Ythpedogppiemkaa.Print
open Go.RowKit Go.Proofs.YthpedogppiemkaaW.PrintWords Go.Proofs.YthpedogppiemkaaW.PrintLast Go.Proofs.YthpedogppiemkaaW.PrintMore

def polS (nm : ByteArray) (s : Int) : S32 := ⟨nm, ⟨#[102]⟩, ⟨#[116]⟩, s, 0, [], 0, 9, 1000⟩
set_option maxRecDepth 100000 in
theorem pol_calls (nm : ByteArray) (s : Int) (w : World) :
    Calls Try.prog 25 #[.string nm, .int .i64 s] w fun e w' =>
      e = .returned (.agg #[.string nm, .string ⟨#[102]⟩, .string ⟨#[116]⟩, .int .i64 s, .int .i64 0, .slice none 0 0, .int .i64 0, .int .i64 9, .int .i64 1000]) ∧ Below w.heap.size w w' := by
  have hu3 := Try.underlying32
  go_enter Try.func25, Try.ntmps25
  go_wp2
  refine bodyPost_ret (results_cell_row rfl _ _ w.heap.size 32 #[.string nm, .string ⟨#[102]⟩, .string ⟨#[116]⟩, .int .i64 s, .int .i64 0, .slice none 0 0, .int .i64 0, .int .i64 9, .int .i64 1000] (0, 0) _ rfl (blk_new w _) Try.underlying32 rfl (by kernel_rfl)) rfl ?_
  exact ⟨rfl, below_alloc (Below.refl _ _) _⟩
theorem may_a : mayK 200 (polS ⟨#[97]⟩ 60) = some true := by decide +kernel
theorem may_b : mayK 200 (polS ⟨#[98]⟩ 30) = some true := by decide +kernel
theorem pays_a : policy_Pays.f 200 ⟨#[97]⟩ ⟨#[102]⟩ ⟨#[116]⟩ 60 0 [] 0 9 1000 100 100 = some (60, true) := by decide +kernel
theorem claim_a : claimF 200 100 100 [] 0 ⟨#[97]⟩ (polS ⟨#[97]⟩ 60) = some ([⟨⟨#[97]⟩, 60, 0⟩], 60, 0) := by kernel_rfl
theorem rec_a : recF 100 [⟨⟨#[97]⟩, 60, 0⟩] 0 80 = ([⟨⟨#[97]⟩, 60, 60⟩], 20, [⟨⟨#[97]⟩, ⟨#[]⟩, 60⟩, ⟨⟨#[]⟩, ⟨#[]⟩, 20⟩], 0) := by kernel_rfl
theorem share_a (p : S32 → Bool) (h1 : p (polS ⟨#[97]⟩ 60) = true) (h2 : p (polS ⟨#[98]⟩ 30) = true) : shareP p 45 [polS ⟨#[97]⟩ 60, polS ⟨#[98]⟩ 30] = some ([30, 15], 0) := by
  unfold shareP
  simp only [List.any_cons, h1, h2, List.any_nil]
  decide +kernel
theorem share_b (p : S32 → Bool) (h1 : p (polS ⟨#[97]⟩ 60) = true) (h2 : p (polS ⟨#[98]⟩ 30) = true) : shareP p 200 [polS ⟨#[97]⟩ 60, polS ⟨#[98]⟩ 30] = some ([60, 30], 0) := by
  unfold shareP
  simp only [List.any_cons, h1, h2, List.any_nil]
  decide +kernel

theorem pols_C (W : World) : Kd.C k32 (W.alloc (.cells #[.string ⟨#[97]⟩, .string ⟨#[102]⟩, .string ⟨#[116]⟩, .int .i64 60, .int .i64 0, .slice none 0 0, .int .i64 0, .int .i64 9, .int .i64 1000, .string ⟨#[98]⟩, .string ⟨#[102]⟩, .string ⟨#[116]⟩, .int .i64 30, .int .i64 0, .slice none 0 0, .int .i64 0, .int .i64 9, .int .i64 1000] 32)) (some ⟨W.heap.size, 0, none⟩) 2 [polS ⟨#[97]⟩ 60, polS ⟨#[98]⟩ 30] := by
  refine ⟨rfl, by simp, fun _ => ⟨_, rfl, fun j q hj => ?_⟩⟩
  match j, hj with
  | 0, hj =>
    cases hj
    refine ⟨_, rfl, k32_mk _ (polS ⟨#[97]⟩ 60) (A5 := none) (c5 := 0) (Nat.le_refl _) (Kd.C_nil _ _), fun i u hu => ?_⟩
    match i, hu with
    | 0, hu => cases hu; rw [add_plain]; exact (blk_cell (blk_new W _) 0).trans rfl
    | 1, hu => cases hu; rw [add_plain]; exact (blk_cell (blk_new W _) 1).trans rfl
    | 2, hu => cases hu; rw [add_plain]; exact (blk_cell (blk_new W _) 2).trans rfl
    | 3, hu => cases hu; rw [add_plain]; exact (blk_cell (blk_new W _) 3).trans rfl
    | 4, hu => cases hu; rw [add_plain]; exact (blk_cell (blk_new W _) 4).trans rfl
    | 5, hu => cases hu; rw [add_plain]; exact (blk_cell (blk_new W _) 5).trans rfl
    | 6, hu => cases hu; rw [add_plain]; exact (blk_cell (blk_new W _) 6).trans rfl
    | 7, hu => cases hu; rw [add_plain]; exact (blk_cell (blk_new W _) 7).trans rfl
    | 8, hu => cases hu; rw [add_plain]; exact (blk_cell (blk_new W _) 8).trans rfl
    | i + 9, hu => simp at hu
  | 1, hj =>
    cases hj
    refine ⟨_, rfl, k32_mk _ (polS ⟨#[98]⟩ 30) (A5 := none) (c5 := 0) (Nat.le_refl _) (Kd.C_nil _ _), fun i u hu => ?_⟩
    match i, hu with
    | 0, hu => cases hu; rw [add_plain]; exact (blk_cell (blk_new W _) 9).trans rfl
    | 1, hu => cases hu; rw [add_plain]; exact (blk_cell (blk_new W _) 10).trans rfl
    | 2, hu => cases hu; rw [add_plain]; exact (blk_cell (blk_new W _) 11).trans rfl
    | 3, hu => cases hu; rw [add_plain]; exact (blk_cell (blk_new W _) 12).trans rfl
    | 4, hu => cases hu; rw [add_plain]; exact (blk_cell (blk_new W _) 13).trans rfl
    | 5, hu => cases hu; rw [add_plain]; exact (blk_cell (blk_new W _) 14).trans rfl
    | 6, hu => cases hu; rw [add_plain]; exact (blk_cell (blk_new W _) 15).trans rfl
    | 7, hu => cases hu; rw [add_plain]; exact (blk_cell (blk_new W _) 16).trans rfl
    | 8, hu => cases hu; rw [add_plain]; exact (blk_cell (blk_new W _) 17).trans rfl
    | i + 9, hu => simp at hu
  | j + 2, hj => simp at hj
theorem nums_C (W : World) (a b : Int) : Kd.C (Kd.int .i64) (W.alloc (.cells #[.int .i64 a, .int .i64 b] 2)) (some ⟨W.heap.size, 0, none⟩) 2 [a, b] := by
  refine ⟨rfl, by simp, fun _ => ⟨_, rfl, fun j q hj => ?_⟩⟩
  match j, hj with
  | 0, hj =>
    cases hj
    refine ⟨[.int .i64 a], rfl, rfl, fun i u hu => ?_⟩
    match i, hu with
    | 0, hu => cases hu; rw [add_plain]; exact (blk_cell (blk_new W _) 0).trans rfl
    | i + 1, hu => simp at hu
  | 1, hj =>
    cases hj
    refine ⟨[.int .i64 b], rfl, rfl, fun i u hu => ?_⟩
    match i, hu with
    | 0, hu => cases hu; rw [add_plain]; exact (blk_cell (blk_new W _) 1).trans rfl
    | i + 1, hu => simp at hu
  | j + 2, hj => simp at hj
/-- Where the examples have come to. -/
structure Ast (w W : World) : Prop where
  hb : Below w.heap.size w W
theorem Ast.below {w W W1 : World} (h : Ast w W) (hb : Below W.heap.size W W1) : Ast w W1 := ⟨below_step h.hb hb⟩
theorem Ast.alloc {w W : World} (h : Ast w W) (o : Obj) : Ast w (W.alloc o) := ⟨below_alloc h.hb o⟩
theorem Ast.drewN {w W : World} (h : Ast w W) (n : Nat) : Ast w (W.drewN n) := ⟨pw_below_drewN h.hb n⟩
def pA (x : S32) : Bool := (mayK 200 x).getD false
theorem pA_a : pA (polS ⟨#[97]⟩ 60) = true := by unfold pA; rw [may_a]; rfl
theorem pA_b : pA (polS ⟨#[98]⟩ 30) = true := by unfold pA; rw [may_b]; rfl
theorem pA_all : ∀ x ∈ [polS ⟨#[97]⟩ 60, polS ⟨#[98]⟩ 30], mayK 200 x = some (pA x) := by
  intro x hx
  simp only [List.mem_cons, List.not_mem_nil, or_false] at hx
  rcases hx with rfl | rfl
  · rw [pA_a, may_a]
  · rw [pA_b, may_b]
theorem same_a : supercargoref04_Same.f 200 [30, 15] [30, 15] = some true := by decide +kernel
theorem same_b : supercargoref04_Same.f 200 [60, 30] [60, 30] = some true := by decide +kernel
theorem rec_err : (recF 100 [⟨⟨#[97]⟩, 60, 0⟩] 0 80).2.2.2 = 0 := by rw [rec_a]
theorem share45 (W : World) : Calls Try.prog 10 #[.int .i64 45, .slice (some ⟨W.heap.size, 0, none⟩) 2 2] (W.alloc (.cells #[.string ⟨#[97]⟩, .string ⟨#[102]⟩, .string ⟨#[116]⟩, .int .i64 60, .int .i64 0, .slice none 0 0, .int .i64 0, .int .i64 9, .int .i64 1000, .string ⟨#[98]⟩, .string ⟨#[102]⟩, .string ⟨#[116]⟩, .int .i64 30, .int .i64 0, .slice none 0 0, .int .i64 0, .int .i64 9, .int .i64 1000] 32)) fun e w' =>
    ∃ v0_ : Value, e = .returned (.tuple #[v0_, .int .i64 0]) ∧ Kd.R (Kd.int .i64) 2 w' (W.alloc (.cells #[.string ⟨#[97]⟩, .string ⟨#[102]⟩, .string ⟨#[116]⟩, .int .i64 60, .int .i64 0, .slice none 0 0, .int .i64 0, .int .i64 9, .int .i64 1000, .string ⟨#[98]⟩, .string ⟨#[102]⟩, .string ⟨#[116]⟩, .int .i64 30, .int .i64 0, .slice none 0 0, .int .i64 0, .int .i64 9, .int .i64 1000] 32)).heap.size (fun _ => True) v0_ [30, 15] ∧ Below (W.alloc (.cells #[.string ⟨#[97]⟩, .string ⟨#[102]⟩, .string ⟨#[116]⟩, .int .i64 60, .int .i64 0, .slice none 0 0, .int .i64 0, .int .i64 9, .int .i64 1000, .string ⟨#[98]⟩, .string ⟨#[102]⟩, .string ⟨#[116]⟩, .int .i64 30, .int .i64 0, .slice none 0 0, .int .i64 0, .int .i64 9, .int .i64 1000] 32)).heap.size (W.alloc (.cells #[.string ⟨#[97]⟩, .string ⟨#[102]⟩, .string ⟨#[116]⟩, .int .i64 60, .int .i64 0, .slice none 0 0, .int .i64 0, .int .i64 9, .int .i64 1000, .string ⟨#[98]⟩, .string ⟨#[102]⟩, .string ⟨#[116]⟩, .int .i64 30, .int .i64 0, .slice none 0 0, .int .i64 0, .int .i64 9, .int .i64 1000] 32)) w' := by
  have h := share_calls 200 pA (W.alloc (.cells #[.string ⟨#[97]⟩, .string ⟨#[102]⟩, .string ⟨#[116]⟩, .int .i64 60, .int .i64 0, .slice none 0 0, .int .i64 0, .int .i64 9, .int .i64 1000, .string ⟨#[98]⟩, .string ⟨#[102]⟩, .string ⟨#[116]⟩, .int .i64 30, .int .i64 0, .slice none 0 0, .int .i64 0, .int .i64 9, .int .i64 1000] 32)) 45 (some ⟨W.heap.size, 0, none⟩) 2 [polS ⟨#[97]⟩ 60, polS ⟨#[98]⟩ 30] [30, 15] 0 (pols_C W) pA_all (share_a pA pA_a pA_b)
  exact h
theorem share200 (W : World) : Calls Try.prog 10 #[.int .i64 200, .slice (some ⟨W.heap.size, 0, none⟩) 2 2] (W.alloc (.cells #[.string ⟨#[97]⟩, .string ⟨#[102]⟩, .string ⟨#[116]⟩, .int .i64 60, .int .i64 0, .slice none 0 0, .int .i64 0, .int .i64 9, .int .i64 1000, .string ⟨#[98]⟩, .string ⟨#[102]⟩, .string ⟨#[116]⟩, .int .i64 30, .int .i64 0, .slice none 0 0, .int .i64 0, .int .i64 9, .int .i64 1000] 32)) fun e w' =>
    ∃ v0_ : Value, e = .returned (.tuple #[v0_, .int .i64 0]) ∧ Kd.R (Kd.int .i64) 2 w' (W.alloc (.cells #[.string ⟨#[97]⟩, .string ⟨#[102]⟩, .string ⟨#[116]⟩, .int .i64 60, .int .i64 0, .slice none 0 0, .int .i64 0, .int .i64 9, .int .i64 1000, .string ⟨#[98]⟩, .string ⟨#[102]⟩, .string ⟨#[116]⟩, .int .i64 30, .int .i64 0, .slice none 0 0, .int .i64 0, .int .i64 9, .int .i64 1000] 32)).heap.size (fun _ => True) v0_ [60, 30] ∧ Below (W.alloc (.cells #[.string ⟨#[97]⟩, .string ⟨#[102]⟩, .string ⟨#[116]⟩, .int .i64 60, .int .i64 0, .slice none 0 0, .int .i64 0, .int .i64 9, .int .i64 1000, .string ⟨#[98]⟩, .string ⟨#[102]⟩, .string ⟨#[116]⟩, .int .i64 30, .int .i64 0, .slice none 0 0, .int .i64 0, .int .i64 9, .int .i64 1000] 32)).heap.size (W.alloc (.cells #[.string ⟨#[97]⟩, .string ⟨#[102]⟩, .string ⟨#[116]⟩, .int .i64 60, .int .i64 0, .slice none 0 0, .int .i64 0, .int .i64 9, .int .i64 1000, .string ⟨#[98]⟩, .string ⟨#[102]⟩, .string ⟨#[116]⟩, .int .i64 30, .int .i64 0, .slice none 0 0, .int .i64 0, .int .i64 9, .int .i64 1000] 32)) w' := by
  have h := share_calls 200 pA (W.alloc (.cells #[.string ⟨#[97]⟩, .string ⟨#[102]⟩, .string ⟨#[116]⟩, .int .i64 60, .int .i64 0, .slice none 0 0, .int .i64 0, .int .i64 9, .int .i64 1000, .string ⟨#[98]⟩, .string ⟨#[102]⟩, .string ⟨#[116]⟩, .int .i64 30, .int .i64 0, .slice none 0 0, .int .i64 0, .int .i64 9, .int .i64 1000] 32)) 200 (some ⟨W.heap.size, 0, none⟩) 2 [polS ⟨#[97]⟩ 60, polS ⟨#[98]⟩ 30] [60, 30] 0 (pols_C W) pA_all (share_b pA pA_a pA_b)
  exact h
theorem sameA (W : World) (A : Option Addr) (c : Nat) (h : Kd.C (Kd.int .i64) W A 2 [30, 15]) (hc : 2 ≤ c) : Calls Try.prog 26 #[.slice A 2 c, .slice (some ⟨W.heap.size, 0, none⟩) 2 2] (W.alloc (.cells #[.int .i64 30, .int .i64 15] 2)) fun e w' =>
    e = .returned (.bool true) ∧ Drawn0 (W.alloc (.cells #[.int .i64 30, .int .i64 15] 2)) w' := by
  have h2 := supercargoref04_Same.calls 200 A c [30, 15] (some ⟨W.heap.size, 0, none⟩) 2 [30, 15] true (W.alloc (.cells #[.int .i64 30, .int .i64 15] 2)) (Kd.C_alloc h _) hc (nums_C W 30 15) (Nat.le_refl _) same_a
  exact h2
theorem sameB (W : World) (A : Option Addr) (c : Nat) (h : Kd.C (Kd.int .i64) W A 2 [60, 30]) (hc : 2 ≤ c) : Calls Try.prog 26 #[.slice A 2 c, .slice (some ⟨W.heap.size, 0, none⟩) 2 2] (W.alloc (.cells #[.int .i64 60, .int .i64 30] 2)) fun e w' =>
    e = .returned (.bool true) ∧ Drawn0 (W.alloc (.cells #[.int .i64 60, .int .i64 30] 2)) w' := by
  have h2 := supercargoref04_Same.calls 200 A c [60, 30] (some ⟨W.heap.size, 0, none⟩) 2 [60, 30] true (W.alloc (.cells #[.int .i64 60, .int .i64 30] 2)) (Kd.C_alloc h _) hc (nums_C W 60 30) (Nat.le_refl _) same_b
  exact h2
theorem claimA (W : World) (B F : Nat) (vp : Value) (hs : Fst W B F (fun _ => True) vp 100 100 [] 0) (hB : B ≤ W.heap.size) : Calls Try.prog 15 #[.pointer (some ⟨F, 0, none⟩), .string ⟨#[97]⟩, .agg #[.string ⟨#[97]⟩, .string ⟨#[102]⟩, .string ⟨#[116]⟩, .int .i64 60, .int .i64 0, .slice none 0 0, .int .i64 0, .int .i64 9, .int .i64 1000]] W fun e w' =>
    e = .returned (.tuple #[.int .i64 60, .int .i64 0]) ∧ ∃ vp', Fst w' B F (fun _ => True) vp' 100 100 [⟨⟨#[97]⟩, 60, 0⟩] 0 ∧ Below B W w' :=
  (claim_calls 200 W B F (fun _ => True) vp 100 100 [] 0 ⟨#[97]⟩ (polS ⟨#[97]⟩ 60) none 0 [⟨⟨#[97]⟩, 60, 0⟩] 60 0 hs (Kd.C_nil _ _) (Nat.le_refl _) hB (fun _ _ => trivial) claim_a).mono fun e w' ⟨he, vp', h1, _, _, h2⟩ => ⟨he, vp', h1, h2⟩
theorem recA (W : World) (B F : Nat) (vp : Value) (hs : Fst W B F (fun _ => True) vp 100 100 [⟨⟨#[97]⟩, 60, 0⟩] 0) (hB : B ≤ W.heap.size) : Calls Try.prog 14 #[.pointer (some ⟨F, 0, none⟩), .int .i64 80] W fun e w' =>
    ∃ A c, e = .returned (.tuple #[.slice A 2 c, .int .i64 0]) ∧ Kd.C k46 w' A 2 [⟨⟨#[97]⟩, ⟨#[]⟩, 60⟩, ⟨⟨#[]⟩, ⟨#[]⟩, 20⟩] ∧ Below B W w' :=
  (recover_calls W B F (fun _ => True) vp 100 100 [⟨⟨#[97]⟩, 60, 0⟩] 0 80 hs (by decide) hB).mono fun e w' ⟨vo, he, _, _, h1, h2⟩ => by
    rw [rec_a] at he h1
    obtain ⟨A, c, rfl⟩ := Kd.R_slice h1
    exact ⟨A, c, he, (Kd.R_reads' h1).2.2, h2⟩
set_option maxHeartbeats 1000000 in
set_option maxRecDepth 100000 in
theorem awake44_calls (w : World) : Calls Try.prog 8 #[] w fun e w' => e = .returned (.bool true) ∧ Below w.heap.size w w' := by
  have hu3 := Try.underlying32
  have hu4 := Try.underlying46
  have HA0 := Aside0.mk (Ast.mk (Below.refl w.heap.size w))
  go_enter Try.func8, Try.ntmps8
  go_upto_region 2 with (first
    | (go_at_call 25; refine (pol_calls _ _ _).mono ?_; rintro e w1 ⟨rfl, hb⟩; have n0_ := Aside0.mk (HA0.out.below hb); clear HA0; have HA0 := n0_; clear n0_ hb)
    | (go_at_call 10; (with_reducible refine (share45 _).mono ?_); rintro e w2 ⟨v1, rfl, ho, hb⟩; obtain ⟨A1, c1, rfl⟩ := Kd.R_slice ho; have HO1 := Aside0.mk ho; have n0_ := Aside0.mk ((HA0.out.alloc _).below hb); clear HA0; have HA0 := n0_; clear n0_ hb ho))
  go_upto_region 3 with (first
    | (go_at_call 25; refine (pol_calls _ _ _).mono ?_; rintro e w3 ⟨rfl, hb⟩; have n0_ := Aside0.mk (HA0.out.below hb); clear HA0; have HA0 := n0_; have n1_ := Aside0.mk (Kd.R_below HO1.out hb); clear HO1; have HO1 := n1_; clear n0_ n1_ hb)
    | (go_at_call 10; (with_reducible refine (share200 _).mono ?_); rintro e w4 ⟨v2, rfl, ho, hb⟩; obtain ⟨A2, c2, rfl⟩ := Kd.R_slice ho; have HO2 := Aside0.mk ho; have n1_ := Aside0.mk (Kd.R_below (Kd.R_alloc HO1.out _) hb); clear HO1; have HO1 := n1_; have n0_ := Aside0.mk ((HA0.out.alloc _).below hb); clear HA0; have HA0 := n0_; clear n0_ n1_ hb ho))
  have hla : 2 ≤ c1 := (Kd.R_reads' HO1.out).2.1
  have hlb : 2 ≤ c2 := (Kd.R_reads' HO2.out).2.1
  have HLA := Aside0.mk hla
  have HLB := Aside0.mk hlb
  clear hla hlb
  have HC1 := Aside0.mk (show Kd.C (Kd.int .i64) _ A1 2 [30, 15] from (Kd.R_reads' HO1.out).2.2)
  go_wp2_with fail
  refine (sameA _ _ _ HC1.out HLA.out).mono ?_
  rintro e w5 ⟨rfl, hd⟩
  have HC2 := Aside0.mk (show Kd.C (Kd.int .i64) w5 A2 2 [60, 30] by obtain ⟨n5, rfl⟩ := hd; exact (Kd.R_reads' (Kd.R_drewN (Kd.R_alloc HO2.out (.cells #[.int .i64 30, .int .i64 15] 2)) n5)).2.2)
  have HA1 := Aside0.mk (show Ast w w5 by obtain ⟨n5, rfl⟩ := hd; exact (HA0.out.alloc (.cells #[.int .i64 30, .int .i64 15] 2)).drewN n5)
  clear HA0 HC1 HO1 HO2 HLA hd
  go_wp2_with fail
  refine (sameB _ _ _ HC2.out HLB.out).mono ?_
  rintro e w6 ⟨rfl, hd⟩
  have HA2 := Aside0.mk (show Ast w w6 by obtain ⟨n6, rfl⟩ := hd; exact (HA1.out.alloc (.cells #[.int .i64 60, .int .i64 30] 2)).drewN n6)
  clear HA1 HC2 HLB hd
  go_wp2_with fail
  refine (new_yes 100 100 _ (by decide)).mono ?_
  rintro e w7 ⟨rfl, hd⟩
  have HF := Aside0.mk (show Fst w7 w.heap.size w6.heap.size (fun _ => True) (.slice none 0 0) 100 100 [] 0 by rw [hd]; exact ⟨blk_new w6 _, Kd.R_nil _ _ _ _ _, HA2.out.hb.size⟩)
  have HA3 := Aside0.mk (show Ast w w7 by rw [hd]; exact HA2.out.alloc _)
  have HZ := Aside0.mk HA2.out.hb.size
  clear HA2 hd
  obtain ⟨F, hF⟩ : ∃ F, F = w6.heap.size := ⟨_, rfl⟩
  rw [← hF] at HF HZ ⊢
  clear hF
  go_wp2_with fail
  refine (pol_calls _ _ _).mono ?_
  rintro e w8 ⟨rfl, hb⟩
  have HF2 := Aside0.mk (HF.out.below hb)
  have HA4 := Aside0.mk (HA3.out.below hb)
  clear HF HA3 hb
  go_wp2_with fail
  refine (claimA _ w.heap.size F _ HF2.out HA4.out.hb.size).mono ?_
  rintro e w9 ⟨rfl, vp9, hf, hb⟩
  have HF3 := Aside0.mk hf
  have HA5 := Aside0.mk (Ast.mk (HA4.out.hb.trans hb))
  clear HF2 HA4 hf hb
  go_wp2_with fail
  refine (recA _ w.heap.size F _ HF3.out HA5.out.hb.size).mono ?_
  rintro e w10 ⟨A3, c3, rfl, hc, hb⟩
  have HA6 := Aside0.mk (Ast.mk (HA5.out.hb.trans hb))
  obtain ⟨ad, rfl, hx0, hx1, hx2⟩ := at_T46 hc 0 (by omega) (by omega)
  obtain ⟨ad', e', hy0, hy1, hy2⟩ := at_T46 hc 1 (by omega) (by omega)
  cases e'
  clear HF3 HA5 hb
  have ez : (0 : Int).toNat * 3 = 0 := rfl
  have ey : (1 : Int).toNat * 3 = 3 := rfl
  rw [ez] at hx0 hx1 hx2
  rw [ey] at hy0 hy1 hy2
  clear ez ey
  have ea : ad.add 0 = ad := by rfl
  rw [ea] at hx0 hx1 hx2
  clear ea
  replace hx0 : w10.cell? ad = some (.string ⟨#[97]⟩) := hx0
  replace hx1 : w10.cell? ⟨ad.block, ad.off + 1, none⟩ = some (.string ⟨#[]⟩) := hx1
  replace hx2 : w10.cell? ⟨ad.block, ad.off + 2, none⟩ = some (.int .i64 60) := hx2
  replace hy2 : w10.cell? ⟨ad.block, ad.off + 3 + 2, none⟩ = some (.int .i64 20) := hy2
  clear hy0 hy1 hc
  go_wp2
  go_ret
  exact ⟨rfl, HA6.out.hb⟩
end Go.Proofs.Ythpedogppiemkaa.Print
