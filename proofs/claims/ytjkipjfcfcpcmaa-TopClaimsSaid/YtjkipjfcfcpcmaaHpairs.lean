/-
The pairs netted, or the error: the example's one road is left.
-/
import Derived.Test.YtjkipjfcfcpcmaaHpaired
namespace Go.Proofs.Ytjkipjfcfcpcmaa.Print
open Go.RowKit Go.Maps Go.Proofs.YtjkipjfcfcpcmaaW.PrintWords Go.Proofs.YtjkipjfcfcpcmaaW.PrintLast Go.Proofs.YtjkipjfcfcpcmaaW.PrintMore

set_option maxHeartbeats 2000000 in
set_option maxRecDepth 100000 in
theorem pairs_calls (w W : World) (b : Nat) (h : L2 w W b) : Calls Try.prog 26 #[.slice (some ⟨b, 0, none⟩) 2 2] W fun e w' => ∃ O, e = .returned (.tuple #[.map (some O), .int .i64 0]) ∧ one w' O ∧ w.heap.size ≤ O ∧ Below w.heap.size w w' := by
  have HL := Aside0.mk h
  obtain ⟨l1, l2, RD⟩ := roads
  have HRD := Aside0.mk RD
  clear h RD
  go_enter Try.func26, Try.ntmps26
  go_wp2_with (first
    | (go_at_call 37; refine (dall_calls w _ b HL.out).mono ?_; rintro e w1 ⟨rfl, hl⟩; have HL1 := Aside0.mk hl; clear hl)
    | (go_at_call 38; refine (paired_calls w _ b HL1.out).mono ?_; rintro e w2 ⟨O, rfl, ho, hO, hb⟩; have HO := Aside0.mk ho; have HOW := Aside0.mk hO; have HB := Aside0.mk hb; have HOS := Aside0.mk (Array.getElem?_eq_some_iff.1 ho).1; clear ho hO hb; obtain ⟨D, hD, hOD⟩ := one_owns HRD.out HO.out; have HOD := Aside0.mk hOD; have HDD := Aside0.mk hD; clear hD hOD)
    | (at_range; refine wpList_range_own _ rfl _ 77 rfl 95 2 keyR Try.underlying77 _ O 1 D rfl HDD.out ?_; intro w0 hrg0 hg0 hs0))
  have HRG := Aside0.mk hrg0
  have HO0 := Aside0.mk (show one w0 O from (hg0.block O HOS.out (by simp)).trans HO.out)
  have HB0 := Aside0.mk (show Below w.heap.size w w0 from HB.out.trans (Below.mono ⟨hg0.os, hg0.tape, hg0.output, hg0.size, fun i hi => hg0.block i hi (by simp)⟩ HB.out.size))
  have HBR := Aside0.mk (show w.heap.size ≤ w2.heap.size from HB.out.size)
  clear hrg0 hg0 hs0 HDD HB HO
  go_frame
  obtain ⟨r, hr⟩ : ∃ r, r = w2.heap.size := ⟨_, rfl⟩
  rw [← hr] at HRG HOS HBR ⊢
  clear hr
  refine wp_loop_rounds 2 ?_
  rw [rounds_succ]
  go_wp2_with (at_next; refine wpList_next_road _ rfl _ rfl O r 1 D _ _ rfl HRG.out ?_ ?_)
  · intro hl
    exact absurd ((hl l1).symm.trans HOD.out.h1) (by simp)
  · intro x c kl w5 cnt' hx hlk hat hrg5 hlt5 hg5 hen
    have HLK := Aside0.mk hlk
    have ekl : kl = l1 := HOD.out.ks kl hlk
    have hkx : x = rk1 := lawR.inj (ekl ▸ hx) HRD.out.k1
    have hc : c = 2 := by
      have h := HOD.out.a1 (.lit (.int .i64 0))
      rw [← ekl, hat] at h
      injection h with h
      injection h
    have HEK := Aside0.mk ekl
    subst hc
    subst hkx
    unfold rk1 at hen
    have HRG5 := Aside0.mk hrg5
    have HB5 := Aside0.mk (show Below w.heap.size w w5 from HB0.out.grown hg5 HB0.out.size (fun j hj => by cases hj; exact HBR.out))
    have HO5 := Aside0.mk (show one w5 O from (hg5.block O (Array.getElem?_eq_some_iff.1 HO0.out).1 (fun e => by have := HOS.out; injection e with e; omega)).trans HO0.out)
    clear hx hlk hat hrg5 hlt5 hg5 ekl HRG HB0 HO0
    go_wp2
    rw [rounds_succ]
    go_wp2_with (at_next; refine wpList_next_road _ rfl _ rfl O r 1 D _ _ rfl HRG5.out ?_ ?_)
    · intro hl
      clear hl
      go_wp2
      go_ret2
      exact ⟨O, rfl, HO5.out, HOW.out, HB5.out⟩
    · intro x c k2 w6 cnt2 hx2 hlk2 hne2 hat2 hrg6 hlt6 hg6 hen6
      exfalso
      have e2 : k2 = l1 := HOD.out.ks k2 hlk2
      rw [e2, HEK.out, same_self HRD.out.k1] at hne2
      exact absurd hne2 (by simp)
end Go.Proofs.Ytjkipjfcfcpcmaa.Print
