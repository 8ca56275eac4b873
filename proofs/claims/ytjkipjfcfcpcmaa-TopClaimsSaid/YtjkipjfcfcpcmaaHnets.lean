/-
The netting of two debts: a debt there and one back leave what is more.
-/
import Derived.Test.YtjkipjfcfcpcmaaHtold
namespace Go.Proofs.Ytjkipjfcfcpcmaa.Print
open Go.RowKit Go.Maps Go.Proofs.YtjkipjfcfcpcmaaW.PrintWords Go.Proofs.YtjkipjfcfcpcmaaW.PrintLast Go.Proofs.YtjkipjfcfcpcmaaW.PrintMore
set_option maxRecDepth 100000 in
theorem npairs_calls (w W : World) (b : Nat) (h : L2 w W b) : Calls Try.prog 12 #[.slice (some ⟨b, 0, none⟩) 2 2] W fun e w' => ∃ ad c, e = .returned (.tuple #[.slice (some ad) 1 c, .int .i64 0]) ∧ OneD1 w w' (.slice (some ad) 1 c) ∧ Below w.heap.size w w' := by
  have HL := Aside0.mk h
  clear h
  go_enter Try.func12, Try.ntmps12
  go_wp2_with (first
    | (go_at_call 26; refine (pairs_calls w _ b HL.out).mono ?_; rintro e w1 ⟨O, rfl, ho, hO, hb⟩; have HO := Aside0.mk ho; have HB := Aside0.mk hb; clear ho hO hb)
    | (go_at_call 27; refine (told_calls w _ O HO.out HB.out).mono ?_; rintro e w2 ⟨ad, c, rfl, hr, hb⟩; have HR := Aside0.mk hr; have HB2 := Aside0.mk hb; clear hr hb))
  go_ret2
  exact ⟨ad, c, rfl, HR.out, HB2.out⟩
set_option maxHeartbeats 2000000 in
set_option maxRecDepth 100000 in
theorem nets_calls (w : World) : Calls Try.prog 5 #[] w fun e w' => e = .returned (.bool true) ∧ Below w.heap.size w w' := by
  have HL := Aside0.mk (show L2 w (w.alloc (.cells lit2 55)) w.heap.size from ⟨blk_new w _, below_alloc (Below.refl _ _) _⟩)
  unfold lit2 ea eb usd at HL
  go_enter Try.func5, Try.ntmps5
  go_wp2_with (go_at_call 12; go_loud (refine (npairs_calls w _ _ HL.out).mono ?_); rintro e w1 ⟨ad, c, rfl, hr, hb⟩; have HR := Aside0.mk hr; have HB := Aside0.mk hb; go_loud (obtain ⟨ad2, e2, d0, d1, d2, d3⟩ := at_T55 (Kd.R_reads' hr).2.2 0 (by decide) (by decide)); obtain rfl := Option.some.inj e2; go_loud (replace d0 : w1.cell? ad = some (.string ⟨#[97]⟩) := by (rw [show ad.add (Int.toNat 0 * 4) = ad by simp [Addr.add]] at d0; exact d0)); go_loud (rw [show ad.add (Int.toNat 0 * 4) = ad by simp [Addr.add]] at d1 d2 d3); go_loud (replace d1 : w1.cell? ⟨ad.block, ad.off + 1, none⟩ = some (.string ⟨#[98]⟩) := d1); go_loud (replace d2 : w1.cell? ⟨ad.block, ad.off + 2, none⟩ = some (.string ⟨#[85, 83, 68]⟩) := d2); go_loud (replace d3 : w1.cell? ⟨ad.block, ad.off + 3, none⟩ = some (.int .i64 2) := d3); clear hr hb)
  go_ret
  exact ⟨rfl, HB.out⟩
end Go.Proofs.Ytjkipjfcfcpcmaa.Print
