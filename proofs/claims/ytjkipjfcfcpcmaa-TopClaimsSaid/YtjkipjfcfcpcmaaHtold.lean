/-
The debts told, in order: the example's one debt; its sorting.
-/
import Derived.Test.YtjkipjfcfcpcmaaHpairs
import Derived.Test.YtjkipjfcfcpcmaaShelf
import Derived.Handy
namespace Go.Proofs.Ytjkipjfcfcpcmaa.Print
open Go.RowKit Go.Maps Go.Proofs.YtjkipjfcfcpcmaaW.PrintWords Go.Proofs.YtjkipjfcfcpcmaaW.PrintLast Go.Proofs.YtjkipjfcfcpcmaaW.PrintMore

set_option maxRecDepth 100000 in
theorem sins_calls (ad : Addr) (c : Nat) (f : Value) (w : World) : Calls Try.prog 71 #[.slice (some ad) 1 c, .int .i64 0, .int .i64 1, f] w fun e w' => (∃ v, e = .returned v) ∧ w' = w := by
  go_enter Try.func71, Try.ntmps71
  go_wp2
  refine wp_loop_rounds 1 ?_
  rw [rounds_succ]
  go_wp2
  go_returns
  exact ⟨⟨_, rfl⟩, rfl⟩
set_option maxRecDepth 100000 in
theorem spdq_calls (ad : Addr) (c : Nat) (L : Int) (f : Value) (w : World) : Calls Try.prog 58 #[.slice (some ad) 1 c, .int .i64 0, .int .i64 1, .int .i64 L, f] w fun e w' => (∃ v, e = .returned v) ∧ w' = w := by
  go_enter Try.func58, Try.ntmps58
  go_wp2
  refine wp_loop_rounds 1 ?_
  rw [rounds_succ]
  go_wp2_with (go_at_call 71; refine (sins_calls ad c f _).mono ?_; rintro e w1 ⟨⟨v, rfl⟩, rfl⟩)
  go_returns
  exact ⟨⟨_, rfl⟩, rfl⟩
set_option maxRecDepth 100000 in
theorem ssort_calls (ad : Addr) (c : Nat) (f : Value) (w : World) : Calls Try.prog 39 #[.slice (some ad) 1 c, f] w fun e w' => (∃ v, e = .returned v) ∧ w' = w := by
  go_enter Try.func39, Try.ntmps39
  go_wp2_with (first
    | (go_at_call 59; refine (Try.bits_Len 1 _ (by decide) (by decide)).mono ?_; rintro e w1 ⟨rfl, rfl⟩)
    | (go_at_call 58; refine (spdq_calls ad c _ f _).mono ?_; rintro e w1 ⟨⟨v, rfl⟩, rfl⟩))
  go_returns
  exact ⟨⟨_, rfl⟩, rfl⟩

/-- The one debt that is left. -/
def left1 : S55 := ⟨ea, eb, usd, 2⟩
abbrev OneD1 (w w' : World) (v : Value) : Prop := k55.R 55 w' w.heap.size (fun _ => True) v [left1]
set_option maxHeartbeats 2000000 in
set_option maxRecDepth 100000 in
theorem told_calls (w W : World) (O : Nat) (h : one W O) (hb : Below w.heap.size w W) : Calls Try.prog 27 #[.map (some O)] W fun e w' => ∃ ad c, e = .returned (.slice (some ad) 1 c) ∧ OneD1 w w' (.slice (some ad) 1 c) ∧ Below w.heap.size w w' := by
  obtain ⟨l1, l2, RD⟩ := roads
  have HRD := Aside0.mk RD
  have HB := Aside0.mk hb
  have HOS := Aside0.mk (Array.getElem?_eq_some_iff.1 h).1
  obtain ⟨D, hD, hOD⟩ := one_owns HRD.out h
  have HOD := Aside0.mk hOD
  have HDD := Aside0.mk hD
  clear hD hOD RD hb h
  go_enter Try.func27, Try.ntmps27
  go_wp2_with (at_range; refine wpList_range_own _ rfl _ 77 rfl 95 2 keyR Try.underlying77 _ O 1 D rfl HDD.out ?_; intro w0 hrg0 hg0 hs0)
  have HRG := Aside0.mk hrg0
  have HB0 := Aside0.mk (show Below w.heap.size w w0 from HB.out.trans (Below.mono ⟨hg0.os, hg0.tape, hg0.output, hg0.size, fun i hi => hg0.block i hi (by simp)⟩ HB.out.size))
  have HBR := Aside0.mk (show w.heap.size ≤ W.heap.size from HB.out.size)
  clear hrg0 hg0 hs0 HDD HB
  go_frame
  obtain ⟨r, hr⟩ : ∃ r, r = W.heap.size := ⟨_, rfl⟩
  rw [← hr] at HRG HOS HBR ⊢
  clear hr
  refine wp_loop_rounds 2 ?_
  rw [rounds_succ]
  go_wp2_with (at_next; refine wpList_next_road _ rfl _ rfl O r 1 D _ _ rfl HRG.out ?_ ?_)
  · intro hl
    exact absurd ((hl l1).symm.trans HOD.out.h1) (by simp)
  · intro x c kl w5 cnt' hx hlk hat hrg5 hlt5 hg5 hen
    have ekl : kl = l1 := HOD.out.ks kl hlk
    have hkx : x = rk1 := lawR.inj (ekl ▸ hx) HRD.out.k1
    have hc : c = 2 := by
      have h := HOD.out.a1 (.lit (.int .i64 0))
      rw [← ekl, hat] at h
      injection h with h
      injection h
    have HEK := Aside0.mk ekl
    subst hc
    subst hkx
    unfold rk1 at hen
    have HB5 := Aside0.mk (show Below w.heap.size w w5 from HB0.out.grown hg5 HB0.out.size (fun j hj => by cases hj; exact HBR.out))
    have HRG5 := Aside0.mk (hrg5.alloc (.cells #[.string usd, .string ea, .string eb] 95))
    have HB7 := Aside0.mk (below_alloc HB5.out (.cells #[.string usd, .string ea, .string eb] 95))
    clear hx hlk hat hrg5 hlt5 hg5 ekl HRG HB0 HB5
    go_wp2_with (((with_reducible refine gate_builtin (b := .append) (xs := #[.tmp 13, .tmp 22]) rfl ?_); at_builtin; go_loud (refine Kd.R_append k55 (w0 := w) w.heap.size rfl (.tmp 13) (.tmp 22) 51 55 _ 56 rfl Try.underlying51 info55 rfl (by decide) (by omega) (.slice none 0 0) [] left1 [.string ea, .string eb, .string usd, .int .i64 2] (fun _ => True) (fun _ => False) (by simp [Act.eval]) (by simp [Act.eval]) (k55_mkM _ _ _ left1) (fun _ hk => hk.elim) (fun _ _ => trivial) (Kd.R_nil _ _ _ _ _) HB7.out HB7.out.size (by simp) ?_); intro v1 w8 ho hb8 hg8 hat8; have HO8 := Aside0.mk ho; have HB8 := Aside0.mk hb8; have HRG8 := Aside0.mk (HRG5.out.kept hg8 (by simp [Value.ownBlock]) (by simp [Value.ownBlock])); clear ho hb8 hg8 hat8))
    obtain ⟨ad, cc, ev⟩ := Kd.R_slice1 HO8.out (by simp)
    replace ev : v1 = .slice (some ad) 1 cc := ev
    subst ev
    clear HRG5 HB7
    rw [rounds_succ]
    go_wp2_with (at_next; refine wpList_next_road _ rfl _ rfl O r 1 D _ _ rfl HRG8.out ?_ ?_)
    · intro hl
      clear hl
      go_wp2_with (go_at_call 39; refine (ssort_calls ad cc _ _).mono ?_; rintro e w1 ⟨⟨v, rfl⟩, rfl⟩)
      go_ret
      exact ⟨ad, cc, rfl, HO8.out, HB8.out⟩
    · intro x c k2 w6 cnt2 hx2 hlk2 hne2 hat2 hrg6 hlt6 hg6 hen6
      exfalso
      have e2 : k2 = l1 := HOD.out.ks k2 hlk2
      rw [e2, HEK.out, same_self HRD.out.k1] at hne2
      exact absurd hne2 (by simp)
end Go.Proofs.Ytjkipjfcfcpcmaa.Print
