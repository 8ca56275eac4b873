/- Contracts of the program's functions over this seat's translation, written out by this session's own driver. Conditions: those in each statement. -/
import Derived.Test.YteeehijpdkbgkaaPrint0
import Derived.WalkSpells
namespace Go.Proofs.Yteeehijpdkbgkaa.Print
open Go.RowKit Go.Proofs.YteeehijpdkbgkaaW.PrintWords Go.Proofs.YteeehijpdkbgkaaW.PrintLast Go.Proofs.YteeehijpdkbgkaaW.PrintMore
attribute [local go_sem] max2_int min2_int max_two min_two max_three min_three max_four min_four   -- for this text's walks alone
set_option linter.unusedVariables false
set_option linter.unusedSimpArgs false

/-! ### slices_Clone_int64_int64: function 28 -/
def slices_Clone_int64_int64.f (l0 : List Int) : Option (List Int) := if l0.length ≤ 17592186044416 then some l0 else none
theorem slices_Clone_int64_int64.info : (Try.prog.info? 2).map (fun i => (i.zero, i.size, i.bytes)) = some (some (.int .i64 0), 1, 8) := by kernel_rfl
set_option maxHeartbeats 2000000 in
set_option maxRecDepth 100000 in
theorem slices_Clone_int64_int64.calls (A0 : Option Addr) (c0 : Nat) (l0 : List Int) (r : List Int) (w : World) (hr0 : Kd.C (Kd.int .i64) w A0 l0.length l0) (hc0 : l0.length ≤ c0) (h : slices_Clone_int64_int64.f l0 = some r) :
    Calls Try.prog 28 #[.slice A0 l0.length c0] w fun e w' => ∃ v0_ : Value, e = .returned (v0_) ∧ Kd.R (Kd.int .i64) 2 w' w.heap.size (fun _ => True) v0_ r ∧ Below w.heap.size w w' := by
  unfold slices_Clone_int64_int64.f at h
  split at h
  · rename_i hn
    obtain rfl := Option.some.inj h
    clear h
    cases A0 with
    | none =>
      have hl : l0 = [] := by
        cases l0 with
        | nil => rfl
        | cons x t =>
          obtain ⟨ad, e, _⟩ := Kd.at_int hr0 0 (by omega) (by simp)
          cases e
      subst hl
      have he := fun W => Lib.run_eql_slice_nil (P := Try.prog) W 23 2 none 0 c0 0 0 Try.underlying23
      clear hr0
      go_enter Try.func28, Try.ntmps28
      go_wp2
      go_ret
      exact ⟨_, rfl, Kd.R_nil _ _ _ _ _, Below.refl _ _⟩
    | some ad =>
      have he := fun W => Lib.run_eql_slice_nil (P := Try.prog) W 23 2 (some ad) l0.length c0 0 0 Try.underlying23
      have HR := Aside0.mk hr0
      have HB := Aside0.mk (Below.refl w.heap.size w)
      clear hr0 hc0
      go_enter Try.func28, Try.ntmps28
      go_wp2_with (first
        | ((with_reducible refine gate_dst (N := 5) rfl ?_); refine Kd.R_lit (Kd.int .i64) _ 2 ?hg (N := 5) ?hd (xs := ([] : List Int)) (inner := []) (ok := fun _ => True) (okp := fun _ => True) ?hr ?hp (fun _ hk => hk) trivial (Below.refl _ _) (Nat.le_refl _) (by simp) ?_; (case hd => rfl); (case hg => rfl); (case hr => first | (go_simp; done) | (go_simp; rfl)); (case hp => exact (Reps.none _ _)); intro v1 w1 ho1 hb1 hg_ hnew_; clear hg_ hnew_; have HO1 := Aside0.mk ho1; have HB1 := Aside0.mk hb1; clear ho1 hb1)
        | ((with_reducible refine gate_builtin (b := .append) (xs := #[.tmp 5, .tmp 6]) rfl ?_); at_builtin; refine Kd.R_append_row (Value.int .i64) (0 : Int) (h1 := fun _ => rfl) (w0 := w) w.heap.size rfl (.tmp 5) (.tmp 6) 23 2 (.int .i64 0) 8 rfl Try.underlying23 slices_Clone_int64_int64.info rfl (by decide) v1 [] l0 (some ad) l0.length c0 (fun _ => True) rfl rfl (fun _ _ => trivial) HO1.out (Kd.C_below HR.out HB1.out) HB1.out HB1.out.size (by simp; omega) ?_; intro v2 w2 ho2 hb2 hg2 hat2; have HO2 := Aside0.mk ho2; have HB2 := Aside0.mk hb2; clear ho2 hb2 hg2 hat2))
      go_ret
      exact ⟨_, rfl, by have := HO2.out; rw [List.nil_append] at this; exact this, HB2.out⟩
  · cases h


end Go.Proofs.Yteeehijpdkbgkaa.Print
