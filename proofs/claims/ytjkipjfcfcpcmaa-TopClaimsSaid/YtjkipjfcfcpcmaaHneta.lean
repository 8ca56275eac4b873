/-
The netting's small parts: may a debt be.
-/
import Derived.Test.YtjkipjfcfcpcmaaPrint0
import Derived.Test.YtjkipjfcfcpcmaaHname
import Derived.WalkSpells
import Derived.WalkLawsBesides
import Derived.Outline
namespace Go.Proofs.Ytjkipjfcfcpcmaa.Print
open Go.RowKit Go.Proofs.YtjkipjfcfcpcmaaW.PrintWords Go.Proofs.YtjkipjfcfcpcmaaW.PrintLast Go.Proofs.YtjkipjfcfcpcmaaW.PrintMore

theorem drawn_self (w : World) : Drawn0 w w := ⟨0, rfl⟩
set_option maxRecDepth 100000 in
theorem cur1_calls (c : Int) (h0 : 65 ≤ c) (h1 : c ≤ 90) (w : World) : Calls Try.prog 102 #[.int .i32 c] w fun e w' => e = .returned (.bool false) ∧ w' = w := by
  have d1 : decide (c < 65) = false := decide_eq_false (by omega)
  have d2 : decide (90 < c) = false := decide_eq_false (by omega)
  go_enter Try.func102, Try.ntmps102
  go_wp2
  go_ret
  exact ⟨rfl, rfl⟩
def usd : ByteArray := ⟨#[85, 83, 68]⟩
set_option maxRecDepth 100000 in
theorem indexf_calls (w : World) : Calls Try.prog 106 #[.string usd, .func (.func 102) #[] #[], .bool true] w fun e w' => e = .returned (.int .i64 (-1)) ∧ Below w.heap.size w w' := by
  have n0 : ∀ ty, (Instr.next (.pointer (some ⟨w.heap.size, 0, none⟩)) true ty).run Try.prog (w.iter usd 0) = .ok (.tuple #[.bool true, .int .i64 0, .int .i32 85]) (w.iter usd 1) := fun ty => run_next_ascii w usd 0 ty (by decide) (by decide)
  have n1 : ∀ ty, (Instr.next (.pointer (some ⟨w.heap.size, 0, none⟩)) true ty).run Try.prog (w.iter usd 1) = .ok (.tuple #[.bool true, .int .i64 1, .int .i32 83]) (w.iter usd 2) := fun ty => run_next_ascii w usd 1 ty (by decide) (by decide)
  have n2 : ∀ ty, (Instr.next (.pointer (some ⟨w.heap.size, 0, none⟩)) true ty).run Try.prog (w.iter usd 2) = .ok (.tuple #[.bool true, .int .i64 2, .int .i32 68]) (w.iter usd 3) := fun ty => run_next_ascii w usd 2 ty (by decide) (by decide)
  have n3 : ∀ ty, (Instr.next (.pointer (some ⟨w.heap.size, 0, none⟩)) true ty).run Try.prog (w.iter usd 3) = .ok (.tuple #[.bool false]) (w.iter usd 3) := fun ty => run_next_end w usd 3 ty (by decide)
  go_enter Try.func106, Try.ntmps106
  go_wp2
  refine wp_loop_rounds 4 ?_
  rw [rounds_succ]
  go_wp2_with (go_at_call 102; (with_reducible refine (cur1_calls 85 (by omega) (by omega) _).mono ?_); rintro e w1 ⟨rfl, rfl⟩)
  rw [rounds_succ]
  go_wp2_with (go_at_call 102; (with_reducible refine (cur1_calls 83 (by omega) (by omega) _).mono ?_); rintro e w1 ⟨rfl, rfl⟩)
  rw [rounds_succ]
  go_wp2_with (go_at_call 102; (with_reducible refine (cur1_calls 68 (by omega) (by omega) _).mono ?_); rintro e w1 ⟨rfl, rfl⟩)
  rw [rounds_succ]
  go_wp2
  go_ret
  exact ⟨rfl, below_alloc (Below.refl _ _) _⟩
set_option maxRecDepth 100000 in
theorem usd_calls (w : World) : Calls Try.prog 91 #[.string usd] w fun e w' => e = .returned (.bool true) ∧ Below w.heap.size w w' := by
  have hu : usd.size = 3 := rfl
  go_enter Try.func91, Try.ntmps91
  go_wp2_with (first
    | (go_at_call 106; refine (indexf_calls _).mono ?_; rintro e w1 ⟨rfl, hb⟩; have HB := Aside0.mk hb; clear hb)
    | go_in)
  go_ret
  exact ⟨rfl, HB.out⟩
set_option maxRecDepth 100000 in
theorem money_calls (n : Int) (h0 : 1 ≤ n) (h1 : n ≤ 5) (w : World) : Calls Try.prog 70 #[.agg #[.string usd, .int .i64 n]] w fun e w' => e = .returned (.bool true) ∧ Below w.heap.size w w' := by
  have d1 : decide (-1099511627776 ≤ n) = true := decide_eq_true (by omega)
  have d2 : decide (n ≤ 1099511627776) = true := decide_eq_true (by omega)
  have HN := Aside0.mk (blk_new w (.cells #[.string usd, .int .i64 n] 127 (0, 0)))
  go_enter Try.func70, Try.ntmps70
  go_wp2_with (first
    | (go_at_call 91; refine (usd_calls _).mono ?_; rintro e w1 ⟨rfl, hb⟩; have HB := Aside0.mk (below_step (below_alloc (Below.refl _ _) _) hb); have hc1 : w1.cell? ⟨w.heap.size, 1, none⟩ = some (.int .i64 n) := (blk_cell (blk_below HN.out hb) 1).trans rfl; clear hb)
    | go_in)
  go_ret
  exact ⟨rfl, HB.out⟩
end Go.Proofs.Ytjkipjfcfcpcmaa.Print
