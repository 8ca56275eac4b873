/- Contracts of the program's functions over this seat's translation, written out by this session's own driver. Conditions: those in each statement. -/
import Derived.Test.YthbbfbhgcoffeaaPrint0
import Derived.Test.YthbbfbhgcoffeaaShelf
import Derived.Test.YthbbfbhgcoffeaaHarr
import Derived.Laws.CopyRow
import Derived.Laws.CopyOwn
import Derived.Shelf.Spec.SlicesInsert
import Derived.WalkSpells
import Derived.Deep.RegionLaw
namespace Go.Proofs.Ythbbfbhgcoffeaa.Print
open Go.RowKit Go.Proofs.YthbbfbhgcoffeaaW.PrintWords Go.Proofs.YthbbfbhgcoffeaaW.PrintLast Go.Proofs.YthbbfbhgcoffeaaW.PrintMore
attribute [local go_sem] max2_int min2_int max_two min_two max_three min_three max_four min_four   -- for this text's walks alone
set_option linter.unusedVariables false
set_option linter.unusedSimpArgs false

/-! ### slices_Repeat_int64_int64: function 31 -/
def slices_Repeat_int64_int64.f (l0 : List Int) (a1 : Int) : Option (List Int) := if l0.length = 1 ∧ 1 ≤ a1 ∧ a1 ≤ 4096 then some (List.replicate a1.toNat (l0.getD 0 0)) else none
theorem slices_Repeat_int64_int64.copy (W : World) (b m o r : Nat) (x : Int) (h : Arr W b 2 .i64 (List.replicate o x ++ List.replicate (m - o) 0)) (hr : o + r ≤ m) (a : Addr) (dLen dCap sLen sCap : Nat)
    (hn : r = Nat.min sLen dLen) (hsrc : ∀ j, j < r → W.cell? (a.add j) = some (.int .i64 x)) (ty : TypeId) :
    ∃ W2, (Builtin.copy_ #[22, 22] ty #[.slice (some ⟨b, o, none⟩) dLen dCap, .slice (some a) sLen sCap]).run Try.prog W = .ok (.int .i64 (r : Int)) W2 ∧
      Arr W2 b 2 .i64 (List.replicate (o + r) x ++ List.replicate (m - (o + r)) 0) ∧ ∀ B, B ≤ b → Below B W W2 := by
  have e := run_copy_row (P := Try.prog) W 22 22 ty 2 b o dLen dCap a sLen sCap _ 2 (List.replicate r (Value.int .i64 x)) Try.underlying22 (by kernel_rfl) h.at_ (by simpa using hn)
    (fun j v hj => by
      rw [List.getElem?_replicate] at hj
      split at hj
      · cases hj; exact hsrc j ‹_›
      · cases hj) (by simp only [List.size_toArray, List.length_map, List.length_append, List.length_replicate]; omega) (by simp [Value.oneCell'])
  refine ⟨_, by rw [e, List.length_replicate]; rfl, ⟨?_⟩, fun B hB => below_setRow (Below.refl _ _) hB _⟩
  rw [setRow_heap W b _ _ _ _ h.at_]
  congr 3
  simp only [List.map_append, List.map_replicate, List.length_replicate]
  rw [List.take_append_of_le_length (by simp), List.take_of_length_le (by simp), List.drop_append, List.drop_of_length_le (by simp)]
  simp only [List.nil_append, List.length_replicate, List.drop_replicate, List.replicate_append_replicate]
  rw [show m - o - (o + r - o) = m - (o + r) by omega]
set_option maxHeartbeats 2000000 in
set_option maxRecDepth 100000 in
theorem slices_Repeat_int64_int64.calls (A0 : Option Addr) (c0 : Nat) (l0 : List Int) (a1 : Int) (r : List Int) (w : World) (hr0 : Kd.C (Kd.int .i64) w A0 l0.length l0) (hc0 : l0.length ≤ c0) (h : slices_Repeat_int64_int64.f l0 a1 = some r) :
    Calls Try.prog 31 #[.slice A0 l0.length c0, .int .i64 a1] w fun e w' => ∃ v0_ : Value, e = .returned (v0_) ∧ Kd.R (Kd.int .i64) 2 w' w.heap.size (fun _ => True) v0_ r ∧ Below w.heap.size w w' := by
  unfold slices_Repeat_int64_int64.f at h
  split at h
  · rename_i hn
    obtain ⟨hl, h1, h2⟩ := hn
    obtain rfl := Option.some.inj h
    clear h
    obtain ⟨x, rfl⟩ : ∃ x, l0 = [x] := by
      cases l0 with
      | nil => simp at hl
      | cons x t => cases t with
        | nil => exact ⟨x, rfl⟩
        | cons _ _ => simp at hl
    clear hl
    obtain ⟨m, rfl⟩ := Int.eq_ofNat_of_zero_le (show 0 ≤ a1 by omega)
    obtain ⟨ad, rfl, hc⟩ := Kd.at_int hr0 0 (by omega) (by simp)
    simp at hc
    have hM := fun W => Try.bits_Mul 1 m (by omega) (by omega) W
    rw [show 1 * m / 18446744073709551616 = 0 by omega, show 1 * m % 18446744073709551616 = m by omega] at hM
    have hmk := run_make_int 22 2 .i64 8 Try.underlying22 (by kernel_rfl) m (by omega) (by omega)
    clear hr0
    simp only [List.length_cons, List.length_nil, Nat.zero_add]
    go_enter Try.func31, Try.ntmps31
    go_wp2_with (first | (go_at_call 41; refine (hM _).mono ?_; rintro e w2 ⟨rfl, rfl⟩))
    have hA0 : Arr (w2.alloc (.cells (Array.replicate m (.int .i64 0)) 2)) w2.heap.size 2 .i64 (List.replicate 0 x ++ List.replicate (m - 0) 0) := by
      have := Arr.new w2 2 .i64 (List.replicate m 0)
      simpa using this
    have hB0 := (Below.refl w2.heap.size w2).alloc (Nat.le_refl _) (.cells (Array.replicate m (.int .i64 0)) 2)
    obtain ⟨W2, e2, hA, hB⟩ := slices_Repeat_int64_int64.copy _ _ m 0 1 x hA0 (by omega) ad m m 1 c0 (by show 1 = min 1 m; omega) (fun j hj => by
      obtain rfl : j = 0 := by omega
      exact hB0.cell (World.block_lt_of_cell? _ _ hc) ▸ hc) 3
    rw [e2]
    have HA := Aside0.mk hA
    have HB := Aside0.mk (hB0.trans (hB _ (Nat.le_refl _)))
    clear hA hB hA0 hB0 e2 hc hM hmk
    go_wp2_with fail
    go_loopw [8] (fun i wr => ∃ k : Nat, 1 ≤ k ∧ k ≤ m ∧ i = .int .i64 k ∧ Aside0 (Arr wr w2.heap.size 2 .i64 (List.replicate k x ++ List.replicate (m - k) 0)) ∧ Aside0 (Below w2.heap.size w2 wr)) (fun i _ => m - (intOf i).toNat)
    case atStart => exact ⟨1, by omega, by omega, rfl, HA, HB⟩
    case round =>
      obtain ⟨k, k1, hk, rfl, HA, HB⟩ := hrel
      by_cases hlt : k < m
      · go_wp2_with fail
        obtain ⟨W3, e3, hA, hB⟩ := slices_Repeat_int64_int64.copy _ _ m k (min k (m - k)) x HA.out.drew (by omega) ⟨w2.heap.size, 0, none⟩ (m - k) (m - k) k m rfl (fun j hj => by
          have := HA.out.drew.cell j (by simp only [List.length_append, List.length_replicate]; omega)
          rw [List.getD_eq_getElem?_getD, List.getElem?_append_left (by rw [List.length_replicate]; omega), List.getElem?_replicate, if_pos (by omega), Option.getD_some] at this
          have e0 : (⟨w2.heap.size, 0, none⟩ : Addr).add j = ⟨w2.heap.size, j, none⟩ := by unfold Addr.add; split <;> simp_all
          rw [e0]; exact this) 3
        have HA3 := Aside0.mk hA
        have HB3 := Aside0.mk (HB.out.drew.trans (hB _ (Nat.le_refl _)))
        clear hA hB HA HB
        have hne : ¬ m = k := by omega
        go_region_law (refine step_copy_runI rfl _ _ 22 22 rfl (.slice (some ⟨w2.heap.size, k, none⟩) (m - k) (m - k)) (.slice (some ⟨w2.heap.size, 0, none⟩) k m) (by simp [Act.eval, Act.put, hne]) (by simp [Act.eval, Act.put]) e3 ?_)
        have hw : IntKind.i64.wrap ((k : Int) + ((min k (m - k) : Nat) : Int)) = ((k + min k (m - k) : Nat) : Int) := by rw [IntKind.wrap_i64]; omega
        go_simp
        go_round
        case rel => exact ⟨_, _, _, _, _, _, _, _, _, _, _, _, _, _, ⟨k + min k (m - k), by omega, by omega, rfl, HA3, HB3⟩, rfl⟩
        case measure => simp [intOf]; omega
      · obtain rfl : k = m := by omega
        go_wp2_with fail
        go_ret
        refine ⟨_, rfl, ?_, HB.out⟩
        have := HA.out.toR w2.heap.size (Nat.le_refl _) (by simp [maxLen]; omega)
        simpa using this
  · cases h


end Go.Proofs.Ythbbfbhgcoffeaa.Print
