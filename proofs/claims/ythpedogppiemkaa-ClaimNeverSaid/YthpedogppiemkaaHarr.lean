import Derived.Test.YthpedogppiemkaaPrint0
import Derived.Shelf.GgSortFunc.SW
import Derived.Laws.MakeOwn
import Derived.Laws.OwnMore
namespace Go.Proofs.Ythpedogppiemkaa.Print
open Go.RowKit Go.Proofs.YthpedogppiemkaaW.PrintWords Go.Proofs.YthpedogppiemkaaW.PrintLast Go.Proofs.YthpedogppiemkaaW.PrintMore

/-- Block b is a row of just these numbers, none of them frozen. -/
structure Arr (W : World) (b T : Nat) (k : IntKind) (xs : List Int) : Prop where
  at_ : W.heap[b]? = some (.cells (xs.map (Value.int k)).toArray T (0, 0))

variable {W W' : World} {b T : Nat} {k : IntKind} {xs : List Int}

theorem Arr.lt (h : Arr W b T k xs) : b < W.heap.size := by
  have := h.at_
  rcases Nat.lt_or_ge b W.heap.size with h' | h'
  · exact h'
  · rw [Array.getElem?_eq_none h'] at this; cases this
theorem Arr.cell (h : Arr W b T k xs) (i : Nat) (hi : i < xs.length) : W.cell? ⟨b, i, none⟩ = some (.int k (xs.getD i 0)) := by
  simp [World.cell?, h.at_, hi]
theorem Arr.frozen (h : Arr W b T k xs) (i : Nat) : W.frozen? ⟨b, i, none⟩ = false := by
  simp [World.frozen?, h.at_]
theorem Arr.of_heap (h : Arr W b T k xs) (e : W'.heap[b]? = W.heap[b]?) : Arr W' b T k xs := ⟨e.trans h.at_⟩
theorem Arr.drewN (h : Arr W b T k xs) (n : Nat) : Arr (W.drewN n) b T k xs := ⟨h.at_⟩
theorem Arr.drew (h : Arr W b T k xs) : Arr W.drew b T k xs := ⟨h.at_⟩
theorem Arr.alloc (h : Arr W b T k xs) (o : Obj) : Arr (W.alloc o) b T k xs := h.of_heap (by
  show (W.heap.push o)[b]? = _
  rw [Array.getElem?_push, if_neg (Nat.ne_of_lt h.lt)])
theorem Arr.other (h : Arr W b T k xs) (p : Addr) (hp : b ≠ p.block) (u : Value) : Arr (W.setCell p u) b T k xs := h.of_heap (Below.heap_setCell W p u b hp)
theorem Arr.set (h : Arr W b T k xs) (i : Nat) (v : Int) : Arr (W.setCell ⟨b, i, none⟩ (.int k v)) b T k (xs.set i v) := by
  refine ⟨?_⟩
  simp only [World.setCell, Array.getElem?_modify, if_true, h.at_, Option.map_some]
  simp [List.map_set]
theorem Arr.new (W : World) (T : Nat) (k : IntKind) (xs : List Int) : Arr (W.alloc (.cells (xs.map (Value.int k)).toArray T (0, 0))) W.heap.size T k xs :=
  ⟨by show (W.heap.push _)[_]? = _; rw [Array.getElem?_push, if_pos rfl]⟩
theorem Arr.below (h : Arr W b T k xs) {B : Nat} (hb : Below B W W') (hlt : b < B) : Arr W' b T k xs := h.of_heap (hb.block b hlt)

/-- A row of numbers made. -/
theorem run_make_int (t e : TypeId) (k : IntKind) (bytes : Nat) (ht : Try.prog.underlying t = some (.slice e)) (hi : (Try.prog.info? e).map (fun i => (i.zero, i.size, i.bytes)) = some (some (.int k 0), 1, bytes))
    (n : Nat) (hn : bytes * n ≤ 281474976710656) (hm : n ≤ 9223372036854775807) (W : World) :
    (Instr.makeSlice t (.int .i64 (n : Int)) (.int .i64 (n : Int))).run Try.prog W = .ok (.slice (some ⟨W.heap.size, 0, none⟩) n n) (W.alloc (.cells ((List.replicate n (0 : Int)).map (Value.int k)).toArray e (0, 0))) := by
  obtain ⟨i0, h, hz, hs, hb⟩ := info_parts hi
  have := run_make (P := Try.prog) W t e i0 (.int k 0) ht h hz .i64 .i64 (n : Int) (n : Int) (by omega) (Int.le_refl _) (by rw [hb]; omega) (by omega)
  rw [this, hs, Nat.mul_one, Int.toNat_natCast]
  have e1 : madeCells (Value.int k 0).cells n = ((List.replicate n (0 : Int)).map (Value.int k)).toArray := by
    apply Array.toList_inj.1
    rw [show (Value.int k 0).cells = #[Value.int k 0] from rfl, toList_madeCells_one]
    simp
  rw [e1]

/-! ### a block of one cell -/
structure One (W : World) (b T : Nat) (v : Value) : Prop where
  at_ : W.heap[b]? = some (.cells #[v] T (0, 0))
variable {v : Value}
theorem One.lt (h : One W b T v) : b < W.heap.size := by
  have := h.at_
  rcases Nat.lt_or_ge b W.heap.size with h' | h'
  · exact h'
  · rw [Array.getElem?_eq_none h'] at this; cases this
theorem One.cell (h : One W b T v) : W.cell? ⟨b, 0, none⟩ = some v := by simp [World.cell?, h.at_]
theorem One.frozen (h : One W b T v) : W.frozen? ⟨b, 0, none⟩ = false := by simp [World.frozen?, h.at_]
theorem One.of_heap (h : One W b T v) (e : W'.heap[b]? = W.heap[b]?) : One W' b T v := ⟨e.trans h.at_⟩
theorem One.drewN (h : One W b T v) (n : Nat) : One (W.drewN n) b T v := ⟨h.at_⟩
theorem One.drew (h : One W b T v) : One W.drew b T v := ⟨h.at_⟩
theorem One.alloc (h : One W b T v) (o : Obj) : One (W.alloc o) b T v := h.of_heap (by
  show (W.heap.push o)[b]? = _
  rw [Array.getElem?_push, if_neg (Nat.ne_of_lt h.lt)])
theorem One.other (h : One W b T v) (p : Addr) (hp : b ≠ p.block) (u : Value) : One (W.setCell p u) b T v := h.of_heap (Below.heap_setCell W p u b hp)
theorem One.set (h : One W b T v) (u : Value) : One (W.setCell ⟨b, 0, none⟩ u) b T u := by
  refine ⟨?_⟩
  simp only [World.setCell, Array.getElem?_modify, if_true, h.at_, Option.map_some]
  simp
theorem One.new (W : World) (T : Nat) (v : Value) : One (W.alloc (.cells #[v] T (0, 0))) W.heap.size T v :=
  ⟨by show (W.heap.push _)[_]? = _; rw [Array.getElem?_push, if_pos rfl]⟩
theorem One.below (h : One W b T v) {B : Nat} (hb : Below B W W') (hlt : b < B) : One W' b T v := h.of_heap (hb.block b hlt)

/-! ### the sort's world -/
open Go.Sort
theorem heap_sortWorld_other {α : Type} [Inhabited α] (enc : α → Value) (w : World) (blk off m : Nat) (dk : Array α) (os : Array Obj) (b : Nat) (hb : b ≠ blk) (hlt : b < w.heap.size) :
    (sortWorld enc w blk off m dk os).heap[b]? = w.heap[b]? := by
  unfold sortWorld
  rw [heap_grow_old _ _ (by rw [size_putRow]; exact hlt)]
  simp only [putRow, mapBlock, Sort.ahead, Array.getElem?_modify]
  rw [if_neg (by omega)]
theorem size_sortWorld {α : Type} [Inhabited α] (enc : α → Value) (w : World) (blk off m : Nat) (dk : Array α) (os : Array Obj) : w.heap.size ≤ (sortWorld enc w blk off m dk os).heap.size := by
  unfold sortWorld
  rw [size_grow, size_putRow]
  exact Nat.le_add_right _ _

/-- From the row of numbers to the form in which results are told. -/
theorem Arr.toR (h : Arr W b T k xs) (base : Nat) (hb : base ≤ b) (hm : xs.length ≤ maxLen) : Kd.R (Kd.int k) T W base (fun _ => True) (.slice (some ⟨b, 0, none⟩) xs.length xs.length) xs := by
  refine ⟨fun _ _ => trivial, encs (Value.int k) xs, ⟨?_, .inr ⟨b, xs.length, _, rfl, hb, h.at_, Nat.le_refl _, hm, ?_, ?_⟩⟩, Kd.reps_scalar xs⟩
  · show (encs (Value.int k) xs).length = xs.length * 1
    simp [encs]
  · show _ = xs.length * 1
    simp
  · show List.take (xs.length * 1) _ = _
    rw [Nat.mul_one]
    simp [encs, List.take_of_length_le]
end Go.Proofs.Ythpedogppiemkaa.Print
