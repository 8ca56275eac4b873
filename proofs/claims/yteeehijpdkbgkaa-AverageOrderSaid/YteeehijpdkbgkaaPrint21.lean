/- Contracts of the program's functions over this seat's translation, written out by this session's own driver. Conditions: those in each statement. -/
import Derived.Test.YteeehijpdkbgkaaPrint0
import Derived.Test.YteeehijpdkbgkaaPrint12
import Derived.Test.YteeehijpdkbgkaaPrint14
import Derived.Test.YteeehijpdkbgkaaMshort
namespace Go.Proofs.Yteeehijpdkbgkaa.Print
open Go.RowKit Go.Proofs.YteeehijpdkbgkaaW.PrintWords Go.Proofs.YteeehijpdkbgkaaW.PrintLast Go.Proofs.YteeehijpdkbgkaaW.PrintMore
attribute [local go_sem] max2_int min2_int max_two min_two max_three min_three max_four min_four   -- for this text's walks alone
set_option linter.unusedVariables false
set_option linter.unusedSimpArgs false

/-! ### supercargolaw43_AverageOrder: function 6 -/
def supercargolaw43_AverageOrder.j0 : Nat → List (S35) → List Int → Int → Int → Int → Bool → Option (Bool)
  | 0, _, _, _, _, _, _ => none
  | k + 1, x0, x1, x2, x3, x4, x72 => if x72 = true then (some true) else ((some (([] : List Int) : List Int)).bind fun y304 => (if y304.length + x1.length < 17592186044416 then ((some (y304 ++ x1 : List Int)).bind fun y307 => (if 0 ≤ x3 then (if x3 < (y307.length : Int) then ((average_Whole.f k x0 x1 x2).bind fun bt312 => ((average_Whole.f k x0 (y307.set (x3 : Int).toNat (wrap64 ((rd y307 x3) - x4))) (wrap64 (x2 + x4))).bind fun bt319 => (if (wrap64 (x2 + x4)) > 1099511627776 then (some (bt319.2.2 == 1)) else (if bt312.2.2 = bt319.2.2 then ((supercargoref04_Same.f k bt312.1 bt319.1).bind fun t326 => (some t326)) else (none))))) else (none)) else (none))) else (none)))
def supercargolaw43_AverageOrder.f (k : Nat) (l0 : List (S35)) (l1 : List Int) (a2 : Int) (a3 : Int) (a4 : Int) : Option (Bool) := (supercargolaw43_awake.f k).bind fun t299 => (if t299 = true then ((supercargolaw43_few.f k l0 l1).bind fun t300 => (if t300 = true then (if (l1.length : Int) = (l0.length : Int) then (if a3 < 0 then (supercargolaw43_AverageOrder.j0 k l0 l1 a2 a3 a4 true) else (if a3 ≥ (l1.length : Int) then (supercargolaw43_AverageOrder.j0 k l0 l1 a2 a3 a4 true) else (if 0 ≤ a3 then (if a3 < (l1.length : Int) then (if a3 < (l0.length : Int) then (if (rd l1 a3) > ((rd_T35 l0 a3).f1) then (supercargolaw43_AverageOrder.j0 k l0 l1 a2 a3 a4 true) else (if a4 < 0 then (supercargolaw43_AverageOrder.j0 k l0 l1 a2 a3 a4 true) else (if a4 > (rd l1 a3) then (supercargolaw43_AverageOrder.j0 k l0 l1 a2 a3 a4 true) else (if a2 < 0 then (supercargolaw43_AverageOrder.j0 k l0 l1 a2 a3 a4 true) else (supercargolaw43_AverageOrder.j0 k l0 l1 a2 a3 a4 (decide (a2 > 1099511627776))))))) else (none)) else (none)) else (none)))) else (supercargolaw43_AverageOrder.j0 k l0 l1 a2 a3 a4 true)) else (supercargolaw43_AverageOrder.j0 k l0 l1 a2 a3 a4 true))) else (none))
theorem supercargolaw43_AverageOrder.mono_l : ∀ k, (∀ y0 y1 y2 y3 y4 y5, LeO (supercargolaw43_AverageOrder.j0 k y0 y1 y2 y3 y4 y5) (supercargolaw43_AverageOrder.j0 (k + 1) y0 y1 y2 y3 y4 y5))
  | 0 => fun _ _ _ _ _ _ r h => by simp [supercargolaw43_AverageOrder.j0] at h
  | k + 1 => by
    have ih0 := supercargolaw43_AverageOrder.mono_l k
    · intro y0 y1 y2 y3 y4 y5
      unfold supercargolaw43_AverageOrder.j0
      repeat' first
      | (with_reducible exact ih0 _ _ _ _ _ _)
      | (with_reducible exact average_Whole.mono _ _ _ _)
      | (with_reducible exact supercargolaw43_awake.mono _)
      | (with_reducible exact supercargolaw43_few.mono _ _ _)
      | (with_reducible exact supercargoref04_Same.mono _ _ _)
      | (with_reducible exact LeO.refl _)
      | (with_reducible exact LeO.none _)
      | (with_reducible refine LeO.ite ?_ ?_)
      | (with_reducible refine LeO.bind ?_ (fun _ => ?_))
      | exact ih0 _ _ _ _ _ _
      | exact average_Whole.mono _ _ _ _
      | exact supercargolaw43_awake.mono _
      | exact supercargolaw43_few.mono _ _ _
      | exact supercargoref04_Same.mono _ _ _
      | exact LeO.none _
      | refine LeO.ite ?_ ?_
      | refine LeO.bind ?_ (fun _ => ?_)
theorem supercargolaw43_AverageOrder.mono : ∀ a0 a1 a2 a3 a4 k, LeO (supercargolaw43_AverageOrder.f k a0 a1 a2 a3 a4) (supercargolaw43_AverageOrder.f (k + 1) a0 a1 a2 a3 a4) := by
  intro a0 a1 a2 a3 a4 k
  have ih0 := supercargolaw43_AverageOrder.mono_l k
  unfold supercargolaw43_AverageOrder.f
  repeat' first
      | (with_reducible exact ih0 _ _ _ _ _ _)
      | (with_reducible exact average_Whole.mono _ _ _ _)
      | (with_reducible exact supercargolaw43_awake.mono _)
      | (with_reducible exact supercargolaw43_few.mono _ _ _)
      | (with_reducible exact supercargoref04_Same.mono _ _ _)
      | (with_reducible exact LeO.refl _)
      | (with_reducible exact LeO.none _)
      | (with_reducible refine LeO.ite ?_ ?_)
      | (with_reducible refine LeO.bind ?_ (fun _ => ?_))
      | exact ih0 _ _ _ _ _ _
      | exact average_Whole.mono _ _ _ _
      | exact supercargolaw43_awake.mono _
      | exact supercargolaw43_few.mono _ _ _
      | exact supercargoref04_Same.mono _ _ _
      | exact LeO.none _
      | refine LeO.ite ?_ ?_
      | refine LeO.bind ?_ (fun _ => ?_)
def supercargolaw43_AverageOrder.T3 : Bool × List (List Nat × List Nat) := (true, [([], []), ([], []), ([0, 1], [0, 1]), ([2], [2]), ([3, 2], [3]), ([4], [4]), ([5, 4], [4, 5]), ([4], [4]), ([7, 4], [4, 7]), ([6, 8, 4], [4, 6, 8]), ([4, 9], [4, 9]), ([10, 4], [10]), ([11], [11]), ([12, 11], [11, 12]), ([11, 13], [11, 13]), ([14, 11], [14]), ([15], [15]), ([15], [15]), ([17, 15], [15, 17]), ([16, 18, 15], [15, 16, 18]), ([15, 19], [15, 19]), ([20, 15], [20]), ([21], [21]), ([21], [21]), ([22, 23, 21], [21, 22, 23]), ([24, 21], [21, 24]), ([21], [21]), ([21], [21]), ([26, 27, 21], [21, 26, 27]), ([28, 21], [21, 28]), ([29, 21], [21, 29]), ([25, 30, 21], [21, 25, 30]), ([21, 31], [21, 31]), ([32, 21], [32]), ([33], [33]), ([34, 33], [33, 34]), ([33, 35], [33, 35]), ([36, 33], [36]), ([37], [37]), ([37], [37]), ([37], [37]), ([39, 40, 37], [37, 39, 40]), ([41, 37], [37, 41]), ([38, 42, 37], [37, 38, 42]), ([37, 43], [37, 43]), ([44, 37], [44]), ([45], [45]), ([46, 45], [45, 46]), ([45, 47], [45, 47]), ([48, 45], [48]), ([49], [49]), ([50, 49], [49, 50]), ([49, 51], [49, 51])])
def supercargolaw43_AverageOrder.B3 : List Nat := [0, 0, 3, 7, 15, 31, 63, 31, 159, 511, 1023, 2047, 4095, 8191, 16383, 32767, 65535, 65535, 196607, 524287, 1048575, 2097151, 4194303, 4194303, 16777215, 33554431, 4194303, 4194303, 205520895, 473956351, 1010827263, 2147483647, 4294967295, 8589934591, 17179869183, 34359738367, 68719476735, 137438953471, 274877906943, 274877906943, 274877906943, 1924145348607, 4123168604159, 8796093022207, 17592186044415, 35184372088831, 70368744177663, 140737488355327, 281474976710655, 562949953421311, 1125899906842623, 2251799813685247, 4503599627370495]
theorem supercargolaw43_AverageOrder.tab3 : rtab .any (opsOf Try.f6 3) = supercargolaw43_AverageOrder.T3 := by kernel_rfl
theorem supercargolaw43_AverageOrder.bits3 : waitsOk supercargolaw43_AverageOrder.T3.2 supercargolaw43_AverageOrder.B3 = true := by kernel_rfl
def supercargolaw43_AverageOrder.m0 : Array Bool := #[false, false, false, false, false, false, false, false, false, false, false, false, false, false, false, false, false, false, false, false, false, false, false, false, false, false, false, false, false, false, false, false, false, false, false, false, false, false, false, false, false, false, false, false, false, false, false, false, false, false, false, false, false]
def supercargolaw43_AverageOrder.m1 : Array Bool := #[true, false, false, false, false, false, false, false, false, false, false, false, false, false, false, false, false, false, false, false, false, false, false, false, false, false, false, false, false, false, false, false, false, false, false, false, false, false, false, false, false, false, false, false, false, false, false, false, false, false, false, false, false]
def supercargolaw43_AverageOrder.m2 : Array Bool := #[true, true, false, false, false, false, false, false, false, false, false, false, false, false, false, false, false, false, false, false, false, false, false, false, false, false, false, false, false, false, false, false, false, false, false, false, false, false, false, false, false, false, false, false, false, false, false, false, false, false, false, false, false]
def supercargolaw43_AverageOrder.m3 : Array Bool := #[true, true, true, false, false, false, false, false, false, false, false, false, false, false, false, false, false, false, false, false, false, false, false, false, false, false, false, false, false, false, false, false, false, false, false, false, false, false, false, false, false, false, false, false, false, false, false, false, false, false, false, false, false]
def supercargolaw43_AverageOrder.m4 : Array Bool := #[true, true, true, true, false, false, false, false, false, false, false, false, false, false, false, false, false, false, false, false, false, false, false, false, false, false, false, false, false, false, false, false, false, false, false, false, false, false, false, false, false, false, false, false, false, false, false, false, false, false, false, false, false]
def supercargolaw43_AverageOrder.m5 : Array Bool := #[true, true, true, true, true, false, false, false, false, false, false, false, false, false, false, false, false, false, false, false, false, false, false, false, false, false, false, false, false, false, false, false, false, false, false, false, false, false, false, false, false, false, false, false, false, false, false, false, false, false, false, false, false]
def supercargolaw43_AverageOrder.m6 : Array Bool := #[true, true, true, true, true, true, false, false, false, false, false, false, false, false, false, false, false, false, false, false, false, false, false, false, false, false, false, false, false, false, false, false, false, false, false, false, false, false, false, false, false, false, false, false, false, false, false, false, false, false, false, false, false]
def supercargolaw43_AverageOrder.m7 : Array Bool := #[true, true, true, true, true, true, true, false, false, false, false, false, false, false, false, false, false, false, false, false, false, false, false, false, false, false, false, false, false, false, false, false, false, false, false, false, false, false, false, false, false, false, false, false, false, false, false, false, false, false, false, false, false]
def supercargolaw43_AverageOrder.m8 : Array Bool := #[true, true, true, true, true, true, true, true, false, false, false, false, false, false, false, false, false, false, false, false, false, false, false, false, false, false, false, false, false, false, false, false, false, false, false, false, false, false, false, false, false, false, false, false, false, false, false, false, false, false, false, false, false]
def supercargolaw43_AverageOrder.m9 : Array Bool := #[true, true, true, true, true, true, true, true, true, false, false, false, false, false, false, false, false, false, false, false, false, false, false, false, false, false, false, false, false, false, false, false, false, false, false, false, false, false, false, false, false, false, false, false, false, false, false, false, false, false, false, false, false]
def supercargolaw43_AverageOrder.m10 : Array Bool := #[true, true, true, true, true, true, true, true, true, true, false, false, false, false, false, false, false, false, false, false, false, false, false, false, false, false, false, false, false, false, false, false, false, false, false, false, false, false, false, false, false, false, false, false, false, false, false, false, false, false, false, false, false]
def supercargolaw43_AverageOrder.m11 : Array Bool := #[true, true, true, true, true, true, true, true, true, true, true, false, false, false, false, false, false, false, false, false, false, false, false, false, false, false, false, false, false, false, false, false, false, false, false, false, false, false, false, false, false, false, false, false, false, false, false, false, false, false, false, false, false]
def supercargolaw43_AverageOrder.m12 : Array Bool := #[true, true, true, true, true, true, true, true, true, true, true, true, false, false, false, false, false, false, false, false, false, false, false, false, false, false, false, false, false, false, false, false, false, false, false, false, false, false, false, false, false, false, false, false, false, false, false, false, false, false, false, false, false]
def supercargolaw43_AverageOrder.m13 : Array Bool := #[true, true, true, true, true, true, true, true, true, true, true, true, true, false, false, false, false, false, false, false, false, false, false, false, false, false, false, false, false, false, false, false, false, false, false, false, false, false, false, false, false, false, false, false, false, false, false, false, false, false, false, false, false]
def supercargolaw43_AverageOrder.m14 : Array Bool := #[true, true, true, true, true, true, true, true, true, true, true, true, true, true, false, false, false, false, false, false, false, false, false, false, false, false, false, false, false, false, false, false, false, false, false, false, false, false, false, false, false, false, false, false, false, false, false, false, false, false, false, false, false]
def supercargolaw43_AverageOrder.m15 : Array Bool := #[true, true, true, true, true, true, true, true, true, true, true, true, true, true, true, false, false, false, false, false, false, false, false, false, false, false, false, false, false, false, false, false, false, false, false, false, false, false, false, false, false, false, false, false, false, false, false, false, false, false, false, false, false]
def supercargolaw43_AverageOrder.m16 : Array Bool := #[true, true, true, true, true, true, true, true, true, true, true, true, true, true, true, true, false, false, false, false, false, false, false, false, false, false, false, false, false, false, false, false, false, false, false, false, false, false, false, false, false, false, false, false, false, false, false, false, false, false, false, false, false]
def supercargolaw43_AverageOrder.m17 : Array Bool := #[true, true, true, true, true, true, true, true, true, true, true, true, true, true, true, true, true, false, false, false, false, false, false, false, false, false, false, false, false, false, false, false, false, false, false, false, false, false, false, false, false, false, false, false, false, false, false, false, false, false, false, false, false]
def supercargolaw43_AverageOrder.m18 : Array Bool := #[true, true, true, true, true, true, true, true, true, true, true, true, true, true, true, true, true, true, false, false, false, false, false, false, false, false, false, false, false, false, false, false, false, false, false, false, false, false, false, false, false, false, false, false, false, false, false, false, false, false, false, false, false]
def supercargolaw43_AverageOrder.m19 : Array Bool := #[true, true, true, true, true, true, true, true, true, true, true, true, true, true, true, true, true, true, true, false, false, false, false, false, false, false, false, false, false, false, false, false, false, false, false, false, false, false, false, false, false, false, false, false, false, false, false, false, false, false, false, false, false]
def supercargolaw43_AverageOrder.m20 : Array Bool := #[true, true, true, true, true, true, true, true, true, true, true, true, true, true, true, true, true, true, true, true, false, false, false, false, false, false, false, false, false, false, false, false, false, false, false, false, false, false, false, false, false, false, false, false, false, false, false, false, false, false, false, false, false]
def supercargolaw43_AverageOrder.m21 : Array Bool := #[true, true, true, true, true, true, true, true, true, true, true, true, true, true, true, true, true, true, true, true, true, false, false, false, false, false, false, false, false, false, false, false, false, false, false, false, false, false, false, false, false, false, false, false, false, false, false, false, false, false, false, false, false]
def supercargolaw43_AverageOrder.m22 : Array Bool := #[true, true, true, true, true, true, true, true, true, true, true, true, true, true, true, true, true, true, true, true, true, true, false, false, false, false, false, false, false, false, false, false, false, false, false, false, false, false, false, false, false, false, false, false, false, false, false, false, false, false, false, false, false]
def supercargolaw43_AverageOrder.m23 : Array Bool := #[true, true, true, true, true, true, true, true, true, true, true, true, true, true, true, true, true, true, true, true, true, true, true, false, false, false, false, false, false, false, false, false, false, false, false, false, false, false, false, false, false, false, false, false, false, false, false, false, false, false, false, false, false]
def supercargolaw43_AverageOrder.m24 : Array Bool := #[true, true, true, true, true, true, true, true, true, true, true, true, true, true, true, true, true, true, true, true, true, true, true, true, false, false, false, false, false, false, false, false, false, false, false, false, false, false, false, false, false, false, false, false, false, false, false, false, false, false, false, false, false]
def supercargolaw43_AverageOrder.m25 : Array Bool := #[true, true, true, true, true, true, true, true, true, true, true, true, true, true, true, true, true, true, true, true, true, true, true, true, true, false, false, false, false, false, false, false, false, false, false, false, false, false, false, false, false, false, false, false, false, false, false, false, false, false, false, false, false]
def supercargolaw43_AverageOrder.m26 : Array Bool := #[true, true, true, true, true, true, true, true, true, true, true, true, true, true, true, true, true, true, true, true, true, true, true, true, true, false, true, false, false, false, false, false, false, false, false, false, false, false, false, false, false, false, false, false, false, false, false, false, false, false, false, false, false]
def supercargolaw43_AverageOrder.m27 : Array Bool := #[true, true, true, true, true, true, true, true, true, true, true, true, true, true, true, true, true, true, true, true, true, true, true, true, true, false, true, true, false, false, false, false, false, false, false, false, false, false, false, false, false, false, false, false, false, false, false, false, false, false, false, false, false]
def supercargolaw43_AverageOrder.m28 : Array Bool := #[true, true, true, true, true, true, true, true, true, true, true, true, true, true, true, true, true, true, true, true, true, true, true, true, true, false, true, true, true, false, false, false, false, false, false, false, false, false, false, false, false, false, false, false, false, false, false, false, false, false, false, false, false]
def supercargolaw43_AverageOrder.m29 : Array Bool := #[true, true, true, true, true, true, true, true, true, true, true, true, true, true, true, true, true, true, true, true, true, true, true, true, true, false, true, true, true, true, false, false, false, false, false, false, false, false, false, false, false, false, false, false, false, false, false, false, false, false, false, false, false]
def supercargolaw43_AverageOrder.m30 : Array Bool := #[true, true, true, true, true, true, true, true, true, true, true, true, true, true, true, true, true, true, true, true, true, true, true, true, true, true, false, false, false, false, false, false, false, false, false, false, false, false, false, false, false, false, false, false, false, false, false, false, false, false, false, false, false]
def supercargolaw43_AverageOrder.m31 : Array Bool := #[true, true, true, true, true, true, true, true, true, true, true, true, true, true, true, true, true, true, true, true, true, true, true, true, true, true, true, false, false, false, false, false, false, false, false, false, false, false, false, false, false, false, false, false, false, false, false, false, false, false, false, false, false]
def supercargolaw43_AverageOrder.m32 : Array Bool := #[true, true, true, true, true, true, true, true, true, true, true, true, true, true, true, true, true, true, true, true, true, true, true, true, true, true, true, true, false, false, false, false, false, false, false, false, false, false, false, false, false, false, false, false, false, false, false, false, false, false, false, false, false]
def supercargolaw43_AverageOrder.m33 : Array Bool := #[true, true, true, true, true, true, true, true, true, true, true, true, true, true, true, true, true, true, true, true, true, true, true, true, true, true, true, true, true, false, false, false, false, false, false, false, false, false, false, false, false, false, false, false, false, false, false, false, false, false, false, false, false]
def supercargolaw43_AverageOrder.m34 : Array Bool := #[true, true, true, true, true, true, true, true, true, true, true, true, true, true, true, true, true, true, true, true, true, true, true, true, true, true, true, true, true, true, false, false, false, false, false, false, false, false, false, false, false, false, false, false, false, false, false, false, false, false, false, false, false]
def supercargolaw43_AverageOrder.m35 : Array Bool := #[true, true, true, true, true, true, true, true, true, true, true, true, true, true, true, true, true, true, true, true, true, true, true, true, true, true, true, true, true, true, true, false, false, false, false, false, false, false, false, false, false, false, false, false, false, false, false, false, false, false, false, false, false]
def supercargolaw43_AverageOrder.m36 : Array Bool := #[true, true, true, true, true, true, true, true, true, true, true, true, true, true, true, true, true, true, true, true, true, true, true, true, true, true, true, true, true, true, true, true, false, false, false, false, false, false, false, false, false, false, false, false, false, false, false, false, false, false, false, false, false]
def supercargolaw43_AverageOrder.m37 : Array Bool := #[true, true, true, true, true, true, true, true, true, true, true, true, true, true, true, true, true, true, true, true, true, true, true, true, true, true, true, true, true, true, true, true, true, false, false, false, false, false, false, false, false, false, false, false, false, false, false, false, false, false, false, false, false]
def supercargolaw43_AverageOrder.m38 : Array Bool := #[true, true, true, true, true, true, true, true, true, true, true, true, true, true, true, true, true, true, true, true, true, true, true, true, true, true, true, true, true, true, true, true, true, true, false, false, false, false, false, false, false, false, false, false, false, false, false, false, false, false, false, false, false]
def supercargolaw43_AverageOrder.m39 : Array Bool := #[true, true, true, true, true, true, true, true, true, true, true, true, true, true, true, true, true, true, true, true, true, true, true, true, true, true, true, true, true, true, true, true, true, true, true, false, false, false, false, false, false, false, false, false, false, false, false, false, false, false, false, false, false]
def supercargolaw43_AverageOrder.m40 : Array Bool := #[true, true, true, true, true, true, true, true, true, true, true, true, true, true, true, true, true, true, true, true, true, true, true, true, true, true, true, true, true, true, true, true, true, true, true, true, false, false, false, false, false, false, false, false, false, false, false, false, false, false, false, false, false]
def supercargolaw43_AverageOrder.m41 : Array Bool := #[true, true, true, true, true, true, true, true, true, true, true, true, true, true, true, true, true, true, true, true, true, true, true, true, true, true, true, true, true, true, true, true, true, true, true, true, true, false, false, false, false, false, false, false, false, false, false, false, false, false, false, false, false]
def supercargolaw43_AverageOrder.m42 : Array Bool := #[true, true, true, true, true, true, true, true, true, true, true, true, true, true, true, true, true, true, true, true, true, true, true, true, true, true, true, true, true, true, true, true, true, true, true, true, true, true, false, false, false, false, false, false, false, false, false, false, false, false, false, false, false]
def supercargolaw43_AverageOrder.m43 : Array Bool := #[true, true, true, true, true, true, true, true, true, true, true, true, true, true, true, true, true, true, true, true, true, true, true, true, true, true, true, true, true, true, true, true, true, true, true, true, true, true, true, false, false, false, false, false, false, false, false, false, false, false, false, false, false]
def supercargolaw43_AverageOrder.m44 : Array Bool := #[true, true, true, true, true, true, true, true, true, true, true, true, true, true, true, true, true, true, true, true, true, true, true, true, true, true, true, true, true, true, true, true, true, true, true, true, true, true, true, true, false, false, false, false, false, false, false, false, false, false, false, false, false]
def supercargolaw43_AverageOrder.m45 : Array Bool := #[true, true, true, true, true, true, true, true, true, true, true, true, true, true, true, true, true, true, true, true, true, true, true, true, true, true, true, true, true, true, true, true, true, true, true, true, true, true, true, true, true, false, false, false, false, false, false, false, false, false, false, false, false]
def supercargolaw43_AverageOrder.m46 : Array Bool := #[true, true, true, true, true, true, true, true, true, true, true, true, true, true, true, true, true, true, true, true, true, true, true, true, true, true, true, true, true, true, true, true, true, true, true, true, true, true, true, true, true, true, false, false, false, false, false, false, false, false, false, false, false]
def supercargolaw43_AverageOrder.m47 : Array Bool := #[true, true, true, true, true, true, true, true, true, true, true, true, true, true, true, true, true, true, true, true, true, true, true, true, true, true, true, true, true, true, true, true, true, true, true, true, true, true, true, true, true, true, true, false, false, false, false, false, false, false, false, false, false]
def supercargolaw43_AverageOrder.m48 : Array Bool := #[true, true, true, true, true, true, true, true, true, true, true, true, true, true, true, true, true, true, true, true, true, true, true, true, true, true, true, true, true, true, true, true, true, true, true, true, true, true, true, true, true, true, true, true, false, false, false, false, false, false, false, false, false]
def supercargolaw43_AverageOrder.m49 : Array Bool := #[true, true, true, true, true, true, true, true, true, true, true, true, true, true, true, true, true, true, true, true, true, true, true, true, true, true, true, true, true, true, true, true, true, true, true, true, true, true, true, true, true, true, true, true, true, false, false, false, false, false, false, false, false]
def supercargolaw43_AverageOrder.m50 : Array Bool := #[true, true, true, true, true, true, true, true, true, true, true, true, true, true, true, true, true, true, true, true, true, true, true, true, true, true, true, true, true, true, true, true, true, true, true, true, true, true, true, true, true, true, true, true, true, true, false, false, false, false, false, false, false]
def supercargolaw43_AverageOrder.m51 : Array Bool := #[true, true, true, true, true, true, true, true, true, true, true, true, true, true, true, true, true, true, true, true, true, true, true, true, true, true, true, true, true, true, true, true, true, true, true, true, true, true, true, true, true, true, true, true, true, true, true, false, false, false, false, false, false]
def supercargolaw43_AverageOrder.m52 : Array Bool := #[true, true, true, true, true, true, true, true, true, true, true, true, true, true, true, true, true, true, true, true, true, true, true, true, true, true, true, true, true, true, true, true, true, true, true, true, true, true, true, true, true, true, true, true, true, true, true, true, false, false, false, false, false]
def supercargolaw43_AverageOrder.m53 : Array Bool := #[true, true, true, true, true, true, true, true, true, true, true, true, true, true, true, true, true, true, true, true, true, true, true, true, true, true, true, true, true, true, true, true, true, true, true, true, true, true, true, true, true, true, true, true, true, true, true, true, true, false, false, false, false]
def supercargolaw43_AverageOrder.m54 : Array Bool := #[true, true, true, true, true, true, true, true, true, true, true, true, true, true, true, true, true, true, true, true, true, true, true, true, true, true, true, true, true, true, true, true, true, true, true, true, true, true, true, true, true, true, true, true, true, true, true, true, true, true, false, false, false]
def supercargolaw43_AverageOrder.m55 : Array Bool := #[true, true, true, true, true, true, true, true, true, true, true, true, true, true, true, true, true, true, true, true, true, true, true, true, true, true, true, true, true, true, true, true, true, true, true, true, true, true, true, true, true, true, true, true, true, true, true, true, true, true, true, false, false]
def supercargolaw43_AverageOrder.m56 : Array Bool := #[true, true, true, true, true, true, true, true, true, true, true, true, true, true, true, true, true, true, true, true, true, true, true, true, true, true, true, true, true, true, true, true, true, true, true, true, true, true, true, true, true, true, true, true, true, true, true, true, true, true, true, true, false]
def supercargolaw43_AverageOrder.m57 : Array Bool := #[true, true, true, true, true, true, true, true, true, true, true, true, true, true, true, true, true, true, true, true, true, true, true, true, true, true, true, true, true, true, true, true, true, true, true, true, true, true, true, true, true, true, true, true, true, true, true, true, true, true, true, true, true]
set_option maxHeartbeats 8000000 in
set_option maxRecDepth 100000 in
theorem supercargolaw43_AverageOrder.calls (k : Nat) (A0 : Option Addr) (c0 : Nat) (l0 : List (S35)) (A1 : Option Addr) (c1 : Nat) (l1 : List Int) (a2 : Int) (a3 : Int) (a4 : Int) (r : Bool) (w : World) (hr0 : Kd.C k35 w A0 l0.length l0) (hc0 : l0.length ≤ c0) (hr1 : Kd.C (Kd.int .i64) w A1 l1.length l1) (hc1 : l1.length ≤ c1) (h : supercargolaw43_AverageOrder.f k l0 l1 a2 a3 a4 = some r) :
    Calls Try.prog 6 #[.slice A0 l0.length c0, .slice A1 l1.length c1, .int .i64 a2, .int .i64 a3, .int .i64 a4] w fun e w' => e = .returned (.bool r) ∧ Below w.heap.size w w' := by
 have HR0 := Aside0.mk hr0
 have HC0 := Aside0.mk hc0
 clear hr0 hc0
 have HR1 := Aside0.mk hr1
 have HC1 := Aside0.mk hc1
 clear hr1 hc1
 have HB := Aside0.mk (Below.refl w.heap.size w)
 have H : ((supercargolaw43_awake.f k).bind fun t299 => (if t299 = true then ((supercargolaw43_few.f k l0 l1).bind fun t300 => (if t300 = true then (if (l1.length : Int) = (l0.length : Int) then (if a3 < 0 then (j0 k l0 l1 a2 a3 a4 true) else (if a3 ≥ (l1.length : Int) then (j0 k l0 l1 a2 a3 a4 true) else (if 0 ≤ a3 then (if a3 < (l1.length : Int) then (if a3 < (l0.length : Int) then (if (rd l1 a3) > ((rd_T35 l0 a3).f1) then (j0 k l0 l1 a2 a3 a4 true) else (if a4 < 0 then (j0 k l0 l1 a2 a3 a4 true) else (if a4 > (rd l1 a3) then (j0 k l0 l1 a2 a3 a4 true) else (if a2 < 0 then (j0 k l0 l1 a2 a3 a4 true) else (j0 k l0 l1 a2 a3 a4 (decide (a2 > 1099511627776))))))) else (none)) else (none)) else (none)))) else (j0 k l0 l1 a2 a3 a4 true)) else (j0 k l0 l1 a2 a3 a4 true))) else (none))) = some r := h
 clear h
 replace H := Option.bind_eq_some_iff.mp H
 obtain ⟨t299, A60, H⟩ := H
 replace H : (if t299 = true then ((supercargolaw43_few.f k l0 l1).bind fun t300 => (if t300 = true then (if (l1.length : Int) = (l0.length : Int) then (if a3 < 0 then (j0 k l0 l1 a2 a3 a4 true) else (if a3 ≥ (l1.length : Int) then (j0 k l0 l1 a2 a3 a4 true) else (if 0 ≤ a3 then (if a3 < (l1.length : Int) then (if a3 < (l0.length : Int) then (if (rd l1 a3) > ((rd_T35 l0 a3).f1) then (j0 k l0 l1 a2 a3 a4 true) else (if a4 < 0 then (j0 k l0 l1 a2 a3 a4 true) else (if a4 > (rd l1 a3) then (j0 k l0 l1 a2 a3 a4 true) else (if a2 < 0 then (j0 k l0 l1 a2 a3 a4 true) else (j0 k l0 l1 a2 a3 a4 (decide (a2 > 1099511627776))))))) else (none)) else (none)) else (none)))) else (j0 k l0 l1 a2 a3 a4 true)) else (j0 k l0 l1 a2 a3 a4 true))) else (none)) = some r := H
 have A6 := Aside0.mk A60
 clear A60
 by_cases c7 : t299 = true
 ·subst c7
  have H1 : ((supercargolaw43_few.f k l0 l1).bind fun t300 => (if t300 = true then (if (l1.length : Int) = (l0.length : Int) then (if a3 < 0 then (j0 k l0 l1 a2 a3 a4 true) else (if a3 ≥ (l1.length : Int) then (j0 k l0 l1 a2 a3 a4 true) else (if 0 ≤ a3 then (if a3 < (l1.length : Int) then (if a3 < (l0.length : Int) then (if (rd l1 a3) > ((rd_T35 l0 a3).f1) then (j0 k l0 l1 a2 a3 a4 true) else (if a4 < 0 then (j0 k l0 l1 a2 a3 a4 true) else (if a4 > (rd l1 a3) then (j0 k l0 l1 a2 a3 a4 true) else (if a2 < 0 then (j0 k l0 l1 a2 a3 a4 true) else (j0 k l0 l1 a2 a3 a4 (decide (a2 > 1099511627776))))))) else (none)) else (none)) else (none)))) else (j0 k l0 l1 a2 a3 a4 true)) else (j0 k l0 l1 a2 a3 a4 true))) = some r := by rw [if_pos rfl] at H; exact H
  clear H
  have H := H1
  clear H1
  have HC8 := Aside0.mk H
  clear H
  go_enter Try.func6, Try.ntmps6
  go_upto_region 3 with (first | ((with_reducible refine gate_callee (f := 10) rfl ?_); refine goesL_ (some 18) rfl rfl Try.func10 (by kernel_rfl) rfl #[] rfl (by (try simp only [List.map_toArray, List.map_cons, List.map_nil]); first | done | rfl | (simp only [List.length_drop, List.length_take]; rfl)) ?_; (with_reducible refine (supercargolaw43_awake.calls k  true _ A6.out).mono ?_); rintro e w9 ⟨rfl, hb⟩; refine ⟨_, rfl, ?_⟩; have n0_ := Aside0.mk (below_step (by repeat (first | (with_reducible first | exact HB.out | apply below_alloc | apply pw_below_drewN | apply below_drew1) | exact HB.out)) hb); clear HB; have HB := n0_; clear n0_; (try clear hb); (try clear hb2); (try clear hk); (try clear hi)))
  (try simp only [Act.put, qa, qb, qc])
  go_cut [72] (fun v72 wc => ∃ (kq : Nat) (x72_7 : Bool), v72 = .bool x72_7 ∧ Aside0 (j0 kq l0 l1 a2 a3 a4 x72_7 = some r) ∧ Aside0 (kq ≤ k) ∧ Aside0 (Below w.heap.size w wc))
  case first =>
   have H := HC8.out
   clear HC8
   replace H := Option.bind_eq_some_iff.mp H
   obtain ⟨t300, A100, H⟩ := H
   replace H : (if t300 = true then (if (l1.length : Int) = (l0.length : Int) then (if a3 < 0 then (j0 k l0 l1 a2 a3 a4 true) else (if a3 ≥ (l1.length : Int) then (j0 k l0 l1 a2 a3 a4 true) else (if 0 ≤ a3 then (if a3 < (l1.length : Int) then (if a3 < (l0.length : Int) then (if (rd l1 a3) > ((rd_T35 l0 a3).f1) then (j0 k l0 l1 a2 a3 a4 true) else (if a4 < 0 then (j0 k l0 l1 a2 a3 a4 true) else (if a4 > (rd l1 a3) then (j0 k l0 l1 a2 a3 a4 true) else (if a2 < 0 then (j0 k l0 l1 a2 a3 a4 true) else (j0 k l0 l1 a2 a3 a4 (decide (a2 > 1099511627776))))))) else (none)) else (none)) else (none)))) else (j0 k l0 l1 a2 a3 a4 true)) else (j0 k l0 l1 a2 a3 a4 true)) = some r := H
   have A10 := Aside0.mk A100
   clear A100
   by_cases c11 : t300 = true
   ·subst c11
    have H1 : (if (l1.length : Int) = (l0.length : Int) then (if a3 < 0 then (j0 k l0 l1 a2 a3 a4 true) else (if a3 ≥ (l1.length : Int) then (j0 k l0 l1 a2 a3 a4 true) else (if 0 ≤ a3 then (if a3 < (l1.length : Int) then (if a3 < (l0.length : Int) then (if (rd l1 a3) > ((rd_T35 l0 a3).f1) then (j0 k l0 l1 a2 a3 a4 true) else (if a4 < 0 then (j0 k l0 l1 a2 a3 a4 true) else (if a4 > (rd l1 a3) then (j0 k l0 l1 a2 a3 a4 true) else (if a2 < 0 then (j0 k l0 l1 a2 a3 a4 true) else (j0 k l0 l1 a2 a3 a4 (decide (a2 > 1099511627776))))))) else (none)) else (none)) else (none)))) else (j0 k l0 l1 a2 a3 a4 true)) = some r := by rw [if_pos rfl] at H; exact H
    clear H
    have H := H1
    clear H1
    by_cases c12 : (l1.length : Int) = (l0.length : Int)
    ·rw [if_pos c12] at H
     have c12b0 : ((l1.length : Int) == (l0.length : Int)) = true := beq_iff_eq.mpr c12
     have c12b1 : ((l1.length : Int) != (l0.length : Int)) = false := bne_eq_false_iff_eq.mpr c12
     have c12b2 : (l1.length == l0.length) = true := by first | simpa using c12 | (simp at c12 ⊢; omega)
     clear c12
     (first | rw [c12b0] | (simp only [i64_w, i32_w]; rw [c12b0]) | skip)
     by_cases c13 : a3 < 0
     ·rw [if_pos c13] at H
      have c13b0 : decide (a3 < 0) = true := decide_eq_true c13
      clear c13
      have H' := Aside0.mk H
      clear H
      try go_wp2
      have n0_ := Aside0.mk (below_drew1 HB.out)
      clear HB
      have HB := n0_
      clear n0_
      refine start_ (n := 53) (S := fun w' => True) (ds := []) m0 (by kernel_rfl) rfl rfl trivial (fun hHeld => ?_); refine with_tabW supercargolaw43_AverageOrder.tab3 supercargolaw43_AverageOrder.bits3 (fun HT_ HW_ => ?_)
      generalize w9.drew = w14 at HB hHeld ⊢
      refine pure_ (i := 0) (N := some 20) (v := ?_) (a' := ?_) m1 rfl rfl (any_of HT_.out (by kernel_rfl)) (fun _ _ _ h => h) (Or.inl ⟨by rfl, ?_⟩) ?_ ?_; rotate_left; (intro w'; go_simp; with_reducible rfl); rotate_left; (simp only [Act.put, qa, qb, qc, i64_w, i32_w]; rfl)
      refine pure_ (i := 1) (N := some 21) (v := ?_) (a' := ?_) m2 rfl rfl (any_of HT_.out (by kernel_rfl)) (fun _ _ _ h => h) (Or.inl ⟨by rfl, ?_⟩) ?_ ?_; rotate_left; (intro w'; go_simp; with_reducible rfl); rotate_left; (simp only [Act.put, qa, qb, qc, i64_w, i32_w]; rfl)
      refine one_ (i := 2) (N := some 22) m3 rfl rfl (one_of HT_.out (by kernel_rfl)) (by decide) (fun K hK => ?_)
      refine goes_ Try.func11 (by kernel_rfl) rfl #[.slice _ l0.length c0, .slice _ l1.length c1] (by rfl) rfl rfl (by (try simp only [List.map_toArray, List.map_cons, List.map_nil]); first | done | rfl | (simp only [List.length_drop, List.length_take]; rfl)) ?_
      with_reducible refine (supercargolaw43_few.calls k _ _ l0 _ _ l1 true _ ?side1 ?side2 ?side3 ?side4 A10.out).mono ?_
      (case side1 => repeat (first | exact (Kd.C_below HR0.out HB.out) | (with_reducible refine Kd.C_alloc ?_ _) | (with_reducible refine Kd.C_drewN ?_ _) | (with_reducible refine Kd.C_drew ?_)))
      (case side2 => exact HC0.out)
      (case side3 => repeat (first | exact (Kd.C_below HR1.out HB.out) | (with_reducible refine Kd.C_alloc ?_ _) | (with_reducible refine Kd.C_drewN ?_ _) | (with_reducible refine Kd.C_drew ?_)))
      (case side4 => exact HC1.out)
      rintro e w' ⟨rfl, ⟨nd, rfl⟩⟩
      refine ⟨_, rfl, ?_⟩
      refine hK.out _ _ trivial (fun hHeld => ?_)
      clear hK K
      refine norm_ (a' := ?_) ?_ ?_
      rotate_left
      ·show Act.put _ (some 22) _ = _
       simp only [Act.put, qa, qb, qc, i64_w, i32_w]
       rfl
      refine pure_ (i := 3) (N := some 23) (v := ?_) (a' := ?_) m4 rfl rfl (any_of HT_.out (by kernel_rfl)) (fun _ _ _ h => h) (Or.inl ⟨by rfl, ?_⟩) ?_ ?_; rotate_left; (intro w'; go_simp; with_reducible rfl); rotate_left; (simp only [Act.put, qa, qb, qc, i64_w, i32_w]; rfl)
      refine pure_ (i := 4) (N := some 24) (v := ?_) (a' := ?_) m5 rfl rfl (any_of HT_.out (by kernel_rfl)) (fun _ _ _ h => h) (Or.inl ⟨by rfl, ?_⟩) ?_ ?_; rotate_left; (intro w'; go_simp; with_reducible rfl); rotate_left; (simp only [Act.put, qa, qb, qc, i64_w, i32_w]; rfl)
      refine pure_ (i := 5) (N := some 25) (v := ?_) (a' := ?_) m6 rfl rfl (any_of HT_.out (by kernel_rfl)) (fun _ _ _ h => h) (Or.inl ⟨by rfl, ?_⟩) ?_ ?_; rotate_left; (intro w'; go_simp; with_reducible rfl); rotate_left; (simp only [Act.put, qa, qb, qc, i64_w, i32_w]; rfl)
      refine pure_ (i := 6) (N := some 26) (v := ?_) (a' := ?_) m7 rfl rfl (any_of HT_.out (by kernel_rfl)) (fun _ _ _ h => h) (Or.inl ⟨by rfl, ?_⟩) ?_ ?_; rotate_left; (intro w'; go_simp; with_reducible rfl); rotate_left; (simp only [Act.put, qa, qb, qc, i64_w, i32_w]; rfl)
      refine pure_ (i := 7) (N := some 27) (v := ?_) (a' := ?_) m8 rfl rfl (any_of HT_.out (by kernel_rfl)) (fun _ _ _ h => h) (Or.inl ⟨by rfl, ?_⟩) ?_ ?_; rotate_left; (intro w'; go_simp; with_reducible rfl); rotate_left; (simp only [Act.put, qa, qb, qc, i64_w, i32_w]; rfl)
      refine pure_ (i := 8) (N := some 28) (v := ?_) (a' := ?_) m9 rfl rfl (any_of HT_.out (by kernel_rfl)) (fun _ _ _ h => h) (Or.inl ⟨by rfl, ?_⟩) ?_ ?_; rotate_left; (intro w'; go_simp; with_reducible rfl); rotate_left; (simp only [Act.put, qa, qb, qc, i64_w, i32_w]; rfl)
      refine pure_ (i := 9) (N := some 29) (v := ?_) (a' := ?_) m10 rfl rfl (any_of HT_.out (by kernel_rfl)) (fun _ _ _ h => h) (Or.inl ⟨by rfl, ?_⟩) ?_ ?_; rotate_left; (intro w'; go_simp; with_reducible rfl); rotate_left; (simp only [Act.put, qa, qb, qc, i64_w, i32_w]; rfl)
      refine pure_ (i := 10) (N := some 30) (v := ?_) (a' := ?_) m11 rfl rfl (any_of HT_.out (by kernel_rfl)) (fun _ _ _ h => h) (Or.inl ⟨by rfl, ?_⟩) ?_ ?_; rotate_left; (intro w'; go_simp; with_reducible rfl); rotate_left; (simp only [Act.put, qa, qb, qc, i64_w, i32_w]; rfl)
      refine pure_ (i := 11) (N := some 31) (v := ?_) (a' := ?_) m12 rfl rfl (any_of HT_.out (by kernel_rfl)) (fun _ _ _ h => h) (Or.inl ⟨by rfl, ?_⟩) ?_ ?_; rotate_left; (intro w'; go_simp; with_reducible rfl); rotate_left; (simp only [Act.put, qa, qb, qc, i64_w, i32_w]; rfl)
      refine pure_ (i := 12) (N := some 32) (v := ?_) (a' := ?_) m13 rfl rfl (any_of HT_.out (by kernel_rfl)) (fun _ _ _ h => h) (Or.inl ⟨by rfl, ?_⟩) ?_ ?_; rotate_left; (intro w'; go_simp; with_reducible rfl); rotate_left; (simp only [Act.put, qa, qb, qc, i64_w, i32_w]; rfl)
      refine pure_ (i := 13) (N := some 33) (v := ?_) (a' := ?_) m14 rfl rfl (any_of HT_.out (by kernel_rfl)) (fun _ _ _ h => h) (Or.inl ⟨by rfl, ?_⟩) ?_ ?_; rotate_left; (intro w'; go_simp; with_reducible rfl); rotate_left; (simp only [Act.put, qa, qb, qc, i64_w, i32_w]; rfl)
      refine pure_ (i := 14) (N := some 34) (v := ?_) (a' := ?_) m15 rfl rfl (any_of HT_.out (by kernel_rfl)) (fun _ _ _ h => h) (Or.inl ⟨by rfl, ?_⟩) ?_ ?_; rotate_left; (intro w'; go_simp; with_reducible rfl); rotate_left; (simp only [Act.put, qa, qb, qc, i64_w, i32_w]; rfl)
      refine pure_ (i := 15) (N := some 35) (v := ?_) (a' := ?_) m16 rfl rfl (any_of HT_.out (by kernel_rfl)) (fun _ _ _ h => h) (Or.inl ⟨by rfl, ?_⟩) ?_ ?_; rotate_left; (intro w'; go_simp; with_reducible rfl); rotate_left; (simp only [Act.put, qa, qb, qc, i64_w, i32_w]; rfl)
      refine pure_ (i := 16) (N := some 36) (v := undef) (a' := ?_) m17 rfl rfl (any_of HT_.out (by kernel_rfl)) (fun _ _ _ h => h) (Or.inr ⟨by rfl, rfl⟩) ?_ ?_
      rotate_left
      ·simp only [Act.put, qa, qb, qc, i64_w, i32_w]
       rfl
      refine pure_ (i := 17) (N := some 37) (v := undef) (a' := ?_) m18 rfl rfl (any_of HT_.out (by kernel_rfl)) (fun _ _ _ h => h) (Or.inr ⟨by rfl, rfl⟩) ?_ ?_
      rotate_left
      ·simp only [Act.put, qa, qb, qc, i64_w, i32_w]
       rfl
      refine pure_ (i := 18) (N := some 38) (v := undef) (a' := ?_) m19 rfl rfl (any_of HT_.out (by kernel_rfl)) (fun _ _ _ h => h) (Or.inr ⟨by rfl, rfl⟩) ?_ ?_
      rotate_left
      ·simp only [Act.put, qa, qb, qc, i64_w, i32_w]
       rfl
      refine pure_ (i := 19) (N := some 39) (v := undef) (a' := ?_) m20 rfl rfl (any_of HT_.out (by kernel_rfl)) (fun _ _ _ h => h) (Or.inr ⟨by rfl, rfl⟩) ?_ ?_
      rotate_left
      ·simp only [Act.put, qa, qb, qc, i64_w, i32_w]
       rfl
      refine pure_ (i := 20) (N := some 40) (v := ?_) (a' := ?_) m21 rfl rfl (any_of HT_.out (by kernel_rfl)) (fun _ _ _ h => h) (Or.inl ⟨by rfl, ?_⟩) ?_ ?_; rotate_left; (intro w'; go_simp; with_reducible rfl); rotate_left; (simp only [Act.put, qa, qb, qc, i64_w, i32_w]; rfl)
      refine pure_ (i := 21) (N := some 41) (v := ?_) (a' := ?_) m22 rfl rfl (any_of HT_.out (by kernel_rfl)) (fun _ _ _ h => h) (Or.inl ⟨by rfl, ?_⟩) ?_ ?_; rotate_left; (intro w'; go_simp; with_reducible rfl); rotate_left; (simp only [Act.put, qa, qb, qc, i64_w, i32_w]; rfl)
      refine pure_ (i := 22) (N := some 42) (v := undef) (a' := ?_) m23 rfl rfl (any_of HT_.out (by kernel_rfl)) (fun _ _ _ h => h) (Or.inr ⟨by rfl, rfl⟩) ?_ ?_
      rotate_left
      ·simp only [Act.put, qa, qb, qc, i64_w, i32_w]
       rfl
      refine pure_ (i := 23) (N := some 43) (v := undef) (a' := ?_) m24 rfl rfl (any_of HT_.out (by kernel_rfl)) (fun _ _ _ h => h) (Or.inr ⟨by rfl, rfl⟩) ?_ ?_
      rotate_left
      ·simp only [Act.put, qa, qb, qc, i64_w, i32_w]
       rfl
      refine pure_ (i := 24) (N := some 44) (v := undef) (a' := ?_) m25 rfl rfl (any_of HT_.out (by kernel_rfl)) (fun _ _ _ h => h) (Or.inr ⟨by rfl, rfl⟩) ?_ ?_
      rotate_left
      ·simp only [Act.put, qa, qb, qc, i64_w, i32_w]
       rfl
      refine pure_ (i := 25) (N := some 45) (v := undef) (a' := ?_) m30 rfl rfl (any_of HT_.out (by kernel_rfl)) (fun _ _ _ h => h) (Or.inr ⟨by rfl, rfl⟩) ?_ ?_
      rotate_left
      ·simp only [Act.put, qa, qb, qc, i64_w, i32_w]
       rfl
      refine pure_ (i := 26) (N := some 46) (v := undef) (a' := ?_) m31 rfl rfl (any_of HT_.out (by kernel_rfl)) (fun _ _ _ h => h) (Or.inr ⟨by rfl, rfl⟩) ?_ ?_
      rotate_left
      ·simp only [Act.put, qa, qb, qc, i64_w, i32_w]
       rfl
      refine pure_ (i := 27) (N := some 47) (v := undef) (a' := ?_) m32 rfl rfl (any_of HT_.out (by kernel_rfl)) (fun _ _ _ h => h) (Or.inr ⟨by rfl, rfl⟩) ?_ ?_
      rotate_left
      ·simp only [Act.put, qa, qb, qc, i64_w, i32_w]
       rfl
      refine pure_ (i := 28) (N := some 48) (v := undef) (a' := ?_) m33 rfl rfl (any_of HT_.out (by kernel_rfl)) (fun _ _ _ h => h) (Or.inr ⟨by rfl, rfl⟩) ?_ ?_
      rotate_left
      ·simp only [Act.put, qa, qb, qc, i64_w, i32_w]
       rfl
      refine pure_ (i := 29) (N := some 49) (v := undef) (a' := ?_) m34 rfl rfl (any_of HT_.out (by kernel_rfl)) (fun _ _ _ h => h) (Or.inr ⟨by rfl, rfl⟩) ?_ ?_
      rotate_left
      ·simp only [Act.put, qa, qb, qc, i64_w, i32_w]
       rfl
      refine pure_ (i := 30) (N := some 50) (v := undef) (a' := ?_) m35 rfl rfl (any_of HT_.out (by kernel_rfl)) (fun _ _ _ h => h) (Or.inr ⟨by rfl, rfl⟩) ?_ ?_
      rotate_left
      ·simp only [Act.put, qa, qb, qc, i64_w, i32_w]
       rfl
      refine pure_ (i := 31) (N := some 51) (v := undef) (a' := ?_) m36 rfl rfl (any_of HT_.out (by kernel_rfl)) (fun _ _ _ h => h) (Or.inr ⟨by rfl, rfl⟩) ?_ ?_
      rotate_left
      ·simp only [Act.put, qa, qb, qc, i64_w, i32_w]
       rfl
      refine pure_ (i := 32) (N := some 52) (v := ?_) (a' := ?_) m37 rfl rfl (any_of HT_.out (by kernel_rfl)) (fun _ _ _ h => h) (Or.inl ⟨by rfl, ?_⟩) ?_ ?_; rotate_left; (intro w'; go_simp; with_reducible rfl); rotate_left; (simp only [Act.put, qa, qb, qc, i64_w, i32_w]; rfl)
      refine pure_ (i := 33) (N := some 53) (v := ?_) (a' := ?_) m38 rfl rfl (any_of HT_.out (by kernel_rfl)) (fun _ _ _ h => h) (Or.inl ⟨by rfl, ?_⟩) ?_ ?_; rotate_left; (intro w'; go_simp; with_reducible rfl); rotate_left; (simp only [Act.put, qa, qb, qc, i64_w, i32_w]; rfl)
      refine pure_ (i := 34) (N := some 54) (v := undef) (a' := ?_) m39 rfl rfl (any_of HT_.out (by kernel_rfl)) (fun _ _ _ h => h) (Or.inr ⟨by rfl, rfl⟩) ?_ ?_
      rotate_left
      ·simp only [Act.put, qa, qb, qc, i64_w, i32_w]
       rfl
      refine pure_ (i := 35) (N := some 55) (v := undef) (a' := ?_) m40 rfl rfl (any_of HT_.out (by kernel_rfl)) (fun _ _ _ h => h) (Or.inr ⟨by rfl, rfl⟩) ?_ ?_
      rotate_left
      ·simp only [Act.put, qa, qb, qc, i64_w, i32_w]
       rfl
      refine pure_ (i := 36) (N := some 56) (v := ?_) (a' := ?_) m41 rfl rfl (any_of HT_.out (by kernel_rfl)) (fun _ _ _ h => h) (Or.inl ⟨by rfl, ?_⟩) ?_ ?_; rotate_left; (intro w'; go_simp; with_reducible rfl); rotate_left; (simp only [Act.put, qa, qb, qc, i64_w, i32_w]; rfl)
      refine pure_ (i := 37) (N := some 57) (v := ?_) (a' := ?_) m42 rfl rfl (any_of HT_.out (by kernel_rfl)) (fun _ _ _ h => h) (Or.inl ⟨by rfl, ?_⟩) ?_ ?_; rotate_left; (intro w'; go_simp; with_reducible rfl); rotate_left; (simp only [Act.put, qa, qb, qc, i64_w, i32_w]; rfl)
      refine pure_ (i := 38) (N := some 58) (v := undef) (a' := ?_) m43 rfl rfl (any_of HT_.out (by kernel_rfl)) (fun _ _ _ h => h) (Or.inr ⟨by rfl, rfl⟩) ?_ ?_
      rotate_left
      ·simp only [Act.put, qa, qb, qc, i64_w, i32_w]
       rfl
      refine pure_ (i := 39) (N := some 59) (v := undef) (a' := ?_) m44 rfl rfl (any_of HT_.out (by kernel_rfl)) (fun _ _ _ h => h) (Or.inr ⟨by rfl, rfl⟩) ?_ ?_
      rotate_left
      ·simp only [Act.put, qa, qb, qc, i64_w, i32_w]
       rfl
      refine pure_ (i := 40) (N := some 60) (v := undef) (a' := ?_) m45 rfl rfl (any_of HT_.out (by kernel_rfl)) (fun _ _ _ h => h) (Or.inr ⟨by rfl, rfl⟩) ?_ ?_
      rotate_left
      ·simp only [Act.put, qa, qb, qc, i64_w, i32_w]
       rfl
      refine pure_ (i := 41) (N := some 61) (v := undef) (a' := ?_) m46 rfl rfl (any_of HT_.out (by kernel_rfl)) (fun _ _ _ h => h) (Or.inr ⟨by rfl, rfl⟩) ?_ ?_
      rotate_left
      ·simp only [Act.put, qa, qb, qc, i64_w, i32_w]
       rfl
      refine pure_ (i := 42) (N := some 62) (v := undef) (a' := ?_) m47 rfl rfl (any_of HT_.out (by kernel_rfl)) (fun _ _ _ h => h) (Or.inr ⟨by rfl, rfl⟩) ?_ ?_
      rotate_left
      ·simp only [Act.put, qa, qb, qc, i64_w, i32_w]
       rfl
      refine pure_ (i := 43) (N := some 63) (v := undef) (a' := ?_) m48 rfl rfl (any_of HT_.out (by kernel_rfl)) (fun _ _ _ h => h) (Or.inr ⟨by rfl, rfl⟩) ?_ ?_
      rotate_left
      ·simp only [Act.put, qa, qb, qc, i64_w, i32_w]
       rfl
      refine pure_ (i := 44) (N := some 64) (v := ?_) (a' := ?_) m49 rfl rfl (any_of HT_.out (by kernel_rfl)) (fun _ _ _ h => h) (Or.inl ⟨by rfl, ?_⟩) ?_ ?_; rotate_left; (intro w'; go_simp; with_reducible rfl); rotate_left; (simp only [Act.put, qa, qb, qc, i64_w, i32_w]; rfl)
      refine pure_ (i := 45) (N := some 65) (v := ?_) (a' := ?_) m50 rfl rfl (any_of HT_.out (by kernel_rfl)) (fun _ _ _ h => h) (Or.inl ⟨by rfl, ?_⟩) ?_ ?_; rotate_left; (intro w'; go_simp; with_reducible rfl); rotate_left; (simp only [Act.put, qa, qb, qc, i64_w, i32_w]; rfl)
      refine pure_ (i := 46) (N := some 66) (v := undef) (a' := ?_) m51 rfl rfl (any_of HT_.out (by kernel_rfl)) (fun _ _ _ h => h) (Or.inr ⟨by rfl, rfl⟩) ?_ ?_
      rotate_left
      ·simp only [Act.put, qa, qb, qc, i64_w, i32_w]
       rfl
      refine pure_ (i := 47) (N := some 67) (v := undef) (a' := ?_) m52 rfl rfl (any_of HT_.out (by kernel_rfl)) (fun _ _ _ h => h) (Or.inr ⟨by rfl, rfl⟩) ?_ ?_
      rotate_left
      ·simp only [Act.put, qa, qb, qc, i64_w, i32_w]
       rfl
      refine pure_ (i := 48) (N := some 68) (v := ?_) (a' := ?_) m53 rfl rfl (any_of HT_.out (by kernel_rfl)) (fun _ _ _ h => h) (Or.inl ⟨by rfl, ?_⟩) ?_ ?_; rotate_left; (intro w'; go_simp; with_reducible rfl); rotate_left; (simp only [Act.put, qa, qb, qc, i64_w, i32_w]; rfl)
      refine pure_ (i := 49) (N := some 69) (v := ?_) (a' := ?_) m54 rfl rfl (any_of HT_.out (by kernel_rfl)) (fun _ _ _ h => h) (Or.inl ⟨by rfl, ?_⟩) ?_ ?_; rotate_left; (intro w'; go_simp; with_reducible rfl); rotate_left; (simp only [Act.put, qa, qb, qc, i64_w, i32_w]; rfl)
      refine pure_ (i := 50) (N := some 70) (v := undef) (a' := ?_) m55 rfl rfl (any_of HT_.out (by kernel_rfl)) (fun _ _ _ h => h) (Or.inr ⟨by rfl, rfl⟩) ?_ ?_
      rotate_left
      ·simp only [Act.put, qa, qb, qc, i64_w, i32_w]
       rfl
      refine pure_ (i := 51) (N := some 71) (v := undef) (a' := ?_) m56 rfl rfl (any_of HT_.out (by kernel_rfl)) (fun _ _ _ h => h) (Or.inr ⟨by rfl, rfl⟩) ?_ ?_
      rotate_left
      ·simp only [Act.put, qa, qb, qc, i64_w, i32_w]
       rfl
      refine pure_ (i := 52) (N := some 72) (v := ?_) (a' := ?_) m57 rfl rfl (any_of HT_.out (by kernel_rfl)) (fun _ _ _ h => h) (Or.inl ⟨by rfl, ?_⟩) ?_ ?_; rotate_left; (intro w'; go_simp; with_reducible rfl); rotate_left; (simp only [Act.put, qa, qb, qc, i64_w, i32_w]; rfl)
      refine done_ (done_of HT_.out (by kernel_rfl)) ?_
      try go_wp2
      go_meet
      case rel => exact ⟨_, (true), (by first | rfl | (simp; done) | (simp [*]; done)), H', ⟨by first | omega | exact Nat.le_refl _⟩, ⟨by repeat (first | (with_reducible first | exact HB.out | apply below_alloc | apply pw_below_drewN | apply below_drew1) | exact HB.out)⟩⟩
     ·rw [if_neg c13] at H
      have c13b0 : decide (a3 < 0) = false := decide_eq_false c13
      clear c13
      by_cases c15 : a3 ≥ (l1.length : Int)
      ·rw [if_pos c15] at H
       have c15b0 : decide ((l1.length : Int) ≤ a3) = true := decide_eq_true c15
       clear c15
       have H' := Aside0.mk H
       clear H
       try go_wp2
       have n0_ := Aside0.mk (below_drew1 HB.out)
       clear HB
       have HB := n0_
       clear n0_
       refine start_ (n := 53) (S := fun w' => True) (ds := []) m0 (by kernel_rfl) rfl rfl trivial (fun hHeld => ?_); refine with_tabW supercargolaw43_AverageOrder.tab3 supercargolaw43_AverageOrder.bits3 (fun HT_ HW_ => ?_)
       generalize w9.drew = w16 at HB hHeld ⊢
       refine pure_ (i := 0) (N := some 20) (v := ?_) (a' := ?_) m1 rfl rfl (any_of HT_.out (by kernel_rfl)) (fun _ _ _ h => h) (Or.inl ⟨by rfl, ?_⟩) ?_ ?_; rotate_left; (intro w'; go_simp; with_reducible rfl); rotate_left; (simp only [Act.put, qa, qb, qc, i64_w, i32_w]; rfl)
       refine pure_ (i := 1) (N := some 21) (v := ?_) (a' := ?_) m2 rfl rfl (any_of HT_.out (by kernel_rfl)) (fun _ _ _ h => h) (Or.inl ⟨by rfl, ?_⟩) ?_ ?_; rotate_left; (intro w'; go_simp; with_reducible rfl); rotate_left; (simp only [Act.put, qa, qb, qc, i64_w, i32_w]; rfl)
       refine one_ (i := 2) (N := some 22) m3 rfl rfl (one_of HT_.out (by kernel_rfl)) (by decide) (fun K hK => ?_)
       refine goes_ Try.func11 (by kernel_rfl) rfl #[.slice _ l0.length c0, .slice _ l1.length c1] (by rfl) rfl rfl (by (try simp only [List.map_toArray, List.map_cons, List.map_nil]); first | done | rfl | (simp only [List.length_drop, List.length_take]; rfl)) ?_
       with_reducible refine (supercargolaw43_few.calls k _ _ l0 _ _ l1 true _ ?side1 ?side2 ?side3 ?side4 A10.out).mono ?_
       (case side1 => repeat (first | exact (Kd.C_below HR0.out HB.out) | (with_reducible refine Kd.C_alloc ?_ _) | (with_reducible refine Kd.C_drewN ?_ _) | (with_reducible refine Kd.C_drew ?_)))
       (case side2 => exact HC0.out)
       (case side3 => repeat (first | exact (Kd.C_below HR1.out HB.out) | (with_reducible refine Kd.C_alloc ?_ _) | (with_reducible refine Kd.C_drewN ?_ _) | (with_reducible refine Kd.C_drew ?_)))
       (case side4 => exact HC1.out)
       rintro e w' ⟨rfl, ⟨nd, rfl⟩⟩
       refine ⟨_, rfl, ?_⟩
       refine hK.out _ _ trivial (fun hHeld => ?_)
       clear hK K
       refine norm_ (a' := ?_) ?_ ?_
       rotate_left
       ·show Act.put _ (some 22) _ = _
        simp only [Act.put, qa, qb, qc, i64_w, i32_w]
        rfl
       refine pure_ (i := 3) (N := some 23) (v := ?_) (a' := ?_) m4 rfl rfl (any_of HT_.out (by kernel_rfl)) (fun _ _ _ h => h) (Or.inl ⟨by rfl, ?_⟩) ?_ ?_; rotate_left; (intro w'; go_simp; with_reducible rfl); rotate_left; (simp only [Act.put, qa, qb, qc, i64_w, i32_w]; rfl)
       refine pure_ (i := 4) (N := some 24) (v := ?_) (a' := ?_) m5 rfl rfl (any_of HT_.out (by kernel_rfl)) (fun _ _ _ h => h) (Or.inl ⟨by rfl, ?_⟩) ?_ ?_; rotate_left; (intro w'; go_simp; with_reducible rfl); rotate_left; (simp only [Act.put, qa, qb, qc, i64_w, i32_w]; rfl)
       refine pure_ (i := 5) (N := some 25) (v := ?_) (a' := ?_) m6 rfl rfl (any_of HT_.out (by kernel_rfl)) (fun _ _ _ h => h) (Or.inl ⟨by rfl, ?_⟩) ?_ ?_; rotate_left; (intro w'; go_simp; with_reducible rfl); rotate_left; (simp only [Act.put, qa, qb, qc, i64_w, i32_w]; rfl)
       refine pure_ (i := 6) (N := some 26) (v := ?_) (a' := ?_) m7 rfl rfl (any_of HT_.out (by kernel_rfl)) (fun _ _ _ h => h) (Or.inl ⟨by rfl, ?_⟩) ?_ ?_; rotate_left; (intro w'; go_simp; with_reducible rfl); rotate_left; (simp only [Act.put, qa, qb, qc, i64_w, i32_w]; rfl)
       refine pure_ (i := 7) (N := some 27) (v := ?_) (a' := ?_) m8 rfl rfl (any_of HT_.out (by kernel_rfl)) (fun _ _ _ h => h) (Or.inl ⟨by rfl, ?_⟩) ?_ ?_; rotate_left; (intro w'; go_simp; with_reducible rfl); rotate_left; (simp only [Act.put, qa, qb, qc, i64_w, i32_w]; rfl)
       refine pure_ (i := 8) (N := some 28) (v := ?_) (a' := ?_) m9 rfl rfl (any_of HT_.out (by kernel_rfl)) (fun _ _ _ h => h) (Or.inl ⟨by rfl, ?_⟩) ?_ ?_; rotate_left; (intro w'; go_simp; with_reducible rfl); rotate_left; (simp only [Act.put, qa, qb, qc, i64_w, i32_w]; rfl)
       refine pure_ (i := 9) (N := some 29) (v := ?_) (a' := ?_) m10 rfl rfl (any_of HT_.out (by kernel_rfl)) (fun _ _ _ h => h) (Or.inl ⟨by rfl, ?_⟩) ?_ ?_; rotate_left; (intro w'; go_simp; with_reducible rfl); rotate_left; (simp only [Act.put, qa, qb, qc, i64_w, i32_w]; rfl)
       refine pure_ (i := 10) (N := some 30) (v := ?_) (a' := ?_) m11 rfl rfl (any_of HT_.out (by kernel_rfl)) (fun _ _ _ h => h) (Or.inl ⟨by rfl, ?_⟩) ?_ ?_; rotate_left; (intro w'; go_simp; with_reducible rfl); rotate_left; (simp only [Act.put, qa, qb, qc, i64_w, i32_w]; rfl)
       refine pure_ (i := 11) (N := some 31) (v := ?_) (a' := ?_) m12 rfl rfl (any_of HT_.out (by kernel_rfl)) (fun _ _ _ h => h) (Or.inl ⟨by rfl, ?_⟩) ?_ ?_; rotate_left; (intro w'; go_simp; with_reducible rfl); rotate_left; (simp only [Act.put, qa, qb, qc, i64_w, i32_w]; rfl)
       refine pure_ (i := 12) (N := some 32) (v := ?_) (a' := ?_) m13 rfl rfl (any_of HT_.out (by kernel_rfl)) (fun _ _ _ h => h) (Or.inl ⟨by rfl, ?_⟩) ?_ ?_; rotate_left; (intro w'; go_simp; with_reducible rfl); rotate_left; (simp only [Act.put, qa, qb, qc, i64_w, i32_w]; rfl)
       refine pure_ (i := 13) (N := some 33) (v := ?_) (a' := ?_) m14 rfl rfl (any_of HT_.out (by kernel_rfl)) (fun _ _ _ h => h) (Or.inl ⟨by rfl, ?_⟩) ?_ ?_; rotate_left; (intro w'; go_simp; with_reducible rfl); rotate_left; (simp only [Act.put, qa, qb, qc, i64_w, i32_w]; rfl)
       refine pure_ (i := 14) (N := some 34) (v := ?_) (a' := ?_) m15 rfl rfl (any_of HT_.out (by kernel_rfl)) (fun _ _ _ h => h) (Or.inl ⟨by rfl, ?_⟩) ?_ ?_; rotate_left; (intro w'; go_simp; with_reducible rfl); rotate_left; (simp only [Act.put, qa, qb, qc, i64_w, i32_w]; rfl)
       refine pure_ (i := 15) (N := some 35) (v := ?_) (a' := ?_) m16 rfl rfl (any_of HT_.out (by kernel_rfl)) (fun _ _ _ h => h) (Or.inl ⟨by rfl, ?_⟩) ?_ ?_; rotate_left; (intro w'; go_simp; with_reducible rfl); rotate_left; (simp only [Act.put, qa, qb, qc, i64_w, i32_w]; rfl)
       refine pure_ (i := 16) (N := some 36) (v := ?_) (a' := ?_) m17 rfl rfl (any_of HT_.out (by kernel_rfl)) (fun _ _ _ h => h) (Or.inl ⟨by rfl, ?_⟩) ?_ ?_; rotate_left; (intro w'; go_simp; with_reducible rfl); rotate_left; (simp only [Act.put, qa, qb, qc, i64_w, i32_w]; rfl)
       refine pure_ (i := 17) (N := some 37) (v := ?_) (a' := ?_) m18 rfl rfl (any_of HT_.out (by kernel_rfl)) (fun _ _ _ h => h) (Or.inl ⟨by rfl, ?_⟩) ?_ ?_; rotate_left; (intro w'; go_simp; with_reducible rfl); rotate_left; (simp only [Act.put, qa, qb, qc, i64_w, i32_w]; rfl)
       refine pure_ (i := 18) (N := some 38) (v := ?_) (a' := ?_) m19 rfl rfl (any_of HT_.out (by kernel_rfl)) (fun _ _ _ h => h) (Or.inl ⟨by rfl, ?_⟩) ?_ ?_; rotate_left; (intro w'; go_simp; with_reducible rfl); rotate_left; (simp only [Act.put, qa, qb, qc, i64_w, i32_w]; rfl)
       refine pure_ (i := 19) (N := some 39) (v := ?_) (a' := ?_) m20 rfl rfl (any_of HT_.out (by kernel_rfl)) (fun _ _ _ h => h) (Or.inl ⟨by rfl, ?_⟩) ?_ ?_; rotate_left; (intro w'; go_simp; with_reducible rfl); rotate_left; (simp only [Act.put, qa, qb, qc, i64_w, i32_w]; rfl)
       refine pure_ (i := 20) (N := some 40) (v := ?_) (a' := ?_) m21 rfl rfl (any_of HT_.out (by kernel_rfl)) (fun _ _ _ h => h) (Or.inl ⟨by rfl, ?_⟩) ?_ ?_; rotate_left; (intro w'; go_simp; with_reducible rfl); rotate_left; (simp only [Act.put, qa, qb, qc, i64_w, i32_w]; rfl)
       refine pure_ (i := 21) (N := some 41) (v := ?_) (a' := ?_) m22 rfl rfl (any_of HT_.out (by kernel_rfl)) (fun _ _ _ h => h) (Or.inl ⟨by rfl, ?_⟩) ?_ ?_; rotate_left; (intro w'; go_simp; with_reducible rfl); rotate_left; (simp only [Act.put, qa, qb, qc, i64_w, i32_w]; rfl)
       refine pure_ (i := 22) (N := some 42) (v := undef) (a' := ?_) m23 rfl rfl (any_of HT_.out (by kernel_rfl)) (fun _ _ _ h => h) (Or.inr ⟨by rfl, rfl⟩) ?_ ?_
       rotate_left
       ·simp only [Act.put, qa, qb, qc, i64_w, i32_w]
        rfl
       refine pure_ (i := 23) (N := some 43) (v := undef) (a' := ?_) m24 rfl rfl (any_of HT_.out (by kernel_rfl)) (fun _ _ _ h => h) (Or.inr ⟨by rfl, rfl⟩) ?_ ?_
       rotate_left
       ·simp only [Act.put, qa, qb, qc, i64_w, i32_w]
        rfl
       refine pure_ (i := 24) (N := some 44) (v := undef) (a' := ?_) m25 rfl rfl (any_of HT_.out (by kernel_rfl)) (fun _ _ _ h => h) (Or.inr ⟨by rfl, rfl⟩) ?_ ?_
       rotate_left
       ·simp only [Act.put, qa, qb, qc, i64_w, i32_w]
        rfl
       refine pure_ (i := 25) (N := some 45) (v := undef) (a' := ?_) m30 rfl rfl (any_of HT_.out (by kernel_rfl)) (fun _ _ _ h => h) (Or.inr ⟨by rfl, rfl⟩) ?_ ?_
       rotate_left
       ·simp only [Act.put, qa, qb, qc, i64_w, i32_w]
        rfl
       refine pure_ (i := 26) (N := some 46) (v := undef) (a' := ?_) m31 rfl rfl (any_of HT_.out (by kernel_rfl)) (fun _ _ _ h => h) (Or.inr ⟨by rfl, rfl⟩) ?_ ?_
       rotate_left
       ·simp only [Act.put, qa, qb, qc, i64_w, i32_w]
        rfl
       refine pure_ (i := 27) (N := some 47) (v := undef) (a' := ?_) m32 rfl rfl (any_of HT_.out (by kernel_rfl)) (fun _ _ _ h => h) (Or.inr ⟨by rfl, rfl⟩) ?_ ?_
       rotate_left
       ·simp only [Act.put, qa, qb, qc, i64_w, i32_w]
        rfl
       refine pure_ (i := 28) (N := some 48) (v := undef) (a' := ?_) m33 rfl rfl (any_of HT_.out (by kernel_rfl)) (fun _ _ _ h => h) (Or.inr ⟨by rfl, rfl⟩) ?_ ?_
       rotate_left
       ·simp only [Act.put, qa, qb, qc, i64_w, i32_w]
        rfl
       refine pure_ (i := 29) (N := some 49) (v := undef) (a' := ?_) m34 rfl rfl (any_of HT_.out (by kernel_rfl)) (fun _ _ _ h => h) (Or.inr ⟨by rfl, rfl⟩) ?_ ?_
       rotate_left
       ·simp only [Act.put, qa, qb, qc, i64_w, i32_w]
        rfl
       refine pure_ (i := 30) (N := some 50) (v := undef) (a' := ?_) m35 rfl rfl (any_of HT_.out (by kernel_rfl)) (fun _ _ _ h => h) (Or.inr ⟨by rfl, rfl⟩) ?_ ?_
       rotate_left
       ·simp only [Act.put, qa, qb, qc, i64_w, i32_w]
        rfl
       refine pure_ (i := 31) (N := some 51) (v := undef) (a' := ?_) m36 rfl rfl (any_of HT_.out (by kernel_rfl)) (fun _ _ _ h => h) (Or.inr ⟨by rfl, rfl⟩) ?_ ?_
       rotate_left
       ·simp only [Act.put, qa, qb, qc, i64_w, i32_w]
        rfl
       refine pure_ (i := 32) (N := some 52) (v := ?_) (a' := ?_) m37 rfl rfl (any_of HT_.out (by kernel_rfl)) (fun _ _ _ h => h) (Or.inl ⟨by rfl, ?_⟩) ?_ ?_; rotate_left; (intro w'; go_simp; with_reducible rfl); rotate_left; (simp only [Act.put, qa, qb, qc, i64_w, i32_w]; rfl)
       refine pure_ (i := 33) (N := some 53) (v := ?_) (a' := ?_) m38 rfl rfl (any_of HT_.out (by kernel_rfl)) (fun _ _ _ h => h) (Or.inl ⟨by rfl, ?_⟩) ?_ ?_; rotate_left; (intro w'; go_simp; with_reducible rfl); rotate_left; (simp only [Act.put, qa, qb, qc, i64_w, i32_w]; rfl)
       refine pure_ (i := 34) (N := some 54) (v := undef) (a' := ?_) m39 rfl rfl (any_of HT_.out (by kernel_rfl)) (fun _ _ _ h => h) (Or.inr ⟨by rfl, rfl⟩) ?_ ?_
       rotate_left
       ·simp only [Act.put, qa, qb, qc, i64_w, i32_w]
        rfl
       refine pure_ (i := 35) (N := some 55) (v := undef) (a' := ?_) m40 rfl rfl (any_of HT_.out (by kernel_rfl)) (fun _ _ _ h => h) (Or.inr ⟨by rfl, rfl⟩) ?_ ?_
       rotate_left
       ·simp only [Act.put, qa, qb, qc, i64_w, i32_w]
        rfl
       refine pure_ (i := 36) (N := some 56) (v := ?_) (a' := ?_) m41 rfl rfl (any_of HT_.out (by kernel_rfl)) (fun _ _ _ h => h) (Or.inl ⟨by rfl, ?_⟩) ?_ ?_; rotate_left; (intro w'; go_simp; with_reducible rfl); rotate_left; (simp only [Act.put, qa, qb, qc, i64_w, i32_w]; rfl)
       refine pure_ (i := 37) (N := some 57) (v := ?_) (a' := ?_) m42 rfl rfl (any_of HT_.out (by kernel_rfl)) (fun _ _ _ h => h) (Or.inl ⟨by rfl, ?_⟩) ?_ ?_; rotate_left; (intro w'; go_simp; with_reducible rfl); rotate_left; (simp only [Act.put, qa, qb, qc, i64_w, i32_w]; rfl)
       refine pure_ (i := 38) (N := some 58) (v := undef) (a' := ?_) m43 rfl rfl (any_of HT_.out (by kernel_rfl)) (fun _ _ _ h => h) (Or.inr ⟨by rfl, rfl⟩) ?_ ?_
       rotate_left
       ·simp only [Act.put, qa, qb, qc, i64_w, i32_w]
        rfl
       refine pure_ (i := 39) (N := some 59) (v := undef) (a' := ?_) m44 rfl rfl (any_of HT_.out (by kernel_rfl)) (fun _ _ _ h => h) (Or.inr ⟨by rfl, rfl⟩) ?_ ?_
       rotate_left
       ·simp only [Act.put, qa, qb, qc, i64_w, i32_w]
        rfl
       refine pure_ (i := 40) (N := some 60) (v := undef) (a' := ?_) m45 rfl rfl (any_of HT_.out (by kernel_rfl)) (fun _ _ _ h => h) (Or.inr ⟨by rfl, rfl⟩) ?_ ?_
       rotate_left
       ·simp only [Act.put, qa, qb, qc, i64_w, i32_w]
        rfl
       refine pure_ (i := 41) (N := some 61) (v := undef) (a' := ?_) m46 rfl rfl (any_of HT_.out (by kernel_rfl)) (fun _ _ _ h => h) (Or.inr ⟨by rfl, rfl⟩) ?_ ?_
       rotate_left
       ·simp only [Act.put, qa, qb, qc, i64_w, i32_w]
        rfl
       refine pure_ (i := 42) (N := some 62) (v := undef) (a' := ?_) m47 rfl rfl (any_of HT_.out (by kernel_rfl)) (fun _ _ _ h => h) (Or.inr ⟨by rfl, rfl⟩) ?_ ?_
       rotate_left
       ·simp only [Act.put, qa, qb, qc, i64_w, i32_w]
        rfl
       refine pure_ (i := 43) (N := some 63) (v := undef) (a' := ?_) m48 rfl rfl (any_of HT_.out (by kernel_rfl)) (fun _ _ _ h => h) (Or.inr ⟨by rfl, rfl⟩) ?_ ?_
       rotate_left
       ·simp only [Act.put, qa, qb, qc, i64_w, i32_w]
        rfl
       refine pure_ (i := 44) (N := some 64) (v := ?_) (a' := ?_) m49 rfl rfl (any_of HT_.out (by kernel_rfl)) (fun _ _ _ h => h) (Or.inl ⟨by rfl, ?_⟩) ?_ ?_; rotate_left; (intro w'; go_simp; with_reducible rfl); rotate_left; (simp only [Act.put, qa, qb, qc, i64_w, i32_w]; rfl)
       refine pure_ (i := 45) (N := some 65) (v := ?_) (a' := ?_) m50 rfl rfl (any_of HT_.out (by kernel_rfl)) (fun _ _ _ h => h) (Or.inl ⟨by rfl, ?_⟩) ?_ ?_; rotate_left; (intro w'; go_simp; with_reducible rfl); rotate_left; (simp only [Act.put, qa, qb, qc, i64_w, i32_w]; rfl)
       refine pure_ (i := 46) (N := some 66) (v := undef) (a' := ?_) m51 rfl rfl (any_of HT_.out (by kernel_rfl)) (fun _ _ _ h => h) (Or.inr ⟨by rfl, rfl⟩) ?_ ?_
       rotate_left
       ·simp only [Act.put, qa, qb, qc, i64_w, i32_w]
        rfl
       refine pure_ (i := 47) (N := some 67) (v := undef) (a' := ?_) m52 rfl rfl (any_of HT_.out (by kernel_rfl)) (fun _ _ _ h => h) (Or.inr ⟨by rfl, rfl⟩) ?_ ?_
       rotate_left
       ·simp only [Act.put, qa, qb, qc, i64_w, i32_w]
        rfl
       refine pure_ (i := 48) (N := some 68) (v := ?_) (a' := ?_) m53 rfl rfl (any_of HT_.out (by kernel_rfl)) (fun _ _ _ h => h) (Or.inl ⟨by rfl, ?_⟩) ?_ ?_; rotate_left; (intro w'; go_simp; with_reducible rfl); rotate_left; (simp only [Act.put, qa, qb, qc, i64_w, i32_w]; rfl)
       refine pure_ (i := 49) (N := some 69) (v := ?_) (a' := ?_) m54 rfl rfl (any_of HT_.out (by kernel_rfl)) (fun _ _ _ h => h) (Or.inl ⟨by rfl, ?_⟩) ?_ ?_; rotate_left; (intro w'; go_simp; with_reducible rfl); rotate_left; (simp only [Act.put, qa, qb, qc, i64_w, i32_w]; rfl)
       refine pure_ (i := 50) (N := some 70) (v := undef) (a' := ?_) m55 rfl rfl (any_of HT_.out (by kernel_rfl)) (fun _ _ _ h => h) (Or.inr ⟨by rfl, rfl⟩) ?_ ?_
       rotate_left
       ·simp only [Act.put, qa, qb, qc, i64_w, i32_w]
        rfl
       refine pure_ (i := 51) (N := some 71) (v := undef) (a' := ?_) m56 rfl rfl (any_of HT_.out (by kernel_rfl)) (fun _ _ _ h => h) (Or.inr ⟨by rfl, rfl⟩) ?_ ?_
       rotate_left
       ·simp only [Act.put, qa, qb, qc, i64_w, i32_w]
        rfl
       refine pure_ (i := 52) (N := some 72) (v := ?_) (a' := ?_) m57 rfl rfl (any_of HT_.out (by kernel_rfl)) (fun _ _ _ h => h) (Or.inl ⟨by rfl, ?_⟩) ?_ ?_; rotate_left; (intro w'; go_simp; with_reducible rfl); rotate_left; (simp only [Act.put, qa, qb, qc, i64_w, i32_w]; rfl)
       refine done_ (done_of HT_.out (by kernel_rfl)) ?_
       try go_wp2
       go_meet
       case rel => exact ⟨_, (true), (by first | rfl | (simp; done) | (simp [*]; done)), H', ⟨by first | omega | exact Nat.le_refl _⟩, ⟨by repeat (first | (with_reducible first | exact HB.out | apply below_alloc | apply pw_below_drewN | apply below_drew1) | exact HB.out)⟩⟩
      ·rw [if_neg c15] at H
       have c15b0 : decide ((l1.length : Int) ≤ a3) = false := decide_eq_false c15
       clear c15
       by_cases c17 : 0 ≤ a3
       ·rw [if_pos c17] at H
        have c17b0 : decide (0 ≤ a3) = true := decide_eq_true c17
        clear c17
        by_cases c18 : a3 < (l1.length : Int)
        ·rw [if_pos c18] at H
         have c18b0 : decide (a3 < (l1.length : Int)) = true := decide_eq_true c18
         clear c18
         by_cases c19 : a3 < (l0.length : Int)
         ·rw [if_pos c19] at H
          have c19b0 : decide (a3 < (l0.length : Int)) = true := decide_eq_true c19
          clear c19
          by_cases c20 : (rd l1 a3) > ((rd_T35 l0 a3).f1)
          ·rw [if_pos c20] at H
           have c20b0 : decide (((rd_T35 l0 a3).f1) < (rd l1 a3)) = true := decide_eq_true c20
           clear c20
           have H' := Aside0.mk H
           clear H
           try go_wp2
           have n0_ := Aside0.mk (below_drew1 HB.out)
           clear HB
           have HB := n0_
           clear n0_
           have p301 : 0 ≤ (a3 : Int) := of_decide_eq_true (by first | (with_reducible assumption) | assumption)
           have q301 : a3 < (l1.length : Int) := of_decide_eq_true (by first | (with_reducible assumption) | assumption)
           obtain ⟨ad301, e301, hx301_0⟩ := Kd.at_int HR1.out a3 p301 q301
           have hw301_0 := hx301_0
           cases e301
           replace hx301_0 := (HB.out.cell (World.block_lt_of_cell? w _ hx301_0)).trans hx301_0
           replace p301 := eq_true p301
           replace q301 := eq_true q301
           have p302 : 0 ≤ (a3 : Int) := of_decide_eq_true (by first | (with_reducible assumption) | assumption)
           have q302 : a3 < (l0.length : Int) := of_decide_eq_true (by first | (with_reducible assumption) | assumption)
           obtain ⟨ad302, e302, hx302_0, hx302_1⟩ := at_T35 HR0.out a3 p302 q302
           have hw302_1 := hx302_1
           have hw302_0 := hx302_0
           cases e302
           replace hx302_0 := (HB.out.cell (World.block_lt_of_cell? w _ hx302_0)).trans hx302_0
           replace hx302_1 := (HB.out.cell (World.block_lt_of_cell? w _ hx302_1)).trans hx302_1
           replace p302 := eq_true p302
           replace q302 := eq_true q302
           refine start_ (n := 53) (S := fun w' => w'.cell? (ad301.add (a3).toNat) = some (.int .i64 (rd l1 a3)) ∧ w'.cell? (ad302.add ((a3).toNat * 2)) = some (.string ((rd_T35 l0 a3).f0)) ∧ w'.cell? ⟨(ad302.add ((a3).toNat * 2)).block, (ad302.add ((a3).toNat * 2)).off + 1, none⟩ = some (.int .i64 ((rd_T35 l0 a3).f1))) (ds := []) m0 (by kernel_rfl) rfl rfl ⟨((HB.out.cell (World.block_lt_of_cell? w _ hw301_0)).trans hw301_0), ((HB.out.cell (World.block_lt_of_cell? w _ hw302_0)).trans hw302_0), ((HB.out.cell (World.block_lt_of_cell? w _ hw302_1)).trans hw302_1)⟩ (fun hHeld => ?_); refine with_tabW supercargolaw43_AverageOrder.tab3 supercargolaw43_AverageOrder.bits3 (fun HT_ HW_ => ?_)
           generalize w9.drew = w21 at HB hx301_0 hx302_0 hx302_1 hHeld ⊢
           refine pure_ (i := 0) (N := some 20) (v := ?_) (a' := ?_) m1 rfl rfl (any_of HT_.out (by kernel_rfl)) (fun _ _ _ h => h) (Or.inl ⟨by rfl, ?_⟩) ?_ ?_; rotate_left; (intro w'; go_simp; with_reducible rfl); rotate_left; (simp only [Act.put, qa, qb, qc, i64_w, i32_w]; rfl)
           refine pure_ (i := 1) (N := some 21) (v := ?_) (a' := ?_) m2 rfl rfl (any_of HT_.out (by kernel_rfl)) (fun _ _ _ h => h) (Or.inl ⟨by rfl, ?_⟩) ?_ ?_; rotate_left; (intro w'; go_simp; with_reducible rfl); rotate_left; (simp only [Act.put, qa, qb, qc, i64_w, i32_w]; rfl)
           refine one_ (i := 2) (N := some 22) m3 rfl rfl (one_of HT_.out (by kernel_rfl)) (by decide) (fun K hK => ?_)
           refine goes_ Try.func11 (by kernel_rfl) rfl #[.slice _ l0.length c0, .slice _ l1.length c1] (by rfl) rfl rfl (by (try simp only [List.map_toArray, List.map_cons, List.map_nil]); first | done | rfl | (simp only [List.length_drop, List.length_take]; rfl)) ?_
           with_reducible refine (supercargolaw43_few.calls k _ _ l0 _ _ l1 true _ ?side1 ?side2 ?side3 ?side4 A10.out).mono ?_
           (case side1 => repeat (first | exact (Kd.C_below HR0.out HB.out) | (with_reducible refine Kd.C_alloc ?_ _) | (with_reducible refine Kd.C_drewN ?_ _) | (with_reducible refine Kd.C_drew ?_)))
           (case side2 => exact HC0.out)
           (case side3 => repeat (first | exact (Kd.C_below HR1.out HB.out) | (with_reducible refine Kd.C_alloc ?_ _) | (with_reducible refine Kd.C_drewN ?_ _) | (with_reducible refine Kd.C_drew ?_)))
           (case side4 => exact HC1.out)
           rintro e w' ⟨rfl, ⟨nd, rfl⟩⟩
           refine ⟨_, rfl, ?_⟩
           refine hK.out _ _ ⟨((HB.out.cell (World.block_lt_of_cell? w _ hw301_0)).trans hw301_0), ((HB.out.cell (World.block_lt_of_cell? w _ hw302_0)).trans hw302_0), ((HB.out.cell (World.block_lt_of_cell? w _ hw302_1)).trans hw302_1)⟩ (fun hHeld => ?_)
           clear hK K
           refine norm_ (a' := ?_) ?_ ?_
           rotate_left
           ·show Act.put _ (some 22) _ = _
            simp only [Act.put, qa, qb, qc, i64_w, i32_w]
            rfl
           refine pure_ (i := 3) (N := some 23) (v := ?_) (a' := ?_) m4 rfl rfl (any_of HT_.out (by kernel_rfl)) (fun _ _ _ h => h) (Or.inl ⟨by rfl, ?_⟩) ?_ ?_; rotate_left; (intro w'; go_simp; with_reducible rfl); rotate_left; (simp only [Act.put, qa, qb, qc, i64_w, i32_w]; rfl)
           refine pure_ (i := 4) (N := some 24) (v := ?_) (a' := ?_) m5 rfl rfl (any_of HT_.out (by kernel_rfl)) (fun _ _ _ h => h) (Or.inl ⟨by rfl, ?_⟩) ?_ ?_; rotate_left; (intro w'; go_simp; with_reducible rfl); rotate_left; (simp only [Act.put, qa, qb, qc, i64_w, i32_w]; rfl)
           refine pure_ (i := 5) (N := some 25) (v := ?_) (a' := ?_) m6 rfl rfl (any_of HT_.out (by kernel_rfl)) (fun _ _ _ h => h) (Or.inl ⟨by rfl, ?_⟩) ?_ ?_; rotate_left; (intro w'; go_simp; with_reducible rfl); rotate_left; (simp only [Act.put, qa, qb, qc, i64_w, i32_w]; rfl)
           refine pure_ (i := 6) (N := some 26) (v := ?_) (a' := ?_) m7 rfl rfl (any_of HT_.out (by kernel_rfl)) (fun _ _ _ h => h) (Or.inl ⟨by rfl, ?_⟩) ?_ ?_; rotate_left; (intro w'; go_simp; with_reducible rfl); rotate_left; (simp only [Act.put, qa, qb, qc, i64_w, i32_w]; rfl)
           refine pure_ (i := 7) (N := some 27) (v := ?_) (a' := ?_) m8 rfl rfl (any_of HT_.out (by kernel_rfl)) (fun _ _ _ h => h) (Or.inl ⟨by rfl, ?_⟩) ?_ ?_; rotate_left; (intro w'; go_simp; with_reducible rfl); rotate_left; (simp only [Act.put, qa, qb, qc, i64_w, i32_w]; rfl)
           refine pure_ (i := 8) (N := some 28) (v := ?_) (a' := ?_) m9 rfl rfl (any_of HT_.out (by kernel_rfl)) (fun _ _ _ h => h) (Or.inl ⟨by rfl, ?_⟩) ?_ ?_; rotate_left; (intro w'; go_simp; with_reducible rfl); rotate_left; (simp only [Act.put, qa, qb, qc, i64_w, i32_w]; rfl)
           refine pure_ (i := 9) (N := some 29) (v := ?_) (a' := ?_) m10 rfl rfl (any_of HT_.out (by kernel_rfl)) (fun _ _ _ h => h) (Or.inl ⟨by rfl, ?_⟩) ?_ ?_; rotate_left; (intro w'; go_simp; with_reducible rfl); rotate_left; (simp only [Act.put, qa, qb, qc, i64_w, i32_w]; rfl)
           refine pure_ (i := 10) (N := some 30) (v := ?_) (a' := ?_) m11 rfl rfl (any_of HT_.out (by kernel_rfl)) (fun _ _ _ h => h) (Or.inl ⟨by rfl, ?_⟩) ?_ ?_; rotate_left; (intro w'; go_simp; with_reducible rfl); rotate_left; (simp only [Act.put, qa, qb, qc, i64_w, i32_w]; rfl)
           refine pure_ (i := 11) (N := some 31) (v := ?_) (a' := ?_) m12 rfl rfl (any_of HT_.out (by kernel_rfl)) (fun _ _ _ h => h) (Or.inl ⟨by rfl, ?_⟩) ?_ ?_; rotate_left; (intro w'; go_simp; with_reducible rfl); rotate_left; (simp only [Act.put, qa, qb, qc, i64_w, i32_w]; rfl)
           refine pure_ (i := 12) (N := some 32) (v := ?_) (a' := ?_) m13 rfl rfl (any_of HT_.out (by kernel_rfl)) (fun _ _ _ h => h) (Or.inl ⟨by rfl, ?_⟩) ?_ ?_; rotate_left; (intro w'; go_simp; with_reducible rfl); rotate_left; (simp only [Act.put, qa, qb, qc, i64_w, i32_w]; rfl)
           refine pure_ (i := 13) (N := some 33) (v := ?_) (a' := ?_) m14 rfl rfl (any_of HT_.out (by kernel_rfl)) (fun _ _ _ h => h) (Or.inl ⟨by rfl, ?_⟩) ?_ ?_; rotate_left; (intro w'; go_simp; with_reducible rfl); rotate_left; (simp only [Act.put, qa, qb, qc, i64_w, i32_w]; rfl)
           refine pure_ (i := 14) (N := some 34) (v := ?_) (a' := ?_) m15 rfl rfl (any_of HT_.out (by kernel_rfl)) (fun _ _ _ h => h) (Or.inl ⟨by rfl, ?_⟩) ?_ ?_; rotate_left; (intro w'; go_simp; with_reducible rfl); rotate_left; (simp only [Act.put, qa, qb, qc, i64_w, i32_w]; rfl)
           refine pure_ (i := 15) (N := some 35) (v := ?_) (a' := ?_) m16 rfl rfl (any_of HT_.out (by kernel_rfl)) (fun _ _ _ h => h) (Or.inl ⟨by rfl, ?_⟩) ?_ ?_; rotate_left; (intro w'; go_simp; with_reducible rfl); rotate_left; (simp only [Act.put, qa, qb, qc, i64_w, i32_w]; rfl)
           refine pure_ (i := 16) (N := some 36) (v := ?_) (a' := ?_) m17 rfl rfl (any_of HT_.out (by kernel_rfl)) (fun _ _ _ h => h) (Or.inl ⟨by rfl, ?_⟩) ?_ ?_; rotate_left; (intro w'; go_simp; with_reducible rfl); rotate_left; (simp only [Act.put, qa, qb, qc, i64_w, i32_w]; rfl)
           refine pure_ (i := 17) (N := some 37) (v := ?_) (a' := ?_) m18 rfl rfl (any_of HT_.out (by kernel_rfl)) (fun _ _ _ h => h) (Or.inl ⟨by rfl, ?_⟩) ?_ ?_; rotate_left; (intro w'; go_simp; with_reducible rfl); rotate_left; (simp only [Act.put, qa, qb, qc, i64_w, i32_w]; rfl)
           refine pure_ (i := 18) (N := some 38) (v := ?_) (a' := ?_) m19 rfl rfl (any_of HT_.out (by kernel_rfl)) (fun _ _ _ h => h) (Or.inl ⟨by rfl, ?_⟩) ?_ ?_; rotate_left; (intro w'; go_simp; with_reducible rfl); rotate_left; (simp only [Act.put, qa, qb, qc, i64_w, i32_w]; rfl)
           refine pure_ (i := 19) (N := some 39) (v := ?_) (a' := ?_) m20 rfl rfl (any_of HT_.out (by kernel_rfl)) (fun _ _ _ h => h) (Or.inl ⟨by rfl, ?_⟩) ?_ ?_; rotate_left; (intro w'; go_simp; with_reducible rfl); rotate_left; (simp only [Act.put, qa, qb, qc, i64_w, i32_w]; rfl)
           refine pure_ (i := 20) (N := some 40) (v := ?_) (a' := ?_) m21 rfl rfl (any_of HT_.out (by kernel_rfl)) (fun _ _ _ h => h) (Or.inl ⟨by rfl, ?_⟩) ?_ ?_; rotate_left; (intro w'; go_simp; with_reducible rfl); rotate_left; (simp only [Act.put, qa, qb, qc, i64_w, i32_w]; rfl)
           refine pure_ (i := 21) (N := some 41) (v := ?_) (a' := ?_) m22 rfl rfl (any_of HT_.out (by kernel_rfl)) (fun _ _ _ h => h) (Or.inl ⟨by rfl, ?_⟩) ?_ ?_; rotate_left; (intro w'; go_simp; with_reducible rfl); rotate_left; (simp only [Act.put, qa, qb, qc, i64_w, i32_w]; rfl)
           refine pure_ (i := 22) (N := some 42) (v := ?_) (a' := ?_) m23 rfl rfl (any_of HT_.out (by kernel_rfl)) (fun _ _ _ h => h) (Or.inl ⟨by rfl, ?_⟩) ?_ ?_; rotate_left; (intro w'; go_simp; with_reducible rfl); rotate_left; (simp only [Act.put, qa, qb, qc, i64_w, i32_w]; rfl)
           refine pure_ (i := 23) (N := some 43) (v := ?_) (a' := ?_) m24 rfl rfl (any_of HT_.out (by kernel_rfl)) (fun _ _ _ h => h) (Or.inl ⟨by rfl, ?_⟩) ?_ ?_; rotate_left; (intro w'; go_simp; with_reducible rfl); rotate_left; (simp only [Act.put, qa, qb, qc, i64_w, i32_w]; rfl)
           refine pure_ (i := 24) (N := some 44) (v := ?_) (a' := ?_) m25 rfl rfl (any_of HT_.out (by kernel_rfl)) (fun _ _ _ h => h) (Or.inl ⟨by rfl, ?_⟩) ?_ ?_; rotate_left; (intro w'; go_simp; with_reducible rfl); rotate_left; (simp only [Act.put, qa, qb, qc, i64_w, i32_w]; rfl)
           refine pure_ (i := 26) (N := some 46) (v := ?_) (a' := ?_) m26 rfl rfl (any_of HT_.out (by kernel_rfl)) (fun _ _ _ h => h) (Or.inl ⟨by rfl, ?_⟩) ?_ ?_; rotate_left; (intro w'; go_simp; with_reducible rfl); rotate_left; (simp only [Act.put, qa, qb, qc, i64_w, i32_w]; rfl)
           refine pure_ (i := 27) (N := some 47) (v := ?_) (a' := ?_) m27 rfl rfl (any_of HT_.out (by kernel_rfl)) (fun _ _ _ h => h) (Or.inl ⟨by rfl, ?_⟩) ?_ ?_; rotate_left; (intro w'; go_simp; with_reducible rfl); rotate_left; (simp only [Act.put, qa, qb, qc, i64_w, i32_w]; rfl)
           refine pure_ (i := 28) (N := some 48) (v := ?_) (a' := ?_) m28 rfl rfl (any_of HT_.out (by kernel_rfl)) (fun _ _ _ h => h) (Or.inl ⟨by rfl, ?_⟩) ?_ ?_; rotate_left; (intro w'; go_simp; with_reducible rfl); rotate_left; (simp only [Act.put, qa, qb, qc, i64_w, i32_w]; rfl)
           refine pure_ (i := 29) (N := some 49) (v := ?_) (a' := ?_) m29 rfl rfl (any_of HT_.out (by kernel_rfl)) (fun _ _ _ h => h) (Or.inl ⟨by rfl, ?_⟩) ?_ ?_; rotate_left; (intro w'; go_simp; with_reducible rfl); rotate_left; (simp only [Act.put, qa, qb, qc, i64_w, i32_w]; rfl)
           refine take_ (i := 25) (N := some 45) (v := ?_) (a' := ?_) m34 rfl rfl (take_ofW HT_.out HW_.out (by kernel_rfl)) (fun _ _ _ h => h) (Or.inl ⟨by rfl, ?_⟩) hHeld ?_ ?_
           rotate_left
           ·rintro w' ⟨s0, s1, s2⟩
            go_simp
            with_reducible rfl
           rotate_left
           ·simp only [Act.put, qa, qb, qc, i64_w, i32_w]
            rfl
           refine take_ (i := 30) (N := some 50) (v := ?_) (a' := ?_) m35 rfl rfl (take_ofW HT_.out HW_.out (by kernel_rfl)) (fun _ _ _ h => h) (Or.inl ⟨by rfl, ?_⟩) hHeld ?_ ?_
           rotate_left
           ·rintro w' ⟨s0, s1, s2⟩
            go_simp
            with_reducible rfl
           rotate_left
           ·simp only [Act.put, qa, qb, qc, i64_w, i32_w]
            rfl
           refine pure_ (i := 31) (N := some 51) (v := ?_) (a' := ?_) m36 rfl rfl (any_of HT_.out (by kernel_rfl)) (fun _ _ _ h => h) (Or.inl ⟨by rfl, ?_⟩) ?_ ?_; rotate_left; (intro w'; go_simp; with_reducible rfl); rotate_left; (simp only [Act.put, qa, qb, qc, i64_w, i32_w]; rfl)
           refine pure_ (i := 32) (N := some 52) (v := ?_) (a' := ?_) m37 rfl rfl (any_of HT_.out (by kernel_rfl)) (fun _ _ _ h => h) (Or.inl ⟨by rfl, ?_⟩) ?_ ?_; rotate_left; (intro w'; go_simp; with_reducible rfl); rotate_left; (simp only [Act.put, qa, qb, qc, i64_w, i32_w]; rfl)
           refine pure_ (i := 33) (N := some 53) (v := ?_) (a' := ?_) m38 rfl rfl (any_of HT_.out (by kernel_rfl)) (fun _ _ _ h => h) (Or.inl ⟨by rfl, ?_⟩) ?_ ?_; rotate_left; (intro w'; go_simp; with_reducible rfl); rotate_left; (simp only [Act.put, qa, qb, qc, i64_w, i32_w]; rfl)
           refine pure_ (i := 34) (N := some 54) (v := undef) (a' := ?_) m39 rfl rfl (any_of HT_.out (by kernel_rfl)) (fun _ _ _ h => h) (Or.inr ⟨by rfl, rfl⟩) ?_ ?_
           rotate_left
           ·simp only [Act.put, qa, qb, qc, i64_w, i32_w]
            rfl
           refine pure_ (i := 35) (N := some 55) (v := undef) (a' := ?_) m40 rfl rfl (any_of HT_.out (by kernel_rfl)) (fun _ _ _ h => h) (Or.inr ⟨by rfl, rfl⟩) ?_ ?_
           rotate_left
           ·simp only [Act.put, qa, qb, qc, i64_w, i32_w]
            rfl
           refine pure_ (i := 36) (N := some 56) (v := ?_) (a' := ?_) m41 rfl rfl (any_of HT_.out (by kernel_rfl)) (fun _ _ _ h => h) (Or.inl ⟨by rfl, ?_⟩) ?_ ?_; rotate_left; (intro w'; go_simp; with_reducible rfl); rotate_left; (simp only [Act.put, qa, qb, qc, i64_w, i32_w]; rfl)
           refine pure_ (i := 37) (N := some 57) (v := ?_) (a' := ?_) m42 rfl rfl (any_of HT_.out (by kernel_rfl)) (fun _ _ _ h => h) (Or.inl ⟨by rfl, ?_⟩) ?_ ?_; rotate_left; (intro w'; go_simp; with_reducible rfl); rotate_left; (simp only [Act.put, qa, qb, qc, i64_w, i32_w]; rfl)
           refine pure_ (i := 38) (N := some 58) (v := undef) (a' := ?_) m43 rfl rfl (any_of HT_.out (by kernel_rfl)) (fun _ _ _ h => h) (Or.inr ⟨by rfl, rfl⟩) ?_ ?_
           rotate_left
           ·simp only [Act.put, qa, qb, qc, i64_w, i32_w]
            rfl
           refine pure_ (i := 39) (N := some 59) (v := undef) (a' := ?_) m44 rfl rfl (any_of HT_.out (by kernel_rfl)) (fun _ _ _ h => h) (Or.inr ⟨by rfl, rfl⟩) ?_ ?_
           rotate_left
           ·simp only [Act.put, qa, qb, qc, i64_w, i32_w]
            rfl
           refine pure_ (i := 40) (N := some 60) (v := undef) (a' := ?_) m45 rfl rfl (any_of HT_.out (by kernel_rfl)) (fun _ _ _ h => h) (Or.inr ⟨by rfl, rfl⟩) ?_ ?_
           rotate_left
           ·simp only [Act.put, qa, qb, qc, i64_w, i32_w]
            rfl
           refine pure_ (i := 41) (N := some 61) (v := undef) (a' := ?_) m46 rfl rfl (any_of HT_.out (by kernel_rfl)) (fun _ _ _ h => h) (Or.inr ⟨by rfl, rfl⟩) ?_ ?_
           rotate_left
           ·simp only [Act.put, qa, qb, qc, i64_w, i32_w]
            rfl
           refine pure_ (i := 42) (N := some 62) (v := undef) (a' := ?_) m47 rfl rfl (any_of HT_.out (by kernel_rfl)) (fun _ _ _ h => h) (Or.inr ⟨by rfl, rfl⟩) ?_ ?_
           rotate_left
           ·simp only [Act.put, qa, qb, qc, i64_w, i32_w]
            rfl
           refine pure_ (i := 43) (N := some 63) (v := undef) (a' := ?_) m48 rfl rfl (any_of HT_.out (by kernel_rfl)) (fun _ _ _ h => h) (Or.inr ⟨by rfl, rfl⟩) ?_ ?_
           rotate_left
           ·simp only [Act.put, qa, qb, qc, i64_w, i32_w]
            rfl
           refine pure_ (i := 44) (N := some 64) (v := ?_) (a' := ?_) m49 rfl rfl (any_of HT_.out (by kernel_rfl)) (fun _ _ _ h => h) (Or.inl ⟨by rfl, ?_⟩) ?_ ?_; rotate_left; (intro w'; go_simp; with_reducible rfl); rotate_left; (simp only [Act.put, qa, qb, qc, i64_w, i32_w]; rfl)
           refine pure_ (i := 45) (N := some 65) (v := ?_) (a' := ?_) m50 rfl rfl (any_of HT_.out (by kernel_rfl)) (fun _ _ _ h => h) (Or.inl ⟨by rfl, ?_⟩) ?_ ?_; rotate_left; (intro w'; go_simp; with_reducible rfl); rotate_left; (simp only [Act.put, qa, qb, qc, i64_w, i32_w]; rfl)
           refine pure_ (i := 46) (N := some 66) (v := undef) (a' := ?_) m51 rfl rfl (any_of HT_.out (by kernel_rfl)) (fun _ _ _ h => h) (Or.inr ⟨by rfl, rfl⟩) ?_ ?_
           rotate_left
           ·simp only [Act.put, qa, qb, qc, i64_w, i32_w]
            rfl
           refine pure_ (i := 47) (N := some 67) (v := undef) (a' := ?_) m52 rfl rfl (any_of HT_.out (by kernel_rfl)) (fun _ _ _ h => h) (Or.inr ⟨by rfl, rfl⟩) ?_ ?_
           rotate_left
           ·simp only [Act.put, qa, qb, qc, i64_w, i32_w]
            rfl
           refine pure_ (i := 48) (N := some 68) (v := ?_) (a' := ?_) m53 rfl rfl (any_of HT_.out (by kernel_rfl)) (fun _ _ _ h => h) (Or.inl ⟨by rfl, ?_⟩) ?_ ?_; rotate_left; (intro w'; go_simp; with_reducible rfl); rotate_left; (simp only [Act.put, qa, qb, qc, i64_w, i32_w]; rfl)
           refine pure_ (i := 49) (N := some 69) (v := ?_) (a' := ?_) m54 rfl rfl (any_of HT_.out (by kernel_rfl)) (fun _ _ _ h => h) (Or.inl ⟨by rfl, ?_⟩) ?_ ?_; rotate_left; (intro w'; go_simp; with_reducible rfl); rotate_left; (simp only [Act.put, qa, qb, qc, i64_w, i32_w]; rfl)
           refine pure_ (i := 50) (N := some 70) (v := undef) (a' := ?_) m55 rfl rfl (any_of HT_.out (by kernel_rfl)) (fun _ _ _ h => h) (Or.inr ⟨by rfl, rfl⟩) ?_ ?_
           rotate_left
           ·simp only [Act.put, qa, qb, qc, i64_w, i32_w]
            rfl
           refine pure_ (i := 51) (N := some 71) (v := undef) (a' := ?_) m56 rfl rfl (any_of HT_.out (by kernel_rfl)) (fun _ _ _ h => h) (Or.inr ⟨by rfl, rfl⟩) ?_ ?_
           rotate_left
           ·simp only [Act.put, qa, qb, qc, i64_w, i32_w]
            rfl
           refine pure_ (i := 52) (N := some 72) (v := ?_) (a' := ?_) m57 rfl rfl (any_of HT_.out (by kernel_rfl)) (fun _ _ _ h => h) (Or.inl ⟨by rfl, ?_⟩) ?_ ?_; rotate_left; (intro w'; go_simp; with_reducible rfl); rotate_left; (simp only [Act.put, qa, qb, qc, i64_w, i32_w]; rfl)
           refine done_ (done_of HT_.out (by kernel_rfl)) ?_
           try go_wp2
           go_meet
           case rel => exact ⟨_, (true), (by first | rfl | (simp; done) | (simp [*]; done)), H', ⟨by first | omega | exact Nat.le_refl _⟩, ⟨by repeat (first | (with_reducible first | exact HB.out | apply below_alloc | apply pw_below_drewN | apply below_drew1) | exact HB.out)⟩⟩
          ·rw [if_neg c20] at H
           have c20b0 : decide (((rd_T35 l0 a3).f1) < (rd l1 a3)) = false := decide_eq_false c20
           clear c20
           by_cases c22 : a4 < 0
           ·rw [if_pos c22] at H
            have c22b0 : decide (a4 < 0) = true := decide_eq_true c22
            clear c22
            have H' := Aside0.mk H
            clear H
            try go_wp2
            have n0_ := Aside0.mk (below_drew1 HB.out)
            clear HB
            have HB := n0_
            clear n0_
            have p301 : 0 ≤ (a3 : Int) := of_decide_eq_true (by first | (with_reducible assumption) | assumption)
            have q301 : a3 < (l1.length : Int) := of_decide_eq_true (by first | (with_reducible assumption) | assumption)
            obtain ⟨ad301, e301, hx301_0⟩ := Kd.at_int HR1.out a3 p301 q301
            have hw301_0 := hx301_0
            cases e301
            replace hx301_0 := (HB.out.cell (World.block_lt_of_cell? w _ hx301_0)).trans hx301_0
            replace p301 := eq_true p301
            replace q301 := eq_true q301
            have p302 : 0 ≤ (a3 : Int) := of_decide_eq_true (by first | (with_reducible assumption) | assumption)
            have q302 : a3 < (l0.length : Int) := of_decide_eq_true (by first | (with_reducible assumption) | assumption)
            obtain ⟨ad302, e302, hx302_0, hx302_1⟩ := at_T35 HR0.out a3 p302 q302
            have hw302_1 := hx302_1
            have hw302_0 := hx302_0
            cases e302
            replace hx302_0 := (HB.out.cell (World.block_lt_of_cell? w _ hx302_0)).trans hx302_0
            replace hx302_1 := (HB.out.cell (World.block_lt_of_cell? w _ hx302_1)).trans hx302_1
            replace p302 := eq_true p302
            replace q302 := eq_true q302
            refine start_ (n := 53) (S := fun w' => w'.cell? (ad301.add (a3).toNat) = some (.int .i64 (rd l1 a3)) ∧ w'.cell? (ad302.add ((a3).toNat * 2)) = some (.string ((rd_T35 l0 a3).f0)) ∧ w'.cell? ⟨(ad302.add ((a3).toNat * 2)).block, (ad302.add ((a3).toNat * 2)).off + 1, none⟩ = some (.int .i64 ((rd_T35 l0 a3).f1))) (ds := []) m0 (by kernel_rfl) rfl rfl ⟨((HB.out.cell (World.block_lt_of_cell? w _ hw301_0)).trans hw301_0), ((HB.out.cell (World.block_lt_of_cell? w _ hw302_0)).trans hw302_0), ((HB.out.cell (World.block_lt_of_cell? w _ hw302_1)).trans hw302_1)⟩ (fun hHeld => ?_); refine with_tabW supercargolaw43_AverageOrder.tab3 supercargolaw43_AverageOrder.bits3 (fun HT_ HW_ => ?_)
            generalize w9.drew = w23 at HB hx301_0 hx302_0 hx302_1 hHeld ⊢
            refine pure_ (i := 0) (N := some 20) (v := ?_) (a' := ?_) m1 rfl rfl (any_of HT_.out (by kernel_rfl)) (fun _ _ _ h => h) (Or.inl ⟨by rfl, ?_⟩) ?_ ?_; rotate_left; (intro w'; go_simp; with_reducible rfl); rotate_left; (simp only [Act.put, qa, qb, qc, i64_w, i32_w]; rfl)
            refine pure_ (i := 1) (N := some 21) (v := ?_) (a' := ?_) m2 rfl rfl (any_of HT_.out (by kernel_rfl)) (fun _ _ _ h => h) (Or.inl ⟨by rfl, ?_⟩) ?_ ?_; rotate_left; (intro w'; go_simp; with_reducible rfl); rotate_left; (simp only [Act.put, qa, qb, qc, i64_w, i32_w]; rfl)
            refine one_ (i := 2) (N := some 22) m3 rfl rfl (one_of HT_.out (by kernel_rfl)) (by decide) (fun K hK => ?_)
            refine goes_ Try.func11 (by kernel_rfl) rfl #[.slice _ l0.length c0, .slice _ l1.length c1] (by rfl) rfl rfl (by (try simp only [List.map_toArray, List.map_cons, List.map_nil]); first | done | rfl | (simp only [List.length_drop, List.length_take]; rfl)) ?_
            with_reducible refine (supercargolaw43_few.calls k _ _ l0 _ _ l1 true _ ?side1 ?side2 ?side3 ?side4 A10.out).mono ?_
            (case side1 => repeat (first | exact (Kd.C_below HR0.out HB.out) | (with_reducible refine Kd.C_alloc ?_ _) | (with_reducible refine Kd.C_drewN ?_ _) | (with_reducible refine Kd.C_drew ?_)))
            (case side2 => exact HC0.out)
            (case side3 => repeat (first | exact (Kd.C_below HR1.out HB.out) | (with_reducible refine Kd.C_alloc ?_ _) | (with_reducible refine Kd.C_drewN ?_ _) | (with_reducible refine Kd.C_drew ?_)))
            (case side4 => exact HC1.out)
            rintro e w' ⟨rfl, ⟨nd, rfl⟩⟩
            refine ⟨_, rfl, ?_⟩
            refine hK.out _ _ ⟨((HB.out.cell (World.block_lt_of_cell? w _ hw301_0)).trans hw301_0), ((HB.out.cell (World.block_lt_of_cell? w _ hw302_0)).trans hw302_0), ((HB.out.cell (World.block_lt_of_cell? w _ hw302_1)).trans hw302_1)⟩ (fun hHeld => ?_)
            clear hK K
            refine norm_ (a' := ?_) ?_ ?_
            rotate_left
            ·show Act.put _ (some 22) _ = _
             simp only [Act.put, qa, qb, qc, i64_w, i32_w]
             rfl
            refine pure_ (i := 3) (N := some 23) (v := ?_) (a' := ?_) m4 rfl rfl (any_of HT_.out (by kernel_rfl)) (fun _ _ _ h => h) (Or.inl ⟨by rfl, ?_⟩) ?_ ?_; rotate_left; (intro w'; go_simp; with_reducible rfl); rotate_left; (simp only [Act.put, qa, qb, qc, i64_w, i32_w]; rfl)
            refine pure_ (i := 4) (N := some 24) (v := ?_) (a' := ?_) m5 rfl rfl (any_of HT_.out (by kernel_rfl)) (fun _ _ _ h => h) (Or.inl ⟨by rfl, ?_⟩) ?_ ?_; rotate_left; (intro w'; go_simp; with_reducible rfl); rotate_left; (simp only [Act.put, qa, qb, qc, i64_w, i32_w]; rfl)
            refine pure_ (i := 5) (N := some 25) (v := ?_) (a' := ?_) m6 rfl rfl (any_of HT_.out (by kernel_rfl)) (fun _ _ _ h => h) (Or.inl ⟨by rfl, ?_⟩) ?_ ?_; rotate_left; (intro w'; go_simp; with_reducible rfl); rotate_left; (simp only [Act.put, qa, qb, qc, i64_w, i32_w]; rfl)
            refine pure_ (i := 6) (N := some 26) (v := ?_) (a' := ?_) m7 rfl rfl (any_of HT_.out (by kernel_rfl)) (fun _ _ _ h => h) (Or.inl ⟨by rfl, ?_⟩) ?_ ?_; rotate_left; (intro w'; go_simp; with_reducible rfl); rotate_left; (simp only [Act.put, qa, qb, qc, i64_w, i32_w]; rfl)
            refine pure_ (i := 7) (N := some 27) (v := ?_) (a' := ?_) m8 rfl rfl (any_of HT_.out (by kernel_rfl)) (fun _ _ _ h => h) (Or.inl ⟨by rfl, ?_⟩) ?_ ?_; rotate_left; (intro w'; go_simp; with_reducible rfl); rotate_left; (simp only [Act.put, qa, qb, qc, i64_w, i32_w]; rfl)
            refine pure_ (i := 8) (N := some 28) (v := ?_) (a' := ?_) m9 rfl rfl (any_of HT_.out (by kernel_rfl)) (fun _ _ _ h => h) (Or.inl ⟨by rfl, ?_⟩) ?_ ?_; rotate_left; (intro w'; go_simp; with_reducible rfl); rotate_left; (simp only [Act.put, qa, qb, qc, i64_w, i32_w]; rfl)
            refine pure_ (i := 9) (N := some 29) (v := ?_) (a' := ?_) m10 rfl rfl (any_of HT_.out (by kernel_rfl)) (fun _ _ _ h => h) (Or.inl ⟨by rfl, ?_⟩) ?_ ?_; rotate_left; (intro w'; go_simp; with_reducible rfl); rotate_left; (simp only [Act.put, qa, qb, qc, i64_w, i32_w]; rfl)
            refine pure_ (i := 10) (N := some 30) (v := ?_) (a' := ?_) m11 rfl rfl (any_of HT_.out (by kernel_rfl)) (fun _ _ _ h => h) (Or.inl ⟨by rfl, ?_⟩) ?_ ?_; rotate_left; (intro w'; go_simp; with_reducible rfl); rotate_left; (simp only [Act.put, qa, qb, qc, i64_w, i32_w]; rfl)
            refine pure_ (i := 11) (N := some 31) (v := ?_) (a' := ?_) m12 rfl rfl (any_of HT_.out (by kernel_rfl)) (fun _ _ _ h => h) (Or.inl ⟨by rfl, ?_⟩) ?_ ?_; rotate_left; (intro w'; go_simp; with_reducible rfl); rotate_left; (simp only [Act.put, qa, qb, qc, i64_w, i32_w]; rfl)
            refine pure_ (i := 12) (N := some 32) (v := ?_) (a' := ?_) m13 rfl rfl (any_of HT_.out (by kernel_rfl)) (fun _ _ _ h => h) (Or.inl ⟨by rfl, ?_⟩) ?_ ?_; rotate_left; (intro w'; go_simp; with_reducible rfl); rotate_left; (simp only [Act.put, qa, qb, qc, i64_w, i32_w]; rfl)
            refine pure_ (i := 13) (N := some 33) (v := ?_) (a' := ?_) m14 rfl rfl (any_of HT_.out (by kernel_rfl)) (fun _ _ _ h => h) (Or.inl ⟨by rfl, ?_⟩) ?_ ?_; rotate_left; (intro w'; go_simp; with_reducible rfl); rotate_left; (simp only [Act.put, qa, qb, qc, i64_w, i32_w]; rfl)
            refine pure_ (i := 14) (N := some 34) (v := ?_) (a' := ?_) m15 rfl rfl (any_of HT_.out (by kernel_rfl)) (fun _ _ _ h => h) (Or.inl ⟨by rfl, ?_⟩) ?_ ?_; rotate_left; (intro w'; go_simp; with_reducible rfl); rotate_left; (simp only [Act.put, qa, qb, qc, i64_w, i32_w]; rfl)
            refine pure_ (i := 15) (N := some 35) (v := ?_) (a' := ?_) m16 rfl rfl (any_of HT_.out (by kernel_rfl)) (fun _ _ _ h => h) (Or.inl ⟨by rfl, ?_⟩) ?_ ?_; rotate_left; (intro w'; go_simp; with_reducible rfl); rotate_left; (simp only [Act.put, qa, qb, qc, i64_w, i32_w]; rfl)
            refine pure_ (i := 16) (N := some 36) (v := ?_) (a' := ?_) m17 rfl rfl (any_of HT_.out (by kernel_rfl)) (fun _ _ _ h => h) (Or.inl ⟨by rfl, ?_⟩) ?_ ?_; rotate_left; (intro w'; go_simp; with_reducible rfl); rotate_left; (simp only [Act.put, qa, qb, qc, i64_w, i32_w]; rfl)
            refine pure_ (i := 17) (N := some 37) (v := ?_) (a' := ?_) m18 rfl rfl (any_of HT_.out (by kernel_rfl)) (fun _ _ _ h => h) (Or.inl ⟨by rfl, ?_⟩) ?_ ?_; rotate_left; (intro w'; go_simp; with_reducible rfl); rotate_left; (simp only [Act.put, qa, qb, qc, i64_w, i32_w]; rfl)
            refine pure_ (i := 18) (N := some 38) (v := ?_) (a' := ?_) m19 rfl rfl (any_of HT_.out (by kernel_rfl)) (fun _ _ _ h => h) (Or.inl ⟨by rfl, ?_⟩) ?_ ?_; rotate_left; (intro w'; go_simp; with_reducible rfl); rotate_left; (simp only [Act.put, qa, qb, qc, i64_w, i32_w]; rfl)
            refine pure_ (i := 19) (N := some 39) (v := ?_) (a' := ?_) m20 rfl rfl (any_of HT_.out (by kernel_rfl)) (fun _ _ _ h => h) (Or.inl ⟨by rfl, ?_⟩) ?_ ?_; rotate_left; (intro w'; go_simp; with_reducible rfl); rotate_left; (simp only [Act.put, qa, qb, qc, i64_w, i32_w]; rfl)
            refine pure_ (i := 20) (N := some 40) (v := ?_) (a' := ?_) m21 rfl rfl (any_of HT_.out (by kernel_rfl)) (fun _ _ _ h => h) (Or.inl ⟨by rfl, ?_⟩) ?_ ?_; rotate_left; (intro w'; go_simp; with_reducible rfl); rotate_left; (simp only [Act.put, qa, qb, qc, i64_w, i32_w]; rfl)
            refine pure_ (i := 21) (N := some 41) (v := ?_) (a' := ?_) m22 rfl rfl (any_of HT_.out (by kernel_rfl)) (fun _ _ _ h => h) (Or.inl ⟨by rfl, ?_⟩) ?_ ?_; rotate_left; (intro w'; go_simp; with_reducible rfl); rotate_left; (simp only [Act.put, qa, qb, qc, i64_w, i32_w]; rfl)
            refine pure_ (i := 22) (N := some 42) (v := ?_) (a' := ?_) m23 rfl rfl (any_of HT_.out (by kernel_rfl)) (fun _ _ _ h => h) (Or.inl ⟨by rfl, ?_⟩) ?_ ?_; rotate_left; (intro w'; go_simp; with_reducible rfl); rotate_left; (simp only [Act.put, qa, qb, qc, i64_w, i32_w]; rfl)
            refine pure_ (i := 23) (N := some 43) (v := ?_) (a' := ?_) m24 rfl rfl (any_of HT_.out (by kernel_rfl)) (fun _ _ _ h => h) (Or.inl ⟨by rfl, ?_⟩) ?_ ?_; rotate_left; (intro w'; go_simp; with_reducible rfl); rotate_left; (simp only [Act.put, qa, qb, qc, i64_w, i32_w]; rfl)
            refine pure_ (i := 24) (N := some 44) (v := ?_) (a' := ?_) m25 rfl rfl (any_of HT_.out (by kernel_rfl)) (fun _ _ _ h => h) (Or.inl ⟨by rfl, ?_⟩) ?_ ?_; rotate_left; (intro w'; go_simp; with_reducible rfl); rotate_left; (simp only [Act.put, qa, qb, qc, i64_w, i32_w]; rfl)
            refine pure_ (i := 26) (N := some 46) (v := ?_) (a' := ?_) m26 rfl rfl (any_of HT_.out (by kernel_rfl)) (fun _ _ _ h => h) (Or.inl ⟨by rfl, ?_⟩) ?_ ?_; rotate_left; (intro w'; go_simp; with_reducible rfl); rotate_left; (simp only [Act.put, qa, qb, qc, i64_w, i32_w]; rfl)
            refine pure_ (i := 27) (N := some 47) (v := ?_) (a' := ?_) m27 rfl rfl (any_of HT_.out (by kernel_rfl)) (fun _ _ _ h => h) (Or.inl ⟨by rfl, ?_⟩) ?_ ?_; rotate_left; (intro w'; go_simp; with_reducible rfl); rotate_left; (simp only [Act.put, qa, qb, qc, i64_w, i32_w]; rfl)
            refine pure_ (i := 28) (N := some 48) (v := ?_) (a' := ?_) m28 rfl rfl (any_of HT_.out (by kernel_rfl)) (fun _ _ _ h => h) (Or.inl ⟨by rfl, ?_⟩) ?_ ?_; rotate_left; (intro w'; go_simp; with_reducible rfl); rotate_left; (simp only [Act.put, qa, qb, qc, i64_w, i32_w]; rfl)
            refine pure_ (i := 29) (N := some 49) (v := ?_) (a' := ?_) m29 rfl rfl (any_of HT_.out (by kernel_rfl)) (fun _ _ _ h => h) (Or.inl ⟨by rfl, ?_⟩) ?_ ?_; rotate_left; (intro w'; go_simp; with_reducible rfl); rotate_left; (simp only [Act.put, qa, qb, qc, i64_w, i32_w]; rfl)
            refine take_ (i := 25) (N := some 45) (v := ?_) (a' := ?_) m34 rfl rfl (take_ofW HT_.out HW_.out (by kernel_rfl)) (fun _ _ _ h => h) (Or.inl ⟨by rfl, ?_⟩) hHeld ?_ ?_
            rotate_left
            ·rintro w' ⟨s0, s1, s2⟩
             go_simp
             with_reducible rfl
            rotate_left
            ·simp only [Act.put, qa, qb, qc, i64_w, i32_w]
             rfl
            refine take_ (i := 30) (N := some 50) (v := ?_) (a' := ?_) m35 rfl rfl (take_ofW HT_.out HW_.out (by kernel_rfl)) (fun _ _ _ h => h) (Or.inl ⟨by rfl, ?_⟩) hHeld ?_ ?_
            rotate_left
            ·rintro w' ⟨s0, s1, s2⟩
             go_simp
             with_reducible rfl
            rotate_left
            ·simp only [Act.put, qa, qb, qc, i64_w, i32_w]
             rfl
            refine pure_ (i := 31) (N := some 51) (v := ?_) (a' := ?_) m36 rfl rfl (any_of HT_.out (by kernel_rfl)) (fun _ _ _ h => h) (Or.inl ⟨by rfl, ?_⟩) ?_ ?_; rotate_left; (intro w'; go_simp; with_reducible rfl); rotate_left; (simp only [Act.put, qa, qb, qc, i64_w, i32_w]; rfl)
            refine pure_ (i := 32) (N := some 52) (v := ?_) (a' := ?_) m37 rfl rfl (any_of HT_.out (by kernel_rfl)) (fun _ _ _ h => h) (Or.inl ⟨by rfl, ?_⟩) ?_ ?_; rotate_left; (intro w'; go_simp; with_reducible rfl); rotate_left; (simp only [Act.put, qa, qb, qc, i64_w, i32_w]; rfl)
            refine pure_ (i := 33) (N := some 53) (v := ?_) (a' := ?_) m38 rfl rfl (any_of HT_.out (by kernel_rfl)) (fun _ _ _ h => h) (Or.inl ⟨by rfl, ?_⟩) ?_ ?_; rotate_left; (intro w'; go_simp; with_reducible rfl); rotate_left; (simp only [Act.put, qa, qb, qc, i64_w, i32_w]; rfl)
            refine pure_ (i := 34) (N := some 54) (v := ?_) (a' := ?_) m39 rfl rfl (any_of HT_.out (by kernel_rfl)) (fun _ _ _ h => h) (Or.inl ⟨by rfl, ?_⟩) ?_ ?_; rotate_left; (intro w'; go_simp; with_reducible rfl); rotate_left; (simp only [Act.put, qa, qb, qc, i64_w, i32_w]; rfl)
            refine pure_ (i := 35) (N := some 55) (v := ?_) (a' := ?_) m40 rfl rfl (any_of HT_.out (by kernel_rfl)) (fun _ _ _ h => h) (Or.inl ⟨by rfl, ?_⟩) ?_ ?_; rotate_left; (intro w'; go_simp; with_reducible rfl); rotate_left; (simp only [Act.put, qa, qb, qc, i64_w, i32_w]; rfl)
            refine pure_ (i := 36) (N := some 56) (v := ?_) (a' := ?_) m41 rfl rfl (any_of HT_.out (by kernel_rfl)) (fun _ _ _ h => h) (Or.inl ⟨by rfl, ?_⟩) ?_ ?_; rotate_left; (intro w'; go_simp; with_reducible rfl); rotate_left; (simp only [Act.put, qa, qb, qc, i64_w, i32_w]; rfl)
            refine pure_ (i := 37) (N := some 57) (v := ?_) (a' := ?_) m42 rfl rfl (any_of HT_.out (by kernel_rfl)) (fun _ _ _ h => h) (Or.inl ⟨by rfl, ?_⟩) ?_ ?_; rotate_left; (intro w'; go_simp; with_reducible rfl); rotate_left; (simp only [Act.put, qa, qb, qc, i64_w, i32_w]; rfl)
            refine pure_ (i := 38) (N := some 58) (v := undef) (a' := ?_) m43 rfl rfl (any_of HT_.out (by kernel_rfl)) (fun _ _ _ h => h) (Or.inr ⟨by rfl, rfl⟩) ?_ ?_
            rotate_left
            ·simp only [Act.put, qa, qb, qc, i64_w, i32_w]
             rfl
            refine pure_ (i := 39) (N := some 59) (v := undef) (a' := ?_) m44 rfl rfl (any_of HT_.out (by kernel_rfl)) (fun _ _ _ h => h) (Or.inr ⟨by rfl, rfl⟩) ?_ ?_
            rotate_left
            ·simp only [Act.put, qa, qb, qc, i64_w, i32_w]
             rfl
            refine pure_ (i := 40) (N := some 60) (v := undef) (a' := ?_) m45 rfl rfl (any_of HT_.out (by kernel_rfl)) (fun _ _ _ h => h) (Or.inr ⟨by rfl, rfl⟩) ?_ ?_
            rotate_left
            ·simp only [Act.put, qa, qb, qc, i64_w, i32_w]
             rfl
            refine pure_ (i := 41) (N := some 61) (v := undef) (a' := ?_) m46 rfl rfl (any_of HT_.out (by kernel_rfl)) (fun _ _ _ h => h) (Or.inr ⟨by rfl, rfl⟩) ?_ ?_
            rotate_left
            ·simp only [Act.put, qa, qb, qc, i64_w, i32_w]
             rfl
            refine pure_ (i := 42) (N := some 62) (v := undef) (a' := ?_) m47 rfl rfl (any_of HT_.out (by kernel_rfl)) (fun _ _ _ h => h) (Or.inr ⟨by rfl, rfl⟩) ?_ ?_
            rotate_left
            ·simp only [Act.put, qa, qb, qc, i64_w, i32_w]
             rfl
            refine pure_ (i := 43) (N := some 63) (v := undef) (a' := ?_) m48 rfl rfl (any_of HT_.out (by kernel_rfl)) (fun _ _ _ h => h) (Or.inr ⟨by rfl, rfl⟩) ?_ ?_
            rotate_left
            ·simp only [Act.put, qa, qb, qc, i64_w, i32_w]
             rfl
            refine pure_ (i := 44) (N := some 64) (v := ?_) (a' := ?_) m49 rfl rfl (any_of HT_.out (by kernel_rfl)) (fun _ _ _ h => h) (Or.inl ⟨by rfl, ?_⟩) ?_ ?_; rotate_left; (intro w'; go_simp; with_reducible rfl); rotate_left; (simp only [Act.put, qa, qb, qc, i64_w, i32_w]; rfl)
            refine pure_ (i := 45) (N := some 65) (v := ?_) (a' := ?_) m50 rfl rfl (any_of HT_.out (by kernel_rfl)) (fun _ _ _ h => h) (Or.inl ⟨by rfl, ?_⟩) ?_ ?_; rotate_left; (intro w'; go_simp; with_reducible rfl); rotate_left; (simp only [Act.put, qa, qb, qc, i64_w, i32_w]; rfl)
            refine pure_ (i := 46) (N := some 66) (v := undef) (a' := ?_) m51 rfl rfl (any_of HT_.out (by kernel_rfl)) (fun _ _ _ h => h) (Or.inr ⟨by rfl, rfl⟩) ?_ ?_
            rotate_left
            ·simp only [Act.put, qa, qb, qc, i64_w, i32_w]
             rfl
            refine pure_ (i := 47) (N := some 67) (v := undef) (a' := ?_) m52 rfl rfl (any_of HT_.out (by kernel_rfl)) (fun _ _ _ h => h) (Or.inr ⟨by rfl, rfl⟩) ?_ ?_
            rotate_left
            ·simp only [Act.put, qa, qb, qc, i64_w, i32_w]
             rfl
            refine pure_ (i := 48) (N := some 68) (v := ?_) (a' := ?_) m53 rfl rfl (any_of HT_.out (by kernel_rfl)) (fun _ _ _ h => h) (Or.inl ⟨by rfl, ?_⟩) ?_ ?_; rotate_left; (intro w'; go_simp; with_reducible rfl); rotate_left; (simp only [Act.put, qa, qb, qc, i64_w, i32_w]; rfl)
            refine pure_ (i := 49) (N := some 69) (v := ?_) (a' := ?_) m54 rfl rfl (any_of HT_.out (by kernel_rfl)) (fun _ _ _ h => h) (Or.inl ⟨by rfl, ?_⟩) ?_ ?_; rotate_left; (intro w'; go_simp; with_reducible rfl); rotate_left; (simp only [Act.put, qa, qb, qc, i64_w, i32_w]; rfl)
            refine pure_ (i := 50) (N := some 70) (v := undef) (a' := ?_) m55 rfl rfl (any_of HT_.out (by kernel_rfl)) (fun _ _ _ h => h) (Or.inr ⟨by rfl, rfl⟩) ?_ ?_
            rotate_left
            ·simp only [Act.put, qa, qb, qc, i64_w, i32_w]
             rfl
            refine pure_ (i := 51) (N := some 71) (v := undef) (a' := ?_) m56 rfl rfl (any_of HT_.out (by kernel_rfl)) (fun _ _ _ h => h) (Or.inr ⟨by rfl, rfl⟩) ?_ ?_
            rotate_left
            ·simp only [Act.put, qa, qb, qc, i64_w, i32_w]
             rfl
            refine pure_ (i := 52) (N := some 72) (v := ?_) (a' := ?_) m57 rfl rfl (any_of HT_.out (by kernel_rfl)) (fun _ _ _ h => h) (Or.inl ⟨by rfl, ?_⟩) ?_ ?_; rotate_left; (intro w'; go_simp; with_reducible rfl); rotate_left; (simp only [Act.put, qa, qb, qc, i64_w, i32_w]; rfl)
            refine done_ (done_of HT_.out (by kernel_rfl)) ?_
            try go_wp2
            go_meet
            case rel => exact ⟨_, (true), (by first | rfl | (simp; done) | (simp [*]; done)), H', ⟨by first | omega | exact Nat.le_refl _⟩, ⟨by repeat (first | (with_reducible first | exact HB.out | apply below_alloc | apply pw_below_drewN | apply below_drew1) | exact HB.out)⟩⟩
           ·rw [if_neg c22] at H
            have c22b0 : decide (a4 < 0) = false := decide_eq_false c22
            clear c22
            by_cases c24 : a4 > (rd l1 a3)
            ·rw [if_pos c24] at H
             have c24b0 : decide ((rd l1 a3) < a4) = true := decide_eq_true c24
             clear c24
             have H' := Aside0.mk H
             clear H
             try go_wp2
             have n0_ := Aside0.mk (below_drew1 HB.out)
             clear HB
             have HB := n0_
             clear n0_
             have p301 : 0 ≤ (a3 : Int) := of_decide_eq_true (by first | (with_reducible assumption) | assumption)
             have q301 : a3 < (l1.length : Int) := of_decide_eq_true (by first | (with_reducible assumption) | assumption)
             obtain ⟨ad301, e301, hx301_0⟩ := Kd.at_int HR1.out a3 p301 q301
             have hw301_0 := hx301_0
             cases e301
             replace hx301_0 := (HB.out.cell (World.block_lt_of_cell? w _ hx301_0)).trans hx301_0
             replace p301 := eq_true p301
             replace q301 := eq_true q301
             have p302 : 0 ≤ (a3 : Int) := of_decide_eq_true (by first | (with_reducible assumption) | assumption)
             have q302 : a3 < (l0.length : Int) := of_decide_eq_true (by first | (with_reducible assumption) | assumption)
             obtain ⟨ad302, e302, hx302_0, hx302_1⟩ := at_T35 HR0.out a3 p302 q302
             have hw302_1 := hx302_1
             have hw302_0 := hx302_0
             cases e302
             replace hx302_0 := (HB.out.cell (World.block_lt_of_cell? w _ hx302_0)).trans hx302_0
             replace hx302_1 := (HB.out.cell (World.block_lt_of_cell? w _ hx302_1)).trans hx302_1
             replace p302 := eq_true p302
             replace q302 := eq_true q302
             have p303 : 0 ≤ (a3 : Int) := of_decide_eq_true (by first | (with_reducible assumption) | assumption)
             have q303 : a3 < (l1.length : Int) := of_decide_eq_true (by first | (with_reducible assumption) | assumption)
             obtain ⟨ad303, e303, hx303_0⟩ := Kd.at_int HR1.out a3 p303 q303
             have hw303_0 := hx303_0
             obtain rfl : ad301 = ad303 := (by injection e303)
             replace hx303_0 := (HB.out.cell (World.block_lt_of_cell? w _ hx303_0)).trans hx303_0
             replace p303 := eq_true p303
             replace q303 := eq_true q303
             refine start_ (n := 53) (S := fun w' => w'.cell? (ad301.add (a3).toNat) = some (.int .i64 (rd l1 a3)) ∧ w'.cell? (ad302.add ((a3).toNat * 2)) = some (.string ((rd_T35 l0 a3).f0)) ∧ w'.cell? ⟨(ad302.add ((a3).toNat * 2)).block, (ad302.add ((a3).toNat * 2)).off + 1, none⟩ = some (.int .i64 ((rd_T35 l0 a3).f1)) ∧ w'.cell? (ad301.add (a3).toNat) = some (.int .i64 (rd l1 a3))) (ds := []) m0 (by kernel_rfl) rfl rfl ⟨((HB.out.cell (World.block_lt_of_cell? w _ hw301_0)).trans hw301_0), ((HB.out.cell (World.block_lt_of_cell? w _ hw302_0)).trans hw302_0), ((HB.out.cell (World.block_lt_of_cell? w _ hw302_1)).trans hw302_1), ((HB.out.cell (World.block_lt_of_cell? w _ hw303_0)).trans hw303_0)⟩ (fun hHeld => ?_); refine with_tabW supercargolaw43_AverageOrder.tab3 supercargolaw43_AverageOrder.bits3 (fun HT_ HW_ => ?_)
             generalize w9.drew = w25 at HB hx301_0 hx302_0 hx302_1 hx303_0 hHeld ⊢
             refine pure_ (i := 0) (N := some 20) (v := ?_) (a' := ?_) m1 rfl rfl (any_of HT_.out (by kernel_rfl)) (fun _ _ _ h => h) (Or.inl ⟨by rfl, ?_⟩) ?_ ?_; rotate_left; (intro w'; go_simp; with_reducible rfl); rotate_left; (simp only [Act.put, qa, qb, qc, i64_w, i32_w]; rfl)
             refine pure_ (i := 1) (N := some 21) (v := ?_) (a' := ?_) m2 rfl rfl (any_of HT_.out (by kernel_rfl)) (fun _ _ _ h => h) (Or.inl ⟨by rfl, ?_⟩) ?_ ?_; rotate_left; (intro w'; go_simp; with_reducible rfl); rotate_left; (simp only [Act.put, qa, qb, qc, i64_w, i32_w]; rfl)
             refine one_ (i := 2) (N := some 22) m3 rfl rfl (one_of HT_.out (by kernel_rfl)) (by decide) (fun K hK => ?_)
             refine goes_ Try.func11 (by kernel_rfl) rfl #[.slice _ l0.length c0, .slice _ l1.length c1] (by rfl) rfl rfl (by (try simp only [List.map_toArray, List.map_cons, List.map_nil]); first | done | rfl | (simp only [List.length_drop, List.length_take]; rfl)) ?_
             with_reducible refine (supercargolaw43_few.calls k _ _ l0 _ _ l1 true _ ?side1 ?side2 ?side3 ?side4 A10.out).mono ?_
             (case side1 => repeat (first | exact (Kd.C_below HR0.out HB.out) | (with_reducible refine Kd.C_alloc ?_ _) | (with_reducible refine Kd.C_drewN ?_ _) | (with_reducible refine Kd.C_drew ?_)))
             (case side2 => exact HC0.out)
             (case side3 => repeat (first | exact (Kd.C_below HR1.out HB.out) | (with_reducible refine Kd.C_alloc ?_ _) | (with_reducible refine Kd.C_drewN ?_ _) | (with_reducible refine Kd.C_drew ?_)))
             (case side4 => exact HC1.out)
             rintro e w' ⟨rfl, ⟨nd, rfl⟩⟩
             refine ⟨_, rfl, ?_⟩
             refine hK.out _ _ ⟨((HB.out.cell (World.block_lt_of_cell? w _ hw301_0)).trans hw301_0), ((HB.out.cell (World.block_lt_of_cell? w _ hw302_0)).trans hw302_0), ((HB.out.cell (World.block_lt_of_cell? w _ hw302_1)).trans hw302_1), ((HB.out.cell (World.block_lt_of_cell? w _ hw303_0)).trans hw303_0)⟩ (fun hHeld => ?_)
             clear hK K
             refine norm_ (a' := ?_) ?_ ?_
             rotate_left
             ·show Act.put _ (some 22) _ = _
              simp only [Act.put, qa, qb, qc, i64_w, i32_w]
              rfl
             refine pure_ (i := 3) (N := some 23) (v := ?_) (a' := ?_) m4 rfl rfl (any_of HT_.out (by kernel_rfl)) (fun _ _ _ h => h) (Or.inl ⟨by rfl, ?_⟩) ?_ ?_; rotate_left; (intro w'; go_simp; with_reducible rfl); rotate_left; (simp only [Act.put, qa, qb, qc, i64_w, i32_w]; rfl)
             refine pure_ (i := 4) (N := some 24) (v := ?_) (a' := ?_) m5 rfl rfl (any_of HT_.out (by kernel_rfl)) (fun _ _ _ h => h) (Or.inl ⟨by rfl, ?_⟩) ?_ ?_; rotate_left; (intro w'; go_simp; with_reducible rfl); rotate_left; (simp only [Act.put, qa, qb, qc, i64_w, i32_w]; rfl)
             refine pure_ (i := 5) (N := some 25) (v := ?_) (a' := ?_) m6 rfl rfl (any_of HT_.out (by kernel_rfl)) (fun _ _ _ h => h) (Or.inl ⟨by rfl, ?_⟩) ?_ ?_; rotate_left; (intro w'; go_simp; with_reducible rfl); rotate_left; (simp only [Act.put, qa, qb, qc, i64_w, i32_w]; rfl)
             refine pure_ (i := 6) (N := some 26) (v := ?_) (a' := ?_) m7 rfl rfl (any_of HT_.out (by kernel_rfl)) (fun _ _ _ h => h) (Or.inl ⟨by rfl, ?_⟩) ?_ ?_; rotate_left; (intro w'; go_simp; with_reducible rfl); rotate_left; (simp only [Act.put, qa, qb, qc, i64_w, i32_w]; rfl)
             refine pure_ (i := 7) (N := some 27) (v := ?_) (a' := ?_) m8 rfl rfl (any_of HT_.out (by kernel_rfl)) (fun _ _ _ h => h) (Or.inl ⟨by rfl, ?_⟩) ?_ ?_; rotate_left; (intro w'; go_simp; with_reducible rfl); rotate_left; (simp only [Act.put, qa, qb, qc, i64_w, i32_w]; rfl)
             refine pure_ (i := 8) (N := some 28) (v := ?_) (a' := ?_) m9 rfl rfl (any_of HT_.out (by kernel_rfl)) (fun _ _ _ h => h) (Or.inl ⟨by rfl, ?_⟩) ?_ ?_; rotate_left; (intro w'; go_simp; with_reducible rfl); rotate_left; (simp only [Act.put, qa, qb, qc, i64_w, i32_w]; rfl)
             refine pure_ (i := 9) (N := some 29) (v := ?_) (a' := ?_) m10 rfl rfl (any_of HT_.out (by kernel_rfl)) (fun _ _ _ h => h) (Or.inl ⟨by rfl, ?_⟩) ?_ ?_; rotate_left; (intro w'; go_simp; with_reducible rfl); rotate_left; (simp only [Act.put, qa, qb, qc, i64_w, i32_w]; rfl)
             refine pure_ (i := 10) (N := some 30) (v := ?_) (a' := ?_) m11 rfl rfl (any_of HT_.out (by kernel_rfl)) (fun _ _ _ h => h) (Or.inl ⟨by rfl, ?_⟩) ?_ ?_; rotate_left; (intro w'; go_simp; with_reducible rfl); rotate_left; (simp only [Act.put, qa, qb, qc, i64_w, i32_w]; rfl)
             refine pure_ (i := 11) (N := some 31) (v := ?_) (a' := ?_) m12 rfl rfl (any_of HT_.out (by kernel_rfl)) (fun _ _ _ h => h) (Or.inl ⟨by rfl, ?_⟩) ?_ ?_; rotate_left; (intro w'; go_simp; with_reducible rfl); rotate_left; (simp only [Act.put, qa, qb, qc, i64_w, i32_w]; rfl)
             refine pure_ (i := 12) (N := some 32) (v := ?_) (a' := ?_) m13 rfl rfl (any_of HT_.out (by kernel_rfl)) (fun _ _ _ h => h) (Or.inl ⟨by rfl, ?_⟩) ?_ ?_; rotate_left; (intro w'; go_simp; with_reducible rfl); rotate_left; (simp only [Act.put, qa, qb, qc, i64_w, i32_w]; rfl)
             refine pure_ (i := 13) (N := some 33) (v := ?_) (a' := ?_) m14 rfl rfl (any_of HT_.out (by kernel_rfl)) (fun _ _ _ h => h) (Or.inl ⟨by rfl, ?_⟩) ?_ ?_; rotate_left; (intro w'; go_simp; with_reducible rfl); rotate_left; (simp only [Act.put, qa, qb, qc, i64_w, i32_w]; rfl)
             refine pure_ (i := 14) (N := some 34) (v := ?_) (a' := ?_) m15 rfl rfl (any_of HT_.out (by kernel_rfl)) (fun _ _ _ h => h) (Or.inl ⟨by rfl, ?_⟩) ?_ ?_; rotate_left; (intro w'; go_simp; with_reducible rfl); rotate_left; (simp only [Act.put, qa, qb, qc, i64_w, i32_w]; rfl)
             refine pure_ (i := 15) (N := some 35) (v := ?_) (a' := ?_) m16 rfl rfl (any_of HT_.out (by kernel_rfl)) (fun _ _ _ h => h) (Or.inl ⟨by rfl, ?_⟩) ?_ ?_; rotate_left; (intro w'; go_simp; with_reducible rfl); rotate_left; (simp only [Act.put, qa, qb, qc, i64_w, i32_w]; rfl)
             refine pure_ (i := 16) (N := some 36) (v := ?_) (a' := ?_) m17 rfl rfl (any_of HT_.out (by kernel_rfl)) (fun _ _ _ h => h) (Or.inl ⟨by rfl, ?_⟩) ?_ ?_; rotate_left; (intro w'; go_simp; with_reducible rfl); rotate_left; (simp only [Act.put, qa, qb, qc, i64_w, i32_w]; rfl)
             refine pure_ (i := 17) (N := some 37) (v := ?_) (a' := ?_) m18 rfl rfl (any_of HT_.out (by kernel_rfl)) (fun _ _ _ h => h) (Or.inl ⟨by rfl, ?_⟩) ?_ ?_; rotate_left; (intro w'; go_simp; with_reducible rfl); rotate_left; (simp only [Act.put, qa, qb, qc, i64_w, i32_w]; rfl)
             refine pure_ (i := 18) (N := some 38) (v := ?_) (a' := ?_) m19 rfl rfl (any_of HT_.out (by kernel_rfl)) (fun _ _ _ h => h) (Or.inl ⟨by rfl, ?_⟩) ?_ ?_; rotate_left; (intro w'; go_simp; with_reducible rfl); rotate_left; (simp only [Act.put, qa, qb, qc, i64_w, i32_w]; rfl)
             refine pure_ (i := 19) (N := some 39) (v := ?_) (a' := ?_) m20 rfl rfl (any_of HT_.out (by kernel_rfl)) (fun _ _ _ h => h) (Or.inl ⟨by rfl, ?_⟩) ?_ ?_; rotate_left; (intro w'; go_simp; with_reducible rfl); rotate_left; (simp only [Act.put, qa, qb, qc, i64_w, i32_w]; rfl)
             refine pure_ (i := 20) (N := some 40) (v := ?_) (a' := ?_) m21 rfl rfl (any_of HT_.out (by kernel_rfl)) (fun _ _ _ h => h) (Or.inl ⟨by rfl, ?_⟩) ?_ ?_; rotate_left; (intro w'; go_simp; with_reducible rfl); rotate_left; (simp only [Act.put, qa, qb, qc, i64_w, i32_w]; rfl)
             refine pure_ (i := 21) (N := some 41) (v := ?_) (a' := ?_) m22 rfl rfl (any_of HT_.out (by kernel_rfl)) (fun _ _ _ h => h) (Or.inl ⟨by rfl, ?_⟩) ?_ ?_; rotate_left; (intro w'; go_simp; with_reducible rfl); rotate_left; (simp only [Act.put, qa, qb, qc, i64_w, i32_w]; rfl)
             refine pure_ (i := 22) (N := some 42) (v := ?_) (a' := ?_) m23 rfl rfl (any_of HT_.out (by kernel_rfl)) (fun _ _ _ h => h) (Or.inl ⟨by rfl, ?_⟩) ?_ ?_; rotate_left; (intro w'; go_simp; with_reducible rfl); rotate_left; (simp only [Act.put, qa, qb, qc, i64_w, i32_w]; rfl)
             refine pure_ (i := 23) (N := some 43) (v := ?_) (a' := ?_) m24 rfl rfl (any_of HT_.out (by kernel_rfl)) (fun _ _ _ h => h) (Or.inl ⟨by rfl, ?_⟩) ?_ ?_; rotate_left; (intro w'; go_simp; with_reducible rfl); rotate_left; (simp only [Act.put, qa, qb, qc, i64_w, i32_w]; rfl)
             refine pure_ (i := 24) (N := some 44) (v := ?_) (a' := ?_) m25 rfl rfl (any_of HT_.out (by kernel_rfl)) (fun _ _ _ h => h) (Or.inl ⟨by rfl, ?_⟩) ?_ ?_; rotate_left; (intro w'; go_simp; with_reducible rfl); rotate_left; (simp only [Act.put, qa, qb, qc, i64_w, i32_w]; rfl)
             refine pure_ (i := 26) (N := some 46) (v := ?_) (a' := ?_) m26 rfl rfl (any_of HT_.out (by kernel_rfl)) (fun _ _ _ h => h) (Or.inl ⟨by rfl, ?_⟩) ?_ ?_; rotate_left; (intro w'; go_simp; with_reducible rfl); rotate_left; (simp only [Act.put, qa, qb, qc, i64_w, i32_w]; rfl)
             refine pure_ (i := 27) (N := some 47) (v := ?_) (a' := ?_) m27 rfl rfl (any_of HT_.out (by kernel_rfl)) (fun _ _ _ h => h) (Or.inl ⟨by rfl, ?_⟩) ?_ ?_; rotate_left; (intro w'; go_simp; with_reducible rfl); rotate_left; (simp only [Act.put, qa, qb, qc, i64_w, i32_w]; rfl)
             refine pure_ (i := 28) (N := some 48) (v := ?_) (a' := ?_) m28 rfl rfl (any_of HT_.out (by kernel_rfl)) (fun _ _ _ h => h) (Or.inl ⟨by rfl, ?_⟩) ?_ ?_; rotate_left; (intro w'; go_simp; with_reducible rfl); rotate_left; (simp only [Act.put, qa, qb, qc, i64_w, i32_w]; rfl)
             refine pure_ (i := 29) (N := some 49) (v := ?_) (a' := ?_) m29 rfl rfl (any_of HT_.out (by kernel_rfl)) (fun _ _ _ h => h) (Or.inl ⟨by rfl, ?_⟩) ?_ ?_; rotate_left; (intro w'; go_simp; with_reducible rfl); rotate_left; (simp only [Act.put, qa, qb, qc, i64_w, i32_w]; rfl)
             refine take_ (i := 25) (N := some 45) (v := ?_) (a' := ?_) m34 rfl rfl (take_ofW HT_.out HW_.out (by kernel_rfl)) (fun _ _ _ h => h) (Or.inl ⟨by rfl, ?_⟩) hHeld ?_ ?_
             rotate_left
             ·rintro w' ⟨s0, s1, s2, s3⟩
              go_simp
              with_reducible rfl
             rotate_left
             ·simp only [Act.put, qa, qb, qc, i64_w, i32_w]
              rfl
             refine take_ (i := 30) (N := some 50) (v := ?_) (a' := ?_) m35 rfl rfl (take_ofW HT_.out HW_.out (by kernel_rfl)) (fun _ _ _ h => h) (Or.inl ⟨by rfl, ?_⟩) hHeld ?_ ?_
             rotate_left
             ·rintro w' ⟨s0, s1, s2, s3⟩
              go_simp
              with_reducible rfl
             rotate_left
             ·simp only [Act.put, qa, qb, qc, i64_w, i32_w]
              rfl
             refine pure_ (i := 31) (N := some 51) (v := ?_) (a' := ?_) m36 rfl rfl (any_of HT_.out (by kernel_rfl)) (fun _ _ _ h => h) (Or.inl ⟨by rfl, ?_⟩) ?_ ?_; rotate_left; (intro w'; go_simp; with_reducible rfl); rotate_left; (simp only [Act.put, qa, qb, qc, i64_w, i32_w]; rfl)
             refine pure_ (i := 32) (N := some 52) (v := ?_) (a' := ?_) m37 rfl rfl (any_of HT_.out (by kernel_rfl)) (fun _ _ _ h => h) (Or.inl ⟨by rfl, ?_⟩) ?_ ?_; rotate_left; (intro w'; go_simp; with_reducible rfl); rotate_left; (simp only [Act.put, qa, qb, qc, i64_w, i32_w]; rfl)
             refine pure_ (i := 33) (N := some 53) (v := ?_) (a' := ?_) m38 rfl rfl (any_of HT_.out (by kernel_rfl)) (fun _ _ _ h => h) (Or.inl ⟨by rfl, ?_⟩) ?_ ?_; rotate_left; (intro w'; go_simp; with_reducible rfl); rotate_left; (simp only [Act.put, qa, qb, qc, i64_w, i32_w]; rfl)
             refine pure_ (i := 34) (N := some 54) (v := ?_) (a' := ?_) m39 rfl rfl (any_of HT_.out (by kernel_rfl)) (fun _ _ _ h => h) (Or.inl ⟨by rfl, ?_⟩) ?_ ?_; rotate_left; (intro w'; go_simp; with_reducible rfl); rotate_left; (simp only [Act.put, qa, qb, qc, i64_w, i32_w]; rfl)
             refine pure_ (i := 35) (N := some 55) (v := ?_) (a' := ?_) m40 rfl rfl (any_of HT_.out (by kernel_rfl)) (fun _ _ _ h => h) (Or.inl ⟨by rfl, ?_⟩) ?_ ?_; rotate_left; (intro w'; go_simp; with_reducible rfl); rotate_left; (simp only [Act.put, qa, qb, qc, i64_w, i32_w]; rfl)
             refine pure_ (i := 36) (N := some 56) (v := ?_) (a' := ?_) m41 rfl rfl (any_of HT_.out (by kernel_rfl)) (fun _ _ _ h => h) (Or.inl ⟨by rfl, ?_⟩) ?_ ?_; rotate_left; (intro w'; go_simp; with_reducible rfl); rotate_left; (simp only [Act.put, qa, qb, qc, i64_w, i32_w]; rfl)
             refine pure_ (i := 37) (N := some 57) (v := ?_) (a' := ?_) m42 rfl rfl (any_of HT_.out (by kernel_rfl)) (fun _ _ _ h => h) (Or.inl ⟨by rfl, ?_⟩) ?_ ?_; rotate_left; (intro w'; go_simp; with_reducible rfl); rotate_left; (simp only [Act.put, qa, qb, qc, i64_w, i32_w]; rfl)
             refine pure_ (i := 38) (N := some 58) (v := ?_) (a' := ?_) m43 rfl rfl (any_of HT_.out (by kernel_rfl)) (fun _ _ _ h => h) (Or.inl ⟨by rfl, ?_⟩) ?_ ?_; rotate_left; (intro w'; go_simp; with_reducible rfl); rotate_left; (simp only [Act.put, qa, qb, qc, i64_w, i32_w]; rfl)
             refine pure_ (i := 39) (N := some 59) (v := ?_) (a' := ?_) m44 rfl rfl (any_of HT_.out (by kernel_rfl)) (fun _ _ _ h => h) (Or.inl ⟨by rfl, ?_⟩) ?_ ?_; rotate_left; (intro w'; go_simp; with_reducible rfl); rotate_left; (simp only [Act.put, qa, qb, qc, i64_w, i32_w]; rfl)
             refine pure_ (i := 40) (N := some 60) (v := ?_) (a' := ?_) m45 rfl rfl (any_of HT_.out (by kernel_rfl)) (fun _ _ _ h => h) (Or.inl ⟨by rfl, ?_⟩) ?_ ?_; rotate_left; (intro w'; go_simp; with_reducible rfl); rotate_left; (simp only [Act.put, qa, qb, qc, i64_w, i32_w]; rfl)
             refine pure_ (i := 41) (N := some 61) (v := ?_) (a' := ?_) m46 rfl rfl (any_of HT_.out (by kernel_rfl)) (fun _ _ _ h => h) (Or.inl ⟨by rfl, ?_⟩) ?_ ?_; rotate_left; (intro w'; go_simp; with_reducible rfl); rotate_left; (simp only [Act.put, qa, qb, qc, i64_w, i32_w]; rfl)
             refine take_ (i := 42) (N := some 62) (v := ?_) (a' := ?_) m47 rfl rfl (take_ofW HT_.out HW_.out (by kernel_rfl)) (fun _ _ _ h => h) (Or.inl ⟨by rfl, ?_⟩) hHeld ?_ ?_
             rotate_left
             ·rintro w' ⟨s0, s1, s2, s3⟩
              go_simp
              with_reducible rfl
             rotate_left
             ·simp only [Act.put, qa, qb, qc, i64_w, i32_w]
              rfl
             refine pure_ (i := 43) (N := some 63) (v := ?_) (a' := ?_) m48 rfl rfl (any_of HT_.out (by kernel_rfl)) (fun _ _ _ h => h) (Or.inl ⟨by rfl, ?_⟩) ?_ ?_; rotate_left; (intro w'; go_simp; with_reducible rfl); rotate_left; (simp only [Act.put, qa, qb, qc, i64_w, i32_w]; rfl)
             refine pure_ (i := 44) (N := some 64) (v := ?_) (a' := ?_) m49 rfl rfl (any_of HT_.out (by kernel_rfl)) (fun _ _ _ h => h) (Or.inl ⟨by rfl, ?_⟩) ?_ ?_; rotate_left; (intro w'; go_simp; with_reducible rfl); rotate_left; (simp only [Act.put, qa, qb, qc, i64_w, i32_w]; rfl)
             refine pure_ (i := 45) (N := some 65) (v := ?_) (a' := ?_) m50 rfl rfl (any_of HT_.out (by kernel_rfl)) (fun _ _ _ h => h) (Or.inl ⟨by rfl, ?_⟩) ?_ ?_; rotate_left; (intro w'; go_simp; with_reducible rfl); rotate_left; (simp only [Act.put, qa, qb, qc, i64_w, i32_w]; rfl)
             refine pure_ (i := 46) (N := some 66) (v := undef) (a' := ?_) m51 rfl rfl (any_of HT_.out (by kernel_rfl)) (fun _ _ _ h => h) (Or.inr ⟨by rfl, rfl⟩) ?_ ?_
             rotate_left
             ·simp only [Act.put, qa, qb, qc, i64_w, i32_w]
              rfl
             refine pure_ (i := 47) (N := some 67) (v := undef) (a' := ?_) m52 rfl rfl (any_of HT_.out (by kernel_rfl)) (fun _ _ _ h => h) (Or.inr ⟨by rfl, rfl⟩) ?_ ?_
             rotate_left
             ·simp only [Act.put, qa, qb, qc, i64_w, i32_w]
              rfl
             refine pure_ (i := 48) (N := some 68) (v := ?_) (a' := ?_) m53 rfl rfl (any_of HT_.out (by kernel_rfl)) (fun _ _ _ h => h) (Or.inl ⟨by rfl, ?_⟩) ?_ ?_; rotate_left; (intro w'; go_simp; with_reducible rfl); rotate_left; (simp only [Act.put, qa, qb, qc, i64_w, i32_w]; rfl)
             refine pure_ (i := 49) (N := some 69) (v := ?_) (a' := ?_) m54 rfl rfl (any_of HT_.out (by kernel_rfl)) (fun _ _ _ h => h) (Or.inl ⟨by rfl, ?_⟩) ?_ ?_; rotate_left; (intro w'; go_simp; with_reducible rfl); rotate_left; (simp only [Act.put, qa, qb, qc, i64_w, i32_w]; rfl)
             refine pure_ (i := 50) (N := some 70) (v := undef) (a' := ?_) m55 rfl rfl (any_of HT_.out (by kernel_rfl)) (fun _ _ _ h => h) (Or.inr ⟨by rfl, rfl⟩) ?_ ?_
             rotate_left
             ·simp only [Act.put, qa, qb, qc, i64_w, i32_w]
              rfl
             refine pure_ (i := 51) (N := some 71) (v := undef) (a' := ?_) m56 rfl rfl (any_of HT_.out (by kernel_rfl)) (fun _ _ _ h => h) (Or.inr ⟨by rfl, rfl⟩) ?_ ?_
             rotate_left
             ·simp only [Act.put, qa, qb, qc, i64_w, i32_w]
              rfl
             refine pure_ (i := 52) (N := some 72) (v := ?_) (a' := ?_) m57 rfl rfl (any_of HT_.out (by kernel_rfl)) (fun _ _ _ h => h) (Or.inl ⟨by rfl, ?_⟩) ?_ ?_; rotate_left; (intro w'; go_simp; with_reducible rfl); rotate_left; (simp only [Act.put, qa, qb, qc, i64_w, i32_w]; rfl)
             refine done_ (done_of HT_.out (by kernel_rfl)) ?_
             try go_wp2
             go_meet
             case rel => exact ⟨_, (true), (by first | rfl | (simp; done) | (simp [*]; done)), H', ⟨by first | omega | exact Nat.le_refl _⟩, ⟨by repeat (first | (with_reducible first | exact HB.out | apply below_alloc | apply pw_below_drewN | apply below_drew1) | exact HB.out)⟩⟩
            ·rw [if_neg c24] at H
             have c24b0 : decide ((rd l1 a3) < a4) = false := decide_eq_false c24
             clear c24
             by_cases c26 : a2 < 0
             ·rw [if_pos c26] at H
              have c26b0 : decide (a2 < 0) = true := decide_eq_true c26
              clear c26
              have H' := Aside0.mk H
              clear H
              try go_wp2
              have n0_ := Aside0.mk (below_drew1 HB.out)
              clear HB
              have HB := n0_
              clear n0_
              have p301 : 0 ≤ (a3 : Int) := of_decide_eq_true (by first | (with_reducible assumption) | assumption)
              have q301 : a3 < (l1.length : Int) := of_decide_eq_true (by first | (with_reducible assumption) | assumption)
              obtain ⟨ad301, e301, hx301_0⟩ := Kd.at_int HR1.out a3 p301 q301
              have hw301_0 := hx301_0
              cases e301
              replace hx301_0 := (HB.out.cell (World.block_lt_of_cell? w _ hx301_0)).trans hx301_0
              replace p301 := eq_true p301
              replace q301 := eq_true q301
              have p302 : 0 ≤ (a3 : Int) := of_decide_eq_true (by first | (with_reducible assumption) | assumption)
              have q302 : a3 < (l0.length : Int) := of_decide_eq_true (by first | (with_reducible assumption) | assumption)
              obtain ⟨ad302, e302, hx302_0, hx302_1⟩ := at_T35 HR0.out a3 p302 q302
              have hw302_1 := hx302_1
              have hw302_0 := hx302_0
              cases e302
              replace hx302_0 := (HB.out.cell (World.block_lt_of_cell? w _ hx302_0)).trans hx302_0
              replace hx302_1 := (HB.out.cell (World.block_lt_of_cell? w _ hx302_1)).trans hx302_1
              replace p302 := eq_true p302
              replace q302 := eq_true q302
              have p303 : 0 ≤ (a3 : Int) := of_decide_eq_true (by first | (with_reducible assumption) | assumption)
              have q303 : a3 < (l1.length : Int) := of_decide_eq_true (by first | (with_reducible assumption) | assumption)
              obtain ⟨ad303, e303, hx303_0⟩ := Kd.at_int HR1.out a3 p303 q303
              have hw303_0 := hx303_0
              obtain rfl : ad301 = ad303 := (by injection e303)
              replace hx303_0 := (HB.out.cell (World.block_lt_of_cell? w _ hx303_0)).trans hx303_0
              replace p303 := eq_true p303
              replace q303 := eq_true q303
              refine start_ (n := 53) (S := fun w' => w'.cell? (ad301.add (a3).toNat) = some (.int .i64 (rd l1 a3)) ∧ w'.cell? (ad302.add ((a3).toNat * 2)) = some (.string ((rd_T35 l0 a3).f0)) ∧ w'.cell? ⟨(ad302.add ((a3).toNat * 2)).block, (ad302.add ((a3).toNat * 2)).off + 1, none⟩ = some (.int .i64 ((rd_T35 l0 a3).f1)) ∧ w'.cell? (ad301.add (a3).toNat) = some (.int .i64 (rd l1 a3))) (ds := []) m0 (by kernel_rfl) rfl rfl ⟨((HB.out.cell (World.block_lt_of_cell? w _ hw301_0)).trans hw301_0), ((HB.out.cell (World.block_lt_of_cell? w _ hw302_0)).trans hw302_0), ((HB.out.cell (World.block_lt_of_cell? w _ hw302_1)).trans hw302_1), ((HB.out.cell (World.block_lt_of_cell? w _ hw303_0)).trans hw303_0)⟩ (fun hHeld => ?_); refine with_tabW supercargolaw43_AverageOrder.tab3 supercargolaw43_AverageOrder.bits3 (fun HT_ HW_ => ?_)
              generalize w9.drew = w27 at HB hx301_0 hx302_0 hx302_1 hx303_0 hHeld ⊢
              refine pure_ (i := 0) (N := some 20) (v := ?_) (a' := ?_) m1 rfl rfl (any_of HT_.out (by kernel_rfl)) (fun _ _ _ h => h) (Or.inl ⟨by rfl, ?_⟩) ?_ ?_; rotate_left; (intro w'; go_simp; with_reducible rfl); rotate_left; (simp only [Act.put, qa, qb, qc, i64_w, i32_w]; rfl)
              refine pure_ (i := 1) (N := some 21) (v := ?_) (a' := ?_) m2 rfl rfl (any_of HT_.out (by kernel_rfl)) (fun _ _ _ h => h) (Or.inl ⟨by rfl, ?_⟩) ?_ ?_; rotate_left; (intro w'; go_simp; with_reducible rfl); rotate_left; (simp only [Act.put, qa, qb, qc, i64_w, i32_w]; rfl)
              refine one_ (i := 2) (N := some 22) m3 rfl rfl (one_of HT_.out (by kernel_rfl)) (by decide) (fun K hK => ?_)
              refine goes_ Try.func11 (by kernel_rfl) rfl #[.slice _ l0.length c0, .slice _ l1.length c1] (by rfl) rfl rfl (by (try simp only [List.map_toArray, List.map_cons, List.map_nil]); first | done | rfl | (simp only [List.length_drop, List.length_take]; rfl)) ?_
              with_reducible refine (supercargolaw43_few.calls k _ _ l0 _ _ l1 true _ ?side1 ?side2 ?side3 ?side4 A10.out).mono ?_
              (case side1 => repeat (first | exact (Kd.C_below HR0.out HB.out) | (with_reducible refine Kd.C_alloc ?_ _) | (with_reducible refine Kd.C_drewN ?_ _) | (with_reducible refine Kd.C_drew ?_)))
              (case side2 => exact HC0.out)
              (case side3 => repeat (first | exact (Kd.C_below HR1.out HB.out) | (with_reducible refine Kd.C_alloc ?_ _) | (with_reducible refine Kd.C_drewN ?_ _) | (with_reducible refine Kd.C_drew ?_)))
              (case side4 => exact HC1.out)
              rintro e w' ⟨rfl, ⟨nd, rfl⟩⟩
              refine ⟨_, rfl, ?_⟩
              refine hK.out _ _ ⟨((HB.out.cell (World.block_lt_of_cell? w _ hw301_0)).trans hw301_0), ((HB.out.cell (World.block_lt_of_cell? w _ hw302_0)).trans hw302_0), ((HB.out.cell (World.block_lt_of_cell? w _ hw302_1)).trans hw302_1), ((HB.out.cell (World.block_lt_of_cell? w _ hw303_0)).trans hw303_0)⟩ (fun hHeld => ?_)
              clear hK K
              refine norm_ (a' := ?_) ?_ ?_
              rotate_left
              ·show Act.put _ (some 22) _ = _
               simp only [Act.put, qa, qb, qc, i64_w, i32_w]
               rfl
              refine pure_ (i := 3) (N := some 23) (v := ?_) (a' := ?_) m4 rfl rfl (any_of HT_.out (by kernel_rfl)) (fun _ _ _ h => h) (Or.inl ⟨by rfl, ?_⟩) ?_ ?_; rotate_left; (intro w'; go_simp; with_reducible rfl); rotate_left; (simp only [Act.put, qa, qb, qc, i64_w, i32_w]; rfl)
              refine pure_ (i := 4) (N := some 24) (v := ?_) (a' := ?_) m5 rfl rfl (any_of HT_.out (by kernel_rfl)) (fun _ _ _ h => h) (Or.inl ⟨by rfl, ?_⟩) ?_ ?_; rotate_left; (intro w'; go_simp; with_reducible rfl); rotate_left; (simp only [Act.put, qa, qb, qc, i64_w, i32_w]; rfl)
              refine pure_ (i := 5) (N := some 25) (v := ?_) (a' := ?_) m6 rfl rfl (any_of HT_.out (by kernel_rfl)) (fun _ _ _ h => h) (Or.inl ⟨by rfl, ?_⟩) ?_ ?_; rotate_left; (intro w'; go_simp; with_reducible rfl); rotate_left; (simp only [Act.put, qa, qb, qc, i64_w, i32_w]; rfl)
              refine pure_ (i := 6) (N := some 26) (v := ?_) (a' := ?_) m7 rfl rfl (any_of HT_.out (by kernel_rfl)) (fun _ _ _ h => h) (Or.inl ⟨by rfl, ?_⟩) ?_ ?_; rotate_left; (intro w'; go_simp; with_reducible rfl); rotate_left; (simp only [Act.put, qa, qb, qc, i64_w, i32_w]; rfl)
              refine pure_ (i := 7) (N := some 27) (v := ?_) (a' := ?_) m8 rfl rfl (any_of HT_.out (by kernel_rfl)) (fun _ _ _ h => h) (Or.inl ⟨by rfl, ?_⟩) ?_ ?_; rotate_left; (intro w'; go_simp; with_reducible rfl); rotate_left; (simp only [Act.put, qa, qb, qc, i64_w, i32_w]; rfl)
              refine pure_ (i := 8) (N := some 28) (v := ?_) (a' := ?_) m9 rfl rfl (any_of HT_.out (by kernel_rfl)) (fun _ _ _ h => h) (Or.inl ⟨by rfl, ?_⟩) ?_ ?_; rotate_left; (intro w'; go_simp; with_reducible rfl); rotate_left; (simp only [Act.put, qa, qb, qc, i64_w, i32_w]; rfl)
              refine pure_ (i := 9) (N := some 29) (v := ?_) (a' := ?_) m10 rfl rfl (any_of HT_.out (by kernel_rfl)) (fun _ _ _ h => h) (Or.inl ⟨by rfl, ?_⟩) ?_ ?_; rotate_left; (intro w'; go_simp; with_reducible rfl); rotate_left; (simp only [Act.put, qa, qb, qc, i64_w, i32_w]; rfl)
              refine pure_ (i := 10) (N := some 30) (v := ?_) (a' := ?_) m11 rfl rfl (any_of HT_.out (by kernel_rfl)) (fun _ _ _ h => h) (Or.inl ⟨by rfl, ?_⟩) ?_ ?_; rotate_left; (intro w'; go_simp; with_reducible rfl); rotate_left; (simp only [Act.put, qa, qb, qc, i64_w, i32_w]; rfl)
              refine pure_ (i := 11) (N := some 31) (v := ?_) (a' := ?_) m12 rfl rfl (any_of HT_.out (by kernel_rfl)) (fun _ _ _ h => h) (Or.inl ⟨by rfl, ?_⟩) ?_ ?_; rotate_left; (intro w'; go_simp; with_reducible rfl); rotate_left; (simp only [Act.put, qa, qb, qc, i64_w, i32_w]; rfl)
              refine pure_ (i := 12) (N := some 32) (v := ?_) (a' := ?_) m13 rfl rfl (any_of HT_.out (by kernel_rfl)) (fun _ _ _ h => h) (Or.inl ⟨by rfl, ?_⟩) ?_ ?_; rotate_left; (intro w'; go_simp; with_reducible rfl); rotate_left; (simp only [Act.put, qa, qb, qc, i64_w, i32_w]; rfl)
              refine pure_ (i := 13) (N := some 33) (v := ?_) (a' := ?_) m14 rfl rfl (any_of HT_.out (by kernel_rfl)) (fun _ _ _ h => h) (Or.inl ⟨by rfl, ?_⟩) ?_ ?_; rotate_left; (intro w'; go_simp; with_reducible rfl); rotate_left; (simp only [Act.put, qa, qb, qc, i64_w, i32_w]; rfl)
              refine pure_ (i := 14) (N := some 34) (v := ?_) (a' := ?_) m15 rfl rfl (any_of HT_.out (by kernel_rfl)) (fun _ _ _ h => h) (Or.inl ⟨by rfl, ?_⟩) ?_ ?_; rotate_left; (intro w'; go_simp; with_reducible rfl); rotate_left; (simp only [Act.put, qa, qb, qc, i64_w, i32_w]; rfl)
              refine pure_ (i := 15) (N := some 35) (v := ?_) (a' := ?_) m16 rfl rfl (any_of HT_.out (by kernel_rfl)) (fun _ _ _ h => h) (Or.inl ⟨by rfl, ?_⟩) ?_ ?_; rotate_left; (intro w'; go_simp; with_reducible rfl); rotate_left; (simp only [Act.put, qa, qb, qc, i64_w, i32_w]; rfl)
              refine pure_ (i := 16) (N := some 36) (v := ?_) (a' := ?_) m17 rfl rfl (any_of HT_.out (by kernel_rfl)) (fun _ _ _ h => h) (Or.inl ⟨by rfl, ?_⟩) ?_ ?_; rotate_left; (intro w'; go_simp; with_reducible rfl); rotate_left; (simp only [Act.put, qa, qb, qc, i64_w, i32_w]; rfl)
              refine pure_ (i := 17) (N := some 37) (v := ?_) (a' := ?_) m18 rfl rfl (any_of HT_.out (by kernel_rfl)) (fun _ _ _ h => h) (Or.inl ⟨by rfl, ?_⟩) ?_ ?_; rotate_left; (intro w'; go_simp; with_reducible rfl); rotate_left; (simp only [Act.put, qa, qb, qc, i64_w, i32_w]; rfl)
              refine pure_ (i := 18) (N := some 38) (v := ?_) (a' := ?_) m19 rfl rfl (any_of HT_.out (by kernel_rfl)) (fun _ _ _ h => h) (Or.inl ⟨by rfl, ?_⟩) ?_ ?_; rotate_left; (intro w'; go_simp; with_reducible rfl); rotate_left; (simp only [Act.put, qa, qb, qc, i64_w, i32_w]; rfl)
              refine pure_ (i := 19) (N := some 39) (v := ?_) (a' := ?_) m20 rfl rfl (any_of HT_.out (by kernel_rfl)) (fun _ _ _ h => h) (Or.inl ⟨by rfl, ?_⟩) ?_ ?_; rotate_left; (intro w'; go_simp; with_reducible rfl); rotate_left; (simp only [Act.put, qa, qb, qc, i64_w, i32_w]; rfl)
              refine pure_ (i := 20) (N := some 40) (v := ?_) (a' := ?_) m21 rfl rfl (any_of HT_.out (by kernel_rfl)) (fun _ _ _ h => h) (Or.inl ⟨by rfl, ?_⟩) ?_ ?_; rotate_left; (intro w'; go_simp; with_reducible rfl); rotate_left; (simp only [Act.put, qa, qb, qc, i64_w, i32_w]; rfl)
              refine pure_ (i := 21) (N := some 41) (v := ?_) (a' := ?_) m22 rfl rfl (any_of HT_.out (by kernel_rfl)) (fun _ _ _ h => h) (Or.inl ⟨by rfl, ?_⟩) ?_ ?_; rotate_left; (intro w'; go_simp; with_reducible rfl); rotate_left; (simp only [Act.put, qa, qb, qc, i64_w, i32_w]; rfl)
              refine pure_ (i := 22) (N := some 42) (v := ?_) (a' := ?_) m23 rfl rfl (any_of HT_.out (by kernel_rfl)) (fun _ _ _ h => h) (Or.inl ⟨by rfl, ?_⟩) ?_ ?_; rotate_left; (intro w'; go_simp; with_reducible rfl); rotate_left; (simp only [Act.put, qa, qb, qc, i64_w, i32_w]; rfl)
              refine pure_ (i := 23) (N := some 43) (v := ?_) (a' := ?_) m24 rfl rfl (any_of HT_.out (by kernel_rfl)) (fun _ _ _ h => h) (Or.inl ⟨by rfl, ?_⟩) ?_ ?_; rotate_left; (intro w'; go_simp; with_reducible rfl); rotate_left; (simp only [Act.put, qa, qb, qc, i64_w, i32_w]; rfl)
              refine pure_ (i := 24) (N := some 44) (v := ?_) (a' := ?_) m25 rfl rfl (any_of HT_.out (by kernel_rfl)) (fun _ _ _ h => h) (Or.inl ⟨by rfl, ?_⟩) ?_ ?_; rotate_left; (intro w'; go_simp; with_reducible rfl); rotate_left; (simp only [Act.put, qa, qb, qc, i64_w, i32_w]; rfl)
              refine pure_ (i := 26) (N := some 46) (v := ?_) (a' := ?_) m26 rfl rfl (any_of HT_.out (by kernel_rfl)) (fun _ _ _ h => h) (Or.inl ⟨by rfl, ?_⟩) ?_ ?_; rotate_left; (intro w'; go_simp; with_reducible rfl); rotate_left; (simp only [Act.put, qa, qb, qc, i64_w, i32_w]; rfl)
              refine pure_ (i := 27) (N := some 47) (v := ?_) (a' := ?_) m27 rfl rfl (any_of HT_.out (by kernel_rfl)) (fun _ _ _ h => h) (Or.inl ⟨by rfl, ?_⟩) ?_ ?_; rotate_left; (intro w'; go_simp; with_reducible rfl); rotate_left; (simp only [Act.put, qa, qb, qc, i64_w, i32_w]; rfl)
              refine pure_ (i := 28) (N := some 48) (v := ?_) (a' := ?_) m28 rfl rfl (any_of HT_.out (by kernel_rfl)) (fun _ _ _ h => h) (Or.inl ⟨by rfl, ?_⟩) ?_ ?_; rotate_left; (intro w'; go_simp; with_reducible rfl); rotate_left; (simp only [Act.put, qa, qb, qc, i64_w, i32_w]; rfl)
              refine pure_ (i := 29) (N := some 49) (v := ?_) (a' := ?_) m29 rfl rfl (any_of HT_.out (by kernel_rfl)) (fun _ _ _ h => h) (Or.inl ⟨by rfl, ?_⟩) ?_ ?_; rotate_left; (intro w'; go_simp; with_reducible rfl); rotate_left; (simp only [Act.put, qa, qb, qc, i64_w, i32_w]; rfl)
              refine take_ (i := 25) (N := some 45) (v := ?_) (a' := ?_) m34 rfl rfl (take_ofW HT_.out HW_.out (by kernel_rfl)) (fun _ _ _ h => h) (Or.inl ⟨by rfl, ?_⟩) hHeld ?_ ?_
              rotate_left
              ·rintro w' ⟨s0, s1, s2, s3⟩
               go_simp
               with_reducible rfl
              rotate_left
              ·simp only [Act.put, qa, qb, qc, i64_w, i32_w]
               rfl
              refine take_ (i := 30) (N := some 50) (v := ?_) (a' := ?_) m35 rfl rfl (take_ofW HT_.out HW_.out (by kernel_rfl)) (fun _ _ _ h => h) (Or.inl ⟨by rfl, ?_⟩) hHeld ?_ ?_
              rotate_left
              ·rintro w' ⟨s0, s1, s2, s3⟩
               go_simp
               with_reducible rfl
              rotate_left
              ·simp only [Act.put, qa, qb, qc, i64_w, i32_w]
               rfl
              refine pure_ (i := 31) (N := some 51) (v := ?_) (a' := ?_) m36 rfl rfl (any_of HT_.out (by kernel_rfl)) (fun _ _ _ h => h) (Or.inl ⟨by rfl, ?_⟩) ?_ ?_; rotate_left; (intro w'; go_simp; with_reducible rfl); rotate_left; (simp only [Act.put, qa, qb, qc, i64_w, i32_w]; rfl)
              refine pure_ (i := 32) (N := some 52) (v := ?_) (a' := ?_) m37 rfl rfl (any_of HT_.out (by kernel_rfl)) (fun _ _ _ h => h) (Or.inl ⟨by rfl, ?_⟩) ?_ ?_; rotate_left; (intro w'; go_simp; with_reducible rfl); rotate_left; (simp only [Act.put, qa, qb, qc, i64_w, i32_w]; rfl)
              refine pure_ (i := 33) (N := some 53) (v := ?_) (a' := ?_) m38 rfl rfl (any_of HT_.out (by kernel_rfl)) (fun _ _ _ h => h) (Or.inl ⟨by rfl, ?_⟩) ?_ ?_; rotate_left; (intro w'; go_simp; with_reducible rfl); rotate_left; (simp only [Act.put, qa, qb, qc, i64_w, i32_w]; rfl)
              refine pure_ (i := 34) (N := some 54) (v := ?_) (a' := ?_) m39 rfl rfl (any_of HT_.out (by kernel_rfl)) (fun _ _ _ h => h) (Or.inl ⟨by rfl, ?_⟩) ?_ ?_; rotate_left; (intro w'; go_simp; with_reducible rfl); rotate_left; (simp only [Act.put, qa, qb, qc, i64_w, i32_w]; rfl)
              refine pure_ (i := 35) (N := some 55) (v := ?_) (a' := ?_) m40 rfl rfl (any_of HT_.out (by kernel_rfl)) (fun _ _ _ h => h) (Or.inl ⟨by rfl, ?_⟩) ?_ ?_; rotate_left; (intro w'; go_simp; with_reducible rfl); rotate_left; (simp only [Act.put, qa, qb, qc, i64_w, i32_w]; rfl)
              refine pure_ (i := 36) (N := some 56) (v := ?_) (a' := ?_) m41 rfl rfl (any_of HT_.out (by kernel_rfl)) (fun _ _ _ h => h) (Or.inl ⟨by rfl, ?_⟩) ?_ ?_; rotate_left; (intro w'; go_simp; with_reducible rfl); rotate_left; (simp only [Act.put, qa, qb, qc, i64_w, i32_w]; rfl)
              refine pure_ (i := 37) (N := some 57) (v := ?_) (a' := ?_) m42 rfl rfl (any_of HT_.out (by kernel_rfl)) (fun _ _ _ h => h) (Or.inl ⟨by rfl, ?_⟩) ?_ ?_; rotate_left; (intro w'; go_simp; with_reducible rfl); rotate_left; (simp only [Act.put, qa, qb, qc, i64_w, i32_w]; rfl)
              refine pure_ (i := 38) (N := some 58) (v := ?_) (a' := ?_) m43 rfl rfl (any_of HT_.out (by kernel_rfl)) (fun _ _ _ h => h) (Or.inl ⟨by rfl, ?_⟩) ?_ ?_; rotate_left; (intro w'; go_simp; with_reducible rfl); rotate_left; (simp only [Act.put, qa, qb, qc, i64_w, i32_w]; rfl)
              refine pure_ (i := 39) (N := some 59) (v := ?_) (a' := ?_) m44 rfl rfl (any_of HT_.out (by kernel_rfl)) (fun _ _ _ h => h) (Or.inl ⟨by rfl, ?_⟩) ?_ ?_; rotate_left; (intro w'; go_simp; with_reducible rfl); rotate_left; (simp only [Act.put, qa, qb, qc, i64_w, i32_w]; rfl)
              refine pure_ (i := 40) (N := some 60) (v := ?_) (a' := ?_) m45 rfl rfl (any_of HT_.out (by kernel_rfl)) (fun _ _ _ h => h) (Or.inl ⟨by rfl, ?_⟩) ?_ ?_; rotate_left; (intro w'; go_simp; with_reducible rfl); rotate_left; (simp only [Act.put, qa, qb, qc, i64_w, i32_w]; rfl)
              refine pure_ (i := 41) (N := some 61) (v := ?_) (a' := ?_) m46 rfl rfl (any_of HT_.out (by kernel_rfl)) (fun _ _ _ h => h) (Or.inl ⟨by rfl, ?_⟩) ?_ ?_; rotate_left; (intro w'; go_simp; with_reducible rfl); rotate_left; (simp only [Act.put, qa, qb, qc, i64_w, i32_w]; rfl)
              refine take_ (i := 42) (N := some 62) (v := ?_) (a' := ?_) m47 rfl rfl (take_ofW HT_.out HW_.out (by kernel_rfl)) (fun _ _ _ h => h) (Or.inl ⟨by rfl, ?_⟩) hHeld ?_ ?_
              rotate_left
              ·rintro w' ⟨s0, s1, s2, s3⟩
               go_simp
               with_reducible rfl
              rotate_left
              ·simp only [Act.put, qa, qb, qc, i64_w, i32_w]
               rfl
              refine pure_ (i := 43) (N := some 63) (v := ?_) (a' := ?_) m48 rfl rfl (any_of HT_.out (by kernel_rfl)) (fun _ _ _ h => h) (Or.inl ⟨by rfl, ?_⟩) ?_ ?_; rotate_left; (intro w'; go_simp; with_reducible rfl); rotate_left; (simp only [Act.put, qa, qb, qc, i64_w, i32_w]; rfl)
              refine pure_ (i := 44) (N := some 64) (v := ?_) (a' := ?_) m49 rfl rfl (any_of HT_.out (by kernel_rfl)) (fun _ _ _ h => h) (Or.inl ⟨by rfl, ?_⟩) ?_ ?_; rotate_left; (intro w'; go_simp; with_reducible rfl); rotate_left; (simp only [Act.put, qa, qb, qc, i64_w, i32_w]; rfl)
              refine pure_ (i := 45) (N := some 65) (v := ?_) (a' := ?_) m50 rfl rfl (any_of HT_.out (by kernel_rfl)) (fun _ _ _ h => h) (Or.inl ⟨by rfl, ?_⟩) ?_ ?_; rotate_left; (intro w'; go_simp; with_reducible rfl); rotate_left; (simp only [Act.put, qa, qb, qc, i64_w, i32_w]; rfl)
              refine pure_ (i := 46) (N := some 66) (v := ?_) (a' := ?_) m51 rfl rfl (any_of HT_.out (by kernel_rfl)) (fun _ _ _ h => h) (Or.inl ⟨by rfl, ?_⟩) ?_ ?_; rotate_left; (intro w'; go_simp; with_reducible rfl); rotate_left; (simp only [Act.put, qa, qb, qc, i64_w, i32_w]; rfl)
              refine pure_ (i := 47) (N := some 67) (v := ?_) (a' := ?_) m52 rfl rfl (any_of HT_.out (by kernel_rfl)) (fun _ _ _ h => h) (Or.inl ⟨by rfl, ?_⟩) ?_ ?_; rotate_left; (intro w'; go_simp; with_reducible rfl); rotate_left; (simp only [Act.put, qa, qb, qc, i64_w, i32_w]; rfl)
              refine pure_ (i := 48) (N := some 68) (v := ?_) (a' := ?_) m53 rfl rfl (any_of HT_.out (by kernel_rfl)) (fun _ _ _ h => h) (Or.inl ⟨by rfl, ?_⟩) ?_ ?_; rotate_left; (intro w'; go_simp; with_reducible rfl); rotate_left; (simp only [Act.put, qa, qb, qc, i64_w, i32_w]; rfl)
              refine pure_ (i := 49) (N := some 69) (v := ?_) (a' := ?_) m54 rfl rfl (any_of HT_.out (by kernel_rfl)) (fun _ _ _ h => h) (Or.inl ⟨by rfl, ?_⟩) ?_ ?_; rotate_left; (intro w'; go_simp; with_reducible rfl); rotate_left; (simp only [Act.put, qa, qb, qc, i64_w, i32_w]; rfl)
              refine pure_ (i := 50) (N := some 70) (v := undef) (a' := ?_) m55 rfl rfl (any_of HT_.out (by kernel_rfl)) (fun _ _ _ h => h) (Or.inr ⟨by rfl, rfl⟩) ?_ ?_
              rotate_left
              ·simp only [Act.put, qa, qb, qc, i64_w, i32_w]
               rfl
              refine pure_ (i := 51) (N := some 71) (v := undef) (a' := ?_) m56 rfl rfl (any_of HT_.out (by kernel_rfl)) (fun _ _ _ h => h) (Or.inr ⟨by rfl, rfl⟩) ?_ ?_
              rotate_left
              ·simp only [Act.put, qa, qb, qc, i64_w, i32_w]
               rfl
              refine pure_ (i := 52) (N := some 72) (v := ?_) (a' := ?_) m57 rfl rfl (any_of HT_.out (by kernel_rfl)) (fun _ _ _ h => h) (Or.inl ⟨by rfl, ?_⟩) ?_ ?_; rotate_left; (intro w'; go_simp; with_reducible rfl); rotate_left; (simp only [Act.put, qa, qb, qc, i64_w, i32_w]; rfl)
              refine done_ (done_of HT_.out (by kernel_rfl)) ?_
              try go_wp2
              go_meet
              case rel => exact ⟨_, (true), (by first | rfl | (simp; done) | (simp [*]; done)), H', ⟨by first | omega | exact Nat.le_refl _⟩, ⟨by repeat (first | (with_reducible first | exact HB.out | apply below_alloc | apply pw_below_drewN | apply below_drew1) | exact HB.out)⟩⟩
             ·rw [if_neg c26] at H
              have c26b0 : decide (a2 < 0) = false := decide_eq_false c26
              clear c26
              have H' := Aside0.mk H
              clear H
              try go_wp2
              have n0_ := Aside0.mk (below_drew1 HB.out)
              clear HB
              have HB := n0_
              clear n0_
              have p301 : 0 ≤ (a3 : Int) := of_decide_eq_true (by first | (with_reducible assumption) | assumption)
              have q301 : a3 < (l1.length : Int) := of_decide_eq_true (by first | (with_reducible assumption) | assumption)
              obtain ⟨ad301, e301, hx301_0⟩ := Kd.at_int HR1.out a3 p301 q301
              have hw301_0 := hx301_0
              cases e301
              replace hx301_0 := (HB.out.cell (World.block_lt_of_cell? w _ hx301_0)).trans hx301_0
              replace p301 := eq_true p301
              replace q301 := eq_true q301
              have p302 : 0 ≤ (a3 : Int) := of_decide_eq_true (by first | (with_reducible assumption) | assumption)
              have q302 : a3 < (l0.length : Int) := of_decide_eq_true (by first | (with_reducible assumption) | assumption)
              obtain ⟨ad302, e302, hx302_0, hx302_1⟩ := at_T35 HR0.out a3 p302 q302
              have hw302_1 := hx302_1
              have hw302_0 := hx302_0
              cases e302
              replace hx302_0 := (HB.out.cell (World.block_lt_of_cell? w _ hx302_0)).trans hx302_0
              replace hx302_1 := (HB.out.cell (World.block_lt_of_cell? w _ hx302_1)).trans hx302_1
              replace p302 := eq_true p302
              replace q302 := eq_true q302
              have p303 : 0 ≤ (a3 : Int) := of_decide_eq_true (by first | (with_reducible assumption) | assumption)
              have q303 : a3 < (l1.length : Int) := of_decide_eq_true (by first | (with_reducible assumption) | assumption)
              obtain ⟨ad303, e303, hx303_0⟩ := Kd.at_int HR1.out a3 p303 q303
              have hw303_0 := hx303_0
              obtain rfl : ad301 = ad303 := (by injection e303)
              replace hx303_0 := (HB.out.cell (World.block_lt_of_cell? w _ hx303_0)).trans hx303_0
              replace p303 := eq_true p303
              replace q303 := eq_true q303
              refine start_ (n := 53) (S := fun w' => w'.cell? (ad301.add (a3).toNat) = some (.int .i64 (rd l1 a3)) ∧ w'.cell? (ad302.add ((a3).toNat * 2)) = some (.string ((rd_T35 l0 a3).f0)) ∧ w'.cell? ⟨(ad302.add ((a3).toNat * 2)).block, (ad302.add ((a3).toNat * 2)).off + 1, none⟩ = some (.int .i64 ((rd_T35 l0 a3).f1)) ∧ w'.cell? (ad301.add (a3).toNat) = some (.int .i64 (rd l1 a3))) (ds := []) m0 (by kernel_rfl) rfl rfl ⟨((HB.out.cell (World.block_lt_of_cell? w _ hw301_0)).trans hw301_0), ((HB.out.cell (World.block_lt_of_cell? w _ hw302_0)).trans hw302_0), ((HB.out.cell (World.block_lt_of_cell? w _ hw302_1)).trans hw302_1), ((HB.out.cell (World.block_lt_of_cell? w _ hw303_0)).trans hw303_0)⟩ (fun hHeld => ?_); refine with_tabW supercargolaw43_AverageOrder.tab3 supercargolaw43_AverageOrder.bits3 (fun HT_ HW_ => ?_)
              generalize w9.drew = w28 at HB hx301_0 hx302_0 hx302_1 hx303_0 hHeld ⊢
              refine pure_ (i := 0) (N := some 20) (v := ?_) (a' := ?_) m1 rfl rfl (any_of HT_.out (by kernel_rfl)) (fun _ _ _ h => h) (Or.inl ⟨by rfl, ?_⟩) ?_ ?_; rotate_left; (intro w'; go_simp; with_reducible rfl); rotate_left; (simp only [Act.put, qa, qb, qc, i64_w, i32_w]; rfl)
              refine pure_ (i := 1) (N := some 21) (v := ?_) (a' := ?_) m2 rfl rfl (any_of HT_.out (by kernel_rfl)) (fun _ _ _ h => h) (Or.inl ⟨by rfl, ?_⟩) ?_ ?_; rotate_left; (intro w'; go_simp; with_reducible rfl); rotate_left; (simp only [Act.put, qa, qb, qc, i64_w, i32_w]; rfl)
              refine one_ (i := 2) (N := some 22) m3 rfl rfl (one_of HT_.out (by kernel_rfl)) (by decide) (fun K hK => ?_)
              refine goes_ Try.func11 (by kernel_rfl) rfl #[.slice _ l0.length c0, .slice _ l1.length c1] (by rfl) rfl rfl (by (try simp only [List.map_toArray, List.map_cons, List.map_nil]); first | done | rfl | (simp only [List.length_drop, List.length_take]; rfl)) ?_
              with_reducible refine (supercargolaw43_few.calls k _ _ l0 _ _ l1 true _ ?side1 ?side2 ?side3 ?side4 A10.out).mono ?_
              (case side1 => repeat (first | exact (Kd.C_below HR0.out HB.out) | (with_reducible refine Kd.C_alloc ?_ _) | (with_reducible refine Kd.C_drewN ?_ _) | (with_reducible refine Kd.C_drew ?_)))
              (case side2 => exact HC0.out)
              (case side3 => repeat (first | exact (Kd.C_below HR1.out HB.out) | (with_reducible refine Kd.C_alloc ?_ _) | (with_reducible refine Kd.C_drewN ?_ _) | (with_reducible refine Kd.C_drew ?_)))
              (case side4 => exact HC1.out)
              rintro e w' ⟨rfl, ⟨nd, rfl⟩⟩
              refine ⟨_, rfl, ?_⟩
              refine hK.out _ _ ⟨((HB.out.cell (World.block_lt_of_cell? w _ hw301_0)).trans hw301_0), ((HB.out.cell (World.block_lt_of_cell? w _ hw302_0)).trans hw302_0), ((HB.out.cell (World.block_lt_of_cell? w _ hw302_1)).trans hw302_1), ((HB.out.cell (World.block_lt_of_cell? w _ hw303_0)).trans hw303_0)⟩ (fun hHeld => ?_)
              clear hK K
              refine norm_ (a' := ?_) ?_ ?_
              rotate_left
              ·show Act.put _ (some 22) _ = _
               simp only [Act.put, qa, qb, qc, i64_w, i32_w]
               rfl
              refine pure_ (i := 3) (N := some 23) (v := ?_) (a' := ?_) m4 rfl rfl (any_of HT_.out (by kernel_rfl)) (fun _ _ _ h => h) (Or.inl ⟨by rfl, ?_⟩) ?_ ?_; rotate_left; (intro w'; go_simp; with_reducible rfl); rotate_left; (simp only [Act.put, qa, qb, qc, i64_w, i32_w]; rfl)
              refine pure_ (i := 4) (N := some 24) (v := ?_) (a' := ?_) m5 rfl rfl (any_of HT_.out (by kernel_rfl)) (fun _ _ _ h => h) (Or.inl ⟨by rfl, ?_⟩) ?_ ?_; rotate_left; (intro w'; go_simp; with_reducible rfl); rotate_left; (simp only [Act.put, qa, qb, qc, i64_w, i32_w]; rfl)
              refine pure_ (i := 5) (N := some 25) (v := ?_) (a' := ?_) m6 rfl rfl (any_of HT_.out (by kernel_rfl)) (fun _ _ _ h => h) (Or.inl ⟨by rfl, ?_⟩) ?_ ?_; rotate_left; (intro w'; go_simp; with_reducible rfl); rotate_left; (simp only [Act.put, qa, qb, qc, i64_w, i32_w]; rfl)
              refine pure_ (i := 6) (N := some 26) (v := ?_) (a' := ?_) m7 rfl rfl (any_of HT_.out (by kernel_rfl)) (fun _ _ _ h => h) (Or.inl ⟨by rfl, ?_⟩) ?_ ?_; rotate_left; (intro w'; go_simp; with_reducible rfl); rotate_left; (simp only [Act.put, qa, qb, qc, i64_w, i32_w]; rfl)
              refine pure_ (i := 7) (N := some 27) (v := ?_) (a' := ?_) m8 rfl rfl (any_of HT_.out (by kernel_rfl)) (fun _ _ _ h => h) (Or.inl ⟨by rfl, ?_⟩) ?_ ?_; rotate_left; (intro w'; go_simp; with_reducible rfl); rotate_left; (simp only [Act.put, qa, qb, qc, i64_w, i32_w]; rfl)
              refine pure_ (i := 8) (N := some 28) (v := ?_) (a' := ?_) m9 rfl rfl (any_of HT_.out (by kernel_rfl)) (fun _ _ _ h => h) (Or.inl ⟨by rfl, ?_⟩) ?_ ?_; rotate_left; (intro w'; go_simp; with_reducible rfl); rotate_left; (simp only [Act.put, qa, qb, qc, i64_w, i32_w]; rfl)
              refine pure_ (i := 9) (N := some 29) (v := ?_) (a' := ?_) m10 rfl rfl (any_of HT_.out (by kernel_rfl)) (fun _ _ _ h => h) (Or.inl ⟨by rfl, ?_⟩) ?_ ?_; rotate_left; (intro w'; go_simp; with_reducible rfl); rotate_left; (simp only [Act.put, qa, qb, qc, i64_w, i32_w]; rfl)
              refine pure_ (i := 10) (N := some 30) (v := ?_) (a' := ?_) m11 rfl rfl (any_of HT_.out (by kernel_rfl)) (fun _ _ _ h => h) (Or.inl ⟨by rfl, ?_⟩) ?_ ?_; rotate_left; (intro w'; go_simp; with_reducible rfl); rotate_left; (simp only [Act.put, qa, qb, qc, i64_w, i32_w]; rfl)
              refine pure_ (i := 11) (N := some 31) (v := ?_) (a' := ?_) m12 rfl rfl (any_of HT_.out (by kernel_rfl)) (fun _ _ _ h => h) (Or.inl ⟨by rfl, ?_⟩) ?_ ?_; rotate_left; (intro w'; go_simp; with_reducible rfl); rotate_left; (simp only [Act.put, qa, qb, qc, i64_w, i32_w]; rfl)
              refine pure_ (i := 12) (N := some 32) (v := ?_) (a' := ?_) m13 rfl rfl (any_of HT_.out (by kernel_rfl)) (fun _ _ _ h => h) (Or.inl ⟨by rfl, ?_⟩) ?_ ?_; rotate_left; (intro w'; go_simp; with_reducible rfl); rotate_left; (simp only [Act.put, qa, qb, qc, i64_w, i32_w]; rfl)
              refine pure_ (i := 13) (N := some 33) (v := ?_) (a' := ?_) m14 rfl rfl (any_of HT_.out (by kernel_rfl)) (fun _ _ _ h => h) (Or.inl ⟨by rfl, ?_⟩) ?_ ?_; rotate_left; (intro w'; go_simp; with_reducible rfl); rotate_left; (simp only [Act.put, qa, qb, qc, i64_w, i32_w]; rfl)
              refine pure_ (i := 14) (N := some 34) (v := ?_) (a' := ?_) m15 rfl rfl (any_of HT_.out (by kernel_rfl)) (fun _ _ _ h => h) (Or.inl ⟨by rfl, ?_⟩) ?_ ?_; rotate_left; (intro w'; go_simp; with_reducible rfl); rotate_left; (simp only [Act.put, qa, qb, qc, i64_w, i32_w]; rfl)
              refine pure_ (i := 15) (N := some 35) (v := ?_) (a' := ?_) m16 rfl rfl (any_of HT_.out (by kernel_rfl)) (fun _ _ _ h => h) (Or.inl ⟨by rfl, ?_⟩) ?_ ?_; rotate_left; (intro w'; go_simp; with_reducible rfl); rotate_left; (simp only [Act.put, qa, qb, qc, i64_w, i32_w]; rfl)
              refine pure_ (i := 16) (N := some 36) (v := ?_) (a' := ?_) m17 rfl rfl (any_of HT_.out (by kernel_rfl)) (fun _ _ _ h => h) (Or.inl ⟨by rfl, ?_⟩) ?_ ?_; rotate_left; (intro w'; go_simp; with_reducible rfl); rotate_left; (simp only [Act.put, qa, qb, qc, i64_w, i32_w]; rfl)
              refine pure_ (i := 17) (N := some 37) (v := ?_) (a' := ?_) m18 rfl rfl (any_of HT_.out (by kernel_rfl)) (fun _ _ _ h => h) (Or.inl ⟨by rfl, ?_⟩) ?_ ?_; rotate_left; (intro w'; go_simp; with_reducible rfl); rotate_left; (simp only [Act.put, qa, qb, qc, i64_w, i32_w]; rfl)
              refine pure_ (i := 18) (N := some 38) (v := ?_) (a' := ?_) m19 rfl rfl (any_of HT_.out (by kernel_rfl)) (fun _ _ _ h => h) (Or.inl ⟨by rfl, ?_⟩) ?_ ?_; rotate_left; (intro w'; go_simp; with_reducible rfl); rotate_left; (simp only [Act.put, qa, qb, qc, i64_w, i32_w]; rfl)
              refine pure_ (i := 19) (N := some 39) (v := ?_) (a' := ?_) m20 rfl rfl (any_of HT_.out (by kernel_rfl)) (fun _ _ _ h => h) (Or.inl ⟨by rfl, ?_⟩) ?_ ?_; rotate_left; (intro w'; go_simp; with_reducible rfl); rotate_left; (simp only [Act.put, qa, qb, qc, i64_w, i32_w]; rfl)
              refine pure_ (i := 20) (N := some 40) (v := ?_) (a' := ?_) m21 rfl rfl (any_of HT_.out (by kernel_rfl)) (fun _ _ _ h => h) (Or.inl ⟨by rfl, ?_⟩) ?_ ?_; rotate_left; (intro w'; go_simp; with_reducible rfl); rotate_left; (simp only [Act.put, qa, qb, qc, i64_w, i32_w]; rfl)
              refine pure_ (i := 21) (N := some 41) (v := ?_) (a' := ?_) m22 rfl rfl (any_of HT_.out (by kernel_rfl)) (fun _ _ _ h => h) (Or.inl ⟨by rfl, ?_⟩) ?_ ?_; rotate_left; (intro w'; go_simp; with_reducible rfl); rotate_left; (simp only [Act.put, qa, qb, qc, i64_w, i32_w]; rfl)
              refine pure_ (i := 22) (N := some 42) (v := ?_) (a' := ?_) m23 rfl rfl (any_of HT_.out (by kernel_rfl)) (fun _ _ _ h => h) (Or.inl ⟨by rfl, ?_⟩) ?_ ?_; rotate_left; (intro w'; go_simp; with_reducible rfl); rotate_left; (simp only [Act.put, qa, qb, qc, i64_w, i32_w]; rfl)
              refine pure_ (i := 23) (N := some 43) (v := ?_) (a' := ?_) m24 rfl rfl (any_of HT_.out (by kernel_rfl)) (fun _ _ _ h => h) (Or.inl ⟨by rfl, ?_⟩) ?_ ?_; rotate_left; (intro w'; go_simp; with_reducible rfl); rotate_left; (simp only [Act.put, qa, qb, qc, i64_w, i32_w]; rfl)
              refine pure_ (i := 24) (N := some 44) (v := ?_) (a' := ?_) m25 rfl rfl (any_of HT_.out (by kernel_rfl)) (fun _ _ _ h => h) (Or.inl ⟨by rfl, ?_⟩) ?_ ?_; rotate_left; (intro w'; go_simp; with_reducible rfl); rotate_left; (simp only [Act.put, qa, qb, qc, i64_w, i32_w]; rfl)
              refine pure_ (i := 26) (N := some 46) (v := ?_) (a' := ?_) m26 rfl rfl (any_of HT_.out (by kernel_rfl)) (fun _ _ _ h => h) (Or.inl ⟨by rfl, ?_⟩) ?_ ?_; rotate_left; (intro w'; go_simp; with_reducible rfl); rotate_left; (simp only [Act.put, qa, qb, qc, i64_w, i32_w]; rfl)
              refine pure_ (i := 27) (N := some 47) (v := ?_) (a' := ?_) m27 rfl rfl (any_of HT_.out (by kernel_rfl)) (fun _ _ _ h => h) (Or.inl ⟨by rfl, ?_⟩) ?_ ?_; rotate_left; (intro w'; go_simp; with_reducible rfl); rotate_left; (simp only [Act.put, qa, qb, qc, i64_w, i32_w]; rfl)
              refine pure_ (i := 28) (N := some 48) (v := ?_) (a' := ?_) m28 rfl rfl (any_of HT_.out (by kernel_rfl)) (fun _ _ _ h => h) (Or.inl ⟨by rfl, ?_⟩) ?_ ?_; rotate_left; (intro w'; go_simp; with_reducible rfl); rotate_left; (simp only [Act.put, qa, qb, qc, i64_w, i32_w]; rfl)
              refine pure_ (i := 29) (N := some 49) (v := ?_) (a' := ?_) m29 rfl rfl (any_of HT_.out (by kernel_rfl)) (fun _ _ _ h => h) (Or.inl ⟨by rfl, ?_⟩) ?_ ?_; rotate_left; (intro w'; go_simp; with_reducible rfl); rotate_left; (simp only [Act.put, qa, qb, qc, i64_w, i32_w]; rfl)
              refine take_ (i := 25) (N := some 45) (v := ?_) (a' := ?_) m34 rfl rfl (take_ofW HT_.out HW_.out (by kernel_rfl)) (fun _ _ _ h => h) (Or.inl ⟨by rfl, ?_⟩) hHeld ?_ ?_
              rotate_left
              ·rintro w' ⟨s0, s1, s2, s3⟩
               go_simp
               with_reducible rfl
              rotate_left
              ·simp only [Act.put, qa, qb, qc, i64_w, i32_w]
               rfl
              refine take_ (i := 30) (N := some 50) (v := ?_) (a' := ?_) m35 rfl rfl (take_ofW HT_.out HW_.out (by kernel_rfl)) (fun _ _ _ h => h) (Or.inl ⟨by rfl, ?_⟩) hHeld ?_ ?_
              rotate_left
              ·rintro w' ⟨s0, s1, s2, s3⟩
               go_simp
               with_reducible rfl
              rotate_left
              ·simp only [Act.put, qa, qb, qc, i64_w, i32_w]
               rfl
              refine pure_ (i := 31) (N := some 51) (v := ?_) (a' := ?_) m36 rfl rfl (any_of HT_.out (by kernel_rfl)) (fun _ _ _ h => h) (Or.inl ⟨by rfl, ?_⟩) ?_ ?_; rotate_left; (intro w'; go_simp; with_reducible rfl); rotate_left; (simp only [Act.put, qa, qb, qc, i64_w, i32_w]; rfl)
              refine pure_ (i := 32) (N := some 52) (v := ?_) (a' := ?_) m37 rfl rfl (any_of HT_.out (by kernel_rfl)) (fun _ _ _ h => h) (Or.inl ⟨by rfl, ?_⟩) ?_ ?_; rotate_left; (intro w'; go_simp; with_reducible rfl); rotate_left; (simp only [Act.put, qa, qb, qc, i64_w, i32_w]; rfl)
              refine pure_ (i := 33) (N := some 53) (v := ?_) (a' := ?_) m38 rfl rfl (any_of HT_.out (by kernel_rfl)) (fun _ _ _ h => h) (Or.inl ⟨by rfl, ?_⟩) ?_ ?_; rotate_left; (intro w'; go_simp; with_reducible rfl); rotate_left; (simp only [Act.put, qa, qb, qc, i64_w, i32_w]; rfl)
              refine pure_ (i := 34) (N := some 54) (v := ?_) (a' := ?_) m39 rfl rfl (any_of HT_.out (by kernel_rfl)) (fun _ _ _ h => h) (Or.inl ⟨by rfl, ?_⟩) ?_ ?_; rotate_left; (intro w'; go_simp; with_reducible rfl); rotate_left; (simp only [Act.put, qa, qb, qc, i64_w, i32_w]; rfl)
              refine pure_ (i := 35) (N := some 55) (v := ?_) (a' := ?_) m40 rfl rfl (any_of HT_.out (by kernel_rfl)) (fun _ _ _ h => h) (Or.inl ⟨by rfl, ?_⟩) ?_ ?_; rotate_left; (intro w'; go_simp; with_reducible rfl); rotate_left; (simp only [Act.put, qa, qb, qc, i64_w, i32_w]; rfl)
              refine pure_ (i := 36) (N := some 56) (v := ?_) (a' := ?_) m41 rfl rfl (any_of HT_.out (by kernel_rfl)) (fun _ _ _ h => h) (Or.inl ⟨by rfl, ?_⟩) ?_ ?_; rotate_left; (intro w'; go_simp; with_reducible rfl); rotate_left; (simp only [Act.put, qa, qb, qc, i64_w, i32_w]; rfl)
              refine pure_ (i := 37) (N := some 57) (v := ?_) (a' := ?_) m42 rfl rfl (any_of HT_.out (by kernel_rfl)) (fun _ _ _ h => h) (Or.inl ⟨by rfl, ?_⟩) ?_ ?_; rotate_left; (intro w'; go_simp; with_reducible rfl); rotate_left; (simp only [Act.put, qa, qb, qc, i64_w, i32_w]; rfl)
              refine pure_ (i := 38) (N := some 58) (v := ?_) (a' := ?_) m43 rfl rfl (any_of HT_.out (by kernel_rfl)) (fun _ _ _ h => h) (Or.inl ⟨by rfl, ?_⟩) ?_ ?_; rotate_left; (intro w'; go_simp; with_reducible rfl); rotate_left; (simp only [Act.put, qa, qb, qc, i64_w, i32_w]; rfl)
              refine pure_ (i := 39) (N := some 59) (v := ?_) (a' := ?_) m44 rfl rfl (any_of HT_.out (by kernel_rfl)) (fun _ _ _ h => h) (Or.inl ⟨by rfl, ?_⟩) ?_ ?_; rotate_left; (intro w'; go_simp; with_reducible rfl); rotate_left; (simp only [Act.put, qa, qb, qc, i64_w, i32_w]; rfl)
              refine pure_ (i := 40) (N := some 60) (v := ?_) (a' := ?_) m45 rfl rfl (any_of HT_.out (by kernel_rfl)) (fun _ _ _ h => h) (Or.inl ⟨by rfl, ?_⟩) ?_ ?_; rotate_left; (intro w'; go_simp; with_reducible rfl); rotate_left; (simp only [Act.put, qa, qb, qc, i64_w, i32_w]; rfl)
              refine pure_ (i := 41) (N := some 61) (v := ?_) (a' := ?_) m46 rfl rfl (any_of HT_.out (by kernel_rfl)) (fun _ _ _ h => h) (Or.inl ⟨by rfl, ?_⟩) ?_ ?_; rotate_left; (intro w'; go_simp; with_reducible rfl); rotate_left; (simp only [Act.put, qa, qb, qc, i64_w, i32_w]; rfl)
              refine take_ (i := 42) (N := some 62) (v := ?_) (a' := ?_) m47 rfl rfl (take_ofW HT_.out HW_.out (by kernel_rfl)) (fun _ _ _ h => h) (Or.inl ⟨by rfl, ?_⟩) hHeld ?_ ?_
              rotate_left
              ·rintro w' ⟨s0, s1, s2, s3⟩
               go_simp
               with_reducible rfl
              rotate_left
              ·simp only [Act.put, qa, qb, qc, i64_w, i32_w]
               rfl
              refine pure_ (i := 43) (N := some 63) (v := ?_) (a' := ?_) m48 rfl rfl (any_of HT_.out (by kernel_rfl)) (fun _ _ _ h => h) (Or.inl ⟨by rfl, ?_⟩) ?_ ?_; rotate_left; (intro w'; go_simp; with_reducible rfl); rotate_left; (simp only [Act.put, qa, qb, qc, i64_w, i32_w]; rfl)
              refine pure_ (i := 44) (N := some 64) (v := ?_) (a' := ?_) m49 rfl rfl (any_of HT_.out (by kernel_rfl)) (fun _ _ _ h => h) (Or.inl ⟨by rfl, ?_⟩) ?_ ?_; rotate_left; (intro w'; go_simp; with_reducible rfl); rotate_left; (simp only [Act.put, qa, qb, qc, i64_w, i32_w]; rfl)
              refine pure_ (i := 45) (N := some 65) (v := ?_) (a' := ?_) m50 rfl rfl (any_of HT_.out (by kernel_rfl)) (fun _ _ _ h => h) (Or.inl ⟨by rfl, ?_⟩) ?_ ?_; rotate_left; (intro w'; go_simp; with_reducible rfl); rotate_left; (simp only [Act.put, qa, qb, qc, i64_w, i32_w]; rfl)
              refine pure_ (i := 46) (N := some 66) (v := ?_) (a' := ?_) m51 rfl rfl (any_of HT_.out (by kernel_rfl)) (fun _ _ _ h => h) (Or.inl ⟨by rfl, ?_⟩) ?_ ?_; rotate_left; (intro w'; go_simp; with_reducible rfl); rotate_left; (simp only [Act.put, qa, qb, qc, i64_w, i32_w]; rfl)
              refine pure_ (i := 47) (N := some 67) (v := ?_) (a' := ?_) m52 rfl rfl (any_of HT_.out (by kernel_rfl)) (fun _ _ _ h => h) (Or.inl ⟨by rfl, ?_⟩) ?_ ?_; rotate_left; (intro w'; go_simp; with_reducible rfl); rotate_left; (simp only [Act.put, qa, qb, qc, i64_w, i32_w]; rfl)
              refine pure_ (i := 48) (N := some 68) (v := ?_) (a' := ?_) m53 rfl rfl (any_of HT_.out (by kernel_rfl)) (fun _ _ _ h => h) (Or.inl ⟨by rfl, ?_⟩) ?_ ?_; rotate_left; (intro w'; go_simp; with_reducible rfl); rotate_left; (simp only [Act.put, qa, qb, qc, i64_w, i32_w]; rfl)
              refine pure_ (i := 49) (N := some 69) (v := ?_) (a' := ?_) m54 rfl rfl (any_of HT_.out (by kernel_rfl)) (fun _ _ _ h => h) (Or.inl ⟨by rfl, ?_⟩) ?_ ?_; rotate_left; (intro w'; go_simp; with_reducible rfl); rotate_left; (simp only [Act.put, qa, qb, qc, i64_w, i32_w]; rfl)
              refine pure_ (i := 50) (N := some 70) (v := ?_) (a' := ?_) m55 rfl rfl (any_of HT_.out (by kernel_rfl)) (fun _ _ _ h => h) (Or.inl ⟨by rfl, ?_⟩) ?_ ?_; rotate_left; (intro w'; go_simp; with_reducible rfl); rotate_left; (simp only [Act.put, qa, qb, qc, i64_w, i32_w]; rfl)
              refine pure_ (i := 51) (N := some 71) (v := ?_) (a' := ?_) m56 rfl rfl (any_of HT_.out (by kernel_rfl)) (fun _ _ _ h => h) (Or.inl ⟨by rfl, ?_⟩) ?_ ?_; rotate_left; (intro w'; go_simp; with_reducible rfl); rotate_left; (simp only [Act.put, qa, qb, qc, i64_w, i32_w]; rfl)
              refine pure_ (i := 52) (N := some 72) (v := ?_) (a' := ?_) m57 rfl rfl (any_of HT_.out (by kernel_rfl)) (fun _ _ _ h => h) (Or.inl ⟨by rfl, ?_⟩) ?_ ?_; rotate_left; (intro w'; go_simp; with_reducible rfl); rotate_left; (simp only [Act.put, qa, qb, qc, i64_w, i32_w]; rfl)
              refine done_ (done_of HT_.out (by kernel_rfl)) ?_
              try go_wp2
              go_meet
              case rel => exact ⟨_, (decide (a2 > 1099511627776)), (by first | rfl | (simp; done) | (simp [*]; done)), H', ⟨by first | omega | exact Nat.le_refl _⟩, ⟨by repeat (first | (with_reducible first | exact HB.out | apply below_alloc | apply pw_below_drewN | apply below_drew1) | exact HB.out)⟩⟩
         ·rw [if_neg c19] at H
          exact absurd H (by simp)
        ·rw [if_neg c18] at H
         exact absurd H (by simp)
       ·rw [if_neg c17] at H
        exact absurd H (by simp)
    ·rw [if_neg c12] at H
     have c12b0 : ((l1.length : Int) == (l0.length : Int)) = false := beq_eq_false_iff_ne.mpr c12
     have c12b1 : ((l1.length : Int) != (l0.length : Int)) = true := bne_iff_ne.mpr c12
     have c12b2 : (l1.length == l0.length) = false := by first | simpa using c12 | (simp at c12 ⊢; omega)
     (first | rw [c12b0] | (simp only [i64_w, i32_w]; rw [c12b0]) | skip)
     have H' := Aside0.mk H
     clear H
     try go_wp2
     have n0_ := Aside0.mk (below_drew1 HB.out)
     clear HB
     have HB := n0_
     clear n0_
     refine start_ (n := 53) (S := fun w' => True) (ds := []) m0 (by kernel_rfl) rfl rfl trivial (fun hHeld => ?_); refine with_tabW supercargolaw43_AverageOrder.tab3 supercargolaw43_AverageOrder.bits3 (fun HT_ HW_ => ?_)
     generalize w9.drew = w29 at HB hHeld ⊢
     refine pure_ (i := 0) (N := some 20) (v := ?_) (a' := ?_) m1 rfl rfl (any_of HT_.out (by kernel_rfl)) (fun _ _ _ h => h) (Or.inl ⟨by rfl, ?_⟩) ?_ ?_; rotate_left; (intro w'; go_simp; with_reducible rfl); rotate_left; (simp only [Act.put, qa, qb, qc, i64_w, i32_w]; rfl)
     refine pure_ (i := 1) (N := some 21) (v := ?_) (a' := ?_) m2 rfl rfl (any_of HT_.out (by kernel_rfl)) (fun _ _ _ h => h) (Or.inl ⟨by rfl, ?_⟩) ?_ ?_; rotate_left; (intro w'; go_simp; with_reducible rfl); rotate_left; (simp only [Act.put, qa, qb, qc, i64_w, i32_w]; rfl)
     refine one_ (i := 2) (N := some 22) m3 rfl rfl (one_of HT_.out (by kernel_rfl)) (by decide) (fun K hK => ?_)
     refine goes_ Try.func11 (by kernel_rfl) rfl #[.slice _ l0.length c0, .slice _ l1.length c1] (by rfl) rfl rfl (by (try simp only [List.map_toArray, List.map_cons, List.map_nil]); first | done | rfl | (simp only [List.length_drop, List.length_take]; rfl)) ?_
     with_reducible refine (supercargolaw43_few.calls k _ _ l0 _ _ l1 true _ ?side1 ?side2 ?side3 ?side4 A10.out).mono ?_
     (case side1 => repeat (first | exact (Kd.C_below HR0.out HB.out) | (with_reducible refine Kd.C_alloc ?_ _) | (with_reducible refine Kd.C_drewN ?_ _) | (with_reducible refine Kd.C_drew ?_)))
     (case side2 => exact HC0.out)
     (case side3 => repeat (first | exact (Kd.C_below HR1.out HB.out) | (with_reducible refine Kd.C_alloc ?_ _) | (with_reducible refine Kd.C_drewN ?_ _) | (with_reducible refine Kd.C_drew ?_)))
     (case side4 => exact HC1.out)
     rintro e w' ⟨rfl, ⟨nd, rfl⟩⟩
     refine ⟨_, rfl, ?_⟩
     refine hK.out _ _ trivial (fun hHeld => ?_)
     clear hK K
     refine norm_ (a' := ?_) ?_ ?_
     rotate_left
     ·show Act.put _ (some 22) _ = _
      simp only [Act.put, qa, qb, qc, i64_w, i32_w]
      rfl
     refine pure_ (i := 3) (N := some 23) (v := ?_) (a' := ?_) m4 rfl rfl (any_of HT_.out (by kernel_rfl)) (fun _ _ _ h => h) (Or.inl ⟨by rfl, ?_⟩) ?_ ?_; rotate_left; (intro w'; go_simp; with_reducible rfl); rotate_left; (simp only [Act.put, qa, qb, qc, i64_w, i32_w]; rfl)
     refine pure_ (i := 4) (N := some 24) (v := ?_) (a' := ?_) m5 rfl rfl (any_of HT_.out (by kernel_rfl)) (fun _ _ _ h => h) (Or.inl ⟨by rfl, ?_⟩) ?_ ?_; rotate_left; (intro w'; go_simp; with_reducible rfl); rotate_left; (simp only [Act.put, qa, qb, qc, i64_w, i32_w]; rfl)
     refine pure_ (i := 5) (N := some 25) (v := ?_) (a' := ?_) m6 rfl rfl (any_of HT_.out (by kernel_rfl)) (fun _ _ _ h => h) (Or.inl ⟨by rfl, ?_⟩) ?_ ?_; rotate_left; (intro w'; go_simp; with_reducible rfl); rotate_left; (simp only [Act.put, qa, qb, qc, i64_w, i32_w]; rfl)
     refine pure_ (i := 6) (N := some 26) (v := ?_) (a' := ?_) m7 rfl rfl (any_of HT_.out (by kernel_rfl)) (fun _ _ _ h => h) (Or.inl ⟨by rfl, ?_⟩) ?_ ?_; rotate_left; (intro w'; go_simp; with_reducible rfl); rotate_left; (simp only [Act.put, qa, qb, qc, i64_w, i32_w]; rfl)
     refine pure_ (i := 7) (N := some 27) (v := ?_) (a' := ?_) m8 rfl rfl (any_of HT_.out (by kernel_rfl)) (fun _ _ _ h => h) (Or.inl ⟨by rfl, ?_⟩) ?_ ?_; rotate_left; (intro w'; go_simp; with_reducible rfl); rotate_left; (simp only [Act.put, qa, qb, qc, i64_w, i32_w]; rfl)
     refine pure_ (i := 8) (N := some 28) (v := ?_) (a' := ?_) m9 rfl rfl (any_of HT_.out (by kernel_rfl)) (fun _ _ _ h => h) (Or.inl ⟨by rfl, ?_⟩) ?_ ?_; rotate_left; (intro w'; go_simp; with_reducible rfl); rotate_left; (simp only [Act.put, qa, qb, qc, i64_w, i32_w]; rfl)
     refine pure_ (i := 9) (N := some 29) (v := ?_) (a' := ?_) m10 rfl rfl (any_of HT_.out (by kernel_rfl)) (fun _ _ _ h => h) (Or.inl ⟨by rfl, ?_⟩) ?_ ?_; rotate_left; (intro w'; go_simp; with_reducible rfl); rotate_left; (simp only [Act.put, qa, qb, qc, i64_w, i32_w]; rfl)
     refine pure_ (i := 10) (N := some 30) (v := ?_) (a' := ?_) m11 rfl rfl (any_of HT_.out (by kernel_rfl)) (fun _ _ _ h => h) (Or.inl ⟨by rfl, ?_⟩) ?_ ?_; rotate_left; (intro w'; go_simp; with_reducible rfl); rotate_left; (simp only [Act.put, qa, qb, qc, i64_w, i32_w]; rfl)
     refine pure_ (i := 11) (N := some 31) (v := ?_) (a' := ?_) m12 rfl rfl (any_of HT_.out (by kernel_rfl)) (fun _ _ _ h => h) (Or.inl ⟨by rfl, ?_⟩) ?_ ?_; rotate_left; (intro w'; go_simp; with_reducible rfl); rotate_left; (simp only [Act.put, qa, qb, qc, i64_w, i32_w]; rfl)
     refine pure_ (i := 12) (N := some 32) (v := undef) (a' := ?_) m13 rfl rfl (any_of HT_.out (by kernel_rfl)) (fun _ _ _ h => h) (Or.inr ⟨by rfl, rfl⟩) ?_ ?_
     rotate_left
     ·simp only [Act.put, qa, qb, qc, i64_w, i32_w]
      rfl
     refine pure_ (i := 13) (N := some 33) (v := undef) (a' := ?_) m14 rfl rfl (any_of HT_.out (by kernel_rfl)) (fun _ _ _ h => h) (Or.inr ⟨by rfl, rfl⟩) ?_ ?_
     rotate_left
     ·simp only [Act.put, qa, qb, qc, i64_w, i32_w]
      rfl
     refine pure_ (i := 14) (N := some 34) (v := ?_) (a' := ?_) m15 rfl rfl (any_of HT_.out (by kernel_rfl)) (fun _ _ _ h => h) (Or.inl ⟨by rfl, ?_⟩) ?_ ?_; rotate_left; (intro w'; go_simp; with_reducible rfl); rotate_left; (simp only [Act.put, qa, qb, qc, i64_w, i32_w]; rfl)
     refine pure_ (i := 15) (N := some 35) (v := ?_) (a' := ?_) m16 rfl rfl (any_of HT_.out (by kernel_rfl)) (fun _ _ _ h => h) (Or.inl ⟨by rfl, ?_⟩) ?_ ?_; rotate_left; (intro w'; go_simp; with_reducible rfl); rotate_left; (simp only [Act.put, qa, qb, qc, i64_w, i32_w]; rfl)
     refine pure_ (i := 16) (N := some 36) (v := undef) (a' := ?_) m17 rfl rfl (any_of HT_.out (by kernel_rfl)) (fun _ _ _ h => h) (Or.inr ⟨by rfl, rfl⟩) ?_ ?_
     rotate_left
     ·simp only [Act.put, qa, qb, qc, i64_w, i32_w]
      rfl
     refine pure_ (i := 17) (N := some 37) (v := undef) (a' := ?_) m18 rfl rfl (any_of HT_.out (by kernel_rfl)) (fun _ _ _ h => h) (Or.inr ⟨by rfl, rfl⟩) ?_ ?_
     rotate_left
     ·simp only [Act.put, qa, qb, qc, i64_w, i32_w]
      rfl
     refine pure_ (i := 18) (N := some 38) (v := undef) (a' := ?_) m19 rfl rfl (any_of HT_.out (by kernel_rfl)) (fun _ _ _ h => h) (Or.inr ⟨by rfl, rfl⟩) ?_ ?_
     rotate_left
     ·simp only [Act.put, qa, qb, qc, i64_w, i32_w]
      rfl
     refine pure_ (i := 19) (N := some 39) (v := undef) (a' := ?_) m20 rfl rfl (any_of HT_.out (by kernel_rfl)) (fun _ _ _ h => h) (Or.inr ⟨by rfl, rfl⟩) ?_ ?_
     rotate_left
     ·simp only [Act.put, qa, qb, qc, i64_w, i32_w]
      rfl
     refine pure_ (i := 20) (N := some 40) (v := ?_) (a' := ?_) m21 rfl rfl (any_of HT_.out (by kernel_rfl)) (fun _ _ _ h => h) (Or.inl ⟨by rfl, ?_⟩) ?_ ?_; rotate_left; (intro w'; go_simp; with_reducible rfl); rotate_left; (simp only [Act.put, qa, qb, qc, i64_w, i32_w]; rfl)
     refine pure_ (i := 21) (N := some 41) (v := ?_) (a' := ?_) m22 rfl rfl (any_of HT_.out (by kernel_rfl)) (fun _ _ _ h => h) (Or.inl ⟨by rfl, ?_⟩) ?_ ?_; rotate_left; (intro w'; go_simp; with_reducible rfl); rotate_left; (simp only [Act.put, qa, qb, qc, i64_w, i32_w]; rfl)
     refine pure_ (i := 22) (N := some 42) (v := undef) (a' := ?_) m23 rfl rfl (any_of HT_.out (by kernel_rfl)) (fun _ _ _ h => h) (Or.inr ⟨by rfl, rfl⟩) ?_ ?_
     rotate_left
     ·simp only [Act.put, qa, qb, qc, i64_w, i32_w]
      rfl
     refine pure_ (i := 23) (N := some 43) (v := undef) (a' := ?_) m24 rfl rfl (any_of HT_.out (by kernel_rfl)) (fun _ _ _ h => h) (Or.inr ⟨by rfl, rfl⟩) ?_ ?_
     rotate_left
     ·simp only [Act.put, qa, qb, qc, i64_w, i32_w]
      rfl
     refine pure_ (i := 24) (N := some 44) (v := undef) (a' := ?_) m25 rfl rfl (any_of HT_.out (by kernel_rfl)) (fun _ _ _ h => h) (Or.inr ⟨by rfl, rfl⟩) ?_ ?_
     rotate_left
     ·simp only [Act.put, qa, qb, qc, i64_w, i32_w]
      rfl
     refine pure_ (i := 25) (N := some 45) (v := undef) (a' := ?_) m30 rfl rfl (any_of HT_.out (by kernel_rfl)) (fun _ _ _ h => h) (Or.inr ⟨by rfl, rfl⟩) ?_ ?_
     rotate_left
     ·simp only [Act.put, qa, qb, qc, i64_w, i32_w]
      rfl
     refine pure_ (i := 26) (N := some 46) (v := undef) (a' := ?_) m31 rfl rfl (any_of HT_.out (by kernel_rfl)) (fun _ _ _ h => h) (Or.inr ⟨by rfl, rfl⟩) ?_ ?_
     rotate_left
     ·simp only [Act.put, qa, qb, qc, i64_w, i32_w]
      rfl
     refine pure_ (i := 27) (N := some 47) (v := undef) (a' := ?_) m32 rfl rfl (any_of HT_.out (by kernel_rfl)) (fun _ _ _ h => h) (Or.inr ⟨by rfl, rfl⟩) ?_ ?_
     rotate_left
     ·simp only [Act.put, qa, qb, qc, i64_w, i32_w]
      rfl
     refine pure_ (i := 28) (N := some 48) (v := undef) (a' := ?_) m33 rfl rfl (any_of HT_.out (by kernel_rfl)) (fun _ _ _ h => h) (Or.inr ⟨by rfl, rfl⟩) ?_ ?_
     rotate_left
     ·simp only [Act.put, qa, qb, qc, i64_w, i32_w]
      rfl
     refine pure_ (i := 29) (N := some 49) (v := undef) (a' := ?_) m34 rfl rfl (any_of HT_.out (by kernel_rfl)) (fun _ _ _ h => h) (Or.inr ⟨by rfl, rfl⟩) ?_ ?_
     rotate_left
     ·simp only [Act.put, qa, qb, qc, i64_w, i32_w]
      rfl
     refine pure_ (i := 30) (N := some 50) (v := undef) (a' := ?_) m35 rfl rfl (any_of HT_.out (by kernel_rfl)) (fun _ _ _ h => h) (Or.inr ⟨by rfl, rfl⟩) ?_ ?_
     rotate_left
     ·simp only [Act.put, qa, qb, qc, i64_w, i32_w]
      rfl
     refine pure_ (i := 31) (N := some 51) (v := undef) (a' := ?_) m36 rfl rfl (any_of HT_.out (by kernel_rfl)) (fun _ _ _ h => h) (Or.inr ⟨by rfl, rfl⟩) ?_ ?_
     rotate_left
     ·simp only [Act.put, qa, qb, qc, i64_w, i32_w]
      rfl
     refine pure_ (i := 32) (N := some 52) (v := ?_) (a' := ?_) m37 rfl rfl (any_of HT_.out (by kernel_rfl)) (fun _ _ _ h => h) (Or.inl ⟨by rfl, ?_⟩) ?_ ?_; rotate_left; (intro w'; go_simp; with_reducible rfl); rotate_left; (simp only [Act.put, qa, qb, qc, i64_w, i32_w]; rfl)
     refine pure_ (i := 33) (N := some 53) (v := ?_) (a' := ?_) m38 rfl rfl (any_of HT_.out (by kernel_rfl)) (fun _ _ _ h => h) (Or.inl ⟨by rfl, ?_⟩) ?_ ?_; rotate_left; (intro w'; go_simp; with_reducible rfl); rotate_left; (simp only [Act.put, qa, qb, qc, i64_w, i32_w]; rfl)
     refine pure_ (i := 34) (N := some 54) (v := undef) (a' := ?_) m39 rfl rfl (any_of HT_.out (by kernel_rfl)) (fun _ _ _ h => h) (Or.inr ⟨by rfl, rfl⟩) ?_ ?_
     rotate_left
     ·simp only [Act.put, qa, qb, qc, i64_w, i32_w]
      rfl
     refine pure_ (i := 35) (N := some 55) (v := undef) (a' := ?_) m40 rfl rfl (any_of HT_.out (by kernel_rfl)) (fun _ _ _ h => h) (Or.inr ⟨by rfl, rfl⟩) ?_ ?_
     rotate_left
     ·simp only [Act.put, qa, qb, qc, i64_w, i32_w]
      rfl
     refine pure_ (i := 36) (N := some 56) (v := ?_) (a' := ?_) m41 rfl rfl (any_of HT_.out (by kernel_rfl)) (fun _ _ _ h => h) (Or.inl ⟨by rfl, ?_⟩) ?_ ?_; rotate_left; (intro w'; go_simp; with_reducible rfl); rotate_left; (simp only [Act.put, qa, qb, qc, i64_w, i32_w]; rfl)
     refine pure_ (i := 37) (N := some 57) (v := ?_) (a' := ?_) m42 rfl rfl (any_of HT_.out (by kernel_rfl)) (fun _ _ _ h => h) (Or.inl ⟨by rfl, ?_⟩) ?_ ?_; rotate_left; (intro w'; go_simp; with_reducible rfl); rotate_left; (simp only [Act.put, qa, qb, qc, i64_w, i32_w]; rfl)
     refine pure_ (i := 38) (N := some 58) (v := undef) (a' := ?_) m43 rfl rfl (any_of HT_.out (by kernel_rfl)) (fun _ _ _ h => h) (Or.inr ⟨by rfl, rfl⟩) ?_ ?_
     rotate_left
     ·simp only [Act.put, qa, qb, qc, i64_w, i32_w]
      rfl
     refine pure_ (i := 39) (N := some 59) (v := undef) (a' := ?_) m44 rfl rfl (any_of HT_.out (by kernel_rfl)) (fun _ _ _ h => h) (Or.inr ⟨by rfl, rfl⟩) ?_ ?_
     rotate_left
     ·simp only [Act.put, qa, qb, qc, i64_w, i32_w]
      rfl
     refine pure_ (i := 40) (N := some 60) (v := undef) (a' := ?_) m45 rfl rfl (any_of HT_.out (by kernel_rfl)) (fun _ _ _ h => h) (Or.inr ⟨by rfl, rfl⟩) ?_ ?_
     rotate_left
     ·simp only [Act.put, qa, qb, qc, i64_w, i32_w]
      rfl
     refine pure_ (i := 41) (N := some 61) (v := undef) (a' := ?_) m46 rfl rfl (any_of HT_.out (by kernel_rfl)) (fun _ _ _ h => h) (Or.inr ⟨by rfl, rfl⟩) ?_ ?_
     rotate_left
     ·simp only [Act.put, qa, qb, qc, i64_w, i32_w]
      rfl
     refine pure_ (i := 42) (N := some 62) (v := undef) (a' := ?_) m47 rfl rfl (any_of HT_.out (by kernel_rfl)) (fun _ _ _ h => h) (Or.inr ⟨by rfl, rfl⟩) ?_ ?_
     rotate_left
     ·simp only [Act.put, qa, qb, qc, i64_w, i32_w]
      rfl
     refine pure_ (i := 43) (N := some 63) (v := undef) (a' := ?_) m48 rfl rfl (any_of HT_.out (by kernel_rfl)) (fun _ _ _ h => h) (Or.inr ⟨by rfl, rfl⟩) ?_ ?_
     rotate_left
     ·simp only [Act.put, qa, qb, qc, i64_w, i32_w]
      rfl
     refine pure_ (i := 44) (N := some 64) (v := ?_) (a' := ?_) m49 rfl rfl (any_of HT_.out (by kernel_rfl)) (fun _ _ _ h => h) (Or.inl ⟨by rfl, ?_⟩) ?_ ?_; rotate_left; (intro w'; go_simp; with_reducible rfl); rotate_left; (simp only [Act.put, qa, qb, qc, i64_w, i32_w]; rfl)
     refine pure_ (i := 45) (N := some 65) (v := ?_) (a' := ?_) m50 rfl rfl (any_of HT_.out (by kernel_rfl)) (fun _ _ _ h => h) (Or.inl ⟨by rfl, ?_⟩) ?_ ?_; rotate_left; (intro w'; go_simp; with_reducible rfl); rotate_left; (simp only [Act.put, qa, qb, qc, i64_w, i32_w]; rfl)
     refine pure_ (i := 46) (N := some 66) (v := undef) (a' := ?_) m51 rfl rfl (any_of HT_.out (by kernel_rfl)) (fun _ _ _ h => h) (Or.inr ⟨by rfl, rfl⟩) ?_ ?_
     rotate_left
     ·simp only [Act.put, qa, qb, qc, i64_w, i32_w]
      rfl
     refine pure_ (i := 47) (N := some 67) (v := undef) (a' := ?_) m52 rfl rfl (any_of HT_.out (by kernel_rfl)) (fun _ _ _ h => h) (Or.inr ⟨by rfl, rfl⟩) ?_ ?_
     rotate_left
     ·simp only [Act.put, qa, qb, qc, i64_w, i32_w]
      rfl
     refine pure_ (i := 48) (N := some 68) (v := ?_) (a' := ?_) m53 rfl rfl (any_of HT_.out (by kernel_rfl)) (fun _ _ _ h => h) (Or.inl ⟨by rfl, ?_⟩) ?_ ?_; rotate_left; (intro w'; go_simp; with_reducible rfl); rotate_left; (simp only [Act.put, qa, qb, qc, i64_w, i32_w]; rfl)
     refine pure_ (i := 49) (N := some 69) (v := ?_) (a' := ?_) m54 rfl rfl (any_of HT_.out (by kernel_rfl)) (fun _ _ _ h => h) (Or.inl ⟨by rfl, ?_⟩) ?_ ?_; rotate_left; (intro w'; go_simp; with_reducible rfl); rotate_left; (simp only [Act.put, qa, qb, qc, i64_w, i32_w]; rfl)
     refine pure_ (i := 50) (N := some 70) (v := undef) (a' := ?_) m55 rfl rfl (any_of HT_.out (by kernel_rfl)) (fun _ _ _ h => h) (Or.inr ⟨by rfl, rfl⟩) ?_ ?_
     rotate_left
     ·simp only [Act.put, qa, qb, qc, i64_w, i32_w]
      rfl
     refine pure_ (i := 51) (N := some 71) (v := undef) (a' := ?_) m56 rfl rfl (any_of HT_.out (by kernel_rfl)) (fun _ _ _ h => h) (Or.inr ⟨by rfl, rfl⟩) ?_ ?_
     rotate_left
     ·simp only [Act.put, qa, qb, qc, i64_w, i32_w]
      rfl
     refine pure_ (i := 52) (N := some 72) (v := ?_) (a' := ?_) m57 rfl rfl (any_of HT_.out (by kernel_rfl)) (fun _ _ _ h => h) (Or.inl ⟨by rfl, ?_⟩) ?_ ?_; rotate_left; (intro w'; go_simp; with_reducible rfl); rotate_left; (simp only [Act.put, qa, qb, qc, i64_w, i32_w]; rfl)
     refine done_ (done_of HT_.out (by kernel_rfl)) ?_
     try go_wp2
     go_meet
     case rel => exact ⟨_, (true), (by first | rfl | (simp; done) | (simp [*]; done)), H', ⟨by first | omega | exact Nat.le_refl _⟩, ⟨by repeat (first | (with_reducible first | exact HB.out | apply below_alloc | apply pw_below_drewN | apply below_drew1) | exact HB.out)⟩⟩
   ·replace c11 := Bool.eq_false_iff.mpr c11
    subst c11
    have H1 : (j0 k l0 l1 a2 a3 a4 true) = some r := by rw [if_neg (show ¬ (false = true) by decide)] at H; exact H
    clear H
    have H := H1
    clear H1
    have H' := Aside0.mk H
    clear H
    try go_wp2
    have n0_ := Aside0.mk (below_drew1 HB.out)
    clear HB
    have HB := n0_
    clear n0_
    refine start_ (n := 53) (S := fun w' => True) (ds := []) m0 (by kernel_rfl) rfl rfl trivial (fun hHeld => ?_); refine with_tabW supercargolaw43_AverageOrder.tab3 supercargolaw43_AverageOrder.bits3 (fun HT_ HW_ => ?_)
    generalize w9.drew = w30 at HB hHeld ⊢
    refine pure_ (i := 0) (N := some 20) (v := ?_) (a' := ?_) m1 rfl rfl (any_of HT_.out (by kernel_rfl)) (fun _ _ _ h => h) (Or.inl ⟨by rfl, ?_⟩) ?_ ?_; rotate_left; (intro w'; go_simp; with_reducible rfl); rotate_left; (simp only [Act.put, qa, qb, qc, i64_w, i32_w]; rfl)
    refine pure_ (i := 1) (N := some 21) (v := ?_) (a' := ?_) m2 rfl rfl (any_of HT_.out (by kernel_rfl)) (fun _ _ _ h => h) (Or.inl ⟨by rfl, ?_⟩) ?_ ?_; rotate_left; (intro w'; go_simp; with_reducible rfl); rotate_left; (simp only [Act.put, qa, qb, qc, i64_w, i32_w]; rfl)
    refine one_ (i := 2) (N := some 22) m3 rfl rfl (one_of HT_.out (by kernel_rfl)) (by decide) (fun K hK => ?_)
    refine goes_ Try.func11 (by kernel_rfl) rfl #[.slice _ l0.length c0, .slice _ l1.length c1] (by rfl) rfl rfl (by (try simp only [List.map_toArray, List.map_cons, List.map_nil]); first | done | rfl | (simp only [List.length_drop, List.length_take]; rfl)) ?_
    with_reducible refine (supercargolaw43_few.calls k _ _ l0 _ _ l1 false _ ?side1 ?side2 ?side3 ?side4 A10.out).mono ?_
    (case side1 => repeat (first | exact (Kd.C_below HR0.out HB.out) | (with_reducible refine Kd.C_alloc ?_ _) | (with_reducible refine Kd.C_drewN ?_ _) | (with_reducible refine Kd.C_drew ?_)))
    (case side2 => exact HC0.out)
    (case side3 => repeat (first | exact (Kd.C_below HR1.out HB.out) | (with_reducible refine Kd.C_alloc ?_ _) | (with_reducible refine Kd.C_drewN ?_ _) | (with_reducible refine Kd.C_drew ?_)))
    (case side4 => exact HC1.out)
    rintro e w' ⟨rfl, ⟨nd, rfl⟩⟩
    refine ⟨_, rfl, ?_⟩
    refine hK.out _ _ trivial (fun hHeld => ?_)
    clear hK K
    refine norm_ (a' := ?_) ?_ ?_
    rotate_left
    ·show Act.put _ (some 22) _ = _
     simp only [Act.put, qa, qb, qc, i64_w, i32_w]
     rfl
    refine pure_ (i := 3) (N := some 23) (v := ?_) (a' := ?_) m4 rfl rfl (any_of HT_.out (by kernel_rfl)) (fun _ _ _ h => h) (Or.inl ⟨by rfl, ?_⟩) ?_ ?_; rotate_left; (intro w'; go_simp; with_reducible rfl); rotate_left; (simp only [Act.put, qa, qb, qc, i64_w, i32_w]; rfl)
    refine pure_ (i := 4) (N := some 24) (v := ?_) (a' := ?_) m5 rfl rfl (any_of HT_.out (by kernel_rfl)) (fun _ _ _ h => h) (Or.inl ⟨by rfl, ?_⟩) ?_ ?_; rotate_left; (intro w'; go_simp; with_reducible rfl); rotate_left; (simp only [Act.put, qa, qb, qc, i64_w, i32_w]; rfl)
    refine pure_ (i := 5) (N := some 25) (v := undef) (a' := ?_) m6 rfl rfl (any_of HT_.out (by kernel_rfl)) (fun _ _ _ h => h) (Or.inr ⟨by rfl, rfl⟩) ?_ ?_
    rotate_left
    ·simp only [Act.put, qa, qb, qc, i64_w, i32_w]
     rfl
    refine pure_ (i := 6) (N := some 26) (v := undef) (a' := ?_) m7 rfl rfl (any_of HT_.out (by kernel_rfl)) (fun _ _ _ h => h) (Or.inr ⟨by rfl, rfl⟩) ?_ ?_
    rotate_left
    ·simp only [Act.put, qa, qb, qc, i64_w, i32_w]
     rfl
    refine pure_ (i := 7) (N := some 27) (v := undef) (a' := ?_) m8 rfl rfl (any_of HT_.out (by kernel_rfl)) (fun _ _ _ h => h) (Or.inr ⟨by rfl, rfl⟩) ?_ ?_
    rotate_left
    ·simp only [Act.put, qa, qb, qc, i64_w, i32_w]
     rfl
    refine pure_ (i := 8) (N := some 28) (v := undef) (a' := ?_) m9 rfl rfl (any_of HT_.out (by kernel_rfl)) (fun _ _ _ h => h) (Or.inr ⟨by rfl, rfl⟩) ?_ ?_
    rotate_left
    ·simp only [Act.put, qa, qb, qc, i64_w, i32_w]
     rfl
    refine pure_ (i := 9) (N := some 29) (v := undef) (a' := ?_) m10 rfl rfl (any_of HT_.out (by kernel_rfl)) (fun _ _ _ h => h) (Or.inr ⟨by rfl, rfl⟩) ?_ ?_
    rotate_left
    ·simp only [Act.put, qa, qb, qc, i64_w, i32_w]
     rfl
    refine pure_ (i := 10) (N := some 30) (v := ?_) (a' := ?_) m11 rfl rfl (any_of HT_.out (by kernel_rfl)) (fun _ _ _ h => h) (Or.inl ⟨by rfl, ?_⟩) ?_ ?_; rotate_left; (intro w'; go_simp; with_reducible rfl); rotate_left; (simp only [Act.put, qa, qb, qc, i64_w, i32_w]; rfl)
    refine pure_ (i := 11) (N := some 31) (v := ?_) (a' := ?_) m12 rfl rfl (any_of HT_.out (by kernel_rfl)) (fun _ _ _ h => h) (Or.inl ⟨by rfl, ?_⟩) ?_ ?_; rotate_left; (intro w'; go_simp; with_reducible rfl); rotate_left; (simp only [Act.put, qa, qb, qc, i64_w, i32_w]; rfl)
    refine pure_ (i := 12) (N := some 32) (v := undef) (a' := ?_) m13 rfl rfl (any_of HT_.out (by kernel_rfl)) (fun _ _ _ h => h) (Or.inr ⟨by rfl, rfl⟩) ?_ ?_
    rotate_left
    ·simp only [Act.put, qa, qb, qc, i64_w, i32_w]
     rfl
    refine pure_ (i := 13) (N := some 33) (v := undef) (a' := ?_) m14 rfl rfl (any_of HT_.out (by kernel_rfl)) (fun _ _ _ h => h) (Or.inr ⟨by rfl, rfl⟩) ?_ ?_
    rotate_left
    ·simp only [Act.put, qa, qb, qc, i64_w, i32_w]
     rfl
    refine pure_ (i := 14) (N := some 34) (v := ?_) (a' := ?_) m15 rfl rfl (any_of HT_.out (by kernel_rfl)) (fun _ _ _ h => h) (Or.inl ⟨by rfl, ?_⟩) ?_ ?_; rotate_left; (intro w'; go_simp; with_reducible rfl); rotate_left; (simp only [Act.put, qa, qb, qc, i64_w, i32_w]; rfl)
    refine pure_ (i := 15) (N := some 35) (v := ?_) (a' := ?_) m16 rfl rfl (any_of HT_.out (by kernel_rfl)) (fun _ _ _ h => h) (Or.inl ⟨by rfl, ?_⟩) ?_ ?_; rotate_left; (intro w'; go_simp; with_reducible rfl); rotate_left; (simp only [Act.put, qa, qb, qc, i64_w, i32_w]; rfl)
    refine pure_ (i := 16) (N := some 36) (v := undef) (a' := ?_) m17 rfl rfl (any_of HT_.out (by kernel_rfl)) (fun _ _ _ h => h) (Or.inr ⟨by rfl, rfl⟩) ?_ ?_
    rotate_left
    ·simp only [Act.put, qa, qb, qc, i64_w, i32_w]
     rfl
    refine pure_ (i := 17) (N := some 37) (v := undef) (a' := ?_) m18 rfl rfl (any_of HT_.out (by kernel_rfl)) (fun _ _ _ h => h) (Or.inr ⟨by rfl, rfl⟩) ?_ ?_
    rotate_left
    ·simp only [Act.put, qa, qb, qc, i64_w, i32_w]
     rfl
    refine pure_ (i := 18) (N := some 38) (v := undef) (a' := ?_) m19 rfl rfl (any_of HT_.out (by kernel_rfl)) (fun _ _ _ h => h) (Or.inr ⟨by rfl, rfl⟩) ?_ ?_
    rotate_left
    ·simp only [Act.put, qa, qb, qc, i64_w, i32_w]
     rfl
    refine pure_ (i := 19) (N := some 39) (v := undef) (a' := ?_) m20 rfl rfl (any_of HT_.out (by kernel_rfl)) (fun _ _ _ h => h) (Or.inr ⟨by rfl, rfl⟩) ?_ ?_
    rotate_left
    ·simp only [Act.put, qa, qb, qc, i64_w, i32_w]
     rfl
    refine pure_ (i := 20) (N := some 40) (v := ?_) (a' := ?_) m21 rfl rfl (any_of HT_.out (by kernel_rfl)) (fun _ _ _ h => h) (Or.inl ⟨by rfl, ?_⟩) ?_ ?_; rotate_left; (intro w'; go_simp; with_reducible rfl); rotate_left; (simp only [Act.put, qa, qb, qc, i64_w, i32_w]; rfl)
    refine pure_ (i := 21) (N := some 41) (v := ?_) (a' := ?_) m22 rfl rfl (any_of HT_.out (by kernel_rfl)) (fun _ _ _ h => h) (Or.inl ⟨by rfl, ?_⟩) ?_ ?_; rotate_left; (intro w'; go_simp; with_reducible rfl); rotate_left; (simp only [Act.put, qa, qb, qc, i64_w, i32_w]; rfl)
    refine pure_ (i := 22) (N := some 42) (v := undef) (a' := ?_) m23 rfl rfl (any_of HT_.out (by kernel_rfl)) (fun _ _ _ h => h) (Or.inr ⟨by rfl, rfl⟩) ?_ ?_
    rotate_left
    ·simp only [Act.put, qa, qb, qc, i64_w, i32_w]
     rfl
    refine pure_ (i := 23) (N := some 43) (v := undef) (a' := ?_) m24 rfl rfl (any_of HT_.out (by kernel_rfl)) (fun _ _ _ h => h) (Or.inr ⟨by rfl, rfl⟩) ?_ ?_
    rotate_left
    ·simp only [Act.put, qa, qb, qc, i64_w, i32_w]
     rfl
    refine pure_ (i := 24) (N := some 44) (v := undef) (a' := ?_) m25 rfl rfl (any_of HT_.out (by kernel_rfl)) (fun _ _ _ h => h) (Or.inr ⟨by rfl, rfl⟩) ?_ ?_
    rotate_left
    ·simp only [Act.put, qa, qb, qc, i64_w, i32_w]
     rfl
    refine pure_ (i := 25) (N := some 45) (v := undef) (a' := ?_) m30 rfl rfl (any_of HT_.out (by kernel_rfl)) (fun _ _ _ h => h) (Or.inr ⟨by rfl, rfl⟩) ?_ ?_
    rotate_left
    ·simp only [Act.put, qa, qb, qc, i64_w, i32_w]
     rfl
    refine pure_ (i := 26) (N := some 46) (v := undef) (a' := ?_) m31 rfl rfl (any_of HT_.out (by kernel_rfl)) (fun _ _ _ h => h) (Or.inr ⟨by rfl, rfl⟩) ?_ ?_
    rotate_left
    ·simp only [Act.put, qa, qb, qc, i64_w, i32_w]
     rfl
    refine pure_ (i := 27) (N := some 47) (v := undef) (a' := ?_) m32 rfl rfl (any_of HT_.out (by kernel_rfl)) (fun _ _ _ h => h) (Or.inr ⟨by rfl, rfl⟩) ?_ ?_
    rotate_left
    ·simp only [Act.put, qa, qb, qc, i64_w, i32_w]
     rfl
    refine pure_ (i := 28) (N := some 48) (v := undef) (a' := ?_) m33 rfl rfl (any_of HT_.out (by kernel_rfl)) (fun _ _ _ h => h) (Or.inr ⟨by rfl, rfl⟩) ?_ ?_
    rotate_left
    ·simp only [Act.put, qa, qb, qc, i64_w, i32_w]
     rfl
    refine pure_ (i := 29) (N := some 49) (v := undef) (a' := ?_) m34 rfl rfl (any_of HT_.out (by kernel_rfl)) (fun _ _ _ h => h) (Or.inr ⟨by rfl, rfl⟩) ?_ ?_
    rotate_left
    ·simp only [Act.put, qa, qb, qc, i64_w, i32_w]
     rfl
    refine pure_ (i := 30) (N := some 50) (v := undef) (a' := ?_) m35 rfl rfl (any_of HT_.out (by kernel_rfl)) (fun _ _ _ h => h) (Or.inr ⟨by rfl, rfl⟩) ?_ ?_
    rotate_left
    ·simp only [Act.put, qa, qb, qc, i64_w, i32_w]
     rfl
    refine pure_ (i := 31) (N := some 51) (v := undef) (a' := ?_) m36 rfl rfl (any_of HT_.out (by kernel_rfl)) (fun _ _ _ h => h) (Or.inr ⟨by rfl, rfl⟩) ?_ ?_
    rotate_left
    ·simp only [Act.put, qa, qb, qc, i64_w, i32_w]
     rfl
    refine pure_ (i := 32) (N := some 52) (v := ?_) (a' := ?_) m37 rfl rfl (any_of HT_.out (by kernel_rfl)) (fun _ _ _ h => h) (Or.inl ⟨by rfl, ?_⟩) ?_ ?_; rotate_left; (intro w'; go_simp; with_reducible rfl); rotate_left; (simp only [Act.put, qa, qb, qc, i64_w, i32_w]; rfl)
    refine pure_ (i := 33) (N := some 53) (v := ?_) (a' := ?_) m38 rfl rfl (any_of HT_.out (by kernel_rfl)) (fun _ _ _ h => h) (Or.inl ⟨by rfl, ?_⟩) ?_ ?_; rotate_left; (intro w'; go_simp; with_reducible rfl); rotate_left; (simp only [Act.put, qa, qb, qc, i64_w, i32_w]; rfl)
    refine pure_ (i := 34) (N := some 54) (v := undef) (a' := ?_) m39 rfl rfl (any_of HT_.out (by kernel_rfl)) (fun _ _ _ h => h) (Or.inr ⟨by rfl, rfl⟩) ?_ ?_
    rotate_left
    ·simp only [Act.put, qa, qb, qc, i64_w, i32_w]
     rfl
    refine pure_ (i := 35) (N := some 55) (v := undef) (a' := ?_) m40 rfl rfl (any_of HT_.out (by kernel_rfl)) (fun _ _ _ h => h) (Or.inr ⟨by rfl, rfl⟩) ?_ ?_
    rotate_left
    ·simp only [Act.put, qa, qb, qc, i64_w, i32_w]
     rfl
    refine pure_ (i := 36) (N := some 56) (v := ?_) (a' := ?_) m41 rfl rfl (any_of HT_.out (by kernel_rfl)) (fun _ _ _ h => h) (Or.inl ⟨by rfl, ?_⟩) ?_ ?_; rotate_left; (intro w'; go_simp; with_reducible rfl); rotate_left; (simp only [Act.put, qa, qb, qc, i64_w, i32_w]; rfl)
    refine pure_ (i := 37) (N := some 57) (v := ?_) (a' := ?_) m42 rfl rfl (any_of HT_.out (by kernel_rfl)) (fun _ _ _ h => h) (Or.inl ⟨by rfl, ?_⟩) ?_ ?_; rotate_left; (intro w'; go_simp; with_reducible rfl); rotate_left; (simp only [Act.put, qa, qb, qc, i64_w, i32_w]; rfl)
    refine pure_ (i := 38) (N := some 58) (v := undef) (a' := ?_) m43 rfl rfl (any_of HT_.out (by kernel_rfl)) (fun _ _ _ h => h) (Or.inr ⟨by rfl, rfl⟩) ?_ ?_
    rotate_left
    ·simp only [Act.put, qa, qb, qc, i64_w, i32_w]
     rfl
    refine pure_ (i := 39) (N := some 59) (v := undef) (a' := ?_) m44 rfl rfl (any_of HT_.out (by kernel_rfl)) (fun _ _ _ h => h) (Or.inr ⟨by rfl, rfl⟩) ?_ ?_
    rotate_left
    ·simp only [Act.put, qa, qb, qc, i64_w, i32_w]
     rfl
    refine pure_ (i := 40) (N := some 60) (v := undef) (a' := ?_) m45 rfl rfl (any_of HT_.out (by kernel_rfl)) (fun _ _ _ h => h) (Or.inr ⟨by rfl, rfl⟩) ?_ ?_
    rotate_left
    ·simp only [Act.put, qa, qb, qc, i64_w, i32_w]
     rfl
    refine pure_ (i := 41) (N := some 61) (v := undef) (a' := ?_) m46 rfl rfl (any_of HT_.out (by kernel_rfl)) (fun _ _ _ h => h) (Or.inr ⟨by rfl, rfl⟩) ?_ ?_
    rotate_left
    ·simp only [Act.put, qa, qb, qc, i64_w, i32_w]
     rfl
    refine pure_ (i := 42) (N := some 62) (v := undef) (a' := ?_) m47 rfl rfl (any_of HT_.out (by kernel_rfl)) (fun _ _ _ h => h) (Or.inr ⟨by rfl, rfl⟩) ?_ ?_
    rotate_left
    ·simp only [Act.put, qa, qb, qc, i64_w, i32_w]
     rfl
    refine pure_ (i := 43) (N := some 63) (v := undef) (a' := ?_) m48 rfl rfl (any_of HT_.out (by kernel_rfl)) (fun _ _ _ h => h) (Or.inr ⟨by rfl, rfl⟩) ?_ ?_
    rotate_left
    ·simp only [Act.put, qa, qb, qc, i64_w, i32_w]
     rfl
    refine pure_ (i := 44) (N := some 64) (v := ?_) (a' := ?_) m49 rfl rfl (any_of HT_.out (by kernel_rfl)) (fun _ _ _ h => h) (Or.inl ⟨by rfl, ?_⟩) ?_ ?_; rotate_left; (intro w'; go_simp; with_reducible rfl); rotate_left; (simp only [Act.put, qa, qb, qc, i64_w, i32_w]; rfl)
    refine pure_ (i := 45) (N := some 65) (v := ?_) (a' := ?_) m50 rfl rfl (any_of HT_.out (by kernel_rfl)) (fun _ _ _ h => h) (Or.inl ⟨by rfl, ?_⟩) ?_ ?_; rotate_left; (intro w'; go_simp; with_reducible rfl); rotate_left; (simp only [Act.put, qa, qb, qc, i64_w, i32_w]; rfl)
    refine pure_ (i := 46) (N := some 66) (v := undef) (a' := ?_) m51 rfl rfl (any_of HT_.out (by kernel_rfl)) (fun _ _ _ h => h) (Or.inr ⟨by rfl, rfl⟩) ?_ ?_
    rotate_left
    ·simp only [Act.put, qa, qb, qc, i64_w, i32_w]
     rfl
    refine pure_ (i := 47) (N := some 67) (v := undef) (a' := ?_) m52 rfl rfl (any_of HT_.out (by kernel_rfl)) (fun _ _ _ h => h) (Or.inr ⟨by rfl, rfl⟩) ?_ ?_
    rotate_left
    ·simp only [Act.put, qa, qb, qc, i64_w, i32_w]
     rfl
    refine pure_ (i := 48) (N := some 68) (v := ?_) (a' := ?_) m53 rfl rfl (any_of HT_.out (by kernel_rfl)) (fun _ _ _ h => h) (Or.inl ⟨by rfl, ?_⟩) ?_ ?_; rotate_left; (intro w'; go_simp; with_reducible rfl); rotate_left; (simp only [Act.put, qa, qb, qc, i64_w, i32_w]; rfl)
    refine pure_ (i := 49) (N := some 69) (v := ?_) (a' := ?_) m54 rfl rfl (any_of HT_.out (by kernel_rfl)) (fun _ _ _ h => h) (Or.inl ⟨by rfl, ?_⟩) ?_ ?_; rotate_left; (intro w'; go_simp; with_reducible rfl); rotate_left; (simp only [Act.put, qa, qb, qc, i64_w, i32_w]; rfl)
    refine pure_ (i := 50) (N := some 70) (v := undef) (a' := ?_) m55 rfl rfl (any_of HT_.out (by kernel_rfl)) (fun _ _ _ h => h) (Or.inr ⟨by rfl, rfl⟩) ?_ ?_
    rotate_left
    ·simp only [Act.put, qa, qb, qc, i64_w, i32_w]
     rfl
    refine pure_ (i := 51) (N := some 71) (v := undef) (a' := ?_) m56 rfl rfl (any_of HT_.out (by kernel_rfl)) (fun _ _ _ h => h) (Or.inr ⟨by rfl, rfl⟩) ?_ ?_
    rotate_left
    ·simp only [Act.put, qa, qb, qc, i64_w, i32_w]
     rfl
    refine pure_ (i := 52) (N := some 72) (v := ?_) (a' := ?_) m57 rfl rfl (any_of HT_.out (by kernel_rfl)) (fun _ _ _ h => h) (Or.inl ⟨by rfl, ?_⟩) ?_ ?_; rotate_left; (intro w'; go_simp; with_reducible rfl); rotate_left; (simp only [Act.put, qa, qb, qc, i64_w, i32_w]; rfl)
    refine done_ (done_of HT_.out (by kernel_rfl)) ?_
    try go_wp2
    go_meet
    case rel => exact ⟨_, (true), (by first | rfl | (simp; done) | (simp [*]; done)), H', ⟨by first | omega | exact Nat.le_refl _⟩, ⟨by repeat (first | (with_reducible first | exact HB.out | apply below_alloc | apply pw_below_drewN | apply below_drew1) | exact HB.out)⟩⟩
  case rest =>
   clear HC8
   try clear c1
   try clear p2
   try clear c11
   obtain ⟨kq, x72_7, rfl, HA, HJ7, HB⟩ := hcut
   cases kq with
   | zero => exact absurd HA.out (by simp [j0])
   | succ kj7 =>
    have H := HA.out
    clear HA
    simp only [j0] at H
    by_cases c31 : x72_7 = true
    ·subst c31
     have H1 : (some true) = some r := by rw [if_pos rfl] at H; exact H
     clear H
     have H := H1
     clear H1
     obtain rfl := Option.some.inj H
     go_wp2
     go_ret
     exact ⟨by first | rfl | (simp [errW_none, errW_some] <;> rfl) | (simp [*, errW_none, errW_some] <;> rfl), by repeat (first | (with_reducible first | exact HB.out | apply below_alloc | apply pw_below_drewN | apply below_drew1) | exact HB.out)⟩
    ·replace c31 := Bool.eq_false_iff.mpr c31
     subst c31
     have H1 : ((some (([] : List Int) : List Int)).bind fun y304 => (if y304.length + l1.length < 17592186044416 then ((some (y304 ++ l1 : List Int)).bind fun y307 => (if 0 ≤ a3 then (if a3 < (y307.length : Int) then ((average_Whole.f kj7 l0 l1 a2).bind fun bt312 => ((average_Whole.f kj7 l0 (y307.set (a3 : Int).toNat (wrap64 ((rd y307 a3) - a4))) (wrap64 (a2 + a4))).bind fun bt319 => (if (wrap64 (a2 + a4)) > 1099511627776 then (some (bt319.2.2 == 1)) else (if bt312.2.2 = bt319.2.2 then ((supercargoref04_Same.f kj7 bt312.1 bt319.1).bind fun t326 => (some t326)) else (none))))) else (none)) else (none))) else (none))) = some r := by rw [if_neg (show ¬ (false = true) by decide)] at H; exact H
     clear H
     have H := H1
     clear H1
     obtain ⟨y304, hy304⟩ : ∃ y_ : List Int, y_ = (([] : List Int)) := ⟨_, rfl⟩
     replace H : (if y304.length + l1.length < 17592186044416 then ((some (y304 ++ l1 : List Int)).bind fun y307 => (if 0 ≤ a3 then (if a3 < (y307.length : Int) then ((average_Whole.f kj7 l0 l1 a2).bind fun bt312 => ((average_Whole.f kj7 l0 (y307.set (a3 : Int).toNat (wrap64 ((rd y307 a3) - a4))) (wrap64 (a2 + a4))).bind fun bt319 => (if (wrap64 (a2 + a4)) > 1099511627776 then (some (bt319.2.2 == 1)) else (if bt312.2.2 = bt319.2.2 then ((supercargoref04_Same.f kj7 bt312.1 bt319.1).bind fun t326 => (some t326)) else (none))))) else (none)) else (none))) else (none)) = some r := by first | (rw [hy304]; with_reducible exact H) | (have H2_ := (Option.bind_some _ _).symm.trans H; rw [hy304]; with_reducible exact H2_) | (have H2_ := (Option.bind_some _ _).symm.trans H; with_reducible exact H2_) | with_reducible exact H | (rw [hy304]; exact H) | exact H
     have Ny304 := Aside0.mk hy304
     clear hy304
     by_cases c32 : y304.length + l1.length < 17592186044416
     ·rw [if_pos c32] at H
      have LMc32 := Aside0.mk c32
      clear c32
      obtain ⟨y307, hy307⟩ : ∃ y_ : List Int, y_ = (y304 ++ l1) := ⟨_, rfl⟩
      replace H : (if 0 ≤ a3 then (if a3 < (y307.length : Int) then ((average_Whole.f kj7 l0 l1 a2).bind fun bt312 => ((average_Whole.f kj7 l0 (y307.set (a3 : Int).toNat (wrap64 ((rd y307 a3) - a4))) (wrap64 (a2 + a4))).bind fun bt319 => (if (wrap64 (a2 + a4)) > 1099511627776 then (some (bt319.2.2 == 1)) else (if bt312.2.2 = bt319.2.2 then ((supercargoref04_Same.f kj7 bt312.1 bt319.1).bind fun t326 => (some t326)) else (none))))) else (none)) else (none)) = some r := by first | (rw [hy307]; with_reducible exact H) | (have H2_ := (Option.bind_some _ _).symm.trans H; rw [hy307]; with_reducible exact H2_) | (have H2_ := (Option.bind_some _ _).symm.trans H; with_reducible exact H2_) | with_reducible exact H | (rw [hy307]; exact H) | exact H
      have Ny307 := Aside0.mk hy307
      clear hy307
      by_cases c33 : 0 ≤ a3
      ·rw [if_pos c33] at H
       have c33b0 : decide (0 ≤ a3) = true := decide_eq_true c33
       clear c33
       by_cases c34 : a3 < (y307.length : Int)
       ·rw [if_pos c34] at H
        have c34b0 : decide (a3 < (y307.length : Int)) = true := decide_eq_true c34
        clear c34
        obtain ⟨y311, hy311⟩ : ∃ y_ : List Int, y_ = (y307.set (a3 : Int).toNat (wrap64 ((rd y307 a3) - a4))) := ⟨_, rfl⟩
        replace H : ((average_Whole.f kj7 l0 l1 a2).bind fun bt312 => ((average_Whole.f kj7 l0 y311 (wrap64 (a2 + a4))).bind fun bt319 => (if (wrap64 (a2 + a4)) > 1099511627776 then (some (bt319.2.2 == 1)) else (if bt312.2.2 = bt319.2.2 then ((supercargoref04_Same.f kj7 bt312.1 bt319.1).bind fun t326 => (some t326)) else (none))))) = some r := by first | (rw [hy311]; with_reducible exact H) | (have H2_ := (Option.bind_some _ _).symm.trans H; rw [hy311]; with_reducible exact H2_) | (have H2_ := (Option.bind_some _ _).symm.trans H; with_reducible exact H2_) | with_reducible exact H | (rw [hy311]; exact H) | exact H
        have Ny311 := Aside0.mk hy311
        clear hy311
        replace H := Option.bind_eq_some_iff.mp H
        obtain ⟨⟨t312, t313, t314⟩, A360, H⟩ := H
        replace H : ((average_Whole.f kj7 l0 y311 (wrap64 (a2 + a4))).bind fun bt319 => (if (wrap64 (a2 + a4)) > 1099511627776 then (some (bt319.2.2 == 1)) else (if t314 = bt319.2.2 then ((supercargoref04_Same.f kj7 t312 bt319.1).bind fun t326 => (some t326)) else (none)))) = some r := H
        have A36 := Aside0.mk A360
        clear A360
        replace H := Option.bind_eq_some_iff.mp H
        obtain ⟨⟨t319, t320, t321⟩, A370, H⟩ := H
        replace H : (if (wrap64 (a2 + a4)) > 1099511627776 then (some (t321 == 1)) else (if t314 = t321 then ((supercargoref04_Same.f kj7 t312 t319).bind fun t326 => (some t326)) else (none))) = some r := H
        have A37 := Aside0.mk A370
        clear A370
        by_cases c38 : (wrap64 (a2 + a4)) > 1099511627776
        ·rw [if_pos c38] at H
         have c38b0 : decide (1099511627776 < (wrap64 (a2 + a4))) = true := decide_eq_true c38
         clear c38
         obtain rfl := Option.some.inj H
         go_wp2_with (first | ((with_reducible refine gate_dst (N := 73) rfl ?_); (try (refine gate_guard (by rfl) ?_; dsimp only)); refine Kd.R_lit (Kd.int .i64) _ 2 ?hg (N := 73) ?hd (xs := ([] : List Int)) (inner := []) (ok := fun _ => True) (okp := fun _ => True) ?hr ?hp (fun _ hk => hk) trivial (Below.refl _ _) (Nat.le_refl _) (by simp) ?_; (case hd => rfl); (case hg => rfl); (case hr => first | (go_simp; done) | (go_simp; rfl)); (case hp => exact (Reps.none _ _)); intro v305 w39 ho40 hb hg_ hnew_; clear hg_ hnew_; (first | rw [← Ny304.out] at ho40 | (simp only [Int.reduceToNat] at ho40; rw [← Ny304.out] at ho40)); have n0_ := Aside0.mk (Kd.R_lower ho40 (below_size (by repeat (first | (with_reducible first | exact HB.out | apply below_alloc | apply pw_below_drewN | apply below_drew1) | exact HB.out)))); have n1_ := Aside0.mk (below_step (by repeat (first | (with_reducible first | exact HB.out | apply below_alloc | apply pw_below_drewN | apply below_drew1) | exact HB.out)) hb); clear HB; have HO306 := n0_; have HB := n1_; clear n0_ n1_; clear hb ho40) | ((with_reducible refine gate_builtin (b := .append) (xs := #[.tmp 73, .tmp 74]) rfl ?_); (try (refine gate_guard (by rfl) ?_; dsimp only)); at_builtin; refine Kd.R_append_rows (Kd.int .i64) (w0 := w) w.heap.size rfl (.tmp 73) (.tmp 74) 23 2 (.int .i64 0) 8 rfl Try.underlying23 info2 rfl (by decide) (by omega) v305 y304 l1 _ _ _ (fun _ => True) (fun _ => False) rfl rfl ?aO ?aR (fun _ _ h => h) (fun _ h => h.elim) ?aF ?aB ?aS ?aL ?_; (case aR => repeat (first | exact (Kd.C_below HR1.out HB.out) | (with_reducible refine Kd.C_alloc ?_ _) | (with_reducible refine Kd.C_drewN ?_ _) | (with_reducible refine Kd.C_drew ?_))); (case aB => exact (by repeat (first | (with_reducible first | exact HB.out | apply below_alloc | apply pw_below_drewN | apply below_drew1) | exact HB.out))); (case aF => exact (fun _ _ => trivial)); (case aO => exact (by (with_reducible repeat (first | apply Kd.R_alloc | apply Kd.R_drewN | apply Kd.R_drew)); exact HO306.out)); (case aS => exact (below_size (by repeat (first | (with_reducible first | exact HB.out | apply below_alloc | apply pw_below_drewN | apply below_drew1) | exact HB.out)))); (case aL => have := LMc32.out; omega); intro v308 w41 ho hb hg hat; rw [← Ny307.out] at ho; have n0_ := Aside0.mk (hb); have n1_ := Aside0.mk (ho); clear HB; clear HO306; have HB := n0_; have HO309 := n1_; clear n0_ n1_; clear ho hb hg hat; obtain ⟨Ao42, co42, eo42⟩ := Kd.R_slice HO309.out; subst eo42; have p310 : 0 ≤ (a3 : Int) := of_decide_eq_true (by first | (with_reducible assumption) | assumption); have q310 : a3 < (y307.length : Int) := of_decide_eq_true (by first | (with_reducible assumption) | assumption); obtain ⟨ad310, e310, hx310_0⟩ := Kd.at_int (Kd.R_reads' HO309.out).2.2 a3 p310 q310; cases e310; replace p310 := eq_true p310; replace q310 := eq_true q310; have p35 : 0 ≤ (a3 : Int) := of_decide_eq_true (by first | (with_reducible assumption) | assumption); have q35 : (a3 : Int) < ((y307.length : Int) : Int) := of_decide_eq_true (by first | (with_reducible assumption) | assumption); obtain ⟨go35, co35, eo35, gb35, gl35, cl35, HG35⟩ := Kd.R_form HO309.out (by omega); (first | cases eo35 | (injection eo35 with ea_ en_ ec_; (first | subst ea_ | (injection ea_ with ea_; subst ea_)); subst ec_; clear en_)); have GB35 := Aside0.mk gb35; have GG35 := Aside0.mk HG35; clear gb35 gl35 HG35; (first | simp only [add_plain] at hx310_0 | skip); obtain ⟨hx35_0, hf35_0⟩ := Kd.R_celln 0 HO309.out (a3 : Int) p35 q35; replace p35 := eq_true p35; replace q35 := eq_true q35; obtain ⟨hy43_, hz43_⟩ := Kd.R_celln 0 HO309.out (a3 : Int) (of_decide_eq_true (by first | (with_reducible assumption) | assumption)) (of_decide_eq_true (by first | (with_reducible assumption) | assumption)); have HP43 := Kd.R_putg HO309.out (a3 : Int) (wrap64 ((rd y307 a3) - a4))) | ((with_reducible refine gate_store (t := 2) (p := 84) rfl ?_); refine store_event (t := 2) (p := 84) (v := ?vo_w44) (w1 := (w41.setCell ⟨go35, (a3 : Int).toNat, none⟩ (.int .i64 (wrap64 ((rd y307 a3) - a4))))) ?hg ?ho ?hn ?hr ?_; (case ho => rfl); (case hg => rfl); (case hn => rfl); (case hr => first | (go_simp; done) | (go_simp; rfl)); intro w44 hw; have hg : w41.grownBy w44 (some go35) := (by rw [hw]; exact HP43.2); have hp_ : Kd.R (Kd.int .i64) 2 w44 w.heap.size (fun _ => True) (.slice (some ⟨go35, 0, none⟩) y307.length co42) y311 := (by rw [hw, Ny311.out]; exact HP43.1); clear HP43; have n0_ := Aside0.mk (hp_); have n1_ := Aside0.mk ((by rw [hw]; exact below_set (HB.out) GB35.out : Below w.heap.size w w44)); clear HO309; clear HB; have HO309 := n0_; have HB := n1_; clear n0_ n1_; clear hg hw hp_) | ((with_reducible refine gate_callee (f := 15) rfl ?_); refine goesL_ (some 89) rfl rfl Try.func15 (by kernel_rfl) rfl #[.slice A0 l0.length c0, .slice A1 l1.length c1, .int .i64 a2] rfl (by (try simp only [List.map_toArray, List.map_cons, List.map_nil]); first | done | rfl | (simp only [List.length_drop, List.length_take]; rfl)) ?_; (with_reducible refine (average_Whole.calls kj7 _ _ l0 _ _ l1 a2 t312 t313 t314 _ ?side1 ?side2 ?side3 ?side4 A36.out).mono ?_); (case side1 => repeat (first | exact (Kd.C_below HR0.out HB.out) | (with_reducible refine Kd.C_alloc ?_ _) | (with_reducible refine Kd.C_drewN ?_ _) | (with_reducible refine Kd.C_drew ?_))); (case side2 => exact HC0.out); (case side3 => repeat (first | exact (Kd.C_below HR1.out HB.out) | (with_reducible refine Kd.C_alloc ?_ _) | (with_reducible refine Kd.C_drewN ?_ _) | (with_reducible refine Kd.C_drew ?_))); (case side4 => exact HC1.out); rintro e w45 ⟨v315, v317, rfl, ho0, ho1, hb⟩; refine ⟨_, rfl, ?_⟩; have n0_ := Aside0.mk (Kd.R_mono (Kd.R_told (Kd.R_told (Kd.R_old (by (with_reducible repeat (first | apply Kd.R_alloc | apply Kd.R_drewN | apply Kd.R_drew)); exact HO309.out) hb) (Kd.R_base ho0)) (Kd.R_base ho1)) (fun _ h_ => h_.1)); have n1_ := Aside0.mk (Kd.R_lower (Kd.R_new' ho0 (Kd.R_lt (by (with_reducible repeat (first | apply Kd.R_alloc | apply Kd.R_drewN | apply Kd.R_drew)); exact HO309.out))) (below_size (by repeat (first | (with_reducible first | exact HB.out | apply below_alloc | apply pw_below_drewN | apply below_drew1) | exact HB.out)))); have n2_ := Aside0.mk (Kd.R_lower (Kd.R_new' ho1 (Kd.R_lt (by (with_reducible repeat (first | apply Kd.R_alloc | apply Kd.R_drewN | apply Kd.R_drew)); exact HO309.out))) (below_size (by repeat (first | (with_reducible first | exact HB.out | apply below_alloc | apply pw_below_drewN | apply below_drew1) | exact HB.out)))); have n3_ := Aside0.mk (below_step (by repeat (first | (with_reducible first | exact HB.out | apply below_alloc | apply pw_below_drewN | apply below_drew1) | exact HB.out)) hb); clear HO309; clear HB; have HO309 := n0_; have HO316 := n1_; have HO318 := n2_; have HB := n3_; clear n0_ n1_ n2_ n3_; (try clear hb); (try clear hb2); (try clear hk); (try clear hi); (try clear ho0); (try clear ho1)) | ((with_reducible refine gate_callee (f := 15) rfl ?_); refine goesL_ (some 99) rfl rfl Try.func15 (by kernel_rfl) rfl #[.slice A0 l0.length c0, .slice (some ⟨go35, 0, none⟩) y311.length co42, .int .i64 (wrap64 (a2 + a4))] rfl (by (try simp only [List.map_toArray, List.map_cons, List.map_nil]); first | done | (rw [show y311.length = y307.length from (Kd.R_reads' HO309.out).1.symm] <;> rfl) | rfl | (simp only [List.length_drop, List.length_take]; rfl)) ?_; (with_reducible refine (average_Whole.calls kj7 _ _ l0 _ _ y311 (wrap64 (a2 + a4)) t319 t320 t321 _ ?side1 ?side2 ?side3 ?side4 A37.out).mono ?_); (case side1 => repeat (first | exact (Kd.C_below HR0.out HB.out) | (with_reducible refine Kd.C_alloc ?_ _) | (with_reducible refine Kd.C_drewN ?_ _) | (with_reducible refine Kd.C_drew ?_))); (case side2 => exact HC0.out); (case side3 => repeat (first | exact (Kd.R_reads' HO309.out).2.2 | (with_reducible refine Kd.C_alloc ?_ _) | (with_reducible refine Kd.C_drewN ?_ _) | (with_reducible refine Kd.C_drew ?_))); (case side4 => rw [show y311.length = y307.length from (Kd.R_reads' HO309.out).1.symm]; exact (Kd.R_reads' HO309.out).2.1); rintro e w46 ⟨v322, v324, rfl, ho0, ho1, hb⟩; refine ⟨_, rfl, ?_⟩; have n0_ := Aside0.mk (Kd.R_mono (Kd.R_told (Kd.R_told (Kd.R_old (by (with_reducible repeat (first | apply Kd.R_alloc | apply Kd.R_drewN | apply Kd.R_drew)); exact HO309.out) hb) (Kd.R_base ho0)) (Kd.R_base ho1)) (fun _ h_ => h_.1)); have n1_ := Aside0.mk (Kd.R_mono (Kd.R_told (Kd.R_told (Kd.R_old (by (with_reducible repeat (first | apply Kd.R_alloc | apply Kd.R_drewN | apply Kd.R_drew)); exact HO316.out) hb) (Kd.R_base ho0)) (Kd.R_base ho1)) (fun _ h_ => h_.1)); have n2_ := Aside0.mk (Kd.R_mono (Kd.R_told (Kd.R_told (Kd.R_old (by (with_reducible repeat (first | apply Kd.R_alloc | apply Kd.R_drewN | apply Kd.R_drew)); exact HO318.out) hb) (Kd.R_base ho0)) (Kd.R_base ho1)) (fun _ h_ => h_.1)); have n3_ := Aside0.mk (Kd.R_lower (Kd.R_new' (Kd.R_new' (Kd.R_new' ho0 (Kd.R_lt (by (with_reducible repeat (first | apply Kd.R_alloc | apply Kd.R_drewN | apply Kd.R_drew)); exact HO309.out))) (Kd.R_lt (by (with_reducible repeat (first | apply Kd.R_alloc | apply Kd.R_drewN | apply Kd.R_drew)); exact HO316.out))) (Kd.R_lt (by (with_reducible repeat (first | apply Kd.R_alloc | apply Kd.R_drewN | apply Kd.R_drew)); exact HO318.out))) (below_size (by repeat (first | (with_reducible first | exact HB.out | apply below_alloc | apply pw_below_drewN | apply below_drew1) | exact HB.out)))); have n4_ := Aside0.mk (Kd.R_lower (Kd.R_new' (Kd.R_new' (Kd.R_new' ho1 (Kd.R_lt (by (with_reducible repeat (first | apply Kd.R_alloc | apply Kd.R_drewN | apply Kd.R_drew)); exact HO309.out))) (Kd.R_lt (by (with_reducible repeat (first | apply Kd.R_alloc | apply Kd.R_drewN | apply Kd.R_drew)); exact HO316.out))) (Kd.R_lt (by (with_reducible repeat (first | apply Kd.R_alloc | apply Kd.R_drewN | apply Kd.R_drew)); exact HO318.out))) (below_size (by repeat (first | (with_reducible first | exact HB.out | apply below_alloc | apply pw_below_drewN | apply below_drew1) | exact HB.out)))); have n5_ := Aside0.mk (below_step (by repeat (first | (with_reducible first | exact HB.out | apply below_alloc | apply pw_below_drewN | apply below_drew1) | exact HB.out)) hb); clear HO309; clear HO316; clear HO318; clear HB; have HO309 := n0_; have HO316 := n1_; have HO318 := n2_; have HO323 := n3_; have HO325 := n4_; have HB := n5_; clear n0_ n1_ n2_ n3_ n4_ n5_; (try clear hb); (try clear hb2); (try clear hk); (try clear hi); (try clear ho0); (try clear ho1)))
         go_ret
         exact ⟨by first | rfl | (simp [errW_none, errW_some] <;> rfl) | (simp [*, errW_none, errW_some] <;> rfl), by repeat (first | (with_reducible first | exact HB.out | apply below_alloc | apply pw_below_drewN | apply below_drew1) | exact HB.out)⟩
        ·rw [if_neg c38] at H
         have c38b0 : decide (1099511627776 < (wrap64 (a2 + a4))) = false := decide_eq_false c38
         clear c38
         by_cases c47 : t314 = t321
         ·rw [if_pos c47] at H
          have c47b0 : (t314 == t321) = true := beq_iff_eq.mpr c47
          have c47b1 : (t314 != t321) = false := bne_eq_false_iff_eq.mpr c47
          clear c47
          replace H := Option.bind_eq_some_iff.mp H
          obtain ⟨t326, A480, H⟩ := H
          replace H : (some t326) = some r := H
          have A48 := Aside0.mk A480
          clear A480
          obtain rfl := Option.some.inj H
          go_wp2_with (first | ((with_reducible refine gate_dst (N := 73) rfl ?_); (try (refine gate_guard (by rfl) ?_; dsimp only)); refine Kd.R_lit (Kd.int .i64) _ 2 ?hg (N := 73) ?hd (xs := ([] : List Int)) (inner := []) (ok := fun _ => True) (okp := fun _ => True) ?hr ?hp (fun _ hk => hk) trivial (Below.refl _ _) (Nat.le_refl _) (by simp) ?_; (case hd => rfl); (case hg => rfl); (case hr => first | (go_simp; done) | (go_simp; rfl)); (case hp => exact (Reps.none _ _)); intro v305 w49 ho50 hb hg_ hnew_; clear hg_ hnew_; (first | rw [← Ny304.out] at ho50 | (simp only [Int.reduceToNat] at ho50; rw [← Ny304.out] at ho50)); have n0_ := Aside0.mk (Kd.R_lower ho50 (below_size (by repeat (first | (with_reducible first | exact HB.out | apply below_alloc | apply pw_below_drewN | apply below_drew1) | exact HB.out)))); have n1_ := Aside0.mk (below_step (by repeat (first | (with_reducible first | exact HB.out | apply below_alloc | apply pw_below_drewN | apply below_drew1) | exact HB.out)) hb); clear HB; have HO306 := n0_; have HB := n1_; clear n0_ n1_; clear hb ho50) | ((with_reducible refine gate_builtin (b := .append) (xs := #[.tmp 73, .tmp 74]) rfl ?_); (try (refine gate_guard (by rfl) ?_; dsimp only)); at_builtin; refine Kd.R_append_rows (Kd.int .i64) (w0 := w) w.heap.size rfl (.tmp 73) (.tmp 74) 23 2 (.int .i64 0) 8 rfl Try.underlying23 info2 rfl (by decide) (by omega) v305 y304 l1 _ _ _ (fun _ => True) (fun _ => False) rfl rfl ?aO ?aR (fun _ _ h => h) (fun _ h => h.elim) ?aF ?aB ?aS ?aL ?_; (case aR => repeat (first | exact (Kd.C_below HR1.out HB.out) | (with_reducible refine Kd.C_alloc ?_ _) | (with_reducible refine Kd.C_drewN ?_ _) | (with_reducible refine Kd.C_drew ?_))); (case aB => exact (by repeat (first | (with_reducible first | exact HB.out | apply below_alloc | apply pw_below_drewN | apply below_drew1) | exact HB.out))); (case aF => exact (fun _ _ => trivial)); (case aO => exact (by (with_reducible repeat (first | apply Kd.R_alloc | apply Kd.R_drewN | apply Kd.R_drew)); exact HO306.out)); (case aS => exact (below_size (by repeat (first | (with_reducible first | exact HB.out | apply below_alloc | apply pw_below_drewN | apply below_drew1) | exact HB.out)))); (case aL => have := LMc32.out; omega); intro v308 w51 ho hb hg hat; rw [← Ny307.out] at ho; have n0_ := Aside0.mk (hb); have n1_ := Aside0.mk (ho); clear HB; clear HO306; have HB := n0_; have HO309 := n1_; clear n0_ n1_; clear ho hb hg hat; obtain ⟨Ao52, co52, eo52⟩ := Kd.R_slice HO309.out; subst eo52; have p310 : 0 ≤ (a3 : Int) := of_decide_eq_true (by first | (with_reducible assumption) | assumption); have q310 : a3 < (y307.length : Int) := of_decide_eq_true (by first | (with_reducible assumption) | assumption); obtain ⟨ad310, e310, hx310_0⟩ := Kd.at_int (Kd.R_reads' HO309.out).2.2 a3 p310 q310; cases e310; replace p310 := eq_true p310; replace q310 := eq_true q310; have p35 : 0 ≤ (a3 : Int) := of_decide_eq_true (by first | (with_reducible assumption) | assumption); have q35 : (a3 : Int) < ((y307.length : Int) : Int) := of_decide_eq_true (by first | (with_reducible assumption) | assumption); obtain ⟨go35, co35, eo35, gb35, gl35, cl35, HG35⟩ := Kd.R_form HO309.out (by omega); (first | cases eo35 | (injection eo35 with ea_ en_ ec_; (first | subst ea_ | (injection ea_ with ea_; subst ea_)); subst ec_; clear en_)); have GB35 := Aside0.mk gb35; have GG35 := Aside0.mk HG35; clear gb35 gl35 HG35; (first | simp only [add_plain] at hx310_0 | skip); obtain ⟨hx35_0, hf35_0⟩ := Kd.R_celln 0 HO309.out (a3 : Int) p35 q35; replace p35 := eq_true p35; replace q35 := eq_true q35; obtain ⟨hy53_, hz53_⟩ := Kd.R_celln 0 HO309.out (a3 : Int) (of_decide_eq_true (by first | (with_reducible assumption) | assumption)) (of_decide_eq_true (by first | (with_reducible assumption) | assumption)); have HP53 := Kd.R_putg HO309.out (a3 : Int) (wrap64 ((rd y307 a3) - a4))) | ((with_reducible refine gate_store (t := 2) (p := 84) rfl ?_); refine store_event (t := 2) (p := 84) (v := ?vo_w54) (w1 := (w51.setCell ⟨go35, (a3 : Int).toNat, none⟩ (.int .i64 (wrap64 ((rd y307 a3) - a4))))) ?hg ?ho ?hn ?hr ?_; (case ho => rfl); (case hg => rfl); (case hn => rfl); (case hr => first | (go_simp; done) | (go_simp; rfl)); intro w54 hw; have hg : w51.grownBy w54 (some go35) := (by rw [hw]; exact HP53.2); have hp_ : Kd.R (Kd.int .i64) 2 w54 w.heap.size (fun _ => True) (.slice (some ⟨go35, 0, none⟩) y307.length co52) y311 := (by rw [hw, Ny311.out]; exact HP53.1); clear HP53; have n0_ := Aside0.mk (hp_); have n1_ := Aside0.mk ((by rw [hw]; exact below_set (HB.out) GB35.out : Below w.heap.size w w54)); clear HO309; clear HB; have HO309 := n0_; have HB := n1_; clear n0_ n1_; clear hg hw hp_) | ((with_reducible refine gate_callee (f := 15) rfl ?_); refine goesL_ (some 89) rfl rfl Try.func15 (by kernel_rfl) rfl #[.slice A0 l0.length c0, .slice A1 l1.length c1, .int .i64 a2] rfl (by (try simp only [List.map_toArray, List.map_cons, List.map_nil]); first | done | rfl | (simp only [List.length_drop, List.length_take]; rfl)) ?_; (with_reducible refine (average_Whole.calls kj7 _ _ l0 _ _ l1 a2 t312 t313 t314 _ ?side1 ?side2 ?side3 ?side4 A36.out).mono ?_); (case side1 => repeat (first | exact (Kd.C_below HR0.out HB.out) | (with_reducible refine Kd.C_alloc ?_ _) | (with_reducible refine Kd.C_drewN ?_ _) | (with_reducible refine Kd.C_drew ?_))); (case side2 => exact HC0.out); (case side3 => repeat (first | exact (Kd.C_below HR1.out HB.out) | (with_reducible refine Kd.C_alloc ?_ _) | (with_reducible refine Kd.C_drewN ?_ _) | (with_reducible refine Kd.C_drew ?_))); (case side4 => exact HC1.out); rintro e w55 ⟨v315, v317, rfl, ho0, ho1, hb⟩; refine ⟨_, rfl, ?_⟩; have n0_ := Aside0.mk (Kd.R_mono (Kd.R_told (Kd.R_told (Kd.R_old (by (with_reducible repeat (first | apply Kd.R_alloc | apply Kd.R_drewN | apply Kd.R_drew)); exact HO309.out) hb) (Kd.R_base ho0)) (Kd.R_base ho1)) (fun _ h_ => h_.1)); have n1_ := Aside0.mk (Kd.R_lower (Kd.R_new' ho0 (Kd.R_lt (by (with_reducible repeat (first | apply Kd.R_alloc | apply Kd.R_drewN | apply Kd.R_drew)); exact HO309.out))) (below_size (by repeat (first | (with_reducible first | exact HB.out | apply below_alloc | apply pw_below_drewN | apply below_drew1) | exact HB.out)))); have n2_ := Aside0.mk (Kd.R_lower (Kd.R_new' ho1 (Kd.R_lt (by (with_reducible repeat (first | apply Kd.R_alloc | apply Kd.R_drewN | apply Kd.R_drew)); exact HO309.out))) (below_size (by repeat (first | (with_reducible first | exact HB.out | apply below_alloc | apply pw_below_drewN | apply below_drew1) | exact HB.out)))); have n3_ := Aside0.mk (below_step (by repeat (first | (with_reducible first | exact HB.out | apply below_alloc | apply pw_below_drewN | apply below_drew1) | exact HB.out)) hb); clear HO309; clear HB; have HO309 := n0_; have HO316 := n1_; have HO318 := n2_; have HB := n3_; clear n0_ n1_ n2_ n3_; (try clear hb); (try clear hb2); (try clear hk); (try clear hi); (try clear ho0); (try clear ho1)) | ((with_reducible refine gate_callee (f := 15) rfl ?_); refine goesL_ (some 99) rfl rfl Try.func15 (by kernel_rfl) rfl #[.slice A0 l0.length c0, .slice (some ⟨go35, 0, none⟩) y311.length co52, .int .i64 (wrap64 (a2 + a4))] rfl (by (try simp only [List.map_toArray, List.map_cons, List.map_nil]); first | done | (rw [show y311.length = y307.length from (Kd.R_reads' HO309.out).1.symm] <;> rfl) | rfl | (simp only [List.length_drop, List.length_take]; rfl)) ?_; (with_reducible refine (average_Whole.calls kj7 _ _ l0 _ _ y311 (wrap64 (a2 + a4)) t319 t320 t321 _ ?side1 ?side2 ?side3 ?side4 A37.out).mono ?_); (case side1 => repeat (first | exact (Kd.C_below HR0.out HB.out) | (with_reducible refine Kd.C_alloc ?_ _) | (with_reducible refine Kd.C_drewN ?_ _) | (with_reducible refine Kd.C_drew ?_))); (case side2 => exact HC0.out); (case side3 => repeat (first | exact (Kd.R_reads' HO309.out).2.2 | (with_reducible refine Kd.C_alloc ?_ _) | (with_reducible refine Kd.C_drewN ?_ _) | (with_reducible refine Kd.C_drew ?_))); (case side4 => rw [show y311.length = y307.length from (Kd.R_reads' HO309.out).1.symm]; exact (Kd.R_reads' HO309.out).2.1); rintro e w56 ⟨v322, v324, rfl, ho0, ho1, hb⟩; refine ⟨_, rfl, ?_⟩; have n0_ := Aside0.mk (Kd.R_mono (Kd.R_told (Kd.R_told (Kd.R_old (by (with_reducible repeat (first | apply Kd.R_alloc | apply Kd.R_drewN | apply Kd.R_drew)); exact HO309.out) hb) (Kd.R_base ho0)) (Kd.R_base ho1)) (fun _ h_ => h_.1)); have n1_ := Aside0.mk (Kd.R_mono (Kd.R_told (Kd.R_told (Kd.R_old (by (with_reducible repeat (first | apply Kd.R_alloc | apply Kd.R_drewN | apply Kd.R_drew)); exact HO316.out) hb) (Kd.R_base ho0)) (Kd.R_base ho1)) (fun _ h_ => h_.1)); have n2_ := Aside0.mk (Kd.R_mono (Kd.R_told (Kd.R_told (Kd.R_old (by (with_reducible repeat (first | apply Kd.R_alloc | apply Kd.R_drewN | apply Kd.R_drew)); exact HO318.out) hb) (Kd.R_base ho0)) (Kd.R_base ho1)) (fun _ h_ => h_.1)); have n3_ := Aside0.mk (Kd.R_lower (Kd.R_new' (Kd.R_new' (Kd.R_new' ho0 (Kd.R_lt (by (with_reducible repeat (first | apply Kd.R_alloc | apply Kd.R_drewN | apply Kd.R_drew)); exact HO309.out))) (Kd.R_lt (by (with_reducible repeat (first | apply Kd.R_alloc | apply Kd.R_drewN | apply Kd.R_drew)); exact HO316.out))) (Kd.R_lt (by (with_reducible repeat (first | apply Kd.R_alloc | apply Kd.R_drewN | apply Kd.R_drew)); exact HO318.out))) (below_size (by repeat (first | (with_reducible first | exact HB.out | apply below_alloc | apply pw_below_drewN | apply below_drew1) | exact HB.out)))); have n4_ := Aside0.mk (Kd.R_lower (Kd.R_new' (Kd.R_new' (Kd.R_new' ho1 (Kd.R_lt (by (with_reducible repeat (first | apply Kd.R_alloc | apply Kd.R_drewN | apply Kd.R_drew)); exact HO309.out))) (Kd.R_lt (by (with_reducible repeat (first | apply Kd.R_alloc | apply Kd.R_drewN | apply Kd.R_drew)); exact HO316.out))) (Kd.R_lt (by (with_reducible repeat (first | apply Kd.R_alloc | apply Kd.R_drewN | apply Kd.R_drew)); exact HO318.out))) (below_size (by repeat (first | (with_reducible first | exact HB.out | apply below_alloc | apply pw_below_drewN | apply below_drew1) | exact HB.out)))); have n5_ := Aside0.mk (below_step (by repeat (first | (with_reducible first | exact HB.out | apply below_alloc | apply pw_below_drewN | apply below_drew1) | exact HB.out)) hb); clear HO309; clear HO316; clear HO318; clear HB; have HO309 := n0_; have HO316 := n1_; have HO318 := n2_; have HO323 := n3_; have HO325 := n4_; have HB := n5_; clear n0_ n1_ n2_ n3_ n4_ n5_; (try clear hb); (try clear hb2); (try clear hk); (try clear hi); (try clear ho0); (try clear ho1); obtain ⟨Ao57, co57, eo57⟩ := Kd.R_slice HO316.out; subst eo57; obtain ⟨Ao58, co58, eo58⟩ := Kd.R_slice HO323.out; subst eo58) | (go_at_call 17; (with_reducible refine (supercargoref04_Same.calls kj7 _ _ t312 _ _ t319 t326 _ ?side1 ?side2 ?side3 ?side4 A48.out).mono ?_); (case side1 => repeat (first | exact (Kd.R_reads' HO316.out).2.2 | (with_reducible refine Kd.C_alloc ?_ _) | (with_reducible refine Kd.C_drewN ?_ _) | (with_reducible refine Kd.C_drew ?_))); (case side2 => exact (Kd.R_reads' HO316.out).2.1); (case side3 => repeat (first | exact (Kd.R_reads' HO323.out).2.2 | (with_reducible refine Kd.C_alloc ?_ _) | (with_reducible refine Kd.C_drewN ?_ _) | (with_reducible refine Kd.C_drew ?_))); (case side4 => exact (Kd.R_reads' HO323.out).2.1); rintro e w' ⟨rfl, ⟨nd, rfl⟩⟩))
          go_ret
          exact ⟨by first | rfl | (simp [errW_none, errW_some] <;> rfl) | (simp [*, errW_none, errW_some] <;> rfl), by repeat (first | (with_reducible first | exact HB.out | apply below_alloc | apply pw_below_drewN | apply below_drew1) | exact HB.out)⟩
         ·rw [if_neg c47] at H
          exact absurd H (by simp)
       ·rw [if_neg c34] at H
        exact absurd H (by simp)
      ·rw [if_neg c33] at H
       exact absurd H (by simp)
     ·rw [if_neg c32] at H
      exact absurd H (by simp)
 ·replace c7 := Bool.eq_false_iff.mpr c7
  subst c7
  have H1 : (none) = some r := by rw [if_neg (show ¬ (false = true) by decide)] at H; exact H
  clear H
  have H := H1
  clear H1
  exact absurd H (by simp)

end Go.Proofs.Yteeehijpdkbgkaa.Print
