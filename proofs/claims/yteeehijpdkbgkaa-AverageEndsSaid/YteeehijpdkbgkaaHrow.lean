/-
A row of interests that comes in (a slice of structs of a name and a value), opened for the contracts.
-/
import Derived.Test.YteeehijpdkbgkaaPrint0
import Derived.Deep.SlicePairs
import Derived.WalkKit
import Derived.ProofKit
import Derived.OpenShut
import Derived.ShutString
import Derived.ChangeOld
import Derived.SizedLaws
namespace Go.Proofs.Yteeehijpdkbgkaa.Print
open Go.RowKit Go.Deep Go.ChangeShapes Go.WideShapes Go.ChangeAt Go.Proofs.YteeehijpdkbgkaaW.PrintWords Go.Proofs.YteeehijpdkbgkaaW.PrintLast Go.Proofs.YteeehijpdkbgkaaW.PrintMore

theorem interests_cells : Try.prog.cellsOf 35 = 2 := by kernel_rfl

theorem open_interests {H : Type} {enc : TypeId × Value → H} {W : World} {base : Nat} {sp : Nat → Bool} {held : Bool} {A : Option Addr} {len cap : Nat} {d : DataW H} {p : List MemPlace}
    (h : DataW.Trod enc Try.prog W base sp held 22 (.slice A len cap) d p) :
    ∃ z : List S35, z.length = len ∧ len ≤ cap ∧ Kd.C k35 W A z.length z ∧ len ≤ maxLen ∧ ∀ x ∈ z, x.f0.size ≤ maxLen ∧ (Lit.int .i64 x.f1).wf = true := by
  obtain ⟨fuel, hf⟩ := h
  rcases open_slice_pairs Try.underlying22 Try.underlying35 interests_cells rfl rfl (by kernel_rfl) (by kernel_rfl) hf with ⟨hcs, _⟩ | ⟨a, l, c, m, n, V0, V1, D0, D1, P0, P1, hcs, _, hl, hm, hmm, _, hi⟩
  · simp [Value.cells] at hcs
    obtain ⟨rfl, rfl, rfl⟩ := hcs
    exact ⟨[], rfl, Nat.le_refl _, Kd.C_nil _ _, Nat.zero_le _, by simp⟩
  · simp [Value.cells] at hcs
    obtain ⟨rfl, rfl, rfl⟩ := hcs
    have hlm : len ≤ m := by rw [hmm]; split <;> omega
    have each : ∀ i, i < len → ∃ x : S35, W.cell? (a.add (i * 2)) = some (.string x.f0) ∧ W.cell? (a.add (i * 2 + 1)) = some (.int .i64 x.f1) ∧ x.f0.size ≤ maxLen ∧ (Lit.int .i64 x.f1).wf = true := by
      intro i hlt
      obtain ⟨e0, e1, t0, t1⟩ := hi i (by omega)
      obtain ⟨s, hs, _, hsz⟩ := DataW.trod_string Try.underlying9 t0
      obtain ⟨v, hv, _, hwf⟩ := DataW.trod_int Try.underlying2 t1
      simp at hs hv
      exact ⟨⟨s, v⟩, by rw [e0, hs], by rw [e1, hv], hsz, hwf⟩
    have each' : ∀ i, ∃ x : S35, i < len → W.cell? (a.add (i * 2)) = some (.string x.f0) ∧ W.cell? (a.add (i * 2 + 1)) = some (.int .i64 x.f1) ∧ x.f0.size ≤ maxLen ∧ (Lit.int .i64 x.f1).wf = true := by
      intro i
      by_cases hlt : i < len
      · obtain ⟨x, hx⟩ := each i hlt
        exact ⟨x, fun _ => hx⟩
      · exact ⟨z35, fun h => absurd h hlt⟩
    obtain ⟨f, hf⟩ := Classical.axiomOfChoice each'
    refine ⟨(List.range len).map f, by simp, hl, ⟨rfl, ?_, ?_⟩, by omega, ?_⟩
    · simp only [List.length_map, List.length_range]; unfold maxLen at hm; omega
    · intro _
      refine ⟨a, rfl, fun j q hj => ?_⟩
      simp only [List.getElem?_map] at hj
      by_cases hlt : j < len
      · obtain ⟨e0, e1, _, _⟩ := hf j hlt
        simp [hlt] at hj
        subst hj
        refine ⟨[.string (f j).f0, .int .i64 (f j).f1], rfl, k35_mk _ _, fun i u hu => ?_⟩
        match i, hu with
        | 0, hu => simp at hu; subst hu; exact e0
        | 1, hu => simp at hu; subst hu; exact e1
        | i + 2, hu => simp at hu
      · simp [hlt] at hj
    · intro x hx
      obtain ⟨i, hi', rfl⟩ := List.mem_map.1 hx
      obtain ⟨_, _, h2, h3⟩ := hf i (by simpa using hi')
      exact ⟨h2, h3⟩
theorem open_numbers {H : Type} {enc : TypeId × Value → H} {W : World} {base : Nat} {held : Bool} {A : Option Addr} {len cap : Nat} {d : DataW H} {p : List MemPlace}
    (h : DataW.Trod enc Try.prog W base (fun _ => true) held 23 (.slice A len cap) d p) :
    ∃ z : List Int, z.length = len ∧ len ≤ cap ∧ Kd.C (Kd.int .i64) W A z.length z ∧ len ≤ maxLen ∧ ∀ x ∈ z, (Lit.int .i64 x).wf = true := by
  have hrow : ∃ zs : List Int, (A = none ∧ len = 0 ∧ cap = 0 ∧ zs = []) ∨
      ∃ x, A = some x ∧ len ≤ cap ∧ cap ≤ maxLen ∧ zs.length = cap ∧ (∀ i, i < zs.length → W.cell? (x.add i) = some (.int .i64 (zs.getD i 0))) ∧ ∀ n ∈ zs, (Lit.int .i64 n).wf = true := by
    obtain ⟨fuel, hf⟩ := h
    rcases open_ints Try.underlying23 Try.underlying2 (by kernel_rfl) hf with ⟨hcs, _⟩ | ⟨x, l, c, zs, hcs, _, hl, hm, hz, _, hcell, hwz⟩
    · simp [Value.cells] at hcs
      obtain ⟨rfl, rfl, rfl⟩ := hcs
      exact ⟨[], .inl ⟨rfl, rfl, rfl, rfl⟩⟩
    · simp [Value.cells] at hcs
      obtain ⟨rfl, rfl, rfl⟩ := hcs
      exact ⟨zs, .inr ⟨_, rfl, hl, hm, by simpa using hz, hcell, hwz⟩⟩
  obtain ⟨zs, hz⟩ := hrow
  obtain ⟨l, rfl, hr, hm, hw, hc⟩ := ReadsInt.ofRowC hz
  exact ⟨l, rfl, hc, Kd.C_of_reads (d := (0 : Int)) (h1 := fun _ => rfl) hr, hm, hw⟩
end Go.Proofs.Yteeehijpdkbgkaa.Print
