/-
A row of policies that comes in, opened for the contracts.
-/
import Derived.Test.YtjkipjfcfcpcmaaPrint0
import Derived.Deep.SlicePairs
import Derived.WalkKit
import Derived.ProofKit
import Derived.OpenShut
import Derived.ShutString
import Derived.ChangeOld
import Derived.SizedLaws
namespace Go.Proofs.Ytjkipjfcfcpcmaa.Print
open Go.RowKit Go.Deep Go.ChangeShapes Go.WideShapes Go.ChangeAt Go.Proofs.YtjkipjfcfcpcmaaW.PrintWords Go.Proofs.YtjkipjfcfcpcmaaW.PrintLast Go.Proofs.YtjkipjfcfcpcmaaW.PrintMore

theorem policy_cells : Try.prog.cellsOf 33 = 9 := by kernel_rfl

theorem open_numbersF {H : Type} {enc : TypeId × Value → H} {W : World} {base : Nat} {sp : Nat → Bool} {held : Bool} {A : Option Addr} {len cap : Nat} {d : DataW H × List MemPlace} {fuel : Nat}
    (hf : DataW.trod enc Try.prog W base sp held fuel 31 [.slice A len cap] = some d) :
    ∃ z : List Int, z.length = len ∧ len ≤ cap ∧ Kd.C (Kd.int .i64) W A z.length z ∧ len ≤ maxLen ∧ ∀ x ∈ z, (Lit.int .i64 x).wf = true := by
  rcases open_ints Try.underlying31 Try.underlying3 (by kernel_rfl) hf with ⟨hcs, _⟩ | ⟨x, l, c, zs, hcs, _, hl, hm, hz, _, hcell, hwz⟩
  · simp at hcs
    obtain ⟨rfl, rfl, rfl⟩ := hcs
    exact ⟨[], rfl, Nat.le_refl _, Kd.C_nil _ _, Nat.zero_le _, by simp⟩
  · simp at hcs
    obtain ⟨rfl, rfl, rfl⟩ := hcs
    have hlz : len ≤ zs.length := by rw [hz]; split <;> omega
    refine ⟨zs.take len, by simp [hlz], hl, ?_, by omega, fun x hx => hwz x (List.mem_of_mem_take hx)⟩
    refine ⟨rfl, by simp only [List.length_take]; unfold maxLen at hm; omega, fun _ => ⟨x, rfl, fun j q hj => ?_⟩⟩
    have hj1 : j < len := Classical.byContradiction fun hn => by simp [List.getElem?_take, hn] at hj
    have hjz : zs[j]? = some q := by simpa [List.getElem?_take, hj1] using hj
    have := hcell j (by omega)
    rw [List.getD_eq_getElem?_getD, hjz] at this
    refine ⟨[.int .i64 q], rfl, rfl, fun i u hu => ?_⟩
    match i, hu with
    | 0, hu => simp at hu; subst hu; show W.cell? (x.add (j * 1 + 0)) = _; simpa using this
    | i + 1, hu => simp at hu

/-- What a policy that came in holds. -/
structure PolIn (x : S33) : Prop where
  s0 : x.f0.size ≤ maxLen
  s1 : x.f1.size ≤ maxLen
  s2 : x.f2.size ≤ maxLen
  w3 : (Lit.int .i64 x.f3).wf = true
  w4 : (Lit.int .i64 x.f4).wf = true
  l5 : x.f5.length ≤ maxLen
  w5 : ∀ y ∈ x.f5, (Lit.int .i64 y).wf = true
  w6 : (Lit.int .i64 x.f6).wf = true
  w7 : (Lit.int .i64 x.f7).wf = true
  w8 : (Lit.int .i64 x.f8).wf = true

set_option maxRecDepth 100000 in
theorem open_policy_cells {H : Type} {enc : TypeId × Value → H} {W : World} {base : Nat} {sp : Nat → Bool} {held : Bool} {fuel : Nat} {cs : List Value} {d : DataW H × List MemPlace}
    (h : DataW.trod enc Try.prog W base sp held fuel 33 cs = some d) : ∃ x : S33, k33.K W x cs ∧ PolIn x := by
  obtain ⟨xs, n, _, _, hlen, hxl, hf⟩ := DataW.trod_struct Try.underlying33 h
  rw [policy_cells] at hlen
  match xs, hxl, cs, hlen with
  | [y0, y1, y2, y3, y4, y5, y6, y7, y8], _, [v0, v1, v2, v3, v4, v5, v6, v7, v8], _ =>
    have g0 : DataW.trod enc Try.prog W base sp held n 9 [v0] = some y0 := hf 0 _ rfl
    have g1 : DataW.trod enc Try.prog W base sp held n 9 [v1] = some y1 := hf 1 _ rfl
    have g2 : DataW.trod enc Try.prog W base sp held n 9 [v2] = some y2 := hf 2 _ rfl
    have g3 : DataW.trod enc Try.prog W base sp held n 2 [v3] = some y3 := hf 3 _ rfl
    have g4 : DataW.trod enc Try.prog W base sp held n 2 [v4] = some y4 := hf 4 _ rfl
    have g5 : DataW.trod enc Try.prog W base sp held n 31 [v5] = some y5 := hf 5 _ rfl
    have g6 : DataW.trod enc Try.prog W base sp held n 3 [v6] = some y6 := hf 6 _ rfl
    have g7 : DataW.trod enc Try.prog W base sp held n 3 [v7] = some y7 := hf 7 _ rfl
    have g8 : DataW.trod enc Try.prog W base sp held n 3 [v8] = some y8 := hf 8 _ rfl
    obtain ⟨a0, e0, _, z0⟩ := DataW.trod_string Try.underlying9 g0
    obtain ⟨a1, e1, _, z1⟩ := DataW.trod_string Try.underlying9 g1
    obtain ⟨a2, e2, _, z2⟩ := DataW.trod_string Try.underlying9 g2
    obtain ⟨a3, e3, _, z3⟩ := DataW.trod_int Try.underlying2 g3
    obtain ⟨a4, e4, _, z4⟩ := DataW.trod_int Try.underlying2 g4
    obtain ⟨a6, e6, _, z6⟩ := DataW.trod_int Try.underlying3 g6
    obtain ⟨a7, e7, _, z7⟩ := DataW.trod_int Try.underlying3 g7
    obtain ⟨a8, e8, _, z8⟩ := DataW.trod_int Try.underlying3 g8
    simp at e0 e1 e2 e3 e4 e6 e7 e8
    subst e0 e1 e2 e3 e4 e6 e7 e8
    have hv5 : ∃ A len cap, v5 = .slice A len cap := by
      rcases open_slice Try.underlying31 g5 with ⟨hcs, _⟩ | ⟨a, len, cap, m, n', D, Pl, hcs, _⟩
      · simp at hcs; exact ⟨_, _, _, hcs⟩
      · simp at hcs; exact ⟨_, _, _, hcs⟩
    obtain ⟨A5, len5, c5, rfl⟩ := hv5
    obtain ⟨z, rfl, l5, g, m5, w5⟩ := open_numbersF g5
    exact ⟨⟨a0, a1, a2, a3, a4, z, a6, a7, a8⟩, k33_mk W ⟨a0, a1, a2, a3, a4, z, a6, a7, a8⟩ l5 g, z0, z1, z2, z3, z4, m5, w5, z6, z7, z8⟩

set_option maxRecDepth 100000 in
theorem open_policies {H : Type} {enc : TypeId × Value → H} {W : World} {base : Nat} {sp : Nat → Bool} {held : Bool} {A : Option Addr} {len cap : Nat} {d : DataW H} {p : List MemPlace}
    (h : DataW.Trod enc Try.prog W base sp held 23 (.slice A len cap) d p) :
    ∃ z : List S33, z.length = len ∧ len ≤ cap ∧ Kd.C k33 W A z.length z ∧ len ≤ maxLen ∧ ∀ x ∈ z, PolIn x := by
  obtain ⟨fuel, hf⟩ := h
  rcases open_slice Try.underlying23 hf with ⟨hcs, _⟩ | ⟨a, l, c, m, n, D, Pl, hcs, hb, hl, hm, hmm, _, hi⟩
  · simp [Value.cells] at hcs
    obtain ⟨rfl, rfl, rfl⟩ := hcs
    exact ⟨[], rfl, Nat.le_refl _, Kd.C_nil _ _, Nat.zero_le _, by simp⟩
  · simp [Value.cells] at hcs
    obtain ⟨rfl, rfl, rfl⟩ := hcs
    have hlm : len ≤ m := by rw [hmm]; split <;> omega
    rw [policy_cells] at hi
    have each : ∀ i, ∃ x : S33, i < len → PolIn x ∧ ∃ cs', k33.K W x cs' ∧ cs'.length = 9 ∧ ∀ j u, cs'[j]? = some u → W.cell? (a.add (i * 9 + j)) = some u := by
      intro i
      by_cases hlt : i < len
      · obtain ⟨cs', h1, h2⟩ := hi i (by omega)
        obtain ⟨_, hlen, hcell⟩ := World.cells?_some h1
        obtain ⟨x, hx, hp⟩ := open_policy_cells h2
        refine ⟨x, fun _ => ⟨hp, cs', hx, hlen, fun j u hu => ?_⟩⟩
        have hj : j < 9 := by have := (List.getElem?_eq_some_iff.1 hu).1; omega
        have := hcell j hj
        rw [Go.Deep.add_add] at this
        rw [this, hu]
      · exact ⟨z33, fun h => absurd h hlt⟩
    obtain ⟨f, hf⟩ := Classical.axiomOfChoice each
    refine ⟨(List.range len).map f, by simp, hl, ⟨rfl, ?_, ?_⟩, by omega, ?_⟩
    · simp only [List.length_map, List.length_range]; unfold maxLen at hm; omega
    · intro _
      refine ⟨a, rfl, fun j q hj => ?_⟩
      simp only [List.getElem?_map] at hj
      by_cases hlt : j < len
      · obtain ⟨_, cs', hk, hl9, hc⟩ := hf j hlt
        simp [hlt] at hj
        subst hj
        exact ⟨cs', hl9, hk, hc⟩
      · simp [hlt] at hj
    · intro x hx
      obtain ⟨i, hi', rfl⟩ := List.mem_map.1 hx
      exact (hf i (by simpa using hi')).1
end Go.Proofs.Ytjkipjfcfcpcmaa.Print
