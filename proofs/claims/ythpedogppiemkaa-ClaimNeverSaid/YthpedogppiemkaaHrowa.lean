/-
A row of acts that comes in, opened for the contracts.
-/
import Derived.Test.YthpedogppiemkaaHrowp
namespace Go.Proofs.Ythpedogppiemkaa.Print
open Go.RowKit Go.Deep Go.ChangeShapes Go.WideShapes Go.ChangeAt Go.Proofs.YthpedogppiemkaaW.PrintWords Go.Proofs.YthpedogppiemkaaW.PrintLast Go.Proofs.YthpedogppiemkaaW.PrintMore

theorem act_cells : Try.prog.cellsOf 41 = 11 := by kernel_rfl
/-- What an act that came in holds. -/
structure ActIn (x : S41) : Prop where
  s0 : x.f0.size ≤ maxLen
  p1 : PolIn x.f1
  w2 : (Lit.int .i64 x.f2).wf = true

set_option maxRecDepth 100000 in
theorem open_act_cells {H : Type} {enc : TypeId × Value → H} {W : World} {base : Nat} {sp : Nat → Bool} {held : Bool} {fuel : Nat} {cs : List Value} {d : DataW H × List MemPlace}
    (h : DataW.trod enc Try.prog W base sp held fuel 41 cs = some d) : ∃ x : S41, k41.K W x cs ∧ ActIn x := by
  obtain ⟨xs, n, _, _, hlen, hxl, hf⟩ := DataW.trod_struct Try.underlying41 h
  rw [act_cells] at hlen
  match xs, hxl, cs, hlen with
  | [y0, y1, y2], _, [v0, v1, v2, v3, v4, v5, v6, v7, v8, v9, v10], _ =>
    have g0 : DataW.trod enc Try.prog W base sp held n 9 [v0] = some y0 := hf 0 _ rfl
    have g1 : DataW.trod enc Try.prog W base sp held n 32 [v1, v2, v3, v4, v5, v6, v7, v8, v9] = some y1 := hf 1 _ rfl
    have g2 : DataW.trod enc Try.prog W base sp held n 2 [v10] = some y2 := hf 2 _ rfl
    obtain ⟨a0, e0, _, z0⟩ := DataW.trod_string Try.underlying9 g0
    obtain ⟨a2, e2, _, z2⟩ := DataW.trod_int Try.underlying2 g2
    obtain ⟨x, hx, hp⟩ := open_policy_cells g1
    simp at e0 e2
    subst e0 e2
    exact ⟨⟨a0, x, a2⟩, ⟨[.string a0], [v1, v2, v3, v4, v5, v6, v7, v8, v9, .int .i64 a2], rfl, rfl, ⟨[v1, v2, v3, v4, v5, v6, v7, v8, v9], [.int .i64 a2], rfl, hx, rfl⟩⟩, z0, hp, z2⟩

set_option maxRecDepth 100000 in
theorem open_acts {H : Type} {enc : TypeId × Value → H} {W : World} {base : Nat} {sp : Nat → Bool} {held : Bool} {A : Option Addr} {len cap : Nat} {d : DataW H} {p : List MemPlace}
    (h : DataW.Trod enc Try.prog W base sp held 34 (.slice A len cap) d p) :
    ∃ z : List S41, z.length = len ∧ len ≤ cap ∧ Kd.C k41 W A z.length z ∧ len ≤ maxLen ∧ ∀ x ∈ z, ActIn x := by
  obtain ⟨fuel, hf⟩ := h
  rcases open_slice Try.underlying34 hf with ⟨hcs, _⟩ | ⟨a, l, c, m, n, D, Pl, hcs, hb, hl, hm, hmm, _, hi⟩
  · simp [Value.cells] at hcs
    obtain ⟨rfl, rfl, rfl⟩ := hcs
    exact ⟨[], rfl, Nat.le_refl _, Kd.C_nil _ _, Nat.zero_le _, by simp⟩
  · simp [Value.cells] at hcs
    obtain ⟨rfl, rfl, rfl⟩ := hcs
    have hlm : len ≤ m := by rw [hmm]; split <;> omega
    rw [act_cells] at hi
    have each : ∀ i, ∃ x : S41, i < len → ActIn x ∧ ∃ cs', k41.K W x cs' ∧ cs'.length = 11 ∧ ∀ j u, cs'[j]? = some u → W.cell? (a.add (i * 11 + j)) = some u := by
      intro i
      by_cases hlt : i < len
      · obtain ⟨cs', h1, h2⟩ := hi i (by omega)
        obtain ⟨_, hlen, hcell⟩ := World.cells?_some h1
        obtain ⟨x, hx, hp⟩ := open_act_cells h2
        refine ⟨x, fun _ => ⟨hp, cs', hx, hlen, fun j u hu => ?_⟩⟩
        have hj : j < 11 := by have := (List.getElem?_eq_some_iff.1 hu).1; omega
        have := hcell j hj
        rw [Go.Deep.add_add] at this
        rw [this, hu]
      · exact ⟨z41, fun h => absurd h hlt⟩
    obtain ⟨f, hf⟩ := Classical.axiomOfChoice each
    refine ⟨(List.range len).map f, by simp, hl, ⟨rfl, ?_, ?_⟩, by omega, ?_⟩
    · simp only [List.length_map, List.length_range]; unfold maxLen at hm; omega
    · intro _
      refine ⟨a, rfl, fun j q hj => ?_⟩
      simp only [List.getElem?_map] at hj
      by_cases hlt : j < len
      · obtain ⟨_, cs', hk, hl9, hc⟩ := hf j hlt
        simp [hlt] at hj
        subst hj
        exact ⟨cs', hl9, hk, hc⟩
      · simp [hlt] at hj
    · intro x hx
      obtain ⟨i, hi', rfl⟩ := List.mem_map.1 hx
      exact (hf i (by simpa using hi')).1
end Go.Proofs.Ythpedogppiemkaa.Print
