/- Who has the greater weight has no smaller part; of alike weights the parts are at most one apart, and who stands first has the greater one. Conditions: those of the given statement. -/
import Derived.Test.YthbbfbhgcoffeaaPrint9
import Derived.Test.YthbbfbhgcoffeaaMparts
namespace Go.Proofs.Ythbbfbhgcoffeaa.Pure
open Go.RowKit Go.Proofs.Ythbbfbhgcoffeaa.Print Go.Proofs.YthbbfbhgcoffeaaW.PrintWords Go.Proofs.YthbbfbhgcoffeaaW.PrintLast

theorem grows_l1 (l ps : List Int) (hp : ps.length = l.length) (hn : l.length ≤ 4096) (hb : ∀ x ∈ ps, 0 ≤ x ∧ x ≤ 1099511627777) (hF : ∀ i k, i < l.length → k < i → FairAt l ps i k) (i : Nat) (hi : i < l.length)
    (hnext : Ev (fun k => supercargolaw04_ShareGrows.l0 k l ps (ps.length : Int) ((i : Int) + 1)) true) :
    ∀ (d j : Nat), j + d = i → Ev (fun k => supercargolaw04_ShareGrows.l1 k l ps (i : Int) (ps.length : Int) (i : Int) (i : Int) (j : Int)) true
  | 0, j, h => by
    refine Ev.step (fun k => by rw [supercargolaw04_ShareGrows.l1]) ?_
    refine Ev.neg (by omega) ?_
    rw [w64 _ (by omega) (by omega)]
    exact hnext
  | d + 1, j, h => by
    have ih := grows_l1 l ps hp hn hb hF i hi hnext d (j + 1) (by omega)
    obtain ⟨f1, f2, f3⟩ := hF i j hi (by omega)
    have bi := hb _ (getD_mem ps i (by omega))
    have bj := hb _ (getD_mem ps j (by omega))
    -- behind the first two tests
    have third : Ev (fun k => supercargolaw04_ShareGrows.j3 k l ps (i : Int) (j : Int) (ps.length : Int) (i : Int) (i : Int) (j : Int) false) true := by
      refine Ev.step (fun k => by rw [supercargolaw04_ShareGrows.j3]) ?_
      refine Ev.neg (by simp) (Ev.pos (by omega) (Ev.pos (by omega) (Ev.pos (by omega) (Ev.pos (by omega) ?_))))
      rw [rd_get, rd_get, rd_get, rd_get, w64 ((j : Int) + 1) (by omega) (by omega)]
      refine Ev.both (fun e => ?_) (fun _ => ih)
      have f3 := f3 e
      refine Ev.pos (by omega) (Ev.pos (by omega) (Ev.neg (by omega) ?_))
      rw [w64 _ (by omega) (by omega)]
      exact Ev.neg (by omega) ih
    refine Ev.step (fun k => by rw [supercargolaw04_ShareGrows.l1]) ?_
    refine Ev.pos (by omega) (Ev.pos (by omega) (Ev.pos (by omega) (Ev.pos (by omega) (Ev.pos (by omega) ?_))))
    rw [rd_get, rd_get, rd_get, rd_get]
    refine Ev.both (fun e => ?_) (fun e => ?_)
    · have f1 := f1 e
      refine Ev.pos (by omega) (Ev.pos (by omega) (Ev.neg (by omega) (Ev.neg (by omega) third)))
    · refine Ev.both (fun e2 => ?_) (fun _ => third)
      have f2 := f2 e2
      refine Ev.pos (by omega) (Ev.pos (by omega) ?_)
      rw [decide_eq_false (by omega)]
      exact third

theorem grows_l0 (l ps : List Int) (hp : ps.length = l.length) (hn : l.length ≤ 4096) (hb : ∀ x ∈ ps, 0 ≤ x ∧ x ≤ 1099511627777) (hF : ∀ i k, i < l.length → k < i → FairAt l ps i k) :
    ∀ (d i : Nat), i + d = l.length → Ev (fun k => supercargolaw04_ShareGrows.l0 k l ps (ps.length : Int) (i : Int)) true
  | 0, i, h => by
    refine Ev.step (fun k => by rw [supercargolaw04_ShareGrows.l0]) ?_
    exact Ev.neg (by omega) (Ev.now _)
  | d + 1, i, h => by
    refine Ev.step (fun k => by rw [supercargolaw04_ShareGrows.l0]) ?_
    refine Ev.pos (by omega) ?_
    exact grows_l1 l ps hp hn hb hF i (by omega) (grows_l0 l ps hp hn hb hF d (i + 1) (by omega)) i 0 (by omega)

theorem ShareGrows : supercargolaw04_ShareGrows.Pure := by
  intro t l wt hm hb wl
  refine Ev.le (r := true) ?_
  unfold supercargolaw04_ShareGrows.f
  refine Ev.bind awake04_ev (Ev.pos rfl ?_)
  refine Ev.step (fun k => by rw [supercargolaw04_ShareGrows.j0]) ?_
  refine Ev.both (fun e => Ev.bind awake04_ev (Ev.now _)) (fun e => ?_)
  have hn : l.length ≤ 40 := by simp at e; omega
  refine Ev.call (split_f t l (by omega)) ?_
  by_cases he : splitErr t l = 0
  · rw [if_pos he]
    refine Ev.pos rfl (Ev.pos (by rw [partsOf_length]) ?_)
    obtain ⟨t0, t1, n0, n1, hl, hs⟩ := splitErr_facts t l he
    have hz : l.sum = 0 → t = 0 := fun h => by
      rcases Int.lt_or_le 0 t with h' | h'
      · have := hs h'; omega
      · omega
    exact grows_l0 l (partsOf t l) (partsOf_length t l) n1 (parts_bd t l t0 t1 hl hz) (fun i k hi hk => parts_fair t l t0 hl hz i k hi hk) l.length 0 (by omega)
  · rw [if_neg he]
    refine Ev.neg he ?_
    exact Ev.now _
end Go.Proofs.Ythbbfbhgcoffeaa.Pure
