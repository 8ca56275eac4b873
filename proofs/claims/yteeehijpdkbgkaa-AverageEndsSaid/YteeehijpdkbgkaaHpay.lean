/-
One who gets is paid by those who pay, one behind the other: the walk over the closure of Pays, its four captured variables told by their blocks.
-/
import Derived.Test.YteeehijpdkbgkaaPrint0
import Derived.WalkSpells
import Derived.Deep.RegionLaw
import Derived.Deep.LoopGhost
namespace Go.Proofs.Yteeehijpdkbgkaa.Print
open Go.RowKit Go.Proofs.YteeehijpdkbgkaaW.PrintWords Go.Proofs.YteeehijpdkbgkaaW.PrintLast Go.Proofs.YteeehijpdkbgkaaW.PrintMore
attribute [local go_sem] max2_int min2_int max_two min_two max_three min_three max_four min_four

/-- What one gets is paid: of the payers' debts, from p on. -/
def payF : Nat → List S35 → ByteArray → List Int → Int → List S40 → Int → Option (List Int × Int × List S40)
  | 0, _, _, _, _, _, _ => none
  | k + 1, l, nm, gs, p, os, due =>
    if due > 0 then
      if 0 ≤ p ∧ p < gs.length then
        if rd gs p ≥ 0 then payF k l nm gs (wrap64 (p + 1)) os due
        else if p < l.length ∧ os.length < 1000000000000 then
          payF k l nm (gs.set p.toNat (wrap64 (rd gs p + mn due (wrap64 (- rd gs p))))) p (os ++ [⟨(rd_T35 l p).f0, nm, ⟨#[]⟩, mn due (wrap64 (- rd gs p))⟩]) (wrap64 (due - mn due (wrap64 (- rd gs p))))
        else none
      else none
    else some (gs, p, os)

/-- The captured variables' blocks, and the rows of what all get and of the debts. -/
structure Pst (w W : World) (G Q O L : Nat) (A0 : Option Addr) (n0 c0 : Nat) (vg vo : Value) (gs : List Int) (p : Int) (os : List S40) : Prop where
  hG : W.heap[G]? = some (.cells #[vg] 23 (0, 0))
  hQ : W.heap[Q]? = some (.cells #[.int .i64 p] 3 (0, 0))
  hO : W.heap[O]? = some (.cells #[vo] 26 (0, 0))
  hL : W.heap[L]? = some (.cells #[.slice A0 n0 c0] 22 (0, 0))
  rg : Kd.R (Kd.int .i64) 2 W w.heap.size (fun _ => True) vg gs
  ro : Kd.R k40 40 W w.heap.size (fun _ => True) vo os
  hB : Below w.heap.size w W
  bQ : w.heap.size ≤ Q
  bO : w.heap.size ≤ O

section
variable {w W w1 : World} {G Q O L : Nat} {A0 : Option Addr} {n0 c0 : Nat} {vg vo : Value} {gs : List Int} {p : Int} {os : List S40}

theorem set_blk {W : World} {g t i : Nat} {cs : Array Value} (h : W.heap[g]? = some (.cells cs t (0, 0))) (v : Value) : (W.setCell ⟨g, i, none⟩ v).heap[g]? = some (.cells (cs.setIfInBounds i v) t (0, 0)) := by
  simp [World.setCell, Array.getElem?_modify, h]
theorem keep_blk {W : World} {g g' t t' : Nat} {cs cs' : Array Value} (h : W.heap[g]? = some (.cells cs t (0, 0))) (h' : W.heap[g']? = some (.cells cs' t' (0, 0))) (ht : t ≠ t') (i : Nat) (v : Value) :
    (W.setCell ⟨g', i, none⟩ v).heap[g]? = some (.cells cs t (0, 0)) := (Below.heap_setCell W _ v g (blk_ne h h' ht)).trans h

theorem Pst.drew (h : Pst w W G Q O L A0 n0 c0 vg vo gs p os) : Pst w W.drew G Q O L A0 n0 c0 vg vo gs p os :=
  ⟨h.hG, h.hQ, h.hO, h.hL, Kd.R_drew h.rg, Kd.R_drew h.ro, h.hB.drew, h.bQ, h.bO⟩
theorem Pst.drewN (h : Pst w W G Q O L A0 n0 c0 vg vo gs p os) (m : Nat) : Pst w (W.drewN m) G Q O L A0 n0 c0 vg vo gs p os :=
  ⟨h.hG, h.hQ, h.hO, h.hL, Kd.R_drewN h.rg m, Kd.R_drewN h.ro m, pw_below_drewN h.hB m, h.bQ, h.bO⟩
theorem Pst.below (h : Pst w W G Q O L A0 n0 c0 vg vo gs p os) (hb : Below W.heap.size W w1) : Pst w w1 G Q O L A0 n0 c0 vg vo gs p os :=
  ⟨blk_below h.hG hb, blk_below h.hQ hb, blk_below h.hO hb, blk_below h.hL hb, Kd.R_below h.rg hb, Kd.R_below h.ro hb, below_step h.hB hb, h.bQ, h.bO⟩
theorem Pst.next (h : Pst w W G Q O L A0 n0 c0 vg vo gs p os) (p' : Int) : Pst w (W.setCell ⟨Q, 0, none⟩ (.int .i64 p')) G Q O L A0 n0 c0 vg vo gs p' os :=
  ⟨keep_blk h.hG h.hQ (by decide) _ _, set_blk h.hQ _, keep_blk h.hO h.hQ (by decide) _ _, keep_blk h.hL h.hQ (by decide) _ _,
    Kd.R_set h.rg h.hQ (by decide) 0 _, Kd.R_set h.ro h.hQ (by decide) 0 _, below_set h.hB h.bQ, h.bQ, h.bO⟩
theorem Pst.put {g cap : Nat} (h : Pst w W G Q O L A0 n0 c0 (.slice (some ⟨g, 0, none⟩) gs.length cap) vo gs p os) (hp : 0 < gs.length) (i : Int) (x : Int) :
    Pst w (W.setCell ⟨g, i.toNat, none⟩ (.int .i64 x)) G Q O L A0 n0 c0 (.slice (some ⟨g, 0, none⟩) gs.length cap) vo (gs.set i.toNat x) p os := by
  obtain ⟨g', cap', e, hbg, _, cells, hc⟩ := Kd.R_form h.rg hp
  cases e
  exact ⟨keep_blk h.hG hc (by decide) _ _, keep_blk h.hQ hc (by decide) _ _, keep_blk h.hO hc (by decide) _ _, keep_blk h.hL hc (by decide) _ _,
    (Kd.R_put h.rg i x).1, Kd.R_set h.ro hc (by decide) _ _, below_set h.hB hbg, h.bQ, h.bO⟩
theorem Pst.app (h : Pst w W G Q O L A0 n0 c0 vg vo gs p os) {v1 : Value} {os' : List S40} (ho : Kd.R k40 40 w1 w.heap.size (fun _ => True) v1 os') (hb : Below w.heap.size w w1) (hg : W.grownBy w1 vo.ownBlock) :
    Pst w (w1.setCell ⟨O, 0, none⟩ v1) G Q O L A0 n0 c0 vg v1 gs p os' := by
  have g1 := blk_grown h.hG hg (Kd.R_ne h.ro h.hG (by decide))
  have q1 := blk_grown h.hQ hg (Kd.R_ne h.ro h.hQ (by decide))
  have o1 := blk_grown h.hO hg (Kd.R_ne h.ro h.hO (by decide))
  have l1 := blk_grown h.hL hg (Kd.R_ne h.ro h.hL (by decide))
  have r1 := Kd.R_over' h.rg (Kd.R_typed h.ro) (by decide) hg
  exact ⟨keep_blk g1 o1 (by decide) _ _, keep_blk q1 o1 (by decide) _ _, set_blk o1 _, keep_blk l1 o1 (by decide) _ _,
    Kd.R_set r1 o1 (by decide) 0 _, Kd.R_set ho o1 (by decide) 0 _, below_set hb h.bO, h.bQ, h.bO⟩
end

set_option maxHeartbeats 8000000 in
set_option maxRecDepth 100000 in
theorem pay_calls (k : Nat) (w W : World) (G Q O L : Nat) (A0 : Option Addr) (c0 : Nat) (l0 : List S35) (vg vo : Value) (gs : List Int) (p : Int) (os : List S40) (nm : ByteArray) (due : Int)
    (gs' : List Int) (p' : Int) (os' : List S40) (hr0 : Kd.C k35 w A0 l0.length l0) (hst : Pst w W G Q O L A0 l0.length c0 vg vo gs p os) (h : payF k l0 nm gs p os due = some (gs', p', os')) :
    Calls Try.prog 23 #[.string nm, .int .i64 due, .pointer (some ⟨G, 0, none⟩), .pointer (some ⟨Q, 0, none⟩), .pointer (some ⟨O, 0, none⟩), .pointer (some ⟨L, 0, none⟩)] W fun e W' =>
      e = .returned (.tuple #[]) ∧ ∃ vo', Pst w W' G Q O L A0 l0.length c0 vg vo' gs' p' os' := by
  have hu35 := Try.underlying35
  have hu40 := Try.underlying40
  have HR := Aside0.mk hr0
  have HS := Aside0.mk hst
  have H' := Aside0.mk h
  clear hr0 hst h
  go_enter Try.func23, Try.ntmps23
  go_wp2_with fail
  go_loopg [1] k (fun kq v1 wr => ∃ (gs1 : List Int) (p1 : Int) (os1 : List S40) (vo1 : Value) (due1 : Int), v1 = .int .i64 due1 ∧ Aside0 (payF kq l0 nm gs1 p1 os1 due1 = some (gs', p', os')) ∧ Aside0 (kq ≤ k) ∧ Aside0 (Pst w wr G Q O L A0 l0.length c0 vg vo1 gs1 p1 os1))
  case atStart => exact ⟨gs, p, os, vo, due, rfl, H', ⟨Nat.le_refl _⟩, HS⟩
  case round =>
    clear H' HS
    obtain ⟨gs1, p1, os1, vo1, due1, rfl, HA, HK1, HS⟩ := hrel
    cases gk with
    | zero => exact absurd HA.out (by simp [payF])
    | succ k1 =>
      by_cases hd : due1 > 0
      · have hd0 : decide (0 < due1) = true := decide_eq_true hd
        have HD := Aside0.mk hd
        clear hd
        go_wp2_with fail
        go_loopg [] (k1 + 1) (fun kq wr2 => ∃ (p2 : Int), Aside0 (payF kq l0 nm gs1 p2 os1 due1 = some (gs', p', os')) ∧ Aside0 (kq ≤ k1 + 1) ∧ Aside0 (Pst w wr2 G Q O L A0 l0.length c0 vg vo1 gs1 p2 os1))
        case atStart => exact ⟨p1, HA, ⟨Nat.le_refl _⟩, HS⟩
        case round =>
          clear HA HS
          obtain ⟨p2, HA, HK2, HS⟩ := hrel
          rename World => wr2
          cases gk with
          | zero => exact absurd HA.out (by simp [payF])
          | succ k2 =>
            have H := HA.out
            clear HA
            simp only [payF] at H
            rw [if_pos HD.out] at H
            by_cases hb : 0 ≤ p2 ∧ p2 < gs1.length
            · rw [if_pos hb] at H
              obtain ⟨b0, b1⟩ := hb
              obtain ⟨g, cap, rfl, hbg, hgl, cells, hc⟩ := Kd.R_form HS.out.rg (by omega)
              have hcG := (blk_cell HS.out.hG 0).trans rfl
              have hcQ := (blk_cell HS.out.hQ 0).trans rfl
              have hfQ := blk_frozen HS.out.hQ 0
              obtain ⟨hcg, hfg⟩ := Kd.R_cell (0 : Int) HS.out.rg p2 b0 b1
              replace hcg : wr2.cell? ⟨g, p2.toNat, none⟩ = some (.int .i64 (rd gs1 p2)) := hcg
              clear hc hbg hgl
              have hle := Aside0.mk (Kd.C_max (Kd.R_reads' HS.out.rg).2.2)
              by_cases hge : rd gs1 p2 ≥ 0
              · rw [if_pos hge] at H
                have H' := Aside0.mk H
                clear H
                have hge0 : decide (0 ≤ rd gs1 p2) = true := decide_eq_true hge
                have HS2 := Aside0.mk (HS.out.next (wrap64 (p2 + 1)))
                go_wp2_with fail
                go_roundg k2
                case measure => omega
                case rel => exact ⟨_, H', ⟨by have := HK2.out; omega⟩, HS2⟩
              · rw [if_neg hge] at H
                by_cases hb2 : p2 < l0.length ∧ os1.length < 1000000000000
                · rw [if_pos hb2] at H
                  obtain ⟨b2, b3⟩ := hb2
                  have hge0 : decide (0 ≤ rd gs1 p2) = false := decide_eq_false hge
                  have hcO := (blk_cell HS.out.hO 0).trans rfl
                  have hcL := (blk_cell HS.out.hL 0).trans rfl
                  have hcOa : ∀ o, (wr2.alloc o).cell? ⟨O, 0, none⟩ = some vo1 := fun o => (blk_cell (blk_alloc HS.out.hO o) 0).trans rfl
                  obtain ⟨ad, rfl, hx0, _⟩ := at_T35 HR.out p2 b0 b2
                  replace hx0 := (HS.out.hB.cell (World.block_lt_of_cell? w _ hx0)).trans hx0
                  obtain ⟨s, hs⟩ : ∃ s, s = (rd_T35 l0 p2).f0 := ⟨_, rfl⟩
                  rw [← hs] at hx0 H
                  clear hs
                  have HSD := Aside0.mk HS.out.drew
                  by_cases hmn : wrap64 (-rd gs1 p2) < due1
                  · have hmv : mn due1 (wrap64 (-rd gs1 p2)) = wrap64 (-rd gs1 p2) := by unfold mn; rw [if_pos hmn]
                    rw [hmv] at H
                    have H' := Aside0.mk H
                    clear H hmv
                    have hmn0 := hmn
                    go_wp2_with fail
                    go_region_law (refine Kd.R_append_step k40 (w0 := w) w.heap.size (by rfl) (.tmp 25) (.tmp 34) 26 40 _ 56 rfl Try.underlying26 info40 rfl (by decide) (by decide) vo1 os1 ⟨s, nm, ⟨#[]⟩, wrap64 (-rd gs1 p2)⟩ [.string s, .string nm, .string ⟨#[]⟩, .int .i64 (wrap64 (-rd gs1 p2))] (fun _ => True) (fun _ => False) (by simp [Act.eval]) (by simp [Act.eval]) (k40_mkM _ _ _ _) (fun _ hk => hk.elim) (fun _ _ => trivial) HSD.out.ro HSD.out.hB HSD.out.hB.size (by omega) ?_; intro v1 w1 ho hb hg hat; obtain ⟨A1, n1, cc1, rfl⟩ : ∃ A n c, v1 = Value.slice A n c := (by obtain ⟨A, c, e⟩ := Kd.R_slice ho; exact ⟨A, _, c, e⟩); have HS3 := Aside0.mk (HSD.out.app ho hb hg); have o1 := blk_grown HSD.out.hO hg (Kd.R_ne HSD.out.ro HSD.out.hO (by decide)); have hcO1 : w1.cell? ⟨O, 0, none⟩ = some vo1 := (blk_cell o1 0).trans rfl; have hfO1 := blk_frozen o1 0; clear ho hb hg hat o1)
                    all_goals
                      have hcG3 : World.cell? _ ⟨G, 0, none⟩ = some (.slice (some ⟨g, 0, none⟩) gs1.length cap) := (blk_cell HS3.out.hG 0).trans rfl
                      have hcQ3 : World.cell? _ ⟨Q, 0, none⟩ = some (.int .i64 p2) := (blk_cell HS3.out.hQ 0).trans rfl
                      obtain ⟨hcg3, hfg3⟩ := Kd.R_cell (0 : Int) HS3.out.rg p2 b0 b1
                      replace hcg3 : World.cell? _ ⟨g, p2.toNat, none⟩ = some (.int .i64 (rd gs1 p2)) := hcg3
                      have HS4 := Aside0.mk (HS3.out.put (by omega) p2 (wrap64 (rd gs1 p2 + (wrap64 (-rd gs1 p2)))))
                      clear HS3 HSD
                      go_wp2_with fail
                      go_roundg k2
                      case measure => have := HK2.out; omega
                      case rel => exact ⟨_, _, _, _, _, rfl, H', ⟨by have := HK1.out; have := HK2.out; omega⟩, HS4⟩
                  · have hmv : mn due1 (wrap64 (-rd gs1 p2)) = due1 := by unfold mn; rw [if_neg hmn]
                    rw [hmv, show wrap64 (due1 - due1) = 0 by rw [Int.sub_self]; unfold wrap64; omega] at H
                    have H' := Aside0.mk H
                    clear H hmv
                    have hmn0 := hmn
                    go_wp2_with fail
                    go_region_law (refine Kd.R_append_step k40 (w0 := w) w.heap.size (by rfl) (.tmp 25) (.tmp 34) 26 40 _ 56 rfl Try.underlying26 info40 rfl (by decide) (by decide) vo1 os1 ⟨s, nm, ⟨#[]⟩, due1⟩ [.string s, .string nm, .string ⟨#[]⟩, .int .i64 (due1)] (fun _ => True) (fun _ => False) (by simp [Act.eval]) (by simp [Act.eval]) (k40_mkM _ _ _ _) (fun _ hk => hk.elim) (fun _ _ => trivial) HSD.out.ro HSD.out.hB HSD.out.hB.size (by omega) ?_; intro v1 w1 ho hb hg hat; obtain ⟨A1, n1, cc1, rfl⟩ : ∃ A n c, v1 = Value.slice A n c := (by obtain ⟨A, c, e⟩ := Kd.R_slice ho; exact ⟨A, _, c, e⟩); have HS3 := Aside0.mk (HSD.out.app ho hb hg); have o1 := blk_grown HSD.out.hO hg (Kd.R_ne HSD.out.ro HSD.out.hO (by decide)); have hcO1 : w1.cell? ⟨O, 0, none⟩ = some vo1 := (blk_cell o1 0).trans rfl; have hfO1 := blk_frozen o1 0; clear ho hb hg hat o1)
                    all_goals
                      have hcG3 : World.cell? _ ⟨G, 0, none⟩ = some (.slice (some ⟨g, 0, none⟩) gs1.length cap) := (blk_cell HS3.out.hG 0).trans rfl
                      have hcQ3 : World.cell? _ ⟨Q, 0, none⟩ = some (.int .i64 p2) := (blk_cell HS3.out.hQ 0).trans rfl
                      obtain ⟨hcg3, hfg3⟩ := Kd.R_cell (0 : Int) HS3.out.rg p2 b0 b1
                      replace hcg3 : World.cell? _ ⟨g, p2.toNat, none⟩ = some (.int .i64 (rd gs1 p2)) := hcg3
                      have HS4 := Aside0.mk (HS3.out.put (by omega) p2 (wrap64 (rd gs1 p2 + (due1))))
                      clear HS3 HSD
                      go_wp2_with fail
                      go_roundg k2
                      case measure => have := HK2.out; omega
                      case rel => exact ⟨_, _, _, _, _, rfl, H', ⟨by have := HK1.out; have := HK2.out; omega⟩, HS4⟩
                · rw [if_neg hb2] at H; cases H
            · rw [if_neg hb] at H; cases H
      · have H := HA.out
        simp only [payF] at H
        rw [if_neg hd] at H
        have hd0 : decide (0 < due1) = false := decide_eq_false hd
        have H1 := Option.some.inj H
        simp only [Prod.mk.injEq] at H1
        obtain ⟨rfl, rfl, rfl⟩ := H1
        clear H HA hd
        go_wp2_with fail
        exact ⟨rfl, .tuple #[], by first | rfl | (simp [results]; done) | (unfold results; simp [Try.f23]; done) | (simp [results, Try.f23]; rfl), rfl, vo1, HS.out⟩

end Go.Proofs.Yteeehijpdkbgkaa.Print
