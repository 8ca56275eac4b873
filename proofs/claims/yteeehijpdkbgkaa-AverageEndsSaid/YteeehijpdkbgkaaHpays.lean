/-
Who pays whom: the walk over Pays, by its closure's contract.
-/
import Derived.Test.YteeehijpdkbgkaaPrint12
import Derived.Test.YteeehijpdkbgkaaHpay
import Derived.StillTailTactics
namespace Go.Proofs.Yteeehijpdkbgkaa.Print
open Go.RowKit Go.Proofs.YteeehijpdkbgkaaW.PrintWords Go.Proofs.YteeehijpdkbgkaaW.PrintLast Go.Proofs.YteeehijpdkbgkaaW.PrintMore
attribute [local go_sem] max2_int min2_int max_two min_two max_three min_three max_four min_four

def paysL : Nat → List S35 → List Int → Int → List S40 → Int → Option (List S40 × Int)
  | 0, _, _, _, _, _ => none
  | k + 1, l, gs, p, os, i =>
    if i < l.length then
      if 0 ≤ i ∧ i < gs.length then
        (payF k l (rd_T35 l i).f0 gs p os (mx (rd gs i) 0)).bind fun s => paysL k l s.1 s.2.1 s.2.2 (wrap64 (i + 1))
      else none
    else some (os, 0)
def paysF (k : Nat) (l0 : List S35) (l1 : List Int) (a2 : Int) : Option (List S40 × Int) :=
  (average_Whole.f k l0 l1 a2).bind fun t => if t.2.2 = 0 then (payF k l0 ⟨#[]⟩ t.2.1 0 [] a2).bind fun s => paysL k l0 s.1 s.2.1 s.2.2 0 else some ([], t.2.2)

theorem payF_mono : ∀ (k : Nat) (l : List S35) (nm : ByteArray) (gs : List Int) (p : Int) (os : List S40) (due : Int), LeO (payF k l nm gs p os due) (payF (k + 1) l nm gs p os due)
  | 0, _, _, _, _, _, _ => by rw [payF]; exact LeO.none _
  | k + 1, l, nm, gs, p, os, due => by
    rw [payF, payF]
    repeat' first
      | exact payF_mono k _ _ _ _ _ _
      | exact LeO.none _
      | exact LeO.refl _
      | refine LeO.ite ?_ ?_
theorem paysL_mono : ∀ (k : Nat) (l : List S35) (gs : List Int) (p : Int) (os : List S40) (i : Int), LeO (paysL k l gs p os i) (paysL (k + 1) l gs p os i)
  | 0, _, _, _, _, _ => by rw [paysL]; exact LeO.none _
  | k + 1, l, gs, p, os, i => by
    rw [paysL, paysL]
    repeat' first
      | exact paysL_mono k _ _ _ _ _
      | exact payF_mono k _ _ _ _ _ _
      | exact LeO.none _
      | exact LeO.refl _
      | refine LeO.ite ?_ ?_
      | refine LeO.bind ?_ (fun _ => ?_)
theorem paysF_mono (l0 : List S35) (l1 : List Int) (a2 : Int) (k : Nat) : LeO (paysF k l0 l1 a2) (paysF (k + 1) l0 l1 a2) := by
  unfold paysF
  repeat' first
    | exact average_Whole.mono _ _ _ _
    | exact paysL_mono k _ _ _ _ _
    | exact payF_mono k _ _ _ _ _ _
    | exact LeO.none _
    | exact LeO.refl _
    | refine LeO.ite ?_ ?_
    | refine LeO.bind ?_ (fun _ => ?_)

theorem Pst.start {w w1 w3 w4 w5 : World} {G Q O L : Nat} {A0 : Option Addr} {n0 c0 : Nat} {v1 : Value} {gs : List Int}
    (hL : w1.heap[L]? = some (.cells #[.slice A0 n0 c0] 22 (0, 0))) (hg : Kd.R (Kd.int .i64) 2 w1 w.heap.size (fun _ => True) v1 gs) (hB : Below w.heap.size w w1)
    (hG3 : w3.heap[G]? = some (.cells #[.slice none 0 0] 23 (0, 0))) (b3 : Below w1.heap.size w1 w3) (gG : w.heap.size ≤ G)
    (hO4 : w4.heap[O]? = some (.cells #[.slice none 0 0] 26 (0, 0))) (b4 : Below (w3.setCell ⟨G, 0, none⟩ v1).heap.size (w3.setCell ⟨G, 0, none⟩ v1) w4) (gO : w.heap.size ≤ O)
    (hQ5 : w5.heap[Q]? = some (.cells #[.int .i64 0] 3 (0, 0))) (b5 : Below w4.heap.size w4 w5) (gQ : w.heap.size ≤ Q) :
    Pst w (w5.setCell ⟨Q, 0, none⟩ (.int .i64 0)) G Q O L A0 n0 c0 v1 (.slice none 0 0) gs 0 [] := by
  have l3 := blk_below hL b3
  have r3 := Kd.R_below hg b3
  have B3 := below_step hB b3
  have l3' := keep_blk l3 hG3 (by decide) 0 v1
  have g3' : (w3.setCell ⟨G, 0, none⟩ v1).heap[G]? = some (.cells #[v1] 23 (0, 0)) := set_blk hG3 v1
  have r3' := Kd.R_set r3 hG3 (by decide) 0 v1
  have B3' := below_set (j := 0) (v := v1) B3 gG
  have l4 := blk_below l3' b4
  have g4 := blk_below g3' b4
  have r4 := Kd.R_below r3' b4
  have B4 := below_step B3' b4
  have l5 := blk_below l4 b5
  have g5 := blk_below g4 b5
  have o5 := blk_below hO4 b5
  have r5 := Kd.R_below r4 b5
  have B5 := below_step B4 b5
  exact ⟨keep_blk g5 hQ5 (by decide) _ _, set_blk hQ5 _, keep_blk o5 hQ5 (by decide) _ _, keep_blk l5 hQ5 (by decide) _ _,
    Kd.R_set r5 hQ5 (by decide) 0 _, Kd.R_nil _ _ _ _ _, below_set B5 gQ, gQ, gO⟩
theorem Pst.far {w W : World} {G Q O L : Nat} {A0 : Option Addr} {n0 c0 : Nat} {vg vo : Value} {gs : List Int} {p : Int} {os : List S40} (h : Pst w W G Q O L A0 n0 c0 vg vo gs p os)
    {g : Nat} {cs : Array Value} (hb : W.heap[g]? = some (.cells cs 35 (0, 0))) (hg : w.heap.size ≤ g) (i : Nat) (v : Value) : Pst w (W.setCell ⟨g, i, none⟩ v) G Q O L A0 n0 c0 vg vo gs p os :=
  ⟨keep_blk h.hG hb (by decide) _ _, keep_blk h.hQ hb (by decide) _ _, keep_blk h.hO hb (by decide) _ _, keep_blk h.hL hb (by decide) _ _,
    Kd.R_set h.rg hb (by decide) i _, Kd.R_set h.ro hb (by decide) i _, below_set h.hB hg, h.bQ, h.bO⟩

set_option maxHeartbeats 8000000 in
set_option maxRecDepth 100000 in
theorem pays_calls (k : Nat) (A0 : Option Addr) (c0 : Nat) (l0 : List S35) (A1 : Option Addr) (c1 : Nat) (l1 : List Int) (a2 : Int) (r1 : List S40) (r2 : Int) (w : World)
    (hr0 : Kd.C k35 w A0 l0.length l0) (hc0 : l0.length ≤ c0) (hr1 : Kd.C (Kd.int .i64) w A1 l1.length l1) (hc1 : l1.length ≤ c1) (h : paysF k l0 l1 a2 = some (r1, r2)) :
    Calls Try.prog 12 #[.slice A0 l0.length c0, .slice A1 l1.length c1, .int .i64 a2] w fun e w' => ∃ v0_ : Value, e = .returned (.tuple #[v0_, .int .i64 r2]) ∧ Kd.R k40 40 w' w.heap.size (fun _ => True) v0_ r1 ∧ Below w.heap.size w w' := by
  unfold paysF at h
  obtain ⟨⟨ps, gs, er⟩, hW, H⟩ := Option.bind_eq_some_iff.1 h
  clear h
  have HR0 := Aside0.mk hr0
  have HR1 := Aside0.mk hr1
  have HC0 := Aside0.mk hc0
  have HC1 := Aside0.mk hc1
  have HW := Aside0.mk hW
  clear hr0 hr1 hc0 hc1 hW
  go_enter Try.func12, Try.ntmps12
  go_wp2_with fail
  refine (average_Whole.calls k A0 c0 l0 A1 c1 l1 a2 ps gs er _ (Kd.C_alloc HR0.out _) HC0.out (Kd.C_alloc HR1.out _) HC1.out HW.out).mono ?_
  rintro e w1 ⟨v0, v1, rfl, _, hgs, hb⟩
  obtain ⟨Ag, ng, cg, rfl⟩ : ∃ A n c, v1 = Value.slice A n c := by obtain ⟨A, c, e⟩ := Kd.R_slice hgs; exact ⟨A, _, c, e⟩
  have HL := Aside0.mk (blk_below (blk_new w (.cells #[.slice A0 l0.length c0] 22 (0, 0))) hb)
  have HB := Aside0.mk (below_step (below_alloc (Below.refl _ _) _) hb)
  have HG := Aside0.mk (Kd.R_mono (Kd.R_lower hgs (show w.heap.size ≤ _ from (below_alloc (Below.refl w.heap.size w) _).size)) (fun _ _ => trivial))
  clear hgs hb HW
  by_cases he : er = 0
  · subst he
    rw [if_pos rfl] at H
    obtain ⟨⟨gs2, p2, os2⟩, hp1, hp2⟩ := Option.bind_eq_some_iff.1 H
    have HP1 := Aside0.mk hp1
    have HP2 := Aside0.mk hp2
    clear H hp1 hp2
    go_wp2_with (first | ((with_reducible refine gate_dst (N := 9) rfl ?_); refine box_event ?hg (N := 9) ?hd (cs := #[.slice none 0 0]) (t := 23) ?hr ?_; (case hd => rfl); (case hg => rfl); (case hr => first | (go_simp; done) | (go_simp; rfl)); intro G hG w3 hbG hb3; have hcG : w3.cell? ⟨G, 0, none⟩ = some (.slice none 0 0) := (blk_cell hbG 0).trans rfl; have hfG := blk_frozen hbG 0; have HGG := Aside0.mk hG; have HBG := Aside0.mk hbG; have HB3 := Aside0.mk hb3; clear hG hbG hb3) | ((with_reducible refine gate_dst (N := 11) rfl ?_); refine box_event ?hg (N := 11) ?hd (cs := #[.slice none 0 0]) (t := 26) ?hr ?_; (case hd => rfl); (case hg => rfl); (case hr => first | (go_simp; done) | (go_simp; rfl)); intro O hO w4 hbO hb4; have HGO := Aside0.mk hO; have HBO := Aside0.mk hbO; have HB4 := Aside0.mk hb4; clear hO hbO hb4) | ((with_reducible refine gate_dst (N := 12) rfl ?_); refine box_event ?hg (N := 12) ?hd (cs := #[.int .i64 0]) (t := 3) ?hr ?_; (case hd => rfl); (case hg => rfl); (case hr => first | (go_simp; done) | (go_simp; rfl)); intro Q hQ w5 hbQ hb5; have hcQ : w5.cell? ⟨Q, 0, none⟩ = some (.int .i64 0) := (blk_cell hbQ 0).trans rfl; have hfQ := blk_frozen hbQ 0; have HGQ := Aside0.mk hQ; have HBQ := Aside0.mk hbQ; have HB5 := Aside0.mk hb5; clear hQ hbQ hb5) | (go_at_call 23; refine (pay_calls k w _ G Q O w.heap.size A0 c0 l0 _ (.slice none 0 0) gs 0 [] _ a2 gs2 p2 os2 HR0.out (Pst.start HL.out HG.out HB.out HBG.out HB3.out (by rw [HGG.out]; exact HB.out.size) HBO.out HB4.out (by rw [HGO.out]; exact Nat.le_trans HB.out.size (Nat.le_trans HB3.out.size (by simp))) HBQ.out HB5.out (by rw [HGQ.out]; exact Nat.le_trans (Nat.le_trans HB.out.size (Nat.le_trans HB3.out.size (by simp))) HB4.out.size)) HP1.out).mono ?_; rintro e w6 ⟨rfl, vo6, hs6⟩; have hcL6 : w6.cell? ⟨w.heap.size, 0, none⟩ = some (.slice A0 l0.length c0) := (blk_cell hs6.hL 0).trans rfl; have HS6 := Aside0.mk hs6; clear hs6))
    go_loopg [33] k (fun kq v33 wr => ∃ (i : Int) (gs1 : List Int) (p1 : Int) (os1 : List S40) (vo1 : Value), v33 = .int .i64 i ∧ Aside0 (paysL kq l0 gs1 p1 os1 i = some (r1, r2)) ∧ Aside0 (kq ≤ k) ∧ Aside0 (0 ≤ i) ∧ Aside0 (Pst w wr G Q O w.heap.size A0 l0.length c0 (.slice Ag ng cg) vo1 gs1 p1 os1))
    case atStart => exact ⟨0, gs2, p2, os2, vo6, rfl, HP2, ⟨Nat.le_refl _⟩, ⟨Int.le_refl _⟩, HS6⟩
    case round =>
      clear HP2 HS6 HP1
      obtain ⟨i, gs1, p1, os1, vo1, rfl, HA, HK1, HI, HS⟩ := hrel
      cases gk with
      | zero => exact absurd HA.out (by simp [paysL])
      | succ k1 =>
        have H := HA.out
        clear HA
        simp only [paysL] at H
        by_cases hi : i < l0.length
        · rw [if_pos hi] at H
          by_cases hj : 0 ≤ i ∧ i < gs1.length
          · rw [if_pos hj] at H
            obtain ⟨j0, j1⟩ := hj
            obtain ⟨⟨gs3, p3, os3⟩, hp1, hp2⟩ := Option.bind_eq_some_iff.1 H
            obtain ⟨ad, rfl, hx0, hx1⟩ := at_T35 HR0.out i j0 hi
            replace hx0 := (HS.out.hB.cell (World.block_lt_of_cell? w _ hx0)).trans hx0
            replace hx1 := (HS.out.hB.cell (World.block_lt_of_cell? w _ hx1)).trans hx1
            obtain ⟨s, hs⟩ : ∃ s, s = (rd_T35 l0 i).f0 := ⟨_, rfl⟩
            obtain ⟨v, hv⟩ : ∃ v, v = (rd_T35 l0 i).f1 := ⟨_, rfl⟩
            rw [← hs] at hx0 hp1
            rw [← hv] at hx1
            clear hs hv
            have HP1 := Aside0.mk hp1
            have HP2 := Aside0.mk hp2
            clear H hp1 hp2
            obtain ⟨g, cap, e, _⟩ := Kd.R_form HS.out.rg (by omega)
            cases e
            go_wp2_with (first | ((with_reducible refine gate_dst (N := 15) rfl ?_); refine box_event ?hg (N := 15) ?hd (cs := #[.string (⟨#[]⟩ : ByteArray), .int .i64 0]) (t := 35) ?hr ?_; (case hd => rfl); (case hg => rfl); (case hr => first | (go_simp; done) | (go_simp; rfl)); intro gb hgb w7 hbox hb; replace hx0 := (hb.cell (World.block_lt_of_cell? _ _ hx0)).trans hx0; replace hx1 := (hb.cell (World.block_lt_of_cell? _ _ hx1)).trans hx1; have hcz0 : w7.cell? ⟨gb, 0, none⟩ = some (.string (⟨#[]⟩ : ByteArray)) := (blk_cell hbox 0).trans rfl; have hcz1 : w7.cell? ⟨gb, 1, none⟩ = some (.int .i64 0) := (blk_cell hbox 1).trans rfl; have hfz0 := blk_frozen hbox 0; have hfz1 := blk_frozen hbox 1; have hge := (show w.heap.size ≤ gb by rw [hgb]; exact HS.out.hB.size); have hs1 := (HS.out.below hb).far hbox hge 0 (.string s); have HS7 := Aside0.mk (hs1.far (set_blk hbox (.string s)) hge 1 (.int .i64 v)); have hcn : World.cell? _ ⟨gb, 0, none⟩ = some (.string s) := (blk_cell (set_blk (i := 1) (set_blk (i := 0) hbox (.string s)) (.int .i64 v)) 0).trans rfl; clear hbox hb hgb hge hs1))
            have hcG7 : World.cell? _ ⟨G, 0, none⟩ = some (.slice (some ⟨g, 0, none⟩) gs1.length cg) := (blk_cell HS7.out.hG 0).trans rfl
            obtain ⟨hcg7, _⟩ := Kd.R_cell (0 : Int) HS7.out.rg i j0 j1
            replace hcg7 : World.cell? _ ⟨g, i.toNat, none⟩ = some (.int .i64 (rd gs1 i)) := hcg7
            generalize hW7 : (w7.setCell ⟨gb, 0, none⟩ (.string s)).setCell ⟨gb, 1, none⟩ (.int .i64 v) = W7 at HS7 hcn hcG7 hcg7 ⊢
            clear hW7 hcz0 hcz1 hfz0 hfz1 hx0 hx1
            have HS8 := Aside0.mk HS7.out.drew
            go_still_tail 8, (by kernel_rfl)
            change wpList _ _ _ _ _ (World.drew W7)
            generalize hw8 : World.drew W7 = w8 at HS8 ⊢
            clear hw8 HS7 hcG7 hcg7 hcn
            go_wp2_with (go_at_call 23; refine (pay_calls k1 w _ G Q O w.heap.size _ c0 l0 _ vo1 gs1 p1 os1 s _ gs3 p3 os3 HR0.out HS8.out HP1.out).mono ?_; rintro e w9 ⟨rfl, vo9, hs9⟩; have HS9 := Aside0.mk hs9; clear hs9)
            all_goals
              go_roundg k1
              case measure => omega
              case rel => exact ⟨wrap64 (i + 1), gs3, p3, os3, vo9, rfl, HP2, ⟨by have := HK1.out; omega⟩, ⟨by have := HI.out; have := Kd.C_max HR0.out; unfold wrap64; omega⟩, HS9⟩
          · rw [if_neg hj] at H; cases H
        · rw [if_neg hi] at H
          have H1 := Option.some.inj H
          simp only [Prod.mk.injEq] at H1
          obtain ⟨rfl, rfl⟩ := H1
          clear H
          have hcO : World.cell? _ ⟨O, 0, none⟩ = some vo1 := (blk_cell HS.out.hO 0).trans rfl
          go_wp2_with fail
          go_ret2
          exact ⟨vo1, rfl, HS.out.ro, HS.out.hB⟩
  · rw [if_neg he] at H
    have H1 := Option.some.inj H
    simp only [Prod.mk.injEq] at H1
    obtain ⟨rfl, rfl⟩ := H1
    clear H
    have he0 : (er == 0) = false := by simpa using he
    have he1 : (er != 0) = true := by simpa using he
    go_wp2_with (first | ((with_reducible refine gate_dst (N := 9) rfl ?_); refine box_event ?hg (N := 9) ?hd (cs := #[.slice none 0 0]) (t := 23) ?hr ?_; (case hd => rfl); (case hg => rfl); (case hr => first | (go_simp; done) | (go_simp; rfl)); intro G hG w3 hbG hb3; have hcG : w3.cell? ⟨G, 0, none⟩ = some (.slice none 0 0) := (blk_cell hbG 0).trans rfl; have hfG := blk_frozen hbG 0; have HGG := Aside0.mk hG; have HBG := Aside0.mk hbG; have HB3 := Aside0.mk hb3; clear hG hbG hb3))
    go_ret2
    exact ⟨_, rfl, Kd.R_nil _ _ _ _ _, below_set (below_step HB.out HB3.out) (by rw [HGG.out]; exact HB.out.size)⟩

end Go.Proofs.Yteeehijpdkbgkaa.Print
