/-
What comes back: to the insurers first, then to the insured.
-/
import Derived.Test.YtjkipjfcfcpcmaaHfile
namespace Go.Proofs.Ytjkipjfcfcpcmaa.Print
open Go.RowKit Go.Proofs.YtjkipjfcfcpcmaaW.PrintWords Go.Proofs.YtjkipjfcfcpcmaaW.PrintLast Go.Proofs.YtjkipjfcfcpcmaaW.PrintMore
attribute [local go_sem] max2_int min2_int max_two min_two max_three min_three max_four min_four

theorem keep_new {w W w1 : World} {F : Nat} {row r1 : Option Nat} (h : KeepBut w W F row) (hg : W.grownBy w1 r1) (hr : ∀ b, r1 = some b → w.heap.size ≤ b) : KeepBut w w1 F row := by
  refine ⟨Nat.le_trans h.1 hg.size, fun i hi h1 h2 => ?_⟩
  rw [hg.block i (Nat.lt_of_lt_of_le hi h.1) (fun e => by have := hr i e.symm; omega)]
  exact h.2 i hi h1 h2
theorem keep_far {w W : World} {F : Nat} {row : Option Nat} (h : KeepBut w W F row) {g : Nat} (hg : w.heap.size ≤ g) (j : Nat) (v : Value) : KeepBut w (W.setCell ⟨g, j, none⟩ v) F row := by
  refine ⟨by simpa using h.1, fun i hi h1 h2 => ?_⟩
  rw [Below.heap_setCell W ⟨g, j, none⟩ v i (by show i ≠ g; omega)]
  exact h.2 i hi h1 h2
theorem keep_row {w W : World} {F : Nat} {row : Option Nat} (h : KeepBut w W F row) {g : Nat} (hg : row = some g) (j : Nat) (v : Value) : KeepBut w (W.setCell ⟨g, j, none⟩ v) F row := by
  refine ⟨by simpa using h.1, fun i hi h1 h2 => ?_⟩
  rw [Below.heap_setCell W ⟨g, j, none⟩ v i (by show i ≠ g; rintro rfl; exact h2 hg.symm)]
  exact h.2 i hi h1 h2
theorem keep_below {w W w1 : World} {F : Nat} {row : Option Nat} (h : KeepBut w W F row) (hb : Below W.heap.size W w1) : KeepBut w w1 F row :=
  ⟨Nat.le_trans h.1 hb.size, fun i hi h1 h2 => (hb.block i (Nat.lt_of_lt_of_le hi h.1)).trans (h.2 i hi h1 h2)⟩

/-- What stands while something comes back: what is left of the sum, the entries, the file. -/
structure Rst (w W : World) (B F SB OB : Nat) (ok : Nat → Prop) (vp vo : Value) (lo va : Int) (ps : List S64) (bk : Int) (s : Int) (os : List S42) : Prop where
  hS : W.heap[SB]? = some (.cells #[.int .i64 s] 2 (0, 0))
  hO : W.heap[OB]? = some (.cells #[vo] 38 (0, 0))
  ro : Kd.R k42 42 W w.heap.size (fun _ => True) vo os
  st : Fst W B F ok vp lo va ps bk
  hk : KeepBut w W F vp.ownBlock
  bS : w.heap.size ≤ SB
  bO : w.heap.size ≤ OB
  bB : B ≤ w.heap.size
  hw : Below B w W
section
variable {w W W1 : World} {B F SB OB : Nat} {ok : Nat → Prop} {vp vo : Value} {lo va : Int} {ps : List S64} {bk : Int} {s : Int} {os : List S42}
theorem Rst.drew (h : Rst w W B F SB OB ok vp vo lo va ps bk s os) : Rst w W.drew B F SB OB ok vp vo lo va ps bk s os :=
  ⟨h.hS, h.hO, Kd.R_drew h.ro, h.st.drew, ⟨h.hk.1, h.hk.2⟩, h.bS, h.bO, h.bB, h.hw.drew⟩
theorem Rst.below (h : Rst w W B F SB OB ok vp vo lo va ps bk s os) (hb : Below W.heap.size W W1) : Rst w W1 B F SB OB ok vp vo lo va ps bk s os :=
  ⟨blk_below h.hS hb, blk_below h.hO hb, Kd.R_below h.ro hb, h.st.below hb, keep_below h.hk hb, h.bS, h.bO, h.bB, h.hw.trans (hb.mono (Nat.le_trans h.bB h.hk.1))⟩
theorem Rst.sum (h : Rst w W B F SB OB ok vp vo lo va ps bk s os) (s' : Int) : Rst w (W.setCell ⟨SB, 0, none⟩ (.int .i64 s')) B F SB OB ok vp vo lo va ps bk s' os :=
  ⟨set_blk' h.hS _, keep_blk' h.hO h.hS (by decide) _ _, Kd.R_set h.ro h.hS (by decide) 0 _, ⟨keep_blk' h.st.hF h.hS (by decide) _ _, Kd.R_set h.st.rp h.hS (by decide) 0 _, h.st.bF⟩, keep_far h.hk h.bS 0 _, h.bS, h.bO, h.bB, h.hw.setCell (Nat.le_trans h.bB h.bS) _⟩
theorem Rst.app (h : Rst w W B F SB OB ok vp vo lo va ps bk s os) {v1 : Value} {os' : List S42} (ho : Kd.R k42 42 W1 w.heap.size (fun _ => True) v1 os') (hg : W.grownBy W1 vo.ownBlock) (hb : Below w.heap.size W W1) :
    Rst w (W1.setCell ⟨OB, 0, none⟩ v1) B F SB OB ok vp v1 lo va ps bk s os' := by
  have f1 := blk_grown h.st.hF hg (Kd.R_ne h.ro h.st.hF (by decide))
  have s1 := blk_grown h.hS hg (Kd.R_ne h.ro h.hS (by decide))
  have o1 := blk_grown h.hO hg (Kd.R_ne h.ro h.hO (by decide))
  have r1 := Kd.R_over' h.st.rp (Kd.R_typed h.ro) (by decide) hg
  exact ⟨keep_blk' s1 o1 (by decide) _ _, set_blk' o1 _, Kd.R_set ho o1 (by decide) 0 _, ⟨keep_blk' f1 o1 (by decide) _ _, Kd.R_set r1 o1 (by decide) 0 _, h.st.bF⟩, keep_far (keep_new h.hk hg (Kd.R_base h.ro)) h.bO 0 _, h.bS, h.bO, h.bB, (h.hw.trans (hb.mono h.bB)).setCell (Nat.le_trans h.bB h.bO) _⟩
end

/-- So much is taken of what is left. -/
def took (os : List S42) (who : ByteArray) (n : Int) : List S42 := if n > 0 then os ++ [⟨who, ⟨#[]⟩, n⟩] else os

set_option maxHeartbeats 8000000 in
set_option maxRecDepth 100000 in
theorem take_calls (w W : World) (B F SB OB : Nat) (ok : Nat → Prop) (vp vo : Value) (lo va : Int) (ps : List S64) (bk s : Int) (os : List S42) (who : ByteArray) (most : Int)
    (hst : Rst w W B F SB OB ok vp vo lo va ps bk s os) (hl : os.length ≤ 1000000) :
    Calls Try.prog 19 #[.string who, .int .i64 most, .pointer (some ⟨SB, 0, none⟩), .pointer (some ⟨OB, 0, none⟩)] W fun e W' =>
      e = .returned (.int .i64 (mn s most)) ∧ ∃ vo', Rst w W' B F SB OB ok vp vo' lo va ps bk (wrap64 (s - mn s most)) (took os who (mn s most)) := by
  have hu := Try.underlying42
  have HS := Aside0.mk hst
  have hcS := (blk_cell hst.hS 0).trans rfl
  have hcO := (blk_cell hst.hO 0).trans rfl
  have hfS := blk_frozen hst.hS 0
  have HL := Aside0.mk hl
  clear hst hl
  by_cases hmn : most < s
  · have hmv : mn s most = most := by unfold mn; rw [if_pos hmn]
    rw [hmv]
    have hmn0 := hmn
    by_cases hp : most > 0
    · have ht : took os who most = os ++ [⟨who, ⟨#[]⟩, most⟩] := by unfold took; rw [if_pos hp]
      rw [ht]
      clear ht hmv
      have hp0 : decide (0 < most) = true := decide_eq_true hp
      clear hp
      go_enter Try.func19, Try.ntmps19
      go_wp2_with ((with_reducible refine gate_builtin (b := .append) (xs := #[.tmp 13, .tmp 17]) rfl ?_); at_builtin; refine Kd.R_append k42 (w0 := W) w.heap.size rfl (.tmp 13) (.tmp 17) 38 42 _ 40 rfl Try.underlying38 info42 rfl (by decide) (by omega) vo os ⟨who, ⟨#[]⟩, most⟩ [.string who, .string ⟨#[]⟩, .int .i64 most] (fun _ => True) (fun _ => False) rfl rfl (k42_mkM _ _ _ _) (fun _ hk => hk.elim) (fun _ _ => trivial) HS.out.ro (Below.refl _ _) HS.out.hk.1 (by have := HL.out; omega) ?_; intro v1 w1 ho hb hg hat; obtain ⟨A1, n1, c1, rfl⟩ : ∃ A n c, v1 = Value.slice A n c := (by obtain ⟨A, c, e⟩ := Kd.R_slice ho; exact ⟨A, _, c, e⟩); have o1 := blk_grown HS.out.hO hg (Kd.R_ne HS.out.ro HS.out.hO (by decide)); have hcO1 : w1.cell? ⟨OB, 0, none⟩ = some vo := (blk_cell o1 0).trans rfl; have hfO1 := blk_frozen o1 0; have HS2 := Aside0.mk (HS.out.app ho hg hb); have hcS2 : World.cell? _ ⟨SB, 0, none⟩ = some (.int .i64 s) := (blk_cell HS2.out.hS 0).trans rfl; have hfS2 := blk_frozen HS2.out.hS 0; clear ho hb hg hat o1)
      go_ret
      exact ⟨rfl, _, HS2.out.sum _⟩
    · have ht : took os who most = os := by unfold took; rw [if_neg hp]
      rw [ht]
      clear ht hmv
      have hp0 : decide (0 < most) = false := decide_eq_false hp
      clear hp
      go_enter Try.func19, Try.ntmps19
      go_wp2
      go_ret
      exact ⟨rfl, _, HS.out.sum _⟩
  · have hmv : mn s most = s := by unfold mn; rw [if_neg hmn]
    rw [hmv, show wrap64 (s - s) = 0 by rw [Int.sub_self]; unfold wrap64; omega]
    have hmn0 := hmn
    by_cases hp : s > 0
    · have ht : took os who s = os ++ [⟨who, ⟨#[]⟩, s⟩] := by unfold took; rw [if_pos hp]
      rw [ht]
      clear ht hmv
      have hp0 : decide (0 < s) = true := decide_eq_true hp
      clear hp
      go_enter Try.func19, Try.ntmps19
      go_wp2_with ((with_reducible refine gate_builtin (b := .append) (xs := #[.tmp 13, .tmp 17]) rfl ?_); at_builtin; refine Kd.R_append k42 (w0 := W) w.heap.size rfl (.tmp 13) (.tmp 17) 38 42 _ 40 rfl Try.underlying38 info42 rfl (by decide) (by omega) vo os ⟨who, ⟨#[]⟩, s⟩ [.string who, .string ⟨#[]⟩, .int .i64 s] (fun _ => True) (fun _ => False) rfl rfl (k42_mkM _ _ _ _) (fun _ hk => hk.elim) (fun _ _ => trivial) HS.out.ro (Below.refl _ _) HS.out.hk.1 (by have := HL.out; omega) ?_; intro v1 w1 ho hb hg hat; obtain ⟨A1, n1, c1, rfl⟩ : ∃ A n c, v1 = Value.slice A n c := (by obtain ⟨A, c, e⟩ := Kd.R_slice ho; exact ⟨A, _, c, e⟩); have o1 := blk_grown HS.out.hO hg (Kd.R_ne HS.out.ro HS.out.hO (by decide)); have hcO1 : w1.cell? ⟨OB, 0, none⟩ = some vo := (blk_cell o1 0).trans rfl; have hfO1 := blk_frozen o1 0; have HS2 := Aside0.mk (HS.out.app ho hg hb); have hcS2 : World.cell? _ ⟨SB, 0, none⟩ = some (.int .i64 s) := (blk_cell HS2.out.hS 0).trans rfl; have hfS2 := blk_frozen HS2.out.hS 0; clear ho hb hg hat o1)
      go_ret
      exact ⟨rfl, _, HS2.out.sum _⟩
    · have ht : took os who s = os := by unfold took; rw [if_neg hp]
      rw [ht]
      clear ht hmv
      have hp0 : decide (0 < s) = false := decide_eq_false hp
      clear hp
      go_enter Try.func19, Try.ntmps19
      go_wp2
      go_ret
      exact ⟨rfl, _, HS.out.sum _⟩

/-- A cell of a row of payments is written. -/
theorem Rst.back {w W : World} {B F SB OB : Nat} {ok : Nat → Prop} {vo : Value} {lo va : Int} {ps : List S64} {bk : Int} {s : Int} {os : List S42} {g n cap : Nat}
    (h : Rst w W B F SB OB ok (.slice (some ⟨g, 0, none⟩) n cap) vo lo va ps bk s os) (i : Nat) (hi : i < ps.length) (x : Int) :
    Rst w (W.setCell ⟨g, i * 3 + 2, none⟩ (.int .i64 x)) B F SB OB ok (.slice (some ⟨g, 0, none⟩) n cap) vo lo va (ps.set i ⟨(rd_T64 ps (i : Int)).f0, (rd_T64 ps (i : Int)).f1, x⟩) bk s os := by
  have hn := (Kd.R_reads' h.st.rp).1
  have hC := (Kd.R_reads' h.st.rp).2.2
  obtain ⟨ad, e, hx0, hx1, hx2⟩ := at_T64 hC (i : Int) (by omega) (by omega)
  cases e
  rw [Int.toNat_natCast, add_plain] at hx0 hx1 hx2
  obtain ⟨cells, hc⟩ := Kd.R_typed h.st.rp g (by simp [Value.ownBlock])
  have hseg := (Kd.R_seg h.st.rp (i : Int) (by omega) (by omega) (c := [.string (rd_T64 ps (i : Int)).f0, .int .i64 (rd_T64 ps (i : Int)).f1, .int .i64 (rd_T64 ps (i : Int)).f2]) (seg := [.int .i64 x]) (j := 2) rfl (fun j u hu => by
    match j, hu with
    | 0, hu => cases hu; exact hx0
    | 1, hu => cases hu; exact hx1
    | 2, hu => cases hu; exact hx2
    | j + 3, hu => simp at hu) (by show 2 + 1 ≤ 3; omega) (x' := ⟨(rd_T64 ps (i : Int)).f0, (rd_T64 ps (i : Int)).f1, x⟩) (okp := fun _ => False) (k64_mkM _ _ _ _) (fun _ hk => hk.elim)).1
  rw [Int.toNat_natCast] at hseg
  have hseg : Kd.R k64 64 (W.setCell ⟨g, i * 3 + 2, none⟩ (.int .i64 x)) B ok (.slice (some ⟨g, 0, none⟩) n cap) (ps.set i ⟨(rd_T64 ps (i : Int)).f0, (rd_T64 ps (i : Int)).f1, x⟩) := hseg
  exact ⟨keep_blk' h.hS hc (by decide) _ _, keep_blk' h.hO hc (by decide) _ _, Kd.R_set h.ro hc (by decide) _ _, ⟨keep_blk' h.st.hF hc (by decide) _ _, hseg, h.st.bF⟩, keep_row h.hk (by simp [Value.ownBlock]) _ _, h.bS, h.bO, h.bB, h.hw.setCell (Kd.R_base h.st.rp g (by simp [Value.ownBlock])) _⟩
theorem Rst.own {w W : World} {B F SB OB : Nat} {ok : Nat → Prop} {vp vo : Value} {lo va : Int} {ps : List S64} {bk : Int} {s : Int} {os : List S42}
    (h : Rst w W B F SB OB ok vp vo lo va ps bk s os) (x : Int) : Rst w (W.setCell ⟨F, 3, none⟩ (.int .i64 x)) B F SB OB ok vp vo lo va ps x s os :=
  ⟨keep_blk' h.hS h.st.hF (by decide) _ _, keep_blk' h.hO h.st.hF (by decide) _ _, Kd.R_set h.ro h.st.hF (by decide) _ _, ⟨set_blk' h.st.hF _, Kd.R_set h.st.rp h.st.hF (by decide) _ _, h.st.bF⟩, h.hk.set_ 3 _, h.bS, h.bO, h.bB, h.hw.setCell h.st.bF _⟩

theorem Rst.at_ {w W : World} {B F SB OB : Nat} {ok : Nat → Prop} {vo : Value} {lo va : Int} {ps : List S64} {bk : Int} {s : Int} {os : List S42} {g n cap : Nat}
    (h : Rst w W B F SB OB ok (.slice (some ⟨g, 0, none⟩) n cap) vo lo va ps bk s os) (i : Nat) (hi : i < ps.length) :
    W.cell? ⟨g, i * 3, none⟩ = some (.string (rd_T64 ps (i : Int)).f0) ∧ W.cell? ⟨g, i * 3 + 1, none⟩ = some (.int .i64 (rd_T64 ps (i : Int)).f1) ∧ W.cell? ⟨g, i * 3 + 2, none⟩ = some (.int .i64 (rd_T64 ps (i : Int)).f2) ∧ W.frozen? ⟨g, i * 3 + 2, none⟩ = false := by
  have hn := (Kd.R_reads' h.st.rp).1
  have hC := (Kd.R_reads' h.st.rp).2.2
  obtain ⟨ad, e, hx0, hx1, hx2⟩ := at_T64 hC (i : Int) (by omega) (by omega)
  cases e
  rw [Int.toNat_natCast, add_plain] at hx0 hx1 hx2
  obtain ⟨cells, hc⟩ := Kd.R_typed h.st.rp g (by simp [Value.ownBlock])
  exact ⟨hx0, hx1, hx2, blk_frozen hc _⟩

/-- What comes back goes down the row of those who paid. -/
def recL : Nat → Nat → List S64 → Int → List S42 → List S64 × Int × List S42
  | 0, _, ps, s, os => (ps, s, os)
  | d + 1, i, ps, s, os =>
    recL d (i + 1) (ps.set i ⟨(rd_T64 ps (i : Int)).f0, (rd_T64 ps (i : Int)).f1, wrap64 ((rd_T64 ps (i : Int)).f2 + mn s (wrap64 ((rd_T64 ps (i : Int)).f1 - (rd_T64 ps (i : Int)).f2)))⟩)
      (wrap64 (s - mn s (wrap64 ((rd_T64 ps (i : Int)).f1 - (rd_T64 ps (i : Int)).f2)))) (took os (rd_T64 ps (i : Int)).f0 (mn s (wrap64 ((rd_T64 ps (i : Int)).f1 - (rd_T64 ps (i : Int)).f2))))
/-- What comes back: the payments then, what came back to the insured, the entries, and what is wrong. -/
def recF (lo : Int) (ps : List S64) (bk s : Int) : List S64 × Int × List S42 × Int :=
  if s < 1 ∨ s > 1099511627776 then (ps, bk, [], 3)
  else if s > outF lo ps bk then (ps, bk, [], 10)
  else ((recL ps.length 0 ps s []).1, wrap64 (bk + mn (recL ps.length 0 ps s []).2.1 (leftF lo ps bk)), took (recL ps.length 0 ps s []).2.2 ⟨#[]⟩ (mn (recL ps.length 0 ps s []).2.1 (leftF lo ps bk)), 0)

set_option maxHeartbeats 8000000 in
set_option maxRecDepth 100000 in
theorem recover_calls (w : World) (B F : Nat) (ok : Nat → Prop) (vp : Value) (lo va : Int) (ps : List S64) (bk s : Int) (hs : Fst w B F ok vp lo va ps bk) (hn : ps.length ≤ 4096) (hB : B ≤ w.heap.size) :
    Calls Try.prog 9 #[.pointer (some ⟨F, 0, none⟩), .int .i64 s] w fun e w' => ∃ vo, e = .returned (.tuple #[vo, .int .i64 (recF lo ps bk s).2.2.2]) ∧
      Fst w' B F ok vp lo va (recF lo ps bk s).1 (recF lo ps bk s).2.1 ∧ KeepBut w w' F vp.ownBlock ∧ Kd.R k42 42 w' w.heap.size (fun _ => True) vo (recF lo ps bk s).2.2.1 ∧ Below B w w' := by
  have hu := Try.underlying64
  have hu2 := Try.underlying60
  have HS := Aside0.mk hs
  have HBZ := Aside0.mk hB
  clear hB
  have HL := Aside0.mk hn
  clear hs hn
  have fin : ∀ o, Fst (w.alloc o) B F ok vp lo va ps bk ∧ KeepBut w (w.alloc o) F vp.ownBlock ∧ Below B w (w.alloc o) := fun o => ⟨HS.out.below (below_alloc (Below.refl _ _) _), KeepBut.of_below (below_alloc (Below.refl _ _) _) _ _, (below_alloc (Below.refl _ _) _).mono HBZ.out⟩
  have FIN := Aside0.mk fin
  clear fin
  by_cases h1 : s < 1
  · have e1 : recF lo ps bk s = (ps, bk, [], 3) := by unfold recF; rw [if_pos (.inl h1)]
    rw [e1]
    clear e1
    have h10 : decide (s < 1) = true := decide_eq_true h1
    clear h1
    go_enter Try.func9, Try.ntmps9
    go_wp2
    go_ret2
    exact ⟨_, rfl, (FIN.out _).1, (FIN.out _).2.1, Kd.R_nil _ _ _ _ _, (FIN.out _).2.2⟩
  by_cases h2 : s > 1099511627776
  · have e1 : recF lo ps bk s = (ps, bk, [], 3) := by unfold recF; rw [if_pos (.inr h2)]
    rw [e1]
    clear e1
    have h10 : decide (s < 1) = false := decide_eq_false h1
    have h20 : decide (1099511627776 < s) = true := decide_eq_true h2
    clear h1 h2
    go_enter Try.func9, Try.ntmps9
    go_wp2
    go_ret2
    exact ⟨_, rfl, (FIN.out _).1, (FIN.out _).2.1, Kd.R_nil _ _ _ _ _, (FIN.out _).2.2⟩
  have h10 : decide (s < 1) = false := decide_eq_false h1
  have h20 : decide (1099511627776 < s) = false := decide_eq_false h2
  by_cases h3 : s > outF lo ps bk
  · have e1 : recF lo ps bk s = (ps, bk, [], 10) := by unfold recF; rw [if_neg (by omega), if_pos h3]
    rw [e1]
    have h30 : decide (outF lo ps bk < s) = true := decide_eq_true h3
    clear e1 h1 h2 h3
    go_enter Try.func9, Try.ntmps9
    go_wp2
    have HW := Aside0.mk (HS.out.below (below_alloc (Below.refl _ _) (.cells #[.int .i64 s] 2)))
    have hb0 : (w.alloc (.cells #[.int .i64 s] 2)).drew.heap[w.heap.size]? = some (.cells #[.int .i64 s] 2 (0, 0)) := blk_new w _
    have HB0 := Aside0.mk hb0
    have hc0 : (w.alloc (.cells #[.int .i64 s] 2)).drew.cell? ⟨w.heap.size, 0, none⟩ = some (.int .i64 s) := (blk_cell hb0 0).trans rfl
    clear hb0
    go_region_held3 (fun w' => w'.cell? ⟨w.heap.size, 0, none⟩ = some (.int .i64 s)) (go_keep)
      ((go_at_call 18; refine (out_calls _ B F ok _ lo va ps bk HW.out.drew).mono ?_; rintro e w1 ⟨rfl, hb⟩; have HB1 := Aside0.mk hb; have hc1 : w1.cell? ⟨w.heap.size, 0, none⟩ = some (.int .i64 s) := (blk_cell (blk_below HB0.out hb) 0).trans rfl; clear hb))
    go_wp2
    go_ret2
    exact ⟨_, rfl, HW.out.drew.below HB1.out, KeepBut.of_below (below_step (below_drew1 (below_alloc (Below.refl _ _) _)) HB1.out) _ _, Kd.R_nil _ _ _ _ _, (below_step (below_drew1 (below_alloc (Below.refl _ _) _)) HB1.out).mono HBZ.out⟩
  · have h30 : decide (outF lo ps bk < s) = false := decide_eq_false h3
    have HE := Aside0.mk (show recF lo ps bk s = ((recL ps.length 0 ps s []).1, wrap64 (bk + mn (recL ps.length 0 ps s []).2.1 (leftF lo ps bk)), took (recL ps.length 0 ps s []).2.2 ⟨#[]⟩ (mn (recL ps.length 0 ps s []).2.1 (leftF lo ps bk)), 0) by unfold recF; rw [if_neg (by omega), if_neg h3])
    clear h1 h2 h3
    obtain ⟨A, cp, rfl⟩ := Kd.R_slice HS.out.rp
    go_enter Try.func9, Try.ntmps9
    go_wp2
    have HW := Aside0.mk (HS.out.below (below_alloc (Below.refl _ _) (.cells #[.int .i64 s] 2)))
    have hb0 : (w.alloc (.cells #[.int .i64 s] 2)).drew.heap[w.heap.size]? = some (.cells #[.int .i64 s] 2 (0, 0)) := blk_new w _
    have HB0 := Aside0.mk hb0
    have hc0 : (w.alloc (.cells #[.int .i64 s] 2)).drew.cell? ⟨w.heap.size, 0, none⟩ = some (.int .i64 s) := (blk_cell hb0 0).trans rfl
    clear hb0
    go_region_held3 (fun w' => w'.cell? ⟨w.heap.size, 0, none⟩ = some (.int .i64 s)) (go_keep)
      ((go_at_call 18; refine (out_calls _ B F ok _ lo va ps bk HW.out.drew).mono ?_; rintro e w1 ⟨rfl, hb⟩; have HB1 := Aside0.mk hb; have hc1 : w1.cell? ⟨w.heap.size, 0, none⟩ = some (.int .i64 s) := (blk_cell (blk_below HB0.out hb) 0).trans rfl; clear hb))
    have HR1 := Aside0.mk (show Rst w (w1.alloc (.cells #[.slice none 0 0] 38)) B F w.heap.size w1.heap.size ok (.slice A ps.length cp) (.slice none 0 0) lo va ps bk s [] from
      ⟨blk_alloc (blk_below HB0.out HB1.out) _, blk_new w1 _, Kd.R_nil _ _ _ _ _, (HW.out.drew.below HB1.out).below (below_alloc (Below.refl _ _) _), KeepBut.of_below (below_alloc (below_step (below_drew1 (below_alloc (Below.refl _ _) _)) HB1.out) _) _ _, Nat.le_refl _, (below_step (below_drew1 (below_alloc (Below.refl _ _) _)) HB1.out).size, HBZ.out, (below_alloc (below_step (below_drew1 (below_alloc (Below.refl _ _) _)) HB1.out) _).mono HBZ.out⟩)
    clear hc0 hc1
    go_wp2_with (go_at_call 17; refine (left_calls _ B F ok _ lo va ps bk HR1.out.st).mono ?_; rintro e w2 ⟨rfl, hb⟩; have HR2 := Aside0.mk (HR1.out.below hb); have hcp : w2.cell? ⟨F, 2, none⟩ = some (.slice A ps.length cp) := (blk_cell HR2.out.st.hF 2).trans rfl; clear hb)
    go_loopw [29] (fun v29 wr => ∃ (i : Nat) (vo : Value) (ps1 : List S64) (s1 : Int) (os1 : List S42), v29 = .int .i64 i ∧ Aside0 (i ≤ ps.length) ∧ Aside0 (ps1.length = ps.length) ∧ Aside0 (os1.length ≤ i) ∧ Aside0 (recL (ps.length - i) i ps1 s1 os1 = recL ps.length 0 ps s []) ∧
      Aside0 (Rst w wr B F w.heap.size w1.heap.size ok (.slice A ps.length cp) vo lo va ps1 bk s1 os1)) (fun v29 _ => ps.length - (intOf v29).toNat)
    case atStart => exact ⟨0, _, ps, s, [], rfl, ⟨Nat.zero_le _⟩, ⟨rfl⟩, ⟨Nat.le_refl _⟩, ⟨by rw [Nat.sub_zero]⟩, HR2⟩
    case round =>
      clear HR1 HR2 hcp HB0 HW HB1 FIN
      obtain ⟨i, vo, ps1, s1, os1, rfl, HI, HP, HO, HX, HR⟩ := hrel
      have hcp : wr.cell? ⟨F, 2, none⟩ = some (.slice A ps.length cp) := (blk_cell HR.out.st.hF 2).trans rfl
      have hcb : wr.cell? ⟨F, 3, none⟩ = some (.int .i64 bk) := (blk_cell HR.out.st.hF 3).trans rfl
      have hll := HL.out
      by_cases hlt : i < ps.length
      · have h0 : (0 : Int) ≤ (i : Int) := by omega
        have h1 : (i : Int) < (ps.length : Int) := by omega
        obtain ⟨g, cap, e, _⟩ := Kd.R_form HR.out.st.rp (by have := HP.out; omega)
        injection e with eA en ec
        subst eA
        clear en ec
        have hat := HR.out.at_ i (by rw [HP.out]; exact hlt)
        obtain ⟨q, hq⟩ : ∃ q, q = rd_T64 ps1 (i : Int) := ⟨_, rfl⟩
        rw [← hq] at hat
        have HQ := Aside0.mk hq
        clear hq
        obtain ⟨hx0, hx1, hx2, hx3⟩ := hat
        have HR2 := Aside0.mk HR.out.drew
        go_wp2
        refine start_ (n := 23) (S := fun w' => w'.cell? ⟨g, i * 3, none⟩ = some (.string q.f0) ∧ w'.cell? ⟨g, i * 3 + 1, none⟩ = some (.int .i64 q.f1) ∧ w'.cell? ⟨g, i * 3 + 2, none⟩ = some (.int .i64 q.f2)) (ds := [22]) #[false, false, false, false, false, false, false, false, false, false, false, false, false, false, false, false, false, false, false, false, false, false, false] (by kernel_rfl) rfl rfl ⟨hx0, hx1, hx2⟩ (fun hHeld => ?_)
        refine pure_ (i := 0) (N := some 38) (v := ?_) (a' := ?_) #[true, false, false, false, false, false, false, false, false, false, false, false, false, false, false, false, false, false, false, false, false, false, false] rfl rfl (by kernel_rfl) (fun _ _ _ h => h) (Or.inl ⟨by rfl, ?_⟩) ?_ ?_
        rotate_left
        · intro w'
          go_simp
          with_reducible rfl
        rotate_left
        · simp only [Act.put, List.setIfInBounds_toArray, List.set_cons_zero, List.set_cons_succ, i64_w, i32_w]
          rfl
        refine pure_ (i := 1) (N := some 39) (v := ?_) (a' := ?_) #[true, true, false, false, false, false, false, false, false, false, false, false, false, false, false, false, false, false, false, false, false, false, false] rfl rfl (by kernel_rfl) (fun _ _ _ h => h) (Or.inl ⟨by rfl, ?_⟩) ?_ ?_
        rotate_left
        · intro w'
          go_simp
          with_reducible rfl
        rotate_left
        · simp only [Act.put, List.setIfInBounds_toArray, List.set_cons_zero, List.set_cons_succ, i64_w, i32_w]
          rfl
        refine pure_ (i := 2) (N := some 40) (v := ?_) (a' := ?_) #[true, true, true, false, false, false, false, false, false, false, false, false, false, false, false, false, false, false, false, false, false, false, false] rfl rfl (by kernel_rfl) (fun _ _ _ h => h) (Or.inl ⟨by rfl, ?_⟩) ?_ ?_
        rotate_left
        · intro w'
          go_simp
          with_reducible rfl
        rotate_left
        · simp only [Act.put, List.setIfInBounds_toArray, List.set_cons_zero, List.set_cons_succ, i64_w, i32_w]
          rfl
        refine pure_ (i := 4) (N := some 42) (v := ?_) (a' := ?_) #[true, true, true, false, true, false, false, false, false, false, false, false, false, false, false, false, false, false, false, false, false, false, false] rfl rfl (by kernel_rfl) (fun _ _ _ h => h) (Or.inl ⟨by rfl, ?_⟩) ?_ ?_
        rotate_left
        · intro w'
          go_simp
          with_reducible rfl
        rotate_left
        · simp only [Act.put, List.setIfInBounds_toArray, List.set_cons_zero, List.set_cons_succ, i64_w, i32_w]
          rfl
        refine pure_ (i := 5) (N := some 43) (v := ?_) (a' := ?_) #[true, true, true, false, true, true, false, false, false, false, false, false, false, false, false, false, false, false, false, false, false, false, false] rfl rfl (by kernel_rfl) (fun _ _ _ h => h) (Or.inl ⟨by rfl, ?_⟩) ?_ ?_
        rotate_left
        · intro w'
          go_simp
          with_reducible rfl
        rotate_left
        · simp only [Act.put, List.setIfInBounds_toArray, List.set_cons_zero, List.set_cons_succ, i64_w, i32_w]
          rfl
        refine pure_ (i := 6) (N := some 44) (v := ?_) (a' := ?_) #[true, true, true, false, true, true, true, false, false, false, false, false, false, false, false, false, false, false, false, false, false, false, false] rfl rfl (by kernel_rfl) (fun _ _ _ h => h) (Or.inl ⟨by rfl, ?_⟩) ?_ ?_
        rotate_left
        · intro w'
          go_simp
          with_reducible rfl
        rotate_left
        · simp only [Act.put, List.setIfInBounds_toArray, List.set_cons_zero, List.set_cons_succ, i64_w, i32_w]
          rfl
        refine pure_ (i := 7) (N := some 45) (v := ?_) (a' := ?_) #[true, true, true, false, true, true, true, true, false, false, false, false, false, false, false, false, false, false, false, false, false, false, false] rfl rfl (by kernel_rfl) (fun _ _ _ h => h) (Or.inl ⟨by rfl, ?_⟩) ?_ ?_
        rotate_left
        · intro w'
          go_simp
          with_reducible rfl
        rotate_left
        · simp only [Act.put, List.setIfInBounds_toArray, List.set_cons_zero, List.set_cons_succ, i64_w, i32_w]
          rfl
        refine pure_ (i := 9) (N := some 47) (v := ?_) (a' := ?_) #[true, true, true, false, true, true, true, true, false, true, false, false, false, false, false, false, false, false, false, false, false, false, false] rfl rfl (by kernel_rfl) (fun _ _ _ h => h) (Or.inl ⟨by rfl, ?_⟩) ?_ ?_
        rotate_left
        · intro w'
          go_simp
          with_reducible rfl
        rotate_left
        · simp only [Act.put, List.setIfInBounds_toArray, List.set_cons_zero, List.set_cons_succ, i64_w, i32_w]
          rfl
        refine pure_ (i := 10) (N := some 48) (v := ?_) (a' := ?_) #[true, true, true, false, true, true, true, true, false, true, true, false, false, false, false, false, false, false, false, false, false, false, false] rfl rfl (by kernel_rfl) (fun _ _ _ h => h) (Or.inl ⟨by rfl, ?_⟩) ?_ ?_
        rotate_left
        · intro w'
          go_simp
          with_reducible rfl
        rotate_left
        · simp only [Act.put, List.setIfInBounds_toArray, List.set_cons_zero, List.set_cons_succ, i64_w, i32_w]
          rfl
        refine pure_ (i := 11) (N := some 49) (v := ?_) (a' := ?_) #[true, true, true, false, true, true, true, true, false, true, true, true, false, false, false, false, false, false, false, false, false, false, false] rfl rfl (by kernel_rfl) (fun _ _ _ h => h) (Or.inl ⟨by rfl, ?_⟩) ?_ ?_
        rotate_left
        · intro w'
          go_simp
          with_reducible rfl
        rotate_left
        · simp only [Act.put, List.setIfInBounds_toArray, List.set_cons_zero, List.set_cons_succ, i64_w, i32_w]
          rfl
        refine pure_ (i := 13) (N := some 51) (v := ?_) (a' := ?_) #[true, true, true, false, true, true, true, true, false, true, true, true, false, true, false, false, false, false, false, false, false, false, false] rfl rfl (by kernel_rfl) (fun _ _ _ h => h) (Or.inl ⟨by rfl, ?_⟩) ?_ ?_
        rotate_left
        · intro w'
          go_simp
          with_reducible rfl
        rotate_left
        · simp only [Act.put, List.setIfInBounds_toArray, List.set_cons_zero, List.set_cons_succ, i64_w, i32_w]
          rfl
        refine pure_ (i := 14) (N := some 52) (v := ?_) (a' := ?_) #[true, true, true, false, true, true, true, true, false, true, true, true, false, true, true, false, false, false, false, false, false, false, false] rfl rfl (by kernel_rfl) (fun _ _ _ h => h) (Or.inl ⟨by rfl, ?_⟩) ?_ ?_
        rotate_left
        · intro w'
          go_simp
          with_reducible rfl
        rotate_left
        · simp only [Act.put, List.setIfInBounds_toArray, List.set_cons_zero, List.set_cons_succ, i64_w, i32_w]
          rfl
        refine pure_ (i := 15) (N := some 53) (v := ?_) (a' := ?_) #[true, true, true, false, true, true, true, true, false, true, true, true, false, true, true, true, false, false, false, false, false, false, false] rfl rfl (by kernel_rfl) (fun _ _ _ h => h) (Or.inl ⟨by rfl, ?_⟩) ?_ ?_
        rotate_left
        · intro w'
          go_simp
          with_reducible rfl
        rotate_left
        · simp only [Act.put, List.setIfInBounds_toArray, List.set_cons_zero, List.set_cons_succ, i64_w, i32_w]
          rfl
        refine take_ (i := 3) (N := some 41) (v := ?_) (a' := ?_) #[true, true, true, true, true, true, true, true, false, true, true, true, false, true, true, true, false, false, false, false, false, false, false] rfl rfl (by kernel_rfl) (fun _ _ _ h => h) (Or.inl ⟨by rfl, ?_⟩) hHeld ?_ ?_
        rotate_left
        · rintro w' ⟨s0, s1, s2⟩
          go_simp
          with_reducible rfl
        rotate_left
        · simp only [Act.put, List.setIfInBounds_toArray, List.set_cons_zero, List.set_cons_succ, i64_w, i32_w]
          rfl
        refine take_ (i := 8) (N := some 46) (v := ?_) (a' := ?_) #[true, true, true, true, true, true, true, true, true, true, true, true, false, true, true, true, false, false, false, false, false, false, false] rfl rfl (by kernel_rfl) (fun _ _ _ h => h) (Or.inl ⟨by rfl, ?_⟩) hHeld ?_ ?_
        rotate_left
        · rintro w' ⟨s0, s1, s2⟩
          go_simp
          with_reducible rfl
        rotate_left
        · simp only [Act.put, List.setIfInBounds_toArray, List.set_cons_zero, List.set_cons_succ, i64_w, i32_w]
          rfl
        refine take_ (i := 12) (N := some 50) (v := ?_) (a' := ?_) #[true, true, true, true, true, true, true, true, true, true, true, true, true, true, true, true, false, false, false, false, false, false, false] rfl rfl (by kernel_rfl) (fun _ _ _ h => h) (Or.inl ⟨by rfl, ?_⟩) hHeld ?_ ?_
        rotate_left
        · rintro w' ⟨s0, s1, s2⟩
          go_simp
          with_reducible rfl
        rotate_left
        · simp only [Act.put, List.setIfInBounds_toArray, List.set_cons_zero, List.set_cons_succ, i64_w, i32_w]
          rfl
        refine take_ (i := 16) (N := some 54) (v := ?_) (a' := ?_) #[true, true, true, true, true, true, true, true, true, true, true, true, true, true, true, true, true, false, false, false, false, false, false] rfl rfl (by kernel_rfl) (fun _ _ _ h => h) (Or.inl ⟨by rfl, ?_⟩) hHeld ?_ ?_
        rotate_left
        · rintro w' ⟨s0, s1, s2⟩
          go_simp
          with_reducible rfl
        rotate_left
        · simp only [Act.put, List.setIfInBounds_toArray, List.set_cons_zero, List.set_cons_succ, i64_w, i32_w]
          rfl
        refine pure_ (i := 17) (N := some 55) (v := ?_) (a' := ?_) #[true, true, true, true, true, true, true, true, true, true, true, true, true, true, true, true, true, true, false, false, false, false, false] rfl rfl (by kernel_rfl) (fun _ _ _ h => h) (Or.inl ⟨by rfl, ?_⟩) ?_ ?_
        rotate_left
        · intro w'
          go_simp
          with_reducible rfl
        rotate_left
        · simp only [Act.put, List.setIfInBounds_toArray, List.set_cons_zero, List.set_cons_succ, i64_w, i32_w]
          rfl
        refine one_ (i := 18) (N := some 56) #[true, true, true, true, true, true, true, true, true, true, true, true, true, true, true, true, true, true, true, false, false, false, false] rfl rfl (by kernel_rfl) (by decide) (fun K hK => ?_)
        refine call_ 19 #[.string q.f0, .int .i64 (wrap64 (q.f1 - q.f2)), .pointer (some ⟨w.heap.size, 0, none⟩), .pointer (some ⟨w1.heap.size, 0, none⟩)] (by rfl) rfl (by first | (go_simp; done) | (go_simp; rfl)) ?_
        with_reducible refine (take_calls w _ B F w.heap.size w1.heap.size ok _ vo lo va ps1 bk s1 os1 q.f0 (wrap64 (q.f1 - q.f2)) HR2.out (by have := HO.out; have := HI.out; have := HL.out; omega)).mono ?_
        rintro e w3 ⟨rfl, vo3, hr⟩
        have hat3 := hr.at_ i (by rw [HP.out]; exact hlt)
        rw [← HQ.out] at hat3
        obtain ⟨hy0, hy1, hy2, hy3⟩ := hat3
        have HR3 := Aside0.mk hr
        clear hr
        refine ⟨_, rfl, ?_⟩
        refine hK.out _ _ ⟨hy0, hy1, hy2⟩ (fun hHeld => ?_)
        clear hK K
        refine norm_ (a' := ?_) ?_ ?_
        rotate_left
        · show Act.put _ (some 56) _ = _
          simp only [Act.put, List.setIfInBounds_toArray, List.set_cons_zero, List.set_cons_succ, i64_w, i32_w]
          rfl
        refine pure_ (i := 19) (N := some 57) (v := ?_) (a' := ?_) #[true, true, true, true, true, true, true, true, true, true, true, true, true, true, true, true, true, true, true, true, false, false, false] rfl rfl (by kernel_rfl) (fun _ _ _ h => h) (Or.inl ⟨by rfl, ?_⟩) ?_ ?_
        rotate_left
        · intro w'
          go_simp
          with_reducible rfl
        rotate_left
        · simp only [Act.put, List.setIfInBounds_toArray, List.set_cons_zero, List.set_cons_succ, i64_w, i32_w]
          rfl
        refine pure_ (i := 20) (N := some 58) (v := ?_) (a' := ?_) #[true, true, true, true, true, true, true, true, true, true, true, true, true, true, true, true, true, true, true, true, true, false, false] rfl rfl (by kernel_rfl) (fun _ _ _ h => h) (Or.inl ⟨by rfl, ?_⟩) ?_ ?_
        rotate_left
        · intro w'
          go_simp
          with_reducible rfl
        rotate_left
        · simp only [Act.put, List.setIfInBounds_toArray, List.set_cons_zero, List.set_cons_succ, i64_w, i32_w]
          rfl
        refine pure_ (i := 21) (N := some 59) (v := ?_) (a' := ?_) #[true, true, true, true, true, true, true, true, true, true, true, true, true, true, true, true, true, true, true, true, true, true, false] rfl rfl (by kernel_rfl) (fun _ _ _ h => h) (Or.inl ⟨by rfl, ?_⟩) ?_ ?_
        rotate_left
        · intro w'
          go_simp
          with_reducible rfl
        rotate_left
        · simp only [Act.put, List.setIfInBounds_toArray, List.set_cons_zero, List.set_cons_succ, i64_w, i32_w]
          rfl
        refine last_ (i := 22) (N := none) #[true, true, true, true, true, true, true, true, true, true, true, true, true, true, true, true, true, true, true, true, true, true, true] rfl rfl (by kernel_rfl) (by decide) (fun K hK => ?_)
        refine skip_ (w1 := ?_) (by rfl) rfl ?_ ?_
        rotate_left
        · go_simp
          rfl
        refine hK.out _ _ ?_
        clear hK K
        refine done_ (by kernel_rfl) ?_
        have HB3 := Aside0.mk (HR3.out.back i (by rw [HP.out]; exact hlt) (wrap64 (q.f2 + mn s1 (wrap64 (q.f1 - q.f2)))))
        rw [← HQ.out] at HB3
        have HX2 := Aside0.mk (show recL (ps.length - (i + 1)) (i + 1) (ps1.set i ⟨q.f0, q.f1, wrap64 (q.f2 + mn s1 (wrap64 (q.f1 - q.f2)))⟩) (wrap64 (s1 - mn s1 (wrap64 (q.f1 - q.f2)))) (took os1 q.f0 (mn s1 (wrap64 (q.f1 - q.f2)))) = recL ps.length 0 ps s [] by
          rw [← HX.out, show ps.length - i = ps.length - (i + 1) + 1 by omega, recL, ← HQ.out])
        have HT := Aside0.mk (show (took os1 q.f0 (mn s1 (wrap64 (q.f1 - q.f2)))).length ≤ i + 1 by have := HO.out; unfold took; split <;> (try rw [List.length_append, List.length_singleton]) <;> omega)
        go_wp2
        go_roundw
        case rel => exact ⟨i + 1, vo3, _, _, _, by go_num, ⟨by omega⟩, ⟨by rw [List.length_set]; exact HP.out⟩, HT, HX2, HB3⟩
        case measure => simp [intOf]; omega
      · have hi : i = ps.length := by have := HI.out; omega
        have HX2 := Aside0.mk (show recL ps.length 0 ps s [] = (ps1, s1, os1) by rw [← HX.out, hi, Nat.sub_self]; rfl)
        have HE2 := Aside0.mk (show recF lo ps bk s = (ps1, wrap64 (bk + mn s1 (leftF lo ps bk)), took os1 ⟨#[]⟩ (mn s1 (leftF lo ps bk)), 0) by rw [HE.out, HX2.out])
        clear hi HE HX HX2
        have HR2 := Aside0.mk HR.out.drew
        go_wp2
        refine start_ (n := 11) (S := fun w' => w'.cell? ⟨F, 3, none⟩ = some (.int .i64 bk)) (ds := [10]) #[false, false, false, false, false, false, false, false, false, false, false] (by kernel_rfl) rfl rfl (hcb) (fun hHeld => ?_)
        refine pure_ (i := 0) (N := some 61) (v := ?_) (a' := ?_) #[true, false, false, false, false, false, false, false, false, false, false] rfl rfl (by kernel_rfl) (fun _ _ _ h => h) (Or.inl ⟨by rfl, ?_⟩) ?_ ?_
        rotate_left
        · intro w'
          go_simp
          with_reducible rfl
        rotate_left
        · simp only [Act.put, List.setIfInBounds_toArray, List.set_cons_zero, List.set_cons_succ, i64_w, i32_w]
          rfl
        refine pure_ (i := 1) (N := some 62) (v := ?_) (a' := ?_) #[true, true, false, false, false, false, false, false, false, false, false] rfl rfl (by kernel_rfl) (fun _ _ _ h => h) (Or.inl ⟨by rfl, ?_⟩) ?_ ?_
        rotate_left
        · intro w'
          go_simp
          with_reducible rfl
        rotate_left
        · simp only [Act.put, List.setIfInBounds_toArray, List.set_cons_zero, List.set_cons_succ, i64_w, i32_w]
          rfl
        refine pure_ (i := 2) (N := some 63) (v := ?_) (a' := ?_) #[true, true, true, false, false, false, false, false, false, false, false] rfl rfl (by kernel_rfl) (fun _ _ _ h => h) (Or.inl ⟨by rfl, ?_⟩) ?_ ?_
        rotate_left
        · intro w'
          go_simp
          with_reducible rfl
        rotate_left
        · simp only [Act.put, List.setIfInBounds_toArray, List.set_cons_zero, List.set_cons_succ, i64_w, i32_w]
          rfl
        refine pure_ (i := 4) (N := some 65) (v := ?_) (a' := ?_) #[true, true, true, false, true, false, false, false, false, false, false] rfl rfl (by kernel_rfl) (fun _ _ _ h => h) (Or.inl ⟨by rfl, ?_⟩) ?_ ?_
        rotate_left
        · intro w'
          go_simp
          with_reducible rfl
        rotate_left
        · simp only [Act.put, List.setIfInBounds_toArray, List.set_cons_zero, List.set_cons_succ, i64_w, i32_w]
          rfl
        refine pure_ (i := 5) (N := some 66) (v := ?_) (a' := ?_) #[true, true, true, false, true, true, false, false, false, false, false] rfl rfl (by kernel_rfl) (fun _ _ _ h => h) (Or.inl ⟨by rfl, ?_⟩) ?_ ?_
        rotate_left
        · intro w'
          go_simp
          with_reducible rfl
        rotate_left
        · simp only [Act.put, List.setIfInBounds_toArray, List.set_cons_zero, List.set_cons_succ, i64_w, i32_w]
          rfl
        refine take_ (i := 3) (N := some 64) (v := ?_) (a' := ?_) #[true, true, true, true, true, true, false, false, false, false, false] rfl rfl (by kernel_rfl) (fun _ _ _ h => h) (Or.inl ⟨by rfl, ?_⟩) hHeld ?_ ?_
        rotate_left
        · intro w' s0
          go_simp
          with_reducible rfl
        rotate_left
        · simp only [Act.put, List.setIfInBounds_toArray, List.set_cons_zero, List.set_cons_succ, i64_w, i32_w]
          rfl
        refine one_ (i := 6) (N := some 67) #[true, true, true, true, true, true, true, false, false, false, false] rfl rfl (by kernel_rfl) (by decide) (fun K hK => ?_)
        refine call_ 19 #[.string ⟨#[]⟩, .int .i64 (leftF lo ps bk), .pointer (some ⟨w.heap.size, 0, none⟩), .pointer (some ⟨w1.heap.size, 0, none⟩)] (by rfl) rfl (by first | (go_simp; done) | (go_simp; rfl)) ?_
        with_reducible refine (take_calls w _ B F w.heap.size w1.heap.size ok _ vo lo va ps1 bk s1 os1 ⟨#[]⟩ (leftF lo ps bk) HR2.out (by have := HO.out; have := HI.out; have := HL.out; omega)).mono ?_
        rintro e w3 ⟨rfl, vo3, hr⟩
        have hy3 : w3.cell? ⟨F, 3, none⟩ = some (.int .i64 bk) := (blk_cell hr.st.hF 3).trans rfl
        have hf3 := blk_frozen hr.st.hF 3
        have HR3 := Aside0.mk hr
        clear hr
        refine ⟨_, rfl, ?_⟩
        refine hK.out _ _ (hy3) (fun hHeld => ?_)
        clear hK K
        refine norm_ (a' := ?_) ?_ ?_
        rotate_left
        · show Act.put _ (some 67) _ = _
          simp only [Act.put, List.setIfInBounds_toArray, List.set_cons_zero, List.set_cons_succ, i64_w, i32_w]
          rfl
        refine pure_ (i := 7) (N := some 68) (v := ?_) (a' := ?_) #[true, true, true, true, true, true, true, true, false, false, false] rfl rfl (by kernel_rfl) (fun _ _ _ h => h) (Or.inl ⟨by rfl, ?_⟩) ?_ ?_
        rotate_left
        · intro w'
          go_simp
          with_reducible rfl
        rotate_left
        · simp only [Act.put, List.setIfInBounds_toArray, List.set_cons_zero, List.set_cons_succ, i64_w, i32_w]
          rfl
        refine pure_ (i := 8) (N := some 69) (v := ?_) (a' := ?_) #[true, true, true, true, true, true, true, true, true, false, false] rfl rfl (by kernel_rfl) (fun _ _ _ h => h) (Or.inl ⟨by rfl, ?_⟩) ?_ ?_
        rotate_left
        · intro w'
          go_simp
          with_reducible rfl
        rotate_left
        · simp only [Act.put, List.setIfInBounds_toArray, List.set_cons_zero, List.set_cons_succ, i64_w, i32_w]
          rfl
        refine pure_ (i := 9) (N := some 70) (v := ?_) (a' := ?_) #[true, true, true, true, true, true, true, true, true, true, false] rfl rfl (by kernel_rfl) (fun _ _ _ h => h) (Or.inl ⟨by rfl, ?_⟩) ?_ ?_
        rotate_left
        · intro w'
          go_simp
          with_reducible rfl
        rotate_left
        · simp only [Act.put, List.setIfInBounds_toArray, List.set_cons_zero, List.set_cons_succ, i64_w, i32_w]
          rfl
        refine last_ (i := 10) (N := none) #[true, true, true, true, true, true, true, true, true, true, true] rfl rfl (by kernel_rfl) (by decide) (fun K hK => ?_)
        refine skip_ (w1 := ?_) (by rfl) rfl ?_ ?_
        rotate_left
        · go_simp
          rfl
        refine hK.out _ _ ?_
        clear hK K
        refine done_ (by kernel_rfl) ?_
        have HB3 := Aside0.mk (HR3.out.own (wrap64 (bk + mn s1 (leftF lo ps bk))))
        have hcO : World.cell? _ ⟨w1.heap.size, 0, none⟩ = some vo3 := (blk_cell HB3.out.hO 0).trans rfl
        go_wp2
        go_ret2
        exact ⟨vo3, by rw [HE2.out]; rfl, by rw [HE2.out]; exact HB3.out.st, HB3.out.hk, by rw [HE2.out]; exact HB3.out.ro, HB3.out.hw⟩
end Go.Proofs.Ytjkipjfcfcpcmaa.Print
