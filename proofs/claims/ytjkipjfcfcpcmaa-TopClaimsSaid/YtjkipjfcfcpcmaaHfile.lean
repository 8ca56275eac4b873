/-
A file of a loss: its block, and the row of its payments; what its methods do.
-/
import Derived.Test.YtjkipjfcfcpcmaaPrint0
import Derived.WalkSpells
import Derived.Deep.RegionLaw
import Derived.Deep.LoopGhost
import Derived.Deep.RegionHeld3
import Derived.StillTailTactics
namespace Go.Proofs.Ytjkipjfcfcpcmaa.Print
open Go.RowKit Go.Proofs.YtjkipjfcfcpcmaaW.PrintWords Go.Proofs.YtjkipjfcfcpcmaaW.PrintLast Go.Proofs.YtjkipjfcfcpcmaaW.PrintMore
attribute [local go_sem] max2_int min2_int max_two min_two max_three min_three max_four min_four

/-- A file's block, and its payments' row. -/
structure Fst (W : World) (B F : Nat) (ok : Nat → Prop) (vp : Value) (lo va : Int) (ps : List S64) (bk : Int) : Prop where
  hF : W.heap[F]? = some (.cells #[.int .i64 lo, .int .i64 va, vp, .int .i64 bk] 60 (0, 0))
  rp : Kd.R k64 64 W B ok vp ps
  bF : B ≤ F

theorem set_blk' {W : World} {g t i : Nat} {cs : Array Value} (h : W.heap[g]? = some (.cells cs t (0, 0))) (v : Value) : (W.setCell ⟨g, i, none⟩ v).heap[g]? = some (.cells (cs.setIfInBounds i v) t (0, 0)) := by
  simp [World.setCell, Array.getElem?_modify, h]
theorem keep_blk' {W : World} {g g' t t' : Nat} {cs cs' : Array Value} (h : W.heap[g]? = some (.cells cs t (0, 0))) (h' : W.heap[g']? = some (.cells cs' t' (0, 0))) (ht : t ≠ t') (i : Nat) (v : Value) :
    (W.setCell ⟨g', i, none⟩ v).heap[g]? = some (.cells cs t (0, 0)) := (Below.heap_setCell W _ v g (blk_ne h h' ht)).trans h
theorem Fst.drew {W : World} {B F : Nat} {ok : Nat → Prop} {vp : Value} {lo va : Int} {ps : List S64} {bk : Int} (h : Fst W B F ok vp lo va ps bk) : Fst W.drew B F ok vp lo va ps bk :=
  ⟨h.hF, Kd.R_drew h.rp, h.bF⟩
theorem Fst.drewN {W : World} {B F : Nat} {ok : Nat → Prop} {vp : Value} {lo va : Int} {ps : List S64} {bk : Int} (h : Fst W B F ok vp lo va ps bk) (m : Nat) : Fst (W.drewN m) B F ok vp lo va ps bk :=
  ⟨h.hF, Kd.R_drewN h.rp m, h.bF⟩
theorem Fst.below {W W1 : World} {B F : Nat} {ok : Nat → Prop} {vp : Value} {lo va : Int} {ps : List S64} {bk : Int} (h : Fst W B F ok vp lo va ps bk) (hb : Below W.heap.size W W1) : Fst W1 B F ok vp lo va ps bk :=
  ⟨blk_below h.hF hb, Kd.R_below h.rp hb, h.bF⟩
theorem Fst.lt {W : World} {B F : Nat} {ok : Nat → Prop} {vp : Value} {lo va : Int} {ps : List S64} {bk : Int} (h : Fst W B F ok vp lo va ps bk) : F < W.heap.size := blk_lt h.hF

/-- What was paid, of the first ones. -/
def paidTo (ps : List S64) (i : Nat) : Int := (ps.take i).foldl (fun n p => wrap64 (n + p.f1)) 0
def paidF (ps : List S64) : Int := paidTo ps ps.length
theorem paidTo_succ (ps : List S64) (i : Nat) (h : i < ps.length) : paidTo ps (i + 1) = wrap64 (paidTo ps i + (rd_T64 ps i).f1) := by
  unfold paidTo
  rw [List.take_succ_eq_append_getElem h, List.foldl_append]
  simp [rd_T64, List.getD_eq_getElem?_getD, h]

set_option maxHeartbeats 4000000 in
set_option maxRecDepth 100000 in
theorem paid_calls (w : World) (B F : Nat) (ok : Nat → Prop) (vp : Value) (lo va : Int) (ps : List S64) (bk : Int) (hs : Fst w B F ok vp lo va ps bk) :
    Calls Try.prog 8 #[.pointer (some ⟨F, 0, none⟩)] w fun e w' => e = .returned (.int .i64 (paidF ps)) ∧ Below w.heap.size w w' := by
  have hu := Try.underlying64
  have hu2 := Try.underlying60
  obtain ⟨A, c, rfl⟩ := Kd.R_slice hs.rp
  have hcF := (blk_cell hs.hF 2).trans rfl
  have HR := Aside0.mk (Kd.R_reads' hs.rp).2.2
  have HM := Aside0.mk (Kd.C_max HR.out)
  clear hs
  go_enter Try.func8, Try.ntmps8
  go_wp2
  go_loopw [3, 11] (fun v3 v11 wr => ∃ i : Nat, v11 = .int .i64 i ∧ v3 = .int .i64 (paidTo ps i) ∧ Aside0 (i ≤ ps.length) ∧ Aside0 (Below w.heap.size w wr)) (fun _ v11 _ => ps.length - (intOf v11).toNat)
  case atStart => exact ⟨0, rfl, rfl, ⟨Nat.zero_le _⟩, ⟨Below.refl _ _⟩⟩
  case round =>
    obtain ⟨i, rfl, rfl, HI, HB⟩ := hrel
    have hm := HM.out
    by_cases hlt : i < ps.length
    · have h0 : (0 : Int) ≤ (i : Int) := by omega
      have h1 : (i : Int) < (ps.length : Int) := by omega
      obtain ⟨ad, rfl, hx0, hx1, hx2⟩ := at_T64 HR.out i h0 h1
      replace hx0 := (HB.out.cell (World.block_lt_of_cell? w _ hx0)).trans hx0
      replace hx1 := (HB.out.cell (World.block_lt_of_cell? w _ hx1)).trans hx1
      replace hx2 := (HB.out.cell (World.block_lt_of_cell? w _ hx2)).trans hx2
      have HS := Aside0.mk (paidTo_succ ps i hlt)
      obtain ⟨q, hq⟩ : ∃ q, q = rd_T64 ps (i : Int) := ⟨_, rfl⟩
      rw [← hq] at hx0 hx1 hx2 HS
      clear hq
      simp only [Int.toNat_natCast] at hx0 hx1 hx2
      obtain ⟨n, hn⟩ : ∃ n, n = paidTo ps i := ⟨_, rfl⟩
      rw [← hn] at HS ⊢
      clear hn
      go_wp2
      go_roundw
      case rel => exact ⟨i + 1, by go_num, by rw [HS.out], ⟨by omega⟩, ⟨below_alloc HB.out _⟩⟩
      case measure => simp [intOf]; omega
    · have e : paidTo ps i = paidF ps := by unfold paidF; rw [show i = ps.length by have := HI.out; omega]
      rw [e]
      clear e
      go_wp2
      go_ret
      exact ⟨rfl, HB.out⟩

/-- What is left to the insured. -/
def leftF (lo : Int) (ps : List S64) (bk : Int) : Int := wrap64 (wrap64 (lo - paidF ps) - bk)
theorem left_calls (w : World) (B F : Nat) (ok : Nat → Prop) (vp : Value) (lo va : Int) (ps : List S64) (bk : Int) (hs : Fst w B F ok vp lo va ps bk) :
    Calls Try.prog 17 #[.pointer (some ⟨F, 0, none⟩)] w fun e w' => e = .returned (.int .i64 (leftF lo ps bk)) ∧ Below w.heap.size w w' := by
  have hu2 := Try.underlying60
  have HS := Aside0.mk hs
  have hc0 : w.drew.cell? ⟨F, 0, none⟩ = some (.int .i64 lo) := (blk_cell hs.hF 0).trans rfl
  have hc3 : w.drew.cell? ⟨F, 3, none⟩ = some (.int .i64 bk) := (blk_cell hs.hF 3).trans rfl
  clear hs
  go_enter Try.func17, Try.ntmps17
  go_wp2
  go_region_held3 (fun w' => w'.cell? ⟨F, 0, none⟩ = some (.int .i64 lo) ∧ w'.cell? ⟨F, 3, none⟩ = some (.int .i64 bk)) (go_keep)
    ((go_at_call 8; refine (paid_calls _ B F ok vp lo va ps bk HS.out.drew).mono ?_; rintro e w1 ⟨rfl, hb⟩; replace hc0 := (hb.cell (p := ⟨F, 0, none⟩) HS.out.drew.lt).trans hc0; replace hc3 := (hb.cell (p := ⟨F, 3, none⟩) HS.out.drew.lt).trans hc3; have HB := Aside0.mk hb; clear hb))
  go_wp2
  go_ret
  exact ⟨by first | rfl | (simp only [i64_w, leftF]; rfl), below_step (below_drew1 (Below.refl _ _)) HB.out⟩

/-- What may still come back, of the first ones. -/
def outTo (n0 : Int) (ps : List S64) (i : Nat) : Int := (ps.take i).foldl (fun n p => wrap64 (n + wrap64 (p.f1 - p.f2))) n0
def outF (lo : Int) (ps : List S64) (bk : Int) : Int := outTo (leftF lo ps bk) ps ps.length
theorem outTo_succ (n0 : Int) (ps : List S64) (i : Nat) (h : i < ps.length) : outTo n0 ps (i + 1) = wrap64 (outTo n0 ps i + wrap64 ((rd_T64 ps i).f1 - (rd_T64 ps i).f2)) := by
  unfold outTo
  rw [List.take_succ_eq_append_getElem h, List.foldl_append]
  simp [rd_T64, List.getD_eq_getElem?_getD, h]

set_option maxHeartbeats 4000000 in
set_option maxRecDepth 100000 in
theorem out_calls (w : World) (B F : Nat) (ok : Nat → Prop) (vp : Value) (lo va : Int) (ps : List S64) (bk : Int) (hs : Fst w B F ok vp lo va ps bk) :
    Calls Try.prog 18 #[.pointer (some ⟨F, 0, none⟩)] w fun e w' => e = .returned (.int .i64 (outF lo ps bk)) ∧ Below w.heap.size w w' := by
  have hu := Try.underlying64
  have hu2 := Try.underlying60
  obtain ⟨A, c, rfl⟩ := Kd.R_slice hs.rp
  have HS := Aside0.mk hs
  have HR := Aside0.mk (Kd.R_reads' hs.rp).2.2
  have HM := Aside0.mk (Kd.C_max HR.out)
  clear hs
  go_enter Try.func18, Try.ntmps18
  go_wp2_with (go_at_call 17; refine (left_calls _ B F ok _ lo va ps bk HS.out).mono ?_; rintro e w0 ⟨rfl, hb⟩; have HB0 := Aside0.mk hb; have hcF := (blk_cell (blk_below HS.out.hF hb) 2).trans rfl; clear hb)
  go_loopw [3, 13] (fun v3 v13 wr => ∃ i : Nat, v13 = .int .i64 i ∧ v3 = .int .i64 (outTo (leftF lo ps bk) ps i) ∧ Aside0 (i ≤ ps.length) ∧ Aside0 (Below w.heap.size w wr)) (fun _ v13 _ => ps.length - (intOf v13).toNat)
  case atStart => exact ⟨0, rfl, rfl, ⟨Nat.zero_le _⟩, HB0⟩
  case round =>
    obtain ⟨i, rfl, rfl, HI, HB⟩ := hrel
    have hm := HM.out
    by_cases hlt : i < ps.length
    · have h0 : (0 : Int) ≤ (i : Int) := by omega
      have h1 : (i : Int) < (ps.length : Int) := by omega
      obtain ⟨ad, rfl, hx0, hx1, hx2⟩ := at_T64 HR.out i h0 h1
      replace hx0 := (HB.out.cell (World.block_lt_of_cell? w _ hx0)).trans hx0
      replace hx1 := (HB.out.cell (World.block_lt_of_cell? w _ hx1)).trans hx1
      replace hx2 := (HB.out.cell (World.block_lt_of_cell? w _ hx2)).trans hx2
      have HS2 := Aside0.mk (outTo_succ (leftF lo ps bk) ps i hlt)
      obtain ⟨q, hq⟩ : ∃ q, q = rd_T64 ps (i : Int) := ⟨_, rfl⟩
      rw [← hq] at hx0 hx1 hx2 HS2
      clear hq
      simp only [Int.toNat_natCast] at hx0 hx1 hx2
      obtain ⟨n, hn⟩ : ∃ n, n = outTo (leftF lo ps bk) ps i := ⟨_, rfl⟩
      rw [← hn] at HS2 ⊢
      clear hn
      go_wp2
      go_roundw
      case rel => exact ⟨i + 1, by go_num, by rw [HS2.out], ⟨by omega⟩, ⟨below_alloc HB.out _⟩⟩
      case measure => simp [intOf]; omega
    · have e : outTo (leftF lo ps bk) ps i = outF lo ps bk := by unfold outF; rw [show i = ps.length by have := HI.out; omega]
      rw [e]
      clear e
      go_wp2
      go_ret
      exact ⟨rfl, HB.out⟩

/-- May a file be of such numbers? -/
def newB (lo va : Int) : Bool := !(decide (va < 1) || decide (va > 1099511627776) || decide (lo < 0) || decide (lo > va))
set_option maxHeartbeats 1000000 in
theorem new_no (lo va : Int) (w : World) (h : newB lo va = false) :
    Calls Try.prog 6 #[.int .i64 lo, .int .i64 va] w fun e w' => e = .returned (.tuple #[.pointer none, .int .i64 1]) ∧ w' = w := by
  have h' : va < 1 ∨ va > 1099511627776 ∨ lo < 0 ∨ lo > va := by
    unfold newB at h
    simp at h
    omega
  clear h
  rcases h' with h | h | h | h
  all_goals
    have hd := decide_eq_true h
    go_enter Try.func6, Try.ntmps6
    go_wp2
    all_goals (go_ret2; exact ⟨rfl, rfl⟩)
set_option maxHeartbeats 1000000 in
theorem new_yes (lo va : Int) (w : World) (h : newB lo va = true) :
    Calls Try.prog 6 #[.int .i64 lo, .int .i64 va] w fun e w' => e = .returned (.tuple #[.pointer (some ⟨w.heap.size, 0, none⟩), .int .i64 0]) ∧ w' = w.alloc (.cells #[.int .i64 lo, .int .i64 va, .slice none 0 0, .int .i64 0] 60) := by
  have h' : ¬ va < 1 ∧ ¬ va > 1099511627776 ∧ ¬ lo < 0 ∧ ¬ lo > va := by
    unfold newB at h
    simp at h
    omega
  clear h
  obtain ⟨h1, h2, h3, h4⟩ := h'
  have d1 := decide_eq_false h1
  have d2 := decide_eq_false h2
  have d3 := decide_eq_false h3
  have d4 := decide_eq_false h4
  go_enter Try.func6, Try.ntmps6
  go_wp2
  go_ret2
  exact ⟨rfl, rfl⟩
end Go.Proofs.Ytjkipjfcfcpcmaa.Print
