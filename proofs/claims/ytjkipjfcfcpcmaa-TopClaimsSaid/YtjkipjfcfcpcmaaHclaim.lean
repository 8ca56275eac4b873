/-
A claim of an insurer: who was claimed of already; what is paid.
-/
import Derived.Test.YtjkipjfcfcpcmaaHfile
import Derived.Test.YtjkipjfcfcpcmaaPrint9
namespace Go.Proofs.Ytjkipjfcfcpcmaa.Print
open Go.RowKit Go.Proofs.YtjkipjfcfcpcmaaW.PrintWords Go.Proofs.YtjkipjfcfcpcmaaW.PrintLast Go.Proofs.YtjkipjfcfcpcmaaW.PrintMore
attribute [local go_sem] max2_int min2_int max_two min_two max_three min_three max_four min_four

theorem info64 : (Try.prog.info? 64).map (fun i => (i.zero, i.size, i.bytes)) = some (some (.agg #[(.string ⟨#[]⟩), (.int .i64 0), (.int .i64 0)]), 3, 32) := by kernel_rfl
set_option maxRecDepth 100000 in
theorem claim1_calls (x : S64) (nm : ByteArray) (b : Nat) (w : World) (hb : w.cell? ⟨b, 0, none⟩ = some (.string nm)) :
    Calls Try.prog 15 #[.agg #[.string x.f0, .int .i64 x.f1, .int .i64 x.f2], .pointer (some ⟨b, 0, none⟩)] w fun e w' => e = .returned (.bool (x.f0.toList == nm.toList)) ∧ Below w.heap.size w w' := by
  have hu := Try.underlying64
  have hb2 : ∀ o, (w.alloc o).cell? ⟨b, 0, none⟩ = some (.string nm) := fun o => (World.cell?_alloc_lt _ _ _ (World.block_lt_of_cell? w _ hb)).trans hb
  clear hb
  go_enter Try.func15, Try.ntmps15
  go_wp2
  go_ret
  exact ⟨rfl, below_alloc (Below.refl _ _) _⟩

def named (nm : ByteArray) (p : S64) : Bool := p.f0.toList == nm.toList
theorem any_take_succ' (p : S64 → Bool) (l : List S64) (k : Nat) (hk : k < l.length) : (l.take (k + 1)).any p = ((l.take k).any p || p (rd_T64 l (k : Int))) := by
  rw [List.take_succ_eq_append_getElem hk, List.any_append]
  simp [rd_T64, List.getD_eq_getElem?_getD, List.getElem?_eq_getElem hk]

set_option maxHeartbeats 4000000 in
set_option maxRecDepth 100000 in
theorem index_calls (w : World) (A : Option Addr) (c : Nat) (ps : List S64) (nm : ByteArray) (b : Nat) (hr : Kd.C k64 w A ps.length ps) (hb : w.cell? ⟨b, 0, none⟩ = some (.string nm)) :
    Calls Try.prog 31 #[.slice A ps.length c, .func (.func 15) #[] #[.pointer (some ⟨b, 0, none⟩)]] w
      fun e w' => ∃ i : Int, (e = .returned (.int .i64 i) ∧ Below w.heap.size w w') ∧ decide (0 ≤ i) = ps.any (named nm) := by
  have hu := Try.underlying64
  have HR := Aside0.mk hr
  have HM := Aside0.mk (Kd.C_max HR.out)
  have HC := Aside0.mk hb
  clear hr hb
  go_enter Try.func31, Try.ntmps31
  go_wp2
  go_loopw [8] (fun v8 wr => ∃ k : Nat, v8 = .int .i64 k ∧ Aside0 (k ≤ ps.length) ∧ Aside0 ((ps.take k).any (named nm) = false) ∧ Aside0 (Below w.heap.size w wr)) (fun v8 _ => ps.length - (intOf v8).toNat)
  case atStart => exact ⟨0, rfl, ⟨Nat.zero_le _⟩, ⟨by simp⟩, ⟨Below.refl _ _⟩⟩
  case round =>
    obtain ⟨k, rfl, HI, HA, HB⟩ := hrel
    have hm := HM.out
    by_cases hlt : k < ps.length
    · have h0 : (0 : Int) ≤ (k : Int) := by omega
      have h1 : (k : Int) < (ps.length : Int) := by omega
      obtain ⟨ad, rfl, hx0, hx1, hx2⟩ := at_T64 HR.out k h0 h1
      replace hx0 := (HB.out.cell (World.block_lt_of_cell? w _ hx0)).trans hx0
      replace hx1 := (HB.out.cell (World.block_lt_of_cell? w _ hx1)).trans hx1
      replace hx2 := (HB.out.cell (World.block_lt_of_cell? w _ hx2)).trans hx2
      have HS := Aside0.mk (any_take_succ' (named nm) ps k hlt)
      have HC2 := Aside0.mk ((HB.out.cell (World.block_lt_of_cell? w _ HC.out)).trans HC.out)
      obtain ⟨q, hq⟩ : ∃ q, q = rd_T64 ps (k : Int) := ⟨_, rfl⟩
      rw [← hq] at hx0 hx1 hx2 HS
      clear hq
      simp only [Int.toNat_natCast] at hx0 hx1 hx2
      have hq1 := claim1_calls q nm b wr HC2.out
      have HN := Aside0.mk (show named nm q = (q.f0.toList == nm.toList) from rfl)
      cases hpx : (q.f0.toList == nm.toList) with
      | true =>
        rw [hpx] at hq1 HN
        clear hpx
        have HQ := Aside0.mk hq1
        clear hq1
        go_wp2_with (go_at_call 15; refine HQ.out.mono ?_; rintro e w1 ⟨rfl, hb⟩; have HB1 := Aside0.mk (below_step HB.out hb); clear hb)
        go_ret
        refine ⟨k, ⟨rfl, HB1.out⟩, ?_⟩
        have : ps.any (named nm) = true := by
          rw [← List.take_append_drop (k + 1) ps, List.any_append, HS.out, HN.out, Bool.or_true, Bool.true_or]
        rw [this]; simp
      | false =>
        rw [hpx] at hq1 HN
        clear hpx
        have HQ := Aside0.mk hq1
        clear hq1
        go_wp2_with (go_at_call 15; refine HQ.out.mono ?_; rintro e w1 ⟨rfl, hb⟩; have HB1 := Aside0.mk (below_step HB.out hb); clear hb)
        go_roundw
        case rel => exact ⟨k + 1, by go_num, ⟨by omega⟩, ⟨by rw [HS.out, HA.out, HN.out]; rfl⟩, HB1⟩
        case measure => simp [intOf]; omega
    · have HF := Aside0.mk (show ps.any (named nm) = false by have := HA.out; rwa [List.take_of_length_le (by omega)] at this)
      go_wp2
      go_ret
      refine ⟨-1, ⟨rfl, HB.out⟩, ?_⟩
      rw [HF.out]; rfl

theorem contains_calls (w : World) (A : Option Addr) (c : Nat) (ps : List S64) (nm : ByteArray) (b : Nat) (hr : Kd.C k64 w A ps.length ps) (hb : w.cell? ⟨b, 0, none⟩ = some (.string nm)) :
    Calls Try.prog 14 #[.slice A ps.length c, .func (.func 15) #[] #[.pointer (some ⟨b, 0, none⟩)]] w
      fun e w' => e = .returned (.bool (ps.any (named nm))) ∧ Below w.heap.size w w' := by
  have h := index_calls w A c ps nm b hr hb
  clear hr hb
  go_enter Try.func14, Try.ntmps14
  go_wp2_with (go_at_call 31; refine h.mono ?_; rintro e w' ⟨i, ⟨rfl, hb⟩, hi⟩; have HI := Aside0.mk hi; have HB := Aside0.mk hb; clear hi hb)
  go_ret
  exact ⟨by rw [← HI.out]; rfl, HB.out⟩

/-- A claim: the payments behind it, what is paid, and what is wrong. -/
def claimF (k : Nat) (lo va : Int) (ps : List S64) (bk : Int) (nm : ByteArray) (x : S33) : Option (List S64 × Int × Int) :=
  (policy_May.f k x.f0 x.f1 x.f2 x.f3 x.f4 x.f5 x.f6 x.f7 x.f8).bind fun m =>
    if m = true then
      if (nm.toList == x.f0.toList) = true then
        if ps.any (named nm) = true then some (ps, 0, 5)
        else if ps.length ≥ 4096 then some (ps, 0, 7)
        else (policy_Pays.f k x.f0 x.f1 x.f2 x.f3 x.f4 x.f5 x.f6 x.f7 x.f8 lo va).bind fun r => some (ps ++ [⟨nm, mn r.1 (leftF lo ps bk), 0⟩], mn r.1 (leftF lo ps bk), 0)
      else some (ps, 0, 8)
    else some (ps, 0, 1)

/-- What stands while a claim runs: its two variables, the policy's causes, the file. -/
structure Cst (w W : World) (B F : Nat) (ok : Nat → Prop) (vp : Value) (lo va : Int) (ps : List S64) (bk : Int) (nm : ByteArray) (x : S33) (A5 : Option Addr) (c5 : Nat) : Prop where
  h4 : W.heap[w.heap.size]? = some (.cells #[.string nm] 9 (0, 0))
  h5 : W.heap[w.heap.size + 1]? = some (.cells #[.string x.f0, .string x.f1, .string x.f2, .int .i64 x.f3, .int .i64 x.f4, .slice A5 x.f5.length c5, .int .i64 x.f6, .int .i64 x.f7, .int .i64 x.f8] 33 (0, 0))
  st : Fst W B F ok vp lo va ps bk
  r5 : Kd.C (Kd.int .i64) W A5 x.f5.length x.f5
  hb : Below w.heap.size w W
section
variable {w W W1 : World} {B F : Nat} {ok : Nat → Prop} {vp : Value} {lo va : Int} {ps : List S64} {bk : Int} {nm : ByteArray} {x : S33} {A5 : Option Addr} {c5 : Nat}
theorem Cst.start (hs : Fst w B F ok vp lo va ps bk) (h5 : Kd.C (Kd.int .i64) w A5 x.f5.length x.f5) :
    Cst w ((w.alloc (.cells #[.string nm] 9)).alloc (.cells #[.string x.f0, .string x.f1, .string x.f2, .int .i64 x.f3, .int .i64 x.f4, .slice A5 x.f5.length c5, .int .i64 x.f6, .int .i64 x.f7, .int .i64 x.f8] 33)) B F ok vp lo va ps bk nm x A5 c5 := by
  refine ⟨blk_alloc (blk_new w _) _, ?_, hs.below (below_alloc (below_alloc (Below.refl _ _) _) _), Kd.C_alloc (Kd.C_alloc h5 _) _, below_alloc (below_alloc (Below.refl _ _) _) _⟩
  have := blk_new (w.alloc (.cells #[.string nm] 9)) (.cells #[.string x.f0, .string x.f1, .string x.f2, .int .i64 x.f3, .int .i64 x.f4, .slice A5 x.f5.length c5, .int .i64 x.f6, .int .i64 x.f7, .int .i64 x.f8] 33 (0, 0))
  rwa [show (w.alloc (.cells #[.string nm] 9)).heap.size = w.heap.size + 1 by simp] at this
theorem Cst.below (h : Cst w W B F ok vp lo va ps bk nm x A5 c5) (hb : Below W.heap.size W W1) : Cst w W1 B F ok vp lo va ps bk nm x A5 c5 :=
  ⟨blk_below h.h4 hb, blk_below h.h5 hb, h.st.below hb, Kd.C_below h.r5 hb, below_step h.hb hb⟩
theorem Cst.drew (h : Cst w W B F ok vp lo va ps bk nm x A5 c5) : Cst w W.drew B F ok vp lo va ps bk nm x A5 c5 :=
  ⟨h.h4, h.h5, h.st.drew, Kd.C_drew h.r5, below_drew1 h.hb⟩
end

set_option maxHeartbeats 8000000 in
set_option maxRecDepth 100000 in
theorem claim_calls (k : Nat) (w : World) (B F : Nat) (ok : Nat → Prop) (vp : Value) (lo va : Int) (ps : List S64) (bk : Int) (nm : ByteArray) (x : S33) (A5 : Option Addr) (c5 : Nat) (ps' : List S64) (n er : Int)
    (hs : Fst w B F ok vp lo va ps bk) (hr5 : Kd.C (Kd.int .i64) w A5 x.f5.length x.f5) (hc5 : x.f5.length ≤ c5) (hB : B ≤ w.heap.size) (hok : ∀ k, w.heap.size ≤ k → ok k) (h : claimF k lo va ps bk nm x = some (ps', n, er)) :
    Calls Try.prog 7 #[.pointer (some ⟨F, 0, none⟩), .string nm, .agg #[.string x.f0, .string x.f1, .string x.f2, .int .i64 x.f3, .int .i64 x.f4, .slice A5 x.f5.length c5, .int .i64 x.f6, .int .i64 x.f7, .int .i64 x.f8]] w
      fun e w' => e = .returned (.tuple #[.int .i64 n, .int .i64 er]) ∧ ∃ vp', Fst w' B F ok vp' lo va ps' bk ∧ KeepBut w w' F vp.ownBlock ∧ (vp'.ownBlock = vp.ownBlock ∨ ∃ b, vp'.ownBlock = some b ∧ w.heap.size ≤ b) ∧ Below B w w' := by
  have hu := Try.underlying64
  have hu2 := Try.underlying60
  have hu3 := Try.underlying33
  unfold claimF at h
  obtain ⟨m, hm, H⟩ := Option.bind_eq_some_iff.1 h
  clear h
  obtain ⟨Ap, cp, rfl⟩ := Kd.R_slice hs.rp
  have HS := Aside0.mk (Cst.start (nm := nm) (c5 := c5) hs hr5)
  have HM := Aside0.mk hm
  have HC5 := Aside0.mk hc5
  have HOK := Aside0.mk hok
  have HBZ := Aside0.mk hB
  have HL := Aside0.mk (Kd.C_max (Kd.R_reads' hs.rp).2.2)
  clear hs hr5 hc5 hok hB hm
  cases m with
  | false =>
    rw [if_neg (by simp)] at H
    have H1 := Option.some.inj H
    simp only [Prod.mk.injEq] at H1
    obtain ⟨rfl, rfl, rfl⟩ := H1
    clear H
    go_enter Try.func7, Try.ntmps7
    go_wp2_with (go_at_call 13; refine (policy_May.calls k _ _ _ _ _ _ _ _ _ _ _ false _ HS.out.r5 HC5.out HM.out).mono ?_; rintro e w3 ⟨rfl, hb⟩; have HS3 := Aside0.mk (HS.out.below hb); clear hb)
    go_ret2
    exact ⟨rfl, _, HS3.out.st, KeepBut.of_below HS3.out.hb _ _, .inl rfl, HS3.out.hb.mono HBZ.out⟩
  | true =>
    rw [if_pos rfl] at H
    cases he : (nm.toList == x.f0.toList) with
    | false =>
      have he2 : (nm.toList != x.f0.toList) = true := by simp [bne, he]
      rw [he, if_neg (by simp)] at H
      have H1 := Option.some.inj H
      simp only [Prod.mk.injEq] at H1
      obtain ⟨rfl, rfl, rfl⟩ := H1
      clear H
      go_enter Try.func7, Try.ntmps7
      go_wp2_with (go_at_call 13; refine (policy_May.calls k _ _ _ _ _ _ _ _ _ _ _ true _ HS.out.r5 HC5.out HM.out).mono ?_; rintro e w3 ⟨rfl, hb⟩; have HS3 := Aside0.mk (HS.out.below hb); have hc4 : w3.cell? ⟨w.heap.size, 0, none⟩ = some (.string nm) := (blk_cell HS3.out.h4 0).trans rfl; have hc5 : w3.cell? ⟨w.heap.size + 1, 0, none⟩ = some (.string x.f0) := (blk_cell HS3.out.h5 0).trans rfl; clear hb)
      go_ret2
      exact ⟨rfl, _, HS3.out.st, KeepBut.of_below HS3.out.hb _ _, .inl rfl, HS3.out.hb.mono HBZ.out⟩
    | true =>
      have he2 : (nm.toList != x.f0.toList) = false := by simp [bne, he]
      rw [he, if_pos rfl] at H
      cases ha : ps.any (named nm) with
      | true =>
        rw [ha, if_pos rfl] at H
        have H1 := Option.some.inj H
        simp only [Prod.mk.injEq] at H1
        obtain ⟨rfl, rfl, rfl⟩ := H1
        clear H
        go_enter Try.func7, Try.ntmps7
        go_wp2_with (first | (go_at_call 13; refine (policy_May.calls k _ _ _ _ _ _ _ _ _ _ _ true _ HS.out.r5 HC5.out HM.out).mono ?_; rintro e w3 ⟨rfl, hb⟩; have HS3 := Aside0.mk (HS.out.below hb); have hc4 : w3.cell? ⟨w.heap.size, 0, none⟩ = some (.string nm) := (blk_cell HS3.out.h4 0).trans rfl; have hc5 : w3.cell? ⟨w.heap.size + 1, 0, none⟩ = some (.string x.f0) := (blk_cell HS3.out.h5 0).trans rfl; have hcp : w3.cell? ⟨F, 2, none⟩ = some (.slice Ap ps.length cp) := (blk_cell HS3.out.st.hF 2).trans rfl; clear hb) | (go_at_call 14; refine (contains_calls _ _ _ ps nm w.heap.size (Kd.R_reads' HS3.out.st.rp).2.2 ((blk_cell HS3.out.h4 0).trans rfl)).mono ?_; rintro e w4 ⟨rfl, hb⟩; have HS4 := Aside0.mk (HS3.out.below hb); have hcp4 : w4.cell? ⟨F, 2, none⟩ = some (.slice Ap ps.length cp) := (blk_cell HS4.out.st.hF 2).trans rfl; rw [ha]; clear hb))
        go_ret2
        exact ⟨rfl, _, HS4.out.st, KeepBut.of_below HS4.out.hb _ _, .inl rfl, HS4.out.hb.mono HBZ.out⟩
      | false =>
        rw [ha, if_neg (by simp)] at H
        by_cases hl : ps.length ≥ 4096
        · rw [if_pos hl] at H
          have H1 := Option.some.inj H
          simp only [Prod.mk.injEq] at H1
          obtain ⟨rfl, rfl, rfl⟩ := H1
          clear H
          have hl0 : decide ((4096 : Int) ≤ (ps.length : Int)) = true := decide_eq_true (by omega)
          have hl1 : decide (4096 ≤ ps.length) = true := decide_eq_true hl
          clear hl
          go_enter Try.func7, Try.ntmps7
          go_wp2_with (first | (go_at_call 13; refine (policy_May.calls k _ _ _ _ _ _ _ _ _ _ _ true _ HS.out.r5 HC5.out HM.out).mono ?_; rintro e w3 ⟨rfl, hb⟩; have HS3 := Aside0.mk (HS.out.below hb); have hc4 : w3.cell? ⟨w.heap.size, 0, none⟩ = some (.string nm) := (blk_cell HS3.out.h4 0).trans rfl; have hc5 : w3.cell? ⟨w.heap.size + 1, 0, none⟩ = some (.string x.f0) := (blk_cell HS3.out.h5 0).trans rfl; have hcp : w3.cell? ⟨F, 2, none⟩ = some (.slice Ap ps.length cp) := (blk_cell HS3.out.st.hF 2).trans rfl; clear hb) | (go_at_call 14; refine (contains_calls _ _ _ ps nm w.heap.size (Kd.R_reads' HS3.out.st.rp).2.2 ((blk_cell HS3.out.h4 0).trans rfl)).mono ?_; rintro e w4 ⟨rfl, hb⟩; have HS4 := Aside0.mk (HS3.out.below hb); have hcp4 : w4.cell? ⟨F, 2, none⟩ = some (.slice Ap ps.length cp) := (blk_cell HS4.out.st.hF 2).trans rfl; rw [ha]; clear hb))
          go_ret2
          exact ⟨rfl, _, HS4.out.st, KeepBut.of_below HS4.out.hb _ _, .inl rfl, HS4.out.hb.mono HBZ.out⟩
        · rw [if_neg hl] at H
          have HLL := Aside0.mk hl
          have hl0 : decide ((4096 : Int) ≤ (ps.length : Int)) = false := decide_eq_false (by omega)
          have hl1 : decide (4096 ≤ ps.length) = false := decide_eq_false hl
          clear hl
          obtain ⟨r, hr, H⟩ := Option.bind_eq_some_iff.1 H
          have HR := Aside0.mk hr
          have H1 := Option.some.inj H
          simp only [Prod.mk.injEq] at H1
          obtain ⟨hps, hn, rfl⟩ := H1
          rw [hn] at hps
          have HN := Aside0.mk hn
          have HPS := Aside0.mk hps
          clear hn hps
          clear H hr
          go_enter Try.func7, Try.ntmps7
          go_wp2_with (first | (go_at_call 13; refine (policy_May.calls k _ _ _ _ _ _ _ _ _ _ _ true _ HS.out.r5 HC5.out HM.out).mono ?_; rintro e w3 ⟨rfl, hb⟩; have HS3 := Aside0.mk (HS.out.below hb); have hc4 : w3.cell? ⟨w.heap.size, 0, none⟩ = some (.string nm) := (blk_cell HS3.out.h4 0).trans rfl; have hc5 : w3.cell? ⟨w.heap.size + 1, 0, none⟩ = some (.string x.f0) := (blk_cell HS3.out.h5 0).trans rfl; have hcp : w3.cell? ⟨F, 2, none⟩ = some (.slice Ap ps.length cp) := (blk_cell HS3.out.st.hF 2).trans rfl; clear hb) | (go_at_call 14; refine (contains_calls _ _ _ ps nm w.heap.size (Kd.R_reads' HS3.out.st.rp).2.2 ((blk_cell HS3.out.h4 0).trans rfl)).mono ?_; rintro e w4 ⟨rfl, hb⟩; have HS4 := Aside0.mk (HS3.out.below hb); have hcp4 : w4.cell? ⟨F, 2, none⟩ = some (.slice Ap ps.length cp) := (blk_cell HS4.out.st.hF 2).trans rfl; rw [ha]; clear hb))
          have HS5 := Aside0.mk HS4.out.drew
          have ql : w4.drew.cell? ⟨F, 0, none⟩ = some (.int .i64 lo) := (blk_cell HS5.out.st.hF 0).trans rfl
          have qv : w4.drew.cell? ⟨F, 1, none⟩ = some (.int .i64 va) := (blk_cell HS5.out.st.hF 1).trans rfl
          have q0 : w4.drew.cell? ⟨w.heap.size + 1, 0, none⟩ = some (.string x.f0) := (blk_cell HS5.out.h5 0).trans rfl
          have q1 : w4.drew.cell? ⟨w.heap.size + 1, 1, none⟩ = some (.string x.f1) := (blk_cell HS5.out.h5 1).trans rfl
          have q2 : w4.drew.cell? ⟨w.heap.size + 1, 2, none⟩ = some (.string x.f2) := (blk_cell HS5.out.h5 2).trans rfl
          have q3 : w4.drew.cell? ⟨w.heap.size + 1, 3, none⟩ = some (.int .i64 x.f3) := (blk_cell HS5.out.h5 3).trans rfl
          have q4 : w4.drew.cell? ⟨w.heap.size + 1, 4, none⟩ = some (.int .i64 x.f4) := (blk_cell HS5.out.h5 4).trans rfl
          have q5 : w4.drew.cell? ⟨w.heap.size + 1, 5, none⟩ = some (.slice A5 x.f5.length c5) := (blk_cell HS5.out.h5 5).trans rfl
          have q6 : w4.drew.cell? ⟨w.heap.size + 1, 6, none⟩ = some (.int .i64 x.f6) := (blk_cell HS5.out.h5 6).trans rfl
          have q7 : w4.drew.cell? ⟨w.heap.size + 1, 7, none⟩ = some (.int .i64 x.f7) := (blk_cell HS5.out.h5 7).trans rfl
          have q8 : w4.drew.cell? ⟨w.heap.size + 1, 8, none⟩ = some (.int .i64 x.f8) := (blk_cell HS5.out.h5 8).trans rfl
          go_region_held3 (fun w' => w'.cell? ⟨F, 0, none⟩ = some (.int .i64 lo) ∧ w'.cell? ⟨F, 1, none⟩ = some (.int .i64 va) ∧ w'.cell? ⟨w.heap.size + 1, 0, none⟩ = some (.string x.f0) ∧ w'.cell? ⟨w.heap.size + 1, 1, none⟩ = some (.string x.f1) ∧ w'.cell? ⟨w.heap.size + 1, 2, none⟩ = some (.string x.f2) ∧ w'.cell? ⟨w.heap.size + 1, 3, none⟩ = some (.int .i64 x.f3) ∧ w'.cell? ⟨w.heap.size + 1, 4, none⟩ = some (.int .i64 x.f4) ∧ w'.cell? ⟨w.heap.size + 1, 5, none⟩ = some (.slice A5 x.f5.length c5) ∧ w'.cell? ⟨w.heap.size + 1, 6, none⟩ = some (.int .i64 x.f6) ∧ w'.cell? ⟨w.heap.size + 1, 7, none⟩ = some (.int .i64 x.f7) ∧ w'.cell? ⟨w.heap.size + 1, 8, none⟩ = some (.int .i64 x.f8)) (go_keep)
            ((go_at_call 16; refine (policy_Pays.calls k _ _ _ _ _ _ _ _ _ _ _ _ _ r.1 r.2 _ HS5.out.r5 HC5.out HR.out).mono ?_; rintro e w5 ⟨rfl, hb⟩; have HS6 := Aside0.mk (HS5.out.below hb); clear hb; have zl : w5.cell? ⟨F, 0, none⟩ = some (.int .i64 lo) := (blk_cell HS6.out.st.hF 0).trans rfl; have zv : w5.cell? ⟨F, 1, none⟩ = some (.int .i64 va) := (blk_cell HS6.out.st.hF 1).trans rfl; have z0 : w5.cell? ⟨w.heap.size + 1, 0, none⟩ = some (.string x.f0) := (blk_cell HS6.out.h5 0).trans rfl; have z1 : w5.cell? ⟨w.heap.size + 1, 1, none⟩ = some (.string x.f1) := (blk_cell HS6.out.h5 1).trans rfl; have z2 : w5.cell? ⟨w.heap.size + 1, 2, none⟩ = some (.string x.f2) := (blk_cell HS6.out.h5 2).trans rfl; have z3 : w5.cell? ⟨w.heap.size + 1, 3, none⟩ = some (.int .i64 x.f3) := (blk_cell HS6.out.h5 3).trans rfl; have z4 : w5.cell? ⟨w.heap.size + 1, 4, none⟩ = some (.int .i64 x.f4) := (blk_cell HS6.out.h5 4).trans rfl; have z5 : w5.cell? ⟨w.heap.size + 1, 5, none⟩ = some (.slice A5 x.f5.length c5) := (blk_cell HS6.out.h5 5).trans rfl; have z6 : w5.cell? ⟨w.heap.size + 1, 6, none⟩ = some (.int .i64 x.f6) := (blk_cell HS6.out.h5 6).trans rfl; have z7 : w5.cell? ⟨w.heap.size + 1, 7, none⟩ = some (.int .i64 x.f7) := (blk_cell HS6.out.h5 7).trans rfl; have z8 : w5.cell? ⟨w.heap.size + 1, 8, none⟩ = some (.int .i64 x.f8) := (blk_cell HS6.out.h5 8).trans rfl))
          clear ql qv q0 q1 q2 q3 q4 q5 q6 q7 q8 zl zv z0 z1 z2 z3 z4 z5 z6 z7 z8
          by_cases hmn : leftF lo ps bk < r.1
          · have hmv : mn r.1 (leftF lo ps bk) = leftF lo ps bk := by unfold mn; rw [if_pos hmn]
            have HMV := Aside0.mk (HN.out.symm.trans hmv)
            clear hmv
            go_wp2_with (go_at_call 17; refine (left_calls _ B F ok _ lo va ps bk HS6.out.st).mono ?_; rintro e w6 ⟨rfl, hb⟩; have HS7 := Aside0.mk (HS6.out.below hb); clear hb)
            have HS8 := Aside0.mk HS7.out.drew
            have hcp7 : w6.cell? ⟨F, 2, none⟩ = some (.slice Ap ps.length cp) := (blk_cell HS7.out.st.hF 2).trans rfl
            have hcp8 : ∀ o, (w6.alloc o).cell? ⟨F, 2, none⟩ = some (.slice Ap ps.length cp) := fun o => (blk_cell (blk_alloc HS7.out.st.hF o) 2).trans rfl
            have hci7 : w6.cell? ⟨w.heap.size, 0, none⟩ = some (.string nm) := (blk_cell HS7.out.h4 0).trans rfl
            have hll := HLL.out
            go_region_law (refine Kd.R_append_step k64 (w0 := w) B (by rfl) (.tmp 54) (.tmp 58) 58 64 _ 32 rfl Try.underlying58 info64 rfl (by decide) (by decide) (.slice Ap ps.length cp) ps ⟨nm, leftF lo ps bk, 0⟩ [.string nm, .int .i64 (leftF lo ps bk), .int .i64 0] ok (fun _ => False) (by simp [Act.eval]) (by simp [Act.eval]) (k64_mkM _ _ _ _) (fun _ hk => hk.elim) (fun k hk => HOK.out k (Nat.le_trans HS8.out.hb.size hk)) HS8.out.st.rp (HS8.out.hb.mono HBZ.out) (Nat.le_trans HBZ.out HS8.out.hb.size) (by omega) ?_; intro v1 w7 ho hb hg hat; obtain ⟨A1, n1, c1, rfl⟩ : ∃ A n c, v1 = Value.slice A n c := (by obtain ⟨A, c, e⟩ := Kd.R_slice ho; exact ⟨A, _, c, e⟩); have hF7 := blk_grown HS8.out.st.hF hg (Kd.R_ne HS8.out.st.rp HS8.out.st.hF (by decide)); have hcF7 : w7.cell? ⟨F, 2, none⟩ = some (.slice Ap ps.length cp) := (blk_cell hF7 2).trans rfl; have hfF7 := blk_frozen hF7 2; have HO := Aside0.mk ho; have HG := Aside0.mk hg; have HA := Aside0.mk hat; have HF7 := Aside0.mk hF7; have HB7 := Aside0.mk hb; clear ho hb hg hat hF7)
            all_goals
              go_wp2
              go_ret2
              exact ⟨by rw [HMV.out]; rfl, _, ⟨set_blk' HF7.out _, by rw [← HPS.out, HMV.out]; exact Kd.R_set HO.out HF7.out (by decide) 2 _, HS8.out.st.bF⟩, ((KeepBut.of_below HS8.out.hb F _).trans (KeepBut.of_grown HG.out F) (.inl rfl)).set_ 2 _,
                HA.out.imp id (fun ⟨b, e, hb⟩ => ⟨b, e, Nat.le_trans HS8.out.hb.size hb⟩), HB7.out.setCell HS8.out.st.bF _⟩
          · have hmv : mn r.1 (leftF lo ps bk) = r.1 := by unfold mn; rw [if_neg hmn]
            have HMV := Aside0.mk (HN.out.symm.trans hmv)
            clear hmv
            go_wp2_with (go_at_call 17; refine (left_calls _ B F ok _ lo va ps bk HS6.out.st).mono ?_; rintro e w6 ⟨rfl, hb⟩; have HS7 := Aside0.mk (HS6.out.below hb); clear hb)
            have HS8 := Aside0.mk HS7.out.drew
            have hcp7 : w6.cell? ⟨F, 2, none⟩ = some (.slice Ap ps.length cp) := (blk_cell HS7.out.st.hF 2).trans rfl
            have hcp8 : ∀ o, (w6.alloc o).cell? ⟨F, 2, none⟩ = some (.slice Ap ps.length cp) := fun o => (blk_cell (blk_alloc HS7.out.st.hF o) 2).trans rfl
            have hci7 : w6.cell? ⟨w.heap.size, 0, none⟩ = some (.string nm) := (blk_cell HS7.out.h4 0).trans rfl
            have hll := HLL.out
            go_region_law (refine Kd.R_append_step k64 (w0 := w) B (by rfl) (.tmp 54) (.tmp 58) 58 64 _ 32 rfl Try.underlying58 info64 rfl (by decide) (by decide) (.slice Ap ps.length cp) ps ⟨nm, r.1, 0⟩ [.string nm, .int .i64 (r.1), .int .i64 0] ok (fun _ => False) (by simp [Act.eval]) (by simp [Act.eval]) (k64_mkM _ _ _ _) (fun _ hk => hk.elim) (fun k hk => HOK.out k (Nat.le_trans HS8.out.hb.size hk)) HS8.out.st.rp (HS8.out.hb.mono HBZ.out) (Nat.le_trans HBZ.out HS8.out.hb.size) (by omega) ?_; intro v1 w7 ho hb hg hat; obtain ⟨A1, n1, c1, rfl⟩ : ∃ A n c, v1 = Value.slice A n c := (by obtain ⟨A, c, e⟩ := Kd.R_slice ho; exact ⟨A, _, c, e⟩); have hF7 := blk_grown HS8.out.st.hF hg (Kd.R_ne HS8.out.st.rp HS8.out.st.hF (by decide)); have hcF7 : w7.cell? ⟨F, 2, none⟩ = some (.slice Ap ps.length cp) := (blk_cell hF7 2).trans rfl; have hfF7 := blk_frozen hF7 2; have HO := Aside0.mk ho; have HG := Aside0.mk hg; have HA := Aside0.mk hat; have HF7 := Aside0.mk hF7; have HB7 := Aside0.mk hb; clear ho hb hg hat hF7)
            all_goals
              go_wp2
              go_ret2
              exact ⟨by rw [HMV.out]; rfl, _, ⟨set_blk' HF7.out _, by rw [← HPS.out, HMV.out]; exact Kd.R_set HO.out HF7.out (by decide) 2 _, HS8.out.st.bF⟩, ((KeepBut.of_below HS8.out.hb F _).trans (KeepBut.of_grown HG.out F) (.inl rfl)).set_ 2 _,
                HA.out.imp id (fun ⟨b, e, hb⟩ => ⟨b, e, Nat.le_trans HS8.out.hb.size hb⟩), HB7.out.setCell HS8.out.st.bF _⟩
end Go.Proofs.Ytjkipjfcfcpcmaa.Print
