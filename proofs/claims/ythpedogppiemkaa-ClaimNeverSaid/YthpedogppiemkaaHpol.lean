/-
Policies: may all of them be; a loss shared by them.
-/
import Derived.Test.YthpedogppiemkaaMmayk
import Derived.Test.YthpedogppiemkaaPrint3
import Derived.Test.YthpedogppiemkaaPrint3
import Derived.Test.YthpedogppiemkaaPrint3
import Derived.Test.YthpedogppiemkaaPrint8
import Derived.WalkSpells
import Derived.Deep.LoopGhost
namespace Go.Proofs.Ythpedogppiemkaa.Print
open Go.RowKit Go.Proofs.YthpedogppiemkaaW.PrintWords Go.Proofs.YthpedogppiemkaaW.PrintLast Go.Proofs.YthpedogppiemkaaW.PrintMore


set_option maxRecDepth 100000 in
theorem odd_calls (k : Nat) (q : S32) (b : Bool) (A5 : Option Addr) (c5 : Nat) (w : World) (hr : Kd.C (Kd.int .i64) w A5 q.f5.length q.f5) (hc : q.f5.length ≤ c5) (h : mayK k q = some b) :
    Calls Try.prog 27 #[.agg #[.string q.f0, .string q.f1, .string q.f2, .int .i64 q.f3, .int .i64 q.f4, .slice A5 q.f5.length c5, .int .i64 q.f6, .int .i64 q.f7, .int .i64 q.f8]] w fun e w' => e = .returned (.bool (!b)) ∧ Below w.heap.size w w' := by
  have hu3 := Try.underlying32
  have HR := Aside0.mk hr
  have HC := Aside0.mk hc
  have HM := Aside0.mk h
  clear hr hc h
  go_enter Try.func27, Try.ntmps27
  go_wp2_with (go_at_call 28; refine (policy_May.calls k _ _ _ _ _ _ _ _ _ _ _ b _ (Kd.C_alloc HR.out _) HC.out HM.out).mono ?_; rintro e w1 ⟨rfl, hb⟩; have HB := Aside0.mk hb; clear hb)
  go_ret
  exact ⟨rfl, below_step (below_alloc (Below.refl _ _) _) HB.out⟩

theorem any_take_p (p : S32 → Bool) (l : List S32) (k : Nat) (hk : k < l.length) : (l.take (k + 1)).any p = ((l.take k).any p || p (rd_T32 l (k : Int))) := by
  rw [List.take_succ_eq_append_getElem hk, List.any_append]
  simp [rd_T32, List.getD_eq_getElem?_getD, List.getElem?_eq_getElem hk]

set_option maxHeartbeats 4000000 in
set_option maxRecDepth 100000 in
theorem indexP_calls (r : Nat) (p : S32 → Bool) (w : World) (A : Option Addr) (c : Nat) (l : List S32) (hr : Kd.C k32 w A l.length l) (hp : ∀ x ∈ l, mayK r x = some (p x)) :
    Calls Try.prog 51 #[.slice A l.length c, .func (.func 27) #[] #[]] w
      fun e w' => ∃ i : Int, (e = .returned (.int .i64 i) ∧ Below w.heap.size w w') ∧ decide (0 ≤ i) = l.any (fun x => !p x) := by
  have hu3 := Try.underlying32
  have HR := Aside0.mk hr
  have HM := Aside0.mk (Kd.C_max HR.out)
  have hp0 := Aside0.mk hp
  clear hr hp
  go_enter Try.func51, Try.ntmps51
  go_wp2
  go_loopw [8] (fun v8 wr => ∃ k : Nat, v8 = .int .i64 k ∧ Aside0 (k ≤ l.length) ∧ Aside0 ((l.take k).any (fun x => !p x) = false) ∧ Aside0 (Below w.heap.size w wr)) (fun v8 _ => l.length - (intOf v8).toNat)
  case atStart => exact ⟨0, rfl, ⟨Nat.zero_le _⟩, ⟨by simp⟩, ⟨Below.refl _ _⟩⟩
  case round =>
    obtain ⟨k, rfl, HI, HA, HB⟩ := hrel
    have hm := HM.out
    by_cases hlt : k < l.length
    · have h0 : (0 : Int) ≤ (k : Int) := by omega
      have h1 : (k : Int) < (l.length : Int) := by omega
      obtain ⟨ad, A5, c5, rfl, hx0, hx1, hx2, hx3, hx4, hx5, hx6, hx7, hx8, hl5, hi5⟩ := at_T32 HR.out k h0 h1
      replace hx0 := (HB.out.cell (World.block_lt_of_cell? w _ hx0)).trans hx0
      replace hx1 := (HB.out.cell (World.block_lt_of_cell? w _ hx1)).trans hx1
      replace hx2 := (HB.out.cell (World.block_lt_of_cell? w _ hx2)).trans hx2
      replace hx3 := (HB.out.cell (World.block_lt_of_cell? w _ hx3)).trans hx3
      replace hx4 := (HB.out.cell (World.block_lt_of_cell? w _ hx4)).trans hx4
      replace hx5 := (HB.out.cell (World.block_lt_of_cell? w _ hx5)).trans hx5
      replace hx6 := (HB.out.cell (World.block_lt_of_cell? w _ hx6)).trans hx6
      replace hx7 := (HB.out.cell (World.block_lt_of_cell? w _ hx7)).trans hx7
      replace hx8 := (HB.out.cell (World.block_lt_of_cell? w _ hx8)).trans hx8
      have HI5 := Aside0.mk (Kd.C_below hi5 HB.out)
      have HL5 := Aside0.mk hl5
      clear hi5 hl5
      have HMK := Aside0.mk (hp0.out (rd_T32 l (k : Int)) (rd_mem_p l k hlt))
      have HS := Aside0.mk (any_take_p (fun x => !p x) l k hlt)
      obtain ⟨q, hq⟩ : ∃ q, q = rd_T32 l (k : Int) := ⟨_, rfl⟩
      rw [← hq] at hx0 hx1 hx2 hx3 hx4 hx5 hx6 hx7 hx8 HI5 HL5 HMK HS
      clear hq
      simp only [Int.toNat_natCast] at hx0 hx1 hx2 hx3 hx4 hx5 hx6 hx7 hx8
      have hq1 := odd_calls r q (p q) A5 c5 wr HI5.out HL5.out HMK.out
      cases hpx : p q with
      | false =>
        rw [hpx] at hq1
        have HPX := Aside0.mk hpx
        clear hpx
        have HQ := Aside0.mk hq1
        clear hq1
        go_wp2_with (go_at_call 27; refine HQ.out.mono ?_; rintro e w1 ⟨rfl, hb⟩; have HB1 := Aside0.mk (below_step HB.out hb); clear hb)
        go_ret
        refine ⟨k, ⟨rfl, HB1.out⟩, ?_⟩
        have : l.any (fun x => !p x) = true := by
          rw [← List.take_append_drop (k + 1) l, List.any_append, HS.out, HPX.out]; simp
        rw [this]; simp
      | true =>
        rw [hpx] at hq1
        have HPX := Aside0.mk hpx
        clear hpx
        have HQ := Aside0.mk hq1
        clear hq1
        go_wp2_with (go_at_call 27; refine HQ.out.mono ?_; rintro e w1 ⟨rfl, hb⟩; have HB1 := Aside0.mk (below_step HB.out hb); clear hb)
        go_roundw
        case rel => exact ⟨k + 1, by go_num, ⟨by omega⟩, ⟨by rw [HS.out, HA.out, HPX.out]; rfl⟩, HB1⟩
        case measure => simp [intOf]; omega
    · have HF := Aside0.mk (show l.any (fun x => !p x) = false by have := HA.out; rwa [List.take_of_length_le (by omega)] at this)
      go_wp2
      go_ret
      refine ⟨-1, ⟨rfl, HB.out⟩, ?_⟩
      rw [HF.out]; rfl

theorem containsP_calls (r : Nat) (p : S32 → Bool) (w : World) (A : Option Addr) (c : Nat) (l : List S32) (hr : Kd.C k32 w A l.length l) (hp : ∀ x ∈ l, mayK r x = some (p x)) :
    Calls Try.prog 29 #[.slice A l.length c, .func (.func 27) #[] #[]] w
      fun e w' => e = .returned (.bool (l.any (fun x => !p x))) ∧ Below w.heap.size w w' := by
  have h := indexP_calls r p w A c l hr hp
  clear hr hp
  go_enter Try.func29, Try.ntmps29
  go_wp2_with (go_at_call 51; refine h.mono ?_; rintro e w' ⟨i, ⟨rfl, hb⟩, hi⟩; have HI := Aside0.mk hi; have HB := Aside0.mk hb; clear hi hb)
  go_ret
  exact ⟨by rw [← HI.out]; rfl, HB.out⟩

/-- What one pays at most. -/
def lineP (x : S32) : Int := wrap64 (Int.tdiv (wrap64 (x.f3 * x.f8)) 1000)
def linesTo (l : List S32) (i : Nat) : List Int := (l.take i).map lineP
def lsumTo (l : List S32) (i : Nat) : Int := (l.take i).foldl (fun n x => wrap64 (n + lineP x)) 0
theorem linesTo_succ (l : List S32) (i : Nat) (h : i < l.length) : linesTo l (i + 1) = linesTo l i ++ [lineP (rd_T32 l (i : Int))] := by
  unfold linesTo
  rw [List.take_succ_eq_append_getElem h, List.map_append]
  simp [rd_T32, List.getD_eq_getElem?_getD, h]
theorem lsumTo_succ (l : List S32) (i : Nat) (h : i < l.length) : lsumTo l (i + 1) = wrap64 (lsumTo l i + lineP (rd_T32 l (i : Int))) := by
  unfold lsumTo
  rw [List.take_succ_eq_append_getElem h, List.foldl_append]
  simp [rd_T32, List.getD_eq_getElem?_getD, h]

/-- A loss shared by policies. -/
def shareP (p : S32 → Bool) (lo : Int) (l : List S32) : Option (List Int × Int) :=
  if l.length = 0 then some ([], 1)
  else if l.any (fun x => !p x) = true then some ([], 1)
  else if 0 ≤ lo ∧ lo ≤ 1099511627776 then
    if l.length > 4096 then some ([], 7)
    else if lo > lsumTo l l.length then some (linesTo l l.length, 0) else share_Split.f lo (linesTo l l.length)
  else some ([], 1)

set_option maxHeartbeats 8000000 in
set_option maxRecDepth 100000 in
theorem share_calls (r : Nat) (p : S32 → Bool) (w : World) (lo : Int) (A : Option Addr) (c : Nat) (l : List S32) (r1 : List Int) (r2 : Int) (hr : Kd.C k32 w A l.length l) (hp : ∀ x ∈ l, mayK r x = some (p x)) (h : shareP p lo l = some (r1, r2)) :
    Calls Try.prog 10 #[.int .i64 lo, .slice A l.length c] w fun e w' => ∃ v0_ : Value, e = .returned (.tuple #[v0_, .int .i64 r2]) ∧ Kd.R (Kd.int .i64) 2 w' w.heap.size (fun _ => True) v0_ r1 ∧ Below w.heap.size w w' := by
  have hu3 := Try.underlying32
  have HR := Aside0.mk hr
  have HP := Aside0.mk hp
  have HM := Aside0.mk (Kd.C_max HR.out)
  clear hr hp
  unfold shareP at h
  by_cases hl : l.length = 0
  · rw [if_pos hl] at h
    have H1 := Option.some.inj h
    simp only [Prod.mk.injEq] at H1
    obtain ⟨rfl, rfl⟩ := H1
    clear h
    obtain rfl := List.eq_nil_of_length_eq_zero hl
    clear hl
    go_enter Try.func10, Try.ntmps10
    go_wp2
    go_ret2
    exact ⟨_, rfl, Kd.R_nil _ _ _ _ _, Below.refl _ _⟩
  rw [if_neg hl] at h
  have hl0 : ((l.length : Int) == 0) = false := by simpa using (show ¬ (l.length : Int) = 0 by omega)
  have hl1 : (l.length == 0) = false := by simpa using hl
  cases ha : l.any (fun x => !p x) with
  | true =>
    rw [ha, if_pos rfl] at h
    have H1 := Option.some.inj h
    simp only [Prod.mk.injEq] at H1
    obtain ⟨rfl, rfl⟩ := H1
    clear h
    clear hl
    go_enter Try.func10, Try.ntmps10
    go_wp2_with (go_at_call 29; refine (containsP_calls r p _ A c l HR.out HP.out).mono ?_; rintro e w1 ⟨rfl, hb⟩; have HB1 := Aside0.mk hb; rw [ha]; clear hb)
    go_ret2
    exact ⟨_, rfl, Kd.R_nil _ _ _ _ _, HB1.out⟩
  | false =>
    rw [ha, if_neg (by simp)] at h
    by_cases hw : 0 ≤ lo ∧ lo ≤ 1099511627776
    · have HWI := Aside0.mk (show claim_within.f lo = some true by unfold claim_within.f; rw [if_pos hw.1, decide_eq_true hw.2])
      rw [if_pos hw] at h
      by_cases hf : l.length > 4096
      · rw [if_pos hf] at h
        have H1 := Option.some.inj h
        simp only [Prod.mk.injEq] at H1
        obtain ⟨rfl, rfl⟩ := H1
        clear h
        have hf0 : decide ((4096 : Int) < (l.length : Int)) = true := decide_eq_true (by omega)
        have hf1 : decide (4096 < l.length) = true := decide_eq_true hf
        clear hl hw hf
        go_enter Try.func10, Try.ntmps10
        go_wp2_with (first | (go_at_call 29; refine (containsP_calls r p _ A c l HR.out HP.out).mono ?_; rintro e w1 ⟨rfl, hb⟩; have HB1 := Aside0.mk hb; rw [ha]; clear hb) | (go_at_call 30; refine (claim_within.calls _ true _ HWI.out).mono ?_; rintro e w2 ⟨rfl, ⟨nd, rfl⟩⟩))
        go_ret2
        exact ⟨_, rfl, Kd.R_nil _ _ _ _ _, pw_below_drewN HB1.out nd⟩
      · rw [if_neg hf] at h
        have hf0 : decide ((4096 : Int) < (l.length : Int)) = false := decide_eq_false (by omega)
        have hf1 : decide (4096 < l.length) = false := decide_eq_false hf
        have HLL := Aside0.mk hf
        have HH := Aside0.mk h
        clear hl hw hf h
        go_enter Try.func10, Try.ntmps10
        go_wp2_with (first | (go_at_call 29; refine (containsP_calls r p _ A c l HR.out HP.out).mono ?_; rintro e w1 ⟨rfl, hb⟩; have HB1 := Aside0.mk hb; rw [ha]; clear hb) | (go_at_call 30; refine (claim_within.calls _ true _ HWI.out).mono ?_; rintro e w2 ⟨rfl, ⟨nd, rfl⟩⟩))
        go_loopw [7, 8, 29] (fun v7 v8 v29 wr => ∃ (i : Nat) (vl : Value), v29 = .int .i64 i ∧ v8 = .int .i64 (lsumTo l i) ∧ vl = v7 ∧ Aside0 (i ≤ l.length) ∧ Aside0 (Kd.R (Kd.int .i64) 2 wr w.heap.size (fun _ => True) vl (linesTo l i)) ∧ Aside0 (Below w.heap.size w wr)) (fun _ _ v29 _ => l.length - (intOf v29).toNat)
        case atStart => exact ⟨0, _, rfl, rfl, rfl, ⟨Nat.zero_le _⟩, ⟨Kd.R_nil _ _ _ _ _⟩, ⟨pw_below_drewN HB1.out nd⟩⟩
        case round =>
          obtain ⟨i, vl, rfl, rfl, rfl, HI, HO, HB⟩ := hrel
          have hm := HM.out
          by_cases hlt : i < l.length
          · have h0 : (0 : Int) ≤ (i : Int) := by omega
            have h1 : (i : Int) < (l.length : Int) := by omega
            obtain ⟨ad, A5, c5, rfl, hx0, hx1, hx2, hx3, hx4, hx5, hx6, hx7, hx8, hl5, hi5⟩ := at_T32 HR.out i h0 h1
            replace hx0 := (HB.out.cell (World.block_lt_of_cell? w _ hx0)).trans hx0
            replace hx1 := (HB.out.cell (World.block_lt_of_cell? w _ hx1)).trans hx1
            replace hx2 := (HB.out.cell (World.block_lt_of_cell? w _ hx2)).trans hx2
            replace hx3 := (HB.out.cell (World.block_lt_of_cell? w _ hx3)).trans hx3
            replace hx4 := (HB.out.cell (World.block_lt_of_cell? w _ hx4)).trans hx4
            replace hx5 := (HB.out.cell (World.block_lt_of_cell? w _ hx5)).trans hx5
            replace hx6 := (HB.out.cell (World.block_lt_of_cell? w _ hx6)).trans hx6
            replace hx7 := (HB.out.cell (World.block_lt_of_cell? w _ hx7)).trans hx7
            replace hx8 := (HB.out.cell (World.block_lt_of_cell? w _ hx8)).trans hx8
            have HI0 := Aside0.mk hi5
            have HI5 := Aside0.mk (Kd.C_below hi5 HB.out)
            have HL5 := Aside0.mk hl5
            clear hi5 hl5
            have HMK := Aside0.mk (HP.out (rd_T32 l (i : Int)) (rd_mem_p l i hlt))
            have HS := Aside0.mk (lsumTo_succ l i hlt)
            have HT := Aside0.mk (linesTo_succ l i hlt)
            obtain ⟨q, hq⟩ : ∃ q, q = rd_T32 l (i : Int) := ⟨_, rfl⟩
            clear HMK
            rw [← hq] at hx0 hx1 hx2 hx3 hx4 hx5 hx6 hx7 hx8 HI5 HL5 HI0 HS HT
            clear hq
            simp only [Int.toNat_natCast] at hx0 hx1 hx2 hx3 hx4 hx5 hx6 hx7 hx8
            obtain ⟨n, hn⟩ : ∃ n, n = lsumTo l i := ⟨_, rfl⟩
            rw [← hn] at HS ⊢
            clear hn
            go_wp2_with (first | ((with_reducible refine gate_builtin (b := .append) (xs := #[.tmp 33, .tmp 36]) rfl ?_); at_builtin; refine Kd.R_append (Kd.int .i64) (w0 := w) w.heap.size rfl (.tmp 33) (.tmp 36) 25 2 (.int .i64 0) 8 rfl Try.underlying25 info2 rfl (by decide) (by omega) vl (linesTo l i) (lineP q) [.int .i64 (lineP q)] (fun _ => True) (fun _ => False) rfl rfl rfl (fun _ hk => hk.elim) (fun _ _ => trivial) (Kd.R_below (Kd.R_alloc HO.out _) HB3.out) (below_step (below_alloc HB.out _) HB3.out) (below_step (below_alloc HB.out _) HB3.out).size (by have := HLL.out; have := HI.out; unfold linesTo; rw [List.length_map, List.length_take]; omega) ?_; intro v1 w5 ho hb hg hat; obtain ⟨A1, n1, c1, rfl⟩ : ∃ A n c, v1 = Value.slice A n c := (by obtain ⟨A, c, e⟩ := Kd.R_slice ho; exact ⟨A, _, c, e⟩); have HG5 := Aside0.mk (blk_grown (blk_below (blk_new wr (.cells #[.string q.f0, .string q.f1, .string q.f2, .int .i64 q.f3, .int .i64 q.f4, .slice A5 q.f5.length c5, .int .i64 q.f6, .int .i64 q.f7, .int .i64 q.f8] 32 (0, 0))) HB3.out) hg (Kd.R_ne (Kd.R_below (Kd.R_alloc HO.out _) HB3.out) (blk_below (blk_new wr (.cells #[.string q.f0, .string q.f1, .string q.f2, .int .i64 q.f3, .int .i64 q.f4, .slice A5 q.f5.length c5, .int .i64 q.f6, .int .i64 q.f7, .int .i64 q.f8] 32 (0, 0))) HB3.out) (by decide))); have hy0 : w5.cell? ⟨wr.heap.size, 0, none⟩ = some (.string q.f0) := (blk_cell HG5.out 0).trans rfl; have hy1 : w5.cell? ⟨wr.heap.size, 1, none⟩ = some (.string q.f1) := (blk_cell HG5.out 1).trans rfl; have hy2 : w5.cell? ⟨wr.heap.size, 2, none⟩ = some (.string q.f2) := (blk_cell HG5.out 2).trans rfl; have hy3 : w5.cell? ⟨wr.heap.size, 3, none⟩ = some (.int .i64 q.f3) := (blk_cell HG5.out 3).trans rfl; have hy4 : w5.cell? ⟨wr.heap.size, 4, none⟩ = some (.int .i64 q.f4) := (blk_cell HG5.out 4).trans rfl; have hy5 : w5.cell? ⟨wr.heap.size, 5, none⟩ = some (.slice A5 q.f5.length c5) := (blk_cell HG5.out 5).trans rfl; have hy6 : w5.cell? ⟨wr.heap.size, 6, none⟩ = some (.int .i64 q.f6) := (blk_cell HG5.out 6).trans rfl; have hy7 : w5.cell? ⟨wr.heap.size, 7, none⟩ = some (.int .i64 q.f7) := (blk_cell HG5.out 7).trans rfl; have hy8 : w5.cell? ⟨wr.heap.size, 8, none⟩ = some (.int .i64 q.f8) := (blk_cell HG5.out 8).trans rfl; have HI6 := Aside0.mk (Kd.C_below HI0.out hb); have HO5 := Aside0.mk ho; have HB5 := Aside0.mk hb; clear ho hb hg hat) | (go_at_call 31; refine (claim_line.calls _ _ _ _ _ _ _ _ _ _ _ (lineP q) _ (Kd.C_alloc HI5.out _) HL5.out rfl).mono ?_; rintro e w3 ⟨rfl, hb⟩; have HB3 := Aside0.mk hb; clear hb) | (go_at_call 31; refine (claim_line.calls _ _ _ _ _ _ _ _ _ _ _ (lineP q) _ HI6.out HL5.out rfl).mono ?_; rintro e w6 ⟨rfl, hb⟩; have HB6 := Aside0.mk (below_step HB5.out hb); have HO6 := Aside0.mk (Kd.R_below HO5.out hb); clear hb))
            go_roundw
            case rel => exact ⟨i + 1, _, by go_num, by rw [HS.out], rfl, ⟨by omega⟩, ⟨by rw [HT.out]; exact HO6.out⟩, HB6⟩
            case measure => simp [intOf]; omega
          · have hi : i = l.length := by have := HI.out; omega
            rw [hi] at HO ⊢
            clear hi HI
            have hh := HH.out
            obtain ⟨Av, cv, rfl⟩ := Kd.R_slice HO.out
            by_cases hg : lo > lsumTo l l.length
            · rw [if_pos hg] at hh
              have H1 := Option.some.inj hh
              simp only [Prod.mk.injEq] at H1
              obtain ⟨hr1, rfl⟩ := H1
              have HR1 := Aside0.mk hr1
              clear hr1 hh
              have hg0 : decide (lsumTo l l.length < lo) = true := decide_eq_true hg
              clear hg
              go_wp2
              go_ret2
              exact ⟨_, rfl, by rw [← HR1.out]; exact HO.out, HB.out⟩
            · rw [if_neg hg] at hh
              have HH2 := Aside0.mk hh
              clear hh
              have hg0 : decide (lsumTo l l.length < lo) = false := decide_eq_false hg
              clear hg
              go_wp2_with (go_at_call 32; refine (share_Split.calls lo Av cv (linesTo l l.length) r1 r2 _ (Kd.R_reads' HO.out).2.2 (Kd.R_reads' HO.out).2.1 HH2.out).mono ?_; rintro e w9 ⟨v9, rfl, ho, hb⟩; have HO9 := Aside0.mk ho; have HB9 := Aside0.mk hb; clear ho hb)
              go_ret2
              exact ⟨_, rfl, Kd.R_lower HO9.out HB.out.size, below_step HB.out HB9.out⟩
    · rw [if_neg hw] at h
      have H1 := Option.some.inj h
      simp only [Prod.mk.injEq] at H1
      obtain ⟨rfl, rfl⟩ := H1
      clear h
      have HWI := Aside0.mk (show claim_within.f lo = some false by
        unfold claim_within.f
        by_cases h0 : lo ≥ 0
        · rw [if_pos h0, decide_eq_false (by omega)]
        · rw [if_neg h0])
      clear hl hw
      go_enter Try.func10, Try.ntmps10
      go_wp2_with (first | (go_at_call 29; refine (containsP_calls r p _ A c l HR.out HP.out).mono ?_; rintro e w1 ⟨rfl, hb⟩; have HB1 := Aside0.mk hb; rw [ha]; clear hb) | (go_at_call 30; refine (claim_within.calls _ false _ HWI.out).mono ?_; rintro e w2 ⟨rfl, ⟨nd, rfl⟩⟩))
      go_ret2
      exact ⟨_, rfl, Kd.R_nil _ _ _ _ _, pw_below_drewN HB1.out nd⟩
theorem shareP_congr (p p' : S32 → Bool) (lo : Int) (l : List S32) (h : ∀ x ∈ l, p x = p' x) : shareP p lo l = shareP p' lo l := by
  unfold shareP
  have : l.any (fun x => !p x) = l.any (fun x => !p' x) := by
    rw [Bool.eq_iff_iff, List.any_eq_true, List.any_eq_true]
    exact ⟨fun ⟨x, hx, e⟩ => ⟨x, hx, by rw [← h x hx]; exact e⟩, fun ⟨x, hx, e⟩ => ⟨x, hx, by rw [h x hx]; exact e⟩⟩
  rw [this]
end Go.Proofs.Ythpedogppiemkaa.Print
