/-
The law that nobody gets more than the loss, walked.
-/
import Derived.Test.YthpedogppiemkaaHnev
import Derived.Deep.LoopGhost
import Derived.Deep.QuietTactic
import Derived.BigQuiet
import Derived.IntWalk
import Derived.WalkSpells
import Derived.Maps.RangeWalk
namespace Go.Proofs.Ythpedogppiemkaa.Print
open Go.RowKit Go.Maps Go.Proofs.YthpedogppiemkaaW.PrintWords Go.Proofs.YthpedogppiemkaaW.PrintLast Go.Proofs.YthpedogppiemkaaW.PrintMore

set_option maxHeartbeats 8000000 in
set_option maxRecDepth 100000 in
theorem never_few (w : World) (lo va : Int) (A : Option Addr) (c : Nat) (l : List S41) (hr : Kd.C k41 w A l.length l)
    (HAW : ∀ w : World, Calls Try.prog 8 #[] w fun e w' => e = .returned (.bool true) ∧ Below w.heap.size w w')
    (HFEW : ∀ w : World, Kd.C k41 w A l.length l → Calls Try.prog 12 #[.slice A l.length c] w fun e w' => e = .returned (.bool false) ∧ Drawn0 w w') :
    Calls Try.prog 4 #[.int .i64 lo, .int .i64 va, .slice A l.length c] w fun e w' => e = .returned (.bool true) ∧ Below w.heap.size w w' := by
  have HR := Aside0.mk hr
  have HA := Aside0.mk HAW
  have HF := Aside0.mk HFEW
  have HB := Aside0.mk (Below.refl w.heap.size w)
  clear hr HAW HFEW
  go_enter Try.func4, Try.ntmps4
  go_wp2_with (first
    | (go_at_call 8; refine (HA.out _).mono ?_; rintro e w1 ⟨rfl, hb⟩; have n_ := Aside0.mk (below_step HB.out hb); clear HB; have HB := n_; have n2_ := Aside0.mk (Kd.C_below HR.out hb); clear HR; have HR := n2_; clear n_ n2_ hb)
    | (go_at_call 12; refine (HF.out _ HR.out).mono ?_; rintro e w1 ⟨rfl, ⟨n1, rfl⟩⟩; have n_ := Aside0.mk (pw_below_drewN HB.out n1); clear HB; have HB := n_; have n2_ := Aside0.mk (Kd.C_drewN HR.out n1); clear HR; have HR := n2_; clear n_ n2_))
  go_ret
  exact ⟨rfl, HB.out⟩

set_option maxHeartbeats 8000000 in
set_option maxRecDepth 100000 in
theorem never_no (w : World) (lo va : Int) (A : Option Addr) (c : Nat) (l : List S41) (hr : Kd.C k41 w A l.length l) (hv : newB lo va = false)
    (HAW : ∀ w : World, Calls Try.prog 8 #[] w fun e w' => e = .returned (.bool true) ∧ Below w.heap.size w w')
    (HFEW : ∀ w : World, Kd.C k41 w A l.length l → Calls Try.prog 12 #[.slice A l.length c] w fun e w' => e = .returned (.bool true) ∧ Drawn0 w w') :
    Calls Try.prog 4 #[.int .i64 lo, .int .i64 va, .slice A l.length c] w fun e w' => e = .returned (.bool true) ∧ Below w.heap.size w w' := by
  have HR := Aside0.mk hr
  have HA := Aside0.mk HAW
  have HF := Aside0.mk HFEW
  have HV := Aside0.mk hv
  have HB := Aside0.mk (Below.refl w.heap.size w)
  clear hr HAW HFEW hv
  go_enter Try.func4, Try.ntmps4
  go_wp2_with (first
    | (go_at_call 8; refine (HA.out _).mono ?_; rintro e w1 ⟨rfl, hb⟩; have n_ := Aside0.mk (below_step HB.out hb); clear HB; have HB := n_; have n2_ := Aside0.mk (Kd.C_below HR.out hb); clear HR; have HR := n2_; clear n_ n2_ hb)
    | (go_at_call 12; refine (HF.out _ HR.out).mono ?_; rintro e w1 ⟨rfl, ⟨n1, rfl⟩⟩; have n_ := Aside0.mk (pw_below_drewN HB.out n1); clear HB; have HB := n_; have n2_ := Aside0.mk (Kd.C_drewN HR.out n1); clear HR; have HR := n2_; clear n_ n2_)
    | (go_at_call 13; refine (new_no lo va _ HV.out).mono ?_; rintro e w1 ⟨rfl, rfl⟩))
  go_ret
  exact ⟨rfl, HB.out⟩

theorem Nst.start {w W : World} (lo va : Int) (hb : Below w.heap.size w W) :
    Nst w (((W.alloc (.cells #[.int .i64 lo, .int .i64 va, .slice none 0 0, .int .i64 0] 78)).alloc (.map #[] 0)).alloc (.map #[] 0)) W.heap.size (W.heap.size + 1) (W.heap.size + 1 + 1) lo va (.slice none 0 0) [] 0 0 0 (fun _ => 0) (fun _ => 0) := by
  have e : (W.alloc (.cells #[.int .i64 lo, .int .i64 va, .slice none 0 0, .int .i64 0] 78)).heap.size = W.heap.size + 1 := by simp
  have e2 : ((W.alloc (.cells #[.int .i64 lo, .int .i64 va, .slice none 0 0, .int .i64 0] 78)).alloc (.map #[] 0)).heap.size = W.heap.size + 1 + 1 := by simp
  have h1 := Sums.new (W.alloc (.cells #[.int .i64 lo, .int .i64 va, .slice none 0 0, .int .i64 0] 78))
  have h2 := Sums.new ((W.alloc (.cells #[.int .i64 lo, .int .i64 va, .slice none 0 0, .int .i64 0] 78)).alloc (.map #[] 0))
  rw [e] at h1
  rw [e2] at h2
  have hs := hb.size
  refine ⟨⟨blk_alloc (blk_alloc (blk_new W _) _) _, Kd.R_nil _ _ _ _ _, hs⟩, h1.alloc _, h2, by omega, by omega, by omega, below_alloc (below_alloc (below_alloc hb _) _) _⟩

/-- The strings of an act aren't too long to be. -/
def SizedA (x : S41) : Prop := Sized1 x.f1 ∧ x.f0.size ≤ 9223372036854775807

set_option maxHeartbeats 8000000 in
set_option maxRecDepth 100000 in
theorem never_yes (w : World) (lo va : Int) (A : Option Addr) (c : Nat) (l : List S41) (hr : Kd.C k41 w A l.length l) (hv : newB lo va = true) (hs : ∀ x ∈ l, SizedA x) (hl : l.length ≤ 20)
    (HAW : ∀ w : World, Calls Try.prog 8 #[] w fun e w' => e = .returned (.bool true) ∧ Below w.heap.size w w')
    (HFEW : ∀ w : World, Kd.C k41 w A l.length l → Calls Try.prog 12 #[.slice A l.length c] w fun e w' => e = .returned (.bool true) ∧ Drawn0 w w') :
    Calls Try.prog 4 #[.int .i64 lo, .int .i64 va, .slice A l.length c] w fun e w' => e = .returned (.bool true) ∧ Below w.heap.size w w' := by
  have hmm := @run_makeMap Try.prog
  have HR0 := Aside0.mk hr
  have HR := Aside0.mk hr
  have HA := Aside0.mk HAW
  have HF := Aside0.mk HFEW
  have HV := Aside0.mk hv
  have HS := Aside0.mk hs
  have HB := Aside0.mk (Below.refl w.heap.size w)
  clear hr HAW HFEW hv hs
  go_enter Try.func4, Try.ntmps4
  go_wp2_with (first
    | (go_at_call 8; refine (HA.out _).mono ?_; rintro e w1 ⟨rfl, hb⟩; have n_ := Aside0.mk (below_step HB.out hb); clear HB; have HB := n_; have n2_ := Aside0.mk (Kd.C_below HR.out hb); clear HR; have HR := n2_; clear n_ n2_ hb)
    | (go_at_call 12; refine (HF.out _ HR.out).mono ?_; rintro e w1 ⟨rfl, ⟨n1, rfl⟩⟩; have n_ := Aside0.mk (pw_below_drewN HB.out n1); clear HB; have HB := n_; have n2_ := Aside0.mk (Kd.C_drewN HR.out n1); clear HR; have HR := n2_; clear n_ n2_)
    | (go_at_call 13; refine (new_yes lo va _ HV.out).mono ?_; rintro e w1 ⟨rfl, rfl⟩))
  have HT := Aside0.mk (Nst.start lo va HB.out)
  rw [show (w1.drewN n1).heap.size = w1.heap.size from rfl] at HT
  clear HR HB HA HF
  obtain ⟨F, hFA⟩ : ∃ F, F = w1.heap.size := ⟨_, rfl⟩
  rw [← hFA] at HT ⊢
  clear hFA
  have HV1 := HV.out
  have nf := new_facts HV1
  have HD := Aside0.mk (Told.new nf.2.2.1 (by omega))
  clear HV1
  go_loopw [11, 45] (fun v11 v45 wr => ∃ (i n1 n2 : Nat) (vp : Value) (ps : List S82) (bk : Int) (f g : ByteArray → Int), v45 = .int .i64 i ∧ v11 = .int .i64 (paidS ps) ∧ Aside0 (i ≤ l.length) ∧ Aside0 (ps.length ≤ i ∧ n1 ≤ i ∧ n2 ≤ i * 30) ∧ Aside0 (Told lo ps bk f g) ∧ Aside0 (Nst w wr F (F + 1) (F + 1 + 1) lo va vp ps bk n1 n2 f g)) (fun _ v45 _ => l.length - (intOf v45).toNat)
  case atStart => exact ⟨0, 0, 0, _, [], 0, _, _, rfl, rfl, ⟨Nat.zero_le _⟩, ⟨by simp⟩, HD, HT⟩
  case round =>
    clear HT HD
    obtain ⟨i, n1, n2, vp, ps, bk, f, g, rfl, rfl, HI, HN, HD, HT⟩ := hrel
    obtain ⟨al, hal⟩ : ∃ al, al = paidS ps := ⟨_, rfl⟩
    rw [← hal]
    have HAL := Aside0.mk hal
    clear hal
    by_cases hlt : i < l.length
    · have hC := Kd.C_below HR0.out HT.out.hb
      have h0 : (0 : Int) ≤ (i : Int) := by omega
      have h1 : (i : Int) < (l.length : Int) := by omega
      obtain ⟨ad, A5, c5, eA, hx0, hx1, hx2, hx3, hx4, hx5, hx6, hx7, hx8, hx9, hx10, hc5, hr5⟩ := at_T41 hC i h0 h1
      subst eA
      simp only [Int.toNat_natCast] at hx0 hx1 hx2 hx3 hx4 hx5 hx6 hx7 hx8 hx9 hx10
      obtain ⟨q, hq⟩ : ∃ q, q = rd_T41 l (i : Int) := ⟨_, rfl⟩
      rw [← hq] at hx0 hx1 hx2 hx3 hx4 hx5 hx6 hx7 hx8 hx9 hx10 hc5 hr5
      have HQ := Aside0.mk (show q ∈ l by rw [hq]; simp [rd_T41, List.getD_eq_getElem?_getD, hlt])
      have H5 := Aside0.mk hr5
      have HC5 := Aside0.mk hc5
      clear hq hr5 hc5 hC
      have hqs := HS.out q HQ.out
      have HT1 := Aside0.mk (HT.out.alloc (.cells #[.string q.f0, .string q.f1.f0, .string q.f1.f1, .string q.f1.f2, .int .i64 q.f1.f3, .int .i64 q.f1.f4, .slice A5 q.f1.f5.length c5, .int .i64 q.f1.f6, .int .i64 q.f1.f7, .int .i64 q.f1.f8, .int .i64 q.f2] 41))
      have HBK := Aside0.mk (blk_new wr (.cells #[.string q.f0, .string q.f1.f0, .string q.f1.f1, .string q.f1.f2, .int .i64 q.f1.f3, .int .i64 q.f1.f4, .slice A5 q.f1.f5.length c5, .int .i64 q.f1.f6, .int .i64 q.f1.f7, .int .i64 q.f1.f8, .int .i64 q.f2] 41 (0, 0)))
      have HV1 := HV.out
      have nf1 := new_facts HV1
      have hps := HD.out.ok.each.sums
      have hpl := HD.out.ok.left
      have hpb := HD.out.ok.bk0
      by_cases hz : q.f2 = 0
      · have hz0 : (q.f2 == 0) = true := by rw [hz]; rfl
        have hz1 : (q.f2 != 0) = false := by rw [hz]; rfl
        obtain ⟨r, hrr⟩ : ∃ r, r = claimP lo ps bk q.f0 q.f1 (mayOf q.f1) (paysN q.f1 lo va) := ⟨_, rfl⟩
        have hok := claim_ok q.f1 hqs.1 lo va HV1 ps bk HD.out.ok q.f0
        obtain ⟨k1, hk1⟩ := Ev.le (claim_ev q.f1 hqs.1 lo va HV1 ps bk HD.out.ok q.f0)
        rw [← hrr] at hk1 hok
        have hpm : mayOf q.f1 = true → paysN q.f1 lo va ≤ 1099511627776 ∧ paysN q.f1 lo va ≤ q.f1.f3 := fun h => by
          have := paysN_facts q.f1 ((may_of q.f1 hqs.1).2 h).1 lo va nf1.2.2.1 nf1.1
          omega
        have hmy : r.2.2 = 0 → mayOf q.f1 = true := fun h => by
          cases hm : mayOf q.f1 with
          | true => rfl
          | false =>
            rw [hrr] at h
            unfold claimP at h
            rw [hm, if_neg (by simp)] at h
            exact absurd h (show ¬ ((1 : Int) = 0) by decide)
        obtain ⟨ps1, n_, er⟩ := r
        have HK1 := Aside0.mk hk1
        have HOK := Aside0.mk hok
        clear hk1 hrr HV1 hz
        by_cases he : er = 0
        · have hm := hpm (hmy he)
          have hy := hok.yes he
          subst he
          have hn0 : 0 ≤ n_ := hok.pos
          have hn1 : n_ ≤ q.f1.f3 := Int.le_trans hy.2 hm.2
          have hn2 : n_ ≤ 1099511627776 := Int.le_trans hy.2 hm.1
          have hf0 : f q.f0 = 0 := (HD.out.f_ q.f0).trans hy.1
          have HF0 := Aside0.mk hf0
          have HAL2 := Aside0.mk (show paidS ps1 = al + n_ by rw [HAL.out]; exact hok.paid)
          have hal0 : 0 ≤ al := by rw [HAL.out]; omega
          have hal1 : al ≤ 1099511627776 := by rw [HAL.out]; omega
          have HQS := Aside0.mk hqs
          have HNF := Aside0.mk nf1
          clear hok hy hf0 hm hpm hmy hqs nf1 hps hpl hpb
          go_wp2_with (go_at_call 15; refine (claim_calls k1 _ w.heap.size F (fun _ => True) vp lo va ps bk q.f0 q.f1 A5 c5 ps1 n_ 0 HT1.out.st (Kd.C_alloc H5.out _) HC5.out HT1.out.hb.size (fun _ _ => trivial) HK1.out).mono ?_; rintro e w2 ⟨rfl, x', hs', hk', hx', hb'⟩; have HT2 := Aside0.mk (HT1.out.file hs' hk' hb'); have HB2 := Aside0.mk (HT1.out.blk_file HBK.out (by decide) (by decide) hk'); have hlk := HT2.out.m1.look q.f0 (by have := HQS.out.2; unfold maxLen; omega); rw [HF0.out] at hlk; obtain ⟨w3, hup, hs3, hg3⟩ := HT2.out.m1.put q.f0 (by have := HQS.out.2; unfold maxLen; omega) n_ (WalkArith.wf_i64 (by omega)) (by have := HN.out; unfold maxLen; omega); have HT3 := Aside0.mk (HT2.out.put1 hs3 hg3); have hb0 : w2.cell? ⟨wr.heap.size, 0, none⟩ = some (.string q.f0) := (blk_cell HB2.out 0).trans rfl; have hb4 : w2.cell? ⟨wr.heap.size, 4, none⟩ = some (.int .i64 q.f1.f3) := (blk_cell HB2.out 4).trans rfl; clear hs' hk' hx' hb' hs3 hg3)
          go_roundw
          case rel => exact ⟨i + 1, n1 + 1, n2, x', ps1, bk, _, g, by go_num, by rw [HAL2.out], ⟨by omega⟩, ⟨by have h1 := HOK.out.len; have h2 := HN.out; simp only at h1; omega⟩, ⟨HD.out.claim HOK.out⟩, HT3⟩
          case measure => simp [intOf]; omega
        · have hno := hok.no he
          simp only at hno
          obtain ⟨rfl, rfl⟩ := hno
          have he0 : (er == 0) = false := by simpa using he
          clear hok hpm hmy hqs nf1 hps hpl hpb
          clear he
          go_wp2_with (go_at_call 15; refine (claim_calls k1 _ w.heap.size F (fun _ => True) vp lo va ps1 bk q.f0 q.f1 A5 c5 ps1 0 er HT1.out.st (Kd.C_alloc H5.out _) HC5.out HT1.out.hb.size (fun _ _ => trivial) HK1.out).mono ?_; rintro e w2 ⟨rfl, x', hs', hk', hx', hb'⟩; have HT2 := Aside0.mk (HT1.out.file hs' hk' hb'); clear hs' hk' hx' hb')
          go_roundw
          case rel => exact ⟨i + 1, n1, n2, x', ps1, bk, f, g, by go_num, by rw [HAL.out], ⟨by omega⟩, ⟨by have := HN.out; omega⟩, HD, HT2⟩
          case measure => simp [intOf]; omega
      · have hz0 : (q.f2 == 0) = false := by simpa using hz
        have hz1 : (q.f2 != 0) = true := by simpa using hz
        have hrc := HD.out.ok.recd q.f2
        have hre := HD.out.ok.recF q.f2
        obtain ⟨r, hrr⟩ : ∃ r, r = recP lo ps bk q.f2 := ⟨_, rfl⟩
        rw [← hrr] at hrc hre
        obtain ⟨ps1, bk1, os, er⟩ := r
        have HRC := Aside0.mk hrc
        have HRE := Aside0.mk hre
        have HPL := Aside0.mk (show ps.length ≤ 4096 by have := HN.out; omega)
        have hsm := Recd.small HD.out.ok hrc
        have HSM := Aside0.mk hsm
        have HNM := Aside0.mk (HD.out.ok.ent_size hrc)
        have HQS := Aside0.mk hqs
        have hol : os.length ≤ 30 := by have h1 := hrc.elen; have h2 := HN.out; simp only at h1; omega
        clear hrc hre hrr HV1 nf1 hps hpl hpb hqs hz hsm
        obtain ⟨wo, rfl⟩ : ∃ wo : World, wo = wr := ⟨_, rfl⟩
        go_wp2_with (go_at_call 14; refine (recover_calls _ w.heap.size F (fun _ => True) vp lo va ps bk q.f2 HT1.out.st HPL.out HT1.out.hb.size).mono ?_; rw [HRE.out]; rintro e w2 ⟨vo, rfl, hs', hk', ho', hb'⟩; obtain ⟨Ao, co, rfl⟩ := Kd.R_slice ho'; have HT2 := Aside0.mk (HT1.out.file hs' hk' hb'); have HB2 := Aside0.mk (HT1.out.blk_file HBK.out (by decide) (by decide) hk'); have HO2 := Aside0.mk (Kd.R_lower ho' HT1.out.hb.size); clear hs' hk' ho' hb')
        clear HT HT1 HBK H5 HC5 hx0 hx1 hx2 hx3 hx4 hx5 hx6 hx7 hx8 hx9 hx10
        go_loopw [16, 61] (fun v16 v61 ws => ∃ (j m : Nat) (g' : ByteArray → Int), v61 = .int .i64 j ∧ v16 = .int .i64 (entA (os.take j)) ∧ Aside0 (j ≤ os.length) ∧ Aside0 (m ≤ n2 + j) ∧ Aside0 (∀ t, g' t = g t + entS (os.take j) t) ∧ Aside0 (Nst w ws F (F + 1) (F + 1 + 1) lo va vp ps1 bk1 n1 m f g') ∧ Aside0 (ws.heap[wo.heap.size]? = some (.cells (actCells q A5 c5) 41 (0, 0))) ∧ Aside0 (Kd.R k46 46 ws w.heap.size (fun _ => True) (.slice Ao os.length co) os)) (fun _ v61 _ => os.length - (intOf v61).toNat)
        case atStart => exact ⟨0, n2, g, rfl, rfl, ⟨Nat.zero_le _⟩, ⟨Nat.le_refl _⟩, ⟨fun t => by simp [entS]⟩, HT2, HB2, HO2⟩
        case round =>
          clear HT2 HB2 HO2
          obtain ⟨j, m, g', rfl, rfl, HJ, HM, HG, HT2, HB2, HO2⟩ := hrel
          by_cases hjl : j < os.length
          · have hC := (Kd.R_reads' HO2.out).2.2
            have hj0 : (0 : Int) ≤ (j : Int) := by omega
            have hj1 : (j : Int) < (os.length : Int) := by omega
            obtain ⟨ao, eA, hy0, hy1, hy2⟩ := at_T46 hC j hj0 hj1
            subst eA
            simp only [Int.toNat_natCast] at hy0 hy1 hy2
            have hes := entS_take os j hjl
            have hea := entA_take os j hjl
            obtain ⟨x, hx⟩ : ∃ x, x = rd_T46 os (j : Int) := ⟨_, rfl⟩
            rw [← hx] at hy0 hy1 hy2 hea
            have HX := Aside0.mk (show x ∈ os by rw [hx]; exact rd_mem_e os j hjl)
            rw [← hx] at hes
            have HES := Aside0.mk hes
            have HEA := Aside0.mk hea
            clear hx hes hea hC
            have hxn : x.f0.size ≤ 9223372036854775807 := HNM.out x HX.out
            have hz0 := HG.out x.f0
            have hes := entS_le (os.take j) (fun y hy => HRC.out.pos y (List.mem_of_mem_take hy)) x.f0
            have hea := entA_le os HRC.out.pos j
            have hgb := HD.out.g_bd x.f0
            have hsm := HSM.out
            have hxp := HRC.out.pos x HX.out
            have hea1 := HEA.out
            have hea2 := entA_le os HRC.out.pos (j + 1)
            obtain ⟨z, hz⟩ : ∃ z, z = g' x.f0 := ⟨_, rfl⟩
            obtain ⟨sm, hs⟩ : ∃ sm, sm = entA (os.take j) := ⟨_, rfl⟩
            rw [← hs]
            rw [← hs] at hea1
            have b1 : 0 ≤ z := by omega
            have b2 : z ≤ 2199023255552 := by omega
            have b3 : 0 ≤ sm := by omega
            have b4 : sm ≤ 1099511627776 := by omega
            have b5 : x.f2 ≤ 1099511627776 := by omega
            have HSZ := Aside0.mk hxn
            have HSS := Aside0.mk (show entA (os.take (j + 1)) = sm + x.f2 from hea1)
            have hlk := (HT2.out.m2.alloc (.cells #[.string x.f0, .string x.f1, .int .i64 x.f2] 46)).look x.f0 (by unfold maxLen; omega)
            rw [← hz] at hlk
            obtain ⟨w5, hup, hs5, hg5⟩ := (HT2.out.m2.alloc (.cells #[.string x.f0, .string x.f1, .int .i64 x.f2] 46)).put x.f0 (by unfold maxLen; omega) (z + x.f2) (WalkArith.wf_i64 (by omega)) (by have := HM.out; have := HN.out; have := HJ.out; have := HRC.out.elen; simp only at this; unfold maxLen; omega)
            have HT5 := Aside0.mk ((HT2.out.alloc _).put2 hs5 hg5)
            have HB5 := Aside0.mk ((HT2.out.alloc (.cells #[.string x.f0, .string x.f1, .int .i64 x.f2] 46)).blk_put2 (blk_alloc HB2.out _) hg5)
            have HO5 := Aside0.mk ((HT2.out.alloc (.cells #[.string x.f0, .string x.f1, .int .i64 x.f2] 46)).row_put2 (Kd.R_alloc HO2.out _) hg5)
            have hbx : w5.cell? ⟨wr.heap.size, 2, none⟩ = some (.int .i64 x.f2) := (blk_cell ((HT2.out.alloc (.cells #[.string x.f0, .string x.f1, .int .i64 x.f2] 46)).blk_put2 (blk_new wr (.cells #[.string x.f0, .string x.f1, .int .i64 x.f2] 46 (0, 0))) hg5) 2).trans rfl
            have HG5 := Aside0.mk (show ∀ t, putF g' x.f0 (z + x.f2) t = g t + entS (os.take (j + 1)) t by
              intro t
              rw [putF_eq, HES.out t, HG.out t, hz, HG.out x.f0]
              by_cases e : x.f0 = t
              · rw [if_pos e, if_pos e, e]; omega
              · rw [if_neg e, if_neg e]; omega)
            clear hz hs hz0 hes hea hgb hsm hea1 hea2 hs5 hg5 hxn
            go_wp2
            go_roundw
            case rel => exact ⟨j + 1, m + 1, _, by go_num, by rw [HSS.out], ⟨by omega⟩, ⟨by have := HM.out; omega⟩, HG5, HT5, HB5, HO5⟩
            case measure => simp [intOf]; omega
          · have e : j = os.length := by have := HJ.out; omega
            subst e
            have htk : os.take os.length = os := List.take_of_length_le (Nat.le_refl _)
            rw [htk] at HG ⊢
            have HTD := Aside0.mk (HD.out.recd HRC.out HG.out)
            have hc2 : wr.cell? ⟨wo.heap.size, 10, none⟩ = some (.int .i64 q.f2) := (blk_cell HB2.out 10).trans rfl
            by_cases he : er = 0
            · have hy := HRC.out.yes he
              simp only at hy
              rw [hy]
              subst he
              clear hjl htk hy
              go_wp2
              go_roundw
              case rel => exact ⟨i + 1, n1, m, vp, ps1, bk1, f, g', by go_num, by rw [HAL.out, HSM.out.2.2], ⟨by omega⟩, ⟨by have h1 := HRC.out.len; have h2 := HRC.out.elen; have := HN.out; have := HM.out; simp only at h1 h2; omega⟩, HTD, HT2⟩
              case measure => simp [intOf]; omega
            · have hno := HRC.out.no he
              simp only at hno
              subst hno
              have he0 : (er == 0) = false := by simpa using he
              have he1 : (er != 0) = true := by simpa using he
              clear hjl htk he
              go_wp2
              go_roundw
              case rel => exact ⟨i + 1, n1, m, vp, ps1, bk1, f, g', by go_num, by rw [HAL.out, HSM.out.2.2], ⟨by omega⟩, ⟨by have h1 := HRC.out.len; have := HN.out; have := HM.out; simp only at h1; simp only [List.length_nil] at this; omega⟩, HTD, HT2⟩
              case measure => simp [intOf]; omega
    · have e : i = l.length := by have := HI.out; omega
      subst e
      obtain ⟨wo, rfl⟩ : ∃ wo : World, wo = wr := ⟨_, rfl⟩
      have HT1 := Aside0.mk HT.out.one
      have hFr : F ≠ wo.heap.size := Nat.ne_of_lt HT.out.st.lt
      have hMr : F + 1 ≠ wo.heap.size := Nat.ne_of_lt HT.out.m1.lt
      have hvr : vp.ownBlock ≠ some wo.heap.size := fun e => by
        obtain ⟨cells, hc⟩ := Kd.R_typed HT.out.st.rp _ e
        have := blk_lt hc
        omega
      have HZR := Aside0.mk (show w.heap.size ≤ wo.heap.size from HT.out.hb.size)
      have HNE := Aside0.mk (And.intro hFr (And.intro hMr hvr))
      clear hFr hMr hvr hlt HI
      obtain ⟨D, hD, hG⟩ := HT.out.m2
      have HG := Aside0.mk hG
      have HDD := Aside0.mk hD
      clear hD hG HT
      go_wp2_with (first
        | (at_range; refine wpList_range_own _ rfl _ 39 rfl 9 2 keyS Try.underlying39 _ (F + 1 + 1) n2 D rfl HDD.out ?_; intro w0 hrg0 hg0 hs0)
        | go_in)
      have HRG := Aside0.mk hrg0
      have HT2 := Aside0.mk (HT1.out.below ⟨hg0.os, hg0.tape, hg0.output, hg0.size, fun i hi => hg0.block i hi (by simp)⟩)
      clear hrg0 hg0 hs0 HT1 HDD
      go_frame
      go_loopw [21] (fun _ ws => ∃ (left : Lit → Bool) (cnt : Nat), Aside0 (ws.ranges Try.prog 9 (plainElem Try.prog 2) (F + 1 + 1) wo.heap.size n2 D left cnt) ∧ Aside0 (Nst1 w ws F (F + 1) lo va vp ps bk n1 f)) (fun _ ws => ws.rangeLeft (F + 1 + 1) wo.heap.size)
      case atStart => exact ⟨_, _, HRG, HT2⟩
      case round =>
        clear HRG HT2
        obtain ⟨left, cnt, HRG, HT⟩ := hrel
        go_wp2_with (at_next; refine wpList_next_si _ rfl _ rfl (F + 1 + 1) wo.heap.size n2 D left cnt rfl HRG.out ?_ ?_)
        · have hfp := HD.out.ok.paid
          have hlf := HD.out.ok.left
          have hpb := HD.out.ok.bk0
          have hps := HD.out.ok.each.sums
          have hlo := HD.out.ok.lo1
          have hgs := HD.out.g_ ⟨#[]⟩
          rw [(by_empty HD.out.ok.nm).1, if_pos rfl, Int.zero_add] at hgs
          have HSM := Aside0.mk (show Sums wr (F + 1 + 1) n2 g from ⟨D, HRG.out.owns, HG.out⟩)
          have HGS := Aside0.mk hgs
          have hpc := paid_calls wr w.heap.size F (fun _ => True) vp lo va ps bk HT.out.st
          rw [hfp, ← HAL.out] at hpc
          rw [← HAL.out] at hlf hps
          have b0 : 0 ≤ al := by omega
          have b1 : al ≤ 1099511627776 := by omega
          have b2 : bk ≤ 1099511627776 := by omega
          have HPC := Aside0.mk hpc
          clear hfp hgs hpc hps hlo
          go_wp2_with (go_at_call 16; refine HPC.out.mono ?_; rintro e w6 ⟨rfl, hb⟩; have HT6 := Aside0.mk (HT.out.below hb); have hlk := (HSM.out.below hb HSM.out.lt).look ⟨#[]⟩ (by decide); rw [HGS.out] at hlk; clear hb)
          go_ret
          exact ⟨rfl, HT6.out.hb⟩
        · intro s c1 w5 left' cnt' hs hc hrg5 hlt5 hg5 hen
          have hcg := hc g HG.out
          have HT5 := Aside0.mk (HT.out.grown hg5 HZR.out HNE.out.1 HNE.out.2.1 HNE.out.2.2)
          have HRG5 := Aside0.mk hrg5
          have hlk := HT5.out.m1.look s hs
          obtain ⟨z, hz⟩ : ∃ z, z = f s := ⟨_, rfl⟩
          rw [← hz] at hlk
          by_cases hse : s.toList = []
          · have hs1 : (s.toList != []) = false := by rw [hse]; rfl
            have hs2 : s.toList.isEmpty = true := by rw [hse]; rfl
            clear hc hcg hs hrg5 hg5 hz
            go_wp2
            go_roundw
            case rel => exact ⟨_, _, HRG5, HT5⟩
            case measure => rw [HRG5.out.left_eq, HRG.out.left_eq]; exact hlt5
          · have hs1 : (s.toList != []) = true := by simpa using hse
            have hs2 : s.toList.isEmpty = false := by simpa using hse
            have hle : c1 ≤ z := by
              have h7 := backBy_le HD.out.ok.each s
              have h8 := HD.out.g_ s
              rw [if_neg (fun e => hse (by rw [e]; simp [ByteArray.toList_eq]))] at h8
              rw [hz, HD.out.f_, ← hcg, h8]
              omega
            clear hc hcg hs hrg5 hg5 hz hse
            go_wp2
            go_roundw
            case rel => exact ⟨_, _, HRG5, HT5⟩
            case measure => rw [HRG5.out.left_eq, HRG.out.left_eq]; exact hlt5
end Go.Proofs.Ythpedogppiemkaa.Print
