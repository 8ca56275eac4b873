/-
Claims one behind the other, and what comes back: the law's walk.
-/
import Derived.Test.YtjkipjfcfcpcmaaHnst
import Derived.Deep.LoopGhost
import Derived.IntWalk
import Derived.WalkSpells
import Derived.Outline
namespace Go.Proofs.Ytjkipjfcfcpcmaa.Print
open Go.RowKit Go.Maps Go.Proofs.YtjkipjfcfcpcmaaW.PrintWords Go.Proofs.YtjkipjfcfcpcmaaW.PrintLast Go.Proofs.YtjkipjfcfcpcmaaW.PrintMore

set_option maxHeartbeats 8000000 in
set_option maxRecDepth 100000 in
theorem topc_few (w : World) (a0 a1 : Int) (A : Option Addr) (c : Nat) (l : List S33) (A3 : Option Addr) (c3 : Nat) (bs : List Int) (hl : l.length ≤ 9223372036854775807) (hb : bs.length ≤ 9223372036854775807) (hbig : 6 < l.length ∨ 6 < bs.length)
    (HN : ∀ w : World, Calls Try.prog 5 #[] w fun e w' => e = .returned (.bool true) ∧ Below w.heap.size w w') :
    Calls Try.prog 3 #[.int .u32 a0, .int .u32 a1, .slice A l.length c, .slice A3 bs.length c3] w fun e w' => e = .returned (.bool true) ∧ Below w.heap.size w w' := by
  have HA := Aside0.mk HN
  have HB := Aside0.mk (Below.refl w.heap.size w)
  clear HN
  rcases Nat.lt_or_ge 6 l.length with h | h
  · have h1 : decide ((6 : Int) < (l.length : Int)) = true := decide_eq_true (by omega)
    clear hbig
    go_enter Try.func3, Try.ntmps3
    go_wp2_with (go_at_call 5; refine (HA.out _).mono ?_; rintro e w1 ⟨rfl, hb⟩; have n_ := Aside0.mk (below_step HB.out hb); clear HB; have HB := n_; clear n_ hb)
    go_ret
    exact ⟨rfl, HB.out⟩
  · have h2 : 6 < bs.length := by omega
    have h1 : decide ((6 : Int) < (l.length : Int)) = false := decide_eq_false (by omega)
    have h3 : decide ((6 : Int) < (bs.length : Int)) = true := decide_eq_true (by omega)
    clear hbig
    go_enter Try.func3, Try.ntmps3
    go_wp2_with (go_at_call 5; refine (HA.out _).mono ?_; rintro e w1 ⟨rfl, hb⟩; have n_ := Aside0.mk (below_step HB.out hb); clear HB; have HB := n_; clear n_ hb)
    go_ret
    exact ⟨rfl, HB.out⟩

theorem Nst1.start {w W : World} (lo va : Int) (hb : Below w.heap.size w W) :
    Nst1 w ((W.alloc (.cells #[.int .i64 lo, .int .i64 va, .slice none 0 0, .int .i64 0] 60)).alloc (.map #[] 0)) W.heap.size (W.heap.size + 1) lo va (.slice none 0 0) [] 0 0 (fun _ => 0) := by
  have e : (W.alloc (.cells #[.int .i64 lo, .int .i64 va, .slice none 0 0, .int .i64 0] 60)).heap.size = W.heap.size + 1 := by simp
  have h1 := Sums.new (W.alloc (.cells #[.int .i64 lo, .int .i64 va, .slice none 0 0, .int .i64 0] 60))
  rw [e] at h1
  exact ⟨⟨blk_alloc (blk_new W _) _, Kd.R_nil _ _ _ _ _, hb.size⟩, h1, below_alloc (below_alloc hb _) _⟩

/-- What the map says while claims are made. -/
structure ToldC (lo : Int) (ps : List S64) (f : ByteArray → Int) : Prop where
  ok : Fok lo ps 0
  f_ : ∀ t, f t = paidBy ps t
  z_ : ∀ t, backBy ps t = 0
  y_ : backS ps = 0
/-- What it says while something comes back. -/
structure ToldR (lo : Int) (ps : List S64) (bk : Int) (f : ByteArray → Int) : Prop where
  ok : Fok lo ps bk
  f_ : ∀ t, f t = paidBy ps t - backBy ps t - (if t = ⟨#[]⟩ then bk else 0)
theorem ToldC.turn {lo : Int} {ps : List S64} {f : ByteArray → Int} (h : ToldC lo ps f) : ToldR lo ps 0 f := ⟨h.ok, fun t => by rw [h.f_, h.z_]; split <;> omega⟩
theorem ToldR.recd {lo bk s bk1 er : Int} {ps ps1 : List S64} {os : List S42} {f f' : ByteArray → Int} (h : ToldR lo ps bk f) (c : Recd lo ps bk s (ps1, bk1, os, er)) (hf : ∀ t, f' t = f t - entS os t) : ToldR lo ps1 bk1 f' := by
  refine ⟨c.ok, fun t => ?_⟩
  have h1 := c.by2 t
  have h2 := c.by1 t
  simp only at h1 h2
  rw [hf, h.f_, h2]
  omega
theorem ToldR.f_bd {lo bk : Int} {ps : List S64} {f : ByteArray → Int} (h : ToldR lo ps bk f) (t : ByteArray) : -1099511627776 ≤ f t ∧ f t ≤ 1099511627776 := by
  have h2 := h.ok.each.sums
  have h3 := h.ok.left
  have h5 := h.ok.lo1
  have h6 := h.ok.bk0
  have h7 := backBy_le h.ok.each t
  rw [h.f_]
  split <;> omega
theorem ToldR.f_pos {lo bk : Int} {ps : List S64} {f : ByteArray → Int} (h : ToldR lo ps bk f) (t : ByteArray) (ht : t ≠ ⟨#[]⟩) : 0 ≤ f t := by
  have h7 := backBy_le h.ok.each t
  rw [h.f_, if_neg ht]
  omega

set_option maxHeartbeats 8000000 in
set_option maxRecDepth 100000 in
theorem topc_main (w : World) (a0 a1 : Int) (A : Option Addr) (c : Nat) (l : List S33) (A3 : Option Addr) (c3 : Nat) (bs : List Int) (ha0 : 0 ≤ a0) (ha1 : 0 ≤ a1) (hb0 : a0 ≤ 4294967295) (hb1 : a1 ≤ 4294967295)
    (hl : l.length ≤ 6) (hb : bs.length ≤ 6) (hr : Kd.C k33 w A l.length l) (hr3 : Kd.C (Kd.int .u16) w A3 bs.length bs) (hs : ∀ x ∈ l, Sized1 x) (hbw : ∀ x ∈ bs, 0 ≤ x ∧ x ≤ 65535)
    (HN : ∀ w : World, Calls Try.prog 5 #[] w fun e w' => e = .returned (.bool true) ∧ Below w.heap.size w w') :
    Calls Try.prog 3 #[.int .u32 a0, .int .u32 a1, .slice A l.length c, .slice A3 bs.length c3] w fun e w' => e = .returned (.bool true) ∧ Below w.heap.size w w' := by
  have hmm := @run_makeMap Try.prog
  have HA := Aside0.mk HN
  have HB := Aside0.mk (Below.refl w.heap.size w)
  have HR0 := Aside0.mk hr
  have HR3 := Aside0.mk hr3
  have HS := Aside0.mk hs
  have HBW := Aside0.mk hbw
  have h1 : decide ((6 : Int) < (l.length : Int)) = false := decide_eq_false (by omega)
  have h3 : decide ((6 : Int) < (bs.length : Int)) = false := decide_eq_false (by omega)
  clear HN hr hr3 hs hbw
  go_enter Try.func3, Try.ntmps3
  go_wp2_with (go_at_call 5; refine (HA.out _).mono ?_; rintro e w1 ⟨rfl, hb⟩; have n_ := Aside0.mk (below_step HB.out hb); clear HB; have HB := n_; clear n_ hb)
  have hlo0 : 0 ≤ a0 % (1 + a1 + 1) := Int.emod_nonneg _ (by omega)
  have hlo1 : a0 % (1 + a1 + 1) < 1 + a1 + 1 := Int.emod_lt_of_pos _ (by omega)
  generalize a0 % (1 + a1 + 1) = lo at hlo0 hlo1 ⊢
  have hva0 : 1 ≤ 1 + a1 := by omega
  have hva1 : 1 + a1 ≤ 4294967296 := by omega
  have hva2 : lo ≤ 1 + a1 := by omega
  generalize 1 + a1 = va at hva0 hva1 hva2 hlo1 ⊢
  have hv : newB lo va = true := by
    unfold newB
    simp
    omega
  have HV := Aside0.mk hv
  clear hv hlo1
  go_wp2_with (go_at_call 6; refine (new_yes lo va _ HV.out).mono ?_; rintro e w2 ⟨rfl, rfl⟩)
  have HT := Aside0.mk (Nst1.start lo va HB.out)
  clear HB HA
  obtain ⟨F, hFA⟩ : ∃ F, F = w1.heap.size := ⟨_, rfl⟩
  rw [← hFA] at HT ⊢
  have HFB := Aside0.mk (show w.heap.size ≤ F + 1 by have := HT.out.st.bF; omega)
  clear hFA
  have HD := Aside0.mk (ToldC.mk (Fok.new hlo0 (by omega)) (f := fun _ => 0) (fun _ => rfl) (fun _ => rfl) rfl)
  go_loopw [62] (fun v62 wr => ∃ (i n1 : Nat) (vp : Value) (ps : List S64) (f : ByteArray → Int), v62 = .int .i64 i ∧ Aside0 (i ≤ l.length) ∧ Aside0 (ps.length ≤ i ∧ n1 ≤ i) ∧ Aside0 (ToldC lo ps f) ∧ Aside0 (Nst1 w wr F (F + 1) lo va vp ps 0 n1 f)) (fun v62 _ => l.length - (intOf v62).toNat)
  case atStart => exact ⟨0, 0, _, [], _, rfl, ⟨Nat.zero_le _⟩, ⟨by simp⟩, HD, HT⟩
  case round =>
    clear HT HD
    obtain ⟨i, n1, vp, ps, f, rfl, HI, HN, HD, HT⟩ := hrel
    have hps := HD.out.ok.each.sums
    have hpl := HD.out.ok.left
    by_cases hlt : i < l.length
    · have hC := Kd.C_below HR0.out HT.out.hb
      have h0 : (0 : Int) ≤ (i : Int) := by omega
      have h1 : (i : Int) < (l.length : Int) := by omega
      obtain ⟨ad, A5, c5, eA, hx0, hx1, hx2, hx3, hx4, hx5, hx6, hx7, hx8, hc5, hr5⟩ := at_T33 hC i h0 h1
      subst eA
      simp only [Int.toNat_natCast] at hx0 hx1 hx2 hx3 hx4 hx5 hx6 hx7 hx8
      obtain ⟨q, hq⟩ : ∃ q, q = rd_T33 l (i : Int) := ⟨_, rfl⟩
      rw [← hq] at hx0 hx1 hx2 hx3 hx4 hx5 hx6 hx7 hx8 hc5 hr5
      have HQ := Aside0.mk (show q ∈ l by rw [hq]; exact rd_mem_p l i hlt)
      have H5 := Aside0.mk hr5
      have HC5 := Aside0.mk hc5
      clear hq hr5 hc5 hC
      have hqs := HS.out q HQ.out
      have HT1 := Aside0.mk (HT.out.alloc (.cells #[.string q.f0, .string q.f1, .string q.f2, .int .i64 q.f3, .int .i64 q.f4, .slice A5 q.f5.length c5, .int .i64 q.f6, .int .i64 q.f7, .int .i64 q.f8] 33))
      have HBK := Aside0.mk (blk_new wr (.cells #[.string q.f0, .string q.f1, .string q.f2, .int .i64 q.f3, .int .i64 q.f4, .slice A5 q.f5.length c5, .int .i64 q.f6, .int .i64 q.f7, .int .i64 q.f8] 33 (0, 0)))
      have HV1 := HV.out
      obtain ⟨r, hrr⟩ : ∃ r, r = claimP lo ps 0 q.f0 q (mayOf q) (paysN q lo va) := ⟨_, rfl⟩
      have hok := claim_ok q hqs lo va HV1 ps 0 HD.out.ok q.f0
      obtain ⟨k1, hk1⟩ := Ev.le (claim_ev q hqs lo va HV1 ps 0 HD.out.ok q.f0)
      rw [← hrr] at hk1 hok
      obtain ⟨ps1, n_, er⟩ := r
      have HK1 := Aside0.mk hk1
      have HOK := Aside0.mk hok
      have HD1 := Aside0.mk (show ToldC lo ps1 (putF f q.f0 (f q.f0 + n_)) from ⟨hok.ok, fun t => by
        have h1 : paidBy ps1 t = paidBy ps t + (if q.f0 = t then n_ else 0) := hok.by1 t
        rw [putF_eq, h1, HD.out.f_ q.f0, HD.out.f_ t]
        by_cases e : q.f0 = t
        · rw [if_pos e, if_pos e, e]
        · rw [if_neg e, if_neg e]; omega, fun t => (hok.by2 t).trans (HD.out.z_ t), hok.back.trans HD.out.y_⟩)
      have hpd : paidS ps1 = paidS ps + n_ := hok.paid
      have hpl1 : paidS ps1 + 0 ≤ lo := hok.ok.left
      have hn0 : 0 ≤ n_ := hok.pos
      have hno := hok.no
      simp only at hno
      have hby := backBy_le HD.out.ok.each q.f0
      have hf0 := HD.out.f_ q.f0
      obtain ⟨z, hz⟩ : ∃ z, z = f q.f0 := ⟨_, rfl⟩
      rw [← hz] at HD1 hf0
      have b0 : 0 ≤ z := by omega
      have b1 : z ≤ 4294967296 := by omega
      have b2 : n_ ≤ 4294967296 := by omega
      have HZ := Aside0.mk hz
      have HQS := Aside0.mk hqs
      clear hk1 hrr HV1 hok hpd hpl1 hby hf0 hz hqs hps hpl
      have hz0 : er ≠ 0 → n_ = 0 := fun h => (hno h).2
      clear hno
      obtain ⟨S, hS⟩ : ∃ S, wrap64 (wrap64 ((q.f0.size : Int) + (q.f1.size : Int)) + (q.f2.size : Int)) = S := ⟨_, rfl⟩
      by_cases he : er = 0
      · subst he
        clear hz0
        go_wp2_with (go_at_call 7; refine (claim_calls k1 _ w.heap.size F (fun _ => True) vp lo va ps 0 q.f0 q A5 c5 ps1 n_ 0 HT1.out.st (Kd.C_alloc H5.out _) HC5.out HT1.out.hb.size (fun _ _ => trivial) HK1.out).mono ?_; rintro e w2 ⟨rfl, x', hs', hk', hx', hb'⟩; have HT2 := Aside0.mk (HT1.out.file hs' hk' hb'); have HB2 := Aside0.mk (HT1.out.blk_file HBK.out (by decide) (by decide) hk'); have hlk := HT2.out.m1.look q.f0 (by have := HQS.out.1; unfold maxLen; omega); rw [← HZ.out] at hlk; obtain ⟨w3, hup, hs3, hg3⟩ := HT2.out.m1.put q.f0 (by have := HQS.out.1; unfold maxLen; omega) (z + n_) (WalkArith.wf_i64 (by omega)) (by have := HN.out; unfold maxLen; omega); have HT3 := Aside0.mk (HT2.out.put hs3 hg3 HFB.out); have hb0 : w2.cell? ⟨wr.heap.size, 0, none⟩ = some (.string q.f0) := (blk_cell HB2.out 0).trans rfl; clear hs' hk' hx' hb' hs3 hg3)
        · go_ret
          exact ⟨rfl, HT1.out.hb⟩
        · go_roundw
          case rel => exact ⟨i + 1, n1 + 1, x', ps1, _, by go_num, ⟨by omega⟩, ⟨by have h1 := HOK.out.len; have h2 := HN.out; simp only at h1; omega⟩, HD1, HT3⟩
          case measure => simp [intOf]; omega
        · go_ret
          exact ⟨rfl, HT1.out.hb⟩
      · have hz1 : n_ = 0 := hz0 he
        subst hz1
        have he0 : (er != 0) = true := by simpa using he
        rw [Int.add_zero] at HD1
        clear hz0 he
        go_wp2_with (go_at_call 7; refine (claim_calls k1 _ w.heap.size F (fun _ => True) vp lo va ps 0 q.f0 q A5 c5 ps1 0 er HT1.out.st (Kd.C_alloc H5.out _) HC5.out HT1.out.hb.size (fun _ _ => trivial) HK1.out).mono ?_; rintro e w2 ⟨rfl, x', hs', hk', hx', hb'⟩; have HT2 := Aside0.mk (HT1.out.file hs' hk' hb'); have HB2 := Aside0.mk (HT1.out.blk_file HBK.out (by decide) (by decide) hk'); have hlk := HT2.out.m1.look q.f0 (by have := HQS.out.1; unfold maxLen; omega); rw [← HZ.out] at hlk; obtain ⟨w3, hup, hs3, hg3⟩ := HT2.out.m1.put q.f0 (by have := HQS.out.1; unfold maxLen; omega) z (WalkArith.wf_i64 (by omega)) (by have := HN.out; unfold maxLen; omega); have HT3 := Aside0.mk (HT2.out.put hs3 hg3 HFB.out); have hb0 : w2.cell? ⟨wr.heap.size, 0, none⟩ = some (.string q.f0) := (blk_cell HB2.out 0).trans rfl; clear hs' hk' hx' hb' hs3 hg3)
        · go_ret
          exact ⟨rfl, HT1.out.hb⟩
        · go_roundw
          case rel => exact ⟨i + 1, n1 + 1, x', ps1, _, by go_num, ⟨by omega⟩, ⟨by have h1 := HOK.out.len; have h2 := HN.out; simp only at h1; omega⟩, HD1, HT3⟩
          case measure => simp [intOf]; omega
        · go_ret
          exact ⟨rfl, HT1.out.hb⟩
    · have e : i = l.length := by have := HI.out; omega
      subst e
      have hfp := HD.out.ok.paid
      have hpc := paid_calls wr w.heap.size F (fun _ => True) vp lo va ps 0 HT.out.st
      rw [hfp] at hpc
      obtain ⟨al, hal⟩ : ∃ al, al = paidS ps := ⟨_, rfl⟩
      rw [← hal] at hpc hpl hps
      have b0 : al ≤ lo := by omega
      have HPC := Aside0.mk hpc
      have HDR := Aside0.mk HD.out.turn
      have HPL := Aside0.mk (show ps.length ≤ 6 ∧ n1 ≤ 6 by have := HN.out; omega)
      have HY := Aside0.mk (show 0 + backS ps = 0 by have := HD.out.y_; omega)
      clear hfp hpc hal hps hpl hlt HI HN HD
      go_wp2_with (go_at_call 8; refine HPC.out.mono ?_; rintro e w3 ⟨rfl, hb⟩; have HT2 := Aside0.mk (HT.out.below hb); clear hb)
      clear HPC HT
      go_loopw [18, 19, 115] (fun v18 v19 v115 wr => ∃ (j n1 : Nat) (vp : Value) (ps : List S64) (bk : Int) (f : ByteArray → Int), v115 = .int .i64 j ∧ v18 = .int .i64 (bk + backS ps) ∧ v19 = .int .i64 bk ∧ Aside0 (j ≤ bs.length) ∧ Aside0 (ps.length ≤ 6 ∧ n1 ≤ 6 + j * 10) ∧ Aside0 (ToldR lo ps bk f) ∧ Aside0 (Nst1 w wr F (F + 1) lo va vp ps bk n1 f)) (fun _ _ v115 _ => bs.length - (intOf v115).toNat)
      case atStart => exact ⟨0, n1, vp, ps, 0, f, rfl, by rw [HY.out], rfl, ⟨Nat.zero_le _⟩, ⟨by have := HPL.out; omega⟩, HDR, HT2⟩
      case round =>
        clear HT2 HDR HPL HY b0
        clear n1 vp ps f
        obtain ⟨j, n1, vp, ps, bk, f, rfl, rfl, rfl, HJ, HN, HD, HT⟩ := hrel
        by_cases hlt : j < bs.length
        · have hC := Kd.C_below HR3.out HT.out.hb
          have h0 : (0 : Int) ≤ (j : Int) := by omega
          have h1 : (j : Int) < (bs.length : Int) := by omega
          obtain ⟨ad, eA, hx0⟩ := Kd.at_int hC (j : Int) h0 h1
          subst eA
          rw [Int.toNat_natCast] at hx0
          obtain ⟨s, hs⟩ : ∃ s, s = rd bs (j : Int) := ⟨_, rfl⟩
          rw [← hs] at hx0
          have hsw : 0 ≤ s ∧ s ≤ 65535 := HBW.out s (by rw [hs, rd_get]; exact getD_mem bs j hlt)
          obtain ⟨s0, s1⟩ := hsw
          clear hs hC
          have hrc := HD.out.ok.recd s
          have hre := HD.out.ok.recF s
          obtain ⟨r, hrr⟩ : ∃ r, r = recP lo ps bk s := ⟨_, rfl⟩
          rw [← hrr] at hrc hre
          obtain ⟨ps1, bk1, os, er⟩ := r
          have hsm := Recd.small HD.out.ok hrc
          have hol : os.length ≤ 30 := by have h1 := hrc.elen; have h2 := HN.out; simp only at h1; omega
          have herr := hrc.err
          simp only at herr
          have hbk := HD.out.ok.bk0
          have hes := HD.out.ok.each.sums
          have hle := HD.out.ok.left
          obtain ⟨ou, hou⟩ : ∃ ou, ou = bk + backS ps := ⟨_, rfl⟩
          rw [← hou]
          have b0 : 0 ≤ ou := by omega
          have b1 : ou ≤ 4294967296 := by omega
          have b2 : bk ≤ 4294967296 := by omega
          have hdec : er = 0 ↔ 0 < s ∧ ou + s ≤ lo := by rw [herr]; omega
          have HRC := Aside0.mk hrc
          have HRE := Aside0.mk hre
          have HSM := Aside0.mk hsm
          have HNM := Aside0.mk (HD.out.ok.ent_size hrc)
          have HPL := Aside0.mk (show ps.length ≤ 4096 by have := HN.out; omega)
          have HOU := Aside0.mk hou
          clear hrc hre hrr hsm herr hes hle hou
          obtain ⟨wo, rfl⟩ : ∃ wo : World, wo = wr := ⟨_, rfl⟩
          have HDEC := Aside0.mk hdec
          by_cases he : er = 0
          · obtain ⟨d1, d2⟩ := hdec.1 he
            have he0 : (er == 0) = true := by rw [he]; rfl
            clear hdec he
            go_wp2_with (go_at_call 9; refine (recover_calls _ w.heap.size F (fun _ => True) vp lo va ps bk s HT.out.st HPL.out HT.out.hb.size).mono ?_; rw [HRE.out]; rintro e w4 ⟨vo, rfl, hs', hk', ho', hb'⟩; obtain ⟨Ao, co, rfl⟩ := Kd.R_slice ho'; have HT2 := Aside0.mk (HT.out.file hs' hk' hb'); have HO2 := Aside0.mk (Kd.R_lower ho' HT.out.hb.size); clear hs' hk' ho' hb')
            clear HT HDEC he0
            go_loopw [18, 19, 141] (fun v18 v19 v141 ws => ∃ (k m : Nat) (f' : ByteArray → Int), v141 = .int .i64 k ∧ v18 = .int .i64 (ou + entA (os.take k)) ∧ v19 = .int .i64 (bk + entS (os.take k) ⟨#[]⟩) ∧ Aside0 (k ≤ os.length) ∧ Aside0 (m ≤ n1 + k) ∧ Aside0 (∀ t, f' t = f t - entS (os.take k) t) ∧ Aside0 (Nst1 w ws F (F + 1) lo va vp ps1 bk1 m f') ∧ Aside0 (Kd.R k42 42 ws w.heap.size (fun _ => True) (.slice Ao os.length co) os)) (fun _ _ v141 _ => os.length - (intOf v141).toNat)
            case atStart => exact ⟨0, n1, f, rfl, by simp [entA], by simp [entS], ⟨Nat.zero_le _⟩, ⟨Nat.le_refl _⟩, ⟨fun t => by simp [entS]⟩, HT2, HO2⟩
            case round =>
              clear HT2 HO2
              obtain ⟨k, m, f', rfl, rfl, rfl, HK, HM, HG, HT2, HO2⟩ := hrel
              by_cases hkl : k < os.length
              · have hC := (Kd.R_reads' HO2.out).2.2
                have hk0 : (0 : Int) ≤ (k : Int) := by omega
                have hk1 : (k : Int) < (os.length : Int) := by omega
                obtain ⟨ao, eA, hy0, hy1, hy2⟩ := at_T42 hC k hk0 hk1
                subst eA
                simp only [Int.toNat_natCast] at hy0 hy1 hy2
                have hes := entS_take os k hkl
                have hea := entA_take os k hkl
                obtain ⟨x, hx⟩ : ∃ x, x = rd_T42 os (k : Int) := ⟨_, rfl⟩
                rw [← hx] at hy0 hy1 hy2 hea
                have HX := Aside0.mk (show x ∈ os by rw [hx]; exact rd_mem_e os k hkl)
                rw [← hx] at hes
                have HES := Aside0.mk hes
                clear hx hC
                have hxn : x.f0.size ≤ 9223372036854775807 := HNM.out x HX.out
                have hpos := HRC.out.pos
                simp only at hpos
                have e1 := entS_le (os.take k) (fun y hy => hpos y (List.mem_of_mem_take hy)) x.f0
                have e2 := entA_le os hpos k
                have e3 := entA_le os hpos (k + 1)
                have e4 := entS_le (os.take k) (fun y hy => hpos y (List.mem_of_mem_take hy)) ⟨#[]⟩
                have e5 := entS_take_le os hpos (k + 1) x.f0
                have fb := HD.out.f_bd x.f0
                have hsm := HSM.out
                have hxp := hpos x HX.out
                have hgz := HG.out x.f0
                have hfp := (HD.out.recd HRC.out (f' := fun t => f t - entS os t) (fun _ => rfl)).f_pos x.f0
                have hes1 := hes x.f0
                rw [if_pos rfl] at hes1
                have hes0 := hes ⟨#[]⟩
                obtain ⟨z, hz⟩ : ∃ z, z = f' x.f0 := ⟨_, rfl⟩
                rw [← hz] at hgz
                obtain ⟨sm, hs⟩ : ∃ sm, sm = ou + entA (os.take k) := ⟨_, rfl⟩
                obtain ⟨si, hi⟩ : ∃ si, si = bk + entS (os.take k) ⟨#[]⟩ := ⟨_, rfl⟩
                rw [← hs, ← hi]
                have c1 : -3299534883328 ≤ z := by omega
                have c2 : z ≤ 3299534883328 := by omega
                have c3 : 0 ≤ sm := by omega
                have c4 : sm ≤ 2199023255552 := by omega
                have c5 : x.f2 ≤ 1099511627776 := by omega
                have c6 : 0 ≤ si := by omega
                have c7 : si ≤ 2199023255552 := by omega
                have HSS := Aside0.mk (show ou + entA (os.take (k + 1)) = sm + x.f2 by omega)
                have hneg : x.f0 ≠ ⟨#[]⟩ → x.f2 ≤ z := fun h => by
                  have := hfp h
                  omega
                have HSI := Aside0.mk (show bk + entS (os.take (k + 1)) ⟨#[]⟩ = si + (if x.f0 = ⟨#[]⟩ then x.f2 else 0) by omega)
                have HG5 := Aside0.mk (show ∀ t, putF f' x.f0 (z - x.f2) t = f t - entS (os.take (k + 1)) t by
                  intro t
                  rw [putF_eq, HES.out t, HG.out t]
                  by_cases e : x.f0 = t
                  · rw [if_pos e, if_pos e, hgz, e]; omega
                  · rw [if_neg e, if_neg e]; omega)
                clear e1 e2 e3 e4 e5 fb hsm hfp hes1 hes0 hgz hs hi hes hea hpos
                have hlk := (HT2.out.m1.alloc (.cells #[.string x.f0, .string x.f1, .int .i64 x.f2] 42)).look x.f0 (by unfold maxLen; omega)
                rw [← hz] at hlk
                clear hz
                obtain ⟨w5, hup, hs5, hg5⟩ := (HT2.out.m1.alloc (.cells #[.string x.f0, .string x.f1, .int .i64 x.f2] 42)).put x.f0 (by unfold maxLen; omega) (z - x.f2) (WalkArith.wf_i64 (by omega)) (by have h1 := HM.out; have h2 := HN.out; have h3 := HK.out; unfold maxLen; omega)
                have HT5 := Aside0.mk ((HT2.out.alloc _).put hs5 hg5 HFB.out)
                have HO5 := Aside0.mk ((HT2.out.alloc (.cells #[.string x.f0, .string x.f1, .int .i64 x.f2] 42)).row_put (Kd.R_alloc HO2.out _) hg5)
                have hbx : w5.cell? ⟨wr.heap.size, 0, none⟩ = some (.string x.f0) := (blk_cell ((HT2.out.alloc (.cells #[.string x.f0, .string x.f1, .int .i64 x.f2] 42)).blk_put (blk_new wr (.cells #[.string x.f0, .string x.f1, .int .i64 x.f2] 42 (0, 0))) hg5) 0).trans rfl
                have hlk5 := HT5.out.m1.look x.f0 (by unfold maxLen; omega)
                rw [putF_eq, if_pos rfl] at hlk5
                clear hs5 hg5 hxn
                by_cases hxe : x.f0 = ⟨#[]⟩
                · rw [if_pos hxe] at HSI
                  have x1 : x.f0.toList = [] := by rw [hxe]; simp [ByteArray.toList_eq]
                  have x2 : x.f0.toList.isEmpty = true := by rw [x1]; rfl
                  have x3 : (x.f0.toList == []) = true := by rw [x1]; rfl
                  have x4 : (x.f0.toList != []) = false := by rw [x1]; rfl
                  clear hxe hneg
                  go_wp2
                  go_roundw
                  case rel => exact ⟨k + 1, m + 1, _, by go_num, by rw [HSS.out], by rw [HSI.out], ⟨by omega⟩, ⟨by have := HM.out; omega⟩, HG5, HT5, HO5⟩
                  case measure => simp [intOf]; omega
                · rw [if_neg hxe] at HSI
                  have hn := hneg hxe
                  have hnt : x.f0.toList ≠ [] := fun e => hxe (toList_inj (by rw [e]; simp [ByteArray.toList_eq]))
                  have x2 : x.f0.toList.isEmpty = false := by simpa using hnt
                  have x3 : (x.f0.toList == []) = false := by simpa using hnt
                  have x4 : (x.f0.toList != []) = true := by simpa using hnt
                  clear hxe hneg hnt
                  go_wp2
                  go_roundw
                  case rel => exact ⟨k + 1, m + 1, _, by go_num, by rw [HSS.out], by rw [HSI.out, Int.add_zero], ⟨by omega⟩, ⟨by have := HM.out; omega⟩, HG5, HT5, HO5⟩
                  case measure => simp [intOf]; omega
              · have e : k = os.length := by have := HK.out; omega
                subst e
                have htk : os.take os.length = os := List.take_of_length_le (Nat.le_refl _)
                rw [htk] at HG ⊢
                have HTD := Aside0.mk (HD.out.recd HRC.out HG.out)
                have htot := HRC.out.tot
                have hb2 := HRC.out.by2 ⟨#[]⟩
                simp only at htot hb2
                rw [if_pos trivial, if_pos trivial, (by_empty HD.out.ok.nm).1, (by_empty HTD.out.ok.nm).1] at hb2
                have HO1 := Aside0.mk (show bk1 + backS ps1 = ou + entA os by have := HOU.out; omega)
                have HO3 := Aside0.mk (show bk1 = bk + entS os ⟨#[]⟩ by omega)
                clear htk htot hb2 hkl
                go_wp2
                go_roundw
                case rel => exact ⟨j + 1, m, vp, ps1, bk1, f', by go_num, by rw [HO1.out], by rw [← HO3.out], ⟨by omega⟩, ⟨by have h1 := HRC.out.len; have h2 := HRC.out.elen; have h3 := HN.out; have h4 := HM.out; simp only at h1 h2; omega⟩, HTD, HT2⟩
                case measure => simp [intOf]; omega
          · have hno := HRC.out.no he
            simp only at hno
            subst hno
            have he0 : (er == 0) = false := by simpa using he
            have htot := HRC.out.tot
            have hb2 := HRC.out.by2 ⟨#[]⟩
            simp only at htot hb2
            rw [if_pos trivial, if_pos trivial, (by_empty HD.out.ok.nm).1, (by_empty HRC.out.ok.nm).1] at hb2
            have HO1 := Aside0.mk (show bk1 + backS ps1 = ou by have := HOU.out; simp only [entA, List.map_nil, List.sum_nil] at htot; omega)
            have HO3 := Aside0.mk (show bk1 = bk by simp only [entS] at hb2; omega)
            have HTD := Aside0.mk (HD.out.recd HRC.out (f' := f) (fun t => by simp [entS]))
            have hnd : ¬ (0 < s ∧ ou + s ≤ lo) := fun h => he (hdec.2 h)
            clear hdec he htot hb2
            by_cases hsp : 0 < s
            · have hsl : lo < ou + s := by omega
              clear hnd
              go_wp2_with (go_at_call 9; refine (recover_calls _ w.heap.size F (fun _ => True) vp lo va ps bk s HT.out.st HPL.out HT.out.hb.size).mono ?_; rw [HRE.out]; rintro e w4 ⟨vo, rfl, hs', hk', ho', hb'⟩; obtain ⟨Ao, co, rfl⟩ := Kd.R_slice ho'; have HT2 := Aside0.mk (HT.out.file hs' hk' hb'); have HO2 := Aside0.mk (Kd.R_lower ho' HT.out.hb.size); clear hs' hk' ho' hb')
              refine wp_loop_rounds 1 ?_
              rw [rounds_succ]
              go_wp2
              go_roundw
              case rel => exact ⟨j + 1, n1, vp, ps1, bk1, f, by go_num, by rw [HO1.out], by rw [HO3.out], ⟨by omega⟩, ⟨by have h1 := HRC.out.len; have h3 := HN.out; simp only at h1; omega⟩, HTD, HT2⟩
              case measure => simp [intOf]; omega
            · have hs0 : s = 0 := by omega
              subst hs0
              clear hnd
              go_wp2_with (go_at_call 9; refine (recover_calls _ w.heap.size F (fun _ => True) vp lo va ps bk 0 HT.out.st HPL.out HT.out.hb.size).mono ?_; rw [HRE.out]; rintro e w4 ⟨vo, rfl, hs', hk', ho', hb'⟩; obtain ⟨Ao, co, rfl⟩ := Kd.R_slice ho'; have HT2 := Aside0.mk (HT.out.file hs' hk' hb'); have HO2 := Aside0.mk (Kd.R_lower ho' HT.out.hb.size); clear hs' hk' ho' hb')
              refine wp_loop_rounds 1 ?_
              rw [rounds_succ]
              go_wp2
              go_roundw
              case rel => exact ⟨j + 1, n1, vp, ps1, bk1, f, by go_num, by rw [HO1.out], by rw [HO3.out], ⟨by omega⟩, ⟨by have h1 := HRC.out.len; have h3 := HN.out; simp only at h1; omega⟩, HTD, HT2⟩
              case measure => simp [intOf]; omega
        · have e : j = bs.length := by have := HJ.out; omega
          subst e
          have hfp := HD.out.ok.paid
          have hpc := paid_calls wr w.heap.size F (fun _ => True) vp lo va ps bk HT.out.st
          rw [hfp] at hpc
          have hps := HD.out.ok.each.sums
          have hpl := HD.out.ok.left
          have hpb := HD.out.ok.bk0
          obtain ⟨al, hal⟩ : ∃ al, al = paidS ps := ⟨_, rfl⟩
          rw [← hal] at hpc hpl hps
          have b0 : bk ≤ lo - al := by omega
          have b1 : 0 ≤ al := by omega
          have b2 : al ≤ lo := by omega
          have HPC := Aside0.mk hpc
          clear hfp hpc hal hps hpl hlt
          go_wp2_with (go_at_call 8; refine HPC.out.mono ?_; rintro e w3 ⟨rfl, hb⟩; have HT2 := Aside0.mk (HT.out.below hb); clear hb)
          go_ret
          exact ⟨rfl, HT2.out.hb⟩
end Go.Proofs.Ytjkipjfcfcpcmaa.Print
