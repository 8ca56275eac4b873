/-
The law on the order of claims, walked.
-/
import Derived.Test.YthpedogppiemkaaHord
import Derived.StillTailTactics
import Derived.Deep.QuietTactic
import Derived.BigQuiet
import Derived.IntWalk
import Derived.Deep.LoopGhost
namespace Go.Proofs.Ythpedogppiemkaa.Print
open Go.RowKit Go.Proofs.YthpedogppiemkaaW.PrintWords Go.Proofs.YthpedogppiemkaaW.PrintLast Go.Proofs.YthpedogppiemkaaW.PrintMore

set_option maxHeartbeats 8000000 in
set_option maxRecDepth 100000 in
theorem order_few (w : World) (lo va : Int) (A : Option Addr) (c : Nat) (l : List S32) (hr : Kd.C k32 w A l.length l) (hc : l.length ≤ c)
    (HAW : ∀ w : World, Calls Try.prog 8 #[] w fun e w' => e = .returned (.bool true) ∧ Below w.heap.size w w')
    (HFEW : ∀ w : World, Kd.C k32 w A l.length l → Calls Try.prog 9 #[.slice A l.length c] w fun e w' => e = .returned (.bool false) ∧ Drawn0 w w') :
    Calls Try.prog 5 #[.int .i64 lo, .int .i64 va, .slice A l.length c] w fun e w' => e = .returned (.bool true) ∧ Below w.heap.size w w' := by
  have HR := Aside0.mk hr
  have HC := Aside0.mk hc
  have HA := Aside0.mk HAW
  have HF := Aside0.mk HFEW
  have HB := Aside0.mk (Below.refl w.heap.size w)
  clear hr hc HAW HFEW
  go_enter Try.func5, Try.ntmps5
  go_wp2_with (first
    | (go_at_call 8; refine (HA.out _).mono ?_; rintro e w1 ⟨rfl, hb⟩; have n_ := Aside0.mk (below_step HB.out hb); clear HB; have HB := n_; have n2_ := Aside0.mk (Kd.C_below HR.out hb); clear HR; have HR := n2_; clear n_ n2_ hb)
    | (go_at_call 9; refine (HF.out _ HR.out).mono ?_; rintro e w1 ⟨rfl, ⟨n1, rfl⟩⟩; have n_ := Aside0.mk (pw_below_drewN HB.out n1); clear HB; have HB := n_; have n2_ := Aside0.mk (Kd.C_drewN HR.out n1); clear HR; have HR := n2_; clear n_ n2_))
  go_ret
  exact ⟨rfl, HB.out⟩


set_option maxHeartbeats 8000000 in
set_option maxRecDepth 100000 in
theorem order_no (w : World) (lo va : Int) (A : Option Addr) (c : Nat) (l : List S32) (hr : Kd.C k32 w A l.length l) (hc : l.length ≤ c) (hv : newB lo va = false)
    (HAW : ∀ w : World, Calls Try.prog 8 #[] w fun e w' => e = .returned (.bool true) ∧ Below w.heap.size w w')
    (HFEW : ∀ w : World, Kd.C k32 w A l.length l → Calls Try.prog 9 #[.slice A l.length c] w fun e w' => e = .returned (.bool true) ∧ Drawn0 w w') :
    Calls Try.prog 5 #[.int .i64 lo, .int .i64 va, .slice A l.length c] w fun e w' => e = .returned (.bool true) ∧ Below w.heap.size w w' := by
  have HR := Aside0.mk hr
  have HC := Aside0.mk hc
  have HA := Aside0.mk HAW
  have HF := Aside0.mk HFEW
  have HV := Aside0.mk hv
  have HB := Aside0.mk (Below.refl w.heap.size w)
  clear hr hc HAW HFEW hv
  go_enter Try.func5, Try.ntmps5
  go_wp2_with (first
    | (go_at_call 8; refine (HA.out _).mono ?_; rintro e w1 ⟨rfl, hb⟩; have n_ := Aside0.mk (below_step HB.out hb); clear HB; have HB := n_; have n2_ := Aside0.mk (Kd.C_below HR.out hb); clear HR; have HR := n2_; clear n_ n2_ hb)
    | (go_at_call 9; refine (HF.out _ HR.out).mono ?_; rintro e w1 ⟨rfl, ⟨n1, rfl⟩⟩; have n_ := Aside0.mk (pw_below_drewN HB.out n1); clear HB; have HB := n_; have n2_ := Aside0.mk (Kd.C_drewN HR.out n1); clear HR; have HR := n2_; clear n_ n2_)
    | (go_at_call 13; refine (new_no lo va _ HV.out).mono ?_; rintro e w1 ⟨rfl, rfl⟩))
  go_ret
  exact ⟨rfl, HB.out⟩

theorem Two.start {w W : World} (lo va : Int) (hb : Below w.heap.size w W) :
    Two w ((W.alloc (.cells #[.int .i64 lo, .int .i64 va, .slice none 0 0, .int .i64 0] 78)).alloc (.cells #[.int .i64 lo, .int .i64 va, .slice none 0 0, .int .i64 0] 78)) W.heap.size (W.heap.size + 1) lo va (.slice none 0 0) (.slice none 0 0) [] [] := by
  have e : (W.alloc (.cells #[.int .i64 lo, .int .i64 va, .slice none 0 0, .int .i64 0] 78)).heap.size = W.heap.size + 1 := by simp
  have h2 := blk_new (W.alloc (.cells #[.int .i64 lo, .int .i64 va, .slice none 0 0, .int .i64 0] 78)) (.cells #[.int .i64 lo, .int .i64 va, .slice none 0 0, .int .i64 0] 78 (0, 0))
  rw [e] at h2
  refine ⟨⟨blk_alloc (blk_new W _) _, Kd.R_nil _ _ _ _ _, hb.size⟩, ⟨h2, Kd.R_nil _ _ _ _ _, Nat.le_succ_of_le hb.size⟩, by omega, fun g h => by simp [Value.ownBlock] at h, below_alloc (below_alloc hb _) _⟩

/-- The names of the first policies differ. -/
def Apart (l : List S32) (n : Nat) : Prop := ∀ a b : Nat, a < b → b < n → (rd_T32 l (a : Int)).f0.toList ≠ (rd_T32 l (b : Int)).f0.toList
theorem Apart.step {l : List S32} {n : Nat} (h : Apart l n) (h2 : ∀ a : Nat, a < n → (rd_T32 l (a : Int)).f0.toList ≠ (rd_T32 l (n : Int)).f0.toList) : Apart l (n + 1) := fun a b hab hb => by
  by_cases e : b = n
  · subst e; exact h2 a hab
  · exact h a b hab (by omega)
theorem Apart.pairs {l : List S32} (h : Apart l l.length) : l.Pairwise (fun x y => x.f0 ≠ y.f0) := by
  rw [List.pairwise_iff_getElem]
  intro i j hi hj hij e
  refine h i j hij hj ?_
  simp [rd_T32, List.getD_eq_getElem?_getD, hi, hj, e]

set_option maxHeartbeats 8000000 in
set_option maxRecDepth 100000 in
theorem order_yes (w : World) (lo va : Int) (A : Option Addr) (c : Nat) (l : List S32) (hr : Kd.C k32 w A l.length l) (hc : l.length ≤ c) (hv : newB lo va = true) (hs : ∀ x ∈ l, Sized1 x) (hl : l.length ≤ 12)
    (HAW : ∀ w : World, Calls Try.prog 8 #[] w fun e w' => e = .returned (.bool true) ∧ Below w.heap.size w w')
    (HFEW : ∀ w : World, Kd.C k32 w A l.length l → Calls Try.prog 9 #[.slice A l.length c] w fun e w' => e = .returned (.bool true) ∧ Drawn0 w w') :
    Calls Try.prog 5 #[.int .i64 lo, .int .i64 va, .slice A l.length c] w fun e w' => e = .returned (.bool true) ∧ Below w.heap.size w w' := by
  have HR0 := Aside0.mk hr
  have HR := Aside0.mk hr
  have HC := Aside0.mk hc
  have HA := Aside0.mk HAW
  have HF := Aside0.mk HFEW
  have HV := Aside0.mk hv
  have HS := Aside0.mk hs
  have HB := Aside0.mk (Below.refl w.heap.size w)
  clear hr hc HAW HFEW hv hs
  go_enter Try.func5, Try.ntmps5
  go_wp2_with (first
    | (go_at_call 8; refine (HA.out _).mono ?_; rintro e w1 ⟨rfl, hb⟩; have n_ := Aside0.mk (below_step HB.out hb); clear HB; have HB := n_; have n2_ := Aside0.mk (Kd.C_below HR.out hb); clear HR; have HR := n2_; clear n_ n2_ hb)
    | (go_at_call 9; refine (HF.out _ HR.out).mono ?_; rintro e w1 ⟨rfl, ⟨n1, rfl⟩⟩; have n_ := Aside0.mk (pw_below_drewN HB.out n1); clear HB; have HB := n_; have n2_ := Aside0.mk (Kd.C_drewN HR.out n1); clear HR; have HR := n2_; clear n_ n2_)
    | (go_at_call 13; refine (new_yes lo va _ HV.out).mono ?_; rintro e w1 ⟨rfl, rfl⟩))
  have HT := Aside0.mk (Two.start lo va HB.out)
  have HR1 := Aside0.mk (Kd.C_alloc (Kd.C_alloc HR.out (.cells #[.int .i64 lo, .int .i64 va, .slice none 0 0, .int .i64 0] 78)) (.cells #[.int .i64 lo, .int .i64 va, .slice none 0 0, .int .i64 0] 78))
  clear HR HB HA HF
  rw [show (w1.drewN n1).heap.size = w1.heap.size from rfl] at HT
  obtain ⟨FA, hFA⟩ : ∃ FA, FA = w1.heap.size := ⟨_, rfl⟩
  rw [← hFA] at HT ⊢
  clear hFA
  go_loopw [53] (fun v53 wr => ∃ i : Nat, v53 = .int .i64 i ∧ Aside0 (i ≤ l.length) ∧ Aside0 (Apart l i) ∧ Aside0 (Kd.C k32 wr A l.length l) ∧ Aside0 (Two w wr FA (FA + 1) lo va (.slice none 0 0) (.slice none 0 0) [] [])) (fun v53 _ => l.length - (intOf v53).toNat)
  case atStart => exact ⟨0, rfl, ⟨Nat.zero_le _⟩, ⟨fun a b _ h => by omega⟩, HR1, HT⟩
  case round =>
    clear HT HR1
    obtain ⟨i, rfl, HI, HD, HR, HT⟩ := hrel
    by_cases hlt : i < l.length
    · go_wp2
      obtain ⟨wo, rfl⟩ : ∃ wo : World, wo = wr := ⟨_, rfl⟩
      go_loopw [57] (fun v57 ws => ∃ k : Nat, v57 = .int .i64 k ∧ Aside0 (k ≤ i) ∧ Aside0 (∀ a : Nat, a < k → (rd_T32 l (a : Int)).f0.toList ≠ (rd_T32 l (i : Int)).f0.toList) ∧ Aside0 (Kd.C k32 ws A l.length l) ∧ Aside0 (Two w ws FA (FA + 1) lo va (.slice none 0 0) (.slice none 0 0) [] [])) (fun v57 _ => i - (intOf v57).toNat)
      case atStart => exact ⟨0, rfl, ⟨Nat.zero_le _⟩, ⟨fun a h => by omega⟩, HR, HT⟩
      case round =>
        clear HR HT
        obtain ⟨k, rfl, HK, HE, HR, HT⟩ := hrel
        by_cases hk : k < i
        · have h0 : (0 : Int) ≤ (i : Int) := by omega
          have h1 : (i : Int) < (l.length : Int) := by omega
          have h2 : (0 : Int) ≤ (k : Int) := by omega
          have h3 : (k : Int) < (l.length : Int) := by omega
          obtain ⟨ad, A5, c5, eA, hx0, _⟩ := at_T32 HR.out i h0 h1
          obtain ⟨ad', B5, d5, eA', hy0, _⟩ := at_T32 HR.out k h2 h3
          subst eA
          obtain rfl := Option.some.inj eA'
          simp only [Int.toNat_natCast] at hx0 hy0
          obtain ⟨q, hq⟩ : ∃ q, q = (rd_T32 l (i : Int)).f0 := ⟨_, rfl⟩
          obtain ⟨p, hp⟩ : ∃ p, p = (rd_T32 l (k : Int)).f0 := ⟨_, rfl⟩
          rw [← hq] at hx0
          rw [← hp] at hy0
          have HQ := Aside0.mk hq
          have HP := Aside0.mk hp
          clear hq hp
          by_cases he : q.toList = p.toList
          · have he0 : (q.toList == p.toList) = true := by rw [he]; exact beq_self_eq_true _
            clear he
            go_wp2
            go_quiet (fail)
            go_wp2
            go_ret
            exact ⟨rfl, (HT.out.drewN _).hb⟩
          · have he0 : (q.toList == p.toList) = false := by
              cases hb : (q.toList == p.toList) with
              | false => rfl
              | true => exact absurd (eq_of_beq hb) he
            have HNE := Aside0.mk he
            clear he
            go_wp2
            go_quiet (fail)
            go_wp2
            go_roundw
            case rel => exact ⟨k + 1, by go_num, ⟨by omega⟩, ⟨fun a ha => by
              by_cases e : a = k
              · subst e; rw [← HP.out, ← HQ.out]; exact fun h => HNE.out h.symm
              · exact HE.out a (by omega)⟩, ⟨Kd.C_drewN HR.out _⟩, ⟨HT.out.drewN _⟩⟩
            case measure => simp [intOf]; omega
        · have e : k = i := by have := HK.out; omega
          subst e
          go_wp2
          go_roundw
          case rel => exact ⟨k + 1, by go_num, ⟨by omega⟩, ⟨HD.out.step HE.out⟩, HR, HT⟩
          case measure => simp [intOf]; omega
    · have e : i = l.length := by have := HI.out; omega
      subst e
      have HN := Aside0.mk HD.out.pairs
      clear HD HI HR hlt
      go_wp2
      go_loopw [75] (fun v75 ws => ∃ (i : Nat) (x y : Value), v75 = .int .i64 i ∧ Aside0 (i ≤ l.length) ∧ Aside0 (Two w ws FA (FA + 1) lo va x y (playO lo va (l.take i) []) (playO lo va (l.reverse.take i) []))) (fun v75 _ => l.length - (intOf v75).toNat)
      case atStart => exact ⟨0, _, _, rfl, ⟨Nat.zero_le _⟩, HT⟩
      case round =>
        clear HT
        obtain ⟨i, x, y, rfl, HI, HT⟩ := hrel
        by_cases hlt : i < l.length
        · have hC := Kd.C_below HR0.out HT.out.hb
          have h0 : (0 : Int) ≤ (i : Int) := by omega
          have h1 : (i : Int) < (l.length : Int) := by omega
          obtain ⟨ad, A5, c5, eA, hx0, hx1, hx2, hx3, hx4, hx5, hx6, hx7, hx8, hc5, hr5⟩ := at_T32 hC i h0 h1
          subst eA
          simp only [Int.toNat_natCast] at hx0 hx1 hx2 hx3 hx4 hx5 hx6 hx7 hx8
          obtain ⟨q, hq⟩ : ∃ q, q = rd_T32 l (i : Int) := ⟨_, rfl⟩
          rw [← hq] at hx0 hx1 hx2 hx3 hx4 hx5 hx6 hx7 hx8 hc5 hr5
          have HQ := Aside0.mk hq
          have H5 := Aside0.mk hr5
          have HC5 := Aside0.mk hc5
          clear hq hr5 hc5 hC
          go_wp2
          go_still_tail 10, (by kernel_rfl)
          change wpList _ _ _ _ _ (World.drew wr)
          have HT1 := Aside0.mk HT.out.drew
          have HV1 := HV.out
          have HF1 := Aside0.mk (playO_ok lo va HV1 (l.take i) (fun z hz => HS.out z (List.mem_of_mem_take hz)) [] (Fok.new (new_facts HV1).2.2.1 (by have := new_facts HV1; omega)))
          have hqs : Sized1 q := HS.out q (by rw [HQ.out]; exact rd_mem_p l i hlt)
          obtain ⟨r, hrr⟩ : ∃ r, r = claimP lo (playO lo va (l.take i) []) 0 q.f0 q (mayOf q) (paysN q lo va) := ⟨_, rfl⟩
          obtain ⟨k1, hk1⟩ := Ev.le (claim_ev q hqs lo va HV1 _ 0 HF1.out q.f0)
          rw [← hrr] at hk1
          obtain ⟨ps1, n1_, er1⟩ := r
          have HPS := Aside0.mk (show playO lo va (l.take (i + 1)) [] = ps1 by
            rw [List.take_succ_eq_append_getElem hlt, playO_snoc, show l[i] = q by rw [HQ.out]; simp [rd_T32, List.getD_eq_getElem?_getD, hlt], ← hrr])
          have HK1 := Aside0.mk hk1
          clear hk1 hrr HV1
          clear hx0 hx1 hx2 hx3 hx4 hx5 hx6 hx7 hx8
          go_wp2_with (go_at_call 15; refine (claim_calls k1 _ w.heap.size FA (fun _ => True) x lo va _ 0 q.f0 q A5 c5 ps1 n1_ er1 HT1.out.a (Kd.C_drew H5.out) HC5.out HT1.out.hb.size (fun _ _ => trivial) HK1.out).mono ?_; rintro e w2 ⟨rfl, x', hs', hk', hx', hb'⟩; have HT2 := Aside0.mk (HT1.out.claim hs' hk' hx' hb'); clear hs' hk' hx' hb')
          clear HT HT1 HF1 H5 HC5 HK1 hqs
          obtain ⟨j, hj⟩ : ∃ j : Nat, j = l.length - 1 - i := ⟨_, rfl⟩
          have hjl : j < l.length := by omega
          have hj0 : (0 : Int) ≤ (j : Int) := by omega
          have hj1 : (j : Int) < (l.length : Int) := by omega
          have hjr : rd_T32 l (j : Int) = l.reverse[i]'(by simpa using hlt) := by
            simp [rd_T32, List.getD_eq_getElem?_getD, hj, show l.length - 1 - i < l.length by omega]
          have HJR := Aside0.mk hjr
          clear hjr
          have hC2 := Kd.C_below HR0.out HT2.out.hb
          obtain ⟨ad2, B5, d5, eA2, hy0, hy1, hy2, hy3, hy4, hy5, hy6, hy7, hy8, hd5, hs5⟩ := at_T32 hC2 _ hj0 hj1
          obtain rfl := Option.some.inj eA2
          clear eA2
          simp only [Int.toNat_natCast] at hy0 hy1 hy2 hy3 hy4 hy5 hy6 hy7 hy8
          obtain ⟨p, hp⟩ : ∃ p, p = rd_T32 l (j : Int) := ⟨_, rfl⟩
          rw [← hp] at hy0 hy1 hy2 hy3 hy4 hy5 hy6 hy7 hy8 hd5 hs5 HJR
          have HPM := Aside0.mk (show p ∈ l by rw [HJR.out]; exact List.mem_reverse.1 (List.getElem_mem _))
          have H5 := Aside0.mk hs5
          have HC5 := Aside0.mk hd5
          clear hp hs5 hd5 hC2
          have s1 : IntKind.i64.wrap ((l.length : Int) - 1) = (l.length : Int) - 1 := IntWalk.i64_in _ (by omega)
          have s2 : IntKind.i64.wrap ((l.length : Int) - 1 - (i : Int)) = (j : Int) := (IntWalk.i64_in _ (by omega)).trans (by omega)
          clear hj
          go_wp2
          go_still_tail 18, (by kernel_rfl)
          clear s1 s2
          change wpList _ _ _ _ _ (World.drew w2)
          have HT3 := Aside0.mk HT2.out.drew
          have HV1 := HV.out
          have HF1 := Aside0.mk (playO_ok lo va HV1 (l.reverse.take i) (fun z hz => HS.out z (List.mem_reverse.1 (List.mem_of_mem_take hz))) [] (Fok.new (new_facts HV1).2.2.1 (by have := new_facts HV1; omega)))
          have hqs : Sized1 p := HS.out p HPM.out
          obtain ⟨r, hrr⟩ : ∃ r, r = claimP lo (playO lo va (l.reverse.take i) []) 0 p.f0 p (mayOf p) (paysN p lo va) := ⟨_, rfl⟩
          obtain ⟨k2, hk2⟩ := Ev.le (claim_ev p hqs lo va HV1 _ 0 HF1.out p.f0)
          rw [← hrr] at hk2
          obtain ⟨ps2, n2_, er2⟩ := r
          have HPS2 := Aside0.mk (show playO lo va (l.reverse.take (i + 1)) [] = ps2 by
            rw [List.take_succ_eq_append_getElem (by simpa using hlt), playO_snoc, ← HJR.out, ← hrr])
          have HK2 := Aside0.mk hk2
          clear hk2 hrr HV1
          clear hy0 hy1 hy2 hy3 hy4 hy5 hy6 hy7 hy8
          go_wp2_with (go_at_call 15; refine (claim_calls k2 _ w.heap.size (FA + 1) (fun _ => True) y lo va _ 0 p.f0 p B5 d5 ps2 n2_ er2 HT3.out.b (Kd.C_drew H5.out) HC5.out HT3.out.hb.size (fun _ _ => trivial) HK2.out).mono ?_; rintro e w3 ⟨rfl, y', hs', hk', hx', hb'⟩; have HT4 := Aside0.mk (HT3.out.symm.claim hs' hk' hx' hb').symm; clear hs' hk' hx' hb')
          go_roundw
          case rel => exact ⟨i + 1, x', y', by go_num, ⟨by omega⟩, ⟨by rw [HPS.out, HPS2.out]; exact HT4.out⟩⟩
          case measure => simp [intOf]; omega
        · have e : i = l.length := by have := HI.out; omega
          subst e
          have HV1 := HV.out
          have nf := new_facts HV1
          have h0 : Fok lo [] 0 := Fok.new nf.2.2.1 (by omega)
          have ta : l.take l.length = l := List.take_of_length_le (Nat.le_refl _)
          have tb : l.reverse.take l.length = l.reverse := List.take_of_length_le (by simp)
          rw [ta, tb] at HT
          have fa := (playO_ok lo va HV1 l HS.out [] h0).paid
          have fb := (playO_ok lo va HV1 l.reverse (fun z hz => HS.out z (List.mem_reverse.1 hz)) [] h0).paid
          have hsame := order_same lo va HV1 l HS.out HN.out (by omega)
          rw [← hsame.1] at fb
          obtain ⟨n0, hn0⟩ : ∃ n0, n0 = paidS (playO lo va l []) := ⟨_, rfl⟩
          rw [← hn0] at fa fb hsame
          have hle := hsame.2
          have cA : ∀ W, Two w W FA (FA + 1) lo va x y (playO lo va l []) (playO lo va l.reverse []) → Calls Try.prog 16 #[.pointer (some ⟨FA, 0, none⟩)] W fun e w' => e = .returned (.int .i64 n0) ∧ Below W.heap.size W w' := fun W h => by
            have := paid_calls W w.heap.size FA (fun _ => True) x lo va _ 0 h.a
            rwa [fa] at this
          have cB : ∀ W, Two w W FA (FA + 1) lo va x y (playO lo va l []) (playO lo va l.reverse []) → Calls Try.prog 16 #[.pointer (some ⟨FA + 1, 0, none⟩)] W fun e w' => e = .returned (.int .i64 n0) ∧ Below W.heap.size W w' := fun W h => by
            have := paid_calls W w.heap.size (FA + 1) (fun _ => True) y lo va _ 0 h.b
            rwa [fb] at this
          have CA := Aside0.mk cA
          have CB := Aside0.mk cB
          clear cA cB fa fb hsame hn0 nf h0 ta tb HV1 hlt HI
          go_wp2_with (first
            | (go_at_call 16; (with_reducible refine (CA.out _ HT.out).mono ?_); rintro e w4 ⟨rfl, hb⟩; have n_ := Aside0.mk (HT.out.below hb); clear HT; have HT := n_; clear n_ hb)
            | (go_at_call 16; (with_reducible refine (CB.out _ HT.out).mono ?_); rintro e w4 ⟨rfl, hb⟩; have n_ := Aside0.mk (HT.out.below hb); clear HT; have HT := n_; clear n_ hb))
          go_ret
          exact ⟨rfl, HT.out.hb⟩
end Go.Proofs.Ythpedogppiemkaa.Print
