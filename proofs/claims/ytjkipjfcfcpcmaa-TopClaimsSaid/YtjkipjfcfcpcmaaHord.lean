/-
Two files beside each other; the law on the order of claims, walked.
-/
import Derived.Test.YtjkipjfcfcpcmaaMplay



import Derived.StillTailTactics
namespace Go.Proofs.Ytjkipjfcfcpcmaa.Print
open Go.RowKit Go.Proofs.YtjkipjfcfcpcmaaW.PrintWords Go.Proofs.YtjkipjfcfcpcmaaW.PrintLast Go.Proofs.YtjkipjfcfcpcmaaW.PrintMore

theorem Fst.keep {W W' : World} {B F G : Nat} {row : Option Nat} {vp : Value} {lo va bk : Int} {ps : List S64} (h : Fst W B F (fun _ => True) vp lo va ps bk) (hk : KeepBut W W' G row)
    (hF : F ≠ G) (hr : some F ≠ row) (h1 : vp.ownBlock ≠ some G) (h2 : ∀ g, vp.ownBlock = some g → row ≠ some g) : Fst W' B F (fun _ => True) vp lo va ps bk := by
  refine ⟨hk.blk h.hF hF hr, ?_, h.bF⟩
  have ht := Kd.R_tight rfl h.rp
  have hs := Kd.R_step (w1 := W') ht (fun k hk' hlt => hk.2 k hlt (fun e => h1 (by rw [← e]; exact hk'.symm)) (fun e => h2 k hk'.symm e.symm))
  exact Kd.R_mono hs (fun _ _ => trivial)
theorem Fst.row_ne {W : World} {B F G : Nat} {ok : Nat → Prop} {vp : Value} {lo va bk : Int} {ps : List S64} (h : Fst W B F ok vp lo va ps bk) {cs : Array Value} {t : Nat} (hG : W.heap[G]? = some (.cells cs t (0, 0))) (ht : t ≠ 64) : vp.ownBlock ≠ some G := fun e => by
  obtain ⟨cells, hc⟩ := Kd.R_typed h.rp G e
  rw [hG] at hc
  injection hc with hc
  injection hc with _ hc
  exact ht hc

structure Two (w W : World) (FA FB : Nat) (lo va : Int) (x y : Value) (pa pb : List S64) : Prop where
  a : Fst W w.heap.size FA (fun _ => True) x lo va pa 0
  b : Fst W w.heap.size FB (fun _ => True) y lo va pb 0
  ne : FA ≠ FB
  ap : ∀ g, x.ownBlock = some g → y.ownBlock ≠ some g
  hb : Below w.heap.size w W
section
variable {w W W' : World} {FA FB : Nat} {lo va : Int} {x y x' : Value} {pa pb pa' : List S64}
theorem Two.symm (h : Two w W FA FB lo va x y pa pb) : Two w W FB FA lo va y x pb pa := ⟨h.b, h.a, h.ne.symm, fun g h1 h2 => h.ap g h2 h1, h.hb⟩
theorem Two.drewN (h : Two w W FA FB lo va x y pa pb) (m : Nat) : Two w (W.drewN m) FA FB lo va x y pa pb := ⟨h.a.drewN m, h.b.drewN m, h.ne, h.ap, pw_below_drewN h.hb m⟩
theorem Two.drew (h : Two w W FA FB lo va x y pa pb) : Two w W.drew FA FB lo va x y pa pb := ⟨h.a.drew, h.b.drew, h.ne, h.ap, below_drew1 h.hb⟩
theorem Two.below (h : Two w W FA FB lo va x y pa pb) (hb : Below W.heap.size W W') : Two w W' FA FB lo va x y pa pb := ⟨h.a.below hb, h.b.below hb, h.ne, h.ap, below_step h.hb hb⟩
theorem Two.claim (h : Two w W FA FB lo va x y pa pb) (hs : Fst W' w.heap.size FA (fun _ => True) x' lo va pa' 0) (hk : KeepBut W W' FA x.ownBlock) (hx : x'.ownBlock = x.ownBlock ∨ ∃ b, x'.ownBlock = some b ∧ W.heap.size ≤ b) (hb : Below w.heap.size W W') :
    Two w W' FA FB lo va x' y pa' pb := by
  refine ⟨hs, h.b.keep hk h.ne.symm (fun e => h.a.row_ne h.b.hF (by decide) e.symm) (h.b.row_ne h.a.hF (by decide)) (fun g h1 h2 => h.ap g h2 h1), h.ne, fun g h1 h2 => ?_, h.hb.trans hb⟩
  rcases hx with hx | ⟨_, hx, hb'⟩
  · exact h.ap g (by rw [← hx]; exact h1) h2
  · rw [hx] at h1
    cases h1
    obtain ⟨cells, hc⟩ := Kd.R_typed h.b.rp g h2
    have := blk_lt hc
    omega
end

/-- The claims of the first policies of a row. -/
noncomputable def playO (lo va : Int) : List S33 → List S64 → List S64
  | [], ps => ps
  | x :: r, ps => playO lo va r (claimP lo ps 0 x.f0 x (mayOf x) (paysN x lo va)).1
theorem playO_snoc (lo va : Int) (x : S33) : ∀ (l : List S33) (ps : List S64), playO lo va (l ++ [x]) ps = (claimP lo (playO lo va l ps) 0 x.f0 x (mayOf x) (paysN x lo va)).1
  | [], _ => rfl
  | _ :: r, _ => playO_snoc lo va x r _
theorem playO_ok (lo va : Int) (hv : newB lo va = true) : ∀ (l : List S33), (∀ x ∈ l, Sized1 x) → ∀ ps, Fok lo ps 0 → Fok lo (playO lo va l ps) 0
  | [], _, _, h => h
  | x :: r, hs, ps, h => playO_ok lo va hv r (fun y hy => hs y (by simp [hy])) _ (claim_ok x (hs x (by simp)) lo va hv ps 0 h x.f0).ok
theorem playO_len (lo va : Int) : ∀ (l : List S33) (ps : List S64), (playO lo va l ps).length ≤ ps.length + l.length
  | [], _ => Nat.le_refl _
  | x :: r, ps => by
    have := playO_len lo va r (claimP lo ps 0 x.f0 x (mayOf x) (paysN x lo va)).1
    have h2 : (claimP lo ps 0 x.f0 x (mayOf x) (paysN x lo va)).1.length ≤ ps.length + 1 := by
      unfold claimP
      repeat' split
      all_goals simp
    rw [playO, List.length_cons]
    omega

/-- What one pays, if it may be. -/
noncomputable def amtO (lo va : Int) (x : S33) : Int := if mayOf x = true then paysN x lo va else 0
theorem mn_step (a n lo r : Int) (hr : 0 ≤ r) : mn (a + mn n (lo - a - 0) + r) lo = mn (a + (n + r)) lo := by
  unfold mn
  split <;> split <;> split <;> omega
theorem any_snoc (s : ByteArray) (ps : List S64) (p : S64) (h : ps.any (named s) = false) (hp : p.f0 ≠ s) : (ps ++ [p]).any (named s) = false := by
  rw [List.any_append, h, List.any_cons, List.any_nil]
  have : named s p = false := by
    cases hq : named s p with
    | false => rfl
    | true => exact absurd ((named_iff s p).1 hq) hp
  rw [this]; rfl
theorem playO_sum (lo va : Int) (hv : newB lo va = true) : ∀ (l : List S33), (∀ x ∈ l, Sized1 x) → l.Pairwise (fun x y => x.f0 ≠ y.f0) → ∀ ps, Fok lo ps 0 → (∀ x ∈ l, ps.any (named x.f0) = false) →
    ps.length + l.length ≤ 4096 → paidS (playO lo va l ps) = mn (paidS ps + (l.map (amtO lo va)).sum) lo ∧ 0 ≤ (l.map (amtO lo va)).sum
  | [], _, _, ps, h, _, _ => by
    have := h.left
    refine ⟨?_, by simp⟩
    simp only [playO, List.map_nil, List.sum_nil]
    unfold mn
    split <;> omega
  | x :: r, hs, hd, ps, h, hp, hl => by
    obtain ⟨v1, v2, v3, v4⟩ := new_facts hv
    have hc := claim_ok x (hs x (by simp)) lo va hv ps 0 h x.f0
    have hle := h.left
    rw [List.length_cons] at hl
    obtain ⟨hd1, hd2⟩ := List.pairwise_cons.1 hd
    have hx : ps.any (named x.f0) = false := hp x (by simp)
    rw [playO, List.map_cons, List.sum_cons]
    by_cases hm : mayOf x = true
    · have e : claimP lo ps 0 x.f0 x (mayOf x) (paysN x lo va) = (ps ++ [⟨x.f0, mn (paysN x lo va) (lo - paidS ps - 0), 0⟩], mn (paysN x lo va) (lo - paidS ps - 0), 0) := by
        unfold claimP
        rw [if_pos hm, if_pos rfl, if_neg (by rw [hx]; simp), if_neg (by omega)]
      rw [e] at hc ⊢
      have hpos := (paysN_facts x ((may_of x (hs x (by simp))).2 hm).1 lo va v3 v1).1
      obtain ⟨i1, i2⟩ := playO_sum lo va hv r (fun y hy => hs y (by simp [hy])) hd2 _ hc.ok (fun y hy => any_snoc _ _ _ (hp y (by simp [hy])) (hd1 y hy)) (by simp only [List.length_append, List.length_singleton]; omega)
      have ea : amtO lo va x = paysN x lo va := by unfold amtO; rw [if_pos hm]
      rw [i1, ea]
      refine ⟨?_, by omega⟩
      rw [paidS_snoc]
      exact mn_step _ _ _ _ i2
    · have e : claimP lo ps 0 x.f0 x (mayOf x) (paysN x lo va) = (ps, 0, 1) := by
        unfold claimP
        rw [if_neg hm]
      rw [e]
      obtain ⟨i1, i2⟩ := playO_sum lo va hv r (fun y hy => hs y (by simp [hy])) hd2 ps h (fun y hy => hp y (by simp [hy])) (by omega)
      have ea : amtO lo va x = 0 := by unfold amtO; rw [if_neg hm]
      rw [i1, ea]
      exact ⟨by rw [show (0 : Int) + (r.map (amtO lo va)).sum = (r.map (amtO lo va)).sum by omega], by omega⟩
theorem sum_rev (l : List Int) : l.reverse.sum = l.sum := by
  induction l with
  | nil => rfl
  | cons x r ih => rw [List.reverse_cons, List.sum_append_int, ih]; simp; omega
/-- Claimed of in whatever order, insurers that are unlike pay the same together. -/
theorem order_same (lo va : Int) (hv : newB lo va = true) (l : List S33) (hs : ∀ x ∈ l, Sized1 x) (hd : l.Pairwise (fun x y => x.f0 ≠ y.f0)) (hl : l.length ≤ 4096) :
    paidS (playO lo va l []) = paidS (playO lo va l.reverse []) ∧ paidS (playO lo va l []) ≤ lo := by
  obtain ⟨v1, v2, v3, v4⟩ := new_facts hv
  have h0 : Fok lo [] 0 := Fok.new v3 (by omega)
  have a := playO_sum lo va hv l hs hd [] h0 (by simp) (by simpa using hl)
  have b := playO_sum lo va hv l.reverse (fun x hx => hs x (by simpa using hx)) (List.pairwise_reverse.2 (hd.imp fun h => h.symm)) [] h0 (by simp) (by simpa using hl)
  rw [a.1, b.1, List.map_reverse, sum_rev]
  refine ⟨rfl, ?_⟩
  unfold mn
  split <;> omega
end Go.Proofs.Ytjkipjfcfcpcmaa.Print
