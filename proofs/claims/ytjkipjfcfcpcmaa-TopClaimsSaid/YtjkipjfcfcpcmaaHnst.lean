/-
A file beside a map from names to numbers.
-/
import Derived.Test.YtjkipjfcfcpcmaaMplay
import Derived.Test.YtjkipjfcfcpcmaaHord
import Derived.Test.YtjkipjfcfcpcmaaHsum
namespace Go.Proofs.Ytjkipjfcfcpcmaa.Print
open Go.RowKit Go.Maps Go.Proofs.YtjkipjfcfcpcmaaW.PrintWords Go.Proofs.YtjkipjfcfcpcmaaW.PrintLast Go.Proofs.YtjkipjfcfcpcmaaW.PrintMore

theorem Sums.not_cells {W : World} {b n g : Nat} {f : ByteArray → Int} (h : Sums W b n f) {cs : Array Value} {t : Nat} (hg : W.heap[g]? = some (.cells cs t (0, 0))) : g ≠ b := by
  rintro rfl
  obtain ⟨D, ⟨es, clock, hb, _⟩, _⟩ := h
  rw [hb] at hg
  cases hg
theorem Sums.not_row {W : World} {b n : Nat} {f : ByteArray → Int} (h : Sums W b n f) {α : Type} {d : Kd α} {e base : Nat} {ok : Nat → Prop} {v : Value} {xs : List α} (hr : d.R e W base ok v xs) : v.ownBlock ≠ some b := fun e' => by
  obtain ⟨cells, hc⟩ := Kd.R_typed hr b e'
  exact h.not_cells hc rfl
theorem Sums.keep {W W' : World} {b n G : Nat} {f : ByteArray → Int} {row : Option Nat} (h : Sums W b n f) (hk : KeepBut W W' G row) (h1 : b ≠ G) (h2 : some b ≠ row) : Sums W' b n f := h.other (hk.2 b h.lt h1 h2)
theorem putF_eq (f : ByteArray → Int) (s : ByteArray) (v : Int) (t : ByteArray) : putF f s v t = if s = t then v else f t := by
  unfold putF
  by_cases e : s = t
  · rw [if_pos e, if_pos (by rw [e])]
  · rw [if_neg e, if_neg (fun h => e (Go.WideShapes.bytes_inj h))]
theorem below_grown {w W W' : World} {b : Nat} (hb : Below w.heap.size w W) (hg : W.grownBy W' (some b)) (h : w.heap.size ≤ b) : Below w.heap.size w W' := hb.grown hg hb.size (fun j hj => by cases hj; exact h)

section
variable {w W W' : World} {F n : Nat} {lo va : Int} {vp : Value} {ps : List S64} {bk : Int} {f : ByteArray → Int}
theorem Fst.mapped {b : Nat} (h : Fst W w.heap.size F (fun _ => True) vp lo va ps bk) (hm : Sums W b n f) (hg : W.grownBy W' (some b)) : Fst W' w.heap.size F (fun _ => True) vp lo va ps bk :=
  h.keep (KeepBut.of_grown hg b) (hm.not_cells h.hF) (fun e => hm.not_cells h.hF (Option.some.inj e)) (hm.not_row h.rp) (fun _ h1 h2 => hm.not_row h.rp (h1.trans h2.symm))
end
/-- The file and the first map while something else is written. -/
structure Nst1 (w W : World) (F M1 : Nat) (lo va : Int) (vp : Value) (ps : List S64) (bk : Int) (n1 : Nat) (f : ByteArray → Int) : Prop where
  st : Fst W w.heap.size F (fun _ => True) vp lo va ps bk
  m1 : Sums W M1 n1 f
  hb : Below w.heap.size w W
section
variable {w W W' : World} {F M1 : Nat} {lo va : Int} {vp vp' : Value} {ps ps' : List S64} {bk bk' : Int} {n1 n : Nat} {f f' : ByteArray → Int}
theorem Nst1.below (h : Nst1 w W F M1 lo va vp ps bk n1 f) (hb : Below W.heap.size W W') : Nst1 w W' F M1 lo va vp ps bk n1 f := ⟨h.st.below hb, h.m1.below hb h.m1.lt, below_step h.hb hb⟩
/-- A block that is new is written. -/
theorem Nst1.grown {r : Nat} (h : Nst1 w W F M1 lo va vp ps bk n1 f) (hg : W.grownBy W' (some r)) (hr : w.heap.size ≤ r) (h1 : F ≠ r) (h2 : M1 ≠ r) (h3 : vp.ownBlock ≠ some r) : Nst1 w W' F M1 lo va vp ps bk n1 f :=
  ⟨h.st.keep (KeepBut.of_grown hg r) h1 (fun e => h1 (Option.some.inj e)) h3 (fun _ e1 e2 => h3 (e1.trans e2.symm)), h.m1.keep (KeepBut.of_grown hg r) h2 (fun e => h2 (Option.some.inj e)), below_grown h.hb hg hr⟩
/-- The file has been written, and its row. -/
theorem Nst1.file (h : Nst1 w W F M1 lo va vp ps bk n1 f) (hs : Fst W' w.heap.size F (fun _ => True) vp' lo va ps' bk') (hk : KeepBut W W' F vp.ownBlock) (hb : Below w.heap.size W W') : Nst1 w W' F M1 lo va vp' ps' bk' n1 f :=
  ⟨hs, h.m1.keep hk (h.m1.not_cells h.st.hF).symm (fun e => h.m1.not_row h.st.rp e.symm), h.hb.trans hb⟩
theorem Nst1.put (h : Nst1 w W F M1 lo va vp ps bk n1 f) (hs : Sums W' M1 n f') (hg : W.grownBy W' (some M1)) (hM : w.heap.size ≤ M1) : Nst1 w W' F M1 lo va vp ps bk n f' :=
  ⟨h.st.mapped h.m1 hg, hs, below_grown h.hb hg hM⟩
theorem Nst1.blk_file (h : Nst1 w W F M1 lo va vp ps bk n1 f) {G t : Nat} {cs : Array Value} (hG : W.heap[G]? = some (.cells cs t (0, 0))) (h1 : t ≠ 60) (h2 : t ≠ 64) (hk : KeepBut W W' F vp.ownBlock) :
    W'.heap[G]? = some (.cells cs t (0, 0)) := hk.blk hG (blk_ne hG h.st.hF h1) (fun e => h.st.row_ne hG h2 e.symm)
theorem Nst1.blk_put (h : Nst1 w W F M1 lo va vp ps bk n1 f) {G t : Nat} {cs : Array Value} (hG : W.heap[G]? = some (.cells cs t (0, 0))) (hg : W.grownBy W' (some M1)) : W'.heap[G]? = some (.cells cs t (0, 0)) :=
  (hg.block G (blk_lt hG) (fun e => h.m1.not_cells hG (Option.some.inj e))).trans hG
theorem Nst1.row_put (h : Nst1 w W F M1 lo va vp ps bk n1 f) {vo : Value} {os : List S42} {base : Nat} (hr : Kd.R k42 42 W base (fun _ => True) vo os) (hg : W.grownBy W' (some M1)) : Kd.R k42 42 W' base (fun _ => True) vo os :=
  Kd.R_grown2 hr rfl hg (fun _ hk => by cases hk; exact fun e => h.m1.not_row hr e.symm)
theorem Nst1.drewN (h : Nst1 w W F M1 lo va vp ps bk n1 f) (m : Nat) : Nst1 w (W.drewN m) F M1 lo va vp ps bk n1 f := ⟨h.st.drewN m, h.m1.drewN m, pw_below_drewN h.hb m⟩
theorem Nst1.alloc (h : Nst1 w W F M1 lo va vp ps bk n1 f) (o : Obj) : Nst1 w (W.alloc o) F M1 lo va vp ps bk n1 f := h.below (below_alloc (Below.refl _ _) o)
end

theorem entS_take (os : List S42) (j : Nat) (hj : j < os.length) (t : ByteArray) : entS (os.take (j + 1)) t = entS (os.take j) t + (if (rd_T42 os (j : Int)).f0 = t then (rd_T42 os (j : Int)).f2 else 0) := by
  rw [List.take_succ_eq_append_getElem hj, entS_app]
  simp [entS, rd_T42, List.getD_eq_getElem?_getD, hj]
theorem entA_take (os : List S42) (j : Nat) (hj : j < os.length) : entA (os.take (j + 1)) = entA (os.take j) + (rd_T42 os (j : Int)).f2 := by
  rw [List.take_succ_eq_append_getElem hj, entA_app]
  simp [entA, rd_T42, List.getD_eq_getElem?_getD, hj]
theorem rd_mem_e (os : List S42) (j : Nat) (hj : j < os.length) : rd_T42 os (j : Int) ∈ os := by simp [rd_T42, List.getD_eq_getElem?_getD, hj]
theorem entS_le : ∀ (os : List S42), (∀ x ∈ os, 0 < x.f2) → ∀ t, 0 ≤ entS os t ∧ entS os t ≤ entA os
  | [], _, t => by simp [entS, entA]
  | x :: r, h, t => by
    have ih := entS_le r (fun y hy => h y (by simp [hy])) t
    have := h x (by simp)
    have e : entA (x :: r) = x.f2 + entA r := rfl
    rw [entS, e]
    split <;> omega
theorem entA_le : ∀ (os : List S42), (∀ x ∈ os, 0 < x.f2) → ∀ j, 0 ≤ entA (os.take j) ∧ entA (os.take j) ≤ entA os
  | [], _, j => by simp [entA]
  | x :: r, h, 0 => by
    have := (entS_le (x :: r) h x.f0)
    simp only [List.take_zero]
    have e : entA ([] : List S42) = 0 := rfl
    omega
  | x :: r, h, j + 1 => by
    have ih := entA_le r (fun y hy => h y (by simp [hy])) j
    have := h x (by simp)
    have e : entA (x :: r) = x.f2 + entA r := rfl
    have e2 : entA (x :: r.take j) = x.f2 + entA (r.take j) := rfl
    rw [List.take_succ_cons, e, e2]
    omega
theorem entS_take_le : ∀ (os : List S42), (∀ x ∈ os, 0 < x.f2) → ∀ (k : Nat) (t : ByteArray), entS (os.take k) t ≤ entS os t
  | [], _, k, t => by simp [entS]
  | x :: r, h, 0, t => by
    have := entS_le (x :: r) h t
    simp only [List.take_zero, entS]
    simp only [entS] at this
    omega
  | x :: r, h, k + 1, t => by
    have ih := entS_take_le r (fun y hy => h y (by simp [hy])) k t
    rw [List.take_succ_cons, entS, entS]
    omega
theorem Recd.small {lo bk s bk1 er : Int} {ps ps1 : List S64} {os : List S42} (h : Fok lo ps bk) (c : Recd lo ps bk s (ps1, bk1, os, er)) : 0 ≤ entA os ∧ entA os ≤ 1099511627776 ∧ paidS ps1 = paidS ps := by
  have e : paidS ps1 = paidS ps := by
    have := c.pds
    simp only at this
    unfold paidS
    rw [this]
  have h1 := c.tot
  have h2 := c.ok.each.sums
  have h3 := c.ok.left
  have h4 := h.each.sums
  have h5 := h.lo1
  have h6 := h.bk0
  simp only at h1 h2 h3
  refine ⟨?_, by omega, e⟩
  exact sum0 (fun y hy => by obtain ⟨x, hx, rfl⟩ := List.mem_map.1 hy; have := c.pos x hx; omega)
theorem Fok.ent_size {lo bk s bk1 er : Int} {ps ps1 : List S64} {os : List S42} (_ : Fok lo ps bk) (c : Recd lo ps bk s (ps1, bk1, os, er)) : ∀ x ∈ os, x.f0.size ≤ 9223372036854775807 := fun x hx => by have := c.acc x hx; omega
end Go.Proofs.Ytjkipjfcfcpcmaa.Print
