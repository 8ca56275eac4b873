/-
A file beside two maps from names to numbers: what was paid, what came back.
-/
import Derived.Test.YthpedogppiemkaaMplay
import Derived.Test.YthpedogppiemkaaHord
import Derived.Test.YthpedogppiemkaaHsum
namespace Go.Proofs.Ythpedogppiemkaa.Print
open Go.RowKit Go.Maps Go.Proofs.YthpedogppiemkaaW.PrintWords Go.Proofs.YthpedogppiemkaaW.PrintLast Go.Proofs.YthpedogppiemkaaW.PrintMore

theorem Sums.not_cells {W : World} {b n g : Nat} {f : ByteArray → Int} (h : Sums W b n f) {cs : Array Value} {t : Nat} (hg : W.heap[g]? = some (.cells cs t (0, 0))) : g ≠ b := by
  rintro rfl
  obtain ⟨D, ⟨es, clock, hb, _⟩, _⟩ := h
  rw [hb] at hg
  cases hg
theorem Sums.not_row {W : World} {b n : Nat} {f : ByteArray → Int} (h : Sums W b n f) {α : Type} {d : Kd α} {e base : Nat} {ok : Nat → Prop} {v : Value} {xs : List α} (hr : d.R e W base ok v xs) : v.ownBlock ≠ some b := fun e' => by
  obtain ⟨cells, hc⟩ := Kd.R_typed hr b e'
  exact h.not_cells hc rfl
theorem Sums.keep {W W' : World} {b n G : Nat} {f : ByteArray → Int} {row : Option Nat} (h : Sums W b n f) (hk : KeepBut W W' G row) (h1 : b ≠ G) (h2 : some b ≠ row) : Sums W' b n f := h.other (hk.2 b h.lt h1 h2)
theorem putF_eq (f : ByteArray → Int) (s : ByteArray) (v : Int) (t : ByteArray) : putF f s v t = if s = t then v else f t := by
  unfold putF
  by_cases e : s = t
  · rw [if_pos e, if_pos (by rw [e])]
  · rw [if_neg e, if_neg (fun h => e (Go.WideShapes.bytes_inj h))]
theorem below_grown {w W W' : World} {b : Nat} (hb : Below w.heap.size w W) (hg : W.grownBy W' (some b)) (h : w.heap.size ≤ b) : Below w.heap.size w W' := hb.grown hg hb.size (fun j hj => by cases hj; exact h)

structure Nst (w W : World) (F M1 M2 : Nat) (lo va : Int) (vp : Value) (ps : List S82) (bk : Int) (n1 n2 : Nat) (f g : ByteArray → Int) : Prop where
  st : Fst W w.heap.size F (fun _ => True) vp lo va ps bk
  m1 : Sums W M1 n1 f
  m2 : Sums W M2 n2 g
  b1 : w.heap.size ≤ M1
  b2 : w.heap.size ≤ M2
  ne : M1 ≠ M2
  hb : Below w.heap.size w W
section
variable {w W W' : World} {F M1 M2 : Nat} {lo va : Int} {vp vp' : Value} {ps ps' : List S82} {bk bk' : Int} {n1 n2 n : Nat} {f g f' : ByteArray → Int}
theorem Nst.below (h : Nst w W F M1 M2 lo va vp ps bk n1 n2 f g) (hb : Below W.heap.size W W') : Nst w W' F M1 M2 lo va vp ps bk n1 n2 f g :=
  ⟨h.st.below hb, h.m1.below hb h.m1.lt, h.m2.below hb h.m2.lt, h.b1, h.b2, h.ne, below_step h.hb hb⟩
theorem Nst.alloc (h : Nst w W F M1 M2 lo va vp ps bk n1 n2 f g) (o : Obj) : Nst w (W.alloc o) F M1 M2 lo va vp ps bk n1 n2 f g := h.below (below_alloc (Below.refl _ _) o)
/-- The file has been written, and its row. -/
theorem Nst.file (h : Nst w W F M1 M2 lo va vp ps bk n1 n2 f g) (hs : Fst W' w.heap.size F (fun _ => True) vp' lo va ps' bk') (hk : KeepBut W W' F vp.ownBlock) (hb : Below w.heap.size W W') :
    Nst w W' F M1 M2 lo va vp' ps' bk' n1 n2 f g :=
  ⟨hs, h.m1.keep hk (h.m1.not_cells h.st.hF).symm (fun e => h.m1.not_row h.st.rp e.symm), h.m2.keep hk (h.m2.not_cells h.st.hF).symm (fun e => h.m2.not_row h.st.rp e.symm), h.b1, h.b2, h.ne, h.hb.trans hb⟩
theorem Fst.mapped {b : Nat} (h : Fst W w.heap.size F (fun _ => True) vp lo va ps bk) (hm : Sums W b n f) (hg : W.grownBy W' (some b)) : Fst W' w.heap.size F (fun _ => True) vp lo va ps bk :=
  h.keep (KeepBut.of_grown hg b) (hm.not_cells h.hF) (fun e => hm.not_cells h.hF (Option.some.inj e)) (hm.not_row h.rp) (fun k h1 h2 => hm.not_row h.rp (h1.trans h2.symm))
theorem Nst.put1 (h : Nst w W F M1 M2 lo va vp ps bk n1 n2 f g) (hs : Sums W' M1 n f') (hg : W.grownBy W' (some M1)) : Nst w W' F M1 M2 lo va vp ps bk n n2 f' g :=
  ⟨h.st.mapped h.m1 hg, hs, h.m2.keep (KeepBut.of_grown hg M1) h.ne.symm (fun e => h.ne (Option.some.inj e).symm), h.b1, h.b2, h.ne, below_grown h.hb hg h.b1⟩
theorem Nst.put2 (h : Nst w W F M1 M2 lo va vp ps bk n1 n2 f g) (hs : Sums W' M2 n f') (hg : W.grownBy W' (some M2)) : Nst w W' F M1 M2 lo va vp ps bk n1 n f f' :=
  ⟨h.st.mapped h.m2 hg, h.m1.keep (KeepBut.of_grown hg M2) h.ne (fun e => h.ne (Option.some.inj e)), hs, h.b1, h.b2, h.ne, below_grown h.hb hg h.b2⟩
/-- A block of another type stays while the file is written. -/
theorem Nst.blk_file (h : Nst w W F M1 M2 lo va vp ps bk n1 n2 f g) {G t : Nat} {cs : Array Value} (hG : W.heap[G]? = some (.cells cs t (0, 0))) (h1 : t ≠ 78) (h2 : t ≠ 82) (hk : KeepBut W W' F vp.ownBlock) :
    W'.heap[G]? = some (.cells cs t (0, 0)) := hk.blk hG (blk_ne hG h.st.hF h1) (fun e => h.st.row_ne hG h2 e.symm)
theorem Nst.blk_put2 (h : Nst w W F M1 M2 lo va vp ps bk n1 n2 f g) {G t : Nat} {cs : Array Value} (hG : W.heap[G]? = some (.cells cs t (0, 0))) (hg : W.grownBy W' (some M2)) : W'.heap[G]? = some (.cells cs t (0, 0)) :=
  (hg.block G (blk_lt hG) (fun e => h.m2.not_cells hG (Option.some.inj e))).trans hG
theorem Nst.blk_put1 (h : Nst w W F M1 M2 lo va vp ps bk n1 n2 f g) {G t : Nat} {cs : Array Value} (hG : W.heap[G]? = some (.cells cs t (0, 0))) (hg : W.grownBy W' (some M1)) : W'.heap[G]? = some (.cells cs t (0, 0)) :=
  (hg.block G (blk_lt hG) (fun e => h.m1.not_cells hG (Option.some.inj e))).trans hG
theorem Nst.row_put2 (h : Nst w W F M1 M2 lo va vp ps bk n1 n2 f g) {vo : Value} {os : List S46} {base : Nat} (hr : Kd.R k46 46 W base (fun _ => True) vo os) (hg : W.grownBy W' (some M2)) : Kd.R k46 46 W' base (fun _ => True) vo os :=
  Kd.R_grown2 hr rfl hg (fun _ hk => by cases hk; exact fun e => h.m2.not_row hr e.symm)
end

/-- The file and the first map while something else is written. -/
structure Nst1 (w W : World) (F M1 : Nat) (lo va : Int) (vp : Value) (ps : List S82) (bk : Int) (n1 : Nat) (f : ByteArray → Int) : Prop where
  st : Fst W w.heap.size F (fun _ => True) vp lo va ps bk
  m1 : Sums W M1 n1 f
  hb : Below w.heap.size w W
section
variable {w W W' : World} {F M1 M2 : Nat} {lo va : Int} {vp : Value} {ps : List S82} {bk : Int} {n1 n2 : Nat} {f g : ByteArray → Int}
theorem Nst.one (h : Nst w W F M1 M2 lo va vp ps bk n1 n2 f g) : Nst1 w W F M1 lo va vp ps bk n1 f := ⟨h.st, h.m1, h.hb⟩
theorem Nst1.below (h : Nst1 w W F M1 lo va vp ps bk n1 f) (hb : Below W.heap.size W W') : Nst1 w W' F M1 lo va vp ps bk n1 f := ⟨h.st.below hb, h.m1.below hb h.m1.lt, below_step h.hb hb⟩
/-- A block that is new is written. -/
theorem Nst1.grown {r : Nat} (h : Nst1 w W F M1 lo va vp ps bk n1 f) (hg : W.grownBy W' (some r)) (hr : w.heap.size ≤ r) (h1 : F ≠ r) (h2 : M1 ≠ r) (h3 : vp.ownBlock ≠ some r) : Nst1 w W' F M1 lo va vp ps bk n1 f :=
  ⟨h.st.keep (KeepBut.of_grown hg r) h1 (fun e => h1 (Option.some.inj e)) h3 (fun _ e1 e2 => h3 (e1.trans e2.symm)), h.m1.keep (KeepBut.of_grown hg r) h2 (fun e => h2 (Option.some.inj e)), below_grown h.hb hg hr⟩
end

/-- What the maps say of the file. -/
structure Told (lo : Int) (ps : List S82) (bk : Int) (f g : ByteArray → Int) : Prop where
  ok : Fok lo ps bk
  f_ : ∀ t, f t = paidBy ps t
  g_ : ∀ t, g t = backBy ps t + (if t = ⟨#[]⟩ then bk else 0)
theorem Told.new {lo : Int} (h : 0 ≤ lo) (h1 : lo ≤ 1099511627776) : Told lo [] 0 (fun _ => 0) (fun _ => 0) := ⟨Fok.new h h1, fun _ => rfl, fun t => by simp [backBy]⟩
theorem entS_take (os : List S46) (j : Nat) (hj : j < os.length) (t : ByteArray) : entS (os.take (j + 1)) t = entS (os.take j) t + (if (rd_T46 os (j : Int)).f0 = t then (rd_T46 os (j : Int)).f2 else 0) := by
  rw [List.take_succ_eq_append_getElem hj, entS_app]
  simp [entS, rd_T46, List.getD_eq_getElem?_getD, hj]
theorem entA_take (os : List S46) (j : Nat) (hj : j < os.length) : entA (os.take (j + 1)) = entA (os.take j) + (rd_T46 os (j : Int)).f2 := by
  rw [List.take_succ_eq_append_getElem hj, entA_app]
  simp [entA, rd_T46, List.getD_eq_getElem?_getD, hj]
theorem rd_mem_e (os : List S46) (j : Nat) (hj : j < os.length) : rd_T46 os (j : Int) ∈ os := by simp [rd_T46, List.getD_eq_getElem?_getD, hj]
theorem entS_le : ∀ (os : List S46), (∀ x ∈ os, 0 < x.f2) → ∀ t, 0 ≤ entS os t ∧ entS os t ≤ entA os
  | [], _, t => by simp [entS, entA]
  | x :: r, h, t => by
    have ih := entS_le r (fun y hy => h y (by simp [hy])) t
    have := h x (by simp)
    have e : entA (x :: r) = x.f2 + entA r := rfl
    rw [entS, e]
    split <;> omega
theorem entA_le : ∀ (os : List S46), (∀ x ∈ os, 0 < x.f2) → ∀ j, 0 ≤ entA (os.take j) ∧ entA (os.take j) ≤ entA os
  | [], _, j => by simp [entA]
  | x :: r, h, 0 => by
    have := (entS_le (x :: r) h x.f0)
    simp only [List.take_zero]
    have e : entA ([] : List S46) = 0 := rfl
    omega
  | x :: r, h, j + 1 => by
    have ih := entA_le r (fun y hy => h y (by simp [hy])) j
    have := h x (by simp)
    have e : entA (x :: r) = x.f2 + entA r := rfl
    have e2 : entA (x :: r.take j) = x.f2 + entA (r.take j) := rfl
    rw [List.take_succ_cons, e, e2]
    omega
theorem Recd.small {lo bk s bk1 er : Int} {ps ps1 : List S82} {os : List S46} (h : Fok lo ps bk) (c : Recd lo ps bk s (ps1, bk1, os, er)) : 0 ≤ entA os ∧ entA os ≤ 1099511627776 ∧ paidS ps1 = paidS ps := by
  have e : paidS ps1 = paidS ps := by
    have := c.pds
    simp only at this
    unfold paidS
    rw [this]
  have h1 := c.tot
  have h2 := c.ok.each.sums
  have h3 := c.ok.left
  have h4 := h.each.sums
  have h5 := h.lo1
  have h6 := h.bk0
  simp only at h1 h2 h3
  refine ⟨?_, by omega, e⟩
  exact sum0 (fun y hy => by obtain ⟨x, hx, rfl⟩ := List.mem_map.1 hy; have := c.pos x hx; omega)
theorem Fok.ent_size {lo bk s bk1 er : Int} {ps ps1 : List S82} {os : List S46} (_ : Fok lo ps bk) (c : Recd lo ps bk s (ps1, bk1, os, er)) : ∀ x ∈ os, x.f0.size ≤ 9223372036854775807 := fun x hx => by have := c.acc x hx; omega
theorem Told.recd {lo bk s bk1 er : Int} {ps ps1 : List S82} {os : List S46} {f g g' : ByteArray → Int} (h : Told lo ps bk f g) (c : Recd lo ps bk s (ps1, bk1, os, er)) (hg : ∀ t, g' t = g t + entS os t) : Told lo ps1 bk1 f g' := by
  refine ⟨c.ok, fun t => by rw [h.f_, c.by1], fun t => ?_⟩
  have := c.by2 t
  simp only at this
  rw [hg, h.g_, this]
theorem Told.g_bd {lo bk : Int} {ps : List S82} {f g : ByteArray → Int} (h : Told lo ps bk f g) (t : ByteArray) : 0 ≤ g t ∧ g t ≤ 1099511627776 := by
  have h2 := h.ok.each.sums
  have h3 := h.ok.left
  have h5 := h.ok.lo1
  have h6 := h.ok.bk0
  have h7 := backBy_le h.ok.each t
  rw [h.g_]
  split <;> omega
def actCells (q : S41) (A5 : Option Addr) (c5 : Nat) : Array Value := #[.string q.f0, .string q.f1.f0, .string q.f1.f1, .string q.f1.f2, .int .i64 q.f1.f3, .int .i64 q.f1.f4, .slice A5 q.f1.f5.length c5, .int .i64 q.f1.f6, .int .i64 q.f1.f7, .int .i64 q.f1.f8, .int .i64 q.f2]
theorem Told.claim {lo bk n n_ : Int} {ps ps1 : List S82} {f g : ByteArray → Int} {nm : ByteArray} (h : Told lo ps bk f g) (c : Claimed lo ps bk nm n (ps1, n_, 0)) : Told lo ps1 bk (putF f nm n_) g := by
  refine ⟨c.ok, fun t => ?_, fun t => by rw [h.g_, c.by2]⟩
  have h1 : paidBy ps1 t = paidBy ps t + (if nm = t then n_ else 0) := c.by1 t
  rw [putF_eq, h1]
  by_cases e : nm = t
  · rw [if_pos e, if_pos e, ← e, (c.yes rfl).1]; omega
  · rw [if_neg e, if_neg e, h.f_]; omega
end Go.Proofs.Ythpedogppiemkaa.Print
