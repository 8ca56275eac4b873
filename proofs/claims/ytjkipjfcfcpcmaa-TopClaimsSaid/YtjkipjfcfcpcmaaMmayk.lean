/-
May a policy be: it always ends; what one that may is.
-/
import Derived.Test.YtjkipjfcfcpcmaaMev
import Derived.Test.YtjkipjfcfcpcmaaPrint4
namespace Go.Proofs.Ytjkipjfcfcpcmaa.Print
open Go.RowKit Go.Proofs.YtjkipjfcfcpcmaaW.PrintWords Go.Proofs.YtjkipjfcfcpcmaaW.PrintLast Go.Proofs.YtjkipjfcfcpcmaaW.PrintMore

def mayK (k : Nat) (x : S33) : Option Bool := policy_May.f k x.f0 x.f1 x.f2 x.f3 x.f4 x.f5 x.f6 x.f7 x.f8
theorem rd_mem_p (l : List S33) (i : Nat) (h : i < l.length) : rd_T33 l (i : Int) ∈ l := by simp [rd_T33, List.getD_eq_getElem?_getD, h]
/-- It ends, and if it says yes, P holds. -/
def Answers (f : Nat → Option Bool) (P : Prop) : Prop := ∃ b, Ev f b ∧ (b = true → P)
section
variable {α : Type} {f g : Nat → Option Bool} {P : Prop} {c : Prop} [Decidable c]
theorem Answers.now (b : Bool) (h : b = true → P) : Answers (fun _ => some b) P := ⟨b, Ev.now _, h⟩
theorem Answers.both (h1 : c → Answers f P) (h2 : ¬ c → Answers g P) : Answers (fun k => if c then f k else g k) P := by
  by_cases h : c
  · obtain ⟨b, hb, hp⟩ := h1 h; exact ⟨b, Ev.pos h hb, hp⟩
  · obtain ⟨b, hb, hp⟩ := h2 h; exact ⟨b, Ev.neg h hb, hp⟩
theorem Answers.call {h : Nat → α → Option Bool} {o : Option α} {r : α} (e : o = some r) (H : Answers (fun k => h k r) P) : Answers (fun k => o.bind (h k)) P := by
  subst e
  exact H
theorem Answers.next (h : ∀ k, f (k + 1) = g k) (H : Answers g P) : Answers f P := by
  obtain ⟨b, hb, hp⟩ := H
  exact ⟨b, Ev.step h hb, hp⟩
end

theorem within_f (a b c : Int) : policy_within.f a b c = some (decide (b ≤ a ∧ a ≤ c)) := by
  unfold policy_within.f
  split
  · rename_i h
    congr 1
    simp
    omega
  · rename_i h
    congr 1
    simp
    omega
theorem day_f (a : Int) : policy_day.f a = some (decide (0 ≤ a ∧ a ≤ 1048576)) := by
  unfold policy_day.f
  rw [within_f]
  rfl

structure MayFacts (f3 f4 f8 : Int) : Prop where
  a : 1 ≤ f3
  b : f3 ≤ 1099511627776
  c : 0 ≤ f4
  d : f4 ≤ f3
  e : 1 ≤ f8
  f : f8 ≤ 1000

theorem may_l0 (f0 f1 f2 : ByteArray) (f3 f4 : Int) (c : List Int) (f6 f7 f8 : Int) (hn : c.length ≤ 64) : ∀ (d i : Nat), i + d = c.length → Answers (fun k => policy_May.l0 k c (c.length : Int) (i : Int) f0 f1 f2 f3 f4 c f6 f7 f8) (MayFacts f3 f4 f8)
  | 0, i, h => by
    refine Answers.next (fun k => by rw [policy_May.l0]) ?_
    refine Answers.both (fun h => by omega) (fun _ => ?_)
    refine Answers.call (within_f _ _ _) (Answers.both (fun h3 => ?_) (fun _ => Answers.now _ (by simp)))
    refine Answers.call (within_f _ _ _) (Answers.both (fun h4 => ?_) (fun _ => Answers.now _ (by simp)))
    refine Answers.call (within_f _ _ _) (Answers.both (fun h8 => ?_) (fun _ => Answers.now _ (by simp)))
    refine Answers.call (day_f _) (Answers.both (fun h6 => ?_) (fun _ => Answers.now _ (by simp)))
    refine Answers.call (day_f _) (Answers.both (fun h7 => ?_) (fun _ => Answers.now _ (by simp)))
    refine Answers.now _ (fun _ => ?_)
    have h3 := of_decide_eq_true h3
    have h4 := of_decide_eq_true h4
    have h8 := of_decide_eq_true h8
    exact ⟨h3.1, h3.2, h4.1, h4.2, h8.1, h8.2⟩
  | d + 1, i, h => by
    have ih := may_l0 f0 f1 f2 f3 f4 c f6 f7 f8 hn d (i + 1) (by omega)
    refine Answers.next (fun k => by rw [policy_May.l0]) ?_
    rw [w64 ((i : Int) + 1) (by omega) (by omega), w64 ((i : Int) - 1) (by omega) (by omega)]
    refine Answers.both (fun _ => ?_) (fun h => by omega)
    refine Answers.both (fun _ => ?_) (fun h => by omega)
    refine Answers.both (fun _ => ?_) (fun h => by omega)
    refine Answers.call (within_f _ _ _) (Answers.both (fun _ => ?_) (fun _ => Answers.now _ (by simp)))
    refine Answers.both (fun _ => ?_) (fun _ => ih)
    refine Answers.both (fun _ => ?_) (fun h => by omega)
    refine Answers.both (fun _ => ?_) (fun h => by omega)
    exact Answers.both (fun _ => Answers.now _ (by simp)) (fun _ => ih)

theorem may_j0 (b : Bool) (f0 f1 f2 : ByteArray) (f3 f4 : Int) (c : List Int) (f6 f7 f8 : Int) (hn : b = false → c.length ≤ 64) : Answers (fun k => policy_May.j0 k b f0 f1 f2 f3 f4 c f6 f7 f8) (MayFacts f3 f4 f8) := by
  refine Answers.next (fun k => by rw [policy_May.j0]) ?_
  refine Answers.both (fun _ => Answers.now _ (by simp)) (fun hb => ?_)
  exact may_l0 f0 f1 f2 f3 f4 c f6 f7 f8 (hn (by cases b <;> simp_all)) c.length 0 (by omega)

/-- The strings and lists of a policy aren't too long to be. -/
def Sized1 (x : S33) : Prop := x.f0.size ≤ 9223372036854775807 ∧ x.f1.size ≤ 9223372036854775807 ∧ x.f2.size ≤ 9223372036854775807

theorem name_f (s : ByteArray) (h : s.size ≤ 9223372036854775807) : mark_Name.f s = some (nameB s) := by unfold mark_Name.f; rw [if_pos h]

theorem may_ends (x : S33) (hs : Sized1 x) : Answers (fun k => mayK k x) (MayFacts x.f3 x.f4 x.f8) := by
  unfold mayK policy_May.f
  obtain ⟨h0, h1, h2⟩ := hs
  refine Answers.call (name_f _ h0) (Answers.both (fun _ => ?_) (fun _ => may_j0 _ _ _ _ _ _ _ _ _ _ (by simp)))
  refine Answers.call (name_f _ h1) (Answers.both (fun _ => ?_) (fun _ => may_j0 _ _ _ _ _ _ _ _ _ _ (by simp)))
  refine Answers.call (name_f _ h2) (Answers.both (fun _ => ?_) (fun _ => may_j0 _ _ _ _ _ _ _ _ _ _ (by simp)))
  exact may_j0 _ _ _ _ _ _ _ _ _ _ (fun h => by have := of_decide_eq_false h; omega)

/-- A policy that may be is somebody's: its name is one. -/
theorem may_name (k : Nat) (x : S33) (h : mayK k x = some true) : nameB x.f0 = true := by
  unfold mayK policy_May.f at h
  obtain ⟨t, ht, h⟩ := Option.bind_eq_some_iff.1 h
  have e : t = nameB x.f0 := by
    unfold mark_Name.f at ht
    split at ht
    · exact (Option.some.inj ht).symm
    · cases ht
  cases t with
  | true => exact e.symm
  | false =>
    rw [if_neg (by simp)] at h
    cases k with
    | zero => simp [policy_May.j0] at h
    | succ k => simp [policy_May.j0] at h
theorem name_size (s : ByteArray) (h : nameB s = true) : 1 ≤ s.size ∧ s.size ≤ 16 := by
  unfold nameB at h
  simp only [Bool.and_eq_true, decide_eq_true_eq] at h
  exact h.1
/-- Whether a policy may be, once and for all. -/
noncomputable def mayOf (x : S33) : Bool := @decide (∃ k, mayK k x = some true) (Classical.propDecidable _)
theorem mayK_mono (x : S33) {k m : Nat} {b : Bool} (h : mayK k x = some b) (hk : k ≤ m) : mayK m x = some b := by
  induction hk with
  | refl => exact h
  | step _ ih => exact policy_May.mono _ _ _ _ _ _ _ _ _ _ _ ih
theorem may_of (x : S33) (hs : Sized1 x) : Ev (fun k => mayK k x) (mayOf x) ∧ (mayOf x = true → MayFacts x.f3 x.f4 x.f8 ∧ 1 ≤ x.f0.size ∧ x.f0.size ≤ 16) := by
  obtain ⟨b, hb, hf⟩ := may_ends x hs
  obtain ⟨K, hK⟩ := hb
  have hK : ∀ k, K ≤ k → mayK k x = some b := hK
  have e : mayOf x = b := by
    cases b with
    | true => exact @decide_eq_true _ (Classical.propDecidable _) ⟨K, hK K (Nat.le_refl _)⟩
    | false =>
      refine @decide_eq_false _ (Classical.propDecidable _) (fun ⟨k, hk⟩ => ?_)
      have h1 := mayK_mono x hk (Nat.le_max_left k K)
      have h2 := hK (max k K) (Nat.le_max_right k K)
      rw [h1] at h2
      cases h2
  rw [e]
  refine ⟨⟨K, hK⟩, fun h => ⟨hf h, ?_⟩⟩
  exact name_size _ (may_name K x (by rw [hK K (Nat.le_refl _), h]))
end Go.Proofs.Ytjkipjfcfcpcmaa.Print
