/-
A map from names to numbers that the call makes: block b gives each name its number.
-/
import Derived.Test.YtjkipjfcfcpcmaaPrint0
import Derived.Maps.OwnOps
import Derived.Maps.Views
import Derived.Maps.RangeWalk
namespace Go.Proofs.Ytjkipjfcfcpcmaa.Print
open Go.RowKit Go.Maps Go.WideMaps Go.Proofs.YtjkipjfcfcpcmaaW.PrintWords Go.Proofs.YtjkipjfcfcpcmaaW.PrintLast Go.Proofs.YtjkipjfcfcpcmaaW.PrintMore

theorem keyS : Keyed Try.prog 9 := string_keyed Try.underlying9
theorem zeroI (w : World) : (zeroValue 2).run Try.prog w = .ok (.int .i64 0) w := by kernel_rfl

/-- A datum gives each name its number. -/
def Gives (D : DataW Unit) (f : ByteArray → Int) : Prop := IsMap D ∧ ∀ s : ByteArray, D.atKey (.string s.data.toList) (.lit (.int .i64 0)) = .lit (.int .i64 (f s))
def putF (f : ByteArray → Int) (s : ByteArray) (v : Int) (t : ByteArray) : Int := if s.data.toList = t.data.toList then v else f t
theorem Gives.none : Gives (.map []) (fun _ => 0) := ⟨isMap_empty, fun _ => rfl⟩
theorem Gives.put {D : DataW Unit} {f : ByteArray → Int} (h : Gives D f) (s : ByteArray) (v : Int) : Gives (D.put (.string s.data.toList) (.lit (.int .i64 v))) (putF f s v) := by
  refine ⟨h.1.put _ _, fun t => ?_⟩
  unfold putF
  by_cases e : s.data.toList = t.data.toList
  · rw [if_pos e, ← e]
    exact atKey_put_same h.1 (show WideAt.IsKeyLit (.string s.data.toList) from trivial) _ _
  · rw [if_neg e, atKey_put_other (fun h' => e (by injection h' with h'; exact h'.symm)), h.2 t]

/-- Block b, a map of at most n names, gives each its number. -/
def Sums (W : World) (b n : Nat) (f : ByteArray → Int) : Prop := ∃ D : DataW Unit, W.ownsMap Try.prog 9 (plainElem Try.prog 2) b n D ∧ Gives D f
section
variable {W W2 : World} {b n : Nat} {f : ByteArray → Int}
theorem Sums.lt (h : Sums W b n f) : b < W.heap.size := by obtain ⟨D, h, _⟩ := h; exact h.lt
theorem Sums.new (W : World) : Sums (W.alloc (.map #[] 0)) W.heap.size 0 (fun _ => 0) := ⟨_, World.ownsMap_made _ _ _ _, Gives.none⟩
theorem Sums.mono (h : Sums W b n f) {m : Nat} (hm : n ≤ m) : Sums W b m f := by obtain ⟨D, h, g⟩ := h; exact ⟨D, h.mono hm, g⟩
theorem Sums.other (h : Sums W b n f) (e : W2.heap[b]? = W.heap[b]?) : Sums W2 b n f := by
  obtain ⟨D, ⟨es, clock, hb, r⟩, g⟩ := h
  exact ⟨D, ⟨es, clock, e.trans hb, r⟩, g⟩
theorem Sums.drew (h : Sums W b n f) : Sums W.drew b n f := h.other rfl
theorem Sums.drewN (h : Sums W b n f) (m : Nat) : Sums (W.drewN m) b n f := h.other rfl
theorem Sums.alloc (h : Sums W b n f) (o : Obj) : Sums (W.alloc o) b n f := by obtain ⟨D, h, g⟩ := h; exact ⟨D, h.alloc o, g⟩
theorem Sums.below (h : Sums W b n f) {B : Nat} (hb : Below B W W2) (hB : b < B) : Sums W2 b n f := h.other (hb.block b hB)
theorem Sums.congr (h : Sums W b n f) {g : ByteArray → Int} (e : ∀ t, f t = g t) : Sums W b n g := by rwa [show g = f from funext fun t => (e t).symm]
set_option maxRecDepth 100000 in
theorem Sums.look (h : Sums W b n f) (s : ByteArray) (hs : s.size ≤ maxLen) : (Instr.lookup 30 (.map (some b)) (.string s) false).run Try.prog W = .ok (.int .i64 (f s)) W := by
  obtain ⟨D, h, g⟩ := h
  obtain ⟨c, hr, hat, _⟩ := h.lookup_int keyS Try.underlying30 Try.underlying2 (zeroI W) (keyOf_string_mk Try.underlying9 hs)
  rw [g.2 s] at hat
  injection hat with hat
  injection hat with _ hat
  rw [hat, hr]
theorem Sums.put (h : Sums W b n f) (s : ByteArray) (hs : s.size ≤ maxLen) (v : Int) (hv : (Lit.int .i64 v).wf = true) (hn : n < maxLen) :
    ∃ W2, (Instr.mapUpdate 30 (.map (some b)) (.string s) (.int .i64 v)).run Try.prog W = .ok () W2 ∧ Sums W2 b (n + 1) (putF f s v) ∧ W.grownBy W2 (some b) := by
  obtain ⟨D, h, g⟩ := h
  obtain ⟨W2, hr, ho, hg⟩ := h.update keyS Try.underlying30 hn (keyOf_string_mk Try.underlying9 hs) (plainElem_int Try.underlying2 hv)
  exact ⟨W2, hr, ⟨_, ho, g.put s v⟩, hg⟩
end

set_option maxRecDepth 100000 in
/-- A step of a range over such a map: nothing is left, or a name comes and its number. -/
theorem wpList_next_si {ops : Array Oper} {rest : List Oper} {o : Oper} {a : Act} {Q : Exit → Act → World → Prop} (w : World) (hg : o.guard = none) (it : Operand) (hop : o.op = Op.next it false)
    (b r n : Nat) (D : DataW Unit) (left : Lit → Bool) (cnt : Nat) (hit : a.eval it = .pointer (some ⟨r, 0, none⟩)) (h : w.ranges Try.prog 9 (plainElem Try.prog 2) b r n D left cnt)
    (hDone : wpList Try.prog ops Q rest (a.put o.dst (.tuple #[.bool false])) w)
    (hMore : ∀ (s : ByteArray) (c : Int) (w' : World) (left' : Lit → Bool) (cnt' : Nat), s.size ≤ maxLen → (∀ f, Gives D f → f s = c) → w'.ranges Try.prog 9 (plainElem Try.prog 2) b r n D left' cnt' → cnt' < cnt →
      w.grownBy w' (some r) → (Instr.entry (.pointer (some ⟨r, 0, none⟩))).run Try.prog w' = .ok (.tuple #[.string s, .int .i64 c]) w' → wpList Try.prog ops Q rest (a.put o.dst (.tuple #[.bool true, .string s, .int .i64 c])) w') :
    wpList Try.prog ops Q (o :: rest) a w :=
  wpList_next_ranges w hg it hop 9 keyS (plainElem Try.prog 2) Value.string (Value.int .i64) (fun key kl hkey => by obtain ⟨s, rfl, _⟩ := string_of_keyOf Try.underlying9 hkey; exact ⟨s, rfl⟩)
    (fun v y hv => by obtain ⟨c, rfl, _⟩ := plainElem_int_inv Try.underlying2 hv; exact ⟨c, rfl⟩) b r n D left cnt hit h (fun _ _ => hDone)
    (fun s c kl y w' cnt' hkey _ hv hat hrg hlt hgr _ hen => by
      obtain ⟨s', es, rfl, hs⟩ := string_of_keyOf Try.underlying9 hkey
      cases es
      obtain ⟨c', ec, rfl, _⟩ := plainElem_int_inv Try.underlying2 hv
      cases ec
      refine hMore s c w' _ cnt' hs (fun f hf => ?_) hrg hlt hgr hen
      have h1 := hf.2 s
      rw [hat] at h1
      injection h1 with h1
      injection h1 with _ h1
      exact h1.symm)
end Go.Proofs.Ytjkipjfcfcpcmaa.Print
