/-
A map from roads to numbers: the two roads of the example.
-/
import Derived.Test.YtjkipjfcfcpcmaaHnetb
import Derived.Maps.OwnOps
import Derived.Maps.Views
import Derived.Maps.RangeWalk
import Derived.DeepKeys4
namespace Go.Proofs.Ytjkipjfcfcpcmaa.Print
open Go.RowKit Go.Maps Go.WideMaps Go.Proofs.YtjkipjfcfcpcmaaW.PrintWords Go.Proofs.YtjkipjfcfcpcmaaW.PrintLast Go.Proofs.YtjkipjfcfcpcmaaW.PrintMore

theorem laidOutR : laidOutB Try.prog = true := by kernel_rfl
theorem rowR : (95 : TypeId) < Try.prog.types.size := of_decide_eq_true (by kernel_rfl)
theorem wideR : (match Try.prog.underlying 95 with | some (.array _ _) | some (.struct _) => true | _ => false) = true := by rw [Try.underlying95]
set_option maxRecDepth 100000 in
theorem lawR : KeyLaw Try.prog 95 := deep_law_laid laidOutR (m := 2) (by omega) rowR (by kernel_rfl) wideR
theorem keyR : Keyed Try.prog 95 := Keyed.of_law lawR
def rk1 : Value := .agg #[.string usd, .string ea, .string eb]
def rk2 : Value := .agg #[.string usd, .string eb, .string ea]
theorem rk1_is : (keyOf Try.prog 95 rk1).isSome = true := by kernel_rfl
theorem rk2_is : (keyOf Try.prog 95 rk2).isSome = true := by kernel_rfl
theorem rk_ne : rk1 ≠ rk2 := by
  intro h
  unfold rk1 rk2 at h
  injection h with h
  have h2 : (#[Value.string usd, .string ea, .string eb] : Array Value)[1]? = (#[Value.string usd, .string eb, .string ea] : Array Value)[1]? := by rw [h]
  simp at h2
  have h3 : ea.data = eb.data := by rw [h2]
  exact absurd h3 (by decide)
theorem kl_isKey {v : Value} {l : Lit} (h : keyOf Try.prog 95 v = some l) : WideAt.IsKeyLit l := by
  obtain ⟨s, rfl⟩ := lawR.str h
  trivial
/-- What the two roads read as. -/
structure Roads (l1 l2 : Lit) : Prop where
  k1 : keyOf Try.prog 95 rk1 = some l1
  k2 : keyOf Try.prog 95 rk2 = some l2
  ne : l1 ≠ l2
theorem roads : ∃ l1 l2, Roads l1 l2 := by
  obtain ⟨l1, h1⟩ := Option.isSome_iff_exists.1 rk1_is
  obtain ⟨l2, h2⟩ := Option.isSome_iff_exists.1 rk2_is
  exact ⟨l1, l2, h1, h2, fun h => rk_ne (lawR.inj h1 (by rw [h]; exact h2))⟩

def es1 : Array MapEntry := #[⟨rk1, .int .i64 5, 0⟩]
def es2 : Array MapEntry := #[⟨rk1, .int .i64 5, 0⟩, ⟨rk2, .int .i64 3, 1⟩]

theorem setb (w : World) (b : Nat) (o : Obj) (h : b < w.heap.size) : (ChangeMaps.setBlock w b o).heap[b]? = some o := by
  simp [ChangeMaps.setBlock, h]

/-- A key that isn't there: asked, it gives nothing; entered, it is there with nothing; stored, with its number. -/
theorem road_new (W : World) (b : Nat) (es : Array MapEntry) (clock : Nat) (key : Value) (kl : Lit) (hkey : keyOf Try.prog 95 key = some kl) (hb : W.heap[b]? = some (.map es clock))
    (hks : ∀ e ∈ es.toList, (∃ l, keyOf Try.prog 95 e.key = some l) ∧ e.key ≠ key) :
    (Instr.lookup 77 (.map (some b)) key false).run Try.prog W = .ok (.int .i64 0) W ∧
    (Instr.mapEntry 77 (.map (some b)) key).run Try.prog W = .ok (.tuple #[.int .i64 0, goInt clock]) (ChangeMaps.setBlock W b (.map (es.push ⟨key, .int .i64 0, clock⟩) (clock + 1))) := by
  have hf : (Instr.findKey 95 key es.toList).run Try.prog W = .ok none W := by
    rcases lawR.find W hkey es.toList (fun e he => (hks e he).1) with ⟨h1, _⟩ | ⟨j, e, _, h2, h3⟩
    · exact h1
    · exact absurd h3 (hks e (List.mem_of_getElem? h2)).2
  constructor
  · simp [Instr.lookup, run_underlying Try.underlying77, MapKept.run_getObj_map hb, lawR.check W _ hkey, hf, Result.andThen]
  · simp [Instr.mapEntry, run_underlying Try.underlying77, MapKept.run_getObj_map hb, lawR.check W false hkey, hf, MapKept.run_setObj_map _ hb, Result.andThen, ChangeMaps.setBlock]
/-- A key that is there: asked, it gives its number. -/
theorem road_at (W : World) (b : Nat) (es : Array MapEntry) (clock : Nat) (key : Value) (kl : Lit) (hkey : keyOf Try.prog 95 key = some kl) (hb : W.heap[b]? = some (.map es clock)) (v : Value)
    (hks : ∀ e ∈ es.toList, (∃ l, keyOf Try.prog 95 e.key = some l) ∧ (e.key = key → e.val = v)) (hin : ∃ e ∈ es.toList, e.key = key) :
    (Instr.lookup 77 (.map (some b)) key false).run Try.prog W = .ok v W := by
  rcases lawR.find W hkey es.toList (fun e he => (hks e he).1) with ⟨_, h2⟩ | ⟨j, e, h1, h2, h3⟩
  · obtain ⟨e, he, hk⟩ := hin
    exact absurd hk (h2 e he)
  · have := (hks e (List.mem_of_getElem? h2)).2 h3
    rw [this] at h1
    simp [Instr.lookup, run_underlying Try.underlying77, MapKept.run_getObj_map hb, lawR.check W _ hkey, h1, Result.andThen]
theorem store_at (W : World) (b : Nat) (es : Array MapEntry) (key v : Value) (c n : Nat) (x : Value) (hb : W.heap[b]? = some (.map (es.push ⟨key, x, c⟩) n)) (hc : ∀ e ∈ es.toList, e.born ≠ c) :
    (Instr.entryStore 77 (.map (some b)) (goInt c) v).run Try.prog W = .ok () (ChangeMaps.setBlock W b (.map (es.push ⟨key, v, c⟩) n)) := by
  have hidx : (es.push ⟨key, x, c⟩).findIdx? (fun e => ((e.born : Nat) : Int) == ((c : Nat) : Int)) = some es.size := by
    rw [Array.findIdx?_push, Array.findIdx?_eq_none_iff.2 (fun e he => by have h1 := hc e (by simpa using he); simp; omega)]
    simp
  have hmod : (es.push ⟨key, x, c⟩).modify es.size (fun e => { e with val := v }) = es.push ⟨key, v, c⟩ := by
    apply Array.ext
    · simp
    · intro i h1 h2
      simp only [Array.getElem_modify, Array.getElem_push]
      by_cases hi : i < es.size
      · simp [hi, show ¬ es.size = i by omega]
      · have : i = es.size := by simp at h1; omega
        subst this
        simp
  simp [Instr.entryStore, MapKept.run_getObj_map hb, asInt, asIntOf, goInt, hidx, hmod, MapKept.run_setObj_map _ hb, Result.andThen, ChangeMaps.setBlock]

theorem road_upd (W : World) (b : Nat) (es : Array MapEntry) (clock : Nat) (key v : Value) (kl : Lit) (hkey : keyOf Try.prog 95 key = some kl) (hb : W.heap[b]? = some (.map es clock))
    (hks : ∀ e ∈ es.toList, (∃ l, keyOf Try.prog 95 e.key = some l) ∧ e.key ≠ key) :
    (Instr.mapUpdate 77 (.map (some b)) key v).run Try.prog W = .ok () (ChangeMaps.setBlock W b (.map (es.push ⟨key, v, clock⟩) (clock + 1))) := by
  have hf : (Instr.findKey 95 key es.toList).run Try.prog W = .ok none W := by
    rcases lawR.find W hkey es.toList (fun e he => (hks e he).1) with ⟨h1, _⟩ | ⟨j, e, _, h2, h3⟩
    · exact h1
    · exact absurd h3 (hks e (List.mem_of_getElem? h2)).2
  simp [Instr.mapUpdate, run_underlying Try.underlying77, MapKept.run_getObj_map hb, lawR.check W false hkey, hf, MapKept.run_setObj_map _ hb, Result.andThen, ChangeMaps.setBlock]

/-- How such a map reads: by its block alone. -/
abbrev OwnsR (W : World) (b n : Nat) (D : DataW Unit) : Prop := W.ownsMap Try.prog 95 (plainElem Try.prog 2) b n D
theorem OwnsR.other {W W2 : World} {b b2 n : Nat} {D : DataW Unit} (h : OwnsR W b n D) (e : W2.heap[b2]? = W.heap[b]?) : OwnsR W2 b2 n D := by
  obtain ⟨es, clock, hb, r⟩ := h
  exact ⟨es, clock, e.trans hb, r⟩
theorem owns_empty (W : World) (b : Nat) (h : W.heap[b]? = some (.map #[] 0)) : OwnsR W b 0 (.map []) :=
  (show OwnsR (W.alloc (.map #[] 0)) W.heap.size 0 (.map []) from World.ownsMap_made _ _ _ _).other (h.trans (by show _ = (W.heap.push _)[_]?; rw [Array.getElem?_push, if_pos rfl]))
theorem owns_push {W : World} {b n : Nat} {D : DataW Unit} (es : Array MapEntry) (clock : Nat) (h : OwnsR W b n D) (hb : W.heap[b]? = some (.map es clock)) (hn : n < maxLen) (key : Value) (kl : Lit) (hkey : keyOf Try.prog 95 key = some kl)
    (hks : ∀ e ∈ es.toList, (∃ l, keyOf Try.prog 95 e.key = some l) ∧ e.key ≠ key) (v : Int) (hv : (Lit.int .i64 v).wf = true) (W2 : World) (b2 : Nat) (h2 : W2.heap[b2]? = some (.map (es.push ⟨key, .int .i64 v, clock⟩) (clock + 1))) :
    OwnsR W2 b2 (n + 1) (D.put kl (.lit (.int .i64 v))) := by
  obtain ⟨w', hr, ho, _⟩ := World.ownsMap.update h keyR Try.underlying77 hn hkey (plainElem_int Try.underlying2 hv)
  rw [road_upd W b es clock key _ kl hkey hb hks] at hr
  injection hr with _ hr
  subst hr
  exact OwnsR.other ho (h2.trans (setb W b _ (Array.getElem?_eq_some_iff.1 hb).1).symm)

/-- Both roads' map; and the map of the one road that is left. -/
def two (W : World) (M : Nat) : Prop := W.heap[M]? = some (.map ((#[].push ⟨.agg #[.string usd, .string ea, .string eb], .int .i64 5, 0⟩).push ⟨.agg #[.string usd, .string eb, .string ea], .int .i64 3, 1⟩) 2)
def one (W : World) (O : Nat) : Prop := W.heap[O]? = some (.map (#[].push ⟨.agg #[.string usd, .string ea, .string eb], .int .i64 2, 0⟩) 1)
structure TwoD (l1 l2 : Lit) (D : DataW Unit) : Prop where
  a1 : ∀ z, D.atKey l1 z = .lit (.int .i64 5)
  a2 : ∀ z, D.atKey l2 z = .lit (.int .i64 3)
  ks : ∀ k, Maps.has D k = true → k = l1 ∨ k = l2
  h1 : Maps.has D l1 = true
theorem two_owns {l1 l2 : Lit} (RD : Roads l1 l2) {W : World} {M : Nat} (h : two W M) : ∃ D, OwnsR W M 2 D ∧ TwoD l1 l2 D := by
  have hM : M < W.heap.size := (Array.getElem?_eq_some_iff.1 h).1
  have v0 := setb W M (.map #[] 0) hM
  have o0 := owns_empty _ M v0
  have v1 := setb W M (.map (#[].push ⟨rk1, .int .i64 5, 0⟩) 1) hM
  have o1 := owns_push #[] 0 o0 v0 (by decide) rk1 l1 RD.k1 (fun e he => by simp at he) 5 (by decide) _ M v1
  have o2 := owns_push _ 1 o1 v1 (by decide) rk2 l2 RD.k2 (fun e he => by simp at he; subst he; exact ⟨⟨l1, RD.k1⟩, rk_ne⟩) 3 (by decide) W M h
  have k1 := kl_isKey RD.k1
  have k2 := kl_isKey RD.k2
  have i0 : Maps.IsMap (.map [] : DataW Unit) := ⟨[], rfl⟩
  refine ⟨_, o2, fun z => ?_, fun z => ?_, fun k hk => ?_, ?_⟩
  · rw [Maps.atKey_put_other RD.ne, Maps.atKey_put_same i0 k1]
  · rw [Maps.atKey_put_same (i0.put _ _) k2]
  · by_cases e2 : k = l2
    · exact .inr e2
    · by_cases e1 : k = l1
      · exact .inl e1
      · rw [Maps.has_put_other e2, Maps.has_put_other e1] at hk
        cases hk
  · rw [Maps.has_put_other RD.ne, Maps.has_put_same i0 k1]
structure OneD (l1 : Lit) (D : DataW Unit) : Prop where
  a1 : ∀ z, D.atKey l1 z = .lit (.int .i64 2)
  ks : ∀ k, Maps.has D k = true → k = l1
  h1 : Maps.has D l1 = true
theorem one_owns {l1 l2 : Lit} (RD : Roads l1 l2) {W : World} {O : Nat} (h : one W O) : ∃ D, OwnsR W O 1 D ∧ OneD l1 D := by
  have hM : O < W.heap.size := (Array.getElem?_eq_some_iff.1 h).1
  have v0 := setb W O (.map #[] 0) hM
  have o0 := owns_empty _ O v0
  have o1 := owns_push #[] 0 o0 v0 (by decide) rk1 l1 RD.k1 (fun e he => by simp at he) 2 (by decide) W O h
  have k1 := kl_isKey RD.k1
  have i0 : Maps.IsMap (.map [] : DataW Unit) := ⟨[], rfl⟩
  refine ⟨_, o1, fun z => ?_, fun k hk => ?_, ?_⟩
  · rw [Maps.atKey_put_same i0 k1]
  · by_cases e1 : k = l1
    · exact e1
    · rw [Maps.has_put_other e1] at hk
      cases hk
  · rw [Maps.has_put_same i0 k1]
theorem same_self {v : Value} {l : Lit} (h : keyOf Try.prog 95 v = some l) : l.sameKey l = true := by
  obtain ⟨s, rfl⟩ := lawR.str h
  simp [Lit.sameKey]

set_option maxRecDepth 100000 in
/-- A step of a range over such a map. -/
theorem wpList_next_road {ops : Array Oper} {rest : List Oper} {o : Oper} {a : Act} {Q : Exit → Act → World → Prop} (w : World) (hg : o.guard = none) (it : Operand) (hop : o.op = Op.next it false)
    (b r n : Nat) (D : DataW Unit) (left : Lit → Bool) (cnt : Nat) (hit : a.eval it = .pointer (some ⟨r, 0, none⟩)) (h : w.ranges Try.prog 95 (plainElem Try.prog 2) b r n D left cnt)
    (hDone : (∀ kl, left kl = false) → wpList Try.prog ops Q rest (a.put o.dst (.tuple #[.bool false])) w)
    (hMore : ∀ (x : Value) (c : Int) (kl : Lit) (w' : World) (cnt' : Nat), keyOf Try.prog 95 x = some kl → left kl = true → (∀ zd, D.atKey kl zd = .lit (.int .i64 c)) →
      w'.ranges Try.prog 95 (plainElem Try.prog 2) b r n D (fun z => left z && !z.sameKey kl) cnt' → cnt' < cnt →
      w.grownBy w' (some r) → (Instr.entry (.pointer (some ⟨r, 0, none⟩))).run Try.prog w' = .ok (.tuple #[x, .int .i64 c]) w' → wpList Try.prog ops Q rest (a.put o.dst (.tuple #[.bool true, x, .int .i64 c])) w') :
    wpList Try.prog ops Q (o :: rest) a w :=
  wpList_next_ranges w hg it hop 95 keyR (plainElem Try.prog 2) id (Value.int .i64) (fun key _ _ => ⟨key, rfl⟩)
    (fun v y hv => by obtain ⟨c, rfl, _⟩ := plainElem_int_inv Try.underlying2 hv; exact ⟨c, rfl⟩) b r n D left cnt hit h (fun _ hl => hDone hl)
    (fun x c kl y w' cnt' hkey hlk hv hat hrg hlt hgr _ hen => by
      obtain ⟨c', ec, rfl, _⟩ := plainElem_int_inv Try.underlying2 hv
      cases ec
      exact hMore x c kl w' cnt' hkey hlk hat hrg hlt hgr hen)
end Go.Proofs.Ytjkipjfcfcpcmaa.Print
