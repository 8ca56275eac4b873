/-
Interests: are they what they may be? The walk over a set of names that the call makes (a map from string to bool, asked and stored into).
-/
import Derived.Test.YteeehijpdkbgkaaPrint0
import Derived.Test.YteeehijpdkbgkaaHname
import Derived.Test.YteeehijpdkbgkaaPrint2
import Derived.MapKept
import Derived.Carry
namespace Go.Proofs.Yteeehijpdkbgkaa.Print
open Go.RowKit Go.Proofs.YteeehijpdkbgkaaW.PrintWords Go.Proofs.YteeehijpdkbgkaaW.PrintLast Go.Proofs.YteeehijpdkbgkaaW.PrintMore

instance decBytes : DecidableEq ByteArray := fun a b => decidable_of_iff (a.data = b.data) ⟨fun h => by cases a; cases b; simp_all, fun h => by rw [h]⟩

instance lawBytes : LawfulBEq ByteArray where
  eq_of_beq := (MapKept.bytes_beq _ _).1
  rfl := (MapKept.bytes_beq _ _).2 rfl

/-- Block b is a set of just these names. -/
def Seen (W : World) (b : Nat) (ks : List ByteArray) : Prop :=
  ∃ es clock, W.heap[b]? = some (.map es clock) ∧ es.toList.map (·.key) = ks.map Value.string ∧ ∀ e ∈ es.toList, e.val = .bool true

theorem findNow_str (s : ByteArray) : ∀ (es : List MapEntry) (ks : List ByteArray) (i : Nat), es.map (·.key) = ks.map Value.string → (∀ e ∈ es, e.val = .bool true) →
    (s ∉ ks ∧ Instr.findNow .string (.string s) es i = some none) ∨ (s ∈ ks ∧ ∃ j, Instr.findNow .string (.string s) es i = some (some (j, .bool true)))
  | [], [], i, _, _ => Or.inl ⟨by simp, rfl⟩
  | [], _ :: _, _, h, _ => by simp at h
  | _ :: _, [], _, h, _ => by simp at h
  | e :: es, k :: ks, i, h, hv => by
    simp only [List.map_cons, List.cons.injEq] at h
    obtain ⟨h1, h2⟩ := h
    have ih := findNow_str s es ks (i + 1) h2 (fun x hx => hv x (List.mem_cons_of_mem _ hx))
    have he := hv e List.mem_cons_self
    have hu : Instr.findNow .string (.string s) (e :: es) i = if s == k then some (some (i, .bool true)) else Instr.findNow .string (.string s) es (i + 1) := by
      rw [Instr.findNow, h1, he]
      cases hsk : s == k <;> simp [Instr.sameNow, hsk]
    by_cases hs : s = k
    · subst hs
      refine Or.inr ⟨by simp, i, ?_⟩
      rw [hu, if_pos ((MapKept.bytes_beq s s).2 rfl)]
    · have hf : (s == k) = false := by
        rcases hb : s == k with _ | _
        · rfl
        · exact absurd ((MapKept.bytes_beq s k).1 hb) hs
      rw [hu, hf]
      rcases ih with ⟨a, b⟩ | ⟨a, j, b⟩
      · exact Or.inl ⟨by simp [hs, a], by simpa using b⟩
      · exact Or.inr ⟨by simp [a], j, by simpa using b⟩

theorem run_findKey_str (W : World) (s : ByteArray) (es : List MapEntry) (ks : List ByteArray) (h : es.map (·.key) = ks.map Value.string) (hv : ∀ e ∈ es, e.val = .bool true) :
    (s ∉ ks ∧ (Instr.findKey 9 (.string s) es).run Try.prog W = .ok none W) ∨ (s ∈ ks ∧ ∃ j, (Instr.findKey 9 (.string s) es).run Try.prog W = .ok (some (j, .bool true)) W) := by
  rcases findNow_str s es ks 0 h hv with ⟨a, b⟩ | ⟨a, j, b⟩
  · exact Or.inl ⟨a, by simp [Instr.findKey, run_underlying Try.underlying9, b, Result.andThen]⟩
  · exact Or.inr ⟨a, j, by simp [Instr.findKey, run_underlying Try.underlying9, b, Result.andThen]⟩

theorem Seen.look {W : World} {b : Nat} {ks : List ByteArray} (h : Seen W b ks) (s : ByteArray) :
    (Instr.lookup 60 (.map (some b)) (.string s) false).run Try.prog W = .ok (.bool (decide (s ∈ ks))) W := by
  obtain ⟨es, clock, hb, hk, hv⟩ := h
  have hc := fun e => MapKept.run_checkKey (P := Try.prog) (w := W) (k := .string s) Try.underlying9 (by simp [MapKept.IsKey]) e 9999
  have hi : (Try.prog.info? 4).map (·.zero) = some (some (.bool false)) := by kernel_rfl
  have hz : (zeroValue 4).run Try.prog W = .ok (.bool false) W := by
    cases hq : Try.prog.info? 4 with
    | none => rw [hq] at hi; cases hi
    | some i =>
      have hi' : i.zero = some (.bool false) := by rw [hq] at hi; exact Option.some.inj hi
      simp [zeroValue, typeInfo, hq, hi', Result.andThen]
  rcases run_findKey_str W s es.toList ks hk hv with ⟨a, f⟩ | ⟨a, j, f⟩
  · rw [decide_eq_false a]
    simp [Instr.lookup, run_underlying Try.underlying60, MapKept.run_getObj_map hb, hc, f, hz, Result.andThen]
  · rw [decide_eq_true a]
    simp [Instr.lookup, run_underlying Try.underlying60, MapKept.run_getObj_map hb, hc, f, Result.andThen]

theorem Seen.put {W : World} {b : Nat} {ks : List ByteArray} (h : Seen W b ks) (s : ByteArray) (hs : s ∉ ks) :
    ∃ W2, (Instr.mapUpdate 60 (.map (some b)) (.string s) (.bool true)).run Try.prog W = .ok () W2 ∧ Seen W2 b (ks ++ [s]) ∧ ∀ B W0, B ≤ b → Below B W0 W → Below B W0 W2 := by
  obtain ⟨es, clock, hb, hk, hv⟩ := h
  have hc := fun e => MapKept.run_checkKey (P := Try.prog) (w := W) (k := .string s) Try.underlying9 (by simp [MapKept.IsKey]) e 9999
  have hlt : b < W.heap.size := by
    rcases Nat.lt_or_ge b W.heap.size with h' | h'
    · exact h'
    · rw [Array.getElem?_eq_none h'] at hb; cases hb
  rcases run_findKey_str W s es.toList ks hk hv with ⟨a, f⟩ | ⟨a, j, f⟩
  · refine ⟨_, by simp [Instr.mapUpdate, run_underlying Try.underlying60, MapKept.run_getObj_map hb, hc, f, MapKept.run_setObj_map _ hb, Result.andThen]; rfl, ⟨es.push ⟨.string s, .bool true, clock⟩, clock + 1, ?_, ?_, ?_⟩, ?_⟩
    · simp [hlt]
    · simp [hk]
    · intro e he
      simp only [Array.toList_push, List.mem_append, List.mem_singleton] at he
      rcases he with he | rfl
      · exact hv e he
      · rfl
    · intro B W0 hB h0
      refine ⟨h0.os, h0.tape, h0.output, by simpa using h0.size, fun i hi => ?_⟩
      have := h0.block i hi
      rw [← this]
      exact Array.getElem?_setIfInBounds_ne (by omega)
  · exact absurd a hs

theorem Seen.other {W W2 : World} {b : Nat} {ks : List ByteArray} (h : Seen W b ks) (e : W2.heap[b]? = W.heap[b]?) : Seen W2 b ks := by
  obtain ⟨es, clock, hb, hk, hv⟩ := h
  exact ⟨es, clock, e.trans hb, hk, hv⟩
theorem Seen.drew {W : World} {b : Nat} {ks : List ByteArray} (h : Seen W b ks) : Seen W.drew b ks := h.other rfl
theorem Seen.drewN {W : World} {b : Nat} {ks : List ByteArray} (h : Seen W b ks) (n : Nat) : Seen (W.drewN n) b ks := h.other rfl
theorem Seen.new (W : World) : Seen (W.alloc (.map #[] 0)) W.heap.size [] :=
  ⟨#[], 0, by show (W.heap.push _)[_]? = _; rw [Array.getElem?_push, if_pos rfl], rfl, by simp⟩

/-- Is each interest named and worth what it may be, and no name among ks or twice? -/
def good (ks : List ByteArray) : List S35 → Bool
  | [] => true
  | x :: r => nameB x.f0 && !decide (x.f0 ∈ ks) && decide (0 ≤ x.f1 ∧ x.f1 ≤ 1099511627776) && good (ks ++ [x.f0]) r
def mayB (l : List S35) : Bool := good [] l && decide (1 ≤ l.length ∧ l.length ≤ 4096)

def names (l : List S35) (k : Nat) : List ByteArray := (l.take k).map (·.f0)
theorem good_step (l : List S35) (k : Nat) (hk : k < l.length) : good (names l k) (l.drop k) =
    (nameB (rd_T35 l k).f0 && !decide ((rd_T35 l k).f0 ∈ names l k) && decide (0 ≤ (rd_T35 l k).f1 ∧ (rd_T35 l k).f1 ≤ 1099511627776) && good (names l (k + 1)) (l.drop (k + 1))) ∧
    names l (k + 1) = names l k ++ [(rd_T35 l k).f0] := by
  have e : rd_T35 l k = l[k] := by simp [rd_T35, List.getD_eq_getElem?_getD, hk]
  have h2 : names l (k + 1) = names l k ++ [(rd_T35 l k).f0] := by
    unfold names; rw [List.take_succ_eq_append_getElem hk, List.map_append, e]; rfl
  refine ⟨?_, h2⟩
  rw [h2, e, List.drop_eq_getElem_cons hk]
  rfl
theorem rd_mem (l : List S35) (k : Nat) (hk : k < l.length) : rd_T35 l k ∈ l := by
  simp [rd_T35, List.getD_eq_getElem?_getD, hk]
theorem amount_f (x : Int) : average_amount.f x = some (decide (0 ≤ x ∧ x ≤ 1099511627776)) := by
  unfold average_amount.f
  by_cases h : x ≥ 0
  · rw [if_pos h]; simp [show 0 ≤ x from h]
  · rw [if_neg h, decide_eq_false (by omega)]

theorem may_seen {w wr w6 : World} {ks : List ByteArray} {gb : Nat} {s : ByteArray} {v : Int} (h : Seen wr w.heap.size ks) (_ : Below w.heap.size w wr) (hb : Below wr.heap.size wr w6) (hgb : gb = wr.heap.size) :
    Seen ((w6.setCell ⟨gb, 0, none⟩ (.string s)).setCell ⟨gb, 1, none⟩ (.int .i64 v)) w.heap.size ks := by
  have hlt : w.heap.size < wr.heap.size := by
    obtain ⟨es, clock, h1, _⟩ := h
    rcases Nat.lt_or_ge w.heap.size wr.heap.size with h' | h'
    · exact h'
    · rw [Array.getElem?_eq_none h'] at h1; cases h1
  refine h.other ?_
  rw [Below.heap_setCell _ _ _ _ (by simp only; omega), Below.heap_setCell _ _ _ _ (by simp only; omega)]
  exact hb.block _ hlt

set_option maxHeartbeats 4000000 in
set_option maxRecDepth 100000 in
theorem may_calls (A0 : Option Addr) (c0 : Nat) (l0 : List S35) (w : World) (hr0 : Kd.C k35 w A0 l0.length l0) (hn : l0.length ≤ 4611686018427387904) (hsz : ∀ x ∈ l0, x.f0.size ≤ 4611686018427387904) :
    Calls Try.prog 30 #[.slice A0 l0.length c0] w fun e w' => e = .returned (.bool (mayB l0)) ∧ Below w.heap.size w w' := by
  have hmm := @run_makeMap Try.prog
  have HR := Aside0.mk hr0
  have HS := Aside0.mk hsz
  clear hr0 hsz
  obtain ⟨n, hn'⟩ : ∃ n, n = l0.length := ⟨_, rfl⟩
  rw [← hn'] at HR hn ⊢
  have HN := Aside0.mk hn'
  clear hn'
  go_enter Try.func30, Try.ntmps30
  go_wp2_with fail
  go_loopw [9] (fun i wr => ∃ k : Nat, k ≤ n ∧ i = .int .i64 k ∧ Aside0 (good [] l0 = good (names l0 k) (l0.drop k)) ∧ Aside0 (Seen wr w.heap.size (names l0 k)) ∧ Aside0 (Below w.heap.size w wr)) (fun i _ => n - (intOf i).toNat)
  case atStart => exact ⟨0, Nat.zero_le _, rfl, ⟨rfl⟩, ⟨Seen.new w⟩, ⟨(Below.refl _ _).alloc (Nat.le_refl _) _⟩⟩
  case round =>
    obtain ⟨k, hk, rfl, HG, HE, HB⟩ := hrel
    by_cases hlt : k < n
    · have h0 : (0 : Int) ≤ (k : Int) := by omega
      have h1 : (k : Int) < (n : Int) := by omega
      obtain ⟨hg, hns⟩ := good_step l0 k (by have := HN.out; omega)
      have HSZ := Aside0.mk (HS.out _ (rd_mem l0 k (by have := HN.out; omega)))
      obtain ⟨ad, rfl, hx0, hx1⟩ := at_T35 HR.out k h0 h1
      replace hx0 := (HB.out.cell (World.block_lt_of_cell? w _ hx0)).trans hx0
      replace hx1 := (HB.out.cell (World.block_lt_of_cell? w _ hx1)).trans hx1
      simp only [Int.toNat_natCast] at hx0 hx1
      obtain ⟨x, hx⟩ : ∃ x, x = rd_T35 l0 k := ⟨_, rfl⟩
      rw [← hx] at hx0 hx1 hg hns HSZ
      obtain ⟨s, hs⟩ : ∃ s, s = x.f0 := ⟨_, rfl⟩
      obtain ⟨v, hv⟩ : ∃ v, v = x.f1 := ⟨_, rfl⟩
      rw [← hs] at hx0 hg hns HSZ
      rw [← hv] at hx1 hg
      clear hx hs hv
      have HGS := Aside0.mk hg
      have HNS := Aside0.mk hns
      clear hg hns
      cases hnm : nameB s with
      | false =>
        have HF := Aside0.mk (show mayB l0 = false by unfold mayB; rw [HG.out, HGS.out, hnm]; simp)
        go_wp2_with (first | ((with_reducible refine gate_dst (N := 5) rfl ?_); refine box_event ?hg (N := 5) ?hd (cs := #[.string (⟨#[]⟩ : ByteArray), .int .i64 0]) (t := 35) ?hr ?_; (case hd => rfl); (case hg => rfl); (case hr => first | (go_simp; done) | (go_simp; rfl)); intro gb hgb w6 hbox hb; replace hx0 := (hb.cell (World.block_lt_of_cell? wr _ hx0)).trans hx0; replace hx1 := (hb.cell (World.block_lt_of_cell? wr _ hx1)).trans hx1; have hcz0 : w6.cell? ⟨gb, 0, none⟩ = some (.string (⟨#[]⟩ : ByteArray)) := (blk_cell hbox 0).trans rfl; have hcz1 : w6.cell? ⟨gb, 1, none⟩ = some (.int .i64 0) := (blk_cell hbox 1).trans rfl; have hfz0 := blk_frozen hbox 0; have hfz1 := blk_frozen hbox 1; have HGB := Aside0.mk (show w.heap.size ≤ gb by rw [hgb]; exact HB.out.size); have HB7 := Aside0.mk (below_set (j := 1) (v := .int .i64 v) (below_set (j := 0) (v := .string s) (below_step HB.out hb) HGB.out) HGB.out); have HSE := Aside0.mk (may_seen (v := v) (s := s) HE.out HB.out hb hgb); have HL := HSE.out.look s; clear hbox hb hgb) | (go_at_call 39; refine (name_calls _ _ HSZ.out).mono ?_; rintro e w2 ⟨rfl, rfl⟩; rw [hnm]))
        go_ret
        exact ⟨by rw [HF.out]; rfl, HB7.out⟩
      | true =>
        cases hin : decide (s ∈ names l0 k) with
        | true =>
          have HF := Aside0.mk (show mayB l0 = false by unfold mayB; rw [HG.out, HGS.out, hin]; simp)
          go_wp2_with (first | (((with_reducible refine gate_dst (N := 5) rfl ?_); refine box_event ?hg (N := 5) ?hd (cs := #[.string (⟨#[]⟩ : ByteArray), .int .i64 0]) (t := 35) ?hr ?_; (case hd => rfl); (case hg => rfl); (case hr => first | (go_simp; done) | (go_simp; rfl)); intro gb hgb w6 hbox hb; replace hx0 := (hb.cell (World.block_lt_of_cell? wr _ hx0)).trans hx0; replace hx1 := (hb.cell (World.block_lt_of_cell? wr _ hx1)).trans hx1; have hcz0 : w6.cell? ⟨gb, 0, none⟩ = some (.string (⟨#[]⟩ : ByteArray)) := (blk_cell hbox 0).trans rfl; have hcz1 : w6.cell? ⟨gb, 1, none⟩ = some (.int .i64 0) := (blk_cell hbox 1).trans rfl; have hfz0 := blk_frozen hbox 0; have hfz1 := blk_frozen hbox 1; have HGB := Aside0.mk (show w.heap.size ≤ gb by rw [hgb]; exact HB.out.size); have HB7 := Aside0.mk (below_set (j := 1) (v := .int .i64 v) (below_set (j := 0) (v := .string s) (below_step HB.out hb) HGB.out) HGB.out); have HSE := Aside0.mk (may_seen (v := v) (s := s) HE.out HB.out hb hgb); have HL := HSE.out.look s; clear hbox hb hgb); rw [hin] at HL) | (go_at_call 39; refine (name_calls _ _ HSZ.out).mono ?_; rintro e w2 ⟨rfl, rfl⟩; rw [hnm]))
          go_ret
          exact ⟨by rw [HF.out]; rfl, HB7.out⟩
        | false =>
          have hni := Aside0.mk (of_decide_eq_false hin)
          cases ham : decide (0 ≤ v ∧ v ≤ 1099511627776) with
          | false =>
            have HF := Aside0.mk (show mayB l0 = false by unfold mayB; rw [HG.out, HGS.out, ham]; simp)
            have HAM := Aside0.mk (show average_amount.f v = some false by rw [amount_f, ham])
            clear ham
            go_wp2_with (first | (((with_reducible refine gate_dst (N := 5) rfl ?_); refine box_event ?hg (N := 5) ?hd (cs := #[.string (⟨#[]⟩ : ByteArray), .int .i64 0]) (t := 35) ?hr ?_; (case hd => rfl); (case hg => rfl); (case hr => first | (go_simp; done) | (go_simp; rfl)); intro gb hgb w6 hbox hb; replace hx0 := (hb.cell (World.block_lt_of_cell? wr _ hx0)).trans hx0; replace hx1 := (hb.cell (World.block_lt_of_cell? wr _ hx1)).trans hx1; have hcz0 : w6.cell? ⟨gb, 0, none⟩ = some (.string (⟨#[]⟩ : ByteArray)) := (blk_cell hbox 0).trans rfl; have hcz1 : w6.cell? ⟨gb, 1, none⟩ = some (.int .i64 0) := (blk_cell hbox 1).trans rfl; have hfz0 := blk_frozen hbox 0; have hfz1 := blk_frozen hbox 1; have HGB := Aside0.mk (show w.heap.size ≤ gb by rw [hgb]; exact HB.out.size); have HB7 := Aside0.mk (below_set (j := 1) (v := .int .i64 v) (below_set (j := 0) (v := .string s) (below_step HB.out hb) HGB.out) HGB.out); have HSE := Aside0.mk (may_seen (v := v) (s := s) HE.out HB.out hb hgb); have HL := HSE.out.look s; clear hbox hb hgb); rw [hin] at HL) | (go_at_call 39; refine (name_calls _ _ HSZ.out).mono ?_; rintro e w2 ⟨rfl, rfl⟩; rw [hnm]) | (go_at_call 26; refine (average_amount.calls v false _ HAM.out).mono ?_; rintro e w3 ⟨rfl, ⟨m, rfl⟩⟩))
            go_ret
            exact ⟨by rw [HF.out]; rfl, pw_below_drewN HB7.out _⟩
          | true =>
            have HT := Aside0.mk (show good [] l0 = good (names l0 (k + 1)) (l0.drop (k + 1)) by rw [HG.out, HGS.out, hnm, hin, ham]; simp)
            have HAM := Aside0.mk (show average_amount.f v = some true by rw [amount_f, ham])
            clear ham
            go_wp2_with (first | (((with_reducible refine gate_dst (N := 5) rfl ?_); refine box_event ?hg (N := 5) ?hd (cs := #[.string (⟨#[]⟩ : ByteArray), .int .i64 0]) (t := 35) ?hr ?_; (case hd => rfl); (case hg => rfl); (case hr => first | (go_simp; done) | (go_simp; rfl)); intro gb hgb w6 hbox hb; replace hx0 := (hb.cell (World.block_lt_of_cell? wr _ hx0)).trans hx0; replace hx1 := (hb.cell (World.block_lt_of_cell? wr _ hx1)).trans hx1; have hcz0 : w6.cell? ⟨gb, 0, none⟩ = some (.string (⟨#[]⟩ : ByteArray)) := (blk_cell hbox 0).trans rfl; have hcz1 : w6.cell? ⟨gb, 1, none⟩ = some (.int .i64 0) := (blk_cell hbox 1).trans rfl; have hfz0 := blk_frozen hbox 0; have hfz1 := blk_frozen hbox 1; have HGB := Aside0.mk (show w.heap.size ≤ gb by rw [hgb]; exact HB.out.size); have HB7 := Aside0.mk (below_set (j := 1) (v := .int .i64 v) (below_set (j := 0) (v := .string s) (below_step HB.out hb) HGB.out) HGB.out); have HSE := Aside0.mk (may_seen (v := v) (s := s) HE.out HB.out hb hgb); have HL := HSE.out.look s; clear hbox hb hgb); rw [hin] at HL) | (go_at_call 39; refine (name_calls _ _ HSZ.out).mono ?_; rintro e w2 ⟨rfl, rfl⟩; rw [hnm]) | (go_at_call 26; refine (average_amount.calls v true _ HAM.out).mono ?_; rintro e w3 ⟨rfl, ⟨m, rfl⟩⟩; obtain ⟨W2, hput, hse2, hb2⟩ := (HSE.out.drewN m).put s hni.out; have HSE2 := Aside0.mk hse2; have HB8 := Aside0.mk (hb2 _ _ (Nat.le_refl _) (pw_below_drewN HB7.out m)); clear hse2 hb2))
            go_round
            case rel => exact ⟨k + 1, by omega, by go_num, HT, ⟨by rw [HNS.out]; exact HSE2.out⟩, HB8⟩
            case measure => simp [intOf]; omega
    · obtain rfl : n = k := by omega
      have HT := Aside0.mk (show mayB l0 = decide (1 ≤ n ∧ n ≤ 4096) by
        unfold mayB
        rw [HG.out, List.drop_of_length_le (by have := HN.out; omega), ← HN.out]
        rfl)
      by_cases hone : 1 ≤ n
      · have h1 : (1 : Int) ≤ (n : Int) := by omega
        go_wp2_with fail
        go_ret
        exact ⟨by
          rw [HT.out, show decide (1 ≤ n ∧ n ≤ 4096) = decide ((n : Int) ≤ 4096) by simp [hone]; omega]
          rfl, HB.out⟩
      · have h1 : ¬ (1 : Int) ≤ (n : Int) := by omega
        go_wp2_with fail
        go_ret
        exact ⟨by rw [HT.out, decide_eq_false (by omega)]; rfl, HB.out⟩

end Go.Proofs.Yteeehijpdkbgkaa.Print
