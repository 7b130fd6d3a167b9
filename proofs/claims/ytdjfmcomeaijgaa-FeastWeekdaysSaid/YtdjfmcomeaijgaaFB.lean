/- feast.holies: a map of thirteen rows, laid in whatever order. -/
import Derived.Test.YtdjfmcomeaijgaaFH
import Derived.Test.YtdjfmcomeaijgaaRI
import Derived.Test.YtdjfmcomeaijgaaA1
import Derived.Maps.Own
import Derived.DeepKeys4
namespace Go.Proofs.Ytdjfmcomeaijgaa
open Go Go.RowKit
open Go.WideMaps (KeyLaw)
set_option linter.unusedVariables false
set_option linter.unusedSimpArgs false

theorem s2Laid : laidOutB Try.prog = true := by kernel_rfl
theorem placeRow : 73 < Try.prog.types.size := of_decide_eq_true (by kernel_rfl)
theorem placeLaw : KeyLaw Try.prog 73 := deep_law_laid s2Laid (m := 2) (by omega) placeRow (by kernel_rfl) (by kernel_rfl)
theorem placeKey : Try.prog.keyType 73 = true := by kernel_rfl
theorem placeCells : Try.prog.cellsOf 73 = 2 := by kernel_rfl
theorem intCells : Try.prog.cellsOf 3 = 1 := by kernel_rfl
theorem holyZero (w : World) : (zeroValue 69).run Try.prog w = .ok (.agg #[.int .i64 0, .bool false]) w := by kernel_rfl

/-- How a key of two whole numbers reads, in any program. -/
theorem key_two {P : Program} {k it : TypeId} {f g : Field} (hu : P.underlying k = some (.struct #[f, g])) (hf : f.name ≠ "_") (hg : g.name ≠ "_") (ht : f.type = it) (ht2 : g.type = it) (ho : f.offset = 0) (ho2 : g.offset = 1)
    (hi : P.underlying it = some (.int .i64)) (hci : P.cellsOf it = 1) (hck : P.cellsOf k = 2) (hk : P.keyType k = true) (hn : 0 < P.types.size) {m d : Int} (hm : (Lit.int .i64 m).wf = true) (hd : (Lit.int .i64 d).wf = true) :
    keyOf P k (.agg #[.int .i64 m, .int .i64 d]) = some (.string (keyBytes [.int .i64 m, .int .i64 d])) := by
  obtain ⟨N, hN⟩ : ∃ N, P.types.size = N + 1 := ⟨P.types.size - 1, by omega⟩
  simp [keyOf, hu, hk, Value.formed, hck, hN, Program.keyLits, hi, hci, hm, hd, Value.cells, ht, ht2, ho, ho2, hf, hg]

theorem place_key {m d : Int} (hm : (Lit.int .i64 m).wf = true) (hd : (Lit.int .i64 d).wf = true) : keyOf Try.prog 73 (.agg #[.int .i64 m, .int .i64 d]) = some (.string (keyBytes [.int .i64 m, .int .i64 d])) :=
  key_two Try.underlying73 (by decide) (by decide) rfl rfl rfl rfl Try.underlying3 intCells placeCells placeKey (Nat.lt_of_le_of_lt (Nat.zero_le _) placeRow) hm hd

def keyA (j : Nat) : Value := .agg #[.int .i64 (row13 j).1.1, .int .i64 (row13 j).1.2]
def valA (j : Nat) : Value := .agg #[.int .i64 (row13 j).2.1, .bool (row13 j).2.2]
theorem key_apart {i j : Nat} (hi : i < 13) (hj : j < 13) (h : keyA i = keyA j) : i = j := by
  refine row_apart hi hj ?_
  unfold keyA at h
  simp only [Value.agg.injEq, Array.mk.injEq, List.cons.injEq, Value.int.injEq, true_and, and_true] at h
  exact Prod.ext h.1 h.2
theorem key_wf {j : Nat} (hj : j < 13) : ∃ l, keyOf Try.prog 73 (keyA j) = some l := by
  refine ⟨_, place_key ?_ ?_⟩
  all_goals rcases thirteenN hj with e | e | e | e | e | e | e | e | e | e | e | e | e <;> subst e <;> decide

/-- Block b is a map that holds those of the thirteen rows that are done. -/
def MapHas (w : World) (b : Nat) (done : Nat → Bool) : Prop :=
  ∃ es clock, w.heap[b]? = some (.map es clock) ∧ (∀ e ∈ es.toList, ∃ j, j < 13 ∧ done j = true ∧ e.key = keyA j ∧ e.val = valA j) ∧ ∀ j, j < 13 → done j = true → ∃ e ∈ es.toList, e.key = keyA j
theorem MapHas.lt {w : World} {b : Nat} {done : Nat → Bool} (h : MapHas w b done) : b < w.heap.size := by
  obtain ⟨es, clock, h1, _⟩ := h
  exact (Array.getElem?_eq_some_iff.1 h1).1
theorem MapHas.below {w w' : World} {b n : Nat} {done : Nat → Bool} (h : MapHas w b done) (hb : Below n w w') (hn : b < n) : MapHas w' b done := by
  obtain ⟨es, clock, h1, h2⟩ := h
  exact ⟨es, clock, (hb.block b hn).trans h1, h2⟩
theorem MapHas.kept {w w' : World} {b : Nat} {done : Nat → Bool} (h : MapHas w b done) (hb : Below w.heap.size w w') : MapHas w' b done := h.below hb h.lt

theorem has_insert {w0 w : World} {n b : Nat} {done : Nat → Bool} (h : MapHas w b done) (hB : Below n w0 w) (hn : n ≤ b) {j : Nat} (hj : j < 13) (hd : done j = false) :
    ∃ w', (Instr.mapUpdate 70 (.map (some b)) (keyA j) (valA j)).run Try.prog w = .ok () w' ∧ MapHas w' b (fun i => if i = j then true else done i) ∧ Below n w0 w' := by
  have hlt := h.lt
  obtain ⟨es, clock, h1, h2, h3⟩ := h
  have hu := Try.underlying70
  obtain ⟨l, hl⟩ := key_wf hj
  have hck := placeLaw.check w false hl
  rcases placeLaw.find w hl es.toList (fun e he => by obtain ⟨i, hi, _, e1, _⟩ := h2 e he; rw [e1]; exact key_wf hi) with ⟨f1, f2⟩ | ⟨i, e0, f1, f2, f3⟩
  · refine ⟨ChangeMaps.setBlock w b (.map (es.push ⟨keyA j, valA j, clock⟩) (clock + 1)), ?_, ⟨es.push ⟨keyA j, valA j, clock⟩, clock + 1, ?_, ?_, ?_⟩, ?_⟩
    · simp [Instr.mapUpdate, run_underlying hu, MapKept.run_getObj_map h1, hck, f1, MapKept.run_setObj_map _ h1, Result.andThen, ChangeMaps.setBlock]
    · simp [ChangeMaps.setBlock, hlt]
    · intro e he
      simp only [Array.toList_push, List.mem_append, List.mem_singleton] at he
      rcases he with he | rfl
      · obtain ⟨i, a1, a2, a3, a4⟩ := h2 e he
        refine ⟨i, a1, ?_, a3, a4⟩
        dsimp only
        split
        · rfl
        · exact a2
      · exact ⟨j, hj, by simp, rfl, rfl⟩
    · intro i hi hdi
      dsimp only at hdi
      by_cases c : i = j
      · subst c
        exact ⟨⟨keyA i, valA i, clock⟩, by simp, rfl⟩
      · rw [if_neg c] at hdi
        obtain ⟨e, e1, e2⟩ := h3 i hi hdi
        exact ⟨e, by simp [e1], e2⟩
    · refine ⟨hB.os, hB.tape, hB.output, by simpa [ChangeMaps.setBlock] using hB.size, fun k hk => ?_⟩
      rw [← hB.block k hk]
      simp only [ChangeMaps.setBlock]
      exact Array.getElem?_setIfInBounds_ne (by omega)
  · exfalso
    obtain ⟨i', a1, a2, a3, a4⟩ := h2 e0 (List.mem_of_getElem? f2)
    rw [f3] at a3
    have := key_apart hj a1 a3
    subst this
    rw [a2] at hd; cases hd

theorem has_lookup {w : World} {b : Nat} {m d : Int} (h : MapHas w b (fun _ => true)) (hm : (Lit.int .i64 m).wf = true) (hd : (Lit.int .i64 d).wf = true) :
    (Instr.lookup 70 (.map (some b)) (.agg #[.int .i64 m, .int .i64 d]) false).run Try.prog w = .ok (.agg #[.int .i64 (holyV m d).1, .bool (holyV m d).2]) w := by
  obtain ⟨es, clock, h1, h2, h3⟩ := h
  have hu := Try.underlying70
  have hl := place_key hm hd
  have hck := placeLaw.check w es.isEmpty hl
  rcases placeLaw.find w hl es.toList (fun e he => by obtain ⟨i, hi, _, e1, _⟩ := h2 e he; rw [e1]; exact key_wf hi) with ⟨f1, f2⟩ | ⟨i, e0, f1, f2, f3⟩
  · have hv : holyV m d = (0, false) := row_none (fun j hj c => by
      obtain ⟨e, e1, e2⟩ := h3 j hj rfl
      refine f2 e e1 ?_
      rw [e2]; unfold keyA; rw [c])
    rw [hv]
    simp [Instr.lookup, run_underlying hu, MapKept.run_getObj_map h1, hck, f1, holyZero, Result.andThen]
  · obtain ⟨j, a1, a2, a3, a4⟩ := h2 e0 (List.mem_of_getElem? f2)
    rw [f3] at a3
    unfold keyA at a3
    simp only [Value.agg.injEq, Array.mk.injEq, List.cons.injEq, Value.int.injEq, true_and, and_true] at a3
    have hv := row_val a1
    rw [← a3.1, ← a3.2] at hv
    simp [Instr.lookup, run_underlying hu, MapKept.run_getObj_map h1, hck, f1, Result.andThen, a4, valA, hv]

end Go.Proofs.Ytdjfmcomeaijgaa
