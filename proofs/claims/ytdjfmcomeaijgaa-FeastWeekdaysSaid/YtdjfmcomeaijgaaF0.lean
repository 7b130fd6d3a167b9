/- A value that is made of whole numbers alone (structs and arrays of them, in each other): what its reading says, and that it reads the same in every world. No program in sight. -/
import Derived.ProofKit
import Derived.OpenShut
import Derived.Below
import Derived.ChangeSame
namespace Go.Proofs.Ytdjfmcomeaijgaa
open Go.ChangeShapes Go.WideShapes Go.ChangeAt Go.RowKit

/-- Is a type made of whole numbers of 64 bits alone? -/
def flatB (P : Program) : Nat → TypeId → Bool
  | 0, _ => false
  | k + 1, t =>
    match P.underlying t with
    | some (.int .i64) => true
    | some (.struct fs) => fs.toList.all (fun f => flatB P k f.type) && (List.range (P.cellsOf t)).all fun j => fs.toList.any fun f => decide (f.offset ≤ j) && decide (j < f.offset + P.cellsOf f.type)
    | some (.array n e) => flatB P k e && decide (0 < P.cellsOf e) && decide (P.cellsOf t = n * P.cellsOf e)
    | _ => false

section
variable {H : Type} {enc : TypeId × Value → H} {P : Program} {w : World} {base : Nat} {spare : Nat → Bool} {held : Bool}

theorem mem_part {cs : List Value} {j o n : Nat} (hj : j < cs.length) (h1 : o ≤ j) (h2 : j < o + n) : cs[j] ∈ (cs.drop o).take n := by
  refine List.mem_iff_getElem.2 ⟨j - o, by simp; omega, ?_⟩
  simp only [List.getElem_take, List.getElem_drop]
  congr 1; omega

theorem trod_flat : ∀ (k : Nat) (t : TypeId) (fuel : Nat) (cs : List Value) (x : DataW H × List MemPlace), flatB P k t = true → DataW.trod enc P w base spare held fuel t cs = some x →
    x.2 = [] ∧ ∀ c ∈ cs, ∃ a : Int, c = .int .i64 a ∧ (Lit.int .i64 a).wf = true := by
  intro k
  induction k with
  | zero => intro t fuel cs x h; cases h
  | succ k ih =>
    intro t fuel cs x hf h
    unfold flatB at hf
    split at hf
    · rename_i hu
      obtain ⟨n, rfl, rfl, hw⟩ := DataW.trod_int hu h
      exact ⟨rfl, fun c hc => ⟨n, by simpa using hc, hw⟩⟩
    · rename_i fs hu
      simp only [Bool.and_eq_true, List.all_eq_true, List.any_eq_true, List.mem_range, decide_eq_true_eq] at hf
      obtain ⟨hf1, hf2⟩ := hf
      obtain ⟨xs, m, rfl, rfl, hl, hn, hel⟩ := DataW.trod_struct hu h
      have hpart : ∀ f ∈ fs.toList, ∃ i : Nat, ∃ y : DataW H × List MemPlace, xs[i]? = some y ∧ DataW.trod enc P w base spare held m f.type ((cs.drop f.offset).take (P.cellsOf f.type)) = some y := by
        intro f hfm
        obtain ⟨i, hi, rfl⟩ := List.mem_iff_getElem.1 hfm
        have hi' : i < fs.size := by simpa using hi
        have := hel i fs[i] (by simp [hi'])
        exact ⟨i, xs[i]'(by omega), by simp, by simpa using this.trans (List.getElem?_eq_getElem (by omega))⟩
      refine ⟨?_, ?_⟩
      · simp only [List.flatMap_eq_nil_iff]
        intro y hy
        obtain ⟨i, hi, rfl⟩ := List.mem_iff_getElem.1 hy
        have hi' : i < fs.size := by omega
        have e := hel i fs[i] (by simp [hi'])
        exact (ih _ _ _ _ (hf1 fs[i] (by simp)) (e.trans (List.getElem?_eq_getElem hi))).1
      · intro c hc
        obtain ⟨j, hj, rfl⟩ := List.mem_iff_getElem.1 hc
        obtain ⟨f, hfm, ho, ho2⟩ := hf2 j (by omega)
        obtain ⟨i, y, _, e⟩ := hpart f hfm
        exact (ih _ _ _ _ (hf1 f hfm) e).2 _ (mem_part hj ho ho2)
    · rename_i n e hu
      simp only [Bool.and_eq_true, decide_eq_true_eq] at hf
      obtain ⟨⟨hf1, hpos⟩, hcells⟩ := hf
      obtain ⟨xs, m, rfl, rfl, hl, hn, hel⟩ := DataW.trod_array hu h
      refine ⟨?_, ?_⟩
      · simp only [List.flatMap_eq_nil_iff]
        intro y hy
        obtain ⟨i, hi, rfl⟩ := List.mem_iff_getElem.1 hy
        have e := hel i (by omega)
        exact (ih _ _ _ _ hf1 (e.trans (List.getElem?_eq_getElem hi))).1
      · intro c hc
        obtain ⟨j, hj, rfl⟩ := List.mem_iff_getElem.1 hc
        have hjn : j / P.cellsOf e < n := by rw [Nat.div_lt_iff_lt_mul hpos]; omega
        have e' := hel (j / P.cellsOf e) hjn
        have hm := Nat.div_mul_le_self j (P.cellsOf e)
        have hm2 := Nat.lt_div_mul_add (a := j) hpos
        exact (ih _ _ _ _ hf1 (e'.trans (List.getElem?_eq_getElem (by omega)))).2 _ (mem_part hj hm hm2)
    · cases hf

/-- Such a struct or array, by value: its cells are whole numbers, and it leads nowhere. -/
theorem open_flat {r : Reach} {b0 : Nat} {t : TypeId} {v : Value} {d : DataW H} {p : List MemPlace} (k : Nat) (hf : flatB P k t = true) (hs : (∃ fs, P.underlying t = some (.struct fs)) ∨ ∃ n e, P.underlying t = some (.array n e))
    (hv : Value.okWide P w r b0 t v) (h : DataW.Trod enc P w base spare held t v d p) :
    ∃ cs : List Value, v = .agg cs.toArray ∧ cs.length = P.cellsOf t ∧ p = [] ∧ ∀ c ∈ cs, ∃ a : Int, c = .int .i64 a ∧ (Lit.int .i64 a).wf = true := by
  have hv2 : ∃ cs, v = .agg cs ∧ cs.size = P.cellsOf t := by
    unfold Value.okWide at hv
    rcases hs with ⟨fs, hs⟩ | ⟨n, e, hs⟩
    · rw [hs] at hv; exact ⟨hv.choose, hv.choose_spec.1, hv.choose_spec.2.1⟩
    · rw [hs] at hv; exact ⟨hv.choose, hv.choose_spec.1, hv.choose_spec.2.1⟩
  obtain ⟨cs, rfl, hsz⟩ := hv2
  obtain ⟨fuel, hfu⟩ := h
  have := trod_flat k t fuel _ _ hf hfu
  exact ⟨cs.toList, by simp, by simpa using hsz, this.1, fun c hc => this.2 c (by simpa [Value.cells] using hc)⟩

/-- And it reads the same in every world. -/
theorem flat_stays {t : TypeId} {v : Value} {d : DataW H} (hl : laidOutB P = true) (hr : P.readableRec t = true) (hrow : t < P.types.size) {W W' : World} {sp : Nat → Bool}
    (h : DataW.Trod enc P W base (fun _ => true) true t v d []) : DataW.Trod enc P W' base sp true t v d [] :=
  WideElems.Trod_stays hl hr hrow h (fun _ hp => by cases hp) (fun _ hp => by cases hp)
end

section
variable {H : Type} {enc : TypeId × Value → H} {P : Program}
/-- The row's last step, where of old memory nothing has turned. -/
theorem post_below {f : Func} {s : ChangeSpec} {apart fresh handsOn again : Bool} {W W' : World} {args : Array Value} {v : Value} {ds gs : List (DataW H)} {before pa pv : List MemPlace}
    (hW : DataW.Whole enc P f.params.toList s.vars apart W args.toList ds gs before)
    (hres : ∀ (b : Nat) (sp : Nat → Bool) (hd : Bool), DataW.TrodAll enc P W' b sp hd f.resultTypes.toList (v.resultList f.resultTypes.size) (s.fn H (ds ++ gs)).results [])
    (hargs : ∀ sp : Nat → Bool, (∀ p ∈ before, sp p.block = true) → DataW.TrodAll enc P W' 0 sp true f.params.toList args.toList (s.fn H (ds ++ gs)).args pa)
    (hvars : ∀ sp : Nat → Bool, (∀ p ∈ before, sp p.block = true) → DataW.TrodVars enc P W' sp s.vars (s.fn H (ds ++ gs)).vars pv)
    (hps : before = pa ++ pv) (hb : Below W.heap.size W W')
    (hok : ∀ (j : Nat) (t : TypeId) (r : Value), f.resultTypes[j]? = some t → (v.resultList f.resultTypes.size)[j]? = some r → Value.okWide P W' .any 0 t r) :
    s.post enc P f apart fresh handsOn again W args v W' := by
  have hlt : ∀ p ∈ before, p.block < W.heap.size := fun p hp => hW.lt p hp
  have hold : ∀ p ∈ before, (fun b => decide (b < W.heap.size)) p.block = true := fun p hp => by simpa using hlt p hp
  refine ⟨ds, gs, before, [], pa, pv, hW, hres _ _ _, hargs _ hold, hvars _ hold, World.keptBut_mono (fun p hp => ⟨hp, ?_⟩) (hb.frame (· ∈ before)), fun _ => ?_⟩
  · rw [hps, List.mem_append] at hp
    exact Or.inr hp
  · obtain ⟨_, _, _, _, _, hz, hn⟩ := hW
    refine ⟨hok, _, _, ([] ++ pa) ++ pv, ⟨[] ++ pa, pv, trodAll_append (hargs _ (fun _ _ => rfl)) (hres _ _ _), hvars _ (fun _ _ => rfl), rfl, ?_, ?_⟩, ?_⟩
    · intro b off hp
      have hin : MemPlace.cell b off ∈ before := by rw [hps]; simpa using hp
      rw [hb.frozen (hlt _ hin)]
      exact hz b off hin
    · intro ha
      have := hn ha
      rw [hps] at this
      simpa using this
    · intro p hp _
      rw [hps]
      simpa using hp
end

theorem list3 {l : List Value} (h : l.length = 3) : ∃ a b c, l = [a, b, c] := by
  match l, h with
  | [a, b, c], _ => exact ⟨a, b, c, rfl⟩
theorem list4 {l : List Value} (h : l.length = 4) : ∃ a b c d, l = [a, b, c, d] := by
  match l, h with
  | [a, b, c, d], _ => exact ⟨a, b, c, d, rfl⟩
theorem list10 {l : List Value} (h : l.length = 10) : ∃ a b c d e f g i j k, l = [a, b, c, d, e, f, g, i, j, k] := by
  match l, h with
  | [a, b, c, d, e, f, g, i, j, k], _ => exact ⟨a, b, c, d, e, f, g, i, j, k, rfl⟩
theorem list12 {l : List Value} (h : l.length = 12) : ∃ a b c d e f g i j k m n, l = [a, b, c, d, e, f, g, i, j, k, m, n] := by
  match l, h with
  | [a, b, c, d, e, f, g, i, j, k, m, n], _ => exact ⟨a, b, c, d, e, f, g, i, j, k, m, n, rfl⟩

end Go.Proofs.Ytdjfmcomeaijgaa
