/- zone.Instants, by one list; the example of chapter 6. -/
import Derived.Test.YtdjfmcomeaijgaaDoorZF
namespace Go.Proofs.YtdjfmcomeaijgaaDoor
open Go Go.RowKit
set_option linter.unusedVariables false
set_option linter.unusedSimpArgs false

/-- The instants at which clocks tell a minute: T is the one of a zone without a shift. -/
def instV (z : Zn) (T : Int) : List Int := (if 0 < z.s ∧ 0 < shiftV z (T - z.s) then [T - z.s] else []) ++ (if shiftV z T = 0 then [T] else [])

theorem inst_five {z : Zn} (T : Int) (h : 0 ≤ z.s) : (z.s = 0 ∧ shiftV z T = 0 ∧ instV z T = [T]) ∨ (0 < z.s ∧ shiftV z (T - z.s) = z.s ∧ shiftV z T = 0 ∧ instV z T = [T - z.s, T]) ∨ (0 < z.s ∧ shiftV z (T - z.s) = z.s ∧ shiftV z T = z.s ∧ instV z T = [T - z.s]) ∨
    (0 < z.s ∧ shiftV z (T - z.s) = 0 ∧ shiftV z T = z.s ∧ instV z T = []) ∨ (0 < z.s ∧ shiftV z (T - z.s) = 0 ∧ shiftV z T = 0 ∧ instV z T = [T]) := by
  have c1 := shiftV_cases z T
  have c2 := shiftV_cases z (T - z.s)
  by_cases s0 : z.s = 0
  · left
    have e : shiftV z T = 0 := by omega
    refine ⟨s0, e, ?_⟩
    unfold instV
    rw [if_neg (by omega), if_pos e]; rfl
  · have s1 : 0 < z.s := by omega
    rcases c1 with e1 | ⟨e1, _⟩ <;> rcases c2 with e2 | ⟨e2, _⟩
    · refine .inr (.inr (.inr (.inr ⟨s1, e2, e1, ?_⟩)))
      unfold instV; rw [if_neg (by omega), if_pos e1]; rfl
    · refine .inr (.inl ⟨s1, e2, e1, ?_⟩)
      unfold instV; rw [if_pos (by omega), if_pos e1]; rfl
    · refine .inr (.inr (.inr (.inl ⟨s1, e2, e1, ?_⟩)))
      unfold instV; rw [if_neg (by omega), if_neg (by omega)]; rfl
    · refine .inr (.inr (.inl ⟨s1, e2, e1, ?_⟩))
      unfold instV; rw [if_pos (by omega), if_neg (by omega)]; rfl

theorem zinst_ok (b s m k d t m' k' d' t' n u T : Int) (xs : List Int) (w : World) (ht : Tab w) (hz : zErr ⟨b, s, m, k, d, t, m', k', d', t'⟩ = 0) (hd : DayOk n u) (hT : n * 1440 + u - b = T) (hx : instV ⟨b, s, m, k, d, t, m', k', d', t'⟩ T = xs) :
    Calls Tryd.prog 50 #[.agg #[.int .i64 b, .int .i64 s, .int .i64 m, .int .i64 k, .int .i64 d, .int .i64 t, .int .i64 m', .int .i64 k', .int .i64 d', .int .i64 t'], .int .i64 n, .int .i64 u] w fun e w' => ∃ out, e = .returned (.tuple #[out, .int .i64 0]) ∧ RowV w' out xs ∧ Below w.heap.size w w' := by
  have sb := zErr_sb hz
  rcases inst_five (z := ⟨b, s, m, k, d, t, m', k', d', t'⟩) T sb.1 with ⟨c0, c1, c2⟩ | ⟨c0, c1, c2, c3⟩ | ⟨c0, c1, c2, c3⟩ | ⟨c0, c1, c2, c3⟩ | ⟨c0, c1, c2, c3⟩
  · exact (zinst_plain _ _ _ _ _ _ _ _ _ _ n u T w ht hz hd hT c0 c1).mono fun e w' ⟨out, h1, h2, h3⟩ => ⟨out, h1, rowV_of h2 (by rw [← hx, c2]; rfl), h3⟩
  · exact (zinst_two _ _ _ _ _ _ _ _ _ _ n u T w ht hz hd hT c0 c1 c2).mono fun e w' ⟨out, h1, h2, h3⟩ => ⟨out, h1, rowV_of h2 (by rw [← hx, c3]; rfl), h3⟩
  · exact (zinst_early _ _ _ _ _ _ _ _ _ _ n u T w ht hz hd hT c0 c1 c2).mono fun e w' ⟨out, h1, h2, h3⟩ => ⟨out, h1, rowV_of h2 (by rw [← hx, c3]; rfl), h3⟩
  · exact (zinst_none _ _ _ _ _ _ _ _ _ _ n u T w ht hz hd hT c0 c1 c2).mono fun e w' ⟨out, h1, h2, h3⟩ => ⟨out, h1, rowV_of h2 (by rw [← hx, c3]; rfl), h3⟩
  · exact (zinst_late _ _ _ _ _ _ _ _ _ _ n u T w ht hz hd hT c0 c1 c2).mono fun e w' ⟨out, h1, h2, h3⟩ => ⟨out, h1, rowV_of h2 (by rw [← hx, c3]; rfl), h3⟩
theorem rzinst_ok (b s m k d t m' k' d' t' n u T : Int) (xs : List Int) (w : World) (hz : zErr ⟨b, s, m, k, d, t, m', k', d', t'⟩ = 0) (hd : DayOk n u) (hT : n * 1440 + u - b = T) (hx : instV ⟨b, s, m, k, d, t, m', k', d', t'⟩ T = xs) :
    Calls Tryd.prog 53 #[.agg #[.int .i64 b, .int .i64 s, .int .i64 m, .int .i64 k, .int .i64 d, .int .i64 t, .int .i64 m', .int .i64 k', .int .i64 d', .int .i64 t'], .int .i64 n, .int .i64 u] w fun e w' => ∃ out, e = .returned out ∧ RowV w' out xs ∧ Below w.heap.size w w' := by
  have sb := zErr_sb hz
  rcases inst_five (z := ⟨b, s, m, k, d, t, m', k', d', t'⟩) T sb.1 with ⟨c0, c1, c2⟩ | ⟨c0, c1, c2, c3⟩ | ⟨c0, c1, c2, c3⟩ | ⟨c0, c1, c2, c3⟩ | ⟨c0, c1, c2, c3⟩
  · exact (rzinst_plain _ _ _ _ _ _ _ _ _ _ n u T w hz hd hT c0 c1).mono fun e w' ⟨out, h1, h2, h3⟩ => ⟨out, h1, rowV_of h2 (by rw [← hx, c2]; rfl), h3⟩
  · exact (rzinst_two _ _ _ _ _ _ _ _ _ _ n u T w hz hd hT c0 c1 c2).mono fun e w' ⟨out, h1, h2, h3⟩ => ⟨out, h1, rowV_of h2 (by rw [← hx, c3]; rfl), h3⟩
  · exact (rzinst_early _ _ _ _ _ _ _ _ _ _ n u T w hz hd hT c0 c1 c2).mono fun e w' ⟨out, h1, h2, h3⟩ => ⟨out, h1, rowV_of h2 (by rw [← hx, c3]; rfl), h3⟩
  · exact (rzinst_none _ _ _ _ _ _ _ _ _ _ n u T w hz hd hT c0 c1 c2).mono fun e w' ⟨out, h1, h2, h3⟩ => ⟨out, h1, rowV_of h2 (by rw [← hx, c3]; rfl), h3⟩
  · exact (rzinst_late _ _ _ _ _ _ _ _ _ _ n u T w hz hd hT c0 c1 c2).mono fun e w' ⟨out, h1, h2, h3⟩ => ⟨out, h1, rowV_of h2 (by rw [← hx, c3]; rfl), h3⟩

end Go.Proofs.YtdjfmcomeaijgaaDoor
