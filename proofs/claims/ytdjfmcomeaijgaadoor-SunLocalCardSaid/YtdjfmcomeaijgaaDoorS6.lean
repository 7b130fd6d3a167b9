/- The reference's Moment. -/
import Derived.Test.YtdjfmcomeaijgaaDoorS5
import Derived.Deep.MidRow
namespace Go.Proofs.YtdjfmcomeaijgaaDoor
open Go Go.RowKit
set_option linter.unusedVariables false
set_option linter.unusedSimpArgs false

theorem sun_range {W : World} {b : Nat} {f : Nat → Int} {t : TypeId} (h : BlockIs W b (sunArr f) t) : W.rangeAt b 0 (sunArr f).toList := by
  have := World.rangeAt_of_block h 0 12
  exact this
theorem sun_info (f : Nat → Int) : (Tryd.prog.info? 40).map (·.size) = some (sunArr f).toList.length := by
  have h : (Tryd.prog.info? 40).map (·.size) = some 12 := by kernel_rfl
  rw [h]; rfl
theorem sun_cells1 (f : Nat → Int) : ∀ v ∈ (sunArr f).toList, v.oneCell' = true := by
  intro v hv; simp [sunArr] at hv
  rcases hv with e | e | e | e | e | e | e | e | e | e | e | e <;> subst e <;> rfl
theorem range_below {n : Nat} {W W2 : World} {b o : Nat} {cs : List Value} (h : W.rangeAt b o cs) (hb : Below W.heap.size W W2) : W2.rangeAt b o cs := fun j v hv => by
  have := h j v hv
  exact (hb.cell (p := ⟨b, o + j, none⟩) (World.block_lt_of_cell? W _ this)).trans this
theorem keepSun {b o b' : Nat} {cs : List Value} {v : Value} {n : Nat} {w0 W w2 : World} (h : W.rangeAt b o cs ∧ W.cell? ⟨b', 0, none⟩ = some v ∧ Below n w0 W) (hb : Below W.heap.size W w2) (hn : n ≤ w0.heap.size) : w2.rangeAt b o cs ∧ w2.cell? ⟨b', 0, none⟩ = some v ∧ Below n w0 w2 := by
  obtain ⟨h0, h1, h2⟩ := h
  have hs := h2.size
  exact ⟨range_below (n := 0) h0 hb, (hb.cell (p := ⟨b', 0, none⟩) (World.block_lt_of_cell? W _ h1)).trans h1, h2.trans (hb.mono (by omega))⟩

set_option maxHeartbeats 2000000 in
theorem rsmoment_any (b s m k d t m' k' d' t' : Int) (f : Nat → Int) (n r1 r2 : Int) (w : World) (hf : ∀ i, i < 12 → I64 (f i)) (hm : I64 m) (hm' : I64 m') (hn : I64 n) (hr : momV ⟨b, s, m, k, d, t, m', k', d', t'⟩ f n = (r1, r2)) :
    Calls Tryd.prog 41 #[.agg #[.int .i64 b, .int .i64 s, .int .i64 m, .int .i64 k, .int .i64 d, .int .i64 t, .int .i64 m', .int .i64 k', .int .i64 d', .int .i64 t'], .agg (sunArr f), .int .i64 n] w fun e w' => e = .returned (.tuple #[.int .i64 r1, .int .i64 r2]) ∧ Below w.heap.size w w' := by
  have HR := Lib.hid hr
  clear hr
  have kz := (BlockIs.new w #[.int .i64 b, .int .i64 s, .int .i64 m, .int .i64 k, .int .i64 d, .int .i64 t, .int .i64 m', .int .i64 k', .int .i64 d', .int .i64 t'] 49).alloc (.cells (sunArr f) 40)
  have ks := BlockIs.new (w.alloc (.cells #[.int .i64 b, .int .i64 s, .int .i64 m, .int .i64 k, .int .i64 d, .int .i64 t, .int .i64 m', .int .i64 k', .int .i64 d', .int .i64 t'] 49)) (sunArr f) 40
  rw [World.size_alloc] at ks
  have hA := ((Below.refl w.heap.size w).alloc (Nat.le_refl _) (.cells #[.int .i64 b, .int .i64 s, .int .i64 m, .int .i64 k, .int .i64 d, .int .i64 t, .int .i64 m', .int .i64 k', .int .i64 d', .int .i64 t'] 49)).alloc (by simp) (.cells (sunArr f) 40)
  by_cases cz : zErr ⟨b, s, m, k, d, t, m', k', d', t'⟩ = 0
  · have zb := zErr_b cz
    simp only at zb
    by_cases cs : sunErr f = 0
    · rcases sunErr_cases f with ⟨_, hi, hy⟩ | c | c
      case inr.inl => omega
      case inr.inr => omega
      by_cases cn : n < 401 ∨ 3651998 < n
      · have hq : momV ⟨b, s, m, k, d, t, m', k', d', t'⟩ f n = (0, 72) := by
          unfold momV; rw [if_neg (by omega), if_neg (by omega), if_pos cn]
        obtain ⟨e1, e2⟩ := Prod.mk.inj (HR.out.symm.trans hq)
        have E1 := Lib.hid e1
        have E2 := Lib.hid e2
        have cn' : n < 401 ∨ (401 ≤ n ∧ 3651998 < n) := by omega
        clear e1 e2 hq cn
        unfold sunArr at kz ks hA ⊢
        rcases cn' with cn | ⟨cn, cn'⟩
        all_goals
          go_enter Tryd.func41, Tryd.ntmps41
          go_wp2_with fail
          refine (rzcheck_any _ _ _ _ _ _ _ _ _ _ 0 _ cz hm hm').mono ?_; rintro e w1 ⟨rfl, hb1⟩
          have hB1 := hA.trans (hb1.mono hA.size)
          obtain ⟨z0, z1, z2, z3, z4, z5, z6, z7, z8, z9, z10, z11⟩ := sun_cells (f := f) (ks.kept hb1)
          clear hb1
          go_wp2_with fail
          rw [sunArr_out]
          refine (rscheck_any f 0 _ cs hf).mono ?_; rintro e w2 ⟨rfl, hb2⟩
          have hB2 := Lib.hid (hB1.trans (hb2.mono hB1.size))
          clear hb2 hB1 z0 z1 z2 z3 z4 z5 z6 z7 z8 z9 z10 z11
          go_wp2_with fail
          go_ret2
          exact ⟨two E1.out.symm E2.out.symm, hB2.out⟩
      · have h1 : 401 ≤ n := by omega
        have h2 : n ≤ 3651998 := by omega
        have hq : momV ⟨b, s, m, k, d, t, m', k', d', t'⟩ f n = (n * 1440 + sunAt f n - b, 0) := by
          unfold momV; rw [if_neg (by omega), if_neg (by omega), if_neg cn]
        obtain ⟨e1, e2⟩ := Prod.mk.inj (HR.out.symm.trans hq)
        have E1 := Lib.hid e1
        have E2 := Lib.hid e2
        have sb := sunAt_bd hi hy (n := n) (by omega) (by omega)
        clear e1 e2 hq cn
        unfold sunArr at kz ks hA ⊢
        go_enter Tryd.func41, Tryd.ntmps41
        go_wp2_with fail
        refine (rzcheck_any _ _ _ _ _ _ _ _ _ _ 0 _ cz hm hm').mono ?_; rintro e w1 ⟨rfl, hb1⟩
        have hB1 := hA.trans (hb1.mono hA.size)
        have kz1 := kz.kept hb1
        have ks1 := ks.kept hb1
        obtain ⟨z0, z1, z2, z3, z4, z5, z6, z7, z8, z9, z10, z11⟩ := sun_cells (f := f) ks1
        clear hb1
        go_wp2_with fail
        rw [sunArr_out]
        refine (rscheck_any f 0 _ cs hf).mono ?_; rintro e w2 ⟨rfl, hb2⟩
        have kz2 := kz1.kept hb2
        have r0 : w2.rangeAt (w.heap.size + 1) 0 (sunArr f).toList := sun_range (f := f) (ks1.kept hb2)
        have hB2 := Lib.hid (hB1.trans (hb2.mono hB1.size))
        clear hb2 hB1 z0 z1 z2 z3 z4 z5 z6 z7 z8 z9 z10 z11
        have q0 : w2.cell? ⟨w.heap.size, 0, none⟩ = some (.int .i64 b) := kz2.cell rfl
        have hu := Tryd.underlying40
        have hinf := sun_info f
        have hl1 : (sunArr f).toList.length = 12 := rfl
        have hc1 := sun_cells1 f
        clear kz kz1 kz2 ks ks1
        go_wp2_with fail
        go_region_held3 (fun w' => w'.rangeAt (w.heap.size + 1) 0 (sunArr f).toList ∧ w'.cell? ⟨w.heap.size, 0, none⟩ = some (.int .i64 b) ∧ Below w2.heap.size w2 w')
          (first
            | (exact ⟨(World.rangeAt_drew _ _ _ _).2 r0, q0, (Below.refl _ _).drew⟩)
            | assumption
            | (refine keepSun (by assumption) hb3 (Nat.le_refl _))
            | go_keep)
          (first | (go_at_call 39; refine (rsat_ok f n _ hi hy (by omega) (by omega)).mono ?_; rintro e w3 ⟨rfl, hb3⟩))
        go_wp2
        go_ret2
        have hh := (‹_ ∧ _ ∧ Below _ _ w3›).2.2
        exact ⟨two (by rw [IntWalk.i64_in (n * 1440) ⟨by omega, by omega⟩, IntWalk.i64_in (n * 1440 + sunAt f n) ⟨by omega, by omega⟩, IntWalk.i64_in _ ⟨by omega, by omega⟩]; exact E1.out.symm) E2.out.symm, hB2.out.trans (hh.mono hB2.out.size)⟩
    · have hq : momV ⟨b, s, m, k, d, t, m', k', d', t'⟩ f n = (0, sunErr f) := by
        unfold momV; rw [if_neg (by omega), if_pos cs]
      obtain ⟨e1, e2⟩ := Prod.mk.inj (HR.out.symm.trans hq)
      have E1 := Lib.hid e1
      have E2 := Lib.hid e2
      clear e1 e2 hq
      have hne : (sunErr f != 0) = true := by simpa using cs
      have hne2 : (sunErr f == 0) = false := by simpa using cs
      unfold sunArr at kz ks hA ⊢
      go_enter Tryd.func41, Tryd.ntmps41
      go_wp2_with fail
      refine (rzcheck_any _ _ _ _ _ _ _ _ _ _ 0 _ cz hm hm').mono ?_; rintro e w1 ⟨rfl, hb1⟩
      have hB1 := hA.trans (hb1.mono hA.size)
      obtain ⟨z0, z1, z2, z3, z4, z5, z6, z7, z8, z9, z10, z11⟩ := sun_cells (f := f) (ks.kept hb1)
      clear hb1
      go_wp2_with fail
      rw [sunArr_out]
      refine (rscheck_any f (sunErr f) _ rfl hf).mono ?_; rintro e w2 ⟨rfl, hb2⟩
      have hB2 := Lib.hid (hB1.trans (hb2.mono hB1.size))
      clear hb2 hB1 z0 z1 z2 z3 z4 z5 z6 z7 z8 z9 z10 z11
      go_wp2_with fail
      go_ret2
      exact ⟨two E1.out.symm E2.out.symm, hB2.out⟩
  · have hq : momV ⟨b, s, m, k, d, t, m', k', d', t'⟩ f n = (0, zErr ⟨b, s, m, k, d, t, m', k', d', t'⟩) := by
      unfold momV; rw [if_pos cz]
    obtain ⟨e1, e2⟩ := Prod.mk.inj (HR.out.symm.trans hq)
    have E1 := Lib.hid e1
    have E2 := Lib.hid e2
    clear e1 e2 hq
    generalize hE : zErr ⟨b, s, m, k, d, t, m', k', d', t'⟩ = E at *
    have hne : (E != 0) = true := by simpa using cz
    unfold sunArr at kz ks hA ⊢
    go_enter Tryd.func41, Tryd.ntmps41
    go_wp2_with fail
    refine (rzcheck_any _ _ _ _ _ _ _ _ _ _ E _ hE hm hm').mono ?_; rintro e w1 ⟨rfl, hb1⟩
    have hB1 := Lib.hid (hA.trans (hb1.mono hA.size))
    clear hb1
    go_wp2_with fail
    go_ret2
    exact ⟨two E1.out.symm E2.out.symm, hB1.out⟩

end Go.Proofs.YtdjfmcomeaijgaaDoor
