/- Part of the proof of TopHoly. -/
import Derived.Test.YtfnifgppblbjhaaGreatDoorY01
import Derived.Test.YtfnifgppblbjhaaGreatDoorY07
import Derived.Test.YtfnifgppblbjhaaGreatDoorY14
import Derived.Test.YtfnifgppblbjhaaGreatDoorY18
import Derived.Test.YtfnifgppblbjhaaGreatDoorY19
import Derived.Test.YtfnifgppblbjhaaGreatDoorY27
import Derived.Test.YtfnifgppblbjhaaGreatDoorY31
import Derived.Test.YtfnifgppblbjhaaGreatDoorY38
import Derived.Test.YtfnifgppblbjhaaGreatDoorY39
import Derived.Test.YtfnifgppblbjhaaGreatDoorY40
namespace Go.Proofs.YtfnifgppblbjhaaGreatDoor
set_option maxHeartbeats 8000000
open Go Go.RowKit
set_option linter.unusedVariables false
set_option linter.unusedSimpArgs false
def plainF : Nat → Int
 | 0 => 1000 | 1 => 1050 | 2 => 1100 | 3 => 1150 | 4 => 1180 | 5 => 1200 | 6 => 1170 | 7 => 1130 | 8 => 1080 | 9 => 1030 | 10 => 1000 | _ => 990
def plainC : Cfg := ⟨4, 1, 0, [0, 1, 3], 2, 1, 2, 4, 1, 2, 3, 5, 3, ⟨0, 0, 0, 0, 0, 0, 0, 0, 0, 0⟩, plainF, false, ⟨1, 2, 0, 65, 0, 1200, 600⟩⟩
theorem plain_ok : CfgOk plainC := by
 refine ⟨by decide, by decide, by decide, by decide, by decide, by decide, ⟨by decide, by decide, by decide⟩, ?_, by decide, by decide, ?_⟩
 ·unfold TimesOk; decide
 ·unfold WnOk timedOk; decide
def plainT : Array Value := #[.int .i64 2, .int .i64 1, .int .i64 2, .int .i64 4, .int .i64 1, .int .i64 2, .int .i64 3]
def plainS : Array Value := #[.int .i64 1000, .int .i64 1050, .int .i64 1100, .int .i64 1150, .int .i64 1180, .int .i64 1200, .int .i64 1170, .int .i64 1130, .int .i64 1080, .int .i64 1030, .int .i64 1000, .int .i64 990]
set_option maxRecDepth 100000 in
theorem build_plain (p q : Option Addr) (n n' m m' : Nat) (W : World) : (Instr.build 33 #[(0, .int .i64 4), (1, .int .i64 1), (3, .slice p n n'), (4, .agg plainT), (5, .int .i64 5), (6, .int .i64 3), (8, .agg plainS), (10, .slice q m m')]).run Tryz.prog W = .ok (.agg (cfgA plainC (.slice p n n') (.slice q m m'))) W := by kernel_rfl
theorem wl_build_plain {ops : Array Oper} {rest : List Oper} {op : Oper} {a : Act} {W : World} {Q : Exit → Act → World → Prop} (p q : Option Addr) (n n' m m' : Nat) (ho : op.op = .build 33 #[(0, .const (.int .i64 4)), (1, .const (.int .i64 1)), (3, .tmp 1), (4, .tmp 2), (5, .const (.int .i64 5)), (6, .const (.int .i64 3)), (8, .tmp 3), (10, .tmp 5)]) (hw : Region.wanted op (yielded ops a.tmps) = true)
  (h1 : a.eval (.tmp 1) = .slice p n n') (h2 : a.eval (.tmp 2) = .agg plainT) (h3 : a.eval (.tmp 3) = .agg plainS) (h5 : a.eval (.tmp 5) = .slice q m m')
  (h : wpList Tryz.prog ops Q rest (a.put op.dst (.agg (cfgA plainC (.slice p n n') (.slice q m m')))) W) : wpList Tryz.prog ops Q (op :: rest) a W :=
 BigFrame.wpList_want hw fun K hK => by
  have hc : ∀ z, a.eval (.const z) = z := fun _ => rfl
  unfold Oper.wp execOp
  simp only [ho, List.map_toArray, List.map_cons, List.map_nil, h1, h2, h3, h5, hc, Sem.run_bind, Sem.run_pure, Result.andThen_ok, build_plain]
  exact hK _ _ h
theorem cfg_rng {w : World} {b : Nat} {cs : Array Value} {t : TypeId} (h : BlockIs w b cs t) : w.rangeAt b 0 cs.toList := fun j v hv => by
 rw [Nat.zero_add]; exact h.cell (by simpa using hv)
theorem lplain_ok (w : World) : Calls Tryz.prog 16 #[] w fun e w' => ∃ vs vw, e = .returned (.agg (cfgA plainC vs vw)) ∧ CfgM w' plainC vs vw ∧ Below w.heap.size w w' := by
 have b0 := BlockIs.new w cfgZ 33
 have hB0 := (Below.refl w.heap.size w).alloc (Nat.le_refl _) (.cells cfgZ 33)
 obtain ⟨W, hW⟩ : ∃ W, w.alloc (.cells cfgZ 33) = W := ⟨_, rfl⟩
 rw [hW] at b0 hB0
 have b1 := (b0.alloc (.cells #[.int .i64 0, .int .i64 1, .int .i64 3] 3)).alloc (.cells (wnA ⟨1, 2, 0, 65, 0, 1200, 600⟩) 35)
 have l1 := (BlockIs.new W #[.int .i64 0, .int .i64 1, .int .i64 3] 3).alloc (.cells (wnA ⟨1, 2, 0, 65, 0, 1200, 600⟩) 35)
 have l2 := BlockIs.new (W.alloc (.cells #[.int .i64 0, .int .i64 1, .int .i64 3] 3)) (wnA ⟨1, 2, 0, 65, 0, 1200, 600⟩) 35
 simp only [World.size_alloc] at l2
 have hB2 := (hB0.alloc hB0.size (.cells #[.int .i64 0, .int .i64 1, .int .i64 3] 3)).alloc (by have := hB0.size; simp only [World.size_alloc]; omega) (.cells (wnA ⟨1, 2, 0, 65, 0, 1200, 600⟩) 35)
 have hlt := b0.lt
 obtain ⟨W2, hW2⟩ : ∃ W2, (W.alloc (.cells #[.int .i64 0, .int .i64 1, .int .i64 3] 3)).alloc (.cells (wnA ⟨1, 2, 0, 65, 0, 1200, 600⟩) 35) = W2 := ⟨_, rfl⟩
 rw [hW2] at b1 l1 l2 hB2
 have B1 := Lib.hid b1
 have m1 := (l1.rowOther (b' := w.heap.size) (by omega) (cfgA plainC (.slice (some ⟨W.heap.size, 0, none⟩) 3 3) (.slice (some ⟨W.heap.size + 1, 0, none⟩) 1 1)))
 have m2 := (l2.rowOther (b' := w.heap.size) (by omega) (cfgA plainC (.slice (some ⟨W.heap.size, 0, none⟩) 3 3) (.slice (some ⟨W.heap.size + 1, 0, none⟩) 1 1)))
 have b2 := b1.row (cfgA plainC (.slice (some ⟨W.heap.size, 0, none⟩) 3 3) (.slice (some ⟨W.heap.size + 1, 0, none⟩) 1 1))
 have hB3 := below_setRow hB2 (Nat.le_refl _) (cfgA plainC (.slice (some ⟨W.heap.size, 0, none⟩) 3 3) (.slice (some ⟨W.heap.size + 1, 0, none⟩) 1 1))
 have M1 := Lib.hid m1
 have M2 := Lib.hid m2
 have B2 := Lib.hid b2
 have HB3 := Lib.hid hB3
 have HW := Lib.hid hW
 have HW2 := Lib.hid hW2
 clear b0 hB0 hW b1 l1 l2 hB2 hlt hW2 m1 m2 b2 hB3
 go_enter Tryz.func16, Tryz.ntmps16
 go_upto_region 1 with fail
 change Code.wp _ _ _ _ (w.alloc (.cells cfgZ 33))
 rw [HW.out]
 go_wp2_with (first
  | ((with_reducible show wpList _ _ _ _ _ _); refine wl_build_plain (some ⟨W.heap.size, 0, none⟩) (some ⟨W.heap.size + 1, 0, none⟩) 3 3 1 1 ?_ ?_ ?_ ?_ ?_ ?_ ?_; rfl; rfl; rfl; rfl; rfl; rfl; (change wpList _ _ _ _ _ ((W.alloc (.cells #[.int .i64 0, .int .i64 1, .int .i64 3] 3)).alloc (.cells (wnA ⟨1, 2, 0, 65, 0, 1200, 600⟩) 35)); rw [HW2.out]))
  | ((with_reducible show wpList _ _ _ _ _ _); refine ws_box (.tmp 0) (.tmp 6) plainC (.slice (some ⟨W.heap.size, 0, none⟩) 3 3) (.slice (some ⟨W.heap.size + 1, 0, none⟩) 1 1) w.heap.size cfgZ 33 rfl rfl rfl rfl B1.out rfl rfl rfl ?_))
 exact bodyPost_ret (res_cfg rfl _ _ w.heap.size 33 plainC _ _ rfl B2.out) rfl ⟨_, _, rfl, ⟨.inr ⟨by decide, _, _, _, rfl, by decide, cfg_rng M1.out⟩, .inr ⟨by decide, _, _, _, rfl, by decide, cfg_rng M2.out⟩⟩, HB3.out⟩
theorem rest_ex (c : Cfg) (vs vw : Value) (mi l D : Int) (h : CfgOk c) (hw : c.w = ⟨4, 1, 0, 0, 0, mi, l⟩) (m1 : 0 ≤ mi) (m2 : mi ≤ 180) (l1 : 0 ≤ l) (l2 : l ≤ 180) (h1 : 402 ≤ D) (h2 : D ≤ 3651990) (W0 : World) (ht0 : Tab W0) :
  ∃ o, OpenR c vs vw D o ∧ RestOpt c.z.b mi l c.f c.ab D o ∧ ∀ s, o = some s → s.m = 1 := by
 by_cases r1 : RestP (D + 1) c.ab
 ·obtain ⟨a, b, a1, b1, ab2, hin, ha, hb⟩ := row_ex r1
  by_cases r0 : RestP D c.ab
  ·refine ⟨none, ⟨(fun s e => nomatch e), 0, 0, (fun s e => nomatch e), fun W _ => wrest_in c vs vw c.w D a b W h1 h2 a1 b1 ab2 hin ha hb r0⟩, ?_, (fun s e => nomatch e)⟩
   rintro ⟨s, b, _, nr, _⟩
   exact nr r0
  ·have e : a = D + 1 := by
    by_cases c' : a ≤ D
    ·exact absurd (hin D c' (by omega)) r0
    ·omega
   subst e
   have hin' : ∀ y, D + 1 ≤ y → y ≤ b → RestP y c.ab := hin
   refine ⟨some ⟨D * 1440 + sunAt c.f D - c.z.b - mi, b * 1440 + sunAt c.f b - c.z.b + l, 1, 0⟩, ⟨?_, D * 1440 + sunAt c.f D - c.z.b - c.w.mi, b * 1440 + sunAt c.f b - c.z.b + c.w.l, ?_, fun W ht => ?_⟩, ?_, ?_⟩
   ·intro s e; cases e; rw [hw]; exact ⟨rfl, rfl⟩
   ·intro s e; cases e; rw [hw]; exact ⟨rfl, rfl⟩
   ·exact wrest_yes c vs vw c.w D b W ht h.z h.f h1 h2 b1 (by omega) hin' r0 hb (by rw [hw]; exact m1) (by rw [hw]; exact m2) (by rw [hw]; exact l1) (by rw [hw]; exact l2)
   ·exact ⟨b, r1, r0, b1, by omega, hin', hb, rfl, rfl⟩
   ·intro s e; cases e; rfl
 ·refine ⟨none, ⟨(fun s e => nomatch e), 0, 0, (fun s e => nomatch e), fun W _ => wrest_no c vs vw c.w D W h1 h2 r1⟩, ?_, (fun s e => nomatch e)⟩
  rintro ⟨s, b, r, _⟩
  exact r1 r
theorem sat_rest {n : Int} {ab : Bool} (h1 : 400 ≤ n) (h2 : n ≤ 900000) (h : n % 7 = 6) : RestP n ab := by
 obtain ⟨k, hk, _⟩ := kindN_ex n ab
 have a : ny 3762 ≤ 400 := of_decide_eq_true (by kernel_rfl)
 have b : 900000 < ny 9999 + ylen 9999 := of_decide_eq_true (by kernel_rfl)
 exact (rest_kind hk).2 ⟨⟨by omega, by omega⟩, .inl h⟩
theorem yOf_mid {n : Int} (h1 : 693600 ≤ n) (h2 : n ≤ 876200) : 1900 ≤ yOf n ∧ yOf n ≤ 2399 := by
 obtain ⟨a, b, c, d, e⟩ := yr_of (n := n) (by omega) (by omega)
 have hl := (by unfold lp; split <;> omega : lp (yOf n) ≤ 1)
 unfold bef at c
 omega
theorem shift_in (z : Zn) (u : Int) (hz : zErr z = 0) : 0 ≤ shiftV z u ∧ shiftV z u ≤ 120 := by
 have := zErr_sb hz
 unfold shiftV
 split
 ·omega
 ·split <;> omega
theorem mode_rest (c : Cfg) (vs vw : Value) (mi l n : Int) (h : CfgOk c) (hw : c.w = ⟨4, 1, 0, 0, 0, mi, l⟩) (n1 : 693600 ≤ n) (n2 : n ≤ 876200) (W0 : World) (ht0 : Tab W0) :
  ∃ r : Bool, (r = true ↔ RestP n c.ab) ∧ ModeC c vs vw (n * 1440 + 719 - c.z.b) (if r = true then 1 else 0) := by
 have hb : 0 ≤ mi ∧ mi ≤ 180 ∧ 0 ≤ l ∧ l ≤ 180 := by
  have hww := h.w
  rw [hw] at hww
  obtain ⟨_, _, _, _, _, (⟨e, _⟩ | ⟨_, _, a, b, c', d⟩)⟩ := hww
  ·exact absurd (show (4 : Int) = 1 from e) (by decide)
  ·exact ⟨a, b, c', d⟩
 obtain ⟨m1, m2, l1, l2⟩ := hb
 obtain ⟨sp, hsp⟩ := Classical.axiomOfChoice (fun D : Int => (by
  by_cases hD : 402 ≤ D ∧ D ≤ 3651990
  ·obtain ⟨o, ho⟩ := rest_ex c vs vw mi l D h hw m1 m2 l1 l2 hD.1 hD.2 W0 ht0
   exact ⟨o, fun _ => ho⟩
  ·exact ⟨none, fun c => absurd c hD⟩ : ∃ o, (402 ≤ D ∧ D ≤ 3651990) → OpenR c vs vw D o ∧ RestOpt c.z.b mi l c.f c.ab D o ∧ ∀ s, o = some s → s.m = 1))
 have hb := zErr_b h.z
 have hi := (sun_i64 h.f).1
 have hy := yOf_mid n1 n2
 have hsh := shift_in c.z (n * 1440 + 719 - c.z.b) h.z
 have hro : ∀ D, n - 9 ≤ D → D ≤ n + 1 → RestOpt c.z.b mi l c.f c.ab D (sp D) := fun D d1 d2 => (hsp D ⟨by omega, by omega⟩).2.1
 refine ⟨cov (spK sp (n - 9) 11) (n * 1440 + 719 - c.z.b), noon_cov hro hi (by omega) (by omega) m1 m2 l1 l2,
  tMode_ok c vs vw sp (n * 1440 + 719 - c.z.b) n 1 h (by omega) (by omega) (by omega) (by omega) hy.1 hy.2 (by omega) (by omega) ?_ ?_ ?_ ?_ ?_ _ rfl⟩
 ·unfold tErr; rw [if_neg (fun e => e h.z), if_neg (by omega)]
 ·intro D d1 d2 W ht hm
  exact wspan_rest c vs vw D (sp D) W ht h hm (by rw [hw]) (by omega) (by omega) (hsp D ⟨by omega, by omega⟩).1
 ·obtain ⟨n', n'1, n'2, n'3⟩ : ∃ n', n - 6 ≤ n' ∧ n' ≤ n ∧ n' % 7 = 6 := ⟨n - (n + 1) % 7, by omega, by omega, by omega⟩
  obtain ⟨D, s, d1, d2, hs, _⟩ := noon_restSpan (base := c.z.b) (sat_rest (ab := c.ab) (by omega) (by omega) n'3) hi (by omega) (by omega) m1 m2 l1 l2
  have ho := hro D (by omega) (by omega)
  cases hq : sp D with
  | none => rw [hq] at ho; exact (ho ⟨s, hs⟩).elim
  | some s2 => exact List.length_pos_of_mem ((spK_mem 11).2 ⟨(D - (n - 9)).toNat, by omega, by rw [show n - 9 + ((D - (n - 9)).toNat : Int) = D by omega]; exact hq⟩)
 ·intro s hs
  obtain ⟨j, hj, e⟩ := (spK_mem 11).1 hs
  have ho := hro (n - 9 + j) (by omega) (by omega)
  rw [e] at ho
  exact restSpan_lt ho hi (by omega) (by omega) m1 m2 l1 l2
 ·intro s hs
  obtain ⟨j, hj, e⟩ := (spK_mem 11).1 hs
  exact (hsp (n - 9 + j) ⟨by omega, by omega⟩).2.2 s e
def plainSp (D : Int) : Option Sp := if D % 7 = 0 ∨ D % 7 = 6 then some ⟨D * 1440 + 1200, D * 1440 + 1800, 2, 0⟩ else none
theorem plainSp_some {D : Int} {s : Sp} (h : plainSp D = some s) : s = ⟨D * 1440 + 1200, D * 1440 + 1800, 2, 0⟩ := by
 unfold plainSp at h
 split at h
 ·cases h; rfl
 ·cases h
theorem plainSp_is (D : Int) : (plainSp D).isSome = (decide (D % 7 = 0) || decide (D % 7 = 6)) := by
 unfold plainSp
 split
 ·rename_i c; rcases c with c | c <;> simp [c]
 ·rename_i c; simp; omega
theorem mode_plain (v w : Value) : ModeC plainC v w (738779 * 1440 + 1300) 2 := by
 have hy := yOf_mid (n := 738779) (by omega) (by omega)
 have hs9 : plainSp 738779 = some ⟨738779 * 1440 + 1200, 738779 * 1440 + 1800, 2, 0⟩ := rfl
 have hm9 : (⟨738779 * 1440 + 1200, 738779 * 1440 + 1800, 2, 0⟩ : Sp) ∈ spK plainSp (738779 - 9) 11 := (spK_mem 11).2 ⟨9, by omega, hs9⟩
 refine tMode_ok plainC v w plainSp (738779 * 1440 + 1300) 738779 2 plain_ok (by omega) (by omega) (by omega) (by omega) hy.1 hy.2 (by decide) ?_ ?_ ?_ (List.length_pos_of_mem hm9) ?_ ?_ 2 ?_
 ·rw [show shiftV plainC.z (738779 * 1440 + 1300) = 0 from by unfold shiftV; exact if_pos rfl]
  decide
 ·unfold tErr; rw [if_neg (fun e => e plain_ok.z), if_neg (by omega)]
 ·intro D d1 d2 W ht hm
  refine wspan_week plainC v w D (plainSp D) W ht plain_ok hm rfl (by omega) (by omega) ⟨?_, D * 1440 + plainC.w.mi - plainC.z.b, D * 1440 + plainC.w.mi - plainC.z.b + plainC.w.l, ?_, fun W ht => ?_⟩
  ·intro s e; rw [plainSp_some e]; exact ⟨rfl, rfl⟩
  ·intro s e; rw [plainSp_some e]; exact ⟨by show D * 1440 + 1200 = D * 1440 + (1200 : Int) - 0; omega, by show D * 1440 + 1800 = D * 1440 + (1200 : Int) - 0 + 600; omega⟩
  ·exact wweek_ok plainC v w plainC.w D _ W ht plain_ok.z rfl (by omega) (by omega) (by decide) (by decide) (by decide) (by decide) rfl (plainSp_is D)
 ·intro s hs
  obtain ⟨j, hj, e⟩ := (spK_mem 11).1 hs
  rw [plainSp_some e]
  dsimp only
  omega
 ·intro s hs
  obtain ⟨j, hj, e⟩ := (spK_mem 11).1 hs
  rw [plainSp_some e]
 ·rw [if_pos]
  exact cov_iff.2 ⟨_, hm9, by decide, by decide⟩
set_option maxRecDepth 100000 in
theorem town_ok (c : Cfg) (vs vw : Value) (w : World) (ht : Tab w) (h : CfgOk c) (hm : CfgM w c vs vw) :
  Calls Tryz.prog 8 #[.agg (cfgA c vs vw)] w fun e w' => ∃ b lb n cap y v1 w1, e = .returned (.pointer (some ⟨b, 0, none⟩)) ∧ y.c0 = c ∧ TwC w' b lb n cap (twS y true 1 v1 w1) ∧ TwV w' b lb (twS y true 1 v1 w1) ∧ TwF w' b lb (twS y true 1 v1 w1) 1 0 0 (cfgB c) ∧ Below w.heap.size w w' ∧ w.heap.size ≤ b ∧ w.heap.size ≤ lb := by
 have hl := stops_len h.st h.fl2
 have hcb := cfgB_len h
 have hrl : (recB 1 0 0 (cfgB c)).length < 1000000 := (rec_len 1 0 0 (cfgB c) (by have := hcb.2; omega)).2
 have hcby := cfgB_byte h
 have hB := BlockIs.new w (cfgA c vs vw) 33
 have HB := (Below.refl w.heap.size w).alloc (Nat.le_refl _) (.cells (cfgA c vs vw) 33)
 have hm1 := hm.below HB
 have ht1 := ht.below HB
 obtain ⟨W, hW⟩ : ∃ W, w.alloc (.cells (cfgA c vs vw) 33) = W := ⟨_, rfl⟩
 rw [hW] at hB HB hm1 ht1
 have hd := (Below.refl W.heap.size W).drew
 have HSS := Lib.hid (show ∀ W', Below W.heap.size W W' → W'.rangeAt w.heap.size 0 (cfgA c vs vw).toList from fun W' h => cfg_range (hB.kept h))
 have HM := Lib.hid (show ∀ W', Below W.heap.size W W' → CfgM W' c vs vw from fun W' h => hm1.below h)
 have HTT := Lib.hid (show ∀ W', Below W.heap.size W W' → Tab W' from fun W' h => ht1.below h)
 have HB := Lib.hid HB
 have HW := Lib.hid hW
 have HCB := Lib.hid hcb
 have HCY := Lib.hid hcby
 have HRL := Lib.hid hrl
 have HL := Lib.hid hl
 have H := Lib.hid h
 clear hB hm hm1 ht ht1 hW hcb hcby hrl hl h
 go_enter Tryz.func8, Tryz.ntmps8
 go_wp2_with fail
 rw [HW.out]
 refine wp_region_held_drew (S := fun w' => w'.rangeAt w.heap.size 0 (cfgA c vs vw).toList) (by kernel_rfl) (HSS.out _ hd) (fun hHeld => ?_)
 refine tkH 0 ?_ (hy := by (intro w hSw; refine load_x 33 (.tmp 1) (cfgA c vs vw).toList _ 0 _ Tryz.underlying33 rfl cfg_info ?_ ?_ w (hSw) <;> rfl))
 try simp only [pt]
 refine tkH 2 ?_ (hy := by (intro w hSw; refine load_x 33 (.tmp 1) (cfgA c vs vw).toList _ 0 _ Tryz.underlying33 rfl cfg_info ?_ ?_ w (hSw) <;> rfl))
 try simp only [pt]
 refine rdy [1] ?_
 refine' arC rfl (fun KK hKK => ?a1) AllReadyH.nil
 go_simp
 refine (lown_ok c vs vw 1 (wnA c.w).toList _ (HM.out _ hd).s (HM.out _ hd).w rfl (wn_one _) (by have := HL.out; omega) (by omega)).mono ?_; rintro e w1 ⟨v1, u1, rfl, ho1, ho2, hb1⟩; have hB1 := hd.trans (hb1.mono hd.size); have HO1 := Lib.hid ho1; have HO2 := Lib.hid ho2; clear ho1 ho2 hb1
 refine hKK.out _ _ (HSS.out _ hB1) (fun _ => ?_)
 clear hKK KK
 try simp only [pt]
 refine rdy [3] ?_
 refine' arC rfl (fun KK hKK => ?a3) AllReadyH.nil
 go_simp
 refine (rencode_ok c vs vw _ H.out (HM.out _ hB1)).mono ?_; rintro e w2 ⟨v2, rfl, ho3, hb2⟩; obtain ⟨p2, q2, rfl⟩ := (own_rd ho3).form; have hB2 := hB1.trans (hb2.mono hB1.size); have HO3 := Lib.hid ho3; have HO1 := Lib.hid (own_below HO1.out hb2); have HO2 := Lib.hid (own_below HO2.out hb2); clear ho3 hb2
 refine hKK.out _ _ (HSS.out _ hB2) (fun _ => ?_)
 clear hKK KK
 try simp only [pt]
 refine tkH 4 ?_
 try simp only [pt]
 refine rdy [5] ?_
 refine' arC rfl (fun KK hKK => ?a5) AllReadyH.nil
 go_simp
 refine (rcode12_ok 1 0 0 (.slice p2 (cfgB c).length q2) (cfgB c) _ (own_rd HO3.out) HCY.out (by have := HCB.out; omega) (by have := HCB.out; omega) (by omega) (by omega) ⟨by omega, by omega⟩ (by omega) (by omega)).mono ?_; rintro e w3 ⟨v3, rfl, ho4, hb3⟩; obtain ⟨p3, q3, rfl⟩ := (own_rd ho4).form; have hB3 := hB2.trans (hb3.mono hB2.size); have HO4 := Lib.hid ho4; have HO1 := Lib.hid (own_below HO1.out hb3); have HO2 := Lib.hid (own_below HO2.out hb3); clear ho4 hb3
 refine hKK.out _ _ (HSS.out _ hB3) (fun _ => ?_)
 clear hKK KK
 try simp only [pt]
 refine tkH 6 ?_
 try simp only [pt]
 refine rdy [7] ?_
 refine' arC rfl (fun KK hKK => ?a7) AllReadyH.nil
 go_simp
 refine (tnew_one c v1 u1 p3 _ q3 none 0 _ (HTT.out _ hB3) H.out ⟨own_rd HO1.out, own_rd HO2.out⟩ 1 0 0 rfl HRL.out (own_rd HO4.out) (by omega) (by omega) ⟨by omega, by omega⟩ (by omega) (by omega)).mono ?_; rintro e w4 ⟨b, lb, n, cap, y, t1, t2, rfl, hy, hT, hV, hF, hb4, hl1, hl2⟩; have HL1 := Lib.hid hl1; have HL2 := Lib.hid hl2; have hB4 := hB3.trans (hb4.mono hB3.size); have HT := Lib.hid hT; have HV := Lib.hid hV; have HF := Lib.hid hF; have HY := Lib.hid hy; clear hT hV hF hb4 hy hl1 hl2
 refine hKK.out _ _ (HSS.out _ hB4) (fun _ => ?_)
 clear hKK KK
 try simp only [pt]
 refine tkH 8 ?_
 try simp only [pt]
 refine tkH 9 ?_
 try simp only [pt]
 refine tkH 10 ?_
 try simp only [pt]
 refine tkH 11 ?_
 try simp only [pt]
 refine tkH 12 ?_
 try simp only [pt]
 refine wpAnyH_done (by kernel_rfl) ?_ _
 go_wp2_with fail
 go_ret
 exact ⟨b, lb, n, cap, y, t1, t2, rfl, HY.out, HT.out, HV.out, HF.out, HB.out.trans (hB4.mono HB.out.size), Nat.le_trans HB.out.size (Nat.le_trans hB3.size HL1.out), Nat.le_trans HB.out.size (Nat.le_trans hB3.size HL2.out)⟩
theorem mode_plain2 (v w : Value) : ModeC plainC v w 1063843060 2 := by
 have := mode_plain v w
 rwa [show (738779 * 1440 + 1300 : Int) = 1063843060 from by decide] at this
set_option maxRecDepth 100000 in
theorem alive_ok (w : World) (ht : Tab w) : Calls Tryz.prog 7 #[] w fun e w' => e = .returned (.bool true) ∧ Below w.heap.size w w' := by
 have HT := Lib.hid ht
 clear ht
 go_enter Tryz.func7, Tryz.ntmps7
 go_wp2_with fail
 refine (lplain_ok w).mono ?_; rintro e w1 ⟨vs, vw, rfl, hm1, hb1⟩
 obtain ⟨pv, qv, rfl⟩ := hm1.s.form
 obtain ⟨pw, qw, rfl⟩ := hm1.w.form
 have hC0 := BlockIs.new w1 cfgZ 33
 have hA := (Below.refl w1.heap.size w1).alloc (Nat.le_refl _) (.cells cfgZ 33)
 have hC1 := hC0.row (cfgA plainC (.slice pv plainC.st.length qv) (.slice pw 1 qw))
 have hT1 : Turn (fun k => k = w1.heap.size) (w1.alloc (.cells cfgZ 33)) ((w1.alloc (.cells cfgZ 33)).setRow w1.heap.size (cfgA plainC (.slice pv plainC.st.length qv) (.slice pw 1 qw))) := (Turn.refl (fun k => k = w1.heap.size) (w1.alloc (.cells cfgZ 33))).setRow rfl _
 have hB12 := ((Turn.of hA).trans hT1).below (Nat.le_refl _) (fun k hk hh => by omega)
 obtain ⟨W2, hW2⟩ : ∃ W2, (w1.alloc (.cells cfgZ 33)).setRow w1.heap.size (cfgA plainC (.slice pv plainC.st.length qv) (.slice pw 1 qw)) = W2 := ⟨_, rfl⟩
 rw [hW2] at hC1 hT1 hB12
 have HC0 := Lib.hid hC0
 have HC1 := Lib.hid hC1
 have HM2 := Lib.hid (hm1.below hB12)
 have HT2 := Lib.hid ((HT.out.below hb1).below hB12)
 have HB2 := Lib.hid (hb1.trans (hB12.mono hb1.size))
 have HW2 := Lib.hid hW2
 clear hC0 hA hC1 hT1 hB12 hm1 hb1 HT hW2
 go_upto_region 2 with ((with_reducible show wpList _ _ _ _ _ _); refine ws_box (.tmp 1) (.tmp 7) plainC (.slice pv plainC.st.length qv) (.slice pw 1 qw) w1.heap.size cfgZ 33 rfl rfl rfl rfl HC0.out rfl rfl rfl ?_)
 change Code.wp _ _ _ _ ((w1.alloc (.cells cfgZ 33)).setRow w1.heap.size (cfgA plainC (.slice pv plainC.st.length qv) (.slice pw 1 qw)))
 rw [HW2.out]
 clear HC0 HW2
 go_wp2_with ((with_reducible show wpList _ _ _ _ _ _); refine wl_box (.tmp 1) plainC (.slice pv plainC.st.length qv) (.slice pw 1 qw) w1.heap.size 33 rfl rfl rfl HC1.out ?_)
 refine (tnew_none plainC (.slice pv plainC.st.length qv) (.slice pw 1 qw) W2 HT2.out plain_ok HM2.out).mono ?_
 rintro e w3 ⟨b, lb, n, cap, y, p4, q4, p5, q5, rfl, hy, hTw, hV, hfa, hfb, hb3, hl1, hl2⟩
 obtain rfl : n = 1 := by have := hTw.ca; rw [show (twS y false 0 y.v0 y.w0).c = y.c0 from rfl, hy] at this; have h1 : plainC.ca = 1 := rfl; omega
 have HTW := Lib.hid hTw
 have HV := Lib.hid hV
 have HY := Lib.hid hy
 have HFA := Lib.hid (And.intro hfa hfb)
 have HL := Lib.hid (And.intro hl1 hl2)
 have HC3 := Lib.hid (HC1.out.kept hb3)
 have HM3 := Lib.hid (HM2.out.below hb3)
 have HT3 := Lib.hid (HT2.out.below hb3)
 have HB3 := Lib.hid hb3
 clear hTw hV hy hfa hfb hl1 hl2 hb3 HC1 HM2 HT2
 go_wp2_with ((with_reducible show wpList _ _ _ _ _ _); refine wl_box (.tmp 1) plainC (.slice pv plainC.st.length qv) (.slice pw 1 qw) w1.heap.size 33 rfl rfl rfl HC3.out ?_)
 refine (cencode_ok plainC _ _ w3 HT3.out plain_ok HM3.out).mono ?_; rintro e w4 ⟨v4, rfl, ho4, hb4⟩
 obtain ⟨p6, q6, rfl⟩ := (own_rd ho4).form
 have HO4 := Lib.hid ho4
 have HB4 := Lib.hid hb4
 clear ho4 hb4
 go_wp2_with fail
 have hne : b < w3.heap.size := HTW.out.blk.lt
 refine (tstep_up b lb 1 cap (twS y false 0 y.v0 y.w0) true rfl 1063843060 (.slice p6 (cfgB plainC).length q6) p4 p5 q4 q5 2 w4 (HTW.out.below HB4.out) (show CfgOk y.c0 by rw [HY.out]; exact plain_ok) rfl ((show CfgM w3 y.c0 y.v0 y.w0 from HV.out.m).below HB4.out) (fun k hk => (HV.out.v k hk).1) (fun k hk => (HV.out.w k hk).1) rfl rfl rfl rfl rfl rfl HFA.out.1 HFA.out.2
  (show Rd w4 _ (cfgB y.c0).length (bts (cfgB y.c0)) by rw [HY.out]; exact own_rd HO4.out) (fun k hk => by have := (HO4.out.lt k hk).1; omega) (by omega) (by omega) (by omega) (by omega) (fun v w' => show ModeC y.c0 v w' _ _ by rw [HY.out]; exact mode_plain2 v w')).mono ?_
 rintro e w5 ⟨po, oc, p2, c2, q2, d2, rfl, hX5⟩
 have hsh := BlockIs.new w5 #[.int .i64 2, .int .i64 0, .int .i64 0, .bool false, .slice po 1 oc, .slice p2 0 c2, .slice q2 0 d2] 49
 have s0 := hsh.cell (i := 0) (v := .int .i64 2) rfl
 have s2 := hsh.cell (i := 2) (v := .int .i64 0) rfl
 have s4 := hsh.cell (i := 4) (v := .slice po 1 oc) rfl
 have hB3 := HB2.out.trans (HB3.out.mono HB2.out.size)
 have hl := HL.out
 have hsz2 := HB2.out.size
 have hsz4 := HB4.out.size
 have HB5 := Lib.hid ((hB3.trans (HB4.out.mono hB3.size)).trans (hX5.below (by omega) (fun k hk hh => by omega)))
 clear HTW HV HY HFA HL HC3 HM3 HT3 HB3 HO4 HB4 hX5 hB3 hl hsz2 hsz4 hsh hne
 go_wp2_with fail
 go_ret
 exact ⟨rfl, HB5.out.alloc HB5.out.size _⟩
def HolI (w0 : World) (b : Nat) (c : Cfg) (vs vw : Value) (w : World) : Prop := BlockIs w b (cfgA c vs vw) 33 ∧ CfgM w c vs vw ∧ Tab w ∧ Below w0.heap.size w0 w
theorem HolI.next {w0 : World} {b : Nat} {c : Cfg} {vs vw : Value} {w w' : World} (h : HolI w0 b c vs vw w) (hb : Below w.heap.size w w') : HolI w0 b c vs vw w' :=
 ⟨BlockIs.kept h.1 hb, h.2.1.below hb, h.2.2.1.below hb, h.2.2.2.trans (hb.mono h.2.2.2.size)⟩
set_option maxRecDepth 100000 in
theorem walk_TopHoly (c : Cfg) (vs vw : Value) (m : Nat) (csw : List Value) (x0 x1 x2 x3 x4 x5 x6 n : Int) (w : World) (ht : Tab w) (hcw : c.w = ⟨4, 1, 0, 0, 0, x5, x6⟩) (hrs : Rd w vs c.st.length (c.st.map (.int .i64))) (hrw : Rd w vw m csw) (hlw : csw.length = m * 7) (h1w : ∀ u ∈ csw, u.oneCell' = true)
  (hb1 : c.st.length * 8 ≤ 140737488355328) (hb2 : m * 56 ≤ 140737488355328) (i1 : I64 c.z.m) (i2 : I64 c.z.m') (i3 : ∀ i, i < 12 → I64 (c.f i)) :
  Calls Tryz.prog 3 #[.agg (cfgA c vs vw), .agg #[.int .i64 x0, .int .i64 x1, .int .i64 x2, .int .i64 x3, .int .i64 x4, .int .i64 x5, .int .i64 x6], .int .i64 n] w fun e w' => e = .returned (.bool true) ∧ Below w.heap.size w w' := by
 have hC := (BlockIs.new w (cfgA c vs vw) 33).alloc (.cells #[.int .i64 x0, .int .i64 x1, .int .i64 x2, .int .i64 x3, .int .i64 x4, .int .i64 x5, .int .i64 x6] 35)
 have hX := BlockIs.new (w.alloc (.cells (cfgA c vs vw) 33)) #[.int .i64 x0, .int .i64 x1, .int .i64 x2, .int .i64 x3, .int .i64 x4, .int .i64 x5, .int .i64 x6] 35
 simp only [World.size_alloc] at hX
 have HB := (((Below.refl w.heap.size w).alloc (by exact Nat.le_refl _) (.cells (cfgA c vs vw) 33)).alloc (by simp only [World.size_alloc]; omega) (.cells #[.int .i64 x0, .int .i64 x1, .int .i64 x2, .int .i64 x3, .int .i64 x4, .int .i64 x5, .int .i64 x6] 35))
 obtain ⟨W, hW⟩ : ∃ W, (w.alloc (.cells (cfgA c vs vw) 33)).alloc (.cells #[.int .i64 x0, .int .i64 x1, .int .i64 x2, .int .i64 x3, .int .i64 x4, .int .i64 x5, .int .i64 x6] 35) = W := ⟨_, rfl⟩
 rw [hW] at hC hX HB
 have hsW : W.heap.size = w.heap.size + 1 + 1 := by rw [← hW]; simp
 have HO := Lib.hid (lown_ok c vs vw m csw W (hrs.below HB) (hrw.below HB) hlw h1w hb1 hb2)
 have HC := Lib.hid hC
 have HX := Lib.hid hX
 have HBB := Lib.hid HB
 have HT := Lib.hid (ht.below HB)
 have HW := Lib.hid hW
 have HSW := Lib.hid hsW
 have HG := Lib.hid (And.intro ht.size ht.size2)
 have HCW := Lib.hid hcw
 have HN := Lib.hid (show c.st.length ≤ 140737488355328 by omega)
 have HI := Lib.hid (show I64 c.z.m ∧ I64 c.z.m' ∧ ∀ i, i < 12 → I64 (c.f i) from ⟨i1, i2, i3⟩)
 clear hC hX HB ht hcw hrs hrw hlw h1w hb1 hb2 i1 i2 i3 hW hsW
 go_enter Tryz.func3, Tryz.ntmps3
 go_upto_region 1 with fail
 rw [HW.out]
 go_wp2_with ((with_reducible show wpList _ _ _ _ _ _); refine wl_box (.tmp 3) c vs vw w.heap.size 33 rfl rfl rfl HC.out ?_)
 refine HO.out.mono ?_; rintro e w1 ⟨v1, u1, rfl, ho1, ho2, hb1⟩
 obtain ⟨p1, q1, rfl⟩ := (own_rd ho1).form
 obtain ⟨p2, q2, rfl⟩ := (own_rd ho2).form
 have hsW := HSW.out
 have hB1 := HBB.out.trans (hb1.mono HBB.out.size)
 have hC1 := HC.out.kept hb1
 have hX1 := HX.out.kept hb1
 have hC1' := Lib.hid hC1
 have hT2 : Turn (fun k => k = w.heap.size) w1 (w1.setRow w.heap.size (cfgA c (.slice p1 c.st.length q1) (.slice p2 m q2))) := (Turn.refl (fun k => k = w.heap.size) w1).setRow rfl _
 have hs2 := hT2.rd (own_rd ho1) (fun k hk => by have := ho1.lt k hk; omega)
 have hC2 := hC1.row (cfgA c (.slice p1 c.st.length q1) (.slice p2 m q2))
 have hX2 := hT2.at hX1 (by omega)
 have ht2 := (HT.out.below hb1).turn hT2 (show ¬ (2 = w.heap.size) by have := HG.out; omega) (show ¬ (1 = w.heap.size) by have := HG.out; omega)
 have hB2 := below_setRow hB1 (Nat.le_refl _) (cfgA c (.slice p1 c.st.length q1) (.slice p2 m q2))
 obtain ⟨w2, hw2⟩ : ∃ w2, w1.setRow w.heap.size (cfgA c (.slice p1 c.st.length q1) (.slice p2 m q2)) = w2 := ⟨_, rfl⟩
 rw [hw2] at hT2 hs2 hC2 hX2 ht2 hB2
 have hz2 : w1.heap.size ≤ w2.heap.size := hT2.size
 have hz1 : W.heap.size ≤ w1.heap.size := hb1.size
 have hA := (Below.refl w2.heap.size w2).alloc (Nat.le_refl _) (.cells (wnA ⟨4, 1, 0, 0, 0, x5, x6⟩) 35)
 have l3 := BlockIs.new w2 (wnA ⟨4, 1, 0, 0, 0, x5, x6⟩) 35
 have hT4 : Turn (fun k => k = w.heap.size) (w2.alloc (.cells (wnA ⟨4, 1, 0, 0, 0, x5, x6⟩) 35)) ((w2.alloc (.cells (wnA ⟨4, 1, 0, 0, 0, x5, x6⟩) 35)).setCell ⟨w.heap.size, 36, none⟩ (.slice (some ⟨w2.heap.size, 0, none⟩) 1 1)) := (Turn.refl (fun k => k = w.heap.size) (w2.alloc (.cells (wnA ⟨4, 1, 0, 0, 0, x5, x6⟩) 35))).setCell rfl 36 _
 have hs4 := hT4.rd (hs2.below hA) (fun k hk => by have := ho1.lt k hk; omega)
 have l4 := hT4.at l3 (by omega)
 have hC4 := (hC2.kept hA).set 36 (.slice (some ⟨w2.heap.size, 0, none⟩) 1 1)
 rw [cfg_set36] at hC4
 have hX4 := hT4.at (hX2.kept hA) (by omega)
 have ht4 := (ht2.below hA).turn hT4 (show ¬ (2 = w.heap.size) by have := HG.out; omega) (show ¬ (1 = w.heap.size) by have := HG.out; omega)
 have hB4 := hB2.trans (((Turn.of hA).trans hT4).below hB2.size (fun k hk hh => by omega))
 obtain ⟨w4, hw4⟩ : ∃ w4, (w2.alloc (.cells (wnA ⟨4, 1, 0, 0, 0, x5, x6⟩) 35)).setCell ⟨w.heap.size, 36, none⟩ (.slice (some ⟨w2.heap.size, 0, none⟩) 1 1) = w4 := ⟨_, rfl⟩
 rw [hw4] at hs4 l4 hC4 ht4 hB4
 have k36 : (w2.alloc (.cells #[.int .i64 4, .int .i64 1, .int .i64 0, .int .i64 0, .int .i64 0, .int .i64 x5, .int .i64 x6] 35)).cell? ⟨w.heap.size, 36, none⟩ = some (.slice p2 m q2) := (hC2.kept hA).cell (i := 36) (v := .slice p2 m q2) rfl
 have z36 : (w2.alloc (.cells #[.int .i64 4, .int .i64 1, .int .i64 0, .int .i64 0, .int .i64 0, .int .i64 x5, .int .i64 x6] 35)).frozen? ⟨w.heap.size, 36, none⟩ = false := (hC2.kept hA).free 36
 have y5 := hX2.cell (i := 5) (v := .int .i64 x5) rfl
 have y6 := hX2.cell (i := 6) (v := .int .i64 x6) rfl
 have HH : Hid (HolI w w.heap.size c (.slice p1 c.st.length q1) (.slice (some ⟨w2.heap.size, 0, none⟩) 1 1) w4) := Lib.hid ⟨hC4, ⟨hs4, by rw [HCW.out]; exact .inr ⟨by decide, _, _, _, rfl, by decide, cfg_rng l4⟩⟩, ht4, hB4⟩
 have HW2 := Lib.hid hw2
 have HW4 := Lib.hid hw4
 have HC2 := Lib.hid hC2
 clear ho1 ho2 hb1 hB1 hC1 hX1 hT2 hs2 hC2 hX2 ht2 hB2 hw2 hA l3 hT4 hs4 l4 hC4 ht4 hB4 hw4 HO HC HX HBB HT HW HSW HG hX4
 go_upto_region 2 with ((with_reducible show wpList _ _ _ _ _ _); refine ws_box (.tmp 3) (.tmp 11) c (.slice p1 c.st.length q1) (.slice p2 m q2) w.heap.size _ 33 rfl rfl rfl rfl hC1'.out rfl rfl rfl ?_)
 rw [HW2.out]
 go_upto_region 3 with fail
 change Code.wp _ _ _ _ ((w2.alloc (.cells (wnA ⟨4, 1, 0, 0, 0, x5, x6⟩) 35)).setCell ⟨w.heap.size, 36, none⟩ (.slice (some ⟨w2.heap.size, 0, none⟩) 1 1))
 rw [HW4.out]
 obtain ⟨sw, hsw⟩ : ∃ sw, Value.slice (some ⟨w2.heap.size, 0, none⟩) 1 1 = sw := ⟨_, rfl⟩
 obtain ⟨pw, hpw⟩ : ∃ pw : Option Addr, some (⟨w2.heap.size, 0, none⟩ : Addr) = pw := ⟨_, rfl⟩
 rw [hpw] at HH ⊢
 clear hsw sw hpw k36 z36 y5 y6 HW2 HW4 HC2 hC1' hz1 hz2 hsW
 go_wp2_with ((with_reducible show wpList _ _ _ _ _ _); refine wl_box (.tmp 3) c (.slice p1 c.st.length q1) (.slice pw 1 1) w.heap.size 33 rfl rfl rfl HH.out.1 ?_)
 refine (rfew_any c p1 _ q1 pw 1 1 w4).mono ?_; rintro e w5 ⟨⟨b1, rfl, _⟩, hb5⟩
 have HH5 := Lib.hid (HH.out.next hb5)
 clear hb5 HH
 cases b1
 ·go_wp2_with fail
  refine (alive_ok _ HH5.out.2.2.1).mono ?_; rintro e w9 ⟨rfl, hb9⟩
  have HB9 := Lib.hid (HH5.out.2.2.2.trans (hb9.mono HH5.out.2.2.2.size))
  clear hb9 HH5
  go_wp2_with fail
  go_ret
  exact ⟨rfl, HB9.out⟩
 go_wp2_with ((with_reducible show wpList _ _ _ _ _ _); refine wl_box (.tmp 3) c (.slice p1 c.st.length q1) (.slice pw 1 1) w.heap.size 33 rfl rfl rfl HH5.out.1 ?_)
 refine (rCheck_any c _ _ x5 x6 w5 HH5.out.2.1 HCW.out HN.out HI.out.1 HI.out.2.1 HI.out.2.2).mono ?_; rintro e w6 ⟨⟨r, rfl, gr⟩, hb6⟩
 have HGR := Lib.hid gr
 have HH6 := Lib.hid (HH5.out.next hb6)
 clear gr hb6 HH5 HN HI
 go_wp2_with ((with_reducible show wpList _ _ _ _ _ _); refine wl_box (.tmp 3) c (.slice p1 c.st.length q1) (.slice pw 1 1) w.heap.size 33 rfl rfl rfl HH6.out.1 ?_)
 all_goals first
  | (refine (alive_ok _ HH6.out.2.2.1).mono ?_; rintro e w9 ⟨rfl, hb9⟩; have HB9 := Lib.hid (HH6.out.2.2.2.trans (hb9.mono HH6.out.2.2.2.size)); clear hb9 HH6 HGR HCW; go_wp2_with fail; go_ret; exact ⟨rfl, HB9.out⟩)
  | skip
 have hr0 : r = 0 := by assumption
 have hn : 693600 ≤ n ∧ n ≤ 876200 := by assumption
 obtain ⟨n1, n2⟩ := hn
 have HOK := Lib.hid (HGR.out hr0)
 clear HGR
 refine (town_ok c _ _ w6 HH6.out.2.2.1 HOK.out HH6.out.2.1).mono ?_
 rintro e w7 ⟨b, lb, nn, cap, y, t1, t2, rfl, hy, hT, hV, hF, hb7, hl1, hl2⟩
 have HH7 := Lib.hid (HH6.out.next hb7)
 obtain ⟨rr, hrr, hmode⟩ := mode_rest c t1 t2 x5 x6 n HOK.out HCW.out n1 n2 w7 HH7.out.2.2.1
 obtain ⟨mI, hmI⟩ : ∃ mI : Int, (if rr = true then (1 : Int) else 0) = mI := ⟨_, rfl⟩
 rw [hmI] at hmode
 have hmI2 : (rr = true ∧ mI = 1) ∨ (rr = false ∧ mI = 0) := by cases rr <;> simp at hmI <;> simp [← hmI]
 have HMI := Lib.hid hmI2
 have HRR := Lib.hid hrr
 have HZ := Lib.hid (zErr_b HOK.out.z)
 have HSTEP := Lib.hid (tstep_no b lb nn cap (twS y true 1 t1 t2) false rfl (n * 1440 + 719 - c.z.b) (.slice none 0 0) 0 0 mI w7 hT hV (show TwF w7 b lb _ 1 0 0 (cfgB y.c0) by rw [hy]; exact hF) (show CfgOk y.c0 by rw [hy]; exact HOK.out) rfl rfl rfl rfl rfl rfl rfl (by unfold I64; omega) (by omega) (by omega) (by have := HZ.out; omega) (by have := HZ.out; omega) (by omega) (by omega) (show ModeC y.c0 t1 t2 _ _ by rw [hy]; exact hmode))
 have HB67 := Lib.hid hb7
 have HL := Lib.hid (And.intro hl1 hl2)
 have c13 := HH7.out.1.cell (i := 13) (v := .int .i64 c.z.b) rfl
 obtain ⟨z1, z2⟩ := HZ.out
 clear hy hT hV hF hb7 hl1 hl2 hrr hmode hmI hmI2 HCW HOK
 go_wp2_with fail
 refine HSTEP.out.mono ?_
 rintro e w8 ⟨po, oc, p2', c2, q2', d2, rfl, hX8⟩
 have hB68 := HB67.out.trans (hX8.below HB67.out.size (fun k hk hh => by have := HL.out; omega))
 have HH8 := HH6.out.next hB68
 have hA9 := (Below.refl w8.heap.size w8).alloc (Nat.le_refl _) (.cells #[.int .i64 mI, .int .i64 0, .int .i64 0, .bool false, .slice po nn oc, .slice p2' 0 c2, .slice q2' 0 d2] 49)
 have hS9 := BlockIs.new w8 #[.int .i64 mI, .int .i64 0, .int .i64 0, .bool false, .slice po nn oc, .slice p2' 0 c2, .slice q2' 0 d2] 49
 have HH9 := Lib.hid (HH8.next hA9)
 have c35 := HH9.out.1.cell (i := 35) (v := .bool c.ab) rfl
 have HS9 := Lib.hid hS9
 clear hX8 hB68 HH8 hA9 hS9 HSTEP HH6 HH7 HB67 HL HZ c13 z1 z2
 go_wp2_with fail
 refine (fRest_any n c.ab rr _ (by unfold I64; omega) HRR.out).mono ?_
 rintro e w10 ⟨rfl, hb10⟩
 have HH10 := Lib.hid (HH9.out.next hb10)
 have HS10 := Lib.hid (HS9.out.kept hb10)
 clear hb10 HH9 HS9 c35 HRR
 go_wp2_with fail
 refine (alive_ok _ HH10.out.2.2.1).mono ?_
 rintro e w11 ⟨rfl, hb11⟩
 have HH11 := Lib.hid (HH10.out.next hb11)
 have hS11 := HS10.out.kept hb11
 have s0 := hS11.cell (i := 0) (v := .int .i64 mI) rfl
 have s2 := hS11.cell (i := 2) (v := .int .i64 0) rfl
 clear hb11 HH10 HS10 hS11
 rcases HMI.out with ⟨rfl, rfl⟩ | ⟨rfl, rfl⟩
 ·clear HMI
  go_wp2_with fail
  go_ret
  exact ⟨rfl, HH11.out.2.2.2⟩
 ·clear HMI
  go_wp2_with fail
  go_ret
  exact ⟨rfl, HH11.out.2.2.2⟩
end Go.Proofs.YtfnifgppblbjhaaGreatDoor
