/- Part of the proof of TopHoly. -/
import Derived.Test.YtfnifgppblbjhaaGreatDoorY08
import Derived.Test.YtfnifgppblbjhaaGreatDoorY09
import Derived.Test.YtfnifgppblbjhaaGreatDoorY12
import Derived.Test.YtfnifgppblbjhaaGreatDoorY13
import Derived.Test.YtfnifgppblbjhaaGreatDoorY14
import Derived.Test.YtfnifgppblbjhaaGreatDoorY24
import Derived.BigQuiet
import Derived.OwnWalk
namespace Go.Proofs.YtfnifgppblbjhaaGreatDoor
set_option maxHeartbeats 8000000
open Go Go.RowKit
set_option linter.unusedVariables false
set_option linter.unusedSimpArgs false
def SaysB (e : Ending) (p : Prop) : Prop := ∃ b, e = .returned (.bool b) ∧ (b = true → p)
theorem SaysB.no {p : Prop} : SaysB (.returned (.bool false)) p := ⟨_, rfl, by simp⟩
theorem SaysB.val {p : Prop} {b : Bool} (h : b = true → p) : SaysB (.returned (.bool b)) p := ⟨_, rfl, h⟩
theorem rtick_any (n : Int) (w : World) : Calls Tryz.prog 31 #[.int .i64 n] w fun e w' => SaysB e (1 ≤ n ∧ n ≤ 60) ∧ w = w' := by
 go_enter Tryz.func31, Tryz.ntmps31
 go_wp2
 all_goals
  go_ret
  exact ⟨.val (by simp [*] <;> omega), rfl⟩
theorem rtimed_any (x : Wn) (w : World) : Calls Tryz.prog 33 #[.agg (wnA x)] w fun e w' => SaysB e True ∧ Below w.heap.size w w' := by
 have HB := Lib.hid ((Below.refl w.heap.size w).alloc (Nat.le_refl _) (.cells (wnA x) 35))
 have hB := BlockIs.new w (wnA x) 35
 have c5 := hB.cell (i := 5) (v := .int .i64 x.mi) rfl
 have c6 := hB.cell (i := 6) (v := .int .i64 x.l) rfl
 clear hB
 go_enter Tryz.func33, Tryz.ntmps33
 go_wp2
 all_goals
  go_ret
  exact ⟨.val (by simp), HB.out⟩
theorem rwindow_any (mi l : Int) (w : World) : Calls Tryz.prog 15 #[.agg (wnA ⟨4, 1, 0, 0, 0, mi, l⟩)] w fun e w' => SaysB e (0 ≤ mi ∧ mi ≤ 180 ∧ 0 ≤ l ∧ l ≤ 180) ∧ Below w.heap.size w w' := by
 have HB := (Below.refl w.heap.size w).alloc (Nat.le_refl _) (.cells (wnA ⟨4, 1, 0, 0, 0, mi, l⟩) 35)
 have hB := BlockIs.new w (wnA ⟨4, 1, 0, 0, 0, mi, l⟩) 35
 obtain ⟨W, hW⟩ : ∃ W, w.alloc (.cells (wnA ⟨4, 1, 0, 0, 0, mi, l⟩) 35) = W := ⟨_, rfl⟩
 rw [hW] at hB HB
 have BB := Lib.hid hB
 have HBB := Lib.hid HB
 have c0 := hB.cell (i := 0) (v := .int .i64 4) rfl
 have c1 := hB.cell (i := 1) (v := .int .i64 1) rfl
 have c2 := hB.cell (i := 2) (v := .int .i64 0) rfl
 have c3 := hB.cell (i := 3) (v := .int .i64 0) rfl
 have c4 := hB.cell (i := 4) (v := .int .i64 0) rfl
 have c5 := hB.cell (i := 5) (v := .int .i64 mi) rfl
 have c6 := hB.cell (i := 6) (v := .int .i64 l) rfl
 clear hB HB
 rw [← hW] at c0 c1 c2 c3 c4 c5 c6
 have HW := Lib.hid hW
 clear hW
 go_enter Tryz.func15, Tryz.ntmps15
 go_wp2_with fail
 rw [HW.out]
 have hcall := rtimed_any ⟨4, 1, 0, 0, 0, mi, l⟩ W
 unfold wnA at hcall
 refine hcall.mono ?_
 clear hcall
 rintro e w1 ⟨⟨b, rfl, _⟩, hB1⟩
 have hx := BlockIs.kept BB.out hB1
 have c0 := hx.cell (i := 0) (v := .int .i64 4) rfl
 have c3 := hx.cell (i := 3) (v := .int .i64 0) rfl
 have c4 := hx.cell (i := 4) (v := .int .i64 0) rfl
 have c5 := hx.cell (i := 5) (v := .int .i64 mi) rfl
 have c6 := hx.cell (i := 6) (v := .int .i64 l) rfl
 have HB1 := Lib.hid (HBB.out.trans (hB1.mono HBB.out.size))
 clear hx hB1
 go_wp2
 all_goals
  go_ret
  exact ⟨.val (by simp [*] <;> omega), HB1.out⟩
theorem rfew_any (c : Cfg) (p : Option Addr) (n q : Nat) (ad : Option Addr) (m q' : Nat) (w : World) : Calls Tryz.prog 5 #[.agg (cfgA c (.slice p n q) (.slice ad m q'))] w fun e w' => SaysB e True ∧ Below w.heap.size w w' := by
 have HB := Lib.hid ((Below.refl w.heap.size w).alloc (Nat.le_refl _) (.cells (cfgA c (.slice p n q) (.slice ad m q')) 33))
 have hB := BlockIs.new w (cfgA c (.slice p n q) (.slice ad m q')) 33
 have c3 := hB.cell (i := 3) (v := .slice p n q) rfl
 have c36 := hB.cell (i := 36) (v := .slice ad m q') rfl
 clear hB
 go_enter Tryz.func5, Tryz.ntmps5
 go_wp2
 all_goals
  go_ret
  exact ⟨.val (by simp), HB.out⟩
theorem rstops_nil (c : Cfg) (p : Option Addr) (q : Nat) (vw : Value) (w : World) (h0 : c.st = []) : Calls Tryz.prog 11 #[.agg (cfgA c (.slice p 0 q) vw)] w fun e w' => SaysB e (StopsOk c.fl c.st) ∧ Below w.heap.size w w' := by
 have HB := Lib.hid ((Below.refl w.heap.size w).alloc (Nat.le_refl _) (.cells (cfgA c (.slice p 0 q) vw) 33))
 have hB := BlockIs.new w (cfgA c (.slice p 0 q) vw) 33
 have c3 := hB.cell (i := 3) (v := .slice p 0 q) rfl
 clear hB
 obtain ⟨W, hW⟩ : ∃ W, w.alloc (.cells (cfgA c (.slice p 0 q) vw) 33) = W := ⟨_, rfl⟩
 rw [hW] at c3 HB
 go_enter Tryz.func11, Tryz.ntmps11
 go_wp2_with fail
 clear hW
 go_loopw [3] (fun iv wr => iv = .int .i64 0 ∧ W = wr) (fun _ _ => 0)
 case atStart => exact ⟨rfl, rfl⟩
 case round =>
  obtain ⟨rfl, rfl⟩ := hrel
  go_wp2_with fail
  go_ret
  exact ⟨.no, HB.out⟩
def StI (fl : Int) (l : List Int) (k : Nat) : Prop := ∀ j, j < k → ∃ x, l[j]? = some x ∧ 0 ≤ x ∧ x < fl ∧ ∀ y, 0 < j → l[j - 1]? = some y → y < x
theorem StI.ok {fl : Int} {l : List Int} (h : StI fl l l.length) (h2 : 2 ≤ l.length) : StopsOk fl l := by
 have hs : ∀ j (hj : j + 1 < l.length), l[j] < l[j + 1] := fun j hj => by
  obtain ⟨x, e, _, _, hy⟩ := h (j + 1) hj
  rw [List.getElem?_eq_getElem hj] at e
  cases e
  exact hy l[j] (by omega) (by simp)
 refine ⟨h2, fun x hx => ?_, List.pairwise_iff_getElem.2 fun i j hi hj hij => ?_⟩
 ·obtain ⟨j, hj, rfl⟩ := List.mem_iff_getElem.1 hx
  obtain ⟨x, e, a, b, _⟩ := h j hj
  rw [List.getElem?_eq_getElem hj] at e
  cases e
  exact ⟨a, b⟩
 ·obtain ⟨d, rfl⟩ : ∃ d, j = i + 1 + d := ⟨j - i - 1, by omega⟩
  clear hij
  induction d with
  | zero => exact hs i hj
  | succ d ih => exact Int.lt_trans (ih (by omega)) (hs (i + 1 + d) hj)
theorem StI.next {fl : Int} {l : List Int} {k : Nat} {x : Int} (h : StI fl l k) (hx : l[k]? = some x) (h1 : 0 ≤ x) (h2 : x < fl) (hy : ∀ y, 0 < k → l[k - 1]? = some y → y < x) : StI fl l (k + 1) := fun j hj => by
 by_cases e : j = k
 ·subst e; exact ⟨x, hx, h1, h2, hy⟩
 ·exact h j (by omega)
theorem rstops_some (c : Cfg) (b o n q : Nat) (vw : Value) (w : World) (hn : c.st.length = n) (h0 : 0 < n) (hnb : n ≤ 140737488355328) (hr : w.rangeAt b o (c.st.map (.int .i64))) : Calls Tryz.prog 11 #[.agg (cfgA c (.slice (some ⟨b, o, none⟩) n q) vw)] w fun e w' => SaysB e (StopsOk c.fl c.st) ∧ Below w.heap.size w w' := by
 have hB := BlockIs.new w (cfgA c (.slice (some ⟨b, o, none⟩) n q) vw) 33
 have HB := (Below.refl w.heap.size w).alloc (Nat.le_refl _) (.cells (cfgA c (.slice (some ⟨b, o, none⟩) n q) vw) 33)
 have hr := range_keep hr HB
 obtain ⟨W, hW⟩ : ∃ W, w.alloc (.cells (cfgA c (.slice (some ⟨b, o, none⟩) n q) vw) 33) = W := ⟨_, rfl⟩
 rw [hW] at hB hr HB
 have I0 : BlockIs W w.heap.size (cfgA c (.slice (some ⟨b, o, none⟩) n q) vw) 33 ∧ W.rangeAt b o (c.st.map (.int .i64)) ∧ Below w.heap.size w W := ⟨hB, hr, HB⟩
 have II := Lib.hid I0
 clear hB hr HB I0
 go_enter Tryz.func11, Tryz.ntmps11
 go_wp2_with fail
 clear hW
 go_loopw [3] (fun iv wr => ∃ k : Nat, k ≤ n ∧ iv = .int .i64 (k : Int) ∧ Hid (StI c.fl c.st k) ∧ Hid (BlockIs wr w.heap.size (cfgA c (.slice (some ⟨b, o, none⟩) n q) vw) 33 ∧ wr.rangeAt b o (c.st.map (.int .i64)) ∧ Below w.heap.size w wr)) (fun iv _ => (n - intOf iv).toNat)
 case atStart => exact ⟨0, by omega, rfl, Lib.hid (fun j hj => by omega), II⟩
 case round =>
  obtain ⟨k, hk, rfl, HI, HH⟩ := hrel
  clear II
  have c0 := HH.out.1.cell (i := 0) (v := .int .i64 c.fl) rfl
  have c3 := HH.out.1.cell (i := 3) (v := (.slice (some ⟨b, o, none⟩) n q)) rfl
  by_cases hc : k < n
  ·obtain ⟨x, hx⟩ : ∃ x, c.st[k]? = some x := ⟨_, List.getElem?_eq_getElem (by omega)⟩
   have hcell : wr.cell? ⟨b, o + k, none⟩ = some (.int .i64 x) := HH.out.2.1 k (.int .i64 x) (by simp [hx])
   have HX := Lib.hid hx
   have hlt : decide (k < n) = true := by simpa using hc
   have h9 : Hid (∀ z, Hid (BlockIs (wr.drewN z) w.heap.size (cfgA c (.slice (some ⟨b, o, none⟩) n q) vw) 33 ∧ (wr.drewN z).rangeAt b o (c.st.map (.int .i64)) ∧ Below w.heap.size w (wr.drewN z))) := Lib.hid (fun z => Lib.hid ⟨HH.out.1, HH.out.2.1, below_drewN HH.out.2.2 z⟩)
   clear HH hx
   have kz : (0 : Int) ≤ (k : Int) := by omega
   have kz2 : (k : Int) < (n : Int) := by omega
   have HN := Lib.hid hn
   clear hn
   by_cases h1 : x < 0
   ·have hd1 : decide (x < 0) = true := by simpa using h1
    go_wp2_with fail
    go_quiet (fail)
    go_wp2_with fail
    go_ret
    exact ⟨.no, (h9.out _).out.2.2⟩
   ·have hd1 : decide (x < 0) = false := by simpa using h1
    by_cases h2 : c.fl ≤ x
    ·have hd2 : decide (c.fl ≤ x) = true := by simpa using h2
     go_wp2_with fail
     go_quiet (fail)
     go_wp2_with fail
     go_ret
     exact ⟨.no, (h9.out _).out.2.2⟩
    ·have hd2 : decide (c.fl ≤ x) = false := by simpa using h2
     rcases Nat.eq_zero_or_pos k with h3 | h3
     ·have hd3 : decide (0 < k) = false := by simp; omega
      have HZ := Lib.hid h3
      clear h3
      go_wp2_with fail
      go_quiet (fail)
      go_wp2_with fail
      go_round
      case rel => exact ⟨k + 1, by omega, by go_num, Lib.hid (HI.out.next HX.out (by omega) (by omega) (fun y hy => by have := HZ.out; omega)), h9.out _⟩
      case measure => simp [intOf]; omega
     ·obtain ⟨y, hy⟩ : ∃ y, c.st[k - 1]? = some y := ⟨_, List.getElem?_eq_getElem (by have := HN.out; omega)⟩
      have hyc : wr.cell? ⟨b, o + (k - 1), none⟩ = some (.int .i64 y) := (h9.out 0).out.2.1 (k - 1) (.int .i64 y) (by simp [hy])
      have HY := Lib.hid hy
      clear hy
      have hd3 : decide ((0 : Int) < (k : Int)) = true := by simp; omega
      have k1 : (1 : Int) ≤ (k : Int) := by omega
      have k3 : (k : Int) ≤ 140737488355328 := by omega
      have em : (k : Int) - 1 = ((k - 1 : Nat) : Int) := by omega
      have k2 : ((k - 1 : Nat) : Int) < (n : Int) := by omega
      have k4 : (0 : Int) ≤ ((k - 1 : Nat) : Int) := by omega
      by_cases h4 : x ≤ y
      ·have hd4 : decide (x ≤ y) = true := by simpa using h4
       go_wp2_with fail
       go_quiet (fail)
       go_wp2_with fail
       go_ret
       exact ⟨.no, (h9.out _).out.2.2⟩
      ·have hd4 : decide (x ≤ y) = false := by simpa using h4
       go_wp2_with fail
       go_quiet (fail)
       go_wp2_with fail
       go_round
       case rel => exact ⟨k + 1, by omega, by go_num, Lib.hid (HI.out.next HX.out (by omega) (by omega) (fun y' _ e => by have := HY.out; rw [this] at e; cases e; omega)), h9.out _⟩
       case measure => simp [intOf]; omega
  ·have e : k = n := by omega
   subst e
   go_wp2_with fail
   go_ret
   refine ⟨.val ?_, HH.out.2.2⟩
   intro hb
   have hi := HI.out
   rw [← hn] at hi
   exact hi.ok (by rw [hn]; simp at hb; omega)
theorem rtimes_any (c : Cfg) (vs vw : Value) (w : World) : Calls Tryz.prog 12 #[.agg (cfgA c vs vw)] w fun e w' => SaysB e (TimesOk c) ∧ Below w.heap.size w w' := by
 have hB := BlockIs.new w (cfgA c vs vw) 33
 have c4 := hB.cell (i := 4) (v := .int .i64 c.tv) rfl
 have c5 := hB.cell (i := 5) (v := .int .i64 c.lv) rfl
 have c6 := hB.cell (i := 6) (v := .int .i64 c.op) rfl
 have c7 := hB.cell (i := 7) (v := .int .i64 c.dw) rfl
 have c8 := hB.cell (i := 8) (v := .int .i64 c.ld) rfl
 have c9 := hB.cell (i := 9) (v := .int .i64 c.cl) rfl
 have c10 := hB.cell (i := 10) (v := .int .i64 c.ho) rfl
 have HB := (Below.refl w.heap.size w).alloc (Nat.le_refl _) (.cells (cfgA c vs vw) 33)
 obtain ⟨w1, hw1⟩ : ∃ W, w.alloc (.cells (cfgA c vs vw) 33) = W := ⟨_, rfl⟩
 have hz1 : w1.heap.size = w.heap.size + 1 := by rw [← hw1]; simp
 rw [hw1] at hB HB
 have hT := BlockIs.new w1 #[.int .i64 c.tv, .int .i64 c.lv, .int .i64 c.op, .int .i64 c.dw, .int .i64 c.ld, .int .i64 c.cl, .int .i64 c.ho] 24
 have hB2 := hB.alloc (.cells #[.int .i64 c.tv, .int .i64 c.lv, .int .i64 c.op, .int .i64 c.dw, .int .i64 c.ld, .int .i64 c.cl, .int .i64 c.ho] 24)
 have HB2 := HB.alloc (by omega) (.cells #[.int .i64 c.tv, .int .i64 c.lv, .int .i64 c.op, .int .i64 c.dw, .int .i64 c.ld, .int .i64 c.cl, .int .i64 c.ho] 24)
 obtain ⟨w2, hw2⟩ : ∃ W, w1.alloc (.cells #[.int .i64 c.tv, .int .i64 c.lv, .int .i64 c.op, .int .i64 c.dw, .int .i64 c.ld, .int .i64 c.cl, .int .i64 c.ho] 24) = W := ⟨_, rfl⟩
 rw [hw2] at hT hB2 HB2
 rw [hz1] at hT
 have t0 := hT.cell (i := 0) (v := .int .i64 c.tv) rfl
 have t1 := hT.cell (i := 1) (v := .int .i64 c.lv) rfl
 have t2 := hT.cell (i := 2) (v := .int .i64 c.op) rfl
 have t3 := hT.cell (i := 3) (v := .int .i64 c.dw) rfl
 have t4 := hT.cell (i := 4) (v := .int .i64 c.ld) rfl
 have t5 := hT.cell (i := 5) (v := .int .i64 c.cl) rfl
 have t6 := hT.cell (i := 6) (v := .int .i64 c.ho) rfl
 have d11 := hB2.cell (i := 11) (v := .int .i64 c.rs) rfl
 have d12 := hB2.cell (i := 12) (v := .int .i64 c.pa) rfl
 have HW : Hid ((w.alloc (.cells (cfgA c vs vw) 33)).alloc (.cells #[.int .i64 c.tv, .int .i64 c.lv, .int .i64 c.op, .int .i64 c.dw, .int .i64 c.ld, .int .i64 c.cl, .int .i64 c.ho] 24) = w2) := Lib.hid (by rw [hw1, hw2])
 have HB2 := Lib.hid HB2
 clear hB HB hB2 hT hw1 hw2 hz1
 go_enter Tryz.func12, Tryz.ntmps12
 go_wp2_with fail
 rw [HW.out]
 clear HW c4 c5 c6 c7 c8 c9 c10
 refine (rtick_any _ _).mono ?_
 rintro e w' ⟨⟨b1, rfl, g1⟩, rfl⟩
 have G1 := Lib.hid g1
 clear g1
 go_wp2_with fail
 refine (rtick_any _ _).mono ?_
 rintro e w' ⟨⟨b2, rfl, g2⟩, rfl⟩
 have G2 := Lib.hid g2
 clear g2
 go_wp2_with fail
 refine (rtick_any _ _).mono ?_
 rintro e w' ⟨⟨b3, rfl, g3⟩, rfl⟩
 have G3 := Lib.hid g3
 clear g3
 go_wp2_with fail
 refine (rtick_any _ _).mono ?_
 rintro e w' ⟨⟨b4, rfl, g4⟩, rfl⟩
 have G4 := Lib.hid g4
 clear g4
 go_wp2_with fail
 refine (rtick_any _ _).mono ?_
 rintro e w' ⟨⟨b5, rfl, g5⟩, rfl⟩
 have G5 := Lib.hid g5
 clear g5
 go_wp2_with fail
 all_goals
  go_ret
  first
   | exact ⟨.no, HB2.out⟩
   | skip
 refine ⟨.val ?_, HB2.out⟩
 intro hb
 have h9 := of_decide_eq_true hb
 exact ⟨G1.out (by assumption), G2.out (by assumption), G3.out (by assumption), G4.out (by assumption), G5.out (by assumption), by omega, by omega, by omega, by omega⟩
theorem rstops_any (c : Cfg) (vs vw : Value) (w : World) (hs : Rd w vs c.st.length (c.st.map (.int .i64))) (hnb : c.st.length ≤ 140737488355328) : Calls Tryz.prog 11 #[.agg (cfgA c vs vw)] w fun e w' => SaysB e (StopsOk c.fl c.st) ∧ Below w.heap.size w w' := by
 rcases hs with ⟨h0, _, p, q, rfl⟩ | ⟨h0, b, o, q, rfl, _, hr⟩
 ·exact rstops_nil c p q vw w (List.eq_nil_of_length_eq_zero h0)
 ·exact rstops_some c b o _ q vw w rfl h0 hnb hr
theorem rzcheck_z (z : Zn) (w : World) (hm : I64 z.m) (hm' : I64 z.m') : Calls Tryz.prog 13 #[.agg (zoneA z)] w fun e w' => e = .returned (.int .i64 (zErr z)) ∧ Below w.heap.size w w' := rzcheck_any z.b z.s z.m z.k z.d z.t z.m' z.k' z.d' z.t' _ w rfl hm hm'
theorem not_fal {b : Bool} (h : (!b) = false) : b = true := by simpa using h
theorem bne_t {r : Int} (h : (r != 0) = true) : r ≠ 0 := by simpa using h
theorem bne_f {r : Int} (h : (r != 0) = false) : r = 0 := by simpa using h
def SaysC (e : Ending) (p : Prop) : Prop := ∃ r, e = .returned (.int .i64 r) ∧ (r = 0 → p)
theorem SaysC.bad {p : Prop} {r : Int} (h : r ≠ 0) : SaysC (.returned (.int .i64 r)) p := ⟨r, rfl, fun e => absurd e h⟩
def BxI (w0 : World) (b : Nat) (c : Cfg) (vs vw : Value) (w : World) : Prop := BlockIs w b (cfgA c vs vw) 33 ∧ Rd w vs c.st.length (c.st.map (.int .i64)) ∧ Rd w vw 1 (wnA c.w).toList ∧ Below w0.heap.size w0 w
theorem BxI.next {w0 : World} {b : Nat} {c : Cfg} {vs vw : Value} {w w' : World} (h : BxI w0 b c vs vw w) (hb : Below w.heap.size w w') : BxI w0 b c vs vw w' :=
 ⟨BlockIs.kept h.1 hb, h.2.1.below hb, h.2.2.1.below hb, h.2.2.2.trans (hb.mono h.2.2.2.size)⟩
set_option maxRecDepth 100000 in
theorem rCheck_any (c : Cfg) (vs vw : Value) (mi l : Int) (w : World) (hm : CfgM w c vs vw) (hw : c.w = ⟨4, 1, 0, 0, 0, mi, l⟩) (hnb : c.st.length ≤ 140737488355328) (i1 : I64 c.z.m) (i2 : I64 c.z.m') (i3 : ∀ i, i < 12 → I64 (c.f i)) :
  Calls Tryz.prog 6 #[.agg (cfgA c vs vw)] w fun e w' => SaysC e (CfgOk c) ∧ Below w.heap.size w w' := by
 have hB := BlockIs.new w (cfgA c vs vw) 33
 have HB := (Below.refl w.heap.size w).alloc (Nat.le_refl _) (.cells (cfgA c vs vw) 33)
 have c0 := hB.cell (i := 0) (v := .int .i64 c.fl) rfl
 have c1 := hB.cell (i := 1) (v := .int .i64 c.ca) rfl
 have c2 := hB.cell (i := 2) (v := .int .i64 c.pk) rfl
 have hr := cfg_range hB
 have HX : Hid (BxI w w.heap.size c vs vw (w.alloc (.cells (cfgA c vs vw) 33))) := Lib.hid ⟨hB, hm.s.below HB, hm.w.below HB, HB⟩
 have HM := Lib.hid hm
 have HN := Lib.hid hnb
 have HW := Lib.hid hw
 have HI := Lib.hid (show I64 c.z.m ∧ I64 c.z.m' ∧ ∀ i, i < 12 → I64 (c.f i) from ⟨i1, i2, i3⟩)
 clear hB HB hm hnb hw i1 i2 i3
 go_enter Tryz.func6, Tryz.ntmps6
 go_wp2_with (with_reducible show wpList _ _ _ _ _ _; refine load_cfg (.tmp 1) c vs vw w.heap.size 0 rfl rfl rfl hr ?_)
 all_goals first
  | (go_ret; exact ⟨.bad (by decide), HX.out.2.2.2⟩)
  | skip
 have HS : Hid (2 ≤ c.fl ∧ c.fl ≤ 64 ∧ 1 ≤ c.ca ∧ c.ca ≤ 8 ∧ 0 ≤ c.pk ∧ c.pk < c.fl) := Lib.hid ⟨by omega, by omega, by omega, by omega, by omega, by omega⟩
 refine (rstops_any c vs vw _ HX.out.2.1 HN.out).mono ?_
 rintro e w1 ⟨⟨b1, rfl, g1⟩, hb1⟩
 have G1 := Lib.hid g1
 have HX1 := Lib.hid (HX.out.next hb1)
 clear g1 hb1 hr c0 c1 c2 HX
 have hr := cfg_range HX1.out.1
 go_wp2_with (with_reducible show wpList _ _ _ _ _ _; refine load_cfg (.tmp 1) c vs vw w.heap.size 0 rfl rfl rfl hr ?_)
 all_goals first
  | (go_ret; exact ⟨.bad (by decide), HX1.out.2.2.2⟩)
  | skip
 have h1 := Lib.hid (G1.out (not_fal (by assumption)))
 refine (rtimes_any c vs vw _).mono ?_
 rintro e w2 ⟨⟨b2, rfl, g2⟩, hb2⟩
 have G2 := Lib.hid g2
 have HX2 := Lib.hid (HX1.out.next hb2)
 clear g2 hb2 hr HX1
 have hr := cfg_zone (cfg_range HX2.out.1)
 rw [Nat.zero_add] at hr
 go_wp2_with (with_reducible show wpList _ _ _ _ _ _; refine load_zone (.tmp 47) c.z w.heap.size 13 rfl rfl rfl hr ?_)
 all_goals first
  | (go_ret; exact ⟨.bad (by decide), HX2.out.2.2.2⟩)
  | skip
 have h2 := Lib.hid (G2.out (not_fal (by assumption)))
 refine (rzcheck_z c.z _ HI.out.1 HI.out.2.1).mono ?_
 rintro e w3 ⟨rfl, hb3⟩
 have HX3 := Lib.hid (HX2.out.next hb3)
 clear hb3 hr HX2
 have hr := cfg_sun (cfg_range HX3.out.1)
 rw [Nat.zero_add] at hr
 obtain ⟨rz, hz⟩ : ∃ r, zErr c.z = r := ⟨_, rfl⟩
 rw [hz]
 have HZ := Lib.hid hz
 clear hz
 go_wp2_with (with_reducible show wpList _ _ _ _ _ _; refine load_sun (.tmp 53) c.f w.heap.size 23 rfl rfl rfl hr ?_)
 all_goals first
  | (go_ret; exact ⟨.bad (bne_t (by assumption)), HX3.out.2.2.2⟩)
  | skip
 have hz0 : Hid (rz = 0) := Lib.hid (bne_f (by assumption))
 refine (rscheck_any c.f _ _ rfl HI.out.2.2).mono ?_
 rintro e w4 ⟨rfl, hb4⟩
 have HX4 := Lib.hid (HX3.out.next hb4)
 clear hb4 hr HX3
 obtain ⟨rs, hs⟩ : ∃ r, sunErr c.f = r := ⟨_, rfl⟩
 rw [hs]
 have HS2 := Lib.hid hs
 clear hs
 obtain ⟨bw, ow, cw, rfl, hcw, hrw⟩ := HX4.out.2.2.1.some (by omega)
 have c36 := HX4.out.1.cell (i := 36) (v := .slice (some ⟨bw, ow, none⟩) 1 cw) rfl
 clear hrw hcw
 go_wp2_with fail
 all_goals first
  | (go_ret; exact ⟨.bad (bne_t (by assumption)), HX4.out.2.2.2⟩)
  | skip
 have hs0 : Hid (rs = 0) := Lib.hid (bne_f (by assumption))
 have HD : Hid (b1 = true ∧ b2 = true) := Lib.hid ⟨not_fal (by assumption), not_fal (by assumption)⟩
 rename (rs != 0) = false => hrs
 rename (rz != 0) = false => hrz
 clear hrs hrz
 go_loopw [7, 8] (fun iv _ wr => ∃ k : Int, (k = 0 ∨ k = 1) ∧ iv = .int .i64 k ∧ Hid (BxI w w.heap.size c vs (.slice (some ⟨bw, ow, none⟩) 1 cw) wr) ∧ Hid (k = 1 → 0 ≤ mi ∧ mi ≤ 180 ∧ 0 ≤ l ∧ l ≤ 180)) (fun iv _ _ => (1 - intOf iv).toNat)
 case atStart => exact ⟨0, .inl rfl, rfl, HX4, Lib.hid (fun h => by omega)⟩
 case round =>
  obtain ⟨k, hk | hk, rfl, HX5, HK⟩ := hrel
  ·subst hk
   have c36 := HX5.out.1.cell (i := 36) (v := .slice (some ⟨bw, ow, none⟩) 1 cw) rfl
   obtain ⟨bw', ow', cw', e, hcw, hrw⟩ := HX5.out.2.2.1.some (by omega)
   cases e
   rw [HW.out] at hrw
   clear HK HX4
   go_wp2_with (with_reducible show wpList _ _ _ _ _ _; refine load_wn (.tmp 73) ⟨4, 1, 0, 0, 0, mi, l⟩ bw ow rfl rfl rfl hrw ?_)
   refine (rwindow_any mi l _).mono ?_
   rintro e w6 ⟨⟨b3, rfl, g3⟩, hb6⟩
   have G3 := Lib.hid g3
   have HX6 := Lib.hid (HX5.out.next hb6)
   clear g3 hb6 hrw hcw c36
   go_wp2_with fail
   all_goals first
    | (go_ret; exact ⟨.bad (by decide), HX6.out.2.2.2⟩)
    | skip
   go_round
   case rel => exact ⟨1, .inr rfl, rfl, HX6, Lib.hid (fun _ => G3.out (not_fal (by assumption)))⟩
   case measure => simp [intOf]
  ·subst hk
   have c36 := HX5.out.1.cell (i := 36) (v := .slice (some ⟨bw, ow, none⟩) 1 cw) rfl
   clear HX4
   go_wp2_with fail
   go_ret
   refine ⟨⟨0, rfl, fun _ => ?_⟩, HX5.out.2.2.2⟩
   obtain ⟨y1, y2, y3, y4⟩ := HK.out (by trivial)
   obtain ⟨x1, x2, x3, x4, x5, x6⟩ := HS.out
   exact ⟨x1, x2, x3, x4, x5, x6, h1.out, h2.out, HZ.out.trans hz0.out, HS2.out.trans hs0.out, by rw [HW.out]; exact ⟨(by decide : (0 : Int) ≤ 1), (by decide : (1 : Int) ≤ 5), (by decide : (0 : Int) ≤ 0), (by decide : (0 : Int) ≤ 99), rfl, .inr ⟨rfl, rfl, y1, y2, y3, y4⟩⟩⟩
theorem wl_append_made {P : Program} {ops : Array Oper} {rest : List Oper} {o : Oper} {a : Act} {Q : Exit → Act → World → Prop} (hgd : o.guard = none) (s x : Operand) (t : TypeId)
  (ho : o.op = .call { callee := .builtin .append, args := #[s, x], argTypes := #[t, t] }) (e : TypeId) (i : TypeInfo) (z : Value) (size bytes : Nat) (ht : P.underlying t = some (.slice e)) (hi : P.info? e = some i) (hz : i.zero = some z)
  (hsize : i.size = size) (hby : i.bytes = bytes) (hzs : z.cells.size = size) (hsz : 0 < size) (W : World) (xv : Value) (n : Nat) (cs : List Value)
  (hs : a.eval s = .slice (some ⟨W.heap.size, 0, none⟩) 0 0) (hx : a.eval x = xv) (hv : Rd W xv n cs) (hl : cs.length = n * size) (h1 : ∀ u ∈ cs, u.oneCell' = true) (hm : n ≤ maxLen) (hb : n * bytes ≤ 140737488355328)
  (h : ∀ p q w', w'.ownsRow W.heap.size e size (.slice p n q) n cs → Below W.heap.size W w' → wpList P ops Q rest (a.put o.dst (.slice p n q)) w') : wpList P ops Q (o :: rest) a (W.alloc (.cells #[] e)) := by
 have hB := (Below.refl _ W).alloc (Nat.le_refl _) (.cells #[] e)
 have hO := World.ownsRow_made (base := W.heap.size) (e := e) (size := size) W #[] 0 (Nat.le_refl _) (Nat.zero_le _) (by simp)
 by_cases h0 : n = 0
 ·subst h0
  have hc : cs = [] := List.eq_nil_of_length_eq_zero (by omega)
  subst hc
  obtain ⟨q, d, rfl⟩ := hv.form
  exact wl_append_zero hgd s x t ho e ht size (by rw [hi]; simp [hsize]) _ q d hs hx (h _ _ _ hO hB)
 ·obtain ⟨b, o', c, rfl, hnc, hr⟩ := hv.some (by omega)
  refine wpList_append_own _ hgd s x t ho W.heap.size e i z size bytes ht hi hz hsize hby hzs hsz _ _ _ hs hO ⟨b, o', none⟩ n c cs hx hl (fun j u hu => ?_) h1 (by omega) (by rw [Nat.zero_add]; exact hb) (by simp) ?_
  ·refine Lib.cell?_alloc_some _ ?_
   rw [Addr.add_mid]
   exact hr j u hu
  ·intro v' w1 hown hgrow hnil
   have hB2 := hB.grown hgrow (by simp) (by intro k hk; simp [Value.ownBlock] at hk; omega)
   rw [Nat.zero_add, List.nil_append] at hown
   obtain ⟨p, q, rfl⟩ := (own_rd hown).form
   exact h _ _ _ hown hB2
theorem lown_ok (c : Cfg) (vs vw : Value) (m : Nat) (csw : List Value) (w : World) (hs : Rd w vs c.st.length (c.st.map (.int .i64))) (hw : Rd w vw m csw) (hlw : csw.length = m * 7) (h1w : ∀ u ∈ csw, u.oneCell' = true) (hn : c.st.length * 8 ≤ 140737488355328) (hm : m * 56 ≤ 140737488355328) :
  Calls Tryz.prog 4 #[.agg (cfgA c vs vw)] w fun e w' => ∃ vs' vw', e = .returned (.agg (cfgA c vs' vw')) ∧ w'.ownsRow w.heap.size 3 1 vs' c.st.length (c.st.map (.int .i64)) ∧ w'.ownsRow w.heap.size 35 7 vw' m csw ∧ Below w.heap.size w w' := by
 obtain ⟨i0, hi, hz0, hz1, hz2⟩ := info_hid int_info
 obtain ⟨i1, hi1, hz3, hz4, hz5⟩ := info_hid wn_info3
 have b1 := (BlockIs.new w (cfgA c vs vw) 33).alloc (.cells cfgZ 33)
 have b2 := BlockIs.new (w.alloc (.cells (cfgA c vs vw) 33)) cfgZ 33
 have HB := ((Below.refl w.heap.size w).alloc (Nat.le_refl _) (.cells (cfgA c vs vw) 33)).alloc (by simp) (.cells cfgZ 33)
 rw [World.size_alloc] at b2
 obtain ⟨W, hW⟩ : ∃ W, (w.alloc (.cells (cfgA c vs vw) 33)).alloc (.cells cfgZ 33) = W := ⟨_, rfl⟩
 rw [hW] at b1 b2 HB
 have hsz : W.heap.size = w.heap.size + 2 := by rw [← hW]; simp
 have HW := Lib.hid hW
 clear hW
 obtain ⟨ps, qs, hps⟩ := hs.form
 obtain ⟨pw, qw, hpw⟩ := hw.form
 have HS := Lib.hid (hs.below HB)
 have HW0 := Lib.hid hw
 have HWW := Lib.hid (hw.below HB)
 have HL := Lib.hid (show (∀ u ∈ csw, u.oneCell' = true) ∧ csw.length = m * 7 from ⟨h1w, hlw⟩)
 clear hs hw hlw h1w
 obtain ⟨n, hnn⟩ : ∃ n, c.st.length = n := ⟨_, rfl⟩
 obtain ⟨cs, hcs⟩ : ∃ cs, c.st.map (Value.int .i64) = cs := ⟨_, rfl⟩
 have HC := Lib.hid (show (∀ u ∈ cs, u.oneCell' = true) ∧ cs.length = n * 1 from ⟨by rw [← hcs]; exact int_one _ _, by rw [← hcs]; simp [hnn]⟩)
 rw [hnn] at hps HS hn ⊢
 rw [hcs] at HS ⊢
 clear hnn hcs
 have B1 := Lib.hid b1
 have B2 := Lib.hid b2
 have HB := Lib.hid HB
 have hB0 := Lib.hid ((Below.refl _ W).alloc (Nat.le_refl _) (.cells #[] 3))
 have c3 : (W.alloc (.cells #[] 3)).cell? ⟨w.heap.size, 3, none⟩ = some vs := (b1.alloc _).cell rfl
 subst hps hpw
 clear b1 b2
 go_enter Tryz.func4, Tryz.ntmps4
 go_upto_region 1 with fail
 change Code.wp _ _ _ _ ((w.alloc (.cells (cfgA c (.slice ps n qs) (.slice pw m qw)) 33)).alloc (.cells cfgZ 33))
 rw [HW.out]
 have f3 : ∀ w2, Below W.heap.size W w2 → w2.cell? ⟨w.heap.size, 3, none⟩ = some (.slice ps n qs) ∧ w2.frozen? ⟨w.heap.size, 3, none⟩ = false := fun w2 hb2 => ⟨(B1.out.kept hb2).cell rfl, (B1.out.kept hb2).free 3⟩
 have F3 := Lib.hid f3
 clear f3
 have HSZ := Lib.hid hsz
 clear hsz
 go_upto_region 2 with (at_builtin; refine wl_append_made rfl (.tmp 3) (.tmp 5) 22 rfl 3 i0 (.int .i64 0) 1 8 Tryz.underlying22 (hi ()) hz0 hz1 hz2 rfl (by decide) W _ n cs rfl rfl HS.out HC.out.2 HC.out.1 (by unfold maxLen; omega) hn ?_; intro p2 q2 w2 ho2 hb2; obtain ⟨x3, z3⟩ := F3.out _ hb2; have HO2 := Lib.hid ho2; have HB2 := Lib.hid hb2; clear ho2 hb2)
 have hsz := HSZ.out
 have k1 := (BlockIs.kept B1.out HB2.out).set 3 (.slice p2 n q2)
 rw [cfg_set3] at k1
 have k2 := (BlockIs.kept B2.out HB2.out).other (a := ⟨w.heap.size, 3, none⟩) (by show w.heap.size + 1 ≠ w.heap.size; omega) (.slice p2 n q2)
 have hT : Turn (fun k => k = w.heap.size ∨ k = w.heap.size + 1) w2 (w2.setCell ⟨w.heap.size, 3, none⟩ (.slice p2 n q2)) := (Turn.refl _ w2).setCell (.inl rfl) 3 _
 have hB02 : Below w.heap.size w w2 := HB.out.trans (HB2.out.mono HB.out.size)
 have hB3 : Below w.heap.size w (w2.setCell ⟨w.heap.size, 3, none⟩ (.slice p2 n q2)) := hB02.trans (hT.below (B := w.heap.size) hB02.size (by intro k hk; omega))
 have e2 : ∀ k, (Value.slice p2 n q2).ownBlock = some k → ¬ (k = w.heap.size ∨ k = w.heap.size + 1) := fun k hk => by
  have := (HO2.out.lt k hk).1
  omega
 have o2 := hT.own HO2.out e2
 have ys3 : w2.heap.size ≤ (w2.setCell ⟨w.heap.size, 3, none⟩ (.slice p2 n q2)).heap.size := hT.size
 have ys2 := HB2.out.size
 obtain ⟨W3, hW3⟩ : ∃ W3, w2.setCell ⟨w.heap.size, 3, none⟩ (.slice p2 n q2) = W3 := ⟨_, rfl⟩
 rw [hW3] at k1 k2 hT hB3 o2 ys3
 rw [hW3]
 have K1 := Lib.hid k1
 have K2 := Lib.hid k2
 have HB3 := Lib.hid hB3
 have O2 := Lib.hid o2
 have HR3 := Lib.hid (HW0.out.below hB3)
 have ys4 := Lib.hid (show W.heap.size ≤ W3.heap.size by omega)
 have F36 := Lib.hid (show ∀ w2, Below W3.heap.size W3 w2 → w2.cell? ⟨w.heap.size, 36, none⟩ = some (.slice pw m qw) ∧ w2.frozen? ⟨w.heap.size, 36, none⟩ = false from fun w2 hb2 => ⟨(K1.out.kept hb2).cell rfl, (K1.out.kept hb2).free 36⟩)
 have c36 : (W3.alloc (.cells #[] 35)).cell? ⟨w.heap.size, 36, none⟩ = some (.slice pw m qw) := (k1.alloc _).cell rfl
 clear hW3 k1 k2 hT hB3 o2 hB02 ys2 ys3 e2 hsz c3 x3 z3 HO2 F3 HW HS hB0
 go_upto_region 3 with (at_builtin; refine wl_append_made rfl (.tmp 8) (.tmp 10) 31 rfl 35 i1 (.agg #[.int .i64 0, .int .i64 0, .int .i64 0, .int .i64 0, .int .i64 0, .int .i64 0, .int .i64 0]) 7 56 Tryz.underlying31 (hi1 ()) hz3 hz4 hz5 rfl (by decide) W3 _ m csw rfl rfl HR3.out HL.out.2 HL.out.1 (by unfold maxLen; omega) hm ?_; intro p3 q3 w4 ho4 hb4; obtain ⟨x36, z36⟩ := F36.out _ hb4; have HO4 := Lib.hid ho4; have HB4 := Lib.hid hb4; clear ho4 hb4)
 have hsz := HSZ.out
 have zz := ys4.out
 have k1 := (BlockIs.kept K1.out HB4.out).set 36 (.slice p3 m q3)
 rw [cfg_set36] at k1
 have k2 := (BlockIs.kept K2.out HB4.out).other (a := ⟨w.heap.size, 36, none⟩) (by show w.heap.size + 1 ≠ w.heap.size; omega) (.slice p3 m q3)
 have hT : Turn (fun k => k = w.heap.size ∨ k = w.heap.size + 1) w4 (w4.setCell ⟨w.heap.size, 36, none⟩ (.slice p3 m q3)) := (Turn.refl _ w4).setCell (.inl rfl) 36 _
 have hB04 : Below w.heap.size w w4 := HB3.out.trans (HB4.out.mono HB3.out.size)
 have hB5 : Below w.heap.size w (w4.setCell ⟨w.heap.size, 36, none⟩ (.slice p3 m q3)) := hB04.trans (hT.below (B := w.heap.size) hB04.size (by intro k hk; omega))
 have e3 : ∀ k, (Value.slice p3 m q3).ownBlock = some k → ¬ (k = w.heap.size ∨ k = w.heap.size + 1) := fun k hk => by
  have := (HO4.out.lt k hk).1
  omega
 have e2 : ∀ k, (Value.slice p2 n q2).ownBlock = some k → ¬ (k = w.heap.size ∨ k = w.heap.size + 1) := fun k hk => by
  have := (O2.out.lt k hk).1
  omega
 have hT2 : Turn (fun k => k = w.heap.size ∨ k = w.heap.size + 1) w4 ((w4.setCell ⟨w.heap.size, 36, none⟩ (.slice p3 m q3)).setRow (w.heap.size + 1) (cfgA c (.slice p2 n q2) (.slice p3 m q3))) := hT.setRow (.inr rfl) _
 have r2 := Lib.hid ((hT2.own (own_below O2.out HB4.out) e2).mono (base' := w.heap.size) (by omega))
 have r3 := Lib.hid ((hT2.own HO4.out e3).mono (base' := w.heap.size) (by omega))
 have HB6 := Lib.hid (below_setRow hB5 (by omega : w.heap.size ≤ w.heap.size + 1) (cfgA c (.slice p2 n q2) (.slice p3 m q3)))
 have k3 := Lib.hid (k2.row (cfgA c (.slice p2 n q2) (.slice p3 m q3)))
 have K1' := Lib.hid k1
 have K2' := Lib.hid k2
 clear hsz zz k1 k2 hT hB04 hB5 e3 e2 hT2 x36 z36 c36
 go_wp2_with (first
  | ((with_reducible show wpList _ _ _ _ _ _); refine wl_box (.tmp 1) c (.slice p2 n q2) (.slice p3 m q3) w.heap.size 33 rfl rfl rfl K1'.out ?_)
  | ((with_reducible show wpList _ _ _ _ _ _); refine ws_box (.tmp 2) (.tmp 13) c (.slice p2 n q2) (.slice p3 m q3) (w.heap.size + 1) cfgZ 33 rfl rfl rfl rfl K2'.out rfl rfl rfl ?_))
 exact bodyPost_ret (res_cfg rfl _ _ (w.heap.size + 1) 33 c _ _ rfl k3.out) rfl ⟨_, _, rfl, r2.out, r3.out, HB6.out⟩
end Go.Proofs.YtfnifgppblbjhaaGreatDoor
