/- Part of the proof of TopHoly. -/
import Derived.Test.YtfnifgppblbjhaaGreatDoorY01
import Derived.Test.YtfnifgppblbjhaaGreatDoorY11
import Derived.Test.YtfnifgppblbjhaaGreatDoorY14
import Derived.Test.YtfnifgppblbjhaaGreatDoorY15
import Derived.Test.YtfnifgppblbjhaaGreatDoorY16
import Derived.Deep.AppendLies
import Derived.Deep.DeepCutAuto
import Derived.Deep.RegionHeld3
import Derived.Laws.IdiomStrings
import Derived.Laws.ResultCell
namespace Go.Proofs.YtfnifgppblbjhaaGreatDoor
set_option maxHeartbeats 8000000
open Go Go.RowKit
set_option linter.unusedVariables false
set_option linter.unusedSimpArgs false
theorem rd_at {w : World} {g o n c : Nat} {cs : List Value} (h0 : 0 < n) (h : Rd w (.slice (some ⟨g, o, none⟩) n c) n cs) : n ≤ c ∧ w.rangeAt g o cs := by
 rcases h with ⟨e, _⟩ | ⟨_, b, o', c', e, hc, hr⟩
 ·omega
 ·cases e; exact ⟨hc, hr⟩
set_option maxRecDepth 100000 in
theorem decode_ok (c : Cfg) (v : Value) (w : World) (ht : Tab w) (h : CfgOk c) (hv : Rd w v (cfgB c).length (bts (cfgB c))) :
  Calls Tryz.prog 45 #[v] w fun e w' => ∃ vs' vw', e = .returned (.tuple #[.agg (cfgA c vs' vw'), .int .i64 0]) ∧ w'.ownsRow w.heap.size 3 1 vs' c.st.length (c.st.map (.int .i64)) ∧ w'.ownsRow w.heap.size 35 7 vw' 1 (wnA c.w).toList ∧ Below w.heap.size w w' := by
 have hlen := cfgB_len h
 have hrb : ∀ x ∈ [78, 87, 1] ++ rowsB c, x < 256 := by
  intro x hx
  rcases List.mem_append.1 hx with hx | hx
  ·simp at hx; omega
  ·rw [rowsB_flat] at hx
   obtain ⟨r, hr, hx⟩ := List.mem_flatMap.1 hx
   obtain ⟨k, hk⟩ := List.getElem?_of_mem hr
   obtain ⟨h1, h2⟩ := rows_i64 c h k r hk
   exact rowB_byte h1 (by omega) x hx
 have hcl : (cfgB c).length = (rowsB c).length + 5 := by unfold cfgB sealV; simp only [List.length_append, List.length_cons, List.length_nil]; omega
 have hbz := BlockIs.new w cfgZ 33
 have HB0 := (Below.refl w.heap.size w).alloc (Nat.le_refl _) (.cells cfgZ 33)
 obtain ⟨W0, hW0⟩ : ∃ W0, w.alloc (.cells cfgZ 33) = W0 := ⟨_, rfl⟩
 rw [hW0] at hbz HB0
 have hO := copen_ok ([78, 87, 1] ++ rowsB c) v W0 (ht.below HB0) (hv.below HB0) hrb (by simp only [List.length_append, List.length_cons, List.length_nil]; omega) (by simp)
 have HO := Lib.hid hO
 have HH := Lib.hid h
 have HW0 := Lib.hid hW0
 have hN0 : 1 ≤ (rowsB c).length := by
  rw [rowsB_flat]
  have := rowB_len [(c.fl : Int), c.ca]
  unfold rowsL
  simp only [List.flatMap_cons, List.length_append]
  have := rowB_len (row1 c)
  omega
 obtain ⟨N, hN⟩ : ∃ N, (rowsB c).length = N := ⟨_, rfl⟩
 rw [hN] at hN0
 rw [hN] at hcl
 rw [hcl] at hv hlen
 obtain ⟨pv, qv, rfl⟩ := hv.form
 have HNN := Lib.hid hN
 clear hO h hv hW0 hrb ht hcl hN
 have hI : Tryz.prog.isIface 168 = true := by kernel_rfl
 have hq2 : ∀ w, (binOp .neq 168 .nilIface .nilIface).run Tryz.prog w = .ok (.bool false) w := fun w => run_neq_nil_nil_at w 168 hI
 clear hI
 go_enter Tryz.func45, Tryz.ntmps45
 go_wp2_with fail
 change Calls _ _ _ (w.alloc (.cells cfgZ 33)) _
 rw [HW0.out]
 refine HO.out.mono ?_; rintro e W ⟨v', rfl, hown, hb1⟩
 have HB1 := HB0.trans (hb1.mono HB0.size)
 have hbz1 := hbz.kept hb1
 have hn3 : ([78, 87, 1] ++ rowsB c).length = N + 3 := by simp only [List.length_append, List.length_cons, List.length_nil]; rw [HNN.out]; omega
 rw [hn3] at hown
 obtain ⟨gb, cb, rfl, hgb, hgb2⟩ := hown.form (by omega)
 obtain ⟨hcb, hrng⟩ := rd_at (by omega) (own_rd hown)
 have y0 : W.cell? ⟨gb, 0, none⟩ = some (.int .u8 78) := hrng 0 _ rfl
 have y1 : W.cell? ⟨gb, 1, none⟩ = some (.int .u8 87) := hrng 1 _ rfl
 have y2 : W.cell? ⟨gb, 2, none⟩ = some (.int .u8 1) := hrng 2 _ rfl
 have hr3 : W.rangeAt gb 3 (bts (rowsB c)) := by
  have := range_post (l := bts [78, 87, 1]) (k := bts (rowsB c)) (by rw [← bts_app]; exact hrng)
  simpa [bts_len] using this
 have HR3 := Lib.hid hr3
 have HBZ := Lib.hid hbz1
 have HBB := Lib.hid HB1
 clear HO hb1 HB0 hbz hown hrng hr3 hbz1 HB1 hn3 HW0
 have hcv : (convert 52 9 (.slice (some ⟨gb, 0, none⟩) 2 cb)).run Tryz.prog W = .ok (.string ⟨#[78, 87]⟩) W := by
  have := run_convert_bytes_back (P := Tryz.prog) W 52 9 5 ⟨gb, 0, none⟩ cb [78, 87] Tryz.underlying52 Tryz.underlying5 Tryz.underlying9 (by
   intro j hj
   match j, hj with
   | 0, _ => exact y0
   | 1, _ => exact y1)
  simpa using this
 have hn2 : decide ((N : Int) + 3 < 2) = false := by simp; omega
 have hn3 : decide ((N : Int) + 3 = 2) = false := by simp; omega
 have hn4 : (3 : Int) ≤ (N : Int) + 3 := by omega
 have hn5 : (cb = 3) = False := by simp; omega
 go_wp2_with fail
 refine wp_region_held_drew (S := fun w' => Below W.heap.size W w') (by kernel_rfl) (Below.refl _ _).drew (fun hHeld => ?_)
 refine tkH 0 ?_
 try simp only [pt]
 refine tkH 1 ?_
 try simp only [pt]
 refine tkH 2 ?_
 try simp only [pt]
 refine tkH 3 ?_
 try simp only [pt]
 refine tkH 7 ?_
 try simp only [pt]
 refine rdy [4] ?_
 refine' arC rfl (fun KK hKK => ?s4) AllReadyH.nil
 case s4 =>
 go_simp
 refine (dmany_ok 7 _).mono ?_; rintro e W4 ⟨rfl, hW⟩; have HW4 := Lib.hid hW; clear hW
 refine hKK.out _ _ ((by rw [HW4.out]; exact hHeld.alloc (Nat.le_refl _) _)) (fun hH4 => ?_)
 clear hKK KK
 try simp only [pt]
 refine rdy [5] ?_
 refine' arC rfl (fun KK hKK => ?s5) AllReadyH.nil
 case s5 =>
 go_simp
 refine (dmany_ok 10 _).mono ?_; rintro e W5 ⟨rfl, hW⟩; have HW5 := Lib.hid hW; clear hW
 refine hKK.out _ _ ((by rw [HW5.out]; exact hH4.alloc hH4.size _)) (fun hH5 => ?_)
 clear hKK KK
 try simp only [pt]
 refine rdy [6] ?_
 refine' arC rfl (fun KK hKK => ?s6) AllReadyH.nil
 case s6 =>
 go_simp
 refine (dmany_ok 12 _).mono ?_; rintro e W6 ⟨rfl, hW⟩; have HW6 := Lib.hid hW; clear hW
 refine hKK.out _ _ ((by rw [HW6.out]; exact hH5.alloc hH5.size _)) (fun hH6 => ?_)
 clear hKK KK
 try simp only [pt]
 refine rdy [8] ?_
 refine' arC rfl (fun KK hKK => ?s8) AllReadyH.nil
 case s8 =>
 go_simp
 refine hKK.out _ _ (hH6.alloc hH6.size _) (fun hH8 => ?_)
 clear hKK KK
 try simp only [pt]
 refine rdy [9] ?_
 refine' arC rfl (fun KK hKK => ?s9) AllReadyH.nil
 case s9 =>
 go_simp
 obtain ⟨W8, hW8⟩ : ∃ W8, W6.alloc (.cells (mayA W.heap.size W4.heap.size W5.heap.size) 166) = W8 := ⟨_, rfl⟩
 have k8 : Below W.heap.size W W8 := by rw [← hW8]; exact hH6.alloc hH6.size _
 have m8 : BlockIs W8 W6.heap.size (mayA W.heap.size W4.heap.size W5.heap.size) 166 := by rw [← hW8]; exact BlockIs.new _ _ _
 have c7 : BlockIs W4 W.heap.size #[.int .i64 7] 3 := by rw [HW4.out]; exact BlockIs.new W.drew _ _
 have c10 : BlockIs W5 W4.heap.size #[.int .i64 10] 3 := by rw [HW5.out]; exact BlockIs.new W4 _ _
 have c12 : BlockIs W6 W5.heap.size #[.int .i64 12] 3 := by rw [HW6.out]; exact BlockIs.new W5 _ _
 have c7 : BlockIs W5 W.heap.size #[.int .i64 7] 3 := by rw [HW5.out]; exact c7.alloc _
 have c7 : BlockIs W6 W.heap.size #[.int .i64 7] 3 := by rw [HW6.out]; exact c7.alloc _
 have c10 : BlockIs W6 W4.heap.size #[.int .i64 10] 3 := by rw [HW6.out]; exact c10.alloc _
 have c7 : BlockIs W8 W.heap.size #[.int .i64 7] 3 := by rw [← hW8]; exact c7.alloc _
 have c10 : BlockIs W8 W4.heap.size #[.int .i64 10] 3 := by rw [← hW8]; exact c10.alloc _
 have c12 : BlockIs W8 W5.heap.size #[.int .i64 12] 3 := by rw [← hW8]; exact c12.alloc _
 change Calls _ _ #[_, .slice (some ⟨W6.heap.size, 0, none⟩) 6 6] (W6.alloc (.cells (mayA W.heap.size W4.heap.size W5.heap.size) 166)) _
 rw [hW8]
 refine (rows_ok c gb 3 N (cb - 3) W6.heap.size W.heap.size W4.heap.size W5.heap.size W8 HH.out HNN.out.symm (by omega) (by omega) (range_keep HR3.out k8) m8 (c7.cell rfl) (c10.cell rfl) (c12.cell rfl)).mono ?_; rintro e W9 ⟨out, vs, rfl, hout, hvl, hvs, hb9⟩
 refine hKK.out _ _ (keepB k8 hb9 (Nat.le_refl _)) (fun hH9 => ?_)
 clear hKK KK c7 c10 c12 m8
 try simp only [pt]
 refine tkH 10 ?_
 try simp only [pt]
 refine tkH 11 ?_
 try simp only [pt]
 refine tkH 12 ?_
 try simp only [pt]
 refine tkH 13 ?_
 try simp only [pt]
 refine tkH 14 ?_
 try simp only [pt]
 refine wpAnyH_done (by kernel_rfl) ?_ _
 have hW8s : W.heap.size ≤ W8.heap.size := k8.size
 have hrm : RowsM W9 out c (fun i => vs.getD i undef) := by
  have hget : ∀ i (r : List Int), (rowsL c)[i]? = some r → W9.ownsRow W8.heap.size 3 1 (vs.getD i undef) r.length (r.map (.int .i64)) := by
   intro i r hr
   have hi : i < 6 := by have := (List.getElem?_eq_some_iff.1 hr).1; simpa [rowsL] using this
   refine hvs i _ r ?_ hr
   rw [List.getD_eq_getElem?_getD, List.getElem?_eq_getElem (by omega)]; rfl
  refine ⟨?_, own_rd (hget 0 (row1 c) rfl), own_rd (hget 1 c.st rfl), own_rd (hget 2 (row3 c) rfl), own_rd (hget 3 (row4 c) rfl), own_rd (hget 4 (row5 c) rfl), own_rd (hget 5 (row6 c) rfl)⟩
  obtain ⟨gl, ol, cl, rfl, hcl, hrl⟩ := Rd.some (own_rd hout) (by omega)
  refine ⟨gl, ol, cl, rfl, hcl, ?_⟩
  have : vs = [vs.getD 0 undef, vs.getD 1 undef, vs.getD 2 undef, vs.getD 3 undef, vs.getD 4 undef, vs.getD 5 undef] := by
   match vs, hvl with
   | [_, _, _, _, _, _], _ => rfl
  rw [← this]; exact hrl
 have hv1 : W9.ownsRow W8.heap.size 3 1 (vs.getD 1 undef) c.st.length (c.st.map (.int .i64)) := hvs 1 _ c.st (by
  rw [List.getD_eq_getElem?_getD, List.getElem?_eq_getElem (by omega)]; rfl) rfl
 obtain ⟨p1, q1, e1⟩ := (own_rd hv1).form
 have hws : w.heap.size < W.heap.size := HBZ.out.lt
 have V1 := Lib.hid hv1
 have B9 := Lib.hid (keepB HBB.out (hH9.mono (Nat.le_refl _)) (Nat.le_refl _))
 have Z9 := Lib.hid (HBZ.out.below hH9 hws)
 have HR := Lib.hid hrm
 have HE1 := Lib.hid e1
 have hs9 : W8.heap.size ≤ W9.heap.size := hb9.size
 clear hv1 hrm hvs hout hvl HR3 HBB HBZ HW4 HW5 HW6 hH9 hH8 hb9 k8 y0 y1 y2 hcv hW8 hH4 hH5 hH6 hHeld e1
 go_wp2_with fail
 refine (eis_nil _ _ ⟨_, _, rfl⟩).mono ?_; rintro e w' ⟨rfl, rfl⟩
 go_wp2_with fail
 refine (build_ok c out _ W9 HH.out HR.out).mono ?_; rintro e W10 ⟨vw', rfl, hvw, hb10⟩
 obtain ⟨p2, q2, rfl⟩ := (own_rd hvw).form
 rw [HE1.out] at V1 ⊢
 have V1' := Lib.hid (own_below V1.out hb10)
 have VW := Lib.hid hvw
 have B10 := Lib.hid (keepB B9.out hb10 (Nat.le_refl _))
 have Z10 := Lib.hid (Z9.out.below hb10 Z9.out.lt)
 have hs10 := hb10.size
 have hz9 := Z9.out.lt
 have hb8 : W8.heap.size ≤ W9.heap.size := hs9
 have X := Lib.hid (show (Below W10.heap.size W10 ((W10.alloc (.cells cfgZ 33)).setRow W10.heap.size (cfgA c (.slice p1 c.st.length q1) (.slice p2 1 q2)))) from below_setRow ((Below.refl _ _).alloc (Nat.le_refl _) _) (Nat.le_refl _) _)
 have XB := Lib.hid (show BlockIs ((W10.alloc (.cells cfgZ 33)).setRow W10.heap.size (cfgA c (.slice p1 c.st.length q1) (.slice p2 1 q2))) W10.heap.size (cfgA c (.slice p1 c.st.length q1) (.slice p2 1 q2)) 33 from (BlockIs.new W10 cfgZ 33).row _)
 clear hb10 hvw HE1 HR Z9 B9 V1
 go_wp2_with (first
  | ((with_reducible show wpList _ _ _ _ _ _); refine ws_box (.tmp 10) (.tmp 67) c (.slice p1 c.st.length q1) (.slice p2 1 q2) W10.heap.size cfgZ 33 rfl rfl rfl rfl (BlockIs.new _ _ _) rfl rfl rfl ?_)
  | ((with_reducible show wpList _ _ _ _ _ _); refine wl_box (.tmp 10) c (.slice p1 c.st.length q1) (.slice p2 1 q2) W10.heap.size 33 rfl rfl rfl XB.out ?_))
 have hm11 : CfgM ((W10.alloc (.cells cfgZ 33)).setRow W10.heap.size (cfgA c (.slice p1 c.st.length q1) (.slice p2 1 q2))) c (.slice p1 c.st.length q1) (.slice p2 1 q2) := ⟨(own_rd V1'.out).below X.out, (own_rd VW.out).below X.out⟩
 refine (kCheck_ok c _ _ _ HH.out hm11).mono ?_; rintro e W12 ⟨rfl, hb12⟩
 have X12 := Lib.hid (keepB X.out hb12 (Nat.le_refl _))
 have XB12 := Lib.hid (XB.out.kept hb12)
 have Z12 := Lib.hid (Z10.out.below X12.out (by omega))
 clear hm11 hb12 X XB Z10
 go_wp2_with (first
  | ((with_reducible show wpList _ _ _ _ _ _); refine wl_box (.tmp 10) c (.slice p1 c.st.length q1) (.slice p2 1 q2) W10.heap.size 33 rfl rfl rfl XB12.out ?_)
  | ((with_reducible show wpList _ _ _ _ _ _); refine ws_box (.tmp 2) (.tmp 74) c (.slice p1 c.st.length q1) (.slice p2 1 q2) w.heap.size cfgZ 33 rfl rfl rfl rfl Z12.out rfl rfl rfl ?_))
 have V12 := own_below V1'.out X12.out
 have VW12 := own_below VW.out X12.out
 have B12 := keepB B10.out X12.out (Nat.le_refl _)
 refine bodyPost_ret (v := .tuple #[.agg (cfgA c (.slice p1 c.st.length q1) (.slice p2 1 q2)), .int .i64 0]) ?_ rfl ⟨_, _, rfl, ?_, ?_, below_setRow B12 (Nat.le_refl _) _⟩
 ·refine res_cell_tmp (p := 2) (u := 3) ?_ _ _ w.heap.size 33 (cfgA c (.slice p1 c.st.length q1) (.slice p2 1 q2)) _ ?_ (Z12.out.row _) Tryz.underlying33 rfl cfg_info
  all_goals rfl
 ·exact ((Turn.setRow (T := fun k => k = w.heap.size) (Turn.refl _ _) rfl _).own V12 (fun k hk => by have := (V12.lt k hk).1; omega)).mono (base' := w.heap.size) (by omega)
 ·exact ((Turn.setRow (T := fun k => k = w.heap.size) (Turn.refl _ _) rfl _).own VW12 (fun k hk => by have := (VW12.lt k hk).1; omega)).mono (base' := w.heap.size) (by omega)
theorem int_info0 : (Tryz.prog.info? 3).map (fun i => (i.zero, i.size, i.bytes)) = some (some (.int .i64 0), 1, 8) := by kernel_rfl
theorem own_block {w : World} {g : Nat} {cs : List Value} {t : TypeId} (n B : Nat) (h : BlockIs w g cs.toArray t) (hn : cs.length = n) (hB : B ≤ g) (hm : n ≤ 1000000) : w.ownsRow B t 1 (.slice (some ⟨g, 0, none⟩) n n) n cs :=
 ⟨by omega, .inr ⟨g, n, cs.toArray, rfl, hB, h, Nat.le_refl _, by unfold maxLen; omega, by simpa using hn, by simp only [List.toList_toArray]; exact List.take_of_length_le (by omega)⟩⟩
theorem block_read {w : World} {g : Nat} {cs : Array Value} {t : TypeId} (h : BlockIs w g cs t) : w.rangeAt g 0 cs.toList := fun j v hv => by
 rw [Nat.zero_add]; exact h.cell (by simpa using hv)
theorem block_rd {w : World} {g : Nat} {cs : Array Value} {t : TypeId} (n : Nat) (h : BlockIs w g cs t) (hn : cs.size = n) (h0 : 0 < n) : Rd w (.slice (some ⟨g, 0, none⟩) n n) n cs.toList :=
 .inr ⟨h0, g, 0, n, rfl, Nat.le_refl _, block_read h⟩
def turnA (a b c d : Int) : Array Value := #[.int .i64 a, .int .i64 b, .int .i64 c, .int .i64 d]
theorem turn_info : (Tryz.prog.info? 26).map (·.size) = some 4 := by kernel_rfl
theorem load_turn_x {op : Oper} {a : Act} (y : Operand) (p q r s : Int) (b o : Nat) (ho : op.op = .load 26 y) (hx : a.eval y = .pointer (some ⟨b, o, none⟩)) (w : World)
  (hS : w.rangeAt b o (turnA p q r s).toList) : (execOp a.eval op).run Tryz.prog w = .ok (.value (.agg (turnA p q r s))) w := by
 have := run_loadAt_mid (P := Tryz.prog) w b o 26 (turnA p q r s).toList _ hS Tryz.underlying26 rfl turn_info
 unfold execOp
 simp only [ho, hx]
 simp [Sem.run_bind, this]
def timesA (c : Cfg) : Array Value := #[.int .i64 c.tv, .int .i64 c.lv, .int .i64 c.op, .int .i64 c.dw, .int .i64 c.ld, .int .i64 c.cl, .int .i64 c.ho]
def sunL (c : Cfg) : List Value := (row5 c).map (.int .i64)
theorem sun_at (c : Cfg) (k : Nat) (h : k < 12) : (sunL c)[k]? = some (.int .i64 (c.f k)) := by
 match k, h with
 | 0, _ | 1, _ | 2, _ | 3, _ | 4, _ | 5, _ | 6, _ | 7, _ | 8, _ | 9, _ | 10, _ | 11, _ => rfl
def SunI (c : Cfg) (w0 : World) (out iv : Value) (wr : World) : Prop :=
 ∃ k : Nat, k ≤ 12 ∧ iv = .int .i64 (k : Int) ∧ wr.ownsRow w0.heap.size 3 1 out k ((sunL c).take k) ∧ Below w0.heap.size w0 wr
def WinI (c : Cfg) (w0 : World) (out iv : Value) (wr : World) : Prop :=
 ((iv = .int .i64 0 ∧ out = .slice none 0 0) ∨ (iv = .int .i64 1 ∧ wr.ownsRow w0.heap.size 3 1 out 7 ((row6 c).map (.int .i64)))) ∧ Below w0.heap.size w0 wr
def TurnP (w : World) (a b c d : Int) (e : Ending) (w' : World) : Prop :=
 e = .returned (.slice (some ⟨w.heap.size + 1, 0, none⟩) 4 4) ∧ w' = (w.alloc (.cells #[.int .i64 a, .int .i64 b, .int .i64 c, .int .i64 d] 26)).alloc (.cells #[.int .i64 a, .int .i64 b, .int .i64 c, .int .i64 d] 3)
theorem rturn_ok (a b c d : Int) (w : World) : Calls Tryz.prog 81 #[.agg (turnA a b c d)] w (TurnP w a b c d) := by
 unfold TurnP turnA
 go_enter Tryz.func81, Tryz.ntmps81
 go_wp2
 go_ret
 exact ⟨rfl, rfl⟩
theorem cturn_ok (a b c d : Int) (w : World) : Calls Tryz.prog 37 #[.agg (turnA a b c d)] w (TurnP w a b c d) := by
 unfold TurnP turnA
 go_enter Tryz.func37, Tryz.ntmps37
 go_wp2
 go_ret
 exact ⟨rfl, rfl⟩
theorem row_new {w : World} (o1 o2 : Obj) (cs : List Value) (t : TypeId) (h : o2 = .cells cs.toArray t) : ∀ j u, cs[j]? = some u → ((w.alloc o1).alloc o2).cell? ((⟨w.heap.size + 1, 0, none⟩ : Addr).add j) = some u := fun j u hu => by
 rw [Addr.add_mid, Nat.zero_add, h]
 have := (BlockIs.new (w.alloc o1) cs.toArray t).cell (i := j) (v := u) (by simpa using hu)
 simpa using this
set_option maxRecDepth 100000 in
theorem rrows_ok (c : Cfg) (vs vw : Value) (w : World) (h : CfgOk c) (hm : CfgM w c vs vw) :
  Calls Tryz.prog 44 #[.agg (cfgA c vs vw)] w fun e w' => ∃ l v, e = .returned l ∧ RowsM w' l c v ∧ Below w.heap.size w w' := by
 obtain ⟨i0, hi0, hz0, hz1, hz2⟩ := info_hid int_info0
 obtain ⟨ps, qs, rfl⟩ := hm.s.form
 obtain ⟨bw, ow, cw, rfl, hcw, hrw⟩ := hm.w.some (by omega)
 have bz := BlockIs.new w (cfgA c (.slice ps c.st.length qs) (.slice (some ⟨bw, ow, none⟩) 1 cw)) 33
 have HB0 := (Below.refl w.heap.size w).alloc (Nat.le_refl _) (.cells (cfgA c (.slice ps c.st.length qs) (.slice (some ⟨bw, ow, none⟩) 1 cw)) 33)
 have e35 : (w.alloc (.cells (cfgA c (.slice ps c.st.length qs) (.slice (some ⟨bw, ow, none⟩) 1 cw)) 33)).cell? ⟨w.heap.size, 35, none⟩ = some (.bool c.ab) := bz.cell rfl
 obtain ⟨W0, hW0⟩ : ∃ W0, w.alloc (.cells (cfgA c (.slice ps c.st.length qs) (.slice (some ⟨bw, ow, none⟩) 1 cw)) 33) = W0 := ⟨_, rfl⟩
 rw [hW0] at bz HB0
 have HM := Lib.hid (hm.below HB0)
 have hr := cfg_range bz
 have hr4 : W0.rangeAt w.heap.size 4 (timesA c).toList := by have := sub_range 4 7 hr; rw [Nat.zero_add] at this; exact this
 have HH := Lib.hid h
 have HRW := Lib.hid (range_keep hrw (Below.refl w.heap.size w))
 clear hrw
 have HW0 := Lib.hid hW0
 have BZ := Lib.hid bz
 have HBB := Lib.hid HB0
 clear hm h hW0 bz HB0 hr
 go_enter Tryz.func44, Tryz.ntmps44
 go_upto_if 14 with fail
 change Code.wp _ _ _ _ (w.alloc (.cells (cfgA c (.slice ps c.st.length qs) (.slice (some ⟨bw, ow, none⟩) 1 cw)) 33))
 rw [HW0.out]
 go_cut [3] (fun x wc => x = .int .i64 (abI c.ab) ∧ wc = W0)
 case first =>
  go_wp2_with fail
  all_goals (go_meet; exact ⟨by simp_all [abI], rfl⟩)
 case rest =>
  obtain ⟨rfl, rfl⟩ := hcut
  clear e35
  go_upto_region 5 with ((with_reducible show wpList _ _ _ _ _ _); refine wpList_load_mid rfl 24 (.tmp 15) rfl w.heap.size 4 rfl [.int .i64 c.tv, .int .i64 c.lv, .int .i64 c.op, .int .i64 c.dw, .int .i64 c.ld, .int .i64 c.cl, .int .i64 c.ho] _ hr4 Tryz.underlying24 rfl times_info ?_)
  have k0 := HBB.out.alloc HBB.out.size (.cells (timesA c) 24)
  have k1 := BlockIs.new wc (timesA c) 24
  have k2 := BZ.out.alloc (.cells (timesA c) 24)
  have hwc := BZ.out.lt
  obtain ⟨W4, hW4⟩ : ∃ W4, wc.alloc (.cells (timesA c) 24) = W4 := ⟨_, rfl⟩
  rw [hW4] at k0 k1 k2
  have HM4 : Hid (CfgM W4 c (.slice ps c.st.length qs) (.slice (some ⟨bw, ow, none⟩) 1 cw)) := Lib.hid (HM.out.below (by rw [← hW4]; exact (Below.refl _ _).alloc (Nat.le_refl _) _))
  obtain ⟨T, hT⟩ : ∃ T, wc.heap.size = T := ⟨_, rfl⟩
  change Code.wp _ _ _ _ (wc.alloc (.cells (timesA c) 24))
  rw [hW4, hT]
  rw [hT] at k1 hwc
  have hT4 : T < W4.heap.size := k1.lt
  have K0 := Lib.hid k0
  have K1 := Lib.hid k1
  have K2 := Lib.hid k2
  clear hr4 HM HW0 BZ HBB k0 k1 k2 hW4 hT
  go_cut [5] (fun x wc => wc.ownsRow W4.heap.size 3 1 x 6 ([c.z.b, c.z.s, c.z.m, c.z.k, c.z.d, c.z.t].map (.int .i64)) ∧ Below W4.heap.size W4 wc)
  case first =>
   have hr := cfg_range K2.out
   have hS : ∀ W', Below W4.heap.size W4 W' → (fun W' => W'.cell? ⟨w.heap.size, 13, none⟩ = some (.int .i64 c.z.b) ∧ W'.cell? ⟨w.heap.size, 14, none⟩ = some (.int .i64 c.z.s) ∧ W'.rangeAt w.heap.size 15 (turnA c.z.m c.z.k c.z.d c.z.t).toList ∧ Below W4.heap.size W4 W') W' := fun W' h => by
    have hr' := range_keep hr h
    exact ⟨by have := hr' 13 _ rfl; rwa [Nat.zero_add] at this, by have := hr' 14 _ rfl; rwa [Nat.zero_add] at this, by have := sub_range 15 4 hr'; rw [Nat.zero_add] at this; exact this, h⟩
   have HS := Lib.hid hS
   clear hS hr
   refine wp_region_held_drew (S := (fun W' => W'.cell? ⟨w.heap.size, 13, none⟩ = some (.int .i64 c.z.b) ∧ W'.cell? ⟨w.heap.size, 14, none⟩ = some (.int .i64 c.z.s) ∧ W'.rangeAt w.heap.size 15 (turnA c.z.m c.z.k c.z.d c.z.t).toList ∧ Below W4.heap.size W4 W')) (by kernel_rfl) (HS.out _ (Below.refl _ _).drew) (fun hHeld => ?_)
   refine tkH 0 ?_
   try simp only [pt]
   refine tkH 1 ?_
   try simp only [pt]
   refine tkH 2 ?_
   try simp only [pt]
   refine tkH 3 ?_
   try simp only [pt]
   refine tkH 4 ?_
   try simp only [pt]
   refine tkH 5 ?_
   try simp only [pt]
   refine tkH 7 ?_
   try simp only [pt]
   refine tkH 8 ?_
   try simp only [pt]
   refine tkH 9 ?_ (hy := by (intro W9 hSw; (try dsimp only at hSw); refine load_turn_x (.tmp 25) c.z.m c.z.k c.z.d c.z.t w.heap.size 15 ?_ ?_ W9 hSw.2.2.1 <;> rfl))
   try simp only [pt]
   refine rdy [6, 10] ?_
   refine' arC rfl (fun KK hKK => ?xs6) (arC rfl (fun KK hKK => ?xs10) AllReadyH.nil)
   case xs6 =>
    go_simp
    refine hKK.out _ _ (HS.out _ ((Below.refl W4.heap.size W4).drew.alloc (Nat.le_refl _) (.cells #[.int .i64 c.z.b, .int .i64 c.z.s] 3))) (fun hA1 => ?_)
    clear hKK KK
    try simp only [pt]
    have a1 := ((Below.refl W4.heap.size W4).alloc (Nat.le_refl _) (.cells #[.int .i64 c.z.b, .int .i64 c.z.s] 3)).drew
    have a2 : BlockIs (W4.alloc (.cells #[.int .i64 c.z.b, .int .i64 c.z.s] 3)).drew W4.heap.size [.int .i64 c.z.b, .int .i64 c.z.s].toArray 3 := BlockIs.new W4 _ _
    obtain ⟨Wa, hWa⟩ : ∃ Wa, (W4.alloc (.cells #[.int .i64 c.z.b, .int .i64 c.z.s] 3)).drew = Wa := ⟨_, rfl⟩
    rw [hWa] at a1 a2
    rw [hWa]
    clear hWa
    refine rdy [10] ?_
    refine' arC rfl (fun KK hKK => ?a10) AllReadyH.nil
    case a10 =>
    go_simp
    refine (rturn_ok c.z.m c.z.k c.z.d c.z.t Wa).mono ?_; rintro e Wb ⟨rfl, hWb⟩
    have b1 : Below W4.heap.size W4 Wb := by rw [hWb]; exact (a1.alloc a1.size _).alloc (by have := a1.size; simp; omega) _
    have b2 : BlockIs Wb (Wa.heap.size + 1) #[.int .i64 c.z.m, .int .i64 c.z.k, .int .i64 c.z.d, .int .i64 c.z.t] 3 := by rw [hWb]; have := BlockIs.new (Wa.alloc (.cells #[.int .i64 c.z.m, .int .i64 c.z.k, .int .i64 c.z.d, .int .i64 c.z.t] 26)) #[.int .i64 c.z.m, .int .i64 c.z.k, .int .i64 c.z.d, .int .i64 c.z.t] 3; simpa using this
    have b3 : BlockIs Wb W4.heap.size [.int .i64 c.z.b, .int .i64 c.z.s].toArray 3 := by rw [hWb]; exact (a2.alloc _).alloc _
    have b4 := own_block 2 W4.heap.size b3 rfl (Nat.le_refl _) (by omega)
    clear hWb b3
    refine hKK.out _ _ (HS.out _ b1) (fun hA2 => ?_)
    clear hKK KK
    try simp only [pt]
    refine rdy [11] ?_
    refine' arC rfl (fun KK hKK => ?a11) AllReadyH.nil
    case a11 =>
    refine wp_append_lies _ (.tmp 23) (.tmp 27) 22 rfl W4.heap.size 3 i0 (.int .i64 0) 1 8 Tryz.underlying22 (hi0 ()) hz0 hz1 hz2 rfl (by decide) _ 2 [.int .i64 c.z.b, .int .i64 c.z.s] rfl b4 ⟨Wa.heap.size + 1, 0, none⟩ 4 4 [.int .i64 c.z.m, .int .i64 c.z.k, .int .i64 c.z.d, .int .i64 c.z.t] rfl rfl (fun j v hv => by rw [Addr.add_mid, Nat.zero_add]; exact b2.cell (by simpa using hv)) (by intro u hu; simp at hu; rcases hu with e | e | e | e <;> subst e <;> rfl) (by omega) (by unfold maxLen; omega) (by omega) b1.size _ rfl ?_
    intro g5 cap5 w5 h5 hg5 hor5 hlt5
    have hB5 := b1.grown hg5 b1.size (fun k e => (b4.lt k e).1)
    refine hKK.out _ _ (HS.out _ hB5) (fun _ => ?_)
    clear hKK KK
    try simp only [pt]
    refine tkH 12 ?_
    try simp only [pt]
    refine wpAnyH_done (by kernel_rfl) ?_ _
    go_wp2_with fail
    go_meet
    exact ⟨by simpa using h5, hB5⟩
   case xs10 =>
    go_simp
    refine (rturn_ok c.z.m c.z.k c.z.d c.z.t W4.drew).mono ?_; rintro e Wb ⟨rfl, hWb⟩
    have b1 : Below W4.heap.size W4 Wb := by rw [hWb]; exact ((Below.refl W4.heap.size W4).drew.alloc (Nat.le_refl _) _).alloc (by simp) _
    have b2 : BlockIs Wb (W4.heap.size + 1) #[.int .i64 c.z.m, .int .i64 c.z.k, .int .i64 c.z.d, .int .i64 c.z.t] 3 := by rw [hWb]; have := BlockIs.new (W4.drew.alloc (.cells #[.int .i64 c.z.m, .int .i64 c.z.k, .int .i64 c.z.d, .int .i64 c.z.t] 26)) #[.int .i64 c.z.m, .int .i64 c.z.k, .int .i64 c.z.d, .int .i64 c.z.t] 3; simpa using this
    clear hWb
    refine hKK.out _ _ (HS.out _ b1) (fun hA2 => ?_)
    clear hKK KK
    try simp only [pt]
    refine rdy [6] ?_
    refine' arC rfl (fun KK hKK => ?b6) AllReadyH.nil
    case b6 =>
    go_simp
    refine hKK.out _ _ (HS.out _ (b1.alloc b1.size (.cells #[.int .i64 c.z.b, .int .i64 c.z.s] 3))) (fun hA1 => ?_)
    clear hKK KK
    try simp only [pt]
    have d1 := b1.alloc b1.size (.cells #[.int .i64 c.z.b, .int .i64 c.z.s] 3)
    have d2 := b2.alloc (.cells #[.int .i64 c.z.b, .int .i64 c.z.s] 3)
    have d4 := own_block 2 W4.heap.size (show BlockIs (Wb.alloc (.cells #[.int .i64 c.z.b, .int .i64 c.z.s] 3)) Wb.heap.size [.int .i64 c.z.b, .int .i64 c.z.s].toArray 3 from BlockIs.new Wb _ _) rfl b1.size (by omega)
    obtain ⟨Wc, hWc⟩ : ∃ Wc, Wb.alloc (.cells #[.int .i64 c.z.b, .int .i64 c.z.s] 3) = Wc := ⟨_, rfl⟩
    rw [hWc] at d1 d2 d4
    rw [hWc]
    clear hWc
    refine rdy [11] ?_
    refine' arC rfl (fun KK hKK => ?b11) AllReadyH.nil
    case b11 =>
    refine wp_append_lies _ (.tmp 23) (.tmp 27) 22 rfl W4.heap.size 3 i0 (.int .i64 0) 1 8 Tryz.underlying22 (hi0 ()) hz0 hz1 hz2 rfl (by decide) _ 2 [.int .i64 c.z.b, .int .i64 c.z.s] rfl d4 ⟨W4.heap.size + 1, 0, none⟩ 4 4 [.int .i64 c.z.m, .int .i64 c.z.k, .int .i64 c.z.d, .int .i64 c.z.t] rfl rfl (fun j v hv => by rw [Addr.add_mid, Nat.zero_add]; exact d2.cell (by simpa using hv)) (by intro u hu; simp at hu; rcases hu with e | e | e | e <;> subst e <;> rfl) (by omega) (by unfold maxLen; omega) (by omega) d1.size _ rfl ?_
    intro g5 cap5 w5 h5 hg5 hor5 hlt5
    have hB5 := d1.grown hg5 d1.size (fun k e => (d4.lt k e).1)
    refine hKK.out _ _ (HS.out _ hB5) (fun _ => ?_)
    clear hKK KK
    try simp only [pt]
    refine tkH 12 ?_
    try simp only [pt]
    refine wpAnyH_done (by kernel_rfl) ?_ _
    go_wp2_with fail
    go_meet
    exact ⟨by simpa using h5, hB5⟩
  case rest =>
   obtain ⟨hz6, hB⟩ := hcut
   obtain ⟨g6, c6, rfl, hg6, _⟩ := hz6.form (by omega)
   have hr19 : wc.rangeAt w.heap.size 19 (turnA c.z.m' c.z.k' c.z.d' c.z.t').toList := by have := sub_range 19 4 (cfg_range (K2.out.below hB (by omega))); rw [Nat.zero_add] at this; exact this
   have HB := Lib.hid hB
   have HZ6 := Lib.hid hz6
   clear hB hz6
   go_wp2_with ((with_reducible show wpList _ _ _ _ _ _); refine wpList_load_mid rfl 26 (.tmp 31) rfl w.heap.size 19 rfl (turnA c.z.m' c.z.k' c.z.d' c.z.t').toList _ hr19 Tryz.underlying26 rfl turn_info ?_)
   refine (rturn_ok c.z.m' c.z.k' c.z.d' c.z.t' wc).mono ?_; rintro e Wb ⟨rfl, hWb⟩
   have q1 : Below wc.heap.size wc Wb := by rw [hWb]; exact ((Below.refl wc.heap.size wc).alloc (Nat.le_refl _) _).alloc (by simp) _
   have q2 : BlockIs Wb (wc.heap.size + 1) #[.int .i64 c.z.m', .int .i64 c.z.k', .int .i64 c.z.d', .int .i64 c.z.t'] 3 := by rw [hWb]; have := BlockIs.new (wc.alloc (.cells #[.int .i64 c.z.m', .int .i64 c.z.k', .int .i64 c.z.d', .int .i64 c.z.t'] 26)) #[.int .i64 c.z.m', .int .i64 c.z.k', .int .i64 c.z.d', .int .i64 c.z.t'] 3; simpa using this
   have q3 := own_below HZ6.out q1
   have q4 := keepB HB.out q1 (Nat.le_refl _)
   clear hWb q1 HB HZ6 hr19
   go_wp2_with (first | (at_builtin; refine wpList_append_lies _ rfl (.tmp 29) (.tmp 33) 22 rfl W4.heap.size 3 i0 (.int .i64 0) 1 8 Tryz.underlying22 (hi0 ()) hz0 hz1 hz2 rfl (by decide) _ 6 _ rfl q3 ⟨wc.heap.size + 1, 0, none⟩ 4 4 [.int .i64 c.z.m', .int .i64 c.z.k', .int .i64 c.z.d', .int .i64 c.z.t'] rfl rfl (fun j v hv => by rw [Addr.add_mid, Nat.zero_add]; exact q2.cell (by simpa using hv)) (by intro u hu; simp at hu; rcases hu with e | e | e | e <;> subst e <;> rfl) (by omega) (by unfold maxLen; omega) (by omega) q4.size _ rfl ?_; intro g5 cap5 w5 h5 hg5 hor5 hlt5))
   have h5 : w5.ownsRow W4.heap.size 3 1 (.slice (some ⟨g5, 0, none⟩) 10 cap5) 10 ((row4 c).map (.int .i64)) := by simpa [row4] using h5
   have B5 := q4.grown hg5 q4.size (fun k e => (q3.lt k e).1)
   have Z5 := Lib.hid h5
   have HB5 := Lib.hid B5
   clear h5 B5 q2 q3 q4 hg5 hor5
   have hst : ∀ out, out = .slice none 0 0 → SunI c w5 out (.int .i64 0) w5 := fun out e => ⟨0, by omega, rfl, by rw [e]; exact World.ownsRow_nil _ _ _ _, Below.refl _ _⟩
   have HST := Lib.hid hst
   clear hst
   go_loopw [6, 7] (fun out iv wr => SunI c w5 out iv wr) (fun _ iv _ => (12 - intOf iv).toNat)
   case atStart => exact HST.out _ rfl
   case round =>
    clear HST
    obtain ⟨k, hk, rfl, hown, hB⟩ := hrel
    have hkc : k = 12 ∨ k < 12 := by omega
    rcases hkc with e | hlt
    ·subst e
     obtain ⟨gS, cS, rfl, hgS1, hgS2⟩ := hown.form (by omega)
     obtain ⟨W9, hW9⟩ : ∃ W9, W9 = wr := ⟨_, rfl⟩
     subst hW9
     have HO := Lib.hid hown
     have HBL := Lib.hid hB
     clear hown hB
     rw [show (((12 : Nat)) : Int) = 12 from rfl]
     have hd : decide ((12 : Int) < 12) = false := by decide
     go_wp2_with fail
     have K6 := Lib.hid (keepB HB5.out HBL.out (Nat.le_refl _))
     have Z6 := Lib.hid (own_below Z5.out HBL.out)
     have hst : ∀ out, out = .slice none 0 0 → WinI c W9 out (.int .i64 0) W9 := fun out e => ⟨.inl ⟨rfl, e⟩, Below.refl _ _⟩
     have HST := Lib.hid hst
     clear hst HB5 HBL Z5
     go_loopw [8, 9, 10] (fun out iv _ w9 => WinI c W9 out iv w9) (fun _ iv _ _ => (1 - intOf iv).toNat)
     case atStart => exact HST.out _ rfl
     case round =>
      clear HST
      obtain ⟨hrel, hB⟩ := hrel
      have B9 := keepB K6.out hB (Nat.le_refl _)
      have b9 := K2.out.below B9 (by omega)
      have hcw := cfg_range b9
      have hc36 : _ = some _ := hcw 36 _ rfl
      rw [Nat.zero_add] at hc36
      rcases hrel with ⟨rfl, rfl⟩ | ⟨rfl, hown⟩
      ·have hrw9 : wr.rangeAt bw ow (wnA c.w).toList := range_keep HRW.out (K0.out.trans (B9.mono (by have := K0.out.size; omega)))
       have hs := hB.size
       clear hcw B9 b9
       go_wp2_with (first
        | ((with_reducible show wpList _ _ _ _ _ _); refine wpList_load_mid rfl 35 (.tmp 56) rfl bw ow rfl [.int .i64 c.w.k, .int .i64 c.w.m, .int .i64 c.w.p, .int .i64 c.w.a, .int .i64 c.w.s, .int .i64 c.w.mi, .int .i64 c.w.l] _ hrw9 Tryz.underlying35 rfl wn_info ?_)
        | (at_builtin; refine wpList_append_lies _ rfl (.tmp 58) (.tmp 73) 22 rfl W9.heap.size 3 i0 (.int .i64 0) 1 8 Tryz.underlying22 (hi0 ()) hz0 hz1 hz2 rfl (by decide) _ 0 [] rfl (World.ownsRow_nil _ _ _ _) ⟨wr.heap.size + 1, 0, none⟩ 7 7 ((row6 c).map (.int .i64)) rfl rfl (row_new _ _ _ _ rfl) (int_one _ _) (by omega) (by unfold maxLen; omega) (by omega) (by simp; omega) _ rfl ?_; intro g7 cap7 w7 h7 hg7 hor7 hlt7))
       refine ⟨⟨.inr ⟨rfl, by simpa using h7⟩, ((hB.alloc hs _).alloc (by simp; omega) _).grown hg7 (by simp; omega) (fun k e => by cases e)⟩, by simp [intOf]⟩
      ·obtain ⟨gV, cV, rfl, hgV1, hgV2⟩ := hown.form (by omega)
       have hrT := K1.out.below B9 hT4
       have t0 : ∀ o, (wr.alloc o).cell? ⟨T, 0, none⟩ = some (.int .i64 c.tv) := fun o => (hrT.alloc o).cell rfl
       have t1 : ∀ o, (wr.alloc o).cell? ⟨T, 1, none⟩ = some (.int .i64 c.lv) := fun o => (hrT.alloc o).cell rfl
       have t2 : ∀ o, (wr.alloc o).cell? ⟨T, 2, none⟩ = some (.int .i64 c.op) := fun o => (hrT.alloc o).cell rfl
       have t3 : ∀ o, (wr.alloc o).cell? ⟨T, 3, none⟩ = some (.int .i64 c.dw) := fun o => (hrT.alloc o).cell rfl
       have t4 : ∀ o, (wr.alloc o).cell? ⟨T, 4, none⟩ = some (.int .i64 c.ld) := fun o => (hrT.alloc o).cell rfl
       have t5 : ∀ o, (wr.alloc o).cell? ⟨T, 5, none⟩ = some (.int .i64 c.cl) := fun o => (hrT.alloc o).cell rfl
       have t6 : ∀ o, (wr.alloc o).cell? ⟨T, 6, none⟩ = some (.int .i64 c.ho) := fun o => (hrT.alloc o).cell rfl
       have s0 : wr.cell? ⟨w.heap.size, 0, none⟩ = some (.int .i64 c.fl) := b9.cell rfl
       have s1 : wr.cell? ⟨w.heap.size, 1, none⟩ = some (.int .i64 c.ca) := b9.cell rfl
       have s2 : wr.cell? ⟨w.heap.size, 2, none⟩ = some (.int .i64 c.pk) := b9.cell rfl
       have s3 : ∀ o o', ((wr.alloc o).alloc o').cell? ⟨w.heap.size, 3, none⟩ = some (.slice ps c.st.length qs) := fun o o' => ((b9.alloc o).alloc o').cell rfl
       have s11 : wr.cell? ⟨w.heap.size, 11, none⟩ = some (.int .i64 c.rs) := b9.cell rfl
       have s12 : wr.cell? ⟨w.heap.size, 12, none⟩ = some (.int .i64 c.pa) := b9.cell rfl
       have HOW := Lib.hid hown
       have HBL := Lib.hid hB
       clear hcw b9 hrT hown hB
       go_wp2_with fail
       have f1 := (Below.refl wr.heap.size wr).alloc (Nat.le_refl _) (.cells #[.int .i64 c.fl, .int .i64 c.ca, .int .i64 c.pk, .int .i64 c.rs, .int .i64 c.pa, .int .i64 (abI c.ab)] 3)
       have f2 := f1.alloc f1.size (.cells #[.int .i64 c.tv, .int .i64 c.lv, .int .i64 c.op, .int .i64 c.dw, .int .i64 c.ld, .int .i64 c.cl, .int .i64 c.ho] 3)
       have f3 := f2.alloc f2.size (.cells #[.slice (some ⟨wr.heap.size, 0, none⟩) 6 6, .slice ps c.st.length qs, .slice (some ⟨wr.heap.size + 1, 0, none⟩) 7 7, .slice (some ⟨g5, 0, none⟩) 10 cap5, .slice (some ⟨gS, 0, none⟩) 12 cS, .slice (some ⟨gV, 0, none⟩) 7 cV] 22)
       have d1 := ((BlockIs.new wr #[.int .i64 c.fl, .int .i64 c.ca, .int .i64 c.pk, .int .i64 c.rs, .int .i64 c.pa, .int .i64 (abI c.ab)] 3).alloc (.cells #[.int .i64 c.tv, .int .i64 c.lv, .int .i64 c.op, .int .i64 c.dw, .int .i64 c.ld, .int .i64 c.cl, .int .i64 c.ho] 3)).alloc (.cells #[.slice (some ⟨wr.heap.size, 0, none⟩) 6 6, .slice ps c.st.length qs, .slice (some ⟨wr.heap.size + 1, 0, none⟩) 7 7, .slice (some ⟨g5, 0, none⟩) 10 cap5, .slice (some ⟨gS, 0, none⟩) 12 cS, .slice (some ⟨gV, 0, none⟩) 7 cV] 22)
       have d2 := (BlockIs.new (wr.alloc (.cells #[.int .i64 c.fl, .int .i64 c.ca, .int .i64 c.pk, .int .i64 c.rs, .int .i64 c.pa, .int .i64 (abI c.ab)] 3)) #[.int .i64 c.tv, .int .i64 c.lv, .int .i64 c.op, .int .i64 c.dw, .int .i64 c.ld, .int .i64 c.cl, .int .i64 c.ho] 3).alloc (.cells #[.slice (some ⟨wr.heap.size, 0, none⟩) 6 6, .slice ps c.st.length qs, .slice (some ⟨wr.heap.size + 1, 0, none⟩) 7 7, .slice (some ⟨g5, 0, none⟩) 10 cap5, .slice (some ⟨gS, 0, none⟩) 12 cS, .slice (some ⟨gV, 0, none⟩) 7 cV] 22)
       have d3 := BlockIs.new ((wr.alloc (.cells #[.int .i64 c.fl, .int .i64 c.ca, .int .i64 c.pk, .int .i64 c.rs, .int .i64 c.pa, .int .i64 (abI c.ab)] 3)).alloc (.cells #[.int .i64 c.tv, .int .i64 c.lv, .int .i64 c.op, .int .i64 c.dw, .int .i64 c.ld, .int .i64 c.cl, .int .i64 c.ho] 3)) #[.slice (some ⟨wr.heap.size, 0, none⟩) 6 6, .slice ps c.st.length qs, .slice (some ⟨wr.heap.size + 1, 0, none⟩) 7 7, .slice (some ⟨g5, 0, none⟩) 10 cap5, .slice (some ⟨gS, 0, none⟩) 12 cS, .slice (some ⟨gV, 0, none⟩) 7 cV] 22
       rw [show (wr.alloc (.cells #[.int .i64 c.fl, .int .i64 c.ca, .int .i64 c.pk, .int .i64 c.rs, .int .i64 c.pa, .int .i64 (abI c.ab)] 3)).heap.size = wr.heap.size + 1 by simp] at d2
       rw [show ((wr.alloc (.cells #[.int .i64 c.fl, .int .i64 c.ca, .int .i64 c.pk, .int .i64 c.rs, .int .i64 c.pa, .int .i64 (abI c.ab)] 3)).alloc (.cells #[.int .i64 c.tv, .int .i64 c.lv, .int .i64 c.op, .int .i64 c.dw, .int .i64 c.ld, .int .i64 c.cl, .int .i64 c.ho] 3)).heap.size = wr.heap.size + 1 + 1 by simp] at d3
       have m9 := keepB B9 f3 (Nat.le_refl _)
       refine bodyPost_ret (v := .slice (some ⟨wr.heap.size + 1 + 1, 0, none⟩) 6 6) (by simp [results, Tryz.results44, go_sem]) rfl ⟨_, fun i => [Value.slice (some ⟨wr.heap.size, 0, none⟩) 6 6, .slice ps c.st.length qs, .slice (some ⟨wr.heap.size + 1, 0, none⟩) 7 7, .slice (some ⟨g5, 0, none⟩) 10 cap5, .slice (some ⟨gS, 0, none⟩) 12 cS, .slice (some ⟨gV, 0, none⟩) 7 cV].getD i undef, rfl, ⟨⟨_, 0, 6, rfl, Nat.le_refl _, block_read d3⟩, block_rd 6 d1 rfl (by omega), ?_, block_rd 7 d2 rfl (by omega), ?_, ?_, ?_⟩, K0.out.trans (m9.mono K0.out.size)⟩
       ·exact HM4.out.s.below m9
       ·exact own_rd (own_below (own_below Z6.out HBL.out) f3)
       ·have := own_rd (own_below (own_below HO.out HBL.out) f3)
        exact this
       ·exact own_rd (own_below HOW.out f3)
    ·have hd : decide ((k : Int) < 12) = true := by simp; omega
     have hc23 : wr.cell? ⟨w.heap.size, 23 + k, none⟩ = some (.int .i64 (c.f k)) := by
      have := range_keep (cfg_sun (cfg_range (K2.out.below HB5.out (by omega)))) hB
      exact this k _ (by have := sun_at c k hlt; exact this)
     have hs := hB.size
     have hol := hown.alloc (.cells #[.int .i64 (c.f k)] 3)
     go_wp2_with (first | (at_builtin; refine wpList_append_lies _ rfl (.tmp 39) (.tmp 44) 22 rfl w5.heap.size 3 i0 (.int .i64 0) 1 8 Tryz.underlying22 (hi0 ()) hz0 hz1 hz2 rfl (by decide) _ k _ rfl hol ⟨wr.heap.size, 0, none⟩ 1 1 [.int .i64 (c.f k)] rfl rfl (cell_one_new _ _ _) (by intro u hu; simp at hu; subst hu; rfl) (by omega) (by unfold maxLen; omega) (by omega) (by simp; omega) _ rfl ?_; intro g7 cap7 w7 h7 hg7 hor7 hlt7))
     refine ⟨⟨k + 1, by omega, by simp, by rw [List.take_add_one, sun_at c k hlt]; exact h7, (hB.alloc hs _).grown hg7 (by simp; omega) (fun k e => (hol.lt k e).1)⟩, by simp [intOf]; omega⟩
end Go.Proofs.YtfnifgppblbjhaaGreatDoor
