/- Part of the proof of TopHoly. -/
import Derived.Test.YtfnifgppblbjhaaGreatDoorY12
import Derived.Test.YtfnifgppblbjhaaGreatDoorY13
import Derived.LaidEql
import Derived.Laws.EntriesVeiled
import Derived.Laws.Tables
import Derived.Stop.IfaceNil
namespace Go.Proofs.YtfnifgppblbjhaaGreatDoor
set_option maxHeartbeats 8000000
open Go Go.RowKit
set_option linter.unusedVariables false
set_option linter.unusedSimpArgs false
theorem wl_box {ops : Array Oper} {rest : List Oper} {op : Oper} {a : Act} {W : World} {Q : Exit → Act → World → Prop} (y : Operand) (c : Cfg) (vs vw : Value) (b : Nat) (t : TypeId) (ho : op.op = .load 33 y) (hw : Region.wanted op (yielded ops a.tmps) = true)
  (hx : a.eval y = .pointer (some ⟨b, 0, none⟩)) (hc : BlockIs W b (cfgA c vs vw) t) (h : wpList Tryz.prog ops Q rest (a.put op.dst (.agg (cfgA c vs vw))) W) : wpList Tryz.prog ops Q (op :: rest) a W :=
 BigFrame.wpList_want hw fun K hK => wp_load_row 33 y ho b hx t (cfgA c vs vw) (0, 0) _ hc Tryz.underlying33 rfl cfg_info (hK _ _ h)
theorem cfg_one (c : Cfg) (vs vw : Value) (h1 : vs.oneCell' = true) (h2 : vw.oneCell' = true) : (cfgA c vs vw).all (·.oneCell') = true := by
 unfold cfgA
 simp [Value.oneCell']
 exact ⟨h1, h2⟩
theorem ws_box {ops : Array Oper} {rest : List Oper} {op : Oper} {a : Act} {W : World} {Q : Exit → Act → World → Prop} (x y : Operand) (c : Cfg) (vs vw : Value) (b : Nat) (old : Array Value) (t : TypeId) (ho : op.op = .store 33 x y) (hw : Region.wanted op (yielded ops a.tmps) = true)
  (hx : a.eval x = .pointer (some ⟨b, 0, none⟩)) (hy : a.eval y = .agg (cfgA c vs vw)) (hc : BlockIs W b old t) (hs : old.size = 37) (h1 : vs.oneCell' = true) (h2 : vw.oneCell' = true)
  (h : wpList Tryz.prog ops Q rest (a.put op.dst undef) (W.setRow b (cfgA c vs vw))) : wpList Tryz.prog ops Q (op :: rest) a W :=
 BigFrame.wpList_want hw fun K hK => wp_store_row 33 x y ho b (cfgA c vs vw) hx hy t old hc cfg_info hs (cfg_one c vs vw h1 h2) (hK _ _ h)
theorem res_cfg {fn : Func} {p : Tmp} (h : fn.results = #[.cell p 33]) (tmps : Array Value) (W : World) (b : Nat) (t : TypeId) (c : Cfg) (vs vw : Value) (hp : tmps.getD p undef = .pointer (some ⟨b, 0, none⟩)) (hc : BlockIs W b (cfgA c vs vw) t) :
  (results fn tmps).run Tryz.prog W = .ok (.agg (cfgA c vs vw)) W :=
 results_cell_row h tmps W b t (cfgA c vs vw) (0, 0) _ hp hc Tryz.underlying33 rfl cfg_info
theorem cfg_set3 (c : Cfg) (vs vw x : Value) : (cfgA c vs vw).setIfInBounds 3 x = cfgA c x vw := rfl
theorem cfg_set36 (c : Cfg) (vs vw x : Value) : (cfgA c vs vw).setIfInBounds 36 x = cfgA c vs x := rfl
theorem wn_one (x : Wn) : ∀ u ∈ (wnA x).toList, u.oneCell' = true := by
 intro u hu
 simp [wnA] at hu
 rcases hu with h | h | h | h | h | h | h <;> subst h <;> rfl
def cfg0 : Cfg := ⟨0, 0, 0, [], 0, 0, 0, 0, 0, 0, 0, 0, 0, ⟨0, 0, 0, 0, 0, 0, 0, 0, 0, 0⟩, fun _ => 0, false, ⟨0, 0, 0, 0, 0, 0, 0⟩⟩
def cfgZ : Array Value := cfgA cfg0 (.slice none 0 0) (.slice none 0 0)
theorem rd_one {w : World} {v : Value} {n : Nat} {cs : List Value} (h : Rd w v n cs) : v.oneCell' = true := by
 obtain ⟨p, c, rfl⟩ := h.form
 rfl
theorem keepB {n : Nat} {w0 W w2 : World} (h : Below n w0 W) (hb : Below W.heap.size W w2) (hn : n ≤ w0.heap.size) : Below n w0 w2 := h.trans (hb.mono (by have := h.size; omega))
theorem kept_ok (c : Cfg) (vs vw : Value) (w : World) (h : CfgOk c) (hm : CfgM w c vs vw) :
  Calls Tryz.prog 35 #[.agg (cfgA c vs vw)] w fun e w' => ∃ vs' vw', e = .returned (.agg (cfgA c vs' vw')) ∧ w'.ownsRow w.heap.size 3 1 vs' c.st.length (c.st.map (.int .i64)) ∧ w'.ownsRow w.heap.size 35 7 vw' 1 (wnA c.w).toList ∧ Below w.heap.size w w' := by
 have b1 := (BlockIs.new w (cfgA c vs vw) 33).alloc (.cells cfgZ 33)
 have b2 := BlockIs.new (w.alloc (.cells (cfgA c vs vw) 33)) cfgZ 33
 have HB := ((Below.refl w.heap.size w).alloc (Nat.le_refl _) (.cells (cfgA c vs vw) 33)).alloc (by simp) (.cells cfgZ 33)
 rw [World.size_alloc] at b2
 obtain ⟨W, hW⟩ : ∃ W, (w.alloc (.cells (cfgA c vs vw) 33)).alloc (.cells cfgZ 33) = W := ⟨_, rfl⟩
 rw [hW] at b1 b2 HB
 have hsz : W.heap.size = w.heap.size + 2 := by rw [← hW]; simp
 have HW := Lib.hid hW
 clear hW
 have hl := stops_len h.st h.fl2
 have o1 := rd_one hm.s
 have o2 := rd_one hm.w
 obtain ⟨ps, qs, hps⟩ := hm.s.form
 obtain ⟨pw, qw, hpw⟩ := hm.w.form
 have HM := Lib.hid hm
 clear hm h
 have B1 := Lib.hid b1
 have B2 := Lib.hid b2
 have HB := Lib.hid HB
 have c3 := b1.cell (i := 3) (v := vs) rfl
 have c36 := b1.cell (i := 36) (v := vw) rfl
 subst hps hpw
 clear b1 b2
 go_enter Tryz.func35, Tryz.ntmps35
 go_wp2_with fail
 change Code.wp _ _ _ _ ((w.alloc (.cells (cfgA c (.slice ps c.st.length qs) (.slice pw 1 qw)) 33)).alloc (.cells cfgZ 33))
 rw [HW.out]
 have hS : ∀ W', Below W.heap.size W W' → CfgM W' c (.slice ps c.st.length qs) (.slice pw 1 qw) := fun W' h => HM.out.below (HB.out.trans (h.mono (by omega)))
 have HS := Lib.hid hS
 have hlt : w.heap.size < W.heap.size := by omega
 clear hS
 have hK : ∀ W', Below W.heap.size W W' → W'.cell? ⟨w.heap.size, 3, none⟩ = some (.slice ps c.st.length qs) ∧ W'.cell? ⟨w.heap.size, 36, none⟩ = some (.slice pw 1 qw) ∧ W'.frozen? ⟨w.heap.size, 3, none⟩ = false ∧ W'.frozen? ⟨w.heap.size, 36, none⟩ = false ∧ Below W.heap.size W W' := fun W' h => by
  have b := B1.out.below h hlt
  exact ⟨b.cell rfl, b.cell rfl, b.free 3, b.free 36, h⟩
 have HK := Lib.hid hK
 clear hK
 have f3 := B1.out.free 3
 have f36 := B1.out.free 36
 have hW1 : Below W.heap.size W W.drew := (Below.refl _ _).drew
 go_region_with (first
   | (go_at_call 75; refine (clone_int _ _ (c.st.map (.int .i64)) _ (HS.out _ hW1).s (by simp) (by omega) (int_one _ _)).mono ?_; rintro e w2 ⟨v2, rfl, hown2, hb2⟩; obtain ⟨p2, q2, rfl⟩ := (own_rd hown2).form; have hB2 := keepB hW1 hb2 (Nat.le_refl _); obtain ⟨_, x36, _, _, _⟩ := HK.out _ hB2)
   | (go_at_call 76; refine (clone_wn _ _ (wnA c.w).toList _ (HS.out _ hB2).w rfl (by omega) (wn_one _)).mono ?_; rintro e w3 ⟨v3, rfl, hown3, hb3⟩; obtain ⟨p3, q3, rfl⟩ := (own_rd hown3).form; have hB3 := keepB hB2 hb3 (Nat.le_refl _); obtain ⟨y3, y36, z3, z36, _⟩ := HK.out _ hB3))
 all_goals
  have k1 := ((B1.out.below hB3 hlt).set 3 (.slice p2 c.st.length q2)).set 36 (.slice p3 1 q3)
  rw [cfg_set3, cfg_set36] at k1
  have k2 := ((B2.out.below hB3 (by omega)).other (a := ⟨w.heap.size, 3, none⟩) (by show w.heap.size + 1 ≠ w.heap.size; omega) (.slice p2 c.st.length q2)).other (a := ⟨w.heap.size, 36, none⟩) (by show w.heap.size + 1 ≠ w.heap.size; omega) (.slice p3 1 q3)
  have hT : Turn (fun k => k = w.heap.size ∨ k = w.heap.size + 1) w3 ((w3.setCell ⟨w.heap.size, 3, none⟩ (.slice p2 c.st.length q2)).setCell ⟨w.heap.size, 36, none⟩ (.slice p3 1 q3)) := ((Turn.refl _ w3).setCell (.inl rfl) 3 _).setCell (.inl rfl) 36 _
  have hz : ∀ (W' : World) (a : Addr) (v : Value), (W'.setCell a v).heap.size = W'.heap.size := fun W' a v => by simp
  have e2 : ∀ k, (Value.slice p2 c.st.length q2).ownBlock = some k → ¬ (k = w.heap.size ∨ k = w.heap.size + 1) := fun k hk => by
   have := (hown2.lt k hk).1
   have hd : W.drew.heap.size = W.heap.size := rfl
   omega
  have e3 : ∀ k, (Value.slice p3 1 q3).ownBlock = some k → ¬ (k = w.heap.size ∨ k = w.heap.size + 1) := fun k hk => by
   have := (hown3.lt k hk).1
   have := hB2.size
   omega
  have n2 := own_below hown2 hb3
  have n3 := hown3.mono (base' := w.heap.size) (by have := hB2.size; omega)
  have n2 := n2.mono (base' := w.heap.size) (by have hd : W.drew.heap.size = W.heap.size := rfl; omega)
  have HB4 := (HB.out.trans (hB3.mono (by omega))).trans (hT.below (B := w.heap.size) (by have := hB3.size; omega) (by intro k hk; omega))
  generalize hW4 : (w3.setCell ⟨w.heap.size, 3, none⟩ (.slice p2 c.st.length q2)).setCell ⟨w.heap.size, 36, none⟩ (.slice p3 1 q3) = W4 at *
  have hT2 : Turn (fun k => k = w.heap.size ∨ k = w.heap.size + 1) w3 (W4.setRow (w.heap.size + 1) (cfgA c (.slice p2 c.st.length q2) (.slice p3 1 q3))) := hT.setRow (.inr rfl) _
  have r2 := Lib.hid (hT2.own n2 e2)
  have r3 := Lib.hid (hT2.own n3 e3)
  have HB5 := Lib.hid (below_setRow HB4 (by omega : w.heap.size ≤ w.heap.size + 1) (cfgA c (.slice p2 c.st.length q2) (.slice p3 1 q3)))
  have k3 := Lib.hid (k2.row (cfgA c (.slice p2 c.st.length q2) (.slice p3 1 q3)))
  have K1 := Lib.hid k1
  have K2 := Lib.hid k2
  clear k1 k2 hT hT2 hz e2 e3 n2 n3 HB4 hown2 hown3 hb2 hb3 hB2 hB3 y3 y36 z3 z36 x36 c3 c36 f3 f36 hW4 HW HM HS HK hW1
  go_wp2_with (first
   | (with_reducible show wpList _ _ _ _ _ _; refine wl_box (.tmp 1) c (.slice p2 c.st.length q2) (.slice p3 1 q3) w.heap.size 33 rfl rfl rfl K1.out ?_)
   | (with_reducible show wpList _ _ _ _ _ _; refine ws_box (.tmp 2) (.tmp 11) c (.slice p2 c.st.length q2) (.slice p3 1 q3) (w.heap.size + 1) cfgZ 33 rfl rfl rfl rfl K2.out rfl rfl rfl ?_))
  exact bodyPost_ret (res_cfg rfl _ _ (w.heap.size + 1) 33 c _ _ rfl k3.out) rfl ⟨_, _, rfl, r2.out, r3.out, HB5.out⟩
theorem dmany_ok (n : Int) (w : World) : Calls Tryz.prog 87 #[.int .i64 n] w fun e w' => e = .returned (.func (.func 137) #[] #[.pointer (some ⟨w.heap.size, 0, none⟩)]) ∧ w' = w.alloc (.cells #[.int .i64 n] 3) := by
 go_enter Tryz.func87, Tryz.ntmps87
 go_wp2
 go_ret
 exact ⟨rfl, rfl⟩
theorem dmany1_ok (p : Option Addr) (n c b : Nat) (w : World) (h : w.cell? ⟨b, 0, none⟩ = some (.int .i64 (n : Int))) : Calls Tryz.prog 137 #[.slice p n c, .pointer (some ⟨b, 0, none⟩)] w fun e w' => e = .returned (.bool true) ∧ w = w' := by
 go_enter Tryz.func137, Tryz.ntmps137
 go_wp2
 go_ret
 exact ⟨by simp, rfl⟩
theorem dfree_ok (v : Value) (w : World) : Calls Tryz.prog 84 #[v] w fun e w' => e = .returned (.bool true) ∧ w = w' := by
 go_enter Tryz.func84, Tryz.ntmps84
 go_wp2
 go_ret
 exact ⟨rfl, rfl⟩
theorem dsevens_ok (p : Option Addr) (c : Nat) (w : World) : Calls Tryz.prog 85 #[.slice p 7 c] w fun e w' => e = .returned (.bool true) ∧ w = w' := by
 go_enter Tryz.func85, Tryz.ntmps85
 go_wp2
 go_ret
 exact ⟨rfl, rfl⟩
theorem dmark_ok (b o c : Nat) (x : Int) (w : World) (h : w.cell? ⟨b, o + 5, none⟩ = some (.int .i64 x)) (hx : x = 0 ∨ x = 1) : Calls Tryz.prog 83 #[.slice (some ⟨b, o, none⟩) 6 c] w fun e w' => e = .returned (.bool true) ∧ w = w' := by
 rcases hx with e | e
 all_goals
  subst e
  go_enter Tryz.func83, Tryz.ntmps83
  go_wp2
  go_ret
  exact ⟨rfl, rfl⟩
theorem eis_nil (x : Value) (w : World) (hx : ∃ (t : TypeId) (n : Int), x = .iface t (.int .i64 n)) : Calls Tryz.prog 88 #[.nilIface, x] w fun e w' => e = .returned (.bool false) ∧ w = w' := by
 obtain ⟨t, n, rfl⟩ := hx
 have hI : Tryz.prog.isIface 168 = true := by kernel_rfl
 have q1 : ∀ w, (binOp .eql 168 .nilIface .nilIface).run Tryz.prog w = .ok (.bool true) w := fun w => run_eql_nil_nil_at w 168 hI
 have q2 : ∀ w, (binOp .eql 168 .nilIface (.iface t (.int .i64 n))).run Tryz.prog w = .ok (.bool false) w := fun w => run_eql_iface_nil_left w t (.int .i64 n) Tryz.underlying168
 clear hI
 go_enter Tryz.func88, Tryz.ntmps88
 go_wp2
 all_goals
  go_ret
  exact ⟨rfl, rfl⟩
theorem ints_info : (Tryz.prog.info? 22).map (fun i => (i.zero, i.size, i.bytes)) = some (some (.slice none 0 0), 1, 24) := by kernel_rfl
def rowsL (c : Cfg) : List (List Int) := [row1 c, c.st, row3 c, row4 c, row5 c, row6 c]
def preL (c : Cfg) (k : Nat) : Nat := (((rowsL c).take k).flatMap rowB).length
theorem rowsB_flat (c : Cfg) : rowsB c = (rowsL c).flatMap rowB := by simp [rowsB, rowsL]
theorem preL_all (c : Cfg) : preL c 6 = (rowsB c).length := by rw [rowsB_flat]; rfl
theorem preL_succ (c : Cfg) (k : Nat) (r : List Int) (h : (rowsL c)[k]? = some r) : preL c (k + 1) = preL c k + (rowB r).length := by
 unfold preL
 rw [List.take_add_one, h, List.flatMap_append, List.length_append]
 simp
theorem rowsB_part (c : Cfg) (k : Nat) (r : List Int) (h : (rowsL c)[k]? = some r) : ∃ a z, rowsB c = a ++ (rowB r ++ z) ∧ a.length = preL c k := by
 refine ⟨((rowsL c).take k).flatMap rowB, ((rowsL c).drop (k + 1)).flatMap rowB, ?_, rfl⟩
 have e : rowsL c = (rowsL c).take (k + 1) ++ (rowsL c).drop (k + 1) := (List.take_append_drop _ _).symm
 rw [rowsB_flat]
 conv => lhs; rw [e]
 rw [List.take_add_one, h, List.flatMap_append, List.flatMap_append, List.append_assoc]
 simp
theorem preL_le (c : Cfg) (k : Nat) (r : List Int) (h : (rowsL c)[k]? = some r) : preL c k + (rowB r).length ≤ (rowsB c).length := by
 obtain ⟨a, z, e, ha⟩ := rowsB_part c k r h
 rw [e, List.length_append, List.length_append, ha]; omega
theorem rows_range {W : World} {g o : Nat} (c : Cfg) (k : Nat) (r : List Int) (h : (rowsL c)[k]? = some r) (hr : W.rangeAt g o (bts (rowsB c))) : W.rangeAt g (o + preL c k) (bts (rowB r)) := by
 obtain ⟨a, z, e, ha⟩ := rowsB_part c k r h
 rw [e, bts_app, bts_app] at hr
 have := range_pre (range_post hr)
 rwa [bts_len, ha] at this
theorem zone_i64 {z : Zn} (h : zErr z = 0) : -720 ≤ z.b ∧ z.b ≤ 840 ∧ 0 ≤ z.s ∧ z.s ≤ 120 ∧ 0 ≤ z.m ∧ z.m ≤ 12 ∧ 0 ≤ z.k ∧ z.k ≤ 5 ∧ 0 ≤ z.d ∧ z.d ≤ 6 ∧ 0 ≤ z.t ∧ z.t ≤ 1439 ∧ 0 ≤ z.m' ∧ z.m' ≤ 12 ∧ 0 ≤ z.k' ∧ z.k' ≤ 5 ∧ 0 ≤ z.d' ∧ z.d' ≤ 6 ∧ 0 ≤ z.t' ∧ z.t' ≤ 1439 := by
 unfold zErr at h
 split at h
 ·omega
 ·split at h
  ·omega
  ·split at h
   ·split at h
    ·rename_i hz
     obtain ⟨h1, h2⟩ := hz
     simp [zeroT] at h1 h2
     omega
    ·omega
   ·split at h
    ·rename_i hz
     obtain ⟨h1, h2, _, _⟩ := hz
     rw [tOk_iff] at h1 h2
     omega
    ·omega
theorem rows_i64 (c : Cfg) (h : CfgOk c) (k : Nat) (r : List Int) (hr : (rowsL c)[k]? = some r) : (∀ x ∈ r, I64 x) ∧ r.length ≤ 112 := by
 have hz := zone_i64 h.z
 have hf := (sun_i64 h.f).2.2
 have hl := stops_len h.st h.fl2
 have hw := h.w
 unfold WnOk timedOk at hw
 have ht := h.tm
 unfold TimesOk at ht
 have h1 := h.fl1; have h2 := h.fl2; have h3 := h.ca1; have h4 := h.ca2; have h5 := h.pk1; have h6 := h.pk2
 have k6 : k < 6 := by have := (List.getElem?_eq_some_iff.1 hr).1; simpa [rowsL] using this
 rcases (show k = 0 ∨ k = 1 ∨ k = 2 ∨ k = 3 ∨ k = 4 ∨ k = 5 by omega) with e | e | e | e | e | e <;> subst e <;> simp [rowsL] at hr <;> subst hr
 ·refine ⟨?_, by simp [row1]⟩
  intro x hx
  simp [row1, abI] at hx
  rcases hx with e | e | e | e | e | e <;> subst e <;> unfold I64 <;> first | omega | (split <;> omega)
 ·exact ⟨fun x hx => by have := h.st.2.1 x hx; unfold I64; omega, by omega⟩
 ·refine ⟨?_, by simp [row3]⟩
  intro x hx
  simp [row3] at hx
  rcases hx with e | e | e | e | e | e | e <;> subst e <;> unfold I64 <;> omega
 ·refine ⟨?_, by simp [row4]⟩
  intro x hx
  simp [row4] at hx
  rcases hx with e | e | e | e | e | e | e | e | e | e <;> subst e <;> unfold I64 <;> omega
 ·refine ⟨?_, by simp [row5]⟩
  intro x hx
  simp [row5] at hx
  rcases hx with e | e | e | e | e | e | e | e | e | e | e | e <;> subst e <;> exact hf _ (by omega)
 ·refine ⟨?_, by simp [row6]⟩
  intro x hx
  simp [row6] at hx
  rcases hx with e | e | e | e | e | e | e <;> subst e <;> unfold I64 <;> omega
def mayA (b7 b10 b12 : Nat) : Array Value := #[.func (.func 83) #[] #[], .func (.func 84) #[] #[], .func (.func 137) #[] #[.pointer (some ⟨b7, 0, none⟩)], .func (.func 137) #[] #[.pointer (some ⟨b10, 0, none⟩)], .func (.func 137) #[] #[.pointer (some ⟨b12, 0, none⟩)], .func (.func 85) #[] #[]]
def RowsI (w : World) (c : Cfg) (atv iv out : Value) (wr : World) : Prop :=
 ∃ (k : Nat) (vs : List Value), k ≤ 6 ∧ iv = .int .i64 (k : Int) ∧ atv = .int .i64 ((preL c k : Nat) : Int) ∧ vs.length = k ∧ wr.ownsRow w.heap.size 22 1 out k vs ∧
  (∀ (i : Nat) (v : Value) (r : List Int), vs[i]? = some v → (rowsL c)[i]? = some r → wr.ownsRow w.heap.size 3 1 v r.length (r.map (.int .i64)) ∧ ∀ q, v.ownBlock = some q → out.ownBlock ≠ some q) ∧ Below w.heap.size w wr
theorem rows_step {w wr w2 w5 : World} {c : Cfg} {k : Nat} {vs : List Value} {out vl kv : Value} {r : List Int} {g5 cap5 : Nat} (hk : k < 6) (hvl : vs.length = k) (hrk : (rowsL c)[k]? = some r) (hown : wr.ownsRow w.heap.size 22 1 out k vs)
  (hvs : ∀ (i : Nat) (v : Value) (r : List Int), vs[i]? = some v → (rowsL c)[i]? = some r → wr.ownsRow w.heap.size 3 1 v r.length (r.map (.int .i64)) ∧ ∀ q, v.ownBlock = some q → out.ownBlock ≠ some q) (hB : Below w.heap.size w wr) (hb2 : Below wr.heap.size wr w2)
  (hl : w2.ownsRow wr.heap.size 3 1 vl r.length (r.map (.int .i64))) (o : Obj) (h5 : w5.ownsRow w.heap.size 22 1 (.slice (some ⟨g5, 0, none⟩) (k + 1) cap5) (k + 1) (vs ++ [vl])) (hg5 : (w2.alloc o).grownBy w5 out.ownBlock) (hor : out.ownBlock = some g5 ∨ g5 = (w2.alloc o).heap.size)
  (P1 : Int) (hP1 : P1 = ((preL c (k + 1) : Nat) : Int)) (hkv : kv = .int .i64 ((k + 1 : Nat) : Int)) : RowsI w c (.int .i64 P1) kv (.slice (some ⟨g5, 0, none⟩) (k + 1) cap5) w5 := by
 have hs := hB.size
 have hs2 := hb2.size
 have hz : (w2.alloc o).heap.size = w2.heap.size + 1 := by simp
 have hB2 := (hB.trans (hb2.mono hs)).alloc (by omega) o
 refine ⟨k + 1, vs ++ [vl], by omega, hkv, by rw [hP1], by simp [hvl], h5, ?_, hB2.grown hg5 (by omega) (fun q e => (hown.lt q e).1)⟩
 intro i v r' hi hr'
 have hob : ∀ q, out.ownBlock = some q → q < wr.heap.size := fun q e => (hown.lt q e).2
 have hg5b : ∀ q, q < (w2.alloc o).heap.size → out.ownBlock ≠ some q → (Value.slice (some ⟨g5, 0, none⟩) (k + 1) cap5).ownBlock ≠ some q := by
  intro q hq hne e
  have e' : g5 = q := Option.some.inj e
  rcases hor with h | h
  ·rw [e'] at h; exact hne h
  ·omega
 by_cases c1 : i < k
 ·rw [List.getElem?_append_left (by omega)] at hi
  obtain ⟨h1, h2⟩ := hvs i v r' hi hr'
  refine ⟨((own_below h1 hb2).alloc o).kept hg5 ?_, fun q hq => hg5b q (by have := (h1.lt q hq).2; omega) (h2 q hq)⟩
  by_cases hv : v.ownBlock = none
  ·exact .inl hv
  ·obtain ⟨q, hq⟩ := Option.ne_none_iff_exists'.1 hv
   exact .inr (by rw [hq]; exact (h2 q hq).symm)
 ·have hik : i = k := by
   have := (List.getElem?_eq_some_iff.1 hi).1
   simp [hvl] at this; omega
  subst hik
  rw [List.getElem?_append_right (by omega), hvl, Nat.sub_self] at hi
  have hv : vl = v := by simpa using hi
  subst hv
  rw [hrk] at hr'
  cases hr'
  have hne : ∀ q, vl.ownBlock = some q → out.ownBlock ≠ some q := fun q hq e => by
   have := (hl.lt q hq).1
   have := hob q e
   omega
  refine ⟨((hl.mono (base' := w.heap.size) hs).alloc o).kept hg5 ?_, fun q hq => hg5b q (by have := (hl.lt q hq).2; omega) (hne q hq)⟩
  by_cases hv : vl.ownBlock = none
  ·exact .inl hv
  ·obtain ⟨q, hq⟩ := Option.ne_none_iff_exists'.1 hv
   exact .inr (by rw [hq]; exact (hne q hq).symm)
theorem rows_ok (c : Cfg) (g o N cap gm b7 b10 b12 : Nat) (w : World) (h : CfgOk c) (hN : N = (rowsB c).length) (hc : N ≤ cap) (hN2 : N < 1000000) (hr : w.rangeAt g o (bts (rowsB c))) (hm : BlockIs w gm (mayA b7 b10 b12) 166)
  (h7 : w.cell? ⟨b7, 0, none⟩ = some (.int .i64 7)) (h10 : w.cell? ⟨b10, 0, none⟩ = some (.int .i64 10)) (h12 : w.cell? ⟨b12, 0, none⟩ = some (.int .i64 12)) :
  Calls Tryz.prog 86 #[.slice (some ⟨g, o, none⟩) N cap, .slice (some ⟨gm, 0, none⟩) 6 6] w fun e w' => ∃ out vs, e = .returned (.tuple #[out, .nilIface]) ∧ w'.ownsRow w.heap.size 22 1 out 6 vs ∧ vs.length = 6 ∧
   (∀ (i : Nat) (v : Value) (r : List Int), vs[i]? = some v → (rowsL c)[i]? = some r → w'.ownsRow w.heap.size 3 1 v r.length (r.map (.int .i64))) ∧ Below w.heap.size w w' := by
 obtain ⟨i0, hi0, hz0, hz1, hz2⟩ := info_hid ints_info
 have hst : ∀ out : Value, out = .slice none 0 0 → RowsI w c (.int .i64 0) (.int .i64 0) out w := fun out e => ⟨0, [], by omega, rfl, rfl, rfl, by rw [e]; exact World.ownsRow_nil _ _ _ _, fun i v r hv => by simp at hv, Below.refl _ _⟩
 have HST := Lib.hid hst
 have HM := Lib.hid hm
 have HR := Lib.hid hr
 have HH := Lib.hid h
 have HN := Lib.hid hN
 have H7 := Lib.hid (And.intro h7 (And.intro h10 h12))
 clear hst hm hr h hN h7 h10 h12
 go_enter Tryz.func86, Tryz.ntmps86
 go_wp2_with fail
 go_loopw [6, 7, 8, 9, 10, 11, 12, 15] (fun out atv _ _ _ _ _ iv wr => RowsI w c atv iv out wr) (fun _ _ _ _ _ _ _ iv _ => (6 - intOf iv).toNat)
 case atStart => exact HST.out _ rfl
 case round =>
  clear HST
  obtain ⟨k, vs, hk, rfl, rfl, hvl, hown, hvs, hB⟩ := hrel
  have hkc : k = 6 ∨ k < 6 := by omega
  rcases hkc with e | hlt6
  ·subst e
   have hd : decide ((6 : Nat) < 6) = false := by decide
   have hO := Lib.hid hown
   have hV := Lib.hid hvs
   have hBB := Lib.hid hB
   have hp6 : ((preL c 6 : Nat) : Int) = (N : Int) := by rw [preL_all, HN.out]
   clear hown hvs hB
   rw [hp6]
   rw [show (((6 : Nat)) : Int) = 6 from rfl]
   go_wp2_with fail
   go_ret2
   exact ⟨_, vs, rfl, hO.out, hvl, fun i v r a b => (hV.out i v r a b).1, hBB.out⟩
  have hlt : decide (k < 6) = true := by simpa using hlt6
  have hs := hB.size
  rcases (show k = 0 ∨ k = 1 ∨ k = 2 ∨ k = 3 ∨ k = 4 ∨ k = 5 by omega) with e | e | e | e | e | e
  ·have hrk : (rowsL c)[k]? = some (row1 c) := by rw [e]; rfl
   have hcell : wr.cell? ⟨gm, k, none⟩ = some (.func (.func 83) #[] #[]) := by rw [e]; exact (HM.out.below hB HM.out.lt).cell rfl
   obtain ⟨hi64, hr112⟩ := rows_i64 c HH.out k _ hrk
   have hG := wgetrow_ok (row1 c) g o N (preL c k) cap 112 wr hi64 (by omega) (by rw [HN.out]; exact preL_le c k _ hrk) hc hN2 (range_keep (rows_range c k _ hrk HR.out) hB)
   have hps := preL_succ c k _ hrk
   rw [← hps] at hG
   have hG2 : Calls Tryz.prog 136 #[.slice (some ⟨g, o, none⟩) N cap, .int .i64 ((preL c k : Nat) : Int), .int .i64 112] wr fun e w' => ∃ v, e = .returned (.tuple #[v, .int .i64 ((preL c (k + 1) : Nat) : Int), .int .i64 0]) ∧ w'.ownsRow wr.heap.size 3 1 v 6 ((row1 c).map (.int .i64)) ∧ Below wr.heap.size wr w' := hG
   have HG := Lib.hid hG2
   have HRK := Lib.hid hrk
   have HVS := Lib.hid hvs
   generalize ((preL c k : Nat) : Int) = PK at *
   have HP1 : ∃ P1 : Int, P1 = ((preL c (k + 1) : Nat) : Int) := ⟨_, rfl⟩
   obtain ⟨P1, hP1⟩ := HP1
   rw [← hP1] at HG
   have HP1 := Lib.hid hP1
   clear hG hG2 hps e hrk hvs hP1
   go_wp2_with fail
   refine HG.out.mono ?_; rintro e w2 ⟨v2, rfl, hl, hb2⟩
   have hB2 := hB.trans (hb2.mono hs)
   have hown2 := own_below hown hb2
   obtain ⟨gl, cl, rfl, hgl1, hgl2⟩ := hl.form (by omega)
   have hC := dmark_ok gl 0 cl (abI c.ab) w2 (by have := hl.cells (g := gl) rfl 5 (.int .i64 (abI c.ab)) rfl; rw [Addr.add_mid] at this; exact this) (by unfold abI; cases c.ab <;> simp)
   have HC := Lib.hid hC
   have HL := Lib.hid hl
   clear hC hl HG
   go_wp2_with fail
   refine HC.out.mono ?_; rintro e w' ⟨rfl, rfl⟩
   clear HC
   have hol := hown2.alloc (.cells #[.slice (some ⟨gl, 0, none⟩) 6 cl] 22)
   go_wp2_with (first | (at_builtin; refine wpList_append_lies _ rfl (.tmp 47) (.tmp 49) 106 rfl w.heap.size 22 i0 (.slice none 0 0) 1 24 Tryz.underlying106 (hi0 ()) hz0 hz1 hz2 rfl (by decide) _ k _ rfl hol ⟨w2.heap.size, 0, none⟩ 1 1 [.slice (some ⟨gl, 0, none⟩) 6 cl] rfl rfl (cell_one_new _ _ _) (by intro u hu; simp at hu; subst hu; rfl) (by omega) (by unfold maxLen; omega) (by omega) (by have := hB2.size; simp; omega) _ rfl ?_; intro g5 cap5 w5 h5 hg5 hor5 hlt5))
   go_round
   case rel => exact rows_step hlt6 hvl HRK.out hown HVS.out hB hb2 HL.out _ h5 hg5 hor5 _ HP1.out (by go_num)
   case measure => simp [intOf]; omega
  ·have hrk : (rowsL c)[k]? = some (c.st) := by rw [e]; rfl
   have hcell : wr.cell? ⟨gm, k, none⟩ = some (.func (.func 84) #[] #[]) := by rw [e]; exact (HM.out.below hB HM.out.lt).cell rfl
   obtain ⟨hi64, hr112⟩ := rows_i64 c HH.out k _ hrk
   have hG := wgetrow_ok (c.st) g o N (preL c k) cap 112 wr hi64 (by omega) (by rw [HN.out]; exact preL_le c k _ hrk) hc hN2 (range_keep (rows_range c k _ hrk HR.out) hB)
   have hps := preL_succ c k _ hrk
   rw [← hps] at hG
   have hG2 : Calls Tryz.prog 136 #[.slice (some ⟨g, o, none⟩) N cap, .int .i64 ((preL c k : Nat) : Int), .int .i64 112] wr fun e w' => ∃ v, e = .returned (.tuple #[v, .int .i64 ((preL c (k + 1) : Nat) : Int), .int .i64 0]) ∧ w'.ownsRow wr.heap.size 3 1 v (c.st.length) ((c.st).map (.int .i64)) ∧ Below wr.heap.size wr w' := hG
   have HG := Lib.hid hG2
   have HRK := Lib.hid hrk
   have HVS := Lib.hid hvs
   generalize ((preL c k : Nat) : Int) = PK at *
   have HP1 : ∃ P1 : Int, P1 = ((preL c (k + 1) : Nat) : Int) := ⟨_, rfl⟩
   obtain ⟨P1, hP1⟩ := HP1
   rw [← hP1] at HG
   have HP1 := Lib.hid hP1
   clear hG hG2 hps e hrk hvs hP1
   go_wp2_with fail
   refine HG.out.mono ?_; rintro e w2 ⟨v2, rfl, hl, hb2⟩
   have hB2 := hB.trans (hb2.mono hs)
   have hown2 := own_below hown hb2
   obtain ⟨gl, cl, rfl, hgl1, hgl2⟩ := hl.form (by have := HH.out.st.1; omega)
   have hC := dfree_ok (.slice (some ⟨gl, 0, none⟩) c.st.length cl) w2
   have HC := Lib.hid hC
   have HL := Lib.hid hl
   clear hC hl HG
   go_wp2_with fail
   refine HC.out.mono ?_; rintro e w' ⟨rfl, rfl⟩
   clear HC
   have hol := hown2.alloc (.cells #[.slice (some ⟨gl, 0, none⟩) c.st.length cl] 22)
   go_wp2_with (first | (at_builtin; refine wpList_append_lies _ rfl (.tmp 47) (.tmp 49) 106 rfl w.heap.size 22 i0 (.slice none 0 0) 1 24 Tryz.underlying106 (hi0 ()) hz0 hz1 hz2 rfl (by decide) _ k _ rfl hol ⟨w2.heap.size, 0, none⟩ 1 1 [.slice (some ⟨gl, 0, none⟩) c.st.length cl] rfl rfl (cell_one_new _ _ _) (by intro u hu; simp at hu; subst hu; rfl) (by omega) (by unfold maxLen; omega) (by omega) (by have := hB2.size; simp; omega) _ rfl ?_; intro g5 cap5 w5 h5 hg5 hor5 hlt5))
   go_round
   case rel => exact rows_step hlt6 hvl HRK.out hown HVS.out hB hb2 HL.out _ h5 hg5 hor5 _ HP1.out (by go_num)
   case measure => simp [intOf]; omega
  ·have hrk : (rowsL c)[k]? = some (row3 c) := by rw [e]; rfl
   have hcell : wr.cell? ⟨gm, k, none⟩ = some (.func (.func 137) #[] #[.pointer (some ⟨b7, 0, none⟩)]) := by rw [e]; exact (HM.out.below hB HM.out.lt).cell rfl
   obtain ⟨hi64, hr112⟩ := rows_i64 c HH.out k _ hrk
   have hG := wgetrow_ok (row3 c) g o N (preL c k) cap 112 wr hi64 (by omega) (by rw [HN.out]; exact preL_le c k _ hrk) hc hN2 (range_keep (rows_range c k _ hrk HR.out) hB)
   have hps := preL_succ c k _ hrk
   rw [← hps] at hG
   have hG2 : Calls Tryz.prog 136 #[.slice (some ⟨g, o, none⟩) N cap, .int .i64 ((preL c k : Nat) : Int), .int .i64 112] wr fun e w' => ∃ v, e = .returned (.tuple #[v, .int .i64 ((preL c (k + 1) : Nat) : Int), .int .i64 0]) ∧ w'.ownsRow wr.heap.size 3 1 v 7 ((row3 c).map (.int .i64)) ∧ Below wr.heap.size wr w' := hG
   have HG := Lib.hid hG2
   have HRK := Lib.hid hrk
   have HVS := Lib.hid hvs
   generalize ((preL c k : Nat) : Int) = PK at *
   have HP1 : ∃ P1 : Int, P1 = ((preL c (k + 1) : Nat) : Int) := ⟨_, rfl⟩
   obtain ⟨P1, hP1⟩ := HP1
   rw [← hP1] at HG
   have HP1 := Lib.hid hP1
   clear hG hG2 hps e hrk hvs hP1
   go_wp2_with fail
   refine HG.out.mono ?_; rintro e w2 ⟨v2, rfl, hl, hb2⟩
   have hB2 := hB.trans (hb2.mono hs)
   have hown2 := own_below hown hb2
   obtain ⟨gl, cl, rfl, hgl1, hgl2⟩ := hl.form (by omega)
   have hC := dmany1_ok (some ⟨gl, 0, none⟩) 7 cl b7 w2 ((hB2.cell (p := ⟨b7, 0, none⟩) (World.block_lt_of_cell? w _ H7.out.1)).trans H7.out.1)
   have HC := Lib.hid hC
   have HL := Lib.hid hl
   clear hC hl HG
   go_wp2_with fail
   refine HC.out.mono ?_; rintro e w' ⟨rfl, rfl⟩
   clear HC
   have hol := hown2.alloc (.cells #[.slice (some ⟨gl, 0, none⟩) 7 cl] 22)
   go_wp2_with (first | (at_builtin; refine wpList_append_lies _ rfl (.tmp 47) (.tmp 49) 106 rfl w.heap.size 22 i0 (.slice none 0 0) 1 24 Tryz.underlying106 (hi0 ()) hz0 hz1 hz2 rfl (by decide) _ k _ rfl hol ⟨w2.heap.size, 0, none⟩ 1 1 [.slice (some ⟨gl, 0, none⟩) 7 cl] rfl rfl (cell_one_new _ _ _) (by intro u hu; simp at hu; subst hu; rfl) (by omega) (by unfold maxLen; omega) (by omega) (by have := hB2.size; simp; omega) _ rfl ?_; intro g5 cap5 w5 h5 hg5 hor5 hlt5))
   go_round
   case rel => exact rows_step hlt6 hvl HRK.out hown HVS.out hB hb2 HL.out _ h5 hg5 hor5 _ HP1.out (by go_num)
   case measure => simp [intOf]; omega
  ·have hrk : (rowsL c)[k]? = some (row4 c) := by rw [e]; rfl
   have hcell : wr.cell? ⟨gm, k, none⟩ = some (.func (.func 137) #[] #[.pointer (some ⟨b10, 0, none⟩)]) := by rw [e]; exact (HM.out.below hB HM.out.lt).cell rfl
   obtain ⟨hi64, hr112⟩ := rows_i64 c HH.out k _ hrk
   have hG := wgetrow_ok (row4 c) g o N (preL c k) cap 112 wr hi64 (by omega) (by rw [HN.out]; exact preL_le c k _ hrk) hc hN2 (range_keep (rows_range c k _ hrk HR.out) hB)
   have hps := preL_succ c k _ hrk
   rw [← hps] at hG
   have hG2 : Calls Tryz.prog 136 #[.slice (some ⟨g, o, none⟩) N cap, .int .i64 ((preL c k : Nat) : Int), .int .i64 112] wr fun e w' => ∃ v, e = .returned (.tuple #[v, .int .i64 ((preL c (k + 1) : Nat) : Int), .int .i64 0]) ∧ w'.ownsRow wr.heap.size 3 1 v 10 ((row4 c).map (.int .i64)) ∧ Below wr.heap.size wr w' := hG
   have HG := Lib.hid hG2
   have HRK := Lib.hid hrk
   have HVS := Lib.hid hvs
   generalize ((preL c k : Nat) : Int) = PK at *
   have HP1 : ∃ P1 : Int, P1 = ((preL c (k + 1) : Nat) : Int) := ⟨_, rfl⟩
   obtain ⟨P1, hP1⟩ := HP1
   rw [← hP1] at HG
   have HP1 := Lib.hid hP1
   clear hG hG2 hps e hrk hvs hP1
   go_wp2_with fail
   refine HG.out.mono ?_; rintro e w2 ⟨v2, rfl, hl, hb2⟩
   have hB2 := hB.trans (hb2.mono hs)
   have hown2 := own_below hown hb2
   obtain ⟨gl, cl, rfl, hgl1, hgl2⟩ := hl.form (by omega)
   have hC := dmany1_ok (some ⟨gl, 0, none⟩) 10 cl b10 w2 ((hB2.cell (p := ⟨b10, 0, none⟩) (World.block_lt_of_cell? w _ H7.out.2.1)).trans H7.out.2.1)
   have HC := Lib.hid hC
   have HL := Lib.hid hl
   clear hC hl HG
   go_wp2_with fail
   refine HC.out.mono ?_; rintro e w' ⟨rfl, rfl⟩
   clear HC
   have hol := hown2.alloc (.cells #[.slice (some ⟨gl, 0, none⟩) 10 cl] 22)
   go_wp2_with (first | (at_builtin; refine wpList_append_lies _ rfl (.tmp 47) (.tmp 49) 106 rfl w.heap.size 22 i0 (.slice none 0 0) 1 24 Tryz.underlying106 (hi0 ()) hz0 hz1 hz2 rfl (by decide) _ k _ rfl hol ⟨w2.heap.size, 0, none⟩ 1 1 [.slice (some ⟨gl, 0, none⟩) 10 cl] rfl rfl (cell_one_new _ _ _) (by intro u hu; simp at hu; subst hu; rfl) (by omega) (by unfold maxLen; omega) (by omega) (by have := hB2.size; simp; omega) _ rfl ?_; intro g5 cap5 w5 h5 hg5 hor5 hlt5))
   go_round
   case rel => exact rows_step hlt6 hvl HRK.out hown HVS.out hB hb2 HL.out _ h5 hg5 hor5 _ HP1.out (by go_num)
   case measure => simp [intOf]; omega
  ·have hrk : (rowsL c)[k]? = some (row5 c) := by rw [e]; rfl
   have hcell : wr.cell? ⟨gm, k, none⟩ = some (.func (.func 137) #[] #[.pointer (some ⟨b12, 0, none⟩)]) := by rw [e]; exact (HM.out.below hB HM.out.lt).cell rfl
   obtain ⟨hi64, hr112⟩ := rows_i64 c HH.out k _ hrk
   have hG := wgetrow_ok (row5 c) g o N (preL c k) cap 112 wr hi64 (by omega) (by rw [HN.out]; exact preL_le c k _ hrk) hc hN2 (range_keep (rows_range c k _ hrk HR.out) hB)
   have hps := preL_succ c k _ hrk
   rw [← hps] at hG
   have hG2 : Calls Tryz.prog 136 #[.slice (some ⟨g, o, none⟩) N cap, .int .i64 ((preL c k : Nat) : Int), .int .i64 112] wr fun e w' => ∃ v, e = .returned (.tuple #[v, .int .i64 ((preL c (k + 1) : Nat) : Int), .int .i64 0]) ∧ w'.ownsRow wr.heap.size 3 1 v 12 ((row5 c).map (.int .i64)) ∧ Below wr.heap.size wr w' := hG
   have HG := Lib.hid hG2
   have HRK := Lib.hid hrk
   have HVS := Lib.hid hvs
   generalize ((preL c k : Nat) : Int) = PK at *
   have HP1 : ∃ P1 : Int, P1 = ((preL c (k + 1) : Nat) : Int) := ⟨_, rfl⟩
   obtain ⟨P1, hP1⟩ := HP1
   rw [← hP1] at HG
   have HP1 := Lib.hid hP1
   clear hG hG2 hps e hrk hvs hP1
   go_wp2_with fail
   refine HG.out.mono ?_; rintro e w2 ⟨v2, rfl, hl, hb2⟩
   have hB2 := hB.trans (hb2.mono hs)
   have hown2 := own_below hown hb2
   obtain ⟨gl, cl, rfl, hgl1, hgl2⟩ := hl.form (by omega)
   have hC := dmany1_ok (some ⟨gl, 0, none⟩) 12 cl b12 w2 ((hB2.cell (p := ⟨b12, 0, none⟩) (World.block_lt_of_cell? w _ H7.out.2.2)).trans H7.out.2.2)
   have HC := Lib.hid hC
   have HL := Lib.hid hl
   clear hC hl HG
   go_wp2_with fail
   refine HC.out.mono ?_; rintro e w' ⟨rfl, rfl⟩
   clear HC
   have hol := hown2.alloc (.cells #[.slice (some ⟨gl, 0, none⟩) 12 cl] 22)
   go_wp2_with (first | (at_builtin; refine wpList_append_lies _ rfl (.tmp 47) (.tmp 49) 106 rfl w.heap.size 22 i0 (.slice none 0 0) 1 24 Tryz.underlying106 (hi0 ()) hz0 hz1 hz2 rfl (by decide) _ k _ rfl hol ⟨w2.heap.size, 0, none⟩ 1 1 [.slice (some ⟨gl, 0, none⟩) 12 cl] rfl rfl (cell_one_new _ _ _) (by intro u hu; simp at hu; subst hu; rfl) (by omega) (by unfold maxLen; omega) (by omega) (by have := hB2.size; simp; omega) _ rfl ?_; intro g5 cap5 w5 h5 hg5 hor5 hlt5))
   go_round
   case rel => exact rows_step hlt6 hvl HRK.out hown HVS.out hB hb2 HL.out _ h5 hg5 hor5 _ HP1.out (by go_num)
   case measure => simp [intOf]; omega
  ·have hrk : (rowsL c)[k]? = some (row6 c) := by rw [e]; rfl
   have hcell : wr.cell? ⟨gm, k, none⟩ = some (.func (.func 85) #[] #[]) := by rw [e]; exact (HM.out.below hB HM.out.lt).cell rfl
   obtain ⟨hi64, hr112⟩ := rows_i64 c HH.out k _ hrk
   have hG := wgetrow_ok (row6 c) g o N (preL c k) cap 112 wr hi64 (by omega) (by rw [HN.out]; exact preL_le c k _ hrk) hc hN2 (range_keep (rows_range c k _ hrk HR.out) hB)
   have hps := preL_succ c k _ hrk
   rw [← hps] at hG
   have hG2 : Calls Tryz.prog 136 #[.slice (some ⟨g, o, none⟩) N cap, .int .i64 ((preL c k : Nat) : Int), .int .i64 112] wr fun e w' => ∃ v, e = .returned (.tuple #[v, .int .i64 ((preL c (k + 1) : Nat) : Int), .int .i64 0]) ∧ w'.ownsRow wr.heap.size 3 1 v 7 ((row6 c).map (.int .i64)) ∧ Below wr.heap.size wr w' := hG
   have HG := Lib.hid hG2
   have HRK := Lib.hid hrk
   have HVS := Lib.hid hvs
   generalize ((preL c k : Nat) : Int) = PK at *
   have HP1 : ∃ P1 : Int, P1 = ((preL c (k + 1) : Nat) : Int) := ⟨_, rfl⟩
   obtain ⟨P1, hP1⟩ := HP1
   rw [← hP1] at HG
   have HP1 := Lib.hid hP1
   clear hG hG2 hps e hrk hvs hP1
   go_wp2_with fail
   refine HG.out.mono ?_; rintro e w2 ⟨v2, rfl, hl, hb2⟩
   have hB2 := hB.trans (hb2.mono hs)
   have hown2 := own_below hown hb2
   obtain ⟨gl, cl, rfl, hgl1, hgl2⟩ := hl.form (by omega)
   have hC := dsevens_ok (some ⟨gl, 0, none⟩) cl w2
   have HC := Lib.hid hC
   have HL := Lib.hid hl
   clear hC hl HG
   go_wp2_with fail
   refine HC.out.mono ?_; rintro e w' ⟨rfl, rfl⟩
   clear HC
   have hol := hown2.alloc (.cells #[.slice (some ⟨gl, 0, none⟩) 7 cl] 22)
   go_wp2_with (first | (at_builtin; refine wpList_append_lies _ rfl (.tmp 47) (.tmp 49) 106 rfl w.heap.size 22 i0 (.slice none 0 0) 1 24 Tryz.underlying106 (hi0 ()) hz0 hz1 hz2 rfl (by decide) _ k _ rfl hol ⟨w2.heap.size, 0, none⟩ 1 1 [.slice (some ⟨gl, 0, none⟩) 7 cl] rfl rfl (cell_one_new _ _ _) (by intro u hu; simp at hu; subst hu; rfl) (by omega) (by unfold maxLen; omega) (by omega) (by have := hB2.size; simp; omega) _ rfl ?_; intro g5 cap5 w5 h5 hg5 hor5 hlt5))
   go_round
   case rel => exact rows_step hlt6 hvl HRK.out hown HVS.out hB hb2 HL.out _ h5 hg5 hor5 _ HP1.out (by go_num)
   case measure => simp [intOf]; omega
end Go.Proofs.YtfnifgppblbjhaaGreatDoor
