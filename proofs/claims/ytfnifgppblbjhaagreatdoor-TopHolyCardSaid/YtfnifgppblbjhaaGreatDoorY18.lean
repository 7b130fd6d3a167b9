/- Part of the proof of TopHoly. -/
import Derived.Test.YtfnifgppblbjhaaGreatDoorY02
import Derived.Test.YtfnifgppblbjhaaGreatDoorY06
import Derived.Test.YtfnifgppblbjhaaGreatDoorY11
import Derived.Test.YtfnifgppblbjhaaGreatDoorY13
import Derived.Test.YtfnifgppblbjhaaGreatDoorY14
import Derived.Test.YtfnifgppblbjhaaGreatDoorY17
import Derived.Lib.SlicesCompact
import Derived.RowKit
import Derived.Shelf.Slices.CompactI
import Derived.Shelf.Sort.Plain
import Derived.Sort.OwnSortedInts
namespace Go.Proofs.YtfnifgppblbjhaaGreatDoor
set_option maxHeartbeats 8000000
open Go Go.RowKit
set_option linter.unusedVariables false
set_option linter.unusedSimpArgs false
def preB (c : Cfg) (k : Nat) : List Nat := [78, 87, 1] ++ ((rowsL c).take k).flatMap rowB
theorem preB_succ (c : Cfg) (k : Nat) (r : List Int) (h : (rowsL c)[k]? = some r) : preB c (k + 1) = preB c k ++ rowB r := by
 unfold preB
 rw [List.take_add_one, h, List.flatMap_append, ← List.append_assoc]
 simp
theorem preB_all (c : Cfg) : preB c 6 = [78, 87, 1] ++ rowsB c := by rw [rowsB_flat]; rfl
theorem rowsB_lt {c : Cfg} (h : CfgOk c) : ∀ x ∈ [78, 87, 1] ++ rowsB c, x < 256 := by
 intro x hx
 rcases List.mem_append.1 hx with hx | hx
 ·simp at hx; omega
 ·rw [rowsB_flat] at hx
  obtain ⟨r, hr, hx⟩ := List.mem_flatMap.1 hx
  obtain ⟨k, hk⟩ := List.getElem?_of_mem hr
  obtain ⟨h1, h2⟩ := rows_i64 c h k r hk
  exact rowB_byte h1 (by omega) x hx
theorem rows_at {w : World} {l : Value} {c : Cfg} {v : Nat → Value} (h : RowsM w l c v) (k : Nat) (r : List Int) (hr : (rowsL c)[k]? = some r) : Rd w (v k) r.length (r.map (.int .i64)) ∧ [v 0, v 1, v 2, v 3, v 4, v 5][k]? = some (v k) := by
 obtain ⟨_, r0, r1, r2, r3, r4, r5⟩ := h
 have hk : k < 6 := by have := (List.getElem?_eq_some_iff.1 hr).1; simpa [rowsL] using this
 match k, hk with
 | 0, _ => cases hr; exact ⟨r0, rfl⟩
 | 1, _ => cases hr; exact ⟨r1, rfl⟩
 | 2, _ => cases hr; exact ⟨r2, rfl⟩
 | 3, _ => cases hr; exact ⟨r3, rfl⟩
 | 4, _ => cases hr; exact ⟨r4, rfl⟩
 | 5, _ => cases hr; exact ⟨r5, rfl⟩
def LayI (c : Cfg) (w : World) (out iv : Value) (wr : World) : Prop :=
 ∃ k : Nat, k ≤ 6 ∧ iv = .int .i64 (k : Int) ∧ wr.ownsRow w.heap.size 5 1 out (3 + preL c k) (bts (preB c k)) ∧ Below w.heap.size w wr
theorem rlay_ok (c : Cfg) (l : Value) (v : Nat → Value) (w : World) (h : CfgOk c) (hm : RowsM w l c v) :
  Calls Tryz.prog 43 #[l] w fun e w' => ∃ v', e = .returned v' ∧ w'.ownsRow w.heap.size 5 1 v' (cfgB c).length (bts (cfgB c)) ∧ Below w.heap.size w w' := by
 obtain ⟨i0, hi0, hz0, hz1, hz2⟩ := info_hid byte_info
 obtain ⟨g, o, cap, rfl, hcap, hl⟩ := hm.l
 have hlen := cfgB_len h
 have hsl : (cfgB c).length = (rowsB c).length + 5 := by unfold cfgB sealV; simp only [List.length_append, List.length_cons, List.length_nil]; omega
 have hle : (rowsB c).length ≤ 2000 := by omega
 have hst : ∀ out w1, out = .slice (some ⟨w.heap.size, 0, none⟩) 3 3 → w1 = w.alloc (.cells #[.int .u8 78, .int .u8 87, .int .u8 1] 5) → LayI c w out (.int .i64 0) w1 := fun out w1 e e1 => ⟨0, by omega, rfl, by
  rw [e, e1]
  exact own_block 3 w.heap.size (cs := bts [78, 87, 1]) (BlockIs.new w _ _) rfl (Nat.le_refl _) (by omega), by rw [e1]; exact (Below.refl _ _).alloc (Nat.le_refl _) _⟩
 have HST := Lib.hid hst
 have HH := Lib.hid h
 have HM := Lib.hid hm
 have HL := Lib.hid hl
 have HLE := Lib.hid hle
 clear hst h hm hl hlen hsl hle
 go_enter Tryz.func43, Tryz.ntmps43
 go_wp2_with fail
 go_loopw [3, 4] (fun out iv wr => LayI c w out iv wr) (fun _ iv _ => (6 - intOf iv).toNat)
 case atStart => exact HST.out _ _ rfl rfl
 case round =>
  clear HST
  obtain ⟨k, hk, rfl, hown, hB⟩ := hrel
  have hkc : k = 6 ∨ k < 6 := by omega
  rcases hkc with e | hlt
  ·subst e
   have hd : decide ((6 : Int) < 6) = false := by decide
   have hlen : 3 + preL c 6 = ([78, 87, 1] ++ rowsB c).length := by rw [preL_all]; simp; omega
   rw [preB_all, hlen] at hown
   have hcl : ([78, 87, 1] ++ rowsB c).length < 1000000 := by have := HLE.out; simp; omega
   have hs := rseal_ok ([78, 87, 1] ++ rowsB c) u3 wr (own_rd hown) (rowsB_lt HH.out) hcl (by simp)
   have HS := Lib.hid hs
   have hs := hB.size
   have HB := Lib.hid hB
   clear hown hcl hlen hB
   rw [show (((6 : Nat)) : Int) = 6 from rfl]
   go_wp2_with fail
   refine HS.out.mono ?_; rintro e w2 ⟨v2, rfl, h2, hb2⟩
   have R := Lib.hid (show w2.ownsRow w.heap.size 5 1 v2 (cfgB c).length (bts (cfgB c)) from h2.mono hs)
   have RB := Lib.hid (HB.out.trans (hb2.mono hs))
   clear h2 hb2 HS
   go_wp2_with fail
   go_ret
   exact ⟨_, rfl, R.out, RB.out⟩
  ·have hd : decide ((k : Int) < 6) = true := by simp; omega
   obtain ⟨r, hr⟩ : ∃ r, (rowsL c)[k]? = some r := ⟨_, List.getElem?_eq_getElem (by simpa [rowsL] using hlt)⟩
   obtain ⟨hrd, hat⟩ := rows_at HM.out k r hr
   obtain ⟨pv, qv, hv⟩ := hrd.form
   have hcell : wr.cell? ⟨g, o + k, none⟩ = some (.slice pv r.length qv) := by
    have := range_keep HL.out hB k _ hat
    rw [hv] at this; exact this
   rw [hv] at hrd
   have hrd := hrd.below hB
   obtain ⟨hi64, hr112⟩ := rows_i64 c HH.out k r hr
   have hb := rowB_len r
   have hple := preL_le c k r hr
   have := HLE.out
   have HPS := Lib.hid (preB_succ c k r hr)
   have HPL := Lib.hid (preL_succ c k r hr)
   have HR := Lib.hid (rrow_any r (.slice pv r.length qv) wr hrd (by omega) hi64)
   obtain ⟨m, hm⟩ : ∃ m, 3 + preL c k = m := ⟨_, rfl⟩
   have hm0 : 0 < m := by omega
   have hm1 : m ≤ 4000 := by omega
   rw [hm] at hown
   have HMM := Lib.hid hm
   obtain ⟨q, hq⟩ : ∃ q, (rowB r).length = q := ⟨_, rfl⟩
   have hq0 : 1 ≤ q ∧ q ≤ 4000 := by omega
   have HQ := Lib.hid hq
   obtain ⟨gb, cb, rfl, hgb1, hgb2⟩ := hown.form (by omega)
   have hcap6 : (k : Int) < 6 := by omega
   clear hr hat hv hrd hi64 hb hple this hm hq HM
   go_wp2_with fail
   refine HR.out.mono ?_; rintro e w2 ⟨v2, rfl, h2, hb2⟩
   rw [HQ.out] at h2
   obtain ⟨g2, c2, rfl, _, hg4⟩ := h2.form (by omega)
   have hown2 := own_below hown hb2
   have hB2 := hB.trans (hb2.mono hB.size)
   have hn2 := h2.cells (g := g2) rfl
   have hl2 : (bts (rowB r)).length = q * 1 := by rw [bts_len, HQ.out]; omega
   have h12 := bts_one (rowB r)
   obtain ⟨NW, hNW⟩ : ∃ NW, bts (rowB r) = NW := ⟨_, rfl⟩
   rw [hNW] at hn2 hl2 h12
   have HN := Lib.hid hNW
   clear hNW hown hb2 hB h2 HR hcell
   go_wp2_with (first | (at_builtin; refine wpList_append_lies _ rfl (.tmp 12) (.tmp 17) 52 rfl w.heap.size 5 i0 (.int .u8 0) 1 1 Tryz.underlying52 (hi0 ()) hz0 hz1 hz2 rfl (by decide) _ m _ rfl hown2 ⟨g2, 0, none⟩ q c2 NW rfl hl2 hn2 h12 (by omega) (by unfold maxLen; omega) (by omega) hB2.size _ rfl ?_; intro g5 cap5 w5 h5 hg5 _ hg6))
   have hB5 := hB2.grown hg5 hB2.size (fun k e => (hown2.lt k e).1)
   refine ⟨⟨k + 1, by omega, by simp, ?_, hB5⟩, by simp [intOf]; omega⟩
   rw [HPS.out, bts_app, HN.out, HPL.out, HQ.out, ← Nat.add_assoc, HMM.out]
   exact h5
theorem rencode_ok (c : Cfg) (vs vw : Value) (w : World) (h : CfgOk c) (hm : CfgM w c vs vw) :
  Calls Tryz.prog 20 #[.agg (cfgA c vs vw)] w fun e w' => ∃ v', e = .returned v' ∧ w'.ownsRow w.heap.size 5 1 v' (cfgB c).length (bts (cfgB c)) ∧ Below w.heap.size w w' := by
 have bz := BlockIs.new w (cfgA c vs vw) 33
 have HB0 := (Below.refl w.heap.size w).alloc (Nat.le_refl _) (.cells (cfgA c vs vw) 33)
 have HBZ := Lib.hid bz
 have HB := Lib.hid HB0
 have HM := Lib.hid (hm.below HB0)
 have HH := Lib.hid h
 clear bz HB0 h hm
 go_enter Tryz.func20, Tryz.ntmps20
 go_wp2_with ((with_reducible show wpList _ _ _ _ _ _); refine wl_box (.tmp 1) c vs vw w.heap.size 33 rfl rfl rfl HBZ.out ?_)
 refine (rrows_ok c vs vw _ HH.out HM.out).mono ?_; rintro e w1 ⟨l, v, rfl, hr, hb1⟩
 have B1 := HB.out.trans (hb1.mono HB.out.size)
 go_wp2_with fail
 refine (rlay_ok c l v _ HH.out hr).mono ?_; rintro e w2 ⟨v2, rfl, h2, hb2⟩
 have R := Lib.hid (h2.mono B1.size)
 have RB := Lib.hid (B1.trans (hb2.mono B1.size))
 clear h2 hb2 B1 hb1 hr
 go_wp2_with fail
 go_ret
 exact ⟨_, rfl, R.out, RB.out⟩
def dstAt (ops : Array Oper) (j : Nat) : Option Tmp := match ops[j]? with | some o => o.dst | none => none
def befAt (ops : Array Oper) (i j : Nat) : Bool := match ops[i]? with | some o => o.after.any (fun e => Region.binds .any e && e.on == j) | none => false
def freshAt (ops : Array Oper) (i k : Nat) : Bool := (List.range ops.size).all fun j => j == i || befAt ops j i || dstAt ops j != some k
def apartAll (ops : Array Oper) : Bool := (List.range ops.size).all fun i => (List.range ops.size).all fun j => i == j || dstAt ops i == none || dstAt ops i != dstAt ops j
def insideAll (ops : Array Oper) (n : Nat) : Bool := ops.all fun o => match o.dst with | some k => decide (k < n) | none => true
def slotAt (ops : Array Oper) (a : Act) (j : Nat) : Value := match dstAt ops j with | some k => a.tmps.getD k undef | none => undef
def StepOk (P : Program) (Q : Exit → Act → World → Prop) (ops : Array Oper) (t0 : Array Value) (I : World → Prop) (G : Nat → World → World → Prop) (V : Nat → World → Value → Prop) (i : Nat) (o : Oper) : Prop :=
 ∀ a w, I w → (∀ k, freshAt ops i k = true → a.tmps.getD k undef = t0.getD k undef) → (∀ j, befAt ops i j = true → V j w (slotAt ops a j)) →
  (Region.wanted o (yielded ops a.tmps) = true → o.wp P a w (fun a' w' => ∃ v, a' = a.put o.dst v ∧ V i w' (match o.dst with | some _ => v | none => undef) ∧ I w' ∧ G i w w') Q) ∧ (Region.wanted o (yielded ops a.tmps) = false → V i w undef)
theorem step_plain {P : Program} {Q : Exit → Act → World → Prop} {ops : Array Oper} {t0 : Array Value} {I : World → Prop} {G : Nat → World → World → Prop} {V : Nat → World → Value → Prop} {i : Nat} {o : Oper} (hg : o.guard = none)
  (h : ∀ a w, I w → (∀ k, freshAt ops i k = true → a.tmps.getD k undef = t0.getD k undef) → (∀ j, befAt ops i j = true → V j w (slotAt ops a j)) → o.wp P a w (fun a' w' => ∃ v, a' = a.put o.dst v ∧ V i w' (match o.dst with | some _ => v | none => undef) ∧ I w' ∧ G i w w') Q) : StepOk P Q ops t0 I G V i o :=
 fun a w h1 h2 h3 => ⟨fun _ => h a w h1 h2 h3, fun hw => by simp [Region.wanted, hg] at hw⟩
def StepsOk (P : Program) (Q : Exit → Act → World → Prop) (ops : Array Oper) (t0 : Array Value) (I : World → Prop) (G : Nat → World → World → Prop) (V : Nat → World → Value → Prop) : List Oper → Nat → Prop
 | [], _ => True
 | o :: r, i => StepOk P Q ops t0 I G V i o ∧ StepsOk P Q ops t0 I G V r (i + 1)
theorem stepsOk_at (P : Program) (Q : Exit → Act → World → Prop) (ops : Array Oper) (t0 : Array Value) (I : World → Prop) (G : Nat → World → World → Prop) (V : Nat → World → Value → Prop) : ∀ (l : List Oper) (n : Nat), StepsOk P Q ops t0 I G V l n → ∀ (i : Nat) (o : Oper), l[i]? = some o → StepOk P Q ops t0 I G V (n + i) o
 | [], _, _, i, o, h => by simp at h
 | x :: r, n, hs, i, o, h => by
  cases i with
  | zero => cases h; exact hs.1
  | succ i => have := stepsOk_at P Q ops t0 I G V r (n + 1) hs.2 i o (by simpa using h); rwa [show n + 1 + i = n + (i + 1) by omega] at this
structure FInv (ops : Array Oper) (t0 : Array Value) (ds : List Deferred) (I : World → Prop) (V : Nat → World → Value → Prop) (listed : Array Bool) (a : Act) (w : World) : Prop where
 size : listed.size = ops.size
 tmps : a.tmps.size = t0.size
 defers : a.defers = ds
 inv : I w
 closed : ∀ j i, listed.getD j false = true → befAt ops j i = true → listed.getD i false = true
 other : ∀ k, (∀ j, listed.getD j false = true → dstAt ops j ≠ some k) → a.tmps.getD k undef = t0.getD k undef
 done : ∀ j, listed.getD j false = true → V j w (slotAt ops a j)
def fillL : List (Option Nat) → List Value → (Nat → Value) → List Value
 | none :: ms, v :: vs, u => v :: fillL ms vs u
 | some k :: ms, _ :: vs, u => u k :: fillL ms vs u
 | [], vs, _ => vs
 | _ :: _, [], _ => []
def maskOf (ops : Array Oper) (n : Nat) : List (Option Nat) := (List.range n).map fun k => if ops.any (fun o => o.dst == some k) then some k else none
theorem fillL_get : ∀ (ms : List (Option Nat)) (vs : List Value) (u : Nat → Value) (k : Nat), ms.length = vs.length → (fillL ms vs u)[k]? = match ms[k]? with | some (some i) => some (u i) | some none => vs[k]? | none => none
 | [], vs, u, k, h => by
  have : vs = [] := List.eq_nil_of_length_eq_zero (by simpa using h.symm)
  subst this; simp [fillL]
 | m :: ms, [], u, k, h => by simp at h
 | m :: ms, v :: vs, u, k, h => by
  have ih := fillL_get ms vs u
  cases k with
  | zero => cases m <;> simp [fillL]
  | succ k =>
   have := ih k (by simpa using h)
   cases m <;> simp [fillL, this]
theorem getD_set2 {listed : Array Bool} {i : Nat} (hi : i < listed.size) (j : Nat) : (listed.setIfInBounds i true).getD j false = if j = i then true else listed.getD j false := by
 by_cases c : j = i
 ·subst c; simp [hi]
 ·rw [if_neg c]; simp [Array.getElem?_setIfInBounds_ne (fun h => c h.symm)]
theorem put_get {a : Act} {d : Option Tmp} {v : Value} (k : Nat) (h : d ≠ some k) : (a.put d v).tmps.getD k undef = a.tmps.getD k undef := by
 cases d with
 | none => rfl
 | some d =>
  have : d ≠ k := fun e => h (by rw [e])
  simp [Act.put, Array.getElem?_setIfInBounds_ne this]
theorem put_self {a : Act} {v : Value} (k : Nat) (h : k < a.tmps.size) : (a.put (some k) v).tmps.getD k undef = v := by
 simp [Act.put, h]
theorem wpAny_facts {P : Program} {Q : Exit → Act → World → Prop} {ops : Array Oper} {t0 : List Value} {ds : List Deferred} {W : World} (I : World → Prop) (G : Nat → World → World → Prop) (V : Nat → World → Value → Prop) (mask : List (Option Nat))
  (hE : (ops.toList.zipIdx.all fun x => x.1.after.all fun e => decide (e.on < x.2)) = true) (hap : apartAll ops = true) (hin : insideAll ops t0.length = true) (hmask : maskOf ops t0.length = mask)
  (hI : I W) (hG : ∀ i w, I w → G i w w) (hkeep : ∀ i j w w' v, j ≠ i → befAt ops j i = false → V j w v → I w → G i w w' → V j w' v)
  (hend : ∀ (u : Nat → Value) w, I w → (∀ j, j < ops.size → V j w (match dstAt ops j with | some k => u k | none => undef)) → Q .normal ⟨(fillL mask t0 u).toArray, ds⟩ w)
  (hstep : StepsOk P Q ops t0.toArray I G V ops.toList 0) :
  wpAny P .any ops Q ops.size (Array.replicate ops.size false) ⟨t0.toArray, ds⟩ W := by
 have hinn : ∀ (j : Nat) (k : Tmp), dstAt ops j = some k → k < t0.length := by
  intro j k hk
  unfold dstAt at hk
  cases ho : ops[j]? with
  | none => simp [ho] at hk
  | some o =>
   simp only [ho] at hk
   have := Array.all_eq_true_iff_forall_mem.1 hin o (Array.mem_of_getElem? ho)
   simp only [hk] at this
   simpa using this
 have hlt : ∀ j k, dstAt ops j = some k → j < ops.size := by
  intro j k hk
  refine Classical.byContradiction fun c => ?_
  unfold dstAt at hk
  rw [Array.getElem?_eq_none (by omega)] at hk
  cases hk
 have hapt : ∀ i j k, dstAt ops i = some k → dstAt ops j = some k → i = j := by
  intro i j k h1 h2
  refine Classical.byContradiction fun c => ?_
  have := List.all_eq_true.1 (List.all_eq_true.1 hap i (List.mem_range.2 (hlt i k h1))) j (List.mem_range.2 (hlt j k h2))
  simp [h1, h2, c] at this
 refine wpAny_inv (FInv ops t0.toArray ds I V) ?step ?fin _ _ _ _ (by simp) ?start
 case start =>
  have z : ∀ i, (Array.replicate ops.size false).getD i false = false := fun i => by
   by_cases c : i < ops.size
   ·simp [c]
   ·simp [Array.getElem?_eq_none, c]
  refine ⟨by simp, rfl, rfl, hI, ?_, fun _ _ => rfl, ?_⟩
  ·intro j i c
   rw [z] at c; cases c
  ·intro j c
   rw [z] at c; cases c
 case fin =>
  intro listed a w h hr
  have hl := all_listed hE h.size hr
  have hml : mask.length = t0.length := by rw [← hmask]; simp [maskOf]
  have ht : a.tmps = (fillL mask t0 (fun k => a.tmps.getD k undef)).toArray := by
   apply Array.toList_inj.1
   apply List.ext_getElem?
   intro k
   rw [List.toList_toArray, fillL_get _ _ _ _ hml, Array.getElem?_toList]
   have hts := h.tmps
   simp only [List.size_toArray] at hts
   by_cases c : k < t0.length
   ·have hmk : mask[k]? = some (if ops.any (fun o => o.dst == some k) then some k else none) := by rw [← hmask]; simp [maskOf, c]
    have hk : a.tmps[k]? = some (a.tmps.getD k undef) := by
     rw [Array.getD_eq_getD_getElem?, Array.getElem?_eq_getElem (by omega)]; rfl
    rw [hmk]
    by_cases d : ops.any (fun o => o.dst == some k) = true
    ·rw [if_pos d]; exact hk
    ·rw [if_neg d]
     have := h.other k (fun j _ e => d (by
      have hj := hlt j k e
      rw [Array.any_eq_true]
      refine ⟨j, hj, ?_⟩
      unfold dstAt at e
      rw [Array.getElem?_eq_getElem hj] at e
      simpa using e))
     rw [hk, this]
     simp [c]
   ·rw [Array.getElem?_eq_none (show a.tmps.size ≤ k by omega), List.getElem?_eq_none (show mask.length ≤ k by omega)]
  have := hend (fun k => a.tmps.getD k undef) w h.inv (fun j hj => by have := h.done j (hl j hj); exact this)
  rw [← ht, ← h.defers] at this
  exact this
 case step =>
  intro listed a w i h hi
  obtain ⟨h0, o, ho, haft⟩ := mem_ready.1 hi
  have hil : i < listed.size := by
   refine Classical.byContradiction fun c => ?_
   simp [Array.getElem?_eq_none (show listed.size ≤ i by omega)] at h0
  have hi0 : listed.getD i false = false := by
   have : listed[i]? = some listed[i] := by simp [hil]
   simp [hil] at h0 ⊢
   exact h0
  have hdo : dstAt ops i = o.dst := by unfold dstAt; rw [ho]
  have hbo : ∀ j, befAt ops i j = true → listed.getD j false = true := by
   intro j hj
   unfold befAt at hj
   rw [ho] at hj
   obtain ⟨e, he, h2⟩ := Array.any_eq_true.1 hj
   simp only [Bool.and_eq_true, beq_iff_eq] at h2
   rw [← h2.2]
   exact haft _ (Array.getElem_mem he) h2.1
  have hst := stepsOk_at P Q ops t0.toArray I G V _ 0 hstep i o (by simpa using ho)
  rw [Nat.zero_add] at hst
  have hres := hst a w h.inv (fun k hf => h.other k (fun j hj e => by
   have hj2 := hlt j k e
   have := List.all_eq_true.1 hf j (List.mem_range.2 hj2)
   simp only [Bool.or_eq_true, beq_iff_eq, bne_iff_ne, ne_eq] at this
   rcases this with (e2 | e2) | e2
   ·rw [e2, hi0] at hj; cases hj
   ·have := h.closed j i hj e2; rw [hi0] at this; cases this
   ·exact e2 e)) (fun j hj => h.done j (hbo j hj))
  have gl := fun j => getD_set2 (listed := listed) (i := i) hil j
  have key : ∀ (v : Value) (w' : World), V i w' (match o.dst with | some _ => v | none => undef) → I w' → G i w w' → FInv ops t0.toArray ds I V (listed.setIfInBounds i true) (a.put o.dst v) w' := by
   intro v w' hv hI' hG'
   have hts := h.tmps
   refine ⟨by simp [h.size], ?_, ?_, hI', ?_, ?_, ?_⟩
   ·cases o.dst <;> simp [Act.put, hts]
   ·have := h.defers
    cases o.dst <;> simpa [Act.put] using this
   ·intro j k c hb
    rw [gl] at c ⊢
    by_cases e : j = i
    ·subst e
     have := hbo k hb
     by_cases e2 : k = j
     ·rw [if_pos e2]
     ·rw [if_neg e2]; exact this
    ·rw [if_neg e] at c
     have := h.closed j k c hb
     by_cases e2 : k = i
     ·rw [if_pos e2]
     ·rw [if_neg e2]; exact this
   ·intro k hk
    have h1 : o.dst ≠ some k := by
     have := hk i (by rw [gl, if_pos rfl])
     rwa [hdo] at this
    rw [put_get k h1]
    exact h.other k (fun j hj => hk j (by rw [gl]; split <;> first | rfl | exact hj))
   ·intro j c
    rw [gl] at c
    by_cases e : j = i
    ·subst e
     have : slotAt ops (a.put o.dst v) j = match o.dst with | some _ => v | none => undef := by
      unfold slotAt
      rw [hdo]
      cases hd : o.dst with
      | none => rfl
      | some k =>
       have hk := hinn j k (by rw [hdo, hd])
       exact put_self k (by rw [hts]; simpa using hk)
     rw [this]
     exact hv
    ·rw [if_neg e] at c
     have := hkeep i j w w' _ e (by cases hb : befAt ops j i with | false => rfl | true => (have := h.closed j i c hb; rw [hi0] at this; cases this)) (h.done j c) h.inv hG'
     have e3 : slotAt ops (a.put o.dst v) j = slotAt ops a j := by
      unfold slotAt
      cases hd : dstAt ops j with
      | none => rfl
      | some k =>
       refine put_get k (fun e4 => e ?_)
       exact hapt j i k hd (by rw [hdo, e4])
     rw [e3]
     exact this
  unfold wpOp
  simp only [ho]
  cases hwn : Region.wanted o (yielded ops a.tmps) with
  | true =>
   rw [if_pos rfl]
   refine .inl (Oper.wp_mono (fun a' w' hh => ?_) (hres.1 hwn))
   obtain ⟨v, rfl, hv, hI', hG'⟩ := hh
   exact key v w' hv hI' hG'
  | false =>
   rw [if_neg (by simp)]
   exact key undef w (by have := hres.2 hwn; cases o.dst <;> exact this) h.inv (hG i w h.inv)
end Go.Proofs.YtfnifgppblbjhaaGreatDoor
namespace Go.Proofs.YtfnifgppblbjhaaGreatDoor
set_option maxHeartbeats 8000000
open Go.RowKit Go.Lib
set_option linter.unusedVariables false
set_option linter.unusedSimpArgs false
theorem comp_up {d : Array Int} (hs : ∀ i j, i ≤ j → j < d.size → d[i]! ≤ d[j]!) : ∀ m, m ≤ d.size → (compactUpTo d m).Pairwise (· < ·) ∧ (∀ x ∈ compactUpTo d m, ∃ j, j < m ∧ x = d[j]!) ∧ ∀ j, j < m → d[j]! ∈ compactUpTo d m
 | 0, _ => by simp [compactUpTo]
 | m + 1, h => by
  obtain ⟨p, q, r⟩ := comp_up hs m (by omega)
  rw [compactUpTo_succ]
  by_cases k : keeps d m = true
  ·rw [if_pos k]
   refine ⟨List.pairwise_append.2 ⟨p, by simp, ?_⟩, ?_, ?_⟩
   ·intro x hx y hy
    obtain ⟨j, hj, rfl⟩ := q x hx
    simp only [List.mem_singleton] at hy
    subst hy
    have h2 := hs j (m - 1) (by omega) (by omega)
    have h3 := hs (m - 1) m (by omega) (by omega)
    have : d[m]! ≠ d[m - 1]! := by
     simp only [keeps, decide_eq_true_eq] at k
     rcases k with k | k
     ·omega
     ·exact k
    omega
   ·intro x hx
    rcases List.mem_append.1 hx with hx | hx
    ·obtain ⟨j, hj, e⟩ := q x hx
     exact ⟨j, by omega, e⟩
    ·simp only [List.mem_singleton] at hx
     exact ⟨m, by omega, hx⟩
   ·intro j hj
    by_cases e : j = m
    ·subst e; simp
    ·exact List.mem_append.2 (.inl (r j (by omega)))
  ·rw [if_neg k, List.append_nil]
   have k2 : m ≠ 0 ∧ d[m]! = d[m - 1]! := by
    simp only [keeps, decide_eq_true_eq] at k
    exact ⟨fun e => k (.inl e), Classical.byContradiction fun e => k (.inr e)⟩
   refine ⟨p, fun x hx => ?_, fun j hj => ?_⟩
   ·obtain ⟨j, hj, e⟩ := q x hx
    exact ⟨j, by omega, e⟩
   ·by_cases e : j = m
    ·rw [e, k2.2]; exact r (m - 1) (by omega)
    ·exact r j (by omega)
def setOf (l : List Int) : List Int := compact (l.mergeSort fun x y => decide (x ≤ y))
theorem setOf_ok (l : List Int) : (setOf l).Pairwise (· < ·) ∧ ∀ x, x ∈ setOf l ↔ x ∈ l := by
 have hsort : (l.mergeSort fun x y => decide (x ≤ y)).Pairwise (fun x y => decide (x ≤ y) = true) := List.pairwise_mergeSort (fun a b c h1 h2 => by simp at *; omega) (fun a b => by simp; omega) l
 have hperm : (l.mergeSort fun x y => decide (x ≤ y)).Perm l := List.mergeSort_perm l _
 unfold setOf compact
 generalize (l.mergeSort fun x y => decide (x ≤ y)) = s at *
 have hs : ∀ i j, i ≤ j → j < s.toArray.size → s.toArray[i]! ≤ s.toArray[j]! := by
  intro i j hij hj
  have hj2 : j < s.length := by simpa using hj
  rw [getElem!_pos s.toArray j hj, getElem!_pos s.toArray i (by omega)]
  by_cases e : i = j
  ·subst e; exact Int.le_refl _
  ·have := List.pairwise_iff_getElem.1 hsort i j (by omega) hj2 (by omega)
   simpa using this
 obtain ⟨p, q, r⟩ := comp_up hs s.length (by simp)
 refine ⟨p, fun x => ⟨fun hx => ?_, fun hx => ?_⟩⟩
 ·obtain ⟨j, hj, e⟩ := q x hx
  have : x ∈ s := by
   rw [e, getElem!_pos s.toArray j (by simpa using hj)]
   simp
  exact hperm.mem_iff.1 this
 ·obtain ⟨j, hj, e⟩ := List.getElem_of_mem (hperm.mem_iff.2 hx)
  have := r j hj
  rwa [getElem!_pos s.toArray j (by simpa using hj), show s.toArray[j]'(by simpa using hj) = s[j] from by simp, e] at this
theorem getD_at (xs : List Int) (j : Nat) (h : j < xs.length) : xs.getD j 0 = xs[j] := by simp [List.getD_eq_getElem?_getD, h]
def endsOf (l : List Sp) : List Int := l.flatMap fun s => [s.a, s.b]
def resK (l : List Sp) (m : Int) (xs : List Int) : Nat → List Sp
 | 0 => []
 | k + 1 => stepR l (resK l m xs k) m (xs.getD k 0) (xs.getD (k + 1) 0)
theorem resK_inv {l : List Sp} {m : Int} (hl : ∀ s ∈ l, s.a < s.b) : ∀ k, k < (setOf (endsOf l)).length → RInv l m (resK l m (setOf (endsOf l)) k) ((setOf (endsOf l)).getD k 0) := by
 obtain ⟨hp, hm⟩ := setOf_ok (endsOf l)
 have hab : ∀ s ∈ l, s.a ∈ setOf (endsOf l) ∧ s.b ∈ setOf (endsOf l) := fun s hs => ⟨(hm _).2 (List.mem_flatMap.2 ⟨s, hs, by simp⟩), (hm _).2 (List.mem_flatMap.2 ⟨s, hs, by simp⟩)⟩
 generalize setOf (endsOf l) = xs at *
 have hlt : ∀ i j, i < j → j < xs.length → xs.getD i 0 < xs.getD j 0 := by
  intro i j hij hj
  rw [getD_at xs i (by omega), getD_at xs j hj]
  exact List.pairwise_iff_getElem.1 hp i j (by omega) hj hij
 have hat : ∀ x ∈ xs, ∃ j, j < xs.length ∧ xs.getD j 0 = x := by
  intro x hx
  obtain ⟨j, hj, e⟩ := List.getElem_of_mem hx
  exact ⟨j, hj, by rw [getD_at xs j hj, e]⟩
 intro k
 induction k with
 | zero =>
  intro h
  refine RInv.first fun s hs => ?_
  obtain ⟨j, hj, e⟩ := hat _ (hab s hs).1
  rw [← e]
  by_cases c : j = 0
  ·subst c; exact Int.le_refl _
  ·exact Int.le_of_lt (hlt 0 j (by omega) hj)
 | succ k ih =>
  intro h
  refine stepR_inv (ih (by omega)) (hlt k (k + 1) (by omega) h) fun s hs => ?_
  have no : ∀ x ∈ xs, ¬ (xs.getD k 0 < x ∧ x < xs.getD (k + 1) 0) := by
   intro x hx ⟨h1, h2⟩
   obtain ⟨j, hj, e⟩ := hat x hx
   rw [← e] at h1 h2
   by_cases c : j ≤ k
   ·by_cases c2 : j = k
    ·subst c2; omega
    ·have := hlt j k (by omega) (by omega); omega
   ·by_cases c2 : j = k + 1
    ·subst c2; omega
    ·have := hlt (k + 1) j (by omega) hj; omega
  exact ⟨no _ (hab s hs).1, no _ (hab s hs).2⟩
theorem resK_all {l : List Sp} {m : Int} (hl : ∀ s ∈ l, s.a < s.b) (t : Int) : cov (resK l m (setOf (endsOf l)) ((setOf (endsOf l)).length - 1)) t = cov l t := by
 by_cases h0 : (setOf (endsOf l)).length = 0
 ·have hm := (setOf_ok (endsOf l)).2
  have hn : l = [] := by
   cases l with
   | nil => rfl
   | cons s r =>
    have := (hm s.a).2 (by simp [endsOf])
    rw [List.eq_nil_of_length_eq_zero h0] at this
    simp at this
  subst hn
  rw [h0]
  rfl
 ·have hi := resK_inv (m := m) hl ((setOf (endsOf l)).length - 1) (by omega)
  refine hi.all (fun s hs => ?_) t
  obtain ⟨hp, hm⟩ := setOf_ok (endsOf l)
  have hb : s.b ∈ setOf (endsOf l) := (hm _).2 (List.mem_flatMap.2 ⟨s, hs, by simp⟩)
  generalize setOf (endsOf l) = xs at *
  obtain ⟨j, hj, e⟩ := List.getElem_of_mem hb
  rw [← e, getD_at xs _ (by omega)]
  by_cases c : j = xs.length - 1
  ·subst c
   exact Int.le_refl _
  ·have := List.pairwise_iff_getElem.1 hp j (xs.length - 1) hj (by omega) (by omega)
   omega
end Go.Proofs.YtfnifgppblbjhaaGreatDoor
namespace Go.Proofs.YtfnifgppblbjhaaGreatDoor
set_option maxHeartbeats 8000000
open Go Go.RowKit Go.Shelf Go.Sort Go.Lib
set_option linter.unusedVariables false
set_option linter.unusedSimpArgs false
def sort_ren : Go.Shelf.Ren := ⟨fun | 189 => 256 | 125 => 271 | 257 => 270 | 128 => 282 | 129 => 283 | 294 => 273 | 295 => 274 | 296 => 275 | 297 => 276 | 298 => 277 | 299 => 278 | 216 => 279 | 300 => 280 | 301 => 281 | 328 => 284 | 329 => 285 | 330 => 286 | 331 => 287 | 332 => 288 | 215 => 208 | 343 => 289 | n => n, fun | 28 => 22 | 3 => 3 | 46 => 161 | 0 => 0 | 51 => 414 | 53 => 162 | 4 => 4 | 183 => 408 | 182 => 407 | 131 => 123 | 5 => 5 | 9 => 9 | 218 => 416 | 222 => 420 | 228 => 422 | 229 => 296 | n => n, fun | n => n⟩
theorem sort_lays : Go.Proofs.Lays.n189 Tryz.prog sort_ren := {
 mixed := by kernel_rfl
 f125 := Tryz.func271.trans (congrArg some (by kernel_rfl))
 f128 := Tryz.func282.trans (congrArg some (by kernel_rfl))
 f129 := Tryz.func283.trans (congrArg some (by kernel_rfl))
 f189 := Tryz.func256.trans (congrArg some (by kernel_rfl))
 f215 := Tryz.func208.trans (congrArg some (by kernel_rfl))
 f216 := Tryz.func279.trans (congrArg some (by kernel_rfl))
 f257 := Tryz.func270.trans (congrArg some (by kernel_rfl))
 f294 := Tryz.func273.trans (congrArg some (by kernel_rfl))
 f295 := Tryz.func274.trans (congrArg some (by kernel_rfl))
 f296 := Tryz.func275.trans (congrArg some (by kernel_rfl))
 f297 := Tryz.func276.trans (congrArg some (by kernel_rfl))
 f298 := Tryz.func277.trans (congrArg some (by kernel_rfl))
 f299 := Tryz.func278.trans (congrArg some (by kernel_rfl))
 f300 := Tryz.func280.trans (congrArg some (by kernel_rfl))
 f301 := Tryz.func281.trans (congrArg some (by kernel_rfl))
 f328 := Tryz.func284.trans (congrArg some (by kernel_rfl))
 f329 := Tryz.func285.trans (congrArg some (by kernel_rfl))
 f330 := Tryz.func286.trans (congrArg some (by kernel_rfl))
 f331 := Tryz.func287.trans (congrArg some (by kernel_rfl))
 f332 := Tryz.func288.trans (congrArg some (by kernel_rfl))
 f343 := Tryz.func289.trans (congrArg some (by kernel_rfl))
 t0 := Tryz.underlying0
 a0 := Tryz.isAgg0
 z0 := Tryz.sizeOf0
 v0 := Tryz.zeroValue0
 t3 := Tryz.underlying3
 a3 := Tryz.isAgg3
 z3 := Tryz.sizeOf3
 v3 := Tryz.zeroValue3
 t4 := Tryz.underlying4
 a4 := Tryz.isAgg4
 z4 := Tryz.sizeOf4
 v4 := Tryz.zeroValue4
 t5 := Tryz.underlying5
 a5 := Tryz.isAgg5
 z5 := Tryz.sizeOf5
 v5 := Tryz.zeroValue5
 t9 := Tryz.underlying9
 a9 := Tryz.isAgg9
 z9 := Tryz.sizeOf9
 v9 := Tryz.zeroValue9
 t28 := Tryz.underlying22
 a28 := Tryz.isAgg22
 z28 := Tryz.sizeOf22
 v28 := Tryz.zeroValue22
 t46 := Tryz.underlying161
 a46 := Tryz.isAgg161
 z46 := Tryz.sizeOf161
 v46 := Tryz.zeroValue161
 t51 := Tryz.underlying414
 a51 := Tryz.isAgg414
 z51 := Tryz.sizeOf414
 v51 := Tryz.zeroValue414
 t53 := Tryz.underlying162
 a53 := Tryz.isAgg162
 z53 := Tryz.sizeOf162
 v53 := Tryz.zeroValue162
 t131 := Tryz.underlying123
 a131 := Tryz.isAgg123
 z131 := Tryz.sizeOf123
 v131 := Tryz.zeroValue123
 t182 := Tryz.underlying407
 a182 := Tryz.isAgg407
 z182 := Tryz.sizeOf407
 v182 := Tryz.zeroValue407
 t183 := Tryz.underlying408
 a183 := Tryz.isAgg408
 z183 := Tryz.sizeOf408
 v183 := Tryz.zeroValue408
 t218 := Tryz.underlying416
 a218 := Tryz.isAgg416
 z218 := Tryz.sizeOf416
 v218 := Tryz.zeroValue416
 t222 := Tryz.underlying420
 a222 := Tryz.isAgg420
 z222 := Tryz.sizeOf420
 v222 := Tryz.zeroValue420
 t228 := Tryz.underlying422
 a228 := Tryz.isAgg422
 z228 := Tryz.sizeOf422
 v228 := Tryz.zeroValue422
 t229 := Tryz.underlying296
 a229 := Tryz.isAgg296
 z229 := Tryz.sizeOf296
 v229 := Tryz.zeroValue296
 }
def comp_ren : Go.Shelf.Ren := ⟨fun | 20 => 257 | n => n, fun | 22 => 22 | 3 => 3 | 4 => 4 | 0 => 0 | n => n, fun | n => n⟩
theorem comp_lays : Go.Proofs.Lays2.n20 Tryz.prog comp_ren := {
 mixed := by kernel_rfl
 f20 := Tryz.func257.trans (congrArg some (by kernel_rfl))
 t0 := Tryz.underlying0
 a0 := Tryz.isAgg0
 z0 := Tryz.sizeOf0
 v0 := Tryz.zeroValue0
 t3 := Tryz.underlying3
 a3 := Tryz.isAgg3
 z3 := Tryz.sizeOf3
 v3 := Tryz.zeroValue3
 t4 := Tryz.underlying4
 a4 := Tryz.isAgg4
 z4 := Tryz.sizeOf4
 v4 := Tryz.zeroValue4
 t22 := Tryz.underlying22
 a22 := Tryz.isAgg22
 z22 := Tryz.sizeOf22
 v22 := Tryz.zeroValue22
 i3 := by kernel_rfl
 }
theorem sort_ints (zs : List Int) (g cap : Nat) (w : World) (hH : Holds (Value.int .i64) w g 0 zs.toArray) (hg : g < w.heap.size) (hn : zs.length < 1000000) :
  Calls Tryz.prog 256 #[.slice (some ⟨g, 0, none⟩) zs.length cap] w fun e w' => e = .returned (.tuple #[]) ∧ w.grownBy w' (some g) ∧ Holds (Value.int .i64) w' g 0 (zs.mergeSort fun x y => decide (x ≤ y)).toArray := by
 refine (Any.slices_Sort_int sort_lays g 0 cap zs w hH hg (by omega)).mono ?_
 rintro e w' ⟨rfl, n, os, rfl⟩
 refine ⟨rfl, grownBy_sortedI _, ?_⟩
 refine holds_grow _ _ _ _ _ _ (by simpa using hg) ?_
 exact holds_putRow _ _ _ _ zs.toArray _ (holds_ahead _ _ _ _ _ _ hH) (by simp)
theorem comp_ints (zs : List Int) (g cap : Nat) (w : World) (hH : Holds (Value.int .i64) w g 0 zs.toArray) (hg : g < w.heap.size) (hn : zs.length < 1000000) (hc : zs.length ≤ cap) :
  Calls Tryz.prog 257 #[.slice (some ⟨g, 0, none⟩) zs.length cap] w fun e w' => e = .returned (.slice (some ⟨g, 0, none⟩) (compact zs).length cap) ∧ w.grownBy w' (some g) ∧ Holds (Value.int .i64) w' g 0 (compact zs).toArray := by
 have hl : (compact zs).length ≤ zs.length := by
  unfold compact compactUpTo
  rw [List.length_map]
  exact Nat.le_trans (List.length_filter_le _ _) (by simp)
 refine (Any.slices_Compact_int comp_lays g 0 cap zs w hH (by omega) hc).mono ?_
 rintro e w' ⟨rfl, n, rfl⟩
 have hG := grownBy_sortedI (w := w) (g := g) (n := n) (os := #[]) (compact zs ++ List.replicate (zs.length - (compact zs).length) 0).toArray
 rw [grow_empty] at hG
 refine ⟨rfl, hG, ?_⟩
 have h2 := holds_putRow (Value.int .i64) (Sort.ahead w n) g 0 zs.toArray (compact zs ++ List.replicate (zs.length - (compact zs).length) 0).toArray (holds_ahead _ _ _ _ _ _ hH) (by simp; omega)
 intro j hj
 have hj' : j < (compact zs).length := by simpa using hj
 have := h2 j (by simp; omega)
 have e : (compact zs ++ List.replicate (zs.length - (compact zs).length) 0).toArray[j]! = (compact zs).toArray[j]! := by
  rw [getElem!_pos _ j (by simp; omega), getElem!_pos _ j hj]
  simp [List.getElem_append_left, hj']
 rw [e] at this
 exact this
end Go.Proofs.YtfnifgppblbjhaaGreatDoor
