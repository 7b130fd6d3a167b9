/- Part of the proof of TopHoly. -/
import Derived.Test.YtfnifgppblbjhaaGreatDoorY01
import Derived.Test.YtfnifgppblbjhaaGreatDoorY13
import Derived.Test.YtfnifgppblbjhaaGreatDoorY14
import Derived.Test.YtfnifgppblbjhaaGreatDoorY22
import Derived.Test.YtfnifgppblbjhaaGreatDoorY23
import Derived.Deep.MidRow
import Derived.Deep.RegionHeld3
import Derived.Deep.Upon
import Derived.Laws.ResultCell
import Derived.StillTailTactics
namespace Go.Proofs.YtfnifgppblbjhaaGreatDoor
set_option maxHeartbeats 8000000
open Go Go.RowKit
set_option linter.unusedVariables false
set_option linter.unusedSimpArgs false
theorem src_zero {P : Program} {size : Nat} {tx e : TypeId} (ht : P.underlying tx = some (.slice e)) (q : Option Addr) (d : Nat) (w : World) : Src P size tx (.slice q 0 d) 0 [] w := by
 cases q with
 | none => exact Src.ofNil w ht d
 | some a => exact Src.ofSlice w ht a 0 d [] (by simp) (by intro j u h; simp at h) (by simp)
theorem wp_append_zero {P : Program} {w : World} {o : Oper} {a : Act} {K : Act → World → Prop} {Q : Exit → Act → World → Prop} (s x : Operand) (t : TypeId)
  (ho : o.op = .call { callee := .builtin .append, args := #[s, x], argTypes := #[t, t] }) (e : TypeId) (ht : P.underlying t = some (.slice e)) (n : Nat) (hi : (P.info? e).map (·.size) = some n)
  (p q : Option Addr) (d : Nat) (hs : a.eval s = .slice p 0 0) (hx : a.eval x = .slice q 0 d) (hK : K (a.put o.dst (.slice p 0 0)) w) : Oper.wp P o a w K Q := by
 cases hI : P.info? e with
 | none => rw [hI] at hi; cases hi
 | some i =>
  have hrun := run_append_nothing (P := P) w t t o.type e i ht hI p 0 0 (Nat.le_refl _) _ (src_zero ht q d w)
  unfold Oper.wp
  simp [execOp, ho, resolve, invoke, builtin, hs, hx, hrun, Result.andThen]
  exact hK
theorem wl_append_zero {P : Program} {w : World} {ops : Array Oper} {rest : List Oper} {o : Oper} {a : Act} {Q : Exit → Act → World → Prop} (hgd : o.guard = none) (s x : Operand) (t : TypeId)
  (ho : o.op = .call { callee := .builtin .append, args := #[s, x], argTypes := #[t, t] }) (e : TypeId) (ht : P.underlying t = some (.slice e)) (n : Nat) (hi : (P.info? e).map (·.size) = some n)
  (p q : Option Addr) (d : Nat) (hs : a.eval s = .slice p 0 0) (hx : a.eval x = .slice q 0 d) (h : wpList P ops Q rest (a.put o.dst (.slice p 0 0)) w) : wpList P ops Q (o :: rest) a w :=
 wpList_plain hgd fun K hK => wp_append_zero s x t ho e ht n hi p q d hs hx (hK _ _ h)
theorem hall_sz : (Tryz.prog.info? 186).map (·.size) = some 3 := by kernel_rfl
theorem ins_sz : (Tryz.prog.info? 189).map (·.size) = some 2 := by kernel_rfl
theorem clone_halls0 (p : Option Addr) (c : Nat) (w : World) : Calls Tryz.prog 96 #[.slice p 0 c] w fun e w' => ∃ p' c', e = .returned (.slice p' 0 c') ∧ Below w.heap.size w w' := by
 cases p with
 | none => exact (clone_halls 0 c w).mono (by rintro e w' ⟨rfl, rfl⟩; exact ⟨_, _, rfl, Below.refl _ _⟩)
 | some ad =>
  have q22 : ∀ (w : World) (a : Option Addr) (n c n' c' : Nat), (binOp .eql 44 (.slice a n c) (.slice none n' c')).run Tryz.prog w = .ok (.bool a.isNone) w := fun w a n c n' c' => Lib.run_eql_slice_nil w _ _ a n c n' c' Tryz.underlying44
  have hB := (Below.refl _ w).alloc (Nat.le_refl _) (.cells #[] 186)
  go_enter Tryz.func96, Tryz.ntmps96
  go_wp2_with (first | (at_builtin; refine wl_append_zero rfl (.tmp 5) (.tmp 6) 44 rfl 186 Tryz.underlying44 3 hall_sz _ _ _ rfl rfl ?_))
  go_ret
  exact ⟨_, _, rfl, hB⟩
theorem clone_ins0 (p : Option Addr) (c : Nat) (w : World) : Calls Tryz.prog 97 #[.slice p 0 c] w fun e w' => ∃ p' c', e = .returned (.slice p' 0 c') ∧ Below w.heap.size w w' := by
 cases p with
 | none => exact (clone_ins 0 c w).mono (by rintro e w' ⟨rfl, rfl⟩; exact ⟨_, _, rfl, Below.refl _ _⟩)
 | some ad =>
  have q22 : ∀ (w : World) (a : Option Addr) (n c n' c' : Nat), (binOp .eql 45 (.slice a n c) (.slice none n' c')).run Tryz.prog w = .ok (.bool a.isNone) w := fun w a n c n' c' => Lib.run_eql_slice_nil w _ _ a n c n' c' Tryz.underlying45
  have hB := (Below.refl _ w).alloc (Nat.le_refl _) (.cells #[] 189)
  go_enter Tryz.func97, Tryz.ntmps97
  go_wp2_with (first | (at_builtin; refine wl_append_zero rfl (.tmp 5) (.tmp 6) 45 rfl 189 Tryz.underlying45 2 ins_sz _ _ _ rfl rfl ?_))
  go_ret
  exact ⟨_, _, rfl, hB⟩
structure Tw where
 c0 : Cfg
 v0 : Value
 w0 : Value
 c : Cfg
 v : Value
 w : Value
 own : Bool
 gen : Int
 st : Bool
 hs : Bool
 now : Int
 cand : Int
 mode : Int
 age : Int
 lf : Value
 ha : Value
 hi : Value
 fa : Value
 fb : Value
def twA (x : Tw) : Array Value := #[.int .i64 x.c0.fl, .int .i64 x.c0.ca, .int .i64 x.c0.pk, x.v0, .int .i64 x.c0.tv, .int .i64 x.c0.lv, .int .i64 x.c0.op, .int .i64 x.c0.dw, .int .i64 x.c0.ld, .int .i64 x.c0.cl, .int .i64 x.c0.ho, .int .i64 x.c0.rs, .int .i64 x.c0.pa, .int .i64 x.c0.z.b, .int .i64 x.c0.z.s, .int .i64 x.c0.z.m, .int .i64 x.c0.z.k, .int .i64 x.c0.z.d, .int .i64 x.c0.z.t, .int .i64 x.c0.z.m', .int .i64 x.c0.z.k', .int .i64 x.c0.z.d', .int .i64 x.c0.z.t', .int .i64 (x.c0.f 0), .int .i64 (x.c0.f 1), .int .i64 (x.c0.f 2), .int .i64 (x.c0.f 3), .int .i64 (x.c0.f 4), .int .i64 (x.c0.f 5), .int .i64 (x.c0.f 6), .int .i64 (x.c0.f 7), .int .i64 (x.c0.f 8), .int .i64 (x.c0.f 9), .int .i64 (x.c0.f 10), .int .i64 (x.c0.f 11), .bool x.c0.ab, x.w0, .int .i64 x.c.fl, .int .i64 x.c.ca, .int .i64 x.c.pk, x.v, .int .i64 x.c.tv, .int .i64 x.c.lv, .int .i64 x.c.op, .int .i64 x.c.dw, .int .i64 x.c.ld, .int .i64 x.c.cl, .int .i64 x.c.ho, .int .i64 x.c.rs, .int .i64 x.c.pa, .int .i64 x.c.z.b, .int .i64 x.c.z.s, .int .i64 x.c.z.m, .int .i64 x.c.z.k, .int .i64 x.c.z.d, .int .i64 x.c.z.t, .int .i64 x.c.z.m', .int .i64 x.c.z.k', .int .i64 x.c.z.d', .int .i64 x.c.z.t', .int .i64 (x.c.f 0), .int .i64 (x.c.f 1), .int .i64 (x.c.f 2), .int .i64 (x.c.f 3), .int .i64 (x.c.f 4), .int .i64 (x.c.f 5), .int .i64 (x.c.f 6), .int .i64 (x.c.f 7), .int .i64 (x.c.f 8), .int .i64 (x.c.f 9), .int .i64 (x.c.f 10), .int .i64 (x.c.f 11), .bool x.c.ab, x.w, .bool x.own, .int .i64 x.gen, .bool x.st, .bool x.hs, .int .i64 x.now, .int .i64 x.cand, .int .i64 x.mode, .int .i64 x.age, x.lf, x.ha, x.hi, x.fa, x.fb]
theorem setCell_same {w : World} {b i : Nat} {v : Value} (h : w.cell? ⟨b, i, none⟩ = some v) : w.setCell ⟨b, i, none⟩ v = w := by
 unfold World.setCell
 have e : ∀ h2, h2 = w.heap → ({ w with heap := h2 } : World) = w := fun h2 he => by rw [he]
 refine e _ (Array.ext_getElem? fun k => ?_)
 ·rw [Array.getElem?_modify]
  by_cases hk : b = k
  ·subst hk
   rw [if_pos rfl]
   unfold World.cell? at h
   cases hb : w.heap[b]? with
   | none => rfl
   | some o =>
    rw [hb] at h
    cases o with
    | cells c e f =>
     have h' : c[i]? = some v := by simpa using h
     obtain ⟨hl, he⟩ := Array.getElem?_eq_some_iff.1 h'
     have : c.setIfInBounds i v = c := by subst he; simp [Array.setIfInBounds, hl]
     simp [this]
    | _ => rfl
  ·rw [if_neg hk]
theorem setCells_same {b : Nat} : ∀ (vs : List Value) (o : Nat) (w : World), w.rangeAt b o vs → w.setCells b o vs = w
 | [], _, _, _ => rfl
 | v :: r, o, w, h => by
  rw [World.setCells, setCell_same (by simpa using h 0 v rfl)]
  exact setCells_same r (o + 1) w fun j u hu => by
   have := h (j + 1) u (by simpa using hu)
   rwa [show o + 1 + j = o + (j + 1) by omega]
structure LiB (w : World) (b n k0 : Nat) : Prop where
 at' : ∀ k, k0 ≤ k → k < n → w.rangeAt b (k * 10) li0
 free : ∀ k, k < n → w.there b (k * 10) 10
theorem wl_sub {w : World} {b o n : Nat} (h : w.there b o n) {m k : Nat} (hk : k + m ≤ n) : w.there b (o + k) m := fun j hj => by
 have := h (k + j) (by omega)
 rwa [show o + (k + j) = o + k + j by omega] at this
theorem LiB.turn {T : Nat → Prop} {w w' : World} {b n k0 : Nat} (h : LiB w b n k0) (hb : Turn T w w') (ht : ¬ T b) : LiB w' b n k0 := by
 have key : ∀ o, (w.cell? ⟨b, o, none⟩).isSome = true → w'.cell? ⟨b, o, none⟩ = w.cell? ⟨b, o, none⟩ ∧ w'.frozen? ⟨b, o, none⟩ = w.frozen? ⟨b, o, none⟩ := fun o ho => by
  obtain ⟨u, hu⟩ := Option.isSome_iff_exists.1 ho
  have hbl := hb.block b (World.block_lt_of_cell? w _ hu) ht
  exact ⟨World.cell?_of_block (w := w) (a := ⟨b, o, none⟩) hbl, by unfold World.frozen?; rw [hbl]⟩
 refine ⟨fun k h0 hk j u hj => ?_, fun k hk j hj => ?_⟩
 ·have := h.at' k h0 hk j u hj
  exact (key _ (by rw [this]; rfl)).1.trans this
 ·have := h.free k hk j hj
  have e := key _ this.1
  exact ⟨by rw [e.1]; exact this.1, e.2.trans this.2⟩
theorem range_ca {w : World} {b o : Nat} (h : w.rangeAt b o li0) : w.rangeAt b o ca0 := fun j v hv => by
 have hj : j < 7 := (List.getElem?_eq_some_iff.1 hv).1
 refine h j v ?_
 rw [← hv]
 match j, hj with
 | 0, _ => rfl
 | 1, _ => rfl
 | 2, _ => rfl
 | 3, _ => rfl
 | 4, _ => rfl
 | 5, _ => rfl
 | 6, _ => rfl
set_option maxRecDepth 100000 in
theorem tanew_ok (b lb n cap : Nat) (x : Tw) (w : World) (h : BlockIs w b (twA x) 81) (hl : LiB w lb n 0) (hx : x.lf = .slice (some ⟨lb, 0, none⟩) n cap) (hn : n ≤ 8) (hne : lb ≠ b) :
  Calls Tryz.prog 50 #[.pointer (some ⟨b, 0, none⟩)] w fun e w' => e = .returned (.tuple #[]) ∧ BlockIs w' b (twA { x with age := 0, ha := .slice none 0 0, hi := .slice none 0 0 }) 81 ∧ Turn (fun k => k = b) w w' := by
 have h82 := h.cell (i := 82) (v := .slice (some ⟨lb, 0, none⟩) n cap) (by rw [← hx]; rfl)
 have h81 := h.cell (i := 81) (v := .int .i64 x.age) rfl
 have h83 := h.cell (i := 83) (v := x.ha) rfl
 have h84 := h.cell (i := 84) (v := x.hi) rfl
 have f81 := h.free 81
 have f83 := h.free 83
 have f84 := h.free 84
 have hb := ((h.set 81 (.int .i64 0)).set 83 (.slice none 0 0)).set 84 (.slice none 0 0)
 have hT : Turn (fun k => k = b) w (((w.setCell ⟨b, 81, none⟩ (.int .i64 0)).setCell ⟨b, 83, none⟩ (.slice none 0 0)).setCell ⟨b, 84, none⟩ (.slice none 0 0)) := (((Turn.refl (fun k => k = b) w).setCell rfl 81 _).setCell rfl 83 _).setCell rfl 84 _
 obtain ⟨W, hW⟩ : ∃ W, ((w.setCell ⟨b, 81, none⟩ (.int .i64 0)).setCell ⟨b, 83, none⟩ (.slice none 0 0)).setCell ⟨b, 84, none⟩ (.slice none 0 0) = W := ⟨_, rfl⟩
 rw [hW] at hb hT
 replace hb : BlockIs W b (twA { x with age := 0, ha := .slice none 0 0, hi := .slice none 0 0 }) 81 := hb
 have HL := Lib.hid (hl.turn hT hne)
 have HW := Lib.hid hW
 have HX := Lib.hid hx
 have Hb := Lib.hid hb
 have HT := Lib.hid hT
 clear h hl hW hx hb hT
 go_enter Tryz.func50, Tryz.ntmps50
 go_wp2_with fail
 rw [HW.out]
 clear h82 h81 h83 h84 f81 f83 f84
 go_loopw [2, 18] (fun _ iv wr => ∃ k : Nat, k ≤ n ∧ iv = .int .i64 (k : Int) ∧ Turn (fun _ => False) W wr) (fun _ iv _ => (n - intOf iv).toNat)
 case atStart => exact ⟨0, by omega, rfl, Turn.refl _ _⟩
 case round =>
  obtain ⟨k, hk, rfl, hB⟩ := hrel
  by_cases hc : k < n
  ·have hd : decide (k < n) = true := by simpa using hc
   have hr := (HL.out.turn hB id).at' k (by omega) hc
   have hf := (HL.out.turn hB id).free k hc
   have h82 := (hB.at Hb.out id).cell (i := 82) (v := .slice (some ⟨lb, 0, none⟩) n cap) (by rw [← HX.out]; rfl)
   have hi1 : (k : Int) < (n : Int) := by omega
   have Hr := Lib.hid hr
   have Hf := Lib.hid hf
   clear hr hf
   go_wp2_with fail
   refine wp_region_held_drew (S := fun W' => W'.cell? ⟨b, 82, none⟩ = some (.slice (some ⟨lb, 0, none⟩) n cap) ∧ W'.rangeAt lb (k * 10) ca0) (by kernel_rfl) ⟨h82, range_ca Hr.out⟩ (fun hHeld => ?_)
   refine tkH 0 ?_
   try simp only [pt]
   refine tkH 1 ?_
   try simp only [pt]
   refine tkH 2 ?_
   try simp only [pt]
   refine tkH 3 ?_
   try simp only [pt]
   refine tkH 4 ?_
   try simp only [pt]
   refine tkH 5 ?_
   try simp only [pt]
   refine tkH 6 ?_
   try simp only [pt]
   refine tkH 7 ?_
   try simp only [pt]
   refine tkH 8 ?_
   try simp only [pt]
   refine tkH 9 ?_
   try simp only [pt]
   refine tkH 10 ?_
   try simp only [pt]
   refine tkH 11 ?_
   try simp only [pt]
   refine tkH 12 ?_
   try simp only [pt]
   refine tkH 13 ?_
   try simp only [pt]
   refine tkH 14 ?_ (hy := by (intro w hSw; refine load_x 85 (.tmp 34) [.int .i64 0, .int .i64 0, .int .i64 0, .int .i64 0, .int .i64 0, .int .i64 0, .int .i64 0] lb (k * 10) _ Tryz.underlying85 rfl car_info ?_ ?_ w (hSw.2) <;> rfl))
   try simp only [pt]
   refine tkH 15 ?_
   try simp only [pt]
   refine tkH 16 ?_
   try simp only [pt]
   refine rdy [17] ?_
   refine' arC rfl (fun KK hKK => ?a17) AllReadyH.nil
   refine wp_store_mid 87 (.tmp 37) (.tmp 36) rfl lb (k * 10) li0.toArray rfl rfl Hf.out lift_info (by simp [li0, Value.oneCell']) ?_
   rw [setCells_same _ _ _ (show wr.drew.rangeAt lb (k * 10) li0.toArray.toList from Hr.out)]
   refine' hKK.out _ _ ?h17 (fun _ => ?r17)
   case h17 => assumption
   clear hKK KK
   try simp only [pt]
   refine wpAnyH_done (by kernel_rfl) ?_ _
   have hB2 := Lib.hid hB.drew
   clear hHeld Hr Hf h82 hi1
   go_wp2_with fail
   go_round
   case rel => exact ⟨k + 1, by omega, by go_num, hB2.out⟩
   case measure => simp [intOf]; omega
  ·have e : k = n := by omega
   subst e
   have hd : decide (k < k) = false := by simp
   go_wp2_with fail
   go_end0
   exact ⟨rfl, hB.at Hb.out id, HT.out.trans (hB.mono (fun _ h => h.elim))⟩
set_option maxRecDepth 100000 in
theorem waiting_ok (p q : Option Addr) (c d : Nat) (w : World) : Calls Tryz.prog 52 #[.agg #[.slice p 0 c, .slice q 0 d]] w fun e w' => ∃ p' c' q' d', e = .returned (.agg #[.slice p' 0 c', .slice q' 0 d']) ∧ Below w.heap.size w w' := by
 have hC := (BlockIs.new w #[.slice p 0 c, .slice q 0 d] 47).alloc (.cells #[.slice none 0 0, .slice none 0 0] 47)
 have hR := BlockIs.new (w.alloc (.cells #[.slice p 0 c, .slice q 0 d] 47)) #[.slice none 0 0, .slice none 0 0] 47
 simp only [World.size_alloc] at hR
 have HB := (((Below.refl w.heap.size w).alloc (by exact Nat.le_refl _) (.cells #[.slice p 0 c, .slice q 0 d] 47)).alloc (by simp only [World.size_alloc]; omega) (.cells #[.slice none 0 0, .slice none 0 0] 47))
 obtain ⟨W, hW⟩ : ∃ W, ((w.alloc (.cells #[.slice p 0 c, .slice q 0 d] 47)).alloc (.cells #[.slice none 0 0, .slice none 0 0] 47)) = W := ⟨_, rfl⟩
 rw [hW] at hC hR HB
 have HW := Lib.hid hW
 clear hW
 go_enter Tryz.func52, Tryz.ntmps52
 go_wp2_with fail
 rw [HW.out]
 have hd := (Below.refl W.heap.size W).drew
 have HSS := Lib.hid (show ∀ W', Below W.heap.size W W' → W'.cell? ⟨w.heap.size, 0, none⟩ = some (.slice p 0 c) ∧ W'.cell? ⟨w.heap.size, 1, none⟩ = some (.slice q 0 d) from fun W' h => ⟨(hC.kept h).cell rfl, (hC.kept h).cell rfl⟩)
 have HR := Lib.hid hR
 have hlt := hR.lt
 clear hC hR
 refine wp_region_held_drew (S := fun W' => W'.cell? ⟨w.heap.size, 0, none⟩ = some (.slice p 0 c) ∧ W'.cell? ⟨w.heap.size, 1, none⟩ = some (.slice q 0 d)) (by kernel_rfl) (HSS.out _ hd) (fun hHeld => ?_)
 refine tkH 0 ?_
 try simp only [pt]
 refine tkH 1 ?_
 try simp only [pt]
 refine tkH 3 ?_
 try simp only [pt]
 refine tkH 4 ?_
 try simp only [pt]
 refine rdy [2] ?_
 refine' arC rfl (fun KK hKK => ?a2) AllReadyH.nil
 go_simp
 refine (clone_halls0 p c _).mono ?_; rintro e w4 ⟨p1, c1, rfl, hb4⟩; have hB4 := hd.trans (hb4.mono hd.size)
 refine hKK.out _ _ (HSS.out _ hB4) (fun _ => ?_)
 clear hKK KK
 try simp only [pt]
 refine rdy [5] ?_
 refine' arC rfl (fun KK hKK => ?a5) AllReadyH.nil
 go_simp
 refine (clone_ins0 q d _).mono ?_; rintro e w5 ⟨p2, c2, rfl, hb5⟩; have hB5 := hB4.trans (hb5.mono hB4.size)
 refine hKK.out _ _ (HSS.out _ hB5) (fun _ => ?_)
 clear hKK KK
 try simp only [pt]
 refine tkH 6 ?_
 try simp only [pt]
 have hR5 := HR.out.kept hB5
 obtain ⟨k0, k1⟩ := HSS.out _ hB5
 have hne : ∀ i, (w5.setRow (w.heap.size + 1) #[.slice p1 0 c1, .slice p2 0 c2]).cell? ⟨w.heap.size, i, none⟩ = w5.cell? ⟨w.heap.size, i, none⟩ := fun i => World.cell?_of_block (setRow_other w5 _ _ _ (by show w.heap.size ≠ _; omega))
 refine rdy [7] ?_
 refine' arC rfl (fun KK hKK => ?a7) AllReadyH.nil
 refine wp_store_row 47 (.tmp 2) (.tmp 9) rfl (w.heap.size + 1) #[.slice p1 0 c1, .slice p2 0 c2] rfl rfl 47 _ hR5 calls_info rfl (by simp [Value.oneCell']) ?_
 refine hKK.out _ _ (⟨(hne 0).trans k0, (hne 1).trans k1⟩) (fun _ => ?_)
 clear hKK KK
 try simp only [pt]
 refine wpAnyH_done (by kernel_rfl) ?_ _
 have HR8 := Lib.hid (hR5.row #[.slice p1 0 c1, .slice p2 0 c2])
 have HB9 := Lib.hid (below_setRow (HB.trans (hB5.mono HB.size)) (by omega : w.heap.size ≤ w.heap.size + 1) #[.slice p1 0 c1, .slice p2 0 c2])
 clear hHeld HSS HR hR5 hB4 hB5 hb4 hb5 hd HB k0 k1 hne
 go_wp2_with fail
 exact bodyPost_ret (res_row rfl _ _ (w.heap.size + 1) 47 _ _ rfl HR8.out Tryz.underlying47 rfl calls_info) rfl ⟨_, _, _, _, rfl, HB9.out⟩
theorem bn0 {w W2 : World} {pa pb : Option Addr} {t : TypeId} {o1 o2 : Obj} (h : (((w.alloc (.cells #[.slice pa 0 0, .slice pb 0 0] t)).alloc o1).alloc o2).drew = W2) : ∃ pa pb, BlockIs W2 w.heap.size #[.slice pa 0 0, .slice pb 0 0] t := by
 rw [← h]; exact ⟨_, _, ((BlockIs.new w _ t).alloc o1).alloc o2⟩
theorem bn1 {w W2 : World} {pa pb : Option Addr} {t : TypeId} {o1 o2 : Obj} (h : (((w.alloc o1).alloc (.cells #[.slice pa 0 0, .slice pb 0 0] t)).alloc o2).drew = W2) : ∃ pa pb, BlockIs W2 (w.heap.size + 1) #[.slice pa 0 0, .slice pb 0 0] t := by
 have := (BlockIs.new (w.alloc o1) #[.slice pa 0 0, .slice pb 0 0] t).alloc o2
 rw [World.size_alloc] at this
 rw [← h]; exact ⟨_, _, this⟩
theorem bn2 {w W2 : World} {pa pb : Option Addr} {t : TypeId} {o1 o2 : Obj} (h : (((w.alloc o1).alloc o2).alloc (.cells #[.slice pa 0 0, .slice pb 0 0] t)).drew = W2) : ∃ pa pb, BlockIs W2 (w.heap.size + 1 + 1) #[.slice pa 0 0, .slice pb 0 0] t := by
 have := BlockIs.new ((w.alloc o1).alloc o2) #[.slice pa 0 0, .slice pb 0 0] t
 rw [World.size_alloc, World.size_alloc] at this
 rw [← h]; exact ⟨_, _, this⟩
theorem ba {n : Nat} {w0 W : World} (hb : Below n w0 W) (o : Obj) (hn : n ≤ w0.heap.size) : Below n w0 (W.alloc o) := hb.alloc (by have := hb.size; omega) o
set_option maxRecDepth 100000 in
theorem spread_ok (g : Gr) (b n cap : Nat) (f : Int) (w : World) (h : GrOk g) (n1 : 1 ≤ n) (n8 : n ≤ 8) (hl : LiftsAt w b n) :
  Calls Tryz.prog 56 #[.agg (grA g), .slice (some ⟨b, 0, none⟩) n cap, .int .i64 f, .agg #[.slice none 0 0, .slice none 0 0]] w fun e w' => ∃ p' c' q' d', e = .returned (.tuple #[.agg #[.slice p' 0 c', .slice q' 0 d'], .int .i64 0]) ∧ Below w.heap.size w w' := by
 have hG := ((BlockIs.new w (grA g) 91).alloc (.cells #[.slice none 0 0, .slice none 0 0] 47)).alloc (.cells #[.slice none 0 0, .slice none 0 0] 47)
 have hC := (BlockIs.new (w.alloc (.cells (grA g) 91)) #[.slice none 0 0, .slice none 0 0] 47).alloc (.cells #[.slice none 0 0, .slice none 0 0] 47)
 simp only [World.size_alloc] at hC
 have hR := BlockIs.new ((w.alloc (.cells (grA g) 91)).alloc (.cells #[.slice none 0 0, .slice none 0 0] 47)) #[.slice none 0 0, .slice none 0 0] 47
 simp only [World.size_alloc] at hR
 have HB := ((((Below.refl w.heap.size w).alloc (by exact Nat.le_refl _) (.cells (grA g) 91)).alloc (by simp only [World.size_alloc]; omega) (.cells #[.slice none 0 0, .slice none 0 0] 47)).alloc (by simp only [World.size_alloc]; omega) (.cells #[.slice none 0 0, .slice none 0 0] 47))
 obtain ⟨W, hW⟩ : ∃ W, (((w.alloc (.cells (grA g) 91)).alloc (.cells #[.slice none 0 0, .slice none 0 0] 47)).alloc (.cells #[.slice none 0 0, .slice none 0 0] 47)) = W := ⟨_, rfl⟩
 rw [hW] at hG hC hR HB
 have HW := Lib.hid hW
 have HL := Lib.hid (hl.below HB)
 have HR := Lib.hid hR
 have HC := Lib.hid hC
 have c0 := hC.cell (i := 0) (v := .slice none 0 0) rfl
 have c1 := hC.cell (i := 1) (v := .slice none 0 0) rfl
 have hr0 := block_sub hG 0 10
 have hlt := hR.lt
 clear hW hG hR hC hl
 go_enter Tryz.func56, Tryz.ntmps56
 go_upto_region 1 with fail
 rw [HW.out]
 go_wp2_with ((with_reducible show wpList _ _ _ _ _ _); refine wl_any 91 (.tmp 4) (grA g).toList w.heap.size 0 _ Tryz.underlying91 rfl gear_info ?_ ?_ ?_ hr0 ?_; rfl; rfl; rfl)
 refine (gCheck_ok g b n cap none none 0 0 _ h n1 n8 HL.out).mono ?_; rintro e w1 ⟨rfl, hb1⟩
 have hC1 := HC.out.kept hb1
 have hR1 := HR.out.kept hb1
 have HB1 := HB.trans (hb1.mono HB.size)
 have hlt1 := hR1.lt
 have HR1 := Lib.hid hR1
 have HC1 := Lib.hid hC1
 clear c0 c1 hr0 HW HL HR HC HB hb1 hR1 hC1
 go_wp2_with fail
 have hd := (Below.refl w1.heap.size w1).drew
 have HS := Lib.hid (show ∀ W', Below w1.heap.size w1 W' → W'.cell? ⟨w.heap.size + 1, 0, none⟩ = some (.slice none 0 0) ∧ W'.cell? ⟨w.heap.size + 1, 1, none⟩ = some (.slice none 0 0) ∧ Below w1.heap.size w1 W' from fun W' h => ⟨(HC1.out.kept h).cell rfl, (HC1.out.kept h).cell rfl, h⟩)
 go_region_held3 (fun W' => W'.cell? ⟨w.heap.size + 1, 0, none⟩ = some (.slice none 0 0) ∧ W'.cell? ⟨w.heap.size + 1, 1, none⟩ = some (.slice none 0 0) ∧ Below w1.heap.size w1 W')
    (first
     | (exact HS.out _ hd)
     | assumption
     | (exact HS.out _ (ba hd _ (Nat.le_refl _)))
     | (exact HS.out _ (ba (ba hd _ (Nat.le_refl _)) _ (Nat.le_refl _)))
     | (exact HS.out _ (ba (ba (ba hd _ (Nat.le_refl _)) _ (Nat.le_refl _)) _ (Nat.le_refl _)))
     | go_keep)
    (first
     | (refine wp_append_zero (.tmp 24) (.tmp 26) 44 rfl 186 Tryz.underlying44 3 hall_sz _ _ _ rfl rfl ?_)
     | (refine wp_append_zero (.tmp 28) (.tmp 30) 45 rfl 189 Tryz.underlying45 2 ins_sz _ _ _ rfl rfl ?_))
 all_goals
  generalize hW2 : World.drew _ = W2
  have hB2 : Below w1.heap.size w1 W2 := by
   rw [← hW2]
   exact (ba (ba (ba (Below.refl _ _) _ (Nat.le_refl _)) _ (Nat.le_refl _)) _ (Nat.le_refl _)).drew
  first
   | (obtain ⟨pa, pb, hx⟩ := bn0 hW2)
   | (obtain ⟨pa, pb, hx⟩ := bn1 hW2)
   | (obtain ⟨pa, pb, hx⟩ := bn2 hW2)
  have x0 := hx.cell (i := 0) (v := .slice pa 0 0) rfl
  have x1 := hx.cell (i := 1) (v := .slice pb 0 0) rfl
  have HR2 := Lib.hid (HR1.out.kept hB2)
  have HR3 := Lib.hid (HR2.out.row #[.slice pa 0 0, .slice pb 0 0])
  have HB3 := Lib.hid (below_setRow (HB1.trans (hB2.mono HB1.size)) (by omega : w.heap.size ≤ w.heap.size + 1 + 1) #[.slice pa 0 0, .slice pb 0 0])
  clear hW2 hB2 hx HS hd HC1 HR1
  go_wp2_with fail
  go_loopw [36] (fun iv wr => iv = .int .i64 0 ∧ W2 = wr) (fun _ _ => 0)
  case atStart => exact ⟨rfl, rfl⟩
  case round =>
   obtain ⟨rfl, rfl⟩ := hrel
   go_wp2_with fail
   go_loopw [61] (fun iv wr => iv = .int .i64 0 ∧ W2 = wr) (fun _ _ => 0)
   case atStart => exact ⟨rfl, rfl⟩
   case round =>
    obtain ⟨rfl, rfl⟩ := hrel
    go_wp2_with ((with_reducible show wpList _ _ _ _ _ _); refine ws_any 47 (.tmp 8) (.tmp 81) #[.slice pa 0 0, .slice pb 0 0] (w.heap.size + 1 + 1) _ 47 ?_ ?_ ?_ ?_ HR2.out calls_info rfl (by simp [Value.oneCell']) ?_; rfl; rfl; rfl; rfl)
    refine bodyPost_ret (v := .tuple #[.agg #[.slice pa 0 0, .slice pb 0 0], .int .i64 0]) ?_ rfl ⟨_, _, _, _, rfl, HB3.out⟩
    refine res_cell_tmp (p := 8) (u := 9) ?_ _ _ (w.heap.size + 1 + 1) 47 #[.slice pa 0 0, .slice pb 0 0] _ ?_ HR3.out Tryz.underlying47 rfl calls_info
    all_goals rfl
end Go.Proofs.YtfnifgppblbjhaaGreatDoor
