/- Part of the proof of TopHoly. -/
import Derived.Test.YtfnifgppblbjhaaGreatDoorRows
import Derived.Test.YtfnifgppblbjhaaGreatDoorY01
import Derived.Test.YtfnifgppblbjhaaGreatDoorY12
import Derived.DataElems
import Derived.Deep.Draws
import Derived.Deep.Slices
import Derived.JoinedOf
import Derived.LaidHandle
import Derived.LaidMore
import Derived.LaidSub
import Derived.OpenShut
import Derived.ProofKit
import Derived.SizedLaws
import Derived.Stop.Joined
namespace Go.Proofs.YtfnifgppblbjhaaGreatDoor
set_option maxHeartbeats 8000000
open Go Go.ChangeShapes Go.WideShapes Go.ChangeAt Go.RowKit
set_option linter.unusedVariables false
set_option linter.unusedSimpArgs false
theorem spot_row {w : World} {a : Addr} {n : Nat} {V : Nat → Value} (hn : 0 < n) (h : ∀ i, i < n → w.cell? (a.add i) = some (V i)) : ∃ b o, a = ⟨b, o, none⟩ ∧ ∀ i, i < n → w.cell? ⟨b, o + i, none⟩ = some (V i) := by
 obtain ⟨b, o, s⟩ := a
 have h0 := h 0 hn
 have hs : s = none := by simpa [Addr.add] using World.cell?_spot h0
 subst hs
 refine ⟨b, o, rfl, fun i hi => ?_⟩
 have := h i hi
 unfold Addr.add at this
 split at this
 ·rename_i e; subst e; simpa using this
 ·simpa using this
theorem rd_row {w : World} {a : Addr} {n k cap : Nat} {V : Nat → Value} (hk : 0 < k) (hle : n ≤ cap) (h : ∀ i, i < n * k → w.cell? (a.add i) = some (V i)) : Rd w (.slice (some a) n cap) n ((List.range (n * k)).map V) := by
 by_cases h0 : n = 0
 ·subst h0; exact .inl ⟨rfl, by simp, _, _, rfl⟩
 ·have hp : 0 < n * k := Nat.mul_pos (by omega) hk
  obtain ⟨b, o, rfl, hc⟩ := spot_row hp h
  refine .inr ⟨by omega, b, o, cap, rfl, hle, fun j v hv => ?_⟩
  have hj : j < n * k := by have := (List.getElem?_eq_some_iff.1 hv).1; simpa using this
  have hv' : V j = v := by simpa [hj] using hv
  rw [← hv']; exact hc j hj
section
variable {H : Type} {enc : TypeId × Value → H} {w : World} {base : Nat} {held : Bool}
theorem cells_int : Tryz.prog.cellsOf 3 = 1 := by kernel_rfl
theorem cells_win : Tryz.prog.cellsOf 35 = 7 := by kernel_rfl
theorem bytes_int : Tryz.prog.bytesOf 3 = 8 := by kernel_rfl
theorem bytes_win : Tryz.prog.bytesOf 35 = 56 := by kernel_rfl
theorem open_stops {fuel : Nat} {cs : List Value} {x : DataW H × List MemPlace} (h : DataW.trod enc Tryz.prog w base (fun _ => true) held fuel 22 cs = some x) :
  ∃ (v : Value) (st : List Int), cs = [v] ∧ Rd w v st.length (st.map (.int .i64)) ∧ (st = [] ∨ ∃ el sp, x.1 = .slice el sp ∧ el.length = st.length) := by
 rcases Deep.open_slice1 Tryz.underlying22 cells_int h with ⟨rfl, rfl⟩ | ⟨a, len, cap, m, n, V, D, Pl, rfl, _, hle, _, hm, rfl, hx⟩
 ·exact ⟨.slice none 0 0, [], rfl, .inl ⟨rfl, rfl, _, _, rfl⟩, .inl rfl⟩
 ·have hm' : len ≤ m := by rw [hm]; simpa using hle
  obtain ⟨Z, hZ⟩ := Deep.choose_lt (α := Int) (n := len) (p := fun i z => V i = .int .i64 z) (fun i hi => by
   obtain ⟨z, e, _⟩ := DataW.trod_int Tryz.underlying3 (hx i (by omega)).2
   exact ⟨z, by simpa using e⟩)
  refine ⟨_, (List.range len).map Z, rfl, ?_, .inr ⟨_, _, rfl, by simp⟩⟩
  have := rd_row (w := w) (a := a) (n := len) (k := 1) (cap := cap) (V := fun i => .int .i64 (Z i)) (by omega) hle (fun i hi => by rw [(hx i (by omega)).1, hZ i (by omega)])
  simpa [List.map_map, Function.comp_def] using this
theorem open_wins {fuel : Nat} {cs : List Value} {x : DataW H × List MemPlace} (h : DataW.trod enc Tryz.prog w base (fun _ => true) held fuel 31 cs = some x) :
  ∃ (v : Value) (n : Nat) (csw : List Value), cs = [v] ∧ csw.length = n * 7 ∧ Rd w v n csw ∧ (∀ u ∈ csw, u.oneCell' = true) ∧ (n = 0 ∨ ∃ el sp, x.1 = .slice el sp ∧ el.length = n) := by
 rcases Deep.open_slice Tryz.underlying31 h with ⟨rfl, rfl⟩ | ⟨a, len, cap, m, n, D, Pl, rfl, _, hle, _, hm, rfl, hx⟩
 ·exact ⟨.slice none 0 0, 0, [], rfl, rfl, .inl ⟨rfl, rfl, _, _, rfl⟩, by simp, .inl rfl⟩
 ·have hm' : len ≤ m := by rw [hm]; simpa using hle
  rw [cells_win] at hx
  obtain ⟨Z, hZ⟩ := Deep.choose_lt (α := Int) (n := len * 7) (p := fun j z => w.cell? (a.add j) = some (.int .i64 z)) (fun j hj => by
   obtain ⟨cs', h1, h2⟩ := hx (j / 7) (by omega)
   obtain ⟨_, hl, hc⟩ := World.cells?_some h1
   have := hc (j % 7) (by omega)
   rw [Addr.add_add, show j / 7 * 7 + j % 7 = j by omega, List.getElem?_eq_getElem (by omega)] at this
   obtain ⟨z, e, _⟩ := (trod_flat 4 35 _ _ _ (by kernel_rfl) h2).2 _ (List.getElem_mem (l := cs') (by omega : j % 7 < cs'.length))
   exact ⟨z, by rw [this, e]⟩)
  refine ⟨_, len, (List.range (len * 7)).map (fun j => .int .i64 (Z j)), rfl, by simp, rd_row (by omega) hle hZ, ?_, .inr ⟨_, _, rfl, by simp⟩⟩
  intro u hu
  obtain ⟨j, _, rfl⟩ := List.mem_map.1 hu
  rfl
theorem mem_of_flat {t : TypeId} {fuel : Nat} {cs : List Value} {x : DataW H × List MemPlace} (k : Nat) (hf : flatB Tryz.prog k t = true) (h : DataW.trod enc Tryz.prog w base (fun _ => true) held fuel t cs = some x) {c : Value} (hc : c ∈ cs) : ∃ a : Int, c = .int .i64 a ∧ I64 a := by
 obtain ⟨a, e, hw⟩ := (trod_flat k t _ _ _ hf h).2 c hc
 exact ⟨a, e, i64_of hw⟩
theorem list37 {l : List Value} (h : l.length = 37) : ∃ a0 a1 a2 a3 a4 a5 a6 a7 a8 a9 b0 b1 b2 b3 b4 b5 b6 b7 b8 b9 c0 c1 c2 c3 c4 c5 c6 c7 c8 c9 d0 d1 d2 d3 d4 d5 d6 : Value,
  l = a0 :: a1 :: a2 :: a3 :: a4 :: a5 :: a6 :: a7 :: a8 :: a9 :: b0 :: b1 :: b2 :: b3 :: b4 :: b5 :: b6 :: b7 :: b8 :: b9 :: c0 :: c1 :: c2 :: c3 :: c4 :: c5 :: c6 :: c7 :: c8 :: c9 :: d0 :: d1 :: d2 :: d3 :: d4 :: d5 :: d6 :: [] := by
 refine ⟨l[0], l[1], l[2], l[3], l[4], l[5], l[6], l[7], l[8], l[9], l[10], l[11], l[12], l[13], l[14], l[15], l[16], l[17], l[18], l[19], l[20], l[21], l[22], l[23], l[24], l[25], l[26], l[27], l[28], l[29], l[30], l[31], l[32], l[33], l[34], l[35], l[36], ?_⟩
 refine List.ext_getElem (by simp [h]) fun i h1 h2 => ?_
 have : i < 37 := by omega
 rcases i with _ | _ | _ | _ | _ | _ | _ | _ | _ | _ | _ | _ | _ | _ | _ | _ | _ | _ | _ | _ | _ | _ | _ | _ | _ | _ | _ | _ | _ | _ | _ | _ | _ | _ | _ | _ | _ | i <;> first | rfl | omega
def cfgTs : List TypeId := [3, 3, 3, 22, 24, 3, 3, 28, 30, 4, 31]
theorem cells_f0 : Tryz.prog.cellsOf 3 = 1 := by kernel_rfl
theorem cells_f1 : Tryz.prog.cellsOf 3 = 1 := by kernel_rfl
theorem cells_f2 : Tryz.prog.cellsOf 3 = 1 := by kernel_rfl
theorem cells_f3 : Tryz.prog.cellsOf 22 = 1 := by kernel_rfl
theorem cells_f4 : Tryz.prog.cellsOf 24 = 7 := by kernel_rfl
theorem cells_f5 : Tryz.prog.cellsOf 3 = 1 := by kernel_rfl
theorem cells_f6 : Tryz.prog.cellsOf 3 = 1 := by kernel_rfl
theorem cells_f7 : Tryz.prog.cellsOf 28 = 10 := by kernel_rfl
theorem cells_f8 : Tryz.prog.cellsOf 30 = 12 := by kernel_rfl
theorem cells_f9 : Tryz.prog.cellsOf 4 = 1 := by kernel_rfl
theorem cells_f10 : Tryz.prog.cellsOf 31 = 1 := by kernel_rfl
def sun12 (a0 a1 a2 a3 a4 a5 a6 a7 a8 a9 a10 a11 : Int) : Nat → Int := fun i => match i with | 0 => a0 | 1 => a1 | 2 => a2 | 3 => a3 | 4 => a4 | 5 => a5 | 6 => a6 | 7 => a7 | 8 => a8 | 9 => a9 | 10 => a10 | _ => a11
theorem agg_parts {P : Program} {t : TypeId} {fs : Array Field} {fuel : Nat} {cs : List Value} {x : DataW H × List MemPlace} (ht : P.underlying t = some (.struct fs)) (h : DataW.trod enc P w base (fun _ => true) held fuel t cs = some x) :
  ∃ (parts : List (DataW H)) (n : Nat), x.1 = .agg parts ∧ cs.length = P.cellsOf t ∧ ∀ (i : Nat) (f : Field) (k : Nat), fs[i]? = some f → P.cellsOf f.type = k → ∃ y, parts[i]? = some y.1 ∧ DataW.trod enc P w base (fun _ => true) held n f.type ((cs.drop f.offset).take k) = some y := by
 obtain ⟨xs, n, _, rfl, hl, hn, hel⟩ := DataW.trod_struct ht h
 refine ⟨xs.map (·.1), n, rfl, hl, fun i f k hf hk => ?_⟩
 have hi : i < xs.length := by rw [hn]; exact (Array.getElem?_eq_some_iff.1 hf).1
 subst hk
 exact ⟨xs[i], by simp [hi], (hel i f hf).trans (List.getElem?_eq_getElem hi)⟩
set_option maxRecDepth 100000 in
theorem open_cfg (wn : Wn) {fuel : Nat} {cs : List Value} {x : DataW H × List MemPlace} (h : DataW.trod enc Tryz.prog w base (fun _ => true) held fuel 33 cs = some x) :
  ∃ (c : Cfg) (vs vw : Value) (m : Nat) (csw : List Value) (parts : List (DataW H)), cs = (cfgA c vs vw).toList ∧ c.w = wn ∧ Rd w vs c.st.length (c.st.map (.int .i64)) ∧ Rd w vw m csw ∧ csw.length = m * 7 ∧ (∀ u ∈ csw, u.oneCell' = true) ∧ I64 c.z.m ∧ I64 c.z.m' ∧ (∀ i, i < 12 → I64 (c.f i)) ∧ x.1 = .agg parts ∧
   (c.st = [] ∨ ∃ el sp, parts[3]? = some (.slice el sp) ∧ el.length = c.st.length) ∧ (m = 0 ∨ ∃ el sp, parts[10]? = some (.slice el sp) ∧ el.length = m) := by
 obtain ⟨parts, n, hp, hl, key⟩ := agg_parts Tryz.underlying33 h
 have hl37 : cs.length = 37 := hl.trans (by kernel_rfl)
 obtain ⟨a0, a1, a2, a3, a4, a5, a6, a7, a8, a9, b0, b1, b2, b3, b4, b5, b6, b7, b8, b9, c0, c1, c2, c3, c4, c5, c6, c7, c8, c9, d0, d1, d2, d3, d4, d5, d6, rfl⟩ := list37 hl37
 obtain ⟨y0, e0, t0⟩ := key 0 _ 1 rfl cells_f0
 have s0 : DataW.trod enc Tryz.prog w base (fun _ => true) held n 3 [a0] = some y0 := t0
 obtain ⟨x0, rfl, w0⟩ := mem_of_flat 6 (by kernel_rfl) s0 (c := a0) (by simp)
 obtain ⟨y1, e1, t1⟩ := key 1 _ 1 rfl cells_f1
 have s1 : DataW.trod enc Tryz.prog w base (fun _ => true) held n 3 [a1] = some y1 := t1
 obtain ⟨x1, rfl, w1⟩ := mem_of_flat 6 (by kernel_rfl) s1 (c := a1) (by simp)
 obtain ⟨y2, e2, t2⟩ := key 2 _ 1 rfl cells_f2
 have s2 : DataW.trod enc Tryz.prog w base (fun _ => true) held n 3 [a2] = some y2 := t2
 obtain ⟨x2, rfl, w2⟩ := mem_of_flat 6 (by kernel_rfl) s2 (c := a2) (by simp)
 obtain ⟨y3, e3, t3⟩ := key 3 _ 1 rfl cells_f3
 have s3 : DataW.trod enc Tryz.prog w base (fun _ => true) held n 22 [a3] = some y3 := t3
 obtain ⟨vs, st, hst, hrs, hss⟩ := open_stops s3
 obtain rfl : a3 = vs := by simpa using hst
 obtain ⟨y4, e4, t4⟩ := key 4 _ 7 rfl cells_f4
 have s4 : DataW.trod enc Tryz.prog w base (fun _ => true) held n 24 [a4, a5, a6, a7, a8, a9, b0] = some y4 := t4
 obtain ⟨x4, rfl, w4⟩ := mem_of_flat 6 (by kernel_rfl) s4 (c := a4) (by simp)
 obtain ⟨x5, rfl, w5⟩ := mem_of_flat 6 (by kernel_rfl) s4 (c := a5) (by simp)
 obtain ⟨x6, rfl, w6⟩ := mem_of_flat 6 (by kernel_rfl) s4 (c := a6) (by simp)
 obtain ⟨x7, rfl, w7⟩ := mem_of_flat 6 (by kernel_rfl) s4 (c := a7) (by simp)
 obtain ⟨x8, rfl, w8⟩ := mem_of_flat 6 (by kernel_rfl) s4 (c := a8) (by simp)
 obtain ⟨x9, rfl, w9⟩ := mem_of_flat 6 (by kernel_rfl) s4 (c := a9) (by simp)
 obtain ⟨x10, rfl, w10⟩ := mem_of_flat 6 (by kernel_rfl) s4 (c := b0) (by simp)
 obtain ⟨y5, e5, t5⟩ := key 5 _ 1 rfl cells_f5
 have s5 : DataW.trod enc Tryz.prog w base (fun _ => true) held n 3 [b1] = some y5 := t5
 obtain ⟨x11, rfl, w11⟩ := mem_of_flat 6 (by kernel_rfl) s5 (c := b1) (by simp)
 obtain ⟨y6, e6, t6⟩ := key 6 _ 1 rfl cells_f6
 have s6 : DataW.trod enc Tryz.prog w base (fun _ => true) held n 3 [b2] = some y6 := t6
 obtain ⟨x12, rfl, w12⟩ := mem_of_flat 6 (by kernel_rfl) s6 (c := b2) (by simp)
 obtain ⟨y7, e7, t7⟩ := key 7 _ 10 rfl cells_f7
 have s7 : DataW.trod enc Tryz.prog w base (fun _ => true) held n 28 [b3, b4, b5, b6, b7, b8, b9, c0, c1, c2] = some y7 := t7
 obtain ⟨x13, rfl, w13⟩ := mem_of_flat 6 (by kernel_rfl) s7 (c := b3) (by simp)
 obtain ⟨x14, rfl, w14⟩ := mem_of_flat 6 (by kernel_rfl) s7 (c := b4) (by simp)
 obtain ⟨x15, rfl, w15⟩ := mem_of_flat 6 (by kernel_rfl) s7 (c := b5) (by simp)
 obtain ⟨x16, rfl, w16⟩ := mem_of_flat 6 (by kernel_rfl) s7 (c := b6) (by simp)
 obtain ⟨x17, rfl, w17⟩ := mem_of_flat 6 (by kernel_rfl) s7 (c := b7) (by simp)
 obtain ⟨x18, rfl, w18⟩ := mem_of_flat 6 (by kernel_rfl) s7 (c := b8) (by simp)
 obtain ⟨x19, rfl, w19⟩ := mem_of_flat 6 (by kernel_rfl) s7 (c := b9) (by simp)
 obtain ⟨x20, rfl, w20⟩ := mem_of_flat 6 (by kernel_rfl) s7 (c := c0) (by simp)
 obtain ⟨x21, rfl, w21⟩ := mem_of_flat 6 (by kernel_rfl) s7 (c := c1) (by simp)
 obtain ⟨x22, rfl, w22⟩ := mem_of_flat 6 (by kernel_rfl) s7 (c := c2) (by simp)
 obtain ⟨y8, e8, t8⟩ := key 8 _ 12 rfl cells_f8
 have s8 : DataW.trod enc Tryz.prog w base (fun _ => true) held n 30 [c3, c4, c5, c6, c7, c8, c9, d0, d1, d2, d3, d4] = some y8 := t8
 obtain ⟨x23, rfl, w23⟩ := mem_of_flat 6 (by kernel_rfl) s8 (c := c3) (by simp)
 obtain ⟨x24, rfl, w24⟩ := mem_of_flat 6 (by kernel_rfl) s8 (c := c4) (by simp)
 obtain ⟨x25, rfl, w25⟩ := mem_of_flat 6 (by kernel_rfl) s8 (c := c5) (by simp)
 obtain ⟨x26, rfl, w26⟩ := mem_of_flat 6 (by kernel_rfl) s8 (c := c6) (by simp)
 obtain ⟨x27, rfl, w27⟩ := mem_of_flat 6 (by kernel_rfl) s8 (c := c7) (by simp)
 obtain ⟨x28, rfl, w28⟩ := mem_of_flat 6 (by kernel_rfl) s8 (c := c8) (by simp)
 obtain ⟨x29, rfl, w29⟩ := mem_of_flat 6 (by kernel_rfl) s8 (c := c9) (by simp)
 obtain ⟨x30, rfl, w30⟩ := mem_of_flat 6 (by kernel_rfl) s8 (c := d0) (by simp)
 obtain ⟨x31, rfl, w31⟩ := mem_of_flat 6 (by kernel_rfl) s8 (c := d1) (by simp)
 obtain ⟨x32, rfl, w32⟩ := mem_of_flat 6 (by kernel_rfl) s8 (c := d2) (by simp)
 obtain ⟨x33, rfl, w33⟩ := mem_of_flat 6 (by kernel_rfl) s8 (c := d3) (by simp)
 obtain ⟨x34, rfl, w34⟩ := mem_of_flat 6 (by kernel_rfl) s8 (c := d4) (by simp)
 obtain ⟨y9, e9, t9⟩ := key 9 _ 1 rfl cells_f9
 have s9 : DataW.trod enc Tryz.prog w base (fun _ => true) held n 4 [d5] = some y9 := t9
 obtain ⟨ab, hab, _⟩ := DataW.trod_bool Tryz.underlying4 s9
 obtain rfl : d5 = .bool ab := by simpa using hab
 obtain ⟨y10, e10, t10⟩ := key 10 _ 1 rfl cells_f10
 have s10 : DataW.trod enc Tryz.prog w base (fun _ => true) held n 31 [d6] = some y10 := t10
 obtain ⟨vw, m, csw, hvw, hlw, hrw, h1w, hsw⟩ := open_wins s10
 obtain rfl : d6 = vw := by simpa using hvw
 have hf : ∀ i, i < 12 → I64 (sun12 x23 x24 x25 x26 x27 x28 x29 x30 x31 x32 x33 x34 i) := by
  intro i hi
  rcases i with _ | _ | _ | _ | _ | _ | _ | _ | _ | _ | _ | _ | i
  all_goals first | (show I64 _; assumption) | omega
 refine ⟨⟨x0, x1, x2, st, x4, x5, x6, x7, x8, x9, x10, x11, x12, ⟨x13, x14, x15, x16, x17, x18, x19, x20, x21, x22⟩, sun12 x23 x24 x25 x26 x27 x28 x29 x30 x31 x32 x33 x34, ab, wn⟩, a3, d6, m, csw, parts, rfl, rfl, hrs, hrw, hlw, h1w, ?_, ?_, hf, hp, ?_, ?_⟩
 ·exact w15
 ·exact w19
 ·rcases hss with h | ⟨el, sp, h, h2⟩
  ·exact .inl h
  ·exact .inr ⟨el, sp, by rw [e3, h], h2⟩
 ·rcases hsw with h | ⟨el, sp, h, h2⟩
  ·exact .inl h
  ·exact .inr ⟨el, sp, by rw [e10, h], h2⟩
theorem cfg_sized {ts : List TypeId} {ds : List (DataW H)} (h : (DataW.weightsEach Tryz.prog ts ds).all (· ≤ reachBytes) = true) (ht : ts[0]? = some 33) {parts : List (DataW H)} (hd : ds[0]? = some (.agg parts)) :
  (∀ el sp, parts[3]? = some (.slice el sp) → el.length * 8 ≤ 140737488355328) ∧ ∀ el sp, parts[10]? = some (.slice el sp) → el.length * 56 ≤ 140737488355328 := by
 have hr := reachBytes_lt
 have key : ∀ (i : Nat) (f : TypeId) (e : TypeId) (el sp : List (DataW H)), (cfgTs)[i]? = some f → Tryz.prog.underlying f = some (.slice e) → parts[i]? = some (.slice el sp) → (el.length + sp.length) * Tryz.prog.bytesOf e ≤ reachBytes := by
  intro i f e el sp hf hu hp
  refine of_decide_eq_true (List.all_eq_true.1 h _ (DataW.weights_mem_each ht hd _ ?_))
  have : DataW.weights Tryz.prog 33 (.agg parts) = DataW.weightsEach Tryz.prog cfgTs parts := by
   rw [DataW.weights, Tryz.underlying33]; rfl
  rw [this]
  exact DataW.weights_mem_each hf hp _ (by simp [DataW.weights, hu])
 constructor
 ·intro el sp hp
  have := key 3 _ _ el sp rfl Tryz.underlying22 hp
  rw [bytes_int] at this
  omega
 ·intro el sp hp
  have := key 10 _ _ el sp rfl Tryz.underlying31 hp
  rw [bytes_win] at this
  omega
end
end Go.Proofs.YtfnifgppblbjhaaGreatDoor
namespace Go.Proofs.YtfnifgppblbjhaaGreatDoor
set_option maxHeartbeats 8000000
open Go.ChangeShapes Go.WideShapes Go.ChangeAt Go.RowKit
set_option linter.unusedVariables false
abbrev laidL : List (String × DataW Unit) := [("newel/crc.halves", Rows.laid_newel_crc_halves), ("newel/greg.lengths", Rows.laid_newel_greg_lengths), ("errors.errorType", Rows.laid_errors_errorType)]
theorem gLen : Tryz.prog.globalNamed "newel/greg.lengths" = some 2 := by kernel_rfl
theorem tLen : (Tryz.prog.globals[2]?).map (·.type) = some 29 := by kernel_rfl
theorem gHal : Tryz.prog.globalNamed "newel/crc.halves" = some 1 := by kernel_rfl
theorem tHal : (Tryz.prog.globals[1]?).map (·.type) = some 364 := by kernel_rfl
theorem cInt : Tryz.prog.cellsOf 3 = 1 := by kernel_rfl
theorem cU16 : Tryz.prog.cellsOf 300 = 1 := by kernel_rfl
theorem door_met (os : Os) (args : Array Value) : laidMetH Tryz.prog laidL ((World.doorLaid Tryz.prog 400 os).forCall (fun _ _ => 0) ⟨#[], args, []⟩).memory :=
 laidMetH_of_parts3 (fuel := 8) (laidMet_of_run' 8 (by kernel_rfl) (by kernel_rfl)) (by kernel_rfl) (by kernel_rfl)
theorem arr_cells {H : Type} {enc : TypeId × Value → H} {P : Program} {w : World} {base : Nat} {sp : Nat → Bool} {held : Bool} {t e : TypeId} {n fuel : Nat} {k : IntKind} {cs : List Value} {ds : List (DataW H)} {p : List MemPlace} (l : List Int)
  (ht : P.underlying t = some (.array n e)) (he : P.underlying e = some (.int k)) (hc : P.cellsOf e = 1) (hl : l.length = n) (hds : ds = l.map (fun z => .lit (.int k z))) (h : DataW.trod enc P w base sp held fuel t cs = some (.agg ds, p)) :
  ∀ i, i < n → cs[i]? = some (.int k (l.getD i 0)) := by
 obtain ⟨xs, m1, _, hx, hlen, hn, hel⟩ := DataW.trod_array ht h
 intro i hi
 have e0 := hel i hi
 rw [hc, Nat.mul_one] at e0
 have hxi : xs[i]? = some (xs[i]'(by omega)) := List.getElem?_eq_getElem (by omega)
 obtain ⟨z, e1, e2, _⟩ := DataW.trod_int he (e0.trans hxi)
 have hd : (xs.map (·.1))[i]? = some (.lit (.int k z)) := by rw [List.getElem?_map, hxi, Option.map_some, e2]
 have hx1 : ds = xs.map (·.1) := DataW.agg.inj (Prod.mk.inj hx).1
 rw [← hx1, hds, List.getElem?_map, List.getElem?_eq_getElem (by omega)] at hd
 have hz : l[i]'(by omega) = z := by simpa using hd
 have h1 : ((cs.drop i).take 1)[0]? = some (.int k z) := by rw [e1]; rfl
 have h2 : cs[i]? = some (.int k z) := by simpa [List.getElem?_take, List.getElem?_drop] using h1
 rw [h2, ← hz]
 simp [List.getD, List.getElem?_eq_getElem (show i < l.length by omega)]
theorem tab_of_laid {W : World} (h : laidMetH Tryz.prog laidL W) : Tab W := by
 have h2 : laidMet Tryz.prog [("newel/crc.halves", Rows.laid_newel_crc_halves), ("newel/greg.lengths", Rows.laid_newel_greg_lengths)] W := (laidMetH_iff.1 h).1
 obtain ⟨ps, ⟨g0, t0, cs0, f0, p0, q0, hg0, ht0, hv0, hd0, ⟨g1, t1, cs1, f1, p1, q1, hg1, ht1, hv1, hd1, _, _⟩, _⟩, _, _⟩ := h2
 obtain rfl := Option.some.inj (gHal.symm.trans hg0)
 obtain rfl := Option.some.inj (tHal.symm.trans ht0)
 obtain rfl := Option.some.inj (gLen.symm.trans hg1)
 obtain rfl := Option.some.inj (tLen.symm.trans ht1)
 have k0 := arr_cells [0, 4129, 8258, 12387, 16516, 20645, 24774, 28903, 33032, 37161, 41290, 45419, 49548, 53677, 57806, 61935] Tryz.underlying364 Tryz.underlying300 cU16 rfl rfl hd0
 have k1 := arr_cells lens Tryz.underlying29 Tryz.underlying3 cInt rfl rfl hd1
 have c0 : ∀ i, i < 16 → W.cell? ⟨1, i, none⟩ = some (.int .u16 (halves i : Nat)) := fun i hi => by
  refine (World.var?_cell hg0 hv0 i).trans ?_
  have := k0 i hi
  rw [Array.getElem?_toList] at this
  rw [this]
  have : i = 0 ∨ i = 1 ∨ i = 2 ∨ i = 3 ∨ i = 4 ∨ i = 5 ∨ i = 6 ∨ i = 7 ∨ i = 8 ∨ i = 9 ∨ i = 10 ∨ i = 11 ∨ i = 12 ∨ i = 13 ∨ i = 14 ∨ i = 15 := by omega
  rcases this with c | c | c | c | c | c | c | c | c | c | c | c | c | c | c | c <;> subst c <;> rfl
 have c1 : ∀ i, i < 12 → W.cell? ⟨2, i, none⟩ = some (.int .i64 (lens.getD i 0)) := fun i hi => by
  refine (World.var?_cell hg1 hv1 i).trans ?_
  have := k1 i hi
  rw [Array.getElem?_toList] at this
  exact this
 exact ⟨World.block_lt_of_cell? W _ (c1 0 (by omega)), c1, World.block_lt_of_cell? W _ (c0 0 (by omega)), c0⟩
end Go.Proofs.YtfnifgppblbjhaaGreatDoor
namespace Go.Proofs.YtfnifgppblbjhaaGreatDoor
set_option maxHeartbeats 8000000
open Go
set_option linter.unusedVariables false
theorem and_t {a b : Bool} (h : a = true) (k : b = true) : (a && b) = true := by rw [h, k]; rfl
theorem jf1 : (Rows.topHolyRow.wf (OpenSpec.ofChange Rows.topHolySpec)) = true := by kernel_rfl
theorem jf2 : (laidOutB Tryz.prog) = true := by kernel_rfl
theorem jf3 : (mapsRowed Tryz.prog) = true := by kernel_rfl
theorem jf4 : (Tryz.f3.params.all (Tryz.prog.readableRec ·)) = true := by kernel_rfl
theorem jf5 : (namedTie Tryz.prog Rows.topHolyRow.named Rows.topHolySpec.vars) = true := by kernel_rfl
theorem jf6 : ((Rows.topHolyRow.stops == [])) = true := by kernel_rfl
theorem jf7 : ((Tryz.prog.stops == [])) = true := by kernel_rfl
theorem jf8 : ((Rows.topHolyRow.knobs == [])) = true := by kernel_rfl
theorem jf9 : ((Tryz.prog.stopKnobs == [])) = true := by kernel_rfl
theorem jf10 : ((Rows.topHolyRow.inPlace == Tryz.prog.inPlace 3)) = true := by kernel_rfl
theorem jf11 : ((Rows.topHolyRow.unfollowed == Tryz.prog.unfollowed 3)) = true := by kernel_rfl
theorem jf12 : ((Rows.topHolyRow.recurses == Tryz.prog.recurses 3)) = true := by kernel_rfl
theorem jf13 : ((Rows.topHolyRow.named == Tryz.prog.varsNamed 3)) = true := by kernel_rfl
theorem jf14 : ((Rows.topHolyRow.maps == (Tryz.f3.params.toList ++ Rows.topHolySpec.plain.varTypes Tryz.prog).any (Tryz.prog.mapsRec ·))) = true := by kernel_rfl
theorem jf15 : ((Rows.topHolyRow.ifaces == (Tryz.f3.params.toList ++ Rows.topHolySpec.plain.varTypes Tryz.prog).any (Tryz.prog.ifacesRec ·))) = true := by kernel_rfl
theorem jf16 : ((Rows.topHolyRow.mapsOut == Tryz.prog.mapsAmong Tryz.f3.resultTypes.toList)) = true := by kernel_rfl
theorem jf17 : ((Rows.topHolyRow.loops == (Tryz.f3.params.toList ++ Rows.topHolySpec.plain.varTypes Tryz.prog).any (Tryz.prog.loopsFrom ·))) = true := by kernel_rfl
theorem jf18 : ((Rows.topHolyRow.wideKeys == (Tryz.f3.params.toList ++ Rows.topHolySpec.plain.varTypes Tryz.prog ++ Tryz.f3.resultTypes.toList).any (Tryz.prog.wideKeysFrom ·))) = true := by kernel_rfl
theorem jf19 : (Rows.topHolySpec.vars.all (Tryz.prog.varReadable ·)) = true := by kernel_rfl
theorem jf20 : (Tryz.f3.resultTypes.all (fun t => Tryz.prog.readableRec t && decide (t < Tryz.prog.types.size))) = true := by kernel_rfl
theorem jf21 : ((Rows.topHolyRow.ifacesOut == Tryz.f3.resultTypes.toList.any (Tryz.prog.ifacesRec ·))) = true := by kernel_rfl
theorem jf22 : ((Rows.topHolyRow.loopsOut == Tryz.f3.resultTypes.toList.any (Tryz.prog.loopsFrom ·))) = true := by kernel_rfl
theorem jf23 : ((Rows.topHolyRow.plainKeys == Tryz.prog.plainKeys)) = true := by kernel_rfl
theorem jf24 : (Rows.topHolyRow.shortTexts.isNone) = true := by kernel_rfl
theorem jf25 : (Tryz.prog.stopsHeard) = true := by kernel_rfl
theorem jf26 : (Tryz.prog.mayEnter) = true := by kernel_rfl
theorem jf27 : ((Rows.topHolyRow.lifted == Tryz.prog.liftsFinal)) = true := by kernel_rfl
theorem jf28 : ((Tryz.prog.make == some Rows.topHolyRow.make)) = true := by kernel_rfl
theorem jf29 : ((Rows.topHolyRow.kinds == (if Rows.topHolyRow.domain.isEmpty then [] else Tryz.f3.params.toList.map fun t => match Tryz.prog.underlying t with | some (.int k) => some k | _ => none))) = true := by kernel_rfl
theorem jf30 : ((Rows.topHolyRow.pinned == Rows.topHolyRow.pinnedBy)) = true := by kernel_rfl
theorem jf31 : ((Rows.topHolyRow.veiled == (Tryz.f3.params.toList ++ Rows.topHolySpec.plain.varTypes Tryz.prog ++ Tryz.f3.resultTypes.toList).any (Tryz.prog.veiledRec ·))) = true := by kernel_rfl
theorem jf32 : (Rows.topHolyRow.veiledFits Tryz.prog Tryz.f3.params.toList (Tryz.f3.params.toList ++ Rows.topHolySpec.plain.varTypes Tryz.prog ++ Tryz.f3.resultTypes.toList)) = true := by kernel_rfl
theorem jName : Tryz.prog.funcNamed "newel/neweltop.TopHoly" = some 3 := by kernel_rfl
theorem jWrap : Tryz.f3.isWrapper Tryz.prog Rows.topHolyRow.wrapper Rows.topHolyRow.mainSum := by unfold Func.isWrapper; first | (rw [if_pos (by decide +kernel)]; kernel_rfl) | (rw [if_neg (by decide +kernel)]; exact ⟨rfl, rfl⟩)
theorem jInst : Tryz.f3.isInstance Tryz.prog Rows.topHolyRow.origin Rows.topHolyRow.targs := of_decide_eq_true (by kernel_rfl)
end Go.Proofs.YtfnifgppblbjhaaGreatDoor
namespace Go.Proofs.YtfnifgppblbjhaaGreatDoor
set_option maxHeartbeats 8000000
open Go
set_option maxRecDepth 100000 in
theorem joined : joinedFacts Tryz.prog 3 Tryz.f3 Rows.topHolySpec Rows.topHolyRow = true := by
 unfold joinedFacts
 exact and_t (and_t (and_t (and_t (and_t (and_t (and_t (and_t (and_t (and_t (and_t (and_t (and_t (and_t (and_t (and_t (and_t (and_t (and_t (and_t (and_t (and_t (and_t (and_t (and_t (and_t (and_t (and_t (and_t (and_t (and_t jf1 jf2) jf3) jf4) jf5) jf6) jf7) jf8) jf9) jf10) jf11) jf12) jf13) jf14) jf15) jf16) jf17) jf18) jf19) jf20) jf21) jf22) jf23) jf24) jf25) jf26) jf27) jf28) jf29) jf30) jf31) jf32
end Go.Proofs.YtfnifgppblbjhaaGreatDoor
