/- Part of the proof of TopHoly. -/
import Derived.Test.YtfnifgppblbjhaaGreatDoorY18
import Derived.Test.YtfnifgppblbjhaaGreatDoorY25
import Derived.Deep.MidRow
namespace Go.Proofs.YtfnifgppblbjhaaGreatDoor
set_option maxHeartbeats 8000000
open Go Go.RowKit
set_option linter.unusedVariables false
set_option linter.unusedSimpArgs false
theorem step_val {P : Program} {Q : Exit → Act → World → Prop} {ops : Array Oper} {t0 : Array Value} {I : World → Prop} {G : Nat → World → World → Prop} {V : Nat → World → Value → Prop} {i : Nat} {o : Oper} {k : Tmp} (hg : o.guard = none) (hd : o.dst = some k)
  (h : ∀ a w, I w → (∀ k, freshAt ops i k = true → a.tmps.getD k undef = t0.getD k undef) → (∀ j, befAt ops i j = true → V j w (slotAt ops a j)) → ∃ v, (execOp a.eval o).run P w = .ok (.value v) w ∧ V i w v) (hG : ∀ w, G i w w) : StepOk P Q ops t0 I G V i o := by
 refine step_plain hg fun a w hI hf hb => ?_
 obtain ⟨v, hr, hv⟩ := h a w hI hf hb
 unfold Oper.wp
 rw [hr]
 exact ⟨v, rfl, by rw [hd]; exact hv, hI, hG w⟩
def enOps : Array Oper := #[{ dst := some 54, op := Op.fieldAddr 33 (Operand.tmp 1) 0, type := 0, pos := "codec.go:61", after := #[], guard := none },
 { dst := some 55, op := Op.load 3 (Operand.tmp 54), type := 3, pos := "codec.go:61", after := #[{ on := 0, ground := Ground.data }], guard := none },
 { dst := some 56, op := Op.fieldAddr 33 (Operand.tmp 1) 1, type := 0, pos := "codec.go:61", after := #[], guard := none },
 { dst := some 57, op := Op.load 3 (Operand.tmp 56), type := 3, pos := "codec.go:61", after := #[{ on := 2, ground := Ground.data }], guard := none },
 { dst := some 58, op := Op.fieldAddr 33 (Operand.tmp 1) 2, type := 0, pos := "codec.go:61", after := #[], guard := none },
 { dst := some 59, op := Op.load 3 (Operand.tmp 58), type := 3, pos := "codec.go:61", after := #[{ on := 4, ground := Ground.data }], guard := none },
 { dst := some 60, op := Op.fieldAddr 33 (Operand.tmp 1) 5, type := 0, pos := "codec.go:61", after := #[], guard := none },
 { dst := some 61, op := Op.load 3 (Operand.tmp 60), type := 3, pos := "codec.go:61", after := #[{ on := 6, ground := Ground.data }], guard := none },
 { dst := some 62, op := Op.fieldAddr 33 (Operand.tmp 1) 6, type := 0, pos := "codec.go:61", after := #[], guard := none },
 { dst := some 63, op := Op.load 3 (Operand.tmp 62), type := 3, pos := "codec.go:61", after := #[{ on := 8, ground := Ground.data }], guard := none },
 { dst := some 64, op := Op.move (Operand.tmp 5), type := 3, pos := "codec.go:61", after := #[], guard := none },
 { dst := some 65, op := Op.buildSlice 22 6 #[(0, Operand.tmp 55), (1, Operand.tmp 57), (2, Operand.tmp 59), (3, Operand.tmp 61), (4, Operand.tmp 63), (5, Operand.tmp 64)], type := 22, pos := "codec.go:61", after := #[{ on := 1, ground := Ground.data }, { on := 3, ground := Ground.data }, { on := 5, ground := Ground.data }, { on := 7, ground := Ground.data }, { on := 9, ground := Ground.data }, { on := 10, ground := Ground.data }], guard := none },
 { dst := some 66, op := Op.fieldAddr 33 (Operand.tmp 1) 3, type := 0, pos := "codec.go:61", after := #[], guard := none },
 { dst := some 67, op := Op.load 22 (Operand.tmp 66), type := 22, pos := "codec.go:61", after := #[{ on := 12, ground := Ground.data }], guard := none },
 { dst := some 68, op := Op.fieldAddr 24 (Operand.tmp 6) 0, type := 0, pos := "codec.go:61", after := #[], guard := none },
 { dst := some 69, op := Op.load 3 (Operand.tmp 68), type := 3, pos := "codec.go:61", after := #[{ on := 14, ground := Ground.data }], guard := none },
 { dst := some 70, op := Op.fieldAddr 24 (Operand.tmp 6) 1, type := 0, pos := "codec.go:61", after := #[], guard := none },
 { dst := some 71, op := Op.load 3 (Operand.tmp 70), type := 3, pos := "codec.go:61", after := #[{ on := 16, ground := Ground.data }], guard := none },
 { dst := some 72, op := Op.fieldAddr 24 (Operand.tmp 6) 2, type := 0, pos := "codec.go:61", after := #[], guard := none },
 { dst := some 73, op := Op.load 3 (Operand.tmp 72), type := 3, pos := "codec.go:61", after := #[{ on := 18, ground := Ground.data }], guard := none },
 { dst := some 74, op := Op.fieldAddr 24 (Operand.tmp 6) 3, type := 0, pos := "codec.go:61", after := #[], guard := none },
 { dst := some 75, op := Op.load 3 (Operand.tmp 74), type := 3, pos := "codec.go:61", after := #[{ on := 20, ground := Ground.data }], guard := none },
 { dst := some 76, op := Op.fieldAddr 24 (Operand.tmp 6) 4, type := 0, pos := "codec.go:61", after := #[], guard := none },
 { dst := some 77, op := Op.load 3 (Operand.tmp 76), type := 3, pos := "codec.go:61", after := #[{ on := 22, ground := Ground.data }], guard := none },
 { dst := some 78, op := Op.fieldAddr 24 (Operand.tmp 6) 5, type := 0, pos := "codec.go:61", after := #[], guard := none },
 { dst := some 79, op := Op.load 3 (Operand.tmp 78), type := 3, pos := "codec.go:61", after := #[{ on := 24, ground := Ground.data }], guard := none },
 { dst := some 80, op := Op.fieldAddr 24 (Operand.tmp 6) 6, type := 0, pos := "codec.go:61", after := #[], guard := none },
 { dst := some 81, op := Op.load 3 (Operand.tmp 80), type := 3, pos := "codec.go:61", after := #[{ on := 26, ground := Ground.data }], guard := none },
 { dst := some 82, op := Op.buildSlice 22 7 #[(0, Operand.tmp 69), (1, Operand.tmp 71), (2, Operand.tmp 73), (3, Operand.tmp 75), (4, Operand.tmp 77), (5, Operand.tmp 79), (6, Operand.tmp 81)], type := 22, pos := "codec.go:61", after := #[{ on := 15, ground := Ground.data }, { on := 17, ground := Ground.data }, { on := 19, ground := Ground.data }, { on := 21, ground := Ground.data }, { on := 23, ground := Ground.data }, { on := 25, ground := Ground.data }, { on := 27, ground := Ground.data }], guard := none },
 { dst := some 83, op := Op.fieldAddr 28 (Operand.tmp 7) 0, type := 0, pos := "codec.go:61", after := #[], guard := none },
 { dst := some 84, op := Op.load 3 (Operand.tmp 83), type := 3, pos := "codec.go:61", after := #[{ on := 29, ground := Ground.data }], guard := none },
 { dst := some 85, op := Op.fieldAddr 28 (Operand.tmp 7) 1, type := 0, pos := "codec.go:61", after := #[], guard := none },
 { dst := some 86, op := Op.load 3 (Operand.tmp 85), type := 3, pos := "codec.go:61", after := #[{ on := 31, ground := Ground.data }], guard := none },
 { dst := some 87, op := Op.buildSlice 22 2 #[(0, Operand.tmp 84), (1, Operand.tmp 86)], type := 22, pos := "codec.go:61", after := #[{ on := 30, ground := Ground.data }, { on := 32, ground := Ground.data }], guard := none },
 { dst := some 88, op := Op.fieldAddr 28 (Operand.tmp 7) 2, type := 0, pos := "codec.go:61", after := #[], guard := none },
 { dst := some 89, op := Op.load 26 (Operand.tmp 88), type := 26, pos := "codec.go:61", after := #[{ on := 34, ground := Ground.data }], guard := none },
 { dst := some 90, op := Op.call { callee := Callee.value (Operand.func 37), args := #[Operand.tmp 89], argTypes := #[26] }, type := 22, pos := "codec.go:65", after := #[{ on := 35, ground := Ground.data }], guard := none },
 { dst := some 91, op := Op.call { callee := Callee.builtin Builtin.append, args := #[Operand.tmp 87, Operand.tmp 90], argTypes := #[22, 22] }, type := 22, pos := "codec.go:61", after := #[{ on := 33, ground := Ground.data }, { on := 36, ground := Ground.data }, { on := 36, ground := Ground.chain }], guard := none },
 { dst := some 92, op := Op.fieldAddr 28 (Operand.tmp 7) 3, type := 0, pos := "codec.go:61", after := #[], guard := none },
 { dst := some 93, op := Op.load 26 (Operand.tmp 92), type := 26, pos := "codec.go:61", after := #[{ on := 38, ground := Ground.data }], guard := none },
 { dst := some 94, op := Op.call { callee := Callee.value (Operand.func 37), args := #[Operand.tmp 93], argTypes := #[26] }, type := 22, pos := "codec.go:65", after := #[{ on := 39, ground := Ground.data }, { on := 37, ground := Ground.chain }], guard := none },
 { dst := some 95, op := Op.call { callee := Callee.builtin Builtin.append, args := #[Operand.tmp 91, Operand.tmp 94], argTypes := #[22, 22] }, type := 22, pos := "codec.go:61", after := #[{ on := 37, ground := Ground.data }, { on := 40, ground := Ground.data }, { on := 40, ground := Ground.chain }], guard := none },
 { dst := some 96, op := Op.fieldAddr 33 (Operand.tmp 1) 8, type := 0, pos := "codec.go:61", after := #[], guard := none },
 { dst := some 97, op := Op.slice 30 (Operand.tmp 96) none none none, type := 22, pos := "codec.go:61", after := #[{ on := 42, ground := Ground.data }], guard := none },
 { dst := some 98, op := Op.move (Operand.tmp 8), type := 22, pos := "codec.go:61", after := #[], guard := none },
 { dst := some 99, op := Op.buildSlice 106 6 #[(0, Operand.tmp 65), (1, Operand.tmp 67), (2, Operand.tmp 82), (3, Operand.tmp 95), (4, Operand.tmp 97), (5, Operand.tmp 98)], type := 106, pos := "codec.go:61", after := #[{ on := 11, ground := Ground.data }, { on := 13, ground := Ground.data }, { on := 28, ground := Ground.data }, { on := 41, ground := Ground.data }, { on := 43, ground := Ground.data }, { on := 44, ground := Ground.data }], guard := none },
 { dst := some 100, op := Op.call { callee := Callee.builtin Builtin.len, args := #[Operand.tmp 99], argTypes := #[106] }, type := 3, pos := "codec.go:61", after := #[{ on := 45, ground := Ground.data }], guard := none },
 { dst := some 101, op := Op.move (Operand.const (Value.int IntKind.i64 0)), type := 3, pos := "codec.go:61", after := #[], guard := none }]
def OwnI (w0 w : World) (v : Value) (l : List Int) : Prop := w.ownsRow w0.heap.size 3 1 v l.length (l.map (.int .i64))
def enV (c : Cfg) (ps : Option Addr) (qs : Nat) (wv : Value) (b bt bz : Nat) (w0 : World) : Nat → World → Value → Prop
 | 11, w, v => OwnI w0 w v (row1 c)
 | 28, w, v => OwnI w0 w v (row3 c) ∧ ∃ g, v = .slice (some ⟨g, 0, none⟩) 7 7
 | 33, w, v => OwnI w0 w v [c.z.b, c.z.s] ∧ ∃ g, v = .slice (some ⟨g, 0, none⟩) 2 2
 | 36, w, v => OwnI w0 w v [c.z.m, c.z.k, c.z.d, c.z.t] ∧ ∃ g, v = .slice (some ⟨g, 0, none⟩) 4 4
 | 37, w, v => OwnI w0 w v [c.z.b, c.z.s, c.z.m, c.z.k, c.z.d, c.z.t]
 | 40, w, v => OwnI w0 w v [c.z.m', c.z.k', c.z.d', c.z.t'] ∧ ∃ g, v = .slice (some ⟨g, 0, none⟩) 4 4
 | 41, w, v => OwnI w0 w v (row4 c)
 | 45, w, v => ∃ g v0 v2 v3, v = .slice (some ⟨g, 0, none⟩) 6 6 ∧ w0.heap.size ≤ g ∧ BlockIs w g #[v0, .slice ps c.st.length qs, v2, v3, .slice (some ⟨b, 23, none⟩) 12 12, wv] 22 ∧ OwnI w0 w v0 (row1 c) ∧ OwnI w0 w v2 (row3 c) ∧ OwnI w0 w v3 (row4 c)
 | 0, w, v => v = .pointer (some ⟨b, 0, none⟩)
 | 1, w, v => v = .int .i64 c.fl
 | 2, w, v => v = .pointer (some ⟨b, 1, none⟩)
 | 3, w, v => v = .int .i64 c.ca
 | 4, w, v => v = .pointer (some ⟨b, 2, none⟩)
 | 5, w, v => v = .int .i64 c.pk
 | 6, w, v => v = .pointer (some ⟨b, 11, none⟩)
 | 7, w, v => v = .int .i64 c.rs
 | 8, w, v => v = .pointer (some ⟨b, 12, none⟩)
 | 9, w, v => v = .int .i64 c.pa
 | 10, w, v => v = .int .i64 (abI c.ab)
 | 12, w, v => v = .pointer (some ⟨b, 3, none⟩)
 | 13, w, v => v = .slice ps c.st.length qs
 | 14, w, v => v = .pointer (some ⟨bt, 0, none⟩)
 | 15, w, v => v = .int .i64 c.tv
 | 16, w, v => v = .pointer (some ⟨bt, 1, none⟩)
 | 17, w, v => v = .int .i64 c.lv
 | 18, w, v => v = .pointer (some ⟨bt, 2, none⟩)
 | 19, w, v => v = .int .i64 c.op
 | 20, w, v => v = .pointer (some ⟨bt, 3, none⟩)
 | 21, w, v => v = .int .i64 c.dw
 | 22, w, v => v = .pointer (some ⟨bt, 4, none⟩)
 | 23, w, v => v = .int .i64 c.ld
 | 24, w, v => v = .pointer (some ⟨bt, 5, none⟩)
 | 25, w, v => v = .int .i64 c.cl
 | 26, w, v => v = .pointer (some ⟨bt, 6, none⟩)
 | 27, w, v => v = .int .i64 c.ho
 | 29, w, v => v = .pointer (some ⟨bz, 0, none⟩)
 | 30, w, v => v = .int .i64 c.z.b
 | 31, w, v => v = .pointer (some ⟨bz, 1, none⟩)
 | 32, w, v => v = .int .i64 c.z.s
 | 34, w, v => v = .pointer (some ⟨bz, 2, none⟩)
 | 35, w, v => v = .agg (turnA c.z.m c.z.k c.z.d c.z.t)
 | 38, w, v => v = .pointer (some ⟨bz, 6, none⟩)
 | 39, w, v => v = .agg (turnA c.z.m' c.z.k' c.z.d' c.z.t')
 | 42, w, v => v = .pointer (some ⟨b, 23, none⟩)
 | 43, w, v => v = .slice (some ⟨b, 23, none⟩) 12 12
 | 44, w, v => v = wv
 | 46, w, v => v = .int .i64 6
 | 47, w, v => v = .int .i64 0
 | _, _, _ => False
def enG (w0 : World) (i : Nat) (w w' : World) : Prop := if i = 41 then (w.heap.size ≤ w'.heap.size ∧ ∀ v n xs, (n ≤ 6 ∨ ∃ g, v = .slice (some ⟨g, 0, none⟩) 7 7) → w.ownsRow w0.heap.size 3 1 v n xs → w'.ownsRow w0.heap.size 3 1 v n xs) else Below w.heap.size w w'
theorem enG_refl (w0 : World) (i : Nat) (w : World) : enG w0 i w w := by
 unfold enG
 split
 ·exact ⟨Nat.le_refl _, fun _ _ _ _ h => h⟩
 ·exact Below.refl _ _
theorem app_int {P : Program} {w : World} {o : Oper} {a : Act} {K : Act → World → Prop} {Q : Exit → Act → World → Prop} (s x : Operand) (t : TypeId) (ho : o.op = .call { callee := .builtin .append, args := #[s, x], argTypes := #[t, t] })
  (base : Nat) (e : TypeId) (i : TypeInfo) (z : Value) (bytes : Nat) (ht : P.underlying t = some (.slice e)) (hi : P.info? e = some i) (hz : i.zero = some z) (hsize : i.size = 1) (hby : i.bytes = bytes) (hzs : z.cells.size = 1)
  (g n cap : Nat) (xs : List Value) (hs : a.eval s = .slice (some ⟨g, 0, none⟩) n cap) (hown : w.ownsRow base e 1 (.slice (some ⟨g, 0, none⟩) n cap) n xs)
  (ad : Addr) (m c : Nat) (news : List Value) (hx : a.eval x = .slice (some ad) m c) (hl : news.length = m * 1) (hnews : ∀ j u, news[j]? = some u → w.cell? (ad.add j) = some u) (h1 : ∀ u ∈ news, u.oneCell' = true)
  (h63 : n + m ≤ maxLen) (hbytes : (n + m) * bytes ≤ 140737488355328) (hbase : base ≤ w.heap.size)
  (h : ∀ v' w', w'.ownsRow base e 1 v' (n + m) (xs ++ news) → ((¬ n + m ≤ cap ∧ Below w.heap.size w w') ∨ (n + m ≤ cap ∧ v' = .slice (some ⟨g, 0, none⟩) (n + m) cap ∧ w.grownBy w' (some g))) → K (a.put o.dst v') w') : o.wp P a w K Q := by
 have fin : ∀ v' w', (Builtin.append_ #[t, t] o.type #[.slice (some ⟨g, 0, none⟩) n cap, .slice (some ad) m c]).run P w = .ok v' w' → K (a.put o.dst v') w' → o.wp P a w K Q := fun v' w' hr hk => by
  unfold Oper.wp execOp
  simp only [ho, resolve, invoke, builtin, Sem.run_bind, Sem.run_pure, Result.andThen_ok, List.map_toArray, List.map_cons, List.map_nil, hs, hx, hr]
  exact hk
 obtain ⟨v', w', hr, h2, h3, _⟩ := run_append_own (P := P) w base t o.type e i z 1 bytes ht hi hz hsize hby hzs (by omega) _ n xs hown ad m c news hl hnews h1 h63 hbytes hbase
 refine fin v' w' hr (h v' w' h2 ?_)
 by_cases hroom : n + m ≤ cap
 ·refine .inr ⟨hroom, ?_, h3⟩
  rcases hown.2 with ⟨hh, _⟩ | ⟨g', cap', cur, hh, hbg, hg, hnc, hcm, hcs, htake⟩
  ·cases hh
  ·cases hh
   have hfit : n * i.size + news.length ≤ cur.size := by rw [hsize, hl, hcs]; omega
   have hr2 := run_append_room (P := P) w t o.type e i ht hi g n cap cur hg ad m c news (by rw [hsize]; exact hl) hnews h1 hroom hfit
   rw [hr] at hr2
   exact (Result.ok.inj hr2).1
 ·refine .inl ⟨hroom, ?_⟩
  have holds : ∀ j u, xs[j]? = some u → w.cell? ((⟨g, 0, none⟩ : Addr).add j) = some u := hown.cells (g := g) rfl
  have hr2 := run_append_grow (P := P) w t o.type e i z ht hi hz ⟨g, 0, none⟩ n cap xs (by rw [hsize]; exact hown.1) holds ad m c news (by rw [hsize]; exact hl) hnews (by omega) (by unfold maxLen at h63; omega) (growslice_fits (by omega) (by rw [hby]; exact hbytes))
  rw [hr] at hr2
  rw [(Result.ok.inj hr2).2]
  exact (Below.refl _ w).drew.alloc (Nat.le_refl _) _
theorem enG_in {w0 w w' : World} {g cap : Nat} {xs news : List Value} (hown : w.ownsRow w0.heap.size 3 1 (.slice (some ⟨g, 0, none⟩) 6 cap) 6 xs) (h10 : 10 ≤ cap) (hw : w'.ownsRow w0.heap.size 3 1 (.slice (some ⟨g, 0, none⟩) 10 cap) 10 (xs ++ news)) (hg : w.grownBy w' (some g)) : enG w0 41 w w' := by
 unfold enG
 rw [if_pos rfl]
 refine ⟨hg.size, fun v n ys hn hv => ?_⟩
 rcases hv.2 with hv2 | ⟨g2, cap2, cur2, e2, hb2, hg2, hn2, hm2, hs2, ht2⟩
 ·exact ⟨hv.1, .inl hv2⟩
 ·by_cases hgg : g2 = g
  ·subst hgg
   rcases hown.2 with ⟨hh, _⟩ | ⟨g', cap', cur, hh, hbg, hgc, hnc, hcm, hcs, htake⟩
   ·cases hh
   ·cases hh
    rw [hgc] at hg2
    cases hg2
    rcases hw.2 with ⟨hh, _⟩ | ⟨g', cap', cur', hh, hbg', hgc', hnc', hcm', hcs', htake'⟩
    ·cases hh
    ·cases hh
     have hn6 : n ≤ 6 := by
      rcases hn with hn | ⟨g7, e7⟩
      ·exact hn
      ·rw [e2] at e7; cases e7; omega
     refine ⟨hv.1, .inr ⟨_, cap2, cur', e2, hb2, hgc', hn2, hm2, by omega, ?_⟩⟩
     have hx6 : xs.length = 6 := by have := hown.1; omega
     have e1 : ys = xs.take n := by rw [← ht2, ← htake, List.take_take]; congr 1; omega
     rw [e1]
     have e3 : cur'.toList.take (n * 1) = (cur'.toList.take (10 * 1)).take n := by rw [List.take_take]; congr 1; omega
     rw [e3, htake', List.take_append_of_le_length (by omega)]
  ·exact hv.kept hg (.inr (by rw [e2]; simpa [Value.ownBlock] using hgg))
section
variable (c : Cfg) (ps : Option Addr) (qs : Nat) (wv : Value) (b bt bz : Nat) (W : World) (Q : Exit → Act → World → Prop) (t0 : Array Value)
theorem en_0 (h1 : t0.getD 1 undef = .pointer (some ⟨b, 0, none⟩)) : StepOk Tryz.prog Q enOps t0 (Below W.heap.size W) (enG W) (enV c ps qs wv b bt bz W) 0 ({ dst := some 54, op := Op.fieldAddr 33 (Operand.tmp 1) 0, type := 0, pos := "codec.go:61", after := #[], guard := none }) := by
 refine step_val rfl rfl (fun a w hI hf hb => ⟨.pointer (some ⟨b, 0, none⟩), ?_, rfl⟩) (fun w => enG_refl _ _ _)
 have e1 : a.tmps[1]?.getD undef = .pointer (some ⟨b, 0, none⟩) := (Array.getD_eq_getD_getElem? ..).symm.trans ((hf 1 (by kernel_rfl)).trans h1)
 clear hf hb
 go_simp
theorem en_1 (vw : Value) (hc : BlockIs W b (cfgA c (.slice ps c.st.length qs) vw) 33) : StepOk Tryz.prog Q enOps t0 (Below W.heap.size W) (enG W) (enV c ps qs wv b bt bz W) 1 ({ dst := some 55, op := Op.load 3 (Operand.tmp 54), type := 3, pos := "codec.go:61", after := #[{ on := 0, ground := Ground.data }], guard := none }) := by
 refine step_val rfl rfl (fun a w hI hf hb => ⟨.int .i64 c.fl, ?_, rfl⟩) (fun w => enG_refl _ _ _)
 have e54 : a.tmps[54]?.getD undef = .pointer (some ⟨b, 0, none⟩) := (Array.getD_eq_getD_getElem? ..).symm.trans (hb 0 (by kernel_rfl))
 have x := (hc.below hI hc.lt).cell (i := 0) (v := .int .i64 c.fl) rfl
 clear hf hb
 go_simp
theorem en_2 (h1 : t0.getD 1 undef = .pointer (some ⟨b, 0, none⟩)) : StepOk Tryz.prog Q enOps t0 (Below W.heap.size W) (enG W) (enV c ps qs wv b bt bz W) 2 ({ dst := some 56, op := Op.fieldAddr 33 (Operand.tmp 1) 1, type := 0, pos := "codec.go:61", after := #[], guard := none }) := by
 refine step_val rfl rfl (fun a w hI hf hb => ⟨.pointer (some ⟨b, 1, none⟩), ?_, rfl⟩) (fun w => enG_refl _ _ _)
 have e1 : a.tmps[1]?.getD undef = .pointer (some ⟨b, 0, none⟩) := (Array.getD_eq_getD_getElem? ..).symm.trans ((hf 1 (by kernel_rfl)).trans h1)
 clear hf hb
 go_simp
theorem en_3 (vw : Value) (hc : BlockIs W b (cfgA c (.slice ps c.st.length qs) vw) 33) : StepOk Tryz.prog Q enOps t0 (Below W.heap.size W) (enG W) (enV c ps qs wv b bt bz W) 3 ({ dst := some 57, op := Op.load 3 (Operand.tmp 56), type := 3, pos := "codec.go:61", after := #[{ on := 2, ground := Ground.data }], guard := none }) := by
 refine step_val rfl rfl (fun a w hI hf hb => ⟨.int .i64 c.ca, ?_, rfl⟩) (fun w => enG_refl _ _ _)
 have e56 : a.tmps[56]?.getD undef = .pointer (some ⟨b, 1, none⟩) := (Array.getD_eq_getD_getElem? ..).symm.trans (hb 2 (by kernel_rfl))
 have x := (hc.below hI hc.lt).cell (i := 1) (v := .int .i64 c.ca) rfl
 clear hf hb
 go_simp
theorem en_4 (h1 : t0.getD 1 undef = .pointer (some ⟨b, 0, none⟩)) : StepOk Tryz.prog Q enOps t0 (Below W.heap.size W) (enG W) (enV c ps qs wv b bt bz W) 4 ({ dst := some 58, op := Op.fieldAddr 33 (Operand.tmp 1) 2, type := 0, pos := "codec.go:61", after := #[], guard := none }) := by
 refine step_val rfl rfl (fun a w hI hf hb => ⟨.pointer (some ⟨b, 2, none⟩), ?_, rfl⟩) (fun w => enG_refl _ _ _)
 have e1 : a.tmps[1]?.getD undef = .pointer (some ⟨b, 0, none⟩) := (Array.getD_eq_getD_getElem? ..).symm.trans ((hf 1 (by kernel_rfl)).trans h1)
 clear hf hb
 go_simp
theorem en_5 (vw : Value) (hc : BlockIs W b (cfgA c (.slice ps c.st.length qs) vw) 33) : StepOk Tryz.prog Q enOps t0 (Below W.heap.size W) (enG W) (enV c ps qs wv b bt bz W) 5 ({ dst := some 59, op := Op.load 3 (Operand.tmp 58), type := 3, pos := "codec.go:61", after := #[{ on := 4, ground := Ground.data }], guard := none }) := by
 refine step_val rfl rfl (fun a w hI hf hb => ⟨.int .i64 c.pk, ?_, rfl⟩) (fun w => enG_refl _ _ _)
 have e58 : a.tmps[58]?.getD undef = .pointer (some ⟨b, 2, none⟩) := (Array.getD_eq_getD_getElem? ..).symm.trans (hb 4 (by kernel_rfl))
 have x := (hc.below hI hc.lt).cell (i := 2) (v := .int .i64 c.pk) rfl
 clear hf hb
 go_simp
theorem en_6 (h1 : t0.getD 1 undef = .pointer (some ⟨b, 0, none⟩)) : StepOk Tryz.prog Q enOps t0 (Below W.heap.size W) (enG W) (enV c ps qs wv b bt bz W) 6 ({ dst := some 60, op := Op.fieldAddr 33 (Operand.tmp 1) 5, type := 0, pos := "codec.go:61", after := #[], guard := none }) := by
 refine step_val rfl rfl (fun a w hI hf hb => ⟨.pointer (some ⟨b, 11, none⟩), ?_, rfl⟩) (fun w => enG_refl _ _ _)
 have e1 : a.tmps[1]?.getD undef = .pointer (some ⟨b, 0, none⟩) := (Array.getD_eq_getD_getElem? ..).symm.trans ((hf 1 (by kernel_rfl)).trans h1)
 clear hf hb
 go_simp
theorem en_7 (vw : Value) (hc : BlockIs W b (cfgA c (.slice ps c.st.length qs) vw) 33) : StepOk Tryz.prog Q enOps t0 (Below W.heap.size W) (enG W) (enV c ps qs wv b bt bz W) 7 ({ dst := some 61, op := Op.load 3 (Operand.tmp 60), type := 3, pos := "codec.go:61", after := #[{ on := 6, ground := Ground.data }], guard := none }) := by
 refine step_val rfl rfl (fun a w hI hf hb => ⟨.int .i64 c.rs, ?_, rfl⟩) (fun w => enG_refl _ _ _)
 have e60 : a.tmps[60]?.getD undef = .pointer (some ⟨b, 11, none⟩) := (Array.getD_eq_getD_getElem? ..).symm.trans (hb 6 (by kernel_rfl))
 have x := (hc.below hI hc.lt).cell (i := 11) (v := .int .i64 c.rs) rfl
 clear hf hb
 go_simp
theorem en_8 (h1 : t0.getD 1 undef = .pointer (some ⟨b, 0, none⟩)) : StepOk Tryz.prog Q enOps t0 (Below W.heap.size W) (enG W) (enV c ps qs wv b bt bz W) 8 ({ dst := some 62, op := Op.fieldAddr 33 (Operand.tmp 1) 6, type := 0, pos := "codec.go:61", after := #[], guard := none }) := by
 refine step_val rfl rfl (fun a w hI hf hb => ⟨.pointer (some ⟨b, 12, none⟩), ?_, rfl⟩) (fun w => enG_refl _ _ _)
 have e1 : a.tmps[1]?.getD undef = .pointer (some ⟨b, 0, none⟩) := (Array.getD_eq_getD_getElem? ..).symm.trans ((hf 1 (by kernel_rfl)).trans h1)
 clear hf hb
 go_simp
theorem en_9 (vw : Value) (hc : BlockIs W b (cfgA c (.slice ps c.st.length qs) vw) 33) : StepOk Tryz.prog Q enOps t0 (Below W.heap.size W) (enG W) (enV c ps qs wv b bt bz W) 9 ({ dst := some 63, op := Op.load 3 (Operand.tmp 62), type := 3, pos := "codec.go:61", after := #[{ on := 8, ground := Ground.data }], guard := none }) := by
 refine step_val rfl rfl (fun a w hI hf hb => ⟨.int .i64 c.pa, ?_, rfl⟩) (fun w => enG_refl _ _ _)
 have e62 : a.tmps[62]?.getD undef = .pointer (some ⟨b, 12, none⟩) := (Array.getD_eq_getD_getElem? ..).symm.trans (hb 8 (by kernel_rfl))
 have x := (hc.below hI hc.lt).cell (i := 12) (v := .int .i64 c.pa) rfl
 clear hf hb
 go_simp
theorem en_10 (h5 : t0.getD 5 undef = .int .i64 (abI c.ab)) : StepOk Tryz.prog Q enOps t0 (Below W.heap.size W) (enG W) (enV c ps qs wv b bt bz W) 10 ({ dst := some 64, op := Op.move (Operand.tmp 5), type := 3, pos := "codec.go:61", after := #[], guard := none }) := by
 refine step_val rfl rfl (fun a w hI hf hb => ⟨.int .i64 (abI c.ab), ?_, rfl⟩) (fun w => enG_refl _ _ _)
 have e5 : a.tmps[5]?.getD undef = .int .i64 (abI c.ab) := (Array.getD_eq_getD_getElem? ..).symm.trans ((hf 5 (by kernel_rfl)).trans h5)
 clear hf hb
 go_simp
theorem en_12 (h1 : t0.getD 1 undef = .pointer (some ⟨b, 0, none⟩)) : StepOk Tryz.prog Q enOps t0 (Below W.heap.size W) (enG W) (enV c ps qs wv b bt bz W) 12 ({ dst := some 66, op := Op.fieldAddr 33 (Operand.tmp 1) 3, type := 0, pos := "codec.go:61", after := #[], guard := none }) := by
 refine step_val rfl rfl (fun a w hI hf hb => ⟨.pointer (some ⟨b, 3, none⟩), ?_, rfl⟩) (fun w => enG_refl _ _ _)
 have e1 : a.tmps[1]?.getD undef = .pointer (some ⟨b, 0, none⟩) := (Array.getD_eq_getD_getElem? ..).symm.trans ((hf 1 (by kernel_rfl)).trans h1)
 clear hf hb
 go_simp
theorem en_13 (vw : Value) (hc : BlockIs W b (cfgA c (.slice ps c.st.length qs) vw) 33) : StepOk Tryz.prog Q enOps t0 (Below W.heap.size W) (enG W) (enV c ps qs wv b bt bz W) 13 ({ dst := some 67, op := Op.load 22 (Operand.tmp 66), type := 22, pos := "codec.go:61", after := #[{ on := 12, ground := Ground.data }], guard := none }) := by
 refine step_val rfl rfl (fun a w hI hf hb => ⟨.slice ps c.st.length qs, ?_, rfl⟩) (fun w => enG_refl _ _ _)
 have e66 : a.tmps[66]?.getD undef = .pointer (some ⟨b, 3, none⟩) := (Array.getD_eq_getD_getElem? ..).symm.trans (hb 12 (by kernel_rfl))
 have x := (hc.below hI hc.lt).cell (i := 3) (v := .slice ps c.st.length qs) rfl
 clear hf hb
 go_simp
theorem en_14 (h6 : t0.getD 6 undef = .pointer (some ⟨bt, 0, none⟩)) : StepOk Tryz.prog Q enOps t0 (Below W.heap.size W) (enG W) (enV c ps qs wv b bt bz W) 14 ({ dst := some 68, op := Op.fieldAddr 24 (Operand.tmp 6) 0, type := 0, pos := "codec.go:61", after := #[], guard := none }) := by
 refine step_val rfl rfl (fun a w hI hf hb => ⟨.pointer (some ⟨bt, 0, none⟩), ?_, rfl⟩) (fun w => enG_refl _ _ _)
 have e6 : a.tmps[6]?.getD undef = .pointer (some ⟨bt, 0, none⟩) := (Array.getD_eq_getD_getElem? ..).symm.trans ((hf 6 (by kernel_rfl)).trans h6)
 clear hf hb
 go_simp
theorem en_15 (ht : BlockIs W bt (timesA c) 24) : StepOk Tryz.prog Q enOps t0 (Below W.heap.size W) (enG W) (enV c ps qs wv b bt bz W) 15 ({ dst := some 69, op := Op.load 3 (Operand.tmp 68), type := 3, pos := "codec.go:61", after := #[{ on := 14, ground := Ground.data }], guard := none }) := by
 refine step_val rfl rfl (fun a w hI hf hb => ⟨.int .i64 c.tv, ?_, rfl⟩) (fun w => enG_refl _ _ _)
 have e68 : a.tmps[68]?.getD undef = .pointer (some ⟨bt, 0, none⟩) := (Array.getD_eq_getD_getElem? ..).symm.trans (hb 14 (by kernel_rfl))
 have x := (ht.below hI ht.lt).cell (i := 0) (v := .int .i64 c.tv) rfl
 clear hf hb
 go_simp
theorem en_16 (h6 : t0.getD 6 undef = .pointer (some ⟨bt, 0, none⟩)) : StepOk Tryz.prog Q enOps t0 (Below W.heap.size W) (enG W) (enV c ps qs wv b bt bz W) 16 ({ dst := some 70, op := Op.fieldAddr 24 (Operand.tmp 6) 1, type := 0, pos := "codec.go:61", after := #[], guard := none }) := by
 refine step_val rfl rfl (fun a w hI hf hb => ⟨.pointer (some ⟨bt, 1, none⟩), ?_, rfl⟩) (fun w => enG_refl _ _ _)
 have e6 : a.tmps[6]?.getD undef = .pointer (some ⟨bt, 0, none⟩) := (Array.getD_eq_getD_getElem? ..).symm.trans ((hf 6 (by kernel_rfl)).trans h6)
 clear hf hb
 go_simp
theorem en_17 (ht : BlockIs W bt (timesA c) 24) : StepOk Tryz.prog Q enOps t0 (Below W.heap.size W) (enG W) (enV c ps qs wv b bt bz W) 17 ({ dst := some 71, op := Op.load 3 (Operand.tmp 70), type := 3, pos := "codec.go:61", after := #[{ on := 16, ground := Ground.data }], guard := none }) := by
 refine step_val rfl rfl (fun a w hI hf hb => ⟨.int .i64 c.lv, ?_, rfl⟩) (fun w => enG_refl _ _ _)
 have e70 : a.tmps[70]?.getD undef = .pointer (some ⟨bt, 1, none⟩) := (Array.getD_eq_getD_getElem? ..).symm.trans (hb 16 (by kernel_rfl))
 have x := (ht.below hI ht.lt).cell (i := 1) (v := .int .i64 c.lv) rfl
 clear hf hb
 go_simp
theorem en_18 (h6 : t0.getD 6 undef = .pointer (some ⟨bt, 0, none⟩)) : StepOk Tryz.prog Q enOps t0 (Below W.heap.size W) (enG W) (enV c ps qs wv b bt bz W) 18 ({ dst := some 72, op := Op.fieldAddr 24 (Operand.tmp 6) 2, type := 0, pos := "codec.go:61", after := #[], guard := none }) := by
 refine step_val rfl rfl (fun a w hI hf hb => ⟨.pointer (some ⟨bt, 2, none⟩), ?_, rfl⟩) (fun w => enG_refl _ _ _)
 have e6 : a.tmps[6]?.getD undef = .pointer (some ⟨bt, 0, none⟩) := (Array.getD_eq_getD_getElem? ..).symm.trans ((hf 6 (by kernel_rfl)).trans h6)
 clear hf hb
 go_simp
theorem en_19 (ht : BlockIs W bt (timesA c) 24) : StepOk Tryz.prog Q enOps t0 (Below W.heap.size W) (enG W) (enV c ps qs wv b bt bz W) 19 ({ dst := some 73, op := Op.load 3 (Operand.tmp 72), type := 3, pos := "codec.go:61", after := #[{ on := 18, ground := Ground.data }], guard := none }) := by
 refine step_val rfl rfl (fun a w hI hf hb => ⟨.int .i64 c.op, ?_, rfl⟩) (fun w => enG_refl _ _ _)
 have e72 : a.tmps[72]?.getD undef = .pointer (some ⟨bt, 2, none⟩) := (Array.getD_eq_getD_getElem? ..).symm.trans (hb 18 (by kernel_rfl))
 have x := (ht.below hI ht.lt).cell (i := 2) (v := .int .i64 c.op) rfl
 clear hf hb
 go_simp
theorem en_20 (h6 : t0.getD 6 undef = .pointer (some ⟨bt, 0, none⟩)) : StepOk Tryz.prog Q enOps t0 (Below W.heap.size W) (enG W) (enV c ps qs wv b bt bz W) 20 ({ dst := some 74, op := Op.fieldAddr 24 (Operand.tmp 6) 3, type := 0, pos := "codec.go:61", after := #[], guard := none }) := by
 refine step_val rfl rfl (fun a w hI hf hb => ⟨.pointer (some ⟨bt, 3, none⟩), ?_, rfl⟩) (fun w => enG_refl _ _ _)
 have e6 : a.tmps[6]?.getD undef = .pointer (some ⟨bt, 0, none⟩) := (Array.getD_eq_getD_getElem? ..).symm.trans ((hf 6 (by kernel_rfl)).trans h6)
 clear hf hb
 go_simp
theorem en_21 (ht : BlockIs W bt (timesA c) 24) : StepOk Tryz.prog Q enOps t0 (Below W.heap.size W) (enG W) (enV c ps qs wv b bt bz W) 21 ({ dst := some 75, op := Op.load 3 (Operand.tmp 74), type := 3, pos := "codec.go:61", after := #[{ on := 20, ground := Ground.data }], guard := none }) := by
 refine step_val rfl rfl (fun a w hI hf hb => ⟨.int .i64 c.dw, ?_, rfl⟩) (fun w => enG_refl _ _ _)
 have e74 : a.tmps[74]?.getD undef = .pointer (some ⟨bt, 3, none⟩) := (Array.getD_eq_getD_getElem? ..).symm.trans (hb 20 (by kernel_rfl))
 have x := (ht.below hI ht.lt).cell (i := 3) (v := .int .i64 c.dw) rfl
 clear hf hb
 go_simp
theorem en_22 (h6 : t0.getD 6 undef = .pointer (some ⟨bt, 0, none⟩)) : StepOk Tryz.prog Q enOps t0 (Below W.heap.size W) (enG W) (enV c ps qs wv b bt bz W) 22 ({ dst := some 76, op := Op.fieldAddr 24 (Operand.tmp 6) 4, type := 0, pos := "codec.go:61", after := #[], guard := none }) := by
 refine step_val rfl rfl (fun a w hI hf hb => ⟨.pointer (some ⟨bt, 4, none⟩), ?_, rfl⟩) (fun w => enG_refl _ _ _)
 have e6 : a.tmps[6]?.getD undef = .pointer (some ⟨bt, 0, none⟩) := (Array.getD_eq_getD_getElem? ..).symm.trans ((hf 6 (by kernel_rfl)).trans h6)
 clear hf hb
 go_simp
theorem en_23 (ht : BlockIs W bt (timesA c) 24) : StepOk Tryz.prog Q enOps t0 (Below W.heap.size W) (enG W) (enV c ps qs wv b bt bz W) 23 ({ dst := some 77, op := Op.load 3 (Operand.tmp 76), type := 3, pos := "codec.go:61", after := #[{ on := 22, ground := Ground.data }], guard := none }) := by
 refine step_val rfl rfl (fun a w hI hf hb => ⟨.int .i64 c.ld, ?_, rfl⟩) (fun w => enG_refl _ _ _)
 have e76 : a.tmps[76]?.getD undef = .pointer (some ⟨bt, 4, none⟩) := (Array.getD_eq_getD_getElem? ..).symm.trans (hb 22 (by kernel_rfl))
 have x := (ht.below hI ht.lt).cell (i := 4) (v := .int .i64 c.ld) rfl
 clear hf hb
 go_simp
theorem en_24 (h6 : t0.getD 6 undef = .pointer (some ⟨bt, 0, none⟩)) : StepOk Tryz.prog Q enOps t0 (Below W.heap.size W) (enG W) (enV c ps qs wv b bt bz W) 24 ({ dst := some 78, op := Op.fieldAddr 24 (Operand.tmp 6) 5, type := 0, pos := "codec.go:61", after := #[], guard := none }) := by
 refine step_val rfl rfl (fun a w hI hf hb => ⟨.pointer (some ⟨bt, 5, none⟩), ?_, rfl⟩) (fun w => enG_refl _ _ _)
 have e6 : a.tmps[6]?.getD undef = .pointer (some ⟨bt, 0, none⟩) := (Array.getD_eq_getD_getElem? ..).symm.trans ((hf 6 (by kernel_rfl)).trans h6)
 clear hf hb
 go_simp
theorem en_25 (ht : BlockIs W bt (timesA c) 24) : StepOk Tryz.prog Q enOps t0 (Below W.heap.size W) (enG W) (enV c ps qs wv b bt bz W) 25 ({ dst := some 79, op := Op.load 3 (Operand.tmp 78), type := 3, pos := "codec.go:61", after := #[{ on := 24, ground := Ground.data }], guard := none }) := by
 refine step_val rfl rfl (fun a w hI hf hb => ⟨.int .i64 c.cl, ?_, rfl⟩) (fun w => enG_refl _ _ _)
 have e78 : a.tmps[78]?.getD undef = .pointer (some ⟨bt, 5, none⟩) := (Array.getD_eq_getD_getElem? ..).symm.trans (hb 24 (by kernel_rfl))
 have x := (ht.below hI ht.lt).cell (i := 5) (v := .int .i64 c.cl) rfl
 clear hf hb
 go_simp
theorem en_26 (h6 : t0.getD 6 undef = .pointer (some ⟨bt, 0, none⟩)) : StepOk Tryz.prog Q enOps t0 (Below W.heap.size W) (enG W) (enV c ps qs wv b bt bz W) 26 ({ dst := some 80, op := Op.fieldAddr 24 (Operand.tmp 6) 6, type := 0, pos := "codec.go:61", after := #[], guard := none }) := by
 refine step_val rfl rfl (fun a w hI hf hb => ⟨.pointer (some ⟨bt, 6, none⟩), ?_, rfl⟩) (fun w => enG_refl _ _ _)
 have e6 : a.tmps[6]?.getD undef = .pointer (some ⟨bt, 0, none⟩) := (Array.getD_eq_getD_getElem? ..).symm.trans ((hf 6 (by kernel_rfl)).trans h6)
 clear hf hb
 go_simp
theorem en_27 (ht : BlockIs W bt (timesA c) 24) : StepOk Tryz.prog Q enOps t0 (Below W.heap.size W) (enG W) (enV c ps qs wv b bt bz W) 27 ({ dst := some 81, op := Op.load 3 (Operand.tmp 80), type := 3, pos := "codec.go:61", after := #[{ on := 26, ground := Ground.data }], guard := none }) := by
 refine step_val rfl rfl (fun a w hI hf hb => ⟨.int .i64 c.ho, ?_, rfl⟩) (fun w => enG_refl _ _ _)
 have e80 : a.tmps[80]?.getD undef = .pointer (some ⟨bt, 6, none⟩) := (Array.getD_eq_getD_getElem? ..).symm.trans (hb 26 (by kernel_rfl))
 have x := (ht.below hI ht.lt).cell (i := 6) (v := .int .i64 c.ho) rfl
 clear hf hb
 go_simp
theorem en_29 (h7 : t0.getD 7 undef = .pointer (some ⟨bz, 0, none⟩)) : StepOk Tryz.prog Q enOps t0 (Below W.heap.size W) (enG W) (enV c ps qs wv b bt bz W) 29 ({ dst := some 83, op := Op.fieldAddr 28 (Operand.tmp 7) 0, type := 0, pos := "codec.go:61", after := #[], guard := none }) := by
 refine step_val rfl rfl (fun a w hI hf hb => ⟨.pointer (some ⟨bz, 0, none⟩), ?_, rfl⟩) (fun w => enG_refl _ _ _)
 have e7 : a.tmps[7]?.getD undef = .pointer (some ⟨bz, 0, none⟩) := (Array.getD_eq_getD_getElem? ..).symm.trans ((hf 7 (by kernel_rfl)).trans h7)
 clear hf hb
 go_simp
theorem en_30 (hz : BlockIs W bz (zoneA c.z) 28) : StepOk Tryz.prog Q enOps t0 (Below W.heap.size W) (enG W) (enV c ps qs wv b bt bz W) 30 ({ dst := some 84, op := Op.load 3 (Operand.tmp 83), type := 3, pos := "codec.go:61", after := #[{ on := 29, ground := Ground.data }], guard := none }) := by
 refine step_val rfl rfl (fun a w hI hf hb => ⟨.int .i64 c.z.b, ?_, rfl⟩) (fun w => enG_refl _ _ _)
 have e83 : a.tmps[83]?.getD undef = .pointer (some ⟨bz, 0, none⟩) := (Array.getD_eq_getD_getElem? ..).symm.trans (hb 29 (by kernel_rfl))
 have x := (hz.below hI hz.lt).cell (i := 0) (v := .int .i64 c.z.b) rfl
 clear hf hb
 go_simp
theorem en_31 (h7 : t0.getD 7 undef = .pointer (some ⟨bz, 0, none⟩)) : StepOk Tryz.prog Q enOps t0 (Below W.heap.size W) (enG W) (enV c ps qs wv b bt bz W) 31 ({ dst := some 85, op := Op.fieldAddr 28 (Operand.tmp 7) 1, type := 0, pos := "codec.go:61", after := #[], guard := none }) := by
 refine step_val rfl rfl (fun a w hI hf hb => ⟨.pointer (some ⟨bz, 1, none⟩), ?_, rfl⟩) (fun w => enG_refl _ _ _)
 have e7 : a.tmps[7]?.getD undef = .pointer (some ⟨bz, 0, none⟩) := (Array.getD_eq_getD_getElem? ..).symm.trans ((hf 7 (by kernel_rfl)).trans h7)
 clear hf hb
 go_simp
theorem en_32 (hz : BlockIs W bz (zoneA c.z) 28) : StepOk Tryz.prog Q enOps t0 (Below W.heap.size W) (enG W) (enV c ps qs wv b bt bz W) 32 ({ dst := some 86, op := Op.load 3 (Operand.tmp 85), type := 3, pos := "codec.go:61", after := #[{ on := 31, ground := Ground.data }], guard := none }) := by
 refine step_val rfl rfl (fun a w hI hf hb => ⟨.int .i64 c.z.s, ?_, rfl⟩) (fun w => enG_refl _ _ _)
 have e85 : a.tmps[85]?.getD undef = .pointer (some ⟨bz, 1, none⟩) := (Array.getD_eq_getD_getElem? ..).symm.trans (hb 31 (by kernel_rfl))
 have x := (hz.below hI hz.lt).cell (i := 1) (v := .int .i64 c.z.s) rfl
 clear hf hb
 go_simp
theorem en_34 (h7 : t0.getD 7 undef = .pointer (some ⟨bz, 0, none⟩)) : StepOk Tryz.prog Q enOps t0 (Below W.heap.size W) (enG W) (enV c ps qs wv b bt bz W) 34 ({ dst := some 88, op := Op.fieldAddr 28 (Operand.tmp 7) 2, type := 0, pos := "codec.go:61", after := #[], guard := none }) := by
 refine step_val rfl rfl (fun a w hI hf hb => ⟨.pointer (some ⟨bz, 2, none⟩), ?_, rfl⟩) (fun w => enG_refl _ _ _)
 have e7 : a.tmps[7]?.getD undef = .pointer (some ⟨bz, 0, none⟩) := (Array.getD_eq_getD_getElem? ..).symm.trans ((hf 7 (by kernel_rfl)).trans h7)
 clear hf hb
 go_simp
theorem en_38 (h7 : t0.getD 7 undef = .pointer (some ⟨bz, 0, none⟩)) : StepOk Tryz.prog Q enOps t0 (Below W.heap.size W) (enG W) (enV c ps qs wv b bt bz W) 38 ({ dst := some 92, op := Op.fieldAddr 28 (Operand.tmp 7) 3, type := 0, pos := "codec.go:61", after := #[], guard := none }) := by
 refine step_val rfl rfl (fun a w hI hf hb => ⟨.pointer (some ⟨bz, 6, none⟩), ?_, rfl⟩) (fun w => enG_refl _ _ _)
 have e7 : a.tmps[7]?.getD undef = .pointer (some ⟨bz, 0, none⟩) := (Array.getD_eq_getD_getElem? ..).symm.trans ((hf 7 (by kernel_rfl)).trans h7)
 clear hf hb
 go_simp
theorem en_42 (h1 : t0.getD 1 undef = .pointer (some ⟨b, 0, none⟩)) : StepOk Tryz.prog Q enOps t0 (Below W.heap.size W) (enG W) (enV c ps qs wv b bt bz W) 42 ({ dst := some 96, op := Op.fieldAddr 33 (Operand.tmp 1) 8, type := 0, pos := "codec.go:61", after := #[], guard := none }) := by
 refine step_val rfl rfl (fun a w hI hf hb => ⟨.pointer (some ⟨b, 23, none⟩), ?_, rfl⟩) (fun w => enG_refl _ _ _)
 have e1 : a.tmps[1]?.getD undef = .pointer (some ⟨b, 0, none⟩) := (Array.getD_eq_getD_getElem? ..).symm.trans ((hf 1 (by kernel_rfl)).trans h1)
 clear hf hb
 go_simp
theorem en_44 (h8 : t0.getD 8 undef = wv) : StepOk Tryz.prog Q enOps t0 (Below W.heap.size W) (enG W) (enV c ps qs wv b bt bz W) 44 ({ dst := some 98, op := Op.move (Operand.tmp 8), type := 22, pos := "codec.go:61", after := #[], guard := none }) := by
 refine step_val rfl rfl (fun a w hI hf hb => ⟨wv, ?_, rfl⟩) (fun w => enG_refl _ _ _)
 have e8 : a.tmps[8]?.getD undef = wv := (Array.getD_eq_getD_getElem? ..).symm.trans ((hf 8 (by kernel_rfl)).trans h8)
 clear hf hb
 go_simp
theorem en_47  : StepOk Tryz.prog Q enOps t0 (Below W.heap.size W) (enG W) (enV c ps qs wv b bt bz W) 47 ({ dst := some 101, op := Op.move (Operand.const (Value.int IntKind.i64 0)), type := 3, pos := "codec.go:61", after := #[], guard := none }) := by
 refine step_val rfl rfl (fun a w hI hf hb => ⟨.int .i64 0, ?_, rfl⟩) (fun w => enG_refl _ _ _)
 clear hf hb
 go_simp
set_option maxRecDepth 100000 in
theorem en_11  : StepOk Tryz.prog Q enOps t0 (Below W.heap.size W) (enG W) (enV c ps qs wv b bt bz W) 11 ({ dst := some 65, op := Op.buildSlice 22 6 #[(0, Operand.tmp 55), (1, Operand.tmp 57), (2, Operand.tmp 59), (3, Operand.tmp 61), (4, Operand.tmp 63), (5, Operand.tmp 64)], type := 22, pos := "codec.go:61", after := #[{ on := 1, ground := Ground.data }, { on := 3, ground := Ground.data }, { on := 5, ground := Ground.data }, { on := 7, ground := Ground.data }, { on := 9, ground := Ground.data }, { on := 10, ground := Ground.data }], guard := none }) := by
 refine step_plain rfl fun a w hI hf hb => ?_
 have e55 : a.tmps[55]?.getD undef = .int .i64 c.fl := (Array.getD_eq_getD_getElem? ..).symm.trans (hb 1 (by kernel_rfl))
 have e57 : a.tmps[57]?.getD undef = .int .i64 c.ca := (Array.getD_eq_getD_getElem? ..).symm.trans (hb 3 (by kernel_rfl))
 have e59 : a.tmps[59]?.getD undef = .int .i64 c.pk := (Array.getD_eq_getD_getElem? ..).symm.trans (hb 5 (by kernel_rfl))
 have e61 : a.tmps[61]?.getD undef = .int .i64 c.rs := (Array.getD_eq_getD_getElem? ..).symm.trans (hb 7 (by kernel_rfl))
 have e63 : a.tmps[63]?.getD undef = .int .i64 c.pa := (Array.getD_eq_getD_getElem? ..).symm.trans (hb 9 (by kernel_rfl))
 have e64 : a.tmps[64]?.getD undef = .int .i64 (abI c.ab) := (Array.getD_eq_getD_getElem? ..).symm.trans (hb 10 (by kernel_rfl))
 clear hf hb
 unfold Oper.wp
 go_simp
 refine ⟨_, rfl, ?_, hI.alloc hI.size _, ?_⟩
 ·have hown : OwnI W (w.alloc (.cells #[.int .i64 c.fl, .int .i64 c.ca, .int .i64 c.pk, .int .i64 c.rs, .int .i64 c.pa, .int .i64 (abI c.ab)] 3)) (.slice (some ⟨w.heap.size, 0, none⟩) 6 6) (row1 c) := own_block 6 W.heap.size (cs := ((row1 c)).map (.int .i64)) (BlockIs.new w _ _) rfl hI.size (by omega)
  exact hown
 ·exact (Below.refl _ w).alloc (Nat.le_refl _) _
set_option maxRecDepth 100000 in
theorem en_28  : StepOk Tryz.prog Q enOps t0 (Below W.heap.size W) (enG W) (enV c ps qs wv b bt bz W) 28 ({ dst := some 82, op := Op.buildSlice 22 7 #[(0, Operand.tmp 69), (1, Operand.tmp 71), (2, Operand.tmp 73), (3, Operand.tmp 75), (4, Operand.tmp 77), (5, Operand.tmp 79), (6, Operand.tmp 81)], type := 22, pos := "codec.go:61", after := #[{ on := 15, ground := Ground.data }, { on := 17, ground := Ground.data }, { on := 19, ground := Ground.data }, { on := 21, ground := Ground.data }, { on := 23, ground := Ground.data }, { on := 25, ground := Ground.data }, { on := 27, ground := Ground.data }], guard := none }) := by
 refine step_plain rfl fun a w hI hf hb => ?_
 have e69 : a.tmps[69]?.getD undef = .int .i64 c.tv := (Array.getD_eq_getD_getElem? ..).symm.trans (hb 15 (by kernel_rfl))
 have e71 : a.tmps[71]?.getD undef = .int .i64 c.lv := (Array.getD_eq_getD_getElem? ..).symm.trans (hb 17 (by kernel_rfl))
 have e73 : a.tmps[73]?.getD undef = .int .i64 c.op := (Array.getD_eq_getD_getElem? ..).symm.trans (hb 19 (by kernel_rfl))
 have e75 : a.tmps[75]?.getD undef = .int .i64 c.dw := (Array.getD_eq_getD_getElem? ..).symm.trans (hb 21 (by kernel_rfl))
 have e77 : a.tmps[77]?.getD undef = .int .i64 c.ld := (Array.getD_eq_getD_getElem? ..).symm.trans (hb 23 (by kernel_rfl))
 have e79 : a.tmps[79]?.getD undef = .int .i64 c.cl := (Array.getD_eq_getD_getElem? ..).symm.trans (hb 25 (by kernel_rfl))
 have e81 : a.tmps[81]?.getD undef = .int .i64 c.ho := (Array.getD_eq_getD_getElem? ..).symm.trans (hb 27 (by kernel_rfl))
 clear hf hb
 unfold Oper.wp
 go_simp
 refine ⟨_, rfl, ?_, hI.alloc hI.size _, ?_⟩
 ·have hown : OwnI W (w.alloc (.cells #[.int .i64 c.tv, .int .i64 c.lv, .int .i64 c.op, .int .i64 c.dw, .int .i64 c.ld, .int .i64 c.cl, .int .i64 c.ho] 3)) (.slice (some ⟨w.heap.size, 0, none⟩) 7 7) (row3 c) := own_block 7 W.heap.size (cs := ((row3 c)).map (.int .i64)) (BlockIs.new w _ _) rfl hI.size (by omega)
  exact ⟨hown, _, rfl⟩
 ·exact (Below.refl _ w).alloc (Nat.le_refl _) _
set_option maxRecDepth 100000 in
theorem en_33  : StepOk Tryz.prog Q enOps t0 (Below W.heap.size W) (enG W) (enV c ps qs wv b bt bz W) 33 ({ dst := some 87, op := Op.buildSlice 22 2 #[(0, Operand.tmp 84), (1, Operand.tmp 86)], type := 22, pos := "codec.go:61", after := #[{ on := 30, ground := Ground.data }, { on := 32, ground := Ground.data }], guard := none }) := by
 refine step_plain rfl fun a w hI hf hb => ?_
 have e84 : a.tmps[84]?.getD undef = .int .i64 c.z.b := (Array.getD_eq_getD_getElem? ..).symm.trans (hb 30 (by kernel_rfl))
 have e86 : a.tmps[86]?.getD undef = .int .i64 c.z.s := (Array.getD_eq_getD_getElem? ..).symm.trans (hb 32 (by kernel_rfl))
 clear hf hb
 unfold Oper.wp
 go_simp
 refine ⟨_, rfl, ?_, hI.alloc hI.size _, ?_⟩
 ·have hown : OwnI W (w.alloc (.cells #[.int .i64 c.z.b, .int .i64 c.z.s] 3)) (.slice (some ⟨w.heap.size, 0, none⟩) 2 2) [c.z.b, c.z.s] := own_block 2 W.heap.size (cs := ([c.z.b, c.z.s]).map (.int .i64)) (BlockIs.new w _ _) rfl hI.size (by omega)
  exact ⟨hown, _, rfl⟩
 ·exact (Below.refl _ w).alloc (Nat.le_refl _) _
set_option maxRecDepth 100000 in
theorem en_35 (hz : BlockIs W bz (zoneA c.z) 28) : StepOk Tryz.prog Q enOps t0 (Below W.heap.size W) (enG W) (enV c ps qs wv b bt bz W) 35 ({ dst := some 89, op := Op.load 26 (Operand.tmp 88), type := 26, pos := "codec.go:61", after := #[{ on := 34, ground := Ground.data }], guard := none }) := by
 refine step_val rfl rfl (fun a w hI hf hb => ⟨.agg (turnA c.z.m c.z.k c.z.d c.z.t), ?_, rfl⟩) (fun w => enG_refl _ _ _)
 have e88 : a.tmps[88]?.getD undef = .pointer (some ⟨bz, 2, none⟩) := (Array.getD_eq_getD_getElem? ..).symm.trans (hb 34 (by kernel_rfl))
 have hx : a.eval (.tmp 88) = .pointer (some ⟨bz, 2, none⟩) := (Array.getD_eq_getD_getElem? ..).trans e88
 exact load_turn_x (.tmp 88) c.z.m c.z.k c.z.d c.z.t bz 2 rfl hx w (by have := block_sub (hz.below hI hz.lt) 2 4; exact this)
set_option maxRecDepth 100000 in
theorem en_39 (hz : BlockIs W bz (zoneA c.z) 28) : StepOk Tryz.prog Q enOps t0 (Below W.heap.size W) (enG W) (enV c ps qs wv b bt bz W) 39 ({ dst := some 93, op := Op.load 26 (Operand.tmp 92), type := 26, pos := "codec.go:61", after := #[{ on := 38, ground := Ground.data }], guard := none }) := by
 refine step_val rfl rfl (fun a w hI hf hb => ⟨.agg (turnA c.z.m' c.z.k' c.z.d' c.z.t'), ?_, rfl⟩) (fun w => enG_refl _ _ _)
 have e92 : a.tmps[92]?.getD undef = .pointer (some ⟨bz, 6, none⟩) := (Array.getD_eq_getD_getElem? ..).symm.trans (hb 38 (by kernel_rfl))
 have hx : a.eval (.tmp 92) = .pointer (some ⟨bz, 6, none⟩) := (Array.getD_eq_getD_getElem? ..).trans e92
 exact load_turn_x (.tmp 92) c.z.m' c.z.k' c.z.d' c.z.t' bz 6 rfl hx w (by have := block_sub (hz.below hI hz.lt) 6 4; exact this)
set_option maxRecDepth 100000 in
theorem en_36  : StepOk Tryz.prog Q enOps t0 (Below W.heap.size W) (enG W) (enV c ps qs wv b bt bz W) 36 ({ dst := some 90, op := Op.call { callee := Callee.value (Operand.func 37), args := #[Operand.tmp 89], argTypes := #[26] }, type := 22, pos := "codec.go:65", after := #[{ on := 35, ground := Ground.data }], guard := none }) := by
 refine step_plain rfl fun a w hI hf hb => ?_
 have e89 : a.tmps[89]?.getD undef = .agg (turnA c.z.m c.z.k c.z.d c.z.t) := (Array.getD_eq_getD_getElem? ..).symm.trans (hb 35 (by kernel_rfl))
 clear hf hb
 unfold Oper.wp
 go_simp
 refine (cturn_ok c.z.m c.z.k c.z.d c.z.t w).mono ?_; rintro e w2 ⟨rfl, hw2⟩
 have hb2 : Below w.heap.size w w2 := by rw [hw2]; exact ((Below.refl _ w).alloc (Nat.le_refl _) _).alloc (by simp) _
 have hk2 : BlockIs w2 (w.heap.size + 1) #[.int .i64 c.z.m, .int .i64 c.z.k, .int .i64 c.z.d, .int .i64 c.z.t] 3 := by rw [hw2]; have := BlockIs.new (w.alloc (.cells #[.int .i64 c.z.m, .int .i64 c.z.k, .int .i64 c.z.d, .int .i64 c.z.t] 26)) #[.int .i64 c.z.m, .int .i64 c.z.k, .int .i64 c.z.d, .int .i64 c.z.t] 3; simpa using this
 refine ⟨_, rfl, ⟨?_, _, rfl⟩, hI.trans (hb2.mono hI.size), hb2⟩
 have hown : OwnI W w2 (.slice (some ⟨w.heap.size + 1, 0, none⟩) 4 4) [c.z.m, c.z.k, c.z.d, c.z.t] := own_block 4 W.heap.size (cs := [c.z.m, c.z.k, c.z.d, c.z.t].map (.int .i64)) hk2 rfl (by have := hI.size; omega) (by omega)
 exact hown
set_option maxRecDepth 100000 in
theorem en_40  : StepOk Tryz.prog Q enOps t0 (Below W.heap.size W) (enG W) (enV c ps qs wv b bt bz W) 40 ({ dst := some 94, op := Op.call { callee := Callee.value (Operand.func 37), args := #[Operand.tmp 93], argTypes := #[26] }, type := 22, pos := "codec.go:65", after := #[{ on := 39, ground := Ground.data }, { on := 37, ground := Ground.chain }], guard := none }) := by
 refine step_plain rfl fun a w hI hf hb => ?_
 have e93 : a.tmps[93]?.getD undef = .agg (turnA c.z.m' c.z.k' c.z.d' c.z.t') := (Array.getD_eq_getD_getElem? ..).symm.trans (hb 39 (by kernel_rfl))
 clear hf hb
 unfold Oper.wp
 go_simp
 refine (cturn_ok c.z.m' c.z.k' c.z.d' c.z.t' w).mono ?_; rintro e w2 ⟨rfl, hw2⟩
 have hb2 : Below w.heap.size w w2 := by rw [hw2]; exact ((Below.refl _ w).alloc (Nat.le_refl _) _).alloc (by simp) _
 have hk2 : BlockIs w2 (w.heap.size + 1) #[.int .i64 c.z.m', .int .i64 c.z.k', .int .i64 c.z.d', .int .i64 c.z.t'] 3 := by rw [hw2]; have := BlockIs.new (w.alloc (.cells #[.int .i64 c.z.m', .int .i64 c.z.k', .int .i64 c.z.d', .int .i64 c.z.t'] 26)) #[.int .i64 c.z.m', .int .i64 c.z.k', .int .i64 c.z.d', .int .i64 c.z.t'] 3; simpa using this
 refine ⟨_, rfl, ⟨?_, _, rfl⟩, hI.trans (hb2.mono hI.size), hb2⟩
 have hown : OwnI W w2 (.slice (some ⟨w.heap.size + 1, 0, none⟩) 4 4) [c.z.m', c.z.k', c.z.d', c.z.t'] := own_block 4 W.heap.size (cs := [c.z.m', c.z.k', c.z.d', c.z.t'].map (.int .i64)) hk2 rfl (by have := hI.size; omega) (by omega)
 exact hown
theorem en_43  : StepOk Tryz.prog Q enOps t0 (Below W.heap.size W) (enG W) (enV c ps qs wv b bt bz W) 43 ({ dst := some 97, op := Op.slice 30 (Operand.tmp 96) none none none, type := 22, pos := "codec.go:61", after := #[{ on := 42, ground := Ground.data }], guard := none }) := by
 refine step_val rfl rfl (fun a w hI hf hb => ⟨.slice (some ⟨b, 23, none⟩) 12 12, ?_, rfl⟩) (fun w => enG_refl _ _ _)
 have e96 : a.tmps[96]?.getD undef = .pointer (some ⟨b, 23, none⟩) := (Array.getD_eq_getD_getElem? ..).symm.trans (hb 42 (by kernel_rfl))
 clear hf hb
 go_simp
set_option maxRecDepth 100000 in
theorem en_37  : StepOk Tryz.prog Q enOps t0 (Below W.heap.size W) (enG W) (enV c ps qs wv b bt bz W) 37 ({ dst := some 91, op := Op.call { callee := Callee.builtin Builtin.append, args := #[Operand.tmp 87, Operand.tmp 90], argTypes := #[22, 22] }, type := 22, pos := "codec.go:61", after := #[{ on := 33, ground := Ground.data }, { on := 36, ground := Ground.data }, { on := 36, ground := Ground.chain }], guard := none }) := by
 obtain ⟨i0, hi0, hz0, hz1, hz2⟩ := info_hid int_info0
 refine step_plain rfl fun a w hI hf hb => ?_
 have f87 : OwnI W w (a.tmps[87]?.getD undef) [c.z.b, c.z.s] ∧ ∃ g, (a.tmps[87]?.getD undef) = .slice (some ⟨g, 0, none⟩) 2 2 := by have := hb 33 (by kernel_rfl); rw [show slotAt enOps a 33 = a.tmps[87]?.getD undef from Array.getD_eq_getD_getElem? ..] at this; exact this
 obtain ⟨ho, g, hg⟩ := f87
 have hcap : ¬ 2 + 4 ≤ 2 := by omega
 obtain ⟨cap, hcp⟩ : ∃ cap, cap = 2 := ⟨_, rfl⟩
 rw [hg] at ho
 have f90 : OwnI W w (a.tmps[90]?.getD undef) [c.z.m, c.z.k, c.z.d, c.z.t] ∧ ∃ g, (a.tmps[90]?.getD undef) = .slice (some ⟨g, 0, none⟩) 4 4 := by have := hb 36 (by kernel_rfl); rw [show slotAt enOps a 36 = a.tmps[90]?.getD undef from Array.getD_eq_getD_getElem? ..] at this; exact this
 obtain ⟨ho2, g2, hg2⟩ := f90
 rw [hg2] at ho2
 have hs : a.eval (.tmp 87) = .slice (some ⟨g, 0, none⟩) 2 2 := (Array.getD_eq_getD_getElem? ..).trans hg
 have hx : a.eval (.tmp 90) = .slice (some ⟨g2, 0, none⟩) 4 4 := (Array.getD_eq_getD_getElem? ..).trans hg2
 clear hf hb
 refine app_int (.tmp 87) (.tmp 90) 22 rfl W.heap.size 3 i0 (.int .i64 0) 8 Tryz.underlying22 (hi0 ()) hz0 hz1 hz2 rfl g 2 2 _ hs ho ⟨g2, 0, none⟩ 4 4 _ hx rfl (World.ownsRow.cells ho2 (g := g2) rfl) (int_one _ _) (by unfold maxLen; omega) (by omega) hI.size ?_
 intro v2 w2 hown hor
 rcases hor with ⟨_, hb2⟩ | ⟨hc2, _⟩
 ·exact ⟨v2, rfl, hown, hI.trans (hb2.mono hI.size), hb2⟩
 ·omega
set_option maxRecDepth 100000 in
theorem en_41  : StepOk Tryz.prog Q enOps t0 (Below W.heap.size W) (enG W) (enV c ps qs wv b bt bz W) 41 ({ dst := some 95, op := Op.call { callee := Callee.builtin Builtin.append, args := #[Operand.tmp 91, Operand.tmp 94], argTypes := #[22, 22] }, type := 22, pos := "codec.go:61", after := #[{ on := 37, ground := Ground.data }, { on := 40, ground := Ground.data }, { on := 40, ground := Ground.chain }], guard := none }) := by
 obtain ⟨i0, hi0, hz0, hz1, hz2⟩ := info_hid int_info0
 refine step_plain rfl fun a w hI hf hb => ?_
 have f91 : OwnI W w (a.tmps[91]?.getD undef) [c.z.b, c.z.s, c.z.m, c.z.k, c.z.d, c.z.t] := by have := hb 37 (by kernel_rfl); rw [show slotAt enOps a 37 = a.tmps[91]?.getD undef from Array.getD_eq_getD_getElem? ..] at this; exact this
 have ho := f91
 obtain ⟨g, cap, hg, _, _⟩ := World.ownsRow.form ho (by simp)
 rw [hg] at ho
 have f94 : OwnI W w (a.tmps[94]?.getD undef) [c.z.m', c.z.k', c.z.d', c.z.t'] ∧ ∃ g, (a.tmps[94]?.getD undef) = .slice (some ⟨g, 0, none⟩) 4 4 := by have := hb 40 (by kernel_rfl); rw [show slotAt enOps a 40 = a.tmps[94]?.getD undef from Array.getD_eq_getD_getElem? ..] at this; exact this
 obtain ⟨ho2, g2, hg2⟩ := f94
 rw [hg2] at ho2
 have hs : a.eval (.tmp 91) = .slice (some ⟨g, 0, none⟩) 6 cap := (Array.getD_eq_getD_getElem? ..).trans hg
 have hx : a.eval (.tmp 94) = .slice (some ⟨g2, 0, none⟩) 4 4 := (Array.getD_eq_getD_getElem? ..).trans hg2
 clear hf hb
 refine app_int (.tmp 91) (.tmp 94) 22 rfl W.heap.size 3 i0 (.int .i64 0) 8 Tryz.underlying22 (hi0 ()) hz0 hz1 hz2 rfl g 6 cap _ hs ho ⟨g2, 0, none⟩ 4 4 _ hx rfl (World.ownsRow.cells ho2 (g := g2) rfl) (int_one _ _) (by unfold maxLen; omega) (by omega) hI.size ?_
 intro v2 w2 hown hor
 rcases hor with ⟨_, hb2⟩ | ⟨hc2, hv2, hg3⟩
 ·refine ⟨v2, rfl, hown, hI.trans (hb2.mono hI.size), ?_⟩
  unfold enG
  rw [if_pos rfl]
  exact ⟨hb2.size, fun v n xs _ h => own_below h hb2⟩
 ·refine ⟨v2, rfl, hown, hI.grown hg3 hI.size (fun k e => by have := ho.lt k (by rw [← e]; rfl); omega), ?_⟩
  rw [hv2] at hown
  exact enG_in ho hc2 hown hg3
set_option maxRecDepth 100000 in
theorem en_45 (h8 : t0.getD 8 undef = wv) (hwv : ∃ p n q, wv = .slice p n q) : StepOk Tryz.prog Q enOps t0 (Below W.heap.size W) (enG W) (enV c ps qs wv b bt bz W) 45 ({ dst := some 99, op := Op.buildSlice 106 6 #[(0, Operand.tmp 65), (1, Operand.tmp 67), (2, Operand.tmp 82), (3, Operand.tmp 95), (4, Operand.tmp 97), (5, Operand.tmp 98)], type := 106, pos := "codec.go:61", after := #[{ on := 11, ground := Ground.data }, { on := 13, ground := Ground.data }, { on := 28, ground := Ground.data }, { on := 41, ground := Ground.data }, { on := 43, ground := Ground.data }, { on := 44, ground := Ground.data }], guard := none }) := by
 refine step_plain rfl fun a w hI hf hb => ?_
 have f65 : OwnI W w (a.tmps[65]?.getD undef) (row1 c) := by have := hb 11 (by kernel_rfl); rw [show slotAt enOps a 11 = a.tmps[65]?.getD undef from Array.getD_eq_getD_getElem? ..] at this; exact this
 have f82 : OwnI W w (a.tmps[82]?.getD undef) (row3 c) ∧ ∃ g, (a.tmps[82]?.getD undef) = .slice (some ⟨g, 0, none⟩) 7 7 := by have := hb 28 (by kernel_rfl); rw [show slotAt enOps a 28 = a.tmps[82]?.getD undef from Array.getD_eq_getD_getElem? ..] at this; exact this
 have f95 : OwnI W w (a.tmps[95]?.getD undef) (row4 c) := by have := hb 41 (by kernel_rfl); rw [show slotAt enOps a 41 = a.tmps[95]?.getD undef from Array.getD_eq_getD_getElem? ..] at this; exact this
 have e67 : a.tmps[67]?.getD undef = .slice ps c.st.length qs := (Array.getD_eq_getD_getElem? ..).symm.trans (hb 13 (by kernel_rfl))
 have e97 : a.tmps[97]?.getD undef = .slice (some ⟨b, 23, none⟩) 12 12 := (Array.getD_eq_getD_getElem? ..).symm.trans (hb 43 (by kernel_rfl))
 have e98 : a.tmps[98]?.getD undef = wv := (Array.getD_eq_getD_getElem? ..).symm.trans (hb 44 (by kernel_rfl))
 obtain ⟨f82, g82, e82⟩ := f82
 rw [e82] at f82
 obtain ⟨p0, q0, e65⟩ := (own_rd f65).form
 obtain ⟨p3, q3, e95⟩ := (own_rd f95).form
 rw [e65] at f65
 rw [e95] at f95
 obtain ⟨pw, nw, qw, rfl⟩ := hwv
 clear hf hb
 unfold Oper.wp
 go_simp
 refine ⟨_, rfl, ?_, hI.alloc hI.size _, ?_⟩
 ·exact ⟨_, _, _, _, rfl, hI.size, BlockIs.new w _ _, f65.alloc _, f82.alloc _, f95.alloc _⟩
 ·exact (Below.refl _ w).alloc (Nat.le_refl _) _
set_option maxRecDepth 100000 in
theorem en_46  : StepOk Tryz.prog Q enOps t0 (Below W.heap.size W) (enG W) (enV c ps qs wv b bt bz W) 46 ({ dst := some 100, op := Op.call { callee := Callee.builtin Builtin.len, args := #[Operand.tmp 99], argTypes := #[106] }, type := 3, pos := "codec.go:61", after := #[{ on := 45, ground := Ground.data }], guard := none }) := by
 refine step_val rfl rfl (fun a w hI hf hb => ⟨.int .i64 6, ?_, rfl⟩) (fun w => enG_refl _ _ _)
 have f99 : ∃ g v0 v2 v3, (a.tmps[99]?.getD undef) = .slice (some ⟨g, 0, none⟩) 6 6 ∧ W.heap.size ≤ g ∧ BlockIs w g #[v0, .slice ps c.st.length qs, v2, v3, .slice (some ⟨b, 23, none⟩) 12 12, wv] 22 ∧ OwnI W w v0 (row1 c) ∧ OwnI W w v2 (row3 c) ∧ OwnI W w v3 (row4 c) := by have := hb 45 (by kernel_rfl); rw [show slotAt enOps a 45 = a.tmps[99]?.getD undef from Array.getD_eq_getD_getElem? ..] at this; exact this
 obtain ⟨g, v0, v2, v3, e99, _⟩ := f99
 clear hf hb
 go_simp
theorem en_keep : ∀ i j w w' v, j ≠ i → befAt enOps j i = false → enV c ps qs wv b bt bz W j w v → Below W.heap.size W w → enG W i w w' → enV c ps qs wv b bt bz W j w' v := by
 intro i j w w' v hne hbf hv hI hG
 unfold enG at hG
 by_cases e : i = 41
 ·rw [if_pos e] at hG
  subst e
  match j, hne, hbf, hv with
  | 0, _, _, hv => exact hv
  | 1, _, _, hv => exact hv
  | 2, _, _, hv => exact hv
  | 3, _, _, hv => exact hv
  | 4, _, _, hv => exact hv
  | 5, _, _, hv => exact hv
  | 6, _, _, hv => exact hv
  | 7, _, _, hv => exact hv
  | 8, _, _, hv => exact hv
  | 9, _, _, hv => exact hv
  | 10, _, _, hv => exact hv
  | 11, _, _, hv => exact hG.2 _ _ _ (.inl (by show (row1 c).length ≤ 6; simp [row1])) hv
  | 12, _, _, hv => exact hv
  | 13, _, _, hv => exact hv
  | 14, _, _, hv => exact hv
  | 15, _, _, hv => exact hv
  | 16, _, _, hv => exact hv
  | 17, _, _, hv => exact hv
  | 18, _, _, hv => exact hv
  | 19, _, _, hv => exact hv
  | 20, _, _, hv => exact hv
  | 21, _, _, hv => exact hv
  | 22, _, _, hv => exact hv
  | 23, _, _, hv => exact hv
  | 24, _, _, hv => exact hv
  | 25, _, _, hv => exact hv
  | 26, _, _, hv => exact hv
  | 27, _, _, hv => exact hv
  | 28, _, _, hv => exact ⟨hG.2 _ _ _ (.inr hv.2) hv.1, hv.2⟩
  | 29, _, _, hv => exact hv
  | 30, _, _, hv => exact hv
  | 31, _, _, hv => exact hv
  | 32, _, _, hv => exact hv
  | 33, _, _, hv => exact ⟨hG.2 _ _ _ (.inl (by simp)) hv.1, hv.2⟩
  | 34, _, _, hv => exact hv
  | 35, _, _, hv => exact hv
  | 36, _, _, hv => exact ⟨hG.2 _ _ _ (.inl (by simp)) hv.1, hv.2⟩
  | 37, _, _, hv => exact hG.2 _ _ _ (.inl (by simp)) hv
  | 38, _, _, hv => exact hv
  | 39, _, _, hv => exact hv
  | 40, _, _, hv => exact ⟨hG.2 _ _ _ (.inl (by simp)) hv.1, hv.2⟩
  | 41, hne, _, _ => exact absurd rfl hne
  | 42, _, _, hv => exact hv
  | 43, _, _, hv => exact hv
  | 44, _, _, hv => exact hv
  | 45, _, hbf, _ => exact absurd hbf (by rw [show befAt enOps 45 41 = true by kernel_rfl]; simp)
  | 46, _, _, hv => exact hv
  | 47, _, _, hv => exact hv
  | n + 48, _, _, hv => exact hv.elim
 ·rw [if_neg e] at hG
  match j, hv with
  | 0, hv => exact hv
  | 1, hv => exact hv
  | 2, hv => exact hv
  | 3, hv => exact hv
  | 4, hv => exact hv
  | 5, hv => exact hv
  | 6, hv => exact hv
  | 7, hv => exact hv
  | 8, hv => exact hv
  | 9, hv => exact hv
  | 10, hv => exact hv
  | 11, hv => exact own_below hv hG
  | 12, hv => exact hv
  | 13, hv => exact hv
  | 14, hv => exact hv
  | 15, hv => exact hv
  | 16, hv => exact hv
  | 17, hv => exact hv
  | 18, hv => exact hv
  | 19, hv => exact hv
  | 20, hv => exact hv
  | 21, hv => exact hv
  | 22, hv => exact hv
  | 23, hv => exact hv
  | 24, hv => exact hv
  | 25, hv => exact hv
  | 26, hv => exact hv
  | 27, hv => exact hv
  | 28, hv => exact ⟨own_below hv.1 hG, hv.2⟩
  | 29, hv => exact hv
  | 30, hv => exact hv
  | 31, hv => exact hv
  | 32, hv => exact hv
  | 33, hv => exact ⟨own_below hv.1 hG, hv.2⟩
  | 34, hv => exact hv
  | 35, hv => exact hv
  | 36, hv => exact ⟨own_below hv.1 hG, hv.2⟩
  | 37, hv => exact own_below hv hG
  | 38, hv => exact hv
  | 39, hv => exact hv
  | 40, hv => exact ⟨own_below hv.1 hG, hv.2⟩
  | 41, hv => exact own_below hv hG
  | 42, hv => exact hv
  | 43, hv => exact hv
  | 44, hv => exact hv
  | 45, hv => obtain ⟨g, v0, v2, v3, e, hg, hb, o0, o2, o3⟩ := hv; exact ⟨g, v0, v2, v3, e, hg, hb.kept hG, own_below o0 hG, own_below o2 hG, own_below o3 hG⟩
  | 46, hv => exact hv
  | 47, hv => exact hv
  | n + 48, hv => exact hv.elim
def enMask : List (Option Nat) := [none, none, none, none, none, none, none, none, none, none, none, none, none, none, none, none, none, none, none, none, none, none, none, none, none, none, none, none, none, none, none, none, none, none, none, none, none, none, none, none, none, none, none, none, none, none, none, none, none, none, none, none, none, none, some 54, some 55, some 56, some 57, some 58, some 59, some 60, some 61, some 62, some 63, some 64, some 65, some 66, some 67, some 68, some 69, some 70, some 71, some 72, some 73, some 74, some 75, some 76, some 77, some 78, some 79, some 80, some 81, some 82, some 83, some 84, some 85, some 86, some 87, some 88, some 89, some 90, some 91, some 92, some 93, some 94, some 95, some 96, some 97, some 98, some 99, some 100, some 101, none, none, none, none, none, none, none, none, none, none]
theorem en_region {t0 : List Value} {ds : List Deferred} (vw : Value) (hlen : t0.length = 112) (h1 : t0.toArray.getD 1 undef = .pointer (some ⟨b, 0, none⟩)) (h5 : t0.toArray.getD 5 undef = .int .i64 (abI c.ab)) (h6 : t0.toArray.getD 6 undef = .pointer (some ⟨bt, 0, none⟩)) (h7 : t0.toArray.getD 7 undef = .pointer (some ⟨bz, 0, none⟩)) (h8 : t0.toArray.getD 8 undef = wv)
  (hc : BlockIs W b (cfgA c (.slice ps c.st.length qs) vw) 33) (ht : BlockIs W bt (timesA c) 24) (hz : BlockIs W bz (zoneA c.z) 28) (hwv : ∃ p n q, wv = .slice p n q)
  (hend : ∀ (u : Nat → Value) w, Below W.heap.size W w → enV c ps qs wv b bt bz W 45 w (u 99) → u 100 = .int .i64 6 → u 101 = .int .i64 0 → Q .normal ⟨(fillL enMask t0 u).toArray, ds⟩ w) :
  wpAny Tryz.prog .any enOps Q enOps.size (Array.replicate enOps.size false) ⟨t0.toArray, ds⟩ W := by
 refine wpAny_facts (Below W.heap.size W) (enG W) (enV c ps qs wv b bt bz W) enMask (by kernel_rfl) (by kernel_rfl) (by rw [hlen]; kernel_rfl) (by rw [hlen]; kernel_rfl) (Below.refl _ _) (fun i w _ => enG_refl _ _ _) (en_keep c ps qs wv b bt bz W) ?_ ?_
 ·intro u w hI hV
  exact hend u w hI (hV 45 (by decide)) (hV 46 (by decide)) (hV 47 (by decide))
 ·show StepsOk _ _ _ _ _ _ _ [{ dst := some 54, op := Op.fieldAddr 33 (Operand.tmp 1) 0, type := 0, pos := "codec.go:61", after := #[], guard := none }, { dst := some 55, op := Op.load 3 (Operand.tmp 54), type := 3, pos := "codec.go:61", after := #[{ on := 0, ground := Ground.data }], guard := none }, { dst := some 56, op := Op.fieldAddr 33 (Operand.tmp 1) 1, type := 0, pos := "codec.go:61", after := #[], guard := none }, { dst := some 57, op := Op.load 3 (Operand.tmp 56), type := 3, pos := "codec.go:61", after := #[{ on := 2, ground := Ground.data }], guard := none }, { dst := some 58, op := Op.fieldAddr 33 (Operand.tmp 1) 2, type := 0, pos := "codec.go:61", after := #[], guard := none }, { dst := some 59, op := Op.load 3 (Operand.tmp 58), type := 3, pos := "codec.go:61", after := #[{ on := 4, ground := Ground.data }], guard := none }, { dst := some 60, op := Op.fieldAddr 33 (Operand.tmp 1) 5, type := 0, pos := "codec.go:61", after := #[], guard := none }, { dst := some 61, op := Op.load 3 (Operand.tmp 60), type := 3, pos := "codec.go:61", after := #[{ on := 6, ground := Ground.data }], guard := none }, { dst := some 62, op := Op.fieldAddr 33 (Operand.tmp 1) 6, type := 0, pos := "codec.go:61", after := #[], guard := none }, { dst := some 63, op := Op.load 3 (Operand.tmp 62), type := 3, pos := "codec.go:61", after := #[{ on := 8, ground := Ground.data }], guard := none }, { dst := some 64, op := Op.move (Operand.tmp 5), type := 3, pos := "codec.go:61", after := #[], guard := none }, { dst := some 65, op := Op.buildSlice 22 6 #[(0, Operand.tmp 55), (1, Operand.tmp 57), (2, Operand.tmp 59), (3, Operand.tmp 61), (4, Operand.tmp 63), (5, Operand.tmp 64)], type := 22, pos := "codec.go:61", after := #[{ on := 1, ground := Ground.data }, { on := 3, ground := Ground.data }, { on := 5, ground := Ground.data }, { on := 7, ground := Ground.data }, { on := 9, ground := Ground.data }, { on := 10, ground := Ground.data }], guard := none }, { dst := some 66, op := Op.fieldAddr 33 (Operand.tmp 1) 3, type := 0, pos := "codec.go:61", after := #[], guard := none }, { dst := some 67, op := Op.load 22 (Operand.tmp 66), type := 22, pos := "codec.go:61", after := #[{ on := 12, ground := Ground.data }], guard := none }, { dst := some 68, op := Op.fieldAddr 24 (Operand.tmp 6) 0, type := 0, pos := "codec.go:61", after := #[], guard := none }, { dst := some 69, op := Op.load 3 (Operand.tmp 68), type := 3, pos := "codec.go:61", after := #[{ on := 14, ground := Ground.data }], guard := none }, { dst := some 70, op := Op.fieldAddr 24 (Operand.tmp 6) 1, type := 0, pos := "codec.go:61", after := #[], guard := none }, { dst := some 71, op := Op.load 3 (Operand.tmp 70), type := 3, pos := "codec.go:61", after := #[{ on := 16, ground := Ground.data }], guard := none }, { dst := some 72, op := Op.fieldAddr 24 (Operand.tmp 6) 2, type := 0, pos := "codec.go:61", after := #[], guard := none }, { dst := some 73, op := Op.load 3 (Operand.tmp 72), type := 3, pos := "codec.go:61", after := #[{ on := 18, ground := Ground.data }], guard := none }, { dst := some 74, op := Op.fieldAddr 24 (Operand.tmp 6) 3, type := 0, pos := "codec.go:61", after := #[], guard := none }, { dst := some 75, op := Op.load 3 (Operand.tmp 74), type := 3, pos := "codec.go:61", after := #[{ on := 20, ground := Ground.data }], guard := none }, { dst := some 76, op := Op.fieldAddr 24 (Operand.tmp 6) 4, type := 0, pos := "codec.go:61", after := #[], guard := none }, { dst := some 77, op := Op.load 3 (Operand.tmp 76), type := 3, pos := "codec.go:61", after := #[{ on := 22, ground := Ground.data }], guard := none }, { dst := some 78, op := Op.fieldAddr 24 (Operand.tmp 6) 5, type := 0, pos := "codec.go:61", after := #[], guard := none }, { dst := some 79, op := Op.load 3 (Operand.tmp 78), type := 3, pos := "codec.go:61", after := #[{ on := 24, ground := Ground.data }], guard := none }, { dst := some 80, op := Op.fieldAddr 24 (Operand.tmp 6) 6, type := 0, pos := "codec.go:61", after := #[], guard := none }, { dst := some 81, op := Op.load 3 (Operand.tmp 80), type := 3, pos := "codec.go:61", after := #[{ on := 26, ground := Ground.data }], guard := none }, { dst := some 82, op := Op.buildSlice 22 7 #[(0, Operand.tmp 69), (1, Operand.tmp 71), (2, Operand.tmp 73), (3, Operand.tmp 75), (4, Operand.tmp 77), (5, Operand.tmp 79), (6, Operand.tmp 81)], type := 22, pos := "codec.go:61", after := #[{ on := 15, ground := Ground.data }, { on := 17, ground := Ground.data }, { on := 19, ground := Ground.data }, { on := 21, ground := Ground.data }, { on := 23, ground := Ground.data }, { on := 25, ground := Ground.data }, { on := 27, ground := Ground.data }], guard := none }, { dst := some 83, op := Op.fieldAddr 28 (Operand.tmp 7) 0, type := 0, pos := "codec.go:61", after := #[], guard := none }, { dst := some 84, op := Op.load 3 (Operand.tmp 83), type := 3, pos := "codec.go:61", after := #[{ on := 29, ground := Ground.data }], guard := none }, { dst := some 85, op := Op.fieldAddr 28 (Operand.tmp 7) 1, type := 0, pos := "codec.go:61", after := #[], guard := none }, { dst := some 86, op := Op.load 3 (Operand.tmp 85), type := 3, pos := "codec.go:61", after := #[{ on := 31, ground := Ground.data }], guard := none }, { dst := some 87, op := Op.buildSlice 22 2 #[(0, Operand.tmp 84), (1, Operand.tmp 86)], type := 22, pos := "codec.go:61", after := #[{ on := 30, ground := Ground.data }, { on := 32, ground := Ground.data }], guard := none }, { dst := some 88, op := Op.fieldAddr 28 (Operand.tmp 7) 2, type := 0, pos := "codec.go:61", after := #[], guard := none }, { dst := some 89, op := Op.load 26 (Operand.tmp 88), type := 26, pos := "codec.go:61", after := #[{ on := 34, ground := Ground.data }], guard := none }, { dst := some 90, op := Op.call { callee := Callee.value (Operand.func 37), args := #[Operand.tmp 89], argTypes := #[26] }, type := 22, pos := "codec.go:65", after := #[{ on := 35, ground := Ground.data }], guard := none }, { dst := some 91, op := Op.call { callee := Callee.builtin Builtin.append, args := #[Operand.tmp 87, Operand.tmp 90], argTypes := #[22, 22] }, type := 22, pos := "codec.go:61", after := #[{ on := 33, ground := Ground.data }, { on := 36, ground := Ground.data }, { on := 36, ground := Ground.chain }], guard := none }, { dst := some 92, op := Op.fieldAddr 28 (Operand.tmp 7) 3, type := 0, pos := "codec.go:61", after := #[], guard := none }, { dst := some 93, op := Op.load 26 (Operand.tmp 92), type := 26, pos := "codec.go:61", after := #[{ on := 38, ground := Ground.data }], guard := none }, { dst := some 94, op := Op.call { callee := Callee.value (Operand.func 37), args := #[Operand.tmp 93], argTypes := #[26] }, type := 22, pos := "codec.go:65", after := #[{ on := 39, ground := Ground.data }, { on := 37, ground := Ground.chain }], guard := none }, { dst := some 95, op := Op.call { callee := Callee.builtin Builtin.append, args := #[Operand.tmp 91, Operand.tmp 94], argTypes := #[22, 22] }, type := 22, pos := "codec.go:61", after := #[{ on := 37, ground := Ground.data }, { on := 40, ground := Ground.data }, { on := 40, ground := Ground.chain }], guard := none }, { dst := some 96, op := Op.fieldAddr 33 (Operand.tmp 1) 8, type := 0, pos := "codec.go:61", after := #[], guard := none }, { dst := some 97, op := Op.slice 30 (Operand.tmp 96) none none none, type := 22, pos := "codec.go:61", after := #[{ on := 42, ground := Ground.data }], guard := none }, { dst := some 98, op := Op.move (Operand.tmp 8), type := 22, pos := "codec.go:61", after := #[], guard := none }, { dst := some 99, op := Op.buildSlice 106 6 #[(0, Operand.tmp 65), (1, Operand.tmp 67), (2, Operand.tmp 82), (3, Operand.tmp 95), (4, Operand.tmp 97), (5, Operand.tmp 98)], type := 106, pos := "codec.go:61", after := #[{ on := 11, ground := Ground.data }, { on := 13, ground := Ground.data }, { on := 28, ground := Ground.data }, { on := 41, ground := Ground.data }, { on := 43, ground := Ground.data }, { on := 44, ground := Ground.data }], guard := none }, { dst := some 100, op := Op.call { callee := Callee.builtin Builtin.len, args := #[Operand.tmp 99], argTypes := #[106] }, type := 3, pos := "codec.go:61", after := #[{ on := 45, ground := Ground.data }], guard := none }, { dst := some 101, op := Op.move (Operand.const (Value.int IntKind.i64 0)), type := 3, pos := "codec.go:61", after := #[], guard := none }] 0
  exact ⟨en_0 c ps qs wv b bt bz W Q t0.toArray h1, en_1 c ps qs wv b bt bz W Q t0.toArray vw hc, en_2 c ps qs wv b bt bz W Q t0.toArray h1, en_3 c ps qs wv b bt bz W Q t0.toArray vw hc, en_4 c ps qs wv b bt bz W Q t0.toArray h1, en_5 c ps qs wv b bt bz W Q t0.toArray vw hc, en_6 c ps qs wv b bt bz W Q t0.toArray h1, en_7 c ps qs wv b bt bz W Q t0.toArray vw hc, en_8 c ps qs wv b bt bz W Q t0.toArray h1, en_9 c ps qs wv b bt bz W Q t0.toArray vw hc, en_10 c ps qs wv b bt bz W Q t0.toArray h5, en_11 c ps qs wv b bt bz W Q t0.toArray , en_12 c ps qs wv b bt bz W Q t0.toArray h1, en_13 c ps qs wv b bt bz W Q t0.toArray vw hc, en_14 c ps qs wv b bt bz W Q t0.toArray h6, en_15 c ps qs wv b bt bz W Q t0.toArray ht, en_16 c ps qs wv b bt bz W Q t0.toArray h6, en_17 c ps qs wv b bt bz W Q t0.toArray ht, en_18 c ps qs wv b bt bz W Q t0.toArray h6, en_19 c ps qs wv b bt bz W Q t0.toArray ht, en_20 c ps qs wv b bt bz W Q t0.toArray h6, en_21 c ps qs wv b bt bz W Q t0.toArray ht, en_22 c ps qs wv b bt bz W Q t0.toArray h6, en_23 c ps qs wv b bt bz W Q t0.toArray ht, en_24 c ps qs wv b bt bz W Q t0.toArray h6, en_25 c ps qs wv b bt bz W Q t0.toArray ht, en_26 c ps qs wv b bt bz W Q t0.toArray h6, en_27 c ps qs wv b bt bz W Q t0.toArray ht, en_28 c ps qs wv b bt bz W Q t0.toArray , en_29 c ps qs wv b bt bz W Q t0.toArray h7, en_30 c ps qs wv b bt bz W Q t0.toArray hz, en_31 c ps qs wv b bt bz W Q t0.toArray h7, en_32 c ps qs wv b bt bz W Q t0.toArray hz, en_33 c ps qs wv b bt bz W Q t0.toArray , en_34 c ps qs wv b bt bz W Q t0.toArray h7, en_35 c ps qs wv b bt bz W Q t0.toArray hz, en_36 c ps qs wv b bt bz W Q t0.toArray , en_37 c ps qs wv b bt bz W Q t0.toArray , en_38 c ps qs wv b bt bz W Q t0.toArray h7, en_39 c ps qs wv b bt bz W Q t0.toArray hz, en_40 c ps qs wv b bt bz W Q t0.toArray , en_41 c ps qs wv b bt bz W Q t0.toArray , en_42 c ps qs wv b bt bz W Q t0.toArray h1, en_43 c ps qs wv b bt bz W Q t0.toArray , en_44 c ps qs wv b bt bz W Q t0.toArray h8, en_45 c ps qs wv b bt bz W Q t0.toArray h8 hwv, en_46 c ps qs wv b bt bz W Q t0.toArray , en_47 c ps qs wv b bt bz W Q t0.toArray , trivial⟩
end
end Go.Proofs.YtfnifgppblbjhaaGreatDoor
