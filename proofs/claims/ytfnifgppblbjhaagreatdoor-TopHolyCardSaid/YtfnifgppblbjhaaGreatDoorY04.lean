/- Part of the proof of TopHoly. -/
import Derived.Test.YtfnifgppblbjhaaGreatDoorY01
import Derived.Test.YtfnifgppblbjhaaGreatDoorY02
import Derived.Test.YtfnifgppblbjhaaGreatDoorY03
import Derived.BigQuiet
import Derived.Deep.DeepCutAuto
import Derived.Deep.QuietTactic
import Derived.Deep.RegionHeld3
import Derived.Deep.RegionWith
import Derived.Scope
namespace Go.Proofs.YtfnifgppblbjhaaGreatDoor
set_option maxHeartbeats 8000000
open Go Go.RowKit
variable {F : Fence} {n : Nat} {P : Program}
theorem range_made {α : Type} {g : Operand} {ps : Array Tmp} {assign body : Code} {Q : Exit → Act → World → Prop} {a : Act} {w : World}
  (hro : F.round = none) (h1 : 1 ≤ n) {gf : Nat} {lb : Array Value} (hg : a.eval g = .func (.func gf) #[] lb) (hFg : F.fn gf) (eg : ∀ args w, (callFunc gf args).run P w = .ok (.enter gf args) w)
  {encs : α → Array Value} {Kp : World → World → Prop} {b : Nat} {S Sp : List α → Prop} {Nx : List α → α → Prop} {w0 : World} (hseq : SeqOwn F (n - 1) P gf lb encs Kp b S Sp Nx w0)
  (hKt : ∀ {A B C : World}, Kp A B → Kp B C → Kp A C) (hKb : ∀ (W : World) (l : Nat) (o o' : Obj), w.heap.size ≤ l → W.heap[l]? = some o → o.isCells = false → o.isWalk = false → Kp W (W.putObj l o')) (hb0 : Below w0.heap.size w0 w) (hps : ∀ x, (encs x).size = ps.size)
  (hb : b < w.heap.size) (I : List α → World → Prop) (Ix : Code → List α → World → Prop) (hI : OwnFrom w.heap.size I) (hIx : ∀ c, OwnFrom w.heap.size (Ix c)) (hIb : ∀ pre W v, I pre W → I pre (W.setCell ⟨b, 0, none⟩ v)) (h0 : I [] w) (Im : List α → α → Act → World → Prop) (hIm : ∀ pre x a' W' l o o', w.heap.size ≤ l → W'.heap[l]? = some o → o.isCells = false → Im pre x a' W' → Im pre x a' (W'.putObj l o'))
  (hKa : ∀ {A B : World}, Below A.heap.size A B → Kp A B)
  (hassign : ∀ (l : Nat) (pre : List α) (x : α) (W : World) (K : Act → World → Prop), I pre W → Nx pre x → (∀ a' W', Im pre x a' W' → Below W.heap.size W W' → K a' W') →
   assign.wpIn (F.inRound l) (n - 1 - 1) P (Exit.then K (fun _ _ _ => False)) { tmps := (ps.zip (encs x)).foldl (fun t (p, v) => t.setIfInBounds p v) a.tmps, defers := [] } W)
  (hbody : ∀ (l : Nat) (pre : List α) (x : α) (a' : Act) (W : World), Im pre x a' W → Nx pre x → body.wpIn (F.inRound l) (n - 1 - 1) P (ownPostK Kp I Ix (pre ++ [x]) W) a' W)
  (hdone : ∀ (D : Nat) (xs : List α) (W : World), w.heap.size ≤ D → S xs → I xs W → W.heap[D]? = some (.deferred (some [])) → Q .normal { a with defers := { target := .collected D, args := #[] } :: a.defers } W)
  (hstop : ∀ (D : Nat) (c : Code) (pre : List α) (W : World), w.heap.size ≤ D → Sp pre → Ix c pre W → W.heap[D]? = some (.deferred (some [])) → c.wpIn F n P Q { a with defers := { target := .collected D, args := #[] } :: a.defers } W) :
  (Code.rangeFunc g ps assign body).wpIn F n P Q a w := by
 refine wpIn_rangeFunc fun fn hfn => ?_
 rw [hro]
 obtain ⟨rec, hrec⟩ : ∃ rec : LoopState → Option Code → Loop, rec = fun st pe => { state := st, pending := pe, fn, tmps := a.tmps, params := ps, assign, body, defers := w.heap.size } := ⟨_, rfl⟩
 obtain ⟨W1, hW1⟩ : ∃ W1, (w.alloc (.deferred (some []))).alloc (.loop (rec .ready none)) = W1 := ⟨_, rfl⟩
 have stand : ∀ (W : World) (st : LoopState) (pe : Option Code), (W.heap[w.heap.size + 1]? = some (.loop (rec st pe)) ∧ W.heap[w.heap.size]? = some (.deferred (some []))) → ∀ v, ((W.setCell ⟨b, 0, none⟩ v).heap[w.heap.size + 1]? = some (.loop (rec st pe)) ∧ (W.setCell ⟨b, 0, none⟩ v).heap[w.heap.size]? = some (.deferred (some []))) :=
  fun W st pe h v => ⟨(Below.heap_setCell W _ v _ (by show _ ≠ b; omega)).trans h.1, (Below.heap_setCell W _ v _ (by show _ ≠ b; omega)).trans h.2⟩
 have hL1 : W1.heap[w.heap.size + 1]? = some (.loop (rec .ready none)) := by
  rw [← hW1]; have := World.alloc_heap_new (w.alloc (.deferred (some []))) (.loop (rec .ready none)); rwa [World.size_alloc] at this
 have hK1 : W1.heap[w.heap.size]? = some (.deferred (some [])) := by
  rw [← hW1]; exact (Below.heap_alloc _ _ _ (by simp)).trans (World.alloc_heap_new w _)
 have hI1 : I [] W1 := by rw [← hW1]; exact hI.alloc _ (hI.alloc _ h0)
 have hb1 : Below w0.heap.size w0 W1 := by
  rw [← hW1]; exact hb0.trans ((((Below.refl _ w).alloc (Nat.le_refl _) _).alloc (by simp) _).mono hb0.size)
 have hsz1 : w.heap.size ≤ W1.heap.size := by rw [← hW1]; simp; omega
 refine ⟨w.heap.size + 1, [{ target := .collected w.heap.size, args := #[] }], W1, { target := .fn (.func gf) lb, args := #[.func (.yield (w.heap.size + 1)) #[] #[]] }, W1, gf,
  #[.func (.yield (w.heap.size + 1)) #[] #[]] ++ lb, W1, ?_, ?_, ?_, ?_, fun _ => h1, ?_⟩
 ·rw [← hW1, hrec]; exact run_enterLoop_outer _ _ _ _ _
 ·simp only [resolve, hg]; simp [go_sem]
 ·intro f' hf'; simp [Target.leads] at hf'; subst hf'; exact hFg
 ·simp [invoke, go_sem, eg]
 ·have hnw : ∀ {A : World} {row : Option Nat}, (∀ r, row = some r → W1.heap.size ≤ r ∧ ∃ o : Obj, A.heap[r]? = some o ∧ o.isWalk = true) → (∀ r, row = some r → w.heap.size ≤ r ∧ ∃ o : Obj, A.heap[r]? = some o ∧ o.isCells = false) :=
   fun hr r e => by obtain ⟨hB, o, ho, hw⟩ := hr r e; exact ⟨by omega, o, ho, Obj.not_cells_of_walk hw⟩
  refine (hseq (w.heap.size + 1)
   (fun pre W => I pre W ∧ W.heap[w.heap.size + 1]? = some (.loop (rec .ready none)) ∧ W.heap[w.heap.size]? = some (.deferred (some [])))
   (fun pre W => ∃ c, Ix c pre W ∧ W.heap[w.heap.size + 1]? = some (.loop (rec .done (some c))) ∧ W.heap[w.heap.size]? = some (.deferred (some [])))
   W1 hb1
   (fun s A B row hs hg' hr => ⟨hI s A B row hs.1 hg' (hnw hr), (grownBy_keeps hg' (fun r e => (hr r e).2) hs.2.1 rfl).trans hs.2.1, (grownBy_keeps hg' (fun r e => (hr r e).2) hs.2.2 rfl).trans hs.2.2⟩)
   (fun s A B row hs hg' hr => by
    obtain ⟨c, hc, hl, hk⟩ := hs
    exact ⟨c, hIx c s A B row hc hg' (hnw hr), (grownBy_keeps hg' (fun r e => (hr r e).2) hl rfl).trans hl, (grownBy_keeps hg' (fun r e => (hr r e).2) hk rfl).trans hk⟩)
   (fun pre W v hs => ⟨hIb pre W v hs.1, stand W _ _ hs.2 v⟩)
   ?_ ⟨hI1, hL1, hK1⟩).mono ?_
  ·rintro pre x W ⟨hi, hl, hk⟩ hlen
   have hlt : w.heap.size + 1 < W.heap.size := (Array.getElem?_eq_some_iff.1 hl).1
   have hy := run_yield (P := P) (args := encs x) hl (by rw [hrec]; exact hps x)
   rw [hrec] at hy
   refine ⟨fn, _, assign, body, hy, roundIn_of_wpIn hfn (hassign _ pre x W _ hi hlen fun a' W' hm hbl => ?_)⟩
   have hlt' : w.heap.size + 1 < W'.heap.size := Nat.lt_of_lt_of_le hlt hbl.size
   have hl' : W'.heap[w.heap.size + 1]? = some (.loop (rec .ready none)) := (hbl.block _ hlt).trans hl
   have hk' : W'.heap[w.heap.size]? = some (.deferred (some [])) := (hbl.block _ (by omega)).trans hk
   refine ⟨_, run_beginRound hl' (by rw [hrec]), ?_⟩
   obtain ⟨Wb, hWb⟩ : ∃ Wb, W'.putObj (w.heap.size + 1) (.loop { rec .ready none with state := .busy }) = Wb := ⟨_, rfl⟩
   have hl2 : Wb.heap[w.heap.size + 1]? = some (.loop { rec .ready none with state := .busy }) := by rw [← hWb]; exact World.putObj_heap_same hlt'
   have hk2 : Wb.heap[w.heap.size]? = some (.deferred (some [])) := by rw [← hWb]; exact (World.putObj_heap_other (by omega)).trans hk'
   have hw2 : Kp W Wb := by rw [← hWb]; exact hKt (hKa hbl) (hKb _ _ _ _ (by omega) hl' rfl rfl)
   have hib : Im pre x a' Wb := by rw [← hWb]; exact hIm _ _ _ _ _ _ _ (by omega) hl' rfl hm
   have fin : ∀ (jump : Option Code) (W3 : World), KeepsOthers Wb W3 → ∃ W4, W4 = W3.putObj (w.heap.size + 1) (.loop (rec (if jump.isNone then .ready else .done) jump)) ∧
     (Instr.endRound (w.heap.size + 1) jump).run P W3 = .ok (.bool jump.isNone) W4 ∧ W3.heap[w.heap.size + 1]? = some (.loop { rec .ready none with state := .busy }) ∧
     W4.heap[w.heap.size + 1]? = some (.loop (rec (if jump.isNone then .ready else .done) jump)) ∧ W4.heap[w.heap.size]? = some (.deferred (some [])) := fun jump W3 hk3 => by
    have hl3 := hk3.same _ _ hl2 rfl
    have hrun := run_endRound (P := P) jump hl3
    refine ⟨_, rfl, ?_, hl3, World.putObj_heap_same (Array.getElem?_eq_some_iff.1 hl3).1, (World.putObj_heap_other (by omega)).trans (hk3.same _ _ hk2 rfl)⟩
    rw [hrec] at hrun ⊢; exact hrun
   have leave : ∀ (c : Code) (W3 : World), KeepsOthers Wb W3 → Ix c (pre ++ [x]) W3 → ∃ (v : Value) (W4 : World), (Instr.endRound (w.heap.size + 1) (some c)).run P W3 = .ok v W4 ∧
     ((Ending.returned v = .returned (.bool true) ∧ (I (pre ++ [x]) W4 ∧ W4.heap[w.heap.size + 1]? = some (.loop (rec .ready none)) ∧ W4.heap[w.heap.size]? = some (.deferred (some []))) ∧ Kp W W4) ∨
      (Ending.returned v = .returned (.bool false) ∧ ∃ c, Ix c (pre ++ [x]) W4 ∧ W4.heap[w.heap.size + 1]? = some (.loop (rec .done (some c))) ∧ W4.heap[w.heap.size]? = some (.deferred (some [])))) := fun c W3 hk3 hi3 => by
    obtain ⟨W4, e4, hr, hl3, hl4, hk4⟩ := fin (some c) W3 hk3
    exact ⟨_, W4, hr, .inr ⟨rfl, c, by rw [e4]; exact (hIx c).putObj _ hi3 (by omega) hl3 rfl, hl4, hk4⟩⟩
   rw [hWb]
   refine wpIn_mono (hbody _ pre x a' _ hib hlen) ?_
   rintro e a3 W3 hp
   cases e with
   | normal =>
    obtain ⟨hk3, hkp3, hi3⟩ := hp
    obtain ⟨W4, e4, hr, hl3, hl4, hk4⟩ := fin none W3 hk3
    exact ⟨_, W4, hr, .inl ⟨rfl, ⟨by rw [e4]; exact hI.putObj _ hi3 (by omega) hl3 rfl, hl4, hk4⟩, hKt (hKt hw2 hkp3) (by rw [e4]; exact hKb _ _ _ _ (by omega) hl3 rfl rfl)⟩⟩
   | ret => exact leave _ W3 hp.1 hp.2
   | exit id => exact leave _ W3 hp.1 hp.2
   | goto t => exact leave _ W3 hp.1 hp.2
   | panic ch => exact hp.elim
   | outgrown => exact hp.elim
  ·rintro e W2 ⟨⟨v, rfl⟩, (⟨xs, hS, hi, hl, hk⟩ | ⟨pre, hSp, c, hi, hl, hk⟩)⟩
   ·exact ⟨none, _, by have := run_endLoop (P := P) hl (by rw [hrec]; simp); rw [hrec] at this; exact this, hdone _ xs _ (Nat.le_refl _) hS (hI.putObj _ hi (by omega) hl rfl) ((World.putObj_heap_other (by omega)).trans hk)⟩
   ·exact ⟨some c, _, by have := run_endLoop (P := P) hl (by rw [hrec]; simp); rw [hrec] at this; exact this, hstop _ c pre _ (Nat.le_refl _) hSp ((hIx c).putObj _ hi (by omega) hl rfl) ((World.putObj_heap_other (by omega)).trans hk)⟩
end Go.Proofs.YtfnifgppblbjhaaGreatDoor
namespace Go.Proofs.YtfnifgppblbjhaaGreatDoor
set_option maxHeartbeats 8000000
open Go.RowKit
def hdim (h m : Int) : Int :=
 if h < 3762 ∨ 9999 < h ∨ m < 1 ∨ 13 < m then 0
 else if m = 6 ∧ leapB h = false then 0
 else if (m = 2 ∧ ylen h % 10 = 5) ∨ (m = 3 ∧ ylen h % 10 ≠ 3) ∨ m = 1 ∨ m = 5 ∨ m = 6 ∨ m = 8 ∨ m = 10 ∨ m = 12 then 30 else 29
def hcum (h : Int) : Nat → Int
 | 0 => 0
 | k + 1 => hcum h k + hdim h (k + 1)
def HMay (h m d : Int) : Prop := 1 ≤ d ∧ d ≤ hdim h m
instance (h m d : Int) : Decidable (HMay h m d) := by unfold HMay; exact inferInstance
def hnum (h m d : Int) : Int := ny h + hcum h (m.toNat - 1) + d - 1
theorem hdim_no {h m : Int} (c : ¬ Yr h ∨ m < 1 ∨ 13 < m) : hdim h m = 0 := by
 unfold hdim; rw [if_pos]; unfold Yr at c; omega
theorem hdim_in {h m : Int} (c : hdim h m ≠ 0) : Yr h ∧ 1 ≤ m ∧ m ≤ 13 := by
 unfold hdim at c
 split at c
 ·exact (c rfl).elim
 ·unfold Yr; omega
theorem hdim_bd (h m : Int) : hdim h m = 0 ∨ hdim h m = 29 ∨ hdim h m = 30 := by
 unfold hdim; repeat' split
 all_goals simp
theorem hdim_ge (h m : Int) : 0 ≤ hdim h m ∧ hdim h m ≤ 30 := by have := hdim_bd h m; omega
theorem hdim_yr {h : Int} (hy : Yr h) (m : Int) (h1 : 1 ≤ m) (h2 : m ≤ 13) : hdim h m =
  if m = 6 ∧ leapB h = false then 0
  else if (m = 2 ∧ ylen h % 10 = 5) ∨ (m = 3 ∧ ylen h % 10 ≠ 3) ∨ m = 1 ∨ m = 5 ∨ m = 6 ∨ m = 8 ∨ m = 10 ∨ m = 12 then 30 else 29 := by
 unfold hdim; rw [if_neg]; unfold Yr at hy; omega
theorem HMay.yr {h m d : Int} (c : HMay h m d) : Yr h ∧ 1 ≤ m ∧ m ≤ 13 ∧ 1 ≤ d ∧ d ≤ 30 := by
 obtain ⟨c1, c2⟩ := c
 have := hdim_ge h m
 have := hdim_in (h := h) (m := m) (by omega)
 obtain ⟨a, b, c⟩ := this
 exact ⟨a, b, c, by omega, by omega⟩
theorem hdim_0 {h : Int} (hy : Yr h) : hdim h 1 = 30 ∧ hdim h 2 = (if ylen h % 10 = 5 then 30 else 29) ∧ hdim h 3 = (if ylen h % 10 = 3 then 29 else 30) ∧ hdim h 4 = 29 ∧ hdim h 5 = 30 ∧
  hdim h 6 = (if leapB h = true then 30 else 0) ∧ hdim h 7 = 29 ∧ hdim h 8 = 30 ∧ hdim h 9 = 29 ∧ hdim h 10 = 30 ∧ hdim h 11 = 29 ∧ hdim h 12 = 30 ∧ hdim h 13 = 29 := by
 refine ⟨?_, ?_, ?_, ?_, ?_, ?_, ?_, ?_, ?_, ?_, ?_, ?_, ?_⟩
 all_goals rw [hdim_yr hy _ (by omega) (by omega)]
 all_goals cases leapB h <;> by_cases a : ylen h % 10 = 5 <;> by_cases b : ylen h % 10 = 3 <;> simp [a, b]
theorem hcum_13 {h : Int} (hy : Yr h) : hcum h 13 = ylen h := by
 obtain ⟨e1, e2, e3, e4, e5, e6, e7, e8, e9, e10, e11, e12, e13⟩ := hdim_0 hy
 have c := len_cases h (by have := hy.1; omega) (by have := hy.2; omega)
 have f : hcum h 13 = 0 + hdim h 1 + hdim h 2 + hdim h 3 + hdim h 4 + hdim h 5 + hdim h 6 + hdim h 7 + hdim h 8 + hdim h 9 + hdim h 10 + hdim h 11 + hdim h 12 + hdim h 13 := rfl
 rw [f, e1, e2, e3, e4, e5, e6, e7, e8, e9, e10, e11, e12, e13]
 rcases c with ⟨l, c⟩ | ⟨l, c⟩ <;> rw [l] <;> rcases c with c | c | c <;> rw [c] <;> decide
theorem hcum_mono (h : Int) (i j : Nat) (c : i ≤ j) : hcum h i ≤ hcum h j := by
 induction j with
 | zero => have : i = 0 := (by omega); subst this; exact Int.le_refl _
 | succ j ih =>
  by_cases e : i = j + 1
  ·subst e; exact Int.le_refl _
  ·have := ih (by omega)
   have b := hdim_ge h (j + 1)
   simp only [hcum]; omega
theorem hcum_bd {h : Int} (hy : Yr h) (k : Nat) (hk : k ≤ 13) : 0 ≤ hcum h k ∧ hcum h k ≤ ylen h := by
 have a := hcum_mono h 0 k (by omega)
 have b := hcum_mono h k 13 hk
 rw [hcum_13 hy] at b
 exact ⟨a, b⟩
theorem hcum_step (h m : Int) (h1 : 1 ≤ m) : hcum h m.toNat = hcum h (m.toNat - 1) + hdim h m := by
 obtain ⟨k, e⟩ : ∃ k, m.toNat = k + 1 := ⟨m.toNat - 1, by omega⟩
 have e2 : m = (k : Int) + 1 := by omega
 rw [e]; simp only [hcum, Nat.add_sub_cancel]; rw [e2]
theorem ylen_bd {h : Int} (hy : Yr h) : 353 ≤ ylen h ∧ ylen h ≤ 385 := by
 have := len_cases h (by have := hy.1; omega) (by have := hy.2; omega)
 omega
theorem ny_succ (h : Int) : ny (h + 1) = ny h + ylen h := by unfold ylen; omega
theorem ny_mono {a b : Int} (ha : 3762 ≤ a) (hb : b ≤ 10000) (c : a ≤ b) : ny a + 353 * (b - a) ≤ ny b ∧ ny b ≤ ny a + 385 * (b - a) := by
 obtain ⟨k, e⟩ : ∃ k : Nat, b = a + k := ⟨(b - a).toNat, by omega⟩
 subst e
 induction k with
 | zero => simp
 | succ k ih =>
  have i := ih (by omega) (by omega)
  have l := ylen_bd (h := a + k) ⟨by omega, by omega⟩
  have s := ny_succ (a + k)
  have e : a + ((k + 1 : Nat) : Int) = a + k + 1 := by omega
  rw [e, s]
  omega
theorem hnum_bd {h m d : Int} (c : HMay h m d) : ny h ≤ hnum h m d ∧ hnum h m d < ny h + ylen h ∧ ny h + hcum h (m.toNat - 1) ≤ hnum h m d ∧ hnum h m d < ny h + hcum h m.toNat := by
 obtain ⟨y, m1, m2, d1, d2⟩ := c.yr
 have s := hcum_step h m m1
 have a := hcum_bd y (m.toNat - 1) (by omega)
 have b := hcum_bd y m.toNat (by omega)
 obtain ⟨_, c2⟩ := c
 unfold hnum
 omega
theorem hyear_at (n : Int) (h1 : ny 3762 ≤ n) (h2 : n < ny 10000) : ∃ h, Yr h ∧ ny h ≤ n ∧ n < ny h + ylen h := by
 have go : ∀ k : Nat, k ≤ 6238 → n < ny (3762 + k) → ∃ h, Yr h ∧ ny h ≤ n ∧ n < ny h + ylen h := by
  intro k
  induction k with
  | zero => intro _ c; simp at c; omega
  | succ k ih =>
   intro hk c
   by_cases c2 : n < ny (3762 + k)
   ·exact ih (by omega) c2
   ·refine ⟨3762 + k, ⟨by omega, by omega⟩, by omega, ?_⟩
    have s := ny_succ (3762 + k)
    have e : (3762 : Int) + ((k + 1 : Nat) : Int) = 3762 + k + 1 := by omega
    rw [e] at c; omega
 exact go 6238 (by omega) h2
theorem hmonth_at {h : Int} (r : Int) (k : Nat) (h1 : 0 ≤ r) (h2 : r < hcum h k) : ∃ m : Int, 1 ≤ m ∧ m ≤ k ∧ hcum h (m.toNat - 1) ≤ r ∧ r < hcum h m.toNat := by
 induction k with
 | zero => simp [hcum] at h2; omega
 | succ k ih =>
  by_cases c : r < hcum h k
  ·obtain ⟨m, a, b, x⟩ := ih c
   exact ⟨m, a, by omega, x⟩
  ·refine ⟨k + 1, by omega, by omega, ?_, ?_⟩
   ·have e : ((k : Int) + 1).toNat - 1 = k := by omega
    rw [e]; omega
   ·have e : ((k : Int) + 1).toNat = k + 1 := by omega
    rw [e]; exact h2
theorem hdate_at (n : Int) (h1 : ny 3762 ≤ n) (h2 : n < ny 10000) : ∃ h m d, HMay h m d ∧ hnum h m d = n := by
 obtain ⟨h, hy, a, b⟩ := hyear_at n h1 h2
 obtain ⟨m, m1, m2, c, d⟩ := hmonth_at (h := h) (n - ny h) 13 (by omega) (by rw [hcum_13 hy]; omega)
 have s := hcum_step h m m1
 refine ⟨h, m, n - ny h - hcum h (m.toNat - 1) + 1, ⟨by omega, by omega⟩, ?_⟩
 unfold hnum; omega
theorem hmonth_one {h r a b : Int} (ha : 1 ≤ a) (hb : 1 ≤ b) (h1 : hcum h (a.toNat - 1) ≤ r) (h2 : r < hcum h a.toNat) (h3 : hcum h (b.toNat - 1) ≤ r) (h4 : r < hcum h b.toNat) : a = b := by
 rcases Int.lt_trichotomy a b with c | c | c
 ·have := hcum_mono h a.toNat (b.toNat - 1) (by omega); omega
 ·exact c
 ·have := hcum_mono h b.toNat (a.toNat - 1) (by omega); omega
theorem hyear_one {n a b : Int} (ha : Yr a) (hb : Yr b) (h1 : ny a ≤ n) (h2 : n < ny a + ylen a) (h3 : ny b ≤ n) (h4 : n < ny b + ylen b) : a = b := by
 have sa := ny_succ a
 have sb := ny_succ b
 obtain ⟨a1, a2⟩ := ha
 obtain ⟨b1, b2⟩ := hb
 rcases Int.lt_trichotomy a b with c | c | c
 ·have := (ny_mono (a := a + 1) (b := b) (by omega) (by omega) (by omega)).1; omega
 ·exact c
 ·have := (ny_mono (a := b + 1) (b := a) (by omega) (by omega) (by omega)).1; omega
end Go.Proofs.YtfnifgppblbjhaaGreatDoor
namespace Go.Proofs.YtfnifgppblbjhaaGreatDoor
set_option maxHeartbeats 8000000
open Go.RowKit
set_option linter.unusedVariables false
set_option linter.unusedSimpArgs false
theorem thirteen {m : Int} (h1 : 1 ≤ m) (h2 : m ≤ 13) : m = 1 ∨ m = 2 ∨ m = 3 ∨ m = 4 ∨ m = 5 ∨ m = 6 ∨ m = 7 ∨ m = 8 ∨ m = 9 ∨ m = 10 ∨ m = 11 ∨ m = 12 ∨ m = 13 := by omega
theorem hdays_any (h m : Int) (w : World) :
  Calls Tryz.prog 64 #[.int .i64 h, .int .i64 m] w fun e w' => e = .returned (.int .i64 (hdim h m)) ∧ w = w' := by
 by_cases hy : Yr h
 ·have hI : I64 h := by unfold Yr at hy; unfold I64; omega
  by_cases h1 : m < 1
  ·have H := Lib.hid (hdim_no (h := h) (m := m) (.inr (.inl h1)))
   go_enter Tryz.func64, Tryz.ntmps64
   go_wp2_with fail
   refine (len_ok _ _ hy).mono ?_; rintro e w' ⟨rfl, rfl⟩
   go_wp2
   go_ret
   exact ⟨one H.out.symm, rfl⟩
  ·by_cases h2 : 13 < m
   ·have H := Lib.hid (hdim_no (h := h) (m := m) (.inr (.inr h2)))
    have h3 : 1 ≤ m := by omega
    clear h1
    go_enter Tryz.func64, Tryz.ntmps64
    go_wp2_with fail
    refine (len_ok _ _ hy).mono ?_; rintro e w' ⟨rfl, rfl⟩
    go_wp2
    go_ret
    exact ⟨one H.out.symm, rfl⟩
   ·obtain ⟨e1, e2, e3, e4, e5, e6, e7, e8, e9, e10, e11, e12, e13⟩ := hdim_0 hy
    have lb := ylen_bd hy
    rcases thirteen (m := m) (by omega) (by omega) with e | e | e | e | e | e | e | e | e | e | e | e | e <;> subst e
    case inr.inl =>
     clear e1 e3 e4 e5 e6 e7 e8 e9 e10 e11 e12 e13
     by_cases c : ylen h % 10 = 5
     ·rw [if_pos c] at e2
      have H := Lib.hid e2
      clear e2
      go_enter Tryz.func64, Tryz.ntmps64
      go_wp2_with fail
      refine (len_ok _ _ hy).mono ?_; rintro e w' ⟨rfl, rfl⟩
      go_wp2
      go_ret
      exact ⟨one H.out.symm, rfl⟩
     ·rw [if_neg c] at e2
      have H := Lib.hid e2
      clear e2
      go_enter Tryz.func64, Tryz.ntmps64
      go_wp2_with fail
      refine (len_ok _ _ hy).mono ?_; rintro e w' ⟨rfl, rfl⟩
      go_wp2
      go_ret
      exact ⟨one H.out.symm, rfl⟩
    case inr.inr.inl =>
     clear e1 e2 e4 e5 e6 e7 e8 e9 e10 e11 e12 e13
     by_cases c : ylen h % 10 = 3
     ·rw [if_pos c] at e3
      have H := Lib.hid e3
      clear e3
      go_enter Tryz.func64, Tryz.ntmps64
      go_wp2_with fail
      refine (len_ok _ _ hy).mono ?_; rintro e w' ⟨rfl, rfl⟩
      go_wp2
      go_ret
      exact ⟨one H.out.symm, rfl⟩
     ·rw [if_neg c] at e3
      have H := Lib.hid e3
      clear e3
      go_enter Tryz.func64, Tryz.ntmps64
      go_wp2_with fail
      refine (len_ok _ _ hy).mono ?_; rintro e w' ⟨rfl, rfl⟩
      go_wp2
      go_ret
      exact ⟨one H.out.symm, rfl⟩
    case inr.inr.inr.inr.inr.inl =>
     clear e1 e2 e3 e4 e5 e7 e8 e9 e10 e11 e12 e13
     cases l : leapB h with
     | true =>
      rw [l, if_pos rfl] at e6
      have H := Lib.hid e6
      have L := Lib.hid l
      clear e6 l
      go_enter Tryz.func64, Tryz.ntmps64
      go_wp2_with fail
      refine (len_ok _ _ hy).mono ?_; rintro e w' ⟨rfl, rfl⟩
      go_wp2_with fail
      refine (leap_any _ _ hI).mono ?_; rintro e w' ⟨rfl, rfl⟩
      rw [L.out]
      go_wp2
      go_ret
      exact ⟨one H.out.symm, rfl⟩
     | false =>
      rw [l, if_neg (by decide)] at e6
      have H := Lib.hid e6
      have L := Lib.hid l
      clear e6 l
      go_enter Tryz.func64, Tryz.ntmps64
      go_wp2_with fail
      refine (len_ok _ _ hy).mono ?_; rintro e w' ⟨rfl, rfl⟩
      go_wp2_with fail
      refine (leap_any _ _ hI).mono ?_; rintro e w' ⟨rfl, rfl⟩
      rw [L.out]
      go_wp2
      go_ret
      exact ⟨one H.out.symm, rfl⟩
    all_goals
     first | have H := Lib.hid e1 | skip
     have H4 := Lib.hid e4
     have H5 := Lib.hid e5
     have H7 := Lib.hid e7
     have H8 := Lib.hid e8
     have H9 := Lib.hid e9
     have H10 := Lib.hid e10
     have H11 := Lib.hid e11
     have H12 := Lib.hid e12
     have H13 := Lib.hid e13
     clear e1 e2 e3 e4 e5 e6 e7 e8 e9 e10 e11 e12 e13
     go_enter Tryz.func64, Tryz.ntmps64
     go_wp2_with fail
     refine (len_ok _ _ hy).mono ?_; rintro e w' ⟨rfl, rfl⟩
     go_wp2
     go_ret
     first
      | exact ⟨one H.out.symm, rfl⟩ | exact ⟨one H4.out.symm, rfl⟩ | exact ⟨one H5.out.symm, rfl⟩ | exact ⟨one H7.out.symm, rfl⟩ | exact ⟨one H8.out.symm, rfl⟩ | exact ⟨one H9.out.symm, rfl⟩
      | exact ⟨one H10.out.symm, rfl⟩ | exact ⟨one H11.out.symm, rfl⟩ | exact ⟨one H12.out.symm, rfl⟩ | exact ⟨one H13.out.symm, rfl⟩
 ·have H := Lib.hid (hdim_no (h := h) (m := m) (.inl hy))
  go_enter Tryz.func64, Tryz.ntmps64
  go_wp2_with fail
  refine (len_no _ _ hy).mono ?_; rintro e w' ⟨rfl, rfl⟩
  go_wp2
  go_ret
  exact ⟨one H.out.symm, rfl⟩
end Go.Proofs.YtfnifgppblbjhaaGreatDoor
namespace Go.Proofs.YtfnifgppblbjhaaGreatDoor
set_option maxHeartbeats 8000000
open Go Go.RowKit Go.Shelf
attribute [local go_sem] Oper.semAt_some
set_option linter.unusedVariables false
set_option linter.unusedSimpArgs false
theorem grown_below {n : Nat} {w w' : World} (h : Below n w w') (hn : w.heap.size ≤ n) (row : Option Nat) : w.grownBy w' row :=
 ⟨h.os, h.tape, h.output, h.size, fun k hk _ => h.block k (by omega)⟩
def K2 (f h : Nat) (A B : World) : Prop := A.heap.size ≤ B.heap.size ∧ B.heap[f]? = A.heap[f]? ∧ B.heap[h]? = A.heap[h]?
theorem K2.t {f h : Nat} {A B C : World} (x : K2 f h A B) (y : K2 f h B C) : K2 f h A C := ⟨Nat.le_trans x.1 y.1, y.2.1.trans x.2.1, y.2.2.trans x.2.2⟩
theorem K2.of {f h n : Nat} {A B : World} (x : Below n A B) (hf : f < n) (hh : h < n) : K2 f h A B := ⟨x.size, x.block f hf, x.block h hh⟩
theorem K2.b {f h : Nat} {w : World} (hf : f < w.heap.size) (hh : h < w.heap.size) (W : World) (l : Nat) (o o' : Obj) (hl : w.heap.size ≤ l) (x : W.heap[l]? = some o) (y : o.isCells = false) (z : o.isWalk = false) : K2 f h W (W.putObj l o') :=
 K2.of (belowK_b (Nat.le_refl _) W l o o' hl x y z) hf hh
theorem K2.refl (f h : Nat) (A : World) : K2 f h A A := ⟨Nat.le_refl _, rfl, rfl⟩
theorem hmonths_own (n : Nat) (hn : 1 ≤ n) (bf bh : Nat) (h first : Int) (hy : Yr h) (hf1 : -2000000 ≤ first) (hf2 : first ≤ 4000000) (w : World) (hF : BlockIs w bf #[.int .i64 first] 3) (hH : BlockIs w bh #[.int .i64 h] 3) (hne : bh ≠ bf) :
  SeqOwn Fence.wide n Tryz.prog 122 #[.pointer (some ⟨bf, 0, none⟩), .pointer (some ⟨bh, 0, none⟩)] (fun k : Nat => #[.int .i64 ((k : Int) + 1), .int .i64 (first + hcum h k)]) (K2 bf bh) bf (fun ys => ys = List.range 13) (fun pre => ∃ k, k ≤ 13 ∧ pre = List.range k) (fun pre k => pre = List.range k ∧ k < 13) w := by
 intro l J Jx W hW hJ hJx hJb hY h0
 have hF' := hF.below hW hF.lt
 have hH' := hH.below hW hH.lt
 have hsz := hW.size
 clear hF hH
 refine callsIn_of_wp Tryz.func122 rfl trivial ?_ rfl
 simp only [Tryz.ntmps122, List.size_toArray, List.length_cons, List.length_nil, Nat.reduceAdd, Nat.reduceSub, Array.replicate_succ, Array.replicate_zero, List.push_toArray, List.append_toArray, List.nil_append, List.cons_append]
 gi_wp2
 gi_loopw [4] (fun m wr => ∃ k : Nat, k ≤ 13 ∧ m = .int .i64 ((k : Int) + 1) ∧ J (List.range k) wr ∧ BlockIs wr bf #[.int .i64 (first + hcum h k)] 3 ∧ BlockIs wr bh #[.int .i64 h] 3 ∧ W.heap.size ≤ wr.heap.size) (fun m _ => (14 - intOf m).toNat)
 case atStart => exact ⟨0, by omega, rfl, h0, by simpa [hcum] using hF', hH', Nat.le_refl _⟩
 case round =>
  obtain ⟨k, hk, rfl, hJs, hbf, hbh, hsz⟩ := hrel
  by_cases hlt : k < 13
  ·obtain ⟨fn, tmps, assign, body, hyy, hR⟩ := hY (List.range k) k wr hJs ⟨rfl, hlt⟩
   have hc1 : wr.cell? ⟨bf, 0, none⟩ = some (.int .i64 (first + hcum h k)) := hbf.cell rfl
   gi_wp2
   refine hR.mono ?_
   rintro e W3 (⟨rfl, hJ3, hk3⟩ | ⟨rfl, hJx3⟩)
   ·have hbf3 : BlockIs W3 bf _ _ := hk3.2.1.trans hbf
    have hbh3 : BlockIs W3 bh _ _ := hk3.2.2.trans hbh
    have hs3 := hk3.1
    have c1 : W3.cell? ⟨bf, 0, none⟩ = some (.int .i64 (first + hcum h k)) := hbf3.cell rfl
    have c2 : W3.cell? ⟨bh, 0, none⟩ = some (.int .i64 h) := hbh3.cell rfl
    have f1 : W3.frozen? ⟨bf, 0, none⟩ = false := hbf3.free _
    have bd := hcum_bd hy k (by omega)
    have bl := ylen_bd hy
    have bm := hdim_ge h (k + 1)
    gi_wp2
    refine wpIn_wide.2 ?_
    go_region_with (first | (go_at_call 64; refine (hdays_any _ _ _).mono ?_; rintro e w' ⟨rfl, rfl⟩))
    all_goals
     gi_wp2
     go_round
     case rel =>
      refine ⟨k + 1, by omega, by go_num, ?_, ?_, ?_, by simp; omega⟩
      ·rw [List.range_succ]
       exact hJ _ _ _ none (hJb _ _ _ hJ3) (grown_below ((Below.refl _ _).drew) (Nat.le_refl _) none) (by simp)
      ·have := hbf3.set 0 (.int .i64 (first + hcum h k + hdim h (k + 1)))
       have e : first + hcum h (k + 1) = first + hcum h k + hdim h (k + 1) := by simp only [hcum]; omega
       rw [e]
       exact this.drew
      ·exact (hbh3.other (by show bh ≠ bf; exact hne) _).drew
     case measure => simp [intOf]; omega
   ·gi_wp2
    refine bodyPost_ret (v := .tuple #[]) (results_none rfl _ _ _) rfl ?_
    exact ⟨⟨_, rfl⟩, .inr ⟨_, ⟨k + 1, by omega, by rw [List.range_succ]⟩, hJx3⟩⟩
  ·have : k = 13 := by omega
   subst this
   gi_wp2
   go_end0
   exact ⟨⟨_, rfl⟩, .inl ⟨_, rfl, hJs⟩⟩
theorem BlockIs.grown {W W' : World} {b : Nat} {cs : Array Value} {t : TypeId} {row : Option Nat} (h : BlockIs W b cs t) (hg : W.grownBy W' row) (hr : ∀ r, row = some r → ∃ o : Obj, W.heap[r]? = some o ∧ o.isCells = false) : BlockIs W' b cs t := by
 refine (hg.block b h.lt ?_).trans h
 intro e
 obtain ⟨o, ho, hc⟩ := hr b e.symm
 unfold BlockIs at h
 rw [h] at ho; cases ho; simp [Obj.isCells] at hc
theorem hmonths_any (h first : Int) (w : World) :
  Calls Tryz.prog 63 #[.int .i64 h, .int .i64 first] w fun e w' => e = .returned (.func (.func 122) #[] #[.pointer (some ⟨w.heap.size + 1, 0, none⟩), .pointer (some ⟨w.heap.size, 0, none⟩)]) ∧ (w.alloc (.cells #[.int .i64 h] 3)).alloc (.cells #[.int .i64 first] 3) = w' := by
 go_enter Tryz.func63, Tryz.ntmps63
 go_wp2
 go_ret
 exact ⟨rfl, rfl⟩
end Go.Proofs.YtfnifgppblbjhaaGreatDoor
