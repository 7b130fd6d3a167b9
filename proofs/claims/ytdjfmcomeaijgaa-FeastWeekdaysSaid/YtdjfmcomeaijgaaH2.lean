/- The iterator over a year's months. -/
import Derived.Test.YtdjfmcomeaijgaaRL
import Derived.Test.YtdjfmcomeaijgaaH1
import Derived.Deep.RegionWith
namespace Go.Proofs.Ytdjfmcomeaijgaa
open Go Go.RowKit Go.Shelf
attribute [local go_sem] Oper.semAt_some
set_option linter.unusedVariables false
set_option linter.unusedSimpArgs false

theorem grown_below {n : Nat} {w w' : World} (h : Below n w w') (hn : w.heap.size ≤ n) (row : Option Nat) : w.grownBy w' row :=
  ⟨h.os, h.tape, h.output, h.size, fun k hk _ => h.block k (by omega)⟩

/-- What a round must keep: the iterator's two variables. -/
def K2 (f h : Nat) (A B : World) : Prop := A.heap.size ≤ B.heap.size ∧ B.heap[f]? = A.heap[f]? ∧ B.heap[h]? = A.heap[h]?
theorem K2.t {f h : Nat} {A B C : World} (x : K2 f h A B) (y : K2 f h B C) : K2 f h A C := ⟨Nat.le_trans x.1 y.1, y.2.1.trans x.2.1, y.2.2.trans x.2.2⟩
theorem K2.of {f h n : Nat} {A B : World} (x : Below n A B) (hf : f < n) (hh : h < n) : K2 f h A B := ⟨x.size, x.block f hf, x.block h hh⟩
theorem K2.b {f h : Nat} {w : World} (hf : f < w.heap.size) (hh : h < w.heap.size) (W : World) (l : Nat) (o o' : Obj) (hl : w.heap.size ≤ l) (x : W.heap[l]? = some o) (y : o.isCells = false) (z : o.isWalk = false) : K2 f h W (W.putObj l o') :=
  K2.of (belowK_b (Nat.le_refl _) W l o o' hl x y z) hf hh
theorem K2.refl (f h : Nat) (A : World) : K2 f h A A := ⟨Nat.le_refl _, rfl, rfl⟩

set_option maxHeartbeats 2000000 in
theorem hmonths_own (n : Nat) (hn : 1 ≤ n) (bf bh : Nat) (h first : Int) (hy : Yr h) (hf1 : -2000000 ≤ first) (hf2 : first ≤ 4000000) (w : World) (hF : BlockIs w bf #[.int .i64 first] 3) (hH : BlockIs w bh #[.int .i64 h] 3) (hne : bh ≠ bf) :
    SeqOwn Fence.wide n Try.prog 74 #[.pointer (some ⟨bf, 0, none⟩), .pointer (some ⟨bh, 0, none⟩)] (fun k : Nat => #[.int .i64 ((k : Int) + 1), .int .i64 (first + hcum h k)]) (K2 bf bh) bf (fun ys => ys = List.range 13) (fun pre => ∃ k, k ≤ 13 ∧ pre = List.range k) (fun pre k => pre = List.range k ∧ k < 13) w := by
  intro l J Jx W hW hJ hJx hJb hY h0
  have hF' := hF.below hW hF.lt
  have hH' := hH.below hW hH.lt
  have hsz := hW.size
  clear hF hH
  refine callsIn_of_wp Try.func74 rfl trivial ?_ rfl
  simp only [Try.ntmps74, List.size_toArray, List.length_cons, List.length_nil, Nat.reduceAdd, Nat.reduceSub, Array.replicate_succ, Array.replicate_zero, List.push_toArray, List.append_toArray, List.nil_append, List.cons_append]
  gi_wp2
  gi_loopw [4] (fun m wr => ∃ k : Nat, k ≤ 13 ∧ m = .int .i64 ((k : Int) + 1) ∧ J (List.range k) wr ∧ BlockIs wr bf #[.int .i64 (first + hcum h k)] 3 ∧ BlockIs wr bh #[.int .i64 h] 3 ∧ W.heap.size ≤ wr.heap.size) (fun m _ => (14 - intOf m).toNat)
  case atStart => exact ⟨0, by omega, rfl, h0, by simpa [hcum] using hF', hH', Nat.le_refl _⟩
  case round =>
    obtain ⟨k, hk, rfl, hJs, hbf, hbh, hsz⟩ := hrel
    by_cases hlt : k < 13
    · obtain ⟨fn, tmps, assign, body, hyy, hR⟩ := hY (List.range k) k wr hJs ⟨rfl, hlt⟩
      have hc1 : wr.cell? ⟨bf, 0, none⟩ = some (.int .i64 (first + hcum h k)) := hbf.cell rfl
      gi_wp2
      refine hR.mono ?_
      rintro e W3 (⟨rfl, hJ3, hk3⟩ | ⟨rfl, hJx3⟩)
      · have hbf3 : BlockIs W3 bf _ _ := hk3.2.1.trans hbf
        have hbh3 : BlockIs W3 bh _ _ := hk3.2.2.trans hbh
        have hs3 := hk3.1
        have c1 : W3.cell? ⟨bf, 0, none⟩ = some (.int .i64 (first + hcum h k)) := hbf3.cell rfl
        have c2 : W3.cell? ⟨bh, 0, none⟩ = some (.int .i64 h) := hbh3.cell rfl
        have f1 : W3.frozen? ⟨bf, 0, none⟩ = false := hbf3.free _
        have bd := hcum_bd hy k (by omega)
        have bl := ylen_bd hy
        have bm := hdim_ge h (k + 1)
        gi_wp2
        refine wpIn_wide.2 ?_
        go_region_with (first | (go_at_call 38; refine (hdays_any _ _ _).mono ?_; rintro e w' ⟨rfl, rfl⟩))
        all_goals
          gi_wp2
          go_round
          case rel =>
            refine ⟨k + 1, by omega, by go_num, ?_, ?_, ?_, by simp; omega⟩
            · rw [List.range_succ]
              exact hJ _ _ _ none (hJb _ _ _ hJ3) (grown_below ((Below.refl _ _).drew) (Nat.le_refl _) none) (by simp)
            · have := hbf3.set 0 (.int .i64 (first + hcum h k + hdim h (k + 1)))
              have e : first + hcum h (k + 1) = first + hcum h k + hdim h (k + 1) := by simp only [hcum]; omega
              rw [e]
              exact this.drew
            · exact (hbh3.other (by show bh ≠ bf; exact hne) _).drew
          case measure => simp [intOf]; omega
      · gi_wp2
        refine bodyPost_ret (v := .tuple #[]) (results_none rfl _ _ _) rfl ?_
        exact ⟨⟨_, rfl⟩, .inr ⟨_, ⟨k + 1, by omega, by rw [List.range_succ]⟩, hJx3⟩⟩
    · have : k = 13 := by omega
      subst this
      gi_wp2
      go_end0
      exact ⟨⟨_, rfl⟩, .inl ⟨_, rfl, hJs⟩⟩

end Go.Proofs.Ytdjfmcomeaijgaa
