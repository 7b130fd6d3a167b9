/- Part of the proof of TopHoly. -/
import Derived.Test.YtfnifgppblbjhaaGreatDoorY01
import Derived.Test.YtfnifgppblbjhaaGreatDoorY04
import Derived.Test.YtfnifgppblbjhaaGreatDoorY33
import Derived.Test.YtfnifgppblbjhaaGreatDoorY35
import Derived.BigRegionIn
namespace Go.Proofs.YtfnifgppblbjhaaGreatDoor
set_option maxHeartbeats 8000000
open Go Go.RowKit Go.Shelf Go.Sort
attribute [local go_sem] Oper.semAt_some
set_option linter.unusedVariables false
set_option linter.unusedSimpArgs false
def KB (b g : Nat) (A B : World) : Prop := A.heap.size ≤ B.heap.size ∧ B.heap[b]? = A.heap[b]? ∧ B.heap[g]? = A.heap[g]?
theorem KB.t {b g : Nat} {A B C : World} (x : KB b g A B) (y : KB b g B C) : KB b g A C := ⟨Nat.le_trans x.1 y.1, y.2.1.trans x.2.1, y.2.2.trans x.2.2⟩
theorem KB.refl (b g : Nat) (A : World) : KB b g A A := ⟨Nat.le_refl _, rfl, rfl⟩
theorem KB.of {b g : Nat} {A B : World} (hb : b < A.heap.size) (hg : g < A.heap.size) (x : Below A.heap.size A B) : KB b g A B := ⟨x.size, x.block b hb, x.block g hg⟩
theorem spiece_seq (n : Nat) (hn : 1 ≤ n) (be g cap : Nat) (xs : List Int) (w : World) (hE : BlockIs w be #[.slice (some ⟨g, 0, none⟩) xs.length cap] 22) (hH : Holds (Value.int .i64) w g 0 xs.toArray) (hg : g < w.heap.size) (hl : xs.length ≤ 1000) :
  SeqOwn Fence.wide n Tryz.prog 258 #[.pointer (some ⟨be, 0, none⟩)] (fun k : Nat => #[.int .i64 (xs.getD k 0), .int .i64 (xs.getD (k + 1) 0)]) (KB be g) be (fun ys => ys = List.range (xs.length - 1)) (fun pre => ∃ k, k ≤ xs.length - 1 ∧ pre = List.range k) (fun pre k => pre = List.range k ∧ k < xs.length - 1) w := by
 intro l J Jx W hW hJ hJx hJb hY h0
 have hE' := hE.below hW hE.lt
 have hHc := Lib.hid (show ∀ k, k < xs.length → w.cell? ⟨g, k, none⟩ = some (.int .i64 (xs.getD k 0)) from fun k hk => by
  have h := (hH k (by simpa using hk)).1
  rw [Nat.zero_add, getElem!_pos _ k (by simpa using hk)] at h
  rw [h, getD_at xs k hk]
  simp)
 have HW := Lib.hid hW
 have hsz := hW.size
 obtain ⟨L, hL⟩ : ∃ L, xs.length = L := ⟨_, rfl⟩
 rw [hL] at hE' hl
 have HE := Lib.hid hE'
 have HL := Lib.hid hL
 have hltE := hE'.lt
 clear hE hH hE' hW
 refine callsIn_of_wp Tryz.func258 rfl trivial ?_ rfl
 simp only [Tryz.ntmps258, List.size_toArray, List.length_cons, List.length_nil, Nat.reduceAdd, Nat.reduceSub, Array.replicate_succ, Array.replicate_zero, List.push_toArray, List.append_toArray, List.nil_append, List.cons_append]
 gi_wp2
 gi_loopw [3] (fun x wr => ∃ j : Nat, (j = 0 ∨ j + 1 ≤ L) ∧ x = .int .i64 ((j : Int) + 1) ∧ J (List.range j) wr ∧ Hid (KB be g W wr)) (fun x _ => (L + 1 - intOf x).toNat)
 case atStart => exact ⟨0, .inl rfl, rfl, h0, Lib.hid (KB.refl _ _ _)⟩
 case round =>
  obtain ⟨j, hj, rfl, hJs, HK⟩ := hrel
  have hbe : BlockIs wr be #[.slice (some ⟨g, 0, none⟩) L cap] 22 := HK.out.2.1.trans HE.out
  have y0 := hbe.cell (i := 0) (v := .slice (some ⟨g, 0, none⟩) L cap) rfl
  by_cases hlt : j + 1 < L
  ·have hd : decide ((j : Int) + 1 < (L : Int)) = true := by simp; omega
   have hi1 : (j : Int) + 1 < (L : Int) := by omega
   have hw0 : IntKind.i64.wrap (j : Int) = (j : Int) := IntWalk.i64_in _ ⟨by omega, by omega⟩
   have hj0 : (0 : Int) ≤ (j : Int) := by omega
   have hj1 : (0 : Int) ≤ (j : Int) + 1 := by omega
   have hjL : (j : Int) < (L : Int) := by omega
   have hcell : ∀ k, k < L → wr.cell? ⟨g, k, none⟩ = some (.int .i64 (xs.getD k 0)) := fun k hk => by
    have h1 := hHc.out k (by rw [HL.out]; exact hk)
    have h2 := (HW.out.cell (p := ⟨g, k, none⟩) hg).trans h1
    exact (World.cell?_of_block (w := W) (a := ⟨g, k, none⟩) HK.out.2.2).trans h2
   have y1 : wr.drew.cell? ⟨g, j, none⟩ = some (.int .i64 (xs.getD j 0)) := hcell j (by omega)
   have y2 : wr.drew.cell? ⟨g, j + 1, none⟩ = some (.int .i64 (xs.getD (j + 1) 0)) := hcell (j + 1) hlt
   have y3 : wr.drew.cell? ⟨be, 0, none⟩ = some (.slice (some ⟨g, 0, none⟩) L cap) := y0
   obtain ⟨A, hA⟩ : ∃ A, xs.getD j 0 = A := ⟨_, rfl⟩
   obtain ⟨B, hB⟩ : ∃ B, xs.getD (j + 1) 0 = B := ⟨_, rfl⟩
   have hY0 := hY (List.range j) j wr.drew (hJ _ _ _ none hJs (grown_below (Below.refl _ _).drew (Nat.le_refl _) none) (by simp)) ⟨rfl, by rw [HL.out]; omega⟩
   rw [hA, hB] at hY0
   rw [hA] at y1
   rw [hB] at y2
   clear hA hB
   obtain ⟨fn, tmps, assign, body, hyy, hR⟩ := hY0
   skip -- (List.range j) j wr.drew (hJ _ _ _ none hJs (grown_below (Below.refl _ _).drew (Nat.le_refl _) none) (by simp)) ⟨rfl, by rw [HL.out]; omega⟩
   clear hY hcell
   gi_wp2
   refine wpIn_region_any (by kernel_rfl) ?_
   change wpAnyIn _ _ _ _ _ _ _ _ _ (World.drew _)
   refine' wpAnyIn_take (i := 0) (v := ?va0) rfl rfl (by kernel_rfl) (by kernel_rfl) (by kernel_rfl) (fun _ _ _ h => h) ⟨Or.inl ⟨?ga0, ?ya0⟩, fun _ => rfl⟩ ?ra0
   case ga0 => rfl
   case ya0 => (intro w; go_simp; all_goals (with_reducible rfl))
   try simp only [pt]
   refine' wpAnyIn_take (i := 2) (v := ?va2) rfl rfl (by kernel_rfl) (by kernel_rfl) (by kernel_rfl) (fun _ _ _ h => h) ⟨Or.inl ⟨?ga2, ?ya2⟩, fun _ => rfl⟩ ?ra2
   case ga2 => rfl
   case ya2 => (intro w; go_simp; all_goals (with_reducible rfl))
   try simp only [pt]
   refine' wpAnyIn_take (i := 3) (v := ?va3) rfl rfl (by kernel_rfl) (by kernel_rfl) (by kernel_rfl) (fun _ _ _ h => h) ⟨Or.inl ⟨?ga3, ?ya3⟩, fun _ => rfl⟩ ?ra3
   case ga3 => rfl
   case ya3 => (intro w; go_simp; all_goals (with_reducible rfl))
   try simp only [pt]
   refine' wpAnyIn_take (i := 7) (v := ?va7) rfl rfl (by kernel_rfl) (by kernel_rfl) (by kernel_rfl) (fun _ _ _ h => h) ⟨Or.inl ⟨?ga7, ?ya7⟩, fun _ => rfl⟩ ?ra7
   case ga7 => rfl
   case ya7 => (intro w; go_simp; all_goals (with_reducible rfl))
   try simp only [pt]
   refine wpAnyIn_ready (rs := [1, 6]) (by kernel_rfl) (by simp) ?_
   refine' AllReadyIn.cons rfl (fun KK hKK => ?xa1) (AllReadyIn.cons rfl (fun KK hKK => ?xa6) AllReadyIn.nil)
   case xa1 =>
    go_simp
    refine hKK _ _ ?_
    clear hKK KK
    try simp only [pt]
    refine' wpAnyIn_take (i := 4) (v := ?vaq1q4) rfl rfl (by kernel_rfl) (by kernel_rfl) (by kernel_rfl) (fun _ _ _ h => h) ⟨Or.inl ⟨?gaq1q4, ?yaq1q4⟩, fun _ => rfl⟩ ?raq1q4
    case gaq1q4 => rfl
    case yaq1q4 => (intro w; go_simp; all_goals (with_reducible rfl))
    try simp only [pt]
    refine wpAnyIn_ready (rs := [5, 6]) (by kernel_rfl) (by simp) ?_
    refine' AllReadyIn.cons rfl (fun KK hKK => ?xaq1q5) (AllReadyIn.cons rfl (fun KK hKK => ?xaq1q6) AllReadyIn.nil)
    case xaq1q5 =>
     go_simp
     refine hKK _ _ ?_
     clear hKK KK
     try simp only [pt]
     refine wpAnyIn_ready (rs := [6]) (by kernel_rfl) (by simp) ?_
     refine' AllReadyIn.cons rfl (fun KK hKK => ?xaq1qq5q6) AllReadyIn.nil
     case xaq1qq5q6 =>
      go_simp
      refine hKK _ _ ?_
      clear hKK KK
      try simp only [pt]
      refine' wpAnyIn_take (i := 8) (v := ?vaq1qq5qq6q8) rfl rfl (by kernel_rfl) (by kernel_rfl) (by kernel_rfl) (fun _ _ _ h => h) ⟨Or.inl ⟨?gaq1qq5qq6q8, ?yaq1qq5qq6q8⟩, fun _ => rfl⟩ ?raq1qq5qq6q8
      case gaq1qq5qq6q8 => rfl
      case yaq1qq5qq6q8 => (intro w; go_simp; all_goals (with_reducible rfl))
      try simp only [pt]
      refine wpAnyIn_ready (rs := [9]) (by kernel_rfl) (by simp) ?_
      refine' AllReadyIn.cons rfl (fun KK hKK => ?xaq1qq5qq6q9) AllReadyIn.nil
      case xaq1qq5qq6q9 =>
       go_simp
       refine hKK _ _ ?_
       clear hKK KK
       try simp only [pt]
       refine wpAnyIn_ready (rs := [10]) (by kernel_rfl) (by simp) ?_
       refine' AllReadyIn.cons rfl (fun KK hKK => ?zaq1qq5qq6qq9q) AllReadyIn.nil
       case zaq1qq5qq6qq9q =>
        go_simp
        refine hR.mono ?_
        rintro e W3 (⟨rfl, hJ3, hk3⟩ | ⟨rfl, hJx3⟩)
        ·refine hKK _ _ ?_
         clear hKK KK
         try simp only [pt]
         refine' wpAnyIn_take (i := 11) (v := ?vaq1qq5qq6qq9qa11) rfl rfl (by kernel_rfl) (by kernel_rfl) (by kernel_rfl) (fun _ _ _ h => h) ⟨Or.inl ⟨?gaq1qq5qq6qq9qa11, ?yaq1qq5qq6qq9qa11⟩, fun _ => rfl⟩ ?raq1qq5qq6qq9qa11
         case gaq1qq5qq6qq9qa11 => rfl
         case yaq1qq5qq6qq9qa11 => (intro w; go_simp; all_goals (with_reducible rfl))
         try simp only [pt]
         refine wpAnyIn_done (by kernel_rfl) ?_ _
         gi_wp2
         go_round
         case rel => exact ⟨j + 1, .inr (by omega), by go_num, by rw [List.range_succ]; exact hJ3, Lib.hid (HK.out.t hk3)⟩
         case measure => simp [intOf]; omega
        ·refine hKK _ _ ?_
         clear hKK KK
         try simp only [pt]
         refine' wpAnyIn_take (i := 11) (v := ?vaq1qq5qq6qq9qb11) rfl rfl (by kernel_rfl) (by kernel_rfl) (by kernel_rfl) (fun _ _ _ h => h) ⟨Or.inl ⟨?gaq1qq5qq6qq9qb11, ?yaq1qq5qq6qq9qb11⟩, fun _ => rfl⟩ ?raq1qq5qq6qq9qb11
         case gaq1qq5qq6qq9qb11 => rfl
         case yaq1qq5qq6qq9qb11 => (intro w; go_simp; all_goals (with_reducible rfl))
         try simp only [pt]
         refine wpAnyIn_done (by kernel_rfl) ?_ _
         gi_wp2
         refine bodyPost_ret (v := .tuple #[]) (results_none rfl _ _ _) rfl ?_
         exact ⟨⟨_, rfl⟩, .inr ⟨_, ⟨j + 1, by have := HL.out; omega, by rw [List.range_succ]⟩, hJx3⟩⟩
    case xaq1q6 =>
     go_simp
     refine hKK _ _ ?_
     clear hKK KK
     try simp only [pt]
     refine' wpAnyIn_take (i := 8) (v := ?vaq1qq6q8) rfl rfl (by kernel_rfl) (by kernel_rfl) (by kernel_rfl) (fun _ _ _ h => h) ⟨Or.inl ⟨?gaq1qq6q8, ?yaq1qq6q8⟩, fun _ => rfl⟩ ?raq1qq6q8
     case gaq1qq6q8 => rfl
     case yaq1qq6q8 => (intro w; go_simp; all_goals (with_reducible rfl))
     try simp only [pt]
     refine wpAnyIn_ready (rs := [5, 9]) (by kernel_rfl) (by simp) ?_
     refine' AllReadyIn.cons rfl (fun KK hKK => ?xaq1qq6q5) (AllReadyIn.cons rfl (fun KK hKK => ?xaq1qq6q9) AllReadyIn.nil)
     case xaq1qq6q5 =>
      go_simp
      refine hKK _ _ ?_
      clear hKK KK
      try simp only [pt]
      refine wpAnyIn_ready (rs := [9]) (by kernel_rfl) (by simp) ?_
      refine' AllReadyIn.cons rfl (fun KK hKK => ?xaq1qq6qq5q9) AllReadyIn.nil
      case xaq1qq6qq5q9 =>
       go_simp
       refine hKK _ _ ?_
       clear hKK KK
       try simp only [pt]
       refine wpAnyIn_ready (rs := [10]) (by kernel_rfl) (by simp) ?_
       refine' AllReadyIn.cons rfl (fun KK hKK => ?zaq1qq6qq5qq9q) AllReadyIn.nil
       case zaq1qq6qq5qq9q =>
        go_simp
        refine hR.mono ?_
        rintro e W3 (⟨rfl, hJ3, hk3⟩ | ⟨rfl, hJx3⟩)
        ·refine hKK _ _ ?_
         clear hKK KK
         try simp only [pt]
         refine' wpAnyIn_take (i := 11) (v := ?vaq1qq6qq5qq9qa11) rfl rfl (by kernel_rfl) (by kernel_rfl) (by kernel_rfl) (fun _ _ _ h => h) ⟨Or.inl ⟨?gaq1qq6qq5qq9qa11, ?yaq1qq6qq5qq9qa11⟩, fun _ => rfl⟩ ?raq1qq6qq5qq9qa11
         case gaq1qq6qq5qq9qa11 => rfl
         case yaq1qq6qq5qq9qa11 => (intro w; go_simp; all_goals (with_reducible rfl))
         try simp only [pt]
         refine wpAnyIn_done (by kernel_rfl) ?_ _
         gi_wp2
         go_round
         case rel => exact ⟨j + 1, .inr (by omega), by go_num, by rw [List.range_succ]; exact hJ3, Lib.hid (HK.out.t hk3)⟩
         case measure => simp [intOf]; omega
        ·refine hKK _ _ ?_
         clear hKK KK
         try simp only [pt]
         refine' wpAnyIn_take (i := 11) (v := ?vaq1qq6qq5qq9qb11) rfl rfl (by kernel_rfl) (by kernel_rfl) (by kernel_rfl) (fun _ _ _ h => h) ⟨Or.inl ⟨?gaq1qq6qq5qq9qb11, ?yaq1qq6qq5qq9qb11⟩, fun _ => rfl⟩ ?raq1qq6qq5qq9qb11
         case gaq1qq6qq5qq9qb11 => rfl
         case yaq1qq6qq5qq9qb11 => (intro w; go_simp; all_goals (with_reducible rfl))
         try simp only [pt]
         refine wpAnyIn_done (by kernel_rfl) ?_ _
         gi_wp2
         refine bodyPost_ret (v := .tuple #[]) (results_none rfl _ _ _) rfl ?_
         exact ⟨⟨_, rfl⟩, .inr ⟨_, ⟨j + 1, by have := HL.out; omega, by rw [List.range_succ]⟩, hJx3⟩⟩
     case xaq1qq6q9 =>
      go_simp
      refine hKK _ _ ?_
      clear hKK KK
      try simp only [pt]
      refine wpAnyIn_ready (rs := [5]) (by kernel_rfl) (by simp) ?_
      refine' AllReadyIn.cons rfl (fun KK hKK => ?xaq1qq6qq9q5) AllReadyIn.nil
      case xaq1qq6qq9q5 =>
       go_simp
       refine hKK _ _ ?_
       clear hKK KK
       try simp only [pt]
       refine wpAnyIn_ready (rs := [10]) (by kernel_rfl) (by simp) ?_
       refine' AllReadyIn.cons rfl (fun KK hKK => ?zaq1qq6qq9qq5q) AllReadyIn.nil
       case zaq1qq6qq9qq5q =>
        go_simp
        refine hR.mono ?_
        rintro e W3 (⟨rfl, hJ3, hk3⟩ | ⟨rfl, hJx3⟩)
        ·refine hKK _ _ ?_
         clear hKK KK
         try simp only [pt]
         refine' wpAnyIn_take (i := 11) (v := ?vaq1qq6qq9qq5qa11) rfl rfl (by kernel_rfl) (by kernel_rfl) (by kernel_rfl) (fun _ _ _ h => h) ⟨Or.inl ⟨?gaq1qq6qq9qq5qa11, ?yaq1qq6qq9qq5qa11⟩, fun _ => rfl⟩ ?raq1qq6qq9qq5qa11
         case gaq1qq6qq9qq5qa11 => rfl
         case yaq1qq6qq9qq5qa11 => (intro w; go_simp; all_goals (with_reducible rfl))
         try simp only [pt]
         refine wpAnyIn_done (by kernel_rfl) ?_ _
         gi_wp2
         go_round
         case rel => exact ⟨j + 1, .inr (by omega), by go_num, by rw [List.range_succ]; exact hJ3, Lib.hid (HK.out.t hk3)⟩
         case measure => simp [intOf]; omega
        ·refine hKK _ _ ?_
         clear hKK KK
         try simp only [pt]
         refine' wpAnyIn_take (i := 11) (v := ?vaq1qq6qq9qq5qb11) rfl rfl (by kernel_rfl) (by kernel_rfl) (by kernel_rfl) (fun _ _ _ h => h) ⟨Or.inl ⟨?gaq1qq6qq9qq5qb11, ?yaq1qq6qq9qq5qb11⟩, fun _ => rfl⟩ ?raq1qq6qq9qq5qb11
         case gaq1qq6qq9qq5qb11 => rfl
         case yaq1qq6qq9qq5qb11 => (intro w; go_simp; all_goals (with_reducible rfl))
         try simp only [pt]
         refine wpAnyIn_done (by kernel_rfl) ?_ _
         gi_wp2
         refine bodyPost_ret (v := .tuple #[]) (results_none rfl _ _ _) rfl ?_
         exact ⟨⟨_, rfl⟩, .inr ⟨_, ⟨j + 1, by have := HL.out; omega, by rw [List.range_succ]⟩, hJx3⟩⟩
   case xa6 =>
    go_simp
    refine hKK _ _ ?_
    clear hKK KK
    try simp only [pt]
    refine' wpAnyIn_take (i := 8) (v := ?vaq6q8) rfl rfl (by kernel_rfl) (by kernel_rfl) (by kernel_rfl) (fun _ _ _ h => h) ⟨Or.inl ⟨?gaq6q8, ?yaq6q8⟩, fun _ => rfl⟩ ?raq6q8
    case gaq6q8 => rfl
    case yaq6q8 => (intro w; go_simp; all_goals (with_reducible rfl))
    try simp only [pt]
    refine wpAnyIn_ready (rs := [1, 9]) (by kernel_rfl) (by simp) ?_
    refine' AllReadyIn.cons rfl (fun KK hKK => ?xaq6q1) (AllReadyIn.cons rfl (fun KK hKK => ?xaq6q9) AllReadyIn.nil)
    case xaq6q1 =>
     go_simp
     refine hKK _ _ ?_
     clear hKK KK
     try simp only [pt]
     refine' wpAnyIn_take (i := 4) (v := ?vaq6qq1q4) rfl rfl (by kernel_rfl) (by kernel_rfl) (by kernel_rfl) (fun _ _ _ h => h) ⟨Or.inl ⟨?gaq6qq1q4, ?yaq6qq1q4⟩, fun _ => rfl⟩ ?raq6qq1q4
     case gaq6qq1q4 => rfl
     case yaq6qq1q4 => (intro w; go_simp; all_goals (with_reducible rfl))
     try simp only [pt]
     refine wpAnyIn_ready (rs := [5, 9]) (by kernel_rfl) (by simp) ?_
     refine' AllReadyIn.cons rfl (fun KK hKK => ?xaq6qq1q5) (AllReadyIn.cons rfl (fun KK hKK => ?xaq6qq1q9) AllReadyIn.nil)
     case xaq6qq1q5 =>
      go_simp
      refine hKK _ _ ?_
      clear hKK KK
      try simp only [pt]
      refine wpAnyIn_ready (rs := [9]) (by kernel_rfl) (by simp) ?_
      refine' AllReadyIn.cons rfl (fun KK hKK => ?xaq6qq1qq5q9) AllReadyIn.nil
      case xaq6qq1qq5q9 =>
       go_simp
       refine hKK _ _ ?_
       clear hKK KK
       try simp only [pt]
       refine wpAnyIn_ready (rs := [10]) (by kernel_rfl) (by simp) ?_
       refine' AllReadyIn.cons rfl (fun KK hKK => ?zaq6qq1qq5qq9q) AllReadyIn.nil
       case zaq6qq1qq5qq9q =>
        go_simp
        refine hR.mono ?_
        rintro e W3 (⟨rfl, hJ3, hk3⟩ | ⟨rfl, hJx3⟩)
        ·refine hKK _ _ ?_
         clear hKK KK
         try simp only [pt]
         refine' wpAnyIn_take (i := 11) (v := ?vaq6qq1qq5qq9qa11) rfl rfl (by kernel_rfl) (by kernel_rfl) (by kernel_rfl) (fun _ _ _ h => h) ⟨Or.inl ⟨?gaq6qq1qq5qq9qa11, ?yaq6qq1qq5qq9qa11⟩, fun _ => rfl⟩ ?raq6qq1qq5qq9qa11
         case gaq6qq1qq5qq9qa11 => rfl
         case yaq6qq1qq5qq9qa11 => (intro w; go_simp; all_goals (with_reducible rfl))
         try simp only [pt]
         refine wpAnyIn_done (by kernel_rfl) ?_ _
         gi_wp2
         go_round
         case rel => exact ⟨j + 1, .inr (by omega), by go_num, by rw [List.range_succ]; exact hJ3, Lib.hid (HK.out.t hk3)⟩
         case measure => simp [intOf]; omega
        ·refine hKK _ _ ?_
         clear hKK KK
         try simp only [pt]
         refine' wpAnyIn_take (i := 11) (v := ?vaq6qq1qq5qq9qb11) rfl rfl (by kernel_rfl) (by kernel_rfl) (by kernel_rfl) (fun _ _ _ h => h) ⟨Or.inl ⟨?gaq6qq1qq5qq9qb11, ?yaq6qq1qq5qq9qb11⟩, fun _ => rfl⟩ ?raq6qq1qq5qq9qb11
         case gaq6qq1qq5qq9qb11 => rfl
         case yaq6qq1qq5qq9qb11 => (intro w; go_simp; all_goals (with_reducible rfl))
         try simp only [pt]
         refine wpAnyIn_done (by kernel_rfl) ?_ _
         gi_wp2
         refine bodyPost_ret (v := .tuple #[]) (results_none rfl _ _ _) rfl ?_
         exact ⟨⟨_, rfl⟩, .inr ⟨_, ⟨j + 1, by have := HL.out; omega, by rw [List.range_succ]⟩, hJx3⟩⟩
     case xaq6qq1q9 =>
      go_simp
      refine hKK _ _ ?_
      clear hKK KK
      try simp only [pt]
      refine wpAnyIn_ready (rs := [5]) (by kernel_rfl) (by simp) ?_
      refine' AllReadyIn.cons rfl (fun KK hKK => ?xaq6qq1qq9q5) AllReadyIn.nil
      case xaq6qq1qq9q5 =>
       go_simp
       refine hKK _ _ ?_
       clear hKK KK
       try simp only [pt]
       refine wpAnyIn_ready (rs := [10]) (by kernel_rfl) (by simp) ?_
       refine' AllReadyIn.cons rfl (fun KK hKK => ?zaq6qq1qq9qq5q) AllReadyIn.nil
       case zaq6qq1qq9qq5q =>
        go_simp
        refine hR.mono ?_
        rintro e W3 (⟨rfl, hJ3, hk3⟩ | ⟨rfl, hJx3⟩)
        ·refine hKK _ _ ?_
         clear hKK KK
         try simp only [pt]
         refine' wpAnyIn_take (i := 11) (v := ?vaq6qq1qq9qq5qa11) rfl rfl (by kernel_rfl) (by kernel_rfl) (by kernel_rfl) (fun _ _ _ h => h) ⟨Or.inl ⟨?gaq6qq1qq9qq5qa11, ?yaq6qq1qq9qq5qa11⟩, fun _ => rfl⟩ ?raq6qq1qq9qq5qa11
         case gaq6qq1qq9qq5qa11 => rfl
         case yaq6qq1qq9qq5qa11 => (intro w; go_simp; all_goals (with_reducible rfl))
         try simp only [pt]
         refine wpAnyIn_done (by kernel_rfl) ?_ _
         gi_wp2
         go_round
         case rel => exact ⟨j + 1, .inr (by omega), by go_num, by rw [List.range_succ]; exact hJ3, Lib.hid (HK.out.t hk3)⟩
         case measure => simp [intOf]; omega
        ·refine hKK _ _ ?_
         clear hKK KK
         try simp only [pt]
         refine' wpAnyIn_take (i := 11) (v := ?vaq6qq1qq9qq5qb11) rfl rfl (by kernel_rfl) (by kernel_rfl) (by kernel_rfl) (fun _ _ _ h => h) ⟨Or.inl ⟨?gaq6qq1qq9qq5qb11, ?yaq6qq1qq9qq5qb11⟩, fun _ => rfl⟩ ?raq6qq1qq9qq5qb11
         case gaq6qq1qq9qq5qb11 => rfl
         case yaq6qq1qq9qq5qb11 => (intro w; go_simp; all_goals (with_reducible rfl))
         try simp only [pt]
         refine wpAnyIn_done (by kernel_rfl) ?_ _
         gi_wp2
         refine bodyPost_ret (v := .tuple #[]) (results_none rfl _ _ _) rfl ?_
         exact ⟨⟨_, rfl⟩, .inr ⟨_, ⟨j + 1, by have := HL.out; omega, by rw [List.range_succ]⟩, hJx3⟩⟩
    case xaq6q9 =>
     go_simp
     refine hKK _ _ ?_
     clear hKK KK
     try simp only [pt]
     refine wpAnyIn_ready (rs := [1]) (by kernel_rfl) (by simp) ?_
     refine' AllReadyIn.cons rfl (fun KK hKK => ?xaq6qq9q1) AllReadyIn.nil
     case xaq6qq9q1 =>
      go_simp
      refine hKK _ _ ?_
      clear hKK KK
      try simp only [pt]
      refine' wpAnyIn_take (i := 4) (v := ?vaq6qq9qq1q4) rfl rfl (by kernel_rfl) (by kernel_rfl) (by kernel_rfl) (fun _ _ _ h => h) ⟨Or.inl ⟨?gaq6qq9qq1q4, ?yaq6qq9qq1q4⟩, fun _ => rfl⟩ ?raq6qq9qq1q4
      case gaq6qq9qq1q4 => rfl
      case yaq6qq9qq1q4 => (intro w; go_simp; all_goals (with_reducible rfl))
      try simp only [pt]
      refine wpAnyIn_ready (rs := [5]) (by kernel_rfl) (by simp) ?_
      refine' AllReadyIn.cons rfl (fun KK hKK => ?xaq6qq9qq1q5) AllReadyIn.nil
      case xaq6qq9qq1q5 =>
       go_simp
       refine hKK _ _ ?_
       clear hKK KK
       try simp only [pt]
       refine wpAnyIn_ready (rs := [10]) (by kernel_rfl) (by simp) ?_
       refine' AllReadyIn.cons rfl (fun KK hKK => ?zaq6qq9qq1qq5q) AllReadyIn.nil
       case zaq6qq9qq1qq5q =>
        go_simp
        refine hR.mono ?_
        rintro e W3 (⟨rfl, hJ3, hk3⟩ | ⟨rfl, hJx3⟩)
        ·refine hKK _ _ ?_
         clear hKK KK
         try simp only [pt]
         refine' wpAnyIn_take (i := 11) (v := ?vaq6qq9qq1qq5qa11) rfl rfl (by kernel_rfl) (by kernel_rfl) (by kernel_rfl) (fun _ _ _ h => h) ⟨Or.inl ⟨?gaq6qq9qq1qq5qa11, ?yaq6qq9qq1qq5qa11⟩, fun _ => rfl⟩ ?raq6qq9qq1qq5qa11
         case gaq6qq9qq1qq5qa11 => rfl
         case yaq6qq9qq1qq5qa11 => (intro w; go_simp; all_goals (with_reducible rfl))
         try simp only [pt]
         refine wpAnyIn_done (by kernel_rfl) ?_ _
         gi_wp2
         go_round
         case rel => exact ⟨j + 1, .inr (by omega), by go_num, by rw [List.range_succ]; exact hJ3, Lib.hid (HK.out.t hk3)⟩
         case measure => simp [intOf]; omega
        ·refine hKK _ _ ?_
         clear hKK KK
         try simp only [pt]
         refine' wpAnyIn_take (i := 11) (v := ?vaq6qq9qq1qq5qb11) rfl rfl (by kernel_rfl) (by kernel_rfl) (by kernel_rfl) (fun _ _ _ h => h) ⟨Or.inl ⟨?gaq6qq9qq1qq5qb11, ?yaq6qq9qq1qq5qb11⟩, fun _ => rfl⟩ ?raq6qq9qq1qq5qb11
         case gaq6qq9qq1qq5qb11 => rfl
         case yaq6qq9qq1qq5qb11 => (intro w; go_simp; all_goals (with_reducible rfl))
         try simp only [pt]
         refine wpAnyIn_done (by kernel_rfl) ?_ _
         gi_wp2
         refine bodyPost_ret (v := .tuple #[]) (results_none rfl _ _ _) rfl ?_
         exact ⟨⟨_, rfl⟩, .inr ⟨_, ⟨j + 1, by have := HL.out; omega, by rw [List.range_succ]⟩, hJx3⟩⟩
  ·have hd : decide ((j : Int) + 1 < (L : Int)) = false := by simp; omega
   gi_wp2
   go_end0
   exact ⟨⟨_, rfl⟩, .inl ⟨_, by rw [HL.out, show L - 1 = j by omega], hJs⟩⟩
end Go.Proofs.YtfnifgppblbjhaaGreatDoor
namespace Go.Proofs.YtfnifgppblbjhaaGreatDoor
set_option maxHeartbeats 8000000
open Go Go.RowKit
set_option linter.unusedVariables false
set_option linter.unusedSimpArgs false
section
variable {P : Program} {Q : Exit → Act → World → Prop} {ops : Array Oper} {md : Region.Mode}
theorem rowsIn_of {l n : Nat} {row : String} {args : Array Value} {w : World} {R : Value → World → Prop} (h : Rows P row args w R) : RowsIn (Fence.wide.inRound l) n P row args w R :=
 fun c cs _ => let ⟨v, w', r, s⟩ := h c cs; ⟨v, w', r, by rw [fenced_inRound]; exact stepsIn_wide.2 s⟩
theorem operIn_of {l n : Nat} {o : Oper} {a : Act} {w : World} {K : Act → World → Prop} (hd : ∀ c, o.op ≠ .defer c) (h : o.wp P a w K Q) : o.wpIn (Fence.wide.inRound l) n P a w K Q := by
 refine ⟨fun f _ => trivial, ?_⟩
 rw [show (Fence.wide.inRound l).round = some l from rfl, Oper.semAt_some l _ _ hd]
 unfold Oper.wp at h
 generalize (execOp a.eval o).run P w = r at *
 cases r with
 | ok nx w' =>
  cases nx with
  | value v => exact h
  | skip => exact h
  | defer d => exact h
  | enter f args => exact ⟨fun h => by simp [Fence.wide, Fence.inRound] at h, CallsIn.inRound l (callsIn_wide.2 h)⟩
  | row row args => exact ⟨fun h => by simp [Fence.wide, Fence.inRound] at h, rowsIn_of h⟩
  | _ => exact h.elim
 | halt x w' => cases x <;> exact h
def noDefer (ops : Array Oper) : Bool := ops.all fun o => match o.op with | .defer _ => false | _ => true
theorem noDefer_at (h : noDefer ops = true) {i : Nat} {o : Oper} (ho : ops[i]? = some o) : ∀ c, o.op ≠ .defer c := by
 intro c e
 have := Array.all_eq_true_iff_forall_mem.1 h o (Array.mem_of_getElem? ho)
 simp [e] at this
theorem wpAnyIn_of {l n : Nat} (hd : noDefer ops = true) (hL : ¬ LetsOut Q) : ∀ (fuel : Nat) (listed : Array Bool) (a : Act) (w : World), wpAny P md ops Q fuel listed a w → wpAnyIn (Fence.wide.inRound l) n P md ops Q fuel listed a w
 | 0, _, _, _, h => h
 | fuel + 1, listed, a, w, h => by
  refine ⟨h.1, fun i hi => ?_⟩
  have h2 := h.2 i hi
  unfold wpOp at h2
  unfold wpOpIn
  cases ho : ops[i]? with
  | none => rw [ho] at h2; exact wpAnyIn_of hd hL fuel _ _ _ h2
  | some o =>
   rw [ho] at h2
   dsimp only at h2 ⊢
   split
   ·rename_i hw
    rw [if_pos hw] at h2
    rcases h2 with h2 | h2
    ·exact operIn_of (noDefer_at hd ho) (Oper.wp_mono (fun a' w' h' => wpAnyIn_of hd hL fuel _ _ _ h') h2)
    ·exact (hL h2.2).elim
   ·rename_i hw
    rw [if_neg hw] at h2
    exact ⟨fun f _ => trivial, wpAnyIn_of hd hL fuel _ _ _ h2⟩
theorem wpIn_region_drew {l n : Nat} {S : World → Prop} {id : Nat} {a : Act} {w : World} (hm : P.follows .mixedOrders = true) (hd : noDefer ops = true) (hL : ¬ LetsOut Q) (hS : S w.drew)
  (h : S w.drew → wpAnyH P .any ops Q S ops.size (Array.replicate ops.size false) a w.drew) : (Code.region id ops true).wpIn (Fence.wide.inRound l) n P Q a w :=
 wpIn_region_any hm (wpAnyIn_of hd hL _ _ _ _ (wpAny_of_held _ _ _ _ (h hS)))
end
end Go.Proofs.YtfnifgppblbjhaaGreatDoor
