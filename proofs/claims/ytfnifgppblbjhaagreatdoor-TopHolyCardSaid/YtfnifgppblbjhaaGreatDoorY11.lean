/- Part of the proof of TopHoly. -/
import Derived.Test.YtfnifgppblbjhaaGreatDoorY10
import Derived.ArgAppend
import Derived.BigQuiet
import Derived.Deep.MidRow
import Derived.Laws.BitsAllLaws
namespace Go.Proofs.YtfnifgppblbjhaaGreatDoor
set_option maxHeartbeats 8000000
open Go Go.RowKit
set_option linter.unusedVariables false
set_option linter.unusedSimpArgs false
theorem bts_at (l : List Nat) (i x : Nat) (h : l[i]? = some x) : (bts l)[i]? = some (.int .u8 (x : Int)) := by simp [bts, h]
theorem range_tail {W : World} {g o : Nat} {v : Value} {l : List Value} (h : W.rangeAt g o (v :: l)) : W.rangeAt g (o + 1) l := fun j u hu => by
 have := h (j + 1) u (by simpa using hu)
 rw [show o + 1 + j = o + (j + 1) by omega]; exact this
theorem range_head {W : World} {g o : Nat} {v : Value} {l : List Value} (h : W.rangeAt g o (v :: l)) : W.cell? ⟨g, o, none⟩ = some v := h 0 v rfl
theorem three {a b : Int} {x y : Value} (h : a = b) : Ending.returned (.tuple #[x, .int .i64 a, y]) = Ending.returned (.tuple #[x, .int .i64 b, y]) := by rw [h]
def ReadI (w : World) (c g o L k x acc : Nat) : Prop := k ≤ 9 ∧ acc < 128 ^ k ∧ x < 128 ^ (9 - k) * 2 ∧ c = acc + x * 128 ^ k ∧ (0 < k → 1 ≤ x) ∧ L = k + (putC (9 - k) x).length ∧ w.rangeAt g (o + k) (bts (putC (9 - k) x))
theorem read_nil (p : Option Addr) (cap : Nat) (w : World) : Calls Tryz.prog 205 #[.slice p 0 cap] w fun e w' => e = .returned (.tuple #[.int .u64 0, .int .i64 0, .int .i64 0]) ∧ w = w' := by
 go_enter Tryz.func205, Tryz.ntmps205
 go_wp2_with fail
 go_loopw [10] (fun idx wr => idx = .int .i64 0 ∧ w = wr) (fun _ _ => 0)
 case atStart => exact ⟨rfl, rfl⟩
 case round =>
  obtain ⟨rfl, rfl⟩ := hrel
  go_wp2_with fail
  go_ret3
  exact ⟨rfl, rfl⟩
theorem read_ok (c' g o n cap : Nat) (w : World) (hc : c' < 18446744073709551616) (hr : w.rangeAt g o (bts (putC 9 c'))) (hn : (putC 9 c').length ≤ n) :
  Calls Tryz.prog 205 #[.slice (some ⟨g, o, none⟩) n cap] w fun e w' => e = .returned (.tuple #[.int .u64 (c' : Int), .int .i64 ((putC 9 c').length : Int), .int .i64 2]) ∧ w = w' := by
 obtain ⟨L, hL⟩ : ∃ L, (putC 9 c').length = L := ⟨_, rfl⟩
 have hr0 : w.rangeAt g (o + 0) (bts (putC (9 - 0) c')) := hr
 rw [hL] at hn ⊢
 have hL0 : L = 0 + (putC (9 - 0) c').length := by rw [← hL]; simp
 have hst : ReadI w c' g o L 0 c' 0 := ⟨by omega, by simp, by simpa using hc, by simp, by omega, hL0, hr0⟩
 clear hL hr hr0 hL0
 go_enter Tryz.func205, Tryz.ntmps205
 go_wp2_with fail
 go_loopw [5, 6, 7, 10] (fun av _ _ idx wr => ∃ (k x acc : Nat), idx = .int .i64 (k : Int) ∧ av = .int .u64 (acc : Int) ∧ ReadI w c' g o L k x acc ∧ w = wr) (fun _ _ _ i _ => (n - intOf i).toNat)
 case atStart => exact ⟨0, c', 0, rfl, rfl, hst, rfl⟩
 case round =>
  obtain ⟨k, x, acc, rfl, rfl, ⟨hk, ha, hx, hcx, hx1, hLk, hrk⟩, rfl⟩ := hrel
  have hx64 := x64 hx
  have hm := x_more hk hx
  have hlen := putC_len (9 - k) x
  by_cases c : x < 128
  ·rw [putC_one c] at hLk hrk
   have hcell : w.cell? ⟨g, o + k, none⟩ = some (.int .u8 (x : Int)) := range_head hrk
   have hor := or7 acc x k hk ha c (fun h9 => by subst h9; simpa using hx)
   rw [← hcx] at hor
   have HOR := Lib.hid hor
   have f9 : ((k : Int) == 9) = true → decide (1 < (x : Int)) = false := fun h => by
    have h9 : k = 9 := by have : (k : Int) = 9 := (by simpa using h); omega
    subst h9; simp at hx; simp; omega
   have f0 : decide (0 < k) = true → ((x : Int) == 0) = false := fun h => by have := hx1 (by simpa using h); simp; omega
   have HXM := Lib.hid (show (x : Int) % 128 = x by omega)
   have HLL := Lib.hid (show (k : Int) + 1 = (L : Int) by have : L = k + 1 := (by simpa using hLk); omega)
   have hkn : k < n := by have : L = k + 1 := (by simpa using hLk); omega
   have hlt : decide (k < n) = true := by simpa using hkn
   have x0 : (0 : Int) ≤ x := by omega
   have x1 : (x : Int) < 128 := by omega
   clear hx hm hlen hcx ha hrk hLk hst hor hc hx64 c hx1
   generalize (x : Int) = X at *
   have hlt8 : decide (X < 128) = true := by simpa using x1
   rcases (Bool.eq_false_or_eq_true ((k : Int) == 9)).symm with b9 | b9
   all_goals rcases (Bool.eq_false_or_eq_true (decide (0 < k))).symm with b0 | b0
   all_goals first | have g9 := f9 b9 | skip
   all_goals first | have g0 := f0 b0 | skip
   all_goals clear f9 f0
   all_goals go_wp2_with fail
   all_goals
    try rw [HXM.out]
    rw [HOR.out]
    go_ret3
    exact ⟨three HLL.out, rfl⟩
  ·obtain ⟨hk9, hx2, he⟩ := hm c
   rw [he, putC_more c] at hLk hrk
   have hcell : w.cell? ⟨g, o + k, none⟩ = some (.int .u8 ((x % 128 + 128 : Nat) : Int)) := range_head hrk
   have hrk2 : w.rangeAt g (o + (k + 1)) (bts (putC (9 - (k + 1)) (x / 128))) := range_tail hrk
   have hor := or7 acc (x % 128) k hk ha (Nat.mod_lt _ (by omega)) (fun h9 => by omega)
   have hst2 : ReadI w c' g o L (k + 1) (x / 128) (acc + x % 128 * 128 ^ k) := by
    refine ⟨by omega, ?_, hx2, ?_, fun _ => by omega, by rw [List.length_cons] at hLk; omega, hrk2⟩
    ·have : x % 128 * 128 ^ k ≤ 127 * 128 ^ k := Nat.mul_le_mul_right _ (by omega)
     rw [Nat.pow_succ]; omega
    ·rw [hcx, Nat.pow_succ]
     have e : x = 128 * (x / 128) + x % 128 := by omega
     have : x * 128 ^ k = 128 * (x / 128) * 128 ^ k + x % 128 * 128 ^ k := by rw [← Nat.add_mul, ← e]
     rw [this, show x / 128 * (128 ^ k * 128) = 128 * (x / 128) * 128 ^ k by rw [Nat.mul_comm (128 ^ k) 128, ← Nat.mul_assoc, Nat.mul_comm (x / 128) 128]]
     omega
   have HOR := Lib.hid hor
   have b9 : ((k : Int) == 9) = false := by simp; omega
   have HXM := Lib.hid (show ((x % 128 + 128 : Nat) : Int) % 128 = ((x % 128 : Nat) : Int) by omega)
   have hkn : k < n := by have := putC_len (9 - (k + 1)) (x / 128); simp at hLk; omega
   have hlt : decide (k < n) = true := by simpa using hkn
   have y0 : (128 : Int) ≤ ((x % 128 + 128 : Nat) : Int) := by omega
   have y1 : ((x % 128 + 128 : Nat) : Int) < 256 := by omega
   have HS := Lib.hid hst2
   clear hx hm hlen hcx ha hrk hLk hst hor hc hx64 c hx1 hx2 he hrk2 hst2
   generalize ((x % 128 + 128 : Nat) : Int) = Y at *
   generalize ((x % 128 : Nat) : Int) = Z at *
   have hlt8 : decide (Y < 128) = false := by simpa using y0
   go_wp2_with fail
   try rw [HXM.out]
   rw [HOR.out]
   go_round
   case rel => exact ⟨k + 1, x / 128, _, by go_num, rfl, HS.out, trivial⟩
   case measure => simp [intOf]; omega
theorem xor16_lt {a b : Nat} (h : a < 16) (h' : b < 16) : a ^^^ b < 16 := Nat.xor_lt_two_pow (n := 4) h h'
theorem halves_lt (i : Nat) : halves i < 65536 := by
 have : ∀ i, i < 16 → halves i < 65536 := by decide
 by_cases h : i < 16
 ·exact this i h
 ·have : halves i = 0 := by unfold halves; rw [Array.getD_eq_getD_getElem?, Array.getElem?_eq_none (by simp; omega)]; rfl
  omega
theorem nextV_lt (s x : Nat) : nextV s x < 65536 := Nat.xor_lt_two_pow (n := 16) (Nat.mod_lt _ (by omega)) (halves_lt _)
theorem cnext_ok (s x : Nat) (w : World) (ht : Tab w) (hs : s < 65536) (hx : x < 16) : Calls Tryz.prog 191 #[.int .u16 (s : Int), .int .u8 (x : Int)] w fun e w' => e = .returned (.int .u16 (nextV s x : Nat)) ∧ w = w' := by
 have h16 := xor16_lt (a := s / 4096) (b := x) (by omega) hx
 have hc := ht.cell2 _ h16
 have hl := halves_lt ((s / 4096) ^^^ x)
 have e1 := u16_xor_nat (s / 4096) x (by omega) (by omega)
 have e2 := u16_xor_nat (s * 16 % 65536) (halves ((s / 4096) ^^^ x)) (by omega) hl
 have hq : bits .xor .u16 ((s : Int) / 4096) (x : Int) = ((s / 4096 ^^^ x : Nat) : Int) := by
  rw [← e1]; rfl
 have hfin : bits .xor .u16 (IntKind.u16.wrap ((s : Int) * 16)) ((halves ((s / 4096) ^^^ x) : Nat) : Int) = ((nextV s x : Nat) : Int) := by
  have : IntKind.u16.wrap ((s : Int) * 16) = ((s * 16 % 65536 : Nat) : Int) := by rw [IntKind.wrap_u16]; omega
  rw [this, e2]; rfl
 obtain ⟨H, hH⟩ : ∃ H : Int, ((halves ((s / 4096) ^^^ x) : Nat) : Int) = H := ⟨_, rfl⟩
 obtain ⟨Q, hQ⟩ : ∃ Q : Nat, s / 4096 ^^^ x = Q := ⟨_, rfl⟩
 rw [hH] at hfin
 rw [hQ] at hc hq h16 hH
 rw [hH] at hc
 obtain ⟨N, hN⟩ : ∃ N : Int, ((nextV s x : Nat) : Int) = N := ⟨_, rfl⟩
 rw [hN] at hfin ⊢
 have hS0 : 0 ≤ (s : Int) := by omega
 have hS1 : (s : Int) < 65536 := by omega
 have hX0 : 0 ≤ (x : Int) := by omega
 have hX1 : (x : Int) < 16 := by omega
 have hcell : w.cell? ⟨1, (bits .xor .u16 ((s : Int) / 4096) (x : Int)).toNat, none⟩ = some (.int .u16 H) := by rw [hq]; exact hc
 have hq0 : 0 ≤ bits .xor .u16 ((s : Int) / 4096) (x : Int) ∧ bits .xor .u16 ((s : Int) / 4096) (x : Int) < 16 := by rw [hq]; omega
 clear hN e1 e2 hl hQ hH hc hq hs hx ht h16
 generalize (s : Int) = S at *
 generalize (x : Int) = X at *
 have HF := Lib.hid hfin
 clear hfin
 go_enter Tryz.func191, Tryz.ntmps191
 go_wp2_with fail
 rw [HF.out]
 go_ret
 exact ⟨rfl, rfl⟩
theorem cnext_at (S X : Int) (s x : Nat) (w : World) (ht : Tab w) (hs : s < 65536) (hx : x < 16) (eS : S = (s : Int)) (eX : X = (x : Int)) : Calls Tryz.prog 191 #[.int .u16 S, .int .u8 X] w fun e w' => e = .returned (.int .u16 (nextV s x : Nat)) ∧ w = w' := by
 subst eS eX
 exact cnext_ok s x w ht hs hx
theorem moreV_snoc (s : Nat) (l : List Nat) (x : Nat) : moreV s (l ++ [x]) = byteV (moreV s l) x := by unfold moreV; rw [List.foldl_append]; rfl
theorem mask16 (s : Int) (h0 : 0 ≤ s) (h1 : s < 65536) : bits .and .i64 s 65535 = s := by
 have := bits_mask .i64 62 (by decide) (fun n h h' => by simp [IntKind.wrap, IntKind.bits, IntKind.signed]; omega) 16 (by decide) s h0 (by omega)
 rw [show (65535 : Int) = 2 ^ 16 - 1 by decide, this]
 omega
def MoreI (s : Nat) (l : List Nat) (k : Nat) (sv iv : Value) : Prop := k ≤ l.length ∧ iv = .int .i64 (k : Int) ∧ sv = .int .u16 (moreV s (l.take k) : Nat)
theorem cmore_ok (s : Nat) (l : List Nat) (v : Value) (w : World) (ht : Tab w) (hs : s < 65536) (hv : Rd w v l.length (bts l)) (hb : ∀ x ∈ l, x < 256) (hl : l.length < 1000000) :
  Calls Tryz.prog 134 #[.int .i64 (s : Int), v] w fun e w' => e = .returned (.int .i64 (moreV s l : Nat)) ∧ w = w' := by
 obtain ⟨p, c, hpc⟩ : ∃ p c, v = .slice p l.length c := by
  rcases hv with ⟨h0, _, p, c, e⟩ | ⟨_, b, o, c, e, _, _⟩
  ·exact ⟨p, c, by rw [e, h0]⟩
  ·exact ⟨_, c, e⟩
 subst hpc
 obtain ⟨n, hn⟩ : ∃ n, l.length = n := ⟨_, rfl⟩
 have hmask := mask16 (s : Int) (by omega) (by omega)
 have HM := Lib.hid hmask
 have hst : MoreI s l 0 (.int .u16 (s : Int)) (.int .i64 0) := ⟨by omega, rfl, rfl⟩
 have s0 : (0 : Int) ≤ s := by omega
 have s1 : (s : Int) < 65536 := by omega
 rw [hn] at hv hl ⊢
 obtain ⟨S, hS⟩ : ∃ S : Int, (s : Int) = S := ⟨_, rfl⟩
 rw [hS] at hmask hst s0 s1 ⊢
 have hs0 := hs
 clear hs hS HM
 go_enter Tryz.func134, Tryz.ntmps134
 go_wp2_with fail
 clear hmask s0 s1
 go_loopw [5, 7, 13] (fun sv _ iv wr => ∃ k, MoreI s l k sv iv ∧ w = wr) (fun _ _ iv _ => (n - intOf iv).toNat)
 case atStart => exact ⟨0, hst, rfl⟩
 case round =>
  clear hst
  obtain ⟨k, ⟨hk, rfl, rfl⟩, rfl⟩ := hrel
  rw [hn] at hk
  by_cases c : k < n
  ·rcases hv with ⟨h0, _⟩ | ⟨_, b, o, c', e, _, hr⟩
   ·omega
   cases e
   obtain ⟨x, hx⟩ : ∃ x, l[k]? = some x := ⟨_, List.getElem?_eq_getElem (by omega)⟩
   have hx2 := hb x (List.mem_of_getElem? hx)
   have hcell : w.cell? ⟨b, o + k, none⟩ = some (.int .u8 (x : Int)) := hr k _ (bts_at l k x hx)
   have ht1 : l.take (k + 1) = l.take k ++ [x] := by rw [List.take_add_one, hx]; rfl
   have hm := moreV_lt (s := s) hs0 (l.take k)
   have hnx := nextV_lt (moreV s (l.take k)) (x / 16)
   have hby := byteV_next _ x hm hx2
   have h15 : (x : Int) % 16 = ((x % 16 : Nat) : Int) := by omega
   have h16 : (x : Int) / 16 = ((x / 16 : Nat) : Int) := by omega
   have HM := Lib.hid (show nextV (nextV (moreV s (l.take k)) (x / 16)) (x % 16) = moreV s (l.take (k + 1)) by rw [← hby, ht1, moreV_snoc])
   have H15 := Lib.hid h15
   have H16 := Lib.hid h16
   have x0 : (0 : Int) ≤ x := by omega
   have x1 : (x : Int) < 256 := by omega
   have d1 : x / 16 < 16 := by omega
   have d2 : x % 16 < 16 := by omega
   have hlt : decide (k < n) = true := by simpa using c
   obtain ⟨M, hM⟩ : ∃ M, moreV s (l.take k) = M := ⟨_, rfl⟩
   rw [hM] at hm hnx HM ⊢
   clear hr hx hx2 hb ht1 hby h15 h16 hM
   generalize (x : Int) = X at *
   go_wp2_with fail
   have eM : (M : Int) = (M : Int) := rfl
   have a7 := cnext_at (M : Int) (X / 16) M (x / 16) w ht hm d1 eM H16.out
   refine a7.mono ?_; rintro e w' ⟨rfl, rfl⟩
   clear a7 eM
   go_wp2_with fail
   obtain ⟨M2, hM2⟩ : ∃ M2, nextV M (x / 16) = M2 := ⟨_, rfl⟩
   rw [hM2] at hnx HM ⊢
   have eM : (M2 : Int) = (M2 : Int) := rfl
   have a7 := cnext_at (M2 : Int) _ M2 (x % 16) w ht hnx d2 eM H15.out
   refine a7.mono ?_; rintro e w' ⟨rfl, rfl⟩
   clear a7 eM
   rw [HM.out]
   go_wp2_with fail
   go_round
   case rel => exact ⟨k + 1, ⟨by omega, by go_num, rfl⟩, trivial⟩
   case measure => simp [intOf]; omega
  ·have e : k = n := by omega
   subst e
   have hm := moreV_lt (s := s) hs0 l
   have hte : l.take k = l := by rw [← hn, List.take_length]
   rw [hte]
   obtain ⟨M, hM⟩ : ∃ M : Int, ((moreV s l : Nat) : Int) = M := ⟨_, rfl⟩
   have m0 : 0 ≤ M := by omega
   have m1 : M < 65536 := by omega
   have HQ := Lib.hid hM.symm
   rw [hM]
   have hlt : decide (k < k) = false := by simp
   clear hm hte hM hv hb
   go_wp2_with fail
   go_ret
   exact ⟨oneU HQ.out, rfl⟩
theorem two_bytes (W : World) (v0 v1 : Value) (t : TypeId) : ∀ j u, ([v0, v1] : List Value)[j]? = some u → (W.alloc (.cells #[v0, v1] t)).cell? ((⟨W.heap.size, 0, none⟩ : Addr).add j) = some u := by
 intro j u hj
 have b := BlockIs.new W #[v0, v1] t
 match j, hj with
 | 0, hj => simp at hj; subst hj; exact b.cell rfl
 | 1, hj => simp at hj; subst hj; exact b.cell rfl
 | j + 2, hj => simp at hj
theorem i64_xor_nat (a b : Nat) (ha : a < 65536) (hb : b < 65536) : bits .xor .i64 (a : Int) (b : Int) = ((a ^^^ b : Nat) : Int) := by
 have hx : a ^^^ b < 2 ^ 16 := Nat.xor_lt_two_pow (by omega) (by omega)
 show IntKind.i64.wrap ((BitVec.ofInt 64 (a : Int) ^^^ BitVec.ofInt 64 (b : Int)).toNat : Int) = _
 have e1 : (BitVec.ofInt 64 (a : Int)).toNat = a := by rw [BitVec.toNat_ofInt]; omega
 have e2 : (BitVec.ofInt 64 (b : Int)).toNat = b := by rw [BitVec.toNat_ofInt]; omega
 rw [BitVec.toNat_xor, e1, e2]
 simp [IntKind.wrap, IntKind.bits, IntKind.signed]
 omega
theorem rbit_ok (s : Nat) (S : Int) (one : Bool) (w : World) (hs : s < 65536) (e : (s : Int) = S) : Calls Tryz.prog 135 #[.int .i64 S, .bool one] w fun e w' => e = .returned (.int .i64 (bitV s one : Nat)) ∧ w = w' := by
 have hV : bitV s one = if decide (32768 ≤ s) != one then (s * 2 % 65536) ^^^ 4129 else s * 2 % 65536 := rfl
 have ex := i64_xor_nat (s * 2 % 65536) 4129 (by omega) (by omega)
 have e2 : ((s * 2 % 65536 : Nat) : Int) = S * 2 % 65536 := by omega
 rw [e2] at ex
 have hd : decide (32768 ≤ s) = decide (32768 ≤ S) := by rw [Bool.eq_iff_iff]; simp; omega
 rw [hd] at hV
 have s0 : 0 ≤ S := by omega
 have s1 : S < 65536 := by omega
 have HA := Lib.hid (show (decide (32768 ≤ S) != one) = true → ((bitV s one : Nat) : Int) = bits .xor .i64 (S * 2 % 65536) 4129 from fun h => by rw [hV, if_pos h]; exact ex.symm)
 have HB := Lib.hid (show (decide (32768 ≤ S) != one) = false → ((bitV s one : Nat) : Int) = S * 2 % 65536 from fun h => by rw [hV, if_neg (by rw [h]; simp), e2])
 generalize ((bitV s one : Nat) : Int) = V at *
 clear hV hd e2 hs ex e
 go_enter Tryz.func135, Tryz.ntmps135
 have HB0 : decide (32768 ≤ S) = true ∨ decide (32768 ≤ S) = false := by cases decide (32768 ≤ S) <;> simp
 rcases HB0 with hd | hd
 all_goals cases one
 all_goals
  have HA := Lib.hid (HA.out)
  simp only [hd] at HA HB
  go_wp2_with fail
  go_ret
  first
   | exact ⟨oneU (HA.out rfl).symm, rfl⟩
   | exact ⟨oneU (HB.out rfl).symm, rfl⟩
def partV (s x : Nat) : Nat → Nat
 | 0 => s
 | j + 1 => bitV (partV s x j) (bit8 x (7 - j))
theorem partV_all (s x : Nat) : partV s x 8 = byteV s x := rfl
theorem partV_lt {s : Nat} (h : s < 65536) (x j : Nat) : partV s x j < 65536 := by
 cases j with
 | zero => exact h
 | succ j => exact bitV_lt _ _
def BitI (s x j : Nat) (sv kv : Value) : Prop := j ≤ 8 ∧ kv = .int .i64 (7 - (j : Int)) ∧ sv = .int .i64 (partV s x j : Nat)
theorem rbit_at (s : Nat) (b b' : Bool) (S : Int) (w : World) (hs : s < 65536) (e : (s : Int) = S) (eb : b' = b) : Calls Tryz.prog 135 #[.int .i64 S, .bool b'] w fun e w' => e = .returned (.int .i64 (bitV s b : Nat)) ∧ w = w' := by
 subst eb
 exact rbit_ok s S b' w hs e
theorem bit_at (x j : Nat) (h : j < 8) : (((x : Int) / 2 ^ (7 - (j : Int)).toNat).tmod 2 == 1) = bit8 x (7 - j) := by
 rw [show (7 - (j : Int)).toNat = 7 - j by omega]
 unfold bit8
 have e : ((x : Int) / 2 ^ (7 - j)) = ((x / 2 ^ (7 - j) : Nat) : Int) := by simp
 rw [e]
 generalize x / 2 ^ (7 - j) = y
 rw [Int.tmod_eq_emod_of_nonneg (by omega), Bool.eq_iff_iff]
 simp only [beq_iff_eq]
 omega
def RMoreI (s : Nat) (l : List Nat) (k : Nat) (sv iv : Value) : Prop := k ≤ l.length ∧ iv = .int .i64 (k : Int) ∧ sv = .int .i64 (moreV s (l.take k) : Nat)
theorem rmore_ok (s : Nat) (l : List Nat) (v : Value) (w : World) (hs : s < 65536) (hv : Rd w v l.length (bts l)) (hb : ∀ x ∈ l, x < 256) (hl : l.length < 1000000) :
  Calls Tryz.prog 80 #[.int .i64 (s : Int), v] w fun e w' => e = .returned (.int .i64 (moreV s l : Nat)) ∧ w = w' := by
 obtain ⟨p, c, hpc⟩ := hv.form
 subst hpc
 obtain ⟨n, hn⟩ : ∃ n, l.length = n := ⟨_, rfl⟩
 have hmask := mask16 (s : Int) (by omega) (by omega)
 have hst : RMoreI s l 0 (.int .i64 (s : Int)) (.int .i64 0) := ⟨by omega, rfl, rfl⟩
 have s0 : (0 : Int) ≤ s := by omega
 have s1 : (s : Int) < 65536 := by omega
 rw [hn] at hv hl ⊢
 obtain ⟨S, hS⟩ : ∃ S : Int, (s : Int) = S := ⟨_, rfl⟩
 rw [hS] at hmask hst s0 s1 ⊢
 have hs0 := hs
 clear hs hS
 go_enter Tryz.func80, Tryz.ntmps80
 go_wp2_with fail
 clear hmask s0 s1
 go_loopw [5, 6, 7] (fun sv iv _ wr => ∃ k, RMoreI s l k sv iv ∧ w = wr) (fun _ iv _ _ => (n - intOf iv).toNat)
 case atStart => exact ⟨0, hst, rfl⟩
 case round =>
  clear hst
  obtain ⟨k, ⟨hk, rfl, rfl⟩, rfl⟩ := hrel
  rw [hn] at hk
  by_cases c : k < n
  ·rcases hv with ⟨h0, _⟩ | ⟨_, b, o, c', e, _, hr⟩
   ·omega
   cases e
   obtain ⟨x, hx⟩ : ∃ x, l[k]? = some x := ⟨_, List.getElem?_eq_getElem (by omega)⟩
   have hx2 := hb x (List.mem_of_getElem? hx)
   have hcell : w.cell? ⟨b, o + k, none⟩ = some (.int .u8 (x : Int)) := hr k _ (bts_at l k x hx)
   have ht1 : l.take (k + 1) = l.take k ++ [x] := by rw [List.take_add_one, hx]; rfl
   have hm := moreV_lt (s := s) hs0 (l.take k)
   have HM := Lib.hid (show partV (moreV s (l.take k)) x 8 = moreV s (l.take (k + 1)) by rw [partV_all, ht1, moreV_snoc])
   have x0 : (0 : Int) ≤ x := by omega
   have x1 : (x : Int) < 256 := by omega
   have hlt : decide (k < n) = true := by simpa using c
   obtain ⟨M, hM⟩ : ∃ M, moreV s (l.take k) = M := ⟨_, rfl⟩
   rw [hM] at hm HM ⊢
   have hst2 : BitI M x 0 (.int .i64 (M : Int)) (.int .i64 7) := ⟨by omega, rfl, rfl⟩
   clear hr hb ht1 hM hx
   go_wp2_with fail
   go_loopw [5, 7] (fun sv kv wr => ∃ j, BitI M x j sv kv ∧ w = wr) (fun _ kv _ => (1 + intOf kv).toNat)
   case atStart => exact ⟨0, hst2, rfl⟩
   case round =>
    clear hst2
    obtain ⟨j, ⟨hj, rfl, rfl⟩, rfl⟩ := hrel
    by_cases c8 : j < 8
    ·have hp := partV_lt hm x j
     have hpn : partV M x (j + 1) = bitV (partV M x j) (bit8 x (7 - j)) := rfl
     have HPN := Lib.hid hpn
     have HB := Lib.hid (bit_at x j)
     have HKK := Lib.hid (show (7 - (j : Int)) - 1 = 7 - ((j + 1 : Nat) : Int) by omega)
     have k0 : 0 ≤ 7 - (j : Int) := by omega
     have k7 : 7 - (j : Int) ≤ 7 := by omega
     generalize (7 - (j : Int)) = K at *
     generalize partV M x j = P at *
     clear hpn
     go_wp2_with fail
     refine (rbit_at P (bit8 x (7 - j)) _ _ w hp rfl (HB.out (by omega))).mono ?_; rintro e w' ⟨rfl, rfl⟩
     rw [← HPN.out]
     go_wp2_with fail
     go_round
     case rel => exact ⟨j + 1, ⟨by omega, congrArg _ HKK.out, rfl⟩, trivial⟩
     case measure => simp [intOf]; omega
    ·have e8 : j = 8 := by omega
     subst e8
     rw [HM.out]
     clear HM hcell
     rw [show (7 - ((8 : Nat) : Int)) = -1 by omega]
     go_wp2_with fail
     go_round
     case rel => exact ⟨k + 1, ⟨by omega, by go_num, rfl⟩, trivial⟩
     case measure => simp [intOf]; omega
  ·have e : k = n := by omega
   subst e
   have hm := moreV_lt (s := s) hs0 l
   have hte : l.take k = l := by rw [← hn, List.take_length]
   rw [hte]
   obtain ⟨M, hM⟩ : ∃ M : Int, ((moreV s l : Nat) : Int) = M := ⟨_, rfl⟩
   have HQ := Lib.hid hM.symm
   rw [hM]
   have hlt : decide (k < k) = false := by simp
   clear hm hte hM hv hb
   go_wp2_with fail
   go_ret
   exact ⟨oneU HQ.out, rfl⟩
theorem rseal_ok (l : List Nat) (v : Value) (w : World) (hv : Rd w v l.length (bts l)) (hb : ∀ x ∈ l, x < 256) (hl : l.length < 1000000) (h0 : 0 < l.length) :
  Calls Tryz.prog 42 #[v] w fun e w' => ∃ v', e = .returned v' ∧ w'.ownsRow w.heap.size 5 1 v' (sealV l).length (bts (sealV l)) ∧ Below w.heap.size w w' := by
 obtain ⟨i0, hi, hz0, hz1, hz2⟩ := info_hid byte_info
 have hS := rmore_ok 65535 l v w (by omega) hv hb hl
 have hm := moreV_lt (s := 65535) (by omega) l
 obtain ⟨n, hn⟩ : ∃ n, l.length = n := ⟨_, rfl⟩
 rw [hn] at hv h0 hl
 obtain ⟨b, o, c, rfl, hc, hr⟩ := hv.some h0
 have hlen : (sealV l).length = l.length + 2 := by unfold sealV; simp
 have HB := Lib.hid (show bts (sealV l) = bts l ++ [.int .u8 ((moreV 65535 l / 256 : Nat) : Int), .int .u8 ((moreV 65535 l % 256 : Nat) : Int)] by unfold sealV; rw [bts_app]; rfl)
 rw [hlen]
 have e1 : (((moreV 65535 l / 256 : Nat)) : Int) = ((moreV 65535 l : Nat) : Int) / 256 := by omega
 have e2 : (((moreV 65535 l % 256 : Nat)) : Int) = ((moreV 65535 l : Nat) : Int) % 256 := by omega
 rw [e1, e2] at HB
 obtain ⟨M, hM⟩ : ∃ M : Int, ((moreV 65535 l : Nat) : Int) = M := ⟨_, rfl⟩
 have m0 : 0 ≤ M := by omega
 have m1 : M < 65536 := by omega
 rw [hM] at hS HB
 obtain ⟨B, hB⟩ : ∃ B, bts (sealV l) = B := ⟨_, rfl⟩
 rw [hB] at HB ⊢
 have hbl : (bts l).length = n * 1 := by rw [bts_len]; omega
 rw [hn]
 obtain ⟨L, hL⟩ : ∃ L, bts l = L := ⟨_, rfl⟩
 have h1L := bts_one l
 rw [hL] at HB hr hbl h1L
 clear e1 e2 hM hB hn hm hlen hb hL hv
 go_enter Tryz.func42, Tryz.ntmps42
 go_wp2_with fail
 refine hS.mono ?_; rintro e w' ⟨rfl, rfl⟩
 clear hS
 go_wp2_with (first | (at_builtin; refine wpList_append_own _ rfl (.tmp 7) (.tmp 8) 52 rfl w.heap.size 5 i0 (.int .u8 0) 1 1 Tryz.underlying52 (hi ()) hz0 hz1 hz2 rfl (by decide) _ 0 [] rfl (World.ownsRow_nil _ _ _ _) ⟨b, o, none⟩ n c L rfl hbl (fun j u hu => by rw [Addr.add_mid]; exact hr j u hu) h1L (by rw [Nat.zero_add]; unfold maxLen; omega) (by rw [Nat.zero_add]; omega) (Nat.le_refl _) ?_))
 intro v1 w1 h1 hg1 _
 have hb1 := (Below.refl w.heap.size w).grown hg1 (Nat.le_refl _) (fun k e => by simp [Value.ownBlock] at e)
 obtain ⟨g, cap, rfl, hg, hcap⟩ := h1.form h0
 have hb2 := hb1.alloc hb1.size (.cells #[.int .u8 (M / 256), .int .u8 (M % 256)] 5)
 have h2 := h1.alloc (.cells #[.int .u8 (M / 256), .int .u8 (M % 256)] 5)
 have hnews := two_bytes w1 (.int .u8 (M / 256)) (.int .u8 (M % 256)) 5
 clear hg1 hr hbl h1L
 go_wp2_with (first | (at_builtin; refine wpList_append_lies _ rfl (.tmp 10) (.tmp 17) 52 rfl w.heap.size 5 i0 (.int .u8 0) 1 1 Tryz.underlying52 (hi ()) hz0 hz1 hz2 rfl (by decide) _ n _ rfl h2 ⟨w1.heap.size, 0, none⟩ 2 2 [.int .u8 (M / 256), .int .u8 (M % 256)] rfl rfl hnews (by intro u hu; simp at hu; rcases hu with hu | hu <;> subst hu <;> rfl) (by omega) (by unfold maxLen; omega) (by omega) hb2.size _ rfl ?_))
 intro g3 c3 w3 h3 hg3 _ _
 have hb3 := hb2.grown hg3 hb2.size (fun k e => (h2.lt k e).1)
 rw [← HB.out] at h3
 have HO := Lib.hid h3
 clear h3 hg3 h2 h1 hb1 hb2 hnews
 go_wp2_with fail
 go_ret
 exact ⟨_, rfl, HO.out, hb3⟩
theorem csum_ok (l : List Nat) (v : Value) (w : World) (ht : Tab w) (hv : Rd w v l.length (bts l)) (hb : ∀ x ∈ l, x < 256) (hl : l.length < 1000000) :
  Calls Tryz.prog 78 #[v] w fun e w' => e = .returned (.int .i64 (moreV 65535 l : Nat)) ∧ w = w' := by
 have h := cmore_ok 65535 l v w ht (by decide) hv hb hl
 generalize (((moreV 65535 l : Nat)) : Int) = M at *
 go_enter Tryz.func78, Tryz.ntmps78
 go_wp2_with fail
 refine h.mono ?_; rintro e w' ⟨rfl, rfl⟩
 go_wp2_with fail
 go_ret
 exact ⟨rfl, rfl⟩
theorem cseal_ok (l : List Nat) (v : Value) (w : World) (ht : Tab w) (hv : Rd w v l.length (bts l)) (hb : ∀ x ∈ l, x < 256) (hl : l.length < 1000000) (h0 : 0 < l.length) :
  Calls Tryz.prog 39 #[v] w fun e w' => ∃ v', e = .returned v' ∧ w'.ownsRow w.heap.size 5 1 v' (sealV l).length (bts (sealV l)) ∧ Below w.heap.size w w' := by
 obtain ⟨i0, hi, hz0, hz1, hz2⟩ := info_hid byte_info
 have hS := csum_ok l v w ht hv hb hl
 have hm := moreV_lt (s := 65535) (by omega) l
 obtain ⟨n, hn⟩ : ∃ n, l.length = n := ⟨_, rfl⟩
 rw [hn] at hv h0 hl
 obtain ⟨b, o, c, rfl, hc, hr⟩ := hv.some h0
 have hlen : (sealV l).length = l.length + 2 := by unfold sealV; simp
 have HB := Lib.hid (show bts (sealV l) = bts l ++ [.int .u8 ((moreV 65535 l / 256 : Nat) : Int), .int .u8 ((moreV 65535 l % 256 : Nat) : Int)] by unfold sealV; rw [bts_app]; rfl)
 rw [hlen]
 have e1 : (((moreV 65535 l / 256 : Nat)) : Int) = ((moreV 65535 l : Nat) : Int) / 256 := by omega
 have e2 : (((moreV 65535 l % 256 : Nat)) : Int) = ((moreV 65535 l : Nat) : Int) % 256 := by omega
 rw [e1, e2] at HB
 obtain ⟨M, hM⟩ : ∃ M : Int, ((moreV 65535 l : Nat) : Int) = M := ⟨_, rfl⟩
 have m0 : 0 ≤ M := by omega
 have m1 : M < 65536 := by omega
 rw [hM] at hS HB
 obtain ⟨B, hB⟩ : ∃ B, bts (sealV l) = B := ⟨_, rfl⟩
 rw [hB] at HB ⊢
 have hbl : (bts l).length = n * 1 := by rw [bts_len]; omega
 rw [hn]
 obtain ⟨L, hL⟩ : ∃ L, bts l = L := ⟨_, rfl⟩
 rw [hL] at HB hr hbl
 clear e1 e2 hM hB hn hm hlen hb hL ht hv
 go_enter Tryz.func39, Tryz.ntmps39
 go_wp2_with fail
 refine hS.mono ?_; rintro e w' ⟨rfl, rfl⟩
 clear hS
 have hb1 := Below.alloc (Below.refl w.heap.size w) (Nat.le_refl _) (.cells #[.int .u8 (M / 256), .int .u8 (M % 256)] 5)
 have hr1 := range_keep hr hb1
 have hnews := two_bytes w (.int .u8 (M / 256)) (.int .u8 (M % 256)) 5
 go_wp2_with (first | (at_builtin; refine wpList_append_grows _ rfl (.tmp 11) (.tmp 17) 52 rfl 5 i0 (.int .u8 0) 1 1 Tryz.underlying52 (hi ()) hz0 hz1 hz2 rfl (by decide) (some ⟨b, o, none⟩) n n L rfl (fun x => by cases x) hbl (fun q hq j u hu => by cases hq; rw [Addr.add_mid]; exact hr1 j u hu) ⟨w.heap.size, 0, none⟩ 2 2 [.int .u8 (M / 256), .int .u8 (M % 256)] rfl rfl hnews (by intro u hu; simp at hu; rcases hu with hu | hu <;> subst hu <;> rfl) (by omega) (by unfold maxLen; omega) (by omega) ?_; intro v5 w5 h5 g5))
 have hb5 := hb1.trans ((below_grown g5).mono hb1.size)
 rw [← HB.out] at h5
 have h6 := h5.mono (base' := w.heap.size) (by simp)
 clear h5
 go_ret
 exact ⟨_, rfl, h6, hb5⟩
theorem or8i (M : Int) (h0 : 0 ≤ M) (h1 : M < 65536) : bits .or .i64 (M / 256 * 256) (M % 256) = M := by
 rw [bits_join .i64 62 (by decide) (fun n h h' => by simp [IntKind.wrap, IntKind.bits, IntKind.signed]; omega) 8 (M / 256 * 256) (M % 256) (by omega) (by omega) (by omega) (by omega) (by omega) (by omega)]
 omega
theorem range_pre {W : World} {b o : Nat} {l k : List Value} (h : W.rangeAt b o (l ++ k)) : W.rangeAt b o l := fun j u hu => h j u (by rw [List.getElem?_append_left (List.getElem?_eq_some_iff.1 hu).1]; exact hu)
theorem range_post {W : World} {b o : Nat} {l k : List Value} (h : W.rangeAt b o (l ++ k)) : W.rangeAt b (o + l.length) k := fun j u hu => by
 rw [Nat.add_assoc]
 exact h (l.length + j) u (by rw [List.getElem?_append_right (by omega), Nat.add_sub_cancel_left]; exact hu)
theorem copen_ok (l : List Nat) (v : Value) (w : World) (ht : Tab w) (hv : Rd w v (sealV l).length (bts (sealV l))) (hb : ∀ x ∈ l, x < 256) (hl : l.length < 1000000) (h0 : 0 < l.length) :
  Calls Tryz.prog 82 #[v] w fun e w' => ∃ v', e = .returned (.tuple #[v', .int .i64 0]) ∧ w'.ownsRow w.heap.size 5 1 v' l.length (bts l) ∧ Below w.heap.size w w' := by
 obtain ⟨i0, hi, hz0, hz1, hz2⟩ := info_hid byte_info
 have hm := moreV_lt (s := 65535) (by omega) l
 have hlen : (sealV l).length = l.length + 2 := by unfold sealV; simp
 have hB : bts (sealV l) = bts l ++ [.int .u8 ((moreV 65535 l / 256 : Nat) : Int), .int .u8 ((moreV 65535 l % 256 : Nat) : Int)] := by unfold sealV; rw [bts_app]; rfl
 rw [hlen, hB] at hv
 obtain ⟨b, o, c, rfl, hc, hr⟩ := hv.some (by omega)
 have hr1 := range_pre hr
 have hr2 := range_post hr
 rw [bts_len] at hr2
 have hc1 : w.cell? ⟨b, o + l.length, none⟩ = some (.int .u8 ((moreV 65535 l / 256 : Nat) : Int)) := hr2 0 _ rfl
 have hc2 : w.cell? ⟨b, o + (l.length + 1), none⟩ = some (.int .u8 ((moreV 65535 l % 256 : Nat) : Int)) := by
  have := hr2 1 _ rfl
  rwa [Nat.add_assoc] at this
 have hS := fun q => csum_ok l (.slice (some ⟨b, o, none⟩) l.length c) (w.drewN q) (ht.drewN q) (.inr ⟨h0, b, o, c, rfl, by omega, hr1⟩) hb hl
 have e1 : (((moreV 65535 l / 256 : Nat)) : Int) = ((moreV 65535 l : Nat) : Int) / 256 := by omega
 have e2 : (((moreV 65535 l % 256 : Nat)) : Int) = ((moreV 65535 l : Nat) : Int) % 256 := by omega
 rw [e1] at hc1
 rw [e2] at hc2
 obtain ⟨M, hM⟩ : ∃ M : Int, ((moreV 65535 l : Nat) : Int) = M := ⟨_, rfl⟩
 have m0 : 0 ≤ M := by omega
 have m1 : M < 65536 := by omega
 rw [hM] at hS hc1 hc2
 obtain ⟨L, hL⟩ : ∃ L, bts l = L := ⟨_, rfl⟩
 have hbl : (bts l).length = l.length * 1 := by rw [bts_len]; omega
 rw [hL] at hr1 hbl ⊢
 obtain ⟨n, hn⟩ : ∃ n, l.length = n := ⟨_, rfl⟩
 rw [hn] at hS hc1 hc2 hbl h0 hl hlen hc ⊢
 have hor := or8i M m0 m1
 have hone := bts_one l
 rw [hL] at hone
 clear hr hr2 hv hB hb ht hm e1 e2 hM hn hlen hL
 have hnc : (n : Int) ≤ (c : Int) := by omega
 have hn0 : (0 : Int) ≤ (n : Int) := by omega
 go_enter Tryz.func82, Tryz.ntmps82
 go_wp2_with fail
 go_quiet ((go_at_call 78; exact quiet_left (hS _)))
 have hr1 := (show (w.drewN nq).rangeAt b o L from hr1)
 have HB := Lib.hid (below_drewN (Below.refl w.heap.size w) nq)
 obtain ⟨W, hW⟩ : ∃ W, w.drewN nq = W := ⟨_, rfl⟩
 have hWs : w.heap.size = W.heap.size := by rw [← hW]; rfl
 rw [hW] at hr1 HB ⊢
 have HWS := Lib.hid hWs
 clear hW hWs
 go_wp2_with (first | (at_builtin; refine wpList_append_own _ rfl (.tmp 28) (.tmp 31) 52 rfl W.heap.size 5 i0 (.int .u8 0) 1 1 Tryz.underlying52 (hi ()) hz0 hz1 hz2 rfl (by decide) _ _ _ rfl (World.ownsRow_made W #[] 0 (Nat.le_refl _) (Nat.zero_le _) (by simp)) ⟨b, o, none⟩ n c L rfl (by omega) (fun j u hu => by rw [Addr.add_mid]; exact range_keep hr1 (Below.alloc (Below.refl _ W) (Nat.le_refl _) _) j u hu) hone (by rw [Nat.zero_add]; unfold maxLen; omega) (by rw [Nat.zero_add]; omega) (by simp) ?_))
 intro v5 w5 hown hgrow _
 have hs := HWS.out
 have hB5 := (HB.out.alloc (by omega) (.cells #[] 5)).grown hgrow (by simp; omega) (by intro k hk; simp [Value.ownBlock] at hk; omega)
 have HO := Lib.hid (hown.mono (base' := w.heap.size) (by omega))
 clear hown hgrow
 go_wp2_with fail
 go_ret2
 exact ⟨_, rfl, HO.out, hB5⟩
end Go.Proofs.YtfnifgppblbjhaaGreatDoor
