/- Part of the proof of TopHoly. -/
import Derived.Test.YtfnifgppblbjhaaGreatDoorY10
import Derived.Test.YtfnifgppblbjhaaGreatDoorY11
import Derived.Laws.BitsAllLaws
import Derived.Laws.CopyOwn
namespace Go.Proofs.YtfnifgppblbjhaaGreatDoor
set_option maxHeartbeats 8000000
open Go Go.RowKit
set_option linter.unusedVariables false
set_option linter.unusedSimpArgs false
theorem set_rep (l : List Value) (m : Nat) (z v : Value) : (l ++ List.replicate (m + 1) z).set l.length v = (l ++ [v]) ++ List.replicate m z := by
 rw [List.set_append_right _ _ (Nat.le_refl _), Nat.sub_self]
 simp [List.replicate_succ]
def roomC (done : List Nat) : Array Value := (bts done ++ List.replicate (10 - done.length) (Value.int .u8 0)).toArray
theorem roomC_set (done : List Nat) (x : Nat) (h : done.length < 10) : (roomC done).setIfInBounds done.length (.int .u8 (x : Int)) = roomC (done ++ [x]) := by
 unfold roomC
 rw [List.setIfInBounds_toArray]
 congr 1
 obtain ⟨m, hm⟩ : ∃ m, 10 - done.length = m + 1 := ⟨9 - done.length, by omega⟩
 rw [hm, show 10 - (done ++ [x]).length = m by simp; omega, bts_app]
 have := set_rep (bts done) m (.int .u8 0) (.int .u8 (x : Int))
 rw [bts_len] at this
 exact this
theorem roomC_at (done : List Nat) {k : Nat} (h : done.length = k) (h' : k < 10) : (roomC done)[k]? = some (.int .u8 0) := by
 unfold roomC
 rw [List.getElem?_toArray, List.getElem?_append_right (by rw [bts_len]; omega), bts_len, h, Nat.sub_self, List.getElem?_replicate, if_pos (by omega)]
theorem or128 (x : Nat) : bits .or .u8 ((x % 256 : Nat) : Int) 128 = ((x % 128 + 128 : Nat) : Int) := by
 have h : ∀ y, y < 256 → y ||| 128 = y % 128 + 128 := by decide +kernel
 have := u8_or_nat (x % 256) 128 (by omega) (by omega)
 rw [h _ (by omega)] at this
 rw [show x % 256 % 128 = x % 128 by omega] at this
 exact this
theorem room_new (w : World) : BlockIs (w.alloc (.cells #[.int .u8 0, .int .u8 0, .int .u8 0, .int .u8 0, .int .u8 0, .int .u8 0, .int .u8 0, .int .u8 0, .int .u8 0, .int .u8 0] 239)) w.heap.size (roomC []) 239 := BlockIs.new w _ _
def WPutI (w : World) (P : List Nat) (cv kv : Value) (wr : World) : Prop :=
 ∃ (k x : Nat) (done : List Nat), k ≤ 9 ∧ cv = .int .u64 (x : Int) ∧ kv = .int .i64 (k : Int) ∧ x < 128 ^ (9 - k) * 2 ∧ P = done ++ putC (9 - k) x ∧ done.length = k ∧ BlockIs wr w.heap.size (roomC done) 239 ∧ Below w.heap.size w wr
theorem wput_any (n : Int) (w : World) (h : I64 n) : Calls Tryz.prog 77 #[.int .i64 n] w fun e w' => ∃ v, e = .returned v ∧ w'.ownsRow w.heap.size 5 1 v (putN n).length (bts (putN n)) ∧ Below w.heap.size w w' := by
 obtain ⟨i0, hi, hz0, hz1, hz2⟩ := info_hid byte_info
 have hc0 := zc_lt h.1 h.2
 obtain ⟨P, hP⟩ : ∃ P, putN n = P := ⟨_, rfl⟩
 have hP2 : P = [] ++ putC (9 - 0) (zc n) := by rw [← hP]; rfl
 rw [hP]
 clear hP
 go_enter Tryz.func77, Tryz.ntmps77
 go_wp2_with fail
 refine (code_any _ _ h).mono ?_; rintro e w' ⟨rfl, rfl⟩
 generalize zc n = c at *
 have hst : WPutI w P (.int .u64 (c : Int)) (.int .i64 0) (w.alloc (.cells #[.int .u8 0, .int .u8 0, .int .u8 0, .int .u8 0, .int .u8 0, .int .u8 0, .int .u8 0, .int .u8 0, .int .u8 0, .int .u8 0] 239)) :=
  ⟨0, c, [], by omega, rfl, rfl, by simpa using hc0, hP2, rfl, room_new w, (Below.refl _ w).alloc (Nat.le_refl _) _⟩
 clear hc0 hP2
 go_wp2_with fail
 go_loopw [4, 5] (fun cv kv wr => WPutI w P cv kv wr) (fun cv _ _ => (intOf cv).toNat)
 case atStart => exact hst
 case round =>
  obtain ⟨k, x, done, hk, rfl, rfl, hx, hPd, hdl, hblk, hB⟩ := hrel
  have hs := hB.size
  have hx64 := x64 hx
  have hm := x_more hk hx
  by_cases c : x < 128
  ·have hPe : P = done ++ [x] := by rw [hPd, putC_one c]
   have hPl : P.length = k + 1 := by rw [hPe]; simp [hdl]
   have hcell := hblk.cell (roomC_at done hdl (by omega))
   have hfree := hblk.free k
   have hset := hblk.set k (.int .u8 (x : Int))
   rw [← hdl, roomC_set done x (by omega), ← hPe, hdl] at hset
   have HS := Lib.hid hset
   have hlt := hblk.lt
   have HPl := Lib.hid hPl
   have hB1 := hB.setCell (p := ⟨w.heap.size, k, none⟩) (Nat.le_refl _) (.int .u8 (x : Int))
   have x0 : (0 : Int) ≤ x := by omega
   have x1 : (x : Int) < 128 := by omega
   clear hPd hPe hPl hx hst hm hset hblk hdl c hx64 hB hs
   generalize (x : Int) = X at *
   have hm : X % 256 = X := by omega
   have HM := Lib.hid hm
   have hdx : decide (128 ≤ X) = false := by simpa using x1
   clear hm
   go_wp2_with (first | (at_make; refine wpList_make_full _ rfl (.tmp 25) (.tmp 25) 52 rfl w.heap.size 5 i0 (.int .u8 0) 1 Tryz.underlying52 (hi ()) hz0 hz1 .i64 .i64 _ _ (k + 1) rfl rfl (by omega) (by omega) (by rw [hz2]; omega) (by unfold maxLen; omega) hB1.size ?_))
   intro w3 hown hgrow
   have hB3 := hB1.grown hgrow hB1.size (fun k e => by cases e)
   have hblk3 := (show BlockIs (wr.setCell ⟨w.heap.size, k, none⟩ (.int .u8 X)) w.heap.size (roomC P) 239 from HS.out).below (n := (wr.setCell ⟨w.heap.size, k, none⟩ (.int .u8 X)).heap.size) (below_grown hgrow) HS.out.lt
   obtain ⟨hl0, ⟨hbad, _⟩ | ⟨g', cap, cur, he, hge, hcur, _, hcm, hcs, htk⟩⟩ := hown
   ·cases hbad
   cases he
   have hc1 : cur.toList.length = k + 1 := by simpa using hcs
   have hsrc : ∀ j v, (bts P)[j]? = some v → w3.cell? ((⟨w.heap.size, 0, none⟩ : Addr).add j) = some v := fun j v hv => by
    rw [Addr.add_mid, Nat.zero_add]
    refine hblk3.cell ?_
    unfold roomC
    rw [List.getElem?_toArray, List.getElem?_append_left (by have := (List.getElem?_eq_some_iff.1 hv).1; exact this)]
    exact hv
   have HC1 := Lib.hid hc1
   have hbl : (bts P).length = k + 1 := by rw [bts_len]; exact HPl.out
   have hcur2 : w3.heap[wr.heap.size]? = some (.cells cur.toList.toArray 5 (0, 0)) := by simpa using hcur
   have HSR := Lib.hid hsrc
   have HCU := Lib.hid hcur2
   have HBL := Lib.hid hbl
   have HB3 := Lib.hid hB3
   have HMX := Lib.hid hcm
   clear hc1 hsrc hbl hcur hcur2 hcs htk hl0 hB1 hgrow hblk3 hB3 hcell hfree hcm hge
   have hsz : (Tryz.prog.info? 5).map (·.size) = some 1 := by rw [hi ()]; simp [hz1]
   go_wp2_with (with_reducible refine wpList_copy_splice rfl (.tmp 27) (.tmp 28) 52 52 rfl 5 Tryz.underlying52 hsz _ _ _ _ _ _ rfl rfl wr.heap.size 0 cur.toList 5 HCU.out (bts P) (by rw [HBL.out]; simp only [Nat.min_def]; split <;> omega) (fun _ => ⟨rfl, _, rfl, HSR.out⟩) (by rw [HBL.out, HC1.out]; omega) (bts_one P) w.heap.size w HB3.out (by omega) ?_)
   intro w5 h5 hB5
   have hsp : splice cur.toList 0 (bts P) = bts P := by
    unfold splice
    rw [List.take_zero, List.nil_append, Nat.zero_add, List.drop_eq_nil_of_le (by rw [HC1.out, HBL.out]; omega), List.append_nil]
   rw [hsp] at h5
   have hown : w5.ownsRow w.heap.size 5 1 (.slice (some ⟨wr.heap.size, 0, none⟩) (k + 1) (k + 1)) P.length (bts P) := by
    rw [HPl.out]
    exact ⟨by rw [HBL.out]; omega, .inr ⟨_, k + 1, (bts P).toArray, rfl, by omega, h5.out, Nat.le_refl _, by unfold maxLen; omega, by simpa using HBL.out, by simp only [List.toList_toArray]; exact List.take_of_length_le (by rw [HBL.out]; omega)⟩⟩
   have HO := Lib.hid hown
   clear hown hsp h5
   go_wp2_with fail
   go_ret
   exact ⟨_, rfl, HO.out, hB5⟩
  ·obtain ⟨hk9, hx2, he⟩ := hm c
   have HR := Lib.hid (show P = (done ++ [x % 128 + 128]) ++ putC (9 - (k + 1)) (x / 128) by rw [hPd, he, putC_more c]; simp)
   have HX := Lib.hid hx2
   have hx1 : (128 : Int) ≤ x := by omega
   have hfree := hblk.free k
   have hcell := hblk.cell (roomC_at done hdl (by omega))
   have hset := hblk.set k (.int .u8 ((x % 128 + 128 : Nat) : Int))
   rw [← hdl, roomC_set done (x % 128 + 128) (by omega), hdl, ← or128 x, show ((x % 256 : Nat) : Int) = (x : Int) % 256 by omega] at hset
   have HS := Lib.hid hset
   have HD := Lib.hid hdl
   clear hPd hm hx hst c hx2 he hblk hdl hset
   go_wp2_with fail
   go_round
   case rel => exact ⟨k + 1, x / 128, done ++ [x % 128 + 128], by omega, by go_num, by go_num, HX.out, HR.out, by simp [HD.out], HS.out, hB.setCell (Nat.le_refl _) _⟩
   case measure => simp [intOf]; omega
theorem wrow_any (l : List Int) (v : Value) (w : World) (hv : Rd w v l.length (l.map (.int .i64))) (hl : l.length < 1000000) (hi : ∀ x ∈ l, I64 x) :
  Calls Tryz.prog 38 #[v] w fun e w' => ∃ v', e = .returned v' ∧ w'.ownsRow w.heap.size 5 1 v' (rowB l).length (bts (rowB l)) ∧ Below w.heap.size w w' := by
 obtain ⟨i0, hi0, hz0, hz1, hz2⟩ := info_hid byte_info
 obtain ⟨p, c, hpc⟩ := hv.form
 subst hpc
 obtain ⟨n, hn⟩ : ∃ n, l.length = n := ⟨_, rfl⟩
 have hb := rowB_len l
 rw [hn] at hb hv hl ⊢
 go_enter Tryz.func38, Tryz.ntmps38
 go_wp2_with fail
 refine (wput_any _ _ (by unfold I64; omega)).mono ?_; rintro e w1 ⟨v1, rfl, h1, hb1⟩
 have hst : RowI w l (.int .i64 0) v1 w1 := ⟨0, by omega, rfl, by simpa [hn] using h1, hb1⟩
 clear h1
 go_wp2_with fail
 go_loopw [3, 5, 11] (fun out _ iv wr => RowI w l iv out wr) (fun _ _ iv _ => (n - intOf iv).toNat)
 case atStart => exact hst
 case round =>
  clear hst
  obtain ⟨k, hk, rfl, hown, hB⟩ := hrel
  rw [hn] at hk
  have hs := hB.size
  by_cases c : k < n
  ·rcases hv.below hB with ⟨h0, _⟩ | ⟨_, b, o, c', e, _, hr⟩
   ·omega
   cases e
   obtain ⟨x, hx⟩ : ∃ x, l[k]? = some x := ⟨_, List.getElem?_eq_getElem (by omega)⟩
   have hI := hi x (List.mem_of_getElem? hx)
   have hcell : wr.cell? ⟨b, o + k, none⟩ = some (.int .i64 x) := hr k (.int .i64 x) (by simp [hx])
   have HT := Lib.hid (show l.take (k + 1) = l.take k ++ [x] by rw [List.take_add_one, hx]; rfl)
   have hp := putN_len x
   have hb2 := putN_len l.length
   have hf := flat_le (l.take k)
   have ht : (l.take k).length = k := by simp; omega
   obtain ⟨D, hD⟩ : ∃ D, putN l.length ++ (l.take k).flatMap putN = D := ⟨_, rfl⟩
   have hDl : D.length ≤ 10 + 10 * k ∧ 1 ≤ D.length := by rw [← hD, List.length_append]; omega
   rw [hD] at hown
   have HD := Lib.hid hD
   have hlt : decide (k < n) = true := by simp; omega
   clear hx hr hi hf hb2 hD hv ht
   obtain ⟨m, hm⟩ : ∃ m, D.length = m := ⟨_, rfl⟩
   rw [hm] at hown hDl
   obtain ⟨g, cap, rfl, hg1, hg2⟩ := hown.form (by omega)
   go_wp2_with fail
   refine (wput_any _ _ hI).mono ?_; rintro e w2 ⟨v2, rfl, h2, hb2⟩
   obtain ⟨q, hq⟩ : ∃ q, (putN x).length = q := ⟨_, rfl⟩
   rw [hq] at h2 hp
   obtain ⟨g2, cap2, rfl, _, hg4⟩ := h2.form (by omega)
   have hown2 := own_below hown hb2
   have hB2 := hB.trans (hb2.mono hs)
   have hs2 := hb2.size
   have hn2 := h2.cells (g := g2) rfl
   have hl2 : (bts (putN x)).length = q * 1 := by rw [bts_len]; omega
   have h12 := bts_one (putN x)
   obtain ⟨NW, hNW⟩ : ∃ NW, bts (putN x) = NW := ⟨_, rfl⟩
   rw [hNW] at hn2 hl2 h12
   have HN := Lib.hid (show bts D ++ NW = bts (D ++ putN x) by rw [bts_app, hNW])
   clear hNW
   clear hown hb2 hB h2 hg1 hg2
   go_wp2_with (first | (at_builtin; refine wpList_append_lies _ rfl (.tmp 15) (.tmp 17) 52 rfl w.heap.size 5 i0 (.int .u8 0) 1 1 Tryz.underlying52 (hi0 ()) hz0 hz1 hz2 rfl (by decide) _ m _ rfl hown2 ⟨g2, 0, none⟩ q cap2 NW rfl hl2 hn2 h12 (by omega) (by unfold maxLen; omega) (by omega) (by omega) _ rfl ?_; intro g5 cap5 w5 h5 hg5 _ hg6))
   have hB5 := hB2.grown hg5 hB2.size (fun k e => (hown2.lt k e).1)
   go_round
   case rel =>
    refine ⟨k + 1, by omega, by go_num, ?_, hB5⟩
    have e : putN l.length ++ (l.take (k + 1)).flatMap putN = D ++ putN x := by rw [HT.out, List.flatMap_append, ← List.append_assoc, HD.out]; simp
    rw [e, ← HN.out, List.length_append, hm, hq]
    exact h5
   case measure => simp [intOf]; omega
  ·have e : k = n := by omega
   subst e
   have he : putN l.length ++ (l.take k).flatMap putN = rowB l := by rw [← hn, List.take_length]; rfl
   rw [he] at hown
   have HO := Lib.hid hown
   have hlt : decide (k < k) = false := by simp
   clear hi hown hb hv
   go_wp2_with fail
   go_ret
   exact ⟨_, rfl, HO.out, hB⟩
theorem zd_even (c : Nat) (h : c % 2 = 0) : zd c = ((c / 2 : Nat) : Int) := by unfold zd; rw [if_neg (by omega)]
theorem zd_odd (c : Nat) (h : c % 2 = 1) : zd c = -1 - ((c / 2 : Nat) : Int) := by unfold zd; rw [if_pos h]
theorem tup3 {a b c d : Int} {y : Value} (h : a = b) (h' : c = d) : Ending.returned (.tuple #[.int .i64 a, .int .i64 c, y]) = Ending.returned (.tuple #[.int .i64 b, .int .i64 d, y]) := by rw [h, h']
theorem wget_ok (n : Int) (g o N at' cap : Nat) (w : World) (hI : I64 n) (ha : at' + (putN n).length ≤ N) (hN : N ≤ cap) (hN2 : N < 1000000) (hr : w.rangeAt g (o + at') (bts (putN n))) :
  Calls Tryz.prog 149 #[.slice (some ⟨g, o, none⟩) N cap, .int .i64 (at' : Int)] w fun e w' => e = .returned (.tuple #[.int .i64 n, .int .i64 ((at' + (putN n).length : Nat) : Int), .int .i64 0]) ∧ w = w' := by
 have hI' := hI
 obtain ⟨i1, i2⟩ := hI'
 have hc := zc_lt hI.1 hI.2
 have hz := zd_zc n
 have hl := putN_len n
 have hR := read_ok (zc n) g (o + at') (N - at') (cap - at') w hc hr (by unfold putN at ha; omega)
 rw [show (putC 9 (zc n)).length = (putN n).length from rfl] at hR
 obtain ⟨L, hL⟩ : ∃ L, (putN n).length = L := ⟨_, rfl⟩
 rw [hL] at ha hR hl ⊢
 generalize zc n = c at *
 clear hL hr
 go_enter Tryz.func149, Tryz.ntmps149
 go_wp2_with fail
 refine hR.mono ?_; rintro e w' ⟨rfl, rfl⟩
 clear hR
 have hand : bits .and .u64 (c : Int) 1 = ((c % 2 : Nat) : Int) := by
  have := u64_and_nat c 1 hc (by omega)
  rw [Nat.and_one_is_mod] at this
  exact this
 rcases (Nat.mod_two_eq_zero_or_one c) with c2 | c2
 ·have hq : (c : Int) / 2 = n := by rw [← hz, zd_even c c2]; omega
  have hb : (bits .and .u64 (c : Int) 1 == 1) = false := by rw [hand, c2]; rfl
  clear hand hc hz c2
  generalize (c : Int) = C at *
  have HQ := Lib.hid hq
  go_wp2_with fail
  go_ret3
  exact ⟨tup3 rfl (by omega), rfl⟩
 ·have hq : (c : Int) / 2 = -1 - n := by rw [← hz, zd_odd c c2]; omega
  have hb : (bits .and .u64 (c : Int) 1 == 1) = true := by rw [hand, c2]; rfl
  clear hand hc hz c2
  generalize (c : Int) = C at *
  have HQ := Lib.hid hq
  go_wp2_with fail
  have hx : bits .xor .i64 (-1) (-1 - n) = n := by rw [i64_notz _ ⟨by omega, by omega⟩]; omega
  rw [hx]
  go_ret3
  exact ⟨tup3 rfl (by omega), rfl⟩
theorem wget_nil (p : Option Addr) (cap : Nat) (w : World) : Calls Tryz.prog 149 #[.slice p 0 cap, .int .i64 0] w fun e w' => e = .returned (.tuple #[.int .i64 0, .int .i64 0, .int .i64 81]) ∧ w = w' := by
 have hR := fun q c => read_nil q c w
 go_enter Tryz.func149, Tryz.ntmps149
 go_wp2_with fail
 all_goals
  refine (hR _ _).mono ?_; rintro e w' ⟨rfl, rfl⟩
  go_wp2_with fail
  go_ret3
  exact ⟨rfl, rfl⟩
theorem wgetrow_nil (p : Option Addr) (cap : Nat) (most : Int) (w : World) : Calls Tryz.prog 136 #[.slice p 0 cap, .int .i64 0, .int .i64 most] w fun e w' => e = .returned (.tuple #[.slice none 0 0, .int .i64 0, .int .i64 81]) ∧ w = w' := by
 go_enter Tryz.func136, Tryz.ntmps136
 go_wp2_with fail
 refine (wget_nil _ _ _).mono ?_; rintro e w' ⟨rfl, rfl⟩
 go_wp2_with fail
 go_loopw [9, 10, 11, 12, 13] (fun _ _ ev _ _ wr => ev = .int .i64 81 ∧ w = wr) (fun _ _ _ _ _ _ => 0)
 case atStart => exact ⟨rfl, rfl⟩
 case round =>
  obtain ⟨rfl, rfl⟩ := hrel
  go_wp2_with fail
  go_ret3
  exact ⟨rfl, rfl⟩
def GetI (w : World) (l : List Int) (at0 : Nat) (manyv nextv ev out : Value) (wr : World) : Prop :=
 ∃ k : Nat, k ≤ l.length ∧ manyv = .int .i64 ((l.length : Int) - k) ∧ nextv = .int .i64 ((at0 + (putN l.length ++ (l.take k).flatMap putN).length : Nat) : Int) ∧ ev = .int .i64 0 ∧
  wr.ownsRow w.heap.size 3 1 out k ((l.take k).map (.int .i64)) ∧ Below w.heap.size w wr
theorem flat_take (l : List Int) (k : Nat) (x : Int) (h : l[k]? = some x) : (l.take (k + 1)).flatMap putN = (l.take k).flatMap putN ++ putN x := by
 rw [List.take_add_one, h, List.flatMap_append]; simp
theorem tupM {v y : Value} {a b : Int} (h : a = b) : Ending.returned (.tuple #[v, .int .i64 a, y]) = Ending.returned (.tuple #[v, .int .i64 b, y]) := by rw [h]
theorem flat_ge (l : List Int) : l.length ≤ (l.flatMap putN).length := by
 induction l with
 | nil => simp
 | cons x l ih => have := (putN_len x).1; simp [List.flatMap_cons] at *; omega
theorem rowB_part (l : List Int) (k : Nat) (x : Int) (h : l[k]? = some x) : ∃ r, rowB l = (putN l.length ++ (l.take k).flatMap putN) ++ (putN x ++ r) := by
 refine ⟨(l.drop (k + 1)).flatMap putN, ?_⟩
 have e : l = l.take (k + 1) ++ l.drop (k + 1) := (List.take_append_drop _ _).symm
 unfold rowB
 rw [List.append_assoc, ← List.append_assoc _ (putN x), ← flat_take l k x h, ← List.flatMap_append, ← e]
theorem wgetrow_ok (l : List Int) (g o N at0 cap : Nat) (most : Int) (w : World) (hi : ∀ x ∈ l, I64 x) (hm : (l.length : Int) ≤ most) (ha : at0 + (rowB l).length ≤ N) (hN : N ≤ cap) (hN2 : N < 1000000) (hr : w.rangeAt g (o + at0) (bts (rowB l))) :
  Calls Tryz.prog 136 #[.slice (some ⟨g, o, none⟩) N cap, .int .i64 (at0 : Int), .int .i64 most] w fun e w' => ∃ v, e = .returned (.tuple #[v, .int .i64 ((at0 + (rowB l).length : Nat) : Int), .int .i64 0]) ∧ w'.ownsRow w.heap.size 3 1 v l.length (l.map (.int .i64)) ∧ Below w.heap.size w w' := by
 obtain ⟨i0, hi0, hz0, hz1, hz2⟩ := info_hid int_info
 obtain ⟨n, hn⟩ : ∃ n, l.length = n := ⟨_, rfl⟩
 have hb := rowB_len l
 have hln := putN_len (l.length : Int)
 have hge := flat_ge l
 have hr1 : w.rangeAt g (o + at0) (bts (putN l.length)) := range_pre (k := bts (l.flatMap putN)) (by rw [← bts_app]; exact hr)
 have hrl : (rowB l).length = (putN l.length).length + (l.flatMap putN).length := by unfold rowB; rw [List.length_append]
 have hG := wget_ok (l.length : Int) g o N at0 cap w ⟨by omega, by omega⟩ (by omega) hN hN2 hr1
 have hst : ∀ out : Value, out = .slice none 0 0 → GetI w l at0 (.int .i64 (l.length : Int)) (.int .i64 ((at0 + (putN l.length).length : Nat) : Int)) (.int .i64 0) out w := fun out e => ⟨0, by omega, by simp, by simp, rfl, by rw [e]; exact World.ownsRow_nil _ _ _ _, Below.refl _ _⟩
 have hn0 : ((n : Nat) : Int) ≤ most := by omega
 have hl6 : n < 1000000 := by omega
 rw [hn] at hG hst hb
 have HST := Lib.hid hst
 have HR := Lib.hid hr
 have HA := Lib.hid ha
 have HRL := Lib.hid hrl
 clear hr1 hrl hst hr hb hln ha hm hge
 obtain ⟨A1, hA1⟩ : ∃ A1 : Int, ((at0 + (putN (n : Int)).length : Nat) : Int) = A1 := ⟨_, rfl⟩
 rw [hA1] at hG HST
 clear hA1
 go_enter Tryz.func136, Tryz.ntmps136
 go_wp2_with fail
 refine hG.mono ?_; rintro e w' ⟨rfl, rfl⟩
 clear hG
 go_wp2_with fail
 go_loopw [9, 10, 11, 12, 13] (fun manyv nextv ev out _ wr => GetI w l at0 manyv nextv ev out wr) (fun m _ _ _ _ _ => (intOf m).toNat)
 case atStart => exact HST.out _ rfl
 case round =>
  clear HST
  obtain ⟨k, hk, rfl, rfl, rfl, hown, hB⟩ := hrel
  have hs := hB.size
  rw [hn] at hk ⊢
  by_cases c : k < n
  ·obtain ⟨x, hx⟩ : ∃ x, l[k]? = some x := ⟨_, List.getElem?_eq_getElem (by omega)⟩
   have hI := hi x (List.mem_of_getElem? hx)
   obtain ⟨r, hrB⟩ := rowB_part l k x hx
   have hrx : wr.rangeAt g (o + (at0 + (putN l.length ++ (l.take k).flatMap putN).length)) (bts (putN x)) := by
    have := range_keep HR.out hB
    rw [hrB, bts_app] at this
    have := range_post this
    rw [bts_len, bts_app] at this
    have := range_pre this
    rw [← Nat.add_assoc]; exact this
   have hlen : (rowB l).length = (putN l.length ++ (l.take k).flatMap putN).length + ((putN x).length + r.length) := by rw [hrB]; simp only [List.length_append]
   have hG := wget_ok x g o N (at0 + (putN l.length ++ (l.take k).flatMap putN).length) cap wr hI (by have := HA.out; omega) hN hN2 hrx
   have hnx : ((at0 + (putN l.length ++ (l.take k).flatMap putN).length + (putN x).length : Nat) : Int) = ((at0 + (putN l.length ++ (l.take (k + 1)).flatMap putN).length : Nat) : Int) := by
    rw [flat_take l k x hx]; simp only [List.length_append]; omega
   rw [hnx] at hG
   have HT := Lib.hid (show (l.take k).map (Value.int .i64) ++ [.int .i64 x] = (l.take (k + 1)).map (Value.int .i64) by rw [List.take_add_one, hx]; simp)
   generalize hB2 : ((at0 + (putN l.length ++ (l.take (k + 1)).flatMap putN).length : Nat) : Int) = B at *
   rw [hn] at hG
   generalize ((at0 + (putN (n : Int) ++ (l.take k).flatMap putN).length : Nat) : Int) = A at *
   have HB2 := Lib.hid hB2
   clear hB2 hnx hlen hrB hrx hI hx
   have hkn : decide (0 < (n : Int) - (k : Int)) = true := by simp; omega
   go_wp2_with fail
   refine hG.mono ?_; rintro e w' ⟨rfl, rfl⟩
   clear hG
   go_wp2_with (first | (at_builtin; refine wpList_append_lies _ rfl (.tmp 47) (.tmp 49) 22 rfl w.heap.size 3 i0 (.int .i64 0) 1 8 Tryz.underlying22 (hi0 ()) hz0 hz1 hz2 rfl (by decide) _ k _ rfl (hown.alloc _) ⟨wr.heap.size, 0, none⟩ 1 1 [.int .i64 x] rfl rfl (cell_one_new _ _ _) (by intro u hu; simp at hu; subst hu; rfl) (by omega) (by unfold maxLen; omega) (by omega) (by simp; omega) _ rfl ?_; intro g5 cap5 w5 h5 hg5 _ hg6))
   have hB5 := (hB.alloc hB.size (.cells #[.int .i64 x] 3)).grown hg5 (by simp; omega) (fun k e => (hown.lt k e).1)
   rw [HT.out] at h5
   go_round
   case rel => exact ⟨k + 1, by omega, by rw [hn]; go_num, by rw [HB2.out], rfl, h5, hB5⟩
   case measure => simp [intOf]; omega
  ·have e : k = n := by omega
   subst e
   have htk : l.take k = l := by rw [← hn, List.take_length]
   rw [htk] at hown
   have hA : ((at0 + (putN (k : Int) ++ (l.take k).flatMap putN).length : Nat) : Int) = ((at0 + (rowB l).length : Nat) : Int) := by
    rw [htk, ← hn]; rfl
   rw [hA]
   obtain ⟨A, hAA⟩ : ∃ A : Int, A = ((at0 + (rowB l).length : Nat) : Int) := ⟨_, rfl⟩
   rw [← hAA]
   have HAA := Lib.hid hAA
   clear hAA
   have HO := Lib.hid (show wr.ownsRow w.heap.size 3 1 _ l.length (l.map (.int .i64)) by rw [hn]; exact hown)
   have hkn : decide (0 < (k : Int) - (k : Int)) = false := by simp
   clear hown hA htk hi hn
   go_wp2_with fail
   go_ret3
   exact ⟨_, tupM HAA.out, HO.out, hB⟩
def cfgA (c : Cfg) (vs vw : Value) : Array Value := #[.int .i64 c.fl, .int .i64 c.ca, .int .i64 c.pk, vs, .int .i64 c.tv, .int .i64 c.lv, .int .i64 c.op, .int .i64 c.dw, .int .i64 c.ld, .int .i64 c.cl, .int .i64 c.ho, .int .i64 c.rs, .int .i64 c.pa,
 .int .i64 c.z.b, .int .i64 c.z.s, .int .i64 c.z.m, .int .i64 c.z.k, .int .i64 c.z.d, .int .i64 c.z.t, .int .i64 c.z.m', .int .i64 c.z.k', .int .i64 c.z.d', .int .i64 c.z.t',
 .int .i64 (c.f 0), .int .i64 (c.f 1), .int .i64 (c.f 2), .int .i64 (c.f 3), .int .i64 (c.f 4), .int .i64 (c.f 5), .int .i64 (c.f 6), .int .i64 (c.f 7), .int .i64 (c.f 8), .int .i64 (c.f 9), .int .i64 (c.f 10), .int .i64 (c.f 11), .bool c.ab, vw]
def wnA (x : Wn) : Array Value := #[.int .i64 x.k, .int .i64 x.m, .int .i64 x.p, .int .i64 x.a, .int .i64 x.s, .int .i64 x.mi, .int .i64 x.l]
structure CfgM (w : World) (c : Cfg) (vs vw : Value) : Prop where
 s : Rd w vs c.st.length (c.st.map (.int .i64))
 w : Rd w vw 1 (wnA c.w).toList
theorem CfgM.below {w w' : World} {c : Cfg} {vs vw : Value} (h : CfgM w c vs vw) (hb : Below w.heap.size w w') : CfgM w' c vs vw := ⟨h.s.below hb, h.w.below hb⟩
theorem cfg_range {w : World} {b : Nat} {c : Cfg} {vs vw : Value} {t : TypeId} (h : BlockIs w b (cfgA c vs vw) t) : w.rangeAt b 0 (cfgA c vs vw).toList := fun j v hv => by
 rw [Nat.zero_add]; exact h.cell (by simpa using hv)
theorem kwithin_any (n a b : Int) (w : World) : Calls Tryz.prog 125 #[.int .i64 n, .int .i64 a, .int .i64 b] w fun e w' => e = .returned (.bool (decide (a ≤ n) && decide (n ≤ b))) ∧ w = w' := by
 go_enter Tryz.func125, Tryz.ntmps125
 go_wp2
 all_goals
  go_ret
  refine ⟨boolE ?_, rfl⟩
  simp [*] <;> omega
theorem kwithin_yes (n a b : Int) (w : World) (h : a ≤ n) (h' : n ≤ b) : Calls Tryz.prog 125 #[.int .i64 n, .int .i64 a, .int .i64 b] w fun e w' => e = .returned (.bool true) ∧ w = w' := by
 have := kwithin_any n a b w
 rwa [decide_eq_true h, decide_eq_true h'] at this
theorem kmust_yes (e : Int) (w : World) : Calls Tryz.prog 124 #[.bool true, .int .i64 e] w fun e w' => e = .returned (.int .i64 0) ∧ w = w' := by
 go_enter Tryz.func124, Tryz.ntmps124
 go_wp2
 go_ret
 exact ⟨rfl, rfl⟩
theorem ksize_ok (c : Cfg) (vs vw : Value) (w : World) (h : CfgOk c) : Calls Tryz.prog 67 #[.agg (cfgA c vs vw)] w fun e w' => e = .returned (.int .i64 0) ∧ Below w.heap.size w w' := by
 obtain ⟨h1, h2, h3, h4, h5, h6, _, _, _, _, _⟩ := h
 have hB := BlockIs.new w (cfgA c vs vw) 33
 have c0 := hB.cell (i := 0) (v := .int .i64 c.fl) rfl
 have c1 := hB.cell (i := 1) (v := .int .i64 c.ca) rfl
 have c2 := hB.cell (i := 2) (v := .int .i64 c.pk) rfl
 have HB := (Below.refl w.heap.size w).alloc (Nat.le_refl _) (.cells (cfgA c vs vw) 33)
 clear hB
 have HB := Lib.hid HB
 go_enter Tryz.func67, Tryz.ntmps67
 go_wp2_with (first | (go_at_call 125; refine (kwithin_yes _ _ _ _ (by omega) (by omega)).mono ?_; rintro e w' ⟨rfl, rfl⟩) | (go_at_call 124; refine (kmust_yes _ _).mono ?_; rintro e w' ⟨rfl, rfl⟩))
 go_ret
 exact ⟨rfl, HB.out⟩
theorem kstops_ok (c : Cfg) (vs vw : Value) (w : World) (h : CfgOk c) (hm : CfgM w c vs vw) : Calls Tryz.prog 68 #[.agg (cfgA c vs vw)] w fun e w' => e = .returned (.int .i64 0) ∧ Below w.heap.size w w' := by
 have hl := stops_len h.st h.fl2
 obtain ⟨⟨hs2, hsin, hsp⟩, f1, f2⟩ : StopsOk c.fl c.st ∧ 2 ≤ c.fl ∧ c.fl ≤ 64 := ⟨h.st, h.fl1, h.fl2⟩
 obtain ⟨bs, os, cs, rfl, hcs, hrs⟩ := hm.s.some (by omega)
 have hB := BlockIs.new w (cfgA c (.slice (some ⟨bs, os, none⟩) c.st.length cs) vw) 33
 have c0 := hB.cell (i := 0) (v := .int .i64 c.fl) rfl
 have c3 := hB.cell (i := 3) (v := (.slice (some ⟨bs, os, none⟩) c.st.length cs)) rfl
 have HB := (Below.refl w.heap.size w).alloc (Nat.le_refl _) (.cells (cfgA c (.slice (some ⟨bs, os, none⟩) c.st.length cs) vw) 33)
 have hr := range_keep hrs HB
 clear hB hm h hrs
 generalize hn : c.st.length = n at *
 have HBH := Lib.hid HB
 obtain ⟨W, hW⟩ : ∃ W, w.alloc (.cells (cfgA c (.slice (some ⟨bs, os, none⟩) n cs) vw) 33) = W := ⟨_, rfl⟩
 rw [hW] at c0 c3 hr HBH
 have hd2 : decide (2 ≤ (n : Int)) = true := by simp; omega
 go_enter Tryz.func68, Tryz.ntmps68
 go_wp2_with fail
 clear hW
 go_loopw [3, 4, 5, 13] (fun isv _ _ iv wr => ∃ k : Nat, k ≤ n ∧ isv = .bool true ∧ iv = .int .i64 (k : Int) ∧ W = wr) (fun _ _ _ iv _ => (n - intOf iv).toNat)
 case atStart => exact ⟨0, by omega, rfl, rfl, rfl⟩
 case round =>
  obtain ⟨k, hk, rfl, rfl, rfl⟩ := hrel
  by_cases hc : k < n
  ·obtain ⟨x, hx⟩ : ∃ x, c.st[k]? = some x := ⟨_, List.getElem?_eq_getElem (by omega)⟩
   have hxi := hsin x (List.mem_of_getElem? hx)
   have hcell : W.cell? ⟨bs, os + k, none⟩ = some (.int .i64 x) := hr k (.int .i64 x) (by simp [hx])
   have hlt : decide (k < n) = true := by simpa using hc
   rcases Nat.eq_zero_or_pos k with k0 | k0
   ·have hk0 : ((k : Int) == 0) = true := by simp; omega
    clear hsp hsin hr hx k0
    go_wp2_with (first | (go_at_call 125; refine (kwithin_yes _ _ _ _ (by omega) (by omega)).mono ?_; rintro e w' ⟨rfl, rfl⟩) | (go_at_call 124; refine (kmust_yes _ _).mono ?_; rintro e w' ⟨rfl, rfl⟩))
    go_round
    case rel => exact ⟨k + 1, by omega, rfl, by go_num, trivial⟩
    case measure => simp [intOf]; omega
   ·obtain ⟨y, hy⟩ : ∃ y, c.st[k - 1]? = some y := ⟨_, List.getElem?_eq_getElem (by omega)⟩
    have hyc : W.cell? ⟨bs, os + (k - 1), none⟩ = some (.int .i64 y) := hr (k - 1) (.int .i64 y) (by simp [hy])
    have hyx : y < x := by
     have h1 := (List.getElem?_eq_some_iff.1 hy)
     have h2 := (List.getElem?_eq_some_iff.1 hx)
     obtain ⟨q1, e1⟩ := h1
     obtain ⟨q2, e2⟩ := h2
     rw [← e1, ← e2]
     exact (List.pairwise_iff_getElem.1 hsp) (k - 1) k q1 q2 (by omega)
    have hk1 : ((k : Int) == 0) = false := by simp; omega
    have hk2 : (1 : Int) ≤ (k : Int) := by omega
    have hk3 : (k : Int) - 1 < (n : Int) := by omega
    clear hsp hsin hr hx hy
    go_wp2_with (first | (go_at_call 125; refine (kwithin_yes _ _ _ _ (by omega) (by omega)).mono ?_; rintro e w' ⟨rfl, rfl⟩) | (go_at_call 124; refine (kmust_yes _ _).mono ?_; rintro e w' ⟨rfl, rfl⟩))
    go_round
    case rel => exact ⟨k + 1, by omega, rfl, by go_num, trivial⟩
    case measure => simp [intOf]; omega
  ·have e : k = n := by omega
   subst e
   have hlt : decide (k < k) = false := by simp
   clear hsp hsin hr
   go_wp2_with (first | (go_at_call 125; refine (kwithin_yes _ _ _ _ (by omega) (by omega)).mono ?_; rintro e w' ⟨rfl, rfl⟩) | (go_at_call 124; refine (kmust_yes _ _).mono ?_; rintro e w' ⟨rfl, rfl⟩))
   go_ret
   exact ⟨rfl, HBH.out⟩
theorem ktimes_ok (c : Cfg) (vs vw : Value) (w : World) (h : CfgOk c) : Calls Tryz.prog 69 #[.agg (cfgA c vs vw)] w fun e w' => e = .returned (.int .i64 0) ∧ Below w.heap.size w w' := by
 obtain ⟨⟨a1, a2⟩, ⟨b1, b2⟩, ⟨d1, d2⟩, ⟨e1, e2⟩, ⟨f1, f2⟩, ⟨g1, g2⟩, ⟨i1, i2⟩, ⟨j1, j2⟩, ⟨k1, k2, k3, k4⟩⟩ := h.tm
 have hB := BlockIs.new w (cfgA c vs vw) 33
 have c4 := hB.cell (i := 4) (v := .int .i64 c.tv) rfl
 have c5 := hB.cell (i := 5) (v := .int .i64 c.lv) rfl
 have c6 := hB.cell (i := 6) (v := .int .i64 c.op) rfl
 have c7 := hB.cell (i := 7) (v := .int .i64 c.dw) rfl
 have c8 := hB.cell (i := 8) (v := .int .i64 c.ld) rfl
 have c9 := hB.cell (i := 9) (v := .int .i64 c.cl) rfl
 have c10 := hB.cell (i := 10) (v := .int .i64 c.ho) rfl
 have c11 := hB.cell (i := 11) (v := .int .i64 c.rs) rfl
 have c12 := hB.cell (i := 12) (v := .int .i64 c.pa) rfl
 have HB := (Below.refl w.heap.size w).alloc (Nat.le_refl _) (.cells (cfgA c vs vw) 33)
 clear h
 obtain ⟨w1, hw1⟩ : ∃ W, w.alloc (.cells (cfgA c vs vw) 33) = W := ⟨_, rfl⟩
 have hz1 : w1.heap.size = w.heap.size + 1 := by rw [← hw1]; simp
 rw [hw1] at hB c4 c5 c6 c7 c8 c9 c10 c11 c12 HB
 have hT := BlockIs.new w1 #[.int .i64 c.tv, .int .i64 c.lv, .int .i64 c.op, .int .i64 c.dw, .int .i64 c.ld, .int .i64 c.cl, .int .i64 c.ho] 24
 have hB2 := hB.alloc (.cells #[.int .i64 c.tv, .int .i64 c.lv, .int .i64 c.op, .int .i64 c.dw, .int .i64 c.ld, .int .i64 c.cl, .int .i64 c.ho] 24)
 have HB2 := HB.alloc (by omega) (.cells #[.int .i64 c.tv, .int .i64 c.lv, .int .i64 c.op, .int .i64 c.dw, .int .i64 c.ld, .int .i64 c.cl, .int .i64 c.ho] 24)
 obtain ⟨w2, hw2⟩ : ∃ W, w1.alloc (.cells #[.int .i64 c.tv, .int .i64 c.lv, .int .i64 c.op, .int .i64 c.dw, .int .i64 c.ld, .int .i64 c.cl, .int .i64 c.ho] 24) = W := ⟨_, rfl⟩
 have hz2 : w2.heap.size = w.heap.size + 2 := by rw [← hw2]; simp [hz1]
 rw [hw2] at hT hB2 HB2
 have hL := BlockIs.new w2 #[.int .i64 c.tv, .int .i64 c.lv, .int .i64 c.op, .int .i64 c.dw, .int .i64 c.cl] 3
 have hT3 := hT.alloc (.cells #[.int .i64 c.tv, .int .i64 c.lv, .int .i64 c.op, .int .i64 c.dw, .int .i64 c.cl] 3)
 have hB3 := hB2.alloc (.cells #[.int .i64 c.tv, .int .i64 c.lv, .int .i64 c.op, .int .i64 c.dw, .int .i64 c.cl] 3)
 have HB3 := HB2.alloc (by omega) (.cells #[.int .i64 c.tv, .int .i64 c.lv, .int .i64 c.op, .int .i64 c.dw, .int .i64 c.cl] 3)
 obtain ⟨w3, hw3⟩ : ∃ W, w2.alloc (.cells #[.int .i64 c.tv, .int .i64 c.lv, .int .i64 c.op, .int .i64 c.dw, .int .i64 c.cl] 3) = W := ⟨_, rfl⟩
 rw [hw3] at hL hT3 hB3 HB3
 rw [hz1] at hT3
 rw [hz2] at hL
 have HB3 := Lib.hid HB3
 have HL := Lib.hid hL
 have HT3 := Lib.hid hT3
 have HBB := Lib.hid hB3
 clear hB hB2 hT HB HB2 hL hT3 hB3
 have hw2' : (w.alloc (.cells (cfgA c vs vw) 33)).alloc (.cells #[.int .i64 c.tv, .int .i64 c.lv, .int .i64 c.op, .int .i64 c.dw, .int .i64 c.ld, .int .i64 c.cl, .int .i64 c.ho] 24) = w2 := by rw [hw1, hw2]
 have hw3' : ((w.alloc (.cells (cfgA c vs vw) 33)).alloc (.cells #[.int .i64 c.tv, .int .i64 c.lv, .int .i64 c.op, .int .i64 c.dw, .int .i64 c.ld, .int .i64 c.cl, .int .i64 c.ho] 24)).alloc (.cells #[.int .i64 c.tv, .int .i64 c.lv, .int .i64 c.op, .int .i64 c.dw, .int .i64 c.cl] 3) = w3 := by rw [hw2', hw3]
 have HW := Lib.hid hw3'
 rw [← hw1] at c4 c5 c6 c7 c8 c9 c10 c11 c12
 clear hw1 hw2 hw3 hw2' hw3' hz1 hz2
 go_enter Tryz.func69, Tryz.ntmps69
 go_wp2_with fail
 rw [HW.out]
 clear c4 c5 c6 c7 c8 c9 c10 c11 c12
 have HL := HL.out
 have hl (k : Nat) (hk : k < 5) : ∃ x, w3.cell? ⟨w.heap.size + 2, k, none⟩ = some (.int .i64 x) ∧ 1 ≤ x ∧ x ≤ 60 := by
  rcases (show k = 0 ∨ k = 1 ∨ k = 2 ∨ k = 3 ∨ k = 4 by omega) with e | e | e | e | e <;> subst e
  ·exact ⟨c.tv, HL.cell rfl, a1, a2⟩
  ·exact ⟨c.lv, HL.cell rfl, b1, b2⟩
  ·exact ⟨c.op, HL.cell rfl, d1, d2⟩
  ·exact ⟨c.dw, HL.cell rfl, e1, e2⟩
  ·exact ⟨c.cl, HL.cell rfl, f1, f2⟩
 clear HL
 go_loopw [4, 6, 21] (fun isv _ iv wr => ∃ k : Nat, k ≤ 5 ∧ isv = .bool true ∧ iv = .int .i64 (k : Int) ∧ w3 = wr) (fun _ _ iv _ => (5 - intOf iv).toNat)
 case atStart => exact ⟨0, by omega, rfl, rfl, rfl⟩
 case round =>
  obtain ⟨k, hk, rfl, rfl, rfl⟩ := hrel
  by_cases hc : k < 5
  ·obtain ⟨x, hcell, x1, x2⟩ := hl k hc
   clear hl
   go_wp2_with (first | (go_at_call 125; refine (kwithin_yes _ _ _ _ (by omega) (by omega)).mono ?_; rintro e w' ⟨rfl, rfl⟩) | (go_at_call 124; refine (kmust_yes _ _).mono ?_; rintro e w' ⟨rfl, rfl⟩))
   go_round
   case rel => exact ⟨k + 1, by omega, rfl, by go_num, trivial⟩
   case measure => simp [intOf]; omega
  ·have e : k = 5 := by omega
   subst e
   have t6 := HT3.out.cell (i := 6) (v := .int .i64 c.ho) rfl
   have t4 := HT3.out.cell (i := 4) (v := .int .i64 c.ld) rfl
   have t3 := HT3.out.cell (i := 3) (v := .int .i64 c.dw) rfl
   have c11 := HBB.out.cell (i := 11) (v := .int .i64 c.rs) rfl
   have c12 := HBB.out.cell (i := 12) (v := .int .i64 c.pa) rfl
   clear hl
   rw [show (((5 : Nat) : Int)) = 5 from rfl]
   go_wp2_with (first | (go_at_call 125; refine (kwithin_yes _ _ _ _ (by omega) (by omega)).mono ?_; rintro e w' ⟨rfl, rfl⟩) | (go_at_call 124; refine (kmust_yes _ _).mono ?_; rintro e w' ⟨rfl, rfl⟩))
   all_goals
    go_ret
    exact ⟨rfl, HB3.out⟩
end Go.Proofs.YtfnifgppblbjhaaGreatDoor
