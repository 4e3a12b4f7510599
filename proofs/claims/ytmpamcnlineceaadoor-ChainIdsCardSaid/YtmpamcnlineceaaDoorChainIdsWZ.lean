/- ChainIds: the walk. -/
import Derived.Test.YtmpamcnlineceaaDoorMG33
import Derived.Test.YtmpamcnlineceaaDoorMG35
set_option linter.unusedVariables false
set_option linter.unusedSimpArgs false
set_option linter.unnecessarySimpa false
set_option linter.all false
namespace Go.Proofs.YtmpamcnlineceaaDoor
open Go Go.RowKit Go.Maps Go.MapKept

set_option maxRecDepth 20000 in
set_option maxHeartbeats 2000000 in
theorem size1 (w : World) {n : Nat} (h : n < 253) : Calls Tryd.prog 44 #[.int .u64 n] w fun e w' => e = .returned (.int .i64 1) ∧ w' = w := by
  have j1 : decide ((n : Int) < 253) = true := by simp; omega
  clear h
  go_enter Tryd.func44, Tryd.ntmps44
  go_wp2
  go_ret
  exact ⟨rfl, rfl⟩
set_option maxRecDepth 20000 in
set_option maxHeartbeats 2000000 in
theorem var1 (w : World) {n : Nat} (h : n < 253) : Calls Tryd.prog 30 #[.int .u64 n] w fun e w' => e = .returned (.slice (some ⟨w.heap.size, 0, none⟩) 1 1) ∧ w' = w.alloc (.cells #[byteV n] 5) := by
  have e1 : (n : Int) % 256 = (n : Int) := by omega
  have H := Lib.hid h
  clear h
  go_enter Tryd.func30, Tryd.ntmps30
  go_wp2_with (go_at_call 44; refine (size1 w H.out).mono ?_; rintro e w1 ⟨rfl, hw1⟩; rw [hw1])
  go_ret
  exact ⟨rfl, rfl⟩
theorem BlkQ.tagOk {w : World} {b : BlkD} {cs : List Value} (h : BlkQ w b cs) : 0 ≤ b.tag ∧ b.tag ≤ 18446744073709551615 := by
  obtain ⟨_, _, _, _, _, h, _⟩ := h
  exact h
theorem BlkQ.parts {w : World} {b : BlkD} {pa ta : Option Addr} {pc tc : Nat} (h : BlkQ w b [.int .u64 b.tag, .slice pa b.pay.length pc, .slice ta b.txs.length tc]) : OutsIs w (.slice pa b.pay.length pc) b.pay ∧ TxsIs w (.slice ta b.txs.length tc) b.txs := by
  obtain ⟨pa', pc', ta', tc', e, _, ho, hx⟩ := h
  simp only [blkC, List.cons.injEq, and_true] at e
  obtain ⟨-, e1, e2⟩ := e
  injection e1 with e11 _ e13
  injection e2 with e21 _ e23
  subst e11; subst e13; subst e21; subst e23
  exact ⟨ho, hx⟩
theorem BRowArg {w : World} {B : Nat} {v : Value} {l : List Int} (h : BRow w B v l) : ArgIs w v l.length (l.map byteV) := h.slice.arg
theorem byte_arg {w : World} {q : Nat} {x : Int} (h : w.heap[q]? = some (.cells #[byteV x] 5 (0, 0))) : ArgIs w (.slice (some ⟨q, 0, none⟩) 1 1) [x].length ([x].map byteV) :=
  .inl (.inr ⟨q, 0, 1, rfl, Nat.le_refl _, by decide, range_obj h, obj_lt h⟩)
theorem pieces5 {w : World} {v0 v1 v2 v3 v4 : Value} {l0 l1 l2 l3 l4 : List Int} (h0 : ArgIs w v0 l0.length (l0.map byteV)) (h1 : ArgIs w v1 l1.length (l1.map byteV)) (h2 : ArgIs w v2 l2.length (l2.map byteV)) (h3 : ArgIs w v3 l3.length (l3.map byteV)) (h4 : ArgIs w v4 l4.length (l4.map byteV)) :
    ∀ p, (w.alloc (.cells #[v0, v1, v2, v3, v4] 48)).heap.size ≤ p → PiecesAt (w.alloc (.cells #[v0, v1, v2, v3, v4] 48)) p (.slice (some ⟨w.heap.size, 0, none⟩) 5 5) [l0, l1, l2, l3, l4] := fun p hp => by
  have hs : (w.alloc (.cells #[v0, v1, v2, v3, v4] 48)).heap.size = w.heap.size + 1 := by simp
  have f := (Fr.refl No w).alloc (.cells #[v0, v1, v2, v3, v4] 48)
  have r := range_obj (new_obj w (.cells #[v0, v1, v2, v3, v4] 48))
  refine ⟨_, _, rfl, fun i l hi => ?_⟩
  match i, hi with
  | 0, hi => cases hi; exact ⟨w.heap.size, 0, v0, rfl, by omega, r 0 _ rfl, bytes_at (h0.keep f) hp⟩
  | 1, hi => cases hi; exact ⟨w.heap.size, 0, v1, rfl, by omega, r 1 _ rfl, bytes_at (h1.keep f) hp⟩
  | 2, hi => cases hi; exact ⟨w.heap.size, 0, v2, rfl, by omega, r 2 _ rfl, bytes_at (h2.keep f) hp⟩
  | 3, hi => cases hi; exact ⟨w.heap.size, 0, v3, rfl, by omega, r 3 _ rfl, bytes_at (h3.keep f) hp⟩
  | 4, hi => cases hi; exact ⟨w.heap.size, 0, v4, rfl, by omega, r 4 _ rfl, bytes_at (h4.keep f) hp⟩
def IdsOk (w : World) (e : Ending) (w' : World) : Prop := e = .returned (.bool true) ∧ Fr No w w'
set_option maxRecDepth 20000 in
set_option maxHeartbeats 4000000 in
theorem idsLaw_any {w : World} (hg : ShaW w) {b : BlkD} {cs : List Value} (hb : BlkQ w b cs) :
    Calls Tryd.prog 9 #[.agg cs.toArray] w (IdsOk w) := by
  have HG := Lib.hid hg
  have HB := Lib.hid hb
  obtain ⟨pa, pc, ta, tc, rfl⟩ := hb.form
  obtain ⟨dB, uB, rB⟩ := descBlk
  obtain ⟨dH, uH, rH⟩ := descHash
  obtain ⟨dO, uO, rO⟩ := descOut
  obtain ⟨dT, uT, rT⟩ := descTx
  have zH := zeroHash
  have zo := zeroOutC
  have zT := zeroTx3
  have F1 := Lib.hid ((Fr.refl No w).alloc (.cells #[.int .u64 b.tag, .slice pa b.pay.length pc, .slice ta b.txs.length tc] 27))
  obtain ⟨x0, x1, x2, xr⟩ := row3_new w (.int .u64 b.tag) (.slice pa b.pay.length pc) (.slice ta b.txs.length tc) 27
  have X0 := Lib.hid x0
  have X1 := Lib.hid x1
  have X2 := Lib.hid x2
  have XR := Lib.hid xr
  have AL := Lib.hid (aliven_any (HG.out.keep0 F1.out))
  have HHL := Lib.hid (hashC_len (blkH_ok b))
  have GK := Lib.hid (show ∀ w', Fr No (w.alloc (.cells #[.int .u64 b.tag, .slice pa b.pay.length pc, .slice ta b.txs.length tc] 27)) w' → ShaW w' ∧ BlkQ w' b [.int .u64 b.tag, .slice pa b.pay.length pc, .slice ta b.txs.length tc] from fun w' f => ⟨(HG.out.keep0 F1.out).keep0 f, (HB.out.keep F1.out).keep f⟩)
  clear hg hb x0 x1 x2 xr HB
  show Calls Tryd.prog 9 #[.agg #[.int .u64 b.tag, .slice pa b.pay.length pc, .slice ta b.txs.length tc]] w _
  by_cases hh : heavyB b = true
  · go_enter Tryd.func9, Tryd.ntmps9
    have K0 := Lib.hid True.intro
    have K1 := Lib.hid True.intro
    have K2 := Lib.hid True.intro
    go_wp2_with (first | (have mk := K0.out; go_at_call 10; generalize w.alloc (.cells #[.int .u64 b.tag, .slice pa b.pay.length pc, .slice ta b.txs.length tc] 27) = w1 at *; refine AL.out.mono ?_; rintro e w2 ⟨rfl, f2⟩; have F2 := Lib.hid f2; clear f2; have XR2 := Lib.hid (range_keep XR.out F2.out id); go_frame; clear mk K0) | ((with_reducible refine at_list ?_); have mk := K1.out; refine wpList_value rfl (exec_load (ty := 27) rfl rfl XR2.out uB rB infoBlk) ?_; go_frame; clear mk K1) | (have mk := K2.out; go_at_call 12; refine (heavy_any w2 (GK.out w2 F2.out).2).mono ?_; rintro e w3 ⟨rfl, f3⟩; rw [hh]; have F3 := Lib.hid (F2.out.trans0 f3); clear f3; go_frame; clear mk K2))
    go_ret
    exact ⟨rfl, F1.out.trans0 F3.out⟩
  have hh2 : heavyB b = false := by simpa using hh
  have HL := Lib.hid (heavyB_not hh2)
  have p30 : b.pay.length ≤ 30 := HL.out.1
  have t30 : b.txs.length ≤ 30 := HL.out.2.1
  have HH2 := Lib.hid hh2
  clear hh hh2
  by_cases hs : 8 < b.pay.length ∨ 16 < b.txs.length
  · have BAD := Lib.hid (blk_bad (show blkOk b = false by
      rcases hs with h | h
      · have : decide (b.pay.length ≤ 8) = false := by simp; omega
        simp [blkOk, this]
      · have : decide (b.txs.length ≤ 16) = false := by simp; omega
        simp [blkOk, this]))
    have hs2 : 8 < b.pay.length ∨ (¬ 8 < b.pay.length ∧ 16 < b.txs.length) := by omega
    rcases hs2 with h | ⟨h, h'⟩
    · have j1 : decide ((8 : Int) < (b.pay.length : Int)) = true := by simp; omega
      clear h hs
      go_enter Tryd.func9, Tryd.ntmps9
      have K0 := Lib.hid True.intro
      have K1 := Lib.hid True.intro
      have K2 := Lib.hid True.intro
      have K3 := Lib.hid True.intro
      have K4 := Lib.hid True.intro
      have K5 := Lib.hid True.intro
      have K6 := Lib.hid True.intro
      have K7 := Lib.hid True.intro
      have K8 := Lib.hid True.intro
      go_wp2_with (first | (have mk := K0.out; go_at_call 10; generalize w.alloc (.cells #[.int .u64 b.tag, .slice pa b.pay.length pc, .slice ta b.txs.length tc] 27) = w1 at *; refine AL.out.mono ?_; rintro e w2 ⟨rfl, f2⟩; have F2 := Lib.hid f2; clear f2; have XR2 := Lib.hid (range_keep XR.out F2.out id); go_frame; clear mk K0) | ((with_reducible refine at_list ?_); have mk := K1.out; refine wpList_value rfl (exec_load (ty := 27) rfl rfl XR2.out uB rB infoBlk) ?_; go_frame; clear mk K1) | (have mk := K2.out; go_at_call 12; refine (heavy_any w2 (GK.out w2 F2.out).2).mono ?_; rintro e w3 ⟨rfl, f3⟩; rw [HH2.out]; have F3 := Lib.hid (F2.out.trans0 f3); clear f3; have XR3 := Lib.hid (range_keep XR.out F3.out id); go_frame; clear mk K2) | ((with_reducible refine at_list ?_); have mk := K3.out; refine wpList_value rfl (exec_load (ty := 27) rfl rfl XR3.out uB rB infoBlk) ?_; go_frame; clear mk K3) | (have mk := K4.out; go_at_call 25; refine (blkid_any (GK.out w3 F3.out).1 (GK.out w3 F3.out).2).mono ?_; rintro e w4 ⟨rfl, f4⟩; rw [BAD.out.1]; have F4 := Lib.hid (F3.out.trans0 f4); clear f4; have F5 := Lib.hid (F4.out.trans0 ((Fr.refl No w4).alloc (.cells (hashC (blkH b)).toArray 45))); have RHX := Lib.hid (range_new w4 (hashC (blkH b)) 45); go_frame; clear mk K4) | ((with_reducible refine at_store ?_); have mk := K5.out; refine wpList_done rfl (exec_store_new (w := w4) (ty := 45) (cs := hashC (blkH b)) rfl rfl rfl (by rw [HHL.out]; rfl) (by rw [HHL.out]; exact infoHash) hashC_one) ?_; generalize w4.alloc (.cells (hashC (blkH b)).toArray 45) = w5 at *; generalize w4.heap.size = q3 at *; have y1 := F5.out.cell X1.out id; have y2 := F5.out.cell X2.out id; go_frame; clear mk K5) | ((with_reducible refine at_dst 39 ?_); have mk := K6.out; refine wpList_vG (o := ⟨some 39, _, _, _, _, _⟩) rfl (exec_load (ty := 45) rfl rfl RHX.out uH rH (by rw [HHL.out]; exact infoHash)) ?_; go_frame; clear mk K6) | ((with_reducible refine at_dst 40 ?_); have mk := K7.out; refine wpList_vG (o := ⟨some 40, _, _, _, _, _⟩) rfl (exec_bld (t := 45) rfl rfl (bldHash0 _)) ?_; go_frame; clear mk K7) | ((with_reducible refine at_dst 41 ?_); have mk := K8.out; refine wpList_vG (o := ⟨some 41, _, _, _, _, _⟩) rfl (eqHash.exec_eql rfl (u := (hashC (blkH b)).toArray) (v := (hashC hash0).toArray) rfl rfl (keyOfHash (blkH_ok b)) (keyOfHash hash0_ok) true (by rw [BAD.out.2]; simp) _) ?_; go_frame; clear mk K8))
      go_ret
      exact ⟨rfl, F1.out.trans0 F5.out⟩
    · have j1 : decide ((8 : Int) < (b.pay.length : Int)) = false := by simp; omega
      have j2 : decide ((16 : Int) < (b.txs.length : Int)) = true := by simp; omega
      clear h h' hs
      go_enter Tryd.func9, Tryd.ntmps9
      have K0 := Lib.hid True.intro
      have K1 := Lib.hid True.intro
      have K2 := Lib.hid True.intro
      have K3 := Lib.hid True.intro
      have K4 := Lib.hid True.intro
      have K5 := Lib.hid True.intro
      have K6 := Lib.hid True.intro
      have K7 := Lib.hid True.intro
      have K8 := Lib.hid True.intro
      go_wp2_with (first | (have mk := K0.out; go_at_call 10; generalize w.alloc (.cells #[.int .u64 b.tag, .slice pa b.pay.length pc, .slice ta b.txs.length tc] 27) = w1 at *; refine AL.out.mono ?_; rintro e w2 ⟨rfl, f2⟩; have F2 := Lib.hid f2; clear f2; have XR2 := Lib.hid (range_keep XR.out F2.out id); go_frame; clear mk K0) | ((with_reducible refine at_list ?_); have mk := K1.out; refine wpList_value rfl (exec_load (ty := 27) rfl rfl XR2.out uB rB infoBlk) ?_; go_frame; clear mk K1) | (have mk := K2.out; go_at_call 12; refine (heavy_any w2 (GK.out w2 F2.out).2).mono ?_; rintro e w3 ⟨rfl, f3⟩; rw [HH2.out]; have F3 := Lib.hid (F2.out.trans0 f3); clear f3; have XR3 := Lib.hid (range_keep XR.out F3.out id); go_frame; clear mk K2) | ((with_reducible refine at_list ?_); have mk := K3.out; refine wpList_value rfl (exec_load (ty := 27) rfl rfl XR3.out uB rB infoBlk) ?_; go_frame; clear mk K3) | (have mk := K4.out; go_at_call 25; refine (blkid_any (GK.out w3 F3.out).1 (GK.out w3 F3.out).2).mono ?_; rintro e w4 ⟨rfl, f4⟩; rw [BAD.out.1]; have F4 := Lib.hid (F3.out.trans0 f4); clear f4; have F5 := Lib.hid (F4.out.trans0 ((Fr.refl No w4).alloc (.cells (hashC (blkH b)).toArray 45))); have RHX := Lib.hid (range_new w4 (hashC (blkH b)) 45); go_frame; clear mk K4) | ((with_reducible refine at_store ?_); have mk := K5.out; refine wpList_done rfl (exec_store_new (w := w4) (ty := 45) (cs := hashC (blkH b)) rfl rfl rfl (by rw [HHL.out]; rfl) (by rw [HHL.out]; exact infoHash) hashC_one) ?_; generalize w4.alloc (.cells (hashC (blkH b)).toArray 45) = w5 at *; generalize w4.heap.size = q3 at *; have y1 := F5.out.cell X1.out id; have y2 := F5.out.cell X2.out id; go_frame; clear mk K5) | ((with_reducible refine at_dst 39 ?_); have mk := K6.out; refine wpList_vG (o := ⟨some 39, _, _, _, _, _⟩) rfl (exec_load (ty := 45) rfl rfl RHX.out uH rH (by rw [HHL.out]; exact infoHash)) ?_; go_frame; clear mk K6) | ((with_reducible refine at_dst 40 ?_); have mk := K7.out; refine wpList_vG (o := ⟨some 40, _, _, _, _, _⟩) rfl (exec_bld (t := 45) rfl rfl (bldHash0 _)) ?_; go_frame; clear mk K7) | ((with_reducible refine at_dst 41 ?_); have mk := K8.out; refine wpList_vG (o := ⟨some 41, _, _, _, _, _⟩) rfl (eqHash.exec_eql rfl (u := (hashC (blkH b)).toArray) (v := (hashC hash0).toArray) rfl rfl (keyOfHash (blkH_ok b)) (keyOfHash hash0_ok) true (by rw [BAD.out.2]; simp) _) ?_; go_frame; clear mk K8))
      go_ret
      exact ⟨rfl, F1.out.trans0 F5.out⟩
  have p8 : b.pay.length ≤ 8 := by omega
  have t16 : b.txs.length ≤ 16 := by omega
  have j1 : decide ((8 : Int) < (b.pay.length : Int)) = false := by simp; omega
  have j2 : decide ((16 : Int) < (b.txs.length : Int)) = false := by simp; omega
  clear hs p30 t30
  go_enter Tryd.func9, Tryd.ntmps9
  have K0 := Lib.hid True.intro
  have K1 := Lib.hid True.intro
  have K2 := Lib.hid True.intro
  have K3 := Lib.hid True.intro
  have K4 := Lib.hid True.intro
  have K5 := Lib.hid True.intro
  have K6 := Lib.hid True.intro
  go_wp2_with (first | (have mk := K0.out; go_at_call 10; generalize w.alloc (.cells #[.int .u64 b.tag, .slice pa b.pay.length pc, .slice ta b.txs.length tc] 27) = w1 at *; refine AL.out.mono ?_; rintro e w2 ⟨rfl, f2⟩; have F2 := Lib.hid f2; clear f2; have XR2 := Lib.hid (range_keep XR.out F2.out id); go_frame; clear mk K0) | ((with_reducible refine at_list ?_); have mk := K1.out; refine wpList_value rfl (exec_load (ty := 27) rfl rfl XR2.out uB rB infoBlk) ?_; go_frame; clear mk K1) | (have mk := K2.out; go_at_call 12; refine (heavy_any w2 (GK.out w2 F2.out).2).mono ?_; rintro e w3 ⟨rfl, f3⟩; rw [HH2.out]; have F3 := Lib.hid (F2.out.trans0 f3); clear f3; have XR3 := Lib.hid (range_keep XR.out F3.out id); go_frame; clear mk K2) | ((with_reducible refine at_list ?_); have mk := K3.out; refine wpList_value rfl (exec_load (ty := 27) rfl rfl XR3.out uB rB infoBlk) ?_; go_frame; clear mk K3) | (have mk := K4.out; go_at_call 25; refine (blkid_any (GK.out w3 F3.out).1 (GK.out w3 F3.out).2).mono ?_; rintro e w4 ⟨rfl, f4⟩; have F4 := Lib.hid (F3.out.trans0 f4); clear f4; have F5 := Lib.hid (F4.out.trans0 ((Fr.refl No w4).alloc (.cells (hashC (blkH b)).toArray 45))); have RHX := Lib.hid (range_new w4 (hashC (blkH b)) 45); go_frame; clear mk K4) | ((with_reducible refine at_store ?_); have mk := K5.out; refine wpList_done rfl (exec_store_new (w := w4) (ty := 45) (cs := hashC (blkH b)) rfl rfl rfl (by rw [HHL.out]; rfl) (by rw [HHL.out]; exact infoHash) hashC_one) ?_; generalize w4.alloc (.cells (hashC (blkH b)).toArray 45) = w5 at *; generalize w4.heap.size = q3 at *; have y0 := F5.out.cell X0.out id; have y1 := F5.out.cell X1.out id; have y2 := F5.out.cell X2.out id; go_frame; clear mk K5) | (have mk := K6.out; go_at_call 28; have TG := Lib.hid (GK.out w5 F5.out).2.tagOk; refine (put8_any w5 TG.out).mono ?_; rintro e w6 ⟨rfl, b6, f6⟩; have TB := Lib.hid b6; have F6 := Lib.hid (F5.out.trans0 f6); have RH6 := Lib.hid (range_keep RHX.out f6 id); clear b6 f6; have z1 := F6.out.cell X1.out id; have z2 := F6.out.cell X2.out id; go_frame; clear mk K6))
  clear y0 y1 y2 z1 z2
  obtain ⟨ho6, hx6⟩ := (GK.out w6 F6.out).2.parts
  have HO := Lib.hid ho6
  have HX := Lib.hid hx6
  have X26 := Lib.hid (F6.out.cell X2.out id)
  have X16 := Lib.hid (F6.out.cell X1.out id)
  clear ho6 hx6
  go_loopw [7, 52] (fun bv iv wr => ∃ n : Nat, iv = .int .i64 n ∧ n ≤ b.pay.length ∧ BRow wr w6.heap.size bv ((b.pay.take n).flatMap outB) ∧ Fr No w6 wr) (fun _ iv _ => b.pay.length - (intOf iv).toNat)
  case atStart => exact ⟨0, rfl, Nat.zero_le _, BRow.nil _ _, Fr.refl _ _⟩
  case round =>
    obtain ⟨n, rfl, hn, hb, fr⟩ := hrel
    have FS := Lib.hid fr
    have BS := Lib.hid hb
    have SY := Lib.hid (show w6.heap.size ≤ wr.heap.size from fr.size)
    have SL4 := Lib.hid (show ((b.pay.take n).flatMap outB).length ≤ 40 * n by
      rw [outsB_len (fun x hx => HO.out.1 x (List.mem_of_mem_take hx)), List.length_take]
      omega)
    obtain ⟨ba, bc, hbv⟩ := hb.form
    clear fr hb
    by_cases hlt : n < b.pay.length
    · have i1 : (n : Int) < (b.pay.length : Int) := by omega
      obtain ⟨x, hx⟩ : ∃ x, b.pay[n]? = some x := ⟨_, List.getElem?_eq_getElem hlt⟩
      have TF := Lib.hid (take_flat outB hx)
      obtain ⟨bb, off, cap, hv, hr, -⟩ := HO.out.at_ hx
      cases hv
      have pok := HO.out.1 x (List.mem_of_getElem? hx)
      have R1 := Lib.hid (range_keep hr FS.out id)
      have IL := Lib.hid (outC_len pok)
      have FA := Lib.hid ((Fr.refl No wr).alloc (.cells (outC x).toArray 55))
      have QA := Lib.hid (show (wr.alloc (.cells (outC x).toArray 55)).heap.size = wr.heap.size + 1 by simp)
      obtain ⟨n1, n2⟩ := out_new wr pok
      have N2 := Lib.hid n2
      have nb1 := pok.1.1
      have nb2 := pok.1.2
      have LX := Lib.hid pok.2.1
      have D0 := Lib.hid (BS.out.ne (Nat.le_refl _))
      have FW := Lib.hid (FS.out.trans0 FA.out)
      have BW := Lib.hid (BS.out.keep0 FA.out)
      clear n2 hr pok hx
      subst hbv
      generalize hLo : (b.pay.take n).flatMap outB = Lo at *
      have K0 := Lib.hid True.intro
      have K1 := Lib.hid True.intro
      have K2 := Lib.hid True.intro
      go_wp2_with (first | ((with_reducible refine at_list ?_); have mk := K0.out; refine wpList_value rfl (exec_load (ty := 55) rfl rfl R1.out uO rO (by rw [IL.out]; exact infoOut)) ?_; go_frame; clear mk K0) | ((with_reducible refine at_store ?_); have mk := K1.out; refine wpList_done rfl (exec_store_new (w := wr) (ty := 55) (cs := outC x) rfl rfl rfl (by rw [IL.out]; rfl) (by rw [IL.out]; exact infoOut) outC_one) ?_; generalize wr.alloc (.cells (outC x).toArray 55) = wA at *; go_frame; clear mk K1) | (have mk := K2.out; go_at_call 28; refine (put8_any wA ⟨nb1, nb2⟩).mono ?_; rintro e w5' ⟨rfl, b5, f5⟩; have F5' := Lib.hid f5; have V5 := Lib.hid b5; clear b5 f5; go_frame; clear mk K2))
      have F5d := (Fr.refl No w5').drew
      have N5 := Lib.hid (range_keep N2.out F5'.out id)
      have Q5 := Lib.hid (show wr.heap.size < w5'.heap.size by have := F5'.out.size; have := QA.out; omega)
      obtain ⟨v6, w6', a1, a2, a3, a4⟩ := append_bytes w5'.drew ((BW.out.keep0 F5'.out).keep0 F5d) (V5.out.keep0 F5d).slice.arg (by rw [leB_len]; have := SL4.out; omega) (show w6.heap.size ≤ w5'.heap.size by have := SY.out; have := Q5.out; omega) 48
      have e88 : (leB 8 x.value).length = 8 := leB_len 8 x.value
      have N6 := Lib.hid (range_keep (range_keep N5.out F5d _root_.id) a3 D0.out)
      have A6 := Lib.hid a1
      have B6 := Lib.hid a2
      have F6' := Lib.hid (BRow.step ((FW.out.trans0 F5'.out).trans0 F5d) ((BW.out.keep0 F5'.out).keep0 F5d) (Nat.le_refl _) a3)
      have Q6 := Lib.hid (show wr.heap.size < w6'.heap.size by have := a3.size; have := Q5.out; have : w5'.drew.heap.size = w5'.heap.size := rfl; omega)
      obtain ⟨va6, vc6, hv6⟩ := a2.form
      clear a1 a2 a3 a4 F5d
      obtain ⟨v7, w7, a1, a2, a3, -⟩ := append_bytes w6' B6.out (arr_arg N6.out LX.out Q6.out) (by simp only [List.length_append, LX.out, leB_len]; have := SL4.out; omega) (by have := SY.out; have := Q6.out; omega) 48
      have A7 := Lib.hid a1
      have B7 := Lib.hid a2
      have F7 := Lib.hid (BRow.step F6'.out B6.out (Nat.le_refl _) a3)
      clear a1 a2 a3 hv6
      have hsl := hash_slice wr.heap.size 1
      refine wp_region_lexL [false, false, true, false, false, true, false] (fun _ => True) (by kernel_rfl) (by kernel_rfl) ?_ (fun K hK => ?_)
      · trivial
      repeat (first | ((first | with_reducible refine lexL_read ?_ | ((with_reducible refine lexL_readG ?_ ?_); (focus rfl))); apply Exists.intro; refine ⟨?_, ?_⟩; (focus (first | (intro w' hS; obtain _ := hS; go_simp; (try with_reducible rfl); done))); try simp only [Act.put, List.setIfInBounds_toArray, List.set_cons_zero, List.set_cons_succ]) | ((first | ((with_reducible refine lexL_skip (c := false) ?_ ?_ ?_); (focus rfl); (focus rfl)) | ((with_reducible refine lexL_skip (c := true) ?_ ?_ ?_); (focus rfl); (focus rfl)) | ((with_reducible refine lexL_skipU ?_ ?_); (focus rfl))); try simp only [Act.put, List.setIfInBounds_toArray, List.set_cons_zero, List.set_cons_succ]))
      (first | with_reducible refine lexL_eff (fun K' hK' => ?_) | ((with_reducible refine lexL_effG ?_ (fun K' hK' => ?_)); (focus rfl)))
      refine wp_append_run rfl rfl rfl A6.out ?_
      refine hK'.out _ _ ?_ (fun hS => ?_)
      · trivial
      try simp only [Act.put, List.setIfInBounds_toArray, List.set_cons_zero, List.set_cons_succ]
      repeat (first | ((first | with_reducible refine lexL_read ?_ | ((with_reducible refine lexL_readG ?_ ?_); (focus rfl))); apply Exists.intro; refine ⟨?_, ?_⟩; (focus (first | (intro w' hS; obtain _ := hS; go_simp; (try with_reducible rfl); done))); try simp only [Act.put, List.setIfInBounds_toArray, List.set_cons_zero, List.set_cons_succ]) | ((first | ((with_reducible refine lexL_skip (c := false) ?_ ?_ ?_); (focus rfl); (focus rfl)) | ((with_reducible refine lexL_skip (c := true) ?_ ?_ ?_); (focus rfl); (focus rfl)) | ((with_reducible refine lexL_skipU ?_ ?_); (focus rfl))); try simp only [Act.put, List.setIfInBounds_toArray, List.set_cons_zero, List.set_cons_succ]))
      (first | with_reducible refine lexL_eff (fun K' hK' => ?_) | ((with_reducible refine lexL_effG ?_ (fun K' hK' => ?_)); (focus rfl)))
      refine wp_append_run rfl rfl rfl A7.out ?_
      refine hK'.out _ _ ?_ (fun hS => ?_)
      · trivial
      try simp only [Act.put, List.setIfInBounds_toArray, List.set_cons_zero, List.set_cons_succ]
      repeat (first | ((first | with_reducible refine lexL_read ?_ | ((with_reducible refine lexL_readG ?_ ?_); (focus rfl))); apply Exists.intro; refine ⟨?_, ?_⟩; (focus (first | (intro w' hS; obtain _ := hS; go_simp; (try with_reducible rfl); done))); try simp only [Act.put, List.setIfInBounds_toArray, List.set_cons_zero, List.set_cons_succ]) | ((first | ((with_reducible refine lexL_skip (c := false) ?_ ?_ ?_); (focus rfl); (focus rfl)) | ((with_reducible refine lexL_skip (c := true) ?_ ?_ ?_); (focus rfl); (focus rfl)) | ((with_reducible refine lexL_skipU ?_ ?_); (focus rfl))); try simp only [Act.put, List.setIfInBounds_toArray, List.set_cons_zero, List.set_cons_succ]))
      refine lexL_nil (hK.out _ _ ?_)
      go_wp2_with fail
      go_roundw
      case rel => exact ⟨n + 1, by go_num, by omega, by rw [TF.out]; simpa [outB] using B7.out, F7.out⟩
      case measure => simp [intOf]; omega
    · have hne : n = b.pay.length := by omega
      subst hne
      have i1 : ¬ (b.pay.length : Int) < (b.pay.length : Int) := by omega
      rw [List.take_length] at BS SL4 hbv
      have zz2 := FS.out.cell X26.out id
      have PB := Lib.hid (show BRow wr w6.heap.size (.slice ba (b.pay.flatMap outB).length bc) (b.pay.flatMap outB) by rw [← hbv]; exact BS.out)
      subst hbv
      generalize hpl : (b.pay.flatMap outB).length = pl at *
      clear hn hlt
      go_wp2_with fail
      clear zz2
      have FB := Lib.hid (F6.out.trans0 FS.out)
      obtain ⟨wB, hwB⟩ : ∃ wB, wB = wr := ⟨_, rfl⟩
      have PBB := Lib.hid (show BRow wB w6.heap.size (.slice ba pl bc) (b.pay.flatMap outB) by rw [hwB]; exact PB.out)
      have FSB := Lib.hid (show Fr No w6 wB by rw [hwB]; exact FS.out)
      have FBB := Lib.hid (show Fr No wB wr by rw [hwB]; exact Fr.refl _ _)
      clear hwB
      go_loopw [8, 72] (fun bv iv wr => ∃ n : Nat, iv = .int .i64 n ∧ n ≤ b.txs.length ∧ (∀ t ∈ b.txs.take n, formB t = true) ∧ BRow wr wB.heap.size bv ((b.txs.take n).flatMap idH) ∧ Fr No wB wr ∧ BRow wr w6.heap.size (.slice ba pl bc) (b.pay.flatMap outB)) (fun _ iv _ => b.txs.length - (intOf iv).toNat)
      case atStart => exact ⟨0, rfl, Nat.zero_le _, by simp, BRow.nil _ _, FBB.out, PB.out⟩
      case round =>
        obtain ⟨n, rfl, hn, hall, hb, fr, hpb⟩ := hrel
        have FTB := Lib.hid fr
        have FT := Lib.hid (FSB.out.trans0 fr)
        have BT := Lib.hid hb
        have AL2 := Lib.hid hall
        have PBr := Lib.hid hpb
        have FZ := Lib.hid (F6.out.trans0 (FSB.out.trans0 fr))
        have SY2 := Lib.hid (show wB.heap.size ≤ wr.heap.size from fr.size)
        have SL5 := Lib.hid (show ((b.txs.take n).flatMap idH).length ≤ 32 * n by
          rw [ids_len, List.length_take]
          omega)
        obtain ⟨ba2, bc2, hbv⟩ := hb.form
        clear fr hb hall hpb
        by_cases hlt : n < b.txs.length
        · have i1 : (n : Int) < (b.txs.length : Int) := by omega
          obtain ⟨t, hx⟩ : ∃ x, b.txs[n]? = some x := ⟨_, List.getElem?_eq_getElem hlt⟩
          have TF := Lib.hid (take_flat idH hx)
          obtain ⟨bb, off, cap, cs, hv, hr, hq⟩ := HX.out.at_ hx
          cases hv
          have R1 := Lib.hid (range_keep hr FT.out id)
          have TQ := Lib.hid (hq.keep FT.out)
          obtain ⟨ta', tc', oa', oc', hcs⟩ := hq.form
          subst hcs
          have FA := Lib.hid ((Fr.refl No wr).alloc (.cells #[.int .u32 t.ver, .slice ta' t.ins.length tc', .slice oa' t.outs.length oc'] 41))
          have QA := Lib.hid (show (wr.alloc (.cells #[.int .u32 t.ver, .slice ta' t.ins.length tc', .slice oa' t.outs.length oc'] 41)).heap.size = wr.heap.size + 1 by simp)
          have RT := Lib.hid (row3_new wr (.int .u32 t.ver) (.slice ta' t.ins.length tc') (.slice oa' t.outs.length oc') 41).2.2.2
          have ID := Lib.hid (id_any ((GK.out wr FZ.out).1.keep0 FA.out) (TQ.out.keep FA.out))
          have IHL := Lib.hid (hashC_len (idH_ok t))
          have I32 := Lib.hid (idH_ok t).1
          have FW := Lib.hid (FTB.out.trans0 FA.out)
          have BW := Lib.hid (BT.out.keep0 FA.out)
          have PW := Lib.hid (PBr.out.keep0 FA.out)
          have HMX := Lib.hid hx
          clear hr hx hq
          subst hbv
          by_cases hfm : formB t = true
          · have IE := Lib.hid (show idE t = 0 by simp [idE, hfm])
            have AN := Lib.hid (show ∀ s ∈ b.txs.take (n + 1), formB s = true from fun s hs => by
              rw [List.take_add_one, HMX.out] at hs
              rcases List.mem_append.1 hs with hs | hs
              · exact AL2.out s hs
              · simp at hs; subst hs; exact hfm)
            rw [IE.out] at ID
            clear hfm
            generalize idH t = hh at *
            have hsl := fun q => hash_slice q 0
            generalize hLo : (b.txs.take n).flatMap idH = Lo at *
            have K0 := Lib.hid True.intro
            have K1 := Lib.hid True.intro
            have K2 := Lib.hid True.intro
            have K3 := Lib.hid True.intro
            have K4 := Lib.hid True.intro
            have K5 := Lib.hid True.intro
            go_wp2_with (first | ((with_reducible refine at_list ?_); have mk := K0.out; refine wpList_value rfl (exec_load (ty := 41) rfl rfl R1.out uT rT infoTx) ?_; go_frame; clear mk K0) | ((with_reducible refine at_store ?_); have mk := K1.out; refine wpList_done rfl (exec_store_new (w := wr) (ty := 41) (cs := [.int .u32 t.ver, .slice ta' t.ins.length tc', .slice oa' t.outs.length oc']) rfl rfl rfl rfl infoTx (txC_one (a := ta') (b := oa'))) ?_; go_frame; clear mk K1) | ((with_reducible refine at_list ?_); have mk := K2.out; refine wpList_value rfl (exec_load (ty := 41) rfl rfl RT.out uT rT infoTx) ?_; generalize wr.alloc (.cells #[.int .u32 t.ver, .slice ta' t.ins.length tc', .slice oa' t.outs.length oc'] 41) = wA at *; go_frame; clear mk K2) | (have mk := K3.out; go_at_call 22; refine ID.out.mono ?_; rintro e w5' ⟨rfl, f5⟩; have F5' := Lib.hid f5; clear f5; go_frame; clear mk K3) | ((with_reducible refine at_store ?_); have mk := K4.out; refine wpList_done rfl (exec_store_new (w := w5') (ty := 45) (cs := hashC hh) rfl rfl rfl (by rw [IHL.out]; rfl) (by rw [IHL.out]; exact infoHash) hashC_one) ?_; have F6' := Lib.hid (show Fr No w5' (w5'.alloc (.cells (hashC hh).toArray 45)) from (Fr.refl No w5').alloc _); have B6 := Lib.hid (new_obj w5' (.cells (hashC hh).toArray 45)); have Q6 := Lib.hid (show (w5'.alloc (.cells (hashC hh).toArray 45)).heap.size = w5'.heap.size + 1 by simp); generalize w5'.alloc (.cells (hashC hh).toArray 45) = w6' at *; have BX := Lib.hid ((BW.out.keep0 F5'.out).keep0 F6'.out); have FX := Lib.hid ((FW.out.trans0 F5'.out).trans0 F6'.out); have PX := Lib.hid ((PW.out.keep0 F5'.out).keep0 F6'.out); obtain ⟨v7, w7, a1, a2, a3, -⟩ := append_bytes w6' BX.out (arr_arg (range_obj B6.out) I32.out (by have := Q6.out; omega)) (by have := SL5.out; have := I32.out; omega) (by have := FX.out.size; omega) 48; have A7 := Lib.hid a1; have B7 := Lib.hid a2; have F7 := Lib.hid (BRow.step FX.out BX.out (Nat.le_refl _) a3); have P7 := Lib.hid (show BRow w7 w6.heap.size (.slice ba pl bc) (b.pay.flatMap outB) from PX.out.keep a3 (fun j hj e => by have := (BX.out.lt j e).1; have := (PBB.out.lt j hj).2; omega)); clear a1 a2 a3; go_frame; clear mk K4) | ((with_reducible refine at_list ?_); have mk := K5.out; at_builtin; refine wpList_append_run rfl rfl rfl rfl A7.out ?_; go_frame; clear mk K5))
            go_roundw
            case rel => exact ⟨n + 1, by go_num, by omega, AN.out, by rw [TF.out]; exact B7.out, F7.out, P7.out⟩
            case measure => simp [intOf]; omega
          · have BAD := Lib.hid (blk_bad (show blkOk b = false by
              have : b.txs.all formB = false := by
                rw [List.all_eq_false]
                exact ⟨t, List.mem_of_getElem? HMX.out, hfm⟩
              simp [blkOk, this]))
            have IE := Lib.hid (show idE t = 5 by simp [idE, hfm])
            rw [IE.out] at ID
            have e5 : blkE b = 5 := BAD.out.1
            clear hfm
            generalize idH t = hh at *
            generalize ((b.txs.take n).flatMap idH).length = zz at *
            have K0 := Lib.hid True.intro
            have K1 := Lib.hid True.intro
            have K2 := Lib.hid True.intro
            have K3 := Lib.hid True.intro
            have K4 := Lib.hid True.intro
            have K5 := Lib.hid True.intro
            have K6 := Lib.hid True.intro
            have K7 := Lib.hid True.intro
            go_wp2_with (first | ((with_reducible refine at_list ?_); have mk := K0.out; refine wpList_value rfl (exec_load (ty := 41) rfl rfl R1.out uT rT infoTx) ?_; go_frame; clear mk K0) | ((with_reducible refine at_store ?_); have mk := K1.out; refine wpList_done rfl (exec_store_new (w := wr) (ty := 41) (cs := [.int .u32 t.ver, .slice ta' t.ins.length tc', .slice oa' t.outs.length oc']) rfl rfl rfl rfl infoTx (txC_one (a := ta') (b := oa'))) ?_; go_frame; clear mk K1) | ((with_reducible refine at_list ?_); have mk := K2.out; refine wpList_value rfl (exec_load (ty := 41) rfl rfl RT.out uT rT infoTx) ?_; generalize wr.alloc (.cells #[.int .u32 t.ver, .slice ta' t.ins.length tc', .slice oa' t.outs.length oc'] 41) = wA at *; go_frame; clear mk K2) | (have mk := K3.out; go_at_call 22; refine ID.out.mono ?_; rintro e w5' ⟨rfl, f5⟩; have F5' := Lib.hid f5; clear f5; go_frame; clear mk K3) | ((with_reducible refine at_store ?_); have mk := K4.out; refine wpList_done rfl (exec_store_new (w := w5') (ty := 45) (cs := hashC hh) rfl rfl rfl (by rw [IHL.out]; rfl) (by rw [IHL.out]; exact infoHash) hashC_one) ?_; have F6' := Lib.hid (show Fr No w5' (w5'.alloc (.cells (hashC hh).toArray 45)) from (Fr.refl No w5').alloc _); have B6 := Lib.hid (new_obj w5' (.cells (hashC hh).toArray 45)); have Q6 := Lib.hid (show (w5'.alloc (.cells (hashC hh).toArray 45)).heap.size = w5'.heap.size + 1 by simp); generalize w5'.alloc (.cells (hashC hh).toArray 45) = w6' at *; have FX := Lib.hid ((FW.out.trans0 F5'.out).trans0 F6'.out); have RHY := Lib.hid (range_keep RH6.out (FSB.out.trans0 FX.out) id); go_frame; clear mk K4) | ((with_reducible refine at_dst 86 ?_); have mk := K5.out; refine wpList_vG (o := ⟨some 86, _, _, _, _, _⟩) rfl (exec_load (ty := 45) rfl rfl RHY.out uH rH (by rw [HHL.out]; exact infoHash)) ?_; go_frame; clear mk K5) | ((with_reducible refine at_dst 87 ?_); have mk := K6.out; refine wpList_vG (o := ⟨some 87, _, _, _, _, _⟩) rfl (exec_bld (t := 45) rfl rfl (bldHash0 _)) ?_; go_frame; clear mk K6) | ((with_reducible refine at_dst 88 ?_); have mk := K7.out; refine wpList_vG (o := ⟨some 88, _, _, _, _, _⟩) rfl (eqHash.exec_eql rfl (u := (hashC (blkH b)).toArray) (v := (hashC hash0).toArray) rfl rfl (keyOfHash (blkH_ok b)) (keyOfHash hash0_ok) true (by rw [BAD.out.2]; simp) _) ?_; go_frame; clear mk K7))
            go_ret
            exact ⟨rfl, F1.out.trans0 (F6.out.trans0 (FSB.out.trans0 FX.out))⟩
        · have hne : n = b.txs.length := by omega
          subst hne
          have i1 : ¬ (b.txs.length : Int) < (b.txs.length : Int) := by omega
          rw [List.take_length] at BT SL5 AL2 hbv
          have hgood : blkOk b = true := by
            have : b.txs.all formB = true := List.all_eq_true.2 AL2.out
            simp [blkOk, this, p8, t16]
          have HE := Lib.hid (blk_good hgood)
          have e0 : blkE b = 0 := HE.out.1
          have TBr := Lib.hid ((TB.out.keep0 FSB.out).keep0 FTB.out)
          have FF := Lib.hid (FSB.out.trans0 FTB.out)
          have FD := Lib.hid (FF.out.trans0 (Fr.refl No wr).drew)
          have F1D := Lib.hid (F6.out.trans0 FD.out)
          have RHD := Lib.hid (range_keep RH6.out FD.out id)
          have X1D := Lib.hid (F1D.out.cell X1.out id)
          have X2D := Lib.hid (F1D.out.cell X2.out id)
          have IB := Lib.hid (show BRow wr wB.heap.size (.slice ba2 (b.txs.flatMap idH).length bc2) (b.txs.flatMap idH) by rw [← hbv]; exact BT.out)
          subst hbv
          generalize hil : (b.txs.flatMap idH).length = il at *
          have KS := Lib.hid (show ∀ w', Fr No wr.drew w' → w'.rangeAt q3 0 (hashC (blkH b)) ∧ w'.cell? ⟨w.heap.size, 1, none⟩ = some (.slice pa b.pay.length pc) ∧ w'.cell? ⟨w.heap.size, 2, none⟩ = some (.slice ta b.txs.length tc) from fun w' f => ⟨range_keep RHD.out f id, f.cell X1D.out id, f.cell X2D.out id⟩)
          have EW := Lib.hid (show ∀ n : Nat, n ≤ 100 → IntKind.u64.wrap (n : Int) = (n : Int) from fun n hn => by simp [IntKind.wrap, IntKind.bits, IntKind.signed]; omega)
          clear hn hlt hgood
          go_wp2_with fail
          refine wp_region_lexL [false, false, false, false, false, false, false, false, false, true, false, false, false, false, false, true, false, true, true, false, false, false] (fun w' => w'.rangeAt q3 0 (hashC (blkH b)) ∧ w'.cell? ⟨w.heap.size, 1, none⟩ = some (.slice pa b.pay.length pc) ∧ w'.cell? ⟨w.heap.size, 2, none⟩ = some (.slice ta b.txs.length tc)) (by kernel_rfl) (by kernel_rfl) ?_ (fun K hK => ?_)
          · exact KS.out _ (Fr.refl _ _)
          repeat (first | ((first | with_reducible refine lexL_read ?_ | ((with_reducible refine lexL_readG ?_ ?_); (focus rfl))); apply Exists.intro; refine ⟨?_, ?_⟩; (focus (first | exact lex_load (ty := 45) rfl (fun w h => h.1) uH rH (by rw [HHL.out]; exact infoHash) | (intro w' hS; obtain ⟨s1, s2, s3⟩ := hS; go_simp; (try with_reducible rfl); done))); try simp only [Act.put, List.setIfInBounds_toArray, List.set_cons_zero, List.set_cons_succ]) | ((first | ((with_reducible refine lexL_skip (c := false) ?_ ?_ ?_); (focus rfl); (focus rfl)) | ((with_reducible refine lexL_skip (c := true) ?_ ?_ ?_); (focus rfl); (focus rfl)) | ((with_reducible refine lexL_skipU ?_ ?_); (focus rfl))); try simp only [Act.put, List.setIfInBounds_toArray, List.set_cons_zero, List.set_cons_succ]))
          (first | with_reducible refine lexL_eff (fun K' hK' => ?_) | ((with_reducible refine lexL_effG ?_ (fun K' hK' => ?_)); (focus rfl)))
          go_simp
          rw [EW.out b.pay.length (by omega)]
          refine (var1 _ (n := b.pay.length) (by omega)).mono ?_
          rintro e wv ⟨rfl, hwv⟩
          have Q1 := Lib.hid (show wv.heap.size = wr.drew.heap.size + 1 by rw [hwv]; simp)
          have FV := Lib.hid (show Fr No wr.drew wv by rw [hwv]; exact (Fr.refl No _).alloc _)
          have BV := Lib.hid (show wv.heap[wr.drew.heap.size]? = some (.cells #[byteV b.pay.length] 5 (0, 0)) by rw [hwv]; exact new_obj _ _)
          clear hwv
          refine hK'.out _ _ ?_ (fun hS => ?_)
          · exact KS.out _ FV.out
          try simp only [Act.put, List.setIfInBounds_toArray, List.set_cons_zero, List.set_cons_succ]
          repeat (first | ((first | with_reducible refine lexL_read ?_ | ((with_reducible refine lexL_readG ?_ ?_); (focus rfl))); apply Exists.intro; refine ⟨?_, ?_⟩; (focus (first | (intro w' hS; obtain ⟨s1, s2, s3⟩ := hS; go_simp; (try with_reducible rfl); done))); try simp only [Act.put, List.setIfInBounds_toArray, List.set_cons_zero, List.set_cons_succ]) | ((first | ((with_reducible refine lexL_skip (c := false) ?_ ?_ ?_); (focus rfl); (focus rfl)) | ((with_reducible refine lexL_skip (c := true) ?_ ?_ ?_); (focus rfl); (focus rfl)) | ((with_reducible refine lexL_skipU ?_ ?_); (focus rfl))); try simp only [Act.put, List.setIfInBounds_toArray, List.set_cons_zero, List.set_cons_succ]))
          (first | with_reducible refine lexL_eff (fun K' hK' => ?_) | ((with_reducible refine lexL_effG ?_ (fun K' hK' => ?_)); (focus rfl)))
          go_simp
          rw [EW.out b.txs.length (by omega)]
          refine (var1 _ (n := b.txs.length) (by omega)).mono ?_
          rintro e wu ⟨rfl, hwu⟩
          have Q2 := Lib.hid (show wu.heap.size = wv.heap.size + 1 by rw [hwu]; simp)
          have FU := Lib.hid (show Fr No wv wu by rw [hwu]; exact (Fr.refl No _).alloc _)
          have BU := Lib.hid (show wu.heap[wv.heap.size]? = some (.cells #[byteV b.txs.length] 5 (0, 0)) by rw [hwu]; exact new_obj _ _)
          clear hwu
          refine hK'.out _ _ ?_ (fun hS => ?_)
          · exact KS.out _ (FV.out.trans0 FU.out)
          try simp only [Act.put, List.setIfInBounds_toArray, List.set_cons_zero, List.set_cons_succ]
          repeat (first | ((first | with_reducible refine lexL_read ?_ | ((with_reducible refine lexL_readG ?_ ?_); (focus rfl))); apply Exists.intro; refine ⟨?_, ?_⟩; (focus (first | (intro w' hS; obtain ⟨s1, s2, s3⟩ := hS; go_simp; (try with_reducible rfl); done))); try simp only [Act.put, List.setIfInBounds_toArray, List.set_cons_zero, List.set_cons_succ]) | ((first | ((with_reducible refine lexL_skip (c := false) ?_ ?_ ?_); (focus rfl); (focus rfl)) | ((with_reducible refine lexL_skip (c := true) ?_ ?_ ?_); (focus rfl); (focus rfl)) | ((with_reducible refine lexL_skipU ?_ ?_); (focus rfl))); try simp only [Act.put, List.setIfInBounds_toArray, List.set_cons_zero, List.set_cons_succ]))
          (first | with_reducible refine lexL_eff (fun K' hK' => ?_) | ((with_reducible refine lexL_effG ?_ (fun K' hK' => ?_)); (focus rfl)))
          go_simp
          have FX := Lib.hid ((Fr.refl No wu).alloc (.cells #[.slice (some ⟨w5.heap.size, 0, none⟩) 8 8, .slice (some ⟨wr.heap.size, 0, none⟩) 1 1, .slice ba pl bc, .slice (some ⟨wv.heap.size, 0, none⟩) 1 1, .slice ba2 il bc2] 48))
          have FDU := Lib.hid (show Fr No wr wu from ((Fr.refl No wr).drew.trans0 FV.out).trans0 FU.out)
          have FLB := Lib.hid (show ([leB 8 b.tag, [(b.pay.length : Int)], b.pay.flatMap outB, [(b.txs.length : Int)], b.txs.flatMap idH] : List (List Int)).flatten = blkB b by simp [blkB])
          have BL := Lib.hid (show (blkB b).length ≤ 2000 by rw [← FLB.out]; have := SL4.out; have := SL5.out; simp only [List.flatten_cons, List.flatten_nil, List.length_append, List.length_cons, List.length_nil, leB_len]; omega)
          have PC := Lib.hid (pieces5 (BRowArg (TBr.out.keep0 FDU.out)) (byte_arg (FU.out.obj BV.out id)) (BRowArg (PBr.out.keep0 FDU.out)) (byte_arg BU.out) (BRowArg (IB.out.keep0 FDU.out)))
          have TW := Lib.hid (twice_any ((GK.out wu (F6.out.trans0 (FF.out.trans0 FDU.out))).1.keep0 FX.out) PC.out (by simp) (by rw [FLB.out]; have := BL.out; omega))
          rw [FLB.out, ← HE.out.2] at TW
          have HEQ := Lib.hid HE.out.2
          refine hK'.out _ _ ?_ (fun hS => ?_)
          · exact KS.out _ ((FV.out.trans0 FU.out).trans0 FX.out)
          try simp only [Act.put, List.setIfInBounds_toArray, List.set_cons_zero, List.set_cons_succ]
          generalize wu.alloc (.cells #[.slice (some ⟨w5.heap.size, 0, none⟩) 8 8, .slice (some ⟨wr.heap.size, 0, none⟩) 1 1, .slice ba pl bc, .slice (some ⟨wv.heap.size, 0, none⟩) 1 1, .slice ba2 il bc2] 48) = wx at *
          repeat (first | ((first | with_reducible refine lexL_read ?_ | ((with_reducible refine lexL_readG ?_ ?_); (focus rfl))); apply Exists.intro; refine ⟨?_, ?_⟩; (focus (first | (intro w' hS; obtain ⟨s1, s2, s3⟩ := hS; go_simp; (try with_reducible rfl); done))); try simp only [Act.put, List.setIfInBounds_toArray, List.set_cons_zero, List.set_cons_succ]) | ((first | ((with_reducible refine lexL_skip (c := false) ?_ ?_ ?_); (focus rfl); (focus rfl)) | ((with_reducible refine lexL_skip (c := true) ?_ ?_ ?_); (focus rfl); (focus rfl)) | ((with_reducible refine lexL_skipU ?_ ?_); (focus rfl))); try simp only [Act.put, List.setIfInBounds_toArray, List.set_cons_zero, List.set_cons_succ]))
          (first | with_reducible refine lexL_eff (fun K' hK' => ?_) | ((with_reducible refine lexL_effG ?_ (fun K' hK' => ?_)); (focus rfl)))
          go_simp
          refine TW.out.mono ?_
          rintro e wz ⟨rfl, fz⟩
          have FZZ := Lib.hid (((FV.out.trans0 FU.out).trans0 FX.out).trans0 fz)
          clear fz
          refine hK'.out _ _ ?_ (fun hS => ?_)
          · exact KS.out _ FZZ.out
          try simp only [Act.put, List.setIfInBounds_toArray, List.set_cons_zero, List.set_cons_succ]
          repeat (first | ((first | with_reducible refine lexL_read ?_ | ((with_reducible refine lexL_readG ?_ ?_); (focus rfl))); apply Exists.intro; refine ⟨?_, ?_⟩; (focus (first | exact fun w' _ => eqHash.exec_eql rfl (u := (hashC (blkH b)).toArray) (v := (hashC (blkH b)).toArray) rfl rfl (keyOfHash (blkH_ok b)) (keyOfHash (blkH_ok b)) true (by simp) w' | (intro w' hS; obtain ⟨s1, s2, s3⟩ := hS; go_simp; (try with_reducible rfl); done))); try simp only [Act.put, List.setIfInBounds_toArray, List.set_cons_zero, List.set_cons_succ]) | ((first | ((with_reducible refine lexL_skip (c := false) ?_ ?_ ?_); (focus rfl); (focus rfl)) | ((with_reducible refine lexL_skip (c := true) ?_ ?_ ?_); (focus rfl); (focus rfl)) | ((with_reducible refine lexL_skipU ?_ ?_); (focus rfl))); try simp only [Act.put, List.setIfInBounds_toArray, List.set_cons_zero, List.set_cons_succ]))
          refine lexL_nil (hK.out _ _ ?_)
          go_wp2_with fail
          go_ret
          exact ⟨rfl, F1.out.trans0 (F1D.out.trans0 FZZ.out)⟩
end Go.Proofs.YtmpamcnlineceaaDoor
