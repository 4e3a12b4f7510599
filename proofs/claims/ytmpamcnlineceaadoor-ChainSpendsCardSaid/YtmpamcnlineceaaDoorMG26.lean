/- chain: Id. -/
import Derived.Test.YtmpamcnlineceaaDoorMG25
import Derived.Test.YtmpamcnlineceaaDoorMG3
set_option linter.unusedVariables false
set_option linter.unusedSimpArgs false
set_option linter.unnecessarySimpa false
set_option linter.all false
namespace Go.Proofs.YtmpamcnlineceaaDoor
open Go Go.RowKit Go.Maps Go.MapKept

def blkOk (b : BlkD) : Bool := decide (b.pay.length ≤ 8) && (decide (b.txs.length ≤ 16) && b.txs.all formB)
def blkB (b : BlkD) : List Int := leB 8 b.tag ++ ((b.pay.length : Int) :: (b.pay.flatMap outB ++ ((b.txs.length : Int) :: b.txs.flatMap idH)))
def blkE (b : BlkD) : Int := if blkOk b = true then 0 else 5
def blkH (b : BlkD) : HashD := if blkOk b = true then shaTwice (blkB b) else hash0
theorem blkH_ok (b : BlkD) : hashOk (blkH b) := by
  unfold blkH
  split
  · exact shaTwice_ok _
  · exact hash0_ok
theorem blk_bad {b : BlkD} (h : blkOk b = false) : blkE b = 5 ∧ blkH b = hash0 := by simp [blkE, blkH, h]
theorem blk_good {b : BlkD} (h : blkOk b = true) : blkE b = 0 ∧ blkH b = shaTwice (blkB b) := by simp [blkE, blkH, h]
theorem ids_len (l : List TxD) : (l.flatMap idH).length = 32 * l.length := by
  induction l with
  | nil => rfl
  | cons x l ih =>
    have := (idH_ok x).1
    simp only [List.flatMap_cons, List.length_append, List.length_cons]
    omega
theorem row3_new (w : World) (a b c : Value) (T : TypeId) : (w.alloc (.cells #[a, b, c] T)).cell? ⟨w.heap.size, 0, none⟩ = some a ∧ (w.alloc (.cells #[a, b, c] T)).cell? ⟨w.heap.size, 1, none⟩ = some b ∧ (w.alloc (.cells #[a, b, c] T)).cell? ⟨w.heap.size, 2, none⟩ = some c ∧ (w.alloc (.cells #[a, b, c] T)).rangeAt w.heap.size 0 [a, b, c] := by
  have := range_new w [a, b, c] T
  exact ⟨by simpa using this 0 _ rfl, by simpa using this 1 _ rfl, by simpa using this 2 _ rfl, this⟩
theorem TxQ.one {w : World} {t : TxD} {cs : List Value} (h : TxQ w t cs) : cs.length = 3 ∧ ∀ u ∈ cs, u.oneCell' = true := by
  obtain ⟨ia, ic, oa, oc, rfl⟩ := h.form
  exact ⟨rfl, txC_one (a := ia) (b := oa)⟩
theorem zeroTx3 (w : World) : (zeroValue 41).run Tryd.prog w = .ok (.agg (txC 0 (.slice none 0 0) (.slice none 0 0)).toArray) w := by kernel_rfl
theorem hash_slice (b o : Nat) (w : World) : (Instr.sliceAt 45 (.pointer (some ⟨b, o, none⟩)) none none none).run Tryd.prog w = .ok (.slice (some ⟨b, o, none⟩) 32 32) w := by
  have al : Tryd.prog.arrayLen 45 = 32 := by kernel_rfl
  have i8 : (sizeOf (Tryd.prog.elem 45)).run Tryd.prog w = .ok 1 w := by kernel_rfl
  rw [run_sliceAt_array_all w _ _ (by kernel_rfl), i8]
  simp [slicedAt, al, addr_add]
set_option maxRecDepth 20000 in
set_option maxHeartbeats 8000000 in
theorem blkid_any {w : World} (hg : ShaW w) {b : BlkD} {cs : List Value} (ht : BlkQ w b cs) :
    Calls Tryd.prog 25 #[.agg cs.toArray] w fun e w' => e = .returned (.tuple #[.agg (hashC (blkH b)).toArray, .int .i64 (blkE b)]) ∧ Fr No w w' := by
  have zH := zeroHash
  have zo := zeroOutC
  have zT := zeroTx3
  obtain ⟨dO, uO, rO⟩ := descOut
  obtain ⟨dT, uT, rT⟩ := descTx
  obtain ⟨dH, uH, rH⟩ := descHash
  obtain ⟨ia, ic, oa, oc, rfl, hv, ho, hx⟩ := ht
  have f1 : Fr No w (w.alloc (.cells #[.int .u64 b.tag, .slice ia b.pay.length ic, .slice oa b.txs.length oc] 27)) := (Fr.refl No w).alloc _
  have f12 : Fr No (w.alloc (.cells #[.int .u64 b.tag, .slice ia b.pay.length ic, .slice oa b.txs.length oc] 27)) _ := (Fr.refl No _).alloc (.cells (hashC hash0).toArray 45)
  obtain ⟨c0, c1, c2, -⟩ := row3_new w (.int .u64 b.tag) (.slice ia b.pay.length ic) (.slice oa b.txs.length oc) 27
  have C0 := Lib.hid (f12.cell c0 _root_.id)
  have C1 := Lib.hid (f12.cell c1 _root_.id)
  have C2 := Lib.hid (f12.cell c2 _root_.id)
  have F2 := Lib.hid (f1.trans0 f12)
  have B2 := Lib.hid (new_obj' (w.alloc (.cells #[.int .u64 b.tag, .slice ia b.pay.length ic, .slice oa b.txs.length oc] 27)) (.cells (hashC hash0).toArray 45) (n := w.heap.size + 1) (by simp))
  have G2 := Lib.hid (hg.keep0 F2.out)
  have Z2 := Lib.hid (show ((w.alloc (.cells #[.int .u64 b.tag, .slice ia b.pay.length ic, .slice oa b.txs.length oc] 27)).alloc (.cells (hashC hash0).toArray 45)).heap.size = w.heap.size + 2 by simp)
  have HO := Lib.hid (ho.keep F2.out)
  have HX := Lib.hid (hx.keep0 F2.out)
  have v1 := hv.1
  have v2 := hv.2
  have c0 := C0.out
  have c1 := C1.out
  have c2 := C2.out
  clear ho hx f1 f12 hg hv
  show Calls Tryd.prog 25 #[.agg #[.int .u64 b.tag, .slice ia b.pay.length ic, .slice oa b.txs.length oc]] w _
  by_cases hp8 : 8 < b.pay.length
  · have hbad : blkOk b = false := by
      have : decide (b.pay.length ≤ 8) = false := by simp; omega
      simp [blkOk, this]
    have j1 : decide ((8 : Int) < (b.pay.length : Int)) = true := by simp; omega
    have HE := Lib.hid (blk_bad hbad)
    have SLz := Lib.hid (show (hashC hash0).length = 32 from rfl)
    clear hbad
    clear hp8
    go_enter Tryd.func25, Tryd.ntmps25
    have K0 := Lib.hid True.intro
    have K1 := Lib.hid True.intro
    go_wp2_with (first | ((with_reducible refine at_list ?_); have mk := K0.out; with_reducible refine at_dst 24 ?_; refine wpList_value rfl (exec_bld (t := 45) rfl rfl (bldHash0 _)) ?_; go_frame; clear mk K0) | ((with_reducible refine at_store ?_); have mk := K1.out; refine wpList_done rfl (exec_store (ty := 45) (b := w.heap.size + 1) (off := 0) (cs := hashC hash0) rfl rfl rfl (by rw [SLz.out]; exact there_obj B2.out (Nat.le_of_eq h0_size.symm)) (by rw [SLz.out]; exact infoHash) hashC_one) ?_; go_frame; clear mk K1))
    refine bodyPost_ret (results_row_tmp (P := Tryd.prog) (fn := Tryd.f25) rfl _ rfl (range_set B2.out (by rw [SLz.out]; exact h0_size)) uH rH (by rw [SLz.out]; exact infoHash) rfl) rfl ⟨by rw [HE.out.1, HE.out.2]; rfl, ?_⟩
    exact F2.out.trans (setCells_fr _ _ _ _) (fun i hi e => by omega)
  by_cases ht16 : 16 < b.txs.length
  · have hbad : blkOk b = false := by
      have : decide (b.txs.length ≤ 16) = false := by simp; omega
      simp [blkOk, this]
    have j1 : decide ((8 : Int) < (b.pay.length : Int)) = false := by simp; omega
    have j2 : decide ((16 : Int) < (b.txs.length : Int)) = true := by simp; omega
    have HE := Lib.hid (blk_bad hbad)
    have SLz := Lib.hid (show (hashC hash0).length = 32 from rfl)
    clear hbad
    clear hp8 ht16
    go_enter Tryd.func25, Tryd.ntmps25
    have K0 := Lib.hid True.intro
    have K1 := Lib.hid True.intro
    go_wp2_with (first | ((with_reducible refine at_list ?_); have mk := K0.out; with_reducible refine at_dst 24 ?_; refine wpList_value rfl (exec_bld (t := 45) rfl rfl (bldHash0 _)) ?_; go_frame; clear mk K0) | ((with_reducible refine at_store ?_); have mk := K1.out; refine wpList_done rfl (exec_store (ty := 45) (b := w.heap.size + 1) (off := 0) (cs := hashC hash0) rfl rfl rfl (by rw [SLz.out]; exact there_obj B2.out (Nat.le_of_eq h0_size.symm)) (by rw [SLz.out]; exact infoHash) hashC_one) ?_; go_frame; clear mk K1))
    refine bodyPost_ret (results_row_tmp (P := Tryd.prog) (fn := Tryd.f25) rfl _ rfl (range_set B2.out (by rw [SLz.out]; exact h0_size)) uH rH (by rw [SLz.out]; exact infoHash) rfl) rfl ⟨by rw [HE.out.1, HE.out.2]; rfl, ?_⟩
    exact F2.out.trans (setCells_fr _ _ _ _) (fun i hi e => by omega)
  have p8 : b.pay.length ≤ 8 := by omega
  have t16 : b.txs.length ≤ 16 := by omega
  have j1 : decide ((8 : Int) < (b.pay.length : Int)) = false := by simp; omega
  have j2 : decide ((16 : Int) < (b.txs.length : Int)) = false := by simp; omega
  have e1 : (b.pay.length : Int) % 256 = (b.pay.length : Int) := by omega
  have e2 : (b.txs.length : Int) % 256 = (b.txs.length : Int) := by omega
  clear hp8 ht16
  go_enter Tryd.func25, Tryd.ntmps25
  have K0 := Lib.hid True.intro
  have K1 := Lib.hid True.intro
  go_wp2_with (first | (have mk := K0.out; go_at_call 28; generalize (w.alloc (.cells #[.int .u64 b.tag, .slice ia b.pay.length ic, .slice oa b.txs.length oc] 27)).alloc (.cells (hashC hash0).toArray 45) = w2 at *; refine (put8_any w2 ⟨v1, v2⟩).mono ?_; rintro e w3 ⟨rfl, b3, f3⟩; have F23 := Lib.hid f3; have B3 := Lib.hid (show BRow w3 (w.heap.size + 2) _ _ from own_mono b3 (by rw [Z2.out]; exact Nat.le_refl _)); clear b3 f3; have cA := F23.out.cell C1.out _root_.id; obtain ⟨v4, w4, a1, a2, a3, -⟩ := append_byte w3 (x := b.pay.length) B3.out (by rw [leB_len]; decide) (by have := F23.out.size; have := Z2.out; omega) 48; have A4 := Lib.hid a1; have B4 := Lib.hid a2; have F4 := Lib.hid (BRow.step F23.out B3.out (by have := Z2.out; omega) a3); clear a1 a2 a3; go_frame; clear mk K0) | ((with_reducible refine at_list ?_); have mk := K1.out; at_builtin; refine wpList_append_run rfl rfl rfl rfl A4.out ?_; have cB := F4.out.cell C1.out _root_.id; go_frame; clear mk K1))
  have HIL := Lib.hid (show (leB 8 b.tag ++ [(b.pay.length : Int)]).length = 9 by rw [List.length_append, leB_len]; rfl)
  have LE := Lib.hid (show blkB b = leB 8 b.tag ++ [(b.pay.length : Int)] ++ b.pay.flatMap outB ++ [(b.txs.length : Int)] ++ b.txs.flatMap idH by simp [blkB])
  generalize leB 8 b.tag ++ [(b.pay.length : Int)] = L0 at *
  go_loopw [4, 41] (fun bv iv wr => ∃ n : Nat, iv = .int .i64 n ∧ n ≤ b.pay.length ∧ BRow wr (w.heap.size + 2) bv (L0 ++ (b.pay.take n).flatMap outB) ∧ Fr No w2 wr) (fun _ iv _ => b.pay.length - (intOf iv).toNat)
  case atStart => exact ⟨0, rfl, Nat.zero_le _, by simpa using B4.out, F4.out⟩
  case round =>
    obtain ⟨n, rfl, hn, hb, fr⟩ := hrel
    have FS := Lib.hid fr
    have BS := Lib.hid hb
    have SY := Lib.hid (show w.heap.size + 2 ≤ wr.heap.size by have := fr.size; have := Z2.out; omega)
    have SL4 := Lib.hid (show (L0 ++ (b.pay.take n).flatMap outB).length ≤ 9 + 40 * n by
      rw [List.length_append, outsB_len (fun x hx => HO.out.1 x (List.mem_of_mem_take hx)), List.length_take, HIL.out]
      omega)
    obtain ⟨ba, bc, hbv⟩ := hb.form
    clear fr hb
    by_cases hlt : n < b.pay.length
    · have i1 : (n : Int) < (b.pay.length : Int) := by omega
      obtain ⟨x, hx⟩ : ∃ x, b.pay[n]? = some x := ⟨_, List.getElem?_eq_getElem hlt⟩
      have TF := Lib.hid (take_flat outB hx)
      obtain ⟨bb, off, cap, hv, hr, -⟩ := HO.out.at_ hx
      cases hv
      have pok := HO.out.1 x (List.mem_of_getElem? hx)
      have R1 := Lib.hid (range_keep hr FS.out id)
      have IL := Lib.hid (outC_len pok)
      have FA := Lib.hid ((Fr.refl No wr).alloc (.cells (outC x).toArray 55))
      have QA := Lib.hid (show (wr.alloc (.cells (outC x).toArray 55)).heap.size = wr.heap.size + 1 by simp)
      obtain ⟨n1, n2⟩ := out_new wr pok
      have N2 := Lib.hid n2
      have nb1 := pok.1.1
      have nb2 := pok.1.2
      have LX := Lib.hid pok.2.1
      have D0 := Lib.hid (BS.out.ne (Nat.le_refl _))
      have FW := Lib.hid (FS.out.trans0 FA.out)
      have BW := Lib.hid (BS.out.keep0 FA.out)
      clear n2 hr pok hx
      subst hbv
      generalize hLo : L0 ++ (b.pay.take n).flatMap outB = Lo at *
      have K0 := Lib.hid True.intro
      have K1 := Lib.hid True.intro
      have K2 := Lib.hid True.intro
      go_wp2_with (first | ((with_reducible refine at_list ?_); have mk := K0.out; refine wpList_value rfl (exec_load (ty := 55) rfl rfl R1.out uO rO (by rw [IL.out]; exact infoOut)) ?_; go_frame; clear mk K0) | ((with_reducible refine at_store ?_); have mk := K1.out; refine wpList_done rfl (exec_store_new (w := wr) (ty := 55) (cs := outC x) rfl rfl rfl (by rw [IL.out]; rfl) (by rw [IL.out]; exact infoOut) outC_one) ?_; generalize wr.alloc (.cells (outC x).toArray 55) = wA at *; go_frame; clear mk K1) | (have mk := K2.out; go_at_call 28; refine (put8_any wA ⟨nb1, nb2⟩).mono ?_; rintro e w5 ⟨rfl, b5, f5⟩; have F5 := Lib.hid f5; have V5 := Lib.hid b5; clear b5 f5; go_frame; clear mk K2))
      have F5d := (Fr.refl No w5).drew
      have N5 := Lib.hid (range_keep N2.out F5.out id)
      have Q5 := Lib.hid (show wr.heap.size < w5.heap.size by have := F5.out.size; have := QA.out; omega)
      obtain ⟨v6, w6, a1, a2, a3, a4⟩ := append_bytes w5.drew ((BW.out.keep0 F5.out).keep0 F5d) (V5.out.keep0 F5d).slice.arg (by rw [leB_len]; have := SL4.out; omega) (show w.heap.size + 2 ≤ w5.heap.size by have := SY.out; have := Q5.out; omega) 48
      have e88 : (leB 8 x.value).length = 8 := leB_len 8 x.value
      have D6 := a4.ne D0.out (show wr.heap.size < w5.heap.size from Q5.out)
      have N6 := Lib.hid (range_keep (range_keep N5.out F5d _root_.id) a3 D0.out)
      have A6 := Lib.hid a1
      have B6 := Lib.hid a2
      have F6 := Lib.hid (BRow.step ((FW.out.trans0 F5.out).trans0 F5d) ((BW.out.keep0 F5.out).keep0 F5d) (by have := Z2.out; omega) a3)
      have Q6 := Lib.hid (show wr.heap.size < w6.heap.size by have := a3.size; have := Q5.out; have : w5.drew.heap.size = w5.heap.size := rfl; omega)
      obtain ⟨va6, vc6, hv6⟩ := a2.form
      clear a1 a2 a3 a4 D6 F5d
      obtain ⟨v7, w7, a1, a2, a3, -⟩ := append_bytes w6 B6.out (arr_arg N6.out LX.out Q6.out) (by simp only [List.length_append, LX.out, leB_len]; have := SL4.out; omega) (by have := SY.out; have := Q6.out; omega) 48
      have A7 := Lib.hid a1
      have B7 := Lib.hid a2
      have F7 := Lib.hid (BRow.step F6.out B6.out (by have := Z2.out; omega) a3)
      clear a1 a2 a3 hv6
      have hsl := hash_slice wr.heap.size 1
      refine wp_region_lexL [false, false, true, false, false, true, false] (fun _ => True) (by kernel_rfl) (by kernel_rfl) ?_ (fun K hK => ?_)
      · trivial
      repeat (first | ((first | with_reducible refine lexL_read ?_ | ((with_reducible refine lexL_readG ?_ ?_); (focus rfl))); apply Exists.intro; refine ⟨?_, ?_⟩; (focus (first | (intro w' hS; obtain _ := hS; go_simp; (try with_reducible rfl); done))); try simp only [Act.put, List.setIfInBounds_toArray, List.set_cons_zero, List.set_cons_succ]) | ((first | ((with_reducible refine lexL_skip (c := false) ?_ ?_ ?_); (focus rfl); (focus rfl)) | ((with_reducible refine lexL_skip (c := true) ?_ ?_ ?_); (focus rfl); (focus rfl)) | ((with_reducible refine lexL_skipU ?_ ?_); (focus rfl))); try simp only [Act.put, List.setIfInBounds_toArray, List.set_cons_zero, List.set_cons_succ]))
      (first | with_reducible refine lexL_eff (fun K' hK' => ?_) | ((with_reducible refine lexL_effG ?_ (fun K' hK' => ?_)); (focus rfl)))
      refine wp_append_run rfl rfl rfl A6.out ?_
      refine hK'.out _ _ ?_ (fun hS => ?_)
      · trivial
      try simp only [Act.put, List.setIfInBounds_toArray, List.set_cons_zero, List.set_cons_succ]
      repeat (first | ((first | with_reducible refine lexL_read ?_ | ((with_reducible refine lexL_readG ?_ ?_); (focus rfl))); apply Exists.intro; refine ⟨?_, ?_⟩; (focus (first | (intro w' hS; obtain _ := hS; go_simp; (try with_reducible rfl); done))); try simp only [Act.put, List.setIfInBounds_toArray, List.set_cons_zero, List.set_cons_succ]) | ((first | ((with_reducible refine lexL_skip (c := false) ?_ ?_ ?_); (focus rfl); (focus rfl)) | ((with_reducible refine lexL_skip (c := true) ?_ ?_ ?_); (focus rfl); (focus rfl)) | ((with_reducible refine lexL_skipU ?_ ?_); (focus rfl))); try simp only [Act.put, List.setIfInBounds_toArray, List.set_cons_zero, List.set_cons_succ]))
      (first | with_reducible refine lexL_eff (fun K' hK' => ?_) | ((with_reducible refine lexL_effG ?_ (fun K' hK' => ?_)); (focus rfl)))
      refine wp_append_run rfl rfl rfl A7.out ?_
      refine hK'.out _ _ ?_ (fun hS => ?_)
      · trivial
      try simp only [Act.put, List.setIfInBounds_toArray, List.set_cons_zero, List.set_cons_succ]
      repeat (first | ((first | with_reducible refine lexL_read ?_ | ((with_reducible refine lexL_readG ?_ ?_); (focus rfl))); apply Exists.intro; refine ⟨?_, ?_⟩; (focus (first | (intro w' hS; obtain _ := hS; go_simp; (try with_reducible rfl); done))); try simp only [Act.put, List.setIfInBounds_toArray, List.set_cons_zero, List.set_cons_succ]) | ((first | ((with_reducible refine lexL_skip (c := false) ?_ ?_ ?_); (focus rfl); (focus rfl)) | ((with_reducible refine lexL_skip (c := true) ?_ ?_ ?_); (focus rfl); (focus rfl)) | ((with_reducible refine lexL_skipU ?_ ?_); (focus rfl))); try simp only [Act.put, List.setIfInBounds_toArray, List.set_cons_zero, List.set_cons_succ]))
      refine lexL_nil (hK.out _ _ ?_)
      go_wp2_with fail
      go_roundw
      case rel => exact ⟨n + 1, by go_num, by omega, by rw [TF.out, ← List.append_assoc, hLo]; simpa [outB] using B7.out, F7.out⟩
      case measure => simp [intOf]; omega
    · have hne : n = b.pay.length := by omega
      subst hne
      have i1 : ¬ (b.pay.length : Int) < (b.pay.length : Int) := by omega
      rw [List.take_length] at BS SL4
      have c2 := FS.out.cell C2.out id
      obtain ⟨v3, wy, a1, a2, a3, a4⟩ := append_byte wr (x := b.txs.length) BS.out (by have := SL4.out; omega) SY.out 48
      have A1 := Lib.hid a1
      have BY := Lib.hid a2
      have FY := Lib.hid (BRow.step FS.out BS.out (by have := Z2.out; omega) a3)
      have cD := FY.out.cell C2.out id
      have SL3 := Lib.hid (show (L0 ++ b.pay.flatMap outB ++ [(b.txs.length : Int)]).length ≤ 400 by
        rw [List.length_append]
        have := SL4.out
        simp only [List.length_singleton]
        omega)
      clear a1 a2 a3 a4 c2
      have c2 := FS.out.cell C2.out id
      subst hbv
      generalize hLn : L0 ++ b.pay.flatMap outB = Ln at *
      go_wp2_with (first | (at_builtin; refine wpList_append_run rfl rfl rfl rfl A1.out ?_))
      generalize hLm : Ln ++ [(b.txs.length : Int)] = Lm at *
      clear c2 cD
      go_loopw [4, 68] (fun bv iv wr => ∃ n : Nat, iv = .int .i64 n ∧ n ≤ b.txs.length ∧ (∀ t ∈ b.txs.take n, formB t = true) ∧ BRow wr (w.heap.size + 2) bv (Lm ++ (b.txs.take n).flatMap idH) ∧ Fr No w2 wr) (fun _ iv _ => b.txs.length - (intOf iv).toNat)
      case atStart => exact ⟨0, rfl, Nat.zero_le _, by simp, by simpa using BY.out, FY.out⟩
      case round =>
        obtain ⟨n, rfl, hn, hall, hb, fr⟩ := hrel
        have FT := Lib.hid fr
        have BT := Lib.hid hb
        have AL := Lib.hid hall
        have GT := Lib.hid (G2.out.keep0 fr)
        have SY2 := Lib.hid (show w.heap.size + 2 ≤ wr.heap.size by have := fr.size; have := Z2.out; omega)
        have SL5 := Lib.hid (show (Lm ++ (b.txs.take n).flatMap idH).length ≤ 400 + 32 * n by
          rw [List.length_append, ids_len, List.length_take]
          have := SL3.out
          omega)
        obtain ⟨ba, bc, hbv⟩ := hb.form
        clear fr hb hall
        by_cases hlt : n < b.txs.length
        · have i1 : (n : Int) < (b.txs.length : Int) := by omega
          obtain ⟨t, hx⟩ : ∃ x, b.txs[n]? = some x := ⟨_, List.getElem?_eq_getElem hlt⟩
          have TF := Lib.hid (take_flat idH hx)
          obtain ⟨bb, off, cap, cs, hv, hr, hq⟩ := HX.out.at_ hx
          cases hv
          have R1 := Lib.hid (range_keep hr FT.out id)
          have TQ := Lib.hid (hq.keep FT.out)
          obtain ⟨ta, tc, oa', oc', hcs⟩ := hq.form
          subst hcs
          have FA := Lib.hid ((Fr.refl No wr).alloc (.cells #[.int .u32 t.ver, .slice ta t.ins.length tc, .slice oa' t.outs.length oc'] 41))
          have QA := Lib.hid (show (wr.alloc (.cells #[.int .u32 t.ver, .slice ta t.ins.length tc, .slice oa' t.outs.length oc'] 41)).heap.size = wr.heap.size + 1 by simp)
          have RT := Lib.hid (row3_new wr (.int .u32 t.ver) (.slice ta t.ins.length tc) (.slice oa' t.outs.length oc') 41).2.2.2
          have ID := Lib.hid (id_any (GT.out.keep0 FA.out) (TQ.out.keep FA.out))
          have IHL := Lib.hid (hashC_len (idH_ok t))
          have I32 := Lib.hid (idH_ok t).1
          have D0 := Lib.hid (BT.out.ne (Nat.le_refl _))
          have FW := Lib.hid (FT.out.trans0 FA.out)
          have BW := Lib.hid (BT.out.keep0 FA.out)
          have HMX := Lib.hid hx
          clear hr hx hq
          subst hbv
          by_cases hfm : formB t = true
          · have IE := Lib.hid (show idE t = 0 by simp [idE, hfm])
            have AN := Lib.hid (show ∀ s ∈ b.txs.take (n + 1), formB s = true from fun s hs => by
              rw [List.take_add_one, HMX.out] at hs
              rcases List.mem_append.1 hs with hs | hs
              · exact AL.out s hs
              · simp at hs; subst hs; exact hfm)
            rw [IE.out] at ID
            clear hfm
            generalize idH t = hh at *
            have hsl := fun q => hash_slice q 0
            generalize hLo : Lm ++ (b.txs.take n).flatMap idH = Lo at *
            have K0 := Lib.hid True.intro
            have K1 := Lib.hid True.intro
            have K2 := Lib.hid True.intro
            have K3 := Lib.hid True.intro
            have K4 := Lib.hid True.intro
            have K5 := Lib.hid True.intro
            go_wp2_with (first | ((with_reducible refine at_list ?_); have mk := K0.out; refine wpList_value rfl (exec_load (ty := 41) rfl rfl R1.out uT rT infoTx) ?_; go_frame; clear mk K0) | ((with_reducible refine at_store ?_); have mk := K1.out; refine wpList_done rfl (exec_store_new (w := wr) (ty := 41) (cs := [.int .u32 t.ver, .slice ta t.ins.length tc, .slice oa' t.outs.length oc']) rfl rfl rfl rfl infoTx (txC_one (a := ta) (b := oa'))) ?_; go_frame; clear mk K1) | ((with_reducible refine at_list ?_); have mk := K2.out; refine wpList_value rfl (exec_load (ty := 41) rfl rfl RT.out uT rT infoTx) ?_; generalize wr.alloc (.cells #[.int .u32 t.ver, .slice ta t.ins.length tc, .slice oa' t.outs.length oc'] 41) = wA at *; go_frame; clear mk K2) | (have mk := K3.out; go_at_call 22; refine ID.out.mono ?_; rintro e w5 ⟨rfl, f5⟩; have F5 := Lib.hid f5; clear f5; go_frame; clear mk K3) | ((with_reducible refine at_store ?_); have mk := K4.out; refine wpList_done rfl (exec_store_new (w := w5) (ty := 45) (cs := hashC hh) rfl rfl rfl (by rw [IHL.out]; rfl) (by rw [IHL.out]; exact infoHash) hashC_one) ?_; have F6 := Lib.hid (show Fr No w5 (w5.alloc (.cells (hashC hh).toArray 45)) from (Fr.refl No w5).alloc _); have B6 := Lib.hid (new_obj w5 (.cells (hashC hh).toArray 45)); have Q6 := Lib.hid (show (w5.alloc (.cells (hashC hh).toArray 45)).heap.size = w5.heap.size + 1 by simp); generalize w5.alloc (.cells (hashC hh).toArray 45) = w6 at *; have BX := Lib.hid ((BW.out.keep0 F5.out).keep0 F6.out); have FX := Lib.hid ((FW.out.trans0 F5.out).trans0 F6.out); obtain ⟨v7, w7, a1, a2, a3, -⟩ := append_bytes w6 BX.out (arr_arg (range_obj B6.out) I32.out (by have := Q6.out; omega)) (by have := SL5.out; have := I32.out; omega) (by have := SY2.out; have := FX.out.size; have := Z2.out; omega) 48; have A7 := Lib.hid a1; have B7 := Lib.hid a2; have F7 := Lib.hid (BRow.step FX.out BX.out (by have := Z2.out; omega) a3); clear a1 a2 a3; go_frame; clear mk K4) | ((with_reducible refine at_list ?_); have mk := K5.out; at_builtin; refine wpList_append_run rfl rfl rfl rfl A7.out ?_; go_frame; clear mk K5))
            go_roundw
            case rel => exact ⟨n + 1, by go_num, by omega, AN.out, by rw [TF.out, ← List.append_assoc, hLo]; exact B7.out, F7.out⟩
            case measure => simp [intOf]; omega
          · have hbad : blkOk b = false := by
              have : b.txs.all formB = false := by
                rw [List.all_eq_false]
                exact ⟨t, List.mem_of_getElem? HMX.out, hfm⟩
              simp [blkOk, this]
            have IE := Lib.hid (show idE t = 5 by simp [idE, hfm])
            rw [IE.out] at ID
            have HE := Lib.hid (blk_bad hbad)
            have SLz := Lib.hid (show (hashC hash0).length = 32 from rfl)
            clear hbad
            clear hfm
            generalize idH t = hh at *
            generalize (Lm ++ (b.txs.take n).flatMap idH).length = zz at *
            have K0 := Lib.hid True.intro
            have K1 := Lib.hid True.intro
            have K2 := Lib.hid True.intro
            have K3 := Lib.hid True.intro
            have K4 := Lib.hid True.intro
            have K5 := Lib.hid True.intro
            have K6 := Lib.hid True.intro
            go_wp2_with (first | ((with_reducible refine at_list ?_); have mk := K0.out; refine wpList_value rfl (exec_load (ty := 41) rfl rfl R1.out uT rT infoTx) ?_; go_frame; clear mk K0) | ((with_reducible refine at_store ?_); have mk := K1.out; refine wpList_done rfl (exec_store_new (w := wr) (ty := 41) (cs := [.int .u32 t.ver, .slice ta t.ins.length tc, .slice oa' t.outs.length oc']) rfl rfl rfl rfl infoTx (txC_one (a := ta) (b := oa'))) ?_; go_frame; clear mk K1) | ((with_reducible refine at_list ?_); have mk := K2.out; refine wpList_value rfl (exec_load (ty := 41) rfl rfl RT.out uT rT infoTx) ?_; generalize wr.alloc (.cells #[.int .u32 t.ver, .slice ta t.ins.length tc, .slice oa' t.outs.length oc'] 41) = wA at *; go_frame; clear mk K2) | (have mk := K3.out; go_at_call 22; refine ID.out.mono ?_; rintro e w5 ⟨rfl, f5⟩; have F5 := Lib.hid f5; clear f5; go_frame; clear mk K3) | ((with_reducible refine at_store ?_); have mk := K4.out; refine wpList_done rfl (exec_store_new (w := w5) (ty := 45) (cs := hashC hh) rfl rfl rfl (by rw [IHL.out]; rfl) (by rw [IHL.out]; exact infoHash) hashC_one) ?_; have F6 := Lib.hid (show Fr No w5 (w5.alloc (.cells (hashC hh).toArray 45)) from (Fr.refl No w5).alloc _); generalize w5.alloc (.cells (hashC hh).toArray 45) = w6 at *; have FX := Lib.hid ((FW.out.trans0 F5.out).trans0 F6.out); have BZ := Lib.hid (FX.out.obj B2.out _root_.id); go_frame; clear mk K4) | ((with_reducible refine at_list ?_); have mk := K5.out; with_reducible refine at_dst 79 ?_; refine wpList_value rfl (exec_bld (t := 45) rfl rfl (bldHash0 _)) ?_; go_frame; clear mk K5) | ((with_reducible refine at_store ?_); have mk := K6.out; refine wpList_done rfl (exec_store (ty := 45) (b := w.heap.size + 1) (off := 0) (cs := hashC hash0) rfl rfl rfl (by rw [SLz.out]; exact there_obj BZ.out (Nat.le_of_eq h0_size.symm)) (by rw [SLz.out]; exact infoHash) hashC_one) ?_; go_frame; clear mk K6))
            refine bodyPost_ret (results_row_tmp (P := Tryd.prog) (fn := Tryd.f25) rfl _ rfl (range_set BZ.out (by rw [SLz.out]; exact h0_size)) uH rH (by rw [SLz.out]; exact infoHash) rfl) rfl ⟨by rw [HE.out.1, HE.out.2]; rfl, ?_⟩
            exact (F2.out.trans0 FX.out).trans (setCells_fr _ _ _ _) (fun i hi e => by omega)
        · have hne : n = b.txs.length := by omega
          subst hne
          have i1 : ¬ (b.txs.length : Int) < (b.txs.length : Int) := by omega
          rw [List.take_length] at BT SL5 AL hbv
          have hgood : blkOk b = true := by
            have : b.txs.all formB = true := List.all_eq_true.2 AL.out
            simp [blkOk, this, p8, t16]
          have HE := Lib.hid (blk_good hgood)
          rw [LE.out] at HE
          have SLt := Lib.hid (show (hashC (shaTwice (Lm ++ b.txs.flatMap idH))).length = 32 from hashC_len (shaTwice_ok _))
          have F4 := Lib.hid (show Fr No wr (wr.alloc (.cells #[.slice ba (Lm ++ b.txs.flatMap idH).length bc] 48)) from (Fr.refl No wr).alloc _)
          subst hbv
          have HTW := Lib.hid (twice_any (GT.out.keep0 F4.out) (v := .slice (some ⟨wr.heap.size, 0, none⟩) 1 1) (L := [Lm ++ b.txs.flatMap idH]) (piece_at BT.out.slice.arg) (by simp) (by have := SL5.out; simp only [List.flatten_cons, List.flatten_nil, List.append_nil]; omega))
          rw [show [Lm ++ b.txs.flatMap idH].flatten = Lm ++ b.txs.flatMap idH by simp] at HTW
          clear hgood
          generalize shaTwice (Lm ++ b.txs.flatMap idH) = TB at *
          generalize (Lm ++ b.txs.flatMap idH).length = zz at *
          have K0 := Lib.hid True.intro
          have K1 := Lib.hid True.intro
          go_wp2_with (first | (have mk := K0.out; go_at_call 29; refine HTW.out.mono ?_; rintro e w5 ⟨rfl, f5⟩; have FX := Lib.hid ((FT.out.trans0 F4.out).trans0 f5); clear f5; have BZ := Lib.hid (FX.out.obj B2.out _root_.id); go_frame; clear mk K0) | ((with_reducible refine at_store ?_); have mk := K1.out; refine wpList_done rfl (exec_store (ty := 45) (b := w.heap.size + 1) (off := 0) (cs := hashC TB) rfl rfl rfl (by rw [SLt.out]; exact there_obj BZ.out (Nat.le_of_eq h0_size.symm)) (by rw [SLt.out]; exact infoHash) hashC_one) ?_; go_frame; clear mk K1))
          refine bodyPost_ret (results_row_tmp (P := Tryd.prog) (fn := Tryd.f25) rfl _ rfl (range_set BZ.out (by rw [SLt.out]; exact h0_size)) uH rH (by rw [SLt.out]; exact infoHash) rfl) rfl ⟨by rw [HE.out.1, HE.out.2]; rfl, ?_⟩
          exact (F2.out.trans0 FX.out).trans (setCells_fr _ _ _ _) (fun i hi e => by omega)
end Go.Proofs.YtmpamcnlineceaaDoor
