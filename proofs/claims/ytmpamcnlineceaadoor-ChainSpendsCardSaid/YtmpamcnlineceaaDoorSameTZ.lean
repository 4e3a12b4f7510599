/- pappusref07.Same and pappusref11.SameBlock: what is the same is told so. -/
import Derived.Test.YtmpamcnlineceaaDoorSameZ
import Derived.Test.YtmpamcnlineceaaDoorMG20
import Derived.Test.YtmpamcnlineceaaDoorMG36
set_option linter.unusedVariables false
set_option linter.unusedSimpArgs false
set_option linter.unnecessarySimpa false
set_option linter.all false
namespace Go.Proofs.YtmpamcnlineceaaDoor
open Go Go.RowKit Go.Maps Go.MapKept

theorem zeroTxS (w : World) : (zeroValue 41).run Tryd.prog w = .ok (.agg (txC 0 (.slice none 0 0) (.slice none 0 0)).toArray) w := by kernel_rfl
theorem slice_eq {a b : Option Addr} {n m c d : Nat} (h : Value.slice a n c = .slice b m d) : a = b ∧ n = m ∧ c = d := by
  injection h with h1 h2 h3
  exact ⟨h1, h2, h3⟩
set_option maxRecDepth 20000 in
set_option maxHeartbeats 4000000 in
theorem sameTx_t (w : World) {t : TxD} {cs ds : List Value} (hx : TxQ w t cs) (hy : TxQ w t ds) (hI : t.ins.length ≤ 1000) (hO : t.outs.length ≤ 1000) :
    Calls Tryd.prog 40 #[.agg cs.toArray, .agg ds.toArray] w fun e w' => e = .returned (.bool true) ∧ Fr No w w' := by
  obtain ⟨ia, ic, oa, oc, rfl, -, xi, xo⟩ := hx
  obtain ⟨ja, jc, qa, qc, rfl, -, yi, yo⟩ := hy
  obtain ⟨dI, uI, rI⟩ := descIn
  obtain ⟨dP, uP, rP⟩ := descPoint
  obtain ⟨dO, uO, rO⟩ := descOut
  have zI := zeroIn1
  have zO := zeroOutC
  have f1 : Fr No w (w.alloc (.cells #[.int .u32 t.ver, .slice ia t.ins.length ic, .slice oa t.outs.length oc] 41)) := (Fr.refl No w).alloc _
  have f2 : Fr No (w.alloc (.cells #[.int .u32 t.ver, .slice ia t.ins.length ic, .slice oa t.outs.length oc] 41)) ((w.alloc (.cells #[.int .u32 t.ver, .slice ia t.ins.length ic, .slice oa t.outs.length oc] 41)).alloc (.cells #[.int .u32 t.ver, .slice ja t.ins.length jc, .slice qa t.outs.length qc] 41)) := (Fr.refl No _).alloc _
  obtain ⟨a0, a1, a2, -⟩ := tx_new w t.ver (.slice ia t.ins.length ic) (.slice oa t.outs.length oc)
  obtain ⟨b0, b1, b2, -⟩ := tx_new (w.alloc (.cells #[.int .u32 t.ver, .slice ia t.ins.length ic, .slice oa t.outs.length oc] 41)) t.ver (.slice ja t.ins.length jc) (.slice qa t.outs.length qc)
  rw [show (w.alloc (.cells #[.int .u32 t.ver, .slice ia t.ins.length ic, .slice oa t.outs.length oc] 41)).heap.size = w.heap.size + 1 by simp] at b0 b1 b2
  have c1 := f2.cell a1 _root_.id
  have c2 := f2.cell a2 _root_.id
  have C2 := Lib.hid c2
  have B1 := Lib.hid b1
  have B2 := Lib.hid b2
  have F2 := Lib.hid (f1.trans0 f2)
  have XI := Lib.hid (xi.keep0 F2.out)
  have YI := Lib.hid (yi.keep0 F2.out)
  have XO := Lib.hid (xo.keep F2.out)
  have YO := Lib.hid (yo.keep F2.out)
  clear f1 xi yi xo yo a1 a2
  have c0 := f2.cell a0 _root_.id
  clear a0 f2
  show Calls Tryd.prog 40 #[.agg #[.int .u32 t.ver, .slice ia t.ins.length ic, .slice oa t.outs.length oc], .agg #[.int .u32 t.ver, .slice ja t.ins.length jc, .slice qa t.outs.length qc]] w _
  go_enter Tryd.func40, Tryd.ntmps40
  go_wp2_with fail
  generalize ((w.alloc (.cells #[.int .u32 t.ver, .slice ia t.ins.length ic, .slice oa t.outs.length oc] 41)).alloc (.cells #[.int .u32 t.ver, .slice ja t.ins.length jc, .slice qa t.outs.length qc] 41)) = w2 at *
  clear c0 c1 c2 b0 b1 b2
  go_loopw [35] (fun iv wr => ∃ n : Nat, iv = .int .i64 n ∧ n ≤ t.ins.length ∧ Fr No w2 wr) (fun iv _ => t.ins.length - (intOf iv).toNat)
  case atStart => exact ⟨0, rfl, Nat.zero_le _, Fr.refl _ _⟩
  case round =>
    obtain ⟨n, rfl, hn, fr⟩ := hrel
    have FR := Lib.hid fr
    clear fr
    by_cases hlt : n < t.ins.length
    · have i1 : (n : Int) < (t.ins.length : Int) := by omega
      obtain ⟨x, hx⟩ : ∃ x, t.ins[n]? = some x := ⟨_, List.getElem?_eq_getElem hlt⟩
      obtain ⟨bx, ox, cx, xs, hvx, hrx, ka, kc, rfl, pok, hkx⟩ := (XI.out.keep0 FR.out).at_ hx
      obtain ⟨by', oy, cy, ys, hvy, hry, ma, mc, rfl, -, hky⟩ := (YI.out.keep0 FR.out).at_ hx
      obtain ⟨rfl, -, rfl⟩ := slice_eq hvx
      obtain ⟨rfl, -, rfl⟩ := slice_eq hvy
      have POK := Lib.hid pok
      have PL := Lib.hid (pointC_len pok)
      have IL := Lib.hid (inC_len pok (.slice ka x.key.length kc))
      have R1 := Lib.hid hrx
      have R2 := Lib.hid (in_at hry pok)
      have KX := Lib.hid hkx
      have KY := Lib.hid hky
      have FA := Lib.hid ((Fr.refl No wr).alloc (.cells (inC x.from_ (.slice ka x.key.length kc)).toArray 50))
      have INN := Lib.hid (in_new wr (p := x.from_) (kv := .slice ka x.key.length kc) pok)
      clear hrx hry hkx hky hvx hvy hx pok
      have K0 := Lib.hid True.intro
      have K1 := Lib.hid True.intro
      go_wp2_with (first | ((with_reducible refine at_list ?_); have mk := K0.out; refine wpList_value rfl (exec_load (ty := 50) rfl rfl R1.out uI rI (by rw [IL.out]; exact infoIn)) ?_; go_frame; clear mk K0) | ((with_reducible refine at_store ?_); have mk := K1.out; refine wpList_done rfl (exec_store_new (w := wr) (ty := 50) (cs := inC x.from_ (.slice ka x.key.length kc)) rfl rfl rfl (by rw [IL.out]; rfl) (by rw [IL.out]; exact infoIn) inC_one) ?_; generalize wr.alloc (.cells (inC x.from_ (.slice ka x.key.length kc)).toArray 50) = wA at *; go_frame; clear mk K1))
      have FD := Lib.hid ((FA.out.trans0 (Fr.refl No wA).drew))
      have SD := Lib.hid (fun (W : World) (f : Fr No wA W) => (⟨range_keep INN.out.1 f _root_.id, f.cell INN.out.2 _root_.id, ((FR.out.trans0 FA.out).trans0 f).cell B1.out _root_.id, range_keep R2.out.1 (FA.out.trans0 f) _root_.id, (FA.out.trans0 f).cell R2.out.2 _root_.id⟩ : W.rangeAt wr.heap.size 0 (pointC x.from_) ∧ W.cell? ⟨wr.heap.size, 33, none⟩ = some (.slice ka x.key.length kc) ∧ W.cell? ⟨w.heap.size + 1, 1, none⟩ = some (.slice (some ⟨by', oy, none⟩) t.ins.length jc) ∧ W.rangeAt by' (oy + n * 34) (pointC x.from_) ∧ W.cell? ⟨by', oy + n * 34 + 33, none⟩ = some (.slice ma x.key.length mc)))
      have G0 := Lib.hid (show Fr No wA wA.drew from (Fr.refl No wA).drew)
      refine wp_region_lexL [false, false, false, false, false, false, false, false, false, false, false, false, false, false, false, false, false, false, true, false, false] (fun W => W.rangeAt wr.heap.size 0 (pointC x.from_) ∧ W.cell? ⟨wr.heap.size, 33, none⟩ = some (.slice ka x.key.length kc) ∧ W.cell? ⟨w.heap.size + 1, 1, none⟩ = some (.slice (some ⟨by', oy, none⟩) t.ins.length jc) ∧ W.rangeAt by' (oy + n * 34) (pointC x.from_) ∧ W.cell? ⟨by', oy + n * 34 + 33, none⟩ = some (.slice ma x.key.length mc)) (by kernel_rfl) (by kernel_rfl) ?_ (fun K hK => ?_)
      · exact SD.out _ G0.out
      generalize wA.drew = z at *
      repeat (first | ((first | with_reducible refine lexL_read ?_ | ((with_reducible refine lexL_readG ?_ ?_); (focus rfl))); apply Exists.intro; refine ⟨?_, ?_⟩; (focus (first | exact lex_load (ty := 47) rfl (fun w h => h.1) uP rP (by rw [PL.out]; exact infoPoint) | exact lex_load (ty := 47) rfl (fun w h => h.2.2.2.1) uP rP (by rw [PL.out]; exact infoPoint) | exact fun w' h => eqPoint.exec_neq (u := (pointC x.from_).toArray) (v := (pointC x.from_).toArray) rfl rfl rfl (keyOfPoint POK.out) (keyOfPoint POK.out) true ⟨fun _ => rfl, fun _ => rfl⟩ w' | (intro w' hS; obtain ⟨s1, s2, s3, s4, s5⟩ := hS; go_simp; (try with_reducible rfl); done))); try simp only [Act.put, List.setIfInBounds_toArray, List.set_cons_zero, List.set_cons_succ]) | ((first | ((with_reducible refine lexL_skip (c := false) ?_ ?_ ?_); (focus rfl); (focus rfl)) | ((with_reducible refine lexL_skip (c := true) ?_ ?_ ?_); (focus rfl); (focus rfl)) | ((with_reducible refine lexL_skipU ?_ ?_); (focus rfl))); try simp only [Act.put, List.setIfInBounds_toArray, List.set_cons_zero, List.set_cons_succ]))
      (first | with_reducible refine lexL_eff (fun K' hK' => ?_) | ((with_reducible refine lexL_effG ?_ (fun K' hK' => ?_)); (focus rfl)))
      go_simp
      refine (same_any z _ _ x.key x.key (KX.out.2.keep (FA.out.trans0 G0.out)) (KY.out.2.keep (FA.out.trans0 G0.out)) KX.out.2.len).mono ?_
      rintro e w5 ⟨rfl, f5⟩
      have F5 := Lib.hid f5
      clear f5
      have DT := Lib.hid (show decide (x.key = x.key) = true by simp)
      rw [DT.out]
      refine hK'.out _ _ ?_ (fun hS => ?_)
      · exact SD.out _ (G0.out.trans0 F5.out)
      try simp only [Act.put, List.setIfInBounds_toArray, List.set_cons_zero, List.set_cons_succ]
      repeat (first | ((first | with_reducible refine lexL_read ?_ | ((with_reducible refine lexL_readG ?_ ?_); (focus rfl))); apply Exists.intro; refine ⟨?_, ?_⟩; (focus (first | (intro w' hS; obtain ⟨s1, s2, s3, s4, s5⟩ := hS; go_simp; (try with_reducible rfl); done))); try simp only [Act.put, List.setIfInBounds_toArray, List.set_cons_zero, List.set_cons_succ]) | ((first | ((with_reducible refine lexL_skip (c := false) ?_ ?_ ?_); (focus rfl); (focus rfl)) | ((with_reducible refine lexL_skip (c := true) ?_ ?_ ?_); (focus rfl); (focus rfl)) | ((with_reducible refine lexL_skipU ?_ ?_); (focus rfl))); try simp only [Act.put, List.setIfInBounds_toArray, List.set_cons_zero, List.set_cons_succ]))
      refine lexL_nil (hK.out _ _ ?_)
      go_wp2_with fail
      go_roundw
      case rel => exact ⟨n + 1, by go_num, by omega, (FR.out.trans0 FA.out).trans0 (G0.out.trans0 F5.out)⟩
      case measure => simp [intOf]; omega
    · have hne : n = t.ins.length := by omega
      subst hne
      clear hlt hn
      have i1 : ¬ (t.ins.length : Int) < (t.ins.length : Int) := by omega
      have c2 := FR.out.cell C2.out _root_.id
      go_wp2_with fail
      (try simp only [Exit.inBlock, Exit.then])
      clear c2
      go_loopw [65] (fun iv wq => ∃ n : Nat, iv = .int .i64 n ∧ n ≤ t.outs.length ∧ Fr No w2 wq) (fun iv _ => t.outs.length - (intOf iv).toNat)
      case atStart => exact ⟨0, rfl, Nat.zero_le _, FR.out⟩
      case round =>
        obtain ⟨n, rfl, hn, fr⟩ := hrel
        have FQ := Lib.hid fr
        clear fr
        by_cases hlt : n < t.outs.length
        · have i1 : (n : Int) < (t.outs.length : Int) := by omega
          obtain ⟨x, hx⟩ : ∃ x, t.outs[n]? = some x := ⟨_, List.getElem?_eq_getElem hlt⟩
          obtain ⟨bx, ox, cx, hvx, hrx, -⟩ := (XO.out.keep FQ.out).at_ hx
          obtain ⟨by', oy, cy, hvy, hry, -⟩ := (YO.out.keep FQ.out).at_ hx
          obtain ⟨rfl, -, rfl⟩ := slice_eq hvx
          obtain ⟨rfl, -, rfl⟩ := slice_eq hvy
          have OK := Lib.hid (XO.out.1 x (List.mem_of_getElem? hx))
          have OL := Lib.hid (outC_len OK.out)
          have R1 := Lib.hid hrx
          have R2 := Lib.hid hry
          rename World => wq
          have FA := Lib.hid ((Fr.refl No wq).alloc (.cells (outC x).toArray 55))
          have RA := Lib.hid (range_new wq (outC x) 55)
          clear hrx hry hvx hvy hx
          have K0 := Lib.hid True.intro
          have K1 := Lib.hid True.intro
          go_wp2_with (first | ((with_reducible refine at_list ?_); have mk := K0.out; refine wpList_value rfl (exec_load (ty := 55) rfl rfl R1.out uO rO (by rw [OL.out]; exact infoOut)) ?_; go_frame; clear mk K0) | ((with_reducible refine at_store ?_); have mk := K1.out; refine wpList_done rfl (exec_store_new (w := wq) (ty := 55) (cs := outC x) rfl rfl rfl (by rw [OL.out]; rfl) (by rw [OL.out]; exact infoOut) outC_one) ?_; generalize wq.alloc (.cells (outC x).toArray 55) = wA at *; go_frame; clear mk K1))
          have FD := Lib.hid (FA.out.trans0 (Fr.refl No wA).drew)
          have SD := Lib.hid (show wA.drew.rangeAt wq.heap.size 0 (outC x) ∧ wA.drew.cell? ⟨w.heap.size + 1, 2, none⟩ = some (.slice (some ⟨by', oy, none⟩) t.outs.length qc) ∧ wA.drew.rangeAt by' (oy + n * 33) (outC x) from ⟨range_keep RA.out (Fr.refl No wA).drew _root_.id, (FQ.out.trans0 FD.out).cell B2.out _root_.id, range_keep R2.out FD.out _root_.id⟩)
          refine wp_region_lexL [false, false, false, false, false, false, false] (fun W => W.rangeAt wq.heap.size 0 (outC x) ∧ W.cell? ⟨w.heap.size + 1, 2, none⟩ = some (.slice (some ⟨by', oy, none⟩) t.outs.length qc) ∧ W.rangeAt by' (oy + n * 33) (outC x)) (by kernel_rfl) (by kernel_rfl) ?_ (fun K hK => ?_)
          · exact SD.out
          generalize wA.drew = z at *
          repeat (first | ((first | with_reducible refine lexL_read ?_ | ((with_reducible refine lexL_readG ?_ ?_); (focus rfl))); apply Exists.intro; refine ⟨?_, ?_⟩; (focus (first | exact lex_load (ty := 55) rfl (fun w h => h.1) uO rO (by rw [OL.out]; exact infoOut) | exact lex_load (ty := 55) rfl (fun w h => h.2.2) uO rO (by rw [OL.out]; exact infoOut) | exact fun w' h => eqOut.exec_neq (u := (outC x).toArray) (v := (outC x).toArray) rfl rfl rfl (keyOfOut OK.out) (keyOfOut OK.out) true ⟨fun _ => rfl, fun _ => rfl⟩ w' | (intro w' hS; obtain ⟨s1, s2, s3⟩ := hS; go_simp; (try with_reducible rfl); done))); try simp only [Act.put, List.setIfInBounds_toArray, List.set_cons_zero, List.set_cons_succ]) | ((first | ((with_reducible refine lexL_skip (c := false) ?_ ?_ ?_); (focus rfl); (focus rfl)) | ((with_reducible refine lexL_skip (c := true) ?_ ?_ ?_); (focus rfl); (focus rfl)) | ((with_reducible refine lexL_skipU ?_ ?_); (focus rfl))); try simp only [Act.put, List.setIfInBounds_toArray, List.set_cons_zero, List.set_cons_succ]))
          refine lexL_nil (hK.out _ _ ?_)
          go_wp2_with fail
          go_roundw
          case rel => exact ⟨n + 1, by go_num, by omega, FQ.out.trans0 FD.out⟩
          case measure => simp [intOf]; omega
        · have hne : n = t.outs.length := by omega
          subst hne
          clear hlt hn
          have i1 : ¬ (t.outs.length : Int) < (t.outs.length : Int) := by omega
          go_wp2
          go_ret
          exact ⟨rfl, F2.out.trans0 FQ.out⟩
set_option maxRecDepth 20000 in
set_option maxHeartbeats 4000000 in
theorem sameBlk_t (w : World) {b : BlkD} {cs ds : List Value} (hx : BlkQ w b cs) (hy : BlkQ w b ds) (hP : b.pay.length ≤ 1000) (hT : b.txs.length ≤ 1000) (hI : ∀ t ∈ b.txs, t.ins.length ≤ 1000 ∧ t.outs.length ≤ 1000) :
    Calls Tryd.prog 24 #[.agg cs.toArray, .agg ds.toArray] w fun e w' => e = .returned (.bool true) ∧ Fr No w w' := by
  obtain ⟨ia, ic, oa, oc, rfl, -, xp, xt⟩ := hx
  obtain ⟨ja, jc, qa, qc, rfl, -, yp, yt⟩ := hy
  obtain ⟨dT, uT, rT⟩ := descTx
  have zT := zeroTxS
  have f1 : Fr No w (w.alloc (.cells #[.int .u64 b.tag, .slice ia b.pay.length ic, .slice oa b.txs.length oc] 27)) := (Fr.refl No w).alloc _
  have f2 : Fr No (w.alloc (.cells #[.int .u64 b.tag, .slice ia b.pay.length ic, .slice oa b.txs.length oc] 27)) ((w.alloc (.cells #[.int .u64 b.tag, .slice ia b.pay.length ic, .slice oa b.txs.length oc] 27)).alloc (.cells #[.int .u64 b.tag, .slice ja b.pay.length jc, .slice qa b.txs.length qc] 27)) := (Fr.refl No _).alloc _
  obtain ⟨a0, a1, a2, -⟩ := row3_new w (.int .u64 b.tag) (.slice ia b.pay.length ic) (.slice oa b.txs.length oc) 27
  obtain ⟨b0, b1, b2, -⟩ := row3_new (w.alloc (.cells #[.int .u64 b.tag, .slice ia b.pay.length ic, .slice oa b.txs.length oc] 27)) (.int .u64 b.tag) (.slice ja b.pay.length jc) (.slice qa b.txs.length qc) 27
  rw [show (w.alloc (.cells #[.int .u64 b.tag, .slice ia b.pay.length ic, .slice oa b.txs.length oc] 27)).heap.size = w.heap.size + 1 by simp] at b0 b1 b2
  have c1 := f2.cell a1 _root_.id
  have c2 := f2.cell a2 _root_.id
  have c0 := f2.cell a0 _root_.id
  have C2 := Lib.hid c2
  have B2 := Lib.hid b2
  have F2 := Lib.hid (f1.trans0 f2)
  have XP := Lib.hid (xp.keep F2.out)
  have YP := Lib.hid (yp.keep F2.out)
  have XT := Lib.hid (xt.keep0 F2.out)
  have YT := Lib.hid (yt.keep0 F2.out)
  have HI := Lib.hid hI
  clear f1 xp yp xt yt a0 a1 a2 hI f2
  show Calls Tryd.prog 24 #[.agg #[.int .u64 b.tag, .slice ia b.pay.length ic, .slice oa b.txs.length oc], .agg #[.int .u64 b.tag, .slice ja b.pay.length jc, .slice qa b.txs.length qc]] w _
  go_enter Tryd.func24, Tryd.ntmps24
  have SO := Lib.hid (sameOuts_any _ XP.out YP.out (by omega) (by omega))
  go_wp2_with (go_at_call 39; generalize ((w.alloc (.cells #[.int .u64 b.tag, .slice ia b.pay.length ic, .slice oa b.txs.length oc] 27)).alloc (.cells #[.int .u64 b.tag, .slice ja b.pay.length jc, .slice qa b.txs.length qc] 27)) = w2 at *; refine SO.out.mono ?_; rintro e w3 ⟨bb, rfl, hbb, f3⟩; obtain rfl : bb = true := hbb.2 rfl; have F3 := Lib.hid f3; have d2 := f3.cell C2.out _root_.id; have d3 := f3.cell B2.out _root_.id; clear f3 hbb)
  clear c0 c1 c2 b0 b1 b2 d2 d3
  go_loopw [31] (fun iv wr => ∃ n : Nat, iv = .int .i64 n ∧ n ≤ b.txs.length ∧ Fr No w2 wr) (fun iv _ => b.txs.length - (intOf iv).toNat)
  case atStart => exact ⟨0, rfl, Nat.zero_le _, F3.out⟩
  case round =>
    obtain ⟨n, rfl, hn, fr⟩ := hrel
    have FR := Lib.hid fr
    clear fr
    by_cases hlt : n < b.txs.length
    · have i1 : (n : Int) < (b.txs.length : Int) := by omega
      obtain ⟨t, hx⟩ : ∃ x, b.txs[n]? = some x := ⟨_, List.getElem?_eq_getElem hlt⟩
      obtain ⟨bx, ox, cx, xs, hvx, hrx, hqx⟩ := (XT.out.keep0 FR.out).at_ hx
      obtain ⟨by', oy, cy, ys, hvy, hry, hqy⟩ := (YT.out.keep0 FR.out).at_ hx
      obtain ⟨rfl, -, rfl⟩ := slice_eq hvx
      obtain ⟨rfl, -, rfl⟩ := slice_eq hvy
      have TI := Lib.hid (HI.out t (List.mem_of_getElem? hx))
      have QX := Lib.hid hqx
      have QY := Lib.hid hqy
      have LX := Lib.hid (show xs.length = 3 from by obtain ⟨_, _, _, _, rfl, _⟩ := hqx; rfl)
      have LY := Lib.hid (show ys.length = 3 from by obtain ⟨_, _, _, _, rfl, _⟩ := hqy; rfl)
      have G0 := Lib.hid (show Fr No wr wr.drew from (Fr.refl No wr).drew)
      have SD := Lib.hid (show ∀ W, Fr No wr W → W.cell? ⟨w.heap.size, 2, none⟩ = some (.slice (some ⟨bx, ox, none⟩) b.txs.length oc) ∧ W.cell? ⟨w.heap.size + 1, 2, none⟩ = some (.slice (some ⟨by', oy, none⟩) b.txs.length qc) ∧ W.rangeAt bx (ox + n * 3) xs ∧ W.rangeAt by' (oy + n * 3) ys from fun W f => ⟨(FR.out.trans0 f).cell C2.out _root_.id, (FR.out.trans0 f).cell B2.out _root_.id, range_keep hrx f _root_.id, range_keep hry f _root_.id⟩)
      clear hrx hry hqx hqy hvx hvy hx
      go_wp2_with fail
      refine wp_region_lexL [false, false, false, false, false, false, false, false, false, false, true, false] (fun W => W.cell? ⟨w.heap.size, 2, none⟩ = some (.slice (some ⟨bx, ox, none⟩) b.txs.length oc) ∧ W.cell? ⟨w.heap.size + 1, 2, none⟩ = some (.slice (some ⟨by', oy, none⟩) b.txs.length qc) ∧ W.rangeAt bx (ox + n * 3) xs ∧ W.rangeAt by' (oy + n * 3) ys) (by kernel_rfl) (by kernel_rfl) ?_ (fun K hK => ?_)
      · exact SD.out _ G0.out
      generalize wr.drew = z at *
      repeat (first | ((first | with_reducible refine lexL_read ?_ | ((with_reducible refine lexL_readG ?_ ?_); (focus rfl))); apply Exists.intro; refine ⟨?_, ?_⟩; (focus (first | exact lex_load (ty := 41) rfl (fun w h => h.2.2.1) uT rT (by rw [LX.out]; exact infoTx) | exact lex_load (ty := 41) rfl (fun w h => h.2.2.2) uT rT (by rw [LY.out]; exact infoTx) | (intro w' hS; obtain ⟨s1, s2, s3, s4⟩ := hS; go_simp; (try with_reducible rfl); done))); try simp only [Act.put, List.setIfInBounds_toArray, List.set_cons_zero, List.set_cons_succ]) | ((first | ((with_reducible refine lexL_skip (c := false) ?_ ?_ ?_); (focus rfl); (focus rfl)) | ((with_reducible refine lexL_skip (c := true) ?_ ?_ ?_); (focus rfl); (focus rfl)) | ((with_reducible refine lexL_skipU ?_ ?_); (focus rfl))); try simp only [Act.put, List.setIfInBounds_toArray, List.set_cons_zero, List.set_cons_succ]))
      (first | with_reducible refine lexL_eff (fun K' hK' => ?_) | ((with_reducible refine lexL_effG ?_ (fun K' hK' => ?_)); (focus rfl)))
      go_simp
      refine (sameTx_t z (QX.out.keep G0.out) (QY.out.keep G0.out) TI.out.1 TI.out.2).mono ?_
      rintro e w5 ⟨rfl, f5⟩
      have F5 := Lib.hid f5
      clear f5
      refine hK'.out _ _ ?_ (fun hS => ?_)
      · exact SD.out _ (G0.out.trans0 F5.out)
      try simp only [Act.put, List.setIfInBounds_toArray, List.set_cons_zero, List.set_cons_succ]
      repeat (first | ((first | with_reducible refine lexL_read ?_ | ((with_reducible refine lexL_readG ?_ ?_); (focus rfl))); apply Exists.intro; refine ⟨?_, ?_⟩; (focus (first | (intro w' hS; obtain ⟨s1, s2, s3, s4⟩ := hS; go_simp; (try with_reducible rfl); done))); try simp only [Act.put, List.setIfInBounds_toArray, List.set_cons_zero, List.set_cons_succ]) | ((first | ((with_reducible refine lexL_skip (c := false) ?_ ?_ ?_); (focus rfl); (focus rfl)) | ((with_reducible refine lexL_skip (c := true) ?_ ?_ ?_); (focus rfl); (focus rfl)) | ((with_reducible refine lexL_skipU ?_ ?_); (focus rfl))); try simp only [Act.put, List.setIfInBounds_toArray, List.set_cons_zero, List.set_cons_succ]))
      refine lexL_nil (hK.out _ _ ?_)
      go_wp2_with fail
      go_roundw
      case rel => exact ⟨n + 1, by go_num, by omega, FR.out.trans0 (G0.out.trans0 F5.out)⟩
      case measure => simp [intOf]; omega
    · have hne : n = b.txs.length := by omega
      subst hne
      clear hlt hn
      have i1 : ¬ (b.txs.length : Int) < (b.txs.length : Int) := by omega
      go_wp2
      go_ret
      exact ⟨rfl, F2.out.trans0 FR.out⟩
end Go.Proofs.YtmpamcnlineceaaDoor
