/- pappuslaw11: ChainBack. -/
import Derived.Test.YtmpamcnlineceaaDoorMG44
import Derived.Test.YtmpamcnlineceaaDoorSameTZ
set_option linter.unusedVariables false
set_option linter.unusedSimpArgs false
set_option linter.unnecessarySimpa false
set_option linter.all false
namespace Go.Proofs.YtmpamcnlineceaaDoor
open Go Go.RowKit Go.Maps Go.MapKept

theorem back_law {S0 S : List CoinD} {bs : List DoneD} {b : BlkD} (h : HOk S0 bs S) (hb : BOk b) (hc : connE (idsOf bs) S bs b = 0) : (doR (idsOf bs) S b).d.blk = b ∧ undoS (doR (idsOf bs) S b).d.chg (doR (idsOf bs) S b).S = S ∧ (∀ t ∈ b.txs, formB t = true ∧ idH t ∈ idsOf (bs ++ [(doR (idsOf bs) S b).d]) ∧ idH t ∉ idsOf bs) ∧ b.pay.length ≤ 8 ∧ b.txs.length ≤ 16 := by
  obtain ⟨h1, h2, h3, h4⟩ := conn0 hc
  obtain ⟨p1, p2, p3⟩ := blkOk_iff h2
  obtain ⟨a1, a2, a3, a4, a5, a6, a7, a8, a9, a10⟩ := doR_ok (K := idsOf bs) h.srt h.ok (fun t ht => (hb.1 t ht).2) hb.2 p2 p1
  obtain ⟨r1, r2, r3, r4⟩ := doR0 h4
  have hids : (doR (idsOf bs) S b).d.ids = b.txs.map idH := by
    rw [r4]
    have := (runT_all b.txs (st0 S) r1).1
    dsimp only
    rw [this]
    rfl
  refine ⟨a5, a4, fun t ht => ⟨p3 t ht, ?_, ?_⟩, p1, p2⟩
  · rw [idsOf_snoc, hids]
    exact List.mem_append.2 (.inr (List.mem_map.2 ⟨t, ht, rfl⟩))
  · exact a9 _ (by rw [hids]; exact List.mem_map.2 ⟨t, ht, rfl⟩)
/-- The block's rows, wherever it lies. -/
theorem blk_txs {w : World} {b : BlkD} {pa ta : Option Addr} {pc tc : Nat} (h : BlkQ w b [.int .u64 b.tag, .slice pa b.pay.length pc, .slice ta b.txs.length tc]) : OutsIs w (.slice pa b.pay.length pc) b.pay ∧ TxsIs w (.slice ta b.txs.length tc) b.txs := by
  obtain ⟨pa', pc', ta', tc', e, _, ho, ht⟩ := h
  simp only [blkC, List.cons.injEq, and_true] at e
  obtain ⟨-, e1, e2⟩ := e
  injection e1 with e11 _ e13
  injection e2 with e21 _ e23
  subst e11; subst e13; subst e21; subst e23
  exact ⟨ho, ht⟩
set_option maxRecDepth 20000 in
set_option maxHeartbeats 8000000 in
theorem backLaw_any {w : World} (hg : ShaW w) {fv lv : Value} {F : List OutD} {L : List Act11} (hf : OutsIs w fv F) (hl : Acts11Is w lv L) {b : BlkD} {cs : List Value} (hb : BlkQ w b cs) :
    Calls Tryd.prog 7 #[fv, lv, .agg cs.toArray] w fun e w' => e = .returned (.bool true) ∧ Fr No w w' := by
  have HG := Lib.hid hg
  have HF := Lib.hid hf
  have HL := Lib.hid hl
  have HB := Lib.hid hb
  obtain ⟨fa, fc, rfl⟩ := hf.2.form
  obtain ⟨la, lc, rfl⟩ := hl.form
  obtain ⟨pa, pc, ta, tc, rfl⟩ := hb.form
  obtain ⟨dB, uB, rB⟩ := descBlk
  have F1 := Lib.hid ((Fr.refl No w).alloc (.cells #[.int .u64 b.tag, .slice pa b.pay.length pc, .slice ta b.txs.length tc] 27))
  obtain ⟨-, -, -, xr⟩ := row3_new w (.int .u64 b.tag) (.slice pa b.pay.length pc) (.slice ta b.txs.length tc) 27
  have KR := Lib.hid (fun (w' : World) (f : Fr No (w.alloc (.cells #[.int .u64 b.tag, .slice pa b.pay.length pc, .slice ta b.txs.length tc] 27)) w') => range_keep xr f _root_.id)
  have AL := Lib.hid (aliven_any (hg.keep0 F1.out))
  have GT := Lib.hid (fun (w' : World) (f : Fr No w w') => great11_any w' (hf.keep f) (hl.keep0 f))
  have HV := Lib.hid (fun (w' : World) (f : Fr No w w') => heavy_any w' (hb.keep f))
  clear hg hf hl hb xr
  show Calls Tryd.prog 7 #[.slice fa F.length fc, .slice la L.length lc, .agg #[.int .u64 b.tag, .slice pa b.pay.length pc, .slice ta b.txs.length tc]] w _
  by_cases hgt : great11 F L = true
  · have EG := Lib.hid (show (if great11 F L = true then (1 : Int) else 0) = 1 by rw [if_pos hgt])
    clear hgt
    go_enter Tryd.func7, Tryd.ntmps7
    have K0 := Lib.hid True.intro
    have K1 := Lib.hid True.intro
    go_wp2_with (first | (have mk := K0.out; go_at_call 10; generalize w.alloc (.cells #[.int .u64 b.tag, .slice pa b.pay.length pc, .slice ta b.txs.length tc] 27) = w1 at *; refine AL.out.mono ?_; rintro e w2 ⟨rfl, f2⟩; have F2 := Lib.hid (F1.out.trans0 f2); clear f2; go_frame; clear mk K0) | (have mk := K1.out; go_at_call 11; refine (GT.out w2 F2.out).mono ?_; rintro e w3 ⟨rfl, f3⟩; rw [EG.out]; have F3 := Lib.hid (F2.out.trans0 f3); clear f3; go_frame; clear mk K1))
    go_ret
    exact ⟨rfl, F3.out⟩
  have EG := Lib.hid (show (if great11 F L = true then (1 : Int) else 0) = 0 by rw [if_neg hgt])
  obtain ⟨g1, g2, g3⟩ := great11_not (show great11 F L = false by simpa using hgt)
  clear hgt
  by_cases hhv : heavyB b = true
  · have EH := Lib.hid hhv
    clear hhv
    go_enter Tryd.func7, Tryd.ntmps7
    have K0 := Lib.hid True.intro
    have K1 := Lib.hid True.intro
    have K2 := Lib.hid True.intro
    have K3 := Lib.hid True.intro
    go_wp2_with (first | (have mk := K0.out; go_at_call 10; generalize w.alloc (.cells #[.int .u64 b.tag, .slice pa b.pay.length pc, .slice ta b.txs.length tc] 27) = w1 at *; refine AL.out.mono ?_; rintro e w2 ⟨rfl, f2⟩; have F12 := Lib.hid f2; have F2 := Lib.hid (F1.out.trans0 f2); clear f2; go_frame; clear mk K0) | (have mk := K1.out; go_at_call 11; refine (GT.out w2 F2.out).mono ?_; rintro e w3 ⟨rfl, f3⟩; rw [EG.out]; have F13 := Lib.hid (F12.out.trans0 f3); have F3 := Lib.hid (F2.out.trans0 f3); clear f3; go_frame; clear mk K1) | ((with_reducible refine at_dst 28 ?_); have mk := K2.out; refine wpList_vG (o := ⟨some 28, _, _, _, _, _⟩) rfl (exec_load (ty := 27) rfl rfl (KR.out w3 F13.out) uB rB infoBlk) ?_; go_frame; clear mk K2) | (have mk := K3.out; go_at_call 12; refine (HV.out w3 F3.out).mono ?_; rintro e w4 ⟨rfl, f4⟩; rw [EH.out]; have F4 := Lib.hid (F3.out.trans0 f4); clear f4; go_frame; clear mk K3))
    go_ret
    exact ⟨rfl, F4.out⟩
  have EH := Lib.hid (show heavyB b = false by simpa using hhv)
  clear hhv
  have GW := Lib.hid (fun (w' : World) (f : Fr No w w') => grown_g (HG.out.keep0 f) (HF.out.keep f) (HL.out.keep0 f) g2)
  by_cases h256 : 256 < F.length
  · have H256 := Lib.hid h256
    have j256 : decide ((256 : Int) < (F.length : Int)) = true := decide_eq_true (by omega)
    go_enter Tryd.func7, Tryd.ntmps7
    have K0 := Lib.hid True.intro
    have K1 := Lib.hid True.intro
    have K2 := Lib.hid True.intro
    have K3 := Lib.hid True.intro
    have K4 := Lib.hid True.intro
    go_wp2_with (first | (have mk := K0.out; go_at_call 10; generalize w.alloc (.cells #[.int .u64 b.tag, .slice pa b.pay.length pc, .slice ta b.txs.length tc] 27) = w1 at *; refine AL.out.mono ?_; rintro e w2 ⟨rfl, f2⟩; have F12 := Lib.hid f2; have F2 := Lib.hid (F1.out.trans0 f2); clear f2; go_frame; clear mk K0) | (have mk := K1.out; go_at_call 11; refine (GT.out w2 F2.out).mono ?_; rintro e w3 ⟨rfl, f3⟩; rw [EG.out]; have F13 := Lib.hid (F12.out.trans0 f3); have F3 := Lib.hid (F2.out.trans0 f3); clear f3; go_frame; clear mk K1) | ((with_reducible refine at_dst 28 ?_); have mk := K2.out; refine wpList_vG (o := ⟨some 28, _, _, _, _, _⟩) rfl (exec_load (ty := 27) rfl rfl (KR.out w3 F13.out) uB rB infoBlk) ?_; go_frame; clear mk K2) | (have mk := K3.out; go_at_call 12; refine (HV.out w3 F3.out).mono ?_; rintro e w4 ⟨rfl, f4⟩; rw [EH.out]; have F14 := Lib.hid (F13.out.trans0 f4); have F4 := Lib.hid (F3.out.trans0 f4); clear f4; go_frame; clear mk K3) | (have mk := K4.out; go_at_call 13; refine (GW.out w4 F4.out).mono ?_; intro e w5 hgr; obtain ⟨rfl, rfl⟩ : e = .returned (.pointer none) ∧ w4 = w5 := (by rcases hgr with ⟨_, a, b⟩ | ⟨a, _⟩; exact ⟨a, b.symm⟩; exact absurd H256.out (by omega)); clear hgr; go_frame; clear mk K4))
    go_ret
    exact ⟨rfl, F4.out⟩
  have H256 := Lib.hid (show F.length ≤ 256 by omega)
  clear h256
  go_enter Tryd.func7, Tryd.ntmps7
  have K0 := Lib.hid True.intro
  have K1 := Lib.hid True.intro
  have K2 := Lib.hid True.intro
  have K3 := Lib.hid True.intro
  have K4 := Lib.hid True.intro
  go_wp2_with (first | (have mk := K0.out; go_at_call 10; generalize w.alloc (.cells #[.int .u64 b.tag, .slice pa b.pay.length pc, .slice ta b.txs.length tc] 27) = w1 at *; refine AL.out.mono ?_; rintro e w2 ⟨rfl, f2⟩; have F12 := Lib.hid f2; have F2 := Lib.hid (F1.out.trans0 f2); clear f2; go_frame; clear mk K0) | (have mk := K1.out; go_at_call 11; refine (GT.out w2 F2.out).mono ?_; rintro e w3 ⟨rfl, f3⟩; rw [EG.out]; have F13 := Lib.hid (F12.out.trans0 f3); have F3 := Lib.hid (F2.out.trans0 f3); clear f3; go_frame; clear mk K1) | ((with_reducible refine at_dst 28 ?_); have mk := K2.out; refine wpList_vG (o := ⟨some 28, _, _, _, _, _⟩) rfl (exec_load (ty := 27) rfl rfl (KR.out w3 F13.out) uB rB infoBlk) ?_; go_frame; clear mk K2) | (have mk := K3.out; go_at_call 12; refine (HV.out w3 F3.out).mono ?_; rintro e w4 ⟨rfl, f4⟩; rw [EH.out]; have F14 := Lib.hid (F13.out.trans0 f4); have F4 := Lib.hid (F3.out.trans0 f4); clear f4; go_frame; clear mk K3) | (have mk := K4.out; go_at_call 13; refine (GW.out w4 F4.out).mono ?_; intro e w5 hgr; obtain ⟨p, V, S, bs, rfl, hgd, hbs⟩ : ∃ p V S bs, e = .returned (.pointer (some ⟨p, 0, none⟩)) ∧ Gd w4 w5 p V (putC [] (payC hash0 F)) S bs ∧ bs.length ≤ L.length := (by rcases hgr with ⟨a, _⟩ | ⟨_, a⟩; exact absurd H256.out (by omega); exact a); have GD := Lib.hid hgd; have BS := Lib.hid hbs; have F45 := Lib.hid hgd.fr; clear hgr hgd hbs; go_frame; clear mk K4))
  obtain ⟨dT, uT, rT⟩ := descTx
  obtain ⟨dH, uH, rH⟩ := descHash
  have zT := zeroTx1
  have zH := zeroHash
  have zB := zeroBlk
  have B200 := Lib.hid (show bs.length ≤ 200 by have := BS.out; omega)
  have HSL := Lib.hid (GD.out.slen B200.out)
  have HOK := Lib.hid GD.out.hok
  have F5 := Lib.hid (F4.out.trans0 F45.out)
  have F15 := Lib.hid (F14.out.trans0 F45.out)
  have COI := Lib.hid (coinsn_any GD.out.cn (by have := HSL.out; omega))
  have HEI := Lib.hid (fun (w' : World) (f : Fr No w5 w') => heightn_any (GD.out.fr0 f).cn)
  have CON := Lib.hid (fun (w' : World) (f : Fr No w5 w') => conn_g (HG.out.keep0 F4.out) (GD.out.fr0 f) B200.out (HB.out.keep (F5.out.trans0 f)))
  have VHI := Lib.hid GD.out.hi
  by_cases hz : connE (idsOf bs) S bs b = 0
  rotate_left
  · have ES := Lib.hid (show connS (idsOf bs) S bs b = S by unfold connS; rw [if_neg hz])
    have EB := Lib.hid (show connB (idsOf bs) S bs b = bs by unfold connB; rw [if_neg hz])
    have j1 : (connE (idsOf bs) S bs b == 0) = false := by simpa using hz
    have j2 : (connE (idsOf bs) S bs b != 0) = true := by simpa using hz
    clear hz
    have K0 := Lib.hid True.intro
    have K1 := Lib.hid True.intro
    have K2 := Lib.hid True.intro
    have K3 := Lib.hid True.intro
    have K4 := Lib.hid True.intro
    have K5 := Lib.hid True.intro
    have K6 := Lib.hid True.intro
    go_wp2_with (first | (have mk := K0.out; go_at_call 19; refine COI.out.mono ?_; rintro e w6 ⟨cv, rfl, o6, f6⟩; have O6 := Lib.hid o6; have F6 := Lib.hid f6; obtain ⟨ca, cc, hcv⟩ := o6.slice.arg.form; subst hcv; clear o6 f6; go_frame; clear mk K0) | (have mk := K1.out; go_at_call 18; refine (HEI.out w6 F6.out).mono ?_; rintro e w6' ⟨rfl, hw⟩; rw [hw]; clear hw; go_frame; clear mk K1) | ((with_reducible refine at_dst 44 ?_); have mk := K2.out; refine wpList_value (o := ⟨some 44, _, _, _, _, _⟩) rfl (exec_load (ty := 27) rfl rfl (KR.out w6 (F15.out.trans0 F6.out)) uB rB infoBlk) ?_; go_frame; clear mk K2) | (have mk := K3.out; go_at_call 15; refine (CON.out w6 F6.out).mono ?_; rintro e w7 ⟨rfl, f7, V7, hv7, hg7⟩; rw [ES.out, EB.out] at hg7; have G7 := Lib.hid hg7; have F7 := Lib.hid f7; have O7 := Lib.hid (ownsRow_keep O6.out f7 (fun j hj e => by have := (O6.out.lt j hj).1; have := VHI.out j e; omega)); clear hg7 f7 hv7; go_frame; clear mk K3) | (have mk := K4.out; go_at_call 18; refine (heightn_any G7.out.cn).mono ?_; rintro e w7' ⟨rfl, hw⟩; rw [hw]; clear hw; go_frame; clear mk K4) | (have mk := K5.out; go_at_call 19; refine (coinsn_any G7.out.cn (by have := HSL.out; omega)).mono ?_; rintro e w8 ⟨cv8, rfl, o8, f8⟩; have SC := Lib.hid (sameCoins_any w8 (show CoinsIs w8 cv8 S from ⟨HOK.out.ok, o8.slice.arg⟩) (show CoinsIs w8 (.slice ca S.length cc) S from ⟨HOK.out.ok, (ownsRow_keep O7.out f8 (fun _ _ => _root_.id)).slice.arg⟩) (by have := HSL.out; omega) (by have := HSL.out; omega)); have F8 := Lib.hid (G7.out.fr.trans0 f8); clear o8 f8; go_frame; clear mk K5) | (have mk := K6.out; go_at_call 21; refine SC.out.mono ?_; rintro e w9 ⟨bb, rfl, hbb, f9⟩; obtain rfl : bb = true := hbb.2 rfl; have F9 := Lib.hid (F8.out.trans0 f9); clear f9 hbb; go_frame; clear mk K6))
    go_ret
    exact ⟨rfl, F4.out.trans0 F9.out⟩
  obtain ⟨q1, q2, q3, q4, q5⟩ := back_law HOK.out HB.out.oks hz
  have ES := Lib.hid (show connS (idsOf bs) S bs b = (doR (idsOf bs) S b).S by unfold connS; rw [if_pos hz])
  have EB := Lib.hid (show connB (idsOf bs) S bs b = bs ++ [(doR (idsOf bs) S b).d] by unfold connB; rw [if_pos hz])
  have EZ := Lib.hid hz
  generalize (doR (idsOf bs) S b).d = d at *
  generalize (doR (idsOf bs) S b).S = S' at *
  have Q1 := Lib.hid q1
  have Q2 := Lib.hid q2
  have Q3 := Lib.hid q3
  have BL := Lib.hid (show ((bs ++ [d]).length : Int) = (bs.length : Int) + 1 by rw [List.length_append]; rfl)
  clear hz q1 q2 q3
  have bl200 := B200.out
  have OT := Lib.hid (fun (w' : World) (f : Fr No w w') => (blk_txs (HB.out.keep f)).2)
  have K0 := Lib.hid True.intro
  have K1 := Lib.hid True.intro
  have K2 := Lib.hid True.intro
  have K3 := Lib.hid True.intro
  have K4 := Lib.hid True.intro
  go_wp2_with (first | (have mk := K0.out; go_at_call 19; refine COI.out.mono ?_; rintro e w6 ⟨cv, rfl, o6, f6⟩; have O6 := Lib.hid o6; have F6 := Lib.hid f6; obtain ⟨ca, cc, hcv⟩ := o6.slice.arg.form; subst hcv; clear o6 f6; go_frame; clear mk K0) | (have mk := K1.out; go_at_call 18; refine (HEI.out w6 F6.out).mono ?_; rintro e w6' ⟨rfl, hw⟩; rw [hw]; clear hw; go_frame; clear mk K1) | ((with_reducible refine at_dst 44 ?_); have mk := K2.out; refine wpList_value (o := ⟨some 44, _, _, _, _, _⟩) rfl (exec_load (ty := 27) rfl rfl (KR.out w6 (F15.out.trans0 F6.out)) uB rB infoBlk) ?_; go_frame; clear mk K2) | (have mk := K3.out; go_at_call 15; refine (CON.out w6 F6.out).mono ?_; rintro e w7 ⟨rfl, f7, V7, hv7, hg7⟩; rw [EZ.out]; rw [ES.out, EB.out] at hg7; have G7 := Lib.hid hg7; have F7 := Lib.hid f7; have HV7 := Lib.hid hv7; have O7 := Lib.hid (ownsRow_keep O6.out f7 (fun j hj e => by have := (O6.out.lt j hj).1; have := VHI.out j e; omega)); have F17 := Lib.hid (F14.out.trans0 hg7.fr); have x2 := KR.out w7 (F14.out.trans0 hg7.fr) 2 _ rfl; clear hg7 f7 hv7; go_frame; clear mk K3) | (have mk := K4.out; go_at_call 18; refine (heightn_any G7.out.cn).mono ?_; rintro e w7' ⟨rfl, hw⟩; rw [hw, BL.out]; clear hw; go_frame; clear mk K4))
  clear x2
  have FW7 := Lib.hid (F4.out.trans0 G7.out.fr)
  have S67 := Lib.hid (show w5.heap.size ≤ w6.heap.size ∧ w6.heap.size ≤ w7.heap.size from ⟨F6.out.size, F7.out.size⟩)
  go_loopw [66] (fun iv wr => ∃ n : Nat, iv = .int .i64 n ∧ n ≤ b.txs.length ∧ Fr No w7 wr) (fun iv _ => b.txs.length - (intOf iv).toNat)
  case atStart => exact ⟨0, rfl, Nat.zero_le _, Fr.refl _ _⟩
  case round =>
    obtain ⟨n, rfl, hn, fr⟩ := hrel
    have FR := Lib.hid fr
    clear fr
    by_cases hlt : n < b.txs.length
    · have i1 : (n : Int) < (b.txs.length : Int) := by omega
      obtain ⟨t, hx⟩ : ∃ x, b.txs[n]? = some x := ⟨_, List.getElem?_eq_getElem hlt⟩
      obtain ⟨bb, off, cap, ts, hvv, hr, hq⟩ := (OT.out wr (FW7.out.trans0 FR.out)).at_ hx
      obtain ⟨rfl, -, rfl⟩ := slice_eq hvv
      obtain ⟨ja, jc, ka, kc, rfl⟩ := hq.form
      have TT := Lib.hid (Q3.out t (List.mem_of_getElem? hx))
      have R1 := Lib.hid hr
      have QT := Lib.hid hq
      have FA := Lib.hid ((Fr.refl No wr).alloc (.cells #[.int .u32 t.ver, .slice ja t.ins.length jc, .slice ka t.outs.length kc] 41))
      have RA := Lib.hid (tx_new wr t.ver (.slice ja t.ins.length jc) (.slice ka t.outs.length kc)).2.2.2
      have ID := Lib.hid (id_any (HG.out.keep0 ((FW7.out.trans0 FR.out).trans0 FA.out)) (hq.keep FA.out))
      have IE := Lib.hid (show idE t = 0 by unfold idE; rw [if_pos TT.out.1])
      have HLN := Lib.hid (hashC_len (idH_ok t))
      have DT := Lib.hid (show decide (idH t ∈ idsOf (bs ++ [d])) = true from decide_eq_true TT.out.2.1)
      clear hr hq hvv hx
      have K0 := Lib.hid True.intro
      have K1 := Lib.hid True.intro
      have K2 := Lib.hid True.intro
      have K3 := Lib.hid True.intro
      have K4 := Lib.hid True.intro
      have K5 := Lib.hid True.intro
      have K6 := Lib.hid True.intro
      go_wp2_with (first | ((with_reducible refine at_list ?_); have mk := K0.out; refine wpList_value rfl (exec_load (ty := 41) rfl rfl R1.out uT rT infoTx) ?_; go_frame; clear mk K0) | ((with_reducible refine at_store ?_); have mk := K1.out; refine wpList_done rfl (exec_store_new (w := wr) (ty := 41) (cs := [.int .u32 t.ver, .slice ja t.ins.length jc, .slice ka t.outs.length kc]) rfl rfl rfl rfl infoTx (one3 rfl rfl rfl)) ?_; generalize wr.alloc (.cells #[.int .u32 t.ver, .slice ja t.ins.length jc, .slice ka t.outs.length kc] 41) = wA at *; go_frame; clear mk K1) | ((with_reducible refine at_list ?_); have mk := K2.out; refine wpList_value rfl (exec_load (ty := 41) rfl rfl RA.out uT rT infoTx) ?_; go_frame; clear mk K2) | (have mk := K3.out; go_at_call 22; refine ID.out.mono ?_; rintro e wB ⟨rfl, f3⟩; rw [IE.out]; have FB := Lib.hid (FA.out.trans0 f3); clear f3; have FC0 := Lib.hid ((Fr.refl No wB).alloc (.cells (hashC (idH t)).toArray 45)); have RC := Lib.hid (range_new wB (hashC (idH t)) 45); go_frame; clear mk K3) | ((with_reducible refine at_store ?_); have mk := K4.out; refine wpList_done rfl (exec_store_new (w := wB) (ty := 45) (cs := hashC (idH t)) rfl rfl rfl (by rw [HLN.out]; rfl) (by rw [HLN.out]; exact infoHash) hashC_one) ?_; generalize wB.alloc (.cells (hashC (idH t)).toArray 45) = wC at *; have DN := Lib.hid (donen_any (G7.out.cn.fr0 ((FR.out.trans0 FB.out).trans0 FC0.out)) (idH_ok t)); go_frame; clear mk K4) | ((with_reducible refine at_dst 79 ?_); have mk := K5.out; refine wpList_vG (o := ⟨some 79, _, _, _, _, _⟩) rfl (exec_load (ty := 45) rfl rfl RC.out uH rH (by rw [HLN.out]; exact infoHash)) ?_; go_frame; clear mk K5) | (have mk := K6.out; go_at_call 23; refine DN.out.mono ?_; rintro e wD ⟨rfl, f4⟩; rw [DT.out]; have FD := Lib.hid (((FR.out.trans0 FB.out).trans0 FC0.out).trans0 f4); clear f4; go_frame; clear mk K6))
      go_roundw
      case rel => exact ⟨n + 1, by go_num, by omega, FD.out⟩
      case measure => simp [intOf]; omega
    · have hne : n = b.txs.length := by omega
      subst hne
      clear hlt hn
      have i1 : ¬ (b.txs.length : Int) < (b.txs.length : Int) := by omega
      have GR := Lib.hid (G7.out.fr0 FR.out)
      have DG := Lib.hid (disc_g GR.out B200.out)
      have P8 := Lib.hid (show b.pay.length ≤ 1000 ∧ b.txs.length ≤ 1000 by omega)
      have TI := Lib.hid (show ∀ t ∈ b.txs, t.ins.length ≤ 1000 ∧ t.outs.length ≤ 1000 from fun t ht => by have := form8 (Q3.out t ht).1; omega)
      have K0 := Lib.hid True.intro
      have K1 := Lib.hid True.intro
      have K2 := Lib.hid True.intro
      have K3 := Lib.hid True.intro
      have K4 := Lib.hid True.intro
      have K5 := Lib.hid True.intro
      have K6 := Lib.hid True.intro
      have K7 := Lib.hid True.intro
      go_wp2_with (first | (have mk := K0.out; go_at_call 20; refine DG.out.mono ?_; rintro e wE ⟨bcs, V8, rfl, f8, hv8, hg8, hk8⟩; rw [Q2.out] at hg8; rw [Q1.out] at hk8; have G8 := Lib.hid hg8; have F8 := Lib.hid f8; have OE := Lib.hid (ownsRow_keep (ownsRow_keep O7.out FR.out (fun _ _ => _root_.id)) f8 (fun j hj e => by have h1 := (O6.out.lt j hj); have h2 := HV7.out j e; rcases h2 with h2 | h2; have := VHI.out j h2; omega; omega)); have BK := Lib.hid hk8.now; obtain ⟨ua, uc, va, vc, hbc⟩ := hk8.now.form; subst hbc; have FF := Lib.hid ((Fr.refl No wE).alloc (.cells #[.int .u64 b.tag, .slice ua b.pay.length uc, .slice va b.txs.length vc] 27)); have RF := Lib.hid (row3_new wE (.int .u64 b.tag) (.slice ua b.pay.length uc) (.slice va b.txs.length vc) 27).2.2.2; clear hg8 f8 hv8 hk8; go_frame; clear mk K0) | ((with_reducible refine at_store ?_); have mk := K1.out; refine wpList_done rfl (exec_store_new (w := wE) (ty := 27) (cs := [.int .u64 b.tag, .slice ua b.pay.length uc, .slice va b.txs.length vc]) rfl rfl rfl rfl infoBlk (one3 rfl rfl rfl)) ?_; generalize wE.alloc (.cells #[.int .u64 b.tag, .slice ua b.pay.length uc, .slice va b.txs.length vc] 27) = wF at *; have GF := Lib.hid (G8.out.fr0 FF.out); go_frame; clear mk K1) | ((with_reducible refine at_dst 92 ?_); have mk := K2.out; refine wpList_vG (o := ⟨some 92, _, _, _, _, _⟩) rfl (exec_load (ty := 27) rfl rfl RF.out uB rB infoBlk) ?_; go_frame; clear mk K2) | ((with_reducible refine at_dst 93 ?_); have mk := K3.out; refine wpList_vG (o := ⟨some 93, _, _, _, _, _⟩) rfl (exec_load (ty := 27) rfl rfl (KR.out wF (F14.out.trans0 GF.out.fr)) uB rB infoBlk) ?_; go_frame; clear mk K3) | (have mk := K4.out; go_at_call 24; refine (sameBlk_t wF (BK.out.keep FF.out) (HB.out.keep (F4.out.trans0 GF.out.fr)) P8.out.1 P8.out.2 TI.out).mono ?_; rintro e wG ⟨rfl, f9⟩; have FG := Lib.hid f9; have GG := Lib.hid (GF.out.fr0 f9); clear f9; go_frame; clear mk K4) | (have mk := K5.out; go_at_call 18; refine (heightn_any GG.out.cn).mono ?_; rintro e wG' ⟨rfl, hw⟩; rw [hw]; clear hw; go_frame; clear mk K5) | (have mk := K6.out; go_at_call 19; refine (coinsn_any GG.out.cn (by have := HSL.out; omega)).mono ?_; rintro e wH ⟨cv8, rfl, o8, f8⟩; have SC := Lib.hid (sameCoins_any wH (show CoinsIs wH cv8 S from ⟨HOK.out.ok, o8.slice.arg⟩) (show CoinsIs wH (.slice ca S.length cc) S from ⟨HOK.out.ok, (ownsRow_keep (ownsRow_keep OE.out (FF.out.trans0 FG.out) (fun _ _ => _root_.id)) f8 (fun _ _ => _root_.id)).slice.arg⟩) (by have := HSL.out; omega) (by have := HSL.out; omega)); have GH := Lib.hid (GG.out.fr0 f8); clear o8 f8; go_frame; clear mk K6) | (have mk := K7.out; go_at_call 21; refine SC.out.mono ?_; rintro e wI ⟨bb, rfl, hbb, f9⟩; obtain rfl : bb = true := hbb.2 rfl; have GI := Lib.hid (GH.out.fr0 f9); have x2 := KR.out wI (F14.out.trans0 (GH.out.fr0 f9).fr) 2 _ rfl; clear f9 hbb; go_frame; clear mk K7))
      clear x2
      have FWI := Lib.hid (F4.out.trans0 GI.out.fr)
      go_loopw [113] (fun iv wq => ∃ n : Nat, iv = .int .i64 n ∧ n ≤ b.txs.length ∧ Fr No wI wq) (fun iv _ => b.txs.length - (intOf iv).toNat)
      case atStart => exact ⟨0, rfl, Nat.zero_le _, Fr.refl _ _⟩
      case round =>
        obtain ⟨n, rfl, hn, fr⟩ := hrel
        rename World => wq
        have FQ := Lib.hid fr
        clear fr
        by_cases hlt : n < b.txs.length
        · have i1 : (n : Int) < (b.txs.length : Int) := by omega
          obtain ⟨t, hx⟩ : ∃ x, b.txs[n]? = some x := ⟨_, List.getElem?_eq_getElem hlt⟩
          obtain ⟨bb, off, cap, ts, hvv, hr, hq⟩ := (OT.out wq (FWI.out.trans0 FQ.out)).at_ hx
          obtain ⟨rfl, -, rfl⟩ := slice_eq hvv
          obtain ⟨ja, jc, ka, kc, rfl⟩ := hq.form
          have TT := Lib.hid (Q3.out t (List.mem_of_getElem? hx))
          have R1 := Lib.hid hr
          have FA := Lib.hid ((Fr.refl No wq).alloc (.cells #[.int .u32 t.ver, .slice ja t.ins.length jc, .slice ka t.outs.length kc] 41))
          have RA := Lib.hid (tx_new wq t.ver (.slice ja t.ins.length jc) (.slice ka t.outs.length kc)).2.2.2
          have ID := Lib.hid (id_any (HG.out.keep0 ((FWI.out.trans0 FQ.out).trans0 FA.out)) (hq.keep FA.out))
          have IE := Lib.hid (show idE t = 0 by unfold idE; rw [if_pos TT.out.1])
          have HLN := Lib.hid (hashC_len (idH_ok t))
          have DT := Lib.hid (show decide (idH t ∈ idsOf bs) = false from decide_eq_false TT.out.2.2)
          clear hr hq hvv hx
          have K0 := Lib.hid True.intro
          have K1 := Lib.hid True.intro
          have K2 := Lib.hid True.intro
          have K3 := Lib.hid True.intro
          have K4 := Lib.hid True.intro
          have K5 := Lib.hid True.intro
          have K6 := Lib.hid True.intro
          go_wp2_with (first | ((with_reducible refine at_list ?_); have mk := K0.out; refine wpList_value rfl (exec_load (ty := 41) rfl rfl R1.out uT rT infoTx) ?_; go_frame; clear mk K0) | ((with_reducible refine at_store ?_); have mk := K1.out; refine wpList_done rfl (exec_store_new (w := wq) (ty := 41) (cs := [.int .u32 t.ver, .slice ja t.ins.length jc, .slice ka t.outs.length kc]) rfl rfl rfl rfl infoTx (one3 rfl rfl rfl)) ?_; generalize wq.alloc (.cells #[.int .u32 t.ver, .slice ja t.ins.length jc, .slice ka t.outs.length kc] 41) = wA at *; go_frame; clear mk K1) | ((with_reducible refine at_list ?_); have mk := K2.out; refine wpList_value rfl (exec_load (ty := 41) rfl rfl RA.out uT rT infoTx) ?_; go_frame; clear mk K2) | (have mk := K3.out; go_at_call 22; refine ID.out.mono ?_; rintro e wB ⟨rfl, f3⟩; rw [IE.out]; have FB := Lib.hid (FA.out.trans0 f3); clear f3; have FC0 := Lib.hid ((Fr.refl No wB).alloc (.cells (hashC (idH t)).toArray 45)); have RC := Lib.hid (range_new wB (hashC (idH t)) 45); go_frame; clear mk K3) | ((with_reducible refine at_store ?_); have mk := K4.out; refine wpList_done rfl (exec_store_new (w := wB) (ty := 45) (cs := hashC (idH t)) rfl rfl rfl (by rw [HLN.out]; rfl) (by rw [HLN.out]; exact infoHash) hashC_one) ?_; generalize wB.alloc (.cells (hashC (idH t)).toArray 45) = wC at *; have DN := Lib.hid (donen_any (GI.out.cn.fr0 ((FQ.out.trans0 FB.out).trans0 FC0.out)) (idH_ok t)); go_frame; clear mk K4) | ((with_reducible refine at_dst 123 ?_); have mk := K5.out; refine wpList_value (o := ⟨some 123, _, _, _, _, _⟩) rfl (exec_load (ty := 45) rfl rfl RC.out uH rH (by rw [HLN.out]; exact infoHash)) ?_; go_frame; clear mk K5) | (have mk := K6.out; go_at_call 23; refine DN.out.mono ?_; rintro e wD ⟨rfl, f4⟩; rw [DT.out]; have FD := Lib.hid (((FQ.out.trans0 FB.out).trans0 FC0.out).trans0 f4); clear f4; go_frame; clear mk K6))
          go_roundw
          case rel => exact ⟨n + 1, by go_num, by omega, FD.out⟩
          case measure => simp [intOf]; omega
        · have hne : n = b.txs.length := by omega
          subst hne
          clear hlt hn
          have i1 : ¬ (b.txs.length : Int) < (b.txs.length : Int) := by omega
          go_wp2
          go_ret
          exact ⟨rfl, FWI.out.trans0 FQ.out⟩
end Go.Proofs.YtmpamcnlineceaaDoor
