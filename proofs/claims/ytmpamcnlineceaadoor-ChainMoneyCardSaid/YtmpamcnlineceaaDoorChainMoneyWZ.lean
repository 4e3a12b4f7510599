/- pappuslaw11: ChainMoney. -/
import Derived.Test.YtmpamcnlineceaaDoorMG44
import Derived.Test.YtmpamcnlineceaaDoorMG45
set_option linter.unusedVariables false
set_option linter.unusedSimpArgs false
set_option linter.unnecessarySimpa false
set_option linter.all false
namespace Go.Proofs.YtmpamcnlineceaaDoor
open Go Go.RowKit Go.Maps Go.MapKept

theorem totV_sum (S : List CoinD) (m : List OutD) : (totV S m).sum = sumC S + sumO m := by
  unfold totV sumC sumO valsO
  rw [List.sum_append, List.map_map]
  rfl
theorem sumC_nn {S : List CoinD} (ok : ∀ c ∈ S, c.ok) : 0 ≤ sumC S := sumO_nn (fun x hx => by
  obtain ⟨c, hc, rfl⟩ := List.mem_map.1 hx
  exact (ok c hc).2.1.1)
theorem money_law {K : List HashD} {S : List CoinD} (srt : SrtC S) {bs : List DoneD} {b : BlkD} (h : connE K S bs b = 0) (he : sumE (totV S b.pay) = 0) : sumE (totV (connS K S bs b) []) = 0 ∧ sumR (totV (connS K S bs b) []) ≤ sumR (totV S b.pay) := by
  have h1 := money srt (conn0 h).2.2.2
  have e : connS K S bs b = (doR K S b).S := by unfold connS; rw [if_pos h]
  have e2 : sumO ([] : List OutD) = 0 := rfl
  rw [e]
  unfold sumE at he ⊢
  unfold sumR
  rw [totV_sum] at he ⊢
  rw [totV_sum, e2]
  split at he
  · rename_i hlt
    rw [if_pos (by omega), if_pos (by omega), if_pos hlt]
    exact ⟨rfl, by omega⟩
  · cases he
set_option maxRecDepth 20000 in
set_option maxHeartbeats 4000000 in
theorem moneyLaw_any {w : World} (hg : ShaW w) {fv lv : Value} {F : List OutD} {L : List Act11} (hf : OutsIs w fv F) (hl : Acts11Is w lv L) {b : BlkD} {cs : List Value} (hb : BlkQ w b cs) :
    Calls Tryd.prog 3 #[fv, lv, .agg cs.toArray] w fun e w' => e = .returned (.bool true) ∧ Fr No w w' := by
  have HG := Lib.hid hg
  have HF := Lib.hid hf
  have HL := Lib.hid hl
  have HB := Lib.hid hb
  obtain ⟨fa, fc, rfl⟩ := hf.2.form
  obtain ⟨la, lc, rfl⟩ := hl.form
  obtain ⟨pa, pc, ta, tc, rfl⟩ := hb.form
  obtain ⟨dB, uB, rB⟩ := descBlk
  have F1 := Lib.hid ((Fr.refl No w).alloc (.cells #[.int .u64 b.tag, .slice pa b.pay.length pc, .slice ta b.txs.length tc] 27))
  obtain ⟨-, -, -, xr⟩ := row3_new w (.int .u64 b.tag) (.slice pa b.pay.length pc) (.slice ta b.txs.length tc) 27
  have XR := Lib.hid xr
  have KR := Lib.hid (fun (w' : World) (f : Fr No (w.alloc (.cells #[.int .u64 b.tag, .slice pa b.pay.length pc, .slice ta b.txs.length tc] 27)) w') => range_keep xr f _root_.id)
  have AL := Lib.hid (aliven_any (hg.keep0 F1.out))
  have GT := Lib.hid (fun (w' : World) (f : Fr No w w') => great11_any w' (hf.keep f) (hl.keep0 f))
  have HV := Lib.hid (fun (w' : World) (f : Fr No w w') => heavy_any w' (hb.keep f))
  clear hg hf hl hb xr
  show Calls Tryd.prog 3 #[.slice fa F.length fc, .slice la L.length lc, .agg #[.int .u64 b.tag, .slice pa b.pay.length pc, .slice ta b.txs.length tc]] w _
  by_cases hgt : great11 F L = true
  · have EG := Lib.hid (show (if great11 F L = true then (1 : Int) else 0) = 1 by rw [if_pos hgt])
    clear hgt
    go_enter Tryd.func3, Tryd.ntmps3
    have K0 := Lib.hid True.intro
    have K1 := Lib.hid True.intro
    go_wp2_with (first | (have mk := K0.out; go_at_call 10; generalize w.alloc (.cells #[.int .u64 b.tag, .slice pa b.pay.length pc, .slice ta b.txs.length tc] 27) = w1 at *; refine AL.out.mono ?_; rintro e w2 ⟨rfl, f2⟩; have F2 := Lib.hid (F1.out.trans0 f2); clear f2; go_frame; clear mk K0) | (have mk := K1.out; go_at_call 11; refine (GT.out w2 F2.out).mono ?_; rintro e w3 ⟨rfl, f3⟩; rw [EG.out]; have F3 := Lib.hid (F2.out.trans0 f3); clear f3; go_frame; clear mk K1))
    go_ret
    exact ⟨rfl, F3.out⟩
  have EG := Lib.hid (show (if great11 F L = true then (1 : Int) else 0) = 0 by rw [if_neg hgt])
  obtain ⟨g1, g2, g3⟩ := great11_not (show great11 F L = false by simpa using hgt)
  clear hgt
  by_cases hhv : heavyB b = true
  · have EH := Lib.hid hhv
    clear hhv
    go_enter Tryd.func3, Tryd.ntmps3
    have K0 := Lib.hid True.intro
    have K1 := Lib.hid True.intro
    have K2 := Lib.hid True.intro
    have K3 := Lib.hid True.intro
    go_wp2_with (first | (have mk := K0.out; go_at_call 10; generalize w.alloc (.cells #[.int .u64 b.tag, .slice pa b.pay.length pc, .slice ta b.txs.length tc] 27) = w1 at *; refine AL.out.mono ?_; rintro e w2 ⟨rfl, f2⟩; have F12 := Lib.hid f2; have F2 := Lib.hid (F1.out.trans0 f2); clear f2; go_frame; clear mk K0) | (have mk := K1.out; go_at_call 11; refine (GT.out w2 F2.out).mono ?_; rintro e w3 ⟨rfl, f3⟩; rw [EG.out]; have F13 := Lib.hid (F12.out.trans0 f3); have F3 := Lib.hid (F2.out.trans0 f3); clear f3; go_frame; clear mk K1) | ((with_reducible refine at_dst 19 ?_); have mk := K2.out; refine wpList_vG (o := ⟨some 19, _, _, _, _, _⟩) rfl (exec_load (ty := 27) rfl rfl (KR.out w3 F13.out) uB rB infoBlk) ?_; go_frame; clear mk K2) | (have mk := K3.out; go_at_call 12; refine (HV.out w3 F3.out).mono ?_; rintro e w4 ⟨rfl, f4⟩; rw [EH.out]; have F4 := Lib.hid (F3.out.trans0 f4); clear f4; go_frame; clear mk K3))
    go_ret
    exact ⟨rfl, F4.out⟩
  have EH := Lib.hid (show heavyB b = false by simpa using hhv)
  clear hhv
  have GW := Lib.hid (fun (w' : World) (f : Fr No w w') => grown_g (HG.out.keep0 f) (HF.out.keep f) (HL.out.keep0 f) g2)
  by_cases h256 : 256 < F.length
  · have H256 := Lib.hid h256
    clear h256
    go_enter Tryd.func3, Tryd.ntmps3
    have K0 := Lib.hid True.intro
    have K1 := Lib.hid True.intro
    have K2 := Lib.hid True.intro
    have K3 := Lib.hid True.intro
    have K4 := Lib.hid True.intro
    go_wp2_with (first | (have mk := K0.out; go_at_call 10; generalize w.alloc (.cells #[.int .u64 b.tag, .slice pa b.pay.length pc, .slice ta b.txs.length tc] 27) = w1 at *; refine AL.out.mono ?_; rintro e w2 ⟨rfl, f2⟩; have F12 := Lib.hid f2; have F2 := Lib.hid (F1.out.trans0 f2); clear f2; go_frame; clear mk K0) | (have mk := K1.out; go_at_call 11; refine (GT.out w2 F2.out).mono ?_; rintro e w3 ⟨rfl, f3⟩; rw [EG.out]; have F13 := Lib.hid (F12.out.trans0 f3); have F3 := Lib.hid (F2.out.trans0 f3); clear f3; go_frame; clear mk K1) | ((with_reducible refine at_dst 19 ?_); have mk := K2.out; refine wpList_vG (o := ⟨some 19, _, _, _, _, _⟩) rfl (exec_load (ty := 27) rfl rfl (KR.out w3 F13.out) uB rB infoBlk) ?_; go_frame; clear mk K2) | (have mk := K3.out; go_at_call 12; refine (HV.out w3 F3.out).mono ?_; rintro e w4 ⟨rfl, f4⟩; rw [EH.out]; have F14 := Lib.hid (F13.out.trans0 f4); have F4 := Lib.hid (F3.out.trans0 f4); clear f4; go_frame; clear mk K3) | (have mk := K4.out; go_at_call 13; refine (GW.out w4 F4.out).mono ?_; intro e w5 hgr; obtain ⟨rfl, rfl⟩ : e = .returned (.pointer none) ∧ w4 = w5 := (by rcases hgr with ⟨_, a, b⟩ | ⟨a, _⟩; exact ⟨a, b.symm⟩; exact absurd H256.out (by omega)); clear hgr; go_frame; clear mk K4))
    go_ret
    exact ⟨rfl, F4.out⟩
  have H256 := Lib.hid (show F.length ≤ 256 by omega)
  clear h256
  go_enter Tryd.func3, Tryd.ntmps3
  have K0 := Lib.hid True.intro
  have K1 := Lib.hid True.intro
  have K2 := Lib.hid True.intro
  have K3 := Lib.hid True.intro
  go_wp2_with (first | (have mk := K0.out; go_at_call 10; generalize w.alloc (.cells #[.int .u64 b.tag, .slice pa b.pay.length pc, .slice ta b.txs.length tc] 27) = w1 at *; refine AL.out.mono ?_; rintro e w2 ⟨rfl, f2⟩; have F12 := Lib.hid f2; have F2 := Lib.hid (F1.out.trans0 f2); clear f2; go_frame; clear mk K0) | (have mk := K1.out; go_at_call 11; refine (GT.out w2 F2.out).mono ?_; rintro e w3 ⟨rfl, f3⟩; rw [EG.out]; have F13 := Lib.hid (F12.out.trans0 f3); have F3 := Lib.hid (F2.out.trans0 f3); clear f3; go_frame; clear mk K1) | ((with_reducible refine at_dst 19 ?_); have mk := K2.out; refine wpList_vG (o := ⟨some 19, _, _, _, _, _⟩) rfl (exec_load (ty := 27) rfl rfl (KR.out w3 F13.out) uB rB infoBlk) ?_; go_frame; clear mk K2) | (have mk := K3.out; go_at_call 12; refine (HV.out w3 F3.out).mono ?_; rintro e w4 ⟨rfl, f4⟩; rw [EH.out]; have F14 := Lib.hid (F13.out.trans0 f4); have F4 := Lib.hid (F3.out.trans0 f4); clear f4; go_frame; clear mk K3))
  have K0 := Lib.hid True.intro
  go_wp2_with (first | (have mk := K0.out; go_at_call 13; refine (GW.out w4 F4.out).mono ?_; intro e w5 hgr; obtain ⟨p, V, S, bs, rfl, hgd, hbs⟩ : ∃ p V S bs, e = .returned (.pointer (some ⟨p, 0, none⟩)) ∧ Gd w4 w5 p V (putC [] (payC hash0 F)) S bs ∧ bs.length ≤ L.length := (by rcases hgr with ⟨a, _⟩ | ⟨_, a⟩; exact absurd H256.out (by omega); exact a); have GD := Lib.hid hgd; have BS := Lib.hid hbs; have F45 := Lib.hid hgd.fr; have x1 := KR.out w5 (F14.out.trans0 hgd.fr) 1 _ rfl; clear hgr hgd hbs; go_frame; clear mk K0))
  have B200 := Lib.hid (show bs.length ≤ 200 by have := BS.out; omega)
  have HSL := Lib.hid (GD.out.slen B200.out)
  have HOK := Lib.hid GD.out.hok
  have F5 := Lib.hid (F4.out.trans0 F45.out)
  have OP := Lib.hid (show OutsIs w5 (.slice pa b.pay.length pc) b.pay from by
    obtain ⟨pa', pc', ta', tc', e, _, ho, _⟩ := HB.out.keep F5.out
    simp only [blkC, List.cons.injEq, and_true] at e
    obtain ⟨-, e1, -⟩ := e
    injection e1 with e11 _ e13
    subst e11; subst e13
    exact ho)
  have P30 := Lib.hid (heavyB_not EH.out).1
  have TOT := Lib.hid (total_any GD.out.cn HOK.out.ok (by have := HSL.out; omega) OP.out (by have := P30.out; omega))
  have CON := Lib.hid (fun (w' : World) (f : Fr No w5 w') => conn_g (HG.out.keep0 F4.out) (GD.out.fr0 f) B200.out (HB.out.keep (F5.out.trans0 f)))
  have MON := Lib.hid (fun h1 h2 => money_law (K := idsOf bs) (bs := bs) (b := b) HOK.out.srt h1 h2)
  clear EG EH
  generalize hE0 : sumE (totV S b.pay) = E0 at *
  generalize hR0 : sumR (totV S b.pay) = R0 at *
  generalize hE1 : connE (idsOf bs) S bs b = E1 at *
  have N1 := Lib.hid hE1
  clear hE0 hR0 hE1
  by_cases hz : E1 = 0
  rotate_left
  · have j1 : (E1 == 0) = false := by simpa using hz
    have j2 : (E1 != 0) = true := by simpa using hz
    clear hz
    have K0 := Lib.hid True.intro
    have K1 := Lib.hid True.intro
    have K2 := Lib.hid True.intro
    go_wp2_with (first | (have mk := K0.out; go_at_call 14; refine TOT.out.mono ?_; rintro e w6 ⟨rfl, f6⟩; have F6 := Lib.hid f6; have R6 := Lib.hid (KR.out w6 (F14.out.trans0 (F45.out.trans0 f6))); clear f6; go_frame; clear mk K0) | ((with_reducible refine at_dst 35 ?_); have mk := K1.out; refine wpList_value (o := ⟨some 35, _, _, _, _, _⟩) rfl (exec_load (ty := 27) rfl rfl R6.out uB rB infoBlk) ?_; go_frame; clear mk K1) | (have mk := K2.out; go_at_call 15; refine (CON.out w6 F6.out).mono ?_; rintro e w7 ⟨rfl, -, V7, -, hg7⟩; rw [N1.out]; have G7 := Lib.hid hg7; clear hg7; go_frame; clear mk K2))
    go_ret
    exact ⟨rfl, F4.out.trans0 G7.out.fr⟩
  have HZ := Lib.hid hz
  have j1 : (E1 == 0) = true := by simpa using hz
  have j2 : (E1 != 0) = false := by simpa using hz
  clear hz
  by_cases hy : E0 = 0
  rotate_left
  · have j3 : (E0 == 0) = false := by simpa using hy
    have j4 : (E0 != 0) = true := by simpa using hy
    clear hy
    have K0 := Lib.hid True.intro
    have K1 := Lib.hid True.intro
    have K2 := Lib.hid True.intro
    go_wp2_with (first | (have mk := K0.out; go_at_call 14; refine TOT.out.mono ?_; rintro e w6 ⟨rfl, f6⟩; have F6 := Lib.hid f6; have R6 := Lib.hid (KR.out w6 (F14.out.trans0 (F45.out.trans0 f6))); clear f6; go_frame; clear mk K0) | ((with_reducible refine at_dst 35 ?_); have mk := K1.out; refine wpList_value (o := ⟨some 35, _, _, _, _, _⟩) rfl (exec_load (ty := 27) rfl rfl R6.out uB rB infoBlk) ?_; go_frame; clear mk K1) | (have mk := K2.out; go_at_call 15; refine (CON.out w6 F6.out).mono ?_; rintro e w7 ⟨rfl, -, V7, -, hg7⟩; rw [N1.out]; have G7 := Lib.hid hg7; clear hg7; go_frame; clear mk K2))
    go_ret
    exact ⟨rfl, F4.out.trans0 G7.out.fr⟩
  have MM := Lib.hid (MON.out HZ.out hy)
  have HY := Lib.hid hy
  have j3 : (E0 == 0) = true := by simpa using hy
  have j4 : (E0 != 0) = false := by simpa using hy
  clear hy
  have CB := Lib.hid (show (connB (idsOf bs) S bs b).length ≤ 200 by
    unfold connB
    have := BS.out
    split
    · rw [List.length_append]; simp; omega
    · omega)
  have k1 : (sumE (totV (connS (idsOf bs) S bs b) []) == 0) = true := by simpa using MM.out.1
  have k2 : sumR (totV (connS (idsOf bs) S bs b) []) ≤ R0 := MM.out.2
  have K0 := Lib.hid True.intro
  have K1 := Lib.hid True.intro
  have K2 := Lib.hid True.intro
  have K3 := Lib.hid True.intro
  go_wp2_with (first | (have mk := K0.out; go_at_call 14; refine TOT.out.mono ?_; rintro e w6 ⟨rfl, f6⟩; have F6 := Lib.hid f6; have R6 := Lib.hid (KR.out w6 (F14.out.trans0 (F45.out.trans0 f6))); clear f6; go_frame; clear mk K0) | ((with_reducible refine at_dst 35 ?_); have mk := K1.out; refine wpList_value (o := ⟨some 35, _, _, _, _, _⟩) rfl (exec_load (ty := 27) rfl rfl R6.out uB rB infoBlk) ?_; go_frame; clear mk K1) | (have mk := K2.out; go_at_call 15; refine (CON.out w6 F6.out).mono ?_; rintro e w7 ⟨rfl, -, V7, -, hg7⟩; rw [N1.out]; have G7 := Lib.hid hg7; have TOT2 := Lib.hid (total_any hg7.cn hg7.hok.ok (by have := hg7.slen CB.out; omega) (m := []) (v := .slice none 0 0) ⟨(fun x hx => by cases hx), .inl (.inl ⟨rfl, rfl, rfl⟩)⟩ (Nat.zero_le _)); clear hg7; go_frame; clear mk K2) | (have mk := K3.out; go_at_call 14; refine TOT2.out.mono ?_; rintro e w8 ⟨rfl, f8⟩; have F8 := Lib.hid f8; clear f8; go_frame; clear mk K3))
  go_ret
  exact ⟨rfl, (F4.out.trans0 G7.out.fr).trans0 F8.out⟩
end Go.Proofs.YtmpamcnlineceaaDoor
