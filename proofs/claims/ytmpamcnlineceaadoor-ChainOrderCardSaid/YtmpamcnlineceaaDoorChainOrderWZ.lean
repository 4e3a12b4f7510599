/- pappuslaw11: ChainOrder. -/
import Derived.Deep.CutBlock
import Derived.Test.YtmpamcnlineceaaDoorMG44
import Derived.Test.YtmpamcnlineceaaDoorSameTZ
set_option linter.unusedVariables false
set_option linter.unusedSimpArgs false
set_option linter.unnecessarySimpa false
set_option linter.all false
namespace Go.Proofs.YtmpamcnlineceaaDoor
open Go Go.RowKit Go.Maps Go.MapKept

/-- Blocks put on again, one behind the other, lead to this. -/
def Redo (bs : List DoneD) (S : List CoinD) : List BlkD → List DoneD → List CoinD → Prop
  | [], cur, Sc => cur = bs ∧ Sc = S
  | b :: r, cur, Sc => connE (idsOf cur) Sc cur b = 0 ∧ Redo bs S r (connB (idsOf cur) Sc cur b) (connS (idsOf cur) Sc cur b)
theorem redo_step {bs : List DoneD} {S : List CoinD} {r : List BlkD} {S0 : List CoinD} {c0 : List DoneD} {d : DoneD} {Sc : List CoinD} (h : Hist S0 (c0 ++ [d]) Sc) (srt : SrtC S0) (ok : ∀ c ∈ S0, c.ok) (hr : Redo bs S r (c0 ++ [d]) Sc) : Redo bs S (d.blk :: r) c0 (undoS d.chg Sc) := by
  obtain ⟨h1, h2, h3, h4, h5, h6⟩ := h.undo srt ok
  refine ⟨h2, ?_⟩
  have e1 : connB (idsOf c0) (undoS d.chg Sc) c0 d.blk = c0 ++ [d] := by unfold connB; rw [if_pos h2, ← h3]
  have e2 : connS (idsOf c0) (undoS d.chg Sc) c0 d.blk = Sc := by unfold connS; rw [if_pos h2, ← h4]
  rw [e1, e2]
  exact hr
theorem undBlks : Tryd.prog.underlying 67 = some (.slice 27) := by kernel_rfl
theorem infoBlkZ : (Tryd.prog.info? 27).map (fun i => (i.zero, i.size, i.bytes)) = some (some (.agg blkz.toArray), 3, 56) := by kernel_rfl
theorem infoBlkZ2 : (Tryd.prog.info? 27).map (fun i => (i.zero, i.size)) = some (some (.agg blkz.toArray), 3) := by kernel_rfl
theorem mid_at {α : Type} (a : List α) (x : α) (r : List α) {n : Nat} (hn : a.length = n) : ((a ++ [x]) ++ r)[n]? = some x := by
  subst hn
  rw [List.append_assoc, List.getElem?_append_right (Nat.le_refl _), Nat.sub_self]
  rfl
theorem done_blk {w : World} {d : DoneD} {bcs tl : List Value} (h : DoneQ w d (bcs ++ tl)) (hl : bcs.length = 3) : BlkQ w d.blk bcs := by
  obtain ⟨b', ia, ic, ca, cc, e, hb, -, -⟩ := h
  have := (List.append_inj e (by rw [hl, hb.len])).1
  rw [this]
  exact hb
/-- What was taken off; bs5, css5 the chain as it was ahead. -/
def OffOk (w0 w6 : World) (p : Nat) (S0 : List CoinD) (bs : List DoneD) (S : List CoinD) (V0 : Nat → Prop) (css5 : List (List Value)) (n : Nat) (ov : Value) (wr : World) : Prop :=
  ∃ (V : Nat → Prop) (cur : List DoneD) (Sc : List CoinD) (off : List BlkD) (css cssc : List (List Value)), GdX w0 wr p V S0 Sc cur cssc ∧ Redo bs S off.reverse cur Sc ∧ KRow w6.heap.size 27 3 BlkQ V wr ov off css ∧ (∀ j, V j → V0 j) ∧ Fr (fun j => V0 j ∨ w6.heap.size ≤ j) w6 wr ∧ off.length + cur.length = bs.length ∧ off.length ≤ n ∧ (∃ r, bs = cur ++ r) ∧ ∃ r, css5 = cssc ++ r
set_option maxRecDepth 20000 in
set_option maxHeartbeats 8000000 in
theorem orderLaw_g {w : World} (hg : ShaW w) {fv lv : Value} {F : List OutD} {L : List Act11} (hf : OutsIs w fv F) (hl : Acts11Is w lv L) {a : Nat} (ha : a ≤ 255) :
    Calls Tryd.prog 6 #[fv, lv, .int .u8 a] w fun e w' => e = .returned (.bool true) ∧ Fr No w w' := by
  have HG := Lib.hid hg
  have HF := Lib.hid hf
  have HL := Lib.hid hl
  obtain ⟨fa, fc, rfl⟩ := hf.2.form
  obtain ⟨la, lc, rfl⟩ := hl.form
  obtain ⟨dB, uB, rB⟩ := descBlk
  have zB := zeroBlk
  have AL := Lib.hid (aliven_any hg)
  have GT := Lib.hid (fun (w' : World) (f : Fr No w w') => great11_any w' (hf.keep f) (hl.keep0 f))
  clear hg hf hl
  by_cases hgt : great11 F L = true
  · have EG := Lib.hid (show (if great11 F L = true then (1 : Int) else 0) = 1 by rw [if_pos hgt])
    clear hgt
    go_enter Tryd.func6, Tryd.ntmps6
    have K0 := Lib.hid True.intro
    have K1 := Lib.hid True.intro
    go_wp2_with (first | (have mk := K0.out; go_at_call 10; refine AL.out.mono ?_; rintro e w2 ⟨rfl, f2⟩; have F2 := Lib.hid f2; clear f2; go_frame; clear mk K0) | (have mk := K1.out; go_at_call 11; refine (GT.out w2 F2.out).mono ?_; rintro e w3 ⟨rfl, f3⟩; rw [EG.out]; have F3 := Lib.hid (F2.out.trans0 f3); clear f3; go_frame; clear mk K1))
    go_ret
    exact ⟨rfl, F3.out⟩
  have EG := Lib.hid (show (if great11 F L = true then (1 : Int) else 0) = 0 by rw [if_neg hgt])
  obtain ⟨g1, g2, g3⟩ := great11_not (show great11 F L = false by simpa using hgt)
  clear hgt
  have GW := Lib.hid (fun (w' : World) (f : Fr No w w') => grown_g (HG.out.keep0 f) (HF.out.keep f) (HL.out.keep0 f) g2)
  by_cases h256 : 256 < F.length
  · have H256 := Lib.hid h256
    clear h256
    go_enter Tryd.func6, Tryd.ntmps6
    have K0 := Lib.hid True.intro
    have K1 := Lib.hid True.intro
    have K2 := Lib.hid True.intro
    go_wp2_with (first | (have mk := K0.out; go_at_call 10; refine AL.out.mono ?_; rintro e w2 ⟨rfl, f2⟩; have F2 := Lib.hid f2; clear f2; go_frame; clear mk K0) | (have mk := K1.out; go_at_call 11; refine (GT.out w2 F2.out).mono ?_; rintro e w3 ⟨rfl, f3⟩; rw [EG.out]; have F3 := Lib.hid (F2.out.trans0 f3); clear f3; go_frame; clear mk K1) | (have mk := K2.out; go_at_call 13; refine (GW.out w3 F3.out).mono ?_; intro e w5 hgr; obtain ⟨rfl, rfl⟩ : e = .returned (.pointer none) ∧ w3 = w5 := (by rcases hgr with ⟨_, a, b⟩ | ⟨a, _⟩; exact ⟨a, b.symm⟩; exact absurd H256.out (by omega)); clear hgr; go_frame; clear mk K2))
    go_ret
    exact ⟨rfl, F3.out⟩
  have H256 := Lib.hid (show F.length ≤ 256 by omega)
  clear h256
  obtain ⟨k, hk⟩ : ∃ k, k = a % 41 := ⟨_, rfl⟩
  have k41 : k < 41 := by omega
  have e1 : (a : Int) % 41 = (k : Int) := by omega
  have e2 : Int.tmod (a : Int) 41 = (k : Int) := by rw [Int.tmod_eq_emod_of_nonneg (by omega)]; exact e1
  clear hk
  go_enter Tryd.func6, Tryd.ntmps6
  have K0 := Lib.hid True.intro
  have K1 := Lib.hid True.intro
  have K2 := Lib.hid True.intro
  go_wp2_with (first | (have mk := K0.out; go_at_call 10; refine AL.out.mono ?_; rintro e w2 ⟨rfl, f2⟩; have F2 := Lib.hid f2; clear f2; go_frame; clear mk K0) | (have mk := K1.out; go_at_call 11; refine (GT.out w2 F2.out).mono ?_; rintro e w4 ⟨rfl, f3⟩; rw [EG.out]; have F4 := Lib.hid (F2.out.trans0 f3); clear f3; go_frame; clear mk K1) | (have mk := K2.out; go_at_call 13; refine (GW.out w4 F4.out).mono ?_; intro e w5 hgr; obtain ⟨p, V, S, bs, rfl, hgd, hbs⟩ : ∃ p V S bs, e = .returned (.pointer (some ⟨p, 0, none⟩)) ∧ Gd w4 w5 p V (putC [] (payC hash0 F)) S bs ∧ bs.length ≤ L.length := (by rcases hgr with ⟨a, _⟩ | ⟨_, a⟩; exact absurd H256.out (by omega); exact a); have GD := Lib.hid hgd; have BS := Lib.hid hbs; have F45 := Lib.hid hgd.fr; clear hgr hgd hbs; go_frame; clear mk K2))
  have B200 := Lib.hid (show bs.length ≤ 40 by have := BS.out; omega)
  have HSL := Lib.hid (GD.out.slen (by have := B200.out; omega))
  have HOK := Lib.hid GD.out.hok
  have COI := Lib.hid (coinsn_any GD.out.cn (by have := HSL.out; omega))
  have HEI := Lib.hid (fun (w' : World) (f : Fr No w5 w') => heightn_any (GD.out.fr0 f).cn)
  have VHI := Lib.hid GD.out.hi
  generalize putC [] (payC hash0 F) = S0 at *
  have K0 := Lib.hid True.intro
  go_wp2_with (first | (have mk := K0.out; go_at_call 19; refine COI.out.mono ?_; rintro e w6 ⟨cv, rfl, o6, f6⟩; have O6 := Lib.hid o6; have F6 := Lib.hid f6; obtain ⟨ca, cc, hcv⟩ := o6.slice.arg.form; subst hcv; clear o6 f6; go_frame; clear mk K0))
  go_upto_block 0 with (go_at_call 18; refine (HEI.out w6 F6.out).mono ?_; rintro e w6' ⟨rfl, hw⟩; rw [hw]; clear hw)
  have FW6 := Lib.hid (show Fr No w w6 from (F4.out.trans0 F45.out).trans0 F6.out)
  have b40 := B200.out
  have G0 := Lib.hid (show SrtC S0 ∧ (∀ c ∈ S0, c.ok) ∧ S0.length ≤ 300 from ⟨GD.out.srt0, GD.out.ok0, GD.out.len0⟩)
  obtain ⟨css5, hx5⟩ := GD.out.x
  have X5 := Lib.hid hx5
  have D6 := Lib.hid (show ∀ (i : Nat) (d : DoneD) (cs : List Value), bs[i]? = some d → css5[i]? = some cs → Kept (fun j => V j ∨ w6.heap.size ≤ j) w6 (fun w => DoneQ w d cs) from fun i d cs h1 h2 => (hx5.data i d cs h1 h2).step F6.out.of0 (fun j hj e => e.resolve_right (by have := F6.out.size; omega)))
  clear hx5
  go_cut [10] from 32 to 45 (fun s10 wc => OffOk w4 w6 p S0 bs S V css5 k s10 wc)
  case first =>
    go_wp2_with fail
    go_loopw [10, 32] (fun ov iv wr => ∃ n : Nat, iv = .int .i64 n ∧ n ≤ k ∧ OffOk w4 w6 p S0 bs S V css5 n ov wr) (fun _ iv _ => k - (intOf iv).toNat)
    case atStart => exact ⟨0, rfl, Nat.zero_le _, V, bs, S, [], [], css5, X5.out.fr0 F6.out, ⟨rfl, rfl⟩, KRow.nil _ _ _ _ _ _, (fun _ h => h), Fr.refl _ _, by simp, Nat.le_refl _, ⟨[], by simp⟩, [], by simp⟩
    case round =>
      obtain ⟨n, rfl, hn, Vc, cur, Sc, off, css, cssc, hgd, hre, hkr, hvl, fr, hlen, hon, hpre⟩ := hrel
      have GC := Lib.hid hgd
      have RE := Lib.hid hre
      have KR := Lib.hid hkr
      have VL := Lib.hid hvl
      have FR := Lib.hid fr
      have LEN := Lib.hid (And.intro hlen hon)
      have PRE := Lib.hid hpre
      obtain ⟨oa, oc, hov⟩ := hkr.form
      subst hov
      clear hgd hre hkr hvl fr hlen hon hpre
      by_cases hlt : n < k
      · have i1 : (n : Int) < (k : Int) := by omega
        by_cases hb0 : cur = []
        · have DC := Lib.hid (disc_g0 (hb0 ▸ GC.out.gd G0.out.1 G0.out.2.1 G0.out.2.2))
          have HB0 := Lib.hid hb0
          clear hb0
          have K0 := Lib.hid True.intro
          have K1 := Lib.hid True.intro
          go_wp2_with (first | (have mk := K0.out; go_at_call 20; refine DC.out.mono ?_; rintro e w7 ⟨rfl, f7⟩; have F7 := Lib.hid (f7.trans0 ((Fr.refl No w7).alloc (.cells blkz.toArray 27))); clear f7; go_frame; clear mk K0) | ((with_reducible refine at_store ?_); have mk := K1.out; refine wpList_done rfl (exec_store_new (w := w7) (ty := 27) (cs := blkz) rfl rfl rfl rfl infoBlk blkz_one) ?_; go_frame; clear mk K1))
          go_meet
          case rel => exact ⟨Vc, cur, Sc, off, css, cssc, GC.out.fr0 F7.out, RE.out, KR.out.fr0 F7.out, VL.out, FR.out.trans0 F7.out, LEN.out.1, by have := LEN.out.2; omega, PRE.out⟩
        · obtain ⟨c0, d, hcd⟩ : ∃ c0 d, cur = c0 ++ [d] := ⟨cur.dropLast, cur.getLast hb0, (List.dropLast_concat_getLast hb0).symm⟩
          subst hcd
          clear hb0
          have CL := Lib.hid (show off.length + (c0.length + 1) = bs.length from by have := LEN.out.1; rw [List.length_append] at this; exact this)
          have OFL := Lib.hid (show off.length ≤ 40 by have := CL.out; omega)
          have DC := Lib.hid (disc_x GC.out G0.out.1 G0.out.2.1 G0.out.2.2 (by have := CL.out; omega))
          have RST := Lib.hid (redo_step GC.out.1 G0.out.1 G0.out.2.1 RE.out)
          have K0 := Lib.hid True.intro
          have K1 := Lib.hid True.intro
          have K2 := Lib.hid True.intro
          have K3 := Lib.hid True.intro
          have K4 := Lib.hid True.intro
          go_wp2_with (first | (have mk := K0.out; go_at_call 20; refine DC.out.mono ?_; rintro e w7 ⟨bcs, V7, css7, tl, rfl, f7, hv7, hg7, hk7, hcs⟩; obtain ⟨ua, uc, va, vc, hbc⟩ := hk7.now.form; subst hbc; have F7 := Lib.hid f7; have G7 := Lib.hid hg7; have HV7 := Lib.hid hv7; have HCS := Lib.hid hcs; have FA := Lib.hid ((Fr.refl No w7).alloc (.cells #[.int .u64 d.blk.tag, .slice ua d.blk.pay.length uc, .slice va d.blk.txs.length vc] 27)); have RA := Lib.hid (row3_new w7 (.int .u64 d.blk.tag) (.slice ua d.blk.pay.length uc) (.slice va d.blk.txs.length vc) 27).2.2.2; clear f7 hg7 hk7 hv7 hcs; go_frame; clear mk K0) | ((with_reducible refine at_store ?_); have mk := K1.out; refine wpList_done rfl (exec_store_new (w := w7) (ty := 27) (cs := [.int .u64 d.blk.tag, .slice ua d.blk.pay.length uc, .slice va d.blk.txs.length vc]) rfl rfl rfl rfl infoBlk (one3 rfl rfl rfl)) ?_; generalize w7.alloc (.cells #[.int .u64 d.blk.tag, .slice ua d.blk.pay.length uc, .slice va d.blk.txs.length vc] 27) = wA at *; have KA := Lib.hid (((KR.out.fr F7.out (fun j _ e => e) (fun j hj e => by have := (KR.out.lt j hj).1; have := VHI.out j (VL.out j e); have := F6.out.size; omega)).fr0 FA.out).vary (V' := V7) (fun j _ e => HV7.out j e)); have FRA := Lib.hid (show Fr (fun j => V j ∨ w6.heap.size ≤ j) w6 wA from (FR.out.trans F7.out (fun j _ e => .inl (VL.out j e))).trans0 FA.out); have KC := Lib.hid (show Kept (fun j => V7 j ∨ (Value.slice oa off.length oc).ownBlock = some j) wA (fun w => BlkQ w d.blk [.int .u64 d.blk.tag, .slice ua d.blk.pay.length uc, .slice va d.blk.txs.length vc]) from (((D6.out c0.length d _ (by obtain ⟨r, hr⟩ := PRE.out.1; rw [hr]; exact mid_at c0 d r rfl) (by obtain ⟨r, hr⟩ := PRE.out.2; rw [hr, HCS.out]; exact mid_at css7 _ r G7.out.cl)).imp (fun w' _ h => done_blk h rfl)).step FRA.out (fun j hj e => e.elim (fun e => .inl (VL.out j (HV7.out j e))) (fun e => .inr (KR.out.lt j e).1)))); obtain ⟨v6, w8, b1, b2, b3, b5⟩ := KA.out.append (P := Tryd.prog) (t := 67) (ty2 := 67) (bytes := 56) undBlks infoBlkZ rfl (by decide) KC.out rfl (one3 rfl rfl rfl) (by have := OFL.out; omega) (by have := OFL.out; unfold maxLen; omega) FRA.out.size; obtain ⟨va6, vc6, hv6⟩ := b2.form; rw [List.length_append] at hv6; simp only [List.length_singleton] at hv6; subst hv6; have B1 := Lib.hid b1; have K8 := Lib.hid b2; have F8 := Lib.hid b3; clear b1 b2 b3 b5; go_frame; clear mk K1) | ((with_reducible refine at_list ?_); have mk := K2.out; refine wpList_value rfl (exec_load (ty := 27) rfl rfl RA.out uB rB infoBlk) ?_; go_frame; clear mk K2) | ((with_reducible refine at_list ?_); have mk := K3.out; refine wpList_value rfl (exec_buildSliceA (t := 67) rfl rfl undBlks infoBlkZ2 rfl (by decide) (by decide) rfl) ?_; go_frame; clear mk K3) | ((with_reducible refine at_list ?_); have mk := K4.out; at_builtin; refine wpList_append_run rfl rfl rfl rfl B1.out ?_; go_frame; clear mk K4))
          have NV := Lib.hid (show ∀ j, V7 j → ¬ (Value.slice oa off.length oc).ownBlock = some j from fun j hj e => by have := (KR.out.lt j e).1; have := VHI.out j (VL.out j (HV7.out j hj)); have := F6.out.size; omega)
          have FR8 := Lib.hid (show Fr (fun j => V j ∨ w6.heap.size ≤ j) w6 w8 from FRA.out.trans F8.out (fun j _ e => .inr (KR.out.lt j e).1))
          have G8 := Lib.hid ((G7.out.fr0 FA.out).frV F8.out (fun j hj e => NV.out j hj e) (fun j e => by have := (KR.out.lt j e).1; have := F45.out.size; have := F6.out.size; omega) (fun i d' cs h1 h2 => (D6.out i d' cs (by obtain ⟨r, hr⟩ := PRE.out.1; rw [hr, List.append_assoc]; rw [List.getElem?_append_left (List.getElem?_eq_some_iff.1 h1).1]; exact h1) (by obtain ⟨r, hr⟩ := PRE.out.2; rw [hr, HCS.out, List.append_assoc, List.getElem?_append_left (List.getElem?_eq_some_iff.1 h2).1]; exact h2)).step FR8.out (fun j _ e => .inl (VL.out j (HV7.out j e)))))
          go_roundw
          case rel => exact ⟨n + 1, by go_num, by omega, V7, c0, _, off ++ [d.blk], _, css7, G8.out, by rw [List.reverse_append]; exact RST.out, K8.out, (fun j hj => VL.out j (HV7.out j hj)), FR8.out, by have := CL.out; rw [List.length_append]; simp; omega, by have := LEN.out.2; rw [List.length_append]; simp; omega, by obtain ⟨r, hr⟩ := PRE.out.1; exact ⟨[d] ++ r, by rw [hr]; simp⟩, by obtain ⟨r, hr⟩ := PRE.out.2; exact ⟨_, by rw [hr, HCS.out, List.append_assoc]⟩⟩
          case measure => simp [intOf]; omega
      · have i1 : ¬ (n : Int) < (k : Int) := by omega
        go_wp2_with fail
        go_meet
        case rel => exact ⟨Vc, cur, Sc, off, css, cssc, GC.out, RE.out, KR.out, VL.out, FR.out, LEN.out.1, by have := LEN.out.2; omega, PRE.out⟩
  case rest =>
    rename World => wc
    obtain ⟨Vc, cur, Sc, off, css, cssc, hgd, hre, hkr, hvl, fr, hlen, hon, hpre⟩ := hcut
    have GC := Lib.hid hgd
    have RE := Lib.hid hre
    have KR := Lib.hid hkr
    have VL := Lib.hid hvl
    have FR := Lib.hid fr
    have LEN := Lib.hid (And.intro hlen hon)
    have PRE := Lib.hid hpre
    obtain ⟨oa, oc, hov⟩ := hkr.form
    subst hov
    clear hgd hre hkr hvl fr hlen hon hpre
    have GG := Lib.hid (GC.out.gd G0.out.1 G0.out.2.1 G0.out.2.2)
    have OC := Lib.hid (ownsRow_keep O6.out FR.out (fun j hj e => e.elim (fun e => by have := (O6.out.lt j hj).1; have := VHI.out j e; omega) (fun e => by have := (O6.out.lt j hj).2; omega)))
    have NO := Lib.hid (show ∀ j, (Value.slice oa off.length oc).ownBlock = some j → ¬ Vc j from fun j hj e => by have := (KR.out.lt j hj).1; have := VHI.out j (VL.out j e); have := F6.out.size; omega)
    have LEN2 := Lib.hid (show off.length ≤ 40 from by have := LEN.out.1; omega)
    have ol40 := LEN2.out
    go_wp2_with fail
    go_loopw [48] (fun iv wr => ∃ (n : Nat) (V2 : Nat → Prop) (cur2 : List DoneD) (S2 : List CoinD), iv = .int .i64 n ∧ n ≤ off.length ∧ Gd w4 wr p V2 S0 S2 cur2 ∧ Redo bs S (off.reverse.drop n) cur2 S2 ∧ (∀ j, V2 j → Vc j ∨ wc.heap.size ≤ j) ∧ Fr Vc wc wr ∧ cur2.length ≤ cur.length + n) (fun iv _ => off.length - (intOf iv).toNat)
    case atStart => exact ⟨0, Vc, cur, Sc, rfl, Nat.zero_le _, GG.out, RE.out, fun j hj => .inl hj, Fr.refl _ _, Nat.le_refl _⟩
    case round =>
      obtain ⟨n, V2, cur2, S2, rfl, hn, hgd, hre, hv2, fr, hcl⟩ := hrel
      have G2 := Lib.hid hgd
      have R2 := Lib.hid hre
      have HV2 := Lib.hid hv2
      have FQ := Lib.hid fr
      have CL2 := Lib.hid (show cur2.length ≤ 200 by have := LEN.out.1; omega)
      have CL3 := Lib.hid hcl
      clear hgd hre hv2 fr hcl
      by_cases hlt : n < off.length
      · have i1 : (n : Int) < (off.length : Int) := by omega
        obtain ⟨m, hm⟩ : ∃ m, off.length = m + 1 + n := ⟨off.length - 1 - n, by omega⟩
        have e3 : (off.length : Int) - 1 - (n : Int) = (m : Int) := by omega
        have i3 : (m : Int) < (off.length : Int) := by omega
        obtain ⟨b, hx⟩ : ∃ x, off[m]? = some x := ⟨_, List.getElem?_eq_getElem (by omega)⟩
        have HR := Lib.hid (show off.reverse.drop n = b :: off.reverse.drop (n + 1) from by
          have h1 : off.reverse[n]? = some b := by rw [List.getElem?_reverse (by omega)]; rw [show off.length - 1 - n = m by omega]; exact hx
          rw [List.drop_eq_getElem_cons (List.getElem?_eq_some_iff.1 h1).1, (List.getElem?_eq_some_iff.1 h1).2])
        have RB := R2.out
        rw [HR.out] at RB
        have KQ := Lib.hid (KR.out.fr FQ.out (fun j _ e => e) (fun j hj e => NO.out j hj e))
        obtain ⟨cs, hcs⟩ : ∃ x, css[m]? = some x := ⟨_, List.getElem?_eq_getElem (by rw [KR.out.cl]; omega)⟩
        obtain ⟨g, cap, hvv, hr, -⟩ := own_elem (f := id) (k := 3) (by decide) KQ.out.ck KQ.out.row hcs
        obtain ⟨rfl, -, rfl⟩ := slice_eq hvv
        have BQ := Lib.hid (KQ.out.data m b cs hx hcs).now
        obtain ⟨ua, uc, va, vc, rfl⟩ := BQ.out.form
        have R1 := Lib.hid (show wr.rangeAt g (m * 3) [.int .u64 b.tag, .slice ua b.pay.length uc, .slice va b.txs.length vc] from hr)
        have CON := Lib.hid (conn_g (HG.out.keep0 F4.out) G2.out CL2.out BQ.out)
        have EZ := Lib.hid RB.1
        have RN := Lib.hid RB.2
        clear hr hvv hx hcs RB hm
        have K0 := Lib.hid True.intro
        have K1 := Lib.hid True.intro
        go_wp2_with (first | ((with_reducible refine at_dst 59 ?_); have mk := K0.out; refine wpList_value (o := ⟨some 59, _, _, _, _, _⟩) rfl (exec_load (ty := 27) rfl rfl R1.out uB rB infoBlk) ?_; go_frame; clear mk K0) | (have mk := K1.out; go_at_call 15; refine CON.out.mono ?_; rintro e w7 ⟨rfl, f7, V7, hv7, hg7⟩; rw [EZ.out]; have G7 := Lib.hid hg7; have F7 := Lib.hid (show Fr Vc wc w7 from FQ.out.trans f7 (fun j hj e => (HV2.out j e).resolve_right (by omega))); have HV7 := Lib.hid (show ∀ j, V7 j → Vc j ∨ wc.heap.size ≤ j from fun j hj => (hv7 j hj).elim (HV2.out j) (fun e => .inr (by have := FQ.out.size; omega))); clear hg7 f7 hv7; go_frame; clear mk K1))
        go_roundw
        case rel => exact ⟨n + 1, V7, _, _, by go_num, by omega, G7.out, RN.out, HV7.out, F7.out, by
          have := CL3.out
          unfold connB
          split
          · rw [List.length_append]; simp; omega
          · omega⟩
        case measure => simp [intOf]; omega
      · have hne : n = off.length := by omega
        have i1 : ¬ (n : Int) < (off.length : Int) := by omega
        have RB := R2.out
        rw [hne, List.drop_eq_nil_of_le (by rw [List.length_reverse]; exact Nat.le_refl _)] at RB
        obtain ⟨hcb, hsb⟩ := RB
        have G3 := Lib.hid (show Gd w4 wr p V2 S0 S bs from by rw [← hcb, ← hsb]; exact G2.out)
        have OR := Lib.hid (ownsRow_keep OC.out FQ.out (fun j hj e => by have := (O6.out.lt j hj).1; have := VHI.out j (VL.out j e); omega))
        clear hcb hsb hne G2
        have K0 := Lib.hid True.intro
        have K1 := Lib.hid True.intro
        have K2 := Lib.hid True.intro
        go_wp2_with (first | (have mk := K0.out; go_at_call 18; refine (heightn_any G3.out.cn).mono ?_; rintro e wG' ⟨rfl, hw⟩; rw [hw]; clear hw; go_frame; clear mk K0) | (have mk := K1.out; go_at_call 19; refine (coinsn_any G3.out.cn (by have := HSL.out; omega)).mono ?_; rintro e wH ⟨cv8, rfl, o8, f8⟩; have SC := Lib.hid (sameCoins_any wH (show CoinsIs wH cv8 S from ⟨HOK.out.ok, o8.slice.arg⟩) (show CoinsIs wH (.slice ca S.length cc) S from ⟨HOK.out.ok, (ownsRow_keep OR.out f8 (fun _ _ => _root_.id)).slice.arg⟩) (by have := HSL.out; omega) (by have := HSL.out; omega)); have GH := Lib.hid (G3.out.fr0 f8); clear o8 f8; go_frame; clear mk K1) | (have mk := K2.out; go_at_call 21; refine SC.out.mono ?_; rintro e wI ⟨bb, rfl, hbb, f9⟩; obtain rfl : bb = true := hbb.2 rfl; have GI := Lib.hid (GH.out.fr0 f9); clear f9 hbb; go_frame; clear mk K2))
        go_ret
        exact ⟨rfl, F4.out.trans0 GI.out.fr⟩
end Go.Proofs.YtmpamcnlineceaaDoor
