/- StemFluffs: the walk. -/
import Derived.Test.YtdkkjchclkjleaaGreatDoorSG47
import Derived.Test.YtdkkjchclkjleaaGreatDoorSG27
set_option linter.unusedVariables false
set_option linter.unusedSimpArgs false
set_option linter.unnecessarySimpa false
set_option linter.all false
namespace Go.Proofs.YtdkkjchclkjleaaGreatDoor
open Go Go.RowKit Go.Maps Go.MapKept
theorem zjL {a : Nat} (h : a ≤ 255) : IntKind.i64.wrap (a : Int) = a := IntWalk.i64_in _ (by omega)
set_option maxRecDepth 20000 in
set_option maxHeartbeats 16000000 in
theorem zdn {w : World} (hg : Jx w) {v1 v2 : Value} {first : List yF} {l : List TxD} (hl : xz w v1 first) (hx : zgT w v2 l) {a : Nat} (ha : a ≤ 255) :
  Calls Tryz.prog 3 #[v1, v2, .int .u8 a] w fun e w' => e = .returned (.bool true) ∧ Fr No w w' := by
 obtain ⟨dT, uT, rT⟩ := vw
 obtain ⟨dH, uH, rH⟩ := yj
 have zT := show ∀ w, (zeroValue 34).run Tryz.prog w = .ok (.agg zfx.toArray) w from vM
 have zh := y6
 have zw := zaS
 obtain ⟨fa, fc, rfl⟩ := hl.2.form
 obtain ⟨la, lc, rfl⟩ := hx.form
 have HG := Hd hg
 have HL := Hd hl
 have HX := Hd hx
 have HAL := Hd (zcJ hg)
 clear hg hl hx
 by_cases h1 : 256 < first.length
 ·have j1 : (256 : Int) < (first.length : Int) := by omega
  clear h1
  go_enter Tryz.func3, Tryz.ntmps3
  have K0 := tru
  go_wp2_with (first | (clear K0; go_at_call 9; refine HAL.out.mono ?_; rintro e w1 ⟨rfl, f1⟩; have F1 := Hd f1; clear f1; go_frame))
  go_ret
  exact ⟨rfl, F1.out⟩
 have j1 : ¬ (256 : Int) < (first.length : Int) := by omega
 by_cases h2 : 40 < l.length
 ·have j2 : (40 : Int) < (l.length : Int) := by omega
  clear h1 h2
  go_enter Tryz.func3, Tryz.ntmps3
  have K0 := tru
  go_wp2_with (first | (clear K0; go_at_call 9; refine HAL.out.mono ?_; rintro e w1 ⟨rfl, f1⟩; have F1 := Hd f1; clear f1; go_frame))
  go_ret
  exact ⟨rfl, F1.out⟩
 have j2 : ¬ (40 : Int) < (l.length : Int) := by omega
 have l40 : l.length ≤ 40 := by omega
 have L256 := Hd (show first.length ≤ 256 by omega)
 clear h1 h2
 go_enter Tryz.func3, Tryz.ntmps3
 have K0 := tru
 have K1 := tru
 have K2 := tru
 go_wp2_with (first | (clear K0; go_at_call 9; refine HAL.out.mono ?_; rintro e w1 ⟨rfl, f1⟩; have F1 := Hd f1; clear f1; go_frame) | (clear K1; go_at_call 10; refine (zfr F1.out (HL.out.keep F1.out) L256.out).mono ?_; rintro e w2 ⟨pc, pp, ps, T, rfl, hws, hlo, f2⟩; have W2 := Hd hws; have TLO := Hd hlo; have F2 := Hd (F1.out.trans0 f2); clear hws hlo f2; go_frame) | ((with_reducible refine zA ?_); have mk := K2.out; refine zq rfl (zm (w := w2) (ty := 29) (cs := zev pc pp ps) rfl rfl rfl rfl XZ (JN rfl rfl rfl)) ?_; generalize hc7 : w2.heap.size = c7 at *; have B3 := Hd (yL w2 (.cells (zev pc pp ps).toArray 29) hc7.symm); have FF := Hd ((Fr.refl No w2).alloc (.cells (zev pc pp ps).toArray 29)); generalize w2.alloc (.cells (zev pc pp ps).toArray 29) = w3 at *; have FL3 := Hd (show FlA w w3 c7 pc pp ps T T 0 ⟨zg0 first, zg0 first, [], [], fun _ => []⟩ from ⟨W2.out.fr0 FF.out, fun j hj => by have := TLO.out j hj; have := F1.out.size; omega, fun e => by have := (W2.out.facts.1 _ e).2.1; omega, B3.out⟩); go_frame))
 generalize hS : zg0 first = S at *
 go_loopw [40] (fun iv wr => ∃ (k : Nat) (T X : Nat → Prop) (Q : StQ), iv = .int .i64 k ∧ k ≤ l.length ∧ FlA w wr c7 pc pp ps T X 0 ⟨S, S, [], [], Q⟩ ∧ J8 S (Q 5)) (fun iv _ => l.length - (intOf iv).toNat)
 case atStart => exact ⟨0, _, _, _, rfl, Nat.zero_le _, FL3.out, .nil⟩
 case round =>
  obtain ⟨k, T, X, Q, rfl, hk, hfl, hsk⟩ := hrel
  have FL := Hd hfl
  have SK := Hd hsk
  clear hfl hsk
  by_cases hlt : k < l.length
  ·have i1 : (k : Int) < (l.length : Int) := by omega
   obtain ⟨t, ht⟩ : ∃ t, l[k]? = some t := ⟨_, List.getElem?_eq_getElem hlt⟩
   obtain ⟨bb, off, cap, ts, hvv, hr, hq⟩ := HX.out.at_ ht
   cases hvv
   obtain ⟨ia, ic, oa, oc, rfl⟩ := hq.form
   have HQ := Hd hq
   have R1 := Hd (zb hr FL.out.fr id)
   have FA := Hd ((Fr.refl No wr).alloc (.cells #[.int .u32 t.ver, .slice ia t.ins.length ic, .slice oa t.outs.length oc] 34))
   have RN := Hd (qZ wr t.ver (.slice ia t.ins.length ic) (.slice oa t.outs.length oc)).2.2.2
   clear ht hr hq
   cases hh : hvT t with
   | true =>
    have HV := Hd (fun w' (f : Fr No w w') => Qk w' (HQ.out.keep f))
    unfold zjp at HV
    rw [hh] at HV
    clear hh
    have K0 := tru
    have K1 := tru
    have K2 := tru
    have K3 := tru
    go_wp2_with (first | ((with_reducible refine zn ?_); have mk := K0.out; refine zd rfl (zf (ty := 34) rfl rfl R1.out uT rT zR) ?_; go_frame) | ((with_reducible refine zA ?_); have mk := K1.out; refine zq rfl (zm (w := wr) (ty := 34) (cs := [.int .u32 t.ver, .slice ia t.ins.length ic, .slice oa t.outs.length oc]) rfl rfl rfl rfl zR (JN rfl rfl rfl)) ?_; go_frame) | ((with_reducible refine zn ?_); have mk := K2.out; refine zd rfl (zf (ty := 34) rfl rfl RN.out uT rT zR) ?_; go_frame) | (clear K3; go_at_call 11; refine (HV.out _ (FL.out.fr.trans0 FA.out)).mono ?_; rintro e w4 ⟨rfl, f4⟩; have F4 := Hd f4; clear f4; go_frame))
    go_ret
    exact ⟨rfl, (FL.out.fr.trans0 FA.out).trans0 F4.out⟩
   | false =>
    have HV := Hd (fun w' (f : Fr No w w') => Qk w' (HQ.out.keep f))
    unfold zjp at HV
    rw [hh] at HV
    clear hh
    have K0 := tru
    have K1 := tru
    have K2 := tru
    have K3 := tru
    have K4 := tru
    have K5 := tru
    go_wp2_with (first | ((with_reducible refine zn ?_); have mk := K0.out; refine zd rfl (zf (ty := 34) rfl rfl R1.out uT rT zR) ?_; go_frame) | ((with_reducible refine zA ?_); have mk := K1.out; refine zq rfl (zm (w := wr) (ty := 34) (cs := [.int .u32 t.ver, .slice ia t.ins.length ic, .slice oa t.outs.length oc]) rfl rfl rfl rfl zR (JN rfl rfl rfl)) ?_; go_frame) | ((with_reducible refine zn ?_); have mk := K2.out; refine zd rfl (zf (ty := 34) rfl rfl RN.out uT rT zR) ?_; go_frame) | (clear K3; go_at_call 11; refine (HV.out _ (FL.out.fr.trans0 FA.out)).mono ?_; rintro e w4 ⟨rfl, f4⟩; have FL4 := Hd (FL.out.fr0 (FA.out.trans0 f4)); have R4 := Hd (zb RN.out f4 id); clear f4; have c0 := FL4.out.cells.1; have c1 := FL4.out.cells.2.1; have c2 := FL4.out.cells.2.2; go_frame) | ((with_reducible refine zn ?_); have mk := K4.out; refine zd rfl (zf (ty := 34) rfl rfl R4.out uT rT zR) ?_; go_frame) | (clear K5; go_at_call 12; refine (XB (HG.out.keep0 FL4.out.fr) FL4.out.1 5 (FL4.out.kept HQ.out)).mono ?_; rintro e w5 ⟨rfl, T5, X5, n5⟩; rw [zjs] at n5; have FL5 := Hd (FL4.out.next n5); clear n5 c0 c1 c2; go_frame))
    go_roundw
    case rel => exact ⟨k + 1, _, _, _, by go_num, by omega, FL5.out, by rw [xh]; exact SK.out.keep t⟩
    case measure => simp [intOf]; omega
  ·have i1 : ¬ (k : Int) < (l.length : Int) := by omega
   have c2 := FL.out.cells.2.2
   have VAL := Hd SK.out.val
   have QL := Hd (show (Q 5).length ≤ 4 from SK.out.val.len)
   have ql := QL.out
   by_cases hz : (Q 5).length = 0
   ·have hq0 : (Q 5) = [] := List.eq_nil_of_length_eq_zero hz
    have A5 := Hd (zdw FL.out.1)
    dsimp only at A5
    rw [hz] at A5
    clear hq0 hz
    have K0 := tru
    go_wp2_with (first | (clear K0; go_at_call 13; refine A5.out.mono ?_; rintro e w6 ⟨wa, wc, rfl, ho6, f6⟩; have F6 := Hd (FL.out.fr.trans0 f6); clear ho6 f6; go_frame))
    go_ret
    exact ⟨rfl, F6.out⟩
   ·have A5 := Hd (zdw FL.out.1)
    dsimp only at A5
    have iz : ¬ ((Q 5).length : Int) = 0 := by omega
    have iz2 : (((Q 5).length : Int) == 0) = false := by simpa using hz
    have i8 := zjL ha
    have IDS := Hd (FL.out.1.ids 5)
    dsimp only at IDS
    have hm : a % (Q 5).length < (Q 5).length := Nat.mod_lt _ (by omega)
    have hmod : Int.tmod (a : Int) ((Q 5).length : Int) = ((a % (Q 5).length : Nat) : Int) := rfl
    obtain ⟨e0, he0⟩ : ∃ e0, (Q 5)[a % (Q 5).length]? = some e0 := ⟨_, List.getElem?_eq_getElem hm⟩
    obtain ⟨x, hxe⟩ : ∃ x, e0.id = x := ⟨_, rfl⟩
    have hxi : (yc (Q 5))[a % (Q 5).length]? = some x := by unfold yc; rw [List.getElem?_map, he0, ← hxe]; rfl
    have XIN := Hd (List.mem_of_getElem? hxi)
    have XOK := Hd (IDS.out x XIN.out)
    have XL := Hd (zE XOK.out)
    have SLN := Hd (xk (Q 5))
    have XAT := Hd hxi
    obtain ⟨PT, hPT⟩ := zcv VAL.out.nd (List.mem_of_getElem? he0)
    rw [hxe] at hPT
    have HPT := Hd hPT
    have EID := Hd hxe
    clear he0 hxi hxe hPT hz
    generalize hmm : a % (Q 5).length = mm at *
    have j3 : (0 : Int) ≤ (mm : Int) := by omega
    have j4 : (mm : Int) < ((Q 5).length : Int) := by omega
    clear hmm
    have K0 := tru
    have K1 := tru
    have K2 := tru
    have K3 := tru
    have K4 := tru
    go_wp2_with (first | (clear K0; go_at_call 13; refine A5.out.mono ?_; rintro e w6 ⟨wa, wc, rfl, ho6, f6⟩; have FL6 := Hd (FL.out.fr0 f6); have WR6 := Hd (jb.new FL.out.1 ho6 (Nat.le_refl _)); clear ho6 f6; obtain ⟨g, cap, hvv, hr1, -⟩ := jP (f := zj) (by decide) (fun y hy => zE (IDS.out y hy)) WR6.out.1 XAT.out; cases hvv; have R1 := Hd hr1; clear hr1; go_frame) | ((with_reducible refine zn ?_); have mk := K1.out; refine zd rfl (zf (ty := 41) rfl rfl R1.out uH rH (by rw [XL.out]; exact zr)) ?_; go_frame) | ((with_reducible refine zA ?_); have mk := K2.out; refine zq rfl (zm (w := w6) (ty := 41) (cs := zj x) rfl rfl rfl (by rw [XL.out]; rfl) (by rw [XL.out]; exact zr) zV) ?_; generalize hc11 : w6.heap.size = c11 at *; have FF := Hd ((Fr.refl No w6).alloc (.cells (zj x).toArray 41)); have XC := Hd (show Y3 T (w6.alloc (.cells (zj x).toArray 41)) c11 (zj x) from ⟨by have := zC w6 (zj x) 41; rw [hc11] at this; exact this, fun e => by have := (FL6.out.1.facts.1 _ e).2.1; omega, by simp [hc11]⟩); generalize w6.alloc (.cells (zj x).toArray 41) = w7 at *; have FL7 := Hd (FL6.out.fr0 FF.out); have WR7 := Hd (WR6.out.fr0 FF.out); clear FF; have c2 := FL7.out.cells.2.2; have XC1 := Hd XC.out.1; go_frame) | ((with_reducible refine zn ?_); have mk := K3.out; refine zd rfl (zf (ty := 41) rfl rfl XC1.out uH rH (by rw [XL.out]; exact zr)) ?_; go_frame) | (clear K4; go_at_call 14; refine (ziE FL7.out.1 XIN.out).mono ?_; rintro e w8 ⟨ta, tcc, tc, rfl, hrow, hkp, T8, t8, n8⟩; dsimp only at hrow hkp n8; have TR8 := Hd (show jb T8 w8 w7.heap.size 34 3 (.slice ta (yC (Q 5) x).length tcc) (yC (Q 5) x).length ((yC (Q 5) x).flatMap tc) from ⟨hrow, fun j hj e => by have := (hrow.lt j hj).1; have := (FL7.out.1.facts.1 _ (t8 j e)).2.1; omega⟩); have KP8 := Hd hkp; have FL8 := Hd (FL7.out.next n8); have WR8 := Hd (WR7.out.next n8); have XC8 := Hd (XC.out.next n8); have TLN := Hd (show (yC (Q 5) x).length ≤ 4 from Nat.le_trans (List.length_filter_le _ _) QL.out); have TPS := Hd (show 0 < (yC (Q 5) x).length from by rw [HPT.out]; simp); clear hrow hkp n8; have tps := TPS.out; have tln := TLN.out; have tz : ¬ ((yC (Q 5) x).length : Int) = 0 := (by omega); have tz2 : (((yC (Q 5) x).length : Int) == 0) = false := (by simpa using tz); go_frame))
    have FA8 := Hd (fun (k : Nat) (e : StE) (he : (yC (Q 5) x)[k]? = some e) => zhb SK.out x he)
    have RID := Hd (zg1 (l := Q 5) x)
    have RLN := Hd (Vi (Q 5) x)
    have RNO := Hd (zgX XIN.out)
    have KSUB := Hd (show ∀ e ∈ yC (Q 5) x, e ∈ Q 5 from fun e he => (List.mem_filter.1 he).1)
    have TRZ := Hd (show jb T8 w8 0 34 3 (.slice ta (yC (Q 5) x).length tcc) (yC (Q 5) x).length ((yC (Q 5) x).flatMap tc) from ⟨yU TR8.out.1 (Nat.zero_le _), TR8.out.2⟩)
    have WRZ := Hd (show jb T8 w8 0 41 32 (.slice (some ⟨g, 0, none⟩) (Q 5).length wc) (Q 5).length ((yc (Q 5)).flatMap zj) from ⟨yU WR8.out.1 (Nat.zero_le _), WR8.out.2⟩)
    clear TR8 WR8
    generalize hK : yC (Q 5) x = K at *
    clear hK
    have ID8 := Hd (show ∀ e ∈ K, zQ e.id from fun e he => IDS.out e.id (List.mem_map.2 ⟨e, KSUB.out e he, rfl⟩))
    have L3 := Hd (show ∀ e ∈ K, (tc e).length = 3 from fun e he => (QS (KP8.out e he).now).1)
    have GOK := Hd (show FlA w w8 c7 pc pp ps T8 X 0 ⟨S, S, [], jd S K 0, qU Q 5 (vn (Q 5) x)⟩ from by rw [Qh]; exact FL8.out)
    generalize hB : w8.heap.size = B at *
    have W0N := Hd (World.ownsRow_nil w8 B 41 32)
    have F08 := Hd FL8.out.fr
    have C7B := Hd (show c7 < B from by have := xf FL8.out.2.2.2; omega)
    have C11B := Hd (show c11 < B from by have := XC8.out.2.2; omega)
    have TAB := Hd (show ∀ j, (Value.slice ta K.length tcc).ownBlock = some j → j < B from fun j hj => by have := TRZ.out.blk j hj; omega)
    have WAB := Hd (show ∀ j, (Value.slice (some ⟨g, 0, none⟩) (Q 5).length wc).ownBlock = some j → j < B from fun j hj => by have := WRZ.out.blk j hj; omega)
    have BW8 := Hd (show B ≤ w8.heap.size from by omega)
    clear hB
    go_loopw [14, 85] (fun wv iv wr => ∃ (k : Nat) (T X : Nat → Prop) (ga : Option Addr) (gc : Nat), iv = .int .i64 k ∧ k ≤ K.length ∧ wv = .slice ga k gc ∧ FlA w wr c7 pc pp ps T X k ⟨S, S, [], jd S K k, qU Q 5 (vn (Q 5) x)⟩ ∧ jb T wr B 41 32 (.slice ga k gc) k ((yc (K.take k)).flatMap zj) ∧ jb T wr 0 34 3 (.slice ta K.length tcc) K.length (K.flatMap tc) ∧ jb T wr 0 41 32 (.slice (some ⟨g, 0, none⟩) (Q 5).length wc) (Q 5).length ((yc (Q 5)).flatMap zj) ∧ Y3 T wr c11 (zj x) ∧ (∀ e ∈ K, Kept X wr (fun w => TxQ w e.tx (tc e))) ∧ B ≤ wr.heap.size ∧ ∀ j, (Value.slice ga k gc).ownBlock = some j → X j) (fun _ iv _ => K.length - (intOf iv).toNat)
    case atStart => exact ⟨0, _, _, none, 0, rfl, Nat.zero_le _, rfl, GOK.out, ⟨W0N.out, fun j h => (by cases h)⟩, TRZ.out, WRZ.out, XC8.out, KP8.out, BW8.out, fun j h => (by cases h)⟩
    case round =>
     obtain ⟨k, T, X, ga, gc, rfl, hk, rfl, hfl, hgo, htr, hwr, hxc, hkp, hbw, hgx⟩ := hrel
     rename World => wr
     have FL := Hd hfl
     have GO := Hd hgo
     have TR := Hd htr
     have WR := Hd hwr
     have XC := Hd hxc
     have KP := Hd hkp
     have BW := Hd hbw
     have GX := Hd hgx
     clear hfl hgo htr hwr hxc hkp hbw hgx
     by_cases hlt : k < K.length
     ·have i1 : (k : Int) < (K.length : Int) := by omega
      obtain ⟨e, he⟩ : ∃ e, K[k]? = some e := ⟨_, List.getElem?_eq_getElem hlt⟩
      have hem := List.mem_of_getElem? he
      have HEM := Hd hem
      obtain ⟨fa1, fa2, fa3, fa4⟩ := FA8.out k e he
      obtain ⟨g2, cap2, hv2, hr2, -⟩ := jP (f := tc) (by decide) L3.out TR.out.1 he
      cases hv2
      obtain ⟨ja, jc, ka, kc, hce⟩ := (KP.out e hem).now.form
      have R1 := Hd (show wr.rangeAt g2 (k * 3) [.int .u32 e.tx.ver, .slice ja e.tx.ins.length jc, .slice ka e.tx.outs.length kc] from by rw [← hce]; exact hr2)
      have KE := Hd (show Kept X wr (fun w => TxQ w e.tx [.int .u32 e.tx.ver, .slice ja e.tx.ins.length jc, .slice ka e.tx.outs.length kc]) from by rw [← hce]; exact KP.out e hem)
      have FA := Hd ((Fr.refl No wr).alloc (.cells #[.int .u32 e.tx.ver, .slice ja e.tx.ins.length jc, .slice ka e.tx.outs.length kc] 34))
      have RN := Hd (qZ wr e.tx.ver (.slice ja e.tx.ins.length jc) (.slice ka e.tx.outs.length kc)).2.2.2
      have EOK := Hd (show zQ (idH e.tx) from by rw [← fa3]; exact ID8.out e hem)
      have EL := Hd (zE EOK.out)
      have CK := Hd (show idE e.tx = 0 from by unfold idE; rw [if_pos (j5 fa4).1])
      have A1 := Hd fa1
      have A2 := Hd fa2
      have NXP := Hd (Qt (S := S) he)
      have SNX := Hd (show (yc (K.take (k + 1))).flatMap zj = (yc (K.take k)).flatMap zj ++ zj (idH e.tx) from by rw [List.take_add_one, he, ← fa3]; simp [yc])
      have K4 := Hd (show k ≤ 4 from by have := TLN.out; omega)
      clear he hem fa1 fa2 fa3 fa4 hr2 hce
      have K0 := tru
      have K1 := tru
      have K2 := tru
      have K3 := tru
      have K4 := tru
      have K5 := tru
      have K6 := tru
      have K7 := tru
      have K8 := tru
      have K9 := tru
      go_wp2_with (first | ((with_reducible refine zn ?_); have mk := K0.out; refine zd rfl (zf (ty := 34) rfl rfl R1.out uT rT zR) ?_; go_frame) | ((with_reducible refine zA ?_); have mk := K1.out; refine zq rfl (zm (w := wr) (ty := 34) (cs := [.int .u32 e.tx.ver, .slice ja e.tx.ins.length jc, .slice ka e.tx.outs.length kc]) rfl rfl rfl rfl zR (JN rfl rfl rfl)) ?_; generalize hq16 : wr.heap.size = q16 at RN ⊢; have Q16 := Hd (show wr.heap.size ≤ q16 from by omega); clear hq16; generalize wr.alloc (.cells #[.int .u32 e.tx.ver, .slice ja e.tx.ins.length jc, .slice ka e.tx.outs.length kc] 34) = w1 at *; go_frame) | ((with_reducible refine zn ?_); have mk := K2.out; refine zd rfl (zf (ty := 34) rfl rfl RN.out uT rT zR) ?_; go_frame) | (clear K3; go_at_call 15; refine (Vh (HG.out.keep0 (FL.out.fr.trans0 FA.out)) (KE.out.same FA.out.of0).now).mono ?_; rintro e' w2 ⟨rfl, f2⟩; rw [CK.out]; have F2 := Hd (FA.out.trans0 f2); have R2 := Hd (zb RN.out f2 id); clear f2; go_frame) | ((with_reducible refine zA ?_); have mk := K4.out; refine zq rfl (zm (w := w2) (ty := 41) (cs := zj (idH e.tx)) rfl rfl rfl (by rw [EL.out]; rfl) (by rw [EL.out]; exact zr) zV) ?_; have RH := Hd (zC w2 (zj (idH e.tx)) 41); have FF := Hd ((Fr.refl No w2).alloc (.cells (zj (idH e.tx)).toArray 41)); generalize w2.heap.size = q17 at RH ⊢; generalize w2.alloc (.cells (zj (idH e.tx)).toArray 41) = w3 at *; have F3 := Hd (F2.out.trans0 FF.out); have R3 := Hd (zb R2.out FF.out id); clear F2 R2 FF; have FL3 := Hd (FL.out.fr0 F3.out); have GO3 := Hd (GO.out.fr0 F3.out); have TR3 := Hd (TR.out.fr0 F3.out); have WR3 := Hd (WR.out.fr0 F3.out); have XC3 := Hd (XC.out.fr0 F3.out); have BW3 := Hd (Nat.le_trans BW.out F3.out.size); obtain ⟨v4, w4, a1, a2, a3, -, a5⟩ := xj (P := Tryz.prog) w3 B 38 38 41 32 32 _ xB xI rfl (by decide) GO3.out.1 (zj (idH e.tx)) EL.out zV (by have := K4.out; omega) (by have := K4.out; unfold maxLen; omega) BW3.out; obtain ⟨va4, vc4, hv4⟩ := a2.slice.arg.form; subst hv4; obtain ⟨X4, fl4, gx4, gt4, kx4⟩ := FL3.out.app a3 GX.out GO3.out.2 (fun j hj => by have := (GO3.out.1.lt j hj).1; have := C7B.out; omega) a5 (fun j hj => (a2.lt j hj).2); have GE := Hd (show ∀ j, (Value.slice ga k gc).ownBlock = some j → B ≤ j from fun j hj => (GO3.out.1.lt j hj).1); rw [← SNX.out] at a2; have APP := Hd a1; have FL4 := Hd fl4; have GX4 := Hd gx4; have GO4 := Hd (show jb T w4 B 41 32 (.slice va4 (k + 1) vc4) (k + 1) ((yc (K.take (k + 1))).flatMap zj) from ⟨a2, gt4⟩); have TR4 := Hd (TR3.out.app a3 TAB.out GE.out); have WR4 := Hd (WR3.out.app a3 WAB.out GE.out); have XC4 := Hd (XC3.out.app a3 C11B.out GE.out); have KP4 := Hd (show ∀ e ∈ K, Kept X4 w4 (fun w => TxQ w e.tx (tc e)) from fun e he => kx4 ((KP.out e he).same F3.out.of0)); have KE4 := Hd (kx4 (KE.out.same F3.out.of0)); have FX4 := Hd (show Fr X w3 w4 from a3.mono GX.out); have BW4 := Hd (Nat.le_trans BW3.out a3.size); have R4 := Hd (zb R3.out a3 (fun e => by have := GO.out.blk _ e; have := Q16.out; omega)); clear a1 a2 a3 a5 fl4 gx4 gt4 kx4; have c0 := FL4.out.cells.1; have c1 := FL4.out.cells.2.1; go_frame) | ((with_reducible refine zn ?_); have mk := K5.out; refine zd rfl (zf (ty := 41) rfl rfl RH.out uH rH (by rw [EL.out]; exact zr)) ?_; go_frame) | ((with_reducible refine zn ?_); have mk := K6.out; refine zd rfl (zZ (t := 38) rfl rfl xB qs rfl (by decide) (by decide) EL.out) ?_; go_frame) | ((with_reducible refine zn ?_); have mk := K7.out; at_builtin; refine zW rfl rfl rfl rfl APP.out ?_; go_frame) | ((with_reducible refine zn ?_); have mk := K8.out; refine zd rfl (zf (ty := 34) rfl rfl R4.out uT rT zR) ?_; go_frame) | (clear K9; go_at_call 16; refine (zfG (HG.out.keep0 FL4.out.fr) FL4.out.1 (by have := K4.out; omega) KE4.out A1.out A2.out).mono ?_; rintro e' w5 ⟨za, zc, rfl, T5, X5, n5⟩; rw [← NXP.out] at n5; have FL5 := Hd (FL4.out.next n5); have GO5 := Hd (GO4.out.next n5); have TR5 := Hd (TR4.out.next n5); have WR5 := Hd (WR4.out.next n5); have XC5 := Hd (XC4.out.next n5); have KP5 := Hd (show ∀ e ∈ K, Kept X5 w5 (fun w => TxQ w e.tx (tc e)) from fun e he => n5.kept FL4.out.1 (KP4.out e he)); have BW5 := Hd (Nat.le_trans BW4.out n5.fr.size); have GX5 := Hd (show ∀ j, (Value.slice va4 (k + 1) vc4).ownBlock = some j → X5 j from fun j hj => n5.xx j (GX4.out j hj)); clear n5 c0 c1; go_frame))
      go_roundw
      case rel => exact ⟨k + 1, _, _, va4, vc4, by go_num, by omega, rfl, FL5.out, GO5.out, TR5.out, WR5.out, XC5.out, KP5.out, BW5.out, GX5.out⟩
      case measure => simp [intOf]; omega
     ·have i1 : ¬ (k : Int) < (K.length : Int) := by omega
      obtain rfl : k = K.length := by omega
      have GW := Hd (show jb T wr 0 41 32 (.slice ga K.length gc) K.length ((yc K).flatMap zj) from ⟨yU (by have := GO.out.1; rw [List.take_length] at this; exact this) (Nat.zero_le _), GO.out.2⟩)
      obtain ⟨B3, hB3⟩ : ∃ b, b = wr.heap.size := ⟨_, rfl⟩
      have C7B3 := Hd (show c7 < B3 from by have := xf FL.out.2.2.2; omega)
      have C11B3 := Hd (show c11 < B3 from by have := XC.out.2.2; omega)
      have WAB3 := Hd (show ∀ j, (Value.slice (some ⟨g, 0, none⟩) (Q 5).length wc).ownBlock = some j → j < B3 from fun j hj => by have := WR.out.blk j hj; omega)
      have GAB3 := Hd (show ∀ j, (Value.slice ga K.length gc).ownBlock = some j → j < B3 from fun j hj => by have := GW.out.blk j hj; omega)
      have BR3 := Hd (show B3 ≤ wr.heap.size from by omega)
      have IDK := Hd (show ∀ y ∈ yc K, zQ y from fun y hy => by obtain ⟨e, he, rfl⟩ := List.mem_map.1 hy; exact ID8.out e he)
      have W0N3 := Hd (World.ownsRow_nil wr B3 41 32)
      have F03 := Hd FL.out.fr
      clear hB3 GO TR KP BW GX W0N F08 C7B C11B TAB WAB BW8 GOK TRZ WRZ KP8 FL8 XC8
      go_wp2_with fail
      go_loopw [21, 117] (fun rv iv wr => ∃ (k : Nat) (X : Nat → Prop) (ra : Option Addr) (rn rc : Nat), iv = .int .i64 k ∧ k ≤ (Q 5).length ∧ rv = .slice ra rn rc ∧ rn = (((yc (Q 5)).take k).filter (fun y => decide (y ∉ yc K))).length ∧ FlA w wr c7 pc pp ps T X K.length ⟨S, S, [], jd S K K.length, qU Q 5 (vn (Q 5) x)⟩ ∧ jb T wr B3 41 32 (.slice ra rn rc) rn ((((yc (Q 5)).take k).filter (fun y => decide (y ∉ yc K))).flatMap zj) ∧ jb T wr 0 41 32 (.slice ga K.length gc) K.length ((yc K).flatMap zj) ∧ jb T wr 0 41 32 (.slice (some ⟨g, 0, none⟩) (Q 5).length wc) (Q 5).length ((yc (Q 5)).flatMap zj) ∧ Y3 T wr c11 (zj x) ∧ B3 ≤ wr.heap.size ∧ ∀ j, (Value.slice ra rn rc).ownBlock = some j → X j) (fun _ iv _ => (Q 5).length - (intOf iv).toNat)
      case atStart => exact ⟨0, _, none, 0, 0, rfl, Nat.zero_le _, rfl, rfl, FL.out, ⟨W0N3.out, fun j h => (by cases h)⟩, GW.out, WR.out, XC.out, BR3.out, fun j h => (by cases h)⟩
      case round =>
       clear FL GW WR XC BR3 F03 W0N3
       obtain ⟨k, X, ra, rn, rc, rfl, hk, rfl, hrn, hfl, hrr, hgw, hwr, hxc, hbw, hrx⟩ := hrel
       rename World => wr
       have FL := Hd hfl
       have RR := Hd hrr
       have GW := Hd hgw
       have WR := Hd hwr
       have XC := Hd hxc
       have BW := Hd hbw
       have RX := Hd hrx
       have RN' := Hd hrn
       clear hfl hrr hgw hwr hxc hbw hrx hrn
       by_cases hlt : k < (Q 5).length
       ·have i2 : (k : Int) < ((Q 5).length : Int) := by omega
        obtain ⟨y, hy⟩ : ∃ y, (yc (Q 5))[k]? = some y := ⟨_, List.getElem?_eq_getElem (by rw [xk]; exact hlt)⟩
        obtain ⟨g2, cap2, hv2, hr2, -⟩ := jP (f := zj) (by decide) (fun y hy => zE (IDS.out y hy)) WR.out.1 hy
        cases hv2
        have R1 := Hd hr2
        have YOK := Hd (IDS.out y (List.mem_of_getElem? hy))
        have YL := Hd (zE YOK.out)
        have K4 := Hd (show k ≤ 4 from by have := QL.out; omega)
        have RK := Hd (show rn ≤ k from by rw [RN'.out]; refine Nat.le_trans (List.length_filter_le _ _) ?_; rw [List.length_take]; omega)
        have TK1 : (yc (Q 5)).take (k + 1) = (yc (Q 5)).take k ++ [y] := by rw [List.take_add_one, hy]; rfl
        by_cases hm : y ∈ yc K
        ·have NX := Hd (show ((yc (Q 5)).take (k + 1)).filter (fun y => decide (y ∉ yc K)) = ((yc (Q 5)).take k).filter (fun y => decide (y ∉ yc K)) from by rw [TK1, List.filter_append, List.filter_cons_of_neg (by simpa using hm), List.filter_nil, List.append_nil])
         have HM := Hd hm
         clear hm hy hr2 TK1
         have K0 := tru
         have K1 := tru
         have K2 := tru
         have K3 := tru
         go_wp2_with (first | ((with_reducible refine zn ?_); have mk := K0.out; refine zd rfl (zf (ty := 41) rfl rfl R1.out uH rH (by rw [YL.out]; exact zr)) ?_; go_frame) | ((with_reducible refine zA ?_); have mk := K1.out; refine zq rfl (zm (w := wr) (ty := 41) (cs := zj y) rfl rfl rfl (by rw [YL.out]; rfl) (by rw [YL.out]; exact zr) zV) ?_; have RH := Hd (zC wr (zj y) 41); have F1 := Hd ((Fr.refl No wr).alloc (.cells (zj y).toArray 41)); generalize wr.heap.size = q23 at RH ⊢; generalize wr.alloc (.cells (zj y).toArray 41) = w1 at *; have GW1 := Hd (GW.out.fr0 F1.out); go_frame) | ((with_reducible refine zn ?_); have mk := K2.out; refine zd rfl (zf (ty := 41) rfl rfl RH.out uH rH (by rw [YL.out]; exact zr)) ?_; go_frame) | (clear K3; go_at_call 17; refine (zaE w1 (GW1.out.ids (xk K) IDK.out) (by rw [xk]; have := TLN.out; omega) y YOK.out).mono ?_; rintro e w2 ⟨b, rfl, hb, f2⟩; obtain rfl : b = true := hb.2 HM.out; have F2 := Hd (F1.out.trans0 f2); clear f2 hb; go_frame))
         go_roundw
         case rel => exact ⟨k + 1, _, ra, rn, rc, by go_num, by omega, rfl, by rw [NX.out]; exact RN'.out, FL.out.fr0 F2.out, by rw [NX.out]; exact RR.out.fr0 F2.out, GW.out.fr0 F2.out, WR.out.fr0 F2.out, XC.out.fr0 F2.out, Nat.le_trans BW.out F2.out.size, RX.out⟩
         case measure => simp [intOf]; omega
        ·have NX := Hd (show ((yc (Q 5)).take (k + 1)).filter (fun y => decide (y ∉ yc K)) = ((yc (Q 5)).take k).filter (fun y => decide (y ∉ yc K)) ++ [y] from by rw [TK1, List.filter_append, List.filter_cons_of_pos (by simpa using hm), List.filter_nil])
         have HM := Hd hm
         clear hm hy hr2 TK1
         have K0 := tru
         have K1 := tru
         have K2 := tru
         have K3 := tru
         have K4 := tru
         have K5 := tru
         have K6 := tru
         go_wp2_with (first | ((with_reducible refine zn ?_); have mk := K0.out; refine zd rfl (zf (ty := 41) rfl rfl R1.out uH rH (by rw [YL.out]; exact zr)) ?_; go_frame) | ((with_reducible refine zA ?_); have mk := K1.out; refine zq rfl (zm (w := wr) (ty := 41) (cs := zj y) rfl rfl rfl (by rw [YL.out]; rfl) (by rw [YL.out]; exact zr) zV) ?_; have RH := Hd (zC wr (zj y) 41); have F1 := Hd ((Fr.refl No wr).alloc (.cells (zj y).toArray 41)); generalize wr.heap.size = q23 at RH ⊢; generalize wr.alloc (.cells (zj y).toArray 41) = w1 at *; have GW1 := Hd (GW.out.fr0 F1.out); go_frame) | ((with_reducible refine zn ?_); have mk := K2.out; refine zd rfl (zf (ty := 41) rfl rfl RH.out uH rH (by rw [YL.out]; exact zr)) ?_; go_frame) | (clear K3; go_at_call 17; refine (zaE w1 (GW1.out.ids (xk K) IDK.out) (by rw [xk]; have := TLN.out; omega) y YOK.out).mono ?_; rintro e w2 ⟨b, rfl, hb, f2⟩; obtain rfl : b = false := Bool.eq_false_iff.2 (fun h => HM.out (hb.1 h)); have F2 := Hd (F1.out.trans0 f2); have RH2 := Hd (zb RH.out f2 id); clear f2 hb; have FL2 := Hd (FL.out.fr0 F2.out); have RR2 := Hd (RR.out.fr0 F2.out); have GW2 := Hd (GW.out.fr0 F2.out); have WR2 := Hd (WR.out.fr0 F2.out); have XC2 := Hd (XC.out.fr0 F2.out); have BW2 := Hd (Nat.le_trans BW.out F2.out.size); obtain ⟨v4, w4, a1, a2, a3, -, a5⟩ := xj (P := Tryz.prog) w2 B3 38 38 41 32 32 _ xB xI rfl (by decide) RR2.out.1 (zj y) YL.out zV (by have := K4.out; have := RK.out; omega) (by have := K4.out; have := RK.out; unfold maxLen; omega) BW2.out; obtain ⟨va4, vc4, hv4⟩ := a2.slice.arg.form; subst hv4; obtain ⟨X4, fl4, gx4, gt4, kx4⟩ := FL2.out.app a3 RX.out RR2.out.2 (fun j hj => by have := (RR2.out.1.lt j hj).1; have := C7B3.out; omega) a5 (fun j hj => (a2.lt j hj).2); have GE := Hd (show ∀ j, (Value.slice ra rn rc).ownBlock = some j → B3 ≤ j from fun j hj => (RR2.out.1.lt j hj).1); have APP := Hd a1; have FL4 := Hd fl4; have RX4 := Hd gx4; have RR4 := Hd (show jb T w4 B3 41 32 (.slice va4 (rn + 1) vc4) (rn + 1) ((((yc (Q 5)).take (k + 1)).filter (fun y => decide (y ∉ yc K))).flatMap zj) from ⟨by rw [NX.out]; simpa using a2, gt4⟩); have GW4 := Hd (GW2.out.app a3 GAB3.out GE.out); have WR4 := Hd (WR2.out.app a3 WAB3.out GE.out); have XC4 := Hd (XC2.out.app a3 C11B3.out GE.out); have BW4 := Hd (Nat.le_trans BW2.out a3.size); have RN4 := Hd (show rn + 1 = (((yc (Q 5)).take (k + 1)).filter (fun y => decide (y ∉ yc K))).length from by rw [NX.out, List.length_append, ← RN'.out]; rfl); clear a1 a2 a3 a5 fl4 gx4 gt4 kx4; go_frame) | ((with_reducible refine zn ?_); have mk := K4.out; refine zd rfl (zf (ty := 41) rfl rfl RH2.out uH rH (by rw [YL.out]; exact zr)) ?_; go_frame) | ((with_reducible refine zn ?_); have mk := K5.out; refine zd rfl (zZ (t := 38) rfl rfl xB qs rfl (by decide) (by decide) YL.out) ?_; go_frame) | ((with_reducible refine zn ?_); have mk := K6.out; at_builtin; refine zW rfl rfl rfl rfl APP.out ?_; go_frame))
         go_roundw
         case rel => exact ⟨k + 1, _, va4, rn + 1, vc4, by go_num, by omega, rfl, RN4.out, FL4.out, RR4.out, GW4.out, WR4.out, XC4.out, BW4.out, RX4.out⟩
         case measure => simp [intOf]; omega
       ·have i2 : ¬ (k : Int) < ((Q 5).length : Int) := by omega
        obtain rfl : k = (Q 5).length := by omega
        have TKA : (yc (Q 5)).take (Q 5).length = yc (Q 5) := List.take_of_length_le (by rw [xk]; exact Nat.le_refl _)
        have RNF := Hd (show rn = (vn (Q 5) x).length from by rw [RN'.out, TKA, RID.out, xk])
        have RRF := Hd (show jb T wr B3 41 32 (.slice ra rn rc) rn ((yc (vn (Q 5) x)).flatMap zj) from by have := RR.out; rw [TKA, RID.out] at this; exact this)
        clear RR RN' TKA
        obtain ⟨m, hm⟩ : ∃ m, m = PT.length := ⟨_, rfl⟩
        have KM : K.length = m + 1 := by rw [HPT.out, hm]; simp
        have hkx : (yc K)[m]? = some x := by rw [HPT.out, hm]; simp [yc, EID.out]
        obtain ⟨gw, capw, hvw, hrw, -⟩ := jP (f := zj) (by decide) (fun y hy => zE (IDK.out y hy)) GW.out.1 hkx
        cases hvw
        have LW := Hd hrw
        have XC1 := Hd XC.out.1
        have c2 := FL.out.cells.2.2
        clear hrw hkx hm
        have K0 := tru
        have K1 := tru
        go_wp2_with (first | ((with_reducible refine zn ?_); have mk := K0.out; refine zd rfl (zf (ty := 41) rfl rfl XC1.out uH rH (by rw [XL.out]; exact zr)) ?_; go_frame) | (clear K1; go_at_call 14; refine (zfk FL.out.1 XOK.out (by show x ∉ yc (qU Q 5 (vn (Q 5) x) 5); rw [xh]; exact RNO.out)).mono ?_; rintro e w2 ⟨rfl, f2⟩; have F2 := Hd f2; clear f2; go_frame))
        have FD := Hd (F2.out.trans0 (Fr.refl No w2).drew)
        have LWD := Hd (zb LW.out FD.out id)
        have XCD := Hd (zb XC1.out FD.out id)
        have C2D := Hd (FD.out.cell c2 id)
        have FLD := Hd (FL.out.fr0 FD.out)
        have RRD := Hd (RRF.out.fr0 FD.out)
        clear c2
        have MB : m ≤ 4 := by have := TLN.out; omega
        have RB : rn ≤ 4 := by have := RLN.out; have := RNF.out; have := QL.out; omega
        have RS : ((rn : Nat) : Int) + ((m : Int) + 1) = ((Q 5).length : Int) := by have := RLN.out; have := RNF.out; omega
        have jm : (m : Int) < (m : Int) + 1 := by omega
        have wm : IntKind.i64.wrap (m : Int) = m := IntWalk.i64_in _ (by omega)
        have ws : IntKind.i64.wrap (((rn : Nat) : Int) + ((m : Int) + 1)) = ((Q 5).length : Int) := by rw [RS]; exact IntWalk.i64_in _ (by omega)
        clear RS
        refine zv [false, false, false, false, false, false, false, false, false, false, false, false, false, false, false, false, false, false, false, false, false, false, false, false, false, true, false, true, false, false] (fun W => W.cell? ⟨c7, 2, none⟩ = some (.pointer (some ⟨ps, 0, none⟩)) ∧ W.rangeAt c11 0 (zj x) ∧ W.rangeAt gw (m * 32) (zj x)) (by kernel_rfl) (by kernel_rfl) ?_ (fun K hK => ?_)
        ·exact ⟨C2D.out, XCD.out, LWD.out⟩
        generalize w2.drew = w3 at *
        repeat (first | ((first | with_reducible refine zx ?_ | ((with_reducible refine zu ?_ ?_); (focus rfl))); apply Exists.intro; refine ⟨?_, ?_⟩; (focus (first | exact zD (ty := 41) rfl (fun w h => h.2.1) uH rH (by rw [XL.out]; exact zr) | exact zD (ty := 41) rfl (fun w h => h.2.2) uH rH (by rw [XL.out]; exact zr) | exact fun w' _ => xy.exec_eql rfl (u := (zj x).toArray) (v := (zj x).toArray) rfl rfl (yd XOK.out) (yd XOK.out) true (by simp) w' | (intro w' hS; obtain ⟨s1, s2, s3⟩ := hS; go_simp; (try with_reducible rfl); done))); try simp only [Act.put, pA, pB, pC]) | ((first | ((with_reducible refine zg (c := false) ?_ ?_ ?_); (focus rfl); (focus rfl)) | ((with_reducible refine zg (c := true) ?_ ?_ ?_); (focus rfl); (focus rfl)) | ((with_reducible refine zt ?_ ?_); (focus rfl))); try simp only [Act.put, pA, pB, pC]))
        have A5D := Hd (zdw FLD.out.1)
        dsimp only at A5D
        rw [xh] at A5D
        have IDR := Hd (show ∀ y ∈ yc (vn (Q 5) x), zQ y from fun y hy => by rw [← RID.out] at hy; exact IDS.out y (List.mem_filter.1 hy).1)
        have RL := Hd (show (yc (vn (Q 5) x)).length ≤ 100000 from by rw [xk]; have := RNF.out; omega)
        (first | with_reducible refine zU (fun K' hK' => ?_) | ((with_reducible refine zK ?_ (fun K' hK' => ?_)); (focus rfl)))
        go_simp
        refine A5D.out.mono ?_
        rintro e w4 ⟨aa, ac, rfl, ho, f4⟩
        have HU := Hd (show yV w4 (.slice aa (vn (Q 5) x).length ac) (yc (vn (Q 5) x)) from ⟨IDR.out, by rw [xk]; exact ho.slice.arg⟩)
        have HV := Hd ((RRD.out.fr0 f4).ids (by rw [xk]; exact RNF.out.symm) IDR.out)
        have F4 := Hd f4
        clear ho f4
        refine hK'.out _ _ ?_ (fun hS => ?_)
        ·exact ⟨F4.out.cell C2D.out id, zb XCD.out F4.out id, zb LWD.out F4.out id⟩
        try simp only [Act.put, pA, pB, pC]
        repeat (first | ((first | with_reducible refine zx ?_ | ((with_reducible refine zu ?_ ?_); (focus rfl))); apply Exists.intro; refine ⟨?_, ?_⟩; (focus (first | (intro w' hS; obtain ⟨s1, s2, s3⟩ := hS; go_simp; (try with_reducible rfl); done))); try simp only [Act.put, pA, pB, pC]) | ((first | ((with_reducible refine zg (c := false) ?_ ?_ ?_); (focus rfl); (focus rfl)) | ((with_reducible refine zg (c := true) ?_ ?_ ?_); (focus rfl); (focus rfl)) | ((with_reducible refine zt ?_ ?_); (focus rfl))); try simp only [Act.put, pA, pB, pC]))
        (first | with_reducible refine zU (fun K' hK' => ?_) | ((with_reducible refine zK ?_ (fun K' hK' => ?_)); (focus rfl)))
        go_simp
        refine (zcU w4 HU.out HV.out RL.out RL.out).mono ?_
        rintro e w5 ⟨b, rfl, hb, f5⟩
        obtain rfl : b = true := hb.2 rfl
        have F5 := Hd (F4.out.trans0 f5)
        clear hb f5
        refine hK'.out _ _ ?_ (fun hS => ?_)
        ·exact ⟨F5.out.cell C2D.out id, zb XCD.out F5.out id, zb LWD.out F5.out id⟩
        try simp only [Act.put, pA, pB, pC]
        repeat (first | ((first | with_reducible refine zx ?_ | ((with_reducible refine zu ?_ ?_); (focus rfl))); apply Exists.intro; refine ⟨?_, ?_⟩; (focus (first | (intro w' hS; obtain ⟨s1, s2, s3⟩ := hS; go_simp; (try with_reducible rfl); done))); try simp only [Act.put, pA, pB, pC]) | ((first | ((with_reducible refine zg (c := false) ?_ ?_ ?_); (focus rfl); (focus rfl)) | ((with_reducible refine zg (c := true) ?_ ?_ ?_); (focus rfl); (focus rfl)) | ((with_reducible refine zt ?_ ?_); (focus rfl))); try simp only [Act.put, pA, pB, pC]))
        refine zM (hK.out _ _ ?_)
        go_wp2_with fail
        go_ret
        exact ⟨rfl, FLD.out.fr.trans0 F5.out⟩
end Go.Proofs.YtdkkjchclkjleaaGreatDoor
