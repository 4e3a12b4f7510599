/- stem: out. -/
import Derived.ArgAppend
import Derived.Test.YtdkkjchclkjleaaGreatDoorSG34
import Derived.Test.YtdkkjchclkjleaaGreatDoorSG27
import Derived.Test.YtdkkjchclkjleaaGreatDoorSG19
set_option linter.unusedVariables false
set_option linter.unusedSimpArgs false
set_option linter.unnecessarySimpa false
set_option linter.all false
namespace Go.Proofs.YtdkkjchclkjleaaGreatDoor
open Go Go.RowKit Go.Maps Go.MapKept
theorem zjw (v : Int) (ia oa : Option Addr) (il ic ol oc : Nat) (w : World) : (Instr.field 34 (.agg #[.int .u32 v, .slice ia il ic, .slice oa ol oc]) 2).run Tryz.prog w = .ok (.slice oa ol oc) w := by kernel_rfl
def Ya (l : List StE) (x : zi) : List yF := ((ju l x).map (·.tx.outs)).getD []
theorem zdo (l : List StE) (q : zF) : Xv l q = (Ya l q.tx)[q.n.toNat]? := by
 unfold Xv Ya
 cases ju l q.tx with
 | none => rfl
 | some e => rfl
section
variable {w0 w w0p w0c : World} {ps ma ms pp mp mq g N pc : Nat} {R : Nat → Value} {X Y VG VC : Nat → Prop} {C : Nat → zi → List Value} {CP : zi → List Value} {Q : StQ} {L : List z7} {S : List zy} {bs : List xt} {I : List zi}
theorem zbt (h : yz w0 w ps ma ms R X C Q) {n : Nat} (hn : n < 65) (x : zi) : ∃ v ia il ic oa oc, YB C Q n x = [.int .u32 v, .slice ia il ic, .slice oa (Ya (Q n) x).length oc] ∧ xz w (.slice oa (Ya (Q n) x).length oc) (Ya (Q n) x) := by
 unfold YB vC
 by_cases hx : x ∈ yc (Q n)
 ·rw [if_pos (by simp only [decide_eq_true_eq]; exact ⟨by omega, by omega, by rw [Int.toNat_natCast]; exact hx⟩), Int.toNat_natCast]
  obtain ⟨e, he, rfl⟩ := List.mem_map.1 hx
  have ho : Ya (Q n) e.id = e.tx.outs := by unfold Ya; rw [zbp (h.val n).nd he]; rfl
  obtain ⟨ia, ic, oa, oc, e1, -, -, h3⟩ := (h.data n hn e he).now
  rw [ho, e1]
  exact ⟨e.tx.ver, ia, _, ic, oa, oc, rfl, h3⟩
 ·rw [if_neg (by simp only [decide_eq_true_eq]; rw [Int.toNat_natCast]; exact fun h => hx h.2.2)]
  have ho : Ya (Q n) x = [] := by unfold Ya; rw [zdk.2 hx]; rfl
  rw [ho]
  exact ⟨0, none, 0, 0, none, 0, rfl, VP w⟩
theorem zci (h : yz w0 w ps ma ms R X C Q) {n : Nat} (hn : n < 65) (q : zF) : ((Xv (Q n) q).getD yR).ok := by
 unfold Xv
 cases hs : ju (Q n) q.tx with
 | none => exact JE
 | some e =>
  simp only [Option.bind_some]
  cases ho : e.tx.outs[q.n.toNat]? with
  | none => exact JE
  | some o =>
   exact (h.data n hn e (VR hs).1).now.oks.2 o (List.mem_of_getElem? ho)
theorem zhL (h : yz w0 w ps ma ms R X C Q) (hp : yf w0p w pp mp mq g VG Y CP L N) (hS : ∀ c ∈ S, c.ok) {n : Nat} (hn : n < 65) (q : zF) : ((Jk S L (Q n) q).getD yR).ok := by
 unfold Jk xR
 by_cases hc : xV S q = true
 ·rw [if_pos hc]
  exact jT hS q
 ·rw [if_neg hc]
  have := JZ hp.outs_ok q
  cases hf : yQ L q with
  | some o => rw [hf] at this; exact this
  | none => exact zci h hn q
def zi0 (w : World) (S : List zy) (L : List z7) (l : List StE) (q : zF) (e : Ending) (w' : World) : Prop :=
 e = .returned (.tuple #[.agg (zG ((Jk S L l q).getD yR)).toArray, .bool (Jk S L l q).isSome]) ∧ Fr No w w'
set_option maxRecDepth 20000 in
set_option maxHeartbeats 8000000 in
theorem zjU (h : yz w0 w ps ma ms R X C Q) (hp : yf w0p w pp mp mq g VG Y CP L N) (hc : Cn w0c w pc VC S bs I) (hS : ∀ c ∈ S, c.ok) {n : Nat} (hn : n < 65) {q : zF} (hq : q.ok) :
  Calls Tryz.prog 76 #[.pointer (some ⟨ps, 0, none⟩), .pointer (some ⟨pc, 0, none⟩), .pointer (some ⟨pp, 0, none⟩), .int .i64 n, .agg (zB q).toArray] w (zi0 w S L (Q n) q) := by
 obtain ⟨dP, uP, rP⟩ := xr
 obtain ⟨dH, uH, rH⟩ := yj
 obtain ⟨dO, uO, rO⟩ := vA
 have zo := qT
 have i65 : (n : Int) < 65 := by omega
 have i0 : (0 : Int) ≤ (n : Int) := by omega
 have HN := Hd hn
 have f1 : Fr No w ((w.alloc (.cells (zB q).toArray 95)).alloc (.cells (zG yR).toArray 103)) := ((Fr.refl No w).alloc _).alloc _
 have RB := Hd (zb (zC w (zB q) 95) ((Fr.refl No _).alloc (.cells (zG yR).toArray 103)) id)
 have HRC := Hd (yL (w.alloc (.cells (zB q).toArray 95)) (.cells (zG yR).toArray 103) (n := w.heap.size + 1) (by simp))
 have HSZ := Hd (show ((w.alloc (.cells (zB q).toArray 95)).alloc (.cells (zG yR).toArray 103)).heap.size = w.heap.size + 2 by simp)
 have PL := Hd (yb hq)
 have QL := Hd (zE hq.1)
 have QOK := Hd hq
 have F1 := Hd f1
 have HFC := Hd (fun w' (f : Fr No w w') => za4 (hc.fr0 f) hq)
 have HFP := Hd (fun w' (f : Fr No w w') => zgU (hp.fr0 f) hq)
 have HH := Hd h
 have OFL := Hd (yD (jT hS q))
 have PFL := Hd (yD (JZ hp.outs_ok q))
 have CFM := Hd (fun w' (f : Fr No w w') => zbt (h.fr0 f) hn q.tx)
 have OSOK := Hd (zci h hn q)
 clear h hp hc hS hn hq f1
 by_cases hhas : xV S q = true
 ·have HAS := Hd hhas
  have RES := Hd (show Jk S L (Q n) q = some (yr S q) from by unfold Jk xR; rw [if_pos hhas])
  clear hhas
  go_enter Tryz.func76, Tryz.ntmps76
  have K0 := tru
  have K1 := tru
  have K2 := tru
  have K3 := tru
  have K4 := tru
  go_wp2_with (first | ((with_reducible refine zn ?_); have mk := K0.out; refine zd rfl (zf (ty := 95) rfl rfl RB.out uP rP (by rw [PL.out]; exact zL)) ?_; generalize hq1 : w.heap.size = n1 at *; generalize (w.alloc (.cells (zB q).toArray 95)).alloc (.cells (zG yR).toArray 103) = wz at *; go_frame) | (clear K1; go_at_call 126; refine (HFC.out wz F1.out).mono ?_; rintro e w3 ⟨rfl, f3⟩; rw [HAS.out]; have F3 := Hd (F1.out.trans0 f3); have R3 := Hd (zb RB.out f3 id); have OB3 := Hd (f3.obj HRC.out id); have RO := Hd (zC w3 (zG (yr S q)) 103); have FA := Hd ((Fr.refl No w3).alloc (.cells (zG (yr S q)).toArray 103)); have Z3 := Hd (show n1 + 2 ≤ w3.heap.size by have := f3.size; have := HSZ.out; omega); clear f3; go_frame) | ((with_reducible refine zA ?_); have mk := K2.out; refine zq rfl (zm (w := w3) (ty := 103) (cs := zG (yr S q)) rfl rfl rfl (by rw [OFL.out]; rfl) (by rw [OFL.out]; exact zY) ye) ?_; generalize hq3 : w3.heap.size = n3 at *; generalize w3.alloc (.cells (zG (yr S q)).toArray 103) = w4 at *; have F4 := Hd (F3.out.trans0 FA.out); have R4 := Hd (zb R3.out FA.out id); have OB4 := Hd (FA.out.obj OB3.out id); go_frame) | ((with_reducible refine zn ?_); have mk := K3.out; refine zd rfl (zf (ty := 103) rfl rfl RO.out uO rO (by rw [OFL.out]; exact zY)) ?_; go_frame) | ((with_reducible refine zA ?_); have mk := K4.out; refine zq rfl (z6 (ty := 103) (b := n1 + 1) (off := 0) (cs := zG (yr S q)) rfl rfl rfl (by rw [OFL.out]; exact yg OB4.out (Nat.le_of_eq yw.symm)) (by rw [OFL.out]; exact zY) ye) ?_; go_frame))
  refine bodyPost_ret (yO (P := Tryz.prog) (fn := Tryz.f76) rfl _ rfl (yY OB4.out (by rw [OFL.out]; exact yw)) uO rO (by rw [OFL.out]; exact zY) rfl) rfl ⟨by rw [RES.out]; rfl, ?_⟩
  exact F4.out.trans (zJ _ _ _ _) (fun i hi e => by omega)
 ·have hhas2 : xV S q = false := by simpa using hhas
  have HAS := Hd hhas2
  have NHS := Hd hhas
  clear hhas hhas2
  cases hf : yQ L q with
  | some o =>
   have FND := Hd hf
   have RES := Hd (show Jk S L (Q n) q = some o from by unfold Jk xR; rw [if_neg NHS.out, hf])
   have pfl : (zG o).length = 33 := by have := PFL.out; rw [hf] at this; exact this
   have PFL := Hd pfl
   clear pfl
   clear hf
   go_enter Tryz.func76, Tryz.ntmps76
   have K0 := tru
   have K1 := tru
   have K2 := tru
   have K3 := tru
   have K4 := tru
   have K5 := tru
   have K6 := tru
   have K7 := tru
   go_wp2_with (first | ((with_reducible refine zn ?_); have mk := K0.out; refine zd rfl (zf (ty := 95) rfl rfl RB.out uP rP (by rw [PL.out]; exact zL)) ?_; generalize hq1 : w.heap.size = n1 at *; generalize (w.alloc (.cells (zB q).toArray 95)).alloc (.cells (zG yR).toArray 103) = wz at *; go_frame) | (clear K1; go_at_call 126; refine (HFC.out wz F1.out).mono ?_; rintro e w3 ⟨rfl, f3⟩; rw [HAS.out]; have F3 := Hd (F1.out.trans0 f3); have R3 := Hd (zb RB.out f3 id); have OB3 := Hd (f3.obj HRC.out id); have RO := Hd (zC w3 (zG (yr S q)) 103); have FA := Hd ((Fr.refl No w3).alloc (.cells (zG (yr S q)).toArray 103)); have Z3 := Hd (show n1 + 2 ≤ w3.heap.size by have := f3.size; have := HSZ.out; omega); clear f3; go_frame) | ((with_reducible refine zA ?_); have mk := K2.out; refine zq rfl (zm (w := w3) (ty := 103) (cs := zG (yr S q)) rfl rfl rfl (by rw [OFL.out]; rfl) (by rw [OFL.out]; exact zY) ye) ?_; generalize hq3 : w3.heap.size = n3 at *; generalize w3.alloc (.cells (zG (yr S q)).toArray 103) = w4 at *; have F4 := Hd (F3.out.trans0 FA.out); have R4 := Hd (zb R3.out FA.out id); have OB4 := Hd (FA.out.obj OB3.out id); go_frame) | ((with_reducible refine zn ?_); have mk := K3.out; refine zd rfl (zf (ty := 95) rfl rfl R4.out uP rP (by rw [PL.out]; exact zL)) ?_; go_frame) | (clear K4; go_at_call 127; refine (HFP.out w4 F4.out).mono ?_; rintro e w5 ⟨rfl, f5⟩; rw [FND.out]; have F5 := Hd (F4.out.trans0 f5); have R5 := Hd (zb R4.out f5 id); have OB5 := Hd (f5.obj OB4.out id); have RO5 := Hd (zC w5 (zG o) 103); have FA5 := Hd ((Fr.refl No w5).alloc (.cells (zG o).toArray 103)); clear f5; go_frame) | ((with_reducible refine zA ?_); have mk := K5.out; refine zq rfl (zm (w := w5) (ty := 103) (cs := zG o) rfl rfl rfl (by rw [PFL.out]; rfl) (by rw [PFL.out]; exact zY) ye) ?_; generalize hq5 : w5.heap.size = n5 at *; generalize w5.alloc (.cells (zG o).toArray 103) = w6 at *; have F6 := Hd (F5.out.trans0 FA5.out); have R6 := Hd (zb R5.out FA5.out id); have OB6 := Hd (FA5.out.obj OB5.out id); go_frame) | ((with_reducible refine zn ?_); have mk := K6.out; refine zd rfl (zf (ty := 103) rfl rfl RO5.out uO rO (by rw [PFL.out]; exact zY)) ?_; go_frame) | ((with_reducible refine zA ?_); have mk := K7.out; refine zq rfl (z6 (ty := 103) (b := n1 + 1) (off := 0) (cs := zG o) rfl rfl rfl (by rw [PFL.out]; exact yg OB6.out (Nat.le_of_eq yw.symm)) (by rw [PFL.out]; exact zY) ye) ?_; go_frame))
   refine bodyPost_ret (yO (P := Tryz.prog) (fn := Tryz.f76) rfl _ rfl (yY OB6.out (by rw [PFL.out]; exact yw)) uO rO (by rw [PFL.out]; exact zY) rfl) rfl ⟨by rw [RES.out]; rfl, ?_⟩
   exact F6.out.trans (zJ _ _ _ _) (fun i hi e => by omega)
  | none =>
   have FND := Hd hf
   have RES := Hd (show Jk S L (Q n) q = Xv (Q n) q from by unfold Jk xR; rw [if_neg NHS.out, hf])
   have PFL := Hd (yD JE)
   obtain ⟨o, ho⟩ : ∃ o, o = yR := ⟨_, rfl⟩
   clear hf
   go_enter Tryz.func76, Tryz.ntmps76
   have K0 := tru
   have K1 := tru
   have K2 := tru
   have K3 := tru
   have K4 := tru
   have K5 := tru
   go_wp2_with (first | ((with_reducible refine zn ?_); have mk := K0.out; refine zd rfl (zf (ty := 95) rfl rfl RB.out uP rP (by rw [PL.out]; exact zL)) ?_; generalize hq1 : w.heap.size = n1 at *; generalize (w.alloc (.cells (zB q).toArray 95)).alloc (.cells (zG yR).toArray 103) = wz at *; go_frame) | (clear K1; go_at_call 126; refine (HFC.out wz F1.out).mono ?_; rintro e w3 ⟨rfl, f3⟩; rw [HAS.out]; have F3 := Hd (F1.out.trans0 f3); have R3 := Hd (zb RB.out f3 id); have OB3 := Hd (f3.obj HRC.out id); have RO := Hd (zC w3 (zG (yr S q)) 103); have FA := Hd ((Fr.refl No w3).alloc (.cells (zG (yr S q)).toArray 103)); have Z3 := Hd (show n1 + 2 ≤ w3.heap.size by have := f3.size; have := HSZ.out; omega); clear f3; go_frame) | ((with_reducible refine zA ?_); have mk := K2.out; refine zq rfl (zm (w := w3) (ty := 103) (cs := zG (yr S q)) rfl rfl rfl (by rw [OFL.out]; rfl) (by rw [OFL.out]; exact zY) ye) ?_; generalize hq3 : w3.heap.size = n3 at *; generalize w3.alloc (.cells (zG (yr S q)).toArray 103) = w4 at *; have F4 := Hd (F3.out.trans0 FA.out); have R4 := Hd (zb R3.out FA.out id); have OB4 := Hd (FA.out.obj OB3.out id); go_frame) | ((with_reducible refine zn ?_); have mk := K3.out; refine zd rfl (zf (ty := 95) rfl rfl R4.out uP rP (by rw [PL.out]; exact zL)) ?_; go_frame) | (clear K4; go_at_call 127; refine (HFP.out w4 F4.out).mono ?_; rintro e w5 ⟨rfl, f5⟩; rw [FND.out]; have F5 := Hd (F4.out.trans0 f5); have R5 := Hd (zb R4.out f5 id); have OB5 := Hd (f5.obj OB4.out id); have RO5 := Hd (zC w5 (zG yR) 103); have FA5 := Hd ((Fr.refl No w5).alloc (.cells (zG yR).toArray 103)); clear f5; go_frame) | ((with_reducible refine zA ?_); have mk := K5.out; refine zq rfl (zm (w := w5) (ty := 103) (cs := zG yR) rfl rfl rfl (by rw [PFL.out]; rfl) (by rw [PFL.out]; exact zY) ye) ?_; generalize hq5 : w5.heap.size = n5 at *; generalize w5.alloc (.cells (zG yR).toArray 103) = w6 at *; have F6 := Hd (F5.out.trans0 FA5.out); have R6 := Hd (zb R5.out FA5.out id); have OB6 := Hd (FA5.out.obj OB5.out id); go_frame))
   have FD := Hd F6.out.drew
   have HD := Hd (HH.out.fr0 FD.out)
   have RD := Hd (zb R6.out (Fr.refl No w6).drew id)
   have OBD := Hd ((Fr.refl No w6).drew.obj OB6.out id)
   obtain ⟨M, hM, hm⟩ := HD.out.am
   obtain ⟨v, ia, il, ic, oa, oc, hcel, hos⟩ := CFM.out w6.drew FD.out
   have LK := Hd (show ∀ w', qR w' ma M → (Instr.lookup 113 (.map (some ma)) (.agg (skC (n, q.tx)).toArray) false).run Tryz.prog w' = .ok (.agg #[.int .u32 v, .slice ia il ic, .slice oa (Ya (Q n) q.tx).length oc]) w' from fun w' h' => by
    have := Zh (w := w') (Qz HN.out) QOK.out.1 h' hm false
    rw [hcel] at this
    simpa using this)
   have HM := Hd hM
   have HO := Hd hos
   have SKL := Hd (Jd (k := ((n : Int), q.tx)) QOK.out.1)
   have RDH := Hd (Qn RD.out QOK.out).1
   have QL2 := Hd QL.out
   have hlen := hos.2.len
   have hn0 := QOK.out.2.1
   have hn1 := QOK.out.2.2
   rw [zdo] at RES OSOK
   unfold zj at QL2
   clear hM hm hcel hos
   generalize Ya (Q n) q.tx = O at *
   refine zv [false, false, false, false, false, false, false, false, false, false, false] (fun w' => w'.cell? ⟨ps, 0, none⟩ = some (.map (some ma)) ∧ w'.rangeAt n1 0 (q.tx.map zP) ∧ qR w' ma M) (by kernel_rfl) (by kernel_rfl) ?_ (fun K hK => ?_)
   ·exact ⟨HD.out.cells.1, RDH.out, HM.out⟩
   repeat (first | ((first | with_reducible refine zx ?_ | ((with_reducible refine zu ?_ ?_); (focus rfl))); apply Exists.intro; refine ⟨?_, ?_⟩; (focus (first | exact zD (ty := 41) rfl (fun w h => h.2.1) uH rH (by rw [QL2.out]; exact zr) | exact fun w' _ => y4 (t := 110) rfl rfl vG (jD _ QOK.out.1) (vH _ _) SKL.out | exact fun w' h => zN (t := 113) rfl rfl rfl (LK.out w' h.2.2) | exact fun w' _ => vS (t := 34) (f := 2) rfl rfl (zjw v ia oa il ic O.length oc w') | (intro w' hS; obtain ⟨s1, s2, s3⟩ := hS; go_simp; (try with_reducible rfl); done))); try simp only [Act.put, pA, pB, pC]) | ((first | ((with_reducible refine zg (c := false) ?_ ?_ ?_); (focus rfl); (focus rfl)) | ((with_reducible refine zg (c := true) ?_ ?_ ?_); (focus rfl); (focus rfl)) | ((with_reducible refine zt ?_ ?_); (focus rfl))); try simp only [Act.put, pA, pB, pC]))
   refine zM (hK.out _ _ ?_)
   have c32 : w6.drew.cell? ⟨n1, 32, none⟩ = some (.int .u32 q.n) := by
    have := (Qn RD.out QOK.out).2
    simpa using this
   clear RB HM LK HRC
   by_cases hb : q.n.toNat < O.length
   ·obtain ⟨oo, hoo⟩ : ∃ o, O[q.n.toNat]? = some o := ⟨_, List.getElem?_eq_getElem hb⟩
    obtain ⟨b, off, cap, e, hr, -⟩ := HO.out.at_ hoo
    injection e with e1 e2 e3
    subst e1
    subst e3
    have OK := Hd (HO.out.1 oo (List.mem_of_getElem? hoo))
    have OL := Hd (yD OK.out)
    obtain ⟨k, hk⟩ : ∃ k : Nat, q.n = (k : Int) := Int.eq_ofNat_of_zero_le hn0
    have RES2 := Hd (RES.out.trans hoo)
    rw [hk] at hb hr c32 hn1
    simp only [Int.toNat_natCast] at hb hr
    have i2 : (k : Int) < IntKind.u64.wrap (O.length : Int) := by rw [YW hlen]; omega
    have i1 : (k : Int) < (O.length : Int) := by omega
    have R1 := Hd hr
    clear hr hoo hn0 hk
    have K0 := tru
    have K1 := tru
    go_wp2_with (first | ((with_reducible refine zn ?_); have mk := K0.out; with_reducible refine yk 54 ?_; refine zd rfl (zf (ty := 103) rfl rfl R1.out uO rO (by rw [OL.out]; exact zY)) ?_; go_frame) | ((with_reducible refine zA ?_); have mk := K1.out; refine zq rfl (z6 (ty := 103) (b := n1 + 1) (off := 0) (cs := zG oo) rfl rfl rfl (by rw [OL.out]; exact yg OBD.out (Nat.le_of_eq yw.symm)) (by rw [OL.out]; exact zY) ye) ?_; go_frame))
    refine bodyPost_ret (yO (P := Tryz.prog) (fn := Tryz.f76) rfl _ rfl (yY OBD.out (by rw [OL.out]; exact yw)) uO rO (by rw [OL.out]; exact zY) rfl) rfl ⟨by rw [RES2.out]; rfl, ?_⟩
    exact FD.out.trans (zJ _ _ _ _) (fun i hi e => by omega)
   ·have hno : O[q.n.toNat]? = none := List.getElem?_eq_none (by omega)
    have RES2 := Hd (RES.out.trans hno)
    have i1 : ¬ q.n < IntKind.u64.wrap (O.length : Int) := by rw [YW hlen]; omega
    have i2 : ¬ q.n < (O.length : Int) := by omega
    clear hno hb
    have K0 := tru
    have K1 := tru
    go_wp2_with (first | ((with_reducible refine zn ?_); have mk := K0.out; with_reducible refine yk 55 ?_; refine zd rfl (yA (t := 103) rfl rfl (zes _)) ?_; go_frame) | ((with_reducible refine zA ?_); have mk := K1.out; refine zq rfl (z6 (ty := 103) (b := n1 + 1) (off := 0) (cs := zG yR) rfl rfl rfl (by rw [PFL.out]; exact yg OBD.out (Nat.le_of_eq yw.symm)) (by rw [PFL.out]; exact zY) ye) ?_; go_frame))
    refine bodyPost_ret (yO (P := Tryz.prog) (fn := Tryz.f76) rfl _ rfl (yY OBD.out (by rw [PFL.out]; exact yw)) uO rO (by rw [PFL.out]; exact zY) rfl) rfl ⟨by rw [RES2.out]; rfl, ?_⟩
    exact FD.out.trans (zJ _ _ _ _) (fun i hi e => by omega)
end
end Go.Proofs.YtdkkjchclkjleaaGreatDoor

/- slices.Delete of one id. -/
namespace Go.Proofs.YtdkkjchclkjleaaGreatDoor
open Go Go.RowKit Go.Maps Go.MapKept
theorem Qj {α : Type} : ∀ (l : List α) (p : Nat), l.take p ++ l.drop (p + 1) = l.eraseIdx p
 | [], p => by simp
 | x :: l, 0 => by simp
 | x :: l, p + 1 => by simp [Qj l p]
theorem YM : ∀ (cs xs : List Value) (o : Nat), o + cs.length ≤ xs.length → (qQ xs o cs).take (o + cs.length) = xs.take o ++ cs
 | [], xs, o, _ => by simp [qQ]
 | v :: r, xs, o, h => by
  simp only [List.length_cons] at h
  simp only [qQ]
  have := YM r (xs.set o v) (o + 1) (by rw [List.length_set]; omega)
  rw [show o + (v :: r).length = o + 1 + r.length by simp; omega, this, List.take_add_one, List.getElem?_set_self (by omega), List.take_set_of_le (Nat.le_refl _)]
  simp
theorem Qm {l : List zi} (ok : ∀ x ∈ l, zQ x) (p : Nat) (hp : p ≤ l.length) : (l.flatMap zj).take (p * 32) = (l.take p).flatMap zj ∧ (l.flatMap zj).drop (p * 32) = (l.drop p).flatMap zj := by
 have h1 : ((l.take p).flatMap zj).length = p * 32 := by
  rw [xL zj 32 _ (fun a ha => zE (ok a (List.mem_of_mem_take ha))), List.length_take, Nat.min_eq_left hp]
 have h2 : l.flatMap zj = (l.take p).flatMap zj ++ (l.drop p).flatMap zj := by rw [← List.flatMap_append, List.take_append_drop]
 rw [h2]
 exact ⟨List.take_left' h1, List.drop_left' h1⟩
set_option maxRecDepth 20000 in
set_option maxHeartbeats 4000000 in
theorem zbx {w : World} {B : Nat} {v : Value} {l : List zi} (hl : w.ownsRow B 41 32 v l.length (l.flatMap zj)) (ok : ∀ x ∈ l, zQ x) (hN : l.length ≤ 100000) {p : Nat} (hp : p < l.length) :
  Calls Tryz.prog 84 #[v, .int .i64 p, .int .i64 (p + 1)] w fun e w' => ∃ v', e = .returned v' ∧ w'.ownsRow B 41 32 v' (l.eraseIdx p).length ((l.eraseIdx p).flatMap zj) ∧ Fr (fun j => v.ownBlock = some j) w w' ∧ ∀ j, v'.ownBlock = some j → v.ownBlock = some j := by
 obtain ⟨n, hn⟩ : ∃ n, n = l.length := ⟨_, rfl⟩
 have EL := Hd (show (l.eraseIdx p).length = n - 1 by rw [List.length_eraseIdx, if_pos hp, hn])
 obtain ⟨g, vc, rfl⟩ : ∃ g vc, v = .slice (some ⟨g, 0, none⟩) n vc := by
  rcases hl.2 with ⟨_, e⟩ | ⟨g, c, cur, e, _⟩
  ·omega
  ·exact ⟨g, c, by rw [e, hn]⟩
 have FT := Hd (Qm ok p (by omega)).1
 have FD := Hd (Qm ok (p + 1) (by omega)).2
 rw [← hn] at hl hp hN
 have hcap : n ≤ vc := xq.cap hl.slice.arg
 obtain ⟨i, hi, hz, hs, hb⟩ := info_parts xI
 have hlen : (l.flatMap zj).length = n * 32 := hl.1
 have hone : ∀ u ∈ (l.drop (p + 1)).flatMap zj, u.oneCell' = true := Jf
 rw [← FD.out] at hone
 have EF := Hd (show (l.take p).flatMap zj ++ (l.drop (p + 1)).flatMap zj = (l.eraseIdx p).flatMap zj by rw [← Qj, List.flatMap_append])
 rw [← FT.out, ← FD.out] at EF
 obtain ⟨xs, hxs⟩ : ∃ xs, xs = l.flatMap zj := ⟨_, rfl⟩
 rw [← hxs] at hl hlen hone EF
 clear FT FD hxs
 obtain ⟨news, hnews⟩ : ∃ news, news = xs.drop ((p + 1) * 32) := ⟨_, rfl⟩
 have hnl : news.length = (n - (p + 1)) * 32 := by rw [hnews, List.length_drop, hlen]; omega
 have hcl : ∀ j u, news[j]? = some u → w.drew.cell? ⟨g, (p + 1) * 32 + j, none⟩ = some u := fun j u hj => by
  rw [hnews, List.getElem?_drop] at hj
  have hlt := (List.getElem?_eq_some_iff.1 hj).1
  show w.cell? _ = _
  rw [hl.cellAt _ (by omega), hj]
 rw [← hnews] at hone EF
 have HD := zl hl (Fr.refl No w).drew (fun _ _ => id)
 have HO1 := Hd (vz HD (p * 32) (cs := news) (by omega))
 have FS1 := Hd ((Fr.refl (fun j => (Value.slice (some ⟨g, 0, none⟩) n vc).ownBlock = some j) w).drew.trans (zJ g news (p * 32) w.drew) (fun k _ hk => by rw [hk]; rfl))
 have happ : ∀ (A : Addr) (c : Nat), (∀ j u, news[j]? = some u → w.drew.cell? (A.add j) = some u) → ∀ ty, (Builtin.append_ #[38, 38] ty #[.slice (some ⟨g, 0, none⟩) p vc, .slice (some A) (n - (p + 1)) c]).run Tryz.prog w.drew = .ok (.slice (some ⟨g, 0, none⟩) (n - 1) vc) (w.drew.setCells g (p * 32) news) := fun A c hA ty => by
  have := run_append_room_cells (P := Tryz.prog) (w := w.drew) 38 ty 41 i xB hi g 0 p vc A (n - (p + 1)) c news (by rw [hs]; exact hnl) hA hone (by omega) (fun j hj => by
   rw [hs, hnl] at *
   rw [show (0 + p * 32 + j) = p * 32 + j by omega, HD.cellAt _ (by omega), List.getElem?_eq_getElem (by omega)]
   rfl) (fun j _ => HD.frozenAt _)
  rw [hs, show p + (n - (p + 1)) = n - 1 by omega, show 0 + p * 32 = p * 32 by omega] at this
  exact this
 obtain ⟨w1, hw1⟩ : ∃ w1, w1 = w.drew.setCells g (p * 32) news := ⟨_, rfl⟩
 rw [← hw1] at HO1 FS1
 simp only [← hw1] at happ
 obtain ⟨cs, hcs, hclr⟩ := Yd (P := Tryz.prog) w1 38 41 0 (zj yN) xB y6 zV (by rw [zE xQ]; decide) g ((n - 1) * 32) (n - (n - 1)) (vc - (n - 1)) (by omega) (fun j hj => by
  rw [zE xQ] at hj
  have hl1 := HO1.out.1
  refine ⟨?_, HO1.out.frozenAt _⟩
  rw [HO1.out.cellAt _ (by omega), List.getElem?_eq_getElem (by omega)]
  rfl)
 rw [zE xQ] at hcs
 have HO2 := Hd (JW (vz HO1.out ((n - 1) * 32) (cs := cs) (by rw [hcs]; omega)) (m := n - 1) (by omega))
 have HF := Hd (show (qQ (qQ xs (p * 32) news) ((n - 1) * 32) cs).take ((n - 1) * 32) = (l.eraseIdx p).flatMap zj by
  rw [YR _ _ _ _ (Nat.le_refl _)]
  have := YM news xs (p * 32) (by omega)
  rw [show p * 32 + news.length = (n - 1) * 32 by omega] at this
  rw [this, EF.out])
 have FZ := Hd (FS1.out.trans (zJ g cs ((n - 1) * 32) w1) (fun k _ hk => by rw [hk]; rfl))
 have CLR := Hd hclr
 have HFIN := Hd (show (w1.setCells g ((n - 1) * 32) cs).ownsRow B 41 32 (.slice (some ⟨g, 0, none⟩) (n - 1) vc) (l.eraseIdx p).length ((l.eraseIdx p).flatMap zj) ∧ Fr (fun j => (Value.slice (some ⟨g, 0, none⟩) n vc).ownBlock = some j) w (w1.setCells g ((n - 1) * 32) cs) ∧ ∀ j, (Value.slice (some ⟨g, 0, none⟩) (n - 1) vc).ownBlock = some j → (Value.slice (some ⟨g, 0, none⟩) n vc).ownBlock = some j from
  ⟨by rw [EL.out, ← HF.out]; exact HO2.out, FZ.out, fun _ h => h⟩)
 have h1 : p ≤ vc := by omega
 have h2 : p + 1 ≤ n := by omega
 have i1 : (0 : Int) ≤ (p : Int) + 1 := by omega
 have i2 : (p : Int) + 1 ≤ (n : Int) := by omega
 have h3 : ¬ vc = n - 1 := by omega
 have i3 : (0 : Int) ≤ ((n - 1 : Nat) : Int) := by omega
 have i4 : ((n - 1 : Nat) : Int) ≤ (n : Int) := by omega
 have i5 : (n : Int) ≤ (vc : Int) := by omega
 have n1 : n - 1 ≤ n := by omega
 clear HO1 FS1 hcs HO2 HF FZ hclr EF EL HD hone hw1 hz hb hs hi
 by_cases hce : vc = p + 1
 ·obtain rfl : n = p + 1 := by omega
  subst hce
  have HAP := Hd (happ ⟨g, 0, none⟩ 0 (fun j u hj => by
   rw [List.length_eq_zero_iff.1 (show news.length = 0 by omega)] at hj
   simp at hj))
  clear happ hcl hnl hnews hlen hl hn ok hN hp
  simp only [Nat.add_sub_cancel, Nat.sub_self, Nat.add_sub_cancel_left] at HAP CLR HFIN
  have h5 : ¬ (p + 1 = p) := by omega
  have i6 : (0 : Int) ≤ (p : Int) := by omega
  have i7 : (p : Int) ≤ (p : Int) + 1 := by omega
  have h6 : p + 1 - p = 1 := by omega
  go_enter Tryz.func84, Tryz.ntmps84
  go_wp2
  refine zv [false, false, false, false, false, false, true, false] (fun w' => True) (by kernel_rfl) (by kernel_rfl) ?_ (fun K hK => ?_)
  ·trivial
  repeat (first | ((first | with_reducible refine zx ?_ | ((with_reducible refine zu ?_ ?_); (focus rfl))); apply Exists.intro; refine ⟨fun w' hS => ?_, ?_⟩; (focus (obtain _ := hS; go_simp; (try with_reducible rfl); done)); try simp only [Act.put, pA, pB, pC]) | ((first | ((with_reducible refine zg (c := false) ?_ ?_ ?_); (focus rfl); (focus rfl)) | ((with_reducible refine zg (c := true) ?_ ?_ ?_); (focus rfl); (focus rfl)) | ((with_reducible refine zt ?_ ?_); (focus rfl))); try simp only [Act.put, pA, pB, pC]))
  (first | with_reducible refine zU (fun K' hK' => ?_) | ((with_reducible refine zK ?_ (fun K' hK' => ?_)); (focus rfl)))
  refine xU rfl rfl rfl (HAP.out _) ?_
  refine hK'.out _ _ ?_ (fun hS => ?_)
  ·trivial
  try simp only [Act.put, pA, pB, pC]
  repeat (first | ((first | with_reducible refine zx ?_ | ((with_reducible refine zu ?_ ?_); (focus rfl))); apply Exists.intro; refine ⟨fun w' hS => ?_, ?_⟩; (focus (obtain _ := hS; go_simp; (try with_reducible rfl); done)); try simp only [Act.put, pA, pB, pC]) | ((first | ((with_reducible refine zg (c := false) ?_ ?_ ?_); (focus rfl); (focus rfl)) | ((with_reducible refine zg (c := true) ?_ ?_ ?_); (focus rfl); (focus rfl)) | ((with_reducible refine zt ?_ ?_); (focus rfl))); try simp only [Act.put, pA, pB, pC]))
  refine zM (hK.out _ _ ?_)
  go_wp2_with (refine jv rfl rfl rfl CLR.out ?_)
  go_ret
  exact ⟨_, rfl, HFIN.out⟩
 ·have HAP := Hd (happ ⟨g, (p + 1) * 32, none⟩ (vc - (p + 1)) (fun j u hj => by rw [J5]; exact hcl j u hj))
  clear happ hcl hnl hnews hlen hl hn ok hN hp
  go_enter Tryz.func84, Tryz.ntmps84
  go_wp2
  refine zv [false, false, false, false, false, false, true, false] (fun w' => True) (by kernel_rfl) (by kernel_rfl) ?_ (fun K hK => ?_)
  ·trivial
  repeat (first | ((first | with_reducible refine zx ?_ | ((with_reducible refine zu ?_ ?_); (focus rfl))); apply Exists.intro; refine ⟨fun w' hS => ?_, ?_⟩; (focus (obtain _ := hS; go_simp; (try with_reducible rfl); done)); try simp only [Act.put, pA, pB, pC]) | ((first | ((with_reducible refine zg (c := false) ?_ ?_ ?_); (focus rfl); (focus rfl)) | ((with_reducible refine zg (c := true) ?_ ?_ ?_); (focus rfl); (focus rfl)) | ((with_reducible refine zt ?_ ?_); (focus rfl))); try simp only [Act.put, pA, pB, pC]))
  (first | with_reducible refine zU (fun K' hK' => ?_) | ((with_reducible refine zK ?_ (fun K' hK' => ?_)); (focus rfl)))
  refine xU rfl rfl rfl (HAP.out _) ?_
  refine hK'.out _ _ ?_ (fun hS => ?_)
  ·trivial
  try simp only [Act.put, pA, pB, pC]
  repeat (first | ((first | with_reducible refine zx ?_ | ((with_reducible refine zu ?_ ?_); (focus rfl))); apply Exists.intro; refine ⟨fun w' hS => ?_, ?_⟩; (focus (obtain _ := hS; go_simp; (try with_reducible rfl); done)); try simp only [Act.put, pA, pB, pC]) | ((first | ((with_reducible refine zg (c := false) ?_ ?_ ?_); (focus rfl); (focus rfl)) | ((with_reducible refine zg (c := true) ?_ ?_ ?_); (focus rfl); (focus rfl)) | ((with_reducible refine zt ?_ ?_); (focus rfl))); try simp only [Act.put, pA, pB, pC]))
  refine zM (hK.out _ _ ?_)
  go_wp2_with (refine jv rfl rfl rfl CLR.out ?_)
  go_ret
  exact ⟨_, rfl, HFIN.out⟩
end Go.Proofs.YtdkkjchclkjleaaGreatDoor

/- stem, plain: what is taken is accepted by an empty pool, one behind the other. -/
namespace Go.Proofs.YtdkkjchclkjleaaGreatDoor
open Go
theorem JB : ∀ (r : List StE) (want : List zi), ∀ e ∈ r, e.id ∈ want → e.id ∈ xH r want
 | [], _, e, h, _ => by cases h
 | a :: r, want, e, h, hw => by
  unfold xH
  by_cases ha : a.id ∈ want
  ·rw [if_pos ha]
   rcases List.mem_cons.1 h with rfl | h
   ·exact .head _
   ·exact .tail _ (JB r _ e h (List.mem_append_right _ hw))
  ·rw [if_neg ha]
   rcases List.mem_cons.1 h with rfl | h
   ·exact absurd hw ha
   ·exact JB r _ e h hw
theorem JM : ∀ (A : List StE) {e : StE} {B : List StE} {want : List zi}, (yc (A ++ e :: B)).Nodup → e.id ∈ xH (A ++ e :: B) want → ∀ q ∈ zS e.tx, ∀ e' ∈ B, e'.id = q.tx → e'.id ∈ xH (A ++ e :: B) want
 | [], e, B, want, hn, he, q, hq, e', he', hid => by
  rw [List.nil_append] at *
  have hn' : e.id ∉ yc B := (List.nodup_cons.1 hn).1
  unfold xH at he ⊢
  by_cases hw : e.id ∈ want
  ·rw [if_pos hw]
   exact .tail _ (JB B _ e' he' (List.mem_append_left _ (List.mem_map.2 ⟨q, hq, hid.symm⟩)))
  ·rw [if_neg hw] at he
   exact absurd (Zm _ _ _ he) hn'
 | a :: A, e, B, want, hn, he, q, hq, e', he', hid => by
  rw [List.cons_append] at *
  obtain ⟨hn1, hn2⟩ := List.nodup_cons.1 (show (a.id :: yc (A ++ e :: B)).Nodup from hn)
  have hne : e.id ≠ a.id := fun c => hn1 (by rw [← c]; unfold yc; simp)
  unfold xH at he ⊢
  by_cases hw : a.id ∈ want
  ·rw [if_pos hw] at he ⊢
   exact .tail _ (JM A hn2 ((List.mem_cons.1 he).resolve_left hne) q hq e' he' hid)
  ·rw [if_neg hw] at he ⊢
   exact JM A hn2 he q hq e' he' hid
def zja (K : List zi) (l : List StE) : Prop := ∀ A e B, l = A ++ e :: B → e.id ∈ K → ∀ q ∈ zS e.tx, ∀ e' ∈ A, e'.id = q.tx → e'.id ∈ K
theorem Xm {l : List StE} (hn : (yc l).Nodup) (x : zi) : zja (yM l x) l := by
 intro A e B hl he q hq e' he' hid
 unfold yM at *
 have hr : l.reverse = B.reverse ++ e :: A.reverse := by rw [hl]; simp
 have hn2 : (yc (B.reverse ++ e :: A.reverse)).Nodup := by
  rw [← hr]
  unfold yc
  rw [List.map_reverse]
  exact List.pairwise_reverse.2 (hn.imp fun h => h.symm)
 rw [hr] at he ⊢
 exact JM _ hn2 he q hq e' (List.mem_reverse.2 he') hid
theorem VS {l : List StE} {e : StE} (he : e ∈ l) : e.id ∈ yM l e.id := JB _ _ e (List.mem_reverse.2 he) (by simp)
inductive J8 (S : List zy) : List StE → Prop
 | nil : J8 S []
 | snoc {A : List StE} {e : StE} : J8 S A → qV S [] [] A e.tx = 0 → e.id = idH e.tx → J8 S (A ++ [e])
def both (l : List StE) : List (zi × TxD) := l.map fun e => (e.id, e.tx)
def JI (l : List z7) : List (zi × TxD) := l.map fun e => (e.id, e.tx)
theorem zff {l : List StE} {L : List z7} (h : JI L = both l) (x : zi) : (Yh L x).map (·.tx) = (ju l x).map (·.tx) := by
 unfold JI both at h
 unfold Yh ju
 induction L generalizing l with
 | nil =>
  cases l with
  | nil => rfl
  | cons b l => simp at h
 | cons a L ih =>
  cases l with
  | nil => simp at h
  | cons b l =>
   simp only [List.map_cons, List.cons.injEq, Prod.mk.injEq] at h
   obtain ⟨⟨h1, h2⟩, h3⟩ := h
   by_cases hx : a.id = x
   ·rw [List.find?_cons_of_pos (by simpa using hx), List.find?_cons_of_pos (by simpa [← h1] using hx)]
    simp [h2]
   ·rw [List.find?_cons_of_neg (by simpa using hx), List.find?_cons_of_neg (by simpa [← h1] using hx)]
    exact ih h3
theorem zcR {l : List StE} {L : List z7} (h : JI L = both l) : xD L = yc l := by
 have := congrArg (List.map Prod.fst) h
 unfold JI both at this
 rw [List.map_map, List.map_map] at this
 exact this
theorem zdj {l : List StE} {L : List z7} (h : JI L = both l) (q : zF) : yQ L q = Xv l q := by
 unfold yQ Xv
 have := zff h q.tx
 cases h1 : Yh L q.tx with
 | none =>
  rw [h1] at this
  cases h2 : ju l q.tx with
  | none => rfl
  | some b => rw [h2] at this; cases this
 | some a =>
  rw [h1] at this
  cases h2 : ju l q.tx with
  | none => rw [h2] at this; cases this
  | some b =>
   rw [h2] at this
   simp only [Option.map_some, Option.some.injEq] at this
   simp [this]
theorem zdA {l : List StE} {L : List z7} (h : JI L = both l) {q : zF} (hs : xw L q = true) : jB l q = true := by
 obtain ⟨e, he, hq⟩ := vp.1 hs
 have : (e.id, e.tx) ∈ both l := by rw [← h]; exact List.mem_map.2 ⟨e, he, rfl⟩
 obtain ⟨b, hb, hbe⟩ := List.mem_map.1 this
 injection hbe with h1 h2
 exact vQ.2 ⟨b, hb, by rw [h2]; exact hq⟩
theorem zeW (S : List zy) (q : zF) : xR S [] q = if xV S q = true then some (yr S q) else none := rfl
theorem zbD {A : List StE} {x : zi} {K : List zi} (hx : x ∈ K) : ju (A.filter fun e => decide (e.id ∈ K)) x = ju A x := by
 unfold ju
 induction A with
 | nil => rfl
 | cons a A ih =>
  by_cases ha : a.id ∈ K
  ·rw [List.filter_cons_of_pos (by simpa using ha)]
   by_cases hax : a.id = x
   ·rw [List.find?_cons_of_pos (by simpa using hax), List.find?_cons_of_pos (by simpa using hax)]
   ·rw [List.find?_cons_of_neg (by simpa using hax), List.find?_cons_of_neg (by simpa using hax)]
    exact ih
  ·rw [List.filter_cons_of_neg (by simpa using ha), List.find?_cons_of_neg (by simp; rintro rfl; exact ha hx)]
   exact ih
theorem zan {S : List zy} {A : List StE} {e : StE} {K : List zi} {P : List z7} (hk : qV S [] [] A e.tx = 0) (hK : e.id ∈ K) (hcl : ∀ q ∈ zS e.tx, ∀ e' ∈ A, e'.id = q.tx → e'.id ∈ K) (hP : JI P = both (A.filter fun e => decide (e.id ∈ K))) (hok : GOk (gOf P)) :
  Jl S [] P e.tx = 0 ∧ Jy S [] P e.tx = [] ∧ JR S [] P e.tx 0 = P ++ [mkE S P e.tx 0] := by
 obtain ⟨k1, k2, k3, k4, k5, k6, k7, k8, k9⟩ := keep0 hk
 have hlen : P.length ≤ A.length := by
  have h1 : (xD P).length = P.length := List.length_map _
  rw [← h1, zcR hP, xk]
  exact List.length_filter_le _ _
 have hlook : ∀ q ∈ zS e.tx, xR S P q = Jk S [] A q := fun q hq => by
  have h7 := k7 q hq
  unfold Jk at h7 ⊢
  rw [zeW] at h7 ⊢
  unfold xR
  by_cases hc : xV S q = true
  ·rw [if_pos hc, if_pos hc]
  ·rw [if_neg hc] at h7 ⊢
   rw [if_neg hc]
   simp only at h7 ⊢
   rw [zdj hP]
   unfold Xv at h7 ⊢
   cases hs : ju A q.tx with
   | none => rw [hs] at h7; cases h7
   | some e' =>
    obtain ⟨m1, m2⟩ := VR hs
    rw [zbD (by rw [← m2]; exact hcl q hq e' m1 m2), hs]
 have hprev : xm S P e.tx = qX S [] A e.tx := List.map_congr_left fun q hq => by rw [hlook q hq]
 have h0 : xT S [] P e.tx = 0 := by
  refine zcf (fun h => k2 ?_) (by simp) (za0.2 ⟨fun q hq => ?_, fun q hq => by rw [hlook q hq]; exact k7 q hq⟩) (by rw [hprev]; exact k8) (by rw [hprev]; exact k9) ?_
  ·rw [zcR hP] at h
   obtain ⟨b, hb, hbe⟩ := List.mem_map.1 h
   exact List.mem_map.2 ⟨b, (List.mem_filter.1 hb).1, hbe⟩
  ·cases hs : xw P q with
   | false => rfl
   | true =>
    obtain ⟨b, hb, hbq⟩ := vQ.1 (zdA hP hs)
    have := (k6 q hq).1
    rw [vQ.2 ⟨b, (List.mem_filter.1 hb).1, hbq⟩] at this
    cases this
  ·have h1 := (qJ (G := gOf P) (xe P e.tx)).length_le
   have h2 : (ids (gOf P)).length = P.length := by rw [qv]; exact List.length_map _
   omega
 exact zf0 (e := mkE S P e.tx 0) (by omega) k1 h0 rfl
end Go.Proofs.YtdkkjchclkjleaaGreatDoor
