/- pool: prev. (Written by gen_prev.py.) -/
import Derived.Test.YtdkkjchclkjleaaGreatDoorSG26
import Derived.Test.YtdkkjchclkjleaaGreatDoorSG12
import Derived.Test.YtdkkjchclkjleaaGreatDoorSG13
set_option linter.unusedVariables false
set_option linter.unusedSimpArgs false
set_option linter.unnecessarySimpa false
set_option linter.all false
namespace Go.Proofs.YtdkkjchclkjleaaGreatDoor
open Go Go.RowKit Go.Maps Go.MapKept
theorem ze0 {L : List z7} {t : TxD} {n : Nat} {q : zF} (h : (zS t)[n]? = some q) : (((zS t).take (n + 1)).filter fun q => (yQ L q).isSome).map (·.tx) = (((zS t).take n).filter fun q => (yQ L q).isSome).map (·.tx) ++ (if (yQ L q).isSome = true then [q.tx] else []) := by
 rw [List.take_add_one, h]
 by_cases hs : (yQ L q).isSome = true
 ·simp [List.filter_append, hs]
 ·simp [List.filter_append, hs]
def qG (L : List z7) (t : TxD) (n : Nat) : List zi := (((zS t).take n).filter fun q => (yQ L q).isSome).map (·.tx)
def V2 (S : List zy) (L : List z7) (t : TxD) (n : Nat) : List yF := ((zS t).take n).map fun q => (xR S L q).getD yR
theorem zgd (L : List z7) (t : TxD) (n : Nat) : (qG L t n).length ≤ n := by
 unfold qG
 rw [List.length_map]
 have h1 := List.length_filter_le (fun q => (yQ L q).isSome) ((zS t).take n)
 have h2 : ((zS t).take n).length ≤ n := by rw [List.length_take]; omega
 omega
theorem zcc (S : List zy) (L : List z7) (t : TxD) {n : Nat} (h : n ≤ t.ins.length) : (V2 S L t n).length = n := by
 unfold V2
 rw [List.length_map, List.length_take, qW]
 omega
def Qc (w : World) (S : List zy) (L : List z7) (t : TxD) (e : Ending) (w' : World) : Prop :=
 ∃ ov pv, e = .returned (.tuple #[ov, pv, .int .i64 (jM S L t)]) ∧ Fr No w w' ∧ (jM S L t = 0 → xz w' ov (xm S L t) ∧ w'.ownsRow w.heap.size 41 32 pv (xe L t).length ((xe L t).flatMap zj))
theorem Qc.bad {w w' : World} {S : List zy} {L : List z7} {t : TxD} {c : Int} (h : jM S L t = c) (hc : c ≠ 0) (f : Fr No w w') (a b : Value) : Qc w S L t (.returned (.tuple #[a, b, .int .i64 c])) w' :=
 ⟨a, b, by rw [h], f, fun e => absurd (h.symm.trans e) hc⟩
theorem JZ {L : List z7} (h : ∀ e ∈ L, ∀ x ∈ e.tx.outs, x.ok) (q : zF) : ((yQ L q).getD yR).ok := by
 cases hf : yQ L q with
 | none => exact JE
 | some o =>
  obtain ⟨e, he, -, ho⟩ := Vu hf
  exact h e he o (List.mem_of_getElem? ho)
theorem yf.outs_ok {w0 w : World} {p ma ms g N : Nat} {VG X : Nat → Prop} {C : zi → List Value} {L : List z7} (h : yf w0 w p ma ms g VG X C L N) : ∀ e ∈ L, ∀ x ∈ e.tx.outs, x.ok := fun e he => by
 obtain ⟨t, -, ht⟩ := (h.data e he).now
 exact ht.oks.2
section
variable {w0 w : World} {p ma ms g N : Nat} {VG X : Nat → Prop} {C : zi → List Value} {L : List z7}
set_option maxRecDepth 20000 in
set_option maxHeartbeats 8000000 in
theorem YZ (h : yf w0 w p ma ms g VG X C L N) {w1 : World} {pc : Nat} {VC : Nat → Prop} {S : List zy} {bs : List xt} {I : List zi} (hc : Cn w1 w pc VC S bs I) (hS : ∀ c ∈ S, c.ok) {t : TxD} {cs : List Value} (ht : TxQ w t cs) (hN : t.ins.length ≤ 1000) :
  Calls Tryz.prog 86 #[.pointer (some ⟨p, 0, none⟩), .pointer (some ⟨pc, 0, none⟩), .agg cs.toArray] w (Qc w S L t) := by
 obtain ⟨dT, uT, rT⟩ := vw
 obtain ⟨dP, uP, rP⟩ := xr
 obtain ⟨dO, uO, rO⟩ := vA
 obtain ⟨dH, uH, rH⟩ := yj
 have zo := qT
 have zp := jA
 have HTL := Hd (qW t)
 have POK := Hd (show ∀ q ∈ zS t, q.ok from fun q hq => by obtain ⟨x, hx, rfl⟩ := List.mem_map.1 hq; exact ht.oks.1 x hx)
 obtain ⟨ia, ic, oa, oc, rfl⟩ := ht.form
 have F1 := Hd ((Fr.refl No w).alloc (.cells #[.int .u32 t.ver, .slice ia t.ins.length ic, .slice oa t.outs.length oc] 34))
 have R0 := Hd (qZ w t.ver (.slice ia t.ins.length ic) (.slice oa t.outs.length oc)).2.2.2
 have HP := Hd (vP _ (ht.keep F1.out) hN)
 have HSP := Hd (fun w' (f : Fr No w w') (q : zF) (hq : q.ok) => zed (h.fr0 f) hq)
 have HFP := Hd (fun w' (f : Fr No w w') (q : zF) (hq : q.ok) => zgU (h.fr0 f) hq)
 have HFC := Hd (fun w' (f : Fr No w w') (q : zF) (hq : q.ok) => za4 (hc.fr0 f) hq)
 have XP := Hd (fun q => JZ h.outs_ok q)
 have XC := Hd (fun q => jT hS q)
 have PI := Hd (show ∀ x ∈ xe L t, zQ x from fun x hx => h.ids x (J2 hx))
 clear h hc ht hS
 show Calls Tryz.prog 86 #[.pointer (some ⟨p, 0, none⟩), .pointer (some ⟨pc, 0, none⟩), .agg #[.int .u32 t.ver, .slice ia t.ins.length ic, .slice oa t.outs.length oc]] w _
 go_enter Tryz.func86, Tryz.ntmps86
 have K0 := tru
 have K1 := tru
 go_wp2_with (first | ((with_reducible refine zn ?_); have mk := K0.out; refine zd rfl (zf (ty := 34) rfl rfl R0.out uT rT zR) ?_; go_frame) | (clear K1; go_at_call 33; refine HP.out.mono ?_; rintro e w2 ⟨v, rfl, ho, f2⟩; obtain ⟨va, vc, hv⟩ := ho.slice.arg.form; subst hv; have F2 := Hd (F1.out.trans0 f2); have O2 := Hd ho; clear ho f2; go_frame))
 have HPI := Hd (show qg w2 (.slice va t.ins.length vc) (zS t) from ⟨POK.out, by rw [HTL.out]; exact O2.out.slice.arg⟩)
 go_loopw [6, 7, 22] (fun ov pv iv wr => ∃ n : Nat, ov = .slice none 0 0 ∧ pv = .slice none 0 0 ∧ iv = .int .i64 n ∧ n ≤ t.ins.length ∧ (∀ q ∈ (zS t).take n, xw L q = false) ∧ Fr No w2 wr) (fun _ _ iv _ => t.ins.length - (intOf iv).toNat)
 case atStart => exact ⟨0, rfl, rfl, rfl, Nat.zero_le _, by simp, Fr.refl _ _⟩
 case round =>
  obtain ⟨n, rfl, rfl, rfl, hn, hal, fr⟩ := hrel
  have FR := Hd fr
  have AL := Hd hal
  clear fr hal
  by_cases hlt : n < t.ins.length
  ·have i1 : (n : Int) < (t.ins.length : Int) := by omega
   obtain ⟨q, hx⟩ : ∃ q, (zS t)[n]? = some q := ⟨_, List.getElem?_eq_getElem (by rw [HTL.out]; exact hlt)⟩
   have HX := Hd hx
   have QOK := Hd (POK.out q (List.mem_of_getElem? hx))
   obtain ⟨b, off, cap, e, hr, -⟩ := (HPI.out.keep FR.out).at_ hx
   injection e with e1 e2 e3
   subst e1
   have R1 := Hd hr
   have PL := Hd (yb QOK.out)
   have RN := Hd (zC wr (zB q) 95)
   have FA := Hd (FR.out.alloc (.cells (zB q).toArray 95))
   have HS1 := Hd (HSP.out _ (F2.out.trans0 FA.out) q QOK.out)
   clear hr hx e2 e3
   by_cases hs : xw L q = true
   ·have PE := Hd (show jM S L t = 14 by
     unfold jM
     rw [if_pos (List.any_eq_true.2 ⟨q, List.mem_of_getElem? HX.out, hs⟩)])
    rw [hs] at HS1
    clear hs
    have K0 := tru
    have K1 := tru
    have K2 := tru
    have K3 := tru
    go_wp2_with (first | ((with_reducible refine zn ?_); have mk := K0.out; refine zd rfl (zf (ty := 95) rfl rfl R1.out uP rP (by rw [PL.out]; exact zL)) ?_; go_frame) | ((with_reducible refine zA ?_); have mk := K1.out; refine zq rfl (zm (w := wr) (cs := zB q) (ty := 95) rfl rfl rfl (by rw [PL.out]; rfl) (by rw [PL.out]; exact zL) y3) ?_; go_frame) | ((with_reducible refine zn ?_); have mk := K2.out; refine zd rfl (zf (ty := 95) rfl rfl RN.out uP rP (by rw [PL.out]; exact zL)) ?_; go_frame) | (clear K3; go_at_call 75; refine HS1.out.mono ?_; rintro e w4 ⟨rfl, f4⟩; have F4 := Hd f4; clear f4; go_frame))
    go_ret3
    exact Qc.bad PE.out (by decide) ((F2.out.trans0 FA.out).trans0 F4.out) _ _
   ·have hs2 : xw L q = false := by simpa using hs
    have ALN := Hd (show ∀ q ∈ (zS t).take (n + 1), xw L q = false from fun y hy => by
     rw [List.take_add_one, HX.out] at hy
     rcases List.mem_append.1 hy with hy | hy
     ·exact AL.out y hy
     ·simp at hy; subst hy; exact hs2)
    rw [hs2] at HS1
    clear hs hs2
    have K0 := tru
    have K1 := tru
    have K2 := tru
    have K3 := tru
    go_wp2_with (first | ((with_reducible refine zn ?_); have mk := K0.out; refine zd rfl (zf (ty := 95) rfl rfl R1.out uP rP (by rw [PL.out]; exact zL)) ?_; go_frame) | ((with_reducible refine zA ?_); have mk := K1.out; refine zq rfl (zm (w := wr) (cs := zB q) (ty := 95) rfl rfl rfl (by rw [PL.out]; rfl) (by rw [PL.out]; exact zL) y3) ?_; go_frame) | ((with_reducible refine zn ?_); have mk := K2.out; refine zd rfl (zf (ty := 95) rfl rfl RN.out uP rP (by rw [PL.out]; exact zL)) ?_; go_frame) | (clear K3; go_at_call 75; refine HS1.out.mono ?_; rintro e w4 ⟨rfl, f4⟩; have F4 := Hd f4; clear f4; go_frame))
    go_roundw
    case rel => exact ⟨n + 1, rfl, rfl, by go_num, by omega, ALN.out, FA.out.trans0 F4.out⟩
    case measure => simp [intOf]; omega
  ·have hne : n = t.ins.length := by omega
   have i1 : ¬ (n : Int) < (t.ins.length : Int) := by omega
   have HAL := Hd (show ∀ q ∈ zS t, xw L q = false from fun q hq => AL.out q (by rw [hne, ← HTL.out, List.take_length]; exact hq))
   have FR2 := Hd (F2.out.trans0 FR.out)
   have HPR := Hd (HPI.out.keep FR.out)
   clear hne AL hlt hn
   go_wp2_with fail
   generalize wr = ws at *
   go_loopw [6, 7, 32] (fun ov pv iv wq => ∃ n : Nat, iv = .int .i64 n ∧ n ≤ t.ins.length ∧ (∀ q ∈ (zS t).take n, (xR S L q).isSome = true) ∧ ∃ oa oc pa pc, ov = .slice oa n oc ∧ pv = .slice pa (qG L t n).length pc ∧ wq.ownsRow ws.heap.size 103 33 (.slice oa n oc) n ((V2 S L t n).flatMap zG) ∧ wq.ownsRow ws.heap.size 41 32 (.slice pa (qG L t n).length pc) (qG L t n).length ((qG L t n).flatMap zj) ∧ (∀ j, (Value.slice oa n oc).ownBlock = some j → (Value.slice pa (qG L t n).length pc).ownBlock = some j → False) ∧ Fr No ws wq) (fun _ _ iv _ => t.ins.length - (intOf iv).toNat)
   case atStart => exact ⟨0, rfl, Nat.zero_le _, by simp, none, 0, none, 0, rfl, rfl, World.ownsRow_nil _ _ _ _, World.ownsRow_nil _ _ _ _, fun j h _ => (by cases h), Fr.refl _ _⟩
   case round =>
    obtain ⟨n, rfl, hn, hal, oa', oc', pa, pc', rfl, rfl, hoo, hpp, hds, fr⟩ := hrel
    rename World => wq
    have FR := Hd fr
    have AL := Hd hal
    have OO := Hd hoo
    have PP := Hd hpp
    have DS := Hd hds
    have PTL := Hd (zgd L t n)
    clear fr hal hoo hpp hds
    by_cases hlt : n < t.ins.length
    ·have i1 : (n : Int) < (t.ins.length : Int) := by omega
     obtain ⟨q, hx⟩ : ∃ q, (zS t)[n]? = some q := ⟨_, List.getElem?_eq_getElem (by rw [HTL.out]; exact hlt)⟩
     have HX := Hd hx
     have QOK := Hd (POK.out q (List.mem_of_getElem? hx))
     obtain ⟨b, off, cap, e, hr, -⟩ := (HPR.out.keep FR.out).at_ hx
     injection e with e1 e2 e3
     subst e1
     have R1 := Hd hr
     have PL := Hd (yb QOK.out)
     have HL := Hd (zE QOK.out.1)
     have RN := Hd (zC wq (zB q) 95)
     have FA := Hd ((Fr.refl No wq).alloc (.cells (zB q).toArray 95))
     have FWA := Hd (FR2.out.trans0 (FR.out.trans0 FA.out))
     have HF1 := Hd (HFP.out _ FWA.out q QOK.out)
     have X1L := Hd (yD (XP.out q))
     have X2L := Hd (yD (XC.out q))
     have PSN := Hd (ze0 (L := L) HX.out)
     have PRN := Hd (show V2 S L t (n + 1) = V2 S L t n ++ [(xR S L q).getD yR] by unfold V2; rw [List.take_add_one, HX.out]; simp)
     have PRL := Hd (zcc S L t hn)
     have HFC1 := Hd (fun w' (f : Fr No w w') => HFC.out w' f q QOK.out)
     have LK := Hd (show xR S L q = if xV S q = true then some (yr S q) else yQ L q from rfl)
     clear hr hx e2 e3
     by_cases hm : (yQ L q).isSome = true
     ·by_cases hk : xV S q = true
      ·skip
       have HM := Hd hm
       have HK := Hd hk
       rw [hm] at HF1
       rw [hk] at HFC1
       clear hm hk
       have K0 := tru
       have K1 := tru
       have K2 := tru
       have K3 := tru
       have K4 := tru
       have K5 := tru
       have K6 := tru
       have K7 := tru
       have K8 := tru
       have K9 := tru
       have K10 := tru
       have K11 := tru
       have K12 := tru
       have K13 := tru
       have K14 := tru
       have K15 := tru
       go_wp2_with (first | ((with_reducible refine zn ?_); have mk := K0.out; refine zd rfl (zf (ty := 95) rfl rfl R1.out uP rP (by rw [PL.out]; exact zL)) ?_; go_frame) | ((with_reducible refine zA ?_); have mk := K1.out; refine zq rfl (zm (w := wq) (cs := zB q) (ty := 95) rfl rfl rfl (by rw [PL.out]; rfl) (by rw [PL.out]; exact zL) y3) ?_; generalize hqb : wq.heap.size = qb at *; generalize hwa : wq.alloc (.cells (zB q).toArray 95) = wa at *; go_frame) | ((with_reducible refine zn ?_); have mk := K2.out; refine zd rfl (zf (ty := 95) rfl rfl RN.out uP rP (by rw [PL.out]; exact zL)) ?_; go_frame) | (clear K3; go_at_call 127; refine HF1.out.mono ?_; rintro e w3 ⟨rfl, f3⟩; have F3 := Hd f3; clear f3; have ZA := Hd (show qb < wa.heap.size by rw [← hwa, ← hqb]; simp); clear hwa; have RN3 := Hd (zb RN.out F3.out id); have RO3 := Hd (zC w3 (zG ((yQ L q).getD yR)) 103); have FB := Hd ((Fr.refl No w3).alloc (.cells (zG ((yQ L q).getD yR)).toArray 103)); have BO := Hd (yn w3 (.cells (zG ((yQ L q).getD yR)).toArray 103)); have RN4 := Hd (zb RN3.out FB.out id); have FQ4 := Hd ((FA.out.trans0 F3.out).trans0 FB.out); go_frame) | ((with_reducible refine zA ?_); have mk := K4.out; refine zq rfl (zm (w := w3) (cs := zG ((yQ L q).getD yR)) (ty := 103) rfl rfl rfl (by rw [X1L.out]; rfl) (by rw [X1L.out]; exact zY) ye) ?_; generalize hqo : w3.heap.size = qo at *; generalize hwb : w3.alloc (.cells (zG ((yQ L q).getD yR)).toArray 103) = w4 at *; have Z4 := Hd (show qo < w4.heap.size by rw [← hwb, ← hqo]; simp); have ZQ := Hd (show qb < qo by have := ZA.out; have := F3.out.size; omega); clear hwb; obtain ⟨v5, w5, a1, a2, a3, -, a5⟩ := xj (P := Tryz.prog) w4 ws.heap.size 38 38 41 32 32 _ xB xI rfl (by decide) (zl PP.out FQ4.out (fun _ _ => id)) (zj q.tx) HL.out zV (by have := PTL.out; omega) (by have := PTL.out; unfold maxLen; omega) (by have := FR.out.size; have := FQ4.out.size; omega); obtain ⟨va5, vc5, hv5⟩ := a2.slice.arg.form; subst hv5; have A1 := Hd a1; have A2 := Hd a2; have A3 := Hd a3; have A5 := Hd a5; clear a1 a2 a3 a5; have NP := Hd (show ∀ j, (Value.slice pa (qG L t n).length pc').ownBlock = some j → j < wq.heap.size ∧ ws.heap.size ≤ j from fun j hj => ⟨(PP.out.lt j hj).2, (PP.out.lt j hj).1⟩); have RN5 := Hd (zb RN4.out A3.out (fun e => by have := (NP.out _ e).1; omega)); have RO5 := Hd (zb RO3.out A3.out (fun e => by have := (NP.out _ e).1; have := ZQ.out; omega)); have BO5 := Hd (A3.out.obj BO.out (fun e => by have := (NP.out _ e).1; have := ZQ.out; omega)); go_frame) | ((with_reducible refine zn ?_); have mk := K5.out; with_reducible refine yk 45 ?_; refine zd rfl (zf (ty := 41) rfl rfl (Qn RN4.out QOK.out).1 uH rH (by have := HL.out; unfold zj at this; rw [this]; exact zr)) ?_; go_frame) | ((with_reducible refine zn ?_); have mk := K6.out; refine zd rfl (zZ (t := 38) rfl rfl xB qs rfl (by decide) (by decide) HL.out) ?_; go_frame) | ((with_reducible refine zn ?_); have mk := K7.out; at_builtin; refine zW rfl rfl rfl rfl A1.out ?_; have FW5 := Hd (show Fr No w w5 from (FWA.out.trans0 (F3.out.trans0 FB.out)).trans A3.out (fun i hi e => by have := (NP.out _ e).2; have := FR2.out.size; omega)); have HC1 := Hd (HFC1.out _ FW5.out); go_frame) | ((with_reducible refine zn ?_); have mk := K8.out; with_reducible refine yk 50 ?_; refine zd rfl (zf (ty := 95) rfl rfl RN5.out uP rP (by rw [PL.out]; exact zL)) ?_; go_frame) | (clear K9; go_at_call 126; refine HC1.out.mono ?_; rintro e w6 ⟨rfl, f6⟩; have F6 := Hd f6; clear f6; have RO6 := Hd (zb RO5.out F6.out id); have BO6 := Hd (F6.out.obj BO5.out id); have RC6 := Hd (zC w6 (zG (yr S q)) 103); have FC := Hd ((Fr.refl No w6).alloc (.cells (zG (yr S q)).toArray 103)); go_frame) | ((with_reducible refine zA ?_); have mk := K10.out; refine zq rfl (zm (w := w6) (cs := zG (yr S q)) (ty := 103) rfl rfl rfl (by rw [X2L.out]; rfl) (by rw [X2L.out]; exact zY) ye) ?_; generalize hqc : w6.heap.size = qc at *; generalize hwc : w6.alloc (.cells (zG (yr S q)).toArray 103) = w7 at *; have RO7 := Hd (zb RO6.out FC.out id); have BO7 := Hd (FC.out.obj BO6.out id); have ZC := Hd (show qo < qc by have := F6.out.size; have := Z4.out; have := A3.out.size; omega); clear hwc; have F8 := Hd (zJ qo (zG (yr S q)) 0 w7); have RF := Hd (show (w7.setCells qo 0 (zG (yr S q))).rangeAt qo 0 (zG (yr S q)) from yY BO7.out (by rw [X2L.out, List.size_toArray, X1L.out])); go_frame) | ((with_reducible refine zn ?_); have mk := K11.out; with_reducible refine yk 55 ?_; refine zd rfl (zf (ty := 103) rfl rfl RC6.out uO rO (by rw [X2L.out]; exact zY)) ?_; go_frame) | ((with_reducible refine zA ?_); have mk := K12.out; refine zq rfl (z6 (ty := 103) (b := qo) (off := 0) (cs := zG (yr S q)) rfl rfl rfl (by rw [X2L.out]; exact yg BO7.out (by rw [List.size_toArray, X1L.out]; exact Nat.le_refl _)) (by rw [X2L.out]; exact zY) ye) ?_; generalize hwe : w7.setCells qo 0 (zG (yr S q)) = w8 at *; have O7 := Hd (show w7.ownsRow ws.heap.size 103 33 (.slice oa' n oc') n ((V2 S L t n).flatMap zG) from zl (zl (zl OO.out FQ4.out (fun _ _ => id)) A3.out (fun j hj e => DS.out j hj e)) (F6.out.trans0 FC.out) (fun _ _ => id)); have P7 := Hd (show w7.ownsRow ws.heap.size 41 32 (.slice va5 ((qG L t n).length + 1) vc5) ((qG L t n).length + 1) ((qG L t n).flatMap zj ++ zj q.tx) from zl A2.out (F6.out.trans0 FC.out) (fun _ _ => id)); have PB := Hd (show ∀ j, (Value.slice va5 ((qG L t n).length + 1) vc5).ownBlock = some j → j ≠ qo ∧ ((Value.slice oa' n oc').ownBlock = some j → False) from fun j hj => ⟨fun e => by rcases A5.out j hj with h | h; (have := (NP.out j h).1; have := ZQ.out; omega); (have := Z4.out; omega), fun e => by rcases A5.out j hj with h | h; exact DS.out j e h; (have := (OO.out.lt j e).2; have := FQ4.out.size; omega)⟩); have O8 := Hd (zl O7.out F8.out (fun j hj e => by have := (OO.out.lt j hj).2; have := ZQ.out; omega)); have P8 := Hd (zl P7.out F8.out (fun j hj e => (PB.out j hj).1 e)); have FW8 := Hd (show Fr No w _ from ((FW5.out.trans0 F6.out).trans0 FC.out).trans F8.out (fun i hi e => by have := FWA.out.size; have := ZA.out; have := F3.out.size; have := ZQ.out; have := FR2.out.size; have := FR.out.size; omega)); have FS8 := Hd (show Fr No ws _ from (((((FR.out.trans0 FQ4.out).trans A3.out (fun i hi e => by have := (NP.out _ e).2; omega)).trans0 F6.out).trans0 FC.out)).trans F8.out (fun i hi e => by have := ZQ.out; have := FR.out.size; omega)); have HLV := Hd (show (xR S L q).getD yR = yr S q by rw [LK.out, if_pos HK.out]; rfl); have HLS := Hd (show (xR S L q).isSome = true by rw [LK.out, if_pos HK.out]; rfl); obtain ⟨v9, w9, b1, b2, b3, -, b5⟩ := xj (P := Tryz.prog) _ ws.heap.size 22 22 103 33 40 _ vx ZU (by rw [← yw]; rfl) (by decide) O8.out (zG (yr S q)) X2L.out ye (by omega) (by unfold maxLen; omega) FS8.out.size; obtain ⟨va9, vc9, hv9⟩ := b2.slice.arg.form; subst hv9; have B1 := Hd b1; have B2 := Hd b2; have B3 := Hd b3; have B5 := Hd b5; clear b1 b2 b3 b5; have NO := Hd (show ∀ j, (Value.slice oa' n oc').ownBlock = some j → ws.heap.size ≤ j ∧ j < wq.heap.size from fun j hj => OO.out.lt j hj); have P9 := Hd (zl P8.out B3.out (fun j hj e => (PB.out j hj).2 e)); have FS9 := Hd (FS8.out.trans B3.out (fun i hi e => by have := (NO.out _ e).1; omega)); have DS9 := Hd (show ∀ j, (Value.slice va9 (n + 1) vc9).ownBlock = some j → (Value.slice va5 ((qG L t n).length + 1) vc5).ownBlock = some j → False from fun j ho hp => by rcases B5.out j ho with h | h; exact (PB.out j hp).2 h; (have := (P8.out.lt j hp).2; omega)); go_frame) | ((with_reducible refine zn ?_); have mk := K13.out; with_reducible refine yk 59 ?_; refine zd rfl (zf (ty := 103) rfl rfl RF.out uO rO (by rw [X2L.out]; exact zY)) ?_; go_frame) | ((with_reducible refine zn ?_); have mk := K14.out; refine zd rfl (zZ (t := 22) rfl rfl vx jC (by rw [← yw]; rfl) (by decide) (by decide) X2L.out) ?_; go_frame) | ((with_reducible refine zn ?_); have mk := K15.out; at_builtin; refine zW rfl rfl rfl rfl B1.out ?_; go_frame))
       have PT := Hd (show qG L t (n + 1) = qG L t n ++ [q.tx] by unfold qG; rw [PSN.out, if_pos HM.out])
       have PTN := Hd (show (qG L t (n + 1)).length = (qG L t n).length + 1 by rw [PT.out]; simp)
       have ALN := Hd (show ∀ q ∈ (zS t).take (n + 1), (xR S L q).isSome = true from fun y hy => by
        rw [List.take_add_one, HX.out] at hy
        rcases List.mem_append.1 hy with hy | hy
        ·exact AL.out y hy
        ·simp at hy; subst hy; exact HLS.out)
       go_roundw
       case rel => exact ⟨n + 1, by go_num, by omega, ALN.out, va9, vc9, va5, vc5, rfl, by rw [PTN.out], by rw [PRN.out, HLV.out, List.flatMap_append]; simpa using B2.out, by rw [PTN.out, PT.out, List.flatMap_append]; simpa using P9.out, by rw [PTN.out]; exact DS9.out, FS9.out⟩
       case measure => simp [intOf]; omega
      ·replace hk : xV S q = false := by simpa using hk
       have HM := Hd hm
       have HK := Hd hk
       rw [hm] at HF1
       rw [hk] at HFC1
       clear hm hk
       have K0 := tru
       have K1 := tru
       have K2 := tru
       have K3 := tru
       have K4 := tru
       have K5 := tru
       have K6 := tru
       have K7 := tru
       have K8 := tru
       have K9 := tru
       have K10 := tru
       have K11 := tru
       have K12 := tru
       have K13 := tru
       go_wp2_with (first | ((with_reducible refine zn ?_); have mk := K0.out; refine zd rfl (zf (ty := 95) rfl rfl R1.out uP rP (by rw [PL.out]; exact zL)) ?_; go_frame) | ((with_reducible refine zA ?_); have mk := K1.out; refine zq rfl (zm (w := wq) (cs := zB q) (ty := 95) rfl rfl rfl (by rw [PL.out]; rfl) (by rw [PL.out]; exact zL) y3) ?_; generalize hqb : wq.heap.size = qb at *; generalize hwa : wq.alloc (.cells (zB q).toArray 95) = wa at *; go_frame) | ((with_reducible refine zn ?_); have mk := K2.out; refine zd rfl (zf (ty := 95) rfl rfl RN.out uP rP (by rw [PL.out]; exact zL)) ?_; go_frame) | (clear K3; go_at_call 127; refine HF1.out.mono ?_; rintro e w3 ⟨rfl, f3⟩; have F3 := Hd f3; clear f3; have ZA := Hd (show qb < wa.heap.size by rw [← hwa, ← hqb]; simp); clear hwa; have RN3 := Hd (zb RN.out F3.out id); have RO3 := Hd (zC w3 (zG ((yQ L q).getD yR)) 103); have FB := Hd ((Fr.refl No w3).alloc (.cells (zG ((yQ L q).getD yR)).toArray 103)); have BO := Hd (yn w3 (.cells (zG ((yQ L q).getD yR)).toArray 103)); have RN4 := Hd (zb RN3.out FB.out id); have FQ4 := Hd ((FA.out.trans0 F3.out).trans0 FB.out); go_frame) | ((with_reducible refine zA ?_); have mk := K4.out; refine zq rfl (zm (w := w3) (cs := zG ((yQ L q).getD yR)) (ty := 103) rfl rfl rfl (by rw [X1L.out]; rfl) (by rw [X1L.out]; exact zY) ye) ?_; generalize hqo : w3.heap.size = qo at *; generalize hwb : w3.alloc (.cells (zG ((yQ L q).getD yR)).toArray 103) = w4 at *; have Z4 := Hd (show qo < w4.heap.size by rw [← hwb, ← hqo]; simp); have ZQ := Hd (show qb < qo by have := ZA.out; have := F3.out.size; omega); clear hwb; obtain ⟨v5, w5, a1, a2, a3, -, a5⟩ := xj (P := Tryz.prog) w4 ws.heap.size 38 38 41 32 32 _ xB xI rfl (by decide) (zl PP.out FQ4.out (fun _ _ => id)) (zj q.tx) HL.out zV (by have := PTL.out; omega) (by have := PTL.out; unfold maxLen; omega) (by have := FR.out.size; have := FQ4.out.size; omega); obtain ⟨va5, vc5, hv5⟩ := a2.slice.arg.form; subst hv5; have A1 := Hd a1; have A2 := Hd a2; have A3 := Hd a3; have A5 := Hd a5; clear a1 a2 a3 a5; have NP := Hd (show ∀ j, (Value.slice pa (qG L t n).length pc').ownBlock = some j → j < wq.heap.size ∧ ws.heap.size ≤ j from fun j hj => ⟨(PP.out.lt j hj).2, (PP.out.lt j hj).1⟩); have RN5 := Hd (zb RN4.out A3.out (fun e => by have := (NP.out _ e).1; omega)); have RO5 := Hd (zb RO3.out A3.out (fun e => by have := (NP.out _ e).1; have := ZQ.out; omega)); have BO5 := Hd (A3.out.obj BO.out (fun e => by have := (NP.out _ e).1; have := ZQ.out; omega)); go_frame) | ((with_reducible refine zn ?_); have mk := K5.out; with_reducible refine yk 45 ?_; refine zd rfl (zf (ty := 41) rfl rfl (Qn RN4.out QOK.out).1 uH rH (by have := HL.out; unfold zj at this; rw [this]; exact zr)) ?_; go_frame) | ((with_reducible refine zn ?_); have mk := K6.out; refine zd rfl (zZ (t := 38) rfl rfl xB qs rfl (by decide) (by decide) HL.out) ?_; go_frame) | ((with_reducible refine zn ?_); have mk := K7.out; at_builtin; refine zW rfl rfl rfl rfl A1.out ?_; have FW5 := Hd (show Fr No w w5 from (FWA.out.trans0 (F3.out.trans0 FB.out)).trans A3.out (fun i hi e => by have := (NP.out _ e).2; have := FR2.out.size; omega)); have HC1 := Hd (HFC1.out _ FW5.out); go_frame) | ((with_reducible refine zn ?_); have mk := K8.out; with_reducible refine yk 50 ?_; refine zd rfl (zf (ty := 95) rfl rfl RN5.out uP rP (by rw [PL.out]; exact zL)) ?_; go_frame) | (clear K9; go_at_call 126; refine HC1.out.mono ?_; rintro e w6 ⟨rfl, f6⟩; have F6 := Hd f6; clear f6; have RO6 := Hd (zb RO5.out F6.out id); have BO6 := Hd (F6.out.obj BO5.out id); have RC6 := Hd (zC w6 (zG (yr S q)) 103); have FC := Hd ((Fr.refl No w6).alloc (.cells (zG (yr S q)).toArray 103)); go_frame) | ((with_reducible refine zA ?_); have mk := K10.out; refine zq rfl (zm (w := w6) (cs := zG (yr S q)) (ty := 103) rfl rfl rfl (by rw [X2L.out]; rfl) (by rw [X2L.out]; exact zY) ye) ?_; generalize hqc : w6.heap.size = qc at *; generalize hwc : w6.alloc (.cells (zG (yr S q)).toArray 103) = w7 at *; have RO7 := Hd (zb RO6.out FC.out id); have BO7 := Hd (FC.out.obj BO6.out id); have ZC := Hd (show qo < qc by have := F6.out.size; have := Z4.out; have := A3.out.size; omega); clear hwc; have O7 := Hd (show w7.ownsRow ws.heap.size 103 33 (.slice oa' n oc') n ((V2 S L t n).flatMap zG) from zl (zl (zl OO.out FQ4.out (fun _ _ => id)) A3.out (fun j hj e => DS.out j hj e)) (F6.out.trans0 FC.out) (fun _ _ => id)); have P7 := Hd (show w7.ownsRow ws.heap.size 41 32 (.slice va5 ((qG L t n).length + 1) vc5) ((qG L t n).length + 1) ((qG L t n).flatMap zj ++ zj q.tx) from zl A2.out (F6.out.trans0 FC.out) (fun _ _ => id)); have PB := Hd (show ∀ j, (Value.slice va5 ((qG L t n).length + 1) vc5).ownBlock = some j → j ≠ qo ∧ ((Value.slice oa' n oc').ownBlock = some j → False) from fun j hj => ⟨fun e => by rcases A5.out j hj with h | h; (have := (NP.out j h).1; have := ZQ.out; omega); (have := Z4.out; omega), fun e => by rcases A5.out j hj with h | h; exact DS.out j e h; (have := (OO.out.lt j e).2; have := FQ4.out.size; omega)⟩); have O8 := O7; have P8 := P7; have FS8 := Hd (show Fr No ws _ from ((((FR.out.trans0 FQ4.out).trans A3.out (fun i hi e => by have := (NP.out _ e).2; omega)).trans0 F6.out).trans0 FC.out)); have w8e : w7 = w7 := rfl; have RF := RO7; have HLV := Hd (show (xR S L q).getD yR = (yQ L q).getD yR by rw [LK.out, if_neg (by rw [HK.out]; decide)]); have HLS := Hd (show (xR S L q).isSome = true by rw [LK.out, if_neg (by rw [HK.out]; decide)]; exact HM.out); obtain ⟨v9, w9, b1, b2, b3, -, b5⟩ := xj (P := Tryz.prog) _ ws.heap.size 22 22 103 33 40 _ vx ZU (by rw [← yw]; rfl) (by decide) O8.out (zG ((yQ L q).getD yR)) X1L.out ye (by omega) (by unfold maxLen; omega) FS8.out.size; obtain ⟨va9, vc9, hv9⟩ := b2.slice.arg.form; subst hv9; have B1 := Hd b1; have B2 := Hd b2; have B3 := Hd b3; have B5 := Hd b5; clear b1 b2 b3 b5; have NO := Hd (show ∀ j, (Value.slice oa' n oc').ownBlock = some j → ws.heap.size ≤ j ∧ j < wq.heap.size from fun j hj => OO.out.lt j hj); have P9 := Hd (zl P8.out B3.out (fun j hj e => (PB.out j hj).2 e)); have FS9 := Hd (FS8.out.trans B3.out (fun i hi e => by have := (NO.out _ e).1; omega)); have DS9 := Hd (show ∀ j, (Value.slice va9 (n + 1) vc9).ownBlock = some j → (Value.slice va5 ((qG L t n).length + 1) vc5).ownBlock = some j → False from fun j ho hp => by rcases B5.out j ho with h | h; exact (PB.out j hp).2 h; (have := (P8.out.lt j hp).2; omega)); go_frame) | ((with_reducible refine zn ?_); have mk := K11.out; with_reducible refine yk 59 ?_; refine zd rfl (zf (ty := 103) rfl rfl RF.out uO rO (by rw [X1L.out]; exact zY)) ?_; go_frame) | ((with_reducible refine zn ?_); have mk := K12.out; refine zd rfl (zZ (t := 22) rfl rfl vx jC (by rw [← yw]; rfl) (by decide) (by decide) X1L.out) ?_; go_frame) | ((with_reducible refine zn ?_); have mk := K13.out; at_builtin; refine zW rfl rfl rfl rfl B1.out ?_; go_frame))
       have PT := Hd (show qG L t (n + 1) = qG L t n ++ [q.tx] by unfold qG; rw [PSN.out, if_pos HM.out])
       have PTN := Hd (show (qG L t (n + 1)).length = (qG L t n).length + 1 by rw [PT.out]; simp)
       have ALN := Hd (show ∀ q ∈ (zS t).take (n + 1), (xR S L q).isSome = true from fun y hy => by
        rw [List.take_add_one, HX.out] at hy
        rcases List.mem_append.1 hy with hy | hy
        ·exact AL.out y hy
        ·simp at hy; subst hy; exact HLS.out)
       go_roundw
       case rel => exact ⟨n + 1, by go_num, by omega, ALN.out, va9, vc9, va5, vc5, rfl, by rw [PTN.out], by rw [PRN.out, HLV.out, List.flatMap_append]; simpa using B2.out, by rw [PTN.out, PT.out, List.flatMap_append]; simpa using P9.out, by rw [PTN.out]; exact DS9.out, FS9.out⟩
       case measure => simp [intOf]; omega
     ·replace hm : (yQ L q).isSome = false := by simpa using hm
      by_cases hk : xV S q = true
      ·skip
       have HM := Hd hm
       have HK := Hd hk
       rw [hm] at HF1
       rw [hk] at HFC1
       clear hm hk
       have K0 := tru
       have K1 := tru
       have K2 := tru
       have K3 := tru
       have K4 := tru
       have K5 := tru
       have K6 := tru
       have K7 := tru
       have K8 := tru
       have K9 := tru
       have K10 := tru
       have K11 := tru
       have K12 := tru
       go_wp2_with (first | ((with_reducible refine zn ?_); have mk := K0.out; refine zd rfl (zf (ty := 95) rfl rfl R1.out uP rP (by rw [PL.out]; exact zL)) ?_; go_frame) | ((with_reducible refine zA ?_); have mk := K1.out; refine zq rfl (zm (w := wq) (cs := zB q) (ty := 95) rfl rfl rfl (by rw [PL.out]; rfl) (by rw [PL.out]; exact zL) y3) ?_; generalize hqb : wq.heap.size = qb at *; generalize hwa : wq.alloc (.cells (zB q).toArray 95) = wa at *; go_frame) | ((with_reducible refine zn ?_); have mk := K2.out; refine zd rfl (zf (ty := 95) rfl rfl RN.out uP rP (by rw [PL.out]; exact zL)) ?_; go_frame) | (clear K3; go_at_call 127; refine HF1.out.mono ?_; rintro e w3 ⟨rfl, f3⟩; have F3 := Hd f3; clear f3; have ZA := Hd (show qb < wa.heap.size by rw [← hwa, ← hqb]; simp); clear hwa; have RN3 := Hd (zb RN.out F3.out id); have RO3 := Hd (zC w3 (zG ((yQ L q).getD yR)) 103); have FB := Hd ((Fr.refl No w3).alloc (.cells (zG ((yQ L q).getD yR)).toArray 103)); have BO := Hd (yn w3 (.cells (zG ((yQ L q).getD yR)).toArray 103)); have RN4 := Hd (zb RN3.out FB.out id); have FQ4 := Hd ((FA.out.trans0 F3.out).trans0 FB.out); go_frame) | ((with_reducible refine zA ?_); have mk := K4.out; refine zq rfl (zm (w := w3) (cs := zG ((yQ L q).getD yR)) (ty := 103) rfl rfl rfl (by rw [X1L.out]; rfl) (by rw [X1L.out]; exact zY) ye) ?_; generalize hqo : w3.heap.size = qo at *; generalize hwb : w3.alloc (.cells (zG ((yQ L q).getD yR)).toArray 103) = w4 at *; have Z4 := Hd (show qo < w4.heap.size by rw [← hwb, ← hqo]; simp); have ZQ := Hd (show qb < qo by have := ZA.out; have := F3.out.size; omega); clear hwb; have FW5 := Hd (show Fr No w w4 from FWA.out.trans0 (F3.out.trans0 FB.out)); have HC1 := Hd (HFC1.out _ FW5.out); go_frame) | ((with_reducible refine zn ?_); have mk := K5.out; with_reducible refine yk 50 ?_; refine zd rfl (zf (ty := 95) rfl rfl RN4.out uP rP (by rw [PL.out]; exact zL)) ?_; go_frame) | (clear K6; go_at_call 126; refine HC1.out.mono ?_; rintro e w6 ⟨rfl, f6⟩; have F6 := Hd f6; clear f6; have RO6 := Hd (zb RO3.out F6.out id); have BO6 := Hd (F6.out.obj BO.out id); have RC6 := Hd (zC w6 (zG (yr S q)) 103); have FC := Hd ((Fr.refl No w6).alloc (.cells (zG (yr S q)).toArray 103)); go_frame) | ((with_reducible refine zA ?_); have mk := K7.out; refine zq rfl (zm (w := w6) (cs := zG (yr S q)) (ty := 103) rfl rfl rfl (by rw [X2L.out]; rfl) (by rw [X2L.out]; exact zY) ye) ?_; generalize hqc : w6.heap.size = qc at *; generalize hwc : w6.alloc (.cells (zG (yr S q)).toArray 103) = w7 at *; have RO7 := Hd (zb RO6.out FC.out id); have BO7 := Hd (FC.out.obj BO6.out id); have ZC := Hd (show qo < qc by have := F6.out.size; have := Z4.out; omega); clear hwc; have F8 := Hd (zJ qo (zG (yr S q)) 0 w7); have RF := Hd (show (w7.setCells qo 0 (zG (yr S q))).rangeAt qo 0 (zG (yr S q)) from yY BO7.out (by rw [X2L.out, List.size_toArray, X1L.out])); go_frame) | ((with_reducible refine zn ?_); have mk := K8.out; with_reducible refine yk 55 ?_; refine zd rfl (zf (ty := 103) rfl rfl RC6.out uO rO (by rw [X2L.out]; exact zY)) ?_; go_frame) | ((with_reducible refine zA ?_); have mk := K9.out; refine zq rfl (z6 (ty := 103) (b := qo) (off := 0) (cs := zG (yr S q)) rfl rfl rfl (by rw [X2L.out]; exact yg BO7.out (by rw [List.size_toArray, X1L.out]; exact Nat.le_refl _)) (by rw [X2L.out]; exact zY) ye) ?_; generalize hwe : w7.setCells qo 0 (zG (yr S q)) = w8 at *; have O7 := Hd (show w7.ownsRow ws.heap.size 103 33 (.slice oa' n oc') n ((V2 S L t n).flatMap zG) from zl (zl (zl OO.out FQ4.out (fun _ _ => id)) (Fr.refl No w4) (fun _ _ => id)) (F6.out.trans0 FC.out) (fun _ _ => id)); have P7 := Hd (show w7.ownsRow ws.heap.size 41 32 (.slice pa (qG L t n).length pc') (qG L t n).length ((qG L t n).flatMap zj) from zl (zl PP.out FQ4.out (fun _ _ => id)) (F6.out.trans0 FC.out) (fun _ _ => id)); have PB := Hd (show ∀ j, (Value.slice pa (qG L t n).length pc').ownBlock = some j → j ≠ qo ∧ ((Value.slice oa' n oc').ownBlock = some j → False) from fun j hj => ⟨fun e => by have := (PP.out.lt j hj).2; have := ZQ.out; omega, fun e => DS.out j e hj⟩); have O8 := Hd (zl O7.out F8.out (fun j hj e => by have := (OO.out.lt j hj).2; have := ZQ.out; omega)); have P8 := Hd (zl P7.out F8.out (fun j hj e => (PB.out j hj).1 e)); have FW8 := Hd (show Fr No w _ from ((FW5.out.trans0 F6.out).trans0 FC.out).trans F8.out (fun i hi e => by have := FWA.out.size; have := ZA.out; have := F3.out.size; have := ZQ.out; have := FR2.out.size; have := FR.out.size; omega)); have FS8 := Hd (show Fr No ws _ from ((((FR.out.trans0 FQ4.out).trans0 F6.out).trans0 FC.out)).trans F8.out (fun i hi e => by have := ZQ.out; have := FR.out.size; omega)); have HLV := Hd (show (xR S L q).getD yR = yr S q by rw [LK.out, if_pos HK.out]; rfl); have HLS := Hd (show (xR S L q).isSome = true by rw [LK.out, if_pos HK.out]; rfl); obtain ⟨v9, w9, b1, b2, b3, -, b5⟩ := xj (P := Tryz.prog) _ ws.heap.size 22 22 103 33 40 _ vx ZU (by rw [← yw]; rfl) (by decide) O8.out (zG (yr S q)) X2L.out ye (by omega) (by unfold maxLen; omega) FS8.out.size; obtain ⟨va9, vc9, hv9⟩ := b2.slice.arg.form; subst hv9; have B1 := Hd b1; have B2 := Hd b2; have B3 := Hd b3; have B5 := Hd b5; clear b1 b2 b3 b5; have NO := Hd (show ∀ j, (Value.slice oa' n oc').ownBlock = some j → ws.heap.size ≤ j ∧ j < wq.heap.size from fun j hj => OO.out.lt j hj); have P9 := Hd (zl P8.out B3.out (fun j hj e => (PB.out j hj).2 e)); have FS9 := Hd (FS8.out.trans B3.out (fun i hi e => by have := (NO.out _ e).1; omega)); have DS9 := Hd (show ∀ j, (Value.slice va9 (n + 1) vc9).ownBlock = some j → (Value.slice pa (qG L t n).length pc').ownBlock = some j → False from fun j ho hp => by rcases B5.out j ho with h | h; exact (PB.out j hp).2 h; (have := (P8.out.lt j hp).2; omega)); go_frame) | ((with_reducible refine zn ?_); have mk := K10.out; with_reducible refine yk 59 ?_; refine zd rfl (zf (ty := 103) rfl rfl RF.out uO rO (by rw [X2L.out]; exact zY)) ?_; go_frame) | ((with_reducible refine zn ?_); have mk := K11.out; refine zd rfl (zZ (t := 22) rfl rfl vx jC (by rw [← yw]; rfl) (by decide) (by decide) X2L.out) ?_; go_frame) | ((with_reducible refine zn ?_); have mk := K12.out; at_builtin; refine zW rfl rfl rfl rfl B1.out ?_; go_frame))
       have PT := Hd (show qG L t (n + 1) = qG L t n by unfold qG; rw [PSN.out, if_neg (by rw [HM.out]; decide), List.append_nil])
       have ALN := Hd (show ∀ q ∈ (zS t).take (n + 1), (xR S L q).isSome = true from fun y hy => by
        rw [List.take_add_one, HX.out] at hy
        rcases List.mem_append.1 hy with hy | hy
        ·exact AL.out y hy
        ·simp at hy; subst hy; exact HLS.out)
       go_roundw
       case rel => exact ⟨n + 1, by go_num, by omega, ALN.out, va9, vc9, pa, pc', rfl, by rw [PT.out], by rw [PRN.out, HLV.out, List.flatMap_append]; simpa using B2.out, by rw [PT.out]; exact P9.out, by rw [PT.out]; exact DS9.out, FS9.out⟩
       case measure => simp [intOf]; omega
      ·replace hk : xV S q = false := by simpa using hk
       have HM := Hd hm
       have HK := Hd hk
       rw [hm] at HF1
       rw [hk] at HFC1
       clear hm hk
       have PE := Hd (show jM S L t = 15 by
        unfold jM
        rw [if_neg (by rw [List.any_eq_true]; rintro ⟨y, hy, hs⟩; rw [HAL.out y hy] at hs; cases hs), if_neg (by rw [List.all_eq_true]; intro hh; have := hh q (List.mem_of_getElem? HX.out); rw [LK.out, if_neg (by rw [HK.out]; decide), HM.out] at this; cases this)])
       have K0 := tru
       have K1 := tru
       have K2 := tru
       have K3 := tru
       have K4 := tru
       have K5 := tru
       have K6 := tru
       have K7 := tru
       go_wp2_with (first | ((with_reducible refine zn ?_); have mk := K0.out; refine zd rfl (zf (ty := 95) rfl rfl R1.out uP rP (by rw [PL.out]; exact zL)) ?_; go_frame) | ((with_reducible refine zA ?_); have mk := K1.out; refine zq rfl (zm (w := wq) (cs := zB q) (ty := 95) rfl rfl rfl (by rw [PL.out]; rfl) (by rw [PL.out]; exact zL) y3) ?_; generalize hqb : wq.heap.size = qb at *; generalize hwa : wq.alloc (.cells (zB q).toArray 95) = wa at *; go_frame) | ((with_reducible refine zn ?_); have mk := K2.out; refine zd rfl (zf (ty := 95) rfl rfl RN.out uP rP (by rw [PL.out]; exact zL)) ?_; go_frame) | (clear K3; go_at_call 127; refine HF1.out.mono ?_; rintro e w3 ⟨rfl, f3⟩; have F3 := Hd f3; clear f3; have ZA := Hd (show qb < wa.heap.size by rw [← hwa, ← hqb]; simp); clear hwa; have RN3 := Hd (zb RN.out F3.out id); have RO3 := Hd (zC w3 (zG ((yQ L q).getD yR)) 103); have FB := Hd ((Fr.refl No w3).alloc (.cells (zG ((yQ L q).getD yR)).toArray 103)); have BO := Hd (yn w3 (.cells (zG ((yQ L q).getD yR)).toArray 103)); have RN4 := Hd (zb RN3.out FB.out id); have FQ4 := Hd ((FA.out.trans0 F3.out).trans0 FB.out); go_frame) | ((with_reducible refine zA ?_); have mk := K4.out; refine zq rfl (zm (w := w3) (cs := zG ((yQ L q).getD yR)) (ty := 103) rfl rfl rfl (by rw [X1L.out]; rfl) (by rw [X1L.out]; exact zY) ye) ?_; generalize hqo : w3.heap.size = qo at *; generalize hwb : w3.alloc (.cells (zG ((yQ L q).getD yR)).toArray 103) = w4 at *; have Z4 := Hd (show qo < w4.heap.size by rw [← hwb, ← hqo]; simp); have ZQ := Hd (show qb < qo by have := ZA.out; have := F3.out.size; omega); clear hwb; have FW5 := Hd (show Fr No w w4 from FWA.out.trans0 (F3.out.trans0 FB.out)); have HC1 := Hd (HFC1.out _ FW5.out); go_frame) | ((with_reducible refine zn ?_); have mk := K5.out; with_reducible refine yk 50 ?_; refine zd rfl (zf (ty := 95) rfl rfl RN4.out uP rP (by rw [PL.out]; exact zL)) ?_; go_frame) | (clear K6; go_at_call 126; refine HC1.out.mono ?_; rintro e w6 ⟨rfl, f6⟩; have F6 := Hd f6; clear f6; have RO6 := Hd (zb RO3.out F6.out id); have BO6 := Hd (F6.out.obj BO.out id); have RC6 := Hd (zC w6 (zG (yr S q)) 103); have FC := Hd ((Fr.refl No w6).alloc (.cells (zG (yr S q)).toArray 103)); go_frame) | ((with_reducible refine zA ?_); have mk := K7.out; refine zq rfl (zm (w := w6) (cs := zG (yr S q)) (ty := 103) rfl rfl rfl (by rw [X2L.out]; rfl) (by rw [X2L.out]; exact zY) ye) ?_; generalize hqc : w6.heap.size = qc at *; generalize hwc : w6.alloc (.cells (zG (yr S q)).toArray 103) = w7 at *; have RO7 := Hd (zb RO6.out FC.out id); have BO7 := Hd (FC.out.obj BO6.out id); have ZC := Hd (show qo < qc by have := F6.out.size; have := Z4.out; omega); clear hwc; go_frame))
       go_ret3
       exact Qc.bad PE.out (by decide) (FW5.out.trans0 (F6.out.trans0 FC.out)) _ _
    ·have hne : n = t.ins.length := by omega
     have i1 : ¬ (n : Int) < (t.ins.length : Int) := by omega
     have HALL := Hd (show ∀ q ∈ zS t, (xR S L q).isSome = true from fun q hq => AL.out q (by rw [hne, ← HTL.out, List.take_length]; exact hq))
     have PE := Hd (za0.2 ⟨HAL.out, HALL.out⟩)
     have E1 := Hd (show V2 S L t n = xm S L t by unfold V2 xm; rw [hne, ← HTL.out, List.take_length])
     have E2 := Hd (show qG L t n = xe L t by unfold qG xe; rw [hne, ← HTL.out, List.take_length])
     have OK1 := Hd (show ∀ x ∈ xm S L t, x.ok from fun x hx => by
      obtain ⟨q, hq, rfl⟩ := List.mem_map.1 hx
      unfold xR
      split
      ·exact XC.out q
      ·exact XP.out q)
     have PRL := Hd (zcc S L t hn)
     clear hne
     go_wp2_with fail
     go_ret3
     exact ⟨_, _, by rw [PE.out]; rfl, FR2.out.trans0 FR.out, fun _ => ⟨⟨OK1.out, by have := OO.out.slice.arg; rw [E1.out] at this; rw [← E1.out, PRL.out, E1.out]; exact this⟩, by rw [← E2.out]; exact yU PP.out FR2.out.size⟩⟩
end
end Go.Proofs.YtdkkjchclkjleaaGreatDoor
