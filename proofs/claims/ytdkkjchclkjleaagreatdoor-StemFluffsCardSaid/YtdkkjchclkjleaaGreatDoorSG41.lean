/- stem: pays. -/
import Derived.Test.YtdkkjchclkjleaaGreatDoorSG40
import Derived.Test.YtdkkjchclkjleaaGreatDoorSG29
import Derived.Test.YtdkkjchclkjleaaGreatDoorSG11
set_option linter.unusedVariables false
set_option linter.unusedSimpArgs false
set_option linter.unnecessarySimpa false
set_option linter.all false
namespace Go.Proofs.YtdkkjchclkjleaaGreatDoor
open Go Go.RowKit Go.Maps Go.MapKept
def zc6 (S : List zy) (L : List z7) (l : List StE) (t : TxD) (n : Nat) : List yF := ((zS t).take n).map fun q => (Jk S L l q).getD yR
theorem zfz {S : List zy} {L : List z7} {l : List StE} {t : TxD} {n : Nat} {q : zF} (h : (zS t)[n]? = some q) : (zc6 S L l t (n + 1)).flatMap zG = (zc6 S L l t n).flatMap zG ++ zG ((Jk S L l q).getD yR) := by
 unfold zc6
 rw [List.take_add_one, h]
 simp
theorem zgz (S : List zy) (L : List z7) (l : List StE) (t : TxD) : zc6 S L l t t.ins.length = qX S L l t := by
 unfold zc6 qX
 rw [← qW, List.take_length]
section
variable {w0 w w0p w0c : World} {ps ma ms pp mp mq g N pc : Nat} {R : Nat → Value} {X Y VG VC : Nat → Prop} {C : Nat → zi → List Value} {CP : zi → List Value} {Q : StQ} {L : List z7} {S : List zy} {bs : List xt} {I : List zi}
theorem zhG {n : Nat} (hn : n < 65) {q : zF} (hq : q.ok) {M : List ((Int × zF) × zi)} (hk : ∀ x ∈ yc (Q n), zQ x) (hM : Zb w ms M) (hm : ∀ k x, (k, x) ∈ M ↔ ∃ i : Nat, i < 65 ∧ k.1 = (i : Int) ∧ ∃ e ∈ Q i, k.2 ∈ zS e.tx ∧ e.id = x) :
  ∃ y, zQ y ∧ ∀ w', Zb w' ms M → (Instr.lookup 114 (.map (some ms)) (.agg (spC (n, q)).toArray) true).run Tryz.prog w' = .ok (.tuple #[.agg (zj y).toArray, .bool (jB (Q n) q)]) w' := by
 cases hs : jB (Q n) q with
 | true =>
  obtain ⟨e, he, hqe⟩ := vQ.1 hs
  have hin : (((n : Int), q), e.id) ∈ M := (hm _ _).2 ⟨n, hn, rfl, e, he, hqe, rfl⟩
  refine ⟨e.id, hk _ (List.mem_map.2 ⟨e, he, rfl⟩), fun w' h' => ?_⟩
  have h := h'.look zhR.keyed Xr (fun _ _ => QK) y6 (QV (k := ((n : Int), q)) (Qz hn) hq) true (r := some e.id) (fun v => ⟨fun e' => by rw [← Option.some.inj e']; exact hin, fun h' => by rw [hM.uniq hin h']⟩)
  unfold spV at h
  rw [h]
  rfl
 | false =>
  refine ⟨yN, xQ, fun w' h' => ?_⟩
  have h := h'.look zhR.keyed Xr (fun _ _ => QK) y6 (QV (k := ((n : Int), q)) (Qz hn) hq) true (r := none) (fun v => ⟨fun e' => (by cases e'), fun h' => by
   obtain ⟨i, hi, hki, e, he, hqe, _⟩ := (hm _ _).1 h'
   have : i = n := by have hki : (n : Int) = (i : Int) := hki; omega
   subst this
   rw [vQ.2 ⟨e, he, hqe⟩] at hs
   cases hs⟩)
  unfold spV at h
  rw [h]
  rfl
def zfQ (w : World) (S : List zy) (L : List z7) (l : List StE) (t : TxD) (e : Ending) (w' : World) : Prop := e = .returned (.int .i64 (ZB S L l t)) ∧ Fr No w w'
set_option maxRecDepth 20000 in
set_option maxHeartbeats 16000000 in
theorem zi9 (hg : Jx w) (h : yz w0 w ps ma ms R X C Q) (hp : yf w0p w pp mp mq g VG Y CP L N) (hc : Cn w0c w pc VC S bs I) (hS : ∀ c ∈ S, c.ok) {n : Nat} (hn : n < 65) {t : TxD} {cs : List Value} (ht : TxQ w t cs) (hchk : yt t = 0) :
  Calls Tryz.prog 40 #[.pointer (some ⟨ps, 0, none⟩), .pointer (some ⟨pc, 0, none⟩), .pointer (some ⟨pp, 0, none⟩), .int .i64 n, .agg cs.toArray] w (zfQ w S L (Q n) t) := by
 obtain ⟨dT, uT, rT⟩ := vw
 obtain ⟨dP, uP, rP⟩ := xr
 obtain ⟨dO, uO, rO⟩ := vA
 obtain ⟨dH, uH, rH⟩ := yj
 have zo := qT
 have zp := jA
 have zh := y6
 have i65 : (n : Int) < 65 := by omega
 have i0 : (0 : Int) ≤ (n : Int) := by omega
 have FM := Hd (j5 hchk).1
 have INL := Hd (show t.ins.length ≤ 8 from (yX.1 FM.out).2.1)
 have HTL := Hd (qW t)
 have POK := Hd (show ∀ q ∈ zS t, q.ok from fun q hq => by obtain ⟨x, hx, rfl⟩ := List.mem_map.1 hq; exact ht.oks.1 x hx)
 have OOK := Hd ht.oks.2
 have HT := Hd ht
 have HG := Hd hg
 have HH := Hd h
 have HN := Hd hn
 obtain ⟨ia, ic, oa, oc, rfl⟩ := ht.form
 have F1 := Hd ((Fr.refl No w).alloc (.cells #[.int .u32 t.ver, .slice ia t.ins.length ic, .slice oa t.outs.length oc] 34))
 have R0 := Hd (qZ w t.ver (.slice ia t.ins.length ic) (.slice oa t.outs.length oc)).2.2.2
 have HP := Hd (vP _ (ht.keep F1.out) (by have := INL.out; omega))
 have HSP := Hd (fun w' (f : Fr No w w') (q : zF) (hq : q.ok) => zed (hp.fr0 f) hq)
 have HOU := Hd (fun w' (f : Fr No w w') (q : zF) (hq : q.ok) => zjU (h.fr0 f) (hp.fr0 f) (hc.fr0 f) hS hn hq)
 have OKK := Hd (fun q => zhL h hp hS hn q)
 obtain ⟨M, hM, hm⟩ := h.sm
 have LSS := Hd (fun (q : zF) (hq : q.ok) => zhG hn hq (h.idok n) hM hm)
 have HM := Hd (fun w' (f : Fr No w w') => hM.keep f id)
 have CM := Hd (fun w' (f : Fr No w w') => (h.fr0 f).cells.2.1)
 obtain ⟨iK, hiK, hz, hsz, hby⟩ := info_parts ZU
 have MK := Hd (fun (w3 : World) => run_makeSlice_full (P := Tryz.prog) (w := w3) w3.heap.size 22 103 iK _ 33 vx hiK hz hsz .i64 .i64 t.ins.length (by have := INL.out; omega) (by rw [hby]; have := INL.out; omega) (by unfold maxLen; have := INL.out; omega) (Nat.le_refl _))
 clear h hp hc ht hS hg hn hM hm hiK hz hsz hby hchk
 show Calls Tryz.prog 40 #[.pointer (some ⟨ps, 0, none⟩), .pointer (some ⟨pc, 0, none⟩), .pointer (some ⟨pp, 0, none⟩), .int .i64 n, .agg #[.int .u32 t.ver, .slice ia t.ins.length ic, .slice oa t.outs.length oc]] w _
 go_enter Tryz.func40, Tryz.ntmps40
 have K0 := tru
 have K1 := tru
 go_wp2_with (first | ((with_reducible refine zn ?_); have mk := K0.out; refine zd rfl (zf (ty := 34) rfl rfl R0.out uT rT zR) ?_; generalize hq0 : w.heap.size = q0 at *; generalize hw1 : w.alloc (.cells #[.int .u32 t.ver, .slice ia t.ins.length ic, .slice oa t.outs.length oc] 34) = wa at *; have Z1 := Hd (show q0 < wa.heap.size by rw [← hw1, ← hq0]; simp); clear hw1; go_frame) | (clear K1; go_at_call 33; refine HP.out.mono ?_; rintro e w2 ⟨v, rfl, ho, f2⟩; obtain ⟨va, vc, hv⟩ := ho.slice.arg.form; subst hv; have F2 := Hd (F1.out.trans0 f2); have O2 := Hd ho; have RT2 := Hd (zb R0.out f2 id); clear ho f2; go_frame))
 have HPI := Hd (show qg w2 (.slice va t.ins.length vc) (zS t) from ⟨POK.out, by rw [HTL.out]; exact O2.out.slice.arg⟩)
 have Z2 := Hd (show q0 < w2.heap.size by have h1 := vt RT2.out (by simp); exact h1)
 have inl := INL.out
 go_loopw [29] (fun iv wr => ∃ k : Nat, iv = .int .i64 k ∧ k ≤ t.ins.length ∧ (∀ q ∈ (zS t).take k, (jB (Q n) q || xw L q) = false) ∧ Fr No w2 wr) (fun iv _ => t.ins.length - (intOf iv).toNat)
 case atStart => exact ⟨0, rfl, Nat.zero_le _, by simp, Fr.refl _ _⟩
 case round =>
  obtain ⟨k, rfl, hk, hal, fr⟩ := hrel
  have FR := Hd fr
  have AL := Hd hal
  clear fr hal
  by_cases hlt : k < t.ins.length
  ·have i1 : (k : Int) < (t.ins.length : Int) := by omega
   obtain ⟨q, hx⟩ : ∃ q, (zS t)[k]? = some q := ⟨_, List.getElem?_eq_getElem (by rw [HTL.out]; exact hlt)⟩
   have HX := Hd hx
   have QOK := Hd (POK.out q (List.mem_of_getElem? hx))
   obtain ⟨b, off, cap, e, hr, -⟩ := (HPI.out.keep FR.out).at_ hx
   injection e with e1 e2 e3
   subst e1
   have R1 := Hd hr
   have PL := Hd (yb QOK.out)
   have RN := Hd (zC wr (zB q) 95)
   have FA := Hd ((Fr.refl No wr).alloc (.cells (zB q).toArray 95))
   have FWA := Hd (F2.out.trans0 (FR.out.trans0 FA.out))
   obtain ⟨y, hy, hlk⟩ := LSS.out q QOK.out
   have LK := Hd hlk
   have YL := Hd (zE hy)
   have SPL := Hd (QU (k := ((n : Int), q)) QOK.out)
   clear hr hx e2 e3 hlk
   have K0 := tru
   have K1 := tru
   go_wp2_with (first | ((with_reducible refine zn ?_); have mk := K0.out; refine zd rfl (zf (ty := 95) rfl rfl R1.out uP rP (by rw [PL.out]; exact zL)) ?_; go_frame) | ((with_reducible refine zA ?_); have mk := K1.out; refine zq rfl (zm (w := wr) (cs := zB q) (ty := 95) rfl rfl rfl (by rw [PL.out]; rfl) (by rw [PL.out]; exact zL) y3) ?_; go_frame))
   generalize hqx : wr.heap.size = qx at *
   generalize hwn : wr.alloc (.cells (zB q).toArray 95) = wn at *
   clear hwn
   have FD := Hd (FWA.out.drew)
   have RD := Hd (zb RN.out (Fr.refl No wn).drew id)
   have HMD := Hd (HM.out _ FD.out)
   have CMD := Hd (CM.out _ FD.out)
   have FRD := Hd ((FR.out.trans0 FA.out).drew)
   refine zv [false, false, false, false, false, false, false, false, false, false, false, true, true, false] (fun w' => w'.cell? ⟨ps, 66, none⟩ = some (.map (some ms)) ∧ w'.rangeAt qx 0 (zB q) ∧ Zb w' ms M) (by kernel_rfl) (by kernel_rfl) ?_ (fun K hK => ?_)
   ·exact ⟨CMD.out, RD.out, HMD.out⟩
   generalize wn.drew = wd at *
   repeat (first | ((first | with_reducible refine zx ?_ | ((with_reducible refine zu ?_ ?_); (focus rfl))); apply Exists.intro; refine ⟨?_, ?_⟩; (focus (first | exact zD (ty := 95) rfl (fun w h => h.2.1) uP rP (by rw [PL.out]; exact zL) | exact fun w' _ => y4 (t := 118) rfl rfl Vg (zbR _ QOK.out) (Vj _ _) SPL.out | exact fun w' h => zN (t := 114) rfl rfl rfl (LK.out w' h.2.2) | (intro w' hS; obtain ⟨s1, s2, s3⟩ := hS; go_simp; (try with_reducible rfl); done))); try simp only [Act.put, pA, pB, pC]) | ((first | ((with_reducible refine zg (c := false) ?_ ?_ ?_); (focus rfl); (focus rfl)) | ((with_reducible refine zg (c := true) ?_ ?_ ?_); (focus rfl); (focus rfl)) | ((with_reducible refine zt ?_ ?_); (focus rfl))); try simp only [Act.put, pA, pB, pC]))
   (first | with_reducible refine zU (fun K' hK' => ?_) | ((with_reducible refine zK ?_ (fun K' hK' => ?_)); (focus rfl)))
   refine yB (yZ rfl (y6 _)) ?_
   refine hK'.out _ _ ?_ (fun hS => ?_)
   ·exact ⟨((Fr.refl No wd).alloc _).cell CMD.out id, zb RD.out ((Fr.refl No wd).alloc _) id, HMD.out.keep ((Fr.refl No wd).alloc _) id⟩
   try simp only [Act.put, pA, pB, pC]
   (first | with_reducible refine zU (fun K' hK' => ?_) | ((with_reducible refine zK ?_ (fun K' hK' => ?_)); (focus rfl)))
   refine xb (zm (w := wd) (ty := 41) (cs := zj y) rfl rfl rfl (by rw [YL.out]; rfl) (by rw [YL.out]; exact zr) zV) ?_
   refine hK'.out _ _ ?_ (fun hS => ?_)
   ·exact ⟨((Fr.refl No wd).alloc _).cell CMD.out id, zb RD.out ((Fr.refl No wd).alloc _) id, HMD.out.keep ((Fr.refl No wd).alloc _) id⟩
   try simp only [Act.put]
   repeat (first | ((first | with_reducible refine zx ?_ | ((with_reducible refine zu ?_ ?_); (focus rfl))); apply Exists.intro; refine ⟨?_, ?_⟩; (focus (first | (intro w' hS; obtain _ := hS; go_simp; (try with_reducible rfl); done))); try simp only [Act.put, pA, pB, pC]) | ((first | ((with_reducible refine zg (c := false) ?_ ?_ ?_); (focus rfl); (focus rfl)) | ((with_reducible refine zg (c := true) ?_ ?_ ?_); (focus rfl); (focus rfl)) | ((with_reducible refine zt ?_ ?_); (focus rfl))); try simp only [Act.put, pA, pB, pC]))
   refine zM (hK.out _ _ ?_)
   have FE := Hd (FRD.out.alloc (.cells (zj y).toArray 41))
   have RE := Hd (zb RD.out ((Fr.refl No wd).alloc (.cells (zj y).toArray 41)) id)
   generalize wd.alloc (.cells (zj y).toArray 41) = we at *
   have HS1 := Hd (HSP.out we (F2.out.trans0 FE.out) q QOK.out)
   by_cases hs : (jB (Q n) q || xw L q) = true
   ·have PE := Hd (show ZB S L (Q n) t = 14 by
     unfold ZB
     rw [if_pos (List.any_eq_true.2 ⟨q, List.mem_of_getElem? HX.out, hs⟩)])
    cases hs1 : jB (Q n) q with
    | true =>
     clear hs hs1
     go_wp2_with fail
     go_ret
     exact ⟨by rw [PE.out]; rfl, F2.out.trans0 FE.out⟩
    | false =>
     rw [hs1, Bool.false_or] at hs
     rw [hs] at HS1
     clear hs hs1
     have K0 := tru
     have K1 := tru
     go_wp2_with (first | ((with_reducible refine zn ?_); have mk := K0.out; refine xN rfl (zf (ty := 95) rfl rfl RE.out uP rP (by rw [PL.out]; exact zL)) ?_; go_frame) | (clear K1; go_at_call 75; refine HS1.out.mono ?_; rintro e w4 ⟨rfl, f4⟩; have F4 := Hd f4; clear f4; go_frame))
     go_ret
     exact ⟨by rw [PE.out]; rfl, (F2.out.trans0 FE.out).trans0 F4.out⟩
   ·have hs2 : (jB (Q n) q || xw L q) = false := by simpa using hs
    have ALN := Hd (show ∀ q ∈ (zS t).take (k + 1), (jB (Q n) q || xw L q) = false from fun y hy => by
     rw [List.take_add_one, HX.out] at hy
     rcases List.mem_append.1 hy with hy | hy
     ·exact AL.out y hy
     ·simp at hy; subst hy; exact hs2)
    obtain ⟨a1, a2⟩ := Bool.or_eq_false_iff.1 hs2
    rw [a1]
    rw [a2] at HS1
    clear hs hs2 a1 a2
    have K0 := tru
    have K1 := tru
    go_wp2_with (first | ((with_reducible refine zn ?_); have mk := K0.out; refine xN rfl (zf (ty := 95) rfl rfl RE.out uP rP (by rw [PL.out]; exact zL)) ?_; go_frame) | (clear K1; go_at_call 75; refine HS1.out.mono ?_; rintro e w4 ⟨rfl, f4⟩; have F4 := Hd f4; clear f4; go_frame))
    go_roundw
    case rel => exact ⟨k + 1, by go_num, by omega, ALN.out, FE.out.trans0 F4.out⟩
    case measure => simp [intOf]; omega
  ·have hke : k = t.ins.length := by omega
   have i1 : ¬ (k : Int) < (t.ins.length : Int) := by omega
   have HAL := Hd (show ¬ (zS t).any (fun q => jB (Q n) q || xw L q) = true from by
    simp only [List.any_eq_true, not_exists, not_and]
    intro q hq
    rw [AL.out q (by rw [hke, ← HTL.out, List.take_length]; exact hq)]
    decide)
   have PE1 := Hd (show ZB S L (Q n) t = if (zS t).all (fun q => (Jk S L (Q n) q).isSome) = true then (if vl t (qX S L (Q n) t) ≠ 0 then vl t (qX S L (Q n) t) else if vB t (qX S L (Q n) t) < vo (xX t) then 17 else 0) else 15 from by unfold ZB; rw [if_neg HAL.out])
   have FR2 := Hd (F2.out.trans0 FR.out)
   have HPR := Hd (HPI.out.keep FR.out)
   have RTR := Hd (zb RT2.out FR.out id)
   have ZR := Hd (show q0 < wr.heap.size by have := FR.out.size; have := Z2.out; omega)
   clear hke AL hlt hk
   generalize wr = ws at *
   obtain ⟨w4, hmk, ho4, hg4⟩ := MK.out ws
   have f24 : Fr No ws w4 := Fr.of_grown hg4 (fun k e => by cases e)
   have F24 := Hd f24
   have HO4 := Hd ho4
   clear hg4 ho4 f24
   go_wp2_with fail
   clear hmk
   have F04 := Hd (FR2.out.trans0 F24.out)
   have HP4 := Hd (HPR.out.keep F24.out)
   have RT4 := Hd (zb RTR.out F24.out id)
   generalize hgg : ws.heap.size = gg at *
   have GN := Hd (show ∀ j, (Value.slice va t.ins.length vc).ownBlock = some j → j ≠ gg from fun j hj e => by
    have h1 := (O2.out.lt j hj).2
    have h2 := FR.out.size
    omega)
   go_loopw [56] (fun iv wq => ∃ (k : Nat) (xs : List Value), iv = .int .i64 k ∧ k ≤ t.ins.length ∧ (∀ q ∈ (zS t).take k, (Jk S L (Q n) q).isSome = true) ∧ wq.ownsRow gg 103 33 (.slice (some ⟨gg, 0, none⟩) t.ins.length t.ins.length) t.ins.length xs ∧ xs.take (k * 33) = (zc6 S L (Q n) t k).flatMap zG ∧ Fr (fun j => j = gg) w4 wq) (fun iv _ => t.ins.length - (intOf iv).toNat)
   case atStart => exact ⟨0, _, rfl, Nat.zero_le _, by simp, HO4.out, by simp [zc6], Fr.refl _ _⟩
   case round =>
    obtain ⟨k, xs, rfl, hk, hal, hor, hxs, fr⟩ := hrel
    rename World => wq
    have FQ := Hd fr
    have AL := Hd hal
    have HOR := Hd hor
    have HXS := Hd hxs
    have FWQ := Hd (show Fr No w wq from F04.out.trans fr (fun i hi e => by have := ZR.out; omega))
    have HPQ := Hd (show qg wq (.slice va t.ins.length vc) (zS t) from ⟨POK.out, by
     have h1 := zl (zl O2.out (FR.out.trans0 F24.out) (fun _ _ => id)) fr (fun j hj e => GN.out j hj e)
     rw [HTL.out]; exact h1.slice.arg⟩)
    have RTQ := Hd (zb RT4.out fr (fun e => by have := ZR.out; omega))
    clear fr hal hor hxs
    by_cases hlt : k < t.ins.length
    ·have i1 : (k : Int) < (t.ins.length : Int) := by omega
     obtain ⟨q, hx⟩ : ∃ q, (zS t)[k]? = some q := ⟨_, List.getElem?_eq_getElem (by rw [HTL.out]; exact hlt)⟩
     have HX := Hd hx
     have QOK := Hd (POK.out q (List.mem_of_getElem? hx))
     obtain ⟨b, off, cap, e, hr, -⟩ := HPQ.out.at_ hx
     injection e with e1 e2 e3
     subst e1
     have R1 := Hd hr
     have PL := Hd (yb QOK.out)
     have RN := Hd (zC wq (zB q) 95)
     have FA := Hd ((Fr.refl No wq).alloc (.cells (zB q).toArray 95))
     have HF1 := Hd (HOU.out _ (FWQ.out.trans0 FA.out) q QOK.out)
     have OKQ := Hd (OKK.out q)
     have SNX := Hd (zfz (S := S) (L := L) (l := Q n) hx)
     unfold zi0 at HF1
     have OL := Hd (yD OKQ.out)
     clear hr hx e2 e3
     by_cases hs : (Jk S L (Q n) q).isSome = true
     ·have ALN := Hd (show ∀ q ∈ (zS t).take (k + 1), (Jk S L (Q n) q).isSome = true from fun y hy => by
       rw [List.take_add_one, HX.out] at hy
       rcases List.mem_append.1 hy with hy | hy
       ·exact AL.out y hy
       ·simp at hy; subst hy; exact hs)
      rw [hs] at HF1
      clear hs
      generalize hZ : (Jk S L (Q n) q).getD yR = o at *
      have K0 := tru
      have K1 := tru
      have K2 := tru
      have K3 := tru
      have K4 := tru
      have K5 := tru
      have K6 := tru
      go_wp2_with (first | ((with_reducible refine zn ?_); have mk := K0.out; refine zd rfl (zf (ty := 95) rfl rfl R1.out uP rP (by rw [PL.out]; exact zL)) ?_; go_frame) | ((with_reducible refine zA ?_); have mk := K1.out; refine zq rfl (zm (w := wq) (cs := zB q) (ty := 95) rfl rfl rfl (by rw [PL.out]; rfl) (by rw [PL.out]; exact zL) y3) ?_; generalize hqb : wq.heap.size = qb at *; generalize hwa : wq.alloc (.cells (zB q).toArray 95) = wb at *; go_frame) | ((with_reducible refine zn ?_); have mk := K2.out; refine zd rfl (zf (ty := 95) rfl rfl RN.out uP rP (by rw [PL.out]; exact zL)) ?_; go_frame) | (clear K3; go_at_call 76; refine HF1.out.mono ?_; rintro e w3 ⟨rfl, f3⟩; have F3 := Hd (FA.out.trans0 f3); clear f3; have RO := Hd (zC w3 (zG o) 103); have FB := Hd ((Fr.refl No w3).alloc (.cells (zG o).toArray 103)); have HO5 := Hd (zl HOR.out (F3.out.trans0 FB.out) (fun _ _ => id)); have TH := Hd (J7 HO5.out hlt); go_frame) | ((with_reducible refine zA ?_); have mk := K4.out; refine zq rfl (zm (w := w3) (cs := zG o) (ty := 103) rfl rfl rfl (by rw [OL.out]; rfl) (by rw [OL.out]; exact zY) ye) ?_; go_frame) | ((with_reducible refine zn ?_); have mk := K5.out; refine zd rfl (zf (ty := 103) rfl rfl RO.out uO rO (by rw [OL.out]; exact zY)) ?_; go_frame) | ((with_reducible refine zA ?_); have mk := K6.out; refine zq rfl (z6 (ty := 103) rfl rfl rfl (by rw [OL.out]; exact TH.out) (by rw [OL.out]; exact zY) ye) ?_; go_frame))
      have HO6 := Hd (vz HO5.out (k * 33) (cs := zG o) (by rw [OL.out]; omega))
      have HXN := Hd (show (qQ xs (k * 33) (zG o)).take ((k + 1) * 33) = (zc6 S L (Q n) t (k + 1)).flatMap zG by
       have h1 := VH xs (zG o) (k * 33) (by rw [HOR.out.1, OL.out]; omega)
       rw [OL.out] at h1
       rw [SNX.out, ← HXS.out, show (k + 1) * 33 = k * 33 + 33 by omega, h1])
      have F6 := Hd ((FQ.out.trans0 (F3.out.trans0 FB.out)).trans (zJ gg (zG o) (k * 33) (w3.alloc (.cells (zG o).toArray 103))) (fun i hi e => e))
      go_roundw
      case rel => exact ⟨k + 1, _, by go_num, by omega, ALN.out, HO6.out, HXN.out, F6.out⟩
      case measure => simp [intOf]; omega
     ·have hs2 : (Jk S L (Q n) q).isSome = false := by simpa using hs
      have PE := Hd (show ZB S L (Q n) t = 15 from by
       rw [PE1.out, if_neg]
       simp only [List.all_eq_true, Classical.not_forall]
       exact ⟨q, List.mem_of_getElem? HX.out, hs⟩)
      rw [hs2] at HF1
      clear hs hs2
      generalize hZ : (Jk S L (Q n) q).getD yR = o at *
      have K0 := tru
      have K1 := tru
      have K2 := tru
      have K3 := tru
      have K4 := tru
      go_wp2_with (first | ((with_reducible refine zn ?_); have mk := K0.out; refine zd rfl (zf (ty := 95) rfl rfl R1.out uP rP (by rw [PL.out]; exact zL)) ?_; go_frame) | ((with_reducible refine zA ?_); have mk := K1.out; refine zq rfl (zm (w := wq) (cs := zB q) (ty := 95) rfl rfl rfl (by rw [PL.out]; rfl) (by rw [PL.out]; exact zL) y3) ?_; generalize hqb : wq.heap.size = qb at *; generalize hwa : wq.alloc (.cells (zB q).toArray 95) = wb at *; go_frame) | ((with_reducible refine zn ?_); have mk := K2.out; refine zd rfl (zf (ty := 95) rfl rfl RN.out uP rP (by rw [PL.out]; exact zL)) ?_; go_frame) | (clear K3; go_at_call 76; refine HF1.out.mono ?_; rintro e w3 ⟨rfl, f3⟩; have F3 := Hd (FA.out.trans0 f3); clear f3; have FB := Hd ((Fr.refl No w3).alloc (.cells (zG o).toArray 103)); go_frame) | ((with_reducible refine zA ?_); have mk := K4.out; refine zq rfl (zm (w := w3) (cs := zG o) (ty := 103) rfl rfl rfl (by rw [OL.out]; rfl) (by rw [OL.out]; exact zY) ye) ?_; go_frame))
      go_ret
      exact ⟨by rw [PE.out]; rfl, FWQ.out.trans0 (F3.out.trans0 FB.out)⟩
    ·have hke : k = t.ins.length := by omega
     have i1 : ¬ (k : Int) < (t.ins.length : Int) := by omega
     have PE2 := Hd (show ZB S L (Q n) t = if vl t (qX S L (Q n) t) ≠ 0 then vl t (qX S L (Q n) t) else if vB t (qX S L (Q n) t) < vo (xX t) then 17 else 0 from by
      rw [PE1.out, if_pos]
      simp only [List.all_eq_true]
      exact fun q hq => AL.out q (by rw [hke, ← HTL.out, List.take_length]; exact hq))
     have PKL := Hd (show (qX S L (Q n) t).length = t.ins.length from by unfold qX; rw [List.length_map, HTL.out])
     have PKO := Hd (show ∀ x ∈ qX S L (Q n) t, x.ok from fun x hx => by
      obtain ⟨q, hq, rfl⟩ := List.mem_map.1 hx
      exact OKK.out q)
     have OIS := Hd (show xz wq (.slice (some ⟨gg, 0, none⟩) t.ins.length t.ins.length) (qX S L (Q n) t) from ⟨PKO.out, by
      have h1 := HXS.out
      rw [hke, zgz, List.take_of_length_le (by rw [HOR.out.1]; omega)] at h1
      rw [PKL.out, ← h1]
      exact HOR.out.slice.arg⟩)
     have FRO := Hd (Q8 (t := t) PKO.out OOK.out)
     have SZO := Hd (ZL FM.out)
     clear hke AL hlt hk
     have HFE := Hd (Za (HG.out.keep0 FWQ.out) (HT.out.keep FWQ.out) OIS.out (by rw [PKL.out]; omega))
     unfold zee at HFE
     by_cases c4 : vl t (qX S L (Q n) t) = 0
     ·rw [c4] at HFE
      have PE3 := Hd (show ZB S L (Q n) t = if vB t (qX S L (Q n) t) < vo (xX t) then 17 else 0 from by rw [PE2.out, if_neg (by simp [c4])])
      have HSZ := Hd (fun w' (f : Fr No w w') => Y7 w' (HT.out.keep f) FM.out)
      obtain ⟨sn, hsn⟩ := Int.eq_ofNat_of_zero_le (show 0 ≤ xX t from by have := SZO.out; omega)
      rw [hsn] at HSZ PE3
      have HFL := Hd (fun w' => zaG sn (by have := SZO.out; omega) w')
      clear c4
      generalize hFE : vB t (qX S L (Q n) t) = fr0 at *
      by_cases c5 : fr0 < vo (sn : Int)
      ·have PE := Hd (show ZB S L (Q n) t = 17 from by rw [PE3.out, if_pos c5])
       have K0 := tru
       have K1 := tru
       have K2 := tru
       have K3 := tru
       have K4 := tru
       go_wp2_with (first | ((with_reducible refine zn ?_); have mk := K0.out; refine zd rfl (zf (ty := 34) rfl rfl RTQ.out uT rT zR) ?_; go_frame) | (clear K1; go_at_call 77; refine HFE.out.mono ?_; rintro e w5 ⟨rfl, f5⟩; have F5 := Hd (FWQ.out.trans0 f5); have RT5 := Hd (zb RTQ.out f5 id); clear f5; go_frame) | ((with_reducible refine zn ?_); have mk := K2.out; refine zd rfl (zf (ty := 34) rfl rfl RT5.out uT rT zR) ?_; go_frame) | (clear K3; go_at_call 78; refine (HSZ.out w5 F5.out).mono ?_; rintro e w6 ⟨rfl, f6⟩; have F6 := Hd (F5.out.trans0 f6); clear f6; go_frame) | (clear K4; go_at_call 79; refine (HFL.out w6).mono ?_; rintro e w7 ⟨rfl, f7⟩; have F7 := Hd (F6.out.trans0 f7); clear f7; go_frame))
       go_ret
       exact ⟨by rw [PE.out]; rfl, F7.out⟩
      ·have PE := Hd (show ZB S L (Q n) t = 0 from by rw [PE3.out, if_neg c5])
       have K0 := tru
       have K1 := tru
       have K2 := tru
       have K3 := tru
       have K4 := tru
       go_wp2_with (first | ((with_reducible refine zn ?_); have mk := K0.out; refine zd rfl (zf (ty := 34) rfl rfl RTQ.out uT rT zR) ?_; go_frame) | (clear K1; go_at_call 77; refine HFE.out.mono ?_; rintro e w5 ⟨rfl, f5⟩; have F5 := Hd (FWQ.out.trans0 f5); have RT5 := Hd (zb RTQ.out f5 id); clear f5; go_frame) | ((with_reducible refine zn ?_); have mk := K2.out; refine zd rfl (zf (ty := 34) rfl rfl RT5.out uT rT zR) ?_; go_frame) | (clear K3; go_at_call 78; refine (HSZ.out w5 F5.out).mono ?_; rintro e w6 ⟨rfl, f6⟩; have F6 := Hd (F5.out.trans0 f6); clear f6; go_frame) | (clear K4; go_at_call 79; refine (HFL.out w6).mono ?_; rintro e w7 ⟨rfl, f7⟩; have F7 := Hd (F6.out.trans0 f7); clear f7; go_frame))
       go_ret
       exact ⟨by rw [PE.out]; rfl, F7.out⟩
     ·have PE := Hd (show ZB S L (Q n) t = vl t (qX S L (Q n) t) from by rw [PE2.out, if_pos c4])
      have je : (vl t (qX S L (Q n) t) != 0) = true := by simpa using c4
      have je2 : (vl t (qX S L (Q n) t) == 0) = false := by simpa using c4
      clear c4
      generalize hFE : vl t (qX S L (Q n) t) = fe at *
      have K0 := tru
      have K1 := tru
      go_wp2_with (first | ((with_reducible refine zn ?_); have mk := K0.out; refine zd rfl (zf (ty := 34) rfl rfl RTQ.out uT rT zR) ?_; go_frame) | (clear K1; go_at_call 77; refine HFE.out.mono ?_; rintro e w5 ⟨rfl, f5⟩; have F5 := Hd (FWQ.out.trans0 f5); clear f5; go_frame))
      go_ret
      exact ⟨by rw [PE.out]; rfl, F5.out⟩
end
end Go.Proofs.YtdkkjchclkjleaaGreatDoor
