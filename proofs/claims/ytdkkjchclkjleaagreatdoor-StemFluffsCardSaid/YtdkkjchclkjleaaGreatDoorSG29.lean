/- pool: looked. (Written by gen_looked.py.) -/
import Derived.Test.YtdkkjchclkjleaaGreatDoorSG27
import Derived.Test.YtdkkjchclkjleaaGreatDoorSG28
import Derived.Test.YtdkkjchclkjleaaGreatDoorSG15
import Derived.Test.YtdkkjchclkjleaaGreatDoorSG13
import Derived.Test.YtdkkjchclkjleaaGreatDoorSG22
set_option linter.unusedVariables false
set_option linter.unusedSimpArgs false
set_option linter.unnecessarySimpa false
set_option linter.all false
namespace Go.Proofs.YtdkkjchclkjleaaGreatDoor
open Go Go.RowKit Go.Maps Go.MapKept
theorem Xw {fn : Func} {p u v : Tmp} {ty : TypeId} (h : fn.results = #[.cell p ty, .tmp u, .tmp v]) (tmps : Array Value) (P : Program) (w : World) :
  (results fn tmps).run P w =
   ((asAddr (tmps.getD p undef)).run P w).andThen fun a w₁ => ((loadVar ty a).run P w₁).andThen fun x w₂ => .ok (.tuple #[x, tmps.getD u undef, tmps.getD v undef]) w₂ := by
 simp only [results, h]
 simp [Sem.run_bind, Result.andThen]
theorem xA {P : Program} {w : World} {fn : Func} {p u v : Tmp} {ty : TypeId} (h : fn.results = #[.cell p ty, .tmp u, .tmp v]) (tmps : Array Value) {g : Nat} {cs : List Value} {d : TypeDesc} {x y : Value} (hp : tmps.getD p undef = .pointer (some ⟨g, 0, none⟩)) (hr : w.rangeAt g 0 cs)
  (hu : P.underlying ty = some d) (hd : d.isRow = true) (hi : (P.info? ty).map (·.size) = some cs.length) (hx : tmps.getD u undef = x) (hy : tmps.getD v undef = y) :
  (results fn tmps).run P w = .ok (.tuple #[.agg cs.toArray, x, y]) w := by
 rw [Xw h, hp, hx, hy]
 simp only [asAddr, Sem.run_pure, Result.andThen_ok, run_loadVar_mid w g 0 ty cs d hr hu hd hi]
theorem Yt (w : World) : (Instr.build 129 #[]).run Tryz.prog w = .ok (.agg qu.toArray) w := by kernel_rfl
theorem zjx (f s : Int) (w : World) : (Instr.build 127 #[(0, .int .u64 f), (1, .int .i64 s)]).run Tryz.prog w = .ok (.agg [.int .u64 f, .int .i64 s].toArray) w := by kernel_rfl
theorem zjt (v : Int) (ia oa : Option Addr) (n ic m oc : Nat) (f s : Int) (w : World) : (Instr.build 129 #[(0, .agg #[.int .u32 v, .slice ia n ic, .slice oa m oc]), (1, .agg #[.int .u64 f, .int .i64 s])]).run Tryz.prog w = .ok (.agg [.int .u32 v, .slice ia n ic, .slice oa m oc, .int .u64 f, .int .i64 s, .int .u64 0].toArray) w := by kernel_rfl
theorem zi8 {t : TxD} {prev : List yF} (h : vl t prev = 0) : (qL prev).sum < 18446744073709551616 ∧ x9 t.outs ≤ (qL prev).sum := by
 unfold vl at h
 by_cases h1 : yt t = 0
 ·rw [if_pos h1] at h
  by_cases h2 : prev.length = t.ins.length
  ·rw [if_pos h2] at h
   by_cases h3 : opens t.ins prev = true
   ·rw [if_pos h3] at h
    by_cases h4 : (qL prev).sum < 18446744073709551616
    ·rw [if_pos h4] at h
     by_cases h5 : x9 t.outs ≤ (qL prev).sum
     ·exact ⟨h4, h5⟩
     ·rw [if_neg h5] at h; cases h
    ·rw [if_neg h4] at h; cases h
   ·rw [if_neg h3] at h; cases h
  ·rw [if_neg h2] at h; cases h
 ·rw [if_neg h1] at h; exact absurd h h1
theorem Q8 {t : TxD} {prev : List yF} (hp : ∀ x ∈ prev, x.ok) (ho : ∀ x ∈ t.outs, x.ok) : 0 ≤ vB t prev ∧ vB t prev ≤ 18446744073709551615 := by
 unfold vB
 by_cases h : vl t prev = 0
 ·rw [if_pos h]
  obtain ⟨h1, h3⟩ := zi8 h
  have h2 := Xd (l := t.outs) (fun x hx => (ho x hx).1.1)
  omega
 ·rw [if_neg h]
  omega
theorem ZL {t : TxD} (h : qP t = true) : 0 ≤ xX t ∧ xX t ≤ 1200 := by
 obtain ⟨h1, h2, h3⟩ := yX.1 h
 have h4 := zdd h1
 have h5 : xX t = 6 + 37 * (t.ins.length : Int) + 40 * (t.outs.length : Int) + JH t.ins := rfl
 omega
theorem zjX (v : Int) (ia oa : Option Addr) (n ic m oc : Nat) (f s a : Int) : ∀ u ∈ [Value.int .u32 v, .slice ia n ic, .slice oa m oc, .int .u64 f, .int .i64 s, .int .u64 a], u.oneCell' = true := by
 intro u hu
 simp only [List.mem_cons, List.not_mem_nil, or_false] at hu
 rcases hu with rfl | rfl | rfl | rfl | rfl | rfl <;> rfl
def Zp (w : World) (S : List zy) (I : List zi) (L : List z7) (t : TxD) (cs : List Value) (e : Ending) (w' : World) : Prop :=
 ∃ (ecs : List Value) (pv : Value), e = .returned (.tuple #[.agg ecs.toArray, pv, .int .i64 (xT S I L t)]) ∧ Fr No w w' ∧ (ecs.length = 6 ∧ ∀ v ∈ ecs, v.oneCell' = true) ∧
  (xT S I L t = 0 → ecs = cs ++ [.int .u64 (vB t (xm S L t)), .int .i64 (xX t), .int .u64 0] ∧ w'.ownsRow w.heap.size 41 32 pv (xe L t).length ((xe L t).flatMap zj))
theorem Zp.bad {w w' : World} {S : List zy} {I : List zi} {L : List z7} {t : TxD} {cs : List Value} {c : Int} (h : xT S I L t = c) (hc : c ≠ 0) (f : Fr No w w') (a : Value) : Zp w S I L t cs (.returned (.tuple #[.agg qu.toArray, a, .int .i64 c])) w' :=
 ⟨qu, a, by rw [h], f, ⟨rfl, jH⟩, fun e => absurd (h.symm.trans e) hc⟩
section
variable {w0 w : World} {p ma ms g N : Nat} {VG X : Nat → Prop} {C : zi → List Value} {L : List z7}
set_option maxRecDepth 20000 in
set_option maxHeartbeats 16000000 in
theorem zac (hg : Jx w) (h : yf w0 w p ma ms g VG X C L N) (hNN : N ≤ 900) {w1 : World} {pc : Nat} {VC : Nat → Prop} {S : List zy} {bs : List xt} {I : List zi} (hc : Cn w1 w pc VC S bs I) (hS : ∀ c ∈ S, c.ok) {t : TxD} {cs : List Value} (ht : TxQ w t cs) (hchk : yt t = 0) :
  Calls Tryz.prog 47 #[.pointer (some ⟨p, 0, none⟩), .pointer (some ⟨pc, 0, none⟩), .agg (zj (idH t)).toArray, .agg cs.toArray] w (Zp w S I L t cs) := by
 obtain ⟨dT, uT, rT⟩ := vw
 obtain ⟨dH, uH, rH⟩ := yj
 obtain ⟨dE, uE, rE⟩ := zej
 have ze := show ∀ w, (zeroValue 129).run Tryz.prog w = .ok (.agg qu.toArray) w from Xh
 obtain ⟨hfm, -, -, -, -, -⟩ := j5 hchk
 obtain ⟨hkl, hil, hol⟩ := yX.1 hfm
 obtain ⟨x, hx⟩ : ∃ x, x = idH t := ⟨_, rfl⟩
 have XOK := Hd (show zQ x by rw [hx]; exact Jp t)
 have HXL := Hd (zE XOK.out)
 obtain ⟨ia, ic, oa, oc, rfl⟩ := ht.form
 have TOK := Hd ht.oks
 have f1 : Fr No w (w.alloc (.cells (zj x).toArray 41)) := (Fr.refl No w).alloc _
 have f2 : Fr No (w.alloc (.cells (zj x).toArray 41)) ((w.alloc (.cells (zj x).toArray 41)).alloc (.cells #[.int .u32 t.ver, .slice ia t.ins.length ic, .slice oa t.outs.length oc] 34)) := (Fr.refl No _).alloc _
 have f3 : Fr No ((w.alloc (.cells (zj x).toArray 41)).alloc (.cells #[.int .u32 t.ver, .slice ia t.ins.length ic, .slice oa t.outs.length oc] 34)) (((w.alloc (.cells (zj x).toArray 41)).alloc (.cells #[.int .u32 t.ver, .slice ia t.ins.length ic, .slice oa t.outs.length oc] 34)).alloc (.cells qu.toArray 129)).drew := ((Fr.refl No _).alloc _).drew
 have F1 := Hd ((f1.trans0 f2).trans0 f3)
 have RH := Hd (zb (zC w (zj x) 41) (f2.trans0 f3) id)
 have RT := Hd (show (((w.alloc (.cells (zj x).toArray 41)).alloc (.cells #[.int .u32 t.ver, .slice ia t.ins.length ic, .slice oa t.outs.length oc] 34)).alloc (.cells qu.toArray 129)).drew.rangeAt (w.heap.size + 1) 0 [.int .u32 t.ver, .slice ia t.ins.length ic, .slice oa t.outs.length oc] by
  have := zb (zC (w.alloc (.cells (zj x).toArray 41)) [.int .u32 t.ver, .slice ia t.ins.length ic, .slice oa t.outs.length oc] 34) f3 id
  simpa using this)
 have BE := Hd (show (((w.alloc (.cells (zj x).toArray 41)).alloc (.cells #[.int .u32 t.ver, .slice ia t.ins.length ic, .slice oa t.outs.length oc] 34)).alloc (.cells qu.toArray 129)).drew.heap[w.heap.size + 2]? = some (.cells qu.toArray 129 (0, 0)) from (Fr.refl No _).drew.obj (yL ((w.alloc (.cells (zj x).toArray 41)).alloc (.cells #[.int .u32 t.ver, .slice ia t.ins.length ic, .slice oa t.outs.length oc] 34)) (.cells qu.toArray 129) (n := w.heap.size + 2) (by simp)) id)
 have HT := Hd ht
 have HG := Hd hg
 have HH := Hd h
 have HC := Hd hc
 have HS := Hd hS
 obtain ⟨M, hM, hm⟩ := h.am
 have HM := Hd (hM.keep F1.out id)
 have CP := Hd (fun w' (f : Fr No w w') => (h.fr0 f).cells)
 have LK := Hd (fun w' (h' : qA w' ma M) => Vv (w := w') XOK.out h' hm true)
 obtain ⟨y, hy⟩ : ∃ y, ZY C L x = y ∧ y.length = 6 ∧ ∀ v ∈ y, v.oneCell' = true := ⟨_, rfl, zcs h x⟩
 have YL := Hd hy.2.1
 have YO := Hd hy.2.2
 rw [hy.1] at LK
 have IDL := Hd (show decide (x ∈ xD L) = decide (idH t ∈ xD L) by rw [hx])
 generalize hbb : decide (x ∈ xD L) = bb at LK
 have HX := Hd hx
 have FM := Hd hfm
 have CHK := Hd hchk
 have INL := Hd (show t.ins.length ≤ 8 from hil)
 clear h hM hm hy ht hg hc hS f1 f2 f3 hkl hil hol hfm hchk
 show Calls Tryz.prog 47 #[.pointer (some ⟨p, 0, none⟩), .pointer (some ⟨pc, 0, none⟩), .agg (zj (idH t)).toArray, .agg #[.int .u32 t.ver, .slice ia t.ins.length ic, .slice oa t.outs.length oc]] w _
 rw [← hx]
 clear hx
 go_enter Tryz.func47, Tryz.ntmps47
 go_wp2_with fail
 generalize hq : w.heap.size = q at *
 generalize hwz : ((w.alloc (.cells (zj x).toArray 41)).alloc (.cells #[.int .u32 t.ver, .slice ia t.ins.length ic, .slice oa t.outs.length oc] 34)).alloc (.cells qu.toArray 129) = wz at *
 have ZQ := Hd (show wz.drew.heap.size = q + 3 by show wz.heap.size = q + 3; rw [← hwz, ← hq]; simp)
 clear hwz
 refine zv [false, false, false, false, false, false, false, false, false, true, true, false] (fun w' => w'.cell? ⟨p, 0, none⟩ = some (.map (some ma)) ∧ w'.rangeAt q 0 (zj x) ∧ qA w' ma M) (by kernel_rfl) (by kernel_rfl) ?_ (fun K hK => ?_)
 ·exact ⟨(CP.out _ F1.out).1, RH.out, HM.out⟩
 generalize wz.drew = wd at *
 repeat (first | ((first | with_reducible refine zx ?_ | ((with_reducible refine zu ?_ ?_); (focus rfl))); apply Exists.intro; refine ⟨?_, ?_⟩; (focus (first | exact zD (ty := 41) rfl (fun w h => h.2.1) uH rH (by rw [HXL.out]; exact zr) | exact fun w' h => zN (t := 133) rfl rfl rfl (LK.out w' h.2.2) | (intro w' hS; obtain ⟨s1, s2, s3⟩ := hS; go_simp; (try with_reducible rfl); done))); try simp only [Act.put, pA, pB, pC]) | ((first | ((with_reducible refine zg (c := false) ?_ ?_ ?_); (focus rfl); (focus rfl)) | ((with_reducible refine zg (c := true) ?_ ?_ ?_); (focus rfl); (focus rfl)) | ((with_reducible refine zt ?_ ?_); (focus rfl))); try simp only [Act.put, pA, pB, pC]))
 (first | with_reducible refine zU (fun K' hK' => ?_) | ((with_reducible refine zK ?_ (fun K' hK' => ?_)); (focus rfl)))
 refine yB (yZ rfl (Xh _)) ?_
 have FE := Hd ((Fr.refl No wd).alloc (.cells qu.toArray 129))
 refine hK'.out _ _ ?_ (fun hS => ?_)
 ·exact ⟨FE.out.cell (CP.out _ F1.out).1 id, zb RH.out FE.out id, HM.out.keep FE.out id⟩
 try simp only [Act.put, pA, pB, pC]
 (first | with_reducible refine zU (fun K' hK' => ?_) | ((with_reducible refine zK ?_ (fun K' hK' => ?_)); (focus rfl)))
 refine xb (zm (w := wd) (ty := 129) (cs := y) rfl rfl rfl (by rw [YL.out]; rfl) (by rw [YL.out]; exact xJ) YO.out) ?_
 have FY := Hd ((Fr.refl No wd).alloc (.cells y.toArray 129))
 refine hK'.out _ _ ?_ (fun hS => ?_)
 ·exact ⟨FY.out.cell (CP.out _ F1.out).1 id, zb RH.out FY.out id, HM.out.keep FY.out id⟩
 try simp only [Act.put]
 repeat (first | ((first | with_reducible refine zx ?_ | ((with_reducible refine zu ?_ ?_); (focus rfl))); apply Exists.intro; refine ⟨?_, ?_⟩; (focus (first | (intro w' hS; obtain _ := hS; go_simp; (try with_reducible rfl); done))); try simp only [Act.put, pA, pB, pC]) | ((first | ((with_reducible refine zg (c := false) ?_ ?_ ?_); (focus rfl); (focus rfl)) | ((with_reducible refine zg (c := true) ?_ ?_ ?_); (focus rfl); (focus rfl)) | ((with_reducible refine zt ?_ ?_); (focus rfl))); try simp only [Act.put, pA, pB, pC]))
 refine zM (hK.out _ _ ?_)
 have RH2 := Hd (zb RH.out FY.out id)
 have RT2 := Hd (zb RT.out FY.out id)
 have BE2 := Hd (FY.out.obj BE.out id)
 have FW2 := Hd (F1.out.trans0 FY.out)
 have Z2 := Hd (show q + 3 ≤ (wd.alloc (.cells y.toArray 129)).heap.size by have := FY.out.size; have := ZQ.out; omega)
 clear HM LK RH RT BE CP
 generalize wd.alloc (.cells y.toArray 129) = w2 at *
 have HP := Hd (YZ (HH.out.fr0 FW2.out) (HC.out.fr0 FW2.out) HS.out (HT.out.keep FW2.out) (by have := INL.out; omega))
 have HD := Hd (za7 (HC.out.fr0 FW2.out) XOK.out)
 rw [show decide (x ∈ I) = decide (idH t ∈ I) by rw [HX.out]] at HD
 rw [hbb] at IDL
 by_cases c1 : idH t ∈ xD L
 ·have hb1 : bb = true := by rw [IDL.out]; exact decide_eq_true c1
  have LE := Hd (show xT S I L t = 10 by unfold xT; rw [if_pos c1])
  subst hb1
  clear c1
  have K0 := tru
  have K1 := tru
  go_wp2_with (first | ((with_reducible refine zn ?_); have mk := K0.out; with_reducible refine yk 29 ?_; refine zd rfl (yA (t := 129) rfl rfl (Yt _)) ?_; go_frame) | ((with_reducible refine zA ?_); have mk := K1.out; refine zq rfl (z6 (ty := 129) (b := q + 2) (off := 0) (cs := qu) rfl rfl rfl (yg BE2.out (Nat.le_refl 6)) xJ jH) ?_; go_frame))
  refine bodyPost_ret (xA (P := Tryz.prog) (fn := Tryz.f47) rfl _ rfl (yY BE2.out rfl) uE rE xJ rfl rfl) rfl (Zp.bad LE.out (by decide) ((FW2.out).trans (zJ (q + 2) qu 0 w2) (fun i hi e => by omega)) _)
 have hb1 : bb = false := by rw [IDL.out]; exact decide_eq_false c1
 subst hb1
 by_cases c2 : idH t ∈ I
 ·have LE := Hd (show xT S I L t = 19 by unfold xT; rw [if_neg c1, if_pos c2])
  have hd : decide (idH t ∈ I) = true := decide_eq_true c2
  rw [hd] at HD
  clear c1 c2 hd
  have K0 := tru
  have K1 := tru
  have K2 := tru
  have K3 := tru
  go_wp2_with (first | ((with_reducible refine zn ?_); have mk := K0.out; with_reducible refine yk 31 ?_; refine zd rfl (zf (ty := 41) rfl rfl RH2.out uH rH (by rw [HXL.out]; exact zr)) ?_; go_frame) | (clear K1; go_at_call 74; refine HD.out.mono ?_; rintro e w3 ⟨rfl, f3⟩; have F3 := Hd f3; clear f3; have RT3 := Hd (zb RT2.out F3.out id); have BE3 := Hd (F3.out.obj BE2.out id); have FW3 := Hd (FW2.out.trans0 F3.out); have HP3 := Hd (YZ (HH.out.fr0 FW3.out) (HC.out.fr0 FW3.out) HS.out (HT.out.keep FW3.out) (by have := INL.out; omega)); go_frame) | ((with_reducible refine zn ?_); have mk := K2.out; with_reducible refine yk 33 ?_; refine zd rfl (yA (t := 129) rfl rfl (Yt _)) ?_; go_frame) | ((with_reducible refine zA ?_); have mk := K3.out; refine zq rfl (z6 (ty := 129) (b := q + 2) (off := 0) (cs := qu) rfl rfl rfl (yg BE3.out (Nat.le_refl 6)) xJ jH) ?_; go_frame))
  refine bodyPost_ret (xA (P := Tryz.prog) (fn := Tryz.f47) rfl _ rfl (yY BE3.out rfl) uE rE xJ rfl rfl) rfl (Zp.bad LE.out (by decide) ((FW3.out).trans (zJ (q + 2) qu 0 w3) (fun i hi e => by omega)) _)
 have hd : decide (idH t ∈ I) = false := decide_eq_false c2
 rw [hd] at HD
 clear hd
 by_cases c3 : jM S L t = 0
 rotate_left
 ·have LE := Hd (show xT S I L t = jM S L t by unfold xT; rw [if_neg c1, if_neg c2, if_pos c3])
  have je : (jM S L t == 0) = false := by simpa using c3
  have NE := Hd c3
  clear c1 c2 c3
  have K0 := tru
  have K1 := tru
  have K2 := tru
  have K3 := tru
  have K4 := tru
  have K5 := tru
  go_wp2_with (first | ((with_reducible refine zn ?_); have mk := K0.out; with_reducible refine yk 31 ?_; refine zd rfl (zf (ty := 41) rfl rfl RH2.out uH rH (by rw [HXL.out]; exact zr)) ?_; go_frame) | (clear K1; go_at_call 74; refine HD.out.mono ?_; rintro e w3 ⟨rfl, f3⟩; have F3 := Hd f3; clear f3; have RT3 := Hd (zb RT2.out F3.out id); have BE3 := Hd (F3.out.obj BE2.out id); have FW3 := Hd (FW2.out.trans0 F3.out); have HP3 := Hd (YZ (HH.out.fr0 FW3.out) (HC.out.fr0 FW3.out) HS.out (HT.out.keep FW3.out) (by have := INL.out; omega)); go_frame) | ((with_reducible refine zn ?_); have mk := K2.out; refine zd rfl (zf (ty := 34) rfl rfl RT3.out uT rT zR) ?_; go_frame) | (clear K3; go_at_call 86; refine HP3.out.mono ?_; rintro e w4 ⟨ov, pv, rfl, f4, hz⟩; clear hz; have F4 := Hd f4; clear f4; have RT4 := Hd (zb RT3.out F4.out id); have BE4 := Hd (F4.out.obj BE3.out id); have FW4 := Hd (FW3.out.trans0 F4.out); go_frame) | ((with_reducible refine zn ?_); have mk := K4.out; with_reducible refine yk 44 ?_; refine zd rfl (yA (t := 129) rfl rfl (Yt _)) ?_; go_frame) | ((with_reducible refine zA ?_); have mk := K5.out; refine zq rfl (z6 (ty := 129) (b := q + 2) (off := 0) (cs := qu) rfl rfl rfl (yg BE4.out (Nat.le_refl 6)) xJ jH) ?_; go_frame))
  refine bodyPost_ret (xA (P := Tryz.prog) (fn := Tryz.f47) rfl _ rfl (yY BE4.out rfl) uE rE xJ rfl rfl) rfl (Zp.bad LE.out NE.out ((FW4.out).trans (zJ (q + 2) qu 0 w4) (fun i hi e => by omega)) _)
 have HPZ := Hd (show ∀ (pv ov : Value) w' (w3s : Nat), (jM S L t = 0 → xz w' ov (xm S L t) ∧ w'.ownsRow w3s 41 32 pv (xe L t).length ((xe L t).flatMap zj)) → xz w' ov (xm S L t) ∧ w'.ownsRow w3s 41 32 pv (xe L t).length ((xe L t).flatMap zj) from fun _ _ _ _ h => h c3)
 unfold Qc at HP
 rw [c3] at HP
 have PVL := Hd (show (xm S L t).length ≤ 1000 by unfold xm; rw [List.length_map, qW]; have := INL.out; omega)
 have PAL := Hd (show (xe L t).length ≤ 1000 by have := zcL L t; have := INL.out; omega)
 have FOK := Hd (show ∀ x ∈ xm S L t, x.ok from fun x hx => by
  obtain ⟨q, hq, rfl⟩ := List.mem_map.1 hx
  unfold xR
  split
  ·exact jT HS.out q
  ·exact JZ HH.out.outs_ok q)
 have RB := Hd (Q8 (t := t) FOK.out TOK.out.2)
 have c3z := Hd c3
 by_cases c4 : vl t (xm S L t) = 0
 rotate_left
 ·have LE := Hd (show xT S I L t = vl t (xm S L t) by unfold xT; rw [if_neg c1, if_neg c2, if_neg (by simp [c3]), if_pos c4])
  have je : (vl t (xm S L t) == 0) = false := by simpa using c4
  have NE := Hd c4
  clear c1 c2 c3 c4
  have K0 := tru
  have K1 := tru
  have K2 := tru
  have K3 := tru
  have K4 := tru
  have K5 := tru
  have K6 := tru
  have K7 := tru
  go_wp2_with (first | ((with_reducible refine zn ?_); have mk := K0.out; with_reducible refine yk 31 ?_; refine zd rfl (zf (ty := 41) rfl rfl RH2.out uH rH (by rw [HXL.out]; exact zr)) ?_; go_frame) | (clear K1; go_at_call 74; refine HD.out.mono ?_; rintro e w3 ⟨rfl, f3⟩; have F3 := Hd f3; clear f3; have RT3 := Hd (zb RT2.out F3.out id); have BE3 := Hd (F3.out.obj BE2.out id); have FW3 := Hd (FW2.out.trans0 F3.out); have HP3 := Hd (YZ (HH.out.fr0 FW3.out) (HC.out.fr0 FW3.out) HS.out (HT.out.keep FW3.out) (by have := INL.out; omega)); go_frame) | ((with_reducible refine zn ?_); have mk := K2.out; refine zd rfl (zf (ty := 34) rfl rfl RT3.out uT rT zR) ?_; go_frame) | (clear K3; go_at_call 86; refine HP3.out.mono ?_; rintro e w4 ⟨ov, pv, rfl, f4, hz⟩; rw [c3z.out]; have HZ := Hd (HPZ.out pv ov w4 _ hz); clear hz; have F4 := Hd f4; clear f4; have RT4 := Hd (zb RT3.out F4.out id); have BE4 := Hd (F4.out.obj BE3.out id); have FW4 := Hd (FW3.out.trans0 F4.out); have HFE := Hd (Za (HG.out.keep0 FW4.out) (HT.out.keep FW4.out) HZ.out.1 PVL.out); go_frame) | ((with_reducible refine zn ?_); have mk := K4.out; refine zd rfl (zf (ty := 34) rfl rfl RT4.out uT rT zR) ?_; go_frame) | (clear K5; go_at_call 77; refine HFE.out.mono ?_; rintro e w5 ⟨rfl, f5⟩; have F5 := Hd f5; clear f5; have RT5 := Hd (zb RT4.out F5.out id); have BE5 := Hd (F5.out.obj BE4.out id); have FW5 := Hd (FW4.out.trans0 F5.out); go_frame) | ((with_reducible refine zn ?_); have mk := K6.out; with_reducible refine yk 54 ?_; refine zd rfl (yA (t := 129) rfl rfl (Yt _)) ?_; go_frame) | ((with_reducible refine zA ?_); have mk := K7.out; refine zq rfl (z6 (ty := 129) (b := q + 2) (off := 0) (cs := qu) rfl rfl rfl (yg BE5.out (Nat.le_refl 6)) xJ jH) ?_; go_frame))
  refine bodyPost_ret (xA (P := Tryz.prog) (fn := Tryz.f47) rfl _ rfl (yY BE5.out rfl) uE rE xJ rfl rfl) rfl (Zp.bad LE.out NE.out ((FW5.out).trans (zJ (q + 2) qu 0 w5) (fun i hi e => by omega)) _)
 have FEZ := Hd c4
 obtain ⟨sz, hsz⟩ := Int.eq_ofNat_of_zero_le (ZL FM.out).1
 have SZ := Hd hsz
 have SZB := Hd (show sz ≤ 1200 by have := (ZL FM.out).2; omega)
 have FLO := Hd (fun w => zaG sz (by have := SZB.out; omega) w)
 by_cases c5 : vB t (xm S L t) < vo (xX t)
 ·have LE := Hd (show xT S I L t = 17 by unfold xT; rw [if_neg c1, if_neg c2, if_neg (by simp [c3]), if_neg (by simp [c4]), if_pos c5])
  rw [hsz] at c5
  generalize hFR : vB t (xm S L t) = FR at *
  generalize vo (sz : Int) = FF at *
  clear c1 c2 c3 c4
  have K0 := tru
  have K1 := tru
  have K2 := tru
  have K3 := tru
  have K4 := tru
  have K5 := tru
  have K6 := tru
  have K7 := tru
  have K8 := tru
  have K9 := tru
  have K10 := tru
  go_wp2_with (first | ((with_reducible refine zn ?_); have mk := K0.out; with_reducible refine yk 31 ?_; refine zd rfl (zf (ty := 41) rfl rfl RH2.out uH rH (by rw [HXL.out]; exact zr)) ?_; go_frame) | (clear K1; go_at_call 74; refine HD.out.mono ?_; rintro e w3 ⟨rfl, f3⟩; have F3 := Hd f3; clear f3; have RT3 := Hd (zb RT2.out F3.out id); have BE3 := Hd (F3.out.obj BE2.out id); have FW3 := Hd (FW2.out.trans0 F3.out); have HP3 := Hd (YZ (HH.out.fr0 FW3.out) (HC.out.fr0 FW3.out) HS.out (HT.out.keep FW3.out) (by have := INL.out; omega)); go_frame) | ((with_reducible refine zn ?_); have mk := K2.out; refine zd rfl (zf (ty := 34) rfl rfl RT3.out uT rT zR) ?_; go_frame) | (clear K3; go_at_call 86; refine HP3.out.mono ?_; rintro e w4 ⟨ov, pv, rfl, f4, hz⟩; rw [c3z.out]; have HZ := Hd (HPZ.out pv ov w4 _ hz); clear hz; have F4 := Hd f4; clear f4; have RT4 := Hd (zb RT3.out F4.out id); have BE4 := Hd (F4.out.obj BE3.out id); have FW4 := Hd (FW3.out.trans0 F4.out); have HFE := Hd (Za (HG.out.keep0 FW4.out) (HT.out.keep FW4.out) HZ.out.1 PVL.out); go_frame) | ((with_reducible refine zn ?_); have mk := K4.out; refine zd rfl (zf (ty := 34) rfl rfl RT4.out uT rT zR) ?_; go_frame) | (clear K5; go_at_call 77; refine HFE.out.mono ?_; rintro e w5 ⟨rfl, f5⟩; rw [FEZ.out, hFR]; have F5 := Hd f5; clear f5; have RT5 := Hd (zb RT4.out F5.out id); have BE5 := Hd (F5.out.obj BE4.out id); have FW5 := Hd (FW4.out.trans0 F5.out); have HSZ := Hd (Y7 w5 (HT.out.keep FW5.out) FM.out); go_frame) | ((with_reducible refine zn ?_); have mk := K6.out; refine zd rfl (zf (ty := 34) rfl rfl RT5.out uT rT zR) ?_; go_frame) | (clear K7; go_at_call 78; refine HSZ.out.mono ?_; rintro e w6 ⟨rfl, f6⟩; rw [SZ.out]; have F6 := Hd f6; clear f6; have RT6 := Hd (zb RT5.out F6.out id); have BE6 := Hd (F6.out.obj BE5.out id); have FW6 := Hd (FW5.out.trans0 F6.out); go_frame) | (clear K8; go_at_call 79; refine (FLO.out _).mono ?_; rintro e w7 ⟨rfl, f7⟩; have F7 := Hd f7; clear f7; have RT7 := Hd (zb RT6.out F7.out id); have BE7 := Hd (F7.out.obj BE6.out id); have FW7 := Hd (FW6.out.trans0 F7.out); go_frame) | ((with_reducible refine zn ?_); have mk := K9.out; with_reducible refine yk 65 ?_; refine zd rfl (yA (t := 129) rfl rfl (Yt _)) ?_; go_frame) | ((with_reducible refine zA ?_); have mk := K10.out; refine zq rfl (z6 (ty := 129) (b := q + 2) (off := 0) (cs := qu) rfl rfl rfl (yg BE7.out (Nat.le_refl 6)) xJ jH) ?_; go_frame))
  refine bodyPost_ret (xA (P := Tryz.prog) (fn := Tryz.f47) rfl _ rfl (yY BE7.out rfl) uE rE xJ rfl rfl) rfl (Zp.bad LE.out (by decide) ((FW7.out).trans (zJ (q + 2) qu 0 w7) (fun i hi e => by omega)) _)
 have hgN : (upS (gOf L) (xe L t)).length ≤ 1000 := by have := xM (HH.out.gr.gok.nd.sublist (qJ (xe L t))) (fun x hx => (qJ (xe L t)).subset hx); have := HH.out.gr.len; rw [qv] at *; simp [xD, gOf] at *; omega
 by_cases c6 : 6 ≤ (upS (gOf L) (xe L t)).length
 ·have LE := Hd (show xT S I L t = 16 by unfold xT; rw [if_neg c1, if_neg c2, if_neg (by simp [c3]), if_neg (by simp [c4]), if_neg c5, if_pos c6])
  rw [hsz] at c5
  generalize hFR : vB t (xm S L t) = FR at *
  generalize vo (sz : Int) = FF at *
  have HUL := Hd hgN
  generalize hUU : upS (gOf L) (xe L t) = UU at *
  have i6 : ¬ (UU.length : Int) < 6 := by omega
  clear c1 c2 c3 c4 hgN
  have K0 := tru
  have K1 := tru
  have K2 := tru
  have K3 := tru
  have K4 := tru
  have K5 := tru
  have K6 := tru
  have K7 := tru
  have K8 := tru
  have K9 := tru
  have K10 := tru
  have K11 := tru
  go_wp2_with (first | ((with_reducible refine zn ?_); have mk := K0.out; with_reducible refine yk 31 ?_; refine zd rfl (zf (ty := 41) rfl rfl RH2.out uH rH (by rw [HXL.out]; exact zr)) ?_; go_frame) | (clear K1; go_at_call 74; refine HD.out.mono ?_; rintro e w3 ⟨rfl, f3⟩; have F3 := Hd f3; clear f3; have RT3 := Hd (zb RT2.out F3.out id); have BE3 := Hd (F3.out.obj BE2.out id); have FW3 := Hd (FW2.out.trans0 F3.out); have HP3 := Hd (YZ (HH.out.fr0 FW3.out) (HC.out.fr0 FW3.out) HS.out (HT.out.keep FW3.out) (by have := INL.out; omega)); go_frame) | ((with_reducible refine zn ?_); have mk := K2.out; refine zd rfl (zf (ty := 34) rfl rfl RT3.out uT rT zR) ?_; go_frame) | (clear K3; go_at_call 86; refine HP3.out.mono ?_; rintro e w4 ⟨ov, pv, rfl, f4, hz⟩; rw [c3z.out]; have HZ := Hd (HPZ.out pv ov w4 _ hz); clear hz; have F4 := Hd f4; clear f4; have RT4 := Hd (zb RT3.out F4.out id); have BE4 := Hd (F4.out.obj BE3.out id); have FW4 := Hd (FW3.out.trans0 F4.out); have HFE := Hd (Za (HG.out.keep0 FW4.out) (HT.out.keep FW4.out) HZ.out.1 PVL.out); go_frame) | ((with_reducible refine zn ?_); have mk := K4.out; refine zd rfl (zf (ty := 34) rfl rfl RT4.out uT rT zR) ?_; go_frame) | (clear K5; go_at_call 77; refine HFE.out.mono ?_; rintro e w5 ⟨rfl, f5⟩; rw [FEZ.out, hFR]; have F5 := Hd f5; clear f5; have RT5 := Hd (zb RT4.out F5.out id); have BE5 := Hd (F5.out.obj BE4.out id); have FW5 := Hd (FW4.out.trans0 F5.out); have HSZ := Hd (Y7 w5 (HT.out.keep FW5.out) FM.out); go_frame) | ((with_reducible refine zn ?_); have mk := K6.out; refine zd rfl (zf (ty := 34) rfl rfl RT5.out uT rT zR) ?_; go_frame) | (clear K7; go_at_call 78; refine HSZ.out.mono ?_; rintro e w6 ⟨rfl, f6⟩; rw [SZ.out]; have F6 := Hd f6; clear f6; have RT6 := Hd (zb RT5.out F6.out id); have BE6 := Hd (F6.out.obj BE5.out id); have FW6 := Hd (FW5.out.trans0 F6.out); go_frame) | (clear K8; go_at_call 79; refine (FLO.out _).mono ?_; rintro e w7 ⟨rfl, f7⟩; have F7 := Hd f7; clear f7; have RT7 := Hd (zb RT6.out F7.out id); have BE7 := Hd (F7.out.obj BE6.out id); have FW7 := Hd (FW6.out.trans0 F7.out); have P7 := Hd (HH.out.fr0 FW7.out); have OP7 := Hd (zl HZ.out.2 ((F5.out.trans0 F6.out).trans0 F7.out) (fun _ _ => id)); have IP7 := Hd (yV.own OP7.out (fun x hx => HH.out.ids x (J2 hx))); have c2p := P7.out.cells.2.2; have HU := Hd (zjH P7.out.gr (by omega) IP7.out PAL.out); go_frame) | (clear K9; go_at_call 87; refine HU.out.mono ?_; rintro e w8 ⟨uv, rfl, hrk⟩; rw [hUU] at hrk; obtain ⟨ua, uc, huv⟩ := hrk.1.slice.arg.form; subst huv; have F8 := Hd hrk.2; clear hrk; have RT8 := Hd (zb RT7.out F8.out id); have BE8 := Hd (F8.out.obj BE7.out id); have FW8 := Hd (FW7.out.trans0 F8.out); have OP8 := Hd (zl OP7.out F8.out (fun _ _ => id)); go_frame) | ((with_reducible refine zn ?_); have mk := K10.out; with_reducible refine yk 74 ?_; refine zd rfl (yA (t := 129) rfl rfl (Yt _)) ?_; go_frame) | ((with_reducible refine zA ?_); have mk := K11.out; refine zq rfl (z6 (ty := 129) (b := q + 2) (off := 0) (cs := qu) rfl rfl rfl (yg BE8.out (Nat.le_refl 6)) xJ jH) ?_; go_frame))
  refine bodyPost_ret (xA (P := Tryz.prog) (fn := Tryz.f47) rfl _ rfl (yY BE8.out rfl) uE rE xJ rfl rfl) rfl (Zp.bad LE.out (by decide) ((FW8.out).trans (zJ (q + 2) qu 0 w8) (fun i hi e => by omega)) _)
 ·have LE := Hd (show xT S I L t = 0 by unfold xT; rw [if_neg c1, if_neg c2, if_neg (by simp [c3]), if_neg (by simp [c4]), if_neg c5, if_neg c6])
  rw [hsz] at c5
  generalize hFR : vB t (xm S L t) = FR at *
  generalize vo (sz : Int) = FF at *
  have HUL := Hd hgN
  generalize hUU : upS (gOf L) (xe L t) = UU at *
  have i6 : (UU.length : Int) < 6 := by omega
  have i7 : ¬ 6 ≤ UU.length := c6
  clear c1 c2 c3 c4 hgN
  have K0 := tru
  have K1 := tru
  have K2 := tru
  have K3 := tru
  have K4 := tru
  have K5 := tru
  have K6 := tru
  have K7 := tru
  have K8 := tru
  have K9 := tru
  have K10 := tru
  have K11 := tru
  have K12 := tru
  have K13 := tru
  go_wp2_with (first | ((with_reducible refine zn ?_); have mk := K0.out; with_reducible refine yk 31 ?_; refine zd rfl (zf (ty := 41) rfl rfl RH2.out uH rH (by rw [HXL.out]; exact zr)) ?_; go_frame) | (clear K1; go_at_call 74; refine HD.out.mono ?_; rintro e w3 ⟨rfl, f3⟩; have F3 := Hd f3; clear f3; have RT3 := Hd (zb RT2.out F3.out id); have BE3 := Hd (F3.out.obj BE2.out id); have FW3 := Hd (FW2.out.trans0 F3.out); have HP3 := Hd (YZ (HH.out.fr0 FW3.out) (HC.out.fr0 FW3.out) HS.out (HT.out.keep FW3.out) (by have := INL.out; omega)); go_frame) | ((with_reducible refine zn ?_); have mk := K2.out; refine zd rfl (zf (ty := 34) rfl rfl RT3.out uT rT zR) ?_; go_frame) | (clear K3; go_at_call 86; refine HP3.out.mono ?_; rintro e w4 ⟨ov, pv, rfl, f4, hz⟩; rw [c3z.out]; have HZ := Hd (HPZ.out pv ov w4 _ hz); clear hz; have F4 := Hd f4; clear f4; have RT4 := Hd (zb RT3.out F4.out id); have BE4 := Hd (F4.out.obj BE3.out id); have FW4 := Hd (FW3.out.trans0 F4.out); have HFE := Hd (Za (HG.out.keep0 FW4.out) (HT.out.keep FW4.out) HZ.out.1 PVL.out); go_frame) | ((with_reducible refine zn ?_); have mk := K4.out; refine zd rfl (zf (ty := 34) rfl rfl RT4.out uT rT zR) ?_; go_frame) | (clear K5; go_at_call 77; refine HFE.out.mono ?_; rintro e w5 ⟨rfl, f5⟩; rw [FEZ.out, hFR]; have F5 := Hd f5; clear f5; have RT5 := Hd (zb RT4.out F5.out id); have BE5 := Hd (F5.out.obj BE4.out id); have FW5 := Hd (FW4.out.trans0 F5.out); have HSZ := Hd (Y7 w5 (HT.out.keep FW5.out) FM.out); go_frame) | ((with_reducible refine zn ?_); have mk := K6.out; refine zd rfl (zf (ty := 34) rfl rfl RT5.out uT rT zR) ?_; go_frame) | (clear K7; go_at_call 78; refine HSZ.out.mono ?_; rintro e w6 ⟨rfl, f6⟩; rw [SZ.out]; have F6 := Hd f6; clear f6; have RT6 := Hd (zb RT5.out F6.out id); have BE6 := Hd (F6.out.obj BE5.out id); have FW6 := Hd (FW5.out.trans0 F6.out); go_frame) | (clear K8; go_at_call 79; refine (FLO.out _).mono ?_; rintro e w7 ⟨rfl, f7⟩; have F7 := Hd f7; clear f7; have RT7 := Hd (zb RT6.out F7.out id); have BE7 := Hd (F7.out.obj BE6.out id); have FW7 := Hd (FW6.out.trans0 F7.out); have P7 := Hd (HH.out.fr0 FW7.out); have OP7 := Hd (zl HZ.out.2 ((F5.out.trans0 F6.out).trans0 F7.out) (fun _ _ => id)); have IP7 := Hd (yV.own OP7.out (fun x hx => HH.out.ids x (J2 hx))); have c2p := P7.out.cells.2.2; have HU := Hd (zjH P7.out.gr (by omega) IP7.out PAL.out); go_frame) | (clear K9; go_at_call 87; refine HU.out.mono ?_; rintro e w8 ⟨uv, rfl, hrk⟩; rw [hUU] at hrk; obtain ⟨ua, uc, huv⟩ := hrk.1.slice.arg.form; subst huv; have F8 := Hd hrk.2; clear hrk; have RT8 := Hd (zb RT7.out F8.out id); have BE8 := Hd (F8.out.obj BE7.out id); have FW8 := Hd (FW7.out.trans0 F8.out); have OP8 := Hd (zl OP7.out F8.out (fun _ _ => id)); go_frame) | ((with_reducible refine zn ?_); have mk := K10.out; refine zd rfl (zf (ty := 34) rfl rfl RT8.out uT rT zR) ?_; go_frame) | ((with_reducible refine zn ?_); have mk := K11.out; with_reducible refine yk 78 ?_; refine zd rfl (yA (t := 127) rfl rfl (zjx FR sz _)) ?_; go_frame) | ((with_reducible refine zn ?_); have mk := K12.out; with_reducible refine yk 79 ?_; refine zd rfl (yA (t := 129) rfl rfl (zjt t.ver ia oa t.ins.length ic t.outs.length oc FR sz _)) ?_; go_frame) | ((with_reducible refine zA ?_); have mk := K13.out; refine zq rfl (z6 (ty := 129) (b := q + 2) (off := 0) (cs := [.int .u32 t.ver, .slice ia t.ins.length ic, .slice oa t.outs.length oc, .int .u64 FR, .int .i64 sz, .int .u64 0]) rfl rfl rfl (yg BE8.out (Nat.le_refl 6)) xJ (zjX _ _ _ _ _ _ _ _ _ _)) ?_; go_frame))
  refine bodyPost_ret (xA (P := Tryz.prog) (fn := Tryz.f47) rfl _ rfl (yY (cs := [.int .u32 t.ver, .slice ia t.ins.length ic, .slice oa t.outs.length oc, .int .u64 FR, .int .i64 sz, .int .u64 0]) BE8.out rfl) uE rE xJ rfl rfl) rfl ⟨_, _, by rw [LE.out]; rfl, FW8.out.trans (zJ (q + 2) [.int .u32 t.ver, .slice ia t.ins.length ic, .slice oa t.outs.length oc, .int .u64 FR, .int .i64 sz, .int .u64 0] 0 w8) (fun i hi e => by omega), ⟨rfl, zjX _ _ _ _ _ _ _ _ _ _⟩, fun _ => ⟨by rw [hFR, SZ.out]; rfl, yU (zl OP8.out (zJ (q + 2) [.int .u32 t.ver, .slice ia t.ins.length ic, .slice oa t.outs.length oc, .int .u64 FR, .int .i64 sz, .int .u64 0] 0 w8) (fun j hj e => by have := (OP8.out.lt j hj).1; have := F3.out.size; have := Z2.out; omega)) (by rw [hq]; have := F3.out.size; have := Z2.out; omega)⟩⟩
end
end Go.Proofs.YtdkkjchclkjleaaGreatDoor
