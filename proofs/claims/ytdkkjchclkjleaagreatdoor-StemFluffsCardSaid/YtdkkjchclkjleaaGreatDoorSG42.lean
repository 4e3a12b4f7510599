/- stem: own of a transaction. -/
import Derived.Test.YtdkkjchclkjleaaGreatDoorSG31
set_option linter.unusedVariables false
set_option linter.unusedSimpArgs false
set_option linter.unnecessarySimpa false
set_option linter.all false
namespace Go.Proofs.YtdkkjchclkjleaaGreatDoor
open Go Go.RowKit Go.Maps Go.MapKept
set_option maxRecDepth 20000 in
set_option maxHeartbeats 8000000 in
theorem zgK (w : World) {t : TxD} {cs : List Value} (ht : TxQ w t cs) (hI : t.ins.length ≤ 1000 ∧ t.outs.length ≤ 1000 ∧ ∀ x ∈ t.ins, x.key.length ≤ 1000) :
  Calls Tryz.prog 41 #[.agg cs.toArray] w (ziZ w t) := by
 obtain ⟨ia, ic, oa, oc, rfl, hv, hi, ho⟩ := ht
 obtain ⟨dT, uT, rT⟩ := vw
 have zT := JA
 have f1 : Fr No w (w.alloc (.cells #[.int .u32 t.ver, .slice ia t.ins.length ic, .slice oa t.outs.length oc] 34)) := (Fr.refl No w).alloc _
 have f12 : Fr No (w.alloc (.cells #[.int .u32 t.ver, .slice ia t.ins.length ic, .slice oa t.outs.length oc] 34)) _ := (Fr.refl No _).alloc (.cells (txC 0 (.slice none 0 0) (.slice none 0 0)).toArray 34)
 obtain ⟨c0, c1, c2, -⟩ := qZ w t.ver (.slice ia t.ins.length ic) (.slice oa t.outs.length oc)
 have F2 := Hd (f1.trans0 f12)
 have FD := Hd (F2.out.drew)
 have C0 := Hd ((f12.drew).cell c0 _root_.id)
 have C1 := Hd ((f12.drew).cell c1 _root_.id)
 have C2 := Hd ((f12.drew).cell c2 _root_.id)
 have B2 := Hd (yL (w.alloc (.cells #[.int .u32 t.ver, .slice ia t.ins.length ic, .slice oa t.outs.length oc] 34)) (.cells (txC 0 (.slice none 0 0) (.slice none 0 0)).toArray 34) (n := w.heap.size + 1) (by simp))
 have HO := Hd (ho.keep FD.out)
 have HK := Hd ((zaL hi (V := fun j => w.heap.size + 2 ≤ j) (fun j hj => by omega)).step FD.out.of0 (fun _ _ h => h))
 have Z2 := Hd (show ((w.alloc (.cells #[.int .u32 t.ver, .slice ia t.ins.length ic, .slice oa t.outs.length oc] 34)).alloc (.cells (txC 0 (.slice none 0 0) (.slice none 0 0)).toArray 34)).heap.size = w.heap.size + 2 by simp)
 have HV := Hd hv
 have HI := Hd hI
 clear c0 c1 c2 f1 f12 ho hv hi hI
 show Calls Tryz.prog 41 #[.agg #[.int .u32 t.ver, .slice ia t.ins.length ic, .slice oa t.outs.length oc]] w _
 go_enter Tryz.func41, Tryz.ntmps41
 go_wp2_with fail
 generalize (w.alloc (.cells #[.int .u32 t.ver, .slice ia t.ins.length ic, .slice oa t.outs.length oc] 34)).alloc (.cells (txC 0 (.slice none 0 0) (.slice none 0 0)).toArray 34) = w2 at *
 go_cut [3] from 5 to 14 (fun s3 wc => ziO (w.heap.size + 2) t w2 s3 wc)
 case first =>
  have HKD := Hd (HK.out)
  refine ZZ 11 [0, 1, 2, 3, 4, 5, 6, 7, 8, 9, 10] (fun w' => w'.cell? ⟨w.heap.size, 0, none⟩ = some (.int .u32 t.ver) ∧ w'.cell? ⟨w.heap.size, 1, none⟩ = some (.slice ia t.ins.length ic) ∧ w'.cell? ⟨w.heap.size, 2, none⟩ = some (.slice oa t.outs.length oc)) (by kernel_rfl) (by kernel_rfl) (by kernel_rfl) (by kernel_rfl) ?_ (fun K hK => ?_)
  ·exact ⟨C0.out, C1.out, C2.out⟩
  have Z3 := Hd (show w2.drew.heap.size = w.heap.size + 2 from Z2.out)
  have FW := Hd (show Fr No w2 w2.drew from (Fr.refl No w2).drew)
  generalize w2.drew = w3 at *
  (((first | (refine xZ 0 (by kernel_rfl) rfl rfl ?_; apply Exists.intro; refine ⟨?_, ?_⟩; (focus (first | (intro w' hS; obtain ⟨s1, s2, s3⟩ := hS; go_simp; (try with_reducible rfl); done)))) | (refine x8 0 (by kernel_rfl) rfl rfl ?_)); try simp only [Act.put, pA, pB, pC]); ((first | (refine xZ 1 (by kernel_rfl) rfl rfl ?_; apply Exists.intro; refine ⟨?_, ?_⟩; (focus (first | (intro w' hS; obtain ⟨s1, s2, s3⟩ := hS; go_simp; (try with_reducible rfl); done)))) | (refine x8 1 (by kernel_rfl) rfl rfl ?_)); try simp only [Act.put, pA, pB, pC]); ((first | (refine xZ 2 (by kernel_rfl) rfl rfl ?_; apply Exists.intro; refine ⟨?_, ?_⟩; (focus (first | (intro w' hS; obtain ⟨s1, s2, s3⟩ := hS; go_simp; (try with_reducible rfl); done)))) | (refine x8 2 (by kernel_rfl) rfl rfl ?_)); try simp only [Act.put, pA, pB, pC]); ((first | (refine xZ 3 (by kernel_rfl) rfl rfl ?_; apply Exists.intro; refine ⟨?_, ?_⟩; (focus (first | (intro w' hS; obtain ⟨s1, s2, s3⟩ := hS; go_simp; (try with_reducible rfl); done)))) | (refine x8 3 (by kernel_rfl) rfl rfl ?_)); try simp only [Act.put, pA, pB, pC]); ((first | (refine xZ 5 (by kernel_rfl) rfl rfl ?_; apply Exists.intro; refine ⟨?_, ?_⟩; (focus (first | (intro w' hS; obtain ⟨s1, s2, s3⟩ := hS; go_simp; (try with_reducible rfl); done)))) | (refine x8 5 (by kernel_rfl) rfl rfl ?_)); try simp only [Act.put, pA, pB, pC]); ((first | (refine xZ 6 (by kernel_rfl) rfl rfl ?_; apply Exists.intro; refine ⟨?_, ?_⟩; (focus (first | (intro w' hS; obtain ⟨s1, s2, s3⟩ := hS; go_simp; (try with_reducible rfl); done)))) | (refine x8 6 (by kernel_rfl) rfl rfl ?_)); try simp only [Act.put, pA, pB, pC]))
  refine Xa 4 9 (by kernel_rfl) rfl rfl rfl rfl (fun K' hK' => ?_) (fun K' hK' => ?_)
  ·skip
   go_simp
   refine (Jg w3 (HK.out.step (Fr.refl No w3).of0 (fun _ _ h => h)) (by have := HI.out.1; omega)).mono ?_
   rintro e w4 ⟨iv4, css, rfl, hcl, hkp, h34, hor, f4⟩
   obtain ⟨ia4, ic4, hiv⟩ := hor.slice.arg.form
   subst hiv
   have F4 := Hd f4
   have CL := Hd hcl
   have KP := Hd hkp
   have H34 := Hd h34
   have OR := Hd hor
   clear hcl hkp h34 hor f4
   refine hK'.out _ _ ?_ (fun hS => ?_)
   ·exact ⟨F4.out.cell C0.out _root_.id, F4.out.cell C1.out _root_.id, F4.out.cell C2.out _root_.id⟩
   try simp only [Act.put, pA, pB, pC]
   refine Xa 7 9 (by kernel_rfl) rfl rfl rfl rfl (fun K' hK' => ?_) (fun K' hK' => ?_)
   ·skip
    go_simp
    refine (qY w4 (HO.out.keep F4.out) (by have := HI.out.2.1; omega)).mono ?_
    rintro e w5 ⟨ov5, rfl, hoo, f5⟩
    obtain ⟨oa5, oc5, hov⟩ := hoo.slice.arg.form
    subst hov
    have F5 := Hd f5
    have OO := Hd hoo
    clear hoo f5
    have F35 := Hd (F4.out.trans0 F5.out)
    refine hK'.out _ _ ?_ (fun hS => ?_)
    ·exact ⟨F35.out.cell C0.out _root_.id, F35.out.cell C1.out _root_.id, F35.out.cell C2.out _root_.id⟩
    try simp only [Act.put, pA, pB, pC]
    (((first | (refine xZ 8 (by kernel_rfl) rfl rfl ?_; apply Exists.intro; refine ⟨?_, ?_⟩; (focus (first | exact fun w' _ => yA (t := 34) rfl rfl (Qb t.ver ia4 oa5 t.ins.length ic4 t.outs.length oc5 w') | (intro w' hS; obtain ⟨s1, s2, s3⟩ := hS; go_simp; (try with_reducible rfl); done)))) | (refine x8 8 (by kernel_rfl) rfl rfl ?_)); try simp only [Act.put, pA, pB, pC]))
    refine qi 9 (by kernel_rfl) rfl rfl (fun K' hK' => ?_)
    refine yB (yZ rfl (JA _)) ?_
    have F6 := Hd ((Fr.refl No w5).alloc (.cells (txC 0 (.slice none 0 0) (.slice none 0 0)).toArray 34))
    refine hK'.out _ _ ?_ (fun hS => ?_)
    ·exact ⟨F6.out.cell (F35.out.cell C0.out _root_.id) _root_.id, F6.out.cell (F35.out.cell C1.out _root_.id) _root_.id, F6.out.cell (F35.out.cell C2.out _root_.id) _root_.id⟩
    try simp only [Act.put, pA, pB, pC]
    refine qi 10 (by kernel_rfl) rfl rfl (fun K' hK' => ?_)
    refine xb (zm (w := w5) (ty := 34) (cs := [.int .u32 t.ver, .slice ia4 t.ins.length ic4, .slice oa5 t.outs.length oc5]) rfl rfl rfl rfl zR (JN rfl rfl rfl)) ?_
    have F7 := Hd ((Fr.refl No w5).alloc (.cells ([.int .u32 t.ver, .slice ia4 t.ins.length ic4, .slice oa5 t.outs.length oc5]).toArray 34))
    refine hK'.out _ _ ?_ (fun hS => ?_)
    ·exact ⟨F7.out.cell (F35.out.cell C0.out _root_.id) _root_.id, F7.out.cell (F35.out.cell C1.out _root_.id) _root_.id, F7.out.cell (F35.out.cell C2.out _root_.id) _root_.id⟩
    try simp only [Act.put, pA, pB, pC]
    refine JU (hK.out _ _ ?_)
    go_wp2_with fail
    go_meet
    case rel => exact ⟨w5.heap.size, ia4, ic4, oa5, oc5, css, rfl, by have := F35.out.size; have := Z3.out; omega, FW.out.trans0 (F35.out.trans0 F7.out), yn w5 (.cells ([.int .u32 t.ver, .slice ia4 t.ins.length ic4, .slice oa5 t.outs.length oc5]).toArray 34), CL.out, fun i d cs h1 h2 => (KP.out i d cs h1 h2).step (F5.out.trans0 F7.out).of0 (fun _ _ h => h), H34.out, yU (zl (zl OR.out F5.out (fun _ _ => _root_.id)) F7.out (fun _ _ => _root_.id)) (by have := Z3.out; omega), yU (zl OO.out F7.out (fun _ _ => _root_.id)) (by have := F4.out.size; have := Z3.out; omega), fun j hj => ⟨by have := (OR.out.lt j hj).2; have := F5.out.size; omega, fun e => by have := (OR.out.lt j hj).2; have := (OO.out.lt j e).1; omega⟩⟩
   ·refine yB (yZ rfl (JA _)) ?_
    have FA := Hd ((Fr.refl No w4).alloc (.cells (txC 0 (.slice none 0 0) (.slice none 0 0)).toArray 34))
    have BA := Hd (yn w4 (.cells (txC 0 (.slice none 0 0) (.slice none 0 0)).toArray 34))
    have ZA := Hd (show (w4.alloc (.cells (txC 0 (.slice none 0 0) (.slice none 0 0)).toArray 34)).heap.size = w4.heap.size + 1 by simp)
    generalize w4.alloc (.cells (txC 0 (.slice none 0 0) (.slice none 0 0)).toArray 34) = wa at *
    generalize hqd : w4.heap.size = qd at *
    have F4A := Hd (F4.out.trans0 FA.out)
    refine hK'.out _ _ ?_ (fun hS => ?_)
    ·exact ⟨F4A.out.cell C0.out _root_.id, F4A.out.cell C1.out _root_.id, F4A.out.cell C2.out _root_.id⟩
    try simp only [Act.put, pA, pB, pC]
    refine qi 7 (by kernel_rfl) rfl rfl (fun K' hK' => ?_)
    go_simp
    refine (qY wa (HO.out.keep F4A.out) (by have := HI.out.2.1; omega)).mono ?_
    rintro e w5 ⟨ov5, rfl, hoo, f5⟩
    obtain ⟨oa5, oc5, hov⟩ := hoo.slice.arg.form
    subst hov
    have F5 := Hd f5
    have OO := Hd hoo
    clear hoo f5
    have F35 := Hd (F4A.out.trans0 F5.out)
    have B5 := Hd (F5.out.obj BA.out _root_.id)
    refine hK'.out _ _ ?_ (fun hS => ?_)
    ·exact ⟨F35.out.cell C0.out _root_.id, F35.out.cell C1.out _root_.id, F35.out.cell C2.out _root_.id⟩
    try simp only [Act.put, pA, pB, pC]
    (((first | (refine xZ 8 (by kernel_rfl) rfl rfl ?_; apply Exists.intro; refine ⟨?_, ?_⟩; (focus (first | exact fun w' _ => yA (t := 34) rfl rfl (Qb t.ver ia4 oa5 t.ins.length ic4 t.outs.length oc5 w') | (intro w' hS; obtain ⟨s1, s2, s3⟩ := hS; go_simp; (try with_reducible rfl); done)))) | (refine x8 8 (by kernel_rfl) rfl rfl ?_)); try simp only [Act.put, pA, pB, pC]))
    refine qi 10 (by kernel_rfl) rfl rfl (fun K' hK' => ?_)
    refine xb (z6 (ty := 34) (b := qd) (off := 0) (cs := [.int .u32 t.ver, .slice ia4 t.ins.length ic4, .slice oa5 t.outs.length oc5]) rfl rfl rfl (yg B5.out (Nat.le_refl 3)) zR (JN rfl rfl rfl)) ?_
    have F7 := Hd (zJ qd ([.int .u32 t.ver, .slice ia4 t.ins.length ic4, .slice oa5 t.outs.length oc5]) 0 w5)
    have HQ := Hd (show w3.heap.size ≤ qd by have := F4.out.size; omega)
    have F37 := Hd (show Fr No w3 _ from F35.out.trans F7.out (fun i hi e => by have := HQ.out; omega))
    refine hK'.out _ _ ?_ (fun hS => ?_)
    ·exact ⟨F37.out.cell C0.out _root_.id, F37.out.cell C1.out _root_.id, F37.out.cell C2.out _root_.id⟩
    try simp only [Act.put, pA, pB, pC]
    refine JU (hK.out _ _ ?_)
    go_wp2_with fail
    go_meet
    case rel => exact ⟨qd, ia4, ic4, oa5, oc5, css, rfl, by have := HQ.out; have := Z3.out; omega, FW.out.trans0 F37.out, zdt (cs := [.int .u32 t.ver, .slice ia4 t.ins.length ic4, .slice oa5 t.outs.length oc5]) B5.out rfl, CL.out, fun i d cs h1 h2 => ((KP.out i d cs h1 h2).step (FA.out.trans0 F5.out).of0 (fun _ _ h => h)).step (F7.out.mono (fun j e => by have := HQ.out; have := Z3.out; omega)) (fun _ _ h => h), H34.out, yU (zl (zl OR.out (FA.out.trans0 F5.out) (fun _ _ => _root_.id)) F7.out (fun j hj e => by have := (OR.out.lt j hj).2; omega)) (by have := Z3.out; omega), yU (zl OO.out F7.out (fun j hj e => by have := (OO.out.lt j hj).1; have := ZA.out; omega)) (by have := HQ.out; have := Z3.out; have := ZA.out; omega), fun j hj => ⟨by have := (OR.out.lt j hj).2; omega, fun e => by have := (OR.out.lt j hj).2; have := (OO.out.lt j e).1; have := ZA.out; omega⟩⟩
  ·refine yB (yZ rfl (JA _)) ?_
   have FA := Hd ((Fr.refl No w3).alloc (.cells (txC 0 (.slice none 0 0) (.slice none 0 0)).toArray 34))
   have BA := Hd (yn w3 (.cells (txC 0 (.slice none 0 0) (.slice none 0 0)).toArray 34))
   have ZA := Hd (show (w3.alloc (.cells (txC 0 (.slice none 0 0) (.slice none 0 0)).toArray 34)).heap.size = w3.heap.size + 1 by simp)
   generalize w3.alloc (.cells (txC 0 (.slice none 0 0) (.slice none 0 0)).toArray 34) = wa at *
   generalize hqd : w3.heap.size = qd at *
   refine hK'.out _ _ ?_ (fun hS => ?_)
   ·exact ⟨FA.out.cell C0.out _root_.id, FA.out.cell C1.out _root_.id, FA.out.cell C2.out _root_.id⟩
   try simp only [Act.put, pA, pB, pC]
   refine qi 4 (by kernel_rfl) rfl rfl (fun K' hK' => ?_)
   go_simp
   refine (Jg wa (HK.out.step (FA.out).of0 (fun _ _ h => h)) (by have := HI.out.1; omega)).mono ?_
   rintro e w4 ⟨iv4, css, rfl, hcl, hkp, h34, hor, f4⟩
   obtain ⟨ia4, ic4, hiv⟩ := hor.slice.arg.form
   subst hiv
   have F4 := Hd f4
   have CL := Hd hcl
   have KP := Hd hkp
   have H34 := Hd h34
   have OR := Hd hor
   clear hcl hkp h34 hor f4
   have F4A := Hd (FA.out.trans0 F4.out)
   refine hK'.out _ _ ?_ (fun hS => ?_)
   ·exact ⟨F4A.out.cell C0.out _root_.id, F4A.out.cell C1.out _root_.id, F4A.out.cell C2.out _root_.id⟩
   try simp only [Act.put, pA, pB, pC]
   refine qi 7 (by kernel_rfl) rfl rfl (fun K' hK' => ?_)
   go_simp
   refine (qY w4 (HO.out.keep F4A.out) (by have := HI.out.2.1; omega)).mono ?_
   rintro e w5 ⟨ov5, rfl, hoo, f5⟩
   obtain ⟨oa5, oc5, hov⟩ := hoo.slice.arg.form
   subst hov
   have F5 := Hd f5
   have OO := Hd hoo
   clear hoo f5
   have F35 := Hd (F4A.out.trans0 F5.out)
   have B5 := Hd (F5.out.obj (F4.out.obj BA.out _root_.id) _root_.id)
   refine hK'.out _ _ ?_ (fun hS => ?_)
   ·exact ⟨F35.out.cell C0.out _root_.id, F35.out.cell C1.out _root_.id, F35.out.cell C2.out _root_.id⟩
   try simp only [Act.put, pA, pB, pC]
   (((first | (refine xZ 8 (by kernel_rfl) rfl rfl ?_; apply Exists.intro; refine ⟨?_, ?_⟩; (focus (first | exact fun w' _ => yA (t := 34) rfl rfl (Qb t.ver ia4 oa5 t.ins.length ic4 t.outs.length oc5 w') | (intro w' hS; obtain ⟨s1, s2, s3⟩ := hS; go_simp; (try with_reducible rfl); done)))) | (refine x8 8 (by kernel_rfl) rfl rfl ?_)); try simp only [Act.put, pA, pB, pC]))
   refine qi 10 (by kernel_rfl) rfl rfl (fun K' hK' => ?_)
   refine xb (z6 (ty := 34) (b := qd) (off := 0) (cs := [.int .u32 t.ver, .slice ia4 t.ins.length ic4, .slice oa5 t.outs.length oc5]) rfl rfl rfl (yg B5.out (Nat.le_refl 3)) zR (JN rfl rfl rfl)) ?_
   have F7 := Hd (zJ qd ([.int .u32 t.ver, .slice ia4 t.ins.length ic4, .slice oa5 t.outs.length oc5]) 0 w5)
   have F37 := Hd (show Fr No w3 _ from F35.out.trans F7.out (fun i hi e => by omega))
   refine hK'.out _ _ ?_ (fun hS => ?_)
   ·exact ⟨F37.out.cell C0.out _root_.id, F37.out.cell C1.out _root_.id, F37.out.cell C2.out _root_.id⟩
   try simp only [Act.put, pA, pB, pC]
   refine JU (hK.out _ _ ?_)
   go_wp2_with fail
   go_meet
   case rel => exact ⟨qd, ia4, ic4, oa5, oc5, css, rfl, by have := Z3.out; omega, FW.out.trans0 F37.out, zdt (cs := [.int .u32 t.ver, .slice ia4 t.ins.length ic4, .slice oa5 t.outs.length oc5]) B5.out rfl, CL.out, fun i d cs h1 h2 => ((KP.out i d cs h1 h2).step F5.out.of0 (fun _ _ h => h)).step (F7.out.mono (fun j e => by have := Z3.out; omega)) (fun _ _ h => h), H34.out, yU (zl (zl OR.out F5.out (fun _ _ => _root_.id)) F7.out (fun j hj e => by have := (OR.out.lt j hj).1; have := ZA.out; omega)) (by have := Z3.out; have := ZA.out; omega), yU (zl OO.out F7.out (fun j hj e => by have := (OO.out.lt j hj).1; have := F4.out.size; have := ZA.out; omega)) (by have := Z3.out; have := ZA.out; have := F4.out.size; omega), fun j hj => ⟨by have := (OR.out.lt j hj).1; have := ZA.out; omega, fun e => by have := (OR.out.lt j hj).2; have := (OO.out.lt j e).1; omega⟩⟩
 case rest =>
  rename World => wz
  obtain ⟨qd, ia', ic', oa', oc', css, rfl, hqd, fc, bq, hcl, hck, hc34, hor, hoo, hap⟩ := hcut
  have QD := Hd hqd
  have FC := Hd fc
  have OO := Hd hoo
  have AP := Hd hap
  have QL := Hd (xf bq)
  have B2c := Hd (fc.obj B2.out _root_.id)
  have c1 : wz.cell? ⟨qd, 1, none⟩ = some (.slice ia' t.ins.length ic') := by have := ya bq 1 _ rfl; simpa using this
  have L8 := Hd HI.out.1
  have BQ := Hd bq
  have HR := Hd (show ∃ css, zfB (w.heap.size + 2) qd ia' ic' t wz wz 0 css from ⟨css, hcl, hc34, hor, fun i d cs h h1 h2 => absurd h (Nat.not_lt_zero i), fun i d cs h h1 h2 => hck i d cs h1 h2, Fr.refl _ _⟩)
  clear hqd fc bq hcl hck hc34 hor hoo hap
  have iz := HI.out.1
  go_wp2_with fail
  clear c1
  go_loopw [17] (fun iv wr => ∃ n : Nat, iv = .int .i64 n ∧ n ≤ t.ins.length ∧ ∃ css, zfB (w.heap.size + 2) qd ia' ic' t wz wr n css) (fun iv _ => t.ins.length - (intOf iv).toNat)
  case atStart => exact ⟨0, rfl, Nat.zero_le _, HR.out⟩
  case round =>
   obtain ⟨n, rfl, hn, css, hol⟩ := hrel
   have OL := Hd hol
   clear hol
   by_cases hlt : n < t.ins.length
   ·have i1 : (n : Int) < (t.ins.length : Int) := by omega
    obtain ⟨x, hx⟩ : ∃ x, t.ins[n]? = some x := ⟨_, List.getElem?_eq_getElem hlt⟩
    have HX := Hd hx
    obtain ⟨cs, hcs⟩ : ∃ cs, css[n]? = some cs := ⟨_, List.getElem?_eq_getElem (by rw [OL.out.len]; exact hlt)⟩
    obtain ⟨ka, kc, hce, hpok, hkey⟩ := (OL.out.old n x cs (Nat.le_refl _) hx hcs).now
    have KYR := Hd hkey
    have HCS := Hd (show css[n]? = some (inC x.from_ (.slice ka x.key.length kc)) by rw [hcs, hce])
    have POK := Hd hpok
    obtain ⟨g, cap, hge, hgr, hgl⟩ := jP (f := id) (by decide) OL.out.c34 OL.out.row HCS.out
    cases hge
    have GL := Hd ((OL.out.row.lt g rfl))
    have FZ := Hd OL.out.fr
    have AG := Hd (AP.out g rfl)
    have NQ := Hd (show qd ≠ g from fun e => AG.out.1 e.symm)
    have C1r := Hd (show wr.cell? ⟨qd, 1, none⟩ = some (.slice (some ⟨g, 0, none⟩) t.ins.length ic') from by
     have := ya (FZ.out.obj BQ.out (fun e => by cases e; exact NQ.out rfl)) 1 _ rfl
     simpa using this)
    have CK := Hd (show wr.cell? ⟨g, n * 34 + 33, none⟩ = some (.slice ka x.key.length kc) from (zdg hgr hpok).2)
    have KLN := Hd (HI.out.2.2 x (List.mem_of_getElem? hx))
    have i2 : (n : Int) < (t.ins.length : Int) := i1
    clear hx hcs hce hpok hkey hgr hgl
    go_wp2_with fail
    have FD1 := Hd ((Fr.refl No wr).drew)
    refine yJ [false, false, false, false, false, false, false, false, false, true, false, false, true] (fun w' => w'.cell? ⟨qd, 1, none⟩ = some (.slice (some ⟨g, 0, none⟩) t.ins.length ic') ∧ w'.cell? ⟨g, n * 34 + 33, none⟩ = some (.slice ka x.key.length kc)) (by kernel_rfl) (by kernel_rfl) 12 (by kernel_rfl) (by kernel_rfl) ?_ (fun K hK => ?_)
    ·exact ⟨FD1.out.cell C1r.out _root_.id, FD1.out.cell CK.out _root_.id⟩
    repeat (first | ((first | with_reducible refine yG ?_ | ((with_reducible refine yp ?_ ?_); (focus rfl))); apply Exists.intro; refine ⟨?_, ?_⟩; (focus (first | (intro w' hS; obtain ⟨s1, s2⟩ := hS; go_simp; (try with_reducible rfl); done))); try simp only [Act.put, pA, pB, pC]) | ((first | ((with_reducible refine zX (c := false) ?_ ?_ ?_); (focus rfl); (focus rfl)) | ((with_reducible refine zX (c := true) ?_ ?_ ?_); (focus rfl); (focus rfl)) | ((with_reducible refine yq ?_ ?_); (focus rfl))); try simp only [Act.put, pA, pB, pC]))
    (first | with_reducible refine yK (fun K' hK' => ?_) | ((with_reducible refine yx ?_ (fun K' hK' => ?_)); (focus rfl)))
    go_simp
    refine (Xc wr.drew (KYR.out.keep FD1.out) (by have := KLN.out; omega)).mono ?_
    rintro e w4 ⟨kv, rfl, hko, f4⟩
    obtain ⟨ka4, kc4, hkv⟩ := hko.slice.arg.form
    subst hkv
    have F4 := Hd (FD1.out.trans0 f4)
    have KO := Hd hko
    clear hko f4
    refine hK'.out _ _ (fun _ => ?_) (fun hS => ?_)
    ·exact ⟨F4.out.cell C1r.out _root_.id, F4.out.cell CK.out _root_.id⟩
    try simp only [Act.put, pA, pB, pC]
    repeat (first | ((first | with_reducible refine yG ?_ | ((with_reducible refine yp ?_ ?_); (focus rfl))); apply Exists.intro; refine ⟨?_, ?_⟩; (focus (first | (intro w' hS; obtain ⟨s1, s2⟩ := hS; go_simp; (try with_reducible rfl); done))); try simp only [Act.put, pA, pB, pC]) | ((first | ((with_reducible refine zX (c := false) ?_ ?_ ?_); (focus rfl); (focus rfl)) | ((with_reducible refine zX (c := true) ?_ ?_ ?_); (focus rfl); (focus rfl)) | ((with_reducible refine yq ?_ ?_); (focus rfl))); try simp only [Act.put, pA, pB, pC]))
    have ROW4 := Hd (zl OL.out.row F4.out (fun _ _ => _root_.id))
    have fz : w4.frozen? ⟨g, n * 34 + 33, none⟩ = false := ROW4.out.frozenAt _
    have cz := F4.out.cell CK.out _root_.id
    have NK := Hd (show n * 34 + 33 + 1 ≤ t.ins.length * 34 by omega)
    have fs : Fr (fun j => j = g) w4 (w4.setCell ⟨g, n * 34 + 33, none⟩ (.slice ka4 x.key.length kc4)) := (Fr.refl (fun j => j = g) w4).setCell _ (.inr rfl) _
    have FS := Hd fs
    have OLN := Hd (show zfB (w.heap.size + 2) qd (some ⟨g, 0, none⟩) ic' t wz (w4.setCell ⟨g, n * 34 + 33, none⟩ (.slice ka4 x.key.length kc4)) (n + 1) (css.set n (inC x.from_ (.slice ka4 x.key.length kc4))) from by
     refine ⟨by rw [List.length_set]; exact OL.out.len, fun cs hc => ?_, ?_, fun i d cs hi h1 h2 => ?_, fun i d cs hi h1 h2 => ?_, ?_⟩
     ·rcases List.mem_or_eq_of_mem_set hc with hc | rfl
      ·exact OL.out.c34 cs hc
      ·exact vi POK.out _
     ·have h1 := vz ROW4.out (n * 34 + 33) (cs := [.slice ka4 x.key.length kc4]) (by have := NK.out; simpa using this)
      have h2 := Yg (r := 33) (v := .slice ka4 x.key.length kc4) (by decide) OL.out.c34 HCS.out
      rw [zd7 POK.out] at h2
      rw [← h2]
      exact h1
     ·by_cases hin : i = n
      ·subst hin
       rw [HX.out] at h1
       cases h1
       rw [List.getElem?_set_self (by have := OL.out.len; omega)] at h2
       cases h2
       have hk := zck KO.out KYR.out.1 (V := fun j => j < w.heap.size + 2 ∨ (Value.slice (some ⟨g, 0, none⟩) t.ins.length ic').ownBlock = some j) (fun j hj => by
        have h3 := FZ.out.size
        have h4 := FC.out.size
        have h5 := Z2.out
        have h6 := GL.out.2
        show j < wr.heap.size
        rcases hj with hj | hj
        ·omega
        ·simp [Value.ownBlock] at hj; omega)
       exact (hk.step (FS.out.mono (fun j e => .inr (by rw [e]; rfl))) (fun _ _ h => h)).imp (fun w' _ h => ⟨ka4, kc4, rfl, POK.out, h⟩)
      ·rw [List.getElem?_set_ne (by omega)] at h2
       exact ((OL.out.new i d cs (by omega) h1 h2).step F4.out.of0 (fun _ _ h => h)).step (FS.out.mono (fun j e => .inr (by rw [e]; rfl))) (fun _ _ h => h)
     ·rw [List.getElem?_set_ne (by omega)] at h2
      exact ((OL.out.old i d cs (by omega) h1 h2).step F4.out.of0 (fun _ _ h => h)).step (FS.out.mono (fun j e => by rw [e]; exact GL.out.1)) (fun _ _ h => h)
     ·exact (FZ.out.trans0 F4.out).trans FS.out (fun j _ e => by rw [e]; rfl))
    clear fs
    (first | with_reducible refine yK (fun K' hK' => ?_) | ((with_reducible refine yx ?_ (fun K' hK' => ?_)); (focus rfl)))
    go_simp
    refine hK'.out _ _ (fun h => absurd rfl h) (fun hS => ?_)
    refine qy (hK.out _ _ ?_)
    go_wp2_with fail
    go_roundw
    case rel => exact ⟨n + 1, by go_num, by omega, _, OLN.out⟩
    case measure => simp [intOf]; omega
   ·have hne : n = t.ins.length := by omega
    have i1 : ¬ (n : Int) < (t.ins.length : Int) := by omega
    have HNE := Hd hne
    have FZ := Hd OL.out.fr
    have BQR := Hd (FZ.out.obj BQ.out (fun e => (AP.out qd e).1 rfl))
    have RU := Hd (ya BQR.out)
    have BRR := Hd (FZ.out.obj B2c.out (fun e => by have := (OL.out.row.lt _ e).1; omega))
    have HXF := Hd (show ∀ V : Nat → Prop, (∀ j, V j → j < w.heap.size + 2) → Kept V wr (fun w => TxQ w t [.int .u32 t.ver, .slice ia' t.ins.length ic', .slice oa' t.outs.length oc']) from fun V hV w' f => by
     have k1 : zb2 (w.heap.size + 2) 108 34 InQ (fun j => j < w.heap.size + 2) wr (.slice ia' t.ins.length ic') t.ins css := ⟨OL.out.row, OL.out.len, OL.out.c34, fun i d cs h1 h2 => OL.out.new i d cs (by rw [HNE.out]; exact (List.getElem?_eq_some_iff.1 h1).1) h1 h2⟩
     have k2 := k1.rows (U := V) (by decide) (by unfold maxLen; have := L8.out; omega) (fun j _ e => hV j e) (fun j hj e => by have := (k1.lt j hj).1; have := hV j e; omega) w' f
     have k3 := zaK (V := V) (zl OO.out FZ.out (fun j hj e => (AP.out j e).2 hj)) HO.out.1 hV w' f
     exact ⟨ia', ic', oa', oc', rfl, HV.out, k2, k3⟩)
    clear hne
    have K0 := tru
    have K1 := tru
    go_wp2_with (first | ((with_reducible refine zn ?_); have mk := K0.out; refine zd rfl (zf (ty := 34) rfl rfl RU.out uT rT zR) ?_; go_frame) | ((with_reducible refine zA ?_); have mk := K1.out; refine zq rfl (z6 (ty := 34) (b := w.heap.size + 1) (off := 0) (cs := [.int .u32 t.ver, .slice ia' t.ins.length ic', .slice oa' t.outs.length oc']) rfl rfl rfl (yg BRR.out (Nat.le_refl 3)) zR (JN rfl rfl rfl)) ?_; go_frame))
    have BE := zdt (cs := [.int .u32 t.ver, .slice ia' t.ins.length ic', .slice oa' t.outs.length oc']) BRR.out rfl
    have fE := zJ (w.heap.size + 1) [.int .u32 t.ver, .slice ia' t.ins.length ic', .slice oa' t.outs.length oc'] 0 wr
    refine bodyPost_ret (v := .agg [.int .u32 t.ver, .slice ia' t.ins.length ic', .slice oa' t.outs.length oc'].toArray) (results_cell_row (P := Tryz.prog) (fn := Tryz.f41) rfl _ _ (w.heap.size + 1) 34 _ (0, 0) _ rfl BE Tryz.underlying34 rfl zR) rfl ⟨_, rfl, ?_, fun V hV w' f => HXF.out (fun j => V j ∨ j = w.heap.size + 1) (fun j hj => by rcases hj with hj | hj; have := hV j hj; omega; omega) w' ((fE.mono (fun j hj => .inr hj)).trans (f.mono (fun j hj => .inl hj)) (fun _ _ h => h))⟩
    exact (((F2.out.trans0 FC.out).trans FZ.out (fun j hj e => by have := (OL.out.row.lt _ e).1; omega))).trans fE (fun i hi e => by omega)
end Go.Proofs.YtdkkjchclkjleaaGreatDoor
