/- stem: above. -/
import Derived.Test.YtdkkjchclkjleaaGreatDoorSG37
import Derived.Test.YtdkkjchclkjleaaGreatDoorSG21
set_option linter.unusedVariables false
set_option linter.unusedSimpArgs false
set_option linter.unnecessarySimpa false
set_option linter.all false
namespace Go.Proofs.YtdkkjchclkjleaaGreatDoor
open Go Go.RowKit Go.Maps Go.MapKept
theorem zcC {P : Program} {o : Oper} {ev : Operand → Value} {t : TypeId} {m k x : Operand} {mv kv' xv : Value} {w w' : World} (ho : o.op = .insert t m k x) (hm : ev m = mv) (hk : ev k = kv') (hx : ev x = xv) (hr : (Instr.mapUpdate t mv kv' xv).run P w = .ok () w') : (execOp ev o).run P w = .ok .skip w' := by
 simp only [execOp, ho, hm, hk, hx, Sem.run_bind, hr, Result.andThen_ok, Sem.run_pure]
structure zcz (w wr : World) (b1 b2 : Nat) (l : List StE) (x : zi) (c : Nat) (MI MW : List (zi × Int)) (I W : List zi) : Prop where
 mi : jQ wr b1 MI
 mw : jQ wr b2 MW
 ci : ∀ y d, (y, d) ∈ MI ↔ d = 1 ∧ y ∈ I
 cw : ∀ y d, (y, d) ∈ MW ↔ d = 1 ∧ y ∈ W
 spl : ∀ y, y ∈ yM l x ↔ y ∈ I ∨ y ∈ xH (l.take c).reverse W
 li : MI.length + c ≤ l.length
 lw : MW.length + 8 * c ≤ 1 + 8 * l.length
 fr : Fr No w wr
theorem zcu {l : List StE} {m : Nat} {e : StE} (h : l[m]? = some e) : (l.take (m + 1)).reverse = e :: (l.take m).reverse := by
 rw [List.take_add_one, h]
 simp
theorem zcz.skip {w wr wr' : World} {b1 b2 : Nat} {l : List StE} {x : zi} {m : Nat} {MI MW : List (zi × Int)} {I W : List zi} {e : StE} (h : zcz w wr b1 b2 l x (m + 1) MI MW I W) (he : l[m]? = some e) (hn : e.id ∉ W) (f : Fr No wr wr') : zcz w wr' b1 b2 l x m MI MW I W := by
 refine ⟨h.mi.keep f id, h.mw.keep f id, h.ci, h.cw, fun y => ?_, by have := h.li; omega, by have := h.lw; omega, h.fr.trans0 f⟩
 rw [h.spl, zcu he, show xH (e :: (l.take m).reverse) W = if e.id ∈ W then e.id :: xH (l.take m).reverse ((zS e.tx).map (·.tx) ++ W) else xH (l.take m).reverse W by rw [xH], if_neg hn]
theorem zcz.step {w wr wr' : World} {b1 b2 : Nat} {l : List StE} {x : zi} {m : Nat} {MI MW MI' MW' : List (zi × Int)} {I W : List zi} {e : StE} (h : zcz w wr b1 b2 l x (m + 1) MI MW I W) (he : l[m]? = some e) (hn : e.id ∈ W) (f : Fr No w wr') (h1 : jQ wr' b1 MI') (h2 : jQ wr' b2 MW') (h3 : ∀ y d, (y, d) ∈ MI' ↔ d = 1 ∧ y ∈ e.id :: I) (h4 : ∀ y d, (y, d) ∈ MW' ↔ d = 1 ∧ y ∈ (zS e.tx).map (·.tx) ++ W) (l1 : MI'.length ≤ MI.length + 1) (l2 : MW'.length ≤ MW.length + 8) : zcz w wr' b1 b2 l x m MI' MW' (e.id :: I) ((zS e.tx).map (·.tx) ++ W) := by
 refine ⟨h1, h2, h3, h4, fun y => ?_, by have := h.li; omega, by have := h.lw; omega, f⟩
 rw [h.spl, zcu he]
 conv => lhs; rw [xH]
 rw [if_pos hn]
 simp only [List.mem_cons]
 constructor
 ·rintro (a | a | a)
  ·exact .inl (.inr a)
  ·exact .inl (.inl a)
  ·exact .inr a
 ·rintro ((a | a) | a)
  ·exact .inr (.inl a)
  ·exact .inl a
  ·exact .inr (.inr a)
theorem zbY {M M' : List (zi × Int)} {x : zi} {V V' : List zi} (hu : Upd M x 1 M') (hv : ∀ y d, (y, d) ∈ M ↔ d = 1 ∧ y ∈ V) (h' : ∀ y, y ∈ V' ↔ y = x ∨ y ∈ V) : ∀ y d, (y, d) ∈ M' ↔ d = 1 ∧ y ∈ V' := fun y d => by
 rw [hu, hv, h']
 constructor
 ·rintro (⟨rfl, rfl⟩ | ⟨_, h2, h3⟩)
  ·exact ⟨rfl, .inl rfl⟩
  ·exact ⟨h2, .inr h3⟩
 ·rintro ⟨rfl, h2⟩
  by_cases e : y = x
  ·exact .inl ⟨e, rfl⟩
  ·exact .inr ⟨e, rfl, h2.resolve_left e⟩
section
variable {w0 w w' : World} {p ma ms : Nat} {R : Nat → Value} {X : Nat → Prop} {C : Nat → zi → List Value} {Q : StQ}
set_option maxRecDepth 20000 in
set_option maxHeartbeats 8000000 in
theorem zih (h : yz w0 w p ma ms R X C Q) {n : Nat} (hn : n < 65) {x : zi} (hx : zQ x) :
  Calls Tryz.prog 43 #[.pointer (some ⟨p, 0, none⟩), .agg (skC (n, x)).toArray] w fun e' w' => ∃ b M, e' = .returned (.map (some b)) ∧ jQ w' b M ∧ (∀ k c, (k, c) ∈ M ↔ c = 1 ∧ k ∈ yM (Q n) x) ∧ w.heap.size ≤ b ∧ Fr No w w' := by
 obtain ⟨dH, uH, rH⟩ := yj
 obtain ⟨dP, uP, rP⟩ := xr
 obtain ⟨dT, uT, rT⟩ := vw
 have zp := jA
 have zh := y6
 have m1 := X9
 have HH := Hd h
 have HV := Hd (h.val n)
 have HN := Hd hn
 have XOK := Hd hx
 have XL := Hd (zE hx)
 have i65 : (n : Int) < 65 := by omega
 have i0 : (0 : Int) ≤ (n : Int) := by omega
 obtain ⟨ra, rc, hR⟩ := h.row_form hn
 have ROWL := Hd (show w.ownsRow w0.heap.size 41 32 (.slice ra (Q n).length rc) (yc (Q n)).length ((yc (Q n)).flatMap zj) from by rw [← hR]; exact h.row n hn)
 have CPN := Hd (show w.cell? ⟨p, 1 + n, none⟩ = some (.slice ra (Q n).length rc) from by rw [← hR, Nat.add_comm]; exact h.cells.2.2 n hn)
 have IDOK := Hd (h.idok n)
 have QL := Hd (h.val n).len
 have ql := (h.val n).len
 have SLN := Hd (xk (Q n))
 generalize hq0 : w.heap.size = q0 at *
 have RK0 := Hd (by have := XS w n x; rw [hq0] at this; exact this)
 have F1 := Hd ((Fr.refl No w).alloc (.cells (skC (n, x)).toArray 110))
 have SZ1 := Hd (show (w.alloc (.cells (skC (n, x)).toArray 110)).heap.size = q0 + 1 by simp [hq0])
 clear h hn hx hR
 generalize hwa : w.alloc (.cells (skC (n, x)).toArray 110) = wa at *
 have HM1 := Hd (show jQ (wa.alloc (.map #[] 0)) (q0 + 1) [] from by have := yl.made (P := Tryz.prog) (kt := 41) (kV := yW) (vV := QH) wa; rw [SZ1.out] at this; exact this)
 have SZ2 := Hd (show (wa.alloc (.map #[] 0)).heap.size = q0 + 2 by simp [SZ1.out])
 have F2 := Hd (F1.out.alloc (.map #[] 0))
 have F2a := Hd (show Fr No wa (wa.alloc (.map #[] 0)) from (Fr.refl No wa).alloc (.map #[] 0))
 generalize hwb : wa.alloc (.map #[] 0) = wb at *
 have HM2 := Hd (show jQ (wb.alloc (.map #[] 0)) (q0 + 2) [] from by have := yl.made (P := Tryz.prog) (kt := 41) (kV := yW) (vV := QH) wb; rw [SZ2.out] at this; exact this)
 have SZ3 := Hd (show (wb.alloc (.map #[] 0)).heap.size = q0 + 3 by simp [SZ2.out])
 have F3 := Hd (F2.out.alloc (.map #[] 0))
 have F3b := Hd (show Fr No wb (wb.alloc (.map #[] 0)) from (Fr.refl No wb).alloc (.map #[] 0))
 generalize hwc : wb.alloc (.map #[] 0) = wc at *
 have RK := Hd (zb (zb RK0.out F2a.out id) F3b.out id)
 have RX := Hd (YE RK.out).2
 have HM1c := Hd (HM1.out.keep F3b.out id)
 obtain ⟨wd, MW0, hup, hmw, hupd, htu, hml⟩ := HM2.out.upd xy.keyed qO (fun _ _ => yS) (yd XOK.out) (show ([] : List (zi × Int)).length < maxLen by decide) 1
 have HUP := Hd hup
 have FU := Hd htu.fr
 have HMW := Hd hmw
 have CW0 := Hd (zbY (V := []) (V' := [x]) hupd (by simp) (by simp))
 have MWL := Hd (show MW0.length ≤ 1 from hml)
 have HMI := Hd (HM1c.out.keep FU.out (by omega))
 have FD := Hd (show Fr No w wd from F3.out.trans FU.out (fun i hi e => by rw [e] at hi; omega))
 have RKD := Hd (zb RK.out FU.out (by omega))
 have CKD := Hd (YE RKD.out).1
 have ZD := Hd (show q0 + 3 ≤ wd.heap.size by have := FU.out.size; have := SZ3.out; omega)
 clear hup hmw hupd htu hml
 unfold yW QH at HUP
 have hb1 := SZ1.out
 have hb2 := SZ2.out
 go_enter Tryz.func43, Tryz.ntmps43
 have K0 := tru
 have K1 := tru
 go_wp2_with (first | ((with_reducible refine zn ?_); have mk := K0.out; refine zd rfl (zf (ty := 41) rfl rfl RX.out uH rH (by rw [XL.out]; exact zr)) ?_; go_frame) | ((with_reducible refine zn ?_); have mk := K1.out; refine zq rfl (zcC rfl rfl rfl rfl HUP.out) ?_; go_frame))
 have FE := Hd (Fr.refl No wd).drew
 have CPE := Hd (show wd.drew.cell? ⟨p, 1 + n, none⟩ = some (.slice ra (Q n).length rc) from (FD.out.trans0 FE.out).cell CPN.out id)
 have CKE := Hd (FE.out.cell CKD.out id)
 refine zv [false, false, false, false, false, false, false, false] (fun w' => w'.cell? ⟨p, 1 + n, none⟩ = some (.slice ra (Q n).length rc) ∧ w'.cell? ⟨q0, 0, none⟩ = some (.int .i64 n)) (by kernel_rfl) (by kernel_rfl) ?_ (fun K hK => ?_)
 ·exact ⟨CPE.out, CKE.out⟩
 repeat (first | ((first | with_reducible refine zx ?_ | ((with_reducible refine zu ?_ ?_); (focus rfl))); apply Exists.intro; refine ⟨?_, ?_⟩; (focus (first | (intro w' hS; obtain ⟨s1, s2⟩ := hS; go_simp; (try with_reducible rfl); done))); try simp only [Act.put, pA, pB, pC]) | ((first | ((with_reducible refine zg (c := false) ?_ ?_ ?_); (focus rfl); (focus rfl)) | ((with_reducible refine zg (c := true) ?_ ?_ ?_); (focus rfl); (focus rfl)) | ((with_reducible refine zt ?_ ?_); (focus rfl))); try simp only [Act.put, pA, pB, pC]))
 refine zM (hK.out _ _ ?_)
 have AB0 := Hd (show zcz w wd.drew (q0 + 1) (q0 + 2) (Q n) x (Q n).length [] MW0 [] [x] from ⟨HMI.out.keep FE.out id, HMW.out.keep FE.out id, by simp, CW0.out, fun y => by rw [List.take_length]; unfold yM; simp, by simp, by have := MWL.out; omega, FD.out.trans0 FE.out⟩)
 generalize wd.drew = ws at *
 go_wp2_with fail
 go_loopw [8] (fun iv wr => ∃ (c : Nat) (MI MW : List (zi × Int)) (I W : List zi), iv = .int .i64 ((c : Int) - 1) ∧ c ≤ (Q n).length ∧ zcz w wr (q0 + 1) (q0 + 2) (Q n) x c MI MW I W ∧ wr.cell? ⟨q0, 0, none⟩ = some (.int .i64 n)) (fun iv _ => (intOf iv + 1).toNat)
 case atStart => exact ⟨(Q n).length, _, _, _, _, by go_num, Nat.le_refl _, AB0.out, CKE.out⟩
 case round =>
  obtain ⟨c, MI, MW, I, W, rfl, hc, hab, hck⟩ := hrel
  have AB := Hd hab
  have CK := Hd hck
  have FW := Hd hab.fr
  clear hab hck
  cases c with
  | zero =>
   have DN := Hd (show ∀ y, y ∈ yM (Q n) x ↔ y ∈ I from fun y => by rw [AB.out.spl]; simp [xH])
   go_wp2_with fail
   go_ret
   exact ⟨q0 + 1, MI, rfl, AB.out.mi, fun k d => by rw [AB.out.ci, DN.out], by omega, FW.out⟩
  | succ m =>
   rw [show (((m + 1 : Nat) : Int) - 1) = (m : Int) by omega]
   have i1 : (0 : Int) ≤ (m : Int) := by omega
   have i2 : (m : Int) < ((Q n).length : Int) := by omega
   obtain ⟨e, hx⟩ : ∃ e, (Q n)[m]? = some e := ⟨_, List.getElem?_eq_getElem (by omega)⟩
   have hem := List.mem_of_getElem? hx
   have HX := Hd hx
   have EM := Hd hem
   have EOK := Hd (IDOK.out e.id (List.mem_map.2 ⟨e, hem, rfl⟩))
   have EL := Hd (zE EOK.out)
   have hxi : (yc (Q n))[m]? = some e.id := by unfold yc; rw [List.getElem?_map, hx]; rfl
   obtain ⟨g, off, cap, hvv, hr1, -⟩ := (yV.own (zl ROWL.out FW.out (fun _ _ => id)) IDOK.out).at_ hxi
   rw [SLN.out] at hvv
   cases hvv
   have R1 := Hd hr1
   have LW := Hd (QO AB.out.mw AB.out.cw EOK.out)
   have ILN := Hd (show e.tx.ins.length ≤ 8 from HV.out.ins8 e hem)
   have iel : e.tx.ins.length ≤ 1000 := by have := ILN.out; omega
   unfold yW at LW
   clear hx hem hxi hr1
   by_cases hw : e.id ∈ W
   ·rw [if_pos hw] at LW
    have HW := Hd hw
    clear hw
    obtain ⟨w2, MI2, hup, hm2, hupd, htu, hml⟩ := AB.out.mi.upd xy.keyed qO (fun _ _ => yS) (yd EOK.out) (show MI.length < maxLen by unfold maxLen; have := AB.out.li; have := QL.out; omega) 1
    have HUP2 := Hd hup
    have FU2 := Hd htu.fr
    have HMI2 := Hd hm2
    have CI2 := Hd (zbY (V' := e.id :: I) hupd AB.out.ci (by simp))
    have LI2 := Hd (show MI2.length ≤ MI.length + 1 from hml)
    have HMW2 := Hd (AB.out.mw.keep FU2.out (by omega))
    have F02 := Hd (show Fr No w w2 from FW.out.trans FU2.out (fun i hi e => by rw [e] at hi; omega))
    have R2 := Hd (show w2.rangeAt g (off + m * 32) (zj e.id) from zb R1.out FU2.out (fun e => by have := (ROWL.out.lt g rfl).2; have e : g = q0 + 1 := e; omega))
    have CK2 := Hd (FU2.out.cell CK.out (show ¬ q0 = q0 + 1 by omega))
    clear hup hm2 hupd htu hml
    unfold yW QH at HUP2
    have K0 := tru
    have K1 := tru
    have K2 := tru
    have K3 := tru
    go_wp2_with (first | ((with_reducible refine zn ?_); have mk := K0.out; refine zd rfl (zf (ty := 41) rfl rfl R1.out uH rH (by rw [EL.out]; exact zr)) ?_; go_frame) | ((with_reducible refine zn ?_); have mk := K1.out; refine zd rfl (zN (t := 120) rfl rfl rfl LW.out) ?_; go_frame) | ((with_reducible refine zn ?_); have mk := K2.out; refine zd rfl (zf (ty := 41) rfl rfl R1.out uH rH (by rw [EL.out]; exact zr)) ?_; go_frame) | ((with_reducible refine zn ?_); have mk := K3.out; refine zq rfl (y5 rfl rfl rfl rfl HUP2.out) ?_; go_frame))
    have FD2 := Hd (F02.out.drew)
    have HD2 := Hd (HH.out.fr0 FD2.out)
    have RD2 := Hd (zb R2.out (Fr.refl No w2).drew id)
    have CKD2 := Hd ((Fr.refl No w2).drew.cell CK2.out id)
    have HMId := Hd (HMI2.out.keep (Fr.refl No w2).drew id)
    have HMWd := Hd (HMW2.out.keep (Fr.refl No w2).drew id)
    have ZD2 := Hd (show q0 + 3 ≤ w2.drew.heap.size by have := FU2.out.size; have h2 : q0 + 2 < wr.heap.size := AB.out.mw.lt; show q0 + 3 ≤ w2.heap.size; omega)
    obtain ⟨M, hM, hm⟩ := HD2.out.am
    obtain ⟨ia, ic, oa, oc, hce⟩ := (HD2.out.data n HN.out e EM.out).now.form
    have hcel : YB C Q n e.id = [.int .u32 e.tx.ver, .slice ia e.tx.ins.length ic, .slice oa e.tx.outs.length oc] := by
     unfold YB
     rw [if_pos (show vC Q n e.id = true from by unfold vC; simp only [decide_eq_true_eq]; exact ⟨i0, i65, by rw [Int.toNat_natCast]; exact List.mem_map.2 ⟨e, EM.out, rfl⟩⟩), Int.toNat_natCast, hce]
    have LK := Hd (show ∀ w', qR w' ma M → (Instr.lookup 113 (.map (some ma)) (.agg (skC (n, e.id)).toArray) false).run Tryz.prog w' = .ok (.agg #[.int .u32 e.tx.ver, .slice ia e.tx.ins.length ic, .slice oa e.tx.outs.length oc]) w' from fun w' h' => by
     have := Zh (w := w') (Qz HN.out) EOK.out h' hm false
     rw [hcel] at this
     simpa using this)
    have HM := Hd hM
    have TQ := Hd (show TxQ w2.drew e.tx [.int .u32 e.tx.ver, .slice ia e.tx.ins.length ic, .slice oa e.tx.outs.length oc] from by rw [← hce]; exact (HD2.out.data n HN.out e EM.out).now)
    have SKL := Hd (Jd (k := ((n : Int), e.id)) EOK.out)
    clear hM hm hce hcel
    refine zv [false, false, false, false, false, false, false, false, false, false, false, false, true, false, false] (fun w' => w'.cell? ⟨p, 0, none⟩ = some (.map (some ma)) ∧ w'.cell? ⟨q0, 0, none⟩ = some (.int .i64 n) ∧ w'.rangeAt g (off + m * 32) (zj e.id) ∧ qR w' ma M) (by kernel_rfl) (by kernel_rfl) ?_ (fun K hK => ?_)
    ·exact ⟨HD2.out.cells.1, CKD2.out, RD2.out, HM.out⟩
    generalize w2.drew = wz at *
    repeat (first | ((first | with_reducible refine zx ?_ | ((with_reducible refine zu ?_ ?_); (focus rfl))); apply Exists.intro; refine ⟨?_, ?_⟩; (focus (first | exact zD (ty := 41) rfl (fun w h => h.2.2.1) uH rH (by rw [EL.out]; exact zr) | exact fun w' _ => y4 (t := 110) rfl rfl vG (jD _ EOK.out) (vH _ _) SKL.out | exact fun w' h => zN (t := 113) rfl rfl rfl (LK.out w' h.2.2.2) | (intro w' hS; obtain ⟨s1, s2, s3, s4⟩ := hS; go_simp; (try with_reducible rfl); done))); try simp only [Act.put, pA, pB, pC]) | ((first | ((with_reducible refine zg (c := false) ?_ ?_ ?_); (focus rfl); (focus rfl)) | ((with_reducible refine zg (c := true) ?_ ?_ ?_); (focus rfl); (focus rfl)) | ((with_reducible refine zt ?_ ?_); (focus rfl))); try simp only [Act.put, pA, pB, pC]))
    (first | with_reducible refine zU (fun K' hK' => ?_) | ((with_reducible refine zK ?_ (fun K' hK' => ?_)); (focus rfl)))
    go_simp
    refine (vP wz TQ.out iel).mono ?_
    rintro e' w3 ⟨pv, rfl, hpo, f3⟩
    obtain ⟨pa, pc, hpv⟩ := hpo.slice.arg.form
    subst hpv
    have F3 := Hd f3
    have PO := Hd hpo
    clear f3 hpo
    refine hK'.out _ _ ?_ (fun hS => ?_)
    ·exact ⟨(HD2.out.fr0 F3.out).cells.1, F3.out.cell CKD2.out id, zb RD2.out F3.out id, HM.out.keep F3.out id⟩
    try simp only [Act.put, pA, pB, pC]
    repeat (first | ((first | with_reducible refine zx ?_ | ((with_reducible refine zu ?_ ?_); (focus rfl))); apply Exists.intro; refine ⟨?_, ?_⟩; (focus (first | (intro w' hS; obtain ⟨s1, s2, s3, s4⟩ := hS; go_simp; (try with_reducible rfl); done))); try simp only [Act.put, pA, pB, pC]) | ((first | ((with_reducible refine zg (c := false) ?_ ?_ ?_); (focus rfl); (focus rfl)) | ((with_reducible refine zg (c := true) ?_ ?_ ?_); (focus rfl); (focus rfl)) | ((with_reducible refine zt ?_ ?_); (focus rfl))); try simp only [Act.put, pA, pB, pC]))
    refine zM (hK.out _ _ ?_)
    have POK := Hd (show ∀ q ∈ zS e.tx, q.ok from fun q hq => by obtain ⟨y, hy, rfl⟩ := List.mem_map.1 hq; exact TQ.out.oks.1 y hy)
    have PTL := Hd (qW e.tx)
    have PNO := Hd (show ∀ j, (Value.slice pa e.tx.ins.length pc).ownBlock = some j → q0 + 3 ≤ j from fun j hj => by have := (PO.out.lt j hj).1; have := ZD2.out; omega)
    have HMI3 := Hd (HMId.out.keep F3.out id)
    have HMW3 := Hd (HMWd.out.keep F3.out id)
    have CK3 := Hd (F3.out.cell CKD2.out id)
    have F03 := Hd (FD2.out.trans0 F3.out)
    have Z3 := Hd (show q0 + 3 ≤ w3.heap.size by have := F3.out.size; have := ZD2.out; omega)
    go_wp2_with fail
    go_loopw [56] (fun iv wi => ∃ (j : Nat) (MW' : List (zi × Int)), iv = .int .i64 j ∧ j ≤ e.tx.ins.length ∧ jQ wi (q0 + 2) MW' ∧ (∀ y d, (y, d) ∈ MW' ↔ d = 1 ∧ y ∈ ((zS e.tx).take j).map (·.tx) ++ W) ∧ MW'.length ≤ MW.length + j ∧ Fr (fun b => b = q0 + 2) w3 wi) (fun iv _ => e.tx.ins.length - (intOf iv).toNat)
    case atStart => exact ⟨0, MW, rfl, Nat.zero_le _, HMW3.out, by simpa using AB.out.cw, Nat.le_refl _, Fr.refl _ _⟩
    case round =>
     obtain ⟨j, MW', rfl, hj, hmw, hcw, hlw, hfi⟩ := hrel
     rename World => wi
     have MWI := Hd hmw
     have CWI := Hd hcw
     have LWI := Hd hlw
     have FI := Hd hfi
     clear hmw hcw hlw hfi
     by_cases hjt : j < e.tx.ins.length
     ·have i3 : (j : Int) < (e.tx.ins.length : Int) := by omega
      obtain ⟨q, hq⟩ : ∃ q, (zS e.tx)[j]? = some q := ⟨_, List.getElem?_eq_getElem (by rw [PTL.out]; exact hjt)⟩
      have QOK := Hd (POK.out q (List.mem_of_getElem? hq))
      have POI := Hd (zl PO.out FI.out (fun j hj e => by have := PNO.out j hj; omega))
      have hpi : qg wi (.slice pa e.tx.ins.length pc) (zS e.tx) := ⟨POK.out, by rw [PTL.out]; exact POI.out.slice.arg⟩
      obtain ⟨b2, off2, cap2, e2, hr2, -⟩ := hpi.at_ hq
      injection e2 with e3 e4 e5
      subst e3
      have R3 := Hd hr2
      have PL := Hd (yb QOK.out)
      have QL2 := Hd (zE QOK.out.1)
      have RQ := Hd (zC wi (zB q) 95)
      have FQ := Hd ((Fr.refl No wi).alloc (.cells (zB q).toArray 95))
      have RQH := Hd (Qn RQ.out QOK.out).1
      obtain ⟨w5, MW5, hup, hm5, hupd, htu, hml⟩ := (MWI.out.keep FQ.out id).upd xy.keyed qO (fun _ _ => yS) (yd QOK.out.1) (show MW'.length < maxLen by unfold maxLen; have := LWI.out; have := AB.out.lw; have := QL.out; have := ILN.out; omega) 1
      have HUP5 := Hd hup
      have FU5 := Hd (show Fr (fun b => b = q0 + 2) w3 w5 from (FI.out.trans0 FQ.out).trans htu.fr (fun _ _ e => e))
      have MW5' := Hd hm5
      have CW5 := Hd (zbY (V' := ((zS e.tx).take (j + 1)).map (·.tx) ++ W) hupd CWI.out (fun y => by
       rw [List.take_add_one, hq]
       simp only [Option.toList_some, List.map_append, List.map_cons, List.map_nil, List.mem_append, List.mem_singleton]
       constructor
       ·rintro ((a | a) | a)
        ·exact .inr (.inl a)
        ·exact .inl a
        ·exact .inr (.inr a)
       ·rintro (a | a | a)
        ·exact .inl (.inr a)
        ·exact .inl (.inl a)
        ·exact .inr a))
      have LW5 := Hd (show MW5.length ≤ MW'.length + 1 from hml)
      clear hup hm5 hupd htu hml hr2 hq e4 e5 hpi
      unfold yW QH at HUP5
      unfold zj at RQH QL2
      have K0 := tru
      have K1 := tru
      have K2 := tru
      have K3 := tru
      go_wp2_with (first | ((with_reducible refine zn ?_); have mk := K0.out; refine zd rfl (zf (ty := 95) rfl rfl R3.out uP rP (by rw [PL.out]; exact zL)) ?_; go_frame) | ((with_reducible refine zA ?_); have mk := K1.out; refine zq rfl (zm (w := wi) (ty := 95) (cs := zB q) rfl rfl rfl (by rw [PL.out]; rfl) (by rw [PL.out]; exact zL) y3) ?_; go_frame) | ((with_reducible refine zn ?_); have mk := K2.out; refine zd rfl (zf (ty := 41) rfl rfl RQH.out uH rH (by rw [QL2.out]; exact zr)) ?_; go_frame) | ((with_reducible refine zn ?_); have mk := K3.out; refine zq rfl (y5 rfl rfl rfl rfl HUP5.out) ?_; go_frame))
      go_roundw
      case rel => exact ⟨j + 1, MW5, by go_num, by omega, MW5'.out, CW5.out, by have := LW5.out; have := LWI.out; omega, FU5.out⟩
      case measure => simp [intOf]; omega
     ·have hje : j = e.tx.ins.length := by omega
      have i3 : ¬ (j : Int) < (e.tx.ins.length : Int) := by omega
      have TKA := Hd (show (zS e.tx).take j = zS e.tx by rw [hje, ← PTL.out, List.take_length])
      have F0I := Hd (show Fr No w wi from F03.out.trans FI.out (fun i hi e => by omega))
      have ABN := Hd (AB.out.step HX.out HW.out F0I.out (HMI3.out.keep FI.out (by omega)) MWI.out CI2.out (by have := CWI.out; rw [TKA.out] at this; exact this) LI2.out (by have := LWI.out; have := ILN.out; omega))
      have CKN := Hd (FI.out.cell CK3.out (show ¬ q0 = q0 + 2 by omega))
      clear hje
      go_wp2_with fail
      go_roundw
      case rel => exact ⟨m, _, _, _, _, by go_num, by omega, ABN.out, CKN.out⟩
      case measure => simp [intOf]
   ·rw [if_neg hw] at LW
    have ABN := Hd (AB.out.skip HX.out hw (Fr.refl No wr))
    clear hw
    have K0 := tru
    have K1 := tru
    go_wp2_with (first | ((with_reducible refine zn ?_); have mk := K0.out; refine zd rfl (zf (ty := 41) rfl rfl R1.out uH rH (by rw [EL.out]; exact zr)) ?_; go_frame) | ((with_reducible refine zn ?_); have mk := K1.out; refine zd rfl (zN (t := 120) rfl rfl rfl LW.out) ?_; go_frame))
    go_roundw
    case rel => exact ⟨m, _, _, _, _, by go_num, by omega, ABN.out, CK.out⟩
    case measure => simp [intOf]
end
end Go.Proofs.YtdkkjchclkjleaaGreatDoor
