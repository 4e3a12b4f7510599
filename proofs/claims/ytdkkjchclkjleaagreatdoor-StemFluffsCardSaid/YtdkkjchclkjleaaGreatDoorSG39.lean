/- stem: Take. -/
import Derived.Test.YtdkkjchclkjleaaGreatDoorSG38
import Derived.Test.YtdkkjchclkjleaaGreatDoorSG10
import Derived.Test.YtdkkjchclkjleaaGreatDoorSG13
import Derived.Test.YtdkkjchclkjleaaGreatDoorSG32
set_option linter.unusedVariables false
set_option linter.unusedSimpArgs false
set_option linter.unnecessarySimpa false
set_option linter.all false
namespace Go.Proofs.YtdkkjchclkjleaaGreatDoor
open Go Go.RowKit Go.Maps Go.MapKept
theorem zg2 (Q : StQ) (n : Nat) (a b : List StE) : qU (qU Q n a) n b = qU Q n b := by
 funext j
 unfold qU
 by_cases h : j = n <;> simp [h]
def VI (C : Nat → zi → List Value) (n : Nat) (l : List StE) : List Value := l.flatMap fun e => C n e.id
theorem zdG (C : Nat → zi → List Value) (n : Nat) (l : List StE) (e : StE) : VI C n (l ++ [e]) = VI C n l ++ C n e.id := by simp [VI]
def zdC (w : World) (e : Ending) (w' : World) : Prop := e = .returned (.tuple #[.slice none 0 0, .int .i64 9]) ∧ Fr No w w'
section
variable {w0 w w' : World} {p ma ms : Nat} {R : Nat → Value} {X : Nat → Prop} {C : Nat → zi → List Value} {Q : StQ}
def zcn (w0 w : World) (p ma ms : Nat) (R : Nat → Value) (X : Nat → Prop) (C : Nat → zi → List Value) (Q : StQ) (n : Nat) (K : List zi) (bi : Nat) (MI : List (zi × Int)) (k : Nat) (tv : Value) (wr : World) : Prop :=
 ∃ v', yz w0 wr p ma ms (vq R n v') X C (qU Q n (jJ (Q n) K k)) ∧ (∀ j, v'.ownBlock = some j → (R n).ownBlock = some j) ∧ wr.ownsRow w.heap.size 34 3 tv (vu (Q n) K k).length (VI C n (vu (Q n) K k)) ∧ Fr (Xf p ma ms (R n)) w wr ∧ jQ wr bi MI
theorem Yq (R : Nat → Value) (n : Nat) (v : Value) : vq R n v n = v := if_pos rfl
theorem zhh (R : Nat → Value) (n : Nat) (a b : Value) : vq (vq R n a) n b = vq R n b := by
 funext j
 unfold vq
 by_cases h : j = n <;> simp [h]
theorem zd8 (R : Nat → Value) (n : Nat) : vq R n (R n) = R := by
 funext j
 unfold vq
 by_cases h : j = n <;> simp [h]
theorem zcn.fr0 {n : Nat} {K : List zi} {bi k : Nat} {MI : List (zi × Int)} {tv : Value} {wr wr' : World} (h : zcn w0 w p ma ms R X C Q n K bi MI k tv wr) (f : Fr No wr wr') : zcn w0 w p ma ms R X C Q n K bi MI k tv wr' := by
 obtain ⟨v', a, b, c, d, e⟩ := h
 exact ⟨v', a.fr0 f, b, zl c f (fun _ _ => id), d.trans0 f, e.keep f id⟩
theorem QS {w : World} {t : TxD} {cs : List Value} (h : TxQ w t cs) : cs.length = 3 ∧ ∀ v ∈ cs, v.oneCell' = true := by
 obtain ⟨ia, ic, oa, oc, rfl⟩ := h.form
 exact ⟨rfl, JN rfl rfl rfl⟩
theorem zhP : ∀ v ∈ zfx, v.oneCell' = true := JN rfl rfl rfl
set_option maxRecDepth 20000 in
set_option maxHeartbeats 8000000 in
theorem ziz (h : yz w0 w p ma ms R X C Q) {i : Int} (hi : YF i) {x : zi} (hx : zQ x) (hno : vC Q i x = false) :
  Calls Tryz.prog 14 #[.pointer (some ⟨p, 0, none⟩), .int .i64 i, .agg (zj x).toArray] w (zdC w) := by
 obtain ⟨dH, uH, rH⟩ := yj
 have XOK := Hd hx
 have XL := Hd (zE hx)
 have HH := Hd h
 have zT := vM
 have SKL := Hd (Jd (k := (i, x)) hx)
 have F1 := Hd ((Fr.refl No w).alloc (.cells (zj x).toArray 41))
 have RK := Hd (zC w (zj x) 41)
 obtain ⟨cs, hcs⟩ : ∃ cs, YB C Q i x = cs := ⟨_, rfl⟩
 have CEQ := Hd (show cs = zfx from by rw [← hcs]; unfold YB; rw [if_neg (by simp [hno])])
 have CL3 := Hd (show cs.length = 3 by rw [CEQ.out]; rfl)
 have CO3 := Hd (show ∀ v ∈ cs, v.oneCell' = true by rw [CEQ.out]; exact zhP)
 obtain ⟨M, hM, hm⟩ := (h.fr0 (F1.out.drew)).am
 have LK := Hd (show ∀ w', qR w' ma M → (Instr.lookup 113 (.map (some ma)) (.agg (skC (i, x)).toArray) true).run Tryz.prog w' = .ok (.tuple #[.agg cs.toArray, .bool false]) w' from fun w' h' => by
  have := Zh (w := w') hi hx h' hm true
  rw [hcs, hno] at this
  simpa using this)
 have HM0 := Hd hM
 clear h hx hno hM hm hcs
 go_enter Tryz.func14, Tryz.ntmps14
 go_wp2_with fail
 generalize hq0 : w.heap.size = q0 at *
 generalize hwa : w.alloc (.cells (zj x).toArray 41) = wa at *
 clear hwa
 have HD := Hd (HH.out.fr0 F1.out.drew)
 have RD := Hd (zb RK.out (Fr.refl No wa).drew id)
 have FDD := Hd F1.out.drew
 have HM := Hd HM0.out
 refine zv [false, false, false, false, false, false, false, false, false, false, false, true, true, false] (fun w' => w'.cell? ⟨p, 0, none⟩ = some (.map (some ma)) ∧ w'.rangeAt q0 0 (zj x) ∧ qR w' ma M) (by kernel_rfl) (by kernel_rfl) ?_ (fun K hK => ?_)
 ·exact ⟨HD.out.cells.1, RD.out, HM.out⟩
 generalize wa.drew = wd at *
 repeat (first | ((first | with_reducible refine zx ?_ | ((with_reducible refine zu ?_ ?_); (focus rfl))); apply Exists.intro; refine ⟨?_, ?_⟩; (focus (first | exact zD (ty := 41) rfl (fun w h => h.2.1) uH rH (by rw [XL.out]; exact zr) | exact fun w' _ => y4 (t := 110) rfl rfl vG (jD _ XOK.out) (vH _ _) SKL.out | exact fun w' h => zN (t := 113) rfl rfl rfl (LK.out w' h.2.2) | (intro w' hS; obtain ⟨s1, s2, s3⟩ := hS; go_simp; (try with_reducible rfl); done))); try simp only [Act.put, pA, pB, pC]) | ((first | ((with_reducible refine zg (c := false) ?_ ?_ ?_); (focus rfl); (focus rfl)) | ((with_reducible refine zg (c := true) ?_ ?_ ?_); (focus rfl); (focus rfl)) | ((with_reducible refine zt ?_ ?_); (focus rfl))); try simp only [Act.put, pA, pB, pC]))
 (first | with_reducible refine zU (fun K' hK' => ?_) | ((with_reducible refine zK ?_ (fun K' hK' => ?_)); (focus rfl)))
 refine yB (yZ rfl (vM _)) ?_
 refine hK'.out _ _ ?_ (fun hS => ?_)
 ·exact ⟨((Fr.refl No wd).alloc _).cell HD.out.cells.1 id, zb RD.out ((Fr.refl No wd).alloc _) id, HM.out.keep ((Fr.refl No wd).alloc _) id⟩
 try simp only [Act.put, pA, pB, pC]
 (first | with_reducible refine zU (fun K' hK' => ?_) | ((with_reducible refine zK ?_ (fun K' hK' => ?_)); (focus rfl)))
 refine xb (zm (w := wd) (ty := 34) (cs := cs) rfl rfl rfl (by rw [CL3.out]; rfl) (by rw [CL3.out]; exact zR) CO3.out) ?_
 refine hK'.out _ _ ?_ (fun hS => ?_)
 ·exact ⟨((Fr.refl No wd).alloc _).cell HD.out.cells.1 id, zb RD.out ((Fr.refl No wd).alloc _) id, HM.out.keep ((Fr.refl No wd).alloc _) id⟩
 try simp only [Act.put]
 repeat (first | ((first | with_reducible refine zx ?_ | ((with_reducible refine zu ?_ ?_); (focus rfl))); apply Exists.intro; refine ⟨?_, ?_⟩; (focus (first | (intro w' hS; obtain _ := hS; go_simp; (try with_reducible rfl); done))); try simp only [Act.put, pA, pB, pC]) | ((first | ((with_reducible refine zg (c := false) ?_ ?_ ?_); (focus rfl); (focus rfl)) | ((with_reducible refine zg (c := true) ?_ ?_ ?_); (focus rfl); (focus rfl)) | ((with_reducible refine zt ?_ ?_); (focus rfl))); try simp only [Act.put, pA, pB, pC]))
 refine zM (hK.out _ _ ?_)
 go_wp2_with fail
 go_ret2
 exact ⟨rfl, FDD.out.alloc _⟩
set_option maxRecDepth 20000 in
set_option maxHeartbeats 16000000 in
theorem zjF (h : yz w0 w p ma ms R X C Q) {n : Nat} (hn : n < 65) {x : zi} (hin : x ∈ yc (Q n)) :
  Calls Tryz.prog 14 #[.pointer (some ⟨p, 0, none⟩), .int .i64 n, .agg (zj x).toArray] w fun e' w' => ∃ tv, e' = .returned (.tuple #[tv, .int .i64 0]) ∧ Fr (Xf p ma ms (R n)) w w' ∧ w'.ownsRow w.heap.size 34 3 tv (yC (Q n) x).length (VI C n (yC (Q n) x)) ∧ ∃ v', (∀ j, v'.ownBlock = some j → (R n).ownBlock = some j) ∧ yz w0 w' p ma ms (vq R n v') X C (qU Q n (vn (Q n) x)) := by
 obtain ⟨dH, uH, rH⟩ := yj
 have zh := y6
 have zT := vM
 have hx := h.idok n x hin
 have XOK := Hd hx
 have XL := Hd (zE hx)
 have HH := Hd h
 have HN := Hd hn
 have i65 : (n : Int) < 65 := by omega
 have i0 : (0 : Int) ≤ (n : Int) := by omega
 have HV := Hd (h.val n)
 have SLN := Hd (xk (Q n))
 have QL := Hd (h.val n).len
 have ql := (h.val n).len
 have IDOK := Hd (h.idok n)
 have SKL := Hd (Jd (k := ((n : Int), x)) hx)
 have F1 := Hd ((Fr.refl No w).alloc (.cells (zj x).toArray 41))
 have RK := Hd (zC w (zj x) 41)
 have hmine : vC Q n x = true := by unfold vC; simp only [decide_eq_true_eq]; exact ⟨i0, i65, by rw [Int.toNat_natCast]; exact hin⟩
 obtain ⟨cs, hcs⟩ : ∃ cs, YB C Q n x = cs := ⟨_, rfl⟩
 have hc3 : cs.length = 3 ∧ ∀ v ∈ cs, v.oneCell' = true := by
  rw [← hcs]
  unfold YB
  rw [if_pos hmine, Int.toNat_natCast]
  obtain ⟨e, he, rfl⟩ := List.mem_map.1 hin
  exact QS (h.data n hn e he).now
 have CL3 := Hd hc3.1
 have CO3 := Hd hc3.2
 obtain ⟨M, hM, hm⟩ := (h.fr0 (F1.out.drew)).am
 have LK := Hd (show ∀ w', qR w' ma M → (Instr.lookup 113 (.map (some ma)) (.agg (skC (n, x)).toArray) true).run Tryz.prog w' = .ok (.tuple #[.agg cs.toArray, .bool true]) w' from fun w' h' => by
  have := Zh (w := w') (Qz hn) hx h' hm true
  rw [hcs, hmine] at this
  simpa using this)
 have HM0 := Hd hM
 obtain ⟨ra, rc, hR⟩ := h.row_form hn
 have CPN := Hd (show w.cell? ⟨p, 1 + n, none⟩ = some (.slice ra (Q n).length rc) from by rw [← hR, Nat.add_comm]; exact h.cells.2.2 n hn)
 have ROWL := Hd (show w.ownsRow w0.heap.size 41 32 (.slice ra (Q n).length rc) (yc (Q n)).length ((yc (Q n)).flatMap zj) from by rw [← hR]; exact h.row n hn)
 have HRR := Hd hR
 have BLT := Hd (show ∀ j, Xf p ma ms (R n) j → j < w.heap.size from fun j hj => h.hi j (jE hn j hj))
 clear h hn hx hM hm hcs hmine hin hc3 hR
 go_enter Tryz.func14, Tryz.ntmps14
 go_wp2_with fail
 generalize hq0 : w.heap.size = q0 at *
 generalize hwa : w.alloc (.cells (zj x).toArray 41) = wa at *
 have ZA := Hd (show wa.heap.size = q0 + 1 by rw [← hwa, ← hq0]; simp)
 clear hwa
 have HD := Hd (HH.out.fr0 F1.out.drew)
 have RD := Hd (zb RK.out (Fr.refl No wa).drew id)
 have FDD := Hd F1.out.drew
 have HM := Hd HM0.out
 have ZD := Hd (show wa.drew.heap.size = q0 + 1 from ZA.out)
 refine zv [false, false, false, false, false, false, false, false, false, false, false, true, true, false] (fun w' => w'.cell? ⟨p, 0, none⟩ = some (.map (some ma)) ∧ w'.rangeAt q0 0 (zj x) ∧ qR w' ma M) (by kernel_rfl) (by kernel_rfl) ?_ (fun K hK => ?_)
 ·exact ⟨HD.out.cells.1, RD.out, HM.out⟩
 generalize wa.drew = wd at *
 repeat (first | ((first | with_reducible refine zx ?_ | ((with_reducible refine zu ?_ ?_); (focus rfl))); apply Exists.intro; refine ⟨?_, ?_⟩; (focus (first | exact zD (ty := 41) rfl (fun w h => h.2.1) uH rH (by rw [XL.out]; exact zr) | exact fun w' _ => y4 (t := 110) rfl rfl vG (jD _ XOK.out) (vH _ _) SKL.out | exact fun w' h => zN (t := 113) rfl rfl rfl (LK.out w' h.2.2) | (intro w' hS; obtain ⟨s1, s2, s3⟩ := hS; go_simp; (try with_reducible rfl); done))); try simp only [Act.put, pA, pB, pC]) | ((first | ((with_reducible refine zg (c := false) ?_ ?_ ?_); (focus rfl); (focus rfl)) | ((with_reducible refine zg (c := true) ?_ ?_ ?_); (focus rfl); (focus rfl)) | ((with_reducible refine zt ?_ ?_); (focus rfl))); try simp only [Act.put, pA, pB, pC]))
 (first | with_reducible refine zU (fun K' hK' => ?_) | ((with_reducible refine zK ?_ (fun K' hK' => ?_)); (focus rfl)))
 refine yB (yZ rfl (vM _)) ?_
 refine hK'.out _ _ ?_ (fun hS => ?_)
 ·exact ⟨((Fr.refl No wd).alloc _).cell HD.out.cells.1 id, zb RD.out ((Fr.refl No wd).alloc _) id, HM.out.keep ((Fr.refl No wd).alloc _) id⟩
 try simp only [Act.put, pA, pB, pC]
 (first | with_reducible refine zU (fun K' hK' => ?_) | ((with_reducible refine zK ?_ (fun K' hK' => ?_)); (focus rfl)))
 refine xb (zm (w := wd) (ty := 34) (cs := cs) rfl rfl rfl (by rw [CL3.out]; rfl) (by rw [CL3.out]; exact zR) CO3.out) ?_
 refine hK'.out _ _ ?_ (fun hS => ?_)
 ·exact ⟨((Fr.refl No wd).alloc _).cell HD.out.cells.1 id, zb RD.out ((Fr.refl No wd).alloc _) id, HM.out.keep ((Fr.refl No wd).alloc _) id⟩
 try simp only [Act.put]
 repeat (first | ((first | with_reducible refine zx ?_ | ((with_reducible refine zu ?_ ?_); (focus rfl))); apply Exists.intro; refine ⟨?_, ?_⟩; (focus (first | (intro w' hS; obtain _ := hS; go_simp; (try with_reducible rfl); done))); try simp only [Act.put, pA, pB, pC]) | ((first | ((with_reducible refine zg (c := false) ?_ ?_ ?_); (focus rfl); (focus rfl)) | ((with_reducible refine zg (c := true) ?_ ?_ ?_); (focus rfl); (focus rfl)) | ((with_reducible refine zt ?_ ?_); (focus rfl))); try simp only [Act.put, pA, pB, pC]))
 refine zM (hK.out _ _ ?_)
 have FE := Hd (FDD.out.alloc (.cells cs.toArray 34))
 have RE := Hd (zb RD.out ((Fr.refl No wd).alloc (.cells cs.toArray 34)) id)
 have ZE := Hd (show (wd.alloc (.cells cs.toArray 34)).heap.size = q0 + 2 by simp [ZD.out])
 generalize wd.alloc (.cells cs.toArray 34) = we at *
 have HE := Hd (HH.out.fr0 FE.out)
 have ABV := Hd (zih HE.out HN.out XOK.out)
 have CLN := Hd (fun w' (f : Fr No w w') => Zk w' (yV.own (zl ROWL.out f (fun _ _ => id)) IDOK.out) (by rw [SLN.out]; have := QL.out; omega))
 have K0 := tru
 have K1 := tru
 have K2 := tru
 have K3 := tru
 go_wp2_with (first | ((with_reducible refine zn ?_); have mk := K0.out; refine zd rfl (zf (ty := 41) rfl rfl RE.out uH rH (by rw [XL.out]; exact zr)) ?_; go_frame) | ((with_reducible refine zn ?_); have mk := K1.out; refine zd rfl (y4 (t := 110) rfl rfl vG (jD _ XOK.out) (vH _ _) SKL.out) ?_; go_frame) | (clear K2; go_at_call 43; refine ABV.out.mono ?_; rintro e' w3 ⟨bi, MI, rfl, hmi, hci, hbi, f3⟩; have HMI := Hd hmi; have HCI := Hd hci; have HBI := Hd hbi; have F3 := Hd (FE.out.trans0 f3); have C3 := Hd (F3.out.cell CPN.out id); clear hmi hci hbi f3; have c3 := C3.out; go_frame) | (clear K3; go_at_call 42; refine (CLN.out w3 F3.out).mono ?_; rintro e' w4 ⟨cv, rfl, ho4, f4⟩; obtain ⟨ca, cc, hcv⟩ := ho4.slice.arg.form; rw [SLN.out] at hcv; subst hcv; have O4 := Hd ho4; have F4 := Hd (F3.out.trans0 f4); have HMI4 := Hd (HMI.out.keep f4 id); have Z4 := Hd f4.size; clear ho4 f4; go_frame))
 have H4 := Hd (HH.out.fr0 F4.out)
 have ZQ := Hd (show q0 ≤ w3.heap.size from by have := F3.out.size; omega)
 have BNI := Hd (show ∀ j, Xf p ma ms (R n) j → j ≠ bi from fun j hj e => by have := BLT.out j hj; have := HBI.out; have := ZE.out; omega)
 have CNO := Hd (show ∀ j, (Value.slice ca (Q n).length cc).ownBlock = some j → ¬ Xf p ma ms (R n) j from fun j hj e => by have := (O4.out.lt j hj).1; have := BLT.out j e; have := ZQ.out; omega)
 have WLT := Hd (show q0 + 2 ≤ w3.heap.size from by have := F3.out.size; have := ZE.out; have := HMI.out.lt; have := HBI.out; omega)
 obtain ⟨X1, hX1⟩ : ∃ X1 : Nat → Prop, X1 = fun j => X j ∨ w4.heap.size ≤ j := ⟨_, rfl⟩
 have X1N := Hd (show ∀ j, w4.heap.size ≤ j → X1 j from fun j hj => by rw [hX1]; exact .inr hj)
 have XX1 := Hd (show ∀ j, X j → X1 j from fun j hj => by rw [hX1]; exact .inl hj)
 have H4X := Hd (show yz w0 w4 p ma ms R X1 C Q from H4.out.frV (Fr.refl No w4) (fun _ _ => id) (fun _ h => h.elim) (fun _ h => h.elim) (fun j hj e => by rw [hX1] at e; exact e.resolve_right (by omega)) (fun j hj => by rw [hX1]; exact .inl (H4.out.sub j hj)))
 clear hX1
 have SBL := Hd (show ∀ v', (∀ j, v'.ownBlock = some j → (R n).ownBlock = some j) → ∀ j, stV p ma ms (vq R n v') j → j < q0 ∧ X j from fun v' hv j hj => by
  have hst : stV p ma ms R j := by
   rcases hj with e | e | e | ⟨i, hi, e⟩
   ·exact .inl e
   ·exact .inr (.inl e)
   ·exact .inr (.inr (.inl e))
   ·unfold vq at e
    by_cases c : i = n
    ·rw [if_pos c] at e; exact .inr (.inr (.inr ⟨n, HN.out, hv j e⟩))
    ·rw [if_neg c] at e; exact .inr (.inr (.inr ⟨i, hi, e⟩))
  exact ⟨by have := HH.out.hi j hst; omega, HH.out.sub j hst⟩)
 have TK0 := Hd (show zcn w0 w4 p ma ms R X1 C Q n (yM (Q n) x) bi MI 0 (.slice none 0 0) w4 from ⟨R n, by rw [zd8, zdO, zbK]; exact H4X.out, fun j h => h, by rw [zdJ]; exact World.ownsRow_nil _ _ _ _, Fr.refl _ _, HMI4.out⟩)
 go_loopw [11, 42] (fun tv iv wr => ∃ k : Nat, iv = .int .i64 k ∧ k ≤ (Q n).length ∧ zcn w0 w4 p ma ms R X1 C Q n (yM (Q n) x) bi MI k tv wr) (fun _ iv _ => (Q n).length - (intOf iv).toNat)
 case atStart => exact ⟨0, rfl, Nat.zero_le _, TK0.out⟩
 case round =>
  obtain ⟨k, rfl, hk, htk⟩ := hrel
  have TK := Hd htk
  obtain ⟨v', hst, hvo, hrow, hfr, hmi⟩ := htk
  obtain ⟨ta, tc, htv⟩ := hrow.slice.arg.form
  subst htv
  have ST := Hd hst
  have VO := Hd hvo
  have ROW := Hd hrow
  have FR := Hd hfr
  have MIW := Hd hmi
  clear hst hvo hrow hfr hmi
  by_cases hlt : k < (Q n).length
  ·have i1 : (k : Int) < ((Q n).length : Int) := by omega
   obtain ⟨e, hx⟩ : ∃ e, (Q n)[k]? = some e := ⟨_, List.getElem?_eq_getElem hlt⟩
   have HX := Hd hx
   have hem := List.mem_of_getElem? hx
   have EM := Hd hem
   have EOK := Hd (IDOK.out e.id (List.mem_map.2 ⟨e, hem, rfl⟩))
   have EL := Hd (zE EOK.out)
   have hxi : (yc (Q n))[k]? = some e.id := by unfold yc; rw [List.getElem?_map, hx]; rfl
   have F4R := Hd (show wr.ownsRow w3.heap.size 41 32 (.slice ca (Q n).length cc) (yc (Q n)).length ((yc (Q n)).flatMap zj) from zl O4.out FR.out (fun j hj e => CNO.out j hj e))
   obtain ⟨g, off, cap, hvv, hr1, -⟩ := (yV.own F4R.out IDOK.out).at_ hxi
   rw [SLN.out] at hvv
   cases hvv
   have R1 := Hd hr1
   have RN := Hd (zC wr (zj e.id) 41)
   have FA := Hd ((Fr.refl No wr).alloc (.cells (zj e.id).toArray 41))
   clear hx hem hxi hr1
   have LI := Hd (QO (MIW.out.keep FA.out id) HCI.out EOK.out)
   unfold yW at LI
   have TKA := Hd (TK.out.fr0 FA.out)
   by_cases hw : e.id ∈ yM (Q n) x
   ·rw [if_pos hw] at LI
    have CUT := Hd (zfb HV.out.nd HX.out hw)
    have EMS := Hd (show e ∈ qU Q n (jJ (Q n) (yM (Q n) x) k) n from by rw [xh]; exact zey HX.out)
    have SKL2 := Hd (Jd (k := ((n : Int), e.id)) EOK.out)
    clear hw
    have K0 := tru
    have K1 := tru
    have K2 := tru
    have K3 := tru
    go_wp2_with (first | ((with_reducible refine zn ?_); have mk := K0.out; refine zd rfl (zf (ty := 41) rfl rfl R1.out uH rH (by rw [EL.out]; exact zr)) ?_; go_frame) | ((with_reducible refine zA ?_); have mk := K1.out; refine zq rfl (zm (w := wr) (ty := 41) (cs := zj e.id) rfl rfl rfl (by rw [EL.out]; rfl) (by rw [EL.out]; exact zr) zV) ?_; go_frame) | ((with_reducible refine zn ?_); have mk := K2.out; refine zd rfl (zf (ty := 41) rfl rfl RN.out uH rH (by rw [EL.out]; exact zr)) ?_; go_frame) | ((with_reducible refine zn ?_); have mk := K3.out; refine zd rfl (zN (t := 120) rfl rfl rfl LI.out) ?_; go_frame))
    generalize hqx : wr.heap.size = qx at *
    generalize hwn : wr.alloc (.cells (zj e.id).toArray 41) = wn at *
    have ZN := Hd (show wn.heap.size = qx + 1 by rw [← hwn, ← hqx]; simp)
    clear hwn
    have FN := Hd (FA.out.drew)
    have SN := Hd (ST.out.fr0 FN.out)
    have RND := Hd (zb RN.out (Fr.refl No wn).drew id)
    have ROWN := Hd (zl ROW.out FN.out (fun _ _ => id))
    have ZND := Hd (show wn.drew.heap.size = qx + 1 from ZN.out)
    have F4N := Hd (FR.out.trans0 FN.out)
    have MIN := Hd (MIW.out.keep FN.out id)
    obtain ⟨M, hM, hm⟩ := SN.out.am
    have hdat := (SN.out.data n HN.out e EMS.out).now
    obtain ⟨ia, ic, oa, oc, hce⟩ := hdat.form
    have hcel : YB C (qU Q n (jJ (Q n) (yM (Q n) x) k)) n e.id = [.int .u32 e.tx.ver, .slice ia e.tx.ins.length ic, .slice oa e.tx.outs.length oc] := by
     unfold YB
     rw [if_pos (show vC _ n e.id = true from by unfold vC; simp only [decide_eq_true_eq]; exact ⟨i0, i65, by rw [Int.toNat_natCast]; exact List.mem_map.2 ⟨e, EMS.out, rfl⟩⟩), Int.toNat_natCast, hce]
    have LK2 := Hd (show ∀ w', qR w' ma M → (Instr.lookup 113 (.map (some ma)) (.agg (skC (n, e.id)).toArray) false).run Tryz.prog w' = .ok (.agg #[.int .u32 e.tx.ver, .slice ia e.tx.ins.length ic, .slice oa e.tx.outs.length oc]) w' from fun w' h' => by
     have := Zh (w := w') (Qz HN.out) EOK.out h' hm false
     rw [hcel] at this
     simpa using this)
    have HM2 := Hd hM
    have GNX := Hd (show VI C n (vu (Q n) (yM (Q n) x) (k + 1)) = VI C n (vu (Q n) (yM (Q n) x) k) ++ [.int .u32 e.tx.ver, .slice ia e.tx.ins.length ic, .slice oa e.tx.outs.length oc] from by rw [CUT.out.2, zdG, hce])
    have GNL := Hd (show (vu (Q n) (yM (Q n) x) (k + 1)).length = (vu (Q n) (yM (Q n) x) k).length + 1 from by rw [CUT.out.2]; simp)
    have GL4 := Hd (show (vu (Q n) (yM (Q n) x) k).length ≤ 4 from Nat.le_trans zfl (by have := QL.out; omega))
    clear hM hm hce hcel hdat
    refine zv [false, false, false, false, false, false, false, false, false, true, true, false] (fun w' => w'.cell? ⟨p, 0, none⟩ = some (.map (some ma)) ∧ w'.rangeAt qx 0 (zj e.id) ∧ qR w' ma M) (by kernel_rfl) (by kernel_rfl) ?_ (fun K hK => ?_)
    ·exact ⟨SN.out.cells.1, RND.out, HM2.out⟩
    generalize wn.drew = wm at *
    obtain ⟨v8, w8, b1, b2, b3, -, b5⟩ := xj (P := Tryz.prog) wm w4.heap.size 23 23 34 3 56 _ zgD zhO rfl (by decide) ROWN.out [.int .u32 e.tx.ver, .slice ia e.tx.ins.length ic, .slice oa e.tx.outs.length oc] rfl (JN rfl rfl rfl) (by have := GL4.out; omega) (by have := GL4.out; unfold maxLen; omega) F4N.out.size
    obtain ⟨va8, vc8, hv8⟩ := b2.slice.arg.form
    subst hv8
    have B1 := Hd b1
    have B2 := Hd b2
    have B3 := Hd b3
    have B5 := Hd b5
    clear b1 b2 b3 b5
    have TNO := Hd (show ∀ j, (Value.slice ta (vu (Q n) (yM (Q n) x) k).length tc).ownBlock = some j → w4.heap.size ≤ j ∧ j < qx from fun j hj => by have := ROW.out.lt j hj; omega)
    have W8Z := Hd (show qx < w8.heap.size from by have := B3.out.size; have := ZND.out; omega)
    have W0S := Hd (show w0.heap.size ≤ w4.heap.size from H4.out.fr.size)
    have S8 := Hd (show yz w0 w8 p ma ms (vq R n v') X1 C (qU Q n (jJ (Q n) (yM (Q n) x) k)) from SN.out.frV B3.out (fun j hj e => by have h1 := (TNO.out j e).1; have h2 := (SBL.out v' VO.out j hj).1; have := WLT.out; have := Z4.out; omega) (fun j e => by have := (TNO.out j e).1; have := W0S.out; omega) (fun j e => X1N.out j (TNO.out j e).1) (fun _ _ h => h) SN.out.sub)
    have ct := zjN S8.out HN.out EMS.out
    rw [Yq, xh, ← CUT.out.1] at ct
    simp only [zhh, zg2] at ct
    have CT := Hd ct
    have RN8 := Hd (zb RND.out B3.out (fun e => by have := (TNO.out _ e).2; omega))
    have HM8 := Hd (HM2.out.keep B3.out (fun e => by have h1 := (TNO.out _ e).1; have h2 := (SBL.out v' VO.out ma (.inr (.inl rfl))).1; have := WLT.out; have := Z4.out; omega))
    have MI8 := Hd (MIN.out.keep B3.out (fun e => by have h1 := (TNO.out _ e).1; have := HMI4.out.lt; omega))
    have F48 := Hd (show Fr (Xf p ma ms (R n)) w4 w8 from F4N.out.trans B3.out (fun j hj e => by have := (TNO.out j e).1; omega))
    clear ct
    repeat (first | ((first | with_reducible refine zx ?_ | ((with_reducible refine zu ?_ ?_); (focus rfl))); apply Exists.intro; refine ⟨?_, ?_⟩; (focus (first | exact zD (ty := 41) rfl (fun w h => h.2.1) uH rH (by rw [EL.out]; exact zr) | exact fun w' _ => y4 (t := 110) rfl rfl vG (jD _ EOK.out) (vH _ _) SKL2.out | exact fun w' h => zN (t := 113) rfl rfl rfl (LK2.out w' h.2.2) | (intro w' hS; obtain ⟨s1, s2, s3⟩ := hS; go_simp; (try with_reducible rfl); done))); try simp only [Act.put, pA, pB, pC]) | ((first | ((with_reducible refine zg (c := false) ?_ ?_ ?_); (focus rfl); (focus rfl)) | ((with_reducible refine zg (c := true) ?_ ?_ ?_); (focus rfl); (focus rfl)) | ((with_reducible refine zt ?_ ?_); (focus rfl))); try simp only [Act.put, pA, pB, pC]))
    (first | with_reducible refine zU (fun K' hK' => ?_) | ((with_reducible refine zK ?_ (fun K' hK' => ?_)); (focus rfl)))
    refine yB (zZ (t := 23) (cs := [.int .u32 e.tx.ver, .slice ia e.tx.ins.length ic, .slice oa e.tx.outs.length oc]) rfl rfl zgD zgF rfl (by decide) (by decide) rfl) ?_
    have FB := Hd ((Fr.refl No wm).alloc (.cells #[.int .u32 e.tx.ver, .slice ia e.tx.ins.length ic, .slice oa e.tx.outs.length oc] 34))
    refine hK'.out _ _ ?_ (fun hS => ?_)
    ·exact ⟨FB.out.cell SN.out.cells.1 id, zb RND.out FB.out id, HM2.out.keep FB.out id⟩
    try simp only [Act.put, pA, pB, pC]
    (first | with_reducible refine zU (fun K' hK' => ?_) | ((with_reducible refine zK ?_ (fun K' hK' => ?_)); (focus rfl)))
    refine xU rfl rfl rfl B1.out ?_
    refine hK'.out _ _ ?_ (fun hS => ?_)
    ·exact ⟨S8.out.cells.1, RN8.out, HM8.out⟩
    try simp only [Act.put, pA, pB, pC]
    repeat (first | ((first | with_reducible refine zx ?_ | ((with_reducible refine zu ?_ ?_); (focus rfl))); apply Exists.intro; refine ⟨?_, ?_⟩; (focus (first | (intro w' hS; obtain _ := hS; go_simp; (try with_reducible rfl); done))); try simp only [Act.put, pA, pB, pC]) | ((first | ((with_reducible refine zg (c := false) ?_ ?_ ?_); (focus rfl); (focus rfl)) | ((with_reducible refine zg (c := true) ?_ ?_ ?_); (focus rfl); (focus rfl)) | ((with_reducible refine zt ?_ ?_); (focus rfl))); try simp only [Act.put, pA, pB, pC]))
    refine zM (hK.out _ _ ?_)
    have K0 := tru
    have K1 := tru
    have K2 := tru
    go_wp2_with (first | ((with_reducible refine zn ?_); have mk := K0.out; refine zd rfl (zf (ty := 41) rfl rfl RN8.out uH rH (by rw [EL.out]; exact zr)) ?_; go_frame) | ((with_reducible refine zn ?_); have mk := K1.out; refine zd rfl (y4 (t := 110) rfl rfl vG (jD _ EOK.out) (vH _ _) SKL2.out) ?_; go_frame) | (clear K2; go_at_call 44; refine CT.out.mono ?_; rintro e' w9 ⟨rfl, f9, v9, hv9, s9⟩; have F9 := Hd f9; have V9 := Hd hv9; have S9 := Hd s9; clear f9 hv9 s9; go_frame))
    have NXT := Hd (show zcn w0 w4 p ma ms R X1 C Q n (yM (Q n) x) bi MI (k + 1) (.slice va8 ((vu (Q n) (yM (Q n) x) k).length + 1) vc8) w9 from by
     refine ⟨v9, S9.out, fun j hj => VO.out j (V9.out j hj), ?_, F48.out.trans F9.out (fun j _ e => ?_), MI8.out.keep F9.out (fun e => ?_)⟩
     ·rw [GNL.out, GNX.out]
      refine zl B2.out F9.out (fun j hj e => ?_)
      have h1 : w4.heap.size ≤ j := by
       rcases B5.out j hj with h | h
       ·exact (TNO.out j h).1
       ·have := F4N.out.size; omega
      have h2 := (SBL.out v' VO.out j (by have := jE (p := p) (ma := ma) (ms := ms) (R := vq R n v') HN.out j (by rw [Yq]; exact e); exact this)).1
      have := WLT.out
      have := Z4.out
      omega
     ·rcases e with e | e | e | e
      ·exact .inl e
      ·exact .inr (.inl e)
      ·exact .inr (.inr (.inl e))
      ·exact .inr (.inr (.inr (VO.out j e)))
     ·have h2 := (SBL.out v' VO.out bi (by have := jE (p := p) (ma := ma) (ms := ms) (R := vq R n v') HN.out bi (by rw [Yq]; exact e); exact this)).1
      have := HBI.out
      have := ZE.out
      omega)
    go_roundw
    case rel => exact ⟨k + 1, by go_num, by omega, NXT.out⟩
    case measure => simp [intOf]; omega
   ·rw [if_neg hw] at LI
    have NX := Hd (show zcn w0 w4 p ma ms R X1 C Q n (yM (Q n) x) bi MI (k + 1) (.slice ta (vu (Q n) (yM (Q n) x) k).length tc) (wr.alloc (.cells (zj e.id).toArray 41)) from by
     have := zdY HX.out hw
     unfold zcn
     rw [this.1, this.2]
     exact TKA.out)
    clear hw
    have K0 := tru
    have K1 := tru
    have K2 := tru
    have K3 := tru
    go_wp2_with (first | ((with_reducible refine zn ?_); have mk := K0.out; refine zd rfl (zf (ty := 41) rfl rfl R1.out uH rH (by rw [EL.out]; exact zr)) ?_; go_frame) | ((with_reducible refine zA ?_); have mk := K1.out; refine zq rfl (zm (w := wr) (ty := 41) (cs := zj e.id) rfl rfl rfl (by rw [EL.out]; rfl) (by rw [EL.out]; exact zr) zV) ?_; go_frame) | ((with_reducible refine zn ?_); have mk := K2.out; refine zd rfl (zf (ty := 41) rfl rfl RN.out uH rH (by rw [EL.out]; exact zr)) ?_; go_frame) | ((with_reducible refine zn ?_); have mk := K3.out; refine zd rfl (zN (t := 120) rfl rfl rfl LI.out) ?_; go_frame))
    go_roundw
    case rel => exact ⟨k + 1, by go_num, by omega, NX.out⟩
    case measure => simp [intOf]; omega
  ·have hke : k = (Q n).length := by omega
   have i1 : ¬ (k : Int) < ((Q n).length : Int) := by omega
   have GA := Hd (show vu (Q n) (yM (Q n) x) k = yC (Q n) x from by rw [hke, zfn]; rfl)
   have SA := Hd (show jJ (Q n) (yM (Q n) x) k = vn (Q n) x from by rw [hke, zfd]; rfl)
   clear hke
   go_wp2_with fail
   go_ret2
   refine ⟨_, rfl, F4.out.of0.trans FR.out (fun _ _ e => e), ?_, v', VO.out, ?_⟩
   ·rw [← GA.out]
    exact yU ROW.out (by have := F4.out.size; omega)
   ·rw [← SA.out]
    exact ST.out.frV (Fr.refl No _) (fun _ _ => id) (fun _ h => h.elim) (fun _ h => h.elim) (fun j _ e => XX1.out j e) (fun j hj => (SBL.out v' VO.out j hj).2)
end
end Go.Proofs.YtdkkjchclkjleaaGreatDoor
