/- stem: free. -/
import Derived.Test.YtdkkjchclkjleaaGreatDoorSG35
import Derived.Test.YtdkkjchclkjleaaGreatDoorSG39
import Derived.Test.YtdkkjchclkjleaaGreatDoorSG13
set_option linter.unusedVariables false
set_option linter.unusedSimpArgs false
set_option linter.unnecessarySimpa false
set_option linter.all false
namespace Go.Proofs.YtdkkjchclkjleaaGreatDoor
open Go Go.RowKit Go.Maps Go.MapKept
section
variable {w0 w w0p w0c : World} {ps ma ms pp mp mq g N pc : Nat} {R : Nat → Value} {X Y VG VC : Nat → Prop} {C : Nat → zi → List Value} {CP : zi → List Value} {Q : StQ} {L : List z7} {S : List zy} {bs : List xt} {I : List zi}
set_option maxRecDepth 20000 in
set_option maxHeartbeats 8000000 in
theorem zjI (h : yz w0 w ps ma ms R X C Q) (hp : yf w0p w pp mp mq g VG Y CP L N) (hc : Cn w0c w pc VC S bs I) {n : Nat} (hn : n < 65) {x : zi} (hx : zQ x) :
  Calls Tryz.prog 39 #[.pointer (some ⟨ps, 0, none⟩), .pointer (some ⟨pc, 0, none⟩), .pointer (some ⟨pp, 0, none⟩), .agg (skC (n, x)).toArray] w fun e w' => e = .returned (.int .i64 (vD I L (Q n) x)) ∧ Fr No w w' := by
 obtain ⟨dH, uH, rH⟩ := yj
 obtain ⟨dS, uS, rS⟩ := zdN
 have zT := vM
 have i65 : (n : Int) < 65 := by omega
 have i0 : (0 : Int) ≤ (n : Int) := by omega
 have HN := Hd hn
 have HH := Hd h
 have XL := Hd (zE hx)
 have SL := Hd (Jd (k := ((n : Int), x)) hx)
 have F1 := Hd ((Fr.refl No w).alloc (.cells (skC (n, x)).toArray 110))
 have RK := Hd (XS w n x)
 have HFE := Hd (fun w' (f : Fr No w w') => zj5 (hp.fr0 f) hx)
 have HDN := Hd (fun w' (f : Fr No w w') => za7 (hc.fr0 f) hx)
 obtain ⟨cs, hcs⟩ : ∃ cs, YB C Q n x = cs := ⟨_, rfl⟩
 have hc3 : cs.length = 3 ∧ ∀ v ∈ cs, v.oneCell' = true := by
  rw [← hcs]
  obtain ⟨v, ia, il, ic, oa, oc, e, -⟩ := zbt h hn x
  rw [e]
  exact ⟨rfl, JN rfl rfl rfl⟩
 have CL3 := Hd hc3.1
 have CO3 := Hd hc3.2
 obtain ⟨M, hM, hm⟩ := h.am
 have HM := Hd (fun w' (f : Fr No w w') => hM.keep f id)
 have MQ := Hd (show vC Q n x = decide (x ∈ yc (Q n)) from by
  unfold vC
  rw [Int.toNat_natCast]
  by_cases hx : x ∈ yc (Q n)
  ·simp [hx, i0, i65]
  ·simp [hx])
 have LK0 := Hd (show ∀ w', qR w' ma M → (Instr.lookup 113 (.map (some ma)) (.agg (skC (n, x)).toArray) true).run Tryz.prog w' = .ok (.tuple #[.agg cs.toArray, .bool (decide (x ∈ yc (Q n)))]) w' from fun w' h' => by
  have := Zh (w := w') (Qz hn) hx h' hm true
  rw [hcs, MQ.out] at this
  simpa using this)
 obtain ⟨ra, rc, hR⟩ := h.row_form hn
 have CPN := Hd (show w.cell? ⟨ps, 1 + n, none⟩ = some (.slice ra (Q n).length rc) from by rw [← hR, Nat.add_comm]; exact h.cells.2.2 n hn)
 clear h hp hc hn hx hM hm hcs hc3 hR
 by_cases hmine : x ∈ yc (Q n)
 ·have FE0 := Hd (show vD I L (Q n) x = 10 from by unfold vD; rw [if_pos (.inl hmine)])
  have LK := LK0
  rw [decide_eq_true hmine] at LK
  clear hmine LK0
  go_enter Tryz.func39, Tryz.ntmps39
  go_wp2_with fail
  generalize hq0 : w.heap.size = q0 at *
  generalize hwa : w.alloc (.cells (skC (n, x)).toArray 110) = wa at *
  clear hwa
  have HD := Hd (HH.out.fr0 F1.out.drew)
  have RD := Hd (zb RK.out (Fr.refl No wa).drew id)
  have FDD := Hd F1.out.drew
  have HMD := Hd (HM.out wa.drew F1.out.drew)
  refine zv [false, false, false, false, false, false, false, false, false, true, true, false] (fun w' => w'.cell? ⟨ps, 0, none⟩ = some (.map (some ma)) ∧ w'.rangeAt q0 0 (skC (n, x)) ∧ qR w' ma M) (by kernel_rfl) (by kernel_rfl) ?_ (fun K hK => ?_)
  ·exact ⟨HD.out.cells.1, RD.out, HMD.out⟩
  generalize wa.drew = wd at *
  repeat (first | ((first | with_reducible refine zx ?_ | ((with_reducible refine zu ?_ ?_); (focus rfl))); apply Exists.intro; refine ⟨?_, ?_⟩; (focus (first | exact zD (ty := 110) rfl (fun w h => h.2.1) uS rS (by rw [SL.out]; exact jh) | exact fun w' h => zN (t := 113) rfl rfl rfl (LK.out w' h.2.2) | (intro w' hS; obtain ⟨s1, s2, s3⟩ := hS; go_simp; (try with_reducible rfl); done))); try simp only [Act.put, pA, pB, pC]) | ((first | ((with_reducible refine zg (c := false) ?_ ?_ ?_); (focus rfl); (focus rfl)) | ((with_reducible refine zg (c := true) ?_ ?_ ?_); (focus rfl); (focus rfl)) | ((with_reducible refine zt ?_ ?_); (focus rfl))); try simp only [Act.put, pA, pB, pC]))
  (first | with_reducible refine zU (fun K' hK' => ?_) | ((with_reducible refine zK ?_ (fun K' hK' => ?_)); (focus rfl)))
  refine yB (yZ rfl (vM _)) ?_
  refine hK'.out _ _ ?_ (fun hS => ?_)
  ·exact ⟨((Fr.refl No wd).alloc _).cell HD.out.cells.1 id, zb RD.out ((Fr.refl No wd).alloc _) id, HMD.out.keep ((Fr.refl No wd).alloc _) id⟩
  try simp only [Act.put, pA, pB, pC]
  (first | with_reducible refine zU (fun K' hK' => ?_) | ((with_reducible refine zK ?_ (fun K' hK' => ?_)); (focus rfl)))
  refine xb (zm (w := wd) (ty := 34) (cs := cs) rfl rfl rfl (by rw [CL3.out]; rfl) (by rw [CL3.out]; exact zR) CO3.out) ?_
  refine hK'.out _ _ ?_ (fun hS => ?_)
  ·exact ⟨((Fr.refl No wd).alloc _).cell HD.out.cells.1 id, zb RD.out ((Fr.refl No wd).alloc _) id, HMD.out.keep ((Fr.refl No wd).alloc _) id⟩
  try simp only [Act.put]
  repeat (first | ((first | with_reducible refine zx ?_ | ((with_reducible refine zu ?_ ?_); (focus rfl))); apply Exists.intro; refine ⟨?_, ?_⟩; (focus (first | (intro w' hS; obtain _ := hS; go_simp; (try with_reducible rfl); done))); try simp only [Act.put, pA, pB, pC]) | ((first | ((with_reducible refine zg (c := false) ?_ ?_ ?_); (focus rfl); (focus rfl)) | ((with_reducible refine zg (c := true) ?_ ?_ ?_); (focus rfl); (focus rfl)) | ((with_reducible refine zt ?_ ?_); (focus rfl))); try simp only [Act.put, pA, pB, pC]))
  refine zM (hK.out _ _ ?_)
  have FE := Hd (FDD.out.alloc (.cells cs.toArray 34))
  have RE := Hd (zb RD.out ((Fr.refl No wd).alloc (.cells cs.toArray 34)) id)
  have RE1 := Hd (YE RE.out).2
  generalize wd.alloc (.cells cs.toArray 34) = we at *
  have K0 := tru
  have K1 := tru
  go_wp2_with (first | ((with_reducible refine zn ?_); have mk := K0.out; refine zd rfl (zf (ty := 41) rfl rfl RE1.out uH rH (by rw [XL.out]; exact zr)) ?_; go_frame) | (clear K1; go_at_call 73; refine (HFE.out we FE.out).mono ?_; rintro e w3 ⟨f, rfl, f3⟩; have F3 := Hd (FE.out.trans0 f3); clear f3; go_frame))
  go_ret
  exact ⟨by rw [FE0.out]; rfl, F3.out⟩
 ·have LK := LK0
  rw [decide_eq_false hmine] at LK
  have NM := Hd hmine
  clear hmine LK0
  by_cases hthere : x ∈ xD L
  ·have FE0 := Hd (show vD I L (Q n) x = 10 from by unfold vD; rw [if_pos (.inr hthere)])
   rw [decide_eq_true hthere] at HFE
   clear hthere
   go_enter Tryz.func39, Tryz.ntmps39
   go_wp2_with fail
   generalize hq0 : w.heap.size = q0 at *
   generalize hwa : w.alloc (.cells (skC (n, x)).toArray 110) = wa at *
   clear hwa
   have HD := Hd (HH.out.fr0 F1.out.drew)
   have RD := Hd (zb RK.out (Fr.refl No wa).drew id)
   have FDD := Hd F1.out.drew
   have HMD := Hd (HM.out wa.drew F1.out.drew)
   refine zv [false, false, false, false, false, false, false, false, false, true, true, false] (fun w' => w'.cell? ⟨ps, 0, none⟩ = some (.map (some ma)) ∧ w'.rangeAt q0 0 (skC (n, x)) ∧ qR w' ma M) (by kernel_rfl) (by kernel_rfl) ?_ (fun K hK => ?_)
   ·exact ⟨HD.out.cells.1, RD.out, HMD.out⟩
   generalize wa.drew = wd at *
   repeat (first | ((first | with_reducible refine zx ?_ | ((with_reducible refine zu ?_ ?_); (focus rfl))); apply Exists.intro; refine ⟨?_, ?_⟩; (focus (first | exact zD (ty := 110) rfl (fun w h => h.2.1) uS rS (by rw [SL.out]; exact jh) | exact fun w' h => zN (t := 113) rfl rfl rfl (LK.out w' h.2.2) | (intro w' hS; obtain ⟨s1, s2, s3⟩ := hS; go_simp; (try with_reducible rfl); done))); try simp only [Act.put, pA, pB, pC]) | ((first | ((with_reducible refine zg (c := false) ?_ ?_ ?_); (focus rfl); (focus rfl)) | ((with_reducible refine zg (c := true) ?_ ?_ ?_); (focus rfl); (focus rfl)) | ((with_reducible refine zt ?_ ?_); (focus rfl))); try simp only [Act.put, pA, pB, pC]))
   (first | with_reducible refine zU (fun K' hK' => ?_) | ((with_reducible refine zK ?_ (fun K' hK' => ?_)); (focus rfl)))
   refine yB (yZ rfl (vM _)) ?_
   refine hK'.out _ _ ?_ (fun hS => ?_)
   ·exact ⟨((Fr.refl No wd).alloc _).cell HD.out.cells.1 id, zb RD.out ((Fr.refl No wd).alloc _) id, HMD.out.keep ((Fr.refl No wd).alloc _) id⟩
   try simp only [Act.put, pA, pB, pC]
   (first | with_reducible refine zU (fun K' hK' => ?_) | ((with_reducible refine zK ?_ (fun K' hK' => ?_)); (focus rfl)))
   refine xb (zm (w := wd) (ty := 34) (cs := cs) rfl rfl rfl (by rw [CL3.out]; rfl) (by rw [CL3.out]; exact zR) CO3.out) ?_
   refine hK'.out _ _ ?_ (fun hS => ?_)
   ·exact ⟨((Fr.refl No wd).alloc _).cell HD.out.cells.1 id, zb RD.out ((Fr.refl No wd).alloc _) id, HMD.out.keep ((Fr.refl No wd).alloc _) id⟩
   try simp only [Act.put]
   repeat (first | ((first | with_reducible refine zx ?_ | ((with_reducible refine zu ?_ ?_); (focus rfl))); apply Exists.intro; refine ⟨?_, ?_⟩; (focus (first | (intro w' hS; obtain _ := hS; go_simp; (try with_reducible rfl); done))); try simp only [Act.put, pA, pB, pC]) | ((first | ((with_reducible refine zg (c := false) ?_ ?_ ?_); (focus rfl); (focus rfl)) | ((with_reducible refine zg (c := true) ?_ ?_ ?_); (focus rfl); (focus rfl)) | ((with_reducible refine zt ?_ ?_); (focus rfl))); try simp only [Act.put, pA, pB, pC]))
   refine zM (hK.out _ _ ?_)
   have FE := Hd (FDD.out.alloc (.cells cs.toArray 34))
   have RE := Hd (zb RD.out ((Fr.refl No wd).alloc (.cells cs.toArray 34)) id)
   have RE1 := Hd (YE RE.out).2
   generalize wd.alloc (.cells cs.toArray 34) = we at *
   have K0 := tru
   have K1 := tru
   go_wp2_with (first | ((with_reducible refine zn ?_); have mk := K0.out; refine zd rfl (zf (ty := 41) rfl rfl RE1.out uH rH (by rw [XL.out]; exact zr)) ?_; go_frame) | (clear K1; go_at_call 73; refine (HFE.out we FE.out).mono ?_; rintro e w3 ⟨f, rfl, f3⟩; have F3 := Hd (FE.out.trans0 f3); clear f3; go_frame))
   go_ret
   exact ⟨by rw [FE0.out]; rfl, F3.out⟩
  ·have NT := Hd hthere
   rw [decide_eq_false hthere] at HFE
   clear hthere
   have FE1 := Hd (show vD I L (Q n) x = if x ∈ I then 19 else if 4 ≤ (Q n).length then 18 else 0 from by unfold vD; rw [if_neg (fun h => h.elim NM.out NT.out)])
   by_cases hdone : x ∈ I
   ·have FE0 := Hd (show vD I L (Q n) x = 19 from by rw [FE1.out, if_pos hdone])
    rw [decide_eq_true hdone] at HDN
    clear hdone
    go_enter Tryz.func39, Tryz.ntmps39
    go_wp2_with fail
    generalize hq0 : w.heap.size = q0 at *
    generalize hwa : w.alloc (.cells (skC (n, x)).toArray 110) = wa at *
    clear hwa
    have HD := Hd (HH.out.fr0 F1.out.drew)
    have RD := Hd (zb RK.out (Fr.refl No wa).drew id)
    have FDD := Hd F1.out.drew
    have HMD := Hd (HM.out wa.drew F1.out.drew)
    refine zv [false, false, false, false, false, false, false, false, false, true, true, false] (fun w' => w'.cell? ⟨ps, 0, none⟩ = some (.map (some ma)) ∧ w'.rangeAt q0 0 (skC (n, x)) ∧ qR w' ma M) (by kernel_rfl) (by kernel_rfl) ?_ (fun K hK => ?_)
    ·exact ⟨HD.out.cells.1, RD.out, HMD.out⟩
    generalize wa.drew = wd at *
    repeat (first | ((first | with_reducible refine zx ?_ | ((with_reducible refine zu ?_ ?_); (focus rfl))); apply Exists.intro; refine ⟨?_, ?_⟩; (focus (first | exact zD (ty := 110) rfl (fun w h => h.2.1) uS rS (by rw [SL.out]; exact jh) | exact fun w' h => zN (t := 113) rfl rfl rfl (LK.out w' h.2.2) | (intro w' hS; obtain ⟨s1, s2, s3⟩ := hS; go_simp; (try with_reducible rfl); done))); try simp only [Act.put, pA, pB, pC]) | ((first | ((with_reducible refine zg (c := false) ?_ ?_ ?_); (focus rfl); (focus rfl)) | ((with_reducible refine zg (c := true) ?_ ?_ ?_); (focus rfl); (focus rfl)) | ((with_reducible refine zt ?_ ?_); (focus rfl))); try simp only [Act.put, pA, pB, pC]))
    (first | with_reducible refine zU (fun K' hK' => ?_) | ((with_reducible refine zK ?_ (fun K' hK' => ?_)); (focus rfl)))
    refine yB (yZ rfl (vM _)) ?_
    refine hK'.out _ _ ?_ (fun hS => ?_)
    ·exact ⟨((Fr.refl No wd).alloc _).cell HD.out.cells.1 id, zb RD.out ((Fr.refl No wd).alloc _) id, HMD.out.keep ((Fr.refl No wd).alloc _) id⟩
    try simp only [Act.put, pA, pB, pC]
    (first | with_reducible refine zU (fun K' hK' => ?_) | ((with_reducible refine zK ?_ (fun K' hK' => ?_)); (focus rfl)))
    refine xb (zm (w := wd) (ty := 34) (cs := cs) rfl rfl rfl (by rw [CL3.out]; rfl) (by rw [CL3.out]; exact zR) CO3.out) ?_
    refine hK'.out _ _ ?_ (fun hS => ?_)
    ·exact ⟨((Fr.refl No wd).alloc _).cell HD.out.cells.1 id, zb RD.out ((Fr.refl No wd).alloc _) id, HMD.out.keep ((Fr.refl No wd).alloc _) id⟩
    try simp only [Act.put]
    repeat (first | ((first | with_reducible refine zx ?_ | ((with_reducible refine zu ?_ ?_); (focus rfl))); apply Exists.intro; refine ⟨?_, ?_⟩; (focus (first | (intro w' hS; obtain _ := hS; go_simp; (try with_reducible rfl); done))); try simp only [Act.put, pA, pB, pC]) | ((first | ((with_reducible refine zg (c := false) ?_ ?_ ?_); (focus rfl); (focus rfl)) | ((with_reducible refine zg (c := true) ?_ ?_ ?_); (focus rfl); (focus rfl)) | ((with_reducible refine zt ?_ ?_); (focus rfl))); try simp only [Act.put, pA, pB, pC]))
    refine zM (hK.out _ _ ?_)
    have FE := Hd (FDD.out.alloc (.cells cs.toArray 34))
    have RE := Hd (zb RD.out ((Fr.refl No wd).alloc (.cells cs.toArray 34)) id)
    have RE1 := Hd (YE RE.out).2
    generalize wd.alloc (.cells cs.toArray 34) = we at *
    have K0 := tru
    have K1 := tru
    have K2 := tru
    have K3 := tru
    go_wp2_with (first | ((with_reducible refine zn ?_); have mk := K0.out; refine zd rfl (zf (ty := 41) rfl rfl RE1.out uH rH (by rw [XL.out]; exact zr)) ?_; go_frame) | (clear K1; go_at_call 73; refine (HFE.out we FE.out).mono ?_; rintro e w3 ⟨f, rfl, f3⟩; have F3 := Hd (FE.out.trans0 f3); have R3 := Hd (zb RE1.out f3 id); clear f3; go_frame) | ((with_reducible refine zn ?_); have mk := K2.out; refine zd rfl (zf (ty := 41) rfl rfl R3.out uH rH (by rw [XL.out]; exact zr)) ?_; go_frame) | (clear K3; go_at_call 74; refine (HDN.out w3 F3.out).mono ?_; rintro e w4 ⟨rfl, f4⟩; have F4 := Hd (F3.out.trans0 f4); clear f4; go_frame))
    go_ret
    exact ⟨by rw [FE0.out]; rfl, F4.out⟩
   ·have FE2 := Hd (show vD I L (Q n) x = if 4 ≤ (Q n).length then 18 else 0 from by rw [FE1.out, if_neg hdone])
    rw [decide_eq_false hdone] at HDN
    clear hdone
    go_enter Tryz.func39, Tryz.ntmps39
    go_wp2_with fail
    generalize hq0 : w.heap.size = q0 at *
    generalize hwa : w.alloc (.cells (skC (n, x)).toArray 110) = wa at *
    clear hwa
    have HD := Hd (HH.out.fr0 F1.out.drew)
    have RD := Hd (zb RK.out (Fr.refl No wa).drew id)
    have FDD := Hd F1.out.drew
    have HMD := Hd (HM.out wa.drew F1.out.drew)
    refine zv [false, false, false, false, false, false, false, false, false, true, true, false] (fun w' => w'.cell? ⟨ps, 0, none⟩ = some (.map (some ma)) ∧ w'.rangeAt q0 0 (skC (n, x)) ∧ qR w' ma M) (by kernel_rfl) (by kernel_rfl) ?_ (fun K hK => ?_)
    ·exact ⟨HD.out.cells.1, RD.out, HMD.out⟩
    generalize wa.drew = wd at *
    repeat (first | ((first | with_reducible refine zx ?_ | ((with_reducible refine zu ?_ ?_); (focus rfl))); apply Exists.intro; refine ⟨?_, ?_⟩; (focus (first | exact zD (ty := 110) rfl (fun w h => h.2.1) uS rS (by rw [SL.out]; exact jh) | exact fun w' h => zN (t := 113) rfl rfl rfl (LK.out w' h.2.2) | (intro w' hS; obtain ⟨s1, s2, s3⟩ := hS; go_simp; (try with_reducible rfl); done))); try simp only [Act.put, pA, pB, pC]) | ((first | ((with_reducible refine zg (c := false) ?_ ?_ ?_); (focus rfl); (focus rfl)) | ((with_reducible refine zg (c := true) ?_ ?_ ?_); (focus rfl); (focus rfl)) | ((with_reducible refine zt ?_ ?_); (focus rfl))); try simp only [Act.put, pA, pB, pC]))
    (first | with_reducible refine zU (fun K' hK' => ?_) | ((with_reducible refine zK ?_ (fun K' hK' => ?_)); (focus rfl)))
    refine yB (yZ rfl (vM _)) ?_
    refine hK'.out _ _ ?_ (fun hS => ?_)
    ·exact ⟨((Fr.refl No wd).alloc _).cell HD.out.cells.1 id, zb RD.out ((Fr.refl No wd).alloc _) id, HMD.out.keep ((Fr.refl No wd).alloc _) id⟩
    try simp only [Act.put, pA, pB, pC]
    (first | with_reducible refine zU (fun K' hK' => ?_) | ((with_reducible refine zK ?_ (fun K' hK' => ?_)); (focus rfl)))
    refine xb (zm (w := wd) (ty := 34) (cs := cs) rfl rfl rfl (by rw [CL3.out]; rfl) (by rw [CL3.out]; exact zR) CO3.out) ?_
    refine hK'.out _ _ ?_ (fun hS => ?_)
    ·exact ⟨((Fr.refl No wd).alloc _).cell HD.out.cells.1 id, zb RD.out ((Fr.refl No wd).alloc _) id, HMD.out.keep ((Fr.refl No wd).alloc _) id⟩
    try simp only [Act.put]
    repeat (first | ((first | with_reducible refine zx ?_ | ((with_reducible refine zu ?_ ?_); (focus rfl))); apply Exists.intro; refine ⟨?_, ?_⟩; (focus (first | (intro w' hS; obtain _ := hS; go_simp; (try with_reducible rfl); done))); try simp only [Act.put, pA, pB, pC]) | ((first | ((with_reducible refine zg (c := false) ?_ ?_ ?_); (focus rfl); (focus rfl)) | ((with_reducible refine zg (c := true) ?_ ?_ ?_); (focus rfl); (focus rfl)) | ((with_reducible refine zt ?_ ?_); (focus rfl))); try simp only [Act.put, pA, pB, pC]))
    refine zM (hK.out _ _ ?_)
    have FE := Hd (FDD.out.alloc (.cells cs.toArray 34))
    have RE := Hd (zb RD.out ((Fr.refl No wd).alloc (.cells cs.toArray 34)) id)
    have RE1 := Hd (YE RE.out).2
    generalize wd.alloc (.cells cs.toArray 34) = we at *
    have K0 := tru
    have K1 := tru
    have K2 := tru
    have K3 := tru
    go_wp2_with (first | ((with_reducible refine zn ?_); have mk := K0.out; refine zd rfl (zf (ty := 41) rfl rfl RE1.out uH rH (by rw [XL.out]; exact zr)) ?_; go_frame) | (clear K1; go_at_call 73; refine (HFE.out we FE.out).mono ?_; rintro e w3 ⟨f, rfl, f3⟩; have F3 := Hd (FE.out.trans0 f3); have R3 := Hd (zb RE.out f3 id); have R31 := Hd (YE R3.out).2; clear f3; go_frame) | ((with_reducible refine zn ?_); have mk := K2.out; refine zd rfl (zf (ty := 41) rfl rfl R31.out uH rH (by rw [XL.out]; exact zr)) ?_; go_frame) | (clear K3; go_at_call 74; refine (HDN.out w3 F3.out).mono ?_; rintro e w4 ⟨rfl, f4⟩; have F4 := Hd (F3.out.trans0 f4); have R4 := Hd (zb R3.out f4 id); clear f4; go_frame))
    have FD4 := Hd F4.out.drew
    have K4 := Hd (YE (zb R4.out (Fr.refl No w4).drew id)).1
    refine zv [false, false, false, false, false, false, false, false, false, false] (fun w' => w'.cell? ⟨ps, 1 + n, none⟩ = some (.slice ra (Q n).length rc) ∧ w'.cell? ⟨q0, 0, none⟩ = some (.int .i64 n)) (by kernel_rfl) (by kernel_rfl) ?_ (fun K hK => ?_)
    ·exact ⟨FD4.out.cell CPN.out id, K4.out⟩
    repeat (first | ((first | with_reducible refine zx ?_ | ((with_reducible refine zu ?_ ?_); (focus rfl))); apply Exists.intro; refine ⟨?_, ?_⟩; (focus (first | (intro w' hS; obtain ⟨s1, s2⟩ := hS; go_simp; (try with_reducible rfl); done))); try simp only [Act.put, pA, pB, pC]) | ((first | ((with_reducible refine zg (c := false) ?_ ?_ ?_); (focus rfl); (focus rfl)) | ((with_reducible refine zg (c := true) ?_ ?_ ?_); (focus rfl); (focus rfl)) | ((with_reducible refine zt ?_ ?_); (focus rfl))); try simp only [Act.put, pA, pB, pC]))
    refine zM (hK.out _ _ ?_)
    by_cases h4 : 4 ≤ (Q n).length
    ·have FE0 := Hd (show vD I L (Q n) x = 18 from by rw [FE2.out, if_pos h4])
     have i4 : (4 : Int) ≤ ((Q n).length : Int) := by omega
     go_wp2_with fail
     go_ret
     exact ⟨by rw [FE0.out]; rfl, FD4.out⟩
    ·have FE0 := Hd (show vD I L (Q n) x = 0 from by rw [FE2.out, if_neg h4])
     have i4 : ¬ (4 : Int) ≤ ((Q n).length : Int) := by omega
     go_wp2_with fail
     go_ret
     exact ⟨by rw [FE0.out]; rfl, FD4.out⟩
end
end Go.Proofs.YtdkkjchclkjleaaGreatDoor
