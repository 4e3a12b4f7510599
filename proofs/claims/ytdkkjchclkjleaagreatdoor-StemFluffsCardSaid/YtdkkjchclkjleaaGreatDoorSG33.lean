/- pool: Accept. (Written by gen_accept.py.) -/
import Derived.Test.YtdkkjchclkjleaaGreatDoorSG32
import Derived.Test.YtdkkjchclkjleaaGreatDoorSG31
import Derived.Test.YtdkkjchclkjleaaGreatDoorSG24
set_option linter.unusedVariables false
set_option linter.unusedSimpArgs false
set_option linter.unnecessarySimpa false
set_option linter.all false
namespace Go.Proofs.YtdkkjchclkjleaaGreatDoor
open Go Go.RowKit Go.Maps Go.MapKept
theorem zge {L : List z7} {x : Int × Int} {ps : List zi} (h : vW L x ps ≠ 0) : qC L x ps = [] := by
 unfold vW at h
 unfold qC
 by_cases h1 : L.length < 32
 ·rw [if_pos h1] at h; exact absurd rfl h
 ·rw [if_neg h1] at h ⊢
  cases hw : Zn L ps with
  | none => rfl
  | some e =>
   rw [hw] at h
   simp only at h ⊢
   by_cases h2 : Y0 (wgt e) x < 0
   ·rw [if_pos h2] at h; exact absurd rfl h
   ·rw [if_neg h2]
theorem jg.wok {S : List zy} {I : List zi} {L : List z7} (hv : jg S I L) (hS : ∀ c ∈ S, c.ok) (hO : ∀ e ∈ L, ∀ x ∈ e.tx.outs, x.ok) : ∀ e ∈ L, WOk (wgt e) := by
 induction hv with
 | nil => simp
 | @snoc A e hA hc hl he ih =>
  intro x hx
  have hOA : ∀ e ∈ A, ∀ x ∈ e.tx.outs, x.ok := fun a ha => hO a (by simp [ha])
  rcases List.mem_append.1 hx with hx | hx
  ·exact ih hOA x hx
  ·obtain rfl := List.mem_singleton.1 hx
   obtain ⟨-, -, e3, e4⟩ := zb6 he
   have hp : ∀ y ∈ xm S A x.tx, y.ok := fun y hy => by
    obtain ⟨q, hq, rfl⟩ := List.mem_map.1 hy
    unfold xR
    split
    ·exact jT hS q
    ·exact JZ hOA q
   have h1 := Q8 (t := x.tx) hp (hO x (by simp))
   have h2 := ZL (j5 hc).1
   unfold WOk wgt
   rw [e3, e4]
   exact ⟨h1, h2.1, by omega⟩
theorem jg.ins8 {S : List zy} {I : List zi} {L : List z7} (hv : jg S I L) : ∀ e ∈ L, e.tx.ins.length ≤ 8 := fun e he => (yX.1 (j5 (hv.ent e he).1).1).2.1
theorem zis {L : List z7} (h : ∀ e ∈ L, e.tx.ins.length ≤ 8) : (L.flatMap fun e => zS e.tx).length ≤ 8 * L.length := by
 induction L with
 | nil => simp
 | cons e l ih =>
  have h1 := ih (fun x hx => h x (.tail _ hx))
  have h2 := h e (.head _)
  rw [List.flatMap_cons, List.length_append, qW, List.length_cons]
  omega
theorem zh9 {w : World} {q : Nat} {T : TypeId} {a b c d e f x y z : Value} (h : w.heap[q]? = some (.cells #[a, b, c, d, e, f] T (0, 0))) : (w.setCells q 0 [x, y, z]).heap[q]? = some (.cells #[x, y, z, d, e, f] T (0, 0)) := by
 have h1 := heap_setCell_same w q 0 _ _ x h
 have h2 := heap_setCell_same _ q 1 _ _ y h1
 have h3 := heap_setCell_same _ q 2 _ _ z h2
 simpa [World.setCells] using h3
def zcT (w0 w : World) (p ma ms g : Nat) (VG X : Nat → Prop) (S : List zy) (I : List zi) (L : List z7) (t : TxD) (now : Int) (N : Nat) (e : Ending) (w' : World) : Prop :=
 ∃ gv, e = .returned (.tuple #[gv, .int .i64 (Jl S I L t)]) ∧ (∃ VG' C', yf w0 w' p ma ms g VG' (fun j => X j ∨ VG' j) C' (JR S I L t now) (N + 1) ∧ Fr (poV p ma ms VG) w w' ∧ ∀ j, VG' j → VG j ∨ w.heap.size ≤ j) ∧
  w'.ownsRow w.heap.size 41 32 gv (Jy S I L t).length ((Jy S I L t).flatMap zj)
section
variable {w0 w : World} {p ma ms g N : Nat} {VG X : Nat → Prop} {C : zi → List Value} {L : List z7} {S : List zy} {I : List zi}
theorem zcT.bad {w' : World} {t : TxD} {now : Int} {c : Int} (h : yf w0 w p ma ms g VG X C L N) (hE : Jl S I L t = c) (hc : c ≠ 0) (f : Fr No w w') : zcT w0 w p ma ms g VG X S I L t now N (.returned (.tuple #[.slice none 0 0, .int .i64 c])) w' := by
 have hne : Jl S I L t ≠ 0 := by rw [hE]; exact hc
 have hL : JR S I L t now = L := by unfold JR; rw [if_neg hne]
 have hG : Jy S I L t = [] := by unfold Jy; rw [if_neg hne]
 refine ⟨_, by rw [hE], ⟨VG, C, ?_, f.of0, fun j hj => .inl hj⟩, by rw [hG]; exact World.ownsRow_nil _ _ _ _⟩
 rw [hL]
 exact ((h.mono (Nat.le_succ N)).frV f (fun _ _ => id) (fun _ h => h.elim) (fun _ h => h.elim) (fun j _ hj => hj.elim id (fun e => h.sub j (.inr (.inr (.inr e))))) (fun j hj => .inl (h.sub j hj)))
set_option maxRecDepth 20000 in
set_option maxHeartbeats 16000000 in
theorem zha (hg : Jx w) (h : yf w0 w p ma ms g VG X C L N) (hNN : N ≤ 800) (hX : ∀ j, X j → j < w.heap.size) (hv : jg S I L) (h32 : L.length ≤ 32) {w1 : World} {pc : Nat} {VC : Nat → Prop} {bs : List xt} (hc : Cn w1 w pc VC S bs I) (hS : ∀ c ∈ S, c.ok) {t : TxD} {cs : List Value} (ht : Kept X w (fun w => TxQ w t cs)) {now : Nat} (hnow : now < 18446744073709551616) :
  Calls Tryz.prog 16 #[.pointer (some ⟨p, 0, none⟩), .pointer (some ⟨pc, 0, none⟩), .agg cs.toArray, .int .u64 now] w (zcT w0 w p ma ms g VG X S I L t now N) := by
 obtain ⟨dT, uT, rT⟩ := vw
 obtain ⟨dH, uH, rH⟩ := yj
 obtain ⟨dE, uE, rE⟩ := zej
 obtain ⟨dW, uW, rW⟩ := Xz
 obtain ⟨dP, uP, rP⟩ := xr
 have ze := show ∀ w, (zeroValue 129).run Tryz.prog w = .ok (.agg qu.toArray) w from Xh
 have zh := y6
 have zp := jA
 obtain ⟨ia, ic, oa, oc, rfl⟩ := ht.now.form
 have f1 : Fr No w (w.alloc (.cells #[.int .u32 t.ver, .slice ia t.ins.length ic, .slice oa t.outs.length oc] 34)) := (Fr.refl No w).alloc _
 have F1 := Hd f1
 have R1 := Hd (qZ w t.ver (.slice ia t.ins.length ic) (.slice oa t.outs.length oc)).2.2.2
 have HT := Hd ht
 have HG := Hd hg
 have HH := Hd h
 have H1 := Hd (show yf w0 w p ma ms g VG (fun j => X j ∨ w.heap.size ≤ j) C L N from h.frV (Fr.refl No w) (fun _ _ => id) (fun _ h => h.elim) (fun _ h => h.elim) (fun j hj e => e.resolve_right (by omega)) (fun j hj => .inl (h.sub j hj)))
 have HC := Hd hc
 have HS := Hd hS
 have HVL := Hd hv
 have XLT := Hd hX
 have HCK := Hd (XK _ ((HT.out.same F1.out.of0).now))
 have HID := Hd (fun w' (f : Fr No w w') => Vh (HG.out.keep0 f) (HT.out w' f.of0))
 clear f1 ht hg h hc hS hv hX
 show Calls Tryz.prog 16 #[.pointer (some ⟨p, 0, none⟩), .pointer (some ⟨pc, 0, none⟩), .agg #[.int .u32 t.ver, .slice ia t.ins.length ic, .slice oa t.outs.length oc], .int .u64 now] w _
 by_cases c1 : yt t = 0
 rotate_left
 ·have LE := Hd (show Jl S I L t = yt t by unfold Jl; rw [if_pos c1])
  have je : (yt t == 0) = false := by simpa using c1
  have NE := Hd c1
  clear c1
  go_enter Tryz.func16, Tryz.ntmps16
  have K0 := tru
  have K1 := tru
  go_wp2_with (first | ((with_reducible refine zn ?_); have mk := K0.out; refine zd rfl (zf (ty := 34) rfl rfl R1.out uT rT zR) ?_; generalize hq0 : w.heap.size = q0 at *; generalize hw1 : w.alloc (.cells #[.int .u32 t.ver, .slice ia t.ins.length ic, .slice oa t.outs.length oc] 34) = wa at *; have Z1 := Hd (show q0 < wa.heap.size by rw [← hw1, ← hq0]; simp); clear hw1; go_frame) | (clear K1; go_at_call 32; refine HCK.out.mono ?_; rintro e w3 ⟨rfl, f3⟩; have F3 := Hd (F1.out.trans0 f3); have R3 := Hd (zb R1.out f3 id); have Z3 := Hd (show q0 < w3.heap.size by have := Z1.out; have := f3.size; omega); clear f3; have HI3 := Hd (HID.out _ F3.out); go_frame))
  go_ret2
  exact zcT.bad HH.out LE.out NE.out F3.out
 unfold vk at HCK
 rw [c1] at HCK
 have FM := Hd (j5 c1).1
 have CHK := Hd c1
 have IDZ := Hd (show idE t = 0 by unfold idE; rw [if_pos FM.out])
 have XOK := Hd (Jp t)
 have XL := Hd (zE XOK.out)
 by_cases c2 : xT S I L t = 0
 rotate_left
 ·have LE := Hd (show Jl S I L t = xT S I L t by unfold Jl; rw [if_neg (by simp [c1]), if_pos c2])
  have je : (xT S I L t == 0) = false := by simpa using c2
  have NE := Hd c2
  clear c1 c2
  go_enter Tryz.func16, Tryz.ntmps16
  have K0 := tru
  have K1 := tru
  have K2 := tru
  have K3 := tru
  have K4 := tru
  have K5 := tru
  have K6 := tru
  have K7 := tru
  have K8 := tru
  go_wp2_with (first | ((with_reducible refine zn ?_); have mk := K0.out; refine zd rfl (zf (ty := 34) rfl rfl R1.out uT rT zR) ?_; generalize hq0 : w.heap.size = q0 at *; generalize hw1 : w.alloc (.cells #[.int .u32 t.ver, .slice ia t.ins.length ic, .slice oa t.outs.length oc] 34) = wa at *; have Z1 := Hd (show q0 < wa.heap.size by rw [← hw1, ← hq0]; simp); clear hw1; go_frame) | (clear K1; go_at_call 32; refine HCK.out.mono ?_; rintro e w3 ⟨rfl, f3⟩; have F3 := Hd (F1.out.trans0 f3); have R3 := Hd (zb R1.out f3 id); have Z3 := Hd (show q0 < w3.heap.size by have := Z1.out; have := f3.size; omega); clear f3; have HI3 := Hd (HID.out _ F3.out); go_frame) | ((with_reducible refine zn ?_); have mk := K2.out; refine zd rfl (zf (ty := 34) rfl rfl R3.out uT rT zR) ?_; go_frame) | (clear K3; go_at_call 15; refine HI3.out.mono ?_; rintro e w4 ⟨rfl, f4⟩; rw [IDZ.out]; have F4 := Hd (F3.out.trans0 f4); have R4 := Hd (zb R3.out f4 id); have Z4 := Hd (show q0 < w4.heap.size by have := Z3.out; have := f4.size; omega); clear f4; have RH := Hd (zC w4 (zj (idH t)) 41); have FA4 := Hd ((Fr.refl No w4).alloc (.cells (zj (idH t)).toArray 41)); go_frame) | ((with_reducible refine zA ?_); have mk := K4.out; refine zq rfl (zm (w := w4) (ty := 41) (cs := zj (idH t)) rfl rfl rfl (by rw [XL.out]; rfl) (by rw [XL.out]; exact zr) zV) ?_; generalize hqh : w4.heap.size = qh at *; generalize hw5 : w4.alloc (.cells (zj (idH t)).toArray 41) = w5 at *; have Z5 := Hd (show qh < w5.heap.size by rw [← hw5, ← hqh]; simp); clear hw5; have F5 := Hd (F4.out.trans0 FA4.out); have R5 := Hd (zb R4.out FA4.out id); have HLK := Hd (zac (HG.out.keep0 F5.out) (H1.out.fr0 F5.out) (by omega) (HC.out.fr0 F5.out) HS.out (HT.out w5 F5.out.of0) CHK.out); go_frame) | ((with_reducible refine zn ?_); have mk := K5.out; refine zd rfl (zf (ty := 41) rfl rfl RH.out uH rH (by rw [XL.out]; exact zr)) ?_; go_frame) | ((with_reducible refine zn ?_); have mk := K6.out; refine zd rfl (zf (ty := 34) rfl rfl R5.out uT rT zR) ?_; go_frame) | (clear K7; go_at_call 47; refine HLK.out.mono ?_; rintro e w6 ⟨ecs, pv, rfl, f6, ho6, hz6⟩; have EO := Hd ho6.2; have EL := Hd ho6.1; clear hz6; have F6 := Hd (F5.out.trans0 f6); have R6 := Hd (zb R5.out f6 id); have RH6 := Hd (zb RH.out f6 id); have Z6 := Hd (show qh < w6.heap.size by have := Z5.out; have := f6.size; omega); clear f6 ho6; have RE := Hd (zC w6 ecs 129); have FA6 := Hd ((Fr.refl No w6).alloc (.cells ecs.toArray 129)); have BE := Hd (yn w6 (.cells ecs.toArray 129)); go_frame) | ((with_reducible refine zA ?_); have mk := K8.out; refine zq rfl (zm (w := w6) (ty := 129) (cs := ecs) rfl rfl rfl (by rw [EL.out]; rfl) (by rw [EL.out]; exact xJ) EO.out) ?_; generalize hqe : w6.heap.size = qe at *; generalize hw7 : w6.alloc (.cells ecs.toArray 129) = w7 at *; have Z7 := Hd (show qe < w7.heap.size by rw [← hw7, ← hqe]; simp); clear hw7; have F7 := Hd (F6.out.trans0 FA6.out); have R7 := Hd (zb R6.out FA6.out id); have RH7 := Hd (zb RH6.out FA6.out id); go_frame))
  go_ret2
  exact zcT.bad HH.out LE.out NE.out F7.out
 have LKZ := Hd c2
 obtain ⟨l1, l2, l3, l4, l5, l6⟩ := zcS c2
 have NIN := Hd l1
 have SPN := Hd (za0.1 l3).1
 have KIN := Hd l6
 have PLN := Hd (show (xe L t).length ≤ 8 from Nat.le_trans (zcL L t) (yX.1 FM.out).2.1)
 have POK := Hd (show ∀ y ∈ xe L t, zQ y from fun y hy => HH.out.ids y (J2 hy))
 have FOK := Hd (show WOk (vB t (xm S L t), xX t) from by
  have hp : ∀ y ∈ xm S L t, y.ok := fun y hy => by
   obtain ⟨q, hq, rfl⟩ := List.mem_map.1 hy
   unfold xR
   split
   ·exact jT HS.out q
   ·exact JZ HH.out.outs_ok q
  have h1 := Q8 (t := t) hp HT.out.now.oks.2
  have h2 := ZL FM.out
  exact ⟨h1, h2.1, by show xX t ≤ _; omega⟩)
 have AP := Hd HVL.out.apart
 have IN8 := Hd HVL.out.ins8
 have WO := Hd (HVL.out.wok HS.out HH.out.outs_ok)
 have E0 := Hd (show Jl S I L t = vW L (vB t (xm S L t), xX t) (xe L t) by unfold Jl; rw [if_neg (by simp [c1]), if_neg (by simp [c2])])
 clear l1 l2 l3 l4 l5 l6
 generalize hWX : ((vB t (xm S L t), xX t) : Int × Int) = wx at *
 by_cases c3 : vW L wx (xe L t) = 0
 rotate_left
 ·have LE := Hd (show Jl S I L t = vW L wx (xe L t) from E0.out)
  have RG := Hd (zge c3)
  have je : (vW L wx (xe L t) == 0) = false := by simpa using c3
  have NE := Hd c3
  clear c1 c2 c3
  go_enter Tryz.func16, Tryz.ntmps16
  have K0 := tru
  have K1 := tru
  have K2 := tru
  have K3 := tru
  have K4 := tru
  have K5 := tru
  have K6 := tru
  have K7 := tru
  have K8 := tru
  have K9 := tru
  have K10 := tru
  go_wp2_with (first | ((with_reducible refine zn ?_); have mk := K0.out; refine zd rfl (zf (ty := 34) rfl rfl R1.out uT rT zR) ?_; generalize hq0 : w.heap.size = q0 at *; generalize hw1 : w.alloc (.cells #[.int .u32 t.ver, .slice ia t.ins.length ic, .slice oa t.outs.length oc] 34) = wa at *; have Z1 := Hd (show q0 < wa.heap.size by rw [← hw1, ← hq0]; simp); clear hw1; go_frame) | (clear K1; go_at_call 32; refine HCK.out.mono ?_; rintro e w3 ⟨rfl, f3⟩; have F3 := Hd (F1.out.trans0 f3); have R3 := Hd (zb R1.out f3 id); have Z3 := Hd (show q0 < w3.heap.size by have := Z1.out; have := f3.size; omega); clear f3; have HI3 := Hd (HID.out _ F3.out); go_frame) | ((with_reducible refine zn ?_); have mk := K2.out; refine zd rfl (zf (ty := 34) rfl rfl R3.out uT rT zR) ?_; go_frame) | (clear K3; go_at_call 15; refine HI3.out.mono ?_; rintro e w4 ⟨rfl, f4⟩; rw [IDZ.out]; have F4 := Hd (F3.out.trans0 f4); have R4 := Hd (zb R3.out f4 id); have Z4 := Hd (show q0 < w4.heap.size by have := Z3.out; have := f4.size; omega); clear f4; have RH := Hd (zC w4 (zj (idH t)) 41); have FA4 := Hd ((Fr.refl No w4).alloc (.cells (zj (idH t)).toArray 41)); go_frame) | ((with_reducible refine zA ?_); have mk := K4.out; refine zq rfl (zm (w := w4) (ty := 41) (cs := zj (idH t)) rfl rfl rfl (by rw [XL.out]; rfl) (by rw [XL.out]; exact zr) zV) ?_; generalize hqh : w4.heap.size = qh at *; generalize hw5 : w4.alloc (.cells (zj (idH t)).toArray 41) = w5 at *; have Z5 := Hd (show qh < w5.heap.size by rw [← hw5, ← hqh]; simp); clear hw5; have F5 := Hd (F4.out.trans0 FA4.out); have R5 := Hd (zb R4.out FA4.out id); have HLK := Hd (zac (HG.out.keep0 F5.out) (H1.out.fr0 F5.out) (by omega) (HC.out.fr0 F5.out) HS.out (HT.out w5 F5.out.of0) CHK.out); go_frame) | ((with_reducible refine zn ?_); have mk := K5.out; refine zd rfl (zf (ty := 41) rfl rfl RH.out uH rH (by rw [XL.out]; exact zr)) ?_; go_frame) | ((with_reducible refine zn ?_); have mk := K6.out; refine zd rfl (zf (ty := 34) rfl rfl R5.out uT rT zR) ?_; go_frame) | (clear K7; go_at_call 47; refine HLK.out.mono ?_; rintro e w6 ⟨ecs, pv, rfl, f6, ho6, hz6⟩; have EO := Hd ho6.2; have EL := Hd ho6.1; obtain ⟨hz1, hz2⟩ := hz6 LKZ.out; have PV := Hd hz2; have EC := Hd hz1; clear hz1 hz2; rw [LKZ.out]; obtain ⟨pva, pvc, hpv⟩ := PV.out.slice.arg.form; subst hpv; have F6 := Hd (F5.out.trans0 f6); have R6 := Hd (zb R5.out f6 id); have RH6 := Hd (zb RH.out f6 id); have Z6 := Hd (show qh < w6.heap.size by have := Z5.out; have := f6.size; omega); clear f6 ho6; have RE := Hd (zC w6 ecs 129); have FA6 := Hd ((Fr.refl No w6).alloc (.cells ecs.toArray 129)); have BE := Hd (yn w6 (.cells ecs.toArray 129)); go_frame) | ((with_reducible refine zA ?_); have mk := K8.out; refine zq rfl (zm (w := w6) (ty := 129) (cs := ecs) rfl rfl rfl (by rw [EL.out]; rfl) (by rw [EL.out]; exact xJ) EO.out) ?_; generalize hqe : w6.heap.size = qe at *; generalize hw7 : w6.alloc (.cells ecs.toArray 129) = w7 at *; have Z7 := Hd (show qe < w7.heap.size by rw [← hw7, ← hqe]; simp); clear hw7; have F7 := Hd (F6.out.trans0 FA6.out); have R7 := Hd (zb R6.out FA6.out id); have RH7 := Hd (zb RH6.out FA6.out id); have PV7 := Hd (zl PV.out FA6.out (fun _ _ => id)); have PI7 := Hd (yV.own PV7.out POK.out); have RW7 := Hd (show w7.rangeAt qe 3 (y9 wx) from by intro j u hj; have hj2 : j < 2 := (List.getElem?_eq_some_iff.1 hj).1; have hr := RE.out (3 + j) u (by rw [EC.out, ← hWX] at *; match j, hj2 with | 0, _ => exact hj | 1, _ => exact hj); simpa using hr); have HRM := Hd (zgh (H1.out.fr0 F7.out) (by omega) AP.out (fun e he => by have := IN8.out e he; omega) WO.out FOK.out PI7.out (by have := PLN.out; omega)); go_frame) | ((with_reducible refine zn ?_); have mk := K9.out; refine zd rfl (zf (ty := 127) rfl rfl RW7.out uW rW (show _ = some (y9 wx).length from xK)) ?_; go_frame) | (clear K10; go_at_call 48; refine HRM.out.mono ?_; rintro e w8 ⟨gv, rfl, VG8, h8, f8, hv8, ho8⟩; obtain ⟨ga, gc, hgv⟩ := ho8.slice.arg.form; subst hgv;  have H8 := Hd h8; have F8 := Hd f8; have V8 := Hd hv8; have O8 := Hd ho8; clear h8 f8 hv8 ho8; go_frame))
  have VLT := Hd (show ∀ j, poV p ma ms VG j → j < q0 from fun j hj => by have := HH.out.hi j hj; omega)
  go_ret2
  have hne : Jl S I L t ≠ 0 := by rw [LE.out]; exact NE.out
  refine ⟨_, by rw [LE.out]; rfl, ⟨VG8, C, ?_, F7.out.of0.trans F8.out (fun _ _ h => h), fun j hj => .inl (V8.out j hj)⟩, ?_⟩
  ·have h9 := H8.out
   rw [RG.out, J4] at h9
   rw [show JR S I L t now = L by unfold JR; rw [if_neg hne]]
   exact (h9.mono (Nat.le_succ N)).frV (Fr.refl No _) (fun _ _ => id) (fun _ h => h.elim) (fun _ h => h.elim) (fun j hj e => e.elim .inl (fun e => .inl (HH.out.sub j (.inr (.inr (.inr (V8.out j e))))))) (fun j hj => .inl (HH.out.sub j (hj.imp_right (fun h => h.imp_right (fun h => h.imp_right (V8.out j))))))
  ·rw [show Jy S I L t = [] by unfold Jy; rw [if_neg hne]]
   exact World.ownsRow_nil _ _ _ _
 have LE := Hd (show Jl S I L t = 0 by rw [E0.out]; exact c3)
 have LG := Hd (show Jy S I L t = qC L wx (xe L t) by unfold Jy; rw [if_pos LE.out, hWX])
 have LL := Hd (show JR S I L t now = yT L (qC L wx (xe L t)) ++ [mkE S L t now] by unfold JR; rw [if_pos LE.out, LG.out])
 have RZ := Hd c3
 obtain ⟨s1, s2⟩ := zbo HH.out.gr.gok wx (xe L t)
 have SH := Hd s1
 have PNG := Hd s2
 have DLEN := Hd (show (yT L (qC L wx (xe L t))).length ≤ 32 from Nat.le_trans (zfp _ _) h32)
 clear c1 c2 c3 s1 s2
 go_enter Tryz.func16, Tryz.ntmps16
 have K0 := tru
 have K1 := tru
 have K2 := tru
 have K3 := tru
 have K4 := tru
 have K5 := tru
 have K6 := tru
 have K7 := tru
 have K8 := tru
 have K9 := tru
 have K10 := tru
 have K11 := tru
 have K12 := tru
 have K13 := tru
 go_wp2_with (first | ((with_reducible refine zn ?_); have mk := K0.out; refine zd rfl (zf (ty := 34) rfl rfl R1.out uT rT zR) ?_; generalize hq0 : w.heap.size = q0 at *; generalize hw1 : w.alloc (.cells #[.int .u32 t.ver, .slice ia t.ins.length ic, .slice oa t.outs.length oc] 34) = wa at *; have Z1 := Hd (show q0 < wa.heap.size by rw [← hw1, ← hq0]; simp); clear hw1; go_frame) | (clear K1; go_at_call 32; refine HCK.out.mono ?_; rintro e w3 ⟨rfl, f3⟩; have F3 := Hd (F1.out.trans0 f3); have R3 := Hd (zb R1.out f3 id); have Z3 := Hd (show q0 < w3.heap.size by have := Z1.out; have := f3.size; omega); clear f3; have HI3 := Hd (HID.out _ F3.out); go_frame) | ((with_reducible refine zn ?_); have mk := K2.out; refine zd rfl (zf (ty := 34) rfl rfl R3.out uT rT zR) ?_; go_frame) | (clear K3; go_at_call 15; refine HI3.out.mono ?_; rintro e w4 ⟨rfl, f4⟩; rw [IDZ.out]; have F4 := Hd (F3.out.trans0 f4); have R4 := Hd (zb R3.out f4 id); have Z4 := Hd (show q0 < w4.heap.size by have := Z3.out; have := f4.size; omega); clear f4; have RH := Hd (zC w4 (zj (idH t)) 41); have FA4 := Hd ((Fr.refl No w4).alloc (.cells (zj (idH t)).toArray 41)); go_frame) | ((with_reducible refine zA ?_); have mk := K4.out; refine zq rfl (zm (w := w4) (ty := 41) (cs := zj (idH t)) rfl rfl rfl (by rw [XL.out]; rfl) (by rw [XL.out]; exact zr) zV) ?_; generalize hqh : w4.heap.size = qh at *; generalize hw5 : w4.alloc (.cells (zj (idH t)).toArray 41) = w5 at *; have Z5 := Hd (show qh < w5.heap.size by rw [← hw5, ← hqh]; simp); clear hw5; have F5 := Hd (F4.out.trans0 FA4.out); have R5 := Hd (zb R4.out FA4.out id); have HLK := Hd (zac (HG.out.keep0 F5.out) (H1.out.fr0 F5.out) (by omega) (HC.out.fr0 F5.out) HS.out (HT.out w5 F5.out.of0) CHK.out); go_frame) | ((with_reducible refine zn ?_); have mk := K5.out; refine zd rfl (zf (ty := 41) rfl rfl RH.out uH rH (by rw [XL.out]; exact zr)) ?_; go_frame) | ((with_reducible refine zn ?_); have mk := K6.out; refine zd rfl (zf (ty := 34) rfl rfl R5.out uT rT zR) ?_; go_frame) | (clear K7; go_at_call 47; refine HLK.out.mono ?_; rintro e w6 ⟨ecs, pv, rfl, f6, ho6, hz6⟩; have EO := Hd ho6.2; have EL := Hd ho6.1; obtain ⟨hz1, hz2⟩ := hz6 LKZ.out; have PV := Hd hz2; have EC := Hd hz1; clear hz1 hz2; rw [LKZ.out]; obtain ⟨pva, pvc, hpv⟩ := PV.out.slice.arg.form; subst hpv; have F6 := Hd (F5.out.trans0 f6); have R6 := Hd (zb R5.out f6 id); have RH6 := Hd (zb RH.out f6 id); have Z6 := Hd (show qh < w6.heap.size by have := Z5.out; have := f6.size; omega); clear f6 ho6; have RE := Hd (zC w6 ecs 129); have FA6 := Hd ((Fr.refl No w6).alloc (.cells ecs.toArray 129)); have BE := Hd (yn w6 (.cells ecs.toArray 129)); go_frame) | ((with_reducible refine zA ?_); have mk := K8.out; refine zq rfl (zm (w := w6) (ty := 129) (cs := ecs) rfl rfl rfl (by rw [EL.out]; rfl) (by rw [EL.out]; exact xJ) EO.out) ?_; generalize hqe : w6.heap.size = qe at *; generalize hw7 : w6.alloc (.cells ecs.toArray 129) = w7 at *; have Z7 := Hd (show qe < w7.heap.size by rw [← hw7, ← hqe]; simp); clear hw7; have F7 := Hd (F6.out.trans0 FA6.out); have R7 := Hd (zb R6.out FA6.out id); have RH7 := Hd (zb RH6.out FA6.out id); have PV7 := Hd (zl PV.out FA6.out (fun _ _ => id)); have PI7 := Hd (yV.own PV7.out POK.out); have RW7 := Hd (show w7.rangeAt qe 3 (y9 wx) from by intro j u hj; have hj2 : j < 2 := (List.getElem?_eq_some_iff.1 hj).1; have hr := RE.out (3 + j) u (by rw [EC.out, ← hWX] at *; match j, hj2 with | 0, _ => exact hj | 1, _ => exact hj); simpa using hr); have HRM := Hd (zgh (H1.out.fr0 F7.out) (by omega) AP.out (fun e he => by have := IN8.out e he; omega) WO.out FOK.out PI7.out (by have := PLN.out; omega)); go_frame) | ((with_reducible refine zn ?_); have mk := K9.out; refine zd rfl (zf (ty := 127) rfl rfl RW7.out uW rW (show _ = some (y9 wx).length from xK)) ?_; go_frame) | (clear K10; go_at_call 48; refine HRM.out.mono ?_; rintro e w8 ⟨gv, rfl, VG8, h8, f8, hv8, ho8⟩; obtain ⟨ga, gc, hgv⟩ := ho8.slice.arg.form; subst hgv; rw [RZ.out]; have H8 := Hd h8; have F8 := Hd f8; have V8 := Hd hv8; have O8 := Hd ho8; clear h8 f8 hv8 ho8; have VLT := Hd (show ∀ j, poV p ma ms VG j → j < q0 from fun j hj => by have := HH.out.hi j hj; omega); have R8 := Hd (zb R7.out F8.out (fun e => by have := VLT.out _ e; omega)); have RH8 := Hd (zb RH7.out F8.out (fun e => by have := VLT.out _ e; have := Z4.out; omega)); have BE8 := Hd (show w8.heap[qe]? = some (.cells #[.int .u32 t.ver, .slice ia t.ins.length ic, .slice oa t.outs.length oc, .int .u64 wx.1, .int .i64 wx.2, .int .u64 0] 129 (0, 0)) from by have h9 := F8.out.obj BE.out (fun e => by have := VLT.out _ e; have := Z4.out; have := Z6.out; omega); rw [EC.out] at h9; rw [← hWX]; exact h9); have TQ8 := Hd (HT.out w8 (F7.out.of0.trans F8.out (fun j _ e => HH.out.sub j e))); have HOW := Hd (ze2 w8 TQ8.out ⟨by have := (yX.1 FM.out).2.1; omega, by have := (yX.1 FM.out).2.2; omega, fun y hy => by have := (yX.1 FM.out).1 y hy; omega⟩); go_frame) | ((with_reducible refine zn ?_); have mk := K11.out; refine zd rfl (zf (ty := 34) rfl rfl R8.out uT rT zR) ?_; go_frame) | (clear K12; go_at_call 49; refine HOW.out.mono ?_; rintro e w9 ⟨ocs, rfl, f9, hk9⟩; obtain ⟨ia9, ic9, oa9, oc9, rfl⟩ := (hk9 (fun _ => False) (fun _ h => h.elim)).now.form; have F9 := Hd f9; have K9 := Hd hk9; clear f9 hk9; have BE9 := Hd (F9.out.obj BE8.out id); have S3 := Hd (zh9 (x := .int .u32 t.ver) (y := .slice ia9 t.ins.length ic9) (z := .slice oa9 t.outs.length oc9) BE9.out); have FS3 := Hd (zJ qe [.int .u32 t.ver, .slice ia9 t.ins.length ic9, .slice oa9 t.outs.length oc9] 0 w9); go_frame) | ((with_reducible refine zA ?_); have mk := K13.out; refine zq rfl (z6 (ty := 34) (b := qe) (off := 0) (cs := [.int .u32 t.ver, .slice ia9 t.ins.length ic9, .slice oa9 t.outs.length oc9]) rfl rfl rfl (yg BE9.out (Nat.le_of_ble_eq_true rfl)) zR (JN rfl rfl rfl)) ?_; generalize hw10 : w9.setCells qe 0 [.int .u32 t.ver, .slice ia9 t.ins.length ic9, .slice oa9 t.outs.length oc9] = w10 at *; have c5 : w10.cell? ⟨qe, 5, none⟩ = some (.int .u64 0) := (by have := ya S3.out 5 _ rfl; simpa using this); have fz5 := yI (i := 5) S3.out; go_frame))
 have S3h := S3
 clear S3
 have S5 := Hd (show (w10.setCell ⟨qe, 5, none⟩ (.int .u64 now)).heap[qe]? = some (.cells #[.int .u32 t.ver, .slice ia9 t.ins.length ic9, .slice oa9 t.outs.length oc9, .int .u64 wx.1, .int .i64 wx.2, .int .u64 now] 129 (0, 0)) from by
  have := heap_setCell_same w10 qe 5 _ _ (.int .u64 now) S3h.out
  simpa using this)
 have QE := Hd (show q0 < qe ∧ qh < qe ∧ q0 < qh from ⟨by have := Z6.out; have := Z4.out; omega, Z6.out, Z4.out⟩)
 have FS5 := Hd (show Fr (fun j => j = qe) w9 (w10.setCell ⟨qe, 5, none⟩ (.int .u64 now)) from FS3.out.trans ((Fr.refl (fun j => j = qe) w10).setCell _ (.inr rfl) _) (fun _ _ h => h))
 clear c5 fz5
 generalize w10.setCell ⟨qe, 5, none⟩ (.int .u64 now) = w11 at *
 have FD11 := Hd ((Fr.refl No w11).drew)
 have F811 := Hd (show Fr (fun j => j = qe) w8 w11.drew from (F9.out.of0.trans FS5.out (fun _ _ h => h)).trans0 FD11.out)
 have BE11 := Hd (FD11.out.obj S5.out id)
 have RE11 := Hd (show w11.drew.rangeAt qe 0 [.int .u32 t.ver, .slice ia9 t.ins.length ic9, .slice oa9 t.outs.length oc9, .int .u64 wx.1, .int .i64 wx.2, .int .u64 now] from ya BE11.out)
 have H11 := Hd (show yf w0 w11.drew p ma ms g VG8 (fun j => X j ∨ q0 ≤ j) C (yT L (qC L wx (xe L t))) N from H8.out.frV F811.out (fun j hj e => by
  have h1 := VLT.out j (hj.imp_right (fun h => h.imp_right (fun h => h.imp_right (V8.out j))))
  have h2 := QE.out
  omega) (fun j e => by rw [e]; have := HH.out.fr.size; have := QE.out; omega) (fun j e => .inr (by rw [e]; have := QE.out; omega)) (fun _ _ h => h) H8.out.sub)
 have RH11 := Hd (zb RH8.out F811.out (fun e => by have := QE.out; omega))
 have R11 := Hd (zb R8.out F811.out (fun e => by have := QE.out; omega))
 have LKA := Hd (show idH t ∉ xD (yT L (qC L wx (xe L t))) from fun e => by
  rw [Yj] at e
  exact NIN.out (List.mem_filter.1 e).1)
 generalize hLD : yT L (qC L wx (xe L t)) = LD at *
 obtain ⟨M, hM, hm⟩ := H11.out.am
 have hml := H11.out.mapLen hM hm
 obtain ⟨w12, M2, hup, hM2, hU2, hT2, -⟩ := hM.upd xy.keyed Yy (fun _ _ => yS) (yd XOK.out) (by rw [hml]; have := DLEN.out; unfold maxLen; omega) [.int .u32 t.ver, .slice ia9 t.ins.length ic9, .slice oa9 t.outs.length oc9, .int .u64 wx.1, .int .i64 wx.2, .int .u64 now]
 have HUP := Hd hup
 have FM12 := Hd hT2.fr
 have HM2 := Hd hM2
 have HU2 := Hd (show ∀ y cs, (y, cs) ∈ M2 ↔ ∃ e ∈ LD ++ [mkE S L t now], e.id = y ∧ cs = (if y = idH t then [.int .u32 t.ver, .slice ia9 t.ins.length ic9, .slice oa9 t.outs.length oc9, .int .u64 wx.1, .int .i64 wx.2, .int .u64 now] else C y) from fun y cs => by
  rw [hU2 y cs, hm]
  constructor
  ·rintro (⟨rfl, rfl⟩ | ⟨hne, e, he, rfl, rfl⟩)
   ·exact ⟨mkE S L t now, by simp, rfl, by rw [if_pos rfl]⟩
   ·exact ⟨e, List.mem_append_left _ he, rfl, by rw [if_neg hne]⟩
  ·rintro ⟨e, he, rfl, rfl⟩
   rcases List.mem_append.1 he with he | he
   ·have hne : e.id ≠ idH t := fun h => LKA.out (by rw [← h]; exact List.mem_map.2 ⟨e, he, rfl⟩)
    exact .inr ⟨hne, e, he, rfl, by rw [if_neg hne]⟩
   ·obtain rfl := List.mem_singleton.1 he
    exact .inl ⟨rfl, by rw [if_pos (show (mkE S L t now).id = idH t from rfl)]⟩)
 have PMS := Hd H11.out.apart
 have ML := Hd (show ma < q0 ∧ ms < q0 ∧ p < q0 from ⟨VLT.out ma (.inr (.inl rfl)), VLT.out ms (.inr (.inr (.inl rfl))), VLT.out p (.inl rfl)⟩)
 have NVG := Hd (show ∀ j, VG8 j → j < q0 ∧ j ≠ p ∧ j ≠ ma ∧ j ≠ ms from fun j hj => ⟨VLT.out j (.inr (.inr (.inr (V8.out j hj)))), fun e => PMS.out.2.2.2.1 (e ▸ hj), fun e => PMS.out.2.2.2.2.1 (e ▸ hj), fun e => PMS.out.2.2.2.2.2 (e ▸ hj)⟩)
 clear hup hM hm hml hM2 hU2 hT2
 have G12 := Hd (H11.out.gr.frV FM12.out (fun j hj e => (NVG.out j hj).2.2.1 e) (fun j e => by rw [e]; exact H11.out.lo3.2.1))
 have O12 := Hd (FM12.out.obj H11.out.obj PMS.out.1)
 have RH12 := Hd (zb RH11.out FM12.out (fun e => by have := QE.out; have := ML.out; omega))
 have RE12 := Hd (zb RE11.out FM12.out (fun e => by have := QE.out; have := ML.out; omega))
 have R12 := Hd (zb R11.out FM12.out (fun e => by have := ML.out; omega))
 refine zv [false, false, false, false, false, false, true] (fun w' => w'.cell? ⟨p, 0, none⟩ = some (.map (some ma)) ∧ w'.rangeAt qh 0 (zj (idH t)) ∧ w'.rangeAt qe 0 [.int .u32 t.ver, .slice ia9 t.ins.length ic9, .slice oa9 t.outs.length oc9, .int .u64 wx.1, .int .i64 wx.2, .int .u64 now]) (by kernel_rfl) (by kernel_rfl) ?_ (fun K hK => ?_)
 ·exact ⟨H11.out.cells.1, RH11.out, RE11.out⟩
 generalize w11.drew = wd at *
 repeat (first | ((first | with_reducible refine zx ?_ | ((with_reducible refine zu ?_ ?_); (focus rfl))); apply Exists.intro; refine ⟨?_, ?_⟩; (focus (first | exact zD (ty := 41) rfl (fun w h => h.2.1) uH rH (by rw [XL.out]; exact zr) | exact zD (ty := 129) rfl (fun w h => h.2.2) uE rE xJ | (intro w' hS; obtain ⟨s1, s2, s3⟩ := hS; go_simp; (try with_reducible rfl); done))); try simp only [Act.put, pA, pB, pC]) | ((first | ((with_reducible refine zg (c := false) ?_ ?_ ?_); (focus rfl); (focus rfl)) | ((with_reducible refine zg (c := true) ?_ ?_ ?_); (focus rfl); (focus rfl)) | ((with_reducible refine zt ?_ ?_); (focus rfl))); try simp only [Act.put, pA, pB, pC]))
 (first | with_reducible refine zU (fun K' hK' => ?_) | ((with_reducible refine zK ?_ (fun K' hK' => ?_)); (focus rfl)))
 refine xb (y5 rfl rfl rfl rfl HUP.out) ?_
 refine hK'.out _ _ ?_ (fun hS => ?_)
 ·exact ⟨(ya O12.out 0 _ rfl), RH12.out, RE12.out⟩
 try simp only [Act.put]
 refine zM (hK.out _ _ ?_)
 have PV12 := Hd (show w12.ownsRow w5.heap.size 41 32 (.slice pva (xe L t).length pvc) (xe L t).length ((xe L t).flatMap zj) from zl (zl (zl PV7.out F8.out (fun j hj e => by have := VLT.out j e; have := (PV7.out.lt j hj).1; have := Z5.out; have := QE.out; omega)) F811.out (fun j hj e => by have := (PV.out.lt j hj).2; omega)) FM12.out (fun j hj e => by have := (PV7.out.lt j hj).1; have := Z5.out; have := ML.out; have := QE.out; omega))
 go_wp2_with fail
 have FD12 := Hd ((Fr.refl No w12).drew)
 have RH12d := Hd (zb RH12.out FD12.out id)
 have C12 := Hd (show w12.drew.cell? ⟨p, 2, none⟩ = some (.pointer (some ⟨g, 0, none⟩)) from FD12.out.cell (ya O12.out 2 _ rfl) id)
 have PNI := Hd (show ∀ y ∈ xe L t, y ∈ ids (gOf LD) from fun y hy => by
  rw [qv, ← hLD, Yj]
  exact List.mem_filter.2 ⟨J2 hy, by simpa using PNG.out y hy⟩)
 have XNI := Hd (show idH t ∉ ids (gOf LD) from by rw [qv]; exact LKA.out)
 have KLT := Hd (show (upS (gOf LD) (xe L t)).length < 6 from by
  have := zaH HH.out.gr.gok SH.out (xe L t)
  rw [hLD] at this
  have := KIN.out
  omega)
 have ADE := Hd (zep XNI.out PNI.out KLT.out)
 have HAD := Hd (zkb (G12.out.fr0 FD12.out) (by omega) XOK.out (yV.own (zl PV12.out FD12.out (fun _ _ => id)) POK.out) (by have := PLN.out; omega))
 refine zv [false, false, false, false, false, false, true] (fun w' => w'.cell? ⟨p, 2, none⟩ = some (.pointer (some ⟨g, 0, none⟩)) ∧ w'.rangeAt qh 0 (zj (idH t))) (by kernel_rfl) (by kernel_rfl) ?_ (fun K hK => ?_)
 ·exact ⟨C12.out, RH12d.out⟩
 generalize w12.drew = wf at *
 repeat (first | ((first | with_reducible refine zx ?_ | ((with_reducible refine zu ?_ ?_); (focus rfl))); apply Exists.intro; refine ⟨?_, ?_⟩; (focus (first | exact zD (ty := 41) rfl (fun w h => h.2) uH rH (by rw [XL.out]; exact zr) | (intro w' hS; obtain ⟨s1, s2⟩ := hS; go_simp; (try with_reducible rfl); done))); try simp only [Act.put, pA, pB, pC]) | ((first | ((with_reducible refine zg (c := false) ?_ ?_ ?_); (focus rfl); (focus rfl)) | ((with_reducible refine zg (c := true) ?_ ?_ ?_); (focus rfl); (focus rfl)) | ((with_reducible refine zt ?_ ?_); (focus rfl))); try simp only [Act.put, pA, pB, pC]))
 (first | with_reducible refine zU (fun K' hK' => ?_) | ((with_reducible refine zK ?_ (fun K' hK' => ?_)); (focus rfl)))
 go_simp
 refine HAD.out.mono ?_
 rintro e w13 ⟨rfl, VGN, hgn, hfn, hvn⟩
 rw [if_pos ADE.out] at hgn
 have GN := Hd hgn
 have FN := Hd hfn
 have VN := Hd hvn
 clear hgn hfn hvn
 have C13 := Hd (FN.out.cell C12.out PMS.out.2.2.2.1)
 have RH13 := Hd (zb RH12d.out FN.out (fun e => by have := (NVG.out _ e).1; have := QE.out; omega))
 refine hK'.out _ _ ?_ (fun hS => ?_)
 ·exact ⟨C13.out, RH13.out⟩
 try simp only [Act.put, pA, pB, pC]
 repeat (first | ((first | with_reducible refine zx ?_ | ((with_reducible refine zu ?_ ?_); (focus rfl))); apply Exists.intro; refine ⟨?_, ?_⟩; (focus (first | (intro w' hS; obtain ⟨s1, s2⟩ := hS; go_simp; (try with_reducible rfl); done))); try simp only [Act.put, pA, pB, pC]) | ((first | ((with_reducible refine zg (c := false) ?_ ?_ ?_); (focus rfl); (focus rfl)) | ((with_reducible refine zg (c := true) ?_ ?_ ?_); (focus rfl); (focus rfl)) | ((with_reducible refine zt ?_ ?_); (focus rfl))); try simp only [Act.put, pA, pB, pC]))
 refine zM (hK.out _ _ ?_)
 have F1213 := Hd (show Fr VG8 w12 w13 from FD12.out.of0.trans FN.out (fun _ _ h => h))
 have F813 := Hd (show Fr (fun j => j = qe ∨ j = ma ∨ VG8 j) w8 w13 from ((F811.out.mono (fun j e => .inl e)).trans FM12.out (fun j _ e => .inr (.inl e))).trans F1213.out (fun j _ e => .inr (.inr e)))
 have FT13 := Hd (show Fr X w w13 from (F7.out.of0.trans F8.out (fun j _ e => HH.out.sub j e)).trans F813.out (fun j hj e => by
  rcases e with e | e | e
  ·have := QE.out; omega
  ·rw [e]; exact HH.out.sub ma (.inr (.inl rfl))
  ·exact HH.out.sub j (.inr (.inr (.inr (V8.out j e))))))
 have TQ13 := Hd (HT.out w13 FT13.out)
 have R13 := Hd (zb R12.out F1213.out (fun e => by have := (NVG.out _ e).1; omega))
 have O13 := Hd (F1213.out.obj O12.out PMS.out.2.2.2.1)
 have M13 := Hd (HM2.out.keep F1213.out PMS.out.2.2.2.2.1)
 obtain ⟨MS, hms, hmsm⟩ := H11.out.sm
 have S13 := Hd ((hms.keep FM12.out (fun e => PMS.out.2.2.1 e.symm)).keep F1213.out PMS.out.2.2.2.2.2)
 have SM := Hd hmsm
 have HPT := Hd (vP w13 TQ13.out (by have := (yX.1 FM.out).2.1; omega))
 have il8 : t.ins.length ≤ 8 := (yX.1 FM.out).2.1
 clear hms hmsm
 have K0 := tru
 have K1 := tru
 go_wp2_with (first | ((with_reducible refine zn ?_); have mk := K0.out; refine zd rfl (zf (ty := 34) rfl rfl R13.out uT rT zR) ?_; go_frame) | (clear K1; go_at_call 33; refine HPT.out.mono ?_; rintro e w14 ⟨ptv, rfl, hpo, f14⟩; obtain ⟨pta, ptc, hpt⟩ := hpo.slice.arg.form; subst hpt; have F14 := Hd f14; have PO := Hd hpo; clear f14 hpo; go_frame))
 have PTL := Hd (qW t)
 have PTK := Hd (show ∀ q ∈ zS t, q.ok from fun q hq => by obtain ⟨y, hy, rfl⟩ := List.mem_map.1 hq; exact TQ13.out.oks.1 y hy)
 have S14 := Hd (S13.out.keep F14.out id)
 have O14 := Hd (F14.out.obj O13.out id)
 have RH14 := Hd (zb RH13.out F14.out id)
 have LDL := Hd (show ∀ e ∈ LD, e ∈ L from fun e he => by rw [← hLD] at he; exact (Jn.1 he).1)
 have PSZ := Hd (zis (L := LD) (fun e he => IN8.out e (LDL.out e he)))
 have PND := Hd (j5 CHK.out).2.2.2.1
 have Q14 := Hd (show q0 < w14.heap.size ∧ qh < w14.heap.size from by have h1 := vt RH14.out (by intro h0; have := XL.out; rw [h0] at this; cases this); have := QE.out; exact ⟨by omega, h1⟩)
 go_loopw [79] (fun iv wr => ∃ n : Nat, iv = .int .i64 n ∧ n ≤ t.ins.length ∧ (∃ M, Qf wr ms M ∧ ∀ q y, (q, y) ∈ M ↔ (∃ e ∈ LD, q ∈ zS e.tx ∧ e.id = y) ∨ (q ∈ (zS t).take n ∧ y = idH t)) ∧ Fr (fun j => j = ms) w14 wr) (fun iv _ => t.ins.length - (intOf iv).toNat)
 case atStart => exact ⟨0, rfl, Nat.zero_le _, ⟨MS, S14.out, fun q y => by rw [SM.out]; simp⟩, Fr.refl _ _⟩
 case round =>
  obtain ⟨n, rfl, hn, ⟨Mn, hMn, hmn⟩, hfr⟩ := hrel
  have FR := Hd hfr
  have SMN := Hd hMn
  have SMM := Hd hmn
  clear hfr hMn hmn
  by_cases hlt : n < t.ins.length
  ·have i1 : (n : Int) < (t.ins.length : Int) := by omega
   obtain ⟨q, hq⟩ : ∃ q, (zS t)[n]? = some q := ⟨_, List.getElem?_eq_getElem (by rw [PTL.out]; exact hlt)⟩
   have QOK := Hd (PTK.out q (List.mem_of_getElem? hq))
   have POR := Hd (zl PO.out FR.out (fun j hj e => by have := (PO.out.lt j hj).1; have := ML.out; have h1 := vt R13.out (by simp); omega))
   have hpi : qg wr (.slice pta t.ins.length ptc) (zS t) := ⟨PTK.out, by rw [PTL.out]; exact POR.out.slice.arg⟩
   obtain ⟨b2, off2, cap2, e2, hr2, -⟩ := hpi.at_ hq
   injection e2 with e3 e4 e5
   subst e3
   have R2 := Hd hr2
   have PL := Hd (yb QOK.out)
   have RQ := Hd (zC wr (zB q) 95)
   have FQ := Hd ((Fr.refl No wr).alloc (.cells (zB q).toArray 95))
   have HQ := Hd hq
   have NSP := Hd (show ∀ e ∈ LD, q ∉ zS e.tx from fun e he hqe => by
    have := SPN.out q (List.mem_of_getElem? hq)
    rw [vp.2 ⟨e, LDL.out e he, hqe⟩] at this
    cases this)
   clear hr2 hq e4 e5 hpi
   have K0 := tru
   have K1 := tru
   go_wp2_with (first | ((with_reducible refine zn ?_); have mk := K0.out; refine zd rfl (zf (ty := 95) rfl rfl R2.out uP rP (by rw [PL.out]; exact zL)) ?_; go_frame) | ((with_reducible refine zA ?_); have mk := K1.out; refine zq rfl (zm (w := wr) (ty := 95) (cs := zB q) rfl rfl rfl (by rw [PL.out]; rfl) (by rw [PL.out]; exact zL) y3) ?_; go_frame))
   generalize hqq : wr.heap.size = qq at *
   generalize hwb : wr.alloc (.cells (zB q).toArray 95) = wb at *
   have FQD := Hd FQ.out.drew
   have RQD := Hd (zb RQ.out (Fr.refl No wb).drew id)
   have OD := Hd (FQD.out.obj (FR.out.obj O14.out PMS.out.2.1) id)
   have RHD := Hd (zb (zb RH14.out FR.out (fun e => by have := ML.out; have := QE.out; omega)) FQD.out id)
   have SMD := Hd (SMN.out.keep FQD.out id)
   clear hwb
   have ROOM := Hd (show Mn.length < maxLen from by
    have h1 := xM SMN.out.nodup (m := (LD.flatMap fun e => zS e.tx) ++ zS t) (fun y hy => by
     obtain ⟨z, hz, rfl⟩ := List.mem_map.1 hy
     rcases (SMM.out z.1 z.2).1 hz with ⟨e, he, h1, -⟩ | ⟨h1, -⟩
     ·exact List.mem_append_left _ (List.mem_flatMap.2 ⟨e, he, h1⟩)
     ·exact List.mem_append_right _ (List.mem_of_mem_take h1))
    rw [List.length_map, List.length_append, PTL.out] at h1
    have := PSZ.out
    have := DLEN.out
    unfold maxLen
    omega)
   obtain ⟨w5', M5, hup, hm5, hU5, hT5, -⟩ := SMD.out.upd JK.keyed XA (fun _ _ => vO) (qI QOK.out) ROOM.out (idH t)
   have HR5 := Hd hup
   have FM := Hd hT5.fr
   have SM5 := Hd hm5
   have SU5 := Hd (show ∀ y z, (y, z) ∈ M5 ↔ (∃ e ∈ LD, y ∈ zS e.tx ∧ e.id = z) ∨ (y ∈ (zS t).take (n + 1) ∧ z = idH t) from fun y z => by
    rw [hU5 y z, SMM.out]
    have htk : ∀ y, y ∈ (zS t).take (n + 1) ↔ y ∈ (zS t).take n ∨ y = q := fun y => by
     rw [List.take_add_one, HQ.out]
     simp
    rw [htk]
    constructor
    ·rintro (⟨rfl, rfl⟩ | ⟨h1, h2 | ⟨h2, h3⟩⟩)
     ·exact .inr ⟨.inr rfl, rfl⟩
     ·exact .inl h2
     ·exact .inr ⟨.inl h2, h3⟩
    ·rintro (⟨e, he, h1, h2⟩ | ⟨h1 | rfl, h2⟩)
     ·exact .inr ⟨fun e' => NSP.out e he (e' ▸ h1), .inl ⟨e, he, h1, h2⟩⟩
     ·by_cases hyq : y = q
      ·exact .inl ⟨hyq, h2⟩
      ·exact .inr ⟨hyq, .inr ⟨h1, h2⟩⟩
     ·exact .inl ⟨rfl, h2⟩)
   have F5' := Hd (show Fr (fun j => j = ms) w14 w5' from (FR.out.trans0 FQD.out).trans FM.out (fun j _ e => e))
   have O5' := Hd (FM.out.obj OD.out PMS.out.2.1)
   have RQ5 := Hd (zb RQD.out FM.out (fun e => by have := FR.out.size; have := Q14.out; have := ML.out; omega))
   have RH5 := Hd (zb RHD.out FM.out (fun e => by have := ML.out; have := QE.out; omega))
   clear hup hm5 hU5 hT5
   refine zv [false, false, false, false, false, false, true] (fun w' => w'.cell? ⟨p, 1, none⟩ = some (.map (some ms)) ∧ w'.rangeAt qq 0 (zB q) ∧ w'.rangeAt qh 0 (zj (idH t))) (by kernel_rfl) (by kernel_rfl) ?_ (fun K hK => ?_)
   ·exact ⟨ya OD.out 1 _ rfl, RQD.out, RHD.out⟩
   generalize wb.drew = z1 at *
   repeat (first | ((first | with_reducible refine zx ?_ | ((with_reducible refine zu ?_ ?_); (focus rfl))); apply Exists.intro; refine ⟨?_, ?_⟩; (focus (first | exact zD (ty := 95) rfl (fun w h => h.2.1) uP rP (by rw [PL.out]; exact zL) | exact zD (ty := 41) rfl (fun w h => h.2.2) uH rH (by rw [XL.out]; exact zr) | (intro w' hS; obtain ⟨s1, s2, s3⟩ := hS; go_simp; (try with_reducible rfl); done))); try simp only [Act.put, pA, pB, pC]) | ((first | ((with_reducible refine zg (c := false) ?_ ?_ ?_); (focus rfl); (focus rfl)) | ((with_reducible refine zg (c := true) ?_ ?_ ?_); (focus rfl); (focus rfl)) | ((with_reducible refine zt ?_ ?_); (focus rfl))); try simp only [Act.put, pA, pB, pC]))
   (first | with_reducible refine zU (fun K' hK' => ?_) | ((with_reducible refine zK ?_ (fun K' hK' => ?_)); (focus rfl)))
   refine xb (y5 rfl rfl rfl rfl HR5.out) ?_
   refine hK'.out _ _ ?_ (fun hS => ?_)
   ·exact ⟨ya O5'.out 1 _ rfl, RQ5.out, RH5.out⟩
   try simp only [Act.put]
   refine zM (hK.out _ _ ?_)
   go_wp2_with fail
   go_roundw
   case rel => exact ⟨n + 1, by go_num, by omega, ⟨M5, SM5.out, SU5.out⟩, F5'.out⟩
   case measure => simp [intOf]; omega
  ·have hne : n = t.ins.length := by omega
   have i1 : ¬ (n : Int) < (t.ins.length : Int) := by omega
   have TKA := Hd (show (zS t).take n = zS t by rw [hne, ← PTL.out, List.take_length])
   have F13F := Hd (show Fr (fun j => j = ms) w13 wr from F14.out.of0.trans FR.out (fun _ _ h => h))
   have FALL := Hd (show Fr (poV p ma ms VG) w wr from ((F7.out.of0.trans F8.out (fun _ _ h => h)).trans F813.out (fun j hj e => by
    rcases e with e | e | e
    ·have := QE.out; omega
    ·exact .inr (.inl e)
    ·exact .inr (.inr (.inr (V8.out j e))))).trans F13F.out (fun j _ e => .inr (.inr (.inl e))))
   have WFS := Hd (show q0 < wf.heap.size ∧ w9.heap.size ≤ wf.heap.size from by
    have h1 := FS5.out.size
    have h2 := FD11.out.size
    have h3 := FM12.out.size
    have h4 := FD12.out.size
    have h5 := F9.out.size
    have h6 := F8.out.size
    have h7 := vt R8.out (by simp)
    exact ⟨by omega, by omega⟩)
   have VNQ := Hd (show ∀ j, VGN j → VG8 j ∨ wf.heap.size ≤ j from VN.out)
   have PLT := Hd (show ∀ j, (j = p ∨ j = ma ∨ j = ms) → ¬ VGN j from fun j hj hv => by
    rcases VNQ.out j hv with h | h
    ·have := NVG.out j h
     rcases hj with hj | hj | hj
     ·exact this.2.1 hj
     ·exact this.2.2.1 hj
     ·exact this.2.2.2 hj
    ·have h1 := ML.out
     have h2 := WFS.out
     rcases hj with hj | hj | hj <;> omega)
   clear hne
   go_wp2_with fail
   go_ret2
   refine ⟨_, by rw [LE.out]; rfl, ⟨VGN, fun y => if y = idH t then [.int .u32 t.ver, .slice ia9 t.ins.length ic9, .slice oa9 t.outs.length oc9, .int .u64 wx.1, .int .i64 wx.2, .int .u64 now] else C y, ?_, FALL.out, fun j hj => ?_⟩, ?_⟩
   ·rw [LL.out]
    refine ⟨F13F.out.obj O13.out PMS.out.2.1, ?_, ⟨M2, M13.out.keep F13F.out PMS.out.2.2.1, HU2.out⟩, ⟨Mn, SMN.out, fun q y => ?_⟩, fun e he => ?_, ⟨PMS.out.1, PMS.out.2.1, PMS.out.2.2.1, PLT.out p (.inl rfl), PLT.out ma (.inr (.inl rfl)), PLT.out ms (.inr (.inr rfl))⟩, H11.out.lo3, fun j hj => ?_⟩
    ·have hgo : Yz (gOf LD) (idH t) (xe L t) = gOf (LD ++ [mkE S L t now]) := by rw [zc4]; rfl
     have hgn := GN.out
     rw [hgo] at hgn
     exact hgn.frV F13F.out (fun j hj e => PLT.out j (.inr (.inr e)) hj) (fun j e => by rw [e]; exact H11.out.lo3.2.2)
    ·rw [SMM.out, TKA.out]
     constructor
     ·rintro (⟨e, he, h1, h2⟩ | ⟨h1, rfl⟩)
      ·exact ⟨e, List.mem_append_left _ he, h1, h2⟩
      ·exact ⟨mkE S L t now, by simp, h1, rfl⟩
     ·rintro ⟨e, he, h1, rfl⟩
      rcases List.mem_append.1 he with he | he
      ·exact .inl ⟨e, he, h1, rfl⟩
      ·obtain rfl := List.mem_singleton.1 he
       exact .inr ⟨h1, rfl⟩
    ·rcases List.mem_append.1 he with he | he
     ·have hne : e.id ≠ idH t := fun h => LKA.out (by rw [← h]; exact List.mem_map.2 ⟨e, he, rfl⟩)
      rw [if_neg hne]
      have f1 : Fr (fun j => X j ∨ q0 ≤ j) wd wr := (FM12.out.mono (fun j e => .inl (by rw [e]; exact HH.out.sub ma (.inr (.inl rfl))))).trans (show Fr (fun j => VG8 j ∨ j = ms) w12 wr from (F1213.out.mono (fun j e => Or.inl e)).trans F13F.out (fun j _ e => Or.inr e)) (fun j _ e => .inl (by
       rcases e with e | e
       ·exact HH.out.sub j (.inr (.inr (.inr (V8.out j e))))
       ·rw [e]; exact HH.out.sub ms (.inr (.inr (.inl rfl)))))
      exact (H11.out.data e he).step f1 (fun j hj e => e.elim .inl (fun e => (VNQ.out j e).elim (fun e => .inl (HH.out.sub j (.inr (.inr (.inr (V8.out j e)))))) (fun e => .inr (by have := WFS.out; omega))))
     ·obtain rfl := List.mem_singleton.1 he
      rw [if_pos (show (mkE S L t now).id = idH t from rfl)]
      have k1 := K9.out (fun j => j < w8.heap.size) (fun _ h => h)
      have h8 := vt (ya BE8.out) (by simp)
      have f1 : Fr (fun j => j < w8.heap.size) w9 wr := ((FS5.out.trans0 FD11.out).mono (fun j e => by rw [e]; exact h8)).trans ((FM12.out.mono (V := fun j => j < w8.heap.size) (fun j e => by rw [e]; have := ML.out; have := QE.out; omega)).trans ((F1213.out.mono (V := fun j => j < w8.heap.size) (fun j e => by have := (NVG.out j e).1; have := QE.out; omega)).trans (F13F.out.mono (V := fun j => j < w8.heap.size) (fun j e => by rw [e]; have := ML.out; have := QE.out; omega)) (fun _ _ h => h)) (fun _ _ h => h)) (fun _ _ h => h)
      refine (k1.step f1 (V' := fun j => X j ∨ VGN j) (fun j hj e => ?_)).imp (fun w' _ hq => ⟨_, ?_, hq⟩)
      ·rcases e with e | e
       ·have := XLT.out j e; have := QE.out; omega
       ·rcases VNQ.out j e with e | e
        ·have := (NVG.out j e).1; have := QE.out; omega
        ·have := WFS.out; omega
      ·rw [← hWX]
       rfl
    ·rcases hj with e | e | e | e
     ·exact .inl (HH.out.sub j (.inl e))
     ·exact .inl (HH.out.sub j (.inr (.inl e)))
     ·exact .inl (HH.out.sub j (.inr (.inr (.inl e))))
     ·exact .inr e
   ·rcases VNQ.out j hj with e | e
    ·exact .inl (V8.out j e)
    ·exact .inr (by have := WFS.out; omega)
   ·rw [LG.out]
    exact yU (zl (zl O8.out F813.out (fun j hj e => by
     have h1 := (O8.out.lt j hj).1
     have h2 := Z7.out
     have h3 := QE.out
     rcases e with e | e | e
     ·omega
     ·have := ML.out; omega
     ·have := (NVG.out j e).1; omega)) F13F.out (fun j hj e => by
     have h1 := (O8.out.lt j hj).1
     have h2 := Z7.out
     have h3 := QE.out
     have := ML.out
     omega)) F7.out.size
end
end Go.Proofs.YtdkkjchclkjleaaGreatDoor
