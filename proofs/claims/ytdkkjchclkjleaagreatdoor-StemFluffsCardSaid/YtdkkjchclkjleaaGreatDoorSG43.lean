/- stem: Keep. -/
import Derived.Test.YtdkkjchclkjleaaGreatDoorSG41
import Derived.Test.YtdkkjchclkjleaaGreatDoorSG42
set_option linter.unusedVariables false
set_option linter.unusedSimpArgs false
set_option linter.unnecessarySimpa false
set_option linter.all false
namespace Go.Proofs.YtdkkjchclkjleaaGreatDoor
open Go Go.RowKit Go.Maps Go.MapKept
def Qd (w0 w : World) (ps ma ms : Nat) (R : Nat → Value) (X : Nat → Prop) (S : List zy) (I : List zi) (L : List z7) (Q : StQ) (n : Nat) (t : TxD) (e : Ending) (w' : World) : Prop :=
 e = .returned (.int .i64 (qV S I L (Q n) t)) ∧ Fr (Xf ps ma ms (R n)) w w' ∧ ∃ v' C', (∀ j, v'.ownBlock = some j → (R n).ownBlock = some j ∨ w.heap.size ≤ j) ∧ yz w0 w' ps ma ms (vq R n v') (fun j => X j ∨ v'.ownBlock = some j) C' (qU Q n (JJ S I L (Q n) t))
def zaf (C : Nat → zi → List Value) (n : Nat) (x : zi) (cs : List Value) : Nat → zi → List Value := fun i y => if i = n ∧ y = x then cs else C i y
theorem X3 (C : Nat → zi → List Value) (n : Nat) (x : zi) (cs : List Value) : zaf C n x cs n x = cs := if_pos ⟨rfl, rfl⟩
theorem J9 (C : Nat → zi → List Value) {n i : Nat} {x y : zi} (cs : List Value) (h : i ≠ n ∨ y ≠ x) : zaf C n x cs i y = C i y := if_neg fun e => h.elim (fun h => h e.1) (fun h => h e.2)
section
variable {w0 w w' w0p w0c : World} {ps ma ms pp mp mq g N pc : Nat} {R : Nat → Value} {X Y VG VC : Nat → Prop} {C : Nat → zi → List Value} {CP : zi → List Value} {Q : StQ} {L : List z7} {S : List zy} {bs : List xt} {I : List zi}
theorem Qd.bad {n : Nat} (hn : n < 65) {t : TxD} {c : Int} (h : yz w0 w ps ma ms R X C Q) (hE : qV S I L (Q n) t = c) (hc : c ≠ 0) (f : Fr No w w') : Qd w0 w ps ma ms R X S I L Q n t (.returned (.int .i64 c)) w' := by
 have hne : qV S I L (Q n) t ≠ 0 := by rw [hE]; exact hc
 have hL : JJ S I L (Q n) t = Q n := by unfold JJ; rw [if_neg hne]
 refine ⟨by rw [hE], f.of0, R n, C, fun j h => .inl h, ?_⟩
 rw [hL, zd8, zbK]
 exact h.frV f (fun _ _ => id) (fun _ h => h.elim) (fun _ h => h.elim) (fun j _ e => e.elim id (fun e => h.sub j (.inr (.inr (.inr ⟨n, hn, e⟩))))) (fun j hj => .inl (h.sub j hj))
theorem zeE {l : List StE} {t : TxD} (h : yt t ≠ 0) : qV S I L l t = yt t := by unfold qV; rw [if_pos h]
theorem zfh {l : List StE} {t : TxD} (h : yt t = 0) (h2 : vD I L l (idH t) ≠ 0) : qV S I L l t = vD I L l (idH t) := by unfold qV; rw [if_neg (by simp [h]), if_pos h2]
theorem zjK {l : List StE} {t : TxD} (h : yt t = 0) (h2 : vD I L l (idH t) = 0) : qV S I L l t = ZB S L l t := by unfold qV; rw [if_neg (by simp [h]), if_neg (by simp [h2])]
structure ZO (w : World) (ps ma ms : Nat) (R' : Nat → Value) (C' : Nat → zi → List Value) (Q : StQ) (n : Nat) (l' : List StE) (x : zi) (pts : List zF) (m : Nat) : Prop where
 obj : w.heap[ps]? = some (.cells (stC ma ms R').toArray 116 (0, 0))
 am : ∃ M, qR w ma M ∧ ∀ k cs, (k, cs) ∈ M ↔ ∃ i : Nat, i < 65 ∧ k.1 = (i : Int) ∧ ∃ e ∈ qU Q n l' i, e.id = k.2 ∧ cs = C' i k.2
 sm : ∃ M, Zb w ms M ∧ (∀ k y, (k, y) ∈ M ↔ (k.1 = (n : Int) ∧ k.2 ∈ pts.take m ∧ y = x) ∨ ∃ i : Nat, i < 65 ∧ k.1 = (i : Int) ∧ ∃ e ∈ Q i, k.2 ∈ zS e.tx ∧ e.id = y) ∧ M.length ≤ 100000 + m
theorem ZO.fr0 {R' : Nat → Value} {C' : Nat → zi → List Value} {n m : Nat} {l' : List StE} {x : zi} {pts : List zF} (h : ZO w ps ma ms R' C' Q n l' x pts m) (f : Fr No w w') : ZO w' ps ma ms R' C' Q n l' x pts m := by
 obtain ⟨M, hM, hm⟩ := h.am
 obtain ⟨M', hM', hm', hl⟩ := h.sm
 exact ⟨f.obj h.obj id, ⟨M, hM.keep f id, hm⟩, ⟨M', hM'.keep f id, hm', hl⟩⟩
theorem ZO.c66 {R' : Nat → Value} {C' : Nat → zi → List Value} {n m : Nat} {l' : List StE} {x : zi} {pts : List zF} (h : ZO w ps ma ms R' C' Q n l' x pts m) : w.cell? ⟨ps, 66, none⟩ = some (.map (some ms)) := by
 have := ya h.obj
 simpa using this 66 _ zbC
theorem zjE (w : World) : (zeroValue 110).run Tryz.prog w = .ok (.agg (skC (0, yN)).toArray) w := by kernel_rfl
theorem zhw {M : List ((Int × zi) × List Value)} (hn : (M.map (·.1)).Nodup) (hv : ∀ i, SVal (Q i)) (hm : ∀ k cs, (k, cs) ∈ M ↔ ∃ i : Nat, i < 65 ∧ k.1 = (i : Int) ∧ ∃ e ∈ Q i, e.id = k.2 ∧ cs = C i k.2) : M.length ≤ 100000 := by
 have h1 : ∀ x ∈ M.map (·.1), x ∈ (List.range 65).flatMap fun i => (Q i).map fun e => ((i : Int), e.id) := by
  intro x hx
  obtain ⟨⟨k, y⟩, hy, rfl⟩ := List.mem_map.1 hx
  obtain ⟨i, hi, hki, e, he, hq, -⟩ := (hm k y).1 hy
  refine List.mem_flatMap.2 ⟨i, List.mem_range.2 hi, List.mem_map.2 ⟨e, he, ?_⟩⟩
  rw [← hki, hq]
 have h2 := xM hn h1
 rw [List.length_map] at h2
 have h3 : ∀ r : List Nat, (r.flatMap fun i => (Q i).map fun e => ((i : Int), e.id)).length ≤ 4 * r.length := by
  intro r
  induction r with
  | nil => simp
  | cons i r ih =>
   rw [List.flatMap_cons, List.length_append, List.length_cons, List.length_map]
   have h6 := (hv i).len
   omega
 have := h3 (List.range 65)
 rw [List.length_range] at this
 omega
theorem zeM {M : List ((Int × zF) × zi)} (hn : (M.map (·.1)).Nodup) (hv : ∀ i, SVal (Q i)) (hm : ∀ k y, (k, y) ∈ M ↔ ∃ i : Nat, i < 65 ∧ k.1 = (i : Int) ∧ ∃ e ∈ Q i, k.2 ∈ zS e.tx ∧ e.id = y) : M.length ≤ 100000 := by
 have h1 : ∀ x ∈ M.map (·.1), x ∈ (List.range 65).flatMap fun i => (Q i).flatMap fun e => (zS e.tx).map fun q => ((i : Int), q) := by
  intro x hx
  obtain ⟨⟨k, y⟩, hy, rfl⟩ := List.mem_map.1 hx
  obtain ⟨i, hi, hki, e, he, hq, -⟩ := (hm k y).1 hy
  refine List.mem_flatMap.2 ⟨i, List.mem_range.2 hi, List.mem_flatMap.2 ⟨e, he, List.mem_map.2 ⟨k.2, hq, ?_⟩⟩⟩
  rw [← hki]
 have h2 := xM hn h1
 rw [List.length_map] at h2
 have h3 : ∀ r : List Nat, (r.flatMap fun i => (Q i).flatMap fun e => (zS e.tx).map fun q => ((i : Int), q)).length ≤ 32 * r.length := by
  intro r
  induction r with
  | nil => simp
  | cons i r ih =>
   rw [List.flatMap_cons, List.length_append, List.length_cons]
   have h4 : ∀ l : List StE, (∀ e ∈ l, e.tx.ins.length ≤ 8) → (l.flatMap fun e => (zS e.tx).map fun q => ((i : Int), q)).length ≤ 8 * l.length := by
    intro l
    induction l with
    | nil => simp
    | cons e l ih2 =>
     intro hl
     rw [List.flatMap_cons, List.length_append, List.length_cons, List.length_map, qW]
     have := ih2 (fun e he => hl e (.tail _ he))
     have := hl e (.head _)
     omega
   have h5 := h4 (Q i) ((hv i).ins8)
   have h6 := (hv i).len
   omega
 have := h3 (List.range 65)
 rw [List.length_range] at this
 omega
set_option maxRecDepth 20000 in
set_option maxHeartbeats 2000000 in
theorem ziG (w : World) (cs : List Value) (a b c : Nat) {i : Int} (hi : i < 0 ∨ 64 < i) :
  Calls Tryz.prog 12 #[.pointer (some ⟨a, 0, none⟩), .pointer (some ⟨b, 0, none⟩), .pointer (some ⟨c, 0, none⟩), .int .i64 i, .agg cs.toArray] w fun e w' => e = .returned (.int .i64 2) ∧ Fr No w w' := by
 have F1 := Hd ((Fr.refl No w).alloc (.cells cs.toArray 34))
 by_cases i1 : i < 0
 ·clear hi
  go_enter Tryz.func12, Tryz.ntmps12
  go_wp2_with fail
  go_ret
  exact ⟨rfl, F1.out⟩
 ·have i2 : 64 < i := by omega
  clear hi
  go_enter Tryz.func12, Tryz.ntmps12
  go_wp2_with fail
  go_ret
  exact ⟨rfl, F1.out⟩
set_option maxRecDepth 20000 in
set_option maxHeartbeats 16000000 in
theorem zi3 (hg : Jx w) (h : yz w0 w ps ma ms R X C Q) (hX : ∀ j, X j → j < w.heap.size) (hp : yf w0p w pp mp mq g VG Y CP L N) (hc : Cn w0c w pc VC S bs I) (hS : ∀ c ∈ S, c.ok) {n : Nat} (hn : n < 65) {t : TxD} {cs : List Value} (ht : Kept X w (fun w => TxQ w t cs)) :
  Calls Tryz.prog 12 #[.pointer (some ⟨ps, 0, none⟩), .pointer (some ⟨pc, 0, none⟩), .pointer (some ⟨pp, 0, none⟩), .int .i64 n, .agg cs.toArray] w (Qd w0 w ps ma ms R X S I L Q n t) := by
 obtain ⟨dT, uT, rT⟩ := vw
 obtain ⟨dP, uP, rP⟩ := xr
 obtain ⟨dH, uH, rH⟩ := yj
 obtain ⟨dS, uS, rS⟩ := zdN
 have zp := jA
 have zh := y6
 have zk := zjE
 have i65 : (n : Int) < 65 := by omega
 have i64 : ¬ (64 : Int) < (n : Int) := by omega
 have i0 : (0 : Int) ≤ (n : Int) := by omega
 have i0n : ¬ (n : Int) < 0 := by omega
 obtain ⟨ia, ic, oa, oc, rfl⟩ := ht.now.form
 have HT := Hd ht
 have HG := Hd hg
 have HH := Hd h
 have HN := Hd hn
 have HXL := Hd hX
 have F1 := Hd ((Fr.refl No w).alloc (.cells #[.int .u32 t.ver, .slice ia t.ins.length ic, .slice oa t.outs.length oc] 34))
 have R1 := Hd (qZ w t.ver (.slice ia t.ins.length ic) (.slice oa t.outs.length oc)).2.2.2
 have HCK := Hd (XK _ ((HT.out.same F1.out.of0).now))
 have HID := Hd (fun w' (f : Fr No w w') => Vh (HG.out.keep0 f) (HT.out w' f.of0))
 have HFR := Hd (fun w' (f : Fr No w w') => zjI (h.fr0 f) (hp.fr0 f) (hc.fr0 f) hn (Jp t))
 have HPY := Hd (fun (hchk : yt t = 0) w' (f : Fr No w w') => zi9 (hg.keep0 f) (h.fr0 f) (hp.fr0 f) (hc.fr0 f) hS hn (HT.out w' f.of0) hchk)
 have XOK := Hd (Jp t)
 have XL := Hd (zE XOK.out)
 have SKL := Hd (Jd (k := ((n : Int), idH t)) XOK.out)
 clear h hp hc ht hS hg hn hX
 show Calls Tryz.prog 12 #[.pointer (some ⟨ps, 0, none⟩), .pointer (some ⟨pc, 0, none⟩), .pointer (some ⟨pp, 0, none⟩), .int .i64 n, .agg #[.int .u32 t.ver, .slice ia t.ins.length ic, .slice oa t.outs.length oc]] w _
 by_cases c1 : yt t = 0
 rotate_left
 ·have LE := Hd (zeE (S := S) (I := I) (L := L) (l := Q n) c1)
  have je : (yt t == 0) = false := by simpa using c1
  have je2 : (yt t != 0) = true := by simpa using c1
  have NE := Hd c1
  clear c1
  unfold vk at HCK
  generalize hce : yt t = ce at *
  go_enter Tryz.func12, Tryz.ntmps12
  have K0 := tru
  have K1 := tru
  go_wp2_with (first | ((with_reducible refine zn ?_); have mk := K0.out; refine zd rfl (zf (ty := 34) rfl rfl R1.out uT rT zR) ?_; generalize w.alloc (.cells #[.int .u32 t.ver, .slice ia t.ins.length ic, .slice oa t.outs.length oc] 34) = wa at *; go_frame) | (clear K1; go_at_call 32; refine HCK.out.mono ?_; rintro e w3 ⟨rfl, f3⟩; have F3 := Hd (F1.out.trans0 f3); clear f3; go_frame))
  go_ret
  exact Qd.bad HN.out HH.out LE.out NE.out F3.out
 unfold vk at HCK
 rw [c1] at HCK
 have FM := Hd (j5 c1).1
 have CHK := Hd c1
 have IDZ := Hd (show idE t = 0 by unfold idE; rw [if_pos FM.out])
 have HPZ := Hd (HPY.out c1)
 clear HPY
 unfold zfQ at HPZ
 by_cases c2 : vD I L (Q n) (idH t) = 0
 rotate_left
 ·have LE := Hd (zfh (S := S) c1 c2)
  have NE := Hd c2
  have je : (vD I L (Q n) (idH t) == 0) = false := by simpa using c2
  have je2 : (vD I L (Q n) (idH t) != 0) = true := by simpa using c2
  clear c1 c2
  generalize hce : vD I L (Q n) (idH t) = ce at *
  go_enter Tryz.func12, Tryz.ntmps12
  have K0 := tru
  have K1 := tru
  have K2 := tru
  have K3 := tru
  have K4 := tru
  have K5 := tru
  have K6 := tru
  have K7 := tru
  have K8 := tru
  have K9 := tru
  go_wp2_with (first | ((with_reducible refine zn ?_); have mk := K0.out; refine zd rfl (zf (ty := 34) rfl rfl R1.out uT rT zR) ?_; generalize hq0 : w.heap.size = q0 at *; generalize hw1 : w.alloc (.cells #[.int .u32 t.ver, .slice ia t.ins.length ic, .slice oa t.outs.length oc] 34) = wa at *; have Z1 := Hd (show q0 < wa.heap.size by rw [← hw1, ← hq0]; simp); clear hw1; go_frame) | (clear K1; go_at_call 32; refine HCK.out.mono ?_; rintro e w3 ⟨rfl, f3⟩; have F3 := Hd (F1.out.trans0 f3); have R3 := Hd (zb R1.out f3 id); have Z3 := Hd (show q0 < w3.heap.size by have := Z1.out; have := f3.size; omega); clear f3; have HI3 := Hd (HID.out _ F3.out); go_frame) | ((with_reducible refine zn ?_); have mk := K2.out; refine zd rfl (zf (ty := 34) rfl rfl R3.out uT rT zR) ?_; go_frame) | (clear K3; go_at_call 15; refine HI3.out.mono ?_; rintro e w4 ⟨rfl, f4⟩; rw [IDZ.out]; have F4 := Hd (F3.out.trans0 f4); have R4 := Hd (zb R3.out f4 id); have Z4 := Hd (show q0 < w4.heap.size by have := Z3.out; have := f4.size; omega); clear f4; have RH4 := Hd (zC w4 (zj (idH t)) 41); have FA4 := Hd ((Fr.refl No w4).alloc (.cells (zj (idH t)).toArray 41)); go_frame) | ((with_reducible refine zA ?_); have mk := K4.out; refine zq rfl (zm (w := w4) (ty := 41) (cs := zj (idH t)) rfl rfl rfl (by rw [XL.out]; rfl) (by rw [XL.out]; exact zr) zV) ?_; generalize hqh : w4.heap.size = qh at *; generalize hw5 : w4.alloc (.cells (zj (idH t)).toArray 41) = w5 at *; have Z5 := Hd (show qh < w5.heap.size by rw [← hw5, ← hqh]; simp); clear hw5; have F5 := Hd (F4.out.trans0 FA4.out); have R5 := Hd (zb R4.out FA4.out id); have RK5 := Hd (XS w5 n (idH t)); have FA5 := Hd ((Fr.refl No w5).alloc (.cells (skC (n, idH t)).toArray 110)); go_frame) | ((with_reducible refine zn ?_); have mk := K5.out; refine zd rfl (zf (ty := 41) rfl rfl RH4.out uH rH (by rw [XL.out]; exact zr)) ?_; go_frame) | ((with_reducible refine zn ?_); have mk := K6.out; refine zd rfl (y4 (t := 110) rfl rfl vG (jD _ XOK.out) (vH _ _) SKL.out) ?_; go_frame) | ((with_reducible refine zA ?_); have mk := K7.out; refine zq rfl (zm (w := w5) (ty := 110) (cs := skC (n, idH t)) rfl rfl rfl (by rw [SKL.out]; rfl) (by rw [SKL.out]; exact jh) zbO) ?_; generalize hqk : w5.heap.size = qk at *; generalize hw6 : w5.alloc (.cells (skC (n, idH t)).toArray 110) = w6 at *; have Z6 := Hd (show qk < w6.heap.size by rw [← hw6, ← hqk]; simp); clear hw6; have F6 := Hd (F5.out.trans0 FA5.out); have R6 := Hd (zb R5.out FA5.out id); have RH6 := Hd (zb RH4.out FA5.out id); have HF6 := Hd (HFR.out w6 F6.out); go_frame) | ((with_reducible refine zn ?_); have mk := K8.out; refine zd rfl (zf (ty := 110) rfl rfl RK5.out uS rS (by rw [SKL.out]; exact jh)) ?_; go_frame) | (clear K9; go_at_call 39; refine HF6.out.mono ?_; rintro e w7 ⟨rfl, f7⟩; have F7 := Hd (F6.out.trans0 f7); have R7 := Hd (zb R6.out f7 id); have RH7 := Hd (zb RH6.out f7 id); have RK7 := Hd (zb RK5.out f7 id); have Z7 := Hd (show qk < w7.heap.size by have := Z6.out; have := f7.size; omega); clear f7; have HP7 := Hd (HPZ.out w7 F7.out); go_frame))
  go_ret
  exact Qd.bad HN.out HH.out LE.out NE.out F7.out
 rw [c2] at HFR
 have K3 := Hd (zjK (S := S) c1 c2)
 have FR0 := Hd c2
 clear c2
 by_cases c3 : ZB S L (Q n) t = 0
 rotate_left
 ·have NE := Hd c3
  have je : (ZB S L (Q n) t == 0) = false := by simpa using c3
  have je2 : (ZB S L (Q n) t != 0) = true := by simpa using c3
  clear c1 c3
  generalize hce : ZB S L (Q n) t = ce at *
  go_enter Tryz.func12, Tryz.ntmps12
  have K0 := tru
  have K1 := tru
  have K2 := tru
  have K3 := tru
  have K4 := tru
  have K5 := tru
  have K6 := tru
  have K7 := tru
  have K8 := tru
  have K9 := tru
  have K10 := tru
  have K11 := tru
  go_wp2_with (first | ((with_reducible refine zn ?_); have mk := K0.out; refine zd rfl (zf (ty := 34) rfl rfl R1.out uT rT zR) ?_; generalize hq0 : w.heap.size = q0 at *; generalize hw1 : w.alloc (.cells #[.int .u32 t.ver, .slice ia t.ins.length ic, .slice oa t.outs.length oc] 34) = wa at *; have Z1 := Hd (show q0 < wa.heap.size by rw [← hw1, ← hq0]; simp); clear hw1; go_frame) | (clear K1; go_at_call 32; refine HCK.out.mono ?_; rintro e w3 ⟨rfl, f3⟩; have F3 := Hd (F1.out.trans0 f3); have R3 := Hd (zb R1.out f3 id); have Z3 := Hd (show q0 < w3.heap.size by have := Z1.out; have := f3.size; omega); clear f3; have HI3 := Hd (HID.out _ F3.out); go_frame) | ((with_reducible refine zn ?_); have mk := K2.out; refine zd rfl (zf (ty := 34) rfl rfl R3.out uT rT zR) ?_; go_frame) | (clear K3; go_at_call 15; refine HI3.out.mono ?_; rintro e w4 ⟨rfl, f4⟩; rw [IDZ.out]; have F4 := Hd (F3.out.trans0 f4); have R4 := Hd (zb R3.out f4 id); have Z4 := Hd (show q0 < w4.heap.size by have := Z3.out; have := f4.size; omega); clear f4; have RH4 := Hd (zC w4 (zj (idH t)) 41); have FA4 := Hd ((Fr.refl No w4).alloc (.cells (zj (idH t)).toArray 41)); go_frame) | ((with_reducible refine zA ?_); have mk := K4.out; refine zq rfl (zm (w := w4) (ty := 41) (cs := zj (idH t)) rfl rfl rfl (by rw [XL.out]; rfl) (by rw [XL.out]; exact zr) zV) ?_; generalize hqh : w4.heap.size = qh at *; generalize hw5 : w4.alloc (.cells (zj (idH t)).toArray 41) = w5 at *; have Z5 := Hd (show qh < w5.heap.size by rw [← hw5, ← hqh]; simp); clear hw5; have F5 := Hd (F4.out.trans0 FA4.out); have R5 := Hd (zb R4.out FA4.out id); have RK5 := Hd (XS w5 n (idH t)); have FA5 := Hd ((Fr.refl No w5).alloc (.cells (skC (n, idH t)).toArray 110)); go_frame) | ((with_reducible refine zn ?_); have mk := K5.out; refine zd rfl (zf (ty := 41) rfl rfl RH4.out uH rH (by rw [XL.out]; exact zr)) ?_; go_frame) | ((with_reducible refine zn ?_); have mk := K6.out; refine zd rfl (y4 (t := 110) rfl rfl vG (jD _ XOK.out) (vH _ _) SKL.out) ?_; go_frame) | ((with_reducible refine zA ?_); have mk := K7.out; refine zq rfl (zm (w := w5) (ty := 110) (cs := skC (n, idH t)) rfl rfl rfl (by rw [SKL.out]; rfl) (by rw [SKL.out]; exact jh) zbO) ?_; generalize hqk : w5.heap.size = qk at *; generalize hw6 : w5.alloc (.cells (skC (n, idH t)).toArray 110) = w6 at *; have Z6 := Hd (show qk < w6.heap.size by rw [← hw6, ← hqk]; simp); clear hw6; have F6 := Hd (F5.out.trans0 FA5.out); have R6 := Hd (zb R5.out FA5.out id); have RH6 := Hd (zb RH4.out FA5.out id); have HF6 := Hd (HFR.out w6 F6.out); go_frame) | ((with_reducible refine zn ?_); have mk := K8.out; refine zd rfl (zf (ty := 110) rfl rfl RK5.out uS rS (by rw [SKL.out]; exact jh)) ?_; go_frame) | (clear K9; go_at_call 39; refine HF6.out.mono ?_; rintro e w7 ⟨rfl, f7⟩; have F7 := Hd (F6.out.trans0 f7); have R7 := Hd (zb R6.out f7 id); have RH7 := Hd (zb RH6.out f7 id); have RK7 := Hd (zb RK5.out f7 id); have Z7 := Hd (show qk < w7.heap.size by have := Z6.out; have := f7.size; omega); clear f7; have HP7 := Hd (HPZ.out w7 F7.out); go_frame) | ((with_reducible refine zn ?_); have mk := K10.out; refine zd rfl (zf (ty := 34) rfl rfl R7.out uT rT zR) ?_; go_frame) | (clear K11; go_at_call 40; refine HP7.out.mono ?_; rintro e w8 ⟨rfl, f8⟩; have F8 := Hd (F7.out.trans0 f8); have R8 := Hd (zb R7.out f8 id); have RH8 := Hd (zb RH7.out f8 id); have RK8 := Hd (zb RK7.out f8 id); have Z8 := Hd (show qk < w8.heap.size by have := Z7.out; have := f8.size; omega); clear f8; go_frame))
  go_ret
  exact Qd.bad HN.out HH.out K3.out NE.out F8.out
 have KZ := Hd (K3.out.trans c3)
 rw [c3] at HPZ
 clear c1 c3
 obtain ⟨k1, k2, k3, k4, k5, k6, k7, k8, k9⟩ := keep0 KZ.out
 have NIN := Hd k2
 have LN4 := Hd k5
 have NSP := Hd (fun q hq => (k6 q hq).1)
 have KL := Hd (show JJ S I L (Q n) t = Q n ++ [⟨idH t, t⟩] from by unfold JJ; rw [if_pos KZ.out])
 clear k1 k2 k3 k4 k5 k6 k7 k8 k9
 have INL := Hd (yX.1 FM.out)
 go_enter Tryz.func12, Tryz.ntmps12
 have K0 := tru
 have K1 := tru
 have K2 := tru
 have K3 := tru
 have K4 := tru
 have K5 := tru
 have K6 := tru
 have K7 := tru
 have K8 := tru
 have K9 := tru
 have K10 := tru
 have K11 := tru
 go_wp2_with (first | ((with_reducible refine zn ?_); have mk := K0.out; refine zd rfl (zf (ty := 34) rfl rfl R1.out uT rT zR) ?_; generalize hq0 : w.heap.size = q0 at *; generalize hw1 : w.alloc (.cells #[.int .u32 t.ver, .slice ia t.ins.length ic, .slice oa t.outs.length oc] 34) = wa at *; have Z1 := Hd (show q0 < wa.heap.size by rw [← hw1, ← hq0]; simp); clear hw1; go_frame) | (clear K1; go_at_call 32; refine HCK.out.mono ?_; rintro e w3 ⟨rfl, f3⟩; have F3 := Hd (F1.out.trans0 f3); have R3 := Hd (zb R1.out f3 id); have Z3 := Hd (show q0 < w3.heap.size by have := Z1.out; have := f3.size; omega); clear f3; have HI3 := Hd (HID.out _ F3.out); go_frame) | ((with_reducible refine zn ?_); have mk := K2.out; refine zd rfl (zf (ty := 34) rfl rfl R3.out uT rT zR) ?_; go_frame) | (clear K3; go_at_call 15; refine HI3.out.mono ?_; rintro e w4 ⟨rfl, f4⟩; rw [IDZ.out]; have F4 := Hd (F3.out.trans0 f4); have R4 := Hd (zb R3.out f4 id); have Z4 := Hd (show q0 < w4.heap.size by have := Z3.out; have := f4.size; omega); clear f4; have RH4 := Hd (zC w4 (zj (idH t)) 41); have FA4 := Hd ((Fr.refl No w4).alloc (.cells (zj (idH t)).toArray 41)); go_frame) | ((with_reducible refine zA ?_); have mk := K4.out; refine zq rfl (zm (w := w4) (ty := 41) (cs := zj (idH t)) rfl rfl rfl (by rw [XL.out]; rfl) (by rw [XL.out]; exact zr) zV) ?_; generalize hqh : w4.heap.size = qh at *; generalize hw5 : w4.alloc (.cells (zj (idH t)).toArray 41) = w5 at *; have Z5 := Hd (show qh < w5.heap.size by rw [← hw5, ← hqh]; simp); clear hw5; have F5 := Hd (F4.out.trans0 FA4.out); have R5 := Hd (zb R4.out FA4.out id); have RK5 := Hd (XS w5 n (idH t)); have FA5 := Hd ((Fr.refl No w5).alloc (.cells (skC (n, idH t)).toArray 110)); go_frame) | ((with_reducible refine zn ?_); have mk := K5.out; refine zd rfl (zf (ty := 41) rfl rfl RH4.out uH rH (by rw [XL.out]; exact zr)) ?_; go_frame) | ((with_reducible refine zn ?_); have mk := K6.out; refine zd rfl (y4 (t := 110) rfl rfl vG (jD _ XOK.out) (vH _ _) SKL.out) ?_; go_frame) | ((with_reducible refine zA ?_); have mk := K7.out; refine zq rfl (zm (w := w5) (ty := 110) (cs := skC (n, idH t)) rfl rfl rfl (by rw [SKL.out]; rfl) (by rw [SKL.out]; exact jh) zbO) ?_; generalize hqk : w5.heap.size = qk at *; generalize hw6 : w5.alloc (.cells (skC (n, idH t)).toArray 110) = w6 at *; have Z6 := Hd (show qk < w6.heap.size by rw [← hw6, ← hqk]; simp); clear hw6; have F6 := Hd (F5.out.trans0 FA5.out); have R6 := Hd (zb R5.out FA5.out id); have RH6 := Hd (zb RH4.out FA5.out id); have HF6 := Hd (HFR.out w6 F6.out); go_frame) | ((with_reducible refine zn ?_); have mk := K8.out; refine zd rfl (zf (ty := 110) rfl rfl RK5.out uS rS (by rw [SKL.out]; exact jh)) ?_; go_frame) | (clear K9; go_at_call 39; refine HF6.out.mono ?_; rintro e w7 ⟨rfl, f7⟩; have F7 := Hd (F6.out.trans0 f7); have R7 := Hd (zb R6.out f7 id); have RH7 := Hd (zb RH6.out f7 id); have RK7 := Hd (zb RK5.out f7 id); have Z7 := Hd (show qk < w7.heap.size by have := Z6.out; have := f7.size; omega); clear f7; have HP7 := Hd (HPZ.out w7 F7.out); go_frame) | ((with_reducible refine zn ?_); have mk := K10.out; refine zd rfl (zf (ty := 34) rfl rfl R7.out uT rT zR) ?_; go_frame) | (clear K11; go_at_call 40; refine HP7.out.mono ?_; rintro e w8 ⟨rfl, f8⟩; have F8 := Hd (F7.out.trans0 f8); have R8 := Hd (zb R7.out f8 id); have RH8 := Hd (zb RH7.out f8 id); have RK8 := Hd (zb RK7.out f8 id); have Z8 := Hd (show qk < w8.heap.size by have := Z7.out; have := f8.size; omega); clear f8; go_frame))
 have FD := Hd F8.out.drew
 have HD := Hd (HH.out.fr0 FD.out)
 have RD := Hd (zb R8.out (Fr.refl No w8).drew id)
 have RHD := Hd (zb RH8.out (Fr.refl No w8).drew id)
 have RKD := Hd (zb RK8.out (Fr.refl No w8).drew id)
 have ZD := Hd (show qk < w8.drew.heap.size from Z8.out)
 have QLT := Hd (show w.heap.size ≤ q0 ∧ q0 < qh ∧ qh < qk from ⟨by omega, by have := Z4.out; omega, by have := Z5.out; omega⟩)
 have BLT := Hd (show ∀ j, stV ps ma ms R j → j < q0 from fun j hj => by have := HH.out.hi j hj; omega)
 obtain ⟨M, hM, hm⟩ := HD.out.am
 have HM := Hd hM
 have HMI := Hd hm
 have MFEW := Hd (zhw hM.nodup HH.out.val hm)
 have TD := Hd (HT.out _ FD.out.of0)
 clear hM hm
 refine zv [false, false, false, false, false, false, true, true] (fun w' => w'.cell? ⟨ps, 0, none⟩ = some (.map (some ma)) ∧ w'.rangeAt qk 0 (skC (n, idH t)) ∧ w'.rangeAt q0 0 [.int .u32 t.ver, .slice ia t.ins.length ic, .slice oa t.outs.length oc]) (by kernel_rfl) (by kernel_rfl) ?_ (fun K hK => ?_)
 ·exact ⟨HD.out.cells.1, RKD.out, RD.out⟩
 generalize w8.drew = wd at *
 repeat (first | ((first | with_reducible refine zx ?_ | ((with_reducible refine zu ?_ ?_); (focus rfl))); apply Exists.intro; refine ⟨?_, ?_⟩; (focus (first | exact zD (ty := 110) rfl (fun w h => h.2.1) uS rS (by rw [SKL.out]; exact jh) | exact zD (ty := 34) rfl (fun w h => h.2.2) uT rT zR | (intro w' hS; obtain ⟨s1, s2, s3⟩ := hS; go_simp; (try with_reducible rfl); done))); try simp only [Act.put, pA, pB, pC]) | ((first | ((with_reducible refine zg (c := false) ?_ ?_ ?_); (focus rfl); (focus rfl)) | ((with_reducible refine zg (c := true) ?_ ?_ ?_); (focus rfl); (focus rfl)) | ((with_reducible refine zt ?_ ?_); (focus rfl))); try simp only [Act.put, pA, pB, pC]))
 (first | with_reducible refine zU (fun K' hK' => ?_) | ((with_reducible refine zK ?_ (fun K' hK' => ?_)); (focus rfl)))
 go_simp
 refine (zgK wd TD.out ⟨by have := INL.out; omega, by have := INL.out; omega, fun x hx => by have := INL.out.1 x hx; omega⟩).mono ?_
 rintro e w9 ⟨cs9, rfl, f9, hk9⟩
 obtain ⟨ja, jc, ka, kc, e9⟩ := (hk9 (fun _ => False) (fun _ h => h.elim)).now.form
 subst e9
 have F9d := Hd f9
 have F9 := Hd (FD.out.trans0 f9)
 have KP9 := Hd hk9
 clear f9 hk9
 have R9 := Hd (zb RD.out F9d.out id)
 have RH9 := Hd (zb RHD.out F9d.out id)
 have RK9 := Hd (zb RKD.out F9d.out id)
 have H9 := Hd (HD.out.fr0 F9d.out)
 have Z9 := Hd (show qk < w9.heap.size by have := ZD.out; have := F9d.out.size; omega)
 refine hK'.out _ _ ?_ (fun hS => ?_)
 ·exact ⟨H9.out.cells.1, RK9.out, R9.out⟩
 try simp only [Act.put, pA, pB, pC]
 obtain ⟨w10, M1, hup, hm1, hupd, htu, hml⟩ := (HM.out.keep F9d.out id).upd zi7.keyed zak (fun _ _ => zbP) (zbW (k := ((n : Int), idH t)) (Qz HN.out) XOK.out) (show M.length < maxLen by unfold maxLen; have := MFEW.out; omega) [.int .u32 t.ver, .slice ja t.ins.length jc, .slice ka t.outs.length kc]
 have HUP := Hd hup
 have FU := Hd htu.fr
 have HM1 := Hd hm1
 have UPD := Hd hupd
 clear hup hm1 hupd htu hml
 unfold skV Y1 at HUP
 have AA := Hd HH.out.apart
 have RN := Hd (HH.out.rnot n HN.out)
 have MLT := Hd (show ps < q0 ∧ ma < q0 ∧ ms < q0 from ⟨BLT.out _ (.inl rfl), BLT.out _ (.inr (.inl rfl)), BLT.out _ (.inr (.inr (.inl rfl)))⟩)
 have R10 := Hd (zb R9.out FU.out (fun e => by have := MLT.out; omega))
 have RH10 := Hd (zb RH9.out FU.out (fun e => by have := MLT.out; have := QLT.out; omega))
 have RK10 := Hd (zb RK9.out FU.out (fun e => by have := MLT.out; have := QLT.out; omega))
 have OB10 := Hd (FU.out.obj H9.out.obj AA.out.1)
 have C10 := Hd (show w10.cell? ⟨ps, 0, none⟩ = some (.map (some ma)) from by have := ya OB10.out 0 _ rfl; simpa using this)
 have SM10 := Hd (show ∃ M, Zb w10 ms M ∧ ∀ k x, (k, x) ∈ M ↔ ∃ i : Nat, i < 65 ∧ k.1 = (i : Int) ∧ ∃ e ∈ Q i, k.2 ∈ zS e.tx ∧ e.id = x from by
  obtain ⟨M2, h1, h2⟩ := H9.out.sm
  exact ⟨M2, h1.keep FU.out (fun e => AA.out.2.2 e.symm), h2⟩)
 obtain ⟨ra, rc, hR⟩ := HH.out.row_form HN.out
 have HRR := Hd hR
 have ROW10 := Hd (show w10.ownsRow w0.heap.size 41 32 (.slice ra (Q n).length rc) (yc (Q n)).length ((yc (Q n)).flatMap zj) from by
  rw [← hR]
  exact zl (H9.out.row n HN.out) FU.out (fun j hj e => (RN.out j hj).2.1 e))
 have CR10 := Hd (show w10.cell? ⟨ps, 1 + n, none⟩ = some (.slice ra (Q n).length rc) from by have := ya OB10.out (1 + n) _ (by rw [Nat.add_comm]; exact Y8 HN.out); rw [hR] at this; simpa using this)
 have F10 := Hd (show Fr (fun j => j = ma) w w10 from F9.out.of0.trans FU.out (fun _ _ e => e))
 have Z10 := Hd (show qk < w10.heap.size by have := Z9.out; have := FU.out.size; omega)
 clear hR
 repeat (first | ((first | with_reducible refine zx ?_ | ((with_reducible refine zu ?_ ?_); (focus rfl))); apply Exists.intro; refine ⟨?_, ?_⟩; (focus (first | exact zD (ty := 110) rfl (fun w h => h.2.1) uS rS (by rw [SKL.out]; exact jh) | exact zD (ty := 34) rfl (fun w h => h.2.2) uT rT zR | (intro w' hS; obtain ⟨s1, s2, s3⟩ := hS; go_simp; (try with_reducible rfl); done))); try simp only [Act.put, pA, pB, pC]) | ((first | ((with_reducible refine zg (c := false) ?_ ?_ ?_); (focus rfl); (focus rfl)) | ((with_reducible refine zg (c := true) ?_ ?_ ?_); (focus rfl); (focus rfl)) | ((with_reducible refine zt ?_ ?_); (focus rfl))); try simp only [Act.put, pA, pB, pC]))
 (first | with_reducible refine zU (fun K' hK' => ?_) | ((with_reducible refine zK ?_ (fun K' hK' => ?_)); (focus rfl)))
 refine xb (y5 rfl rfl rfl rfl HUP.out) ?_
 refine hK'.out _ _ ?_ (fun hS => ?_)
 ·exact ⟨C10.out, RK10.out, R10.out⟩
 try simp only [Act.put]
 refine zM (hK.out _ _ ?_)
 go_wp2_with fail
 have FD10 := Hd ((Fr.refl No w10).drew)
 have RHE := Hd (zb RH10.out FD10.out id)
 have RE := Hd (zb R10.out FD10.out id)
 have CRE := Hd (FD10.out.cell CR10.out id)
 have ROWE := Hd (zl ROW10.out FD10.out (fun _ _ => id))
 have OBE := Hd (FD10.out.obj OB10.out id)
 have HME := Hd (HM1.out.keep FD10.out id)
 have SME := Hd (show ∃ M, Zb w10.drew ms M ∧ ∀ k x, (k, x) ∈ M ↔ ∃ i : Nat, i < 65 ∧ k.1 = (i : Int) ∧ ∃ e ∈ Q i, k.2 ∈ zS e.tx ∧ e.id = x from by
  obtain ⟨M2, h1, h2⟩ := SM10.out
  exact ⟨M2, h1.keep FD10.out id, h2⟩)
 have FE := Hd (F10.out.trans0 FD10.out)
 have ZE := Hd (show qk < w10.drew.heap.size from Z10.out)
 have W0Q := Hd (show w0.heap.size ≤ w.heap.size from HH.out.fr.size)
 refine yJ [false, false, false, false, false, false, false, false, false, true, true, false, false, false, true] (fun w' => w'.cell? ⟨ps, 1 + n, none⟩ = some (.slice ra (Q n).length rc) ∧ w'.rangeAt qh 0 (zj (idH t))) (by kernel_rfl) (by kernel_rfl) 14 (by kernel_rfl) (by kernel_rfl) ?_ (fun K hK => ?_)
 ·exact ⟨CRE.out, RHE.out⟩
 generalize w10.drew = we at *
 obtain ⟨v12, w12, b1, b2, b3, -, b5⟩ := xj (P := Tryz.prog) we w0.heap.size 38 38 41 32 32 _ xB xI rfl (by decide) ROWE.out (zj (idH t)) XL.out zV (by rw [xk]; have := LN4.out; omega) (by rw [xk]; unfold maxLen; have := LN4.out; omega) (by have := FE.out.size; have := W0Q.out; omega)
 obtain ⟨va12, vc12, hv12⟩ := b2.slice.arg.form
 subst hv12
 have B1 := Hd b1
 have B2 := Hd b2
 have B3 := Hd b3
 have B5 := Hd b5
 clear b1 b2 b3 b5
 have RNS := Hd (show ∀ j, (Value.slice ra (Q n).length rc).ownBlock = some j → j < q0 ∧ j ≠ ps ∧ j ≠ ma ∧ j ≠ ms from fun j hj => ⟨by
  have := BLT.out j (.inr (.inr (.inr ⟨n, HN.out, by rw [HRR.out]; exact hj⟩))); exact this, RN.out j (by rw [HRR.out]; exact hj)⟩)
 have C12 := Hd (B3.out.cell CRE.out (fun e => (RNS.out _ e).2.1 rfl))
 have RH12 := Hd (zb RHE.out B3.out (fun e => by have := (RNS.out _ e).1; have := QLT.out; omega))
 have R12 := Hd (zb RE.out B3.out (fun e => by have := (RNS.out _ e).1; have := QLT.out; omega))
 have OB12 := Hd (B3.out.obj OBE.out (fun e => (RNS.out _ e).2.1 rfl))
 have HM12 := Hd (HME.out.keep B3.out (fun e => (RNS.out _ e).2.2.1 rfl))
 have SM12 := Hd (show ∃ M, Zb w12 ms M ∧ ∀ k x, (k, x) ∈ M ↔ ∃ i : Nat, i < 65 ∧ k.1 = (i : Int) ∧ ∃ e ∈ Q i, k.2 ∈ zS e.tx ∧ e.id = x from by
  obtain ⟨M2, h1, h2⟩ := SME.out
  exact ⟨M2, h1.keep B3.out (fun e => (RNS.out _ e).2.2.2 rfl), h2⟩)
 have Z12 := Hd (show qk < w12.heap.size by have := B3.out.size; have := ZE.out; omega)
 repeat (first | ((first | with_reducible refine yG ?_ | ((with_reducible refine yp ?_ ?_); (focus rfl))); apply Exists.intro; refine ⟨?_, ?_⟩; (focus (first | exact zD (ty := 41) rfl (fun w h => h.2) uH rH (by rw [XL.out]; exact zr) | (intro w' hS; obtain ⟨s1, s2⟩ := hS; go_simp; (try with_reducible rfl); done))); try simp only [Act.put, pA, pB, pC]) | ((first | ((with_reducible refine zX (c := false) ?_ ?_ ?_); (focus rfl); (focus rfl)) | ((with_reducible refine zX (c := true) ?_ ?_ ?_); (focus rfl); (focus rfl)) | ((with_reducible refine yq ?_ ?_); (focus rfl))); try simp only [Act.put, pA, pB, pC]))
 (first | with_reducible refine yK (fun K' hK' => ?_) | ((with_reducible refine yx ?_ (fun K' hK' => ?_)); (focus rfl)))
 refine yB (zZ (t := 38) (cs := zj (idH t)) rfl rfl xB qs rfl (by decide) (by decide) XL.out) ?_
 have FB := Hd ((Fr.refl No we).alloc (.cells (zj (idH t)).toArray 41))
 refine hK'.out _ _ (fun _ => ?_) (fun hS => ?_)
 ·exact ⟨FB.out.cell CRE.out id, zb RHE.out FB.out id⟩
 try simp only [Act.put, pA, pB, pC]
 (first | with_reducible refine yK (fun K' hK' => ?_) | ((with_reducible refine yx ?_ (fun K' hK' => ?_)); (focus rfl)))
 refine xU rfl rfl rfl B1.out ?_
 refine hK'.out _ _ (fun _ => ?_) (fun hS => ?_)
 ·exact ⟨C12.out, RH12.out⟩
 try simp only [Act.put, pA, pB, pC]
 repeat (first | ((first | with_reducible refine yG ?_ | ((with_reducible refine yp ?_ ?_); (focus rfl))); apply Exists.intro; refine ⟨?_, ?_⟩; (focus (first | (intro w' hS; obtain ⟨s1, s2⟩ := hS; go_simp; (try with_reducible rfl); done))); try simp only [Act.put, pA, pB, pC]) | ((first | ((with_reducible refine zX (c := false) ?_ ?_ ?_); (focus rfl); (focus rfl)) | ((with_reducible refine zX (c := true) ?_ ?_ ?_); (focus rfl); (focus rfl)) | ((with_reducible refine yq ?_ ?_); (focus rfl))); try simp only [Act.put, pA, pB, pC]))
 have fz : w12.frozen? ⟨ps, 1 + n, none⟩ = false := yI OB12.out
 have cz := C12.out
 (first | with_reducible refine yK (fun K' hK' => ?_) | ((with_reducible refine yx ?_ (fun K' hK' => ?_)); (focus rfl)))
 go_simp
 refine hK'.out _ _ (fun h => absurd rfl h) (fun hS => ?_)
 refine qy (hK.out _ _ ?_)
 clear fz cz
 have FS := Hd (show Fr (fun j => j = ps) w12 (w12.setCell ⟨ps, 1 + n, none⟩ (.slice va12 ((yc (Q n)).length + 1) vc12)) from (Fr.refl (fun j => j = ps) w12).setCell ⟨ps, 1 + n, none⟩ (.inr rfl) _)
 have OB13 := Hd (show (w12.setCell ⟨ps, 1 + n, none⟩ (.slice va12 ((yc (Q n)).length + 1) vc12)).heap[ps]? = some (.cells (stC ma ms (vq R n (.slice va12 ((yc (Q n)).length + 1) vc12))).toArray 116 (0, 0)) from by
  have SET := heap_setCell_same w12 ps (1 + n) _ _ (.slice va12 ((yc (Q n)).length + 1) vc12) OB12.out
  have := zer (ma := ma) (ms := ms) (R := R) HN.out (.slice va12 ((yc (Q n)).length + 1) vc12)
  rw [SET, Nat.add_comm 1 n]
  unfold vq
  rw [← this]
  simp)
 have V12 := Hd (show ∀ j, (Value.slice va12 ((yc (Q n)).length + 1) vc12).ownBlock = some j → ((R n).ownBlock = some j ∨ we.heap.size ≤ j) ∧ j ≠ ps ∧ j ≠ ma ∧ j ≠ ms from fun j hj => by
  rcases B5.out j hj with h | h
  ·exact ⟨.inl (by rw [HRR.out]; exact h), (RNS.out j h).2⟩
  ·exact ⟨.inr h, by have := MLT.out; have := QLT.out; have := ZE.out; omega⟩)
 generalize hw13 : w12.setCell ⟨ps, 1 + n, none⟩ (.slice va12 ((yc (Q n)).length + 1) vc12) = w13 at *
 clear hw13
 have R13 := Hd (zb R12.out FS.out (fun e => by have := MLT.out; omega))
 have RH13 := Hd (zb RH12.out FS.out (fun e => by have := MLT.out; have := QLT.out; omega))
 have HM13 := Hd (HM12.out.keep FS.out (fun e => AA.out.1 e.symm))
 have ROW13 := Hd (zl B2.out FS.out (fun j hj e => (V12.out j hj).2.1 e))
 have SM13 := Hd (show ∃ M, Zb w13 ms M ∧ ∀ k x, (k, x) ∈ M ↔ ∃ i : Nat, i < 65 ∧ k.1 = (i : Int) ∧ ∃ e ∈ Q i, k.2 ∈ zS e.tx ∧ e.id = x from by
  obtain ⟨M2, h1, h2⟩ := SM12.out
  exact ⟨M2, h1.keep FS.out (fun e => AA.out.2.1 e.symm), h2⟩)
 have F13 := Hd (show Fr (Xf ps ma ms (R n)) w w13 from ((FE.out.mono (fun j e => .inr (.inl e))).trans B3.out (fun j _ e => .inr (.inr (.inr (by rw [HRR.out]; exact e))))).trans FS.out (fun j _ e => .inl e))
 have F9T := Hd (show Fr (fun j => j = ps ∨ j = ma ∨ (R n).ownBlock = some j) w9 w13 from (((show Fr (fun j => j = ps ∨ j = ma ∨ (R n).ownBlock = some j) w9 w10 from FU.out.mono (fun j e => .inr (.inl e))).trans0 FD10.out).trans B3.out (fun j _ e => .inr (.inr (by rw [HRR.out]; exact e)))).trans FS.out (fun j _ e => .inl e))
 have Z13 := Hd (show qk < w13.heap.size by have := FS.out.size; have := Z12.out; omega)
 have T13 := Hd (HT.out w13 (F13.out.mono (fun j e => HH.out.sub j (jE HN.out j e))))
 have AM13 := Hd (show ∃ M, qR w13 ma M ∧ ∀ k cs, (k, cs) ∈ M ↔ ∃ i : Nat, i < 65 ∧ k.1 = (i : Int) ∧ ∃ e ∈ qU Q n (Q n ++ [⟨idH t, t⟩]) i, e.id = k.2 ∧ cs = zaf C n (idH t) [.int .u32 t.ver, .slice ja t.ins.length jc, .slice ka t.outs.length kc] i k.2 from ⟨M1, HM13.out, fun k cs => by
  rw [UPD.out k cs, HMI.out]
  constructor
  ·rintro (⟨rfl, rfl⟩ | ⟨h1, i, hi, hki, a, ha, hak, hcs⟩)
   ·refine ⟨n, HN.out, rfl, ⟨idH t, t⟩, ?_, rfl, (X3 _ _ _ _).symm⟩
    rw [xh]
    exact List.mem_append_right _ (by simp)
   ·refine ⟨i, hi, hki, a, ?_, hak, ?_⟩
    ·by_cases c : i = n
     ·subst c; rw [xh]; exact List.mem_append_left _ ha
     ·rw [xY Q _ c]; exact ha
    ·rw [hcs, J9]
     by_cases c : i = n
     ·subst c; exact .inr (fun e => h1 (Prod.ext hki e))
     ·exact .inl c
  ·rintro ⟨i, hi, hki, a, ha, hak, hcs⟩
   by_cases c : i = n
   ·subst c
    rw [xh] at ha
    rcases List.mem_append.1 ha with ha | ha
    ·have hne : k.2 ≠ idH t := fun e => NIN.out (by rw [← e, ← hak]; exact List.mem_map.2 ⟨a, ha, rfl⟩)
     rw [J9 _ _ (.inr hne)] at hcs
     exact .inr ⟨fun e => hne (by rw [e]), i, hi, hki, a, ha, hak, hcs⟩
    ·obtain rfl := List.mem_singleton.1 ha
     have hk2 : k = ((i : Int), idH t) := Prod.ext hki hak.symm
     subst hk2
     rw [X3] at hcs
     exact .inl ⟨rfl, hcs⟩
   ·rw [xY Q _ c] at ha
    rw [J9 _ _ (.inl c)] at hcs
    exact .inr ⟨fun e => c (by have h : k.1 = (n : Int) := congrArg Prod.fst e; omega), i, hi, hki, a, ha, hak, hcs⟩⟩)
 have HPT := Hd (vP w13 T13.out (by have := INL.out; omega))
 have inl := INL.out.2.1
 have K0 := tru
 have K1 := tru
 go_wp2_with (first | ((with_reducible refine zn ?_); have mk := K0.out; refine zd rfl (zf (ty := 34) rfl rfl R13.out uT rT zR) ?_; go_frame) | (clear K1; go_at_call 33; refine HPT.out.mono ?_; rintro e w14 ⟨pv, rfl, hpo, f14⟩; obtain ⟨pa, pc', hpv⟩ := hpo.slice.arg.form; subst hpv; have F14 := Hd f14; have PO := Hd hpo; clear f14 hpo; go_frame))
 have POK := Hd (show ∀ q ∈ zS t, q.ok from fun q hq => by obtain ⟨y, hy, rfl⟩ := List.mem_map.1 hq; exact T13.out.oks.1 y hy)
 have PTL := Hd (qW t)
 have KI0 := Hd (show ZO w14 ps ma ms (vq R n (.slice va12 ((yc (Q n)).length + 1) vc12)) (zaf C n (idH t) [.int .u32 t.ver, .slice ja t.ins.length jc, .slice ka t.outs.length kc]) Q n (Q n ++ [⟨idH t, t⟩]) (idH t) (zS t) 0 from ⟨F14.out.obj OB13.out id, by
  obtain ⟨M2, h1, h2⟩ := AM13.out
  exact ⟨M2, h1.keep F14.out id, h2⟩, by
  obtain ⟨M2, h1, h2⟩ := SM13.out
  exact ⟨M2, h1.keep F14.out id, fun k y => by rw [h2]; simp, by have := zeM h1.nodup HH.out.val h2; omega⟩⟩)
 have RH14 := Hd (zb RH13.out F14.out id)
 have PNO := Hd (show ∀ j, (Value.slice pa t.ins.length pc').ownBlock = some j → w13.heap.size ≤ j from fun j hj => (PO.out.lt j hj).1)
 have F014 := Hd (F13.out.trans0 F14.out)
 go_loopw [89] (fun iv wi => ∃ m : Nat, iv = .int .i64 m ∧ m ≤ t.ins.length ∧ ZO wi ps ma ms (vq R n (.slice va12 ((yc (Q n)).length + 1) vc12)) (zaf C n (idH t) [.int .u32 t.ver, .slice ja t.ins.length jc, .slice ka t.outs.length kc]) Q n (Q n ++ [⟨idH t, t⟩]) (idH t) (zS t) m ∧ Fr (fun j => j = ms) w14 wi) (fun iv _ => t.ins.length - (intOf iv).toNat)
 case atStart => exact ⟨0, rfl, Nat.zero_le _, KI0.out, Fr.refl _ _⟩
 case round =>
  obtain ⟨m, rfl, hm, hki, hfi⟩ := hrel
  rename World => wi
  have KI := Hd hki
  have FI := Hd hfi
  have RHI := Hd (zb RH14.out FI.out (fun e => by have := MLT.out; have := QLT.out; omega))
  clear hki hfi
  by_cases hmt : m < t.ins.length
  ·have i2 : (m : Int) < (t.ins.length : Int) := by omega
   obtain ⟨q, hq⟩ : ∃ q, (zS t)[m]? = some q := ⟨_, List.getElem?_eq_getElem (by rw [PTL.out]; exact hmt)⟩
   have QOK := Hd (POK.out q (List.mem_of_getElem? hq))
   have SPN := Hd (NSP.out q (List.mem_of_getElem? hq))
   have POI := Hd (zl PO.out FI.out (fun j hj e => by have := PNO.out j hj; have := MLT.out; have := QLT.out; have := Z13.out; omega))
   have hpi : qg wi (.slice pa t.ins.length pc') (zS t) := ⟨POK.out, by rw [PTL.out]; exact POI.out.slice.arg⟩
   obtain ⟨b2, off2, cap2, e2, hr2, -⟩ := hpi.at_ hq
   injection e2 with e3 e4 e5
   subst e3
   have R2 := Hd hr2
   have PL := Hd (yb QOK.out)
   have RQ := Hd (zC wi (zB q) 95)
   have FQ := Hd ((Fr.refl No wi).alloc (.cells (zB q).toArray 95))
   have SPL := Hd (QU (k := ((n : Int), q)) QOK.out)
   have TK := Hd (show ∀ y, y ∈ (zS t).take (m + 1) ↔ y = q ∨ y ∈ (zS t).take m from fun y => by
    rw [List.take_add_one, hq]
    simp [or_comm])
   have QZ := Hd (show qh < wi.heap.size by have := FI.out.size; have := F14.out.size; have := Z13.out; have := QLT.out; omega)
   clear hr2 hq e4 e5 hpi
   have K0 := tru
   have K1 := tru
   go_wp2_with (first | ((with_reducible refine zn ?_); have mk := K0.out; refine zd rfl (zf (ty := 95) rfl rfl R2.out uP rP (by rw [PL.out]; exact zL)) ?_; go_frame) | ((with_reducible refine zA ?_); have mk := K1.out; refine zq rfl (zm (w := wi) (ty := 95) (cs := zB q) rfl rfl rfl (by rw [PL.out]; rfl) (by rw [PL.out]; exact zL) y3) ?_; go_frame))
   generalize hqq : wi.heap.size = qq at *
   generalize hwb : wi.alloc (.cells (zB q).toArray 95) = wb at *
   have FQD := Hd FQ.out.drew
   have KD := Hd (KI.out.fr0 FQD.out)
   have RQD := Hd (zb RQ.out (Fr.refl No wb).drew id)
   have RHQ := Hd (zb RHI.out FQD.out id)
   clear hwb
   refine zv [false, false, false, false, false, false, false, false, true] (fun w' => w'.cell? ⟨ps, 66, none⟩ = some (.map (some ms)) ∧ w'.rangeAt qq 0 (zB q) ∧ w'.rangeAt qh 0 (zj (idH t))) (by kernel_rfl) (by kernel_rfl) ?_ (fun K hK => ?_)
   ·exact ⟨KD.out.c66, RQD.out, RHQ.out⟩
   generalize wb.drew = z1 at *
   obtain ⟨M2, hM2, hm2, hl2⟩ := KD.out.sm
   obtain ⟨w5, M5, hup, hm5, hupd, htu, hml⟩ := hM2.upd zhR.keyed Xr (fun _ _ => QK) (QV (k := ((n : Int), q)) (Qz HN.out) QOK.out) (show M2.length < maxLen by unfold maxLen; have := INL.out; omega) (idH t)
   have HR5 := Hd hup
   have FM := Hd htu.fr
   have NMS := Hd (show ps ≠ ms ∧ ma ≠ ms from ⟨AA.out.2.1, AA.out.2.2⟩)
   have KI5 := Hd (show ZO w5 ps ma ms (vq R n (.slice va12 ((yc (Q n)).length + 1) vc12)) (zaf C n (idH t) [.int .u32 t.ver, .slice ja t.ins.length jc, .slice ka t.outs.length kc]) Q n (Q n ++ [⟨idH t, t⟩]) (idH t) (zS t) (m + 1) from ⟨FM.out.obj KD.out.obj NMS.out.1, by
    obtain ⟨Ma, h1, h2⟩ := KD.out.am
    exact ⟨Ma, h1.keep FM.out NMS.out.2, h2⟩, ⟨M5, hm5, (fun k y => by
    rw [hupd k y, hm2, TK.out]
    constructor
    ·rintro (⟨rfl, rfl⟩ | ⟨h1, (⟨h2, h3, h4⟩ | h2)⟩)
     ·exact .inl ⟨rfl, .inl rfl, rfl⟩
     ·exact .inl ⟨h2, .inr h3, h4⟩
     ·exact .inr h2
    ·rintro (⟨h1, h2, rfl⟩ | h2)
     ·by_cases e : k.2 = q
      ·exact .inl ⟨Prod.ext h1 e, rfl⟩
      ·exact .inr ⟨fun c => e (by rw [c]), .inl ⟨h1, h2.resolve_left e, rfl⟩⟩
     ·refine .inr ⟨fun c => ?_, .inr h2⟩
      obtain ⟨i, hi, hki, e, he, hqe, -⟩ := h2
      subst c
      have hin : (n : Int) = (i : Int) := hki
      have : i = n := by omega
      subst this
      have h := SPN.out
      rw [vQ.2 ⟨e, he, hqe⟩] at h
      cases h), (by omega)⟩⟩)
   have F5 := Hd (show Fr (fun j => j = ms) w14 w5 from (FI.out.trans0 FQD.out).trans FM.out (fun j _ e => e))
   have R5 := Hd (zb RQD.out FM.out (fun e => by have := MLT.out; have := QLT.out; have := QZ.out; omega))
   have RH5 := Hd (zb RHQ.out FM.out (fun e => by have := MLT.out; have := QLT.out; omega))
   clear hup hm5 hupd htu hml hM2 hm2 hl2
   unfold spV yW at HR5
   repeat (first | ((first | with_reducible refine zx ?_ | ((with_reducible refine zu ?_ ?_); (focus rfl))); apply Exists.intro; refine ⟨?_, ?_⟩; (focus (first | exact zD (ty := 95) rfl (fun w h => h.2.1) uP rP (by rw [PL.out]; exact zL) | exact zD (ty := 41) rfl (fun w h => h.2.2) uH rH (by rw [XL.out]; exact zr) | exact fun w' _ => y4 (t := 118) rfl rfl Vg (zbR _ QOK.out) (Vj _ _) SPL.out | (intro w' hS; obtain ⟨s1, s2, s3⟩ := hS; go_simp; (try with_reducible rfl); done))); try simp only [Act.put, pA, pB, pC]) | ((first | ((with_reducible refine zg (c := false) ?_ ?_ ?_); (focus rfl); (focus rfl)) | ((with_reducible refine zg (c := true) ?_ ?_ ?_); (focus rfl); (focus rfl)) | ((with_reducible refine zt ?_ ?_); (focus rfl))); try simp only [Act.put, pA, pB, pC]))
   (first | with_reducible refine zU (fun K' hK' => ?_) | ((with_reducible refine zK ?_ (fun K' hK' => ?_)); (focus rfl)))
   refine xb (y5 rfl rfl rfl rfl HR5.out) ?_
   refine hK'.out _ _ ?_ (fun hS => ?_)
   ·exact ⟨KI5.out.c66, R5.out, RH5.out⟩
   try simp only [Act.put]
   refine zM (hK.out _ _ ?_)
   go_wp2_with fail
   go_roundw
   case rel => exact ⟨m + 1, by go_num, by omega, KI5.out, F5.out⟩
   case measure => simp [intOf]; omega
  ·have hme : m = t.ins.length := by omega
   have i2 : ¬ (m : Int) < (t.ins.length : Int) := by omega
   have TKA := Hd (show (zS t).take m = zS t by rw [hme, ← PTL.out, List.take_length])
   clear hme
   go_wp2_with fail
   go_ret
   have FT : Fr (Xf ps ma ms (R n)) w wi := F014.out.trans FI.out (fun j _ e => .inr (.inr (.inl e)))
   have F9W : Fr (fun j => j = ps ∨ j = ma ∨ j = ms ∨ (R n).ownBlock = some j) w9 wi := ((F9T.out.mono (fun j e => e.elim .inl (fun e => .inr (e.elim .inl (fun e => .inr (.inr e)))))).trans0 F14.out).trans FI.out (fun j _ e => .inr (.inr (.inl e)))
   have WQ : w.heap.size ≤ we.heap.size := by have := QLT.out; have := ZE.out; omega
   refine ⟨by rw [KZ.out]; rfl, FT, .slice va12 ((yc (Q n)).length + 1) vc12, zaf C n (idH t) [.int .u32 t.ver, .slice ja t.ins.length jc, .slice ka t.outs.length kc], fun j hj => (V12.out j hj).1.imp_right (fun h => Nat.le_trans WQ h), ?_⟩
   rw [KL.out]
   refine HH.out.upd HN.out FT KI.out.obj ?_ KI.out.am ?_ (fun e he => ?_) (fun i hi => ?_) ?_ (fun j hj => (V12.out j hj).1.imp_right (fun h => Nat.le_trans WQ h)) (fun j hj e => ?_) (fun j hj => ?_)
   ·have e1 : yc (Q n ++ [⟨idH t, t⟩]) = yc (Q n) ++ [idH t] := by simp [yc]
    rw [e1, List.length_append, List.length_singleton, List.flatMap_append]
    have h1 := zl (zl ROW13.out F14.out (fun _ _ => id)) FI.out (fun j hj e => (V12.out j hj).2.2.2 e)
    simpa using h1
   ·obtain ⟨M2, h1, h2, -⟩ := KI.out.sm
    refine ⟨M2, h1, fun k y => ?_⟩
    rw [h2, TKA.out]
    constructor
    ·rintro (⟨h3, h4, rfl⟩ | ⟨i, hi, hki, e, he, hqe, hey⟩)
     ·refine ⟨n, HN.out, h3, ⟨idH t, t⟩, ?_, h4, rfl⟩
      rw [xh]
      exact List.mem_append_right _ (by simp)
     ·refine ⟨i, hi, hki, e, ?_, hqe, hey⟩
      by_cases c : i = n
      ·subst c; rw [xh]; exact List.mem_append_left _ he
      ·rw [xY Q _ c]; exact he
    ·rintro ⟨i, hi, hki, e, he, hqe, hey⟩
     by_cases c : i = n
     ·subst c
      rw [xh] at he
      rcases List.mem_append.1 he with he | he
      ·exact .inr ⟨i, hi, hki, e, he, hqe, hey⟩
      ·obtain rfl := List.mem_singleton.1 he
       exact .inl ⟨hki, hqe, hey.symm⟩
     ·rw [xY Q _ c] at he
      exact .inr ⟨i, hi, hki, e, he, hqe, hey⟩
   ·rcases List.mem_append.1 he with he | he
    ·have hne : e.id ≠ idH t := fun c => NIN.out (by rw [← c]; exact List.mem_map.2 ⟨e, he, rfl⟩)
     rw [J9 _ _ (.inr hne)]
     refine (HH.out.data n HN.out e he).step (FT.mono (fun j c => HH.out.sub j (jE HN.out j c))) (fun j hj c => c.elim id (fun c => ?_))
     rcases (V12.out j c).1 with h | h
     ·exact HH.out.sub j (.inr (.inr (.inr ⟨n, HN.out, h⟩)))
     ·omega
    ·obtain rfl := List.mem_singleton.1 he
     rw [X3]
     refine (KP9.out X (fun j hj => by have := HXL.out j hj; have := FD.out.size; omega)).step (F9W.mono (fun j c => ?_)) (fun j hj c => c.elim id (fun c => ?_))
     ·rcases c with c | c | c | c
      ·exact HH.out.sub j (.inl c)
      ·exact HH.out.sub j (.inr (.inl c))
      ·exact HH.out.sub j (.inr (.inr (.inl c)))
      ·exact HH.out.sub j (.inr (.inr (.inr ⟨n, HN.out, c⟩)))
     ·rcases (V12.out j c).1 with h | h
      ·exact HH.out.sub j (.inr (.inr (.inr ⟨n, HN.out, h⟩)))
      ·have h1 := FU.out.size
       have h2 := FD10.out.size
       omega
   ·funext y
    exact J9 _ _ (.inl hi)
   ·have := (HH.out.val n).keep (S := S) (I := I) (L := L) t
    rw [KL.out] at this
    exact this
   ·rcases e with e | e
    ·exact e
    ·rcases (V12.out j e).1 with h | h
     ·exact HH.out.sub j (.inr (.inr (.inr ⟨n, HN.out, h⟩)))
     ·omega
   ·rcases hj with e | e | e | ⟨i, hi, e⟩
    ·exact .inl (HH.out.sub j (.inl e))
    ·exact .inl (HH.out.sub j (.inr (.inl e)))
    ·exact .inl (HH.out.sub j (.inr (.inr (.inl e))))
    ·unfold vq at e
     by_cases c : i = n
     ·rw [if_pos c] at e
      exact .inr e
     ·rw [if_neg c] at e
      exact .inl (HH.out.sub j (.inr (.inr (.inr ⟨i, hi, e⟩))))
end
end Go.Proofs.YtdkkjchclkjleaaGreatDoor
