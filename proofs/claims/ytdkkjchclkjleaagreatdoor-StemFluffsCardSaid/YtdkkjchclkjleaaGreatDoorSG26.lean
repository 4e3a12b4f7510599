/- pool: Spent, has, Find. -/
import Derived.Test.YtdkkjchclkjleaaGreatDoorSG25
import Derived.Test.YtdkkjchclkjleaaGreatDoorSG3
import Derived.Test.YtdkkjchclkjleaaGreatDoorSG10
set_option linter.unusedVariables false
set_option linter.unusedSimpArgs false
set_option linter.unnecessarySimpa false
set_option linter.all false
namespace Go.Proofs.YtdkkjchclkjleaaGreatDoor
open Go Go.RowKit Go.Maps Go.MapKept
section
variable {w0 w : World} {p ma ms g N : Nat} {VG X : Nat → Prop} {C : zi → List Value} {L : List z7}
theorem jH : ∀ v ∈ qu, v.oneCell' = true := by
 intro v hv
 simp only [qu, List.mem_cons, List.not_mem_nil, or_false] at hv
 rcases hv with rfl | rfl | rfl | rfl | rfl | rfl <;> rfl
theorem zfj.one {w : World} {e : z7} {cs : List Value} (h : zfj w e cs) : cs.length = 6 ∧ ∀ v ∈ cs, v.oneCell' = true := by
 obtain ⟨ia, ic, oa, oc, rfl⟩ := h.form
 refine ⟨rfl, fun v hv => ?_⟩
 simp only [List.mem_cons, List.not_mem_nil, or_false] at hv
 rcases hv with rfl | rfl | rfl | rfl | rfl | rfl <;> rfl
theorem zcs (h : yf w0 w p ma ms g VG X C L N) (x : zi) : (ZY C L x).length = 6 ∧ ∀ v ∈ ZY C L x, v.oneCell' = true := by
 unfold ZY
 split
 ·rename_i hx
  obtain ⟨e, he, rfl⟩ := List.mem_map.1 hx
  exact (h.data e he).now.one
 ·exact ⟨rfl, jH⟩
set_option maxRecDepth 20000 in
set_option maxHeartbeats 2000000 in
theorem zed (h : yf w0 w p ma ms g VG X C L N) {q : zF} (hq : q.ok) : Calls Tryz.prog 75 #[.pointer (some ⟨p, 0, none⟩), .agg (zB q).toArray] w fun e w' => e = .returned (.bool (xw L q)) ∧ Fr No w w' := by
 obtain ⟨dP, uP, rP⟩ := xr
 obtain ⟨dH, uH, rH⟩ := yj
 obtain ⟨M, hM, hm⟩ := h.sm
 have f1 : Fr No w (w.alloc (.cells (zB q).toArray 95)) := (Fr.refl No w).alloc _
 have c0 := (h.fr0 f1).cells.2.1
 have HM := Hd (hM.keep f1 id)
 have RB := Hd (zC w (zB q) 95)
 have PL := Hd (yb hq)
 have zh := y6
 have LK := Hd (fun w' (h' : Qf w' ms M) => zhJ (w := w') hq h' hm)
 have F1 := Hd f1
 have HL := Hd (zE (ziu h.ids q))
 generalize xw L q = b at *
 generalize zfE L q = y at *
 clear h hM f1 hm
 go_enter Tryz.func75, Tryz.ntmps75
 go_wp2_with fail
 generalize hq1 : w.heap.size = n at *
 generalize w.alloc (.cells (zB q).toArray 95) = wz at *
 refine zv [false, false, false, false, false, false, false, false, false, true, true, false] (fun w' => w'.cell? ⟨p, 1, none⟩ = some (.map (some ms)) ∧ w'.rangeAt n 0 (zB q) ∧ Qf w' ms M) (by kernel_rfl) (by kernel_rfl) ?_ (fun K hK => ?_)
 ·exact ⟨(Fr.refl No _).drew.cell c0 id, zb RB.out (Fr.refl No _).drew id, HM.out.keep (Fr.refl No _).drew id⟩
 repeat (first | ((first | with_reducible refine zx ?_ | ((with_reducible refine zu ?_ ?_); (focus rfl))); apply Exists.intro; refine ⟨?_, ?_⟩; (focus (first | exact zD (ty := 95) rfl (fun w h => h.2.1) uP rP (by rw [PL.out]; exact zL) | exact fun w' h => zN (t := 134) rfl rfl rfl (LK.out w' h.2.2) | (intro w' hS; obtain ⟨s1, s2, s3⟩ := hS; go_simp; (try with_reducible rfl); done))); try simp only [Act.put, pA, pB, pC]) | ((first | ((with_reducible refine zg (c := false) ?_ ?_ ?_); (focus rfl); (focus rfl)) | ((with_reducible refine zg (c := true) ?_ ?_ ?_); (focus rfl); (focus rfl)) | ((with_reducible refine zt ?_ ?_); (focus rfl))); try simp only [Act.put, pA, pB, pC]))
 (first | with_reducible refine zU (fun K' hK' => ?_) | ((with_reducible refine zK ?_ (fun K' hK' => ?_)); (focus rfl)))
 refine yB (yZ rfl (y6 _)) ?_
 refine hK'.out _ _ ?_ (fun hS => ?_)
 ·exact ⟨(((Fr.refl No wz).drew).alloc _).cell c0 id, zb RB.out (((Fr.refl No wz).drew).alloc _) id, HM.out.keep (((Fr.refl No wz).drew).alloc _) id⟩
 try simp only [Act.put, pA, pB, pC]
 (first | with_reducible refine zU (fun K' hK' => ?_) | ((with_reducible refine zK ?_ (fun K' hK' => ?_)); (focus rfl)))
 refine xb (zm (w := wz.drew) (ty := 41) (cs := zj y) rfl rfl rfl (by rw [HL.out]; rfl) (by rw [HL.out]; exact zr) zV) ?_
 refine hK'.out _ _ ?_ (fun hS => ?_)
 ·exact ⟨(((Fr.refl No wz).drew).alloc _).cell c0 id, zb RB.out (((Fr.refl No wz).drew).alloc _) id, HM.out.keep (((Fr.refl No wz).drew).alloc _) id⟩
 try simp only [Act.put]
 repeat (first | ((first | with_reducible refine zx ?_ | ((with_reducible refine zu ?_ ?_); (focus rfl))); apply Exists.intro; refine ⟨?_, ?_⟩; (focus (first | (intro w' hS; obtain _ := hS; go_simp; (try with_reducible rfl); done))); try simp only [Act.put, pA, pB, pC]) | ((first | ((with_reducible refine zg (c := false) ?_ ?_ ?_); (focus rfl); (focus rfl)) | ((with_reducible refine zg (c := true) ?_ ?_ ?_); (focus rfl); (focus rfl)) | ((with_reducible refine zt ?_ ?_); (focus rfl))); try simp only [Act.put, pA, pB, pC]))
 refine zM (hK.out _ _ ?_)
 have F2 := Hd ((F1.out.drew.alloc (.cells (zj y).toArray 41)))
 go_wp2_with fail
 go_ret
 exact ⟨rfl, F2.out⟩
set_option maxRecDepth 20000 in
set_option maxHeartbeats 2000000 in
theorem zjS (h : yf w0 w p ma ms g VG X C L N) {x : zi} (hx : zQ x) : Calls Tryz.prog 99 #[.pointer (some ⟨p, 0, none⟩), .agg (zj x).toArray] w fun e w' => e = .returned (.bool (decide (x ∈ xD L))) ∧ Fr No w w' := by
 obtain ⟨dH, uH, rH⟩ := yj
 obtain ⟨M, hM, hm⟩ := h.am
 have f1 : Fr No w (w.alloc (.cells (zj x).toArray 41)) := (Fr.refl No w).alloc _
 have c0 := (h.fr0 f1).cells.1
 have HM := Hd (hM.keep f1 id)
 have RB := Hd (zC w (zj x) 41)
 have PL := Hd (zE hx)
 have LK := Hd (fun w' (h' : qA w' ma M) => Vv (w := w') hx h' hm true)
 have F1 := Hd f1
 obtain ⟨y, hy⟩ : ∃ y, ZY C L x = y ∧ y.length = 6 ∧ ∀ v ∈ y, v.oneCell' = true := ⟨_, rfl, zcs h x⟩
 have HL := Hd hy.2.1
 have HO := Hd hy.2.2
 rw [hy.1] at LK
 generalize decide (x ∈ xD L) = b at *
 clear h hM f1 hm hy
 go_enter Tryz.func99, Tryz.ntmps99
 go_wp2_with fail
 generalize hq1 : w.heap.size = n at *
 generalize w.alloc (.cells (zj x).toArray 41) = wz at *
 refine zv [false, false, false, false, false, false, false, false, false, true, true, false] (fun w' => w'.cell? ⟨p, 0, none⟩ = some (.map (some ma)) ∧ w'.rangeAt n 0 (zj x) ∧ qA w' ma M) (by kernel_rfl) (by kernel_rfl) ?_ (fun K hK => ?_)
 ·exact ⟨(Fr.refl No _).drew.cell c0 id, zb RB.out (Fr.refl No _).drew id, HM.out.keep (Fr.refl No _).drew id⟩
 repeat (first | ((first | with_reducible refine zx ?_ | ((with_reducible refine zu ?_ ?_); (focus rfl))); apply Exists.intro; refine ⟨?_, ?_⟩; (focus (first | exact zD (ty := 41) rfl (fun w h => h.2.1) uH rH (by rw [PL.out]; exact zr) | exact fun w' h => zN (t := 133) rfl rfl rfl (LK.out w' h.2.2) | (intro w' hS; obtain ⟨s1, s2, s3⟩ := hS; go_simp; (try with_reducible rfl); done))); try simp only [Act.put, pA, pB, pC]) | ((first | ((with_reducible refine zg (c := false) ?_ ?_ ?_); (focus rfl); (focus rfl)) | ((with_reducible refine zg (c := true) ?_ ?_ ?_); (focus rfl); (focus rfl)) | ((with_reducible refine zt ?_ ?_); (focus rfl))); try simp only [Act.put, pA, pB, pC]))
 (first | with_reducible refine zU (fun K' hK' => ?_) | ((with_reducible refine zK ?_ (fun K' hK' => ?_)); (focus rfl)))
 refine yB (yZ rfl (Xh _)) ?_
 refine hK'.out _ _ ?_ (fun hS => ?_)
 ·exact ⟨(((Fr.refl No wz).drew).alloc _).cell c0 id, zb RB.out (((Fr.refl No wz).drew).alloc _) id, HM.out.keep (((Fr.refl No wz).drew).alloc _) id⟩
 try simp only [Act.put, pA, pB, pC]
 (first | with_reducible refine zU (fun K' hK' => ?_) | ((with_reducible refine zK ?_ (fun K' hK' => ?_)); (focus rfl)))
 refine xb (zm (w := wz.drew) (ty := 129) (cs := y) rfl rfl rfl (by rw [HL.out]; rfl) (by rw [HL.out]; exact xJ) HO.out) ?_
 refine hK'.out _ _ ?_ (fun hS => ?_)
 ·exact ⟨(((Fr.refl No wz).drew).alloc _).cell c0 id, zb RB.out (((Fr.refl No wz).drew).alloc _) id, HM.out.keep (((Fr.refl No wz).drew).alloc _) id⟩
 try simp only [Act.put]
 repeat (first | ((first | with_reducible refine zx ?_ | ((with_reducible refine zu ?_ ?_); (focus rfl))); apply Exists.intro; refine ⟨?_, ?_⟩; (focus (first | (intro w' hS; obtain _ := hS; go_simp; (try with_reducible rfl); done))); try simp only [Act.put, pA, pB, pC]) | ((first | ((with_reducible refine zg (c := false) ?_ ?_ ?_); (focus rfl); (focus rfl)) | ((with_reducible refine zg (c := true) ?_ ?_ ?_); (focus rfl); (focus rfl)) | ((with_reducible refine zt ?_ ?_); (focus rfl))); try simp only [Act.put, pA, pB, pC]))
 refine zM (hK.out _ _ ?_)
 have F2 := Hd ((F1.out.drew.alloc (.cells y.toArray 129)))
 go_wp2_with fail
 go_ret
 exact ⟨rfl, F2.out⟩
def YD (L : List z7) (x : zi) : List yF := ((Yh L x).map (·.tx.outs)).getD []
theorem zdm (L : List z7) (q : zF) : yQ L q = (YD L q.tx)[q.n.toNat]? := by
 unfold yQ YD
 cases Yh L q.tx with
 | none => rfl
 | some e => rfl
theorem YW {n : Nat} (h : n ≤ maxLen) : IntKind.u64.wrap (n : Int) = n := by
 unfold maxLen at h
 simp [IntKind.wrap, IntKind.signed, IntKind.bits]
 omega
theorem VP (w : World) : xz w (.slice none 0 0) [] := ⟨by simp, .inl (.inl ⟨rfl, rfl, rfl⟩)⟩
theorem zfN (h : yf w0 w p ma ms g VG X C L N) (x : zi) : ∃ v ia il ic oa oc f s a, ZY C L x = [.int .u32 v, .slice ia il ic, .slice oa (YD L x).length oc, .int .u64 f, .int .i64 s, .int .u64 a] ∧ xz w (.slice oa (YD L x).length oc) (YD L x) := by
 unfold ZY
 by_cases hx : x ∈ xD L
 ·rw [if_pos hx]
  obtain ⟨e, he, rfl⟩ := List.mem_map.1 hx
  have ho : YD L e.id = e.tx.outs := by unfold YD; rw [zcM h.nd he]; rfl
  obtain ⟨t, e1, ia, ic, oa, oc, rfl, -, -, h3⟩ := (h.data e he).now
  rw [ho, e1]
  exact ⟨e.tx.ver, ia, _, ic, oa, oc, e.fee, e.size, e.added, rfl, h3⟩
 ·rw [if_neg hx]
  have ho : YD L x = [] := by unfold YD; rw [zfa.2 hx]; rfl
  rw [ho]
  exact ⟨0, none, 0, 0, none, 0, 0, 0, 0, rfl, VP w⟩
theorem zes (w : World) : (Instr.build 103 #[]).run Tryz.prog w = .ok (.agg (zG yR).toArray) w := by kernel_rfl
set_option maxRecDepth 20000 in
set_option maxHeartbeats 4000000 in
theorem zgU (h : yf w0 w p ma ms g VG X C L N) {q : zF} (hq : q.ok) : Calls Tryz.prog 127 #[.pointer (some ⟨p, 0, none⟩), .agg (zB q).toArray] w fun e w' => e = .returned (.tuple #[.agg (zG ((yQ L q).getD yR)).toArray, .bool (yQ L q).isSome]) ∧ Fr No w w' := by
 obtain ⟨dP, uP, rP⟩ := xr
 obtain ⟨dH, uH, rH⟩ := yj
 obtain ⟨dO, uO, rO⟩ := vA
 obtain ⟨M, hM, hm⟩ := h.am
 have zo := qT
 have f1 : Fr No w ((w.alloc (.cells (zB q).toArray 95)).alloc (.cells (zG yR).toArray 103)) := ((Fr.refl No w).alloc _).alloc _
 have c0 := (h.fr0 f1).cells.1
 have HM := Hd (hM.keep f1 id)
 have RB := Hd (zb (zC w (zB q) 95) ((Fr.refl No _).alloc (.cells (zG yR).toArray 103)) id)
 have HRC := Hd (yL (w.alloc (.cells (zB q).toArray 95)) (.cells (zG yR).toArray 103) (n := w.heap.size + 1) (by simp))
 have HSZ := Hd (show ((w.alloc (.cells (zB q).toArray 95)).alloc (.cells (zG yR).toArray 103)).heap.size = w.heap.size + 2 by simp)
 have QL := Hd (zE hq.1)
 have QOK := Hd hq
 have F1 := Hd f1
 obtain ⟨v, ia, il, ic, oa, oc, f, s, a, hc, ho⟩ := zfN h q.tx
 have LK := Hd (fun w' (h' : qA w' ma M) => Yp (w := w') hq.1 h' hm hc)
 have HO := Hd (ho.keep (f1.drew))
 have hlen := ho.2.len
 have hn0 := hq.2.1
 have hn1 := hq.2.2
 rw [zdm]
 generalize YD L q.tx = O at *
 clear h hM f1 hm hc ho
 go_enter Tryz.func127, Tryz.ntmps127
 go_wp2_with fail
 generalize hq1 : w.heap.size = n at *
 generalize (w.alloc (.cells (zB q).toArray 95)).alloc (.cells (zG yR).toArray 103) = wz at *
 refine zv [false, false, false, false, false, false, false, false, false, false] (fun w' => w'.cell? ⟨p, 0, none⟩ = some (.map (some ma)) ∧ w'.rangeAt n 0 (zB q) ∧ qA w' ma M) (by kernel_rfl) (by kernel_rfl) ?_ (fun K hK => ?_)
 ·exact ⟨(Fr.refl No _).drew.cell c0 id, zb RB.out (Fr.refl No _).drew id, HM.out.keep (Fr.refl No _).drew id⟩
 repeat (first | ((first | with_reducible refine zx ?_ | ((with_reducible refine zu ?_ ?_); (focus rfl))); apply Exists.intro; refine ⟨?_, ?_⟩; (focus (first | exact zD (ty := 41) rfl (fun w h => (Qn h.2.1 QOK.out).1) uH rH (by have := QL.out; unfold zj at this; rw [this]; exact zr) | exact fun w' h => zN (t := 133) rfl rfl rfl (LK.out w' h.2.2) | exact fun w' _ => vS (t := 129) (f := 0) rfl rfl (ziU v ia oa il ic O.length oc f s a w') | exact fun w' _ => vS (t := 34) (f := 2) rfl rfl (zjM v ia oa il ic O.length oc w') | (intro w' hS; obtain ⟨s1, s2, s3⟩ := hS; go_simp; (try with_reducible rfl); done))); try simp only [Act.put, pA, pB, pC]) | ((first | ((with_reducible refine zg (c := false) ?_ ?_ ?_); (focus rfl); (focus rfl)) | ((with_reducible refine zg (c := true) ?_ ?_ ?_); (focus rfl); (focus rfl)) | ((with_reducible refine zt ?_ ?_); (focus rfl))); try simp only [Act.put, pA, pB, pC]))
 refine zM (hK.out _ _ ?_)
 have c32 : wz.drew.cell? ⟨n, 32, none⟩ = some (.int .u32 q.n) := by
  have := (Qn (zb RB.out (Fr.refl No wz).drew id) QOK.out).2
  simpa using this
 have OB := Hd ((Fr.refl No wz).drew.obj HRC.out id)
 clear c0 RB HM LK HRC
 by_cases hb : q.n.toNat < O.length
 ·have i1 : ¬ (O.length : Int) ≤ q.n := by omega
  obtain ⟨o, hoo⟩ : ∃ o, O[q.n.toNat]? = some o := ⟨_, List.getElem?_eq_getElem hb⟩
  obtain ⟨b, off, cap, e, hr, -⟩ := HO.out.at_ hoo
  injection e with e1 e2 e3
  subst e1
  subst e3
  have OK := Hd (HO.out.1 o (List.mem_of_getElem? hoo))
  have OL := Hd (yD OK.out)
  obtain ⟨k, hk⟩ : ∃ k : Nat, q.n = (k : Int) := Int.eq_ofNat_of_zero_le hn0
  have HN := Hd hoo
  rw [hk] at i1 hb hr c32 hn1
  simp only [Int.toNat_natCast] at hb hr
  have i2 : (k : Int) < IntKind.u64.wrap (O.length : Int) := by rw [YW hlen]; omega
  have R1 := Hd hr
  clear hr hoo hn0 hk
  have K0 := tru
  have K1 := tru
  go_wp2_with (first | ((with_reducible refine zn ?_); have mk := K0.out; with_reducible refine yk 31 ?_; refine zd rfl (zf (ty := 103) rfl rfl R1.out uO rO (by rw [OL.out]; exact zY)) ?_; go_frame) | ((with_reducible refine zA ?_); have mk := K1.out; refine zq rfl (z6 (ty := 103) (b := n + 1) (off := 0) (cs := zG o) rfl rfl rfl (by rw [OL.out]; exact yg OB.out (Nat.le_of_eq yw.symm)) (by rw [OL.out]; exact zY) ye) ?_; go_frame))
  refine bodyPost_ret (yO (P := Tryz.prog) (fn := Tryz.f127) rfl _ rfl (yY OB.out (by rw [OL.out]; exact yw)) uO rO (by rw [OL.out]; exact zY) rfl) rfl ⟨by rw [HN.out]; rfl, ?_⟩
  exact (F1.out.drew).trans (zJ _ _ _ _) (fun i hi e => by omega)
 ·have i1 : (O.length : Int) ≤ q.n := by omega
  have hno : O[q.n.toNat]? = none := List.getElem?_eq_none (by omega)
  have HN := Hd hno
  have OL := Hd (yD JE)
  clear hno hb
  have K0 := tru
  have K1 := tru
  go_wp2_with (first | ((with_reducible refine zn ?_); have mk := K0.out; with_reducible refine yk 26 ?_; refine zd rfl (yA (t := 103) rfl rfl (zes _)) ?_; go_frame) | ((with_reducible refine zA ?_); have mk := K1.out; refine zq rfl (z6 (ty := 103) (b := n + 1) (off := 0) (cs := zG yR) rfl rfl rfl (by rw [OL.out]; exact yg OB.out (Nat.le_of_eq yw.symm)) (by rw [OL.out]; exact zY) ye) ?_; go_frame))
  refine bodyPost_ret (yO (P := Tryz.prog) (fn := Tryz.f127) rfl _ rfl (yY OB.out (by rw [OL.out]; exact yw)) uO rO (by rw [OL.out]; exact zY) rfl) rfl ⟨by rw [HN.out]; rfl, ?_⟩
  exact (F1.out.drew).trans (zJ _ _ _ _) (fun i hi e => by omega)
end
end Go.Proofs.YtdkkjchclkjleaaGreatDoor
