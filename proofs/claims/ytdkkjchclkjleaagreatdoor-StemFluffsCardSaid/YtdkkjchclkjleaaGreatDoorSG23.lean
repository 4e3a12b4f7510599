/- kin: cut's walk. -/
import Derived.Test.YtdkkjchclkjleaaGreatDoorSG22
set_option linter.unusedVariables false
set_option linter.unusedSimpArgs false
set_option linter.unnecessarySimpa false
set_option linter.all false
namespace Go.Proofs.YtdkkjchclkjleaaGreatDoor
open Go Go.RowKit Go.Maps Go.MapKept
section
variable {w0 w : World} {p m sq : Nat}
theorem Qo.fr0 {wr w1 : World} {L L' : List ym} {T : List Tri} {r0 : ym} (h : Qo w0 w wr p m sq L L' T r0) (f : Fr No wr w1) : Qo w0 w w1 p m sq L L' T r0 :=
 ⟨h.gr.fr0 f, h.tri, h.r0, h.sub, h.fr.trans0 f⟩
theorem GR.lookR {L : List ym} (h : GR w0 w p m sq L) {r : ym} (hr : r ∈ L) (w' : World) (hk : ∀ M, xW w m M → xW w' m M) : (Instr.lookup 197 (.map (some m)) (.agg (zj r.id).toArray) false).run Tryz.prog w' = .ok (.pointer (some ⟨r.b, 0, none⟩)) w' :=
 (h.run_look (h.ok r hr).1 false rfl).1 r hr rfl w' hk
theorem GR.dis {A B : List ym} {r : ym} (h : GR w0 w p m sq (A ++ r :: B)) {j : Nat} (hj : r.pv.ownBlock = some j ∨ r.cv.ownBlock = some j) : j ≠ p ∧ j ≠ m ∧ j ≠ r.b ∧ j < w.heap.size := by
 have hap := h.apart
 rw [xg] at hap
 have hb : j ∈ r.blks := qf.2 (.inr hj)
 have h3 := (List.nodup_append.1 hap).2.2
 refine ⟨fun e => h3 p (by simp) j (by simp [hb]) e.symm, fun e => h3 m (by simp) j (by simp [hb]) e.symm, fun e => ?_, (h.node r (by simp)).hi j hb⟩
 obtain ⟨a1, a2, -⟩ := YX h.blks_nodup
 subst e
 exact hj.elim a1 a2
end
theorem Ze {ps : List zi} {n : Nat} {q : zi} (h : ps[n]? = some q) : ps.take (n + 1) = ps.take n ++ [q] := by rw [List.take_add_one, h]; rfl
theorem Yu {ps : List zi} {n : Nat} {q : zi} (hn : ps.Nodup) (h : ps[n]? = some q) : q ∉ ps.take n := by
 intro hm
 obtain ⟨i, hi⟩ := List.mem_iff_getElem?.1 hm
 have hil := (List.getElem?_eq_some_iff.1 hi).1
 simp only [List.length_take] at hil
 rw [List.getElem?_take_of_lt (by omega)] at hi
 have := (List.getElem?_inj (List.getElem?_eq_some_iff.1 hi).1 hn).1 (hi.trans h.symm)
 omega
section
variable {w0 w : World} {p N : Nat} {V : Nat → Prop} {G : List yE}
set_option maxRecDepth 20000 in
set_option maxHeartbeats 8000000 in
theorem zjR (h : GC w0 w p V G N) (hN : N ≤ 1000) {x : zi} (hx : zQ x) (hin : x ∈ ids G) :
  Calls Tryz.prog 132 #[.pointer (some ⟨p, 0, none⟩), .agg (zj x).toArray] w (zj6 w0 w p V G N x) := by
 obtain ⟨dK, uK, rK⟩ := yj
 obtain ⟨m, sq, L, hr, rfl, htri, hsq⟩ := h.tri
 obtain ⟨A0, r0, B0, hL0, hid, t0, ht0, hq0, hf0⟩ := Y6 (f := id) (fun _ => rfl) (by rw [htri, List.map_id]) (q := x) (by rw [jI]; exact hin)
 have hr0 : r0 ∈ L := by rw [hL0]; simp
 obtain ⟨n0, hn0, e0⟩ := List.mem_map.1 (show r0.t3 ∈ vZ G by rw [← htri]; exact List.mem_map.2 ⟨r0, hr0, rfl⟩)
 have hps : r0.ps = par G x := by
  unfold ym.t3 at e0
  injection e0 with e1 e2
  injection e2 with e2 e3
  rw [← e2, ← hid, ← e1, vY h.gok hn0]
 have hks : r0.ks = kid G x := by
  unfold ym.t3 at e0
  injection e0 with e1 e2
  injection e2 with e2 e3
  rw [← e3, ← hid, ← e1]
 have PSN := Hd (show r0.ps.Nodup by rw [hps]; obtain ⟨n1, hn1, e1⟩ := vJ.1 hin; rw [← e1, vY h.gok hn1]; exact h.gok.pn n1 hn1)
 have KSN := Hd (show r0.ks.Nodup by rw [hks]; exact ze3 h.gok x)
 have PSI := Hd (show ∀ q ∈ r0.ps, q ∈ ids G from fun q hq => zbZ h.gok (x := x) (by rw [← hps]; exact hq))
 have KSI := Hd (show ∀ q ∈ r0.ks, q ∈ ids G from fun q hq => ((Xx h.gok (x := x)).1 (by rw [← hks]; exact hq)).1)
 have PSX := Hd (show ∀ q ∈ r0.ps, x ≠ q from fun q hq e => by
  rw [hps, ← e] at hq
  have := zbd h.gok (x := x) (y := x)
  obtain ⟨n1, hn1, e1⟩ := vJ.1 hin
  obtain ⟨A, B, e2⟩ := List.append_of_mem hn1
  rw [← e1, vY h.gok hn1] at hq
  have h1 := h.gok.top A n1 B e2 _ hq
  have h2 := h.gok.nd
  rw [e2] at h2
  simp only [ids, List.map_append, List.map_cons] at h1 h2
  exact (List.nodup_append.1 h2).2.2 _ h1 n1.id (by simp) rfl)
 have KSX := Hd (show ∀ q ∈ r0.ks, x ≠ q from fun q hq e => by
  rw [hks, ← e] at hq
  exact PSX.out x (by rw [hps]; exact ((Xx h.gok).1 hq).2) rfl)
 have PL := Hd (show r0.ps.length ≤ 1000 by rw [hps]; have := zb1 h.gok x; have := h.len; omega)
 have KL := Hd (show r0.ks.length ≤ 1000 by rw [hks]; have := Va (G := G) x; have := h.len; omega)
 have OK0 := Hd (show zQ r0.id ∧ (∀ y ∈ r0.ps, zQ y) ∧ ∀ y ∈ r0.ks, zQ y from hr.ok r0 hr0)
 have TN := Hd (show ((vZ G).map (·.1)).Nodup by rw [jI]; exact h.gok.nd)
 have FIN := Hd (show vZ (YQ G x) = ((vZ G).map (QC x r0.ps r0.ks)).filter fun t => decide (t.1 ≠ x) by rw [hps, hks]; exact zhV h.gok x)
 have TKL := Hd (show ∀ t ∈ vZ G, t.2.1.length ≤ 1000 ∧ t.2.2.length ≤ 1000 from fun t ht => by
  obtain ⟨n, hn, rfl⟩ := List.mem_map.1 ht
  have h1 := zb1 h.gok n.id
  rw [vY h.gok hn] at h1
  have h2 := Va (G := G) n.id
  have := h.len
  exact ⟨Nat.le_trans h1 (by omega), Nat.le_trans h2 (by omega)⟩)
 have COK := Hd (zbA h.gok [x])
 rw [← zgn] at COK
 have CLN := Hd (show (YQ G x).length ≤ N by unfold YQ; rw [List.length_map]; exact Nat.le_trans (List.length_filter_le _ _) h.len)
 have XOK := Hd hx
 have HX := Hd (zE hx)
 have f1 : Fr No w (w.alloc (.cells (zj x).toArray 41)) := (Fr.refl No w).alloc _
 have RX := Hd (zC w (zj x) 41)
 have c0 := f1.cell (Xe hr.obj).1 id
 have HW := Hd hr.hi
 have HR1 := hr.fr0 f1
 have LK0 := Hd (HR1.lookR hr0)
 rw [hid] at LK0
 have ST0 := Hd (show Qo w0 w (w.alloc (.cells (zj x).toArray 41)) p m sq L L ((vZ G).map (zay x (r0.ps.take 0))) r0 from ⟨HR1, by
  rw [htri]
  conv => lhs; rw [← List.map_id (vZ G)]
  exact List.map_congr_left fun t _ => by simp [zay], hr0, fun _ h => h, f1.of0⟩)
 have SQ := Hd hsq
 have RID := Hd hid
 clear h hr htri hL0 ht0 hq0 hf0 hn0 e0 hps hks hin hx hsq HR1 hr0
 go_enter Tryz.func132, Tryz.ntmps132
 go_wp2_with fail
 have HB := Hd (show w.heap.size < (w.alloc (.cells (zj x).toArray 41)).heap.size by simp)
 generalize hbx : w.heap.size = bx at *
 generalize w.alloc (.cells (zj x).toArray 41) = w1 at *
 refine zv [false, false, false, false, false, false, false] (fun w' => w'.cell? ⟨p, 0, none⟩ = some (.map (some m)) ∧ w'.rangeAt bx 0 (zj x) ∧ (∀ M, xW w1 m M → xW w' m M)) (by kernel_rfl) (by kernel_rfl) ?_ (fun K hK => ?_)
 ·exact ⟨(Fr.refl No _).drew.cell c0 id, zb RX.out (Fr.refl No _).drew id, fun M hM => hM.keep (Fr.refl No _).drew id⟩
 repeat (first | ((first | with_reducible refine zx ?_ | ((with_reducible refine zu ?_ ?_); (focus rfl))); apply Exists.intro; refine ⟨?_, ?_⟩; (focus (first | exact zD (ty := 41) rfl (fun w h => h.2.1) uK rK (by rw [HX.out]; exact zr) | exact fun w' h => zN (t := 197) rfl rfl rfl (LK0.out w' h.2.2) | (intro w' hS; obtain ⟨s1, s2, s3⟩ := hS; go_simp; (try with_reducible rfl); done))); try simp only [Act.put, pA, pB, pC]) | ((first | ((with_reducible refine zg (c := false) ?_ ?_ ?_); (focus rfl); (focus rfl)) | ((with_reducible refine zg (c := true) ?_ ?_ ?_); (focus rfl); (focus rfl)) | ((with_reducible refine zt ?_ ?_); (focus rfl))); try simp only [Act.put, pA, pB, pC]))
 refine zM (hK.out _ _ ?_)
 have ST1 := Hd (ST0.out.fr0 (Fr.refl No _).drew)
 have RX1 := Hd (zb RX.out (Fr.refl No _).drew id)
 have HB1 := Hd (show bx < w1.drew.heap.size from HB.out)
 clear c0 LK0 ST0 RX HB
 generalize w1.drew = w2 at *
 obtain ⟨pa, pc, hpv⟩ := (ST1.out.gr.node r0 ST1.out.r0).prow.slice.arg.form
 obtain ⟨ca, cc, hcv⟩ := (ST1.out.gr.node r0 ST1.out.r0).crow.slice.arg.form
 have cp := (Zl (ST1.out.gr.node r0 ST1.out.r0).blk).2.1
 rw [hpv] at cp
 have PV := Hd hpv
 have CV := Hd hcv
 clear hpv hcv
 go_wp2_with fail
 go_loopw [22] (fun iv wr => ∃ (n : Nat) (L' : List ym), iv = .int .i64 n ∧ n ≤ r0.ps.length ∧ Qo w0 w wr p m sq L L' ((vZ G).map (zay x (r0.ps.take n))) r0 ∧ wr.rangeAt bx 0 (zj x) ∧ bx < wr.heap.size) (fun iv _ => r0.ps.length - (intOf iv).toNat)
 case atStart => exact ⟨0, L, rfl, Nat.zero_le _, ST1.out, RX1.out, HB1.out⟩
 case round =>
  obtain ⟨n, L', rfl, hn, hst, hrx, hbs⟩ := hrel
  by_cases h : n < r0.ps.length
  ·have i1 : (n : Int) < (r0.ps.length : Int) := by omega
   obtain ⟨q, hq⟩ : ∃ q, r0.ps[n]? = some q := ⟨_, List.getElem?_eq_getElem h⟩
   have QM := Hd (List.mem_of_getElem? hq)
   obtain ⟨A, r, B, rfl, hrid, t, ht, htq, htf⟩ := Y6 (f := zay x (r0.ps.take n)) (fun _ => rfl) hst.tri (q := q) (by rw [jI]; exact PSI.out q QM.out)
   have NR0 := (hst.gr.node r0 hst.r0).prow
   rw [PV.out] at NR0
   obtain ⟨bq, oq, cq, hvq, hrq, -⟩ := (yV.own NR0 OK0.out.2.1).at_ hq
   cases hvq
   have QOK := Hd (OK0.out.2.1 q QM.out)
   have HQ := Hd (zE QOK.out)
   have R1 := Hd hrq
   have FA := Hd ((Fr.refl No wr).alloc (.cells (zj q).toArray 41))
   have RN := Hd (zC wr (zj q) 41)
   have STa := Hd (hst.fr0 FA.out)
   have RXa := Hd (zb hrx FA.out id)
   have HBa := Hd (Nat.lt_of_lt_of_le hbs FA.out.size)
   have HBq := Hd hbs
   have QT := Hd (Ze hq)
   have QN := Hd (Yu PSN.out hq)
   have QX := Hd (PSX.out q QM.out)
   have hpl := PL.out
   have LEN := Hd (show r.ks.length ≤ 1000 by
    have h1 := TKL.out t ht
    have e1 := congrArg (fun z : Tri => z.2.2) htf
    simp only [zay, ym.t3] at e1
    rw [htq, if_neg QN.out] at e1
    rw [← e1]
    exact h1.2)
   clear hst hrx hbs hq hrq NR0 htf ht htq
   subst hrid
   go_wp2_with (first | (refine zd rfl (zf (ty := 41) rfl rfl R1.out uK rK (by rw [HQ.out]; exact zr)) ?_) | (refine zq rfl (zm (w := wr) (cs := zj r.id) (ty := 41) rfl rfl rfl (by rw [HQ.out]; rfl) (by rw [HQ.out]; exact zr) zV) ?_))
   generalize hq4 : wr.heap.size = q4 at *
   generalize wr.alloc (.cells (zj r.id).toArray 41) = w3 at *
   have RM := Hd (show r ∈ A ++ r :: B by simp)
   have ND := Hd (STa.out.gr.node r RM.out)
   have ROK := Hd (show zQ r.id ∧ (∀ y ∈ r.ps, zQ y) ∧ ∀ y ∈ r.ks, zQ y from STa.out.gr.ok r RM.out)
   have DIS := Hd (fun j (hj : r.cv.ownBlock = some j) => STa.out.gr.dis (A := A) (B := B) (j := j) (.inr hj))
   have BLX := Hd (show ∀ j ∈ r.blks, j < bx from fun j hj => HW.out j (STa.out.sub j (by rw [xg]; simp [hj])))
   have OBX := Hd (show ∀ j, r.cv.ownBlock = some j → j < bx from fun j hj => BLX.out j (qf.2 (.inr (.inr hj))))
   have LK := Hd (STa.out.gr.lookR RM.out)
   have KP := Hd (fun (w' : World) (f : Fr (fun j => r.cv.ownBlock = some j) w3 w') => (⟨f.cell (Xe STa.out.gr.obj).1 (fun e => (DIS.out _ e).1 rfl), zb RN.out f (fun e => by have := OBX.out _ e; have := HBq.out; omega), fun M hM => hM.keep f (fun e => (DIS.out _ e).2.1 rfl), f.cell (Zl ND.out.blk).2.2.1 (fun e => (DIS.out _ e).2.2.1 rfl)⟩ : w'.cell? ⟨p, 0, none⟩ = some (.map (some m)) ∧ w'.rangeAt q4 0 (zj r.id) ∧ (∀ M, xW w3 m M → xW w' m M) ∧ w'.cell? ⟨r.b, 2, none⟩ = some r.cv))
   have FZ := Hd (fun (w' : World) (f : Fr (fun j => r.cv.ownBlock = some j) w3 w') => (⟨(Zl (f.obj ND.out.blk (fun e => (DIS.out _ e).2.2.1 rfl))).2.2.1, (Zl (f.obj ND.out.blk (fun e => (DIS.out _ e).2.2.1 rfl))).2.2.2.2.2⟩ : w'.cell? ⟨r.b, 2, none⟩ = some r.cv ∧ w'.frozen? ⟨r.b, 2, none⟩ = false))
   refine yJ [false, false, false, false, false, false, false, false, false, false, false, false, false, false, false, false, true, false, false, true] (fun w' => w'.cell? ⟨p, 0, none⟩ = some (.map (some m)) ∧ w'.rangeAt q4 0 (zj r.id) ∧ (∀ M, xW w3 m M → xW w' m M) ∧ w'.cell? ⟨r.b, 2, none⟩ = some r.cv) (by kernel_rfl) (by kernel_rfl) 19 (by kernel_rfl) (by kernel_rfl) ?_ (fun K hK => ?_)
   ·exact KP.out _ (Fr.refl No _).drew.of0
   repeat (first | ((first | with_reducible refine yG ?_ | ((with_reducible refine yp ?_ ?_); (focus rfl))); apply Exists.intro; refine ⟨?_, ?_⟩; (focus (first | exact zD (ty := 41) rfl (fun w h => h.2.1) uK rK (by rw [HQ.out]; exact zr) | exact fun w' h => zN (t := 197) rfl rfl rfl (LK.out w' h.2.2.1) | (intro w' hS; obtain ⟨s1, s2, s3, s4⟩ := hS; go_simp; (try with_reducible rfl); done))); try simp only [Act.put, pA, pB, pC]) | ((first | ((with_reducible refine zX (c := false) ?_ ?_ ?_); (focus rfl); (focus rfl)) | ((with_reducible refine zX (c := true) ?_ ?_ ?_); (focus rfl); (focus rfl)) | ((with_reducible refine yq ?_ ?_); (focus rfl))); try simp only [Act.put, pA, pB, pC]))
   (first | with_reducible refine yK (fun K' hK' => ?_) | ((with_reducible refine yx ?_ (fun K' hK' => ?_)); (focus rfl)))
   go_simp
   refine (ZT (w := w3.drew) (B := w0.heap.size) (v := r.cv) (l := r.ks) (zl ND.out.crow ((Fr.refl No w3).drew) (fun _ _ => id)) ROK.out.2.2 (by have := LEN.out; omega) (zb RXa.out ((Fr.refl No w3).drew) id) XOK.out (fun j hj e => by have := OBX.out j hj; omega) HBa.out).mono ?_
   rintro e w4 ⟨v4, rfl, ho4, hf4, hn4⟩
   obtain ⟨a4, c4, hv4⟩ := ho4.slice.arg.form
   generalize hnl4 : List.length _ = nl4 at hv4
   subst hv4
   have F4 := Hd (show Fr (fun j => r.cv.ownBlock = some j) w3 w4 from ((Fr.refl No w3).drew.of0 (W := fun j => r.cv.ownBlock = some j)).trans hf4 (fun _ _ h => h))
   have O4 := Hd ho4
   have N4 := Hd hn4
   clear ho4 hf4 hn4
   refine hK'.out _ _ (fun _ => ?_) (fun hS => ?_)
   ·exact KP.out _ F4.out
   try simp only [Act.put, pA, pB, pC]
   repeat (first | ((first | with_reducible refine yG ?_ | ((with_reducible refine yp ?_ ?_); (focus rfl))); apply Exists.intro; refine ⟨?_, ?_⟩; (focus (first | exact zD (ty := 41) rfl (fun w h => h.2.1) uK rK (by rw [HQ.out]; exact zr) | exact fun w' h => zN (t := 197) rfl rfl rfl (LK.out w' h.2.2.1) | (intro w' hS; obtain ⟨s1, s2, s3, s4⟩ := hS; go_simp; (try with_reducible rfl); done))); try simp only [Act.put, pA, pB, pC]) | ((first | ((with_reducible refine zX (c := false) ?_ ?_ ?_); (focus rfl); (focus rfl)) | ((with_reducible refine zX (c := true) ?_ ?_ ?_); (focus rfl); (focus rfl)) | ((with_reducible refine yq ?_ ?_); (focus rfl))); try simp only [Act.put, pA, pB, pC]))
   obtain ⟨z1, z2⟩ := FZ.out _ F4.out
   (first | with_reducible refine yK (fun K' hK' => ?_) | ((with_reducible refine yx ?_ (fun K' hK' => ?_)); (focus rfl)))
   go_simp
   refine hK'.out _ _ (fun h => absurd rfl h) (fun hS => ?_)
   refine qy (hK.out _ _ ?_)
   obtain ⟨g5, f5⟩ := STa.out.gr.setc F4.out O4.out (fun j hj => .inl (N4.out j hj)) (fun y hy => ROK.out.2.2 y (List.mem_filter.1 hy).1)
   have F5 := Hd f5
   have ST5 := Hd (zco STa.out g5 f5 (fun j hj => by
    rw [qf] at hj ⊢
    exact hj.imp id (fun h => h.imp id (N4.out j))) (by rw [RID.out]; exact QX.out) (step_map (f := zay x (r0.ps.take n)) (g := zay x (r0.ps.take (n + 1))) TN.out (fun _ => rfl) STa.out.tri rfl (fun t ht e1 e2 => by
    simp only [ym.t3, zay] at e2 ⊢
    rw [e1, if_neg QN.out] at e2
    rw [e1, QT.out, if_pos (by simp)]
    injection e2 with e2 e3
    injection e3 with e3 e4
    rw [e3, e4]) (fun t ht e1 => by
    simp only [zay, QT.out, List.mem_append, List.mem_singleton, e1, or_false])))
   clear g5 f5 z1 z2
   go_wp2_with fail
   go_roundw
   case rel => exact ⟨n + 1, _, by simp, by omega, ST5.out, zb RXa.out F5.out (fun e => by have := BLX.out _ e; omega), Nat.lt_of_lt_of_le HBa.out F5.out.size⟩
   case measure => show r0.ps.length - (n + 1) < r0.ps.length - n; omega
  ·have i1 : ¬ (n : Int) < (r0.ps.length : Int) := by omega
   have hnl : n = r0.ps.length := by omega
   subst hnl
   rw [List.take_length] at hst
   have ck := (Zl (hst.gr.node r0 hst.r0).blk).2.2.1
   rw [CV.out] at ck
   have ST2 := Hd hst
   have RX2 := Hd hrx
   have HB2 := Hd hbs
   clear hst hrx hbs ST1 RX1 HB1
   go_wp2_with fail
   go_loopw [51] (fun iv wr => ∃ (n : Nat) (L' : List ym), iv = .int .i64 n ∧ n ≤ r0.ks.length ∧ Qo w0 w wr p m sq L L' ((vZ G).map (QC x r0.ps (r0.ks.take n))) r0 ∧ wr.rangeAt bx 0 (zj x) ∧ bx < wr.heap.size) (fun iv _ => r0.ks.length - (intOf iv).toNat)
   case atStart => exact ⟨0, _, rfl, Nat.zero_le _, ⟨ST2.out.gr, ST2.out.tri.trans (List.map_congr_left fun t _ => by simp [zay, QC]), ST2.out.r0, ST2.out.sub, ST2.out.fr⟩, RX2.out, HB2.out⟩
   case round =>
    obtain ⟨n, L', rfl, hn, hst, hrx, hbs⟩ := hrel
    by_cases h : n < r0.ks.length
    ·have i1 : (n : Int) < (r0.ks.length : Int) := by omega
     obtain ⟨q, hq⟩ : ∃ q, r0.ks[n]? = some q := ⟨_, List.getElem?_eq_getElem h⟩
     have QM := Hd (List.mem_of_getElem? hq)
     obtain ⟨A, r, B, rfl, hrid, t, ht, htq, htf⟩ := Y6 (f := QC x r0.ps (r0.ks.take n)) (fun _ => rfl) hst.tri (q := q) (by rw [jI]; exact KSI.out q QM.out)
     have NR0 := (hst.gr.node r0 hst.r0).crow
     rw [CV.out] at NR0
     obtain ⟨bq, oq, cq, hvq, hrq, -⟩ := (yV.own NR0 OK0.out.2.2).at_ hq
     cases hvq
     have QOK := Hd (OK0.out.2.2 q QM.out)
     have HQ := Hd (zE QOK.out)
     have R1 := Hd hrq
     have FA := Hd ((Fr.refl No wr).alloc (.cells (zj q).toArray 41))
     have RN := Hd (zC wr (zj q) 41)
     have STa := Hd (hst.fr0 FA.out)
     have RXa := Hd (zb hrx FA.out id)
     have HBa := Hd (Nat.lt_of_lt_of_le hbs FA.out.size)
     have HBq := Hd hbs
     have QT := Hd (Ze hq)
     have QN := Hd (Yu KSN.out hq)
     have QX := Hd (KSX.out q QM.out)
     have hpl := KL.out
     have LEN := Hd (show r.ps.length ≤ 1000 by
      have h1 := TKL.out t ht
      have e1 := congrArg (fun z : Tri => z.2.1) htf
      simp only [QC, ym.t3] at e1
      rw [htq, if_neg QN.out] at e1
      rw [← e1]
      exact h1.1)
     clear hst hrx hbs hq hrq NR0 htf ht htq
     subst hrid
     go_wp2_with (first | (refine zd rfl (zf (ty := 41) rfl rfl R1.out uK rK (by rw [HQ.out]; exact zr)) ?_) | (refine zq rfl (zm (w := wr) (cs := zj r.id) (ty := 41) rfl rfl rfl (by rw [HQ.out]; rfl) (by rw [HQ.out]; exact zr) zV) ?_))
     generalize hq4 : wr.heap.size = q4 at *
     generalize wr.alloc (.cells (zj r.id).toArray 41) = w3 at *
     have RM := Hd (show r ∈ A ++ r :: B by simp)
     have ND := Hd (STa.out.gr.node r RM.out)
     have ROK := Hd (show zQ r.id ∧ (∀ y ∈ r.ps, zQ y) ∧ ∀ y ∈ r.ks, zQ y from STa.out.gr.ok r RM.out)
     have DIS := Hd (fun j (hj : r.pv.ownBlock = some j) => STa.out.gr.dis (A := A) (B := B) (j := j) (.inl hj))
     have BLX := Hd (show ∀ j ∈ r.blks, j < bx from fun j hj => HW.out j (STa.out.sub j (by rw [xg]; simp [hj])))
     have OBX := Hd (show ∀ j, r.pv.ownBlock = some j → j < bx from fun j hj => BLX.out j (qf.2 (.inr (.inl hj))))
     have LK := Hd (STa.out.gr.lookR RM.out)
     have KP := Hd (fun (w' : World) (f : Fr (fun j => r.pv.ownBlock = some j) w3 w') => (⟨f.cell (Xe STa.out.gr.obj).1 (fun e => (DIS.out _ e).1 rfl), zb RN.out f (fun e => by have := OBX.out _ e; have := HBq.out; omega), fun M hM => hM.keep f (fun e => (DIS.out _ e).2.1 rfl), f.cell (Zl ND.out.blk).2.1 (fun e => (DIS.out _ e).2.2.1 rfl)⟩ : w'.cell? ⟨p, 0, none⟩ = some (.map (some m)) ∧ w'.rangeAt q4 0 (zj r.id) ∧ (∀ M, xW w3 m M → xW w' m M) ∧ w'.cell? ⟨r.b, 1, none⟩ = some r.pv))
     have FZ := Hd (fun (w' : World) (f : Fr (fun j => r.pv.ownBlock = some j) w3 w') => (⟨(Zl (f.obj ND.out.blk (fun e => (DIS.out _ e).2.2.1 rfl))).2.1, (Zl (f.obj ND.out.blk (fun e => (DIS.out _ e).2.2.1 rfl))).2.2.2.2.1⟩ : w'.cell? ⟨r.b, 1, none⟩ = some r.pv ∧ w'.frozen? ⟨r.b, 1, none⟩ = false))
     refine yJ [false, false, false, false, false, false, false, false, false, false, false, false, false, false, false, false, true, false, false, true] (fun w' => w'.cell? ⟨p, 0, none⟩ = some (.map (some m)) ∧ w'.rangeAt q4 0 (zj r.id) ∧ (∀ M, xW w3 m M → xW w' m M) ∧ w'.cell? ⟨r.b, 1, none⟩ = some r.pv) (by kernel_rfl) (by kernel_rfl) 19 (by kernel_rfl) (by kernel_rfl) ?_ (fun K hK => ?_)
     ·exact KP.out _ (Fr.refl No _).drew.of0
     repeat (first | ((first | with_reducible refine yG ?_ | ((with_reducible refine yp ?_ ?_); (focus rfl))); apply Exists.intro; refine ⟨?_, ?_⟩; (focus (first | exact zD (ty := 41) rfl (fun w h => h.2.1) uK rK (by rw [HQ.out]; exact zr) | exact fun w' h => zN (t := 197) rfl rfl rfl (LK.out w' h.2.2.1) | (intro w' hS; obtain ⟨s1, s2, s3, s4⟩ := hS; go_simp; (try with_reducible rfl); done))); try simp only [Act.put, pA, pB, pC]) | ((first | ((with_reducible refine zX (c := false) ?_ ?_ ?_); (focus rfl); (focus rfl)) | ((with_reducible refine zX (c := true) ?_ ?_ ?_); (focus rfl); (focus rfl)) | ((with_reducible refine yq ?_ ?_); (focus rfl))); try simp only [Act.put, pA, pB, pC]))
     (first | with_reducible refine yK (fun K' hK' => ?_) | ((with_reducible refine yx ?_ (fun K' hK' => ?_)); (focus rfl)))
     go_simp
     refine (ZT (w := w3.drew) (B := w0.heap.size) (v := r.pv) (l := r.ps) (zl ND.out.prow ((Fr.refl No w3).drew) (fun _ _ => id)) ROK.out.2.1 (by have := LEN.out; omega) (zb RXa.out ((Fr.refl No w3).drew) id) XOK.out (fun j hj e => by have := OBX.out j hj; omega) HBa.out).mono ?_
     rintro e w4 ⟨v4, rfl, ho4, hf4, hn4⟩
     obtain ⟨a4, c4, hv4⟩ := ho4.slice.arg.form
     generalize hnl4 : List.length _ = nl4 at hv4
     subst hv4
     have F4 := Hd (show Fr (fun j => r.pv.ownBlock = some j) w3 w4 from ((Fr.refl No w3).drew.of0 (W := fun j => r.pv.ownBlock = some j)).trans hf4 (fun _ _ h => h))
     have O4 := Hd ho4
     have N4 := Hd hn4
     clear ho4 hf4 hn4
     refine hK'.out _ _ (fun _ => ?_) (fun hS => ?_)
     ·exact KP.out _ F4.out
     try simp only [Act.put, pA, pB, pC]
     repeat (first | ((first | with_reducible refine yG ?_ | ((with_reducible refine yp ?_ ?_); (focus rfl))); apply Exists.intro; refine ⟨?_, ?_⟩; (focus (first | exact zD (ty := 41) rfl (fun w h => h.2.1) uK rK (by rw [HQ.out]; exact zr) | exact fun w' h => zN (t := 197) rfl rfl rfl (LK.out w' h.2.2.1) | (intro w' hS; obtain ⟨s1, s2, s3, s4⟩ := hS; go_simp; (try with_reducible rfl); done))); try simp only [Act.put, pA, pB, pC]) | ((first | ((with_reducible refine zX (c := false) ?_ ?_ ?_); (focus rfl); (focus rfl)) | ((with_reducible refine zX (c := true) ?_ ?_ ?_); (focus rfl); (focus rfl)) | ((with_reducible refine yq ?_ ?_); (focus rfl))); try simp only [Act.put, pA, pB, pC]))
     obtain ⟨z1, z2⟩ := FZ.out _ F4.out
     (first | with_reducible refine yK (fun K' hK' => ?_) | ((with_reducible refine yx ?_ (fun K' hK' => ?_)); (focus rfl)))
     go_simp
     refine hK'.out _ _ (fun h => absurd rfl h) (fun hS => ?_)
     refine qy (hK.out _ _ ?_)
     obtain ⟨g5, f5⟩ := STa.out.gr.setp F4.out O4.out (fun j hj => .inl (N4.out j hj)) (fun y hy => ROK.out.2.1 y (List.mem_filter.1 hy).1)
     have F5 := Hd f5
     have ST5 := Hd (zco STa.out g5 f5 (fun j hj => by
      rw [qf] at hj ⊢
      exact hj.imp id (fun h => h.imp (N4.out j) id)) (by rw [RID.out]; exact QX.out) (step_map (f := QC x r0.ps (r0.ks.take n)) (g := QC x r0.ps (r0.ks.take (n + 1))) TN.out (fun _ => rfl) STa.out.tri rfl (fun t ht e1 e2 => by
      simp only [ym.t3, QC] at e2 ⊢
      rw [e1, if_neg QN.out] at e2
      rw [e1, QT.out, if_pos (by simp)]
      injection e2 with e2 e3
      injection e3 with e3 e4
      rw [e3, e4]) (fun t ht e1 => by
      simp only [QC, QT.out, List.mem_append, List.mem_singleton, e1, or_false])))
     clear g5 f5 z1 z2
     go_wp2_with fail
     go_roundw
     case rel => exact ⟨n + 1, _, by simp, by omega, ST5.out, zb RXa.out F5.out (fun e => by have := BLX.out _ e; omega), Nat.lt_of_lt_of_le HBa.out F5.out.size⟩
     case measure => show r0.ks.length - (n + 1) < r0.ks.length - n; omega
    ·have i1 : ¬ (n : Int) < (r0.ks.length : Int) := by omega
     have hnl : n = r0.ks.length := by omega
     subst hnl
     rw [List.take_length] at hst
     obtain ⟨M, hM, hMs⟩ := hst.gr.map
     obtain ⟨w5, M', hdl, hM', hdel, htu, -⟩ := (hM.keep (Fr.refl No wr).drew id).del xy.keyed jN (fun _ _ => yS) (yd XOK.out) 0 41
     obtain ⟨A, B, rfl⟩ := List.append_of_mem hst.r0
     have G5 := Hd (hst.gr.del hMs hM' (by rw [RID.out]; exact hdel) (((Fr.refl No wr).drew.of0 (W := fun j => j = m)).trans htu.fr (fun _ _ h => h)))
     have F5 := Hd (show Fr (fun j => j ∈ yu p m L) w w5 from hst.fr.trans (((Fr.refl No wr).drew.of0 (W := fun j => j = m)).trans htu.fr (fun _ _ h => h)) (fun i _ e => hst.sub i (by rw [e]; simp [yu])))
     have T5 := Hd (show (A ++ B).map ym.t3 = vZ (YQ G x) by
      rw [FIN.out, ← hst.tri, List.map_append (l₁ := A) (l₂ := r0 :: B), List.map_cons, List.filter_append, List.filter_cons_of_neg (by simp [ym.t3, RID.out]), List.map_append]
      have hidn := hst.gr.idn
      rw [List.map_append, List.map_cons] at hidn
      obtain ⟨i1, i2, i3⟩ := List.nodup_append.1 hidn
      congr 1
      ·refine (List.filter_eq_self.2 fun t ht => ?_).symm
       obtain ⟨r, hr, rfl⟩ := List.mem_map.1 ht
       exact decide_eq_true fun (e : r.id = x) => i3 r.id (List.mem_map.2 ⟨r, hr, rfl⟩) r0.id (by simp) (by rw [e, RID.out])
      ·refine (List.filter_eq_self.2 fun t ht => ?_).symm
       obtain ⟨r, hr, rfl⟩ := List.mem_map.1 ht
       exact decide_eq_true fun (e : r.id = x) => (List.nodup_cons.1 i2).1 (by rw [RID.out, ← e]; exact List.mem_map.2 ⟨r, hr, rfl⟩))
     have SB := Hd (show ∀ j ∈ yu p m (A ++ B), j ∈ yu p m L from fun j hj => hst.sub j (by
      rw [xg]
      simp only [yu, List.flatMap_append, List.mem_cons, List.mem_append] at hj ⊢
      rcases hj with h | h | h | h
      ·exact .inl (.inl h)
      ·exact .inl (.inr (.inl h))
      ·exact .inl (.inr (.inr h))
      ·exact .inr (.inr h)))
     have c0 := (Xe hst.gr.obj).1
     have RX3 := Hd hrx
     have HDL := Hd hdl
     clear hst hrx hbs hM hMs hdl hM' hdel htu ST2 RX2 HB2
     unfold yW at HDL
     go_wp2_with fail
     refine yJ [false, false, false, false, false, true] (fun w' => w'.cell? ⟨p, 0, none⟩ = some (.map (some m)) ∧ w'.rangeAt bx 0 (zj x)) (by kernel_rfl) (by kernel_rfl) 5 (by kernel_rfl) (by kernel_rfl) ?_ (fun K hK => ?_)
     ·exact ⟨(Fr.refl No _).drew.cell c0 id, zb RX3.out (Fr.refl No _).drew id⟩
     repeat (first | ((first | with_reducible refine yG ?_ | ((with_reducible refine yp ?_ ?_); (focus rfl))); apply Exists.intro; refine ⟨?_, ?_⟩; (focus (first | exact zD (ty := 41) rfl (fun w h => h.2) uK rK (by rw [HX.out]; exact zr) | (intro w' hS; obtain ⟨s1, s2⟩ := hS; go_simp; (try with_reducible rfl); done))); try simp only [Act.put, pA, pB, pC]) | ((first | ((with_reducible refine zX (c := false) ?_ ?_ ?_); (focus rfl); (focus rfl)) | ((with_reducible refine zX (c := true) ?_ ?_ ?_); (focus rfl); (focus rfl)) | ((with_reducible refine yq ?_ ?_); (focus rfl))); try simp only [Act.put, pA, pB, pC]))
     (first | with_reducible refine yK (fun K' hK' => ?_) | ((with_reducible refine yx ?_ (fun K' hK' => ?_)); (focus rfl)))
     refine yB (jU rfl rfl rfl HDL.out) ?_
     refine hK'.out _ _ (fun h => absurd rfl h) (fun hS => ?_)
     refine qy (hK.out _ _ ?_)
     go_wp2_with fail
     (try simp only [Exit.inBlock, Exit.then])
     refine bodyPost_ret (results_none rfl _ _ _) rfl ?_
     exact ⟨rfl, _, GC.of_tri G5.out T5.out SQ.out COK.out CLN.out, F5.out, SB.out⟩
end
end Go.Proofs.YtdkkjchclkjleaaGreatDoor

/- kin: Lift, Drop. -/
namespace Go.Proofs.YtdkkjchclkjleaaGreatDoor
open Go Go.RowKit Go.Maps Go.MapKept
theorem zg9 (w : World) {x : zi} (hx : zQ x) : yV (w.alloc (.cells (zj x).toArray 41)) (.slice (some ⟨w.heap.size, 0, none⟩) 1 1) [x] := by
 refine ⟨fun c hc => by rw [List.mem_singleton.1 hc]; exact hx, .inl (.inr ⟨w.heap.size, 0, 1, rfl, Nat.le_refl _, by unfold maxLen; omega, fun j u hj => ?_, by simp⟩)⟩
 rw [List.flatMap_cons, List.flatMap_nil, List.append_nil] at hj
 exact zC w (zj x) 41 j u hj
theorem zfH {G : List yE} {x : zi} (h : x ∉ ids G) : qm G [x] = [] := by
 refine List.eq_nil_iff_forall_not_mem.2 fun y hy => ?_
 obtain ⟨a, ha, hr⟩ := JT.1 hy
 rw [List.mem_singleton.1 ha] at hr
 exact h hr.right
theorem zhK {G : List yE} {l : List zi} {n : Nat} {q : zi} (hn : l.Nodup) (hs : ∀ y ∈ l, y ∈ ids G) (h : l[n]? = some q) : q ∈ ids (Jz G (l.take n)) :=
 jR.2 ⟨hs q (List.mem_of_getElem? h), Yu hn h⟩
def zfO (w0 w : World) (p : Nat) (V : Nat → Prop) (G : List yE) (N : Nat) (x : zi) (e : Ending) (w' : World) : Prop :=
 ∃ v, e = .returned (.tuple #[v, .int .i64 (if x ∈ ids G then 0 else 9)]) ∧ ∃ V', GC w0 w' p V' (Jz G (qm G [x])) N ∧ Fr V w w' ∧ (∀ j, V' j → V j) ∧ w'.ownsRow w.heap.size 41 32 v (qm G [x]).length ((qm G [x]).flatMap zj)
section
variable {w0 w : World} {p N : Nat} {V : Nat → Prop} {G : List yE}
set_option maxRecDepth 20000 in
set_option maxHeartbeats 4000000 in
theorem zje (h : GC w0 w p V G N) (hN : N ≤ 1000) {x : zi} (hx : zQ x) : Calls Tryz.prog 91 #[.pointer (some ⟨p, 0, none⟩), .agg (zj x).toArray] w (zfO w0 w p V G N x) := by
 obtain ⟨dK, uK, rK⟩ := yj
 have HX := Hd (zE hx)
 have f1 : Fr No w (w.alloc (.cells (zj x).toArray 41)) := (Fr.refl No w).alloc _
 have RB := Hd (zC w (zj x) 41)
 have F1 := Hd f1
 have HC := Hd h
 have XOK := Hd hx
 have F1s := Hd (show (w.alloc (.cells (zj x).toArray 41)).heap.size = w.heap.size + 1 by simp)
 have DL := Hd (Nat.le_trans (zgy (G := G) [x]) (Nat.le_trans h.len hN))
 have hdown := fun (w1 : World) (f : Fr No w w1) => zju (h.fr0 (f.trans0 ((Fr.refl No w1).alloc (.cells (zj x).toArray 41)))) hN (zg9 w1 hx) (by simp)
 have hd := hdown _ f1
 rw [F1s.out] at hd
 have HD := Hd hd
 have DN := Hd (show (qm G [x]).Nodup from h.gok.nd.sublist (qj [x]))
 have DS := Hd (zhi (G := G) [x])
 have GS := Hd h.gok
 have hcase : (x ∈ ids G ∧ ¬ ((qm G [x]).length : Int) = 0) ∨ (x ∉ ids G ∧ ((qm G [x]).length : Int) = 0) := by
  by_cases hin : x ∈ ids G
  ·obtain ⟨r, hr⟩ := ze1 h.gok hin
   exact .inl ⟨hin, by rw [hr]; simp; omega⟩
  ·exact .inr ⟨hin, by rw [zfH hin]; rfl⟩
 clear h f1 hdown hd
 unfold zfO
 generalize qm G [x] = D at *
 go_enter Tryz.func91, Tryz.ntmps91
 go_wp2_with (first | (refine zd rfl (zf (ty := 41) rfl rfl RB.out uK rK (by rw [HX.out]; exact zr)) ?_) | (refine zd rfl (zZ (t := 38) rfl rfl xB qs rfl (by decide) (by decide) HX.out) ?_))
 refine HD.out.mono ?_
 rintro e w2 ⟨v2, rfl, o2, f2⟩
 obtain ⟨va, vc, rfl⟩ := o2.slice.arg.form
 have F2 := Hd ((F1.out.alloc (.cells (zj x).toArray 41)).trans0 f2)
 have O2 := Hd (Yc o2 (show w.heap.size ≤ _ from (F1.out.alloc (.cells (zj x).toArray 41)).size))
 have VW := Hd (show ∀ j, V j → j < w.heap.size from HC.out.hi)
 clear o2 f2 HD RB
 rcases hcase with ⟨hin, h0⟩ | ⟨hin, h0⟩
 ·go_wp2_with fail
  rw [show ((D.length : Int) == 0) = false from by simpa using h0]
  have HIN := Hd hin
  clear h0 hin
  go_loopw [20] (fun iv wr => ∃ (n : Nat) (V' : Nat → Prop), iv = .int .i64 n ∧ n ≤ D.length ∧ GC w0 wr p V' (Jz G (D.take n)) N ∧ Fr V w wr ∧ (∀ j, V' j → V j) ∧ wr.ownsRow w.heap.size 41 32 (.slice va D.length vc) D.length (D.flatMap zj)) (fun iv _ => D.length - (intOf iv).toNat)
  case atStart => exact ⟨0, V, rfl, Nat.zero_le _, by rw [List.take_zero, zah]; exact HC.out.fr0 F2.out, F2.out.of0, fun _ h => h, O2.out⟩
  case round =>
   obtain ⟨n, V', rfl, hn, hg, hf, hs, ho⟩ := hrel
   by_cases h : n < D.length
   ·have i1 : (n : Int) < (D.length : Int) := by omega
    obtain ⟨q, hq⟩ : ∃ q, D[n]? = some q := ⟨_, List.getElem?_eq_getElem h⟩
    have QI := Hd (zhK DN.out DS.out hq)
    have QT := Hd (show Jz G (D.take (n + 1)) = YQ (Jz G (D.take n)) q by rw [Ze hq, za8])
    have QOK := Hd (HC.out.okId q (DS.out q (List.mem_of_getElem? hq)))
    have HQ := Hd (zE QOK.out)
    obtain ⟨bq, oq, cq, hvq, hrq, -⟩ := (yV.own ho (fun y hy => HC.out.okId y (DS.out y hy))).at_ hq
    cases hvq
    have R1 := Hd hrq
    have FA := Hd ((Fr.refl No wr).alloc (.cells (zj q).toArray 41))
    have RN := Hd (zC wr (zj q) 41)
    have GG := Hd hg
    have FF := Hd hf
    have SS := Hd hs
    have OO := Hd ho
    have hdl := DL.out
    clear hg hf hs ho hq hrq
    go_wp2_with (first | (refine zd rfl (zf (ty := 41) rfl rfl R1.out uK rK (by rw [HQ.out]; exact zr)) ?_) | (refine zq rfl (zm (w := wr) (cs := zj q) (ty := 41) rfl rfl rfl (by rw [HQ.out]; rfl) (by rw [HQ.out]; exact zr) zV) ?_) | (refine zd rfl (zf (ty := 41) rfl rfl RN.out uK rK (by rw [HQ.out]; exact zr)) ?_) | (go_at_call 132; refine (zjR (GG.out.fr0 FA.out) hN QOK.out QI.out).mono ?_; rintro e w5 ⟨rfl, V5, g5, f5, s5⟩; have G5 := Hd g5; have F5 := Hd (FA.out.of0.trans f5 (fun _ _ h => h)); have S5 := Hd s5; clear g5 f5 s5))
    go_roundw
    case rel => exact ⟨n + 1, V5, by simp, by omega, by rw [QT.out]; exact G5.out, FF.out.trans F5.out (fun _ _ h => SS.out _ h), fun j hj => SS.out j (S5.out j hj), zl OO.out F5.out (fun j hj e => by have := (OO.out.lt j hj).1; have := VW.out j (SS.out j e); omega)⟩
    case measure => show D.length - (n + 1) < D.length - n; omega
   ·have i1 : ¬ (n : Int) < (D.length : Int) := by omega
    have hnl : n = D.length := by omega
    subst hnl
    rw [List.take_length] at hg
    have GG := Hd hg
    have FF := Hd hf
    have SS := Hd hs
    have OO := Hd ho
    clear hg hf hs ho
    go_wp2_with fail
    go_ret2
    exact ⟨.slice va D.length vc, by first | rfl | (rw [if_pos HIN.out]; rfl), V', GG.out, FF.out, SS.out, OO.out⟩
 ·have h1 : D = [] := List.eq_nil_of_length_eq_zero (by omega)
  subst h1
  have h2 : (([] : List zi).length : Int) = 0 := rfl
  have HIN := Hd hin
  clear hin
  go_wp2_with fail
  go_ret2
  exact ⟨.slice none 0 0, by first | rfl | (rw [if_neg HIN.out]; rfl), V, by rw [zah]; exact HC.out.fr0 F2.out, F2.out.of0, fun _ h => h, World.ownsRow_nil _ _ _ _⟩
end
end Go.Proofs.YtdkkjchclkjleaaGreatDoor
