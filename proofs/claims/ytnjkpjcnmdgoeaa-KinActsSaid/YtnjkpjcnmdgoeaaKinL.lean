/- kin: cut's walk. -/
import Derived.Test.YtnjkpjcnmdgoeaaKinK
namespace Go.Proofs.Ytnjkpjcnmdgoeaa
open Go Go.RowKit Go.Maps Go.MapKept

section
variable {w0 w : World} {p m sq : Nat}
theorem CutSt.fr0 {wr w1 : World} {L L' : List RecD} {T : List Tri} {r0 : RecD} (h : CutSt w0 w wr p m sq L L' T r0) (f : Fr No wr w1) : CutSt w0 w w1 p m sq L L' T r0 :=
  ⟨h.gr.fr0 f, h.tri, h.r0, h.sub, h.fr.trans0 f⟩
theorem GR.lookR {L : List RecD} (h : GR w0 w p m sq L) {r : RecD} (hr : r ∈ L) (w' : World) (hk : ∀ M, GMap w m M → GMap w' m M) : (Instr.lookup 53 (.map (some m)) (.agg (hashC r.id).toArray) false).run Try.prog w' = .ok (.pointer (some ⟨r.b, 0, none⟩)) w' :=
  (h.run_look (h.ok r hr).1 false rfl).1 r hr rfl w' hk
theorem GR.dis {A B : List RecD} {r : RecD} (h : GR w0 w p m sq (A ++ r :: B)) {j : Nat} (hj : r.pv.ownBlock = some j ∨ r.cv.ownBlock = some j) : j ≠ p ∧ j ≠ m ∧ j ≠ r.b ∧ j < w.heap.size := by
  have hap := h.apart
  rw [gblks_mid] at hap
  have hb : j ∈ r.blks := mem_blks.2 (.inr hj)
  have h3 := (List.nodup_append.1 hap).2.2
  refine ⟨fun e => h3 p (by simp) j (by simp [hb]) e.symm, fun e => h3 m (by simp) j (by simp [hb]) e.symm, fun e => ?_, (h.node r (by simp)).hi j hb⟩
  obtain ⟨a1, a2, -⟩ := blks_apart h.blks_nodup
  subst e
  exact hj.elim a1 a2
end
theorem take_snoc {ps : List HashD} {n : Nat} {q : HashD} (h : ps[n]? = some q) : ps.take (n + 1) = ps.take n ++ [q] := by rw [List.take_add_one, h]; rfl
theorem take_nmem {ps : List HashD} {n : Nat} {q : HashD} (hn : ps.Nodup) (h : ps[n]? = some q) : q ∉ ps.take n := by
  intro hm
  obtain ⟨i, hi⟩ := List.mem_iff_getElem?.1 hm
  have hil := (List.getElem?_eq_some_iff.1 hi).1
  simp only [List.length_take] at hil
  rw [List.getElem?_take_of_lt (by omega)] at hi
  have := (List.getElem?_inj (List.getElem?_eq_some_iff.1 hi).1 hn).1 (hi.trans h.symm)
  omega
section
variable {w0 w : World} {p N : Nat} {V : Nat → Prop} {G : List NodeD}
set_option maxRecDepth 20000 in
set_option maxHeartbeats 8000000 in
theorem cut_K (h : GC w0 w p V G N) (hN : N ≤ 1000) {x : HashD} (hx : hashOk x) (hin : x ∈ ids G) :
    Calls Try.prog 32 #[.pointer (some ⟨p, 0, none⟩), .agg (hashC x).toArray] w (CutOk w0 w p V G N x) := by
  obtain ⟨dK, uK, rK⟩ := descHash
  obtain ⟨m, sq, L, hr, rfl, htri, hsq⟩ := h.tri
  obtain ⟨A0, r0, B0, hL0, hid, t0, ht0, hq0, hf0⟩ := find_rec (f := id) (fun _ => rfl) (by rw [htri, List.map_id]) (q := x) (by rw [triG_ids]; exact hin)
  have hr0 : r0 ∈ L := by rw [hL0]; simp
  obtain ⟨n0, hn0, e0⟩ := List.mem_map.1 (show r0.t3 ∈ triG G by rw [← htri]; exact List.mem_map.2 ⟨r0, hr0, rfl⟩)
  have hps : r0.ps = par G x := by
    unfold RecD.t3 at e0
    injection e0 with e1 e2
    injection e2 with e2 e3
    rw [← e2, ← hid, ← e1, par_of h.gok hn0]
  have hks : r0.ks = kid G x := by
    unfold RecD.t3 at e0
    injection e0 with e1 e2
    injection e2 with e2 e3
    rw [← e3, ← hid, ← e1]
  have PSN := Lib.hid (show r0.ps.Nodup by rw [hps]; obtain ⟨n1, hn1, e1⟩ := mem_ids.1 hin; rw [← e1, par_of h.gok hn1]; exact h.gok.pn n1 hn1)
  have KSN := Lib.hid (show r0.ks.Nodup by rw [hks]; exact kid_nodup h.gok x)
  have PSI := Lib.hid (show ∀ q ∈ r0.ps, q ∈ ids G from fun q hq => par_mem h.gok (x := x) (by rw [← hps]; exact hq))
  have KSI := Lib.hid (show ∀ q ∈ r0.ks, q ∈ ids G from fun q hq => ((kid_par h.gok (x := x)).1 (by rw [← hks]; exact hq)).1)
  have PSX := Lib.hid (show ∀ q ∈ r0.ps, x ≠ q from fun q hq e => by
    rw [hps, ← e] at hq
    have := anc_ahead h.gok (x := x) (y := x)
    obtain ⟨n1, hn1, e1⟩ := mem_ids.1 hin
    obtain ⟨A, B, e2⟩ := List.append_of_mem hn1
    rw [← e1, par_of h.gok hn1] at hq
    have h1 := h.gok.top A n1 B e2 _ hq
    have h2 := h.gok.nd
    rw [e2] at h2
    simp only [ids, List.map_append, List.map_cons] at h1 h2
    exact (List.nodup_append.1 h2).2.2 _ h1 n1.id (by simp) rfl)
  have KSX := Lib.hid (show ∀ q ∈ r0.ks, x ≠ q from fun q hq e => by
    rw [hks, ← e] at hq
    exact PSX.out x (by rw [hps]; exact ((kid_par h.gok).1 hq).2) rfl)
  have PL := Lib.hid (show r0.ps.length ≤ 1000 by rw [hps]; have := par_len h.gok x; have := h.len; omega)
  have KL := Lib.hid (show r0.ks.length ≤ 1000 by rw [hks]; have := kid_len (G := G) x; have := h.len; omega)
  have OK0 := Lib.hid (show hashOk r0.id ∧ (∀ y ∈ r0.ps, hashOk y) ∧ ∀ y ∈ r0.ks, hashOk y from hr.ok r0 hr0)
  have TN := Lib.hid (show ((triG G).map (·.1)).Nodup by rw [triG_ids]; exact h.gok.nd)
  have FIN := Lib.hid (show triG (cutG G x) = ((triG G).map (cutP x r0.ps r0.ks)).filter fun t => decide (t.1 ≠ x) by rw [hps, hks]; exact cut_tri h.gok x)
  have TKL := Lib.hid (show ∀ t ∈ triG G, t.2.1.length ≤ 1000 ∧ t.2.2.length ≤ 1000 from fun t ht => by
    obtain ⟨n, hn, rfl⟩ := List.mem_map.1 ht
    have h1 := par_len h.gok n.id
    rw [par_of h.gok hn] at h1
    have h2 := kid_len (G := G) n.id
    have := h.len
    exact ⟨Nat.le_trans h1 (by omega), Nat.le_trans h2 (by omega)⟩)
  have COK := Lib.hid (cutL_ok h.gok [x])
  rw [← cutG_one] at COK
  have CLN := Lib.hid (show (cutG G x).length ≤ N by unfold cutG; rw [List.length_map]; exact Nat.le_trans (List.length_filter_le _ _) h.len)
  have XOK := Lib.hid hx
  have HX := Lib.hid (hashC_len hx)
  have f1 : Fr No w (w.alloc (.cells (hashC x).toArray 30)) := (Fr.refl No w).alloc _
  have RX := Lib.hid (range_new w (hashC x) 30)
  have c0 := f1.cell (blk2 hr.obj).1 id
  have HW := Lib.hid hr.hi
  have HR1 := hr.fr0 f1
  have LK0 := Lib.hid (HR1.lookR hr0)
  rw [hid] at LK0
  have ST0 := Lib.hid (show CutSt w0 w (w.alloc (.cells (hashC x).toArray 30)) p m sq L L ((triG G).map (cutK x (r0.ps.take 0))) r0 from ⟨HR1, by
    rw [htri]
    conv => lhs; rw [← List.map_id (triG G)]
    exact List.map_congr_left fun t _ => by simp [cutK], hr0, fun _ h => h, f1.of0⟩)
  have SQ := Lib.hid hsq
  have RID := Lib.hid hid
  clear h hr htri hL0 ht0 hq0 hf0 hn0 e0 hps hks hin hx hsq HR1 hr0
  go_enter Try.func32, Try.ntmps32
  go_wp2_with fail
  have HB := Lib.hid (show w.heap.size < (w.alloc (.cells (hashC x).toArray 30)).heap.size by simp)
  generalize hbx : w.heap.size = bx at *
  generalize w.alloc (.cells (hashC x).toArray 30) = w1 at *
  refine wp_region_lexL [false, false, false, false, false, false, false] (fun w' => w'.cell? ⟨p, 0, none⟩ = some (.map (some m)) ∧ w'.rangeAt bx 0 (hashC x) ∧ (∀ M, GMap w1 m M → GMap w' m M)) (by kernel_rfl) (by kernel_rfl) ?_ (fun K hK => ?_)
  · exact ⟨(Fr.refl No _).drew.cell c0 id, range_keep RX.out (Fr.refl No _).drew id, fun M hM => hM.keep (Fr.refl No _).drew id⟩
  repeat (first | ((first | with_reducible refine lexL_read ?_ | ((with_reducible refine lexL_readG ?_ ?_); (focus rfl))); apply Exists.intro; refine ⟨?_, ?_⟩; (focus (first | exact lex_load (ty := 30) rfl (fun w h => h.2.1) uK rK (by rw [HX.out]; exact infoHash) | exact fun w' h => exec_lookup (t := 53) rfl rfl rfl (LK0.out w' h.2.2) | (intro w' hS; obtain ⟨s1, s2, s3⟩ := hS; go_simp; (try with_reducible rfl); done))); try simp only [Act.put, List.setIfInBounds_toArray, List.set_cons_zero, List.set_cons_succ]) | ((first | ((with_reducible refine lexL_skip (c := false) ?_ ?_ ?_); (focus rfl); (focus rfl)) | ((with_reducible refine lexL_skip (c := true) ?_ ?_ ?_); (focus rfl); (focus rfl)) | ((with_reducible refine lexL_skipU ?_ ?_); (focus rfl))); try simp only [Act.put, List.setIfInBounds_toArray, List.set_cons_zero, List.set_cons_succ]))
  refine lexL_nil (hK.out _ _ ?_)
  have ST1 := Lib.hid (ST0.out.fr0 (Fr.refl No _).drew)
  have RX1 := Lib.hid (range_keep RX.out (Fr.refl No _).drew id)
  have HB1 := Lib.hid (show bx < w1.drew.heap.size from HB.out)
  clear c0 LK0 ST0 RX HB
  generalize w1.drew = w2 at *
  obtain ⟨pa, pc, hpv⟩ := (ST1.out.gr.node r0 ST1.out.r0).prow.slice.arg.form
  obtain ⟨ca, cc, hcv⟩ := (ST1.out.gr.node r0 ST1.out.r0).crow.slice.arg.form
  have cp := (blk3 (ST1.out.gr.node r0 ST1.out.r0).blk).2.1
  rw [hpv] at cp
  have PV := Lib.hid hpv
  have CV := Lib.hid hcv
  clear hpv hcv
  go_wp2_with fail
  go_loopw [22] (fun iv wr => ∃ (n : Nat) (L' : List RecD), iv = .int .i64 n ∧ n ≤ r0.ps.length ∧ CutSt w0 w wr p m sq L L' ((triG G).map (cutK x (r0.ps.take n))) r0 ∧ wr.rangeAt bx 0 (hashC x) ∧ bx < wr.heap.size) (fun iv _ => r0.ps.length - (intOf iv).toNat)
  case atStart => exact ⟨0, L, rfl, Nat.zero_le _, ST1.out, RX1.out, HB1.out⟩
  case round =>
    obtain ⟨n, L', rfl, hn, hst, hrx, hbs⟩ := hrel
    by_cases h : n < r0.ps.length
    · have i1 : (n : Int) < (r0.ps.length : Int) := by omega
      obtain ⟨q, hq⟩ : ∃ q, r0.ps[n]? = some q := ⟨_, List.getElem?_eq_getElem h⟩
      have QM := Lib.hid (List.mem_of_getElem? hq)
      obtain ⟨A, r, B, rfl, hrid, t, ht, htq, htf⟩ := find_rec (f := cutK x (r0.ps.take n)) (fun _ => rfl) hst.tri (q := q) (by rw [triG_ids]; exact PSI.out q QM.out)
      have NR0 := (hst.gr.node r0 hst.r0).prow
      rw [PV.out] at NR0
      obtain ⟨bq, oq, cq, hvq, hrq, -⟩ := (IdsIs.own NR0 OK0.out.2.1).at_ hq
      cases hvq
      have QOK := Lib.hid (OK0.out.2.1 q QM.out)
      have HQ := Lib.hid (hashC_len QOK.out)
      have R1 := Lib.hid hrq
      have FA := Lib.hid ((Fr.refl No wr).alloc (.cells (hashC q).toArray 30))
      have RN := Lib.hid (range_new wr (hashC q) 30)
      have STa := Lib.hid (hst.fr0 FA.out)
      have RXa := Lib.hid (range_keep hrx FA.out id)
      have HBa := Lib.hid (Nat.lt_of_lt_of_le hbs FA.out.size)
      have HBq := Lib.hid hbs
      have QT := Lib.hid (take_snoc hq)
      have QN := Lib.hid (take_nmem PSN.out hq)
      have QX := Lib.hid (PSX.out q QM.out)
      have hpl := PL.out
      have LEN := Lib.hid (show r.ks.length ≤ 1000 by
        have h1 := TKL.out t ht
        have e1 := congrArg (fun z : Tri => z.2.2) htf
        simp only [cutK, RecD.t3] at e1
        rw [htq, if_neg QN.out] at e1
        rw [← e1]
        exact h1.2)
      clear hst hrx hbs hq hrq NR0 htf ht htq
      subst hrid
      go_wp2_with (first | (refine wpList_value rfl (exec_load (ty := 30) rfl rfl R1.out uK rK (by rw [HQ.out]; exact infoHash)) ?_) | (refine wpList_done rfl (exec_store_new (w := wr) (cs := hashC r.id) (ty := 30) rfl rfl rfl (by rw [HQ.out]; rfl) (by rw [HQ.out]; exact infoHash) hashC_one) ?_))
      generalize hq4 : wr.heap.size = q4 at *
      generalize wr.alloc (.cells (hashC r.id).toArray 30) = w3 at *
      have RM := Lib.hid (show r ∈ A ++ r :: B by simp)
      have ND := Lib.hid (STa.out.gr.node r RM.out)
      have ROK := Lib.hid (show hashOk r.id ∧ (∀ y ∈ r.ps, hashOk y) ∧ ∀ y ∈ r.ks, hashOk y from STa.out.gr.ok r RM.out)
      have DIS := Lib.hid (fun j (hj : r.cv.ownBlock = some j) => STa.out.gr.dis (A := A) (B := B) (j := j) (.inr hj))
      have BLX := Lib.hid (show ∀ j ∈ r.blks, j < bx from fun j hj => HW.out j (STa.out.sub j (by rw [gblks_mid]; simp [hj])))
      have OBX := Lib.hid (show ∀ j, r.cv.ownBlock = some j → j < bx from fun j hj => BLX.out j (mem_blks.2 (.inr (.inr hj))))
      have LK := Lib.hid (STa.out.gr.lookR RM.out)
      have KP := Lib.hid (fun (w' : World) (f : Fr (fun j => r.cv.ownBlock = some j) w3 w') => (⟨f.cell (blk2 STa.out.gr.obj).1 (fun e => (DIS.out _ e).1 rfl), range_keep RN.out f (fun e => by have := OBX.out _ e; have := HBq.out; omega), fun M hM => hM.keep f (fun e => (DIS.out _ e).2.1 rfl), f.cell (blk3 ND.out.blk).2.2.1 (fun e => (DIS.out _ e).2.2.1 rfl)⟩ : w'.cell? ⟨p, 0, none⟩ = some (.map (some m)) ∧ w'.rangeAt q4 0 (hashC r.id) ∧ (∀ M, GMap w3 m M → GMap w' m M) ∧ w'.cell? ⟨r.b, 2, none⟩ = some r.cv))
      have FZ := Lib.hid (fun (w' : World) (f : Fr (fun j => r.cv.ownBlock = some j) w3 w') => (⟨(blk3 (f.obj ND.out.blk (fun e => (DIS.out _ e).2.2.1 rfl))).2.2.1, (blk3 (f.obj ND.out.blk (fun e => (DIS.out _ e).2.2.1 rfl))).2.2.2.2.2⟩ : w'.cell? ⟨r.b, 2, none⟩ = some r.cv ∧ w'.frozen? ⟨r.b, 2, none⟩ = false))
      refine wp_region_lexM [false, false, false, false, false, false, false, false, false, false, false, false, false, false, false, false, true, false, false, true] (fun w' => w'.cell? ⟨p, 0, none⟩ = some (.map (some m)) ∧ w'.rangeAt q4 0 (hashC r.id) ∧ (∀ M, GMap w3 m M → GMap w' m M) ∧ w'.cell? ⟨r.b, 2, none⟩ = some r.cv) (by kernel_rfl) (by kernel_rfl) 19 (by kernel_rfl) (by kernel_rfl) ?_ (fun K hK => ?_)
      · exact KP.out _ (Fr.refl No _).drew.of0
      repeat (first | ((first | with_reducible refine lexM_read ?_ | ((with_reducible refine lexM_readG ?_ ?_); (focus rfl))); apply Exists.intro; refine ⟨?_, ?_⟩; (focus (first | exact lex_load (ty := 30) rfl (fun w h => h.2.1) uK rK (by rw [HQ.out]; exact infoHash) | exact fun w' h => exec_lookup (t := 53) rfl rfl rfl (LK.out w' h.2.2.1) | (intro w' hS; obtain ⟨s1, s2, s3, s4⟩ := hS; go_simp; (try with_reducible rfl); done))); try simp only [Act.put, List.setIfInBounds_toArray, List.set_cons_zero, List.set_cons_succ]) | ((first | ((with_reducible refine lexM_skip (c := false) ?_ ?_ ?_); (focus rfl); (focus rfl)) | ((with_reducible refine lexM_skip (c := true) ?_ ?_ ?_); (focus rfl); (focus rfl)) | ((with_reducible refine lexM_skipU ?_ ?_); (focus rfl))); try simp only [Act.put, List.setIfInBounds_toArray, List.set_cons_zero, List.set_cons_succ]))
      (first | with_reducible refine lexM_eff (fun K' hK' => ?_) | ((with_reducible refine lexM_effG ?_ (fun K' hK' => ?_)); (focus rfl)))
      go_simp
      refine (deleteFunc_any (w := w3.drew) (B := w0.heap.size) (v := r.cv) (l := r.ks) (ownsRow_keep ND.out.crow ((Fr.refl No w3).drew) (fun _ _ => id)) ROK.out.2.2 (by have := LEN.out; omega) (range_keep RXa.out ((Fr.refl No w3).drew) id) XOK.out (fun j hj e => by have := OBX.out j hj; omega) HBa.out).mono ?_
      rintro e w4 ⟨v4, rfl, ho4, hf4, hn4⟩
      obtain ⟨a4, c4, hv4⟩ := ho4.slice.arg.form
      generalize hnl4 : List.length _ = nl4 at hv4
      subst hv4
      have F4 := Lib.hid (show Fr (fun j => r.cv.ownBlock = some j) w3 w4 from ((Fr.refl No w3).drew.of0 (W := fun j => r.cv.ownBlock = some j)).trans hf4 (fun _ _ h => h))
      have O4 := Lib.hid ho4
      have N4 := Lib.hid hn4
      clear ho4 hf4 hn4
      refine hK'.out _ _ (fun _ => ?_) (fun hS => ?_)
      · exact KP.out _ F4.out
      try simp only [Act.put, List.setIfInBounds_toArray, List.set_cons_zero, List.set_cons_succ]
      repeat (first | ((first | with_reducible refine lexM_read ?_ | ((with_reducible refine lexM_readG ?_ ?_); (focus rfl))); apply Exists.intro; refine ⟨?_, ?_⟩; (focus (first | exact lex_load (ty := 30) rfl (fun w h => h.2.1) uK rK (by rw [HQ.out]; exact infoHash) | exact fun w' h => exec_lookup (t := 53) rfl rfl rfl (LK.out w' h.2.2.1) | (intro w' hS; obtain ⟨s1, s2, s3, s4⟩ := hS; go_simp; (try with_reducible rfl); done))); try simp only [Act.put, List.setIfInBounds_toArray, List.set_cons_zero, List.set_cons_succ]) | ((first | ((with_reducible refine lexM_skip (c := false) ?_ ?_ ?_); (focus rfl); (focus rfl)) | ((with_reducible refine lexM_skip (c := true) ?_ ?_ ?_); (focus rfl); (focus rfl)) | ((with_reducible refine lexM_skipU ?_ ?_); (focus rfl))); try simp only [Act.put, List.setIfInBounds_toArray, List.set_cons_zero, List.set_cons_succ]))
      obtain ⟨z1, z2⟩ := FZ.out _ F4.out
      (first | with_reducible refine lexM_eff (fun K' hK' => ?_) | ((with_reducible refine lexM_effG ?_ (fun K' hK' => ?_)); (focus rfl)))
      go_simp
      refine hK'.out _ _ (fun h => absurd rfl h) (fun hS => ?_)
      refine lexM_nil (hK.out _ _ ?_)
      obtain ⟨g5, f5⟩ := STa.out.gr.setc F4.out O4.out (fun j hj => .inl (N4.out j hj)) (fun y hy => ROK.out.2.2 y (List.mem_filter.1 hy).1)
      have F5 := Lib.hid f5
      have ST5 := Lib.hid (cut_step STa.out g5 f5 (fun j hj => by
        rw [mem_blks] at hj ⊢
        exact hj.imp id (fun h => h.imp id (N4.out j))) (by rw [RID.out]; exact QX.out) (step_map (f := cutK x (r0.ps.take n)) (g := cutK x (r0.ps.take (n + 1))) TN.out (fun _ => rfl) STa.out.tri rfl (fun t ht e1 e2 => by
        simp only [RecD.t3, cutK] at e2 ⊢
        rw [e1, if_neg QN.out] at e2
        rw [e1, QT.out, if_pos (by simp)]
        injection e2 with e2 e3
        injection e3 with e3 e4
        rw [e3, e4]) (fun t ht e1 => by
        simp only [cutK, QT.out, List.mem_append, List.mem_singleton, e1, or_false])))
      clear g5 f5 z1 z2
      go_wp2_with fail
      go_roundw
      case rel => exact ⟨n + 1, _, by simp, by omega, ST5.out, range_keep RXa.out F5.out (fun e => by have := BLX.out _ e; omega), Nat.lt_of_lt_of_le HBa.out F5.out.size⟩
      case measure => show r0.ps.length - (n + 1) < r0.ps.length - n; omega
    · have i1 : ¬ (n : Int) < (r0.ps.length : Int) := by omega
      have hnl : n = r0.ps.length := by omega
      subst hnl
      rw [List.take_length] at hst
      have ck := (blk3 (hst.gr.node r0 hst.r0).blk).2.2.1
      rw [CV.out] at ck
      have ST2 := Lib.hid hst
      have RX2 := Lib.hid hrx
      have HB2 := Lib.hid hbs
      clear hst hrx hbs ST1 RX1 HB1
      go_wp2_with fail
      go_loopw [51] (fun iv wr => ∃ (n : Nat) (L' : List RecD), iv = .int .i64 n ∧ n ≤ r0.ks.length ∧ CutSt w0 w wr p m sq L L' ((triG G).map (cutP x r0.ps (r0.ks.take n))) r0 ∧ wr.rangeAt bx 0 (hashC x) ∧ bx < wr.heap.size) (fun iv _ => r0.ks.length - (intOf iv).toNat)
      case atStart => exact ⟨0, _, rfl, Nat.zero_le _, ⟨ST2.out.gr, ST2.out.tri.trans (List.map_congr_left fun t _ => by simp [cutK, cutP]), ST2.out.r0, ST2.out.sub, ST2.out.fr⟩, RX2.out, HB2.out⟩
      case round =>
        obtain ⟨n, L', rfl, hn, hst, hrx, hbs⟩ := hrel
        by_cases h : n < r0.ks.length
        · have i1 : (n : Int) < (r0.ks.length : Int) := by omega
          obtain ⟨q, hq⟩ : ∃ q, r0.ks[n]? = some q := ⟨_, List.getElem?_eq_getElem h⟩
          have QM := Lib.hid (List.mem_of_getElem? hq)
          obtain ⟨A, r, B, rfl, hrid, t, ht, htq, htf⟩ := find_rec (f := cutP x r0.ps (r0.ks.take n)) (fun _ => rfl) hst.tri (q := q) (by rw [triG_ids]; exact KSI.out q QM.out)
          have NR0 := (hst.gr.node r0 hst.r0).crow
          rw [CV.out] at NR0
          obtain ⟨bq, oq, cq, hvq, hrq, -⟩ := (IdsIs.own NR0 OK0.out.2.2).at_ hq
          cases hvq
          have QOK := Lib.hid (OK0.out.2.2 q QM.out)
          have HQ := Lib.hid (hashC_len QOK.out)
          have R1 := Lib.hid hrq
          have FA := Lib.hid ((Fr.refl No wr).alloc (.cells (hashC q).toArray 30))
          have RN := Lib.hid (range_new wr (hashC q) 30)
          have STa := Lib.hid (hst.fr0 FA.out)
          have RXa := Lib.hid (range_keep hrx FA.out id)
          have HBa := Lib.hid (Nat.lt_of_lt_of_le hbs FA.out.size)
          have HBq := Lib.hid hbs
          have QT := Lib.hid (take_snoc hq)
          have QN := Lib.hid (take_nmem KSN.out hq)
          have QX := Lib.hid (KSX.out q QM.out)
          have hpl := KL.out
          have LEN := Lib.hid (show r.ps.length ≤ 1000 by
            have h1 := TKL.out t ht
            have e1 := congrArg (fun z : Tri => z.2.1) htf
            simp only [cutP, RecD.t3] at e1
            rw [htq, if_neg QN.out] at e1
            rw [← e1]
            exact h1.1)
          clear hst hrx hbs hq hrq NR0 htf ht htq
          subst hrid
          go_wp2_with (first | (refine wpList_value rfl (exec_load (ty := 30) rfl rfl R1.out uK rK (by rw [HQ.out]; exact infoHash)) ?_) | (refine wpList_done rfl (exec_store_new (w := wr) (cs := hashC r.id) (ty := 30) rfl rfl rfl (by rw [HQ.out]; rfl) (by rw [HQ.out]; exact infoHash) hashC_one) ?_))
          generalize hq4 : wr.heap.size = q4 at *
          generalize wr.alloc (.cells (hashC r.id).toArray 30) = w3 at *
          have RM := Lib.hid (show r ∈ A ++ r :: B by simp)
          have ND := Lib.hid (STa.out.gr.node r RM.out)
          have ROK := Lib.hid (show hashOk r.id ∧ (∀ y ∈ r.ps, hashOk y) ∧ ∀ y ∈ r.ks, hashOk y from STa.out.gr.ok r RM.out)
          have DIS := Lib.hid (fun j (hj : r.pv.ownBlock = some j) => STa.out.gr.dis (A := A) (B := B) (j := j) (.inl hj))
          have BLX := Lib.hid (show ∀ j ∈ r.blks, j < bx from fun j hj => HW.out j (STa.out.sub j (by rw [gblks_mid]; simp [hj])))
          have OBX := Lib.hid (show ∀ j, r.pv.ownBlock = some j → j < bx from fun j hj => BLX.out j (mem_blks.2 (.inr (.inl hj))))
          have LK := Lib.hid (STa.out.gr.lookR RM.out)
          have KP := Lib.hid (fun (w' : World) (f : Fr (fun j => r.pv.ownBlock = some j) w3 w') => (⟨f.cell (blk2 STa.out.gr.obj).1 (fun e => (DIS.out _ e).1 rfl), range_keep RN.out f (fun e => by have := OBX.out _ e; have := HBq.out; omega), fun M hM => hM.keep f (fun e => (DIS.out _ e).2.1 rfl), f.cell (blk3 ND.out.blk).2.1 (fun e => (DIS.out _ e).2.2.1 rfl)⟩ : w'.cell? ⟨p, 0, none⟩ = some (.map (some m)) ∧ w'.rangeAt q4 0 (hashC r.id) ∧ (∀ M, GMap w3 m M → GMap w' m M) ∧ w'.cell? ⟨r.b, 1, none⟩ = some r.pv))
          have FZ := Lib.hid (fun (w' : World) (f : Fr (fun j => r.pv.ownBlock = some j) w3 w') => (⟨(blk3 (f.obj ND.out.blk (fun e => (DIS.out _ e).2.2.1 rfl))).2.1, (blk3 (f.obj ND.out.blk (fun e => (DIS.out _ e).2.2.1 rfl))).2.2.2.2.1⟩ : w'.cell? ⟨r.b, 1, none⟩ = some r.pv ∧ w'.frozen? ⟨r.b, 1, none⟩ = false))
          refine wp_region_lexM [false, false, false, false, false, false, false, false, false, false, false, false, false, false, false, false, true, false, false, true] (fun w' => w'.cell? ⟨p, 0, none⟩ = some (.map (some m)) ∧ w'.rangeAt q4 0 (hashC r.id) ∧ (∀ M, GMap w3 m M → GMap w' m M) ∧ w'.cell? ⟨r.b, 1, none⟩ = some r.pv) (by kernel_rfl) (by kernel_rfl) 19 (by kernel_rfl) (by kernel_rfl) ?_ (fun K hK => ?_)
          · exact KP.out _ (Fr.refl No _).drew.of0
          repeat (first | ((first | with_reducible refine lexM_read ?_ | ((with_reducible refine lexM_readG ?_ ?_); (focus rfl))); apply Exists.intro; refine ⟨?_, ?_⟩; (focus (first | exact lex_load (ty := 30) rfl (fun w h => h.2.1) uK rK (by rw [HQ.out]; exact infoHash) | exact fun w' h => exec_lookup (t := 53) rfl rfl rfl (LK.out w' h.2.2.1) | (intro w' hS; obtain ⟨s1, s2, s3, s4⟩ := hS; go_simp; (try with_reducible rfl); done))); try simp only [Act.put, List.setIfInBounds_toArray, List.set_cons_zero, List.set_cons_succ]) | ((first | ((with_reducible refine lexM_skip (c := false) ?_ ?_ ?_); (focus rfl); (focus rfl)) | ((with_reducible refine lexM_skip (c := true) ?_ ?_ ?_); (focus rfl); (focus rfl)) | ((with_reducible refine lexM_skipU ?_ ?_); (focus rfl))); try simp only [Act.put, List.setIfInBounds_toArray, List.set_cons_zero, List.set_cons_succ]))
          (first | with_reducible refine lexM_eff (fun K' hK' => ?_) | ((with_reducible refine lexM_effG ?_ (fun K' hK' => ?_)); (focus rfl)))
          go_simp
          refine (deleteFunc_any (w := w3.drew) (B := w0.heap.size) (v := r.pv) (l := r.ps) (ownsRow_keep ND.out.prow ((Fr.refl No w3).drew) (fun _ _ => id)) ROK.out.2.1 (by have := LEN.out; omega) (range_keep RXa.out ((Fr.refl No w3).drew) id) XOK.out (fun j hj e => by have := OBX.out j hj; omega) HBa.out).mono ?_
          rintro e w4 ⟨v4, rfl, ho4, hf4, hn4⟩
          obtain ⟨a4, c4, hv4⟩ := ho4.slice.arg.form
          generalize hnl4 : List.length _ = nl4 at hv4
          subst hv4
          have F4 := Lib.hid (show Fr (fun j => r.pv.ownBlock = some j) w3 w4 from ((Fr.refl No w3).drew.of0 (W := fun j => r.pv.ownBlock = some j)).trans hf4 (fun _ _ h => h))
          have O4 := Lib.hid ho4
          have N4 := Lib.hid hn4
          clear ho4 hf4 hn4
          refine hK'.out _ _ (fun _ => ?_) (fun hS => ?_)
          · exact KP.out _ F4.out
          try simp only [Act.put, List.setIfInBounds_toArray, List.set_cons_zero, List.set_cons_succ]
          repeat (first | ((first | with_reducible refine lexM_read ?_ | ((with_reducible refine lexM_readG ?_ ?_); (focus rfl))); apply Exists.intro; refine ⟨?_, ?_⟩; (focus (first | exact lex_load (ty := 30) rfl (fun w h => h.2.1) uK rK (by rw [HQ.out]; exact infoHash) | exact fun w' h => exec_lookup (t := 53) rfl rfl rfl (LK.out w' h.2.2.1) | (intro w' hS; obtain ⟨s1, s2, s3, s4⟩ := hS; go_simp; (try with_reducible rfl); done))); try simp only [Act.put, List.setIfInBounds_toArray, List.set_cons_zero, List.set_cons_succ]) | ((first | ((with_reducible refine lexM_skip (c := false) ?_ ?_ ?_); (focus rfl); (focus rfl)) | ((with_reducible refine lexM_skip (c := true) ?_ ?_ ?_); (focus rfl); (focus rfl)) | ((with_reducible refine lexM_skipU ?_ ?_); (focus rfl))); try simp only [Act.put, List.setIfInBounds_toArray, List.set_cons_zero, List.set_cons_succ]))
          obtain ⟨z1, z2⟩ := FZ.out _ F4.out
          (first | with_reducible refine lexM_eff (fun K' hK' => ?_) | ((with_reducible refine lexM_effG ?_ (fun K' hK' => ?_)); (focus rfl)))
          go_simp
          refine hK'.out _ _ (fun h => absurd rfl h) (fun hS => ?_)
          refine lexM_nil (hK.out _ _ ?_)
          obtain ⟨g5, f5⟩ := STa.out.gr.setp F4.out O4.out (fun j hj => .inl (N4.out j hj)) (fun y hy => ROK.out.2.1 y (List.mem_filter.1 hy).1)
          have F5 := Lib.hid f5
          have ST5 := Lib.hid (cut_step STa.out g5 f5 (fun j hj => by
            rw [mem_blks] at hj ⊢
            exact hj.imp id (fun h => h.imp (N4.out j) id)) (by rw [RID.out]; exact QX.out) (step_map (f := cutP x r0.ps (r0.ks.take n)) (g := cutP x r0.ps (r0.ks.take (n + 1))) TN.out (fun _ => rfl) STa.out.tri rfl (fun t ht e1 e2 => by
            simp only [RecD.t3, cutP] at e2 ⊢
            rw [e1, if_neg QN.out] at e2
            rw [e1, QT.out, if_pos (by simp)]
            injection e2 with e2 e3
            injection e3 with e3 e4
            rw [e3, e4]) (fun t ht e1 => by
            simp only [cutP, QT.out, List.mem_append, List.mem_singleton, e1, or_false])))
          clear g5 f5 z1 z2
          go_wp2_with fail
          go_roundw
          case rel => exact ⟨n + 1, _, by simp, by omega, ST5.out, range_keep RXa.out F5.out (fun e => by have := BLX.out _ e; omega), Nat.lt_of_lt_of_le HBa.out F5.out.size⟩
          case measure => show r0.ks.length - (n + 1) < r0.ks.length - n; omega
        · have i1 : ¬ (n : Int) < (r0.ks.length : Int) := by omega
          have hnl : n = r0.ks.length := by omega
          subst hnl
          rw [List.take_length] at hst
          obtain ⟨M, hM, hMs⟩ := hst.gr.map
          obtain ⟨w5, M', hdl, hM', hdel, htu, -⟩ := (hM.keep (Fr.refl No wr).drew id).del eqHash.keyed undGraphMap (fun _ _ => hashV_inj) (keyOfHash XOK.out) 0 30
          obtain ⟨A, B, rfl⟩ := List.append_of_mem hst.r0
          have G5 := Lib.hid (hst.gr.del hMs hM' (by rw [RID.out]; exact hdel) (((Fr.refl No wr).drew.of0 (W := fun j => j = m)).trans htu.fr (fun _ _ h => h)))
          have F5 := Lib.hid (show Fr (fun j => j ∈ gblks p m L) w w5 from hst.fr.trans (((Fr.refl No wr).drew.of0 (W := fun j => j = m)).trans htu.fr (fun _ _ h => h)) (fun i _ e => hst.sub i (by rw [e]; simp [gblks])))
          have T5 := Lib.hid (show (A ++ B).map RecD.t3 = triG (cutG G x) by
            rw [FIN.out, ← hst.tri, List.map_append (l₁ := A) (l₂ := r0 :: B), List.map_cons, List.filter_append, List.filter_cons_of_neg (by simp [RecD.t3, RID.out]), List.map_append]
            have hidn := hst.gr.idn
            rw [List.map_append, List.map_cons] at hidn
            obtain ⟨i1, i2, i3⟩ := List.nodup_append.1 hidn
            congr 1
            · refine (List.filter_eq_self.2 fun t ht => ?_).symm
              obtain ⟨r, hr, rfl⟩ := List.mem_map.1 ht
              exact decide_eq_true fun (e : r.id = x) => i3 r.id (List.mem_map.2 ⟨r, hr, rfl⟩) r0.id (by simp) (by rw [e, RID.out])
            · refine (List.filter_eq_self.2 fun t ht => ?_).symm
              obtain ⟨r, hr, rfl⟩ := List.mem_map.1 ht
              exact decide_eq_true fun (e : r.id = x) => (List.nodup_cons.1 i2).1 (by rw [RID.out, ← e]; exact List.mem_map.2 ⟨r, hr, rfl⟩))
          have SB := Lib.hid (show ∀ j ∈ gblks p m (A ++ B), j ∈ gblks p m L from fun j hj => hst.sub j (by
            rw [gblks_mid]
            simp only [gblks, List.flatMap_append, List.mem_cons, List.mem_append] at hj ⊢
            rcases hj with h | h | h | h
            · exact .inl (.inl h)
            · exact .inl (.inr (.inl h))
            · exact .inl (.inr (.inr h))
            · exact .inr (.inr h)))
          have c0 := (blk2 hst.gr.obj).1
          have RX3 := Lib.hid hrx
          have HDL := Lib.hid hdl
          clear hst hrx hbs hM hMs hdl hM' hdel htu ST2 RX2 HB2
          unfold hashV at HDL
          go_wp2_with fail
          refine wp_region_lexM [false, false, false, false, false, true] (fun w' => w'.cell? ⟨p, 0, none⟩ = some (.map (some m)) ∧ w'.rangeAt bx 0 (hashC x)) (by kernel_rfl) (by kernel_rfl) 5 (by kernel_rfl) (by kernel_rfl) ?_ (fun K hK => ?_)
          · exact ⟨(Fr.refl No _).drew.cell c0 id, range_keep RX3.out (Fr.refl No _).drew id⟩
          repeat (first | ((first | with_reducible refine lexM_read ?_ | ((with_reducible refine lexM_readG ?_ ?_); (focus rfl))); apply Exists.intro; refine ⟨?_, ?_⟩; (focus (first | exact lex_load (ty := 30) rfl (fun w h => h.2) uK rK (by rw [HX.out]; exact infoHash) | (intro w' hS; obtain ⟨s1, s2⟩ := hS; go_simp; (try with_reducible rfl); done))); try simp only [Act.put, List.setIfInBounds_toArray, List.set_cons_zero, List.set_cons_succ]) | ((first | ((with_reducible refine lexM_skip (c := false) ?_ ?_ ?_); (focus rfl); (focus rfl)) | ((with_reducible refine lexM_skip (c := true) ?_ ?_ ?_); (focus rfl); (focus rfl)) | ((with_reducible refine lexM_skipU ?_ ?_); (focus rfl))); try simp only [Act.put, List.setIfInBounds_toArray, List.set_cons_zero, List.set_cons_succ]))
          (first | with_reducible refine lexM_eff (fun K' hK' => ?_) | ((with_reducible refine lexM_effG ?_ (fun K' hK' => ?_)); (focus rfl)))
          refine wp_value (exec_delete rfl rfl rfl HDL.out) ?_
          refine hK'.out _ _ (fun h => absurd rfl h) (fun hS => ?_)
          refine lexM_nil (hK.out _ _ ?_)
          go_wp2_with fail
          (try simp only [Exit.inBlock, Exit.then])
          refine bodyPost_ret (results_none rfl _ _ _) rfl ?_
          exact ⟨rfl, _, GC.of_tri G5.out T5.out SQ.out COK.out CLN.out, F5.out, SB.out⟩
end
end Go.Proofs.Ytnjkpjcnmdgoeaa
