/- chain: own, of a block without transactions. -/
import Derived.Test.YtmpamcnlineceaaDoorMG27
import Derived.Test.YtmpamcnlineceaaDoorMG36
set_option linter.unusedVariables false
set_option linter.unusedSimpArgs false
set_option linter.unnecessarySimpa false
set_option linter.all false
namespace Go.Proofs.YtmpamcnlineceaaDoor
open Go Go.RowKit Go.Maps Go.MapKept

set_option maxRecDepth 20000 in
set_option maxHeartbeats 2000000 in
theorem own0_any (w : World) {b : BlkD} {cs : List Value} (ht : BlkQ w b cs) (h0 : b.txs = []) (hN : b.pay.length ≤ 100000) :
    Calls Tryd.prog 32 #[.agg cs.toArray] w (OwnOk w b) := by
  obtain ⟨ia, ic, oa, oc, rfl, hv, ho, -⟩ := ht
  obtain ⟨dB, uB, rB⟩ := descBlk
  rw [h0]
  have zB := zeroBlk
  have f1 : Fr No w (w.alloc (.cells #[.int .u64 b.tag, .slice ia b.pay.length ic, .slice oa 0 oc] 27)) := (Fr.refl No w).alloc _
  have f12 : Fr No (w.alloc (.cells #[.int .u64 b.tag, .slice ia b.pay.length ic, .slice oa 0 oc] 27)) _ := (Fr.refl No _).alloc (.cells blkz.toArray 27)
  obtain ⟨c0, c1, c2, -⟩ := row3_new w (.int .u64 b.tag) (.slice ia b.pay.length ic) (.slice oa 0 oc) 27
  have C0 := Lib.hid (f12.cell c0 _root_.id)
  have C1 := Lib.hid (f12.cell c1 _root_.id)
  have C2 := Lib.hid (f12.cell c2 _root_.id)
  have F2 := Lib.hid (f1.trans0 f12)
  have B2 := Lib.hid (new_obj' (w.alloc (.cells #[.int .u64 b.tag, .slice ia b.pay.length ic, .slice oa 0 oc] 27)) (.cells blkz.toArray 27) (n := w.heap.size + 1) (by simp))
  have HO := Lib.hid (ho.keep F2.out)
  have Z2 := Lib.hid (show ((w.alloc (.cells #[.int .u64 b.tag, .slice ia b.pay.length ic, .slice oa 0 oc] 27)).alloc (.cells blkz.toArray 27)).heap.size = w.heap.size + 2 by simp)
  have HN := Lib.hid hN
  have HV := Lib.hid hv
  have H0 := Lib.hid h0
  clear c0 c1 c2 f1 f12 ho hv hN h0
  show Calls Tryd.prog 32 #[.agg #[.int .u64 b.tag, .slice ia b.pay.length ic, .slice oa 0 oc]] w _
  go_enter Tryd.func32, Tryd.ntmps32
  go_wp2_with fail
  generalize (w.alloc (.cells #[.int .u64 b.tag, .slice ia b.pay.length ic, .slice oa 0 oc] 27)).alloc (.cells blkz.toArray 27) = w2 at *
  have FD := Lib.hid (Fr.refl No w2).drew
  have HOd := Lib.hid (HO.out.keep FD.out)
  have B2d := Lib.hid (FD.out.obj B2.out _root_.id)
  have C0d := Lib.hid (FD.out.cell C0.out _root_.id)
  have C1d := Lib.hid (FD.out.cell C1.out _root_.id)
  have C2d := Lib.hid (FD.out.cell C2.out _root_.id)
  have Zd := Lib.hid (show w2.drew.heap.size = w.heap.size + 2 from Z2.out)
  have F2d := Lib.hid (F2.out.trans0 FD.out)
  refine wp_region_lexT 8 [0, 1, 2, 3, 4, 5, 6, 7] (fun w' => w'.cell? ⟨w.heap.size, 0, none⟩ = some (.int .u64 b.tag) ∧ w'.cell? ⟨w.heap.size, 1, none⟩ = some (.slice ia b.pay.length ic)) (by kernel_rfl) (by kernel_rfl) (by kernel_rfl) (by kernel_rfl) ?_ (fun K hK => ?_)
  · exact ⟨C0d.out, C1d.out⟩
  generalize w2.drew = w3 at *
  (((first | (refine lexT_rd 0 (by kernel_rfl) rfl rfl ?_; apply Exists.intro; refine ⟨?_, ?_⟩; (focus (first | (intro w' hS; obtain ⟨s1, s2⟩ := hS; go_simp; (try with_reducible rfl); done)))) | (refine lexT_sk 0 (by kernel_rfl) rfl rfl ?_)); try simp only [Act.put, List.setIfInBounds_toArray, List.set_cons_zero, List.set_cons_succ]); ((first | (refine lexT_rd 1 (by kernel_rfl) rfl rfl ?_; apply Exists.intro; refine ⟨?_, ?_⟩; (focus (first | (intro w' hS; obtain ⟨s1, s2⟩ := hS; go_simp; (try with_reducible rfl); done)))) | (refine lexT_sk 1 (by kernel_rfl) rfl rfl ?_)); try simp only [Act.put, List.setIfInBounds_toArray, List.set_cons_zero, List.set_cons_succ]); ((first | (refine lexT_rd 2 (by kernel_rfl) rfl rfl ?_; apply Exists.intro; refine ⟨?_, ?_⟩; (focus (first | (intro w' hS; obtain ⟨s1, s2⟩ := hS; go_simp; (try with_reducible rfl); done)))) | (refine lexT_sk 2 (by kernel_rfl) rfl rfl ?_)); try simp only [Act.put, List.setIfInBounds_toArray, List.set_cons_zero, List.set_cons_succ]); ((first | (refine lexT_rd 3 (by kernel_rfl) rfl rfl ?_; apply Exists.intro; refine ⟨?_, ?_⟩; (focus (first | (intro w' hS; obtain ⟨s1, s2⟩ := hS; go_simp; (try with_reducible rfl); done)))) | (refine lexT_sk 3 (by kernel_rfl) rfl rfl ?_)); try simp only [Act.put, List.setIfInBounds_toArray, List.set_cons_zero, List.set_cons_succ]))
  refine lexT_ef2 4 6 (by kernel_rfl) rfl rfl rfl rfl (fun K' hK' => ?_) (fun K' hK' => ?_)
  · obtain ⟨pv, w4, a1, a2, a3, -⟩ := append_outs w3 (k := []) (World.ownsRow_nil w3 (w.heap.size + 2) _ 33) HOd.out (by have := HN.out; simp; omega) (by have := Zd.out; omega) 22
    rw [List.length_nil, Nat.zero_add, List.nil_append] at a2
    obtain ⟨pa, pc, hpv⟩ := a2.slice.arg.form
    subst hpv
    have A1 := Lib.hid a1
    have F4 := Lib.hid (show Fr No w3 w4 from a3.mono (fun j e => by cases e))
    have O4 := Lib.hid a2
    clear a1 a2 a3
    refine wp_append_run rfl rfl rfl A1.out ?_
    refine hK'.out _ _ ?_ (fun hS => ?_)
    · exact ⟨F4.out.cell C0d.out _root_.id, F4.out.cell C1d.out _root_.id⟩
    try simp only [Act.put, List.setIfInBounds_toArray, List.set_cons_zero, List.set_cons_succ]
    (((first | (refine lexT_rd 5 (by kernel_rfl) rfl rfl ?_; apply Exists.intro; refine ⟨?_, ?_⟩; (focus (first | exact fun w' _ => exec_bld (t := 27) rfl rfl (bldBlk2 _ _ _ _ _) | (intro w' hS; obtain ⟨s1, s2⟩ := hS; go_simp; (try with_reducible rfl); done)))) | (refine lexT_sk 5 (by kernel_rfl) rfl rfl ?_)); try simp only [Act.put, List.setIfInBounds_toArray, List.set_cons_zero, List.set_cons_succ]))
    refine lexT_ef1 6 (by kernel_rfl) rfl rfl (fun K' hK' => ?_)
    refine wp_value (exec_alloc rfl (zeroBlk _)) ?_
    have F5 := Lib.hid ((Fr.refl No w4).alloc (.cells blkz.toArray 27))
    refine hK'.out _ _ ?_ (fun hS => ?_)
    · exact ⟨F5.out.cell (F4.out.cell C0d.out _root_.id) _root_.id, F5.out.cell (F4.out.cell C1d.out _root_.id) _root_.id⟩
    try simp only [Act.put, List.setIfInBounds_toArray, List.set_cons_zero, List.set_cons_succ]
    refine lexT_ef1 7 (by kernel_rfl) rfl rfl (fun K' hK' => ?_)
    refine wp_done (exec_store_new (w := w4) (ty := 27) (cs := [.int .u64 b.tag, .slice pa b.pay.length pc, .slice none 0 0]) rfl rfl rfl rfl infoBlk (fun u hu => by simp only [List.mem_cons, List.not_mem_nil, or_false] at hu; rcases hu with rfl | rfl | rfl <;> rfl)) ?_
    have F6 := Lib.hid ((Fr.refl No w4).alloc (.cells [.int .u64 b.tag, .slice pa b.pay.length pc, .slice none 0 0].toArray 27))
    refine hK'.out _ _ ?_ (fun hS => ?_)
    · exact ⟨F6.out.cell (F4.out.cell C0d.out _root_.id) _root_.id, F6.out.cell (F4.out.cell C1d.out _root_.id) _root_.id⟩
    try simp only [Act.put, List.setIfInBounds_toArray, List.set_cons_zero, List.set_cons_succ]
    refine lexT_nil (hK.out _ _ ?_)
    have OB := Lib.hid (new_obj w4 (.cells [.int .u64 b.tag, .slice pa b.pay.length pc, .slice none 0 0].toArray 27))
    have OV := Lib.hid (ownsRow_keep O4.out F6.out (fun _ _ => _root_.id))
    have F26 := Lib.hid (F4.out.trans0 F6.out)
    generalize w4.alloc (.cells [.int .u64 b.tag, .slice pa b.pay.length pc, .slice none 0 0].toArray 27) = w6 at *
    generalize w4.heap.size = qd at *
    have FF := Lib.hid (F2d.out.trans0 F26.out)
    clear F4 F5 F6 O4 A1
    have c0d := FF.out.size
    have C2e := Lib.hid (F26.out.cell C2d.out _root_.id)
    have c2 := C2e.out
    have R6 := Lib.hid (range_obj OB.out)
    have c2d : w6.cell? ⟨qd, 2, none⟩ = some (.slice none 0 0) := by have := R6.out 2 _ rfl; simpa using this
    clear c0d
    have i1 : ¬ (0 : Int) < 0 := by omega
    have HX := Lib.hid (show ∀ V : Nat → Prop, (∀ j, V j → j < w.heap.size + 2) → Kept V w6 (fun w => BlkQ w b [.int .u64 b.tag, .slice pa b.pay.length pc, .slice none 0 0]) from fun V hV w' f => ⟨pa, pc, none, 0, by rw [H0.out]; rfl, HV.out, kept_outs OV.out HOd.out.1 (fun j hj => by have := hV j hj; omega) w' f, by rw [H0.out]; exact RowsIs.nil⟩)
    have B6 := Lib.hid (F26.out.obj B2d.out _root_.id)
    clear c2d
    go_wp2_with fail
    go_loopw [18] (fun iv wr => iv = .int .i64 0 ∧ wr = w6) (fun _ _ => 0)
    case atStart => exact ⟨rfl, rfl⟩
    case round =>
      obtain ⟨rfl, hw⟩ := hrel
      rw [hw]
      have K0 := Lib.hid True.intro
      have K1 := Lib.hid True.intro
      go_wp2_with (first | ((with_reducible refine at_list ?_); have mk := K0.out; refine wpList_value rfl (exec_load (ty := 27) rfl rfl R6.out uB rB infoBlk) ?_; go_frame; clear mk K0) | ((with_reducible refine at_store ?_); have mk := K1.out; refine wpList_done rfl (exec_store (ty := 27) (b := w.heap.size + 1) (off := 0) (cs := [.int .u64 b.tag, .slice pa b.pay.length pc, .slice none 0 0]) rfl rfl rfl (there_obj B6.out (Nat.le_refl 3)) infoBlk (fun u hu => by simp only [List.mem_cons, List.not_mem_nil, or_false] at hu; rcases hu with rfl | rfl | rfl <;> rfl)) ?_; go_frame; clear mk K1))
      have BE := set3 (cs := [.int .u64 b.tag, .slice pa b.pay.length pc, .slice none 0 0]) B6.out rfl
      have fE := setCells_fr (w.heap.size + 1) [.int .u64 b.tag, .slice pa b.pay.length pc, .slice none 0 0] 0 w6
      refine bodyPost_ret (v := .agg [.int .u64 b.tag, .slice pa b.pay.length pc, .slice none 0 0].toArray) (results_cell_row (P := Tryd.prog) (fn := Tryd.f32) rfl _ _ (w.heap.size + 1) 27 _ (0, 0) _ rfl BE Tryd.underlying27 rfl infoBlk) rfl ⟨_, rfl, FF.out.trans fE (fun i hi e => by omega), fun V hV w' f => HX.out (fun j => V j ∨ j = w.heap.size + 1) (fun j hj => by rcases hj with hj | hj; have := hV j hj; omega; omega) w' ((fE.mono (fun j hj => .inr hj)).trans (f.mono (fun j hj => .inl hj)) (fun _ _ h => h))⟩
  · refine wp_value (exec_alloc rfl (zeroBlk _)) ?_
    have F5 := Lib.hid ((Fr.refl No w3).alloc (.cells blkz.toArray 27))
    have B5 := Lib.hid (new_obj w3 (.cells blkz.toArray 27))
    have Q5 := Lib.hid (show (w3.alloc (.cells blkz.toArray 27)).heap.size = w3.heap.size + 1 by simp)
    generalize w3.alloc (.cells blkz.toArray 27) = w4 at *
    generalize hqd : w3.heap.size = qd at *
    refine hK'.out _ _ ?_ (fun hS => ?_)
    · exact ⟨F5.out.cell C0d.out _root_.id, F5.out.cell C1d.out _root_.id⟩
    try simp only [Act.put, List.setIfInBounds_toArray, List.set_cons_zero, List.set_cons_succ]
    refine lexT_ef1 4 (by kernel_rfl) rfl rfl (fun K' hK' => ?_)
    obtain ⟨pv, w5, a1, a2, a3, -⟩ := append_outs w4 (k := []) (World.ownsRow_nil w4 (w.heap.size + 3) _ 33) (HOd.out.keep F5.out) (by have := HN.out; simp; omega) (by have := Zd.out; have := Q5.out; omega) 22
    rw [List.length_nil, Nat.zero_add, List.nil_append] at a2
    obtain ⟨pa, pc, hpv⟩ := a2.slice.arg.form
    subst hpv
    have A1 := Lib.hid a1
    have F4 := Lib.hid (show Fr No w4 w5 from a3.mono (fun j e => by cases e))
    have O4 := Lib.hid a2
    clear a1 a2 a3
    refine wp_append_run rfl rfl rfl A1.out ?_
    have F35 := Lib.hid (F5.out.trans0 F4.out)
    have B5e := Lib.hid (F4.out.obj B5.out _root_.id)
    refine hK'.out _ _ ?_ (fun hS => ?_)
    · exact ⟨F35.out.cell C0d.out _root_.id, F35.out.cell C1d.out _root_.id⟩
    try simp only [Act.put, List.setIfInBounds_toArray, List.set_cons_zero, List.set_cons_succ]
    (((first | (refine lexT_rd 5 (by kernel_rfl) rfl rfl ?_; apply Exists.intro; refine ⟨?_, ?_⟩; (focus (first | exact fun w' _ => exec_bld (t := 27) rfl rfl (bldBlk2 _ _ _ _ _) | (intro w' hS; obtain ⟨s1, s2⟩ := hS; go_simp; (try with_reducible rfl); done)))) | (refine lexT_sk 5 (by kernel_rfl) rfl rfl ?_)); try simp only [Act.put, List.setIfInBounds_toArray, List.set_cons_zero, List.set_cons_succ]))
    refine lexT_ef1 7 (by kernel_rfl) rfl rfl (fun K' hK' => ?_)
    refine wp_done (exec_store (ty := 27) (b := qd) (off := 0) (cs := [.int .u64 b.tag, .slice pa b.pay.length pc, .slice none 0 0]) rfl rfl rfl (there_obj B5e.out (Nat.le_refl 3)) infoBlk (fun u hu => by simp only [List.mem_cons, List.not_mem_nil, or_false] at hu; rcases hu with rfl | rfl | rfl <;> rfl)) ?_
    have F6 := Lib.hid (setCells_fr qd [.int .u64 b.tag, .slice pa b.pay.length pc, .slice none 0 0] 0 w5)
    have F26 := Lib.hid (show Fr No w3 _ from F35.out.trans F6.out (fun i hi e => by omega))
    refine hK'.out _ _ ?_ (fun hS => ?_)
    · exact ⟨F26.out.cell C0d.out _root_.id, F26.out.cell C1d.out _root_.id⟩
    try simp only [Act.put, List.setIfInBounds_toArray, List.set_cons_zero, List.set_cons_succ]
    refine lexT_nil (hK.out _ _ ?_)
    have OB := Lib.hid (set3 (cs := [.int .u64 b.tag, .slice pa b.pay.length pc, .slice none 0 0]) B5e.out rfl)
    have OV := Lib.hid (ownsRow_keep O4.out F6.out (fun j hj e => by have := (O4.out.lt j hj).1; have := Zd.out; omega))
    generalize w5.setCells qd 0 [.int .u64 b.tag, .slice pa b.pay.length pc, .slice none 0 0] = w6 at *
    have FF := Lib.hid (F2d.out.trans0 F26.out)
    clear F4 F5 F6 O4 A1
    have c0d := FF.out.size
    have C2e := Lib.hid (F26.out.cell C2d.out _root_.id)
    have c2 := C2e.out
    have R6 := Lib.hid (range_obj OB.out)
    have c2d : w6.cell? ⟨qd, 2, none⟩ = some (.slice none 0 0) := by have := R6.out 2 _ rfl; simpa using this
    clear c0d
    have i1 : ¬ (0 : Int) < 0 := by omega
    have HX := Lib.hid (show ∀ V : Nat → Prop, (∀ j, V j → j < w.heap.size + 2) → Kept V w6 (fun w => BlkQ w b [.int .u64 b.tag, .slice pa b.pay.length pc, .slice none 0 0]) from fun V hV w' f => ⟨pa, pc, none, 0, by rw [H0.out]; rfl, HV.out, kept_outs OV.out HOd.out.1 (fun j hj => by have := hV j hj; omega) w' f, by rw [H0.out]; exact RowsIs.nil⟩)
    have B6 := Lib.hid (F26.out.obj B2d.out _root_.id)
    clear c2d
    go_wp2_with fail
    go_loopw [18] (fun iv wr => iv = .int .i64 0 ∧ wr = w6) (fun _ _ => 0)
    case atStart => exact ⟨rfl, rfl⟩
    case round =>
      obtain ⟨rfl, hw⟩ := hrel
      rw [hw]
      have K0 := Lib.hid True.intro
      have K1 := Lib.hid True.intro
      go_wp2_with (first | ((with_reducible refine at_list ?_); have mk := K0.out; refine wpList_value rfl (exec_load (ty := 27) rfl rfl R6.out uB rB infoBlk) ?_; go_frame; clear mk K0) | ((with_reducible refine at_store ?_); have mk := K1.out; refine wpList_done rfl (exec_store (ty := 27) (b := w.heap.size + 1) (off := 0) (cs := [.int .u64 b.tag, .slice pa b.pay.length pc, .slice none 0 0]) rfl rfl rfl (there_obj B6.out (Nat.le_refl 3)) infoBlk (fun u hu => by simp only [List.mem_cons, List.not_mem_nil, or_false] at hu; rcases hu with rfl | rfl | rfl <;> rfl)) ?_; go_frame; clear mk K1))
      have BE := set3 (cs := [.int .u64 b.tag, .slice pa b.pay.length pc, .slice none 0 0]) B6.out rfl
      have fE := setCells_fr (w.heap.size + 1) [.int .u64 b.tag, .slice pa b.pay.length pc, .slice none 0 0] 0 w6
      refine bodyPost_ret (v := .agg [.int .u64 b.tag, .slice pa b.pay.length pc, .slice none 0 0].toArray) (results_cell_row (P := Tryd.prog) (fn := Tryd.f32) rfl _ _ (w.heap.size + 1) 27 _ (0, 0) _ rfl BE Tryd.underlying27 rfl infoBlk) rfl ⟨_, rfl, FF.out.trans fE (fun i hi e => by omega), fun V hV w' f => HX.out (fun j => V j ∨ j = w.heap.size + 1) (fun j hj => by rcases hj with hj | hj; have := hV j hj; omega; omega) w' ((fE.mono (fun j hj => .inr hj)).trans (f.mono (fun j hj => .inl hj)) (fun _ _ h => h))⟩
end Go.Proofs.YtmpamcnlineceaaDoor
