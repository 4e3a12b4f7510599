/- chain: Disconnect. -/
import Derived.Test.YtmpamcnlineceaaDoorMG31
set_option linter.unusedVariables false
set_option linter.unusedSimpArgs false
set_option linter.unnecessarySimpa false
set_option linter.all false
namespace Go.Proofs.YtmpamcnlineceaaDoor
open Go Go.RowKit Go.Maps Go.MapKept

theorem bldBlk0 (w : World) : (Instr.build 27 #[]).run Tryd.prog w = .ok (.agg blkz.toArray) w := by kernel_rfl
theorem blkz_one : ∀ u ∈ blkz, u.oneCell' = true := by
  intro u hu
  simp only [blkz, List.mem_cons, List.not_mem_nil, or_false] at hu
  rcases hu with rfl | rfl | rfl <;> rfl
theorem range3 {w : World} {q : Nat} {T : TypeId} {a b c d e : Value} (h : w.heap[q]? = some (.cells [a, b, c, d, e].toArray T (0, 0))) : w.rangeAt q 0 [a, b, c] := fun j v hj => by
  refine range_obj h j v ?_
  match j, hj with
  | 0, hj => exact hj
  | 1, hj => exact hj
  | 2, hj => exact hj
theorem own_cut {w : World} {B m k g cap : Nat} {T : TypeId} {A C : List Value} (h : w.ownsRow B T k (.slice (some ⟨g, 0, none⟩) (m + 1) cap) (m + 1) (A ++ C)) (hA : A.length = m * k) : w.ownsRow B T k (.slice (some ⟨g, 0, none⟩) m cap) m A := by
  rcases h.2 with ⟨e, _⟩ | ⟨g', cap', cur, e, h1, h2, h3, h4, h5, h6⟩
  · cases e
  · injection e with e1 e2 e3
    injection e1 with e1
    injection e1 with e1
    subst e1
    subst e3
    refine ⟨hA, .inr ⟨g, cap, cur, rfl, h1, h2, by omega, h4, h5, ?_⟩⟩
    have e1 : cur.toList.take (m * k) = (cur.toList.take ((m + 1) * k)).take (m * k) := by rw [List.take_take, Nat.min_eq_left (Nat.mul_le_mul_right k (Nat.le_succ m))]
    rw [e1, h6, ← hA]
    simp
set_option maxRecDepth 20000 in
set_option maxHeartbeats 2000000 in
theorem disc_none {w0 w : World} {p s mi : Nat} {U : Nat → Prop} {bv : Value} {css : List (List Value)} {D : ChD} (h : ChAt w0 w p s U mi bv css D) (h0 : D.bs = []) :
    Calls Tryd.prog 20 #[.pointer (some ⟨p, 0, none⟩)] w fun e w' => e = .returned (.tuple #[.agg blkz.toArray, .int .i64 9]) ∧ Fr No w w' := by
  obtain ⟨dB, uB, rB⟩ := descBlk
  have zB := zeroBlk
  have F1 := Lib.hid ((Fr.refl No w).alloc (.cells blkz.toArray 27))
  have B1 := Lib.hid (new_obj w (.cells blkz.toArray 27))
  obtain ⟨ba, bc, hbv⟩ := h.row.slice.arg.form
  have c1 := (h.fr0 F1.out).cells.2.1
  rw [hbv, h0] at c1
  clear h hbv
  go_enter Tryd.func20, Tryd.ntmps20
  have K0 := Lib.hid True.intro
  have K1 := Lib.hid True.intro
  go_wp2_with (first | ((with_reducible refine at_list ?_); have mk := K0.out; refine wpList_value rfl (exec_bld (t := 27) rfl rfl (bldBlk0 _)) ?_; go_frame; clear mk K0) | ((with_reducible refine at_store ?_); have mk := K1.out; refine wpList_done rfl (exec_store (ty := 27) (b := w.heap.size) (off := 0) (cs := blkz) rfl rfl rfl (there_obj B1.out (Nat.le_refl 3)) infoBlk blkz_one) ?_; go_frame; clear mk K1))
  refine bodyPost_ret (results_row_tmp (P := Tryd.prog) (fn := Tryd.f20) rfl _ rfl (range_set B1.out rfl) uB rB infoBlk rfl) rfl ⟨rfl, ?_⟩
  exact F1.out.trans (setCells_fr _ _ _ _) (fun i hi e => by omega)
def DiscOk (w0 w : World) (p s mi : Nat) (U : Nat → Prop) (bv : Value) (css : List (List Value)) (D : ChD) (bs0 : List DoneD) (d : DoneD) (e : Ending) (w' : World) : Prop :=
  ∃ bcs bv' css' M', e = .returned (.tuple #[.agg bcs.toArray, .int .i64 0]) ∧ ChAt w0 w' p s U mi bv' css' ⟨undoS d.chg D.S, bs0, M'⟩ ∧ (∀ x v, (x, v) ∈ M' ↔ x ∉ d.ids ∧ (x, v) ∈ D.M) ∧ Kept (chV p U mi bv') w' (fun w => BlkQ w d.blk bcs) ∧ Fr (chV p U mi bv) w w' ∧ bv'.ownBlock = bv.ownBlock ∧ ∃ tl, css = css' ++ [bcs ++ tl]
set_option maxRecDepth 20000 in
set_option maxHeartbeats 4000000 in
theorem disc_any {w0 w : World} {p s mi : Nat} {U : Nat → Prop} {bv : Value} {css : List (List Value)} {D : ChD} (h : ChAt w0 w p s U mi bv css D) {bs0 : List DoneD} {d : DoneD} (hbs : D.bs = bs0 ++ [d]) (hl : bs0.length ≤ 2000) (hN : D.S.length + tookN d.chg ≤ 100000) (hCh : d.chg.length ≤ 100000) (hI : d.ids.length ≤ 100000) :
    Calls Tryd.prog 20 #[.pointer (some ⟨p, 0, none⟩)] w (DiscOk w0 w p s mi U bv css D bs0 d) := by
  obtain ⟨dB, uB, rB⟩ := descBlk
  obtain ⟨dD, uD, rD⟩ := descDone
  have zB := zeroBlk
  have zD := zeroDone
  have hml : D.bs.length = bs0.length + 1 := by rw [hbs]; simp
  obtain ⟨m, hm⟩ : ∃ m, m = bs0.length := ⟨_, rfl⟩
  rw [← hm] at hml hl
  obtain ⟨css0, cd, hcss⟩ : ∃ css0 cd, css = css0 ++ [cd] := by
    have hne : css ≠ [] := fun e => by have := h.cl; rw [e, hml] at this; simp at this
    exact ⟨css.dropLast, css.getLast hne, (List.dropLast_concat_getLast hne).symm⟩
  have hcl0 : css0.length = m := by have := h.cl; rw [hcss, hml] at this; simpa using this
  have hdx : D.bs[m]? = some d := by rw [hbs, hm]; simp
  have hcx : css[m]? = some cd := by rw [hcss, ← hcl0]; simp
  have h5 : cd.length = 5 := h.c5 cd (by rw [hcss]; simp)
  have KD := Lib.hid (h.data m d cd hdx hcx)
  obtain ⟨g, cap, hv, hr, -⟩ := own_elem (f := id) (k := 5) (by decide) h.c5 h.row hcx
  rw [hml] at hv
  subst hv
  have F1 := Lib.hid ((Fr.refl No w).alloc (.cells blkz.toArray 27))
  have B1 := Lib.hid (new_obj w (.cells blkz.toArray 27))
  have HC0 := Lib.hid h
  have HC1 := Lib.hid (h.fr0 F1.out)
  have KD1 := Lib.hid (KD.out.same F1.out.of0)
  have R1 := Lib.hid (show (w.alloc (.cells blkz.toArray 27)).rangeAt g (m * 5) cd from range_keep hr F1.out id)
  have c1 := HC1.out.cells.2.1
  have Q1 := Lib.hid (show (w.alloc (.cells blkz.toArray 27)).heap.size = w.heap.size + 1 by simp)
  have HI0 := Lib.hid h.hi
  have i1 : (0 : Int) ≤ (m : Int) := by omega
  have i2 : (m : Int) < ((m + 1 : Nat) : Int) := by omega
  have ROW0 := Lib.hid (show ∀ w' : World, w'.ownsRow w0.heap.size 97 5 (.slice (some ⟨g, 0, none⟩) (m + 1) cap) (m + 1) (css.flatMap id) → w'.ownsRow w0.heap.size 97 5 (.slice (some ⟨g, 0, none⟩) m cap) m (css0.flatMap id) from fun w' hh => own_cut (C := cd) (by rw [hcss, List.flatMap_append] at hh; simpa using hh) (by rw [flatR_len id 5 css0 (fun x hx => h.c5 x (by rw [hcss]; simp [hx])), hcl0]))
  have OD := Lib.hid KD.out.now.one
  have CSS := Lib.hid (show css0.length = m ∧ (∀ x ∈ css0, x.length = 5) ∧ ∀ (i : Nat) (d' : DoneD) (cs : List Value), bs0[i]? = some d' → css0[i]? = some cs → D.bs[i]? = some d' ∧ css[i]? = some cs from ⟨hcl0, fun x hx => h.c5 x (by rw [hcss]; simp [hx]), fun i d' cs a b => ⟨by rw [hbs, List.getElem?_append_left (List.getElem?_eq_some_iff.1 a).1]; exact a, by rw [hcss, List.getElem?_append_left (List.getElem?_eq_some_iff.1 b).1]; exact b⟩⟩)
  have HML := Lib.hid hml
  have HM := Lib.hid hm
  have HDX := Lib.hid (And.intro hdx hcx)
  have HSZ := Lib.hid (And.intro hN (And.intro hCh hI))
  have HCSS := Lib.hid hcss
  clear h hr hbs hN hCh hI hm hcss hcl0 hdx hcx hml KD h5
  go_enter Tryd.func20, Tryd.ntmps20
  obtain ⟨pa, pc, ta, tc, ia, ic, ca, cc, hcd⟩ := KD1.out.now.form
  subst hcd
  have KD0 := Lib.hid (HC0.out.data m d _ (show D.bs[m]? = some d from HDX.out.1) HDX.out.2)
  have icap : (m : Int) ≤ (cap : Int) := by
    rcases HC1.out.row.2 with ⟨e, _⟩ | ⟨g', cap', cur, e, h1, h2, h3, h4, h5, h6⟩
    · cases e
    · injection e with e1 e2 e3
      have := HML.out
      omega
  have FA := Lib.hid ((Fr.refl No (w.alloc (.cells blkz.toArray 27))).alloc (.cells ([.int .u64 d.blk.tag, .slice pa d.blk.pay.length pc, .slice ta d.blk.txs.length tc, .slice ia d.ids.length ic, .slice ca d.chg.length cc]).toArray 97))
  have BA := Lib.hid (new_obj (w.alloc (.cells blkz.toArray 27)) (.cells ([.int .u64 d.blk.tag, .slice pa d.blk.pay.length pc, .slice ta d.blk.txs.length tc, .slice ia d.ids.length ic, .slice ca d.chg.length cc]).toArray 97))
  have c1b := (HC1.out.fr0 FA.out).cells.2.1
  have HC2 := Lib.hid (HC1.out.fr0 FA.out)
  have fz := u32_unfrozen (i := 1) HC2.out.obj
  have K0 := Lib.hid True.intro
  have K1 := Lib.hid True.intro
  have K2 := Lib.hid True.intro
  have K3 := Lib.hid True.intro
  have K4 := Lib.hid True.intro
  have K5 := Lib.hid True.intro
  go_wp2_with (first | ((with_reducible refine at_list ?_); have mk := K0.out; refine wpList_value rfl (exec_load (ty := 97) rfl rfl R1.out uD rD infoDone) ?_; clear c1; generalize hw1 : w.alloc (.cells blkz.toArray 27) = w1 at *; go_frame; clear mk K0) | ((with_reducible refine at_store ?_); have mk := K1.out; refine wpList_done rfl (exec_store_new (w := w1) (ty := 97) (cs := [.int .u64 d.blk.tag, .slice pa d.blk.pay.length pc, .slice ta d.blk.txs.length tc, .slice ia d.ids.length ic, .slice ca d.chg.length cc]) rfl rfl rfl rfl infoDone OD.out.2) ?_; generalize hw2 : w1.alloc (.cells ([.int .u64 d.blk.tag, .slice pa d.blk.pay.length pc, .slice ta d.blk.txs.length tc, .slice ia d.ids.length ic, .slice ca d.chg.length cc]).toArray 97) = w2 at *; generalize hdq : w1.heap.size = dq at *; have fs : Fr (fun j => j = p) w2 (w2.setCell ⟨p, 1, none⟩ (.slice (some ⟨g, 0, none⟩) m cap)) := (Fr.refl (fun j => j = p) w2).setCell ⟨p, 1, none⟩ (.inr rfl) _; have HC3 := Lib.hid (show ChAt w0 (w2.setCell ⟨p, 1, none⟩ (.slice (some ⟨g, 0, none⟩) m cap)) p s U mi (.slice (some ⟨g, 0, none⟩) m cap) css0 ⟨D.S, bs0, D.M⟩ from { obj := (by have := heap_setCell_same w2 p 1 _ _ (.slice (some ⟨g, 0, none⟩) m cap) HC2.out.obj; simpa using this), set := HC2.out.set.frV fs (fun j hj e => HC2.out.up (e ▸ hj)) (fun j e => by have := HC2.out.lo1; omega), row := (by have h1 := ownsRow_keep (ROW0.out w2 (by have := HC2.out.row; rw [HML.out] at this; exact this)) fs (fun j hj e => (HC2.out.rn j hj).1 e); rw [HM.out] at h1; rw [HM.out]; exact h1), cl := CSS.out.1.trans HM.out, c5 := CSS.out.2.1, data := fun i d' cs a b => (HC2.out.data i d' cs (CSS.out.2.2 i d' cs a b).1 (CSS.out.2.2 i d' cs a b).2).same (fs.mono (fun j e => .inl e)), map := HC2.out.map.keep fs (fun e => HC2.out.pm e.symm), pm := HC2.out.pm, up := HC2.out.up, um := HC2.out.um, rn := HC2.out.rn, lo1 := HC2.out.lo1, lo2 := HC2.out.lo2 }); have FS := Lib.hid fs; have PQ := Lib.hid (show p ≠ dq ∧ ¬ chV p U mi (.slice (some ⟨g, 0, none⟩) m cap) dq from ⟨fun e => by have := obj_lt HC1.out.obj; omega, fun e => by have := HC1.out.hi dq e; omega⟩); have B3 := Lib.hid (fs.obj BA.out (fun e => PQ.out.1 e.symm)); have KD3 := Lib.hid (show Kept (chV p U mi (.slice (some ⟨g, 0, none⟩) m cap)) (w2.setCell ⟨p, 1, none⟩ (.slice (some ⟨g, 0, none⟩) m cap)) (fun w => DoneQ w d [.int .u64 d.blk.tag, .slice pa d.blk.pay.length pc, .slice ta d.blk.txs.length tc, .slice ia d.ids.length ic, .slice ca d.chg.length cc]) from (KD1.out.same FA.out.of0).same (fs.mono (fun j e => .inl e))); clear fs; go_frame; clear mk K1) | ((with_reducible refine at_list ?_); have mk := K2.out; refine wpList_value rfl (exec_load (ty := 97) rfl rfl (range_obj B3.out) uD rD infoDone) ?_; clear fz c1b; generalize hw3 : w2.setCell ⟨p, 1, none⟩ (.slice (some ⟨g, 0, none⟩) m cap) = w3 at *; go_frame; clear mk K2) | (have mk := K3.out; go_at_call 34; refine (undo_any HC3.out KD3.out HSZ.out.1 HSZ.out.2.1 HSZ.out.2.2).mono ?_; rintro e w8 ⟨rfl, M8, hc8, hm8, -, f8⟩; have HC8 := Lib.hid hc8; have HM8 := Lib.hid hm8; have F8 := Lib.hid f8; clear hc8 hm8 f8; have B8 := Lib.hid (F8.out.obj B3.out PQ.out.2); have R8 := Lib.hid (range3 B8.out); have BZ := Lib.hid (show w8.heap[w.heap.size]? = some (.cells blkz.toArray 27 (0, 0)) from F8.out.obj (FS.out.obj (FA.out.obj B1.out id) (fun e => by have := obj_lt HC0.out.obj; omega)) (fun e => by have := HI0.out _ e; omega)); go_frame; clear mk K3) | ((with_reducible refine at_list ?_); have mk := K4.out; refine wpList_value rfl (exec_load (ty := 27) rfl rfl R8.out uB rB infoBlk) ?_; go_frame; clear mk K4) | ((with_reducible refine at_store ?_); have mk := K5.out; refine wpList_done rfl (exec_store (ty := 27) (b := w.heap.size) (off := 0) (cs := [.int .u64 d.blk.tag, .slice pa d.blk.pay.length pc, .slice ta d.blk.txs.length tc]) rfl rfl rfl (there_obj BZ.out (Nat.le_refl 3)) infoBlk (fun u hu => by simp only [List.mem_cons, List.not_mem_nil, or_false] at hu; rcases hu with rfl | rfl | rfl <;> rfl)) ?_; go_frame; clear mk K5))
  have fE := setCells_fr w.heap.size [.int .u64 d.blk.tag, .slice pa d.blk.pay.length pc, .slice ta d.blk.txs.length tc] 0 w8
  have NQ := Lib.hid (show ¬ chV p U mi (.slice (some ⟨g, 0, none⟩) m cap) w.heap.size from fun e => by have := HI0.out _ e; omega)
  have KF := Lib.hid (show Kept (fun j => chV p U mi (.slice (some ⟨g, 0, none⟩) m cap) j ∨ j = w.heap.size) w8 (fun w => BlkQ w d.blk [.int .u64 d.blk.tag, .slice pa d.blk.pay.length pc, .slice ta d.blk.txs.length tc]) from by
    have h1 : Kept (chV p U mi (.slice (some ⟨g, 0, none⟩) m cap)) w (fun w => DoneQ w d [.int .u64 d.blk.tag, .slice pa d.blk.pay.length pc, .slice ta d.blk.txs.length tc, .slice ia d.ids.length ic, .slice ca d.chg.length cc]) := KD0.out
    have h2 : Kept (fun j => chV p U mi (.slice (some ⟨g, 0, none⟩) m cap) j ∨ j = w.heap.size) w8 (fun w => DoneQ w d [.int .u64 d.blk.tag, .slice pa d.blk.pay.length pc, .slice ta d.blk.txs.length tc, .slice ia d.ids.length ic, .slice ca d.chg.length cc]) := h1.step (show Fr (chV p U mi (.slice (some ⟨g, 0, none⟩) m cap)) w w8 from (((F1.out.trans0 FA.out).of0.trans FS.out (fun j _ e => .inl e)).trans F8.out (fun _ _ h => h))) (fun j hj e => e.resolve_right (by omega))
    exact h2.imp (fun w' f hq => by
      obtain ⟨bcs, ia', ic', ca', cc', e, hb, _, _⟩ := hq
      obtain ⟨pa', pc', ta', tc', rfl⟩ := hb.form
      simp only [List.cons_append, List.nil_append, List.cons.injEq, and_true] at e
      obtain ⟨-, e1, e2, -, -⟩ := e
      injection e1 with e11 _ e13
      injection e2 with e21 _ e23
      subst e11; subst e13; subst e21; subst e23
      exact hb))
  refine bodyPost_ret (results_row_tmp (P := Tryd.prog) (fn := Tryd.f20) rfl _ rfl (range_set BZ.out rfl) uB rB infoBlk rfl) rfl ⟨[.int .u64 d.blk.tag, .slice pa d.blk.pay.length pc, .slice ta d.blk.txs.length tc], .slice (some ⟨g, 0, none⟩) m cap, css0, M8, rfl, HC8.out.frV fE (fun j hj e => NQ.out (e ▸ hj)) (fun j e => by have := HC0.out.fr.size; omega) (fun i d' cs a b => ?_), HM8.out, fun w' f => KF.out w' ((fE.mono (fun j e => .inr e)).trans (f.mono (fun j e => .inl e)) (fun _ _ h => h)), ?_, rfl, _, HCSS.out⟩
  · have ab := CSS.out.2.2 i d' cs a b
    have h1 : Kept (chV p U mi (.slice (some ⟨g, 0, none⟩) m cap)) w (fun w => DoneQ w d' cs) := HC0.out.data i d' cs ab.1 ab.2
    exact h1.step ((((F1.out.trans0 FA.out).of0.trans FS.out (fun j _ e => .inl e)).trans F8.out (fun _ _ h => h)).trans fE (fun i hi e => by omega)) (fun j _ e => e)
  · exact (((F1.out.trans0 FA.out).of0.trans FS.out (fun j _ e => .inl e)).trans F8.out (fun _ _ h => h)).trans fE (fun i hi e => by omega)
end Go.Proofs.YtmpamcnlineceaaDoor

/- chain: Connect and Disconnect over blocks without transactions; the laws' alive, plain. -/
namespace Go.Proofs.YtmpamcnlineceaaDoor
open Go Go.RowKit Go.Maps Go.MapKept

/-- A chain: its coins, its blocks, the ids that stand in it. -/
def Cn (w0 w : World) (p : Nat) (V : Nat → Prop) (S : List CoinD) (bs : List DoneD) (ids : List HashD) : Prop := ∃ M, Ch w0 w p V ⟨S, bs, M⟩ ∧ (∀ x, x ∈ ids ↔ ∃ v, (x, v) ∈ M) ∧ ∀ x v, (x, v) ∈ M → 0 < v
theorem Cn.fr {w0 w : World} {p : Nat} {V : Nat → Prop} {S : List CoinD} {bs : List DoneD} {ids : List HashD} (h : Cn w0 w p V S bs ids) : Fr No w0 w := by
  obtain ⟨M, h, -⟩ := h
  exact Ch.fr h
theorem Cn.fr0 {w0 w w' : World} {p : Nat} {V : Nat → Prop} {S : List CoinD} {bs : List DoneD} {ids : List HashD} (h : Cn w0 w p V S bs ids) (f : Fr No w w') : Cn w0 w' p V S bs ids := by
  obtain ⟨M, h, r⟩ := h
  exact ⟨M, h.fr0 f, r⟩
theorem Cn.lo {w0 w : World} {p : Nat} {V : Nat → Prop} {S : List CoinD} {bs : List DoneD} {ids : List HashD} (h : Cn w0 w p V S bs ids) : ∀ j, V j → w0.heap.size ≤ j := by
  obtain ⟨M, h, -⟩ := h
  exact Ch.lo h
theorem Cn.hi {w0 w : World} {p : Nat} {V : Nat → Prop} {S : List CoinD} {bs : List DoneD} {ids : List HashD} (h : Cn w0 w p V S bs ids) : ∀ j, V j → j < w.heap.size := by
  obtain ⟨M, ⟨s, U, mi, bv, css, h, rfl⟩, -⟩ := h
  exact h.hi
theorem ChAt.base {w0 wb w : World} {p s mi : Nat} {U : Nat → Prop} {bv : Value} {css : List (List Value)} {D : ChD} (h : ChAt w0 w p s U mi bv css D) (f : Fr No wb w0) : ChAt wb w p s U mi bv css D :=
  { h with set := h.set.base f, row := own_mono h.row f.size, lo1 := Nat.le_trans f.size h.lo1, lo2 := Nat.le_trans f.size h.lo2 }
theorem Cn.base {w0 wb w : World} {p : Nat} {V : Nat → Prop} {S : List CoinD} {bs : List DoneD} {ids : List HashD} (h : Cn w0 w p V S bs ids) (f : Fr No wb w0) : Cn wb w p V S bs ids := by
  obtain ⟨M, ⟨s, U, mi, bv, css, h, hV⟩, r⟩ := h
  exact ⟨M, ⟨s, U, mi, bv, css, h.base f, hV⟩, r⟩
theorem newn_any (w : World) {v : Value} {l : List OutD} (hl : OutsIs w v l) (hN : l.length ≤ 256) :
    Calls Tryd.prog 17 #[v] w fun e w' => ∃ p, e = .returned (.tuple #[.pointer (some ⟨p, 0, none⟩), .int .i64 0]) ∧ ∃ V, Cn w w' p V (putC [] (payC hash0 l)) [] [] :=
  (chnew_any w hl hN).mono fun e w' ⟨p, he, V, h⟩ => ⟨p, he, V, [], h, by simp, by simp⟩
theorem heightn_any {w0 w : World} {p : Nat} {V : Nat → Prop} {S : List CoinD} {bs : List DoneD} {ids : List HashD} (h : Cn w0 w p V S bs ids) : Calls Tryd.prog 18 #[.pointer (some ⟨p, 0, none⟩)] w fun e w' => e = .returned (.int .i64 (bs.length : Int)) ∧ w' = w := by
  obtain ⟨M, h, -⟩ := h
  exact height_any h
theorem coinsn_any {w0 w : World} {p : Nat} {V : Nat → Prop} {S : List CoinD} {bs : List DoneD} {ids : List HashD} (h : Cn w0 w p V S bs ids) (hN : S.length ≤ 100000) : Calls Tryd.prog 19 #[.pointer (some ⟨p, 0, none⟩)] w fun e w' => ∃ v, e = .returned v ∧ w'.ownsRow w.heap.size 57 66 v S.length (S.flatMap coinC) ∧ Fr No w w' := by
  obtain ⟨M, h, -⟩ := h
  exact chcoins_any h hN
theorem findn_any {w0 w : World} {p : Nat} {V : Nat → Prop} {S : List CoinD} {bs : List DoneD} {ids : List HashD} (h : Cn w0 w p V S bs ids) {q : PointD} (hq : q.ok) : Calls Tryd.prog 27 #[.pointer (some ⟨p, 0, none⟩), .agg (pointC q).toArray] w fun e w' => e = .returned (.tuple #[.agg (outC (outOf S q)).toArray, .bool (hasC S q)]) ∧ Fr No w w' := by
  obtain ⟨M, h, -⟩ := h
  exact chfind_any h hq
def R0 (S : List CoinD) (b : BlkD) : DoR := ⟨if putE S (payD b) = 0 then 0 else 10, putS S (payD b), ⟨b, [], if putE S (payD b) = 0 then [⟨[], (payD b).map (·.at_)⟩] else []⟩⟩
theorem doC0 {w0 : World} (hg : ShaW w0) {p s mi : Nat} {U : Nat → Prop} {bv : Value} {css : List (List Value)} {D : ChD} {b : BlkD} (h0 : b.txs = []) (hN : D.S.length ≤ 90000) : DoC w0 p s mi U bv css D b (R0 D.S b) := by
  intro w dq bcs h hq hn hl hk hok hd
  refine (do0_any hg h hq hn hl hk h0 hok hN hd).mono fun e w' hh => ⟨D.M, ⟨fun x v => ?_, fun x hx => ?_⟩, hh⟩
  · simp [R0]
  · simp [R0] at hx
def conn0E (S : List CoinD) (bs : List DoneD) (b : BlkD) : Int := if 1024 ≤ bs.length then 18 else if blkOk b = true then (if b.pay.any badV = true then 11 else (R0 S b).E) else 5
def conn0S (S : List CoinD) (bs : List DoneD) (b : BlkD) : List CoinD := if conn0E S bs b = 0 then putS S (payD b) else S
def conn0B (S : List CoinD) (bs : List DoneD) (b : BlkD) : List DoneD := if conn0E S bs b = 0 then bs ++ [⟨b, [], [⟨[], (payD b).map (·.at_)⟩]⟩] else bs
theorem R0_bad {S : List CoinD} {b : BlkD} (h : (R0 S b).E ≠ 0) : undoS (R0 S b).d.chg (R0 S b).S = S := by
  have hp : putE S (payD b) ≠ 0 := fun e => h (by simp [R0, e])
  simp [R0, hp, undoS, putS]
theorem conn0_any {w0 w : World} (hg : ShaW w0) {p : Nat} {V : Nat → Prop} {S : List CoinD} {bs : List DoneD} {ids : List HashD} (h : Cn w0 w p V S bs ids) {b : BlkD} {cs : List Value} (hb : BlkQ w b cs) (h0 : b.txs = []) (hS : S.length ≤ 80000) (hB : bs.length ≤ 2000) :
    Calls Tryd.prog 15 #[.pointer (some ⟨p, 0, none⟩), .agg cs.toArray] w fun e w' => e = .returned (.int .i64 (conn0E S bs b)) ∧ ∃ V', Cn w0 w' p V' (conn0S S bs b) (conn0B S bs b) ids := by
  obtain ⟨M, ⟨s, U, mi, bv, css, h, hV⟩, hid, hpos⟩ := h
  by_cases hpre : preE ⟨S, bs, M⟩ b = 0
  · have hE : conn0E S bs b = (R0 S b).E := by
      unfold preE at hpre
      unfold conn0E
      split at hpre
      · cases hpre
      · rename_i h1
        rw [if_neg h1]
        split at hpre
        · rename_i h2
          rw [if_pos h2]
          split at hpre
          · cases hpre
          · rename_i h3
            rw [if_neg h3]
        · cases hpre
    have hpay : b.pay.length ≤ 8 := by
      unfold preE at hpre
      split at hpre
      · cases hpre
      · split at hpre
        · rename_i h2
          simp only [blkOk, Bool.and_eq_true, decide_eq_true_eq] at h2
          exact h2.1
        · cases hpre
    have hl1 : (R0 S b).S.length ≤ S.length + 8 := by
      have := putS_len S (payD b)
      rw [payD_len] at this
      show (putS S (payD b)).length ≤ _
      omega
    have hl2 : tookN (R0 S b).d.chg ≤ 8 := by
      unfold R0
      dsimp only
      split
      · simp only [tookN, List.map_cons, List.map_nil, List.sum_cons, List.sum_nil, List.length_nil, List.length_map, payD_len]; omega
      · simp [tookN]
    have hl3 : (R0 S b).d.chg.length ≤ 1 := by
      unfold R0
      dsimp only
      split <;> simp
    refine (connect_main hg h hb hpre (R := R0 S b) (fun w cs hq => own0_any w hq h0 (by omega)) (doC0 hg h0 (by show S.length ≤ _; omega)) ⟨by omega, by omega, by simp [R0]⟩).mono fun e w' ⟨he, _, hok, hbad⟩ => ?_
    refine ⟨by rw [he, hE], ?_⟩
    by_cases hz : (R0 S b).E = 0
    · obtain ⟨bv', css', M', hc, ⟨hm1, -⟩, -⟩ := hok hz
      have hz2 : conn0E S bs b = 0 := by rw [hE]; exact hz
      have hp : putE S (payD b) = 0 := by
        apply Classical.byContradiction
        intro hp
        simp [R0, hp] at hz
      have e1 : conn0S S bs b = (R0 S b).S := by simp [conn0S, hz2, R0]
      have e2 : conn0B S bs b = bs ++ [(R0 S b).d] := by simp [conn0B, hz2, R0, hp]
      rw [e1, e2]
      have hmm : ∀ x v, (x, v) ∈ M' ↔ (x, v) ∈ M := fun x v => by rw [hm1]; simp [R0]
      exact ⟨_, M', ⟨s, U, mi, bv', css', hc, rfl⟩, fun x => by rw [hid]; simp only [hmm], fun x v hx => hpos x v ((hmm x v).1 hx)⟩
    · obtain ⟨M', hc, hmm⟩ := hbad hz
      have hz2 : conn0E S bs b ≠ 0 := by rw [hE]; exact hz
      have e1 : conn0S S bs b = undoS (R0 S b).d.chg (R0 S b).S := by rw [R0_bad hz]; simp [conn0S, hz2]
      have e2 : conn0B S bs b = bs := by simp [conn0B, hz2]
      rw [e1, e2]
      exact ⟨_, M', ⟨s, U, mi, bv, css, hc, rfl⟩, fun x => by rw [hid]; simp only [hmm], fun x v hx => hpos x v ((hmm x v).1 hx)⟩
  · have hE : conn0E S bs b = preE ⟨S, bs, M⟩ b := by
      unfold preE at hpre ⊢
      unfold conn0E
      dsimp only at hpre ⊢
      split
      · rfl
      · rename_i h1
        rw [if_neg h1] at hpre
        split
        · rename_i h2
          rw [if_pos h2] at hpre
          split
          · rfl
          · rename_i h3
            rw [if_neg h3] at hpre
            exact absurd rfl hpre
        · rfl
    have hz2 : conn0E S bs b ≠ 0 := by rw [hE]; exact hpre
    refine (connect_pre hg h hb (by show bs.length ≤ _; omega) hpre).mono fun e w' ⟨he, f⟩ => ⟨by rw [he, hE], ?_⟩
    have e1 : conn0S S bs b = S := by simp [conn0S, hz2]
    have e2 : conn0B S bs b = bs := by simp [conn0B, hz2]
    rw [e1, e2]
    exact ⟨_, M, ⟨s, U, mi, bv, css, h.fr0 f, rfl⟩, hid, hpos⟩
theorem discn_none {w0 w : World} {p : Nat} {V : Nat → Prop} {S : List CoinD} {ids : List HashD} (h : Cn w0 w p V S [] ids) :
    Calls Tryd.prog 20 #[.pointer (some ⟨p, 0, none⟩)] w fun e w' => e = .returned (.tuple #[.agg blkz.toArray, .int .i64 9]) ∧ Fr No w w' := by
  obtain ⟨M, ⟨s, U, mi, bv, css, h, hV⟩, hid, hpos⟩ := h
  exact disc_none h rfl
theorem discn_any {w0 w : World} {p : Nat} {V : Nat → Prop} {S : List CoinD} {bs : List DoneD} {d : DoneD} {ids : List HashD} (h : Cn w0 w p V S (bs ++ [d]) ids) (hl : bs.length ≤ 2000) (hN : S.length + tookN d.chg ≤ 100000) (hCh : d.chg.length ≤ 100000) (hI : d.ids.length ≤ 100000) :
    Calls Tryd.prog 20 #[.pointer (some ⟨p, 0, none⟩)] w fun e w' => ∃ bcs V', e = .returned (.tuple #[.agg bcs.toArray, .int .i64 0]) ∧ Cn w0 w' p V' (undoS d.chg S) bs (ids.filter fun x => !decide (x ∈ d.ids)) ∧ Kept V' w' (fun w => BlkQ w d.blk bcs) := by
  obtain ⟨M, ⟨s, U, mi, bv, css, h, hV⟩, hid, hpos⟩ := h
  refine (disc_any h rfl hl hN hCh hI).mono fun e w' ⟨bcs, bv', css', M', he, hc, hm, hk, _, _, _⟩ => ⟨bcs, _, he, ⟨M', ⟨s, U, mi, bv', css', hc, rfl⟩, fun x => ?_, fun x v hx => hpos x v ((hm x v).1 hx).2⟩, hk⟩
  simp only [List.mem_filter, Bool.not_eq_true', decide_eq_false_iff_not]
  rw [hid]
  constructor
  · rintro ⟨⟨v, h1⟩, h2⟩
    exact ⟨v, (hm x v).2 ⟨h2, h1⟩⟩
  · rintro ⟨v, h1⟩
    obtain ⟨a, b⟩ := (hm x v).1 h1
    exact ⟨⟨v, b⟩, a⟩
/-! ### alive -/
def out50 : OutD := ⟨50, List.replicate 32 0⟩
def out3 : OutD := ⟨3, List.replicate 32 0⟩
def blk3 : BlkD := ⟨0, [out3], []⟩
def coin50 : CoinD := ⟨⟨hash0, 0⟩, out50⟩
theorem out50_ok : out50.ok := ⟨by decide, rfl, by decide⟩
theorem out3_ok : out3.ok := ⟨by decide, rfl, by decide⟩
theorem aliveS0 : putC [] (payC hash0 [out50]) = [coin50] := rfl
set_option maxRecDepth 100000 in
theorem blk3_id : blkH blk3 ≠ hash0 := by decide +kernel
theorem put3 {h : HashD} (hne : h ≠ hash0) : putE [coin50] (payC h [out3]) = 0 := by
  refine (putE_0 (payC_nodup h [out3]) (fun c hc => ?_)).1
  have e1 : payC h [out3] = [⟨⟨h, 0⟩, out3⟩] := rfl
  rw [e1] at hc
  simp only [List.mem_singleton] at hc
  subst hc
  rw [hasC_not]
  intro c hc e
  simp only [List.mem_singleton] at hc
  subst hc
  exact hne (congrArg PointD.tx e).symm
theorem conn0_shape {S : List CoinD} {b : BlkD} (h1 : blkOk b = true) (h2 : b.pay.any badV = false) (h3 : putE S (payD b) = 0) : conn0E S [] b = 0 := by
  unfold conn0E
  rw [if_neg (by simp), if_pos h1, h2, if_neg (by decide)]
  unfold R0
  rw [if_pos h3]
theorem alive_put : putE [coin50] (payD blk3) = 0 := put3 (h := blkH blk3) blk3_id
theorem alive_ok : conn0E [coin50] [] blk3 = 0 := conn0_shape (by decide) (by decide) alive_put
theorem conn0_len {S : List CoinD} {b : BlkD} (h : conn0E S [] b = 0) (h3 : putE S (payD b) = 0) : (conn0S S [] b).length = S.length + b.pay.length ∧ (conn0B S [] b).length = 1 := by
  constructor
  · unfold conn0S putS
    rw [if_pos h, if_pos h3, (putC_perm _ _).length_eq, List.length_append, payD_len]
  · unfold conn0B
    rw [if_pos h]
    rfl
theorem alive_len : (conn0S [coin50] [] blk3).length = 2 ∧ (conn0B [coin50] [] blk3).length = 1 := conn0_len alive_ok alive_put
end Go.Proofs.YtmpamcnlineceaaDoor
