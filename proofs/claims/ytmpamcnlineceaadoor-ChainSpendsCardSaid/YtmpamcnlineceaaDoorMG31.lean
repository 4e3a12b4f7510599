/- chain: Connect, over what own and do leave. -/
import Derived.Test.YtmpamcnlineceaaDoorMG30
set_option linter.unusedVariables false
set_option linter.unusedSimpArgs false
set_option linter.unnecessarySimpa false
set_option linter.all false
namespace Go.Proofs.YtmpamcnlineceaaDoor
open Go Go.RowKit Go.Maps Go.MapKept

/-- What do leaves in the ids. -/
def SpecM (n : Nat) (M M' : List (HashD × Int)) (ids : List HashD) : Prop := (∀ x v, (x, v) ∈ M' ↔ (x, v) ∈ M ∨ (x ∈ ids ∧ v = ((n : Int) + 1))) ∧ ∀ x ∈ ids, ∀ v, (x, v) ∉ M
def DoC (w0 : World) (p s mi : Nat) (U : Nat → Prop) (bv : Value) (css : List (List Value)) (D : ChD) (b : BlkD) (R : DoR) : Prop :=
  ∀ (w : World) (dq : Nat) (bcs : List Value), ChAt w0 w p s U mi bv css D → w.heap[dq]? = some (.cells (bcs ++ [Value.slice none 0 0, Value.slice none 0 0]).toArray 97 (0, 0)) → ¬ chV p U mi bv dq → w0.heap.size ≤ dq →
    Kept (fun j => chV p U mi bv j ∨ j = dq) w (fun w => BlkQ w b bcs) → blkOk b = true →
    (∀ (i : Nat) (d : DoneD) (cs : List Value), D.bs[i]? = some d → css[i]? = some cs → Kept (fun j => chV p U mi bv j ∨ j = dq) w (fun w => DoneQ w d cs)) →
    Calls Tryd.prog 33 #[.pointer (some ⟨p, 0, none⟩), .pointer (some ⟨dq, 0, none⟩)] w fun e w' => ∃ M', SpecM D.bs.length D.M M' R.d.ids ∧ DoOk w0 w p s mi U bv css D dq b R.E R.S M' R.d e w'
def ConnOk (w0 w : World) (p s mi : Nat) (U : Nat → Prop) (D : ChD) (bv : Value) (css : List (List Value)) (R : DoR) (e : Ending) (w' : World) : Prop :=
  e = .returned (.int .i64 R.E) ∧ Fr (chV p U mi bv) w w' ∧ (R.E = 0 → ∃ bv' css' M', ChAt w0 w' p s U mi bv' css' ⟨R.S, D.bs ++ [R.d], M'⟩ ∧ SpecM D.bs.length D.M M' R.d.ids ∧ ∀ j, bv'.ownBlock = some j → bv.ownBlock = some j ∨ w.heap.size ≤ j) ∧
    (R.E ≠ 0 → ∃ M', ChAt w0 w' p s U mi bv css ⟨undoS R.d.chg R.S, D.bs, M'⟩ ∧ ∀ x v, (x, v) ∈ M' ↔ (x, v) ∈ D.M)
/-- What is refused ahead of any doing. -/
def preE (D : ChD) (b : BlkD) : Int := if 1024 ≤ D.bs.length then 18 else if blkOk b = true then (if b.pay.any badV = true then 11 else 0) else 5
theorem descDone : ∃ d, Tryd.prog.underlying 97 = some d ∧ d.isRow = true := row_of (by kernel_rfl)
theorem infoDone : (Tryd.prog.info? 97).map (·.size) = some 5 := by kernel_rfl
def done0C : List Value := [.int .u64 0, .slice none 0 0, .slice none 0 0, .slice none 0 0, .slice none 0 0]
theorem zeroDone (w : World) : (zeroValue 97).run Tryd.prog w = .ok (.agg done0C.toArray) w := by kernel_rfl
theorem undDones : Tryd.prog.underlying 89 = some (.slice 97) := by kernel_rfl
theorem infoDoneZ : (Tryd.prog.info? 97).map (fun i => (i.zero, i.size, i.bytes)) = some (some (.agg done0C.toArray), 5, 104) := by kernel_rfl
theorem infoDoneZ2 : (Tryd.prog.info? 97).map (fun i => (i.zero, i.size)) = some (some (.agg done0C.toArray), 5) := by kernel_rfl
theorem bldDone (t : Int) (a b : Option Addr) (n m c d : Nat) (w : World) : (Instr.build 97 #[(0, .agg #[.int .u64 t, .slice a n c, .slice b m d])]).run Tryd.prog w = .ok (.agg [.int .u64 t, .slice a n c, .slice b m d, .slice none 0 0, .slice none 0 0].toArray) w := by kernel_rfl
set_option maxRecDepth 20000 in
set_option maxHeartbeats 4000000 in
/-- A block that is refused ahead. -/
theorem connect_pre {w0 w : World} (hg : ShaW w0) {p s mi : Nat} {U : Nat → Prop} {bv : Value} {css : List (List Value)} {D : ChD} (h : ChAt w0 w p s U mi bv css D) {b : BlkD} {cs : List Value} (hb : BlkQ w b cs) (hl : D.bs.length ≤ 100000) (hpre : preE D b ≠ 0) :
    Calls Tryd.prog 15 #[.pointer (some ⟨p, 0, none⟩), .agg cs.toArray] w fun e w' => e = .returned (.int .i64 (preE D b)) ∧ Fr No w w' := by
  have HB := Lib.hid hb
  obtain ⟨pa, pc, ta, tc, rfl⟩ := hb.form
  obtain ⟨dB, uB, rB⟩ := descBlk
  obtain ⟨dO, uO, rO⟩ := descOut
  have zH := zeroHash
  have zo := zeroOutC
  have F1 := Lib.hid ((Fr.refl No w).alloc (.cells #[.int .u64 b.tag, .slice pa b.pay.length pc, .slice ta b.txs.length tc] 27))
  have HC1 := Lib.hid (h.fr0 F1.out)
  have c1 := HC1.out.cells.2.1
  obtain ⟨ba, bc, hbv⟩ := h.row.slice.arg.form
  rw [hbv] at c1
  obtain ⟨x0, x1, x2, xr⟩ := row3_new w (.int .u64 b.tag) (.slice pa b.pay.length pc) (.slice ta b.txs.length tc) 27
  have X1 := Lib.hid x1
  have XR := Lib.hid xr
  have ID := Lib.hid (blkid_any ((hg.keep0 h.fr).keep0 F1.out) (HB.out.keep F1.out))
  have HHL := Lib.hid (hashC_len (blkH_ok b))
  clear h hb x0 x1 x2 xr hg HC1
  show Calls Tryd.prog 15 #[.pointer (some ⟨p, 0, none⟩), .agg #[.int .u64 b.tag, .slice pa b.pay.length pc, .slice ta b.txs.length tc]] w _
  by_cases h1024 : 1024 ≤ D.bs.length
  · have HE := Lib.hid (show preE D b = 18 by simp [preE, h1024])
    have j1 : decide ((1024 : Int) ≤ (D.bs.length : Int)) = true := by simp; omega
    clear hpre h1024
    go_enter Tryd.func15, Tryd.ntmps15
    go_wp2
    go_ret
    exact ⟨by rw [HE.out]; rfl, F1.out⟩
  have j1 : decide ((1024 : Int) ≤ (D.bs.length : Int)) = false := by simp; omega
  have HPRE := Lib.hid hpre
  by_cases hok : blkOk b = true
  rotate_left
  · have hok2 : blkOk b = false := by simpa using hok
    have HE := Lib.hid (show preE D b = 5 by simp [preE, h1024, hok2])
    have GE := Lib.hid (blk_bad hok2)
    rw [GE.out.1] at ID
    clear hpre h1024 hok hok2
    go_enter Tryd.func15, Tryd.ntmps15
    have K0 := Lib.hid True.intro
    have K1 := Lib.hid True.intro
    have K2 := Lib.hid True.intro
    go_wp2_with (first | ((with_reducible refine at_list ?_); have mk := K0.out; refine wpList_value rfl (exec_load (ty := 27) rfl rfl XR.out uB rB infoBlk) ?_; generalize w.alloc (.cells #[.int .u64 b.tag, .slice pa b.pay.length pc, .slice ta b.txs.length tc] 27) = w1 at *; go_frame; clear mk K0) | (have mk := K1.out; go_at_call 25; refine ID.out.mono ?_; rintro e w2 ⟨rfl, f2⟩; have F2 := Lib.hid (F1.out.trans0 f2); clear f2; have F3 := Lib.hid (F2.out.trans0 ((Fr.refl No w2).alloc (.cells (hashC (blkH b)).toArray 45))); go_frame; clear mk K1) | ((with_reducible refine at_store ?_); have mk := K2.out; refine wpList_done rfl (exec_store_new (w := w2) (ty := 45) (cs := hashC (blkH b)) rfl rfl rfl (by rw [HHL.out]; rfl) (by rw [HHL.out]; exact infoHash) hashC_one) ?_; go_frame; clear mk K2))
    go_ret
    exact ⟨by rw [HE.out]; rfl, F3.out⟩
  have hbad : b.pay.any badV = true := by
    cases hb : b.pay.any badV with
    | true => rfl
    | false => exact absurd (show preE D b = 0 by simp [preE, h1024, hok, hb]) hpre
  have HE := Lib.hid (show preE D b = 11 by simp [preE, h1024, hok, hbad])
  have GE := Lib.hid (blk_good hok)
  rw [GE.out.1] at ID
  have p8 : b.pay.length ≤ 8 := by
    have := hok
    simp only [blkOk, Bool.and_eq_true, decide_eq_true_eq] at this
    exact this.1
  have HBAD := Lib.hid hbad
  clear hpre h1024 hok hbad
  go_enter Tryd.func15, Tryd.ntmps15
  have K0 := Lib.hid True.intro
  have K1 := Lib.hid True.intro
  have K2 := Lib.hid True.intro
  go_wp2_with (first | ((with_reducible refine at_list ?_); have mk := K0.out; refine wpList_value rfl (exec_load (ty := 27) rfl rfl XR.out uB rB infoBlk) ?_; generalize w.alloc (.cells #[.int .u64 b.tag, .slice pa b.pay.length pc, .slice ta b.txs.length tc] 27) = w1 at *; go_frame; clear mk K0) | (have mk := K1.out; go_at_call 25; refine ID.out.mono ?_; rintro e w2 ⟨rfl, f2⟩; have F12 := Lib.hid f2; clear f2; have F23 := Lib.hid (F12.out.trans0 ((Fr.refl No w2).alloc (.cells (hashC (blkH b)).toArray 45))); go_frame; clear mk K1) | ((with_reducible refine at_store ?_); have mk := K2.out; refine wpList_done rfl (exec_store_new (w := w2) (ty := 45) (cs := hashC (blkH b)) rfl rfl rfl (by rw [HHL.out]; rfl) (by rw [HHL.out]; exact infoHash) hashC_one) ?_; generalize w2.alloc (.cells (hashC (blkH b)).toArray 45) = w3 at *; have x13 := F23.out.cell X1.out id; go_frame; clear mk K2))
  have HO3 := Lib.hid (show OutsIs w3 (.slice pa b.pay.length pc) b.pay by
    obtain ⟨pa', pc', ta', tc', e, _, ho, _⟩ := HB.out
    simp only [blkC, List.cons.injEq, and_true] at e
    obtain ⟨-, e1, -⟩ := e
    injection e1 with e11 _ e13
    subst e11; subst e13
    exact (ho.keep F1.out).keep F23.out)
  clear x13
  go_loopw [30] (fun iv wr => ∃ n : Nat, iv = .int .i64 n ∧ n ≤ b.pay.length ∧ (∀ x ∈ b.pay.take n, badV x = false) ∧ Fr No w3 wr) (fun iv _ => b.pay.length - (intOf iv).toNat)
  case atStart => exact ⟨0, rfl, Nat.zero_le _, by simp, Fr.refl _ _⟩
  case round =>
    obtain ⟨n, rfl, hn, hall, fr⟩ := hrel
    have FR := Lib.hid fr
    have AL := Lib.hid hall
    clear fr hall
    by_cases hlt : n < b.pay.length
    · have i1 : (n : Int) < (b.pay.length : Int) := by omega
      obtain ⟨x, hx⟩ : ∃ x, b.pay[n]? = some x := ⟨_, List.getElem?_eq_getElem hlt⟩
      obtain ⟨bb, off, cap, hv, hr, -⟩ := (HO3.out.keep FR.out).at_ hx
      cases hv
      have pok := HO3.out.1 x (List.mem_of_getElem? hx)
      have R1 := Lib.hid hr
      have IL := Lib.hid (outC_len pok)
      have FA := Lib.hid (FR.out.trans0 ((Fr.refl No wr).alloc (.cells (outC x).toArray 55)))
      have n1 := (out_new wr pok).1
      have HX := Lib.hid hx
      clear hr pok hx
      by_cases hbx : badV x = true
      · have hor : x.value = 0 ∨ (x.value ≠ 0 ∧ 1125899906842624 < x.value) := by
          simp only [badV, Bool.or_eq_true, decide_eq_true_eq] at hbx
          by_cases h : x.value = 0
          · exact .inl h
          · exact .inr ⟨h, hbx.resolve_left h⟩
        clear hbx
        rcases hor with hz | ⟨hz, hz2⟩
        · have hv0 : (x.value == 0) = true := by simpa using hz
          clear hz
          have K0 := Lib.hid True.intro
          have K1 := Lib.hid True.intro
          go_wp2_with (first | ((with_reducible refine at_list ?_); have mk := K0.out; refine wpList_value rfl (exec_load (ty := 55) rfl rfl R1.out uO rO (by rw [IL.out]; exact infoOut)) ?_; go_frame; clear mk K0) | ((with_reducible refine at_store ?_); have mk := K1.out; refine wpList_done rfl (exec_store_new (w := wr) (ty := 55) (cs := outC x) rfl rfl rfl (by rw [IL.out]; rfl) (by rw [IL.out]; exact infoOut) outC_one) ?_; generalize wr.alloc (.cells (outC x).toArray 55) = wA at *; go_frame; clear mk K1))
          go_ret
          exact ⟨by rw [HE.out]; rfl, F1.out.trans0 (F23.out.trans0 FA.out)⟩
        · have hv0 : (x.value == 0) = false := by simpa using hz
          have hv1 : decide (1125899906842624 < x.value) = true := by simpa using hz2
          clear hz hz2
          have K0 := Lib.hid True.intro
          have K1 := Lib.hid True.intro
          go_wp2_with (first | ((with_reducible refine at_list ?_); have mk := K0.out; refine wpList_value rfl (exec_load (ty := 55) rfl rfl R1.out uO rO (by rw [IL.out]; exact infoOut)) ?_; go_frame; clear mk K0) | ((with_reducible refine at_store ?_); have mk := K1.out; refine wpList_done rfl (exec_store_new (w := wr) (ty := 55) (cs := outC x) rfl rfl rfl (by rw [IL.out]; rfl) (by rw [IL.out]; exact infoOut) outC_one) ?_; generalize wr.alloc (.cells (outC x).toArray 55) = wA at *; go_frame; clear mk K1))
          go_ret
          exact ⟨by rw [HE.out]; rfl, F1.out.trans0 (F23.out.trans0 FA.out)⟩
      · have hbx2 : badV x = false := by simpa using hbx
        have hv0 : (x.value == 0) = false := by
          unfold badV at hbx2
          rw [Bool.or_eq_false_iff] at hbx2
          simpa using hbx2.1
        have hv1 : decide (1125899906842624 < x.value) = false := by
          unfold badV at hbx2
          rw [Bool.or_eq_false_iff] at hbx2
          exact hbx2.2
        have AN := Lib.hid (show ∀ y ∈ b.pay.take (n + 1), badV y = false from fun y hy => by
          rw [List.take_add_one, HX.out] at hy
          rcases List.mem_append.1 hy with hy | hy
          · exact AL.out y hy
          · simp at hy; subst hy; exact hbx2)
        clear hbx hbx2
        have K0 := Lib.hid True.intro
        have K1 := Lib.hid True.intro
        go_wp2_with (first | ((with_reducible refine at_list ?_); have mk := K0.out; refine wpList_value rfl (exec_load (ty := 55) rfl rfl R1.out uO rO (by rw [IL.out]; exact infoOut)) ?_; go_frame; clear mk K0) | ((with_reducible refine at_store ?_); have mk := K1.out; refine wpList_done rfl (exec_store_new (w := wr) (ty := 55) (cs := outC x) rfl rfl rfl (by rw [IL.out]; rfl) (by rw [IL.out]; exact infoOut) outC_one) ?_; generalize wr.alloc (.cells (outC x).toArray 55) = wA at *; go_frame; clear mk K1))
        go_roundw
        case rel => exact ⟨n + 1, by go_num, by omega, AN.out, FA.out⟩
        case measure => simp [intOf]; omega
    · have hne : n = b.pay.length := by omega
      have i1 : ¬ (n : Int) < (b.pay.length : Int) := by omega
      exfalso
      have hAL := AL.out
      rw [hne, List.take_length] at hAL
      have hB := HBAD.out
      obtain ⟨y, hy, hyb⟩ := List.any_eq_true.1 hB
      rw [hAL y hy] at hyb
      cases hyb
set_option maxRecDepth 20000 in
set_option maxHeartbeats 4000000 in
/-- A block that is not refused ahead. -/
theorem connect_main {w0 w : World} (hg : ShaW w0) {p s mi : Nat} {U : Nat → Prop} {bv : Value} {css : List (List Value)} {D : ChD} (h : ChAt w0 w p s U mi bv css D) {b : BlkD} {cs : List Value} (hb : BlkQ w b cs) (hpre : preE D b = 0) {R : DoR}
    (hown : ∀ (w : World) (cs : List Value), BlkQ w b cs → Calls Tryd.prog 32 #[.agg cs.toArray] w (OwnOk w b)) (hdo : DoC w0 p s mi U bv css D b R) (hsz : R.S.length + tookN R.d.chg ≤ 100000 ∧ R.d.chg.length ≤ 100000 ∧ R.d.ids.length ≤ 100000) :
    Calls Tryd.prog 15 #[.pointer (some ⟨p, 0, none⟩), .agg cs.toArray] w (ConnOk w0 w p s mi U D bv css R) := by
  have h1024 : ¬ 1024 ≤ D.bs.length := fun h => by simp [preE, h] at hpre
  have hok : blkOk b = true := by
    cases hok : blkOk b with
    | true => rfl
    | false => simp [preE, h1024, hok] at hpre
  have hbad : b.pay.any badV = false := by
    cases hb : b.pay.any badV with
    | false => rfl
    | true => simp [preE, h1024, hok, hb] at hpre
  have HB := Lib.hid hb
  obtain ⟨pa, pc, ta, tc, rfl⟩ := hb.form
  obtain ⟨dB, uB, rB⟩ := descBlk
  obtain ⟨dO, uO, rO⟩ := descOut
  obtain ⟨dD, uD, rD⟩ := descDone
  have zH := zeroHash
  have zo := zeroOutC
  have zD := zeroDone
  have F1 := Lib.hid ((Fr.refl No w).alloc (.cells #[.int .u64 b.tag, .slice pa b.pay.length pc, .slice ta b.txs.length tc] 27))
  have HC := Lib.hid h
  have HC1 := Lib.hid (h.fr0 F1.out)
  have c1 := HC1.out.cells.2.1
  obtain ⟨ba, bc, hbv⟩ := h.row.slice.arg.form
  rw [hbv] at c1
  obtain ⟨x0, x1, x2, xr⟩ := row3_new w (.int .u64 b.tag) (.slice pa b.pay.length pc) (.slice ta b.txs.length tc) 27
  have X1 := Lib.hid x1
  have XR := Lib.hid xr
  have ID := Lib.hid (blkid_any ((hg.keep0 h.fr).keep0 F1.out) (HB.out.keep F1.out))
  have HHL := Lib.hid (hashC_len (blkH_ok b))
  have GE := Lib.hid (blk_good hok)
  rw [GE.out.1] at ID
  have j1 : decide ((1024 : Int) ≤ (D.bs.length : Int)) = false := by simp; omega
  have p8 : b.pay.length ≤ 8 := by
    have := hok
    simp only [blkOk, Bool.and_eq_true, decide_eq_true_eq] at this
    exact this.1
  have HBAD := Lib.hid (List.any_eq_false.1 hbad)
  have HOK := Lib.hid hok
  have HOWN := Lib.hid hown
  have HDO := Lib.hid hdo
  have HSZ := Lib.hid hsz
  have BL := Lib.hid (show D.bs.length < 1024 by omega)
  have HBV := Lib.hid hbv
  clear h hb x0 x1 x2 xr hg hok hbad h1024 hpre hown hdo hsz HC1 hbv
  show Calls Tryd.prog 15 #[.pointer (some ⟨p, 0, none⟩), .agg #[.int .u64 b.tag, .slice pa b.pay.length pc, .slice ta b.txs.length tc]] w _
  go_enter Tryd.func15, Tryd.ntmps15
  have K0 := Lib.hid True.intro
  have K1 := Lib.hid True.intro
  have K2 := Lib.hid True.intro
  go_wp2_with (first | ((with_reducible refine at_list ?_); have mk := K0.out; refine wpList_value rfl (exec_load (ty := 27) rfl rfl XR.out uB rB infoBlk) ?_; generalize w.alloc (.cells #[.int .u64 b.tag, .slice pa b.pay.length pc, .slice ta b.txs.length tc] 27) = w1 at *; go_frame; clear mk K0) | (have mk := K1.out; go_at_call 25; refine ID.out.mono ?_; rintro e w2 ⟨rfl, f2⟩; have F12 := Lib.hid f2; clear f2; have F23 := Lib.hid (F12.out.trans0 ((Fr.refl No w2).alloc (.cells (hashC (blkH b)).toArray 45))); go_frame; clear mk K1) | ((with_reducible refine at_store ?_); have mk := K2.out; refine wpList_done rfl (exec_store_new (w := w2) (ty := 45) (cs := hashC (blkH b)) rfl rfl rfl (by rw [HHL.out]; rfl) (by rw [HHL.out]; exact infoHash) hashC_one) ?_; generalize w2.alloc (.cells (hashC (blkH b)).toArray 45) = w3 at *; have x13 := F23.out.cell X1.out id; go_frame; clear mk K2))
  have HO3 := Lib.hid (show OutsIs w3 (.slice pa b.pay.length pc) b.pay by
    obtain ⟨pa', pc', ta', tc', e, _, ho, _⟩ := HB.out
    simp only [blkC, List.cons.injEq, and_true] at e
    obtain ⟨-, e1, -⟩ := e
    injection e1 with e11 _ e13
    subst e11; subst e13
    exact (ho.keep F1.out).keep F23.out)
  clear x13
  go_loopw [30] (fun iv wr => ∃ n : Nat, iv = .int .i64 n ∧ n ≤ b.pay.length ∧ (∀ x ∈ b.pay.take n, badV x = false) ∧ Fr No w3 wr) (fun iv _ => b.pay.length - (intOf iv).toNat)
  case atStart => exact ⟨0, rfl, Nat.zero_le _, by simp, Fr.refl _ _⟩
  case round =>
    obtain ⟨n, rfl, hn, hall, fr⟩ := hrel
    have FR := Lib.hid fr
    have AL := Lib.hid hall
    clear fr hall
    by_cases hlt : n < b.pay.length
    · have i1 : (n : Int) < (b.pay.length : Int) := by omega
      obtain ⟨x, hx⟩ : ∃ x, b.pay[n]? = some x := ⟨_, List.getElem?_eq_getElem hlt⟩
      obtain ⟨bb, off, cap, hv, hr, -⟩ := (HO3.out.keep FR.out).at_ hx
      cases hv
      have pok := HO3.out.1 x (List.mem_of_getElem? hx)
      have R1 := Lib.hid hr
      have IL := Lib.hid (outC_len pok)
      have FA := Lib.hid (FR.out.trans0 ((Fr.refl No wr).alloc (.cells (outC x).toArray 55)))
      have n1 := (out_new wr pok).1
      have HX := Lib.hid hx
      clear hr pok hx
      by_cases hbx : badV x = true
      · exact absurd hbx (HBAD.out x (List.mem_of_getElem? HX.out))
      · have hbx2 : badV x = false := by simpa using hbx
        have hv0 : (x.value == 0) = false := by
          unfold badV at hbx2
          rw [Bool.or_eq_false_iff] at hbx2
          simpa using hbx2.1
        have hv1 : decide (1125899906842624 < x.value) = false := by
          unfold badV at hbx2
          rw [Bool.or_eq_false_iff] at hbx2
          exact hbx2.2
        have AN := Lib.hid (show ∀ y ∈ b.pay.take (n + 1), badV y = false from fun y hy => by
          rw [List.take_add_one, HX.out] at hy
          rcases List.mem_append.1 hy with hy | hy
          · exact AL.out y hy
          · simp at hy; subst hy; exact hbx2)
        clear hbx hbx2
        have K0 := Lib.hid True.intro
        have K1 := Lib.hid True.intro
        go_wp2_with (first | ((with_reducible refine at_list ?_); have mk := K0.out; refine wpList_value rfl (exec_load (ty := 55) rfl rfl R1.out uO rO (by rw [IL.out]; exact infoOut)) ?_; go_frame; clear mk K0) | ((with_reducible refine at_store ?_); have mk := K1.out; refine wpList_done rfl (exec_store_new (w := wr) (ty := 55) (cs := outC x) rfl rfl rfl (by rw [IL.out]; rfl) (by rw [IL.out]; exact infoOut) outC_one) ?_; generalize wr.alloc (.cells (outC x).toArray 55) = wA at *; go_frame; clear mk K1))
        go_roundw
        case rel => exact ⟨n + 1, by go_num, by omega, AN.out, FA.out⟩
        case measure => simp [intOf]; omega
    · have hne : n = b.pay.length := by omega
      have i1 : ¬ (n : Int) < (b.pay.length : Int) := by omega
      have FW := Lib.hid (F1.out.trans0 (F23.out.trans0 FR.out))
      have FO := Lib.hid (F23.out.trans0 FR.out)
      have XR4 := Lib.hid (range_keep XR.out FO.out id)
      have OWN := Lib.hid (HOWN.out wr _ (HB.out.keep FW.out))
      have HCr := Lib.hid (HC.out.fr0 FW.out)
      clear AL hne
      by_cases hE : R.E = 0
      rotate_left
      · have HNE := Lib.hid hE
        have e0 : (R.E == 0) = false := by simpa using hE
        clear hE
        have K0 := Lib.hid True.intro
        have K1 := Lib.hid True.intro
        have K2 := Lib.hid True.intro
        have K3 := Lib.hid True.intro
        have K4 := Lib.hid True.intro
        have K5 := Lib.hid True.intro
        have K6 := Lib.hid True.intro
        go_wp2_with (first | ((with_reducible refine at_list ?_); have mk := K0.out; refine wpList_value rfl (exec_load (ty := 27) rfl rfl XR4.out uB rB infoBlk) ?_; go_frame; clear mk K0) | (have mk := K1.out; go_at_call 32; refine OWN.out.mono ?_; rintro e w5 ⟨cs5, rfl, f5, hk5⟩; obtain ⟨pa5, pc5, ta5, tc5, rfl⟩ := (hk5 (fun _ => False) (fun _ h => h.elim)).now.form; have K5 := Lib.hid hk5; have F5 := Lib.hid f5; have HC5 := Lib.hid (HCr.out.fr0 f5); clear hk5 f5; go_frame; clear mk K1) | ((with_reducible refine at_list ?_); have mk := K2.out; refine wpList_value rfl (exec_bld (t := 97) rfl rfl (bldDone _ _ _ _ _ _ _ _)) ?_; go_frame; clear mk K2) | ((with_reducible refine at_store ?_); have mk := K3.out; refine wpList_done rfl (exec_store_new (w := w5) (ty := 97) (cs := [.int .u64 b.tag, .slice pa5 b.pay.length pc5, .slice ta5 b.txs.length tc5, .slice none 0 0, .slice none 0 0]) rfl rfl rfl rfl infoDone (fun u hu => by simp only [List.mem_cons, List.not_mem_nil, or_false] at hu; rcases hu with rfl | rfl | rfl | rfl | rfl <;> rfl)) ?_; have F6 := Lib.hid ((Fr.refl No w5).alloc (.cells [.int .u64 b.tag, .slice pa5 b.pay.length pc5, .slice ta5 b.txs.length tc5, .slice none 0 0, .slice none 0 0].toArray 97)); have B6 := Lib.hid (new_obj w5 (.cells [.int .u64 b.tag, .slice pa5 b.pay.length pc5, .slice ta5 b.txs.length tc5, .slice none 0 0, .slice none 0 0].toArray 97)); generalize w5.alloc (.cells [.int .u64 b.tag, .slice pa5 b.pay.length pc5, .slice ta5 b.txs.length tc5, .slice none 0 0, .slice none 0 0].toArray 97) = w6 at *; generalize hdq : w5.heap.size = dq at *; go_frame; clear mk K3) | (have mk := K4.out; go_at_call 33; refine (HDO.out w6 dq [.int .u64 b.tag, .slice pa5 b.pay.length pc5, .slice ta5 b.txs.length tc5] (HC5.out.fr0 F6.out) B6.out (fun e => by have := HC5.out.hi _ e; omega) (by have := HC5.out.fr.size; omega) ((K5.out (chV p U mi bv) HCr.out.hi).step F6.out.of0 (fun j hj e => e.resolve_right (by omega))) HOK.out (fun i d cs h1 h2 => (HC5.out.data i d cs h1 h2).step F6.out.of0 (fun j hj e => e.resolve_right (by omega)))).mono ?_; rintro e w7 ⟨M7, sp7, rfl, hc7, f7, hblk, csd, hq7, hkd⟩; have SP7 := Lib.hid sp7; have HC7 := Lib.hid hc7; have F7 := Lib.hid f7; have Q7 := Lib.hid hq7; have KD := Lib.hid hkd; have FF7 := Lib.hid (show Fr (chV p U mi bv) w w7 from ((FW.out.trans0 F5.out).trans0 F6.out).of0.trans f7 (fun j hj e => e.elim id (fun e => by have := FW.out.size; have := F5.out.size; omega))); obtain ⟨hd5, hd1⟩ := hkd.now.one; have D5 := Lib.hid hd5; have D1 := Lib.hid hd1; clear sp7 hc7 f7 hblk hq7 hkd hd5 hd1; go_frame; clear mk K4) | ((with_reducible refine at_list ?_); have mk := K5.out; refine wpList_value rfl (exec_load (ty := 97) rfl rfl (range_obj Q7.out) uD rD (by rw [List.toList_toArray, D5.out]; exact infoDone)) ?_; go_frame; clear mk K5) | (have mk := K6.out; go_at_call 34; refine (undo_any HC7.out (show Kept (chV p U mi bv) w7 (fun w => DoneQ w R.d csd) from fun w' f => KD.out w' (f.mono (fun j hj => .inl hj))) HSZ.out.1 HSZ.out.2.1 HSZ.out.2.2).mono ?_; rintro e w8 ⟨rfl, M8, hc8, hm8, -, f8⟩; have HC8 := Lib.hid hc8; have HM8 := Lib.hid hm8; have F8 := Lib.hid (show Fr (chV p U mi bv) w w8 from FF7.out.trans f8 (fun _ _ h => h)); clear hc8 hm8 f8; go_frame; clear mk K6))
        go_ret
        refine ⟨rfl, F8.out, fun h => absurd h HNE.out, fun _ => ⟨M8, HC8.out, fun x v => ?_⟩⟩
        rw [HM8.out, SP7.out.1]
        constructor
        · rintro ⟨h1, h2 | ⟨h2, h3⟩⟩
          · exact h2
          · exact absurd h2 h1
        · intro h2
          exact ⟨fun h => SP7.out.2 x h v h2, .inl h2⟩
      · have HE0 := Lib.hid hE
        have e0 : (R.E == 0) = true := by simpa using hE
        clear hE
        have K0 := Lib.hid True.intro
        have K1 := Lib.hid True.intro
        have K2 := Lib.hid True.intro
        have K3 := Lib.hid True.intro
        have K4 := Lib.hid True.intro
        go_wp2_with (first | ((with_reducible refine at_list ?_); have mk := K0.out; refine wpList_value rfl (exec_load (ty := 27) rfl rfl XR4.out uB rB infoBlk) ?_; go_frame; clear mk K0) | (have mk := K1.out; go_at_call 32; refine OWN.out.mono ?_; rintro e w5 ⟨cs5, rfl, f5, hk5⟩; obtain ⟨pa5, pc5, ta5, tc5, rfl⟩ := (hk5 (fun _ => False) (fun _ h => h.elim)).now.form; have K5 := Lib.hid hk5; have F5 := Lib.hid f5; have HC5 := Lib.hid (HCr.out.fr0 f5); clear hk5 f5; go_frame; clear mk K1) | ((with_reducible refine at_list ?_); have mk := K2.out; refine wpList_value rfl (exec_bld (t := 97) rfl rfl (bldDone _ _ _ _ _ _ _ _)) ?_; go_frame; clear mk K2) | ((with_reducible refine at_store ?_); have mk := K3.out; refine wpList_done rfl (exec_store_new (w := w5) (ty := 97) (cs := [.int .u64 b.tag, .slice pa5 b.pay.length pc5, .slice ta5 b.txs.length tc5, .slice none 0 0, .slice none 0 0]) rfl rfl rfl rfl infoDone (fun u hu => by simp only [List.mem_cons, List.not_mem_nil, or_false] at hu; rcases hu with rfl | rfl | rfl | rfl | rfl <;> rfl)) ?_; have F6 := Lib.hid ((Fr.refl No w5).alloc (.cells [.int .u64 b.tag, .slice pa5 b.pay.length pc5, .slice ta5 b.txs.length tc5, .slice none 0 0, .slice none 0 0].toArray 97)); have B6 := Lib.hid (new_obj w5 (.cells [.int .u64 b.tag, .slice pa5 b.pay.length pc5, .slice ta5 b.txs.length tc5, .slice none 0 0, .slice none 0 0].toArray 97)); generalize w5.alloc (.cells [.int .u64 b.tag, .slice pa5 b.pay.length pc5, .slice ta5 b.txs.length tc5, .slice none 0 0, .slice none 0 0].toArray 97) = w6 at *; generalize hdq : w5.heap.size = dq at *; go_frame; clear mk K3) | (have mk := K4.out; go_at_call 33; refine (HDO.out w6 dq [.int .u64 b.tag, .slice pa5 b.pay.length pc5, .slice ta5 b.txs.length tc5] (HC5.out.fr0 F6.out) B6.out (fun e => by have := HC5.out.hi _ e; omega) (by have := HC5.out.fr.size; omega) ((K5.out (chV p U mi bv) HCr.out.hi).step F6.out.of0 (fun j hj e => e.resolve_right (by omega))) HOK.out (fun i d cs h1 h2 => (HC5.out.data i d cs h1 h2).step F6.out.of0 (fun j hj e => e.resolve_right (by omega)))).mono ?_; rintro e w7 ⟨M7, sp7, rfl, hc7, f7, hblk, csd, hq7, hkd⟩; have SP7 := Lib.hid sp7; have HC7 := Lib.hid hc7; have F7 := Lib.hid f7; have Q7 := Lib.hid hq7; have KD := Lib.hid hkd; have FF7 := Lib.hid (show Fr (chV p U mi bv) w w7 from ((FW.out.trans0 F5.out).trans0 F6.out).of0.trans f7 (fun j hj e => e.elim id (fun e => by have := FW.out.size; have := F5.out.size; omega))); obtain ⟨hd5, hd1⟩ := hkd.now.one; have D5 := Lib.hid hd5; have D1 := Lib.hid hd1; clear sp7 hc7 f7 hblk hq7 hkd hd5 hd1; go_frame; clear mk K4))
        have FD7 := Lib.hid (Fr.refl No w7).drew
        have HC9 := Lib.hid (HC7.out.fr0 FD7.out)
        have Q9 := Lib.hid (FD7.out.obj Q7.out id)
        have GR := Lib.hid (show w7.drew.rangeAt dq 0 csd from range_obj Q9.out)
        have CB := Lib.hid (show w7.drew.cell? ⟨p, 1, none⟩ = some (.slice ba D.bs.length bc) by rw [← HBV.out]; exact HC9.out.cells.2.1)
        refine wp_region_lexM [false, false, false, false, false, false, true, true, false, false, true] (fun w' => w'.cell? ⟨p, 1, none⟩ = some (.slice ba D.bs.length bc) ∧ w'.rangeAt dq 0 csd) (by kernel_rfl) (by kernel_rfl) 10 (by kernel_rfl) (by kernel_rfl) ?_ (fun K hK => ?_)
        · exact ⟨CB.out, GR.out⟩
        generalize w7.drew = z at *
        have HROW := Lib.hid (show z.ownsRow w0.heap.size 97 5 (.slice ba D.bs.length bc) D.bs.length (css.flatMap id) by rw [← HBV.out]; exact HC9.out.row)
        obtain ⟨v5, w9, a1, a2, a3, a4, a5⟩ := append_blk (P := Tryd.prog) z w0.heap.size 89 89 97 5 104 _ undDones infoDoneZ rfl (by decide) HROW.out csd D5.out D1.out (by have := BL.out; omega) (by have := BL.out; unfold maxLen; omega) HC9.out.fr.size
        obtain ⟨va5, vc5, hv5⟩ := a2.slice.arg.form
        subst hv5
        have A1 := Lib.hid a1
        have O9 := Lib.hid (show w9.ownsRow w0.heap.size 97 5 (.slice va5 (D.bs.length + 1) vc5) (D.bs ++ [R.d]).length ((css ++ [csd]).flatMap id) by rw [List.length_append, List.flatMap_append]; simpa using a2)
        have F9 := Lib.hid (show Fr (chV p U mi bv) z w9 from a3.mono (fun j e => .inr (.inr (.inr (by rw [HBV.out]; exact e)))))
        have N9 := Lib.hid (show ∀ j, (Value.slice va5 (D.bs.length + 1) vc5).ownBlock = some j → bv.ownBlock = some j ∨ z.heap.size ≤ j from fun j hj => by rw [HBV.out]; exact a5 j hj)
        have FB9 := Lib.hid a3
        have OB9 := Lib.hid (a3.obj HC9.out.obj (fun e => (HC9.out.rn p (by rw [HBV.out]; exact e)).1 rfl))
        have DQ9 := Lib.hid (show dq ≠ p ∧ ¬ chV p U mi bv dq from ⟨fun e => by have := obj_lt HC5.out.obj; omega, fun e => by have := HC5.out.hi _ e; omega⟩)
        have GR9 := Lib.hid (range_keep GR.out F9.out DQ9.out.2)
        clear a1 a2 a3 a4 a5
        have OB9c := OB9.out
        rw [HBV.out] at OB9c
        have cp9 : w9.cell? ⟨p, 1, none⟩ = some (.slice ba D.bs.length bc) := by have := range_obj OB9c 1 _ rfl; simpa using this
        have CP9 := Lib.hid cp9
        have fz := u32_unfrozen (i := 1) OB9c
        have KS := Lib.hid (show ∀ w', Fr No z w' → w'.cell? ⟨p, 1, none⟩ = some (.slice ba D.bs.length bc) ∧ w'.rangeAt dq 0 csd from fun w' f => ⟨f.cell CB.out id, range_keep GR.out f id⟩)
        have fs : Fr (fun j => j = p) w9 (w9.setCell ⟨p, 1, none⟩ (.slice va5 (D.bs.length + 1) vc5)) := (Fr.refl (fun j => j = p) w9).setCell ⟨p, 1, none⟩ (.inr rfl) _
        have FT := Lib.hid (show Fr (chV p U mi bv) z (w9.setCell ⟨p, 1, none⟩ (.slice va5 (D.bs.length + 1) vc5)) from F9.out.trans fs (fun j _ e => .inl e))
        have FAll := Lib.hid (show Fr (chV p U mi bv) w (w9.setCell ⟨p, 1, none⟩ (.slice va5 (D.bs.length + 1) vc5)) from (FF7.out.trans0 FD7.out).trans FT.out (fun _ _ h => h))
        have VV := Lib.hid (show ∀ j, j < z.heap.size → chV p U mi (.slice va5 (D.bs.length + 1) vc5) j → chV p U mi bv j from fun j hj e => by
          rcases e with e | e | e | e
          · exact .inl e
          · exact .inr (.inl e)
          · exact .inr (.inr (.inl e))
          · exact .inr (.inr (.inr ((N9.out j e).resolve_right (by omega)))))
        have FBS := Lib.hid (show Fr (fun j => (Value.slice ba D.bs.length bc).ownBlock = some j ∨ j = p) z (w9.setCell ⟨p, 1, none⟩ (.slice va5 (D.bs.length + 1) vc5)) from (FB9.out.mono (fun j e => .inl e)).trans fs (fun j _ e => .inr e))
        have CHF := Lib.hid (show ChAt w0 (w9.setCell ⟨p, 1, none⟩ (.slice va5 (D.bs.length + 1) vc5)) p s U mi (.slice va5 (D.bs.length + 1) vc5) (css ++ [csd]) ⟨R.S, D.bs ++ [R.d], M7⟩ from {
          obj := by have := heap_setCell_same w9 p 1 _ _ (.slice va5 (D.bs.length + 1) vc5) OB9.out; simpa using this
          set := HC9.out.set.frV FBS.out (fun j hj e => e.elim (fun e => (HC9.out.rn j (by rw [HBV.out]; exact e)).2.2 hj) (fun e => HC9.out.up (e ▸ hj))) (fun j e => e.elim (fun e => (HROW.out.lt j e).1) (fun e => by have := HC9.out.lo1; omega))
          row := ownsRow_keep O9.out fs (fun j hj e => (N9.out j hj).elim (fun h => (HC9.out.rn j h).1 e) (fun h => by have := obj_lt HC9.out.obj; omega))
          cl := by rw [List.length_append, List.length_append, HC9.out.cl]; rfl
          c5 := fun cs h => (List.mem_append.1 h).elim (fun h => HC9.out.c5 cs h) (fun h => by simp at h; subst h; exact D5.out)
          data := fun i d cs h1 h2 => by
            by_cases hi : i < D.bs.length
            · have h1' : D.bs[i]? = some d := by rw [← h1]; exact (List.getElem?_append_left hi).symm
              have h2' : css[i]? = some cs := by rw [← h2]; exact (List.getElem?_append_left (by rw [HC9.out.cl]; exact hi)).symm
              exact (HC9.out.data i d cs h1' h2').step FT.out (fun j hj e => VV.out j hj e)
            · have hie : i = D.bs.length := by have := (List.getElem?_eq_some_iff.1 h1).1; simp only [List.length_append, List.length_singleton] at this; omega
              subst hie
              have h1' : R.d = d := by
                have := h1
                simp only [List.getElem?_append_right (Nat.le_refl _), Nat.sub_self, List.getElem?_cons_zero, Option.some.injEq] at this
                exact this
              have h2' : csd = cs := by
                have := h2
                rw [List.getElem?_append_right (by rw [HC9.out.cl]; exact Nat.le_refl _), HC9.out.cl] at this
                simpa using this
              subst h1'
              subst h2'
              exact (KD.out.same FD7.out.of0).step (FT.out.mono (fun j e => .inl e)) (fun j hj e => .inl (VV.out j hj e))
          map := HC9.out.map.keep FBS.out (fun e => e.elim (fun e => (HC9.out.rn mi (by rw [HBV.out]; exact e)).2.1 rfl) (fun e => HC9.out.pm e.symm))
          pm := HC9.out.pm
          up := HC9.out.up
          um := HC9.out.um
          rn := fun k hk => (N9.out k hk).elim (fun h => HC9.out.rn k h) (fun h => ⟨fun e => by have := obj_lt HC9.out.obj; omega, fun e => by have := HC9.out.map.lt; omega, fun e => by have := HC9.out.set.hi k e; omega⟩)
          lo1 := HC9.out.lo1
          lo2 := HC9.out.lo2 })
        repeat (first | ((first | with_reducible refine lexM_read ?_ | ((with_reducible refine lexM_readG ?_ ?_); (focus rfl))); apply Exists.intro; refine ⟨?_, ?_⟩; (focus (first | exact lex_load (ty := 97) rfl (fun w h => h.2) uD rD (by rw [D5.out]; exact infoDone) | (intro w' hS; obtain ⟨s1, s2⟩ := hS; go_simp; (try with_reducible rfl); done))); try simp only [Act.put, List.setIfInBounds_toArray, List.set_cons_zero, List.set_cons_succ]) | ((first | ((with_reducible refine lexM_skip (c := false) ?_ ?_ ?_); (focus rfl); (focus rfl)) | ((with_reducible refine lexM_skip (c := true) ?_ ?_ ?_); (focus rfl); (focus rfl)) | ((with_reducible refine lexM_skipU ?_ ?_); (focus rfl))); try simp only [Act.put, List.setIfInBounds_toArray, List.set_cons_zero, List.set_cons_succ]))
        (first | with_reducible refine lexM_eff (fun K' hK' => ?_) | ((with_reducible refine lexM_effG ?_ (fun K' hK' => ?_)); (focus rfl)))
        refine wp_value (exec_buildSliceA (t := 89) rfl rfl undDones infoDoneZ2 rfl (by decide) (by decide) D5.out) ?_
        refine hK'.out _ _ (fun _ => ?_) (fun hS => ?_)
        · exact KS.out _ ((Fr.refl No z).alloc _)
        try simp only [Act.put, List.setIfInBounds_toArray, List.set_cons_zero, List.set_cons_succ]
        (first | with_reducible refine lexM_eff (fun K' hK' => ?_) | ((with_reducible refine lexM_effG ?_ (fun K' hK' => ?_)); (focus rfl)))
        refine wp_append_run rfl rfl rfl A1.out ?_
        refine hK'.out _ _ (fun _ => ?_) (fun hS => ?_)
        · exact ⟨CP9.out, GR9.out⟩
        try simp only [Act.put, List.setIfInBounds_toArray, List.set_cons_zero, List.set_cons_succ]
        repeat (first | ((first | with_reducible refine lexM_read ?_ | ((with_reducible refine lexM_readG ?_ ?_); (focus rfl))); apply Exists.intro; refine ⟨?_, ?_⟩; (focus (first | (intro w' hS; obtain ⟨s1, s2⟩ := hS; go_simp; (try with_reducible rfl); done))); try simp only [Act.put, List.setIfInBounds_toArray, List.set_cons_zero, List.set_cons_succ]) | ((first | ((with_reducible refine lexM_skip (c := false) ?_ ?_ ?_); (focus rfl); (focus rfl)) | ((with_reducible refine lexM_skip (c := true) ?_ ?_ ?_); (focus rfl); (focus rfl)) | ((with_reducible refine lexM_skipU ?_ ?_); (focus rfl))); try simp only [Act.put, List.setIfInBounds_toArray, List.set_cons_zero, List.set_cons_succ]))
        (first | with_reducible refine lexM_eff (fun K' hK' => ?_) | ((with_reducible refine lexM_effG ?_ (fun K' hK' => ?_)); (focus rfl)))
        go_simp
        refine hK'.out _ _ (fun h => absurd rfl h) (fun hS => ?_)
        refine lexM_nil (hK.out _ _ ?_)
        go_wp2_with fail
        go_ret
        exact ⟨by rw [HE0.out]; rfl, FAll.out, fun _ => ⟨_, _, M7, CHF.out, SP7.out, fun j hj => (N9.out j hj).imp_right (fun h => Nat.le_trans (FF7.out.trans0 FD7.out).size h)⟩, fun h => absurd HE0.out h⟩
end Go.Proofs.YtmpamcnlineceaaDoor
