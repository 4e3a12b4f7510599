/- tx: Check. -/
import Derived.Test.YtmpamcnlineceaaDoorMG36
set_option linter.unusedVariables false
set_option linter.unusedSimpArgs false
set_option linter.unnecessarySimpa false
set_option linter.all false
namespace Go.Proofs.YtmpamcnlineceaaDoor
open Go Go.RowKit Go.Maps Go.MapKept

def sumO (l : List OutD) : Int := (l.map (·.value)).sum
theorem sumO_snoc {l : List OutD} {n : Nat} {x : OutD} (h : l[n]? = some x) : sumO (l.take (n + 1)) = sumO (l.take n) + x.value := by
  unfold sumO
  rw [List.take_add_one, h]
  simp
theorem sumO_le : ∀ {l : List OutD}, (∀ x ∈ l, 0 ≤ x.value ∧ badV x = false) → 0 ≤ sumO l ∧ sumO l ≤ 1125899906842624 * (l.length : Int)
  | [], _ => by simp [sumO]
  | x :: l, h => by
    have h1 := sumO_le (l := l) (fun y hy => h y (.tail _ hy))
    have h2 := h x (.head _)
    have h3 : x.value ≤ 1125899906842624 := by
      have := h2.2
      unfold badV at this
      rw [Bool.or_eq_false_iff] at this
      have := this.2
      simp at this
      omega
    have e : sumO (x :: l) = x.value + sumO l := by simp [sumO]
    rw [e]
    simp only [List.length_cons]
    omega
def checkE (t : TxD) : Int :=
  if formB t = true then
    (if t.ins.length = 0 ∨ t.outs.length = 0 then 9
     else if t.outs.any badV = true then 11
     else if 1125899906842624 < sumO t.outs then 11
     else if (ptsD t).Nodup then 0 else 12)
  else 5
def CheckOk (w : World) (t : TxD) (e : Ending) (w' : World) : Prop := e = .returned (.int .i64 (checkE t)) ∧ Fr No w w'
set_option maxRecDepth 20000 in
set_option maxHeartbeats 4000000 in
theorem check_any (w : World) {t : TxD} {cs : List Value} (ht : TxQ w t cs) :
    Calls Tryd.prog 46 #[.agg cs.toArray] w (CheckOk w t) := by
  have HT := Lib.hid ht
  obtain ⟨ia, ic, oa, oc, rfl, hv, hi, ho⟩ := ht
  obtain ⟨dI, uI, rI⟩ := descIn
  obtain ⟨dO, uO, rO⟩ := descOut
  obtain ⟨dT, uT, rT⟩ := descTx
  obtain ⟨dP, uP, rP⟩ := descPoint
  have zI := zeroIn1
  have zO := zeroOutC
  have F1 := Lib.hid ((Fr.refl No w).alloc (.cells #[.int .u32 t.ver, .slice ia t.ins.length ic, .slice oa t.outs.length oc] 41))
  obtain ⟨-, c1, c2, r0⟩ := tx_new w t.ver (.slice ia t.ins.length ic) (.slice oa t.outs.length oc)
  have C1 := Lib.hid c1
  have C2 := Lib.hid c2
  have R0 := Lib.hid r0
  have HI := Lib.hid (hi.keep0 F1.out)
  have HO := Lib.hid (ho.keep F1.out)
  have HF := Lib.hid (form_any (w.alloc (.cells #[.int .u32 t.ver, .slice ia t.ins.length ic, .slice oa t.outs.length oc] 41)) (HT.out.keep F1.out))
  clear hi ho hv c1 c2 r0
  show Calls Tryd.prog 46 #[.agg #[.int .u32 t.ver, .slice ia t.ins.length ic, .slice oa t.outs.length oc]] w _
  by_cases hfm : formB t = true
  rotate_left
  · have hfm2 : formB t = false := by simpa using hfm
    have HP := Lib.hid (show ∀ w', Fr No w w' → CheckOk w t (.returned (.int .i64 5)) w' from fun w' f => ⟨by simp [checkE, hfm2], f⟩)
    rw [hfm2] at HF
    clear hfm hfm2
    go_enter Tryd.func46, Tryd.ntmps46
    go_wp2_with (first | (refine wpList_value rfl (exec_load (ty := 41) rfl rfl R0.out uT rT infoTx) ?_; generalize w.alloc (.cells #[.int .u32 t.ver, .slice ia t.ins.length ic, .slice oa t.outs.length oc] 41) = w1 at *) | (go_at_call 52; refine HF.out.mono ?_; rintro e w2 ⟨rfl, f2⟩; have F12 := Lib.hid f2; have F2 := Lib.hid (F1.out.trans0 f2); clear f2; have d1 := F12.out.cell C1.out id; have d2 := F12.out.cell C2.out id))
    go_ret
    exact HP.out _ F2.out
  obtain ⟨hk, hil, hol⟩ := formB_iff.1 hfm
  rw [hfm] at HF
  by_cases h0 : t.ins.length = 0
  · have HP := Lib.hid (show ∀ w', Fr No w w' → CheckOk w t (.returned (.int .i64 9)) w' from fun w' f => ⟨by simp [checkE, hfm, h0], f⟩)
    have jz : ((t.ins.length : Int) == 0) = true := by simp [h0]
    clear hk hil hol hfm h0
    go_enter Tryd.func46, Tryd.ntmps46
    go_wp2_with (first | (refine wpList_value rfl (exec_load (ty := 41) rfl rfl R0.out uT rT infoTx) ?_; generalize w.alloc (.cells #[.int .u32 t.ver, .slice ia t.ins.length ic, .slice oa t.outs.length oc] 41) = w1 at *) | (go_at_call 52; refine HF.out.mono ?_; rintro e w2 ⟨rfl, f2⟩; have F12 := Lib.hid f2; have F2 := Lib.hid (F1.out.trans0 f2); clear f2; have d1 := F12.out.cell C1.out id; have d2 := F12.out.cell C2.out id))
    go_ret
    exact HP.out _ F2.out
  have jz : ((t.ins.length : Int) == 0) = false := by rw [beq_eq_false_iff_ne]; omega
  by_cases h1 : t.outs.length = 0
  · have HP := Lib.hid (show ∀ w', Fr No w w' → CheckOk w t (.returned (.int .i64 9)) w' from fun w' f => ⟨by simp [checkE, hfm, h1], f⟩)
    have jy : ((t.outs.length : Int) == 0) = true := by simp [h1]
    clear hk hil hol hfm h0 h1
    go_enter Tryd.func46, Tryd.ntmps46
    go_wp2_with (first | (refine wpList_value rfl (exec_load (ty := 41) rfl rfl R0.out uT rT infoTx) ?_; generalize w.alloc (.cells #[.int .u32 t.ver, .slice ia t.ins.length ic, .slice oa t.outs.length oc] 41) = w1 at *) | (go_at_call 52; refine HF.out.mono ?_; rintro e w2 ⟨rfl, f2⟩; have F12 := Lib.hid f2; have F2 := Lib.hid (F1.out.trans0 f2); clear f2; have d1 := F12.out.cell C1.out id; have d2 := F12.out.cell C2.out id))
    go_ret
    exact HP.out _ F2.out
  have jy : ((t.outs.length : Int) == 0) = false := by rw [beq_eq_false_iff_ne]; omega
  have HP11 := Lib.hid (show (∃ x ∈ t.outs, badV x = true) → ∀ w', Fr No w w' → CheckOk w t (.returned (.int .i64 11)) w' from fun h w' f => ⟨by
    have : t.outs.any badV = true := List.any_eq_true.2 h
    unfold checkE
    rw [if_pos hfm, if_neg (by omega), if_pos this], f⟩)
  have HPS := Lib.hid (show t.outs.any badV = false → 1125899906842624 < sumO t.outs → ∀ w', Fr No w w' → CheckOk w t (.returned (.int .i64 11)) w' from fun h h' w' f => ⟨by
    unfold checkE
    rw [if_pos hfm, if_neg (by omega), if_neg (by rw [h]; simp), if_pos h'], f⟩)
  have HPE := Lib.hid (show t.outs.any badV = false → ¬ 1125899906842624 < sumO t.outs → ∀ w', Fr No w w' → CheckOk w t (.returned (.int .i64 (if (ptsD t).Nodup then 0 else 12))) w' from fun h h' w' f => ⟨by
    have e : checkE t = if (ptsD t).Nodup then 0 else 12 := by
      unfold checkE
      rw [if_pos hfm, if_neg (by omega), if_neg (by rw [h]; simp), if_neg h']
    rw [e], f⟩)
  clear hk hfm h0 h1
  go_enter Tryd.func46, Tryd.ntmps46
  go_wp2_with (first | (refine wpList_value rfl (exec_load (ty := 41) rfl rfl R0.out uT rT infoTx) ?_; generalize w.alloc (.cells #[.int .u32 t.ver, .slice ia t.ins.length ic, .slice oa t.outs.length oc] 41) = w1 at *) | (go_at_call 52; refine HF.out.mono ?_; rintro e w2 ⟨rfl, f2⟩; have F12 := Lib.hid f2; have F2 := Lib.hid (F1.out.trans0 f2); clear f2; have d1 := F12.out.cell C1.out id; have d2 := F12.out.cell C2.out id))
  have FO := Lib.hid F12.out
  clear d1 d2 jz jy
  go_loopw [3, 25] (fun sv iv wr => ∃ n : Nat, iv = .int .i64 n ∧ n ≤ t.outs.length ∧ sv = .int .u64 (sumO (t.outs.take n)) ∧ (∀ x ∈ t.outs.take n, badV x = false) ∧ Fr No w2 wr) (fun _ iv _ => t.outs.length - (intOf iv).toNat)
  case atStart => exact ⟨0, rfl, Nat.zero_le _, rfl, by simp, Fr.refl _ _⟩
  case round =>
    obtain ⟨n, rfl, hn, rfl, hall, fr⟩ := hrel
    have FR := Lib.hid fr
    have AL := Lib.hid hall
    have HOr := Lib.hid ((HO.out.keep F12.out).keep fr)
    have hsl := sumO_le (l := t.outs.take n) (fun x hx => ⟨(HO.out.1 x (List.mem_of_mem_take hx)).1.1, hall x hx⟩)
    rw [List.length_take] at hsl
    clear fr hall
    by_cases hlt : n < t.outs.length
    · have i1 : (n : Int) < (t.outs.length : Int) := by omega
      obtain ⟨x, hx⟩ : ∃ x, t.outs[n]? = some x := ⟨_, List.getElem?_eq_getElem hlt⟩
      obtain ⟨bb, off, cap, hv, hr, -⟩ := HOr.out.at_ hx
      cases hv
      have pok := HO.out.1 x (List.mem_of_getElem? hx)
      have R1 := Lib.hid hr
      have IL := Lib.hid (outC_len pok)
      have FA := Lib.hid (FR.out.trans0 ((Fr.refl No wr).alloc (.cells (outC x).toArray 55)))
      have n1 := (out_new wr pok).1
      have SN := Lib.hid (sumO_snoc hx)
      have HX := Lib.hid hx
      have vv := pok.1
      clear hr pok hx
      by_cases hbx : badV x = true
      · have HP := Lib.hid (HP11.out ⟨x, List.mem_of_getElem? HX.out, hbx⟩)
        have hor : x.value = 0 ∨ (x.value ≠ 0 ∧ 1125899906842624 < x.value) := by
          simp only [badV, Bool.or_eq_true, decide_eq_true_eq] at hbx
          by_cases h : x.value = 0
          · exact .inl h
          · exact .inr ⟨h, hbx.resolve_left h⟩
        clear hbx hsl
        rcases hor with hz | ⟨hz, hz2⟩
        · have hv0 : (x.value == 0) = true := by simpa using hz
          clear hz
          have K0 := Lib.hid True.intro
          have K1 := Lib.hid True.intro
          go_wp2_with (first | ((with_reducible refine at_list ?_); have mk := K0.out; refine wpList_value rfl (exec_load (ty := 55) rfl rfl R1.out uO rO (by rw [IL.out]; exact infoOut)) ?_; go_frame; clear mk K0) | ((with_reducible refine at_store ?_); have mk := K1.out; refine wpList_done rfl (exec_store_new (w := wr) (ty := 55) (cs := outC x) rfl rfl rfl (by rw [IL.out]; rfl) (by rw [IL.out]; exact infoOut) outC_one) ?_; generalize wr.alloc (.cells (outC x).toArray 55) = wA at *; go_frame; clear mk K1))
          go_ret
          exact HP.out _ (F2.out.trans0 FA.out)
        · have hv0 : (x.value == 0) = false := by simpa using hz
          have hv1 : decide (1125899906842624 < x.value) = true := by simpa using hz2
          clear hz hz2
          have K0 := Lib.hid True.intro
          have K1 := Lib.hid True.intro
          go_wp2_with (first | ((with_reducible refine at_list ?_); have mk := K0.out; refine wpList_value rfl (exec_load (ty := 55) rfl rfl R1.out uO rO (by rw [IL.out]; exact infoOut)) ?_; go_frame; clear mk K0) | ((with_reducible refine at_store ?_); have mk := K1.out; refine wpList_done rfl (exec_store_new (w := wr) (ty := 55) (cs := outC x) rfl rfl rfl (by rw [IL.out]; rfl) (by rw [IL.out]; exact infoOut) outC_one) ?_; generalize wr.alloc (.cells (outC x).toArray 55) = wA at *; go_frame; clear mk K1))
          go_ret
          exact HP.out _ (F2.out.trans0 FA.out)
      · have hbx2 : badV x = false := by simpa using hbx
        have hv0 : (x.value == 0) = false := by
          unfold badV at hbx2
          rw [Bool.or_eq_false_iff] at hbx2
          simpa using hbx2.1
        have hv1 : decide (1125899906842624 < x.value) = false := by
          unfold badV at hbx2
          rw [Bool.or_eq_false_iff] at hbx2
          exact hbx2.2
        have hv2 : x.value ≤ 1125899906842624 := by simp at hv1; omega
        have es : (sumO (t.outs.take n) + x.value) % 18446744073709551616 = sumO (t.outs.take n) + x.value := by omega
        have AN := Lib.hid (show ∀ y ∈ t.outs.take (n + 1), badV y = false from fun y hy => by
          rw [List.take_add_one, HX.out] at hy
          rcases List.mem_append.1 hy with hy | hy
          · exact AL.out y hy
          · simp at hy; subst hy; exact hbx2)
        clear hbx hbx2 hsl hv2
        have K0 := Lib.hid True.intro
        have K1 := Lib.hid True.intro
        go_wp2_with (first | ((with_reducible refine at_list ?_); have mk := K0.out; refine wpList_value rfl (exec_load (ty := 55) rfl rfl R1.out uO rO (by rw [IL.out]; exact infoOut)) ?_; go_frame; clear mk K0) | ((with_reducible refine at_store ?_); have mk := K1.out; refine wpList_done rfl (exec_store_new (w := wr) (ty := 55) (cs := outC x) rfl rfl rfl (by rw [IL.out]; rfl) (by rw [IL.out]; exact infoOut) outC_one) ?_; generalize wr.alloc (.cells (outC x).toArray 55) = wA at *; go_frame; clear mk K1))
        go_roundw
        case rel => exact ⟨n + 1, by go_num, by omega, by rw [SN.out], AN.out, FA.out⟩
        case measure => simp [intOf]; omega
    · have hne : n = t.outs.length := by omega
      have i1 : ¬ (n : Int) < (t.outs.length : Int) := by omega
      rw [hne, List.take_length] at AL
      have hgood : t.outs.any badV = false := List.any_eq_false.2 (fun x hx => by rw [AL.out x hx]; decide)
      have est : t.outs.take n = t.outs := by rw [hne, List.take_length]
      rw [est]
      have FW := Lib.hid (F2.out.trans0 FR.out)
      have F13 := Lib.hid (F12.out.trans0 FR.out)
      by_cases hs : 1125899906842624 < sumO t.outs
      · have HP := Lib.hid (HPS.out hgood hs)
        have js : decide (1125899906842624 < sumO t.outs) = true := by simpa using hs
        clear hs hgood hsl est
        go_wp2
        go_ret
        exact HP.out _ FW.out
      have js : decide (1125899906842624 < sumO t.outs) = false := by simpa using hs
      have HP := Lib.hid (HPE.out hgood (by omega))
      have cI := F13.out.cell C1.out id
      have ms := run_makeSeen wr
      have cI2 : (wr.alloc (.map #[] 0)).cell? ⟨w.heap.size, 1, none⟩ = some (.slice ia t.ins.length ic) := ((Fr.refl No wr).alloc (.map #[] 0)).cell cI id
      clear hs hgood hsl est
      go_wp2_with fail
      clear ms cI cI2
      have FM := Lib.hid ((Fr.refl No wr).alloc (.map #[] 0))
      have HM0 := Lib.hid (show AtSeen (wr.alloc (.map #[] 0)) wr.heap.size [] from MapIs.made wr)
      have SZ0 := Lib.hid (show (wr.alloc (.map #[] 0)).heap.size = wr.heap.size + 1 by simp)
      have HI3 := Lib.hid ((HI.out.keep0 F13.out).keep0 FM.out)
      have F03 := Lib.hid (FW.out.trans0 FM.out)
      have C13 := Lib.hid ((F13.out.trans0 FM.out).cell C1.out id)
      generalize wr.alloc (.map #[] 0) = w3 at *
      generalize hmbs : wr.heap.size = mb at *
      have NM := Lib.hid (show w.heap.size < mb by have := FO.out.size; have h2 := FR.out.size; have h3 := World.block_lt_of_cell? _ _ C1.out; have := hmbs; simp only at h3; omega)
      have SZ1 := Lib.hid (show mb < w3.heap.size by have := SZ0.out; omega)
      have c1' := C13.out
      go_wp2_with fail
      clear c1'
      go_loopw [48] (fun iv wr => ∃ (n : Nat) (Ms : List (PointD × Int)), iv = .int .i64 n ∧ n ≤ t.ins.length ∧ AtSeen wr mb Ms ∧ (∀ k, (∃ c, (k, c) ∈ Ms) ↔ k ∈ (ptsD t).take n) ∧ Ms.length ≤ n ∧ Fr (fun j => j = mb) w3 wr) (fun iv _ => t.ins.length - (intOf iv).toNat)
      case atStart => exact ⟨0, [], rfl, Nat.zero_le _, HM0.out, by simp, Nat.le_refl _, Fr.refl _ _⟩
      case round =>
        obtain ⟨n, Ms, rfl, hn, hsm, hks, hml, fr⟩ := hrel
        have FQ := Lib.hid fr
        have HSM := Lib.hid hsm
        have HKS := Lib.hid hks
        have HML := Lib.hid hml
        have FB := Lib.hid (show Fr No w wr from F03.out.trans fr (fun i hi e => by have := NM.out; omega))
        clear fr hsm hks hml
        by_cases hlt : n < t.ins.length
        · have i1 : (n : Int) < (t.ins.length : Int) := by omega
          obtain ⟨x, hx⟩ : ∃ x, t.ins[n]? = some x := ⟨_, List.getElem?_eq_getElem hlt⟩
          have HIq := HT.out.keep FB.out
          obtain ⟨ia2, ic2, oa2, oc2, e2, -, hi2, -⟩ := HIq
          simp only [txC, List.cons.injEq, and_true] at e2
          obtain ⟨-, e2, -⟩ := e2
          injection e2 with e21 _ e23
          subst e21; subst e23
          obtain ⟨bb, off, cap, cs, hv, hr, ka, kc, rfl, pok, hkey⟩ := hi2.at_ hx
          cases hv
          have R1 := Lib.hid hr
          have POK := Lib.hid pok
          have IL := Lib.hid (inC_len pok (.slice ka x.key.length kc))
          have PL := Lib.hid (pointC_len pok)
          have hTN : (ptsD t).take (n + 1) = (ptsD t).take n ++ [x.from_] := by rw [List.take_add_one]; simp [ptsD, hx]
          have fA := ((Fr.refl No wr).alloc (.cells (inC x.from_ (.slice ka x.key.length kc)).toArray 50)).drew
          have RB := Lib.hid (range_keep (in_new wr (kv := .slice ka x.key.length kc) pok).1 (Fr.refl No _).drew id)
          have QW := Lib.hid (show mb < wr.heap.size from HSM.out.lt)
          obtain ⟨v0, w7, s, M1, hv0, hent, hT7, hM7, hlk0, hlk1, hst⟩ := (HSM.out.keep fA id).bump eqPoint.keyed undSeenMap (fun _ _ => pointV_inj) (z := 0) zeroSeen (keyOfPoint POK.out) (by unfold maxLen; have := HML.out; omega)
          obtain ⟨w8, M', hsr, hM8, hU, hT8, hl8⟩ := hst (IntKind.i64.wrap (v0 + 1)) w7 No (Fr.refl _ _) id
          have LK0 := Lib.hid (hlk0 _ (HSM.out.keep fA id))
          have LK1 := Lib.hid (hlk1 _ hM7)
          have HENT := Lib.hid hent
          have HSR := Lib.hid hsr
          have RB7 := Lib.hid (range_keep RB.out hT7.fr (fun e => by have := QW.out; omega))
          have HM8 := Lib.hid hM8
          have F8 := Lib.hid (show Fr (fun j => j = mb) w3 w8 from ((FQ.out.trans0 fA).trans hT7.fr (fun i hi e => e)).trans hT8.fr (fun i hi e => e))
          have HK8 := Lib.hid (show ∀ k, (∃ c, (k, c) ∈ M') ↔ k ∈ (ptsD t).take (n + 1) from fun k => by
            rw [hTN, List.mem_append, List.mem_singleton, ← HKS.out k]
            constructor
            · rintro ⟨c, hc⟩
              rcases (hU k c).1 hc with ⟨rfl, _⟩ | ⟨_, h⟩
              · exact .inr rfl
              · exact .inl ⟨c, h⟩
            · rintro (⟨c, hc⟩ | rfl)
              · by_cases e : k = x.from_
                · subst e; exact ⟨_, (hU _ _).2 (.inl ⟨rfl, rfl⟩)⟩
                · exact ⟨c, (hU _ _).2 (.inr ⟨e, hc⟩)⟩
              · exact ⟨_, (hU _ _).2 (.inl ⟨rfl, rfl⟩)⟩)
          have HL8 := Lib.hid (show M'.length ≤ n + 1 by have := HML.out; omega)
          clear hr hx hkey pok hi2 fA hent hT7 hM7 hlk0 hlk1 hst hsr hM8 hU hT8 hl8 hv0
          go_wp2_with (first | (refine wpList_value rfl (exec_load (ty := 50) rfl rfl R1.out uI rI (by rw [IL.out]; exact infoIn)) ?_) | (refine wpList_done rfl (exec_store_new (w := wr) (ty := 50) (cs := inC x.from_ (.slice ka x.key.length kc)) rfl rfl rfl (by rw [IL.out]; rfl) (by rw [IL.out]; exact infoIn) inC_one) ?_))
          refine wp_region_lexM [false, false, false, false, false, true, false, true] (fun w' => w'.rangeAt wr.heap.size 0 (pointC x.from_) ∧ (Instr.lookup 133 (.map (some mb)) (pointV x.from_) false).run Tryd.prog w' = .ok (.int .i64 v0) w') (by kernel_rfl) (by kernel_rfl) 7 (by kernel_rfl) (by kernel_rfl) ?_ (fun K hK => ?_)
          · exact ⟨RB.out, LK0.out⟩
          repeat (first | ((first | with_reducible refine lexM_read ?_ | ((with_reducible refine lexM_readG ?_ ?_); (focus rfl))); apply Exists.intro; refine ⟨?_, ?_⟩; (focus (first | exact lex_load (ty := 47) rfl (fun w h => h.1) uP rP (by rw [PL.out]; exact infoPoint) | exact fun w' h => exec_lookup (t := 133) rfl rfl rfl h.2 | (intro w' hS; obtain ⟨s1, s2⟩ := hS; go_simp; (try with_reducible rfl); done))); try simp only [Act.put, List.setIfInBounds_toArray, List.set_cons_zero, List.set_cons_succ]) | ((first | ((with_reducible refine lexM_skip (c := false) ?_ ?_ ?_); (focus rfl); (focus rfl)) | ((with_reducible refine lexM_skip (c := true) ?_ ?_ ?_); (focus rfl); (focus rfl)) | ((with_reducible refine lexM_skipU ?_ ?_); (focus rfl))); try simp only [Act.put, List.setIfInBounds_toArray, List.set_cons_zero, List.set_cons_succ]))
          (first | with_reducible refine lexM_eff (fun K' hK' => ?_) | ((with_reducible refine lexM_effG ?_ (fun K' hK' => ?_)); (focus rfl)))
          refine wp_value (exec_mapEntry rfl rfl rfl HENT.out) ?_
          refine hK'.out _ _ (fun _ => ?_) (fun hS => ?_)
          · exact ⟨RB7.out, LK1.out⟩
          try simp only [Act.put, List.setIfInBounds_toArray, List.set_cons_zero, List.set_cons_succ]
          repeat (first | ((first | with_reducible refine lexM_read ?_ | ((with_reducible refine lexM_readG ?_ ?_); (focus rfl))); apply Exists.intro; refine ⟨?_, ?_⟩; (focus (first | (intro w' hS; obtain ⟨s1, s2⟩ := hS; go_simp; (try with_reducible rfl); done))); try simp only [Act.put, List.setIfInBounds_toArray, List.set_cons_zero, List.set_cons_succ]) | ((first | ((with_reducible refine lexM_skip (c := false) ?_ ?_ ?_); (focus rfl); (focus rfl)) | ((with_reducible refine lexM_skip (c := true) ?_ ?_ ?_); (focus rfl); (focus rfl)) | ((with_reducible refine lexM_skipU ?_ ?_); (focus rfl))); try simp only [Act.put, List.setIfInBounds_toArray, List.set_cons_zero, List.set_cons_succ]))
          (first | with_reducible refine lexM_eff (fun K' hK' => ?_) | ((with_reducible refine lexM_effG ?_ (fun K' hK' => ?_)); (focus rfl)))
          refine wp_done (exec_entryStore rfl rfl rfl rfl HSR.out) ?_
          refine hK'.out _ _ (fun h => absurd rfl h) (fun hS => ?_)
          refine lexM_nil (hK.out _ _ ?_)
          go_wp2
          go_roundw
          case rel => exact ⟨n + 1, M', by go_num, by omega, HM8.out, HK8.out, HL8.out, F8.out⟩
          case measure => simp [intOf]; omega
        · have hne : n = t.ins.length := by omega
          have i1 : ¬ (n : Int) < (t.ins.length : Int) := by omega
          have hset : ∀ x, x ∈ Ms.map (·.1) ↔ x ∈ ptsD t := by
            intro x
            rw [← show (ptsD t).take n = ptsD t from List.take_of_length_le (by simp [ptsD]; omega), ← HKS.out x]
            simp
          have hlen := len_nodup HSM.out.nodup hset
          rw [List.length_map, show (ptsD t).length = t.ins.length by simp [ptsD]] at hlen
          have LR := Lib.hid (fun ty => HSM.out.lenRun undSeenMap ty)
          have c1z := FQ.out.cell C13.out (fun e => by have := NM.out; have e2 : w.heap.size = mb := e; omega)
          have hml := HML.out
          by_cases hnd : (ptsD t).Nodup
          · have j1 : ¬ (Ms.length : Int) < (t.ins.length : Int) := by have := hlen.2 hnd; omega
            have HPZ := Lib.hid (show ∀ w', Fr No w w' → CheckOk w t (.returned (.int .i64 0)) w' from fun w' f => by have := HP.out w' f; rwa [if_pos hnd] at this)
            clear hlen hset hnd hml
            go_wp2_with (refine wpList_value rfl (exec_len rfl rfl (LR.out _)) ?_)
            go_ret
            exact HPZ.out _ FB.out
          · have j1 : (Ms.length : Int) < (t.ins.length : Int) := by have : Ms.length ≠ t.ins.length := fun e => hnd (hlen.1 e); omega
            have HPZ := Lib.hid (show ∀ w', Fr No w w' → CheckOk w t (.returned (.int .i64 12)) w' from fun w' f => by have := HP.out w' f; rwa [if_neg hnd] at this)
            clear hlen hset hnd hml
            go_wp2_with (refine wpList_value rfl (exec_len rfl rfl (LR.out _)) ?_)
            go_ret
            exact HPZ.out _ FB.out
end Go.Proofs.YtmpamcnlineceaaDoor
