/- tx: Check. -/
import Derived.Test.YtdkkjchclkjleaaGreatDoorSG13
set_option linter.unusedVariables false
set_option linter.unusedSimpArgs false
set_option linter.unnecessarySimpa false
set_option linter.all false
namespace Go.Proofs.YtdkkjchclkjleaaGreatDoor
open Go Go.RowKit Go.Maps Go.MapKept
def x9 (l : List yF) : Int := (l.map (·.value)).sum
theorem zaV {l : List yF} {n : Nat} {x : yF} (h : l[n]? = some x) : x9 (l.take (n + 1)) = x9 (l.take n) + x.value := by
 unfold x9
 rw [List.take_add_one, h]
 simp
theorem zd0 : ∀ {l : List yF}, (∀ x ∈ l, 0 ≤ x.value ∧ JV x = false) → 0 ≤ x9 l ∧ x9 l ≤ 1125899906842624 * (l.length : Int)
 | [], _ => by simp [x9]
 | x :: l, h => by
  have h1 := zd0 (l := l) (fun y hy => h y (.tail _ hy))
  have h2 := h x (.head _)
  have h3 : x.value ≤ 1125899906842624 := by
   have := h2.2
   unfold JV at this
   rw [Bool.or_eq_false_iff] at this
   have := this.2
   simp at this
   omega
  have e : x9 (x :: l) = x.value + x9 l := by simp [x9]
  rw [e]
  simp only [List.length_cons]
  omega
def yt (t : TxD) : Int :=
 if qP t = true then
  (if t.ins.length = 0 ∨ t.outs.length = 0 then 9
   else if t.outs.any JV = true then 11
   else if 1125899906842624 < x9 t.outs then 11
   else if (zS t).Nodup then 0 else 12)
 else 5
def vk (w : World) (t : TxD) (e : Ending) (w' : World) : Prop := e = .returned (.int .i64 (yt t)) ∧ Fr No w w'
set_option maxRecDepth 20000 in
set_option maxHeartbeats 4000000 in
theorem XK (w : World) {t : TxD} {cs : List Value} (ht : TxQ w t cs) :
  Calls Tryz.prog 32 #[.agg cs.toArray] w (vk w t) := by
 have HT := Hd ht
 obtain ⟨ia, ic, oa, oc, rfl, hv, hi, ho⟩ := ht
 obtain ⟨dI, uI, rI⟩ := YV
 obtain ⟨dO, uO, rO⟩ := vA
 obtain ⟨dT, uT, rT⟩ := vw
 obtain ⟨dP, uP, rP⟩ := xr
 have zI := Zj
 have zO := qT
 have F1 := Hd ((Fr.refl No w).alloc (.cells #[.int .u32 t.ver, .slice ia t.ins.length ic, .slice oa t.outs.length oc] 34))
 obtain ⟨-, c1, c2, r0⟩ := qZ w t.ver (.slice ia t.ins.length ic) (.slice oa t.outs.length oc)
 have C1 := Hd c1
 have C2 := Hd c2
 have R0 := Hd r0
 have HI := Hd (hi.keep0 F1.out)
 have HO := Hd (ho.keep F1.out)
 have HF := Hd (zal (w.alloc (.cells #[.int .u32 t.ver, .slice ia t.ins.length ic, .slice oa t.outs.length oc] 34)) (HT.out.keep F1.out))
 clear hi ho hv c1 c2 r0
 show Calls Tryz.prog 32 #[.agg #[.int .u32 t.ver, .slice ia t.ins.length ic, .slice oa t.outs.length oc]] w _
 by_cases hfm : qP t = true
 rotate_left
 ·have hfm2 : qP t = false := by simpa using hfm
  have HP := Hd (show ∀ w', Fr No w w' → vk w t (.returned (.int .i64 5)) w' from fun w' f => ⟨by simp [yt, hfm2], f⟩)
  rw [hfm2] at HF
  clear hfm hfm2
  go_enter Tryz.func32, Tryz.ntmps32
  go_wp2_with (first | (refine zd rfl (zf (ty := 34) rfl rfl R0.out uT rT zR) ?_; generalize w.alloc (.cells #[.int .u32 t.ver, .slice ia t.ins.length ic, .slice oa t.outs.length oc] 34) = w1 at *) | (go_at_call 66; refine HF.out.mono ?_; rintro e w2 ⟨rfl, f2⟩; have F12 := Hd f2; have F2 := Hd (F1.out.trans0 f2); clear f2; have d1 := F12.out.cell C1.out id; have d2 := F12.out.cell C2.out id))
  go_ret
  exact HP.out _ F2.out
 obtain ⟨hk, hil, hol⟩ := yX.1 hfm
 rw [hfm] at HF
 by_cases h0 : t.ins.length = 0
 ·have HP := Hd (show ∀ w', Fr No w w' → vk w t (.returned (.int .i64 9)) w' from fun w' f => ⟨by simp [yt, hfm, h0], f⟩)
  have jz : ((t.ins.length : Int) == 0) = true := by simp [h0]
  clear hk hil hol hfm h0
  go_enter Tryz.func32, Tryz.ntmps32
  go_wp2_with (first | (refine zd rfl (zf (ty := 34) rfl rfl R0.out uT rT zR) ?_; generalize w.alloc (.cells #[.int .u32 t.ver, .slice ia t.ins.length ic, .slice oa t.outs.length oc] 34) = w1 at *) | (go_at_call 66; refine HF.out.mono ?_; rintro e w2 ⟨rfl, f2⟩; have F12 := Hd f2; have F2 := Hd (F1.out.trans0 f2); clear f2; have d1 := F12.out.cell C1.out id; have d2 := F12.out.cell C2.out id))
  go_ret
  exact HP.out _ F2.out
 have jz : ((t.ins.length : Int) == 0) = false := by rw [beq_eq_false_iff_ne]; omega
 by_cases h1 : t.outs.length = 0
 ·have HP := Hd (show ∀ w', Fr No w w' → vk w t (.returned (.int .i64 9)) w' from fun w' f => ⟨by simp [yt, hfm, h1], f⟩)
  have jy : ((t.outs.length : Int) == 0) = true := by simp [h1]
  clear hk hil hol hfm h0 h1
  go_enter Tryz.func32, Tryz.ntmps32
  go_wp2_with (first | (refine zd rfl (zf (ty := 34) rfl rfl R0.out uT rT zR) ?_; generalize w.alloc (.cells #[.int .u32 t.ver, .slice ia t.ins.length ic, .slice oa t.outs.length oc] 34) = w1 at *) | (go_at_call 66; refine HF.out.mono ?_; rintro e w2 ⟨rfl, f2⟩; have F12 := Hd f2; have F2 := Hd (F1.out.trans0 f2); clear f2; have d1 := F12.out.cell C1.out id; have d2 := F12.out.cell C2.out id))
  go_ret
  exact HP.out _ F2.out
 have jy : ((t.outs.length : Int) == 0) = false := by rw [beq_eq_false_iff_ne]; omega
 have HP11 := Hd (show (∃ x ∈ t.outs, JV x = true) → ∀ w', Fr No w w' → vk w t (.returned (.int .i64 11)) w' from fun h w' f => ⟨by
  have : t.outs.any JV = true := List.any_eq_true.2 h
  unfold yt
  rw [if_pos hfm, if_neg (by omega), if_pos this], f⟩)
 have HPS := Hd (show t.outs.any JV = false → 1125899906842624 < x9 t.outs → ∀ w', Fr No w w' → vk w t (.returned (.int .i64 11)) w' from fun h h' w' f => ⟨by
  unfold yt
  rw [if_pos hfm, if_neg (by omega), if_neg (by rw [h]; simp), if_pos h'], f⟩)
 have HPE := Hd (show t.outs.any JV = false → ¬ 1125899906842624 < x9 t.outs → ∀ w', Fr No w w' → vk w t (.returned (.int .i64 (if (zS t).Nodup then 0 else 12))) w' from fun h h' w' f => ⟨by
  have e : yt t = if (zS t).Nodup then 0 else 12 := by
   unfold yt
   rw [if_pos hfm, if_neg (by omega), if_neg (by rw [h]; simp), if_neg h']
  rw [e], f⟩)
 clear hk hfm h0 h1
 go_enter Tryz.func32, Tryz.ntmps32
 go_wp2_with (first | (refine zd rfl (zf (ty := 34) rfl rfl R0.out uT rT zR) ?_; generalize w.alloc (.cells #[.int .u32 t.ver, .slice ia t.ins.length ic, .slice oa t.outs.length oc] 34) = w1 at *) | (go_at_call 66; refine HF.out.mono ?_; rintro e w2 ⟨rfl, f2⟩; have F12 := Hd f2; have F2 := Hd (F1.out.trans0 f2); clear f2; have d1 := F12.out.cell C1.out id; have d2 := F12.out.cell C2.out id))
 have FO := Hd F12.out
 clear d1 d2 jz jy
 go_loopw [3, 25] (fun sv iv wr => ∃ n : Nat, iv = .int .i64 n ∧ n ≤ t.outs.length ∧ sv = .int .u64 (x9 (t.outs.take n)) ∧ (∀ x ∈ t.outs.take n, JV x = false) ∧ Fr No w2 wr) (fun _ iv _ => t.outs.length - (intOf iv).toNat)
 case atStart => exact ⟨0, rfl, Nat.zero_le _, rfl, by simp, Fr.refl _ _⟩
 case round =>
  obtain ⟨n, rfl, hn, rfl, hall, fr⟩ := hrel
  have FR := Hd fr
  have AL := Hd hall
  have HOr := Hd ((HO.out.keep F12.out).keep fr)
  have hsl := zd0 (l := t.outs.take n) (fun x hx => ⟨(HO.out.1 x (List.mem_of_mem_take hx)).1.1, hall x hx⟩)
  rw [List.length_take] at hsl
  clear fr hall
  by_cases hlt : n < t.outs.length
  ·have i1 : (n : Int) < (t.outs.length : Int) := by omega
   obtain ⟨x, hx⟩ : ∃ x, t.outs[n]? = some x := ⟨_, List.getElem?_eq_getElem hlt⟩
   obtain ⟨bb, off, cap, hv, hr, -⟩ := HOr.out.at_ hx
   cases hv
   have pok := HO.out.1 x (List.mem_of_getElem? hx)
   have R1 := Hd hr
   have IL := Hd (yD pok)
   have FA := Hd (FR.out.trans0 ((Fr.refl No wr).alloc (.cells (zG x).toArray 103)))
   have n1 := (Q7 wr pok).1
   have SN := Hd (zaV hx)
   have HX := Hd hx
   have vv := pok.1
   clear hr pok hx
   by_cases hbx : JV x = true
   ·have HP := Hd (HP11.out ⟨x, List.mem_of_getElem? HX.out, hbx⟩)
    have hor : x.value = 0 ∨ (x.value ≠ 0 ∧ 1125899906842624 < x.value) := by
     simp only [JV, Bool.or_eq_true, decide_eq_true_eq] at hbx
     by_cases h : x.value = 0
     ·exact .inl h
     ·exact .inr ⟨h, hbx.resolve_left h⟩
    clear hbx hsl
    rcases hor with hz | ⟨hz, hz2⟩
    ·have hv0 : (x.value == 0) = true := by simpa using hz
     clear hz
     have K0 := tru
     have K1 := tru
     go_wp2_with (first | ((with_reducible refine zn ?_); have mk := K0.out; refine zd rfl (zf (ty := 103) rfl rfl R1.out uO rO (by rw [IL.out]; exact zY)) ?_; go_frame) | ((with_reducible refine zA ?_); have mk := K1.out; refine zq rfl (zm (w := wr) (ty := 103) (cs := zG x) rfl rfl rfl (by rw [IL.out]; rfl) (by rw [IL.out]; exact zY) ye) ?_; generalize wr.alloc (.cells (zG x).toArray 103) = wA at *; go_frame))
     go_ret
     exact HP.out _ (F2.out.trans0 FA.out)
    ·have hv0 : (x.value == 0) = false := by simpa using hz
     have hv1 : decide (1125899906842624 < x.value) = true := by simpa using hz2
     clear hz hz2
     have K0 := tru
     have K1 := tru
     go_wp2_with (first | ((with_reducible refine zn ?_); have mk := K0.out; refine zd rfl (zf (ty := 103) rfl rfl R1.out uO rO (by rw [IL.out]; exact zY)) ?_; go_frame) | ((with_reducible refine zA ?_); have mk := K1.out; refine zq rfl (zm (w := wr) (ty := 103) (cs := zG x) rfl rfl rfl (by rw [IL.out]; rfl) (by rw [IL.out]; exact zY) ye) ?_; generalize wr.alloc (.cells (zG x).toArray 103) = wA at *; go_frame))
     go_ret
     exact HP.out _ (F2.out.trans0 FA.out)
   ·have hbx2 : JV x = false := by simpa using hbx
    have hv0 : (x.value == 0) = false := by
     unfold JV at hbx2
     rw [Bool.or_eq_false_iff] at hbx2
     simpa using hbx2.1
    have hv1 : decide (1125899906842624 < x.value) = false := by
     unfold JV at hbx2
     rw [Bool.or_eq_false_iff] at hbx2
     exact hbx2.2
    have hv2 : x.value ≤ 1125899906842624 := by simp at hv1; omega
    have es : (x9 (t.outs.take n) + x.value) % 18446744073709551616 = x9 (t.outs.take n) + x.value := by omega
    have AN := Hd (show ∀ y ∈ t.outs.take (n + 1), JV y = false from fun y hy => by
     rw [List.take_add_one, HX.out] at hy
     rcases List.mem_append.1 hy with hy | hy
     ·exact AL.out y hy
     ·simp at hy; subst hy; exact hbx2)
    clear hbx hbx2 hsl hv2
    have K0 := tru
    have K1 := tru
    go_wp2_with (first | ((with_reducible refine zn ?_); have mk := K0.out; refine zd rfl (zf (ty := 103) rfl rfl R1.out uO rO (by rw [IL.out]; exact zY)) ?_; go_frame) | ((with_reducible refine zA ?_); have mk := K1.out; refine zq rfl (zm (w := wr) (ty := 103) (cs := zG x) rfl rfl rfl (by rw [IL.out]; rfl) (by rw [IL.out]; exact zY) ye) ?_; generalize wr.alloc (.cells (zG x).toArray 103) = wA at *; go_frame))
    go_roundw
    case rel => exact ⟨n + 1, by go_num, by omega, by rw [SN.out], AN.out, FA.out⟩
    case measure => simp [intOf]; omega
  ·have hne : n = t.outs.length := by omega
   have i1 : ¬ (n : Int) < (t.outs.length : Int) := by omega
   rw [hne, List.take_length] at AL
   have hgood : t.outs.any JV = false := List.any_eq_false.2 (fun x hx => by rw [AL.out x hx]; decide)
   have est : t.outs.take n = t.outs := by rw [hne, List.take_length]
   rw [est]
   have FW := Hd (F2.out.trans0 FR.out)
   have F13 := Hd (F12.out.trans0 FR.out)
   by_cases hs : 1125899906842624 < x9 t.outs
   ·have HP := Hd (HPS.out hgood hs)
    have js : decide (1125899906842624 < x9 t.outs) = true := by simpa using hs
    clear hs hgood hsl est
    go_wp2
    go_ret
    exact HP.out _ FW.out
   have js : decide (1125899906842624 < x9 t.outs) = false := by simpa using hs
   have HP := Hd (HPE.out hgood (by omega))
   have cI := F13.out.cell C1.out id
   have ms := zbL wr
   have cI2 : (wr.alloc (.map #[] 0)).cell? ⟨w.heap.size, 1, none⟩ = some (.slice ia t.ins.length ic) := ((Fr.refl No wr).alloc (.map #[] 0)).cell cI id
   clear hs hgood hsl est
   go_wp2_with fail
   clear ms cI cI2
   have FM := Hd ((Fr.refl No wr).alloc (.map #[] 0))
   have HM0 := Hd (show zf4 (wr.alloc (.map #[] 0)) wr.heap.size [] from yl.made wr)
   have SZ0 := Hd (show (wr.alloc (.map #[] 0)).heap.size = wr.heap.size + 1 by simp)
   have HI3 := Hd ((HI.out.keep0 F13.out).keep0 FM.out)
   have F03 := Hd (FW.out.trans0 FM.out)
   have C13 := Hd ((F13.out.trans0 FM.out).cell C1.out id)
   generalize wr.alloc (.map #[] 0) = w3 at *
   generalize hmbs : wr.heap.size = mb at *
   have NM := Hd (show w.heap.size < mb by have := FO.out.size; have h2 := FR.out.size; have h3 := World.block_lt_of_cell? _ _ C1.out; have := hmbs; simp only at h3; omega)
   have SZ1 := Hd (show mb < w3.heap.size by have := SZ0.out; omega)
   have c1' := C13.out
   go_wp2_with fail
   clear c1'
   go_loopw [48] (fun iv wr => ∃ (n : Nat) (Ms : List (zF × Int)), iv = .int .i64 n ∧ n ≤ t.ins.length ∧ zf4 wr mb Ms ∧ (∀ k, (∃ c, (k, c) ∈ Ms) ↔ k ∈ (zS t).take n) ∧ Ms.length ≤ n ∧ Fr (fun j => j = mb) w3 wr) (fun iv _ => t.ins.length - (intOf iv).toNat)
   case atStart => exact ⟨0, [], rfl, Nat.zero_le _, HM0.out, by simp, Nat.le_refl _, Fr.refl _ _⟩
   case round =>
    obtain ⟨n, Ms, rfl, hn, hsm, hks, hml, fr⟩ := hrel
    have FQ := Hd fr
    have HSM := Hd hsm
    have HKS := Hd hks
    have HML := Hd hml
    have FB := Hd (show Fr No w wr from F03.out.trans fr (fun i hi e => by have := NM.out; omega))
    clear fr hsm hks hml
    by_cases hlt : n < t.ins.length
    ·have i1 : (n : Int) < (t.ins.length : Int) := by omega
     obtain ⟨x, hx⟩ : ∃ x, t.ins[n]? = some x := ⟨_, List.getElem?_eq_getElem hlt⟩
     have HIq := HT.out.keep FB.out
     obtain ⟨ia2, ic2, oa2, oc2, e2, -, hi2, -⟩ := HIq
     simp only [txC, List.cons.injEq, and_true] at e2
     obtain ⟨-, e2, -⟩ := e2
     injection e2 with e21 _ e23
     subst e21; subst e23
     obtain ⟨bb, off, cap, cs, hv, hr, ka, kc, rfl, pok, hkey⟩ := hi2.at_ hx
     cases hv
     have R1 := Hd hr
     have POK := Hd pok
     have IL := Hd (vi pok (.slice ka x.key.length kc))
     have PL := Hd (yb pok)
     have hTN : (zS t).take (n + 1) = (zS t).take n ++ [x.from_] := by rw [List.take_add_one]; simp [zS, hx]
     have fA := ((Fr.refl No wr).alloc (.cells (inC x.from_ (.slice ka x.key.length kc)).toArray 108)).drew
     have RB := Hd (zb (Y4 wr (kv := .slice ka x.key.length kc) pok).1 (Fr.refl No _).drew id)
     have QW := Hd (show mb < wr.heap.size from HSM.out.lt)
     obtain ⟨v0, w7, s, M1, hv0, hent, hT7, hM7, hlk0, hlk1, hst⟩ := (HSM.out.keep fA id).bump JK.keyed Ve (fun _ _ => vO) (z := 0) V1 (qI POK.out) (by unfold maxLen; have := HML.out; omega)
     obtain ⟨w8, M', hsr, hM8, hU, hT8, hl8⟩ := hst (IntKind.i64.wrap (v0 + 1)) w7 No (Fr.refl _ _) id
     have LK0 := Hd (hlk0 _ (HSM.out.keep fA id))
     have LK1 := Hd (hlk1 _ hM7)
     have HENT := Hd hent
     have HSR := Hd hsr
     have RB7 := Hd (zb RB.out hT7.fr (fun e => by have := QW.out; omega))
     have HM8 := Hd hM8
     have F8 := Hd (show Fr (fun j => j = mb) w3 w8 from ((FQ.out.trans0 fA).trans hT7.fr (fun i hi e => e)).trans hT8.fr (fun i hi e => e))
     have HK8 := Hd (show ∀ k, (∃ c, (k, c) ∈ M') ↔ k ∈ (zS t).take (n + 1) from fun k => by
      rw [hTN, List.mem_append, List.mem_singleton, ← HKS.out k]
      constructor
      ·rintro ⟨c, hc⟩
       rcases (hU k c).1 hc with ⟨rfl, _⟩ | ⟨_, h⟩
       ·exact .inr rfl
       ·exact .inl ⟨c, h⟩
      ·rintro (⟨c, hc⟩ | rfl)
       ·by_cases e : k = x.from_
        ·subst e; exact ⟨_, (hU _ _).2 (.inl ⟨rfl, rfl⟩)⟩
        ·exact ⟨c, (hU _ _).2 (.inr ⟨e, hc⟩)⟩
       ·exact ⟨_, (hU _ _).2 (.inl ⟨rfl, rfl⟩)⟩)
     have HL8 := Hd (show M'.length ≤ n + 1 by have := HML.out; omega)
     clear hr hx hkey pok hi2 fA hent hT7 hM7 hlk0 hlk1 hst hsr hM8 hU hT8 hl8 hv0
     go_wp2_with (first | (refine zd rfl (zf (ty := 108) rfl rfl R1.out uI rI (by rw [IL.out]; exact q9)) ?_) | (refine zq rfl (zm (w := wr) (ty := 108) (cs := inC x.from_ (.slice ka x.key.length kc)) rfl rfl rfl (by rw [IL.out]; rfl) (by rw [IL.out]; exact q9) jF) ?_))
     refine yJ [false, false, false, false, false, true, false, true] (fun w' => w'.rangeAt wr.heap.size 0 (zB x.from_) ∧ (Instr.lookup 159 (.map (some mb)) (jW x.from_) false).run Tryz.prog w' = .ok (.int .i64 v0) w') (by kernel_rfl) (by kernel_rfl) 7 (by kernel_rfl) (by kernel_rfl) ?_ (fun K hK => ?_)
     ·exact ⟨RB.out, LK0.out⟩
     repeat (first | ((first | with_reducible refine yG ?_ | ((with_reducible refine yp ?_ ?_); (focus rfl))); apply Exists.intro; refine ⟨?_, ?_⟩; (focus (first | exact zD (ty := 95) rfl (fun w h => h.1) uP rP (by rw [PL.out]; exact zL) | exact fun w' h => zN (t := 159) rfl rfl rfl h.2 | (intro w' hS; obtain ⟨s1, s2⟩ := hS; go_simp; (try with_reducible rfl); done))); try simp only [Act.put, pA, pB, pC]) | ((first | ((with_reducible refine zX (c := false) ?_ ?_ ?_); (focus rfl); (focus rfl)) | ((with_reducible refine zX (c := true) ?_ ?_ ?_); (focus rfl); (focus rfl)) | ((with_reducible refine yq ?_ ?_); (focus rfl))); try simp only [Act.put, pA, pB, pC]))
     (first | with_reducible refine yK (fun K' hK' => ?_) | ((with_reducible refine yx ?_ (fun K' hK' => ?_)); (focus rfl)))
     refine yB (zaz rfl rfl rfl HENT.out) ?_
     refine hK'.out _ _ (fun _ => ?_) (fun hS => ?_)
     ·exact ⟨RB7.out, LK1.out⟩
     try simp only [Act.put, pA, pB, pC]
     repeat (first | ((first | with_reducible refine yG ?_ | ((with_reducible refine yp ?_ ?_); (focus rfl))); apply Exists.intro; refine ⟨?_, ?_⟩; (focus (first | (intro w' hS; obtain ⟨s1, s2⟩ := hS; go_simp; (try with_reducible rfl); done))); try simp only [Act.put, pA, pB, pC]) | ((first | ((with_reducible refine zX (c := false) ?_ ?_ ?_); (focus rfl); (focus rfl)) | ((with_reducible refine zX (c := true) ?_ ?_ ?_); (focus rfl); (focus rfl)) | ((with_reducible refine yq ?_ ?_); (focus rfl))); try simp only [Act.put, pA, pB, pC]))
     (first | with_reducible refine yK (fun K' hK' => ?_) | ((with_reducible refine yx ?_ (fun K' hK' => ?_)); (focus rfl)))
     refine xb (QG rfl rfl rfl rfl HSR.out) ?_
     refine hK'.out _ _ (fun h => absurd rfl h) (fun hS => ?_)
     refine qy (hK.out _ _ ?_)
     go_wp2
     go_roundw
     case rel => exact ⟨n + 1, M', by go_num, by omega, HM8.out, HK8.out, HL8.out, F8.out⟩
     case measure => simp [intOf]; omega
    ·have hne : n = t.ins.length := by omega
     have i1 : ¬ (n : Int) < (t.ins.length : Int) := by omega
     have hset : ∀ x, x ∈ Ms.map (·.1) ↔ x ∈ zS t := by
      intro x
      rw [← show (zS t).take n = zS t from List.take_of_length_le (by simp [zS]; omega), ← HKS.out x]
      simp
     have hlen := zaM HSM.out.nodup hset
     rw [List.length_map, show (zS t).length = t.ins.length by simp [zS]] at hlen
     have LR := Hd (fun ty => HSM.out.lenRun Ve ty)
     have c1z := FQ.out.cell C13.out (fun e => by have := NM.out; have e2 : w.heap.size = mb := e; omega)
     have hml := HML.out
     by_cases hnd : (zS t).Nodup
     ·have j1 : ¬ (Ms.length : Int) < (t.ins.length : Int) := by have := hlen.2 hnd; omega
      have HPZ := Hd (show ∀ w', Fr No w w' → vk w t (.returned (.int .i64 0)) w' from fun w' f => by have := HP.out w' f; rwa [if_pos hnd] at this)
      clear hlen hset hnd hml
      go_wp2_with (refine zd rfl (jq rfl rfl (LR.out _)) ?_)
      go_ret
      exact HPZ.out _ FB.out
     ·have j1 : (Ms.length : Int) < (t.ins.length : Int) := by have : Ms.length ≠ t.ins.length := fun e => hnd (hlen.1 e); omega
      have HPZ := Hd (show ∀ w', Fr No w w' → vk w t (.returned (.int .i64 12)) w' from fun w' f => by have := HP.out w' f; rwa [if_neg hnd] at this)
      clear hlen hset hnd hml
      go_wp2_with (refine zd rfl (jq rfl rfl (LR.out _)) ?_)
      go_ret
      exact HPZ.out _ FB.out
end Go.Proofs.YtdkkjchclkjleaaGreatDoor
