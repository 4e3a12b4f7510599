/- pappusref16: the document's clock: All, Drop. -/
import Derived.Test.YthmaekkjpginoaaDoorEmbW2
import Derived.Test.YthmaekkjpginoaaDoorBuild
namespace Go.Proofs.YthmaekkjpginoaaDoor
open Go Go.RowKit Go.Maps Go.MapKept Go.Sort

section
variable {w0 w : World} {p : Nat} {U : Nat → Prop} {T : List KT}
set_option maxRecDepth 20000 in
set_option maxHeartbeats 4000000 in
theorem rall_T (h : RT w0 w p U T) (hN : T.length ≤ 1000) :
    Calls Tryd.prog 28 #[.pointer (some ⟨p, 0, none⟩)] w fun e w' => ∃ v, e = .returned v ∧ w'.ownsRow w.heap.size 39 33 v T.length ((T.map (·.1)).flatMap keyC) ∧ Fr No w w' := by
  obtain ⟨rv, hb, hs, rfl, hne⟩ := h.ex
  obtain ⟨dH, uH, rH⟩ := descRHeld
  obtain ⟨dR, uR, rR⟩ := descRKey
  obtain ⟨ra, rc, rfl⟩ := hs.arg.form
  have OKT := Lib.hid h.ok
  have HS := Lib.hid hs
  have c0 : w.cell? ⟨p, 0, none⟩ = some (.slice ra T.length rc) := by simp [World.cell?, hb]
  clear h hb hs hne
  go_enter Tryd.func28, Tryd.ntmps28
  go_wp2_with fail
  go_loopw [3, 11] (fun l iv wr => ∃ n : Nat, iv = .int .i64 n ∧ n ≤ T.length ∧ wr.ownsRow w.heap.size 39 33 l (T.take n).length (((T.take n).map (·.1)).flatMap keyC) ∧ Fr No w wr) (fun _ iv _ => T.length - (intOf iv).toNat)
  case atStart => exact ⟨0, rfl, Nat.zero_le _, World.ownsRow_nil _ _ _ _, Fr.refl _ _⟩
  case round =>
    obtain ⟨n, rfl, hn, ho, fr⟩ := hrel
    have FR := Lib.hid fr
    have FE := Lib.hid (fun (e : n = T.length) => (by rw [e, List.take_length] : T.take n = T))
    have FS := Lib.hid (fun (x : KT) (hx : T[n]? = some x) => (by rw [List.take_add_one, hx]; rfl : T.take (n + 1) = T.take n ++ [x]))
    have FLn : (T.take n).length ≤ 1000 := by rw [List.length_take]; omega
    clear fr
    generalize T.take n = W at *
    have HO := Lib.hid ho
    obtain ⟨la, lc, rfl⟩ := ho.slice.arg.form
    clear ho
    by_cases h : n < T.length
    · have i1 : (n : Int) < (T.length : Int) := by omega
      obtain ⟨x, hx⟩ : ∃ x, T[n]? = some x := ⟨_, List.getElem?_eq_getElem h⟩
      obtain ⟨b, off, cap, hv, hr, -⟩ := (HS.out.keep FR.out (fun _ _ => id)).elem (by decide) (fun y hy => rkC_len (OKT.out y hy)) hx
      cases hv
      have HSX := Lib.hid (FS.out x hx)
      have XOK := Lib.hid (OKT.out x (List.mem_of_getElem? hx))
      have XL := Lib.hid (rkC_len XOK.out)
      have XK := Lib.hid (keyC_len XOK.out)
      have R1 := Lib.hid hr
      have RN := Lib.hid (rk_key (range_new wr (rkC x) 64))
      have FE2 := Lib.hid (FR.out.alloc (.cells (rkC x).toArray 64))
      obtain ⟨v5, w5, hap1, ho5, f5, -, -⟩ := append_blk (P := Tryd.prog) (wr.alloc (.cells (rkC x).toArray 64)) w.heap.size 59 59 39 33 40 _ undRKeys infoRKeyZ rfl (by decide) (HO.out.alloc (.cells (rkC x).toArray 64)) (keyC x.1) XK.out keyC_one (by omega) (by unfold maxLen; omega) FE2.out.size
      have F5 := Lib.hid (show Fr No w w5 from FE2.out.trans f5 (fun i hi e => by have := (HO.out.lt i e).1; omega))
      have HO5 := Lib.hid (show w5.ownsRow w.heap.size 39 33 v5 (W ++ [x]).length (((W ++ [x]).map (·.1)).flatMap keyC) by simpa using ho5)
      obtain ⟨a5, c5, rfl⟩ := ho5.slice.arg.form
      have HAP1 := Lib.hid hap1
      clear hap1 ho5 f5 hr hx FS FE
      go_wp2_with (first | (refine wpList_value rfl (exec_load (ty := 64) rfl rfl R1.out uH rH (by rw [XL.out]; exact infoRHeld)) ?_) | (refine wpList_done rfl (exec_store_new (w := wr) (ty := 64) rfl rfl rfl (by rw [XL.out]; rfl) (by rw [XL.out]; exact infoRHeld) rkC_one) ?_) | (refine wpList_value rfl (exec_load (ty := 39) rfl rfl RN.out uR rR (by rw [XK.out]; exact infoRKey)) ?_) | (refine wpList_value rfl (exec_buildSliceA (t := 59) rfl rfl undRKeys infoRKeyZ2 rfl (by decide) (by decide) XK.out) ?_) | (at_builtin; refine wpList_append_run rfl rfl rfl rfl HAP1.out ?_))
      go_roundw
      case rel => exact ⟨n + 1, by simp, by omega, by rw [HSX.out]; exact HO5.out, F5.out⟩
      case measure => show T.length - (n + 1) < T.length - n; omega
    · have i1 : ¬ (n : Int) < (T.length : Int) := by omega
      obtain rfl := FE.out (by omega)
      clear FE FS
      go_wp2
      go_ret
      exact ⟨_, rfl, HO.out, FR.out⟩

omit w0 w p U T in
theorem delT_ok {T : List KT} {k : KeyD} (ok : ∀ x ∈ T, x.1.ok) : ∀ x ∈ delT T k, x.1.ok := fun x hx => ok x (List.mem_filter.1 hx).1
set_option maxRecDepth 20000 in
set_option maxHeartbeats 4000000 in
theorem rdrop_T (h : RT w0 w p U T) (hN : T.length ≤ 1000) (k : KeyD) (hk : k.ok) :
    Calls Tryd.prog 23 #[.pointer (some ⟨p, 0, none⟩), .agg (keyC k).toArray] w fun e w' => ∃ U', e = .returned (.int .i64 (dropE T k)) ∧ RT w0 w' p U' (delT T k) ∧ (∀ j, U' j → U j ∨ w.heap.size ≤ j) ∧ Fr U w w' := by
  obtain ⟨dH, uH, rH⟩ := descRHeld
  obtain ⟨dR, uR, rR⟩ := descRKey
  have OKT := Lib.hid h.ok
  have HK := Lib.hid hk
  have HKL := Lib.hid (keyC_len hk)
  have RB := Lib.hid (range_new w (keyC k) 39)
  have F0 := Lib.hid ((Fr.refl No w).alloc (.cells (keyC k).toArray 39))
  have HRT := Lib.hid h
  have HT1 := Lib.hid (h.fr0 F0.out)
  have PL := Lib.hid (h.hi p (by obtain ⟨rv, -, -, rfl, -⟩ := h.ex; exact .inl rfl))
  clear h hk
  cases hh : hasT T k with
  | false =>
    have ES := Lib.hid (show dropE T k = 9 by simp [dropE, hh])
    have SS := Lib.hid (delT_none hh)
    have HH := Lib.hid hh
    clear hh
    go_enter Tryd.func23, Tryd.ntmps23
    go_wp2_with (first | (refine wpList_value rfl (exec_load (ty := 39) rfl rfl RB.out uR rR (by rw [HKL.out]; exact infoRKey)) ?_) | (go_at_call 26; refine (rtill_T HT1.out hN k HK.out).mono ?_; rintro e w2 ⟨rfl, f2⟩; rw [HH.out]))
    go_ret
    exact ⟨U, by rw [ES.out]; rfl, by rw [SS.out]; exact HT1.out.fr0 f2, fun _ h => .inl h, (F0.out.trans0 f2).of0⟩
  | true =>
    have ES := Lib.hid (show dropE T k = 0 by simp [dropE, hh])
    have HH := Lib.hid hh
    clear hh
    go_enter Tryd.func23, Tryd.ntmps23
    go_wp2_with (first | (refine wpList_value rfl (exec_load (ty := 39) rfl rfl RB.out uR rR (by rw [HKL.out]; exact infoRKey)) ?_) | (go_at_call 26; refine (rtill_T HT1.out hN k HK.out).mono ?_; rintro e w2 ⟨rfl, f2⟩; rw [HH.out]; have F2 := Lib.hid (F0.out.trans0 f2); have RB2 := Lib.hid (range_keep RB.out f2 id); have HT2 := Lib.hid (HT1.out.fr0 f2); clear f2; obtain ⟨rv, hb, hs, hU, hne⟩ := HT2.out.ex; obtain ⟨ra, rc, rfl⟩ := hs.arg.form; have HS := Lib.hid hs; have HB := Lib.hid hb; have c0 : w2.cell? ⟨p, 0, none⟩ = some (.slice ra T.length rc) := (by simp [World.cell?, hb]); clear hb hs hne hU))
    go_loopw [7, 23] (fun l iv wr => ∃ n : Nat, iv = .int .i64 n ∧ n ≤ T.length ∧ wr.ownsRow w2.heap.size 64 34 l (delT (T.take n) k).length ((delT (T.take n) k).flatMap rkC) ∧ Fr No w2 wr) (fun _ iv _ => T.length - (intOf iv).toNat)
    case atStart => exact ⟨0, rfl, Nat.zero_le _, World.ownsRow_nil _ _ _ _, Fr.refl _ _⟩
    case round =>
      obtain ⟨n, rfl, hn, ho, fr⟩ := hrel
      have FR := Lib.hid fr
      have FE := Lib.hid (fun (e : n = T.length) => (by rw [e, List.take_length] : delT (T.take n) k = delT T k))
      have FS := Lib.hid (fun (x : KT) (hx : T[n]? = some x) => (by rw [List.take_add_one, hx]; unfold delT; rw [List.filter_append]; rfl : delT (T.take (n + 1)) k = delT (T.take n) k ++ delT [x] k))
      have FLn : (delT (T.take n) k).length ≤ 1000 := by have h1 := List.length_filter_le (fun x : KT => !decide (x.1 = k)) (T.take n); rw [List.length_take] at h1; unfold delT; omega
      clear fr
      generalize delT (T.take n) k = W at *
      have HO := Lib.hid ho
      obtain ⟨la, lc, rfl⟩ := ho.slice.arg.form
      clear ho
      by_cases h : n < T.length
      · have i1 : (n : Int) < (T.length : Int) := by omega
        obtain ⟨x, hx⟩ : ∃ x, T[n]? = some x := ⟨_, List.getElem?_eq_getElem h⟩
        obtain ⟨b, off, cap, hv, hr, -⟩ := (HS.out.keep FR.out (fun _ _ => id)).elem (by decide) (fun y hy => rkC_len (OKT.out y hy)) hx
        cases hv
        have SX := FS.out x hx
        have XOK := Lib.hid (OKT.out x (List.mem_of_getElem? hx))
        have XL := Lib.hid (rkC_len XOK.out)
        have XK := Lib.hid (keyC_len XOK.out)
        have R1 := Lib.hid hr
        have nb := range_new wr (rkC x) 64
        have RN := Lib.hid nb
        have RNK := Lib.hid (rk_key nb)
        have RBE := Lib.hid (range_keep RB2.out (FR.out.alloc (.cells (rkC x).toArray 64)) id)
        have FE2 := Lib.hid (FR.out.alloc (.cells (rkC x).toArray 64))
        have hoE := Lib.hid (HO.out.alloc (.cells (rkC x).toArray 64))
        clear hr nb hx FS FE
        by_cases hxk : x.1 = k
        · have HSX := Lib.hid (show delT (T.take (n + 1)) k = W by rw [SX]; simp [delT, hxk])
          subst hxk
          clear SX
          go_wp2_with (first | (refine wpList_value rfl (exec_load (ty := 64) rfl rfl R1.out uH rH (by rw [XL.out]; exact infoRHeld)) ?_) | (refine wpList_done rfl (exec_store_new (w := wr) (ty := 64) rfl rfl rfl (by rw [XL.out]; rfl) (by rw [XL.out]; exact infoRHeld) rkC_one) ?_) | (refine wpList_value rfl (exec_load (ty := 39) rfl rfl RNK.out uR rR (by rw [XK.out]; exact infoRKey)) ?_) | (refine wpList_value rfl (exec_load (ty := 39) rfl rfl RBE.out uR rR (by rw [XK.out]; exact infoRKey)) ?_) | (refine wpList_value rfl (eqRKey.exec_neq rfl rfl rfl (keyOfRKey XOK.out) (keyOfRKey XOK.out) true ⟨fun _ => rfl, fun _ => rfl⟩ _) ?_))
          go_roundw
          case rel => exact ⟨n + 1, by simp, by omega, by rw [HSX.out]; exact hoE.out, FE2.out⟩
          case measure => show T.length - (n + 1) < T.length - n; omega
        · have HSX := Lib.hid (show delT (T.take (n + 1)) k = W ++ [x] by rw [SX]; simp [delT, hxk])
          have NE := Lib.hid (show ¬ (keyC x.1).toArray = (keyC k).toArray from fun e => hxk (keyV_inj (congrArg Value.agg e)))
          obtain ⟨v5, w5, hap1, ho5, f5, -, -⟩ := append_blk (P := Tryd.prog) (wr.alloc (.cells (rkC x).toArray 64)) w2.heap.size 51 51 64 34 48 _ undRHelds infoRHeldZ rfl (by decide) hoE.out (rkC x) XL.out rkC_one (by omega) (by unfold maxLen; omega) FE2.out.size
          have F5 := Lib.hid (show Fr No w2 w5 from FE2.out.trans f5 (fun i hi e => by have := (HO.out.lt i e).1; omega))
          have HO5 := Lib.hid (show w5.ownsRow w2.heap.size 64 34 v5 (W ++ [x]).length ((W ++ [x]).flatMap rkC) by simpa using ho5)
          obtain ⟨a5, c5, rfl⟩ := ho5.slice.arg.form
          have HAP1 := Lib.hid hap1
          clear hap1 ho5 f5 SX
          go_wp2_with (first | (refine wpList_value rfl (exec_load (ty := 64) rfl rfl R1.out uH rH (by rw [XL.out]; exact infoRHeld)) ?_) | (refine wpList_done rfl (exec_store_new (w := wr) (ty := 64) rfl rfl rfl (by rw [XL.out]; rfl) (by rw [XL.out]; exact infoRHeld) rkC_one) ?_) | (refine wpList_value rfl (exec_load (ty := 39) rfl rfl RNK.out uR rR (by rw [XK.out]; exact infoRKey)) ?_) | (refine wpList_value rfl (exec_load (ty := 39) rfl rfl RBE.out uR rR (by rw [HKL.out]; exact infoRKey)) ?_) | (refine wpList_value rfl (eqRKey.exec_neq rfl rfl rfl (keyOfRKey XOK.out) (keyOfRKey HK.out) false ⟨fun e => (by cases e), fun e => absurd e NE.out⟩ _) ?_) | (refine wpList_value rfl (exec_load (ty := 64) rfl rfl RN.out uH rH (by rw [XL.out]; exact infoRHeld)) ?_) | (refine wpList_value rfl (exec_buildSliceA (t := 51) rfl rfl undRHelds infoRHeldZ2 rfl (by decide) (by decide) XL.out) ?_) | (at_builtin; refine wpList_append_run rfl rfl rfl rfl HAP1.out ?_))
          go_roundw
          case rel => exact ⟨n + 1, by simp, by omega, by rw [HSX.out]; exact HO5.out, F5.out⟩
          case measure => show T.length - (n + 1) < T.length - n; omega
      · have i1 : ¬ (n : Int) < (T.length : Int) := by omega
        have WE := Lib.hid (FE.out (by omega))
        have FW := Lib.hid (F2.out.trans0 FR.out)
        have hbr := FR.out.obj HB.out id
        have cr : wr.cell? ⟨p, 0, none⟩ = some (.slice ra T.length rc) := by simp [World.cell?, hbr]
        have fz := frozen_none hbr 0
        clear hbr FE FS
        go_wp2
        go_ret
        obtain ⟨t1, t2, t3⟩ := HRT.out.turn FW.out (own_mono (HO.out) F2.out.size) (T' := W) (fun x hx => delT_ok OKT.out x (by rw [← WE.out]; exact hx))
        exact ⟨by rw [ES.out]; rfl, _, by rw [← WE.out]; exact t1, t3, t2⟩
end
end Go.Proofs.YthmaekkjpginoaaDoor
