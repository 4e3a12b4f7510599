/- EmbargoOnce: the walk. -/
import Derived.Test.YthmaekkjpginoaaDoorEmbLen
namespace Go.Proofs.YthmaekkjpginoaaDoor
open Go Go.RowKit Go.Maps Go.MapKept Go.Sort

set_option maxRecDepth 20000 in
set_option maxHeartbeats 4000000 in
theorem once_any (w : World) (hT : TabAt w) {v : Value} {acts : List ActD} (ha : ActsIs w v acts) (k : KeyD) (hk : k.ok) (t : Int) (ht : 0 ≤ t ∧ t ≤ 18446744073709551615) :
    Calls Tryd.prog 6 #[v, .agg (keyC k).toArray, .int .u64 t] w fun e w' => e = .returned (.bool true) ∧ Fr No w w' := by
  obtain ⟨dK, uK, rK⟩ := descKey
  obtain ⟨dR, uR, rR⟩ := descRKey
  obtain ⟨va, vc, rfl⟩ := ha.2.form
  have HA := Lib.hid ha
  have HT := Lib.hid hT
  have HK := Lib.hid hk
  have HKL := Lib.hid (keyC_len hk)
  have RB0 := Lib.hid (range_new w (keyC k) 39)
  have F0 := Lib.hid ((Fr.refl No w).alloc (.cells (keyC k).toArray 39))
  have SZ0 := Lib.hid (show w.heap.size < (w.alloc (.cells (keyC k).toArray 39)).heap.size by simp)
  clear ha hT hk
  by_cases hN : acts.length ≤ 120
  · have j1 : ¬ (120 : Int) < (acts.length : Int) := by omega
    go_enter Tryd.func6, Tryd.ntmps6
    go_wp2_with fail
    generalize w.alloc (.cells (keyC k).toArray 39) = w0 at *
    refine (alive_any w0 (HT.out.keep F0.out id)).mono ?_
    rintro e w1 ⟨rfl, f1⟩
    have F1 := Lib.hid (F0.out.trans0 f1)
    have RB1 := Lib.hid (range_keep RB0.out f1 id)
    have SZ1 := Lib.hid (Nat.lt_of_lt_of_le SZ0.out f1.size)
    clear f1 RB0 SZ0
    go_wp2_with fail
    refine (grown_any w w1 F1.out (HA.out.keep F1.out) hN).mono ?_
    rintro e w2 ⟨p, rfl, V, c2, f2, hV⟩
    have C2 := Lib.hid c2
    have RB2 := Lib.hid (range_keep RB1.out f2 id)
    have NVB := Lib.hid (show ¬ V w.heap.size from fun h => by have := hV _ h; have := SZ1.out; omega)
    have SZ2 := Lib.hid (Nat.lt_of_lt_of_le SZ1.out f2.size)
    clear f2 hV c2 RB1
    go_wp2_with fail
    refine (all_T C2.out (by omega)).mono ?_
    rintro e w3 ⟨v3, rfl, o3, f3⟩
    have NV3 := Lib.hid (show ∀ k, v3.ownBlock = some k → ¬ V k from fun k e h => by have := (o3.lt k e).1; have := C2.out.hi k h; omega)
    have LT3 := Lib.hid (show ∀ k, v3.ownBlock = some k → k < w3.heap.size from fun k e => (o3.lt k e).2)
    have KW := Lib.hid (own_keysT C2.out o3)
    have CAP := Lib.hid (fun (a : Option Addr) (n c : Nat) (e : v3 = .slice a n c) => (by subst e; exact own_cap o3 : n ≤ c))
    have C3 := Lib.hid (C2.out.fr0 f3)
    have RB3 := Lib.hid (range_keep RB2.out f3 id)
    have SZ3 := Lib.hid (Nat.lt_of_lt_of_le SZ2.out f3.size)
    have hgl : (grownT acts).length ≤ acts.length := C2.out.len
    clear o3 f3 C2 RB2
    generalize grownT acts = T at *
    have hgd := C3.out.good
    obtain ⟨a3, e3, rfl⟩ := KW.out.form
    have CAP3 := CAP.out _ _ _ rfl
    clear CAP
    rw [List.length_map] at *
    cases hh : hasT T k with
    | true =>
      have ES := Lib.hid (show setE T k = 10 by simp [setE, hh])
      have SS := Lib.hid (show setT T k t = T by simp [setT, hh])
      have HM := Lib.hid (hasT_mem.1 hh)
      have hlen := len_keys
      clear hh
      go_wp2_with (first | (refine wpList_value rfl (exec_load (ty := 39) rfl rfl RB5 uR rR (by rw [HKL.out]; exact infoRKey)) ?_) | (refine wpList_value rfl (exec_load (ty := 39) rfl rfl RB3.out uR rR (by rw [HKL.out]; exact infoRKey)) ?_) | (go_at_call 17; first | (refine (of_any w5 k HK.out).mono ?_; rintro e w6 ⟨rfl, f6⟩) | (refine (of_any _ k HK.out).mono ?_; rintro e w4 ⟨rfl, f4⟩)) | (go_at_call 16; refine (set_T (C3.out.fr0 f4) (by omega) k HK.out t ht).mono ?_; rintro e w5 ⟨V5, rfl, c5, h5, f5⟩; rw [ES.out]; have RB5 := range_keep (range_keep RB3.out f4 id) f5 NVB.out; rw [SS.out] at c5) | (go_at_call 18; refine (has_any w6 (((KW.out.keep f4).keepV f5 NV3.out).keep f6) (by rw [List.length_map]; omega) k HK.out).mono ?_; rintro e w7 ⟨bb, rfl, hbb, f7⟩; obtain rfl : bb = true := hbb.2 HM.out) | (go_at_call 15; refine (all_T (c5.fr0 (f6.trans0 f7)) (by omega)).mono ?_; rintro e w8 ⟨v8, rfl, o8, f8⟩; have F8 := (c5.fr.trans0 (f6.trans0 f7)).trans0 f8; obtain ⟨a8, e8, rfl⟩ := o8.slice.arg.form))
      go_ret
      exact ⟨by rfl, F8⟩
    | false =>
      have ES := Lib.hid (show setE T k = 0 by simp [setE, hh])
      have SS := Lib.hid (show setT T k t = insT T k t by simp [setT, hh])
      have HM := Lib.hid (show k ∉ T.map (·.1) from fun h => by rw [hasT_mem.2 h] at hh; cases hh)
      have WD := Lib.hid (want_done hgd.srt k t)
      have HH := Lib.hid hh
      clear hh
      go_wp2_with (first | (refine wpList_value rfl (exec_load (ty := 39) rfl rfl RB5 uR rR (by rw [HKL.out]; exact infoRKey)) ?_) | (refine wpList_value rfl (exec_load (ty := 39) rfl rfl RB3.out uR rR (by rw [HKL.out]; exact infoRKey)) ?_) | (go_at_call 17; first | (refine (of_any w5 k HK.out).mono ?_; rintro e w6 ⟨rfl, f6⟩) | (refine (of_any _ k HK.out).mono ?_; rintro e w4 ⟨rfl, f4⟩)) | (go_at_call 16; refine (set_T (C3.out.fr0 f4) (by omega) k HK.out t ht).mono ?_; rintro e w5 ⟨V5, rfl, c5, h5, f5⟩; rw [ES.out]; have RB5 := range_keep (range_keep RB3.out f4 id) f5 NVB.out; rw [SS.out] at c5) | (go_at_call 18; refine (has_any w6 (((KW.out.keep f4).keepV f5 NV3.out).keep f6) (by rw [List.length_map]; omega) k HK.out).mono ?_; rintro e w7 ⟨bb, rfl, hbb, f7⟩; obtain rfl : bb = false := (by cases bb with | false => rfl | true => exact absurd (hbb.1 rfl) HM.out)))
      have C7 := Lib.hid (c5.fr0 (f6.trans0 f7))
      have KW7 := Lib.hid ((((KW.out.keep f4).keepV f5 NV3.out).keep f6).keep f7)
      have RB7 := Lib.hid (range_keep RB5 (f6.trans0 f7) id)
      have GD := Lib.hid hgd
      clear hgd c5 f4 h5 f5 f6 f7 RB5 RB3 KW NV3 LT3 C3 SZ3 NVB SZ2 SZ1 F0
      have hlen := len_keys
      go_loopw [10, 11, 50] (fun l d iv wr => ∃ n : Nat, iv = .int .i64 n ∧ n ≤ T.length ∧ d = .bool (wantOf k t (T.take n)).2 ∧ wr.ownsRow w7.heap.size 36 33 l (wantOf k t (T.take n)).1.length (((wantOf k t (T.take n)).1.map (·.1)).flatMap keyC) ∧ Fr No w7 wr) (fun _ _ iv _ => T.length - (intOf iv).toNat)
      case atStart => exact ⟨0, rfl, Nat.zero_le _, rfl, World.ownsRow_nil _ _ _ _, Fr.refl _ _⟩
      case round =>
        obtain ⟨n, rfl, hn, rfl, ho, fr⟩ := hrel
        have FR := Lib.hid fr
        have SN := Lib.hid (fun (x : KT) hx => wantOf_snoc k t T n x hx)
        have WL := Lib.hid (want_len k t (T.take n))
        have WDN := Lib.hid (fun (e : n = T.length) => (by have h1 := WD.out; rw [show T.take n = T by rw [e, List.take_length]]; exact h1 : insT T k t = if (wantOf k t (T.take n)).2 = true then (wantOf k t (T.take n)).1 else (wantOf k t (T.take n)).1 ++ [(k, t)]))
        clear fr
        generalize wantOf k t (T.take n) = s at *
        obtain ⟨W, D⟩ := s
        have hWL : W.length ≤ 121 := by have := WL.out; rw [List.length_take] at this; simp only at this; omega
        dsimp only at ho
        have HO := Lib.hid ho
        obtain ⟨la, lc, rfl⟩ := ho.slice.arg.form
        clear ho WL
        by_cases h : n < T.length
        · have i1 : (n : Int) < (T.length : Int) := by omega
          obtain ⟨x, hx⟩ : ∃ x, T[n]? = some x := ⟨_, List.getElem?_eq_getElem h⟩
          have hxk : (T.map (·.1))[n]? = some x.1 := by rw [List.getElem?_map, hx]; rfl
          obtain ⟨b, off, cap, hv, hr, -⟩ := (KW7.out.keep FR.out).at_ hxk
          rw [List.length_map] at hv
          cases hv
          have SX := SN.out x hx
          have XOK := Lib.hid (KW7.out.1 x.1 (List.mem_of_getElem? hxk))
          have XK := Lib.hid (keyC_len XOK.out)
          have R1 := Lib.hid hr
          have RN := Lib.hid (range_new wr (keyC x.1) 36)
          have FE := Lib.hid (FR.out.alloc (.cells (keyC x.1).toArray 36))
          have hoE := Lib.hid (HO.out.alloc (.cells (keyC x.1).toArray 36))
          have hlt := Lib.hid (show ∀ j, (Value.slice la W.length lc).ownBlock = some j → w7.heap.size ≤ j ∧ j < wr.heap.size from fun j e => HO.out.lt j e)
          have TX := Lib.hid (show tillT (insT T k t) x.1 = x.2 from tillT_mem C7.out.good.nodup (mem_ins (List.mem_of_getElem? hx)))
          have HX := Lib.hid (show hasT (insT T k t) x.1 = true from hasT_mem.2 (List.mem_map.2 ⟨x, mem_ins (List.mem_of_getElem? hx), rfl⟩))
          have NX := Lib.hid (nodup_take GD.out.nodup hx)
          have hsl := cut_keys ⟨b, off, none⟩ T.length e3 n (by omega)
          clear hr hx hxk SN
          go_wp2_with (first | (refine wpList_value rfl (exec_load (ty := 36) rfl rfl R1.out uK rK (by rw [XK.out]; exact infoKey)) ?_) | (refine wpList_done rfl (exec_store_new (w := wr) (ty := 36) rfl rfl rfl (by rw [XK.out]; rfl) (by rw [XK.out]; exact infoKey) keyC_one) ?_) | (refine wpList_value rfl (exec_load (ty := 36) rfl rfl RN.out uK rK (by rw [XK.out]; exact infoKey)) ?_) | (go_at_call 19; refine (till_T (C7.out.fr0 FE.out) (by omega) x.1 XOK.out).mono ?_; rintro e w8 ⟨rfl, f8⟩; rw [TX.out, HX.out]))
          have F8 := Lib.hid (FE.out.trans0 f8)
          have R8 := Lib.hid (range_keep RN.out f8 id)
          have HO8 := Lib.hid (ownsRow_keep hoE.out f8 (fun _ _ => id))
          have S8 := Lib.hid (show wr.heap.size < w8.heap.size from Nat.lt_of_lt_of_le (by simp) f8.size)
          clear f8 hoE RN
          refine wp_region_lexL [false, false, false, false, false, false, false, true, false] (fun W => W.rangeAt wr.heap.size 0 (keyC x.1)) (by kernel_rfl) (by kernel_rfl) ?_ (fun K hK => ?_)
          · exact range_keep R8.out (Fr.refl No _).drew id
          repeat (first | ((first | with_reducible refine lexL_read ?_ | ((with_reducible refine lexL_readG ?_ ?_); (focus rfl))); apply Exists.intro; refine ⟨?_, ?_⟩; (focus (first | exact lex_load (ty := 36) rfl (fun w h => h) uK rK (by rw [XK.out]; exact infoKey) | (intro w' hS; obtain _ := hS; go_simp; (try with_reducible rfl); done))); try simp only [Act.put, List.setIfInBounds_toArray, List.set_cons_zero, List.set_cons_succ]) | ((first | ((with_reducible refine lexL_skip (c := false) ?_ ?_ ?_); (focus rfl); (focus rfl)) | ((with_reducible refine lexL_skip (c := true) ?_ ?_ ?_); (focus rfl); (focus rfl)) | ((with_reducible refine lexL_skipU ?_ ?_); (focus rfl))); try simp only [Act.put, List.setIfInBounds_toArray, List.set_cons_zero, List.set_cons_succ]))
          (first | with_reducible refine lexL_eff (fun K' hK' => ?_) | ((with_reducible refine lexL_effG ?_ (fun K' hK' => ?_)); (focus rfl)))
          go_simp
          refine (has_any _ (keys_take ((KW7.out.keep F8.out).keep (Fr.refl No w8).drew) (q := n) (c' := e3) (by rw [List.length_map]; omega)) (by rw [List.length_take, List.length_map]; omega) x.1 XOK.out).mono ?_
          rintro e w9 ⟨bb, rfl, hbb, f9⟩
          obtain rfl : bb = false := by cases bb with | false => rfl | true => exact absurd (hbb.1 rfl) NX.out
          refine hK'.out _ _ ?_ (fun hS => ?_)
          · exact range_keep (range_keep R8.out (Fr.refl No _).drew id) f9 id
          try simp only [Act.put, List.setIfInBounds_toArray, List.set_cons_zero, List.set_cons_succ]
          repeat (first | ((first | with_reducible refine lexL_read ?_ | ((with_reducible refine lexL_readG ?_ ?_); (focus rfl))); apply Exists.intro; refine ⟨?_, ?_⟩; (focus (first | (intro w' hS; obtain _ := hS; go_simp; (try with_reducible rfl); done))); try simp only [Act.put, List.setIfInBounds_toArray, List.set_cons_zero, List.set_cons_succ]) | ((first | ((with_reducible refine lexL_skip (c := false) ?_ ?_ ?_); (focus rfl); (focus rfl)) | ((with_reducible refine lexL_skip (c := true) ?_ ?_ ?_); (focus rfl); (focus rfl)) | ((with_reducible refine lexL_skipU ?_ ?_); (focus rfl))); try simp only [Act.put, List.setIfInBounds_toArray, List.set_cons_zero, List.set_cons_succ]))
          refine lexL_nil (hK.out _ _ ?_)
          have F9 := Lib.hid ((F8.out.trans0 (Fr.refl No w8).drew).trans0 f9)
          have R9 := Lib.hid (range_keep (range_keep R8.out (Fr.refl No _).drew id) f9 id)
          have HO9 := Lib.hid (ownsRow_keep (ownsRow_keep HO8.out (Fr.refl No _).drew (fun _ _ => id)) f9 (fun _ _ => id))
          have RB9 := Lib.hid (range_keep RB7.out F9.out id)
          have S9 := Lib.hid (show wr.heap.size < w9.heap.size from Nat.lt_of_lt_of_le S8.out f9.size)
          clear f9 R8 HO8 FE F8
          by_cases hc : D = false ∧ t < x.2
          · obtain ⟨rfl, hlt2⟩ := hc
            have HSX := Lib.hid (show wantOf k t (T.take (n + 1)) = (W ++ [(k, t)] ++ [x], true) by rw [SX]; simp [wantStep, hlt2])
            clear SX
            go_wp2_with (first | (refine wpList_value rfl (exec_load (ty := 36) rfl rfl R11 uK rK (by rw [XK.out]; exact infoKey)) ?_) | (refine wpList_value rfl (exec_load (ty := 36) rfl rfl R9.out uK rK (by rw [XK.out]; exact infoKey)) ?_) | (refine wpList_value rfl (exec_load (ty := 39) rfl rfl RB9.out uR rR (by rw [HKL.out]; exact infoRKey)) ?_) | (refine wpList_value rfl (exec_buildSliceA (t := 31) rfl rfl undKeys infoKeyZ2 rfl (by decide) (by decide) XK.out) ?_) | (refine wpList_value rfl (exec_buildSliceA (t := 31) rfl rfl undKeys infoKeyZ2 rfl (by decide) (by decide) HKL.out) ?_) | (at_builtin; refine wpList_append_run rfl rfl rfl rfl hap1 ?_; clear hap1) | (at_builtin; refine wpList_append_run rfl rfl rfl rfl hap2 ?_) | (go_at_call 17; refine (of_any _ k HK.out).mono ?_; rintro e w10 ⟨rfl, f10⟩; obtain ⟨v11, w11, hap1, ho11, f11, -, -⟩ := append_blk (P := Tryd.prog) w10 w7.heap.size 31 31 36 33 40 _ undKeys infoKeyZ rfl (by decide) (ownsRow_keep HO9.out f10 (fun _ _ => id)) (keyC k) HKL.out keyC_one (by omega) (by unfold maxLen; omega) ((F9.out.trans0 f10).size); have R11 := range_keep (range_keep R9.out f10 id) f11 (fun e => by have := (hlt.out _ e).2; omega); have F11 := (F9.out.trans0 f10).trans f11 (fun i hi e => by have := (hlt.out i e).1; omega); obtain ⟨v12, w12, hap2, ho12, f12, -, -⟩ := append_blk (P := Tryd.prog) w11 w7.heap.size 31 31 36 33 40 _ undKeys infoKeyZ rfl (by decide) ho11 (keyC x.1) XK.out keyC_one (by omega) (by unfold maxLen; omega) F11.size; have F12 := Lib.hid (F11.trans f12 (fun i hi e => by have := (ho11.lt i e).1; omega)); have HO12 := Lib.hid (show w12.ownsRow w7.heap.size 36 33 v12 (W ++ [(k, t)] ++ [x]).length (((W ++ [(k, t)] ++ [x]).map (·.1)).flatMap keyC) by simpa using ho12); obtain ⟨a11, c11, rfl⟩ := ho11.slice.arg.form; obtain ⟨a12, c12, rfl⟩ := ho12.slice.arg.form; clear f10 ho11 f11 F11 f12 ho12))
            go_roundw
            case rel => exact ⟨n + 1, by simp, by omega, by rw [HSX.out], by rw [HSX.out]; exact HO12.out, F12.out⟩
            case measure => show T.length - (n + 1) < T.length - n; omega
          · have HSX := Lib.hid (show wantOf k t (T.take (n + 1)) = (W ++ [x], D) by
              rw [SX]
              unfold wantStep
              rw [if_neg (fun h => hc ⟨h.2, h.1⟩)])
            obtain ⟨v11, w11, hap1, ho11, f11, -, -⟩ := append_blk (P := Tryd.prog) w9 w7.heap.size 31 31 36 33 40 _ undKeys infoKeyZ rfl (by decide) HO9.out (keyC x.1) XK.out keyC_one (by omega) (by unfold maxLen; omega) F9.out.size
            have F11 := Lib.hid (F9.out.trans f11 (fun i hi e => by have := (hlt.out i e).1; omega))
            have HO11 := Lib.hid (show w11.ownsRow w7.heap.size 36 33 v11 (W ++ [x]).length (((W ++ [x]).map (·.1)).flatMap keyC) by simpa using ho11)
            obtain ⟨a11, c11, rfl⟩ := ho11.slice.arg.form
            have HAP1 := Lib.hid hap1
            clear SX hap1 ho11 f11
            cases D with
            | true =>
              clear hc
              by_cases hlt3 : t < x.2
              all_goals
                go_wp2_with (first | (refine wpList_value rfl (exec_load (ty := 36) rfl rfl R9.out uK rK (by rw [XK.out]; exact infoKey)) ?_) | (refine wpList_value rfl (exec_buildSliceA (t := 31) rfl rfl undKeys infoKeyZ2 rfl (by decide) (by decide) XK.out) ?_) | (at_builtin; refine wpList_append_run rfl rfl rfl rfl HAP1.out ?_))
                go_roundw
                case rel => exact ⟨n + 1, by simp, by omega, by rw [HSX.out], by rw [HSX.out]; exact HO11.out, F11.out⟩
                case measure => show T.length - (n + 1) < T.length - n; omega
            | false =>
              have hlt2 : ¬ t < x.2 := fun h => hc ⟨rfl, h⟩
              clear hc
              go_wp2_with (first | (refine wpList_value rfl (exec_load (ty := 36) rfl rfl R9.out uK rK (by rw [XK.out]; exact infoKey)) ?_) | (refine wpList_value rfl (exec_buildSliceA (t := 31) rfl rfl undKeys infoKeyZ2 rfl (by decide) (by decide) XK.out) ?_) | (at_builtin; refine wpList_append_run rfl rfl rfl rfl HAP1.out ?_))
              go_roundw
              case rel => exact ⟨n + 1, by simp, by omega, by rw [HSX.out], by rw [HSX.out]; exact HO11.out, F11.out⟩
              case measure => show T.length - (n + 1) < T.length - n; omega
        · have i1 : ¬ (n : Int) < (T.length : Int) := by omega
          have i2 : n = T.length := by omega
          have WE := Lib.hid (WDN.out i2)
          clear WDN SN i2
          have C8 := Lib.hid (C7.out.fr0 FR.out)
          have RB8 := Lib.hid (range_keep RB7.out FR.out id)
          have UG := C8.out.good
          have UK := Lib.hid (show ∀ j ∈ (insT T k t).map (·.1), j.ok from C8.out.keyOk)
          have TK := Lib.hid (show tillT (insT T k t) k = t from tillT_mem (x := (k, t)) UG.nodup mem_ins_self)
          have HKU := Lib.hid (show hasT (insT T k t) k = true from hasT_mem.2 (List.mem_map.2 ⟨(k, t), mem_ins_self, rfl⟩))
          have E10 := Lib.hid (show setE (insT T k t) k = 10 by simp [setE, HKU.out])
          have UL : (insT T k t).length ≤ 121 := by have := C8.out.len; omega
          clear UG GD WD SS KW7
          generalize insT T k t = U at *
          cases D
          case' true =>
            have hUW : U = W := by simpa using WE.out
            subst hUW
            have HOZ := HO
            have CZ := C8
            have RBZ := RB8
            go_wp2_with fail
          case' false =>
            have hUW := Lib.hid (show U = W ++ [(k, t)] by simpa using WE.out)
            go_wp2_with (first | (refine wpList_value rfl (exec_load (ty := 39) rfl rfl RB8.out uR rR (by rw [HKL.out]; exact infoRKey)) ?_) | (refine wpList_value rfl (exec_buildSliceA (t := 31) rfl rfl undKeys infoKeyZ2 rfl (by decide) (by decide) HKL.out) ?_) | (at_builtin; refine wpList_append_run rfl rfl rfl rfl hap1 ?_) | (go_at_call 17; refine (of_any _ k HK.out).mono ?_; rintro e w10 ⟨rfl, f10⟩; obtain ⟨v11, w11, hap1, ho11, f11, -, -⟩ := append_blk (P := Tryd.prog) w10 w7.heap.size 31 31 36 33 40 _ undKeys infoKeyZ rfl (by decide) (ownsRow_keep HO.out f10 (fun _ _ => id)) (keyC k) HKL.out keyC_one (by omega) (by unfold maxLen; omega) ((FR.out.trans0 f10).size); have F11 := Lib.hid ((FR.out.trans0 f10).trans f11 (fun i hi e => by have := (HO.out.lt i e).1; omega)); have HOZ := Lib.hid (show w11.ownsRow w7.heap.size 36 33 v11 U.length ((U.map (·.1)).flatMap keyC) by rw [hUW.out]; simpa using ho11); have CZ := Lib.hid (C7.out.fr0 F11.out); have RBZ := Lib.hid (range_keep RB7.out F11.out id); obtain ⟨a11, c11, rfl⟩ := HOZ.out.slice.arg.form; clear ho11 f11))
          all_goals
            refine (all_T CZ.out (by omega)).mono ?_
            rintro e w13 ⟨v13, rfl, o13, f13⟩
            have C13 := Lib.hid (CZ.out.fr0 f13)
            have RB13 := Lib.hid (range_keep RBZ.out f13 id)
            have HO13 := Lib.hid (ownsRow_keep HOZ.out f13 (fun _ _ => id))
            have O13 := Lib.hid o13
            obtain ⟨a13, e13, rfl⟩ := o13.slice.arg.form
            clear o13 f13 CZ RBZ HOZ C8 RB8
            go_wp2_with fail
            go_loopw [107] (fun iv wr => ∃ n : Nat, iv = .int .i64 n ∧ n ≤ U.length ∧ Fr No w13 wr) (fun iv _ => U.length - (intOf iv).toNat)
            case atStart => exact ⟨0, rfl, Nat.zero_le _, Fr.refl _ _⟩
            case round =>
              obtain ⟨m, rfl, hm, fr2⟩ := hrel
              have FR2 := Lib.hid fr2
              clear fr2
              by_cases h : m < U.length
              · have i4 : (m : Int) < (U.length : Int) := by omega
                obtain ⟨x, hx⟩ : ∃ x, (U.map (·.1))[m]? = some x := ⟨_, List.getElem?_eq_getElem (by rw [List.length_map]; exact h)⟩
                obtain ⟨gx, cx, hvx, hrx, -⟩ := own_elem (by decide) (fun k hk => keyC_len (UK.out k hk)) (ownsRow_keep O13.out FR2.out (fun _ _ => id)) hx
                cases hvx
                obtain ⟨gy, cy, hvy, hry, -⟩ := own_elem (by decide) (fun k hk => keyC_len (UK.out k hk)) (ownsRow_keep HO13.out FR2.out (fun _ _ => id)) hx
                cases hvy
                have XOK := Lib.hid (UK.out x (List.mem_of_getElem? hx))
                have XK := Lib.hid (keyC_len XOK.out)
                have RX := Lib.hid hrx
                have RY := Lib.hid hry
                clear hrx hry hx
                go_wp2
                refine wp_region_lexL [false, false, false, false, false, false, false, false, false] (fun W => W.rangeAt gx (m * 33) (keyC x) ∧ W.rangeAt gy (m * 33) (keyC x)) (by kernel_rfl) (by kernel_rfl) ?_ (fun K hK => ?_)
                · exact ⟨range_keep RX.out (Fr.refl No _).drew id, range_keep RY.out (Fr.refl No _).drew id⟩
                repeat (first | ((first | with_reducible refine lexL_read ?_ | ((with_reducible refine lexL_readG ?_ ?_); (focus rfl))); apply Exists.intro; refine ⟨?_, ?_⟩; (focus (first | exact lex_load (ty := 36) rfl (fun w h => h.1) uK rK (by rw [XK.out]; exact infoKey) | exact lex_load (ty := 36) rfl (fun w h => h.2) uK rK (by rw [XK.out]; exact infoKey) | exact fun w' h => eqKey.exec_neq (u := (keyC x).toArray) (v := (keyC x).toArray) rfl rfl rfl (keyOfKey XOK.out) (keyOfKey XOK.out) true ⟨fun _ => rfl, fun _ => rfl⟩ w' | (intro w' hS; obtain _ := hS; go_simp; (try with_reducible rfl); done))); try simp only [Act.put, List.setIfInBounds_toArray, List.set_cons_zero, List.set_cons_succ]) | ((first | ((with_reducible refine lexL_skip (c := false) ?_ ?_ ?_); (focus rfl); (focus rfl)) | ((with_reducible refine lexL_skip (c := true) ?_ ?_ ?_); (focus rfl); (focus rfl)) | ((with_reducible refine lexL_skipU ?_ ?_); (focus rfl))); try simp only [Act.put, List.setIfInBounds_toArray, List.set_cons_zero, List.set_cons_succ]))
                refine lexL_nil (hK.out _ _ ?_)
                have FD := Lib.hid (FR2.out.drew)
                go_wp2
                go_roundw
                case rel => exact ⟨m + 1, by simp, by omega, FD.out⟩
                case measure => show U.length - (m + 1) < U.length - m; omega
              · have i4 : ¬ (m : Int) < (U.length : Int) := by omega
                have C14 := Lib.hid (C13.out.fr0 FR2.out)
                have RB14 := Lib.hid (range_keep RB13.out FR2.out id)
                clear C13 RB13 HO13 O13
                go_wp2_with (first | (refine wpList_valueG (o := ⟨some 135, _, _, _, _, _⟩) rfl (exec_load (ty := 39) rfl rfl RB16 uR rR (by rw [HKL.out]; exact infoRKey)) ?_) | (refine wpList_value rfl (exec_load (ty := 39) rfl rfl RB14.out uR rR (by rw [HKL.out]; exact infoRKey)) ?_) | (go_at_call 17; first | (refine (of_any w16 k HK.out).mono ?_; rintro e w17 ⟨rfl, f17⟩) | (refine (of_any _ k HK.out).mono ?_; rintro e w15 ⟨rfl, f15⟩)) | (go_at_call 19; refine (till_T (C14.out.fr0 f15) (by omega) k HK.out).mono ?_; rintro e w16 ⟨rfl, f16⟩; rw [TK.out, HKU.out]; have RB16 := range_keep RB14.out (f15.trans0 f16) id) | (go_at_call 16; refine (set_T (C14.out.fr0 ((f15.trans0 f16).trans0 f17)) (by omega) k HK.out t ht).mono ?_; rintro e w18 ⟨V18, rfl, c18, h18, f18⟩; rw [E10.out]))
                go_ret
                exact ⟨by rfl, c18.fr⟩
  · have j1 : (120 : Int) < (acts.length : Int) := by omega
    go_enter Tryd.func6, Tryd.ntmps6
    go_wp2_with fail
    generalize w.alloc (.cells (keyC k).toArray 39) = w0 at *
    refine (alive_any w0 (HT.out.keep F0.out id)).mono ?_
    rintro e w1 ⟨rfl, f1⟩
    have F1 := Lib.hid (F0.out.trans0 f1)
    clear f1
    go_wp2
    go_ret
    exact ⟨rfl, F1.out⟩
end Go.Proofs.YthmaekkjpginoaaDoor
