/- KinBounds: the walk. -/
import Derived.Test.YtnjkpjcnmdgoeaaKinU
namespace Go.Proofs.Ytnjkpjcnmdgoeaa
open Go Go.RowKit Go.Maps Go.MapKept

set_option maxRecDepth 100000 in
set_option maxHeartbeats 8000000 in
theorem bounds_any (w : World) {v : Value} {L : List KActD} (hl : KActsIs w v L) :
    Calls Try.prog 3 #[v] w fun e w' => e = .returned (.bool true) ∧ Fr No w w' := by
  obtain ⟨dK, uK, rK⟩ := descHash
  have HL := Lib.hid hl
  obtain ⟨va, vc, rfl, -, -⟩ := hl
  have zh := zeroHash
  go_enter Try.func3, Try.ntmps3
  by_cases hg : kgreat L = true
  · go_wp2_with (first | (go_at_call 10; refine (aliveK_any w).mono ?_; rintro e w1 ⟨rfl, f1⟩; have F1 := Lib.hid f1; clear f1) | (go_at_call 11; refine (kgreat_any w1 (HL.out.keep F1.out)).mono ?_; rintro e w2 ⟨rfl, f2⟩; rw [hg]; have F2 := Lib.hid (F1.out.trans0 f2); clear f2))
    go_ret
    exact ⟨rfl, F2.out⟩
  · have hg0 : kgreat L = false := by simpa using hg
    clear hg
    go_wp2_with (first | (go_at_call 10; refine (aliveK_any w).mono ?_; rintro e w1 ⟨rfl, f1⟩; have F1 := Lib.hid f1; clear f1) | (go_at_call 11; refine (kgreat_any w1 (HL.out.keep F1.out)).mono ?_; rintro e w2 ⟨rfl, f2⟩; rw [hg0]; have F2 := Lib.hid (F1.out.trans0 f2); clear f2) | (go_at_call 12; refine (grown_any w2 (HL.out.keep F2.out) hg0).mono ?_; rintro e w3 ⟨p, V, rfl, g3, b3⟩; generalize grownG L = G at g3 b3; have G3 := Lib.hid g3; have B3 := Lib.hid b3; have F3 := Lib.hid (F2.out.trans0 g3.fr); clear g3 b3) | (go_at_call 13; refine (all_K G3.out (by decide)).mono ?_; rintro e w4 ⟨v4, rfl, o4⟩; have G4 := Lib.hid (G3.out.fr0 o4.2); have O4 := Lib.hid (o4.is G3.out.okId); have F4 := Lib.hid (F3.out.trans0 o4.2); obtain ⟨a4, c4, rfl⟩ := O4.out.2.form; clear o4))
    have hn80 : (ids G).length ≤ 80 := by have := G4.out.len; simpa [ids] using this
    go_loopw [16] (fun i wr => ∃ n : Nat, n ≤ (ids G).length ∧ i = .int .i64 n ∧ Fr No w4 wr) (fun i _ => (ids G).length - (intOf i).toNat)
    case atStart => exact ⟨0, Nat.zero_le _, rfl, Fr.refl _ _⟩
    case round =>
      obtain ⟨n, hn, rfl, fr⟩ := hrel
      have FR := Lib.hid fr
      clear fr
      by_cases h : n < (ids G).length
      · obtain ⟨x, hx⟩ : ∃ x, (ids G)[n]? = some x := ⟨_, List.getElem?_eq_getElem h⟩
        obtain ⟨b, off, cap, hv, hr, -⟩ := (O4.out.keep FR.out).at_ hx
        cases hv
        have i1 : (n : Int) < ((ids G).length : Int) := by omega
        have hxm := List.mem_of_getElem? hx
        have XOK := Lib.hid (G4.out.okId x hxm)
        have XL := Lib.hid (hashC_len XOK.out)
        have R1 := Lib.hid hr
        have RN := Lib.hid (range_new wr (hashC x) 30)
        have fa := (Fr.refl No wr).alloc (.cells (hashC x).toArray 30)
        have FA := Lib.hid (FR.out.trans0 fa)
        have G5 := Lib.hid (G4.out.fr0 (FR.out.trans0 fa))
        obtain ⟨r, er⟩ := up_last G4.out.gok hxm
        have hb := B3.out x hxm
        rw [er] at hb
        have ER := Lib.hid er
        have hk : r.length + 1 ≤ 6 := by simpa using hb
        clear hx hr fa er hb hxm
        go_wp2_with (first | (refine wpList_value rfl (exec_load (o := ⟨some 19, _, _, _, _, _⟩) (ty := 30) rfl rfl R1.out uK rK (by rw [XL.out]; exact infoHash)) ?_) | (refine wpList_done rfl (exec_store_new (w := wr) (ty := 30) (cs := hashC x) rfl rfl rfl (by rw [XL.out]; rfl) (by rw [XL.out]; exact infoHash) hashC_one) ?_; generalize wr.alloc (.cells (hashC x).toArray 30) = w5 at *; generalize wr.heap.size = q5 at *) | (refine wpList_value rfl (exec_load (o := ⟨some 21, _, _, _, _, _⟩) (ty := 30) rfl rfl RN.out uK rK (by rw [XL.out]; exact infoHash)) ?_) | (refine wpList_value rfl (exec_buildSliceA (t := 27) rfl rfl undIds infoHashZ2 rfl (by decide) (by decide) XL.out) ?_) | (go_at_call 14; refine (up_K (G5.out.fr0 ((Fr.refl No w5).alloc (.cells (hashC x).toArray 30))) (by decide) (ids_new1 w5 XOK.out) (by simp)).mono ?_; rintro e w6 ⟨v6, rfl, o6⟩; have U6 := Lib.hid (o6.is (G5.out.okUp _)); have fz := ((Fr.refl No w5).alloc (.cells (hashC x).toArray 30)).trans0 o6.2; have F6 := Lib.hid (FA.out.trans0 fz); have RN6 := Lib.hid (range_keep RN.out fz id); clear fz o6; obtain ⟨b6, o6, c6, rfl, r6, -⟩ := U6.out.at_ (i := r.length) (c := x) (by rw [ER.out]; simp); have R6 := Lib.hid r6; clear r6; rw [show (upS G [x]).length = r.length + 1 by rw [ER.out]; simp]; generalize r.length = k at *))
        clear U6
        have FD := Lib.hid (F6.out.drew)
        rcases (show k = 0 ∨ k = 1 ∨ k = 2 ∨ k = 3 ∨ k = 4 ∨ k = 5 by omega) with rfl | rfl | rfl | rfl | rfl | rfl
        · have e3 : IntKind.i64.wrap 0 = 0 := IntWalk.i64_in _ (by omega)
          refine wp_region_lexL [false, false, false, false, false, false, false, false, false, false, false, false, false, false, false, false, false, false] (fun W => W.rangeAt b6 (o6 + (0) * 32) (hashC x) ∧ W.rangeAt q5 0 (hashC x)) (by kernel_rfl) (by kernel_rfl) ?_ (fun K hK => ?_)
          · exact ⟨range_keep R6.out (Fr.refl No _).drew id, range_keep RN6.out (Fr.refl No _).drew id⟩
          repeat (first | ((first | with_reducible refine lexL_read ?_ | ((with_reducible refine lexL_readG ?_ ?_); (focus rfl))); apply Exists.intro; refine ⟨?_, ?_⟩; (focus (first | exact lex_load (ty := 30) rfl (fun w h => h.1) uK rK (by rw [XL.out]; exact infoHash) | exact lex_load (ty := 30) rfl (fun w h => h.2) uK rK (by rw [XL.out]; exact infoHash) | exact fun w' h => eqHash.exec_neq (u := (hashC x).toArray) (v := (hashC x).toArray) rfl rfl rfl (keyOfHash XOK.out) (keyOfHash XOK.out) true ⟨fun _ => rfl, fun _ => rfl⟩ w' | (intro w' hS; obtain _ := hS; go_simp; (try with_reducible rfl); done))); try simp only [Act.put, List.setIfInBounds_toArray, List.set_cons_zero, List.set_cons_succ]) | ((first | ((with_reducible refine lexL_skip (c := false) ?_ ?_ ?_); (focus rfl); (focus rfl)) | ((with_reducible refine lexL_skip (c := true) ?_ ?_ ?_); (focus rfl); (focus rfl)) | ((with_reducible refine lexL_skipU ?_ ?_); (focus rfl))); try simp only [Act.put, List.setIfInBounds_toArray, List.set_cons_zero, List.set_cons_succ]))
          refine lexL_nil (hK.out _ _ ?_)
          clear e3
          go_wp2
          go_roundw
          case rel => exact ⟨n + 1, by omega, by go_num, FD.out⟩
          case measure => simp [intOf]; omega
        · have e3 : IntKind.i64.wrap 1 = 1 := IntWalk.i64_in _ (by omega)
          refine wp_region_lexL [false, false, false, false, false, false, false, false, false, false, false, false, false, false, false, false, false, false] (fun W => W.rangeAt b6 (o6 + (1) * 32) (hashC x) ∧ W.rangeAt q5 0 (hashC x)) (by kernel_rfl) (by kernel_rfl) ?_ (fun K hK => ?_)
          · exact ⟨range_keep R6.out (Fr.refl No _).drew id, range_keep RN6.out (Fr.refl No _).drew id⟩
          repeat (first | ((first | with_reducible refine lexL_read ?_ | ((with_reducible refine lexL_readG ?_ ?_); (focus rfl))); apply Exists.intro; refine ⟨?_, ?_⟩; (focus (first | exact lex_load (ty := 30) rfl (fun w h => h.1) uK rK (by rw [XL.out]; exact infoHash) | exact lex_load (ty := 30) rfl (fun w h => h.2) uK rK (by rw [XL.out]; exact infoHash) | exact fun w' h => eqHash.exec_neq (u := (hashC x).toArray) (v := (hashC x).toArray) rfl rfl rfl (keyOfHash XOK.out) (keyOfHash XOK.out) true ⟨fun _ => rfl, fun _ => rfl⟩ w' | (intro w' hS; obtain _ := hS; go_simp; (try with_reducible rfl); done))); try simp only [Act.put, List.setIfInBounds_toArray, List.set_cons_zero, List.set_cons_succ]) | ((first | ((with_reducible refine lexL_skip (c := false) ?_ ?_ ?_); (focus rfl); (focus rfl)) | ((with_reducible refine lexL_skip (c := true) ?_ ?_ ?_); (focus rfl); (focus rfl)) | ((with_reducible refine lexL_skipU ?_ ?_); (focus rfl))); try simp only [Act.put, List.setIfInBounds_toArray, List.set_cons_zero, List.set_cons_succ]))
          refine lexL_nil (hK.out _ _ ?_)
          clear e3
          go_wp2
          go_roundw
          case rel => exact ⟨n + 1, by omega, by go_num, FD.out⟩
          case measure => simp [intOf]; omega
        · have e3 : IntKind.i64.wrap 2 = 2 := IntWalk.i64_in _ (by omega)
          refine wp_region_lexL [false, false, false, false, false, false, false, false, false, false, false, false, false, false, false, false, false, false] (fun W => W.rangeAt b6 (o6 + (2) * 32) (hashC x) ∧ W.rangeAt q5 0 (hashC x)) (by kernel_rfl) (by kernel_rfl) ?_ (fun K hK => ?_)
          · exact ⟨range_keep R6.out (Fr.refl No _).drew id, range_keep RN6.out (Fr.refl No _).drew id⟩
          repeat (first | ((first | with_reducible refine lexL_read ?_ | ((with_reducible refine lexL_readG ?_ ?_); (focus rfl))); apply Exists.intro; refine ⟨?_, ?_⟩; (focus (first | exact lex_load (ty := 30) rfl (fun w h => h.1) uK rK (by rw [XL.out]; exact infoHash) | exact lex_load (ty := 30) rfl (fun w h => h.2) uK rK (by rw [XL.out]; exact infoHash) | exact fun w' h => eqHash.exec_neq (u := (hashC x).toArray) (v := (hashC x).toArray) rfl rfl rfl (keyOfHash XOK.out) (keyOfHash XOK.out) true ⟨fun _ => rfl, fun _ => rfl⟩ w' | (intro w' hS; obtain _ := hS; go_simp; (try with_reducible rfl); done))); try simp only [Act.put, List.setIfInBounds_toArray, List.set_cons_zero, List.set_cons_succ]) | ((first | ((with_reducible refine lexL_skip (c := false) ?_ ?_ ?_); (focus rfl); (focus rfl)) | ((with_reducible refine lexL_skip (c := true) ?_ ?_ ?_); (focus rfl); (focus rfl)) | ((with_reducible refine lexL_skipU ?_ ?_); (focus rfl))); try simp only [Act.put, List.setIfInBounds_toArray, List.set_cons_zero, List.set_cons_succ]))
          refine lexL_nil (hK.out _ _ ?_)
          clear e3
          go_wp2
          go_roundw
          case rel => exact ⟨n + 1, by omega, by go_num, FD.out⟩
          case measure => simp [intOf]; omega
        · have e3 : IntKind.i64.wrap 3 = 3 := IntWalk.i64_in _ (by omega)
          refine wp_region_lexL [false, false, false, false, false, false, false, false, false, false, false, false, false, false, false, false, false, false] (fun W => W.rangeAt b6 (o6 + (3) * 32) (hashC x) ∧ W.rangeAt q5 0 (hashC x)) (by kernel_rfl) (by kernel_rfl) ?_ (fun K hK => ?_)
          · exact ⟨range_keep R6.out (Fr.refl No _).drew id, range_keep RN6.out (Fr.refl No _).drew id⟩
          repeat (first | ((first | with_reducible refine lexL_read ?_ | ((with_reducible refine lexL_readG ?_ ?_); (focus rfl))); apply Exists.intro; refine ⟨?_, ?_⟩; (focus (first | exact lex_load (ty := 30) rfl (fun w h => h.1) uK rK (by rw [XL.out]; exact infoHash) | exact lex_load (ty := 30) rfl (fun w h => h.2) uK rK (by rw [XL.out]; exact infoHash) | exact fun w' h => eqHash.exec_neq (u := (hashC x).toArray) (v := (hashC x).toArray) rfl rfl rfl (keyOfHash XOK.out) (keyOfHash XOK.out) true ⟨fun _ => rfl, fun _ => rfl⟩ w' | (intro w' hS; obtain _ := hS; go_simp; (try with_reducible rfl); done))); try simp only [Act.put, List.setIfInBounds_toArray, List.set_cons_zero, List.set_cons_succ]) | ((first | ((with_reducible refine lexL_skip (c := false) ?_ ?_ ?_); (focus rfl); (focus rfl)) | ((with_reducible refine lexL_skip (c := true) ?_ ?_ ?_); (focus rfl); (focus rfl)) | ((with_reducible refine lexL_skipU ?_ ?_); (focus rfl))); try simp only [Act.put, List.setIfInBounds_toArray, List.set_cons_zero, List.set_cons_succ]))
          refine lexL_nil (hK.out _ _ ?_)
          clear e3
          go_wp2
          go_roundw
          case rel => exact ⟨n + 1, by omega, by go_num, FD.out⟩
          case measure => simp [intOf]; omega
        · have e3 : IntKind.i64.wrap 4 = 4 := IntWalk.i64_in _ (by omega)
          refine wp_region_lexL [false, false, false, false, false, false, false, false, false, false, false, false, false, false, false, false, false, false] (fun W => W.rangeAt b6 (o6 + (4) * 32) (hashC x) ∧ W.rangeAt q5 0 (hashC x)) (by kernel_rfl) (by kernel_rfl) ?_ (fun K hK => ?_)
          · exact ⟨range_keep R6.out (Fr.refl No _).drew id, range_keep RN6.out (Fr.refl No _).drew id⟩
          repeat (first | ((first | with_reducible refine lexL_read ?_ | ((with_reducible refine lexL_readG ?_ ?_); (focus rfl))); apply Exists.intro; refine ⟨?_, ?_⟩; (focus (first | exact lex_load (ty := 30) rfl (fun w h => h.1) uK rK (by rw [XL.out]; exact infoHash) | exact lex_load (ty := 30) rfl (fun w h => h.2) uK rK (by rw [XL.out]; exact infoHash) | exact fun w' h => eqHash.exec_neq (u := (hashC x).toArray) (v := (hashC x).toArray) rfl rfl rfl (keyOfHash XOK.out) (keyOfHash XOK.out) true ⟨fun _ => rfl, fun _ => rfl⟩ w' | (intro w' hS; obtain _ := hS; go_simp; (try with_reducible rfl); done))); try simp only [Act.put, List.setIfInBounds_toArray, List.set_cons_zero, List.set_cons_succ]) | ((first | ((with_reducible refine lexL_skip (c := false) ?_ ?_ ?_); (focus rfl); (focus rfl)) | ((with_reducible refine lexL_skip (c := true) ?_ ?_ ?_); (focus rfl); (focus rfl)) | ((with_reducible refine lexL_skipU ?_ ?_); (focus rfl))); try simp only [Act.put, List.setIfInBounds_toArray, List.set_cons_zero, List.set_cons_succ]))
          refine lexL_nil (hK.out _ _ ?_)
          clear e3
          go_wp2
          go_roundw
          case rel => exact ⟨n + 1, by omega, by go_num, FD.out⟩
          case measure => simp [intOf]; omega
        · have e3 : IntKind.i64.wrap 5 = 5 := IntWalk.i64_in _ (by omega)
          refine wp_region_lexL [false, false, false, false, false, false, false, false, false, false, false, false, false, false, false, false, false, false] (fun W => W.rangeAt b6 (o6 + (5) * 32) (hashC x) ∧ W.rangeAt q5 0 (hashC x)) (by kernel_rfl) (by kernel_rfl) ?_ (fun K hK => ?_)
          · exact ⟨range_keep R6.out (Fr.refl No _).drew id, range_keep RN6.out (Fr.refl No _).drew id⟩
          repeat (first | ((first | with_reducible refine lexL_read ?_ | ((with_reducible refine lexL_readG ?_ ?_); (focus rfl))); apply Exists.intro; refine ⟨?_, ?_⟩; (focus (first | exact lex_load (ty := 30) rfl (fun w h => h.1) uK rK (by rw [XL.out]; exact infoHash) | exact lex_load (ty := 30) rfl (fun w h => h.2) uK rK (by rw [XL.out]; exact infoHash) | exact fun w' h => eqHash.exec_neq (u := (hashC x).toArray) (v := (hashC x).toArray) rfl rfl rfl (keyOfHash XOK.out) (keyOfHash XOK.out) true ⟨fun _ => rfl, fun _ => rfl⟩ w' | (intro w' hS; obtain _ := hS; go_simp; (try with_reducible rfl); done))); try simp only [Act.put, List.setIfInBounds_toArray, List.set_cons_zero, List.set_cons_succ]) | ((first | ((with_reducible refine lexL_skip (c := false) ?_ ?_ ?_); (focus rfl); (focus rfl)) | ((with_reducible refine lexL_skip (c := true) ?_ ?_ ?_); (focus rfl); (focus rfl)) | ((with_reducible refine lexL_skipU ?_ ?_); (focus rfl))); try simp only [Act.put, List.setIfInBounds_toArray, List.set_cons_zero, List.set_cons_succ]))
          refine lexL_nil (hK.out _ _ ?_)
          clear e3
          go_wp2
          go_roundw
          case rel => exact ⟨n + 1, by omega, by go_num, FD.out⟩
          case measure => simp [intOf]; omega
      · have i1 : ¬ (n : Int) < ((ids G).length : Int) := by omega
        go_wp2
        go_ret
        exact ⟨rfl, F4.out.trans0 FR.out⟩
end Go.Proofs.Ytnjkpjcnmdgoeaa
