/- EmbargoActs: the walk. -/
import Derived.Test.YthmaekkjpginoaaDoorEmbLen
import Derived.Test.YthmaekkjpginoaaDoorEmbW4
import Derived.Test.YthmaekkjpginoaaDoorEmbB
namespace Go.Proofs.YthmaekkjpginoaaDoor
open Go Go.RowKit Go.Maps Go.MapKept Go.Sort

theorem own_keysE {w : World} {B : Nat} {e : TypeId} {v : Value} {T : List KT} (h : w.ownsRow B e 33 v T.length ((T.map (·.1)).flatMap keyC)) (ok : ∀ k ∈ T.map (·.1), k.ok) : KeysIs w v (T.map (·.1)) := by
  refine ⟨ok, ?_⟩
  rcases h.2 with ⟨rfl, hn⟩ | ⟨g, cap, cur, rfl, hb, hg, -⟩
  · exact .inl ⟨List.eq_nil_of_length_eq_zero (by rw [List.length_map]; exact hn), none, 0, rfl⟩
  · refine .inr ⟨g, 0, cap, by rw [List.length_map], obj_lt hg, fun i k hk => ?_⟩
    obtain ⟨g', cap', e', hr, -⟩ := own_elem (by decide) (fun k hk => keyC_len (ok k hk)) h hk
    injection e' with e1 e2 e3
    injection e1 with e1
    injection e1 with e1
    subst e1
    rw [Nat.zero_add]
    exact hr

set_option maxRecDepth 20000 in
set_option maxHeartbeats 8000000 in
theorem acts_any (w : World) (hT : TabAt w) {v : Value} {acts : List ActD} (ha : ActsIs w v acts) :
    Calls Tryd.prog 8 #[v] w fun e w' => e = .returned (.bool true) ∧ Fr No w w' := by
  obtain ⟨dA, uA, rA⟩ := descAct
  obtain ⟨dR, uR, rR⟩ := descRKey
  obtain ⟨va, vc, rfl⟩ := ha.2.form
  have HA := Lib.hid ha
  have HT := Lib.hid hT
  clear ha hT
  by_cases hN : acts.length ≤ 120
  · have j1 : ¬ (120 : Int) < (acts.length : Int) := by omega
    go_enter Tryd.func8, Tryd.ntmps8
    go_wp2_with fail
    refine (alive_any w HT.out).mono ?_
    rintro e w1 ⟨rfl, f1⟩
    have F1 := Lib.hid f1
    clear f1
    go_wp2_with fail
    refine (new_T w w1 F1.out).mono ?_
    rintro e w2 ⟨p, V0, rfl, c2, f2, hV⟩
    have RZ := Lib.hid (rnew_T (w0 := w) (w := w2) c2.fr)
    have CZ := Lib.hid (c2.fr0 ((Fr.refl No w2).alloc (.cells #[.slice none 0 0] 53)))
    have DZ := Lib.hid (show ∀ j, V0 j → ¬ (j = w2.heap.size ∨ (Value.slice none 0 0).ownBlock = some j) from fun j h => by
      rintro (rfl | hj)
      · exact Nat.lt_irrefl _ (c2.hi _ h)
      · cases hj)
    clear c2 f2 hV
    go_wp2_with fail
    generalize w2.alloc (.cells #[.slice none 0 0] 53) = w3 at *
    generalize w2.heap.size = q at *
    go_loopw [23] (fun iv wr => ∃ (n : Nat) (T : List KT) (V U : Nat → Prop), iv = .int .i64 n ∧ n ≤ acts.length ∧ CT w wr p V T n ∧ RT w wr q U T ∧ (∀ j, V j → ¬ U j)) (fun iv _ => acts.length - (intOf iv).toNat)
    case atStart => exact ⟨0, [], _, _, rfl, Nat.zero_le _, CZ.out, RZ.out, DZ.out⟩
    case round =>
      clear CZ RZ DZ
      obtain ⟨n, T, V, U, rfl, hn, hct, hrt, hd⟩ := hrel
      have CT1 := Lib.hid hct
      have RT1 := Lib.hid hrt
      have D1 := Lib.hid hd
      clear hct hrt hd
      by_cases h : n < acts.length
      · have i1 : (n : Int) < (acts.length : Int) := by omega
        obtain ⟨a, hx⟩ : ∃ a, acts[n]? = some a := ⟨_, List.getElem?_eq_getElem h⟩
        obtain ⟨b, off, cap, hv, hr, hb⟩ := (HA.out.keep CT1.out.fr).at_ hx
        cases hv
        have AOK := Lib.hid (HA.out.1 a (List.mem_of_getElem? hx))
        have HAL := Lib.hid (actC_len AOK.out)
        have HKL := Lib.hid (keyC_len AOK.out.2.1)
        have R1 := Lib.hid hr
        have VHI := Lib.hid (show ∀ j, V j → j < wr.heap.size from CT1.out.hi)
        have UHI := Lib.hid (show ∀ j, U j → j < wr.heap.size from RT1.out.hi)
        have TL : T.length ≤ 120 := by have := CT1.out.len; omega
        have SRT := Lib.hid CT1.out.good.srt
        have nb0 : (wr.alloc (.cells (actC a).toArray 55)).rangeAt wr.heap.size 0 (actC a) := range_new wr (actC a) 55
        have k0 : (wr.alloc (.cells (actC a).toArray 55)).cell? ⟨wr.heap.size, 0, none⟩ = some (.int .i64 a.kind) := by have := nb0 0 _ (actC_0 a); simpa using this
        have K34 := Lib.hid (show (wr.alloc (.cells (actC a).toArray 55)).cell? ⟨wr.heap.size, 34, none⟩ = some (.int .u64 a.at_) by have := nb0 34 _ (actC_34 AOK.out); simpa using this)
        have RK := Lib.hid (show World.rangeAt (wr.alloc (.cells (actC a).toArray 55)) wr.heap.size 1 (keyC a.k) from act_key nb0)
        have CT2 := Lib.hid (CT1.out.fr0 ((Fr.refl No wr).alloc (.cells (actC a).toArray 55)))
        have RT2 := Lib.hid (RT1.out.fr0 ((Fr.refl No wr).alloc (.cells (actC a).toArray 55)))
        have SZ2 := Lib.hid (show wr.heap.size < (wr.alloc (.cells (actC a).toArray 55)).heap.size by simp)
        clear hr nb0 hx
        have hcase : a.kind = 0 ∨ (¬ a.kind = 0 ∧ a.kind = 1) ∨ (¬ a.kind = 0 ∧ ¬ a.kind = 1 ∧ a.kind = 2) ∨ (¬ a.kind = 0 ∧ ¬ a.kind = 1 ∧ ¬ a.kind = 2) := by omega
        rcases hcase with q0 | ⟨q0, q1⟩ | ⟨q0, q1, q2⟩ | ⟨q0, q1, q2⟩
        · go_wp2_with (first | (refine wpList_value rfl (exec_load (ty := 55) rfl rfl R1.out uA rA (by rw [HAL.out]; exact infoAct)) ?_) | (refine wpList_done rfl (exec_store_new (w := wr) (ty := 55) rfl rfl rfl (by rw [HAL.out]; rfl) (by rw [HAL.out]; exact infoAct) actC_one) ?_))
          generalize wr.alloc (.cells (actC a).toArray 55) = w2 at *
          clear k0 q0
          refine wp_region_lexL [false, false, false, true, false, false, true, false, false, false, false, false, true, false] (fun W => W.cell? ⟨wr.heap.size, 34, none⟩ = some (.int .u64 a.at_) ∧ W.rangeAt wr.heap.size 1 (keyC a.k)) (by kernel_rfl) (by kernel_rfl) ?_ (fun K hK => ?_)
          · exact ⟨K34.out, range_keep RK.out (Fr.refl No _).drew id⟩
          repeat (first | ((first | with_reducible refine lexL_read ?_ | ((with_reducible refine lexL_readG ?_ ?_); (focus rfl))); apply Exists.intro; refine ⟨?_, ?_⟩; (focus (first | exact lex_load (ty := 39) rfl (fun w h => h.2) uR rR (by rw [HKL.out]; exact infoRKey) | (intro w' hS; obtain ⟨s1, s2⟩ := hS; go_simp; (try with_reducible rfl); done))); try simp only [Act.put, List.setIfInBounds_toArray, List.set_cons_zero, List.set_cons_succ]) | ((first | ((with_reducible refine lexL_skip (c := false) ?_ ?_ ?_); (focus rfl); (focus rfl)) | ((with_reducible refine lexL_skip (c := true) ?_ ?_ ?_); (focus rfl); (focus rfl)) | ((with_reducible refine lexL_skipU ?_ ?_); (focus rfl))); try simp only [Act.put, List.setIfInBounds_toArray, List.set_cons_zero, List.set_cons_succ]))
          (first | with_reducible refine lexL_eff (fun K' hK' => ?_) | ((with_reducible refine lexL_effG ?_ (fun K' hK' => ?_)); (focus rfl)))
          go_simp
          refine (of_any _ a.k AOK.out.2.1).mono ?_
          rintro e w3 ⟨rfl, f3⟩
          have g3 := ((Fr.refl No w2).drew).trans0 f3
          refine hK'.out _ _ ?_ (fun hS => ?_)
          · exact ⟨g3.cell K34.out id, range_keep RK.out g3 id⟩
          try simp only [Act.put, List.setIfInBounds_toArray, List.set_cons_zero, List.set_cons_succ]
          repeat (first | ((first | with_reducible refine lexL_read ?_ | ((with_reducible refine lexL_readG ?_ ?_); (focus rfl))); apply Exists.intro; refine ⟨?_, ?_⟩; (focus (first | (intro w' hS; obtain ⟨s1, s2⟩ := hS; go_simp; (try with_reducible rfl); done))); try simp only [Act.put, List.setIfInBounds_toArray, List.set_cons_zero, List.set_cons_succ]) | ((first | ((with_reducible refine lexL_skip (c := false) ?_ ?_ ?_); (focus rfl); (focus rfl)) | ((with_reducible refine lexL_skip (c := true) ?_ ?_ ?_); (focus rfl); (focus rfl)) | ((with_reducible refine lexL_skipU ?_ ?_); (focus rfl))); try simp only [Act.put, List.setIfInBounds_toArray, List.set_cons_zero, List.set_cons_succ]))
          (first | with_reducible refine lexL_eff (fun K' hK' => ?_) | ((with_reducible refine lexL_effG ?_ (fun K' hK' => ?_)); (focus rfl)))
          go_simp
          refine (set_T (CT2.out.fr0 g3) (by omega) a.k AOK.out.2.1 a.at_ AOK.out.2.2).mono ?_
          rintro e w4 ⟨V4, rfl, c4, h4, f4⟩
          have K4 := Lib.hid (f4.cell (g3.cell K34.out id) (fun h => Nat.lt_irrefl _ (VHI.out _ h)))
          have RK4 := Lib.hid (range_keep (range_keep RK.out g3 id) f4 (fun h => Nat.lt_irrefl _ (VHI.out _ h)))
          have RT4 := Lib.hid ((RT2.out.fr0 g3).frV f4 (fun j h1 h2 => D1.out j h2 h1) CT1.out.lo)
          have S3 := Lib.hid (Nat.lt_of_lt_of_le SZ2.out g3.size)
          have S4 := Lib.hid f4.size
          have C4 := Lib.hid c4
          have H4 := Lib.hid h4
          clear c4 h4 f4
          refine hK'.out _ _ ?_ (fun hS => ?_)
          · exact ⟨K4.out, RK4.out⟩
          try simp only [Act.put, List.setIfInBounds_toArray, List.set_cons_zero, List.set_cons_succ]
          repeat (first | ((first | with_reducible refine lexL_read ?_ | ((with_reducible refine lexL_readG ?_ ?_); (focus rfl))); apply Exists.intro; refine ⟨?_, ?_⟩; (focus (first | exact lex_load (ty := 39) rfl (fun w h => h.2) uR rR (by rw [HKL.out]; exact infoRKey) | (intro w' hS; obtain ⟨s1, s2⟩ := hS; go_simp; (try with_reducible rfl); done))); try simp only [Act.put, List.setIfInBounds_toArray, List.set_cons_zero, List.set_cons_succ]) | ((first | ((with_reducible refine lexL_skip (c := false) ?_ ?_ ?_); (focus rfl); (focus rfl)) | ((with_reducible refine lexL_skip (c := true) ?_ ?_ ?_); (focus rfl); (focus rfl)) | ((with_reducible refine lexL_skipU ?_ ?_); (focus rfl))); try simp only [Act.put, List.setIfInBounds_toArray, List.set_cons_zero, List.set_cons_succ]))
          (first | with_reducible refine lexL_eff (fun K' hK' => ?_) | ((with_reducible refine lexL_effG ?_ (fun K' hK' => ?_)); (focus rfl)))
          go_simp
          refine (rset_T RT4.out SRT.out (by omega) a.k AOK.out.2.1 a.at_).mono ?_
          rintro e w5 ⟨U5, rfl, r5, h5, f5⟩
          have K5 := Lib.hid (f5.cell K4.out (fun h => Nat.lt_irrefl _ (UHI.out _ h)))
          have RKZ := Lib.hid (range_keep RK4.out f5 (fun h => Nat.lt_irrefl _ (UHI.out _ h)))
          have CZ := Lib.hid (C4.out.frV f5 (fun j h1 h2 => by
            rcases H4.out j h1 with h | h
            · exact D1.out j h h2
            · have := UHI.out j h2; have := S3.out; omega) RT1.out.lo)
          have RZ := Lib.hid r5
          have DZ := Lib.hid (show ∀ j, V4 j → ¬ U5 j from fun j h1 h2 => by
            have := C4.out.hi j h1
            rcases H4.out j h1 with h | h <;> rcases h5 j h2 with h' | h'
            · exact D1.out j h h'
            · omega
            · have := UHI.out j h'; have := S3.out; omega
            · omega)
          clear r5 h5 f5
          refine hK'.out _ _ ?_ (fun hS => ?_)
          · exact ⟨K5.out, RKZ.out⟩
          try simp only [Act.put, List.setIfInBounds_toArray, List.set_cons_zero, List.set_cons_succ]
          repeat (first | ((first | with_reducible refine lexL_read ?_ | ((with_reducible refine lexL_readG ?_ ?_); (focus rfl))); apply Exists.intro; refine ⟨?_, ?_⟩; (focus (first | (intro w' hS; obtain ⟨s1, s2⟩ := hS; go_simp; (try with_reducible rfl); done))); try simp only [Act.put, List.setIfInBounds_toArray, List.set_cons_zero, List.set_cons_succ]) | ((first | ((with_reducible refine lexL_skip (c := false) ?_ ?_ ?_); (focus rfl); (focus rfl)) | ((with_reducible refine lexL_skip (c := true) ?_ ?_ ?_); (focus rfl); (focus rfl)) | ((with_reducible refine lexL_skipU ?_ ?_); (focus rfl))); try simp only [Act.put, List.setIfInBounds_toArray, List.set_cons_zero, List.set_cons_succ]))
          refine lexL_nil (hK.out _ _ ?_)
          clear C4 H4 RT4 K4 K5 RK4 S3 S4 g3 f3 CT2 RT2 K34 RK SZ2 R1 D1 VHI UHI
          generalize setT T a.k a.at_ = T9 at *
          have TLE : T9.length ≤ 120 := by have := CZ.out.len; omega
          have OK9 := Lib.hid (show ∀ k ∈ T9.map (·.1), k.ok from CZ.out.keyOk)
          obtain ⟨rv, hb, hs, hU, hne⟩ := RZ.out.ex
          obtain ⟨ra, rc, rfl⟩ := hs.arg.form
          have HB := Lib.hid hb
          by_cases hz : T9 = []
          · subst hz
            clear hb hs hU hne
            go_wp2_with (first | (refine wpList_value rfl (exec_load (ty := 55) rfl rfl R1.out uA rA (by rw [HAL.out]; exact infoAct)) ?_) | (refine wpList_done rfl (exec_store_new (w := wr) (ty := 55) rfl rfl rfl (by rw [HAL.out]; rfl) (by rw [HAL.out]; exact infoAct) actC_one) ?_) | (refine wpList_value rfl (exec_load (ty := 39) rfl rfl RK11 uR rR (by rw [HKL.out]; exact infoRKey)) ?_) | (refine wpList_value rfl (exec_load (ty := 39) rfl rfl RKZ.out uR rR (by rw [HKL.out]; exact infoRKey)) ?_) | (go_at_call 17; refine (of_any _ a.k AOK.out.2.1).mono ?_; rintro e w10 ⟨rfl, f10⟩) | (go_at_call 19; refine (till_T (CZ.out.fr0 f10) (by omega) a.k AOK.out.2.1).mono ?_; rintro e w11 ⟨rfl, f11⟩; have RK11 := range_keep RKZ.out (f10.trans0 f11) id) | (go_at_call 26; refine (rtill_T (RZ.out.fr0 (f10.trans0 f11)) (by omega) a.k AOK.out.2.1).mono ?_; rintro e w12 ⟨rfl, f12⟩) | (go_at_call 27; refine (next_T (CZ.out.fr0 ((f10.trans0 f11).trans0 f12)) (by omega)).mono ?_; rintro e w13 ⟨rfl, f13⟩; have G13 := ((f10.trans0 f11).trans0 f12).trans0 f13; rw [show nextT ([] : List KT) = 0 from rfl, show (!([] : List KT).isEmpty) = false from rfl]; have cq : w13.cell? ⟨q, 0, none⟩ = some (.slice ra 0 rc) := (by have hq := G13.obj HB.out id; simp [World.cell?, hq])) | (go_at_call 15; refine (all_T (CZ.out.fr0 G13) (by omega)).mono ?_; rintro e w14 ⟨v14, rfl, o14, f14⟩) | (go_at_call 28; refine (rall_T (RZ.out.fr0 (G13.trans0 f14)) (by omega)).mono ?_; rintro e w15 ⟨v15, rfl, o15, f15⟩; have KW := (own_keysE o14 OK9.out).keep f15; have KR := own_keysE o15 OK9.out) | (go_at_call 24; refine (same_any _ KW KR (by rw [List.length_map]; omega) (by rw [List.length_map]; omega)).mono ?_; rintro e w16 ⟨bb, rfl, hbb, f16⟩; obtain rfl : bb = true := hbb.2 rfl))
            have G16 := ((G13.trans0 f14).trans0 f15).trans0 f16
            go_roundw
            case rel => exact ⟨n + 1, _, _, _, by simp, by omega, CZ.out.fr0 G16, RZ.out.fr0 G16, DZ.out⟩
            case measure => show acts.length - (n + 1) < acts.length - n; omega
          · have hR1 : 0 < T9.length := List.length_pos_iff.2 hz
            have hR0 : (0 : Int) < (T9.length : Int) := by omega
            obtain ⟨x, hx⟩ : ∃ x, T9[0]? = some x := ⟨_, List.getElem?_eq_getElem hR1⟩
            have NX := Lib.hid (show nextT T9 = x.2 by unfold nextT; rw [List.head?_eq_getElem?, hx]; rfl)
            have RE := Lib.hid (show (!T9.isEmpty) = true by cases T9 with | nil => exact absurd rfl hz | cons y R => rfl)
            obtain ⟨b9, off9, cap9, hv9, hr9, -⟩ := hs.elem (i := 0) (x := x) (by decide) (fun y hy => rkC_len (RZ.out.ok y hy)) hx
            cases hv9
            rw [Nat.zero_mul, Nat.add_zero] at hr9
            have C33 := Lib.hid (hr9 33 _ (rkC_33 (RZ.out.ok x (List.mem_of_getElem? hx))))
            clear hb hs hU hne hx hr9 hz
            go_wp2_with (first | (refine wpList_value rfl (exec_load (ty := 55) rfl rfl R1.out uA rA (by rw [HAL.out]; exact infoAct)) ?_) | (refine wpList_done rfl (exec_store_new (w := wr) (ty := 55) rfl rfl rfl (by rw [HAL.out]; rfl) (by rw [HAL.out]; exact infoAct) actC_one) ?_) | (refine wpList_value rfl (exec_load (ty := 39) rfl rfl RK11 uR rR (by rw [HKL.out]; exact infoRKey)) ?_) | (refine wpList_value rfl (exec_load (ty := 39) rfl rfl RKZ.out uR rR (by rw [HKL.out]; exact infoRKey)) ?_) | (go_at_call 17; refine (of_any _ a.k AOK.out.2.1).mono ?_; rintro e w10 ⟨rfl, f10⟩) | (go_at_call 19; refine (till_T (CZ.out.fr0 f10) (by omega) a.k AOK.out.2.1).mono ?_; rintro e w11 ⟨rfl, f11⟩; have RK11 := range_keep RKZ.out (f10.trans0 f11) id) | (go_at_call 26; refine (rtill_T (RZ.out.fr0 (f10.trans0 f11)) (by omega) a.k AOK.out.2.1).mono ?_; rintro e w12 ⟨rfl, f12⟩) | (go_at_call 27; refine (next_T (CZ.out.fr0 ((f10.trans0 f11).trans0 f12)) (by omega)).mono ?_; rintro e w13 ⟨rfl, f13⟩; have G13 := ((f10.trans0 f11).trans0 f12).trans0 f13; rw [NX.out, RE.out]; have cq : w13.cell? ⟨q, 0, none⟩ = some (.slice (some ⟨b9, off9, none⟩) T9.length rc) := (by have hq := G13.obj HB.out id; simp [World.cell?, hq]); have c33 := G13.cell C33.out id) | (go_at_call 15; refine (all_T (CZ.out.fr0 G13) (by omega)).mono ?_; rintro e w14 ⟨v14, rfl, o14, f14⟩) | (go_at_call 28; refine (rall_T (RZ.out.fr0 (G13.trans0 f14)) (by omega)).mono ?_; rintro e w15 ⟨v15, rfl, o15, f15⟩; have KW := (own_keysE o14 OK9.out).keep f15; have KR := own_keysE o15 OK9.out) | (go_at_call 24; refine (same_any _ KW KR (by rw [List.length_map]; omega) (by rw [List.length_map]; omega)).mono ?_; rintro e w16 ⟨bb, rfl, hbb, f16⟩; obtain rfl : bb = true := hbb.2 rfl))
            have G16 := ((G13.trans0 f14).trans0 f15).trans0 f16
            go_roundw
            case rel => exact ⟨n + 1, _, _, _, by simp, by omega, CZ.out.fr0 G16, RZ.out.fr0 G16, DZ.out⟩
            case measure => show acts.length - (n + 1) < acts.length - n; omega
        · go_wp2_with (first | (refine wpList_value rfl (exec_load (ty := 55) rfl rfl R1.out uA rA (by rw [HAL.out]; exact infoAct)) ?_) | (refine wpList_done rfl (exec_store_new (w := wr) (ty := 55) rfl rfl rfl (by rw [HAL.out]; rfl) (by rw [HAL.out]; exact infoAct) actC_one) ?_))
          generalize wr.alloc (.cells (actC a).toArray 55) = w2 at *
          clear k0 q0 q1
          refine wp_region_lexL [false, false, false, true, true, false, false, false, true, false] (fun W => W.cell? ⟨wr.heap.size, 34, none⟩ = some (.int .u64 a.at_) ∧ W.rangeAt wr.heap.size 1 (keyC a.k)) (by kernel_rfl) (by kernel_rfl) ?_ (fun K hK => ?_)
          · exact ⟨K34.out, range_keep RK.out (Fr.refl No _).drew id⟩
          repeat (first | ((first | with_reducible refine lexL_read ?_ | ((with_reducible refine lexL_readG ?_ ?_); (focus rfl))); apply Exists.intro; refine ⟨?_, ?_⟩; (focus (first | exact lex_load (ty := 39) rfl (fun w h => h.2) uR rR (by rw [HKL.out]; exact infoRKey) | (intro w' hS; obtain ⟨s1, s2⟩ := hS; go_simp; (try with_reducible rfl); done))); try simp only [Act.put, List.setIfInBounds_toArray, List.set_cons_zero, List.set_cons_succ]) | ((first | ((with_reducible refine lexL_skip (c := false) ?_ ?_ ?_); (focus rfl); (focus rfl)) | ((with_reducible refine lexL_skip (c := true) ?_ ?_ ?_); (focus rfl); (focus rfl)) | ((with_reducible refine lexL_skipU ?_ ?_); (focus rfl))); try simp only [Act.put, List.setIfInBounds_toArray, List.set_cons_zero, List.set_cons_succ]))
          (first | with_reducible refine lexL_eff (fun K' hK' => ?_) | ((with_reducible refine lexL_effG ?_ (fun K' hK' => ?_)); (focus rfl)))
          go_simp
          refine (of_any _ a.k AOK.out.2.1).mono ?_
          rintro e w3 ⟨rfl, f3⟩
          have g3 := ((Fr.refl No w2).drew).trans0 f3
          refine hK'.out _ _ ?_ (fun hS => ?_)
          · exact ⟨g3.cell K34.out id, range_keep RK.out g3 id⟩
          try simp only [Act.put, List.setIfInBounds_toArray, List.set_cons_zero, List.set_cons_succ]
          repeat (first | ((first | with_reducible refine lexL_read ?_ | ((with_reducible refine lexL_readG ?_ ?_); (focus rfl))); apply Exists.intro; refine ⟨?_, ?_⟩; (focus (first | (intro w' hS; obtain ⟨s1, s2⟩ := hS; go_simp; (try with_reducible rfl); done))); try simp only [Act.put, List.setIfInBounds_toArray, List.set_cons_zero, List.set_cons_succ]) | ((first | ((with_reducible refine lexL_skip (c := false) ?_ ?_ ?_); (focus rfl); (focus rfl)) | ((with_reducible refine lexL_skip (c := true) ?_ ?_ ?_); (focus rfl); (focus rfl)) | ((with_reducible refine lexL_skipU ?_ ?_); (focus rfl))); try simp only [Act.put, List.setIfInBounds_toArray, List.set_cons_zero, List.set_cons_succ]))
          (first | with_reducible refine lexL_eff (fun K' hK' => ?_) | ((with_reducible refine lexL_effG ?_ (fun K' hK' => ?_)); (focus rfl)))
          go_simp
          refine (drop_T (CT2.out.fr0 g3) (by omega) a.k AOK.out.2.1).mono ?_
          rintro e w4 ⟨rfl, c4, f4⟩
          have K4 := Lib.hid (f4.cell (g3.cell K34.out id) (fun h => Nat.lt_irrefl _ (VHI.out _ h)))
          have RK4 := Lib.hid (range_keep (range_keep RK.out g3 id) f4 (fun h => Nat.lt_irrefl _ (VHI.out _ h)))
          have RT4 := Lib.hid ((RT2.out.fr0 g3).frV f4 (fun j h1 h2 => D1.out j h2 h1) CT1.out.lo)
          have S4 := Lib.hid (Nat.le_trans (Nat.le_of_lt SZ2.out) (Nat.le_trans g3.size f4.size))
          have C4 := Lib.hid c4
          clear c4 f4
          refine hK'.out _ _ ?_ (fun hS => ?_)
          · exact ⟨K4.out, RK4.out⟩
          try simp only [Act.put, List.setIfInBounds_toArray, List.set_cons_zero, List.set_cons_succ]
          repeat (first | ((first | with_reducible refine lexL_read ?_ | ((with_reducible refine lexL_readG ?_ ?_); (focus rfl))); apply Exists.intro; refine ⟨?_, ?_⟩; (focus (first | exact lex_load (ty := 39) rfl (fun w h => h.2) uR rR (by rw [HKL.out]; exact infoRKey) | (intro w' hS; obtain ⟨s1, s2⟩ := hS; go_simp; (try with_reducible rfl); done))); try simp only [Act.put, List.setIfInBounds_toArray, List.set_cons_zero, List.set_cons_succ]) | ((first | ((with_reducible refine lexL_skip (c := false) ?_ ?_ ?_); (focus rfl); (focus rfl)) | ((with_reducible refine lexL_skip (c := true) ?_ ?_ ?_); (focus rfl); (focus rfl)) | ((with_reducible refine lexL_skipU ?_ ?_); (focus rfl))); try simp only [Act.put, List.setIfInBounds_toArray, List.set_cons_zero, List.set_cons_succ]))
          (first | with_reducible refine lexL_eff (fun K' hK' => ?_) | ((with_reducible refine lexL_effG ?_ (fun K' hK' => ?_)); (focus rfl)))
          go_simp
          refine (rdrop_T RT4.out (by omega) a.k AOK.out.2.1).mono ?_
          rintro e w5 ⟨U5, rfl, r5, h5, f5⟩
          have K5 := Lib.hid (f5.cell K4.out (fun h => Nat.lt_irrefl _ (UHI.out _ h)))
          have RKZ := Lib.hid (range_keep RK4.out f5 (fun h => Nat.lt_irrefl _ (UHI.out _ h)))
          have CZ := Lib.hid ((C4.out.frV f5 (fun j h1 h2 => D1.out j h1 h2) RT1.out.lo).more (Nat.le_succ n))
          have RZ := Lib.hid r5
          have DZ := Lib.hid (show ∀ j, V j → ¬ U5 j from fun j h1 h2 => by
            rcases h5 j h2 with h' | h'
            · exact D1.out j h1 h'
            · have := VHI.out j h1; have := S4.out; omega)
          clear r5 h5 f5
          refine hK'.out _ _ ?_ (fun hS => ?_)
          · exact ⟨K5.out, RKZ.out⟩
          try simp only [Act.put, List.setIfInBounds_toArray, List.set_cons_zero, List.set_cons_succ]
          repeat (first | ((first | with_reducible refine lexL_read ?_ | ((with_reducible refine lexL_readG ?_ ?_); (focus rfl))); apply Exists.intro; refine ⟨?_, ?_⟩; (focus (first | (intro w' hS; obtain ⟨s1, s2⟩ := hS; go_simp; (try with_reducible rfl); done))); try simp only [Act.put, List.setIfInBounds_toArray, List.set_cons_zero, List.set_cons_succ]) | ((first | ((with_reducible refine lexL_skip (c := false) ?_ ?_ ?_); (focus rfl); (focus rfl)) | ((with_reducible refine lexL_skip (c := true) ?_ ?_ ?_); (focus rfl); (focus rfl)) | ((with_reducible refine lexL_skipU ?_ ?_); (focus rfl))); try simp only [Act.put, List.setIfInBounds_toArray, List.set_cons_zero, List.set_cons_succ]))
          refine lexL_nil (hK.out _ _ ?_)
          clear C4 RT4 K4 K5 RK4 S4 g3 f3 CT2 RT2 K34 RK SZ2 R1 D1 VHI UHI
          generalize delT T a.k = T9 at *
          have TLE : T9.length ≤ 120 := by have := CZ.out.len; omega
          have OK9 := Lib.hid (show ∀ k ∈ T9.map (·.1), k.ok from CZ.out.keyOk)
          obtain ⟨rv, hb, hs, hU, hne⟩ := RZ.out.ex
          obtain ⟨ra, rc, rfl⟩ := hs.arg.form
          have HB := Lib.hid hb
          by_cases hz : T9 = []
          · subst hz
            clear hb hs hU hne
            go_wp2_with (first | (refine wpList_value rfl (exec_load (ty := 55) rfl rfl R1.out uA rA (by rw [HAL.out]; exact infoAct)) ?_) | (refine wpList_done rfl (exec_store_new (w := wr) (ty := 55) rfl rfl rfl (by rw [HAL.out]; rfl) (by rw [HAL.out]; exact infoAct) actC_one) ?_) | (refine wpList_value rfl (exec_load (ty := 39) rfl rfl RK11 uR rR (by rw [HKL.out]; exact infoRKey)) ?_) | (refine wpList_value rfl (exec_load (ty := 39) rfl rfl RKZ.out uR rR (by rw [HKL.out]; exact infoRKey)) ?_) | (go_at_call 17; refine (of_any _ a.k AOK.out.2.1).mono ?_; rintro e w10 ⟨rfl, f10⟩) | (go_at_call 19; refine (till_T (CZ.out.fr0 f10) (by omega) a.k AOK.out.2.1).mono ?_; rintro e w11 ⟨rfl, f11⟩; have RK11 := range_keep RKZ.out (f10.trans0 f11) id) | (go_at_call 26; refine (rtill_T (RZ.out.fr0 (f10.trans0 f11)) (by omega) a.k AOK.out.2.1).mono ?_; rintro e w12 ⟨rfl, f12⟩) | (go_at_call 27; refine (next_T (CZ.out.fr0 ((f10.trans0 f11).trans0 f12)) (by omega)).mono ?_; rintro e w13 ⟨rfl, f13⟩; have G13 := ((f10.trans0 f11).trans0 f12).trans0 f13; rw [show nextT ([] : List KT) = 0 from rfl, show (!([] : List KT).isEmpty) = false from rfl]; have cq : w13.cell? ⟨q, 0, none⟩ = some (.slice ra 0 rc) := (by have hq := G13.obj HB.out id; simp [World.cell?, hq])) | (go_at_call 15; refine (all_T (CZ.out.fr0 G13) (by omega)).mono ?_; rintro e w14 ⟨v14, rfl, o14, f14⟩) | (go_at_call 28; refine (rall_T (RZ.out.fr0 (G13.trans0 f14)) (by omega)).mono ?_; rintro e w15 ⟨v15, rfl, o15, f15⟩; have KW := (own_keysE o14 OK9.out).keep f15; have KR := own_keysE o15 OK9.out) | (go_at_call 24; refine (same_any _ KW KR (by rw [List.length_map]; omega) (by rw [List.length_map]; omega)).mono ?_; rintro e w16 ⟨bb, rfl, hbb, f16⟩; obtain rfl : bb = true := hbb.2 rfl))
            have G16 := ((G13.trans0 f14).trans0 f15).trans0 f16
            go_roundw
            case rel => exact ⟨n + 1, _, _, _, by simp, by omega, CZ.out.fr0 G16, RZ.out.fr0 G16, DZ.out⟩
            case measure => show acts.length - (n + 1) < acts.length - n; omega
          · have hR1 : 0 < T9.length := List.length_pos_iff.2 hz
            have hR0 : (0 : Int) < (T9.length : Int) := by omega
            obtain ⟨x, hx⟩ : ∃ x, T9[0]? = some x := ⟨_, List.getElem?_eq_getElem hR1⟩
            have NX := Lib.hid (show nextT T9 = x.2 by unfold nextT; rw [List.head?_eq_getElem?, hx]; rfl)
            have RE := Lib.hid (show (!T9.isEmpty) = true by cases T9 with | nil => exact absurd rfl hz | cons y R => rfl)
            obtain ⟨b9, off9, cap9, hv9, hr9, -⟩ := hs.elem (i := 0) (x := x) (by decide) (fun y hy => rkC_len (RZ.out.ok y hy)) hx
            cases hv9
            rw [Nat.zero_mul, Nat.add_zero] at hr9
            have C33 := Lib.hid (hr9 33 _ (rkC_33 (RZ.out.ok x (List.mem_of_getElem? hx))))
            clear hb hs hU hne hx hr9 hz
            go_wp2_with (first | (refine wpList_value rfl (exec_load (ty := 55) rfl rfl R1.out uA rA (by rw [HAL.out]; exact infoAct)) ?_) | (refine wpList_done rfl (exec_store_new (w := wr) (ty := 55) rfl rfl rfl (by rw [HAL.out]; rfl) (by rw [HAL.out]; exact infoAct) actC_one) ?_) | (refine wpList_value rfl (exec_load (ty := 39) rfl rfl RK11 uR rR (by rw [HKL.out]; exact infoRKey)) ?_) | (refine wpList_value rfl (exec_load (ty := 39) rfl rfl RKZ.out uR rR (by rw [HKL.out]; exact infoRKey)) ?_) | (go_at_call 17; refine (of_any _ a.k AOK.out.2.1).mono ?_; rintro e w10 ⟨rfl, f10⟩) | (go_at_call 19; refine (till_T (CZ.out.fr0 f10) (by omega) a.k AOK.out.2.1).mono ?_; rintro e w11 ⟨rfl, f11⟩; have RK11 := range_keep RKZ.out (f10.trans0 f11) id) | (go_at_call 26; refine (rtill_T (RZ.out.fr0 (f10.trans0 f11)) (by omega) a.k AOK.out.2.1).mono ?_; rintro e w12 ⟨rfl, f12⟩) | (go_at_call 27; refine (next_T (CZ.out.fr0 ((f10.trans0 f11).trans0 f12)) (by omega)).mono ?_; rintro e w13 ⟨rfl, f13⟩; have G13 := ((f10.trans0 f11).trans0 f12).trans0 f13; rw [NX.out, RE.out]; have cq : w13.cell? ⟨q, 0, none⟩ = some (.slice (some ⟨b9, off9, none⟩) T9.length rc) := (by have hq := G13.obj HB.out id; simp [World.cell?, hq]); have c33 := G13.cell C33.out id) | (go_at_call 15; refine (all_T (CZ.out.fr0 G13) (by omega)).mono ?_; rintro e w14 ⟨v14, rfl, o14, f14⟩) | (go_at_call 28; refine (rall_T (RZ.out.fr0 (G13.trans0 f14)) (by omega)).mono ?_; rintro e w15 ⟨v15, rfl, o15, f15⟩; have KW := (own_keysE o14 OK9.out).keep f15; have KR := own_keysE o15 OK9.out) | (go_at_call 24; refine (same_any _ KW KR (by rw [List.length_map]; omega) (by rw [List.length_map]; omega)).mono ?_; rintro e w16 ⟨bb, rfl, hbb, f16⟩; obtain rfl : bb = true := hbb.2 rfl))
            have G16 := ((G13.trans0 f14).trans0 f15).trans0 f16
            go_roundw
            case rel => exact ⟨n + 1, _, _, _, by simp, by omega, CZ.out.fr0 G16, RZ.out.fr0 G16, DZ.out⟩
            case measure => show acts.length - (n + 1) < acts.length - n; omega
        · go_wp2_with (first | (refine wpList_value rfl (exec_load (ty := 55) rfl rfl R1.out uA rA (by rw [HAL.out]; exact infoAct)) ?_) | (refine wpList_done rfl (exec_store_new (w := wr) (ty := 55) rfl rfl rfl (by rw [HAL.out]; rfl) (by rw [HAL.out]; exact infoAct) actC_one) ?_))
          generalize wr.alloc (.cells (actC a).toArray 55) = w2 at *
          clear k0 q0 q1 q2
          refine wp_region_lexL [false, false, false, true, false, false, false, true, true, false] (fun W => W.cell? ⟨wr.heap.size, 34, none⟩ = some (.int .u64 a.at_) ∧ W.rangeAt wr.heap.size 1 (keyC a.k)) (by kernel_rfl) (by kernel_rfl) ?_ (fun K hK => ?_)
          · exact ⟨K34.out, range_keep RK.out (Fr.refl No _).drew id⟩
          repeat (first | ((first | with_reducible refine lexL_read ?_ | ((with_reducible refine lexL_readG ?_ ?_); (focus rfl))); apply Exists.intro; refine ⟨?_, ?_⟩; (focus (first | (intro w' hS; obtain ⟨s1, s2⟩ := hS; go_simp; (try with_reducible rfl); done))); try simp only [Act.put, List.setIfInBounds_toArray, List.set_cons_zero, List.set_cons_succ]) | ((first | ((with_reducible refine lexL_skip (c := false) ?_ ?_ ?_); (focus rfl); (focus rfl)) | ((with_reducible refine lexL_skip (c := true) ?_ ?_ ?_); (focus rfl); (focus rfl)) | ((with_reducible refine lexL_skipU ?_ ?_); (focus rfl))); try simp only [Act.put, List.setIfInBounds_toArray, List.set_cons_zero, List.set_cons_succ]))
          (first | with_reducible refine lexL_eff (fun K' hK' => ?_) | ((with_reducible refine lexL_effG ?_ (fun K' hK' => ?_)); (focus rfl)))
          go_simp
          have g3 := (Fr.refl No w2).drew
          refine (due_T (CT2.out.fr0 g3) (by omega) a.at_).mono ?_
          rintro e w4 ⟨v4, rfl, o4, c4, f4⟩
          have K4 := Lib.hid (f4.cell (g3.cell K34.out id) (fun h => Nat.lt_irrefl _ (VHI.out _ h)))
          have RK4 := Lib.hid (range_keep (range_keep RK.out g3 id) f4 (fun h => Nat.lt_irrefl _ (VHI.out _ h)))
          have RT4 := Lib.hid ((RT2.out.fr0 g3).frV f4 (fun j h1 h2 => D1.out j h2 h1) CT1.out.lo)
          have S3 := Lib.hid (Nat.le_trans (Nat.le_of_lt SZ2.out) g3.size)
          have C4 := Lib.hid c4
          have O4 := Lib.hid o4
          have OKD := Lib.hid (show ∀ k ∈ (T.takeWhile (dueT a.at_)).map (·.1), k.ok from fun k hk => CT1.out.keyOk k (((List.takeWhile_prefix _).sublist.map (fun x : KT => x.1)).subset hk))
          have LD : (T.takeWhile (dueT a.at_)).length ≤ 120 := by have h1 := (List.takeWhile_prefix (l := T) (dueT a.at_)).length_le; omega
          clear c4 o4 f4
          refine hK'.out _ _ ?_ (fun hS => ?_)
          · exact ⟨K4.out, RK4.out⟩
          try simp only [Act.put, List.setIfInBounds_toArray, List.set_cons_zero, List.set_cons_succ]
          repeat (first | ((first | with_reducible refine lexL_read ?_ | ((with_reducible refine lexL_readG ?_ ?_); (focus rfl))); apply Exists.intro; refine ⟨?_, ?_⟩; (focus (first | (intro w' hS; obtain ⟨s1, s2⟩ := hS; go_simp; (try with_reducible rfl); done))); try simp only [Act.put, List.setIfInBounds_toArray, List.set_cons_zero, List.set_cons_succ]) | ((first | ((with_reducible refine lexL_skip (c := false) ?_ ?_ ?_); (focus rfl); (focus rfl)) | ((with_reducible refine lexL_skip (c := true) ?_ ?_ ?_); (focus rfl); (focus rfl)) | ((with_reducible refine lexL_skipU ?_ ?_); (focus rfl))); try simp only [Act.put, List.setIfInBounds_toArray, List.set_cons_zero, List.set_cons_succ]))
          (first | with_reducible refine lexL_eff (fun K' hK' => ?_) | ((with_reducible refine lexL_effG ?_ (fun K' hK' => ?_)); (focus rfl)))
          go_simp
          refine (rdue_T RT4.out (by omega) a.at_).mono ?_
          rintro e w5 ⟨v5, rfl, o5, r5, f5⟩
          have K5 := Lib.hid (f5.cell K4.out (fun h => Nat.lt_irrefl _ (UHI.out _ h)))
          have RK5 := Lib.hid (range_keep RK4.out f5 (fun h => Nat.lt_irrefl _ (UHI.out _ h)))
          have CZ5 := Lib.hid ((C4.out.frV f5 (fun j h1 h2 => D1.out j h1 h2) RT1.out.lo).more (Nat.le_succ n))
          have KW := Lib.hid (own_keysE (ownsRow_keep O4.out f5 (fun j e h => by have := (O4.out.lt j e).1; have := UHI.out j h; have := S3.out; omega)) OKD.out)
          have KR := Lib.hid (own_keysE o5 OKD.out)
          have RZ5 := Lib.hid r5
          clear r5 o5 f5
          refine hK'.out _ _ ?_ (fun hS => ?_)
          · exact ⟨K5.out, RK5.out⟩
          try simp only [Act.put, List.setIfInBounds_toArray, List.set_cons_zero, List.set_cons_succ]
          repeat (first | ((first | with_reducible refine lexL_read ?_ | ((with_reducible refine lexL_readG ?_ ?_); (focus rfl))); apply Exists.intro; refine ⟨?_, ?_⟩; (focus (first | (intro w' hS; obtain ⟨s1, s2⟩ := hS; go_simp; (try with_reducible rfl); done))); try simp only [Act.put, List.setIfInBounds_toArray, List.set_cons_zero, List.set_cons_succ]) | ((first | ((with_reducible refine lexL_skip (c := false) ?_ ?_ ?_); (focus rfl); (focus rfl)) | ((with_reducible refine lexL_skip (c := true) ?_ ?_ ?_); (focus rfl); (focus rfl)) | ((with_reducible refine lexL_skipU ?_ ?_); (focus rfl))); try simp only [Act.put, List.setIfInBounds_toArray, List.set_cons_zero, List.set_cons_succ]))
          (first | with_reducible refine lexL_eff (fun K' hK' => ?_) | ((with_reducible refine lexL_effG ?_ (fun K' hK' => ?_)); (focus rfl)))
          go_simp
          refine (same_any _ KW.out KR.out (by rw [List.length_map]; omega) (by rw [List.length_map]; omega)).mono ?_
          rintro e w6 ⟨bb, rfl, hbb, f6⟩
          obtain rfl : bb = true := hbb.2 rfl
          have K6 := Lib.hid (f6.cell K5.out id)
          have RKZ := Lib.hid (range_keep RK5.out f6 id)
          have CZ := Lib.hid (CZ5.out.fr0 f6)
          have RZ := Lib.hid (RZ5.out.fr0 f6)
          have DZ := D1
          clear f6 hbb
          refine hK'.out _ _ ?_ (fun hS => ?_)
          · exact ⟨K6.out, RKZ.out⟩
          try simp only [Act.put, List.setIfInBounds_toArray, List.set_cons_zero, List.set_cons_succ]
          repeat (first | ((first | with_reducible refine lexL_read ?_ | ((with_reducible refine lexL_readG ?_ ?_); (focus rfl))); apply Exists.intro; refine ⟨?_, ?_⟩; (focus (first | (intro w' hS; obtain ⟨s1, s2⟩ := hS; go_simp; (try with_reducible rfl); done))); try simp only [Act.put, List.setIfInBounds_toArray, List.set_cons_zero, List.set_cons_succ]) | ((first | ((with_reducible refine lexL_skip (c := false) ?_ ?_ ?_); (focus rfl); (focus rfl)) | ((with_reducible refine lexL_skip (c := true) ?_ ?_ ?_); (focus rfl); (focus rfl)) | ((with_reducible refine lexL_skipU ?_ ?_); (focus rfl))); try simp only [Act.put, List.setIfInBounds_toArray, List.set_cons_zero, List.set_cons_succ]))
          refine lexL_nil (hK.out _ _ ?_)
          clear C4 RT4 K4 K5 K6 RK4 RK5 S3 g3 O4 OKD LD CZ5 RZ5 KW KR CT2 RT2 K34 RK SZ2 R1 D1 VHI UHI
          generalize T.dropWhile (dueT a.at_) = T9 at *
          have TLE : T9.length ≤ 120 := by have := CZ.out.len; omega
          have OK9 := Lib.hid (show ∀ k ∈ T9.map (·.1), k.ok from CZ.out.keyOk)
          obtain ⟨rv, hb, hs, hU, hne⟩ := RZ.out.ex
          obtain ⟨ra, rc, rfl⟩ := hs.arg.form
          have HB := Lib.hid hb
          by_cases hz : T9 = []
          · subst hz
            clear hb hs hU hne
            go_wp2_with (first | (refine wpList_value rfl (exec_load (ty := 55) rfl rfl R1.out uA rA (by rw [HAL.out]; exact infoAct)) ?_) | (refine wpList_done rfl (exec_store_new (w := wr) (ty := 55) rfl rfl rfl (by rw [HAL.out]; rfl) (by rw [HAL.out]; exact infoAct) actC_one) ?_) | (refine wpList_value rfl (exec_load (ty := 39) rfl rfl RK11 uR rR (by rw [HKL.out]; exact infoRKey)) ?_) | (refine wpList_value rfl (exec_load (ty := 39) rfl rfl RKZ.out uR rR (by rw [HKL.out]; exact infoRKey)) ?_) | (go_at_call 17; refine (of_any _ a.k AOK.out.2.1).mono ?_; rintro e w10 ⟨rfl, f10⟩) | (go_at_call 19; refine (till_T (CZ.out.fr0 f10) (by omega) a.k AOK.out.2.1).mono ?_; rintro e w11 ⟨rfl, f11⟩; have RK11 := range_keep RKZ.out (f10.trans0 f11) id) | (go_at_call 26; refine (rtill_T (RZ.out.fr0 (f10.trans0 f11)) (by omega) a.k AOK.out.2.1).mono ?_; rintro e w12 ⟨rfl, f12⟩) | (go_at_call 27; refine (next_T (CZ.out.fr0 ((f10.trans0 f11).trans0 f12)) (by omega)).mono ?_; rintro e w13 ⟨rfl, f13⟩; have G13 := ((f10.trans0 f11).trans0 f12).trans0 f13; rw [show nextT ([] : List KT) = 0 from rfl, show (!([] : List KT).isEmpty) = false from rfl]; have cq : w13.cell? ⟨q, 0, none⟩ = some (.slice ra 0 rc) := (by have hq := G13.obj HB.out id; simp [World.cell?, hq])) | (go_at_call 15; refine (all_T (CZ.out.fr0 G13) (by omega)).mono ?_; rintro e w14 ⟨v14, rfl, o14, f14⟩) | (go_at_call 28; refine (rall_T (RZ.out.fr0 (G13.trans0 f14)) (by omega)).mono ?_; rintro e w15 ⟨v15, rfl, o15, f15⟩; have KW := (own_keysE o14 OK9.out).keep f15; have KR := own_keysE o15 OK9.out) | (go_at_call 24; refine (same_any _ KW KR (by rw [List.length_map]; omega) (by rw [List.length_map]; omega)).mono ?_; rintro e w16 ⟨bb, rfl, hbb, f16⟩; obtain rfl : bb = true := hbb.2 rfl))
            have G16 := ((G13.trans0 f14).trans0 f15).trans0 f16
            go_roundw
            case rel => exact ⟨n + 1, _, _, _, by simp, by omega, CZ.out.fr0 G16, RZ.out.fr0 G16, DZ.out⟩
            case measure => show acts.length - (n + 1) < acts.length - n; omega
          · have hR1 : 0 < T9.length := List.length_pos_iff.2 hz
            have hR0 : (0 : Int) < (T9.length : Int) := by omega
            obtain ⟨x, hx⟩ : ∃ x, T9[0]? = some x := ⟨_, List.getElem?_eq_getElem hR1⟩
            have NX := Lib.hid (show nextT T9 = x.2 by unfold nextT; rw [List.head?_eq_getElem?, hx]; rfl)
            have RE := Lib.hid (show (!T9.isEmpty) = true by cases T9 with | nil => exact absurd rfl hz | cons y R => rfl)
            obtain ⟨b9, off9, cap9, hv9, hr9, -⟩ := hs.elem (i := 0) (x := x) (by decide) (fun y hy => rkC_len (RZ.out.ok y hy)) hx
            cases hv9
            rw [Nat.zero_mul, Nat.add_zero] at hr9
            have C33 := Lib.hid (hr9 33 _ (rkC_33 (RZ.out.ok x (List.mem_of_getElem? hx))))
            clear hb hs hU hne hx hr9 hz
            go_wp2_with (first | (refine wpList_value rfl (exec_load (ty := 55) rfl rfl R1.out uA rA (by rw [HAL.out]; exact infoAct)) ?_) | (refine wpList_done rfl (exec_store_new (w := wr) (ty := 55) rfl rfl rfl (by rw [HAL.out]; rfl) (by rw [HAL.out]; exact infoAct) actC_one) ?_) | (refine wpList_value rfl (exec_load (ty := 39) rfl rfl RK11 uR rR (by rw [HKL.out]; exact infoRKey)) ?_) | (refine wpList_value rfl (exec_load (ty := 39) rfl rfl RKZ.out uR rR (by rw [HKL.out]; exact infoRKey)) ?_) | (go_at_call 17; refine (of_any _ a.k AOK.out.2.1).mono ?_; rintro e w10 ⟨rfl, f10⟩) | (go_at_call 19; refine (till_T (CZ.out.fr0 f10) (by omega) a.k AOK.out.2.1).mono ?_; rintro e w11 ⟨rfl, f11⟩; have RK11 := range_keep RKZ.out (f10.trans0 f11) id) | (go_at_call 26; refine (rtill_T (RZ.out.fr0 (f10.trans0 f11)) (by omega) a.k AOK.out.2.1).mono ?_; rintro e w12 ⟨rfl, f12⟩) | (go_at_call 27; refine (next_T (CZ.out.fr0 ((f10.trans0 f11).trans0 f12)) (by omega)).mono ?_; rintro e w13 ⟨rfl, f13⟩; have G13 := ((f10.trans0 f11).trans0 f12).trans0 f13; rw [NX.out, RE.out]; have cq : w13.cell? ⟨q, 0, none⟩ = some (.slice (some ⟨b9, off9, none⟩) T9.length rc) := (by have hq := G13.obj HB.out id; simp [World.cell?, hq]); have c33 := G13.cell C33.out id) | (go_at_call 15; refine (all_T (CZ.out.fr0 G13) (by omega)).mono ?_; rintro e w14 ⟨v14, rfl, o14, f14⟩) | (go_at_call 28; refine (rall_T (RZ.out.fr0 (G13.trans0 f14)) (by omega)).mono ?_; rintro e w15 ⟨v15, rfl, o15, f15⟩; have KW := (own_keysE o14 OK9.out).keep f15; have KR := own_keysE o15 OK9.out) | (go_at_call 24; refine (same_any _ KW KR (by rw [List.length_map]; omega) (by rw [List.length_map]; omega)).mono ?_; rintro e w16 ⟨bb, rfl, hbb, f16⟩; obtain rfl : bb = true := hbb.2 rfl))
            have G16 := ((G13.trans0 f14).trans0 f15).trans0 f16
            go_roundw
            case rel => exact ⟨n + 1, _, _, _, by simp, by omega, CZ.out.fr0 G16, RZ.out.fr0 G16, DZ.out⟩
            case measure => show acts.length - (n + 1) < acts.length - n; omega
        · have RKZ := RK
          have CZ := Lib.hid (CT2.out.more (Nat.le_succ n))
          have RZ := RT2
          have DZ := D1
          clear CT2 RT2 K34 RK SZ2 D1 VHI UHI
          have TLE : T.length ≤ 120 := by have := CZ.out.len; omega
          have OK9 := Lib.hid (show ∀ k ∈ T.map (·.1), k.ok from CZ.out.keyOk)
          obtain ⟨rv, hb, hs, hU, hne⟩ := RZ.out.ex
          obtain ⟨ra, rc, rfl⟩ := hs.arg.form
          have HB := Lib.hid hb
          by_cases hz : T = []
          · subst hz
            clear hb hs hU hne
            go_wp2_with (first | (refine wpList_value rfl (exec_load (ty := 55) rfl rfl R1.out uA rA (by rw [HAL.out]; exact infoAct)) ?_) | (refine wpList_done rfl (exec_store_new (w := wr) (ty := 55) rfl rfl rfl (by rw [HAL.out]; rfl) (by rw [HAL.out]; exact infoAct) actC_one) ?_) | (refine wpList_value rfl (exec_load (ty := 39) rfl rfl RK11 uR rR (by rw [HKL.out]; exact infoRKey)) ?_) | (refine wpList_value rfl (exec_load (ty := 39) rfl rfl RKZ.out uR rR (by rw [HKL.out]; exact infoRKey)) ?_) | (go_at_call 17; refine (of_any _ a.k AOK.out.2.1).mono ?_; rintro e w10 ⟨rfl, f10⟩) | (go_at_call 19; refine (till_T (CZ.out.fr0 f10) (by omega) a.k AOK.out.2.1).mono ?_; rintro e w11 ⟨rfl, f11⟩; have RK11 := range_keep RKZ.out (f10.trans0 f11) id) | (go_at_call 26; refine (rtill_T (RZ.out.fr0 (f10.trans0 f11)) (by omega) a.k AOK.out.2.1).mono ?_; rintro e w12 ⟨rfl, f12⟩) | (go_at_call 27; refine (next_T (CZ.out.fr0 ((f10.trans0 f11).trans0 f12)) (by omega)).mono ?_; rintro e w13 ⟨rfl, f13⟩; have G13 := ((f10.trans0 f11).trans0 f12).trans0 f13; rw [show nextT ([] : List KT) = 0 from rfl, show (!([] : List KT).isEmpty) = false from rfl]; have cq : w13.cell? ⟨q, 0, none⟩ = some (.slice ra 0 rc) := (by have hq := G13.obj HB.out id; simp [World.cell?, hq])) | (go_at_call 15; refine (all_T (CZ.out.fr0 G13) (by omega)).mono ?_; rintro e w14 ⟨v14, rfl, o14, f14⟩) | (go_at_call 28; refine (rall_T (RZ.out.fr0 (G13.trans0 f14)) (by omega)).mono ?_; rintro e w15 ⟨v15, rfl, o15, f15⟩; have KW := (own_keysE o14 OK9.out).keep f15; have KR := own_keysE o15 OK9.out) | (go_at_call 24; refine (same_any _ KW KR (by rw [List.length_map]; omega) (by rw [List.length_map]; omega)).mono ?_; rintro e w16 ⟨bb, rfl, hbb, f16⟩; obtain rfl : bb = true := hbb.2 rfl))
            have G16 := ((G13.trans0 f14).trans0 f15).trans0 f16
            go_roundw
            case rel => exact ⟨n + 1, _, _, _, by simp, by omega, CZ.out.fr0 G16, RZ.out.fr0 G16, DZ.out⟩
            case measure => show acts.length - (n + 1) < acts.length - n; omega
          · have hR1 : 0 < T.length := List.length_pos_iff.2 hz
            have hR0 : (0 : Int) < (T.length : Int) := by omega
            obtain ⟨x, hx⟩ : ∃ x, T[0]? = some x := ⟨_, List.getElem?_eq_getElem hR1⟩
            have NX := Lib.hid (show nextT T = x.2 by unfold nextT; rw [List.head?_eq_getElem?, hx]; rfl)
            have RE := Lib.hid (show (!T.isEmpty) = true by cases T with | nil => exact absurd rfl hz | cons y R => rfl)
            obtain ⟨b9, off9, cap9, hv9, hr9, -⟩ := hs.elem (i := 0) (x := x) (by decide) (fun y hy => rkC_len (RZ.out.ok y hy)) hx
            cases hv9
            rw [Nat.zero_mul, Nat.add_zero] at hr9
            have C33 := Lib.hid (hr9 33 _ (rkC_33 (RZ.out.ok x (List.mem_of_getElem? hx))))
            clear hb hs hU hne hx hr9 hz
            go_wp2_with (first | (refine wpList_value rfl (exec_load (ty := 55) rfl rfl R1.out uA rA (by rw [HAL.out]; exact infoAct)) ?_) | (refine wpList_done rfl (exec_store_new (w := wr) (ty := 55) rfl rfl rfl (by rw [HAL.out]; rfl) (by rw [HAL.out]; exact infoAct) actC_one) ?_) | (refine wpList_value rfl (exec_load (ty := 39) rfl rfl RK11 uR rR (by rw [HKL.out]; exact infoRKey)) ?_) | (refine wpList_value rfl (exec_load (ty := 39) rfl rfl RKZ.out uR rR (by rw [HKL.out]; exact infoRKey)) ?_) | (go_at_call 17; refine (of_any _ a.k AOK.out.2.1).mono ?_; rintro e w10 ⟨rfl, f10⟩) | (go_at_call 19; refine (till_T (CZ.out.fr0 f10) (by omega) a.k AOK.out.2.1).mono ?_; rintro e w11 ⟨rfl, f11⟩; have RK11 := range_keep RKZ.out (f10.trans0 f11) id) | (go_at_call 26; refine (rtill_T (RZ.out.fr0 (f10.trans0 f11)) (by omega) a.k AOK.out.2.1).mono ?_; rintro e w12 ⟨rfl, f12⟩) | (go_at_call 27; refine (next_T (CZ.out.fr0 ((f10.trans0 f11).trans0 f12)) (by omega)).mono ?_; rintro e w13 ⟨rfl, f13⟩; have G13 := ((f10.trans0 f11).trans0 f12).trans0 f13; rw [NX.out, RE.out]; have cq : w13.cell? ⟨q, 0, none⟩ = some (.slice (some ⟨b9, off9, none⟩) T.length rc) := (by have hq := G13.obj HB.out id; simp [World.cell?, hq]); have c33 := G13.cell C33.out id) | (go_at_call 15; refine (all_T (CZ.out.fr0 G13) (by omega)).mono ?_; rintro e w14 ⟨v14, rfl, o14, f14⟩) | (go_at_call 28; refine (rall_T (RZ.out.fr0 (G13.trans0 f14)) (by omega)).mono ?_; rintro e w15 ⟨v15, rfl, o15, f15⟩; have KW := (own_keysE o14 OK9.out).keep f15; have KR := own_keysE o15 OK9.out) | (go_at_call 24; refine (same_any _ KW KR (by rw [List.length_map]; omega) (by rw [List.length_map]; omega)).mono ?_; rintro e w16 ⟨bb, rfl, hbb, f16⟩; obtain rfl : bb = true := hbb.2 rfl))
            have G16 := ((G13.trans0 f14).trans0 f15).trans0 f16
            go_roundw
            case rel => exact ⟨n + 1, _, _, _, by simp, by omega, CZ.out.fr0 G16, RZ.out.fr0 G16, DZ.out⟩
            case measure => show acts.length - (n + 1) < acts.length - n; omega
      · have i1 : ¬ (n : Int) < (acts.length : Int) := by omega
        go_wp2
        go_ret
        exact ⟨by rfl, CT1.out.fr⟩
  · have j1 : (120 : Int) < (acts.length : Int) := by omega
    go_enter Tryd.func8, Tryd.ntmps8
    go_wp2_with fail
    refine (alive_any w HT.out).mono ?_
    rintro e w1 ⟨rfl, f1⟩
    have F1 := Lib.hid f1
    clear f1
    go_wp2
    go_ret
    exact ⟨rfl, F1.out⟩
end Go.Proofs.YthmaekkjpginoaaDoor
