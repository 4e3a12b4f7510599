/- EmbargoDrops: the walk. -/
import Derived.Test.YthmaekkjpginoaaDoorEmbStepsW
namespace Go.Proofs.YthmaekkjpginoaaDoor
open Go Go.RowKit Go.Maps Go.MapKept Go.Sort

theorem KeysIs.keepV {w w' : World} {v : Value} {ks : List KeyD} (h : KeysIs w v ks) {V : Nat → Prop} (f : Fr V w w') (hb : ∀ b, v.ownBlock = some b → ¬ V b) : KeysIs w' v ks :=
  ⟨h.1, h.2.imp id fun ⟨b, off, c, hv, hbl, hr⟩ => ⟨b, off, c, hv, Nat.lt_of_lt_of_le hbl f.size, fun i k hk => range_keep (hr i k hk) f (hb b (by rw [hv]; rfl))⟩⟩
theorem own_keys {w : World} {B : Nat} {v : Value} {ks : List KeyD} (h : w.ownsRow B 36 33 v ks.length (ks.flatMap keyC)) (ok : ∀ k ∈ ks, k.ok) : KeysIs w v ks := by
  refine ⟨ok, ?_⟩
  rcases h.2 with ⟨rfl, hn⟩ | ⟨g, cap, cur, rfl, hb, hg, -⟩
  · exact .inl ⟨List.eq_nil_of_length_eq_zero hn, none, 0, rfl⟩
  · refine .inr ⟨g, 0, cap, rfl, obj_lt hg, fun i k hk => ?_⟩
    obtain ⟨g', c', e, hr, -⟩ := own_elem (by decide) (fun k hk => keyC_len (ok k hk)) h hk
    cases e
    rw [Nat.zero_add]
    exact hr
theorem own_keysT {w0 w1 w : World} {p : Nat} {V : Nat → Prop} {T : List KT} {N : Nat} (hc : CT w0 w1 p V T N) {B : Nat} {v : Value} (h : w.ownsRow B 36 33 v T.length ((T.map (·.1)).flatMap keyC)) : KeysIs w v (T.map (·.1)) :=
  own_keys (B := B) (by rw [List.length_map]; exact h) hc.keyOk
def keyS (x : Int) : KeyD := ⟨x, List.replicate 32 0⟩
theorem keyS_ok {x : Int} (h : inI64 x) : (keyS x).ok := ⟨h, rfl, fun y hy => by have : y = 0 := List.eq_of_mem_replicate hy; omega⟩
theorem bldS (x : Int) (w : World) : (Instr.build 36 #[(0, .int .i64 x)]).run Tryd.prog w = .ok (.agg (keyC (keyS x)).toArray) w := by kernel_rfl
theorem del_at {T : List KT} (h : (T.map (·.1)).Nodup) {i : Nat} {x : KT} (hx : T[i]? = some x) : delT T x.1 = T.eraseIdx i := by
  induction T generalizing i with
  | nil => simp at hx
  | cons y T ih =>
    rw [List.map_cons, List.nodup_cons] at h
    unfold delT at ih ⊢
    cases i with
    | zero =>
      obtain rfl : y = x := by simpa using hx
      rw [List.filter_cons, decide_eq_true rfl, if_neg (by simp), List.eraseIdx_cons_zero]
      rw [List.filter_eq_self]
      intro z hz
      have : z.1 ≠ y.1 := fun e => h.1 (List.mem_map.2 ⟨z, hz, e⟩)
      simp [this]
    | succ i =>
      have hx' : T[i]? = some x := by simpa using hx
      have : y.1 ≠ x.1 := fun e => h.1 (List.mem_map.2 ⟨x, List.mem_of_getElem? hx', e.symm⟩)
      rw [List.filter_cons, decide_eq_false this, if_pos (by simp), List.eraseIdx_cons_succ, ih h.2 hx']

set_option maxRecDepth 20000 in
set_option maxHeartbeats 4000000 in
theorem drops_any (w : World) (hT : TabAt w) {v : Value} {acts : List ActD} (ha : ActsIs w v acts) (u : Nat) (hu : u ≤ 255) :
    Calls Tryd.prog 7 #[v, .int .u8 u] w fun e w' => e = .returned (.bool true) ∧ Fr No w w' := by
  obtain ⟨dK, uK, rK⟩ := descKey
  obtain ⟨va, vc, rfl⟩ := ha.2.form
  have HA := Lib.hid ha
  have HT := Lib.hid hT
  clear ha hT
  by_cases hN : acts.length ≤ 120
  · have j1 : ¬ (120 : Int) < (acts.length : Int) := by omega
    go_enter Tryd.func7, Tryd.ntmps7
    go_wp2_with fail
    refine (alive_any w HT.out).mono ?_
    rintro e w1 ⟨rfl, f1⟩
    have F1 := Lib.hid f1
    clear f1
    go_wp2_with fail
    refine (grown_any w w1 F1.out (HA.out.keep F1.out) hN).mono ?_
    rintro e w2 ⟨p, rfl, V, c2, f2, hV⟩
    have C2 := Lib.hid c2
    clear f2 hV c2
    go_wp2_with fail
    refine (all_T C2.out (by omega)).mono ?_
    rintro e w3 ⟨v3, rfl, o3, f3⟩
    have NV3 := Lib.hid (show ∀ k, v3.ownBlock = some k → ¬ V k from fun k e h => by have := (o3.lt k e).1; have := C2.out.hi k h; omega)
    have KW := Lib.hid (own_keysT C2.out o3)
    have C3 := Lib.hid (C2.out.fr0 f3)
    have hgl : (grownT acts).length ≤ 120 := by have := C2.out.len; omega
    clear o3 f3 C2
    generalize grownT acts = T at *
    obtain ⟨a3, e3, rfl⟩ := KW.out.form
    rw [List.length_map] at *
    by_cases hz : T = []
    · subst hz
      go_wp2_with (first | (refine wpList_value rfl (exec_buildRun (t := 36) rfl rfl (bldS u _)) ?_) | (go_at_call 20; refine (drop_T C3.out (by omega) (keyS u) (keyS_ok (by unfold inI64; omega))).mono ?_; rintro e w4 ⟨rfl, c4, f4⟩))
      go_ret
      exact ⟨by rfl, c4.fr⟩
    · have hpos : 0 < T.length := List.length_pos_iff.2 hz
      have j2 : ¬ (T.length : Int) = 0 := by omega
      obtain ⟨q, hq, hql⟩ : ∃ q : Nat, (u : Int) % (T.length : Int) = (q : Int) ∧ q < T.length := ⟨u % T.length, by simp, Nat.mod_lt _ hpos⟩
      have i1 : (q : Int) < (T.length : Int) := by omega
      obtain ⟨x, hx⟩ : ∃ x, T[q]? = some x := ⟨_, List.getElem?_eq_getElem hql⟩
      have hxk : (T.map (·.1))[q]? = some x.1 := by rw [List.getElem?_map, hx]; rfl
      obtain ⟨b, off, cap, hv, hr, -⟩ := KW.out.at_ hxk
      rw [List.length_map] at hv
      cases hv
      have XOK := Lib.hid (KW.out.1 x.1 (List.mem_of_getElem? hxk))
      have XK := Lib.hid (keyC_len XOK.out)
      have NVB := Lib.hid (NV3.out b rfl)
      have R3 := Lib.hid hr
      have D1 := Lib.hid (show dropE T x.1 = 0 by rw [dropE, if_pos (hasT_mem.2 (List.mem_map.2 ⟨x, List.mem_of_getElem? hx, rfl⟩))])
      have hgd := C3.out.good
      have DA := Lib.hid (del_at hgd.nodup hx)
      have HNO := Lib.hid (show hasT (delT T x.1) x.1 = false by
        rw [Bool.eq_false_iff]
        intro h
        obtain ⟨y, hy, e⟩ := List.mem_map.1 (hasT_mem.1 h)
        have := (List.mem_filter.1 hy).2
        simp [e] at this)
      have D2 := Lib.hid (show dropE (delT T x.1) x.1 = 9 by rw [dropE, if_neg (by rw [HNO.out]; simp)])
      clear hxk hr hgd
      go_wp2_with (first | (refine wpList_value rfl (exec_load (ty := 36) rfl rfl R3.out uK rK (by rw [XK.out]; exact infoKey)) ?_) | (refine wpList_valueG (o := ⟨some 49, _, _, _, _, _⟩) rfl (exec_load (ty := 36) rfl rfl R4 uK rK (by rw [XK.out]; exact infoKey)) ?_) | (go_at_call 20; first | (refine (drop_T c4 (by omega) x.1 XOK.out).mono ?_; rintro e w5 ⟨rfl, c5, f5⟩; rw [D2.out]) | (refine (drop_T C3.out (by omega) x.1 XOK.out).mono ?_; rintro e w4 ⟨rfl, c4, f4⟩; rw [D1.out]; have R4 := range_keep R3.out f4 NVB.out)))
      have C5 := Lib.hid (show CT w w5 p V (T.eraseIdx q) acts.length by rw [← DA.out]; have := c5; rw [delT_none HNO.out] at this; exact this)
      have HND := Lib.hid (show hasT (T.eraseIdx q) x.1 = false by rw [← DA.out]; exact HNO.out)
      have KW5 := Lib.hid ((KW.out.keepV f4 NV3.out).keepV f5 NV3.out)
      have R5 := Lib.hid (range_keep R4 f5 NVB.out)
      have DL : (T.eraseIdx q).length + 1 = T.length := by rw [List.length_eraseIdx, if_pos hql]; omega
      have DG := Lib.hid (fun n => List.getElem?_eraseIdx (l := T) (i := q) (j := n))
      clear c4 f4 R4 c5 f5 KW R3 C3 D1 D2 HNO DA hx
      generalize T.eraseIdx q = D at *
      refine (all_T C5.out (by omega)).mono ?_
      rintro e w6 ⟨v6, rfl, o6, f6⟩
      have KD := Lib.hid (own_keysT C5.out o6)
      have C6 := Lib.hid (C5.out.fr0 f6)
      have KW6 := Lib.hid (KW5.out.keep f6)
      have R6 := Lib.hid (range_keep R5.out f6 id)
      clear C5 KW5 R5 o6 f6
      obtain ⟨a6, e6, rfl⟩ := KD.out.form
      rw [List.length_map] at *
      have j3 : (D.length : Int) = (T.length : Int) - 1 := by omega
      go_wp2_with fail
      go_loopw [63] (fun iv wr => ∃ n : Nat, iv = .int .i64 n ∧ n ≤ D.length ∧ Fr No w6 wr) (fun iv _ => D.length - (intOf iv).toNat)
      case atStart => exact ⟨0, rfl, Nat.zero_le _, Fr.refl _ _⟩
      case round =>
        obtain ⟨n, rfl, hn, fr⟩ := hrel
        have FR := Lib.hid fr
        clear fr
        by_cases h : n < D.length
        · have i2 : (n : Int) < (D.length : Int) := by omega
          obtain ⟨y, hy⟩ : ∃ y, D[n]? = some y := ⟨_, List.getElem?_eq_getElem h⟩
          have hyk : (D.map (·.1))[n]? = some y.1 := by rw [List.getElem?_map, hy]; rfl
          obtain ⟨bd, od, cd, hv, hr, -⟩ := (KD.out.keep FR.out).at_ hyk
          rw [List.length_map] at hv
          cases hv
          have YOK := Lib.hid (KD.out.1 y.1 (List.mem_of_getElem? hyk))
          have YK := Lib.hid (keyC_len YOK.out)
          have R1 := Lib.hid hr
          have RN := Lib.hid (range_new wr (keyC y.1) 36)
          have FN := Lib.hid (FR.out.alloc (.cells (keyC y.1).toArray 36))
          have hdg := DG.out n
          rw [hy] at hdg
          clear hr hyk hy
          by_cases hnq : n < q
          · rw [if_pos hnq] at hdg
            have hyt : (T.map (·.1))[n]? = some y.1 := by rw [List.getElem?_map, ← hdg]; rfl
            obtain ⟨bt, ot, ct, hv, hr, -⟩ := (KW6.out.keep FN.out).at_ hyt
            rw [List.length_map] at hv
            cases hv
            have i3 : (n : Int) < (q : Int) := by omega
            have i4 : (n : Int) < (T.length : Int) := by omega
            have RT := Lib.hid hr
            clear hr hyt hdg
            go_wp2_with (first | (refine wpList_value rfl (exec_load (ty := 36) rfl rfl R1.out uK rK (by rw [YK.out]; exact infoKey)) ?_) | (refine wpList_done rfl (exec_store_new (w := wr) (ty := 36) rfl rfl rfl (by rw [YK.out]; rfl) (by rw [YK.out]; exact infoKey) keyC_one) ?_))
            have SB := Lib.hid (show wr.heap.size < (wr.alloc (.cells (keyC y.1).toArray 36)).heap.size by simp)
            generalize wr.alloc (.cells (keyC y.1).toArray 36) = w7 at *
            refine wp_region_lexL [false, false, false, false, false, false] (fun W => W.rangeAt wr.heap.size 0 (keyC y.1) ∧ W.rangeAt b (off + n * 33) (keyC y.1)) (by kernel_rfl) (by kernel_rfl) ?_ (fun K hK => ?_)
            · exact ⟨range_keep RN.out (Fr.refl No _).drew id, range_keep RT.out (Fr.refl No _).drew id⟩
            repeat (first | ((first | with_reducible refine lexL_read ?_ | ((with_reducible refine lexL_readG ?_ ?_); (focus rfl))); apply Exists.intro; refine ⟨?_, ?_⟩; (focus (first | exact lex_load (ty := 36) rfl (fun w h => h.1) uK rK (by rw [YK.out]; exact infoKey) | exact lex_load (ty := 36) rfl (fun w h => h.2) uK rK (by rw [YK.out]; exact infoKey) | exact fun w' h => eqKey.exec_neq (u := (keyC y.1).toArray) (v := (keyC y.1).toArray) rfl rfl rfl (keyOfKey YOK.out) (keyOfKey YOK.out) true ⟨fun _ => rfl, fun _ => rfl⟩ w' | (intro w' hS; obtain _ := hS; go_simp; (try with_reducible rfl); done))); try simp only [Act.put, List.setIfInBounds_toArray, List.set_cons_zero, List.set_cons_succ]) | ((first | ((with_reducible refine lexL_skip (c := false) ?_ ?_ ?_); (focus rfl); (focus rfl)) | ((with_reducible refine lexL_skip (c := true) ?_ ?_ ?_); (focus rfl); (focus rfl)) | ((with_reducible refine lexL_skipU ?_ ?_); (focus rfl))); try simp only [Act.put, List.setIfInBounds_toArray, List.set_cons_zero, List.set_cons_succ]))
            refine lexL_nil (hK.out _ _ ?_)
            have FD := Lib.hid (FN.out.drew)
            go_wp2
            go_roundw
            case rel => exact ⟨n + 1, by simp, by omega, FD.out⟩
            case measure => show D.length - (n + 1) < D.length - n; omega
          · rw [if_neg hnq] at hdg
            have hyt : (T.map (·.1))[n + 1]? = some y.1 := by rw [List.getElem?_map, ← hdg]; rfl
            obtain ⟨bt, ot, ct, hv, hr, -⟩ := (KW6.out.keep FN.out).at_ hyt
            rw [List.length_map] at hv
            cases hv
            have i3 : ¬ (n : Int) < (q : Int) := by omega
            have i4 : (n : Int) + 1 < (T.length : Int) := by omega
            have i5 : 0 ≤ (n : Int) + 1 := by omega
            have i6 : ((n : Int) + 1).toNat = n + 1 := by omega
            have RT := Lib.hid hr
            clear hr hyt hdg
            go_wp2_with (first | (refine wpList_value rfl (exec_load (ty := 36) rfl rfl R1.out uK rK (by rw [YK.out]; exact infoKey)) ?_) | (refine wpList_done rfl (exec_store_new (w := wr) (ty := 36) rfl rfl rfl (by rw [YK.out]; rfl) (by rw [YK.out]; exact infoKey) keyC_one) ?_))
            have SB := Lib.hid (show wr.heap.size < (wr.alloc (.cells (keyC y.1).toArray 36)).heap.size by simp)
            generalize wr.alloc (.cells (keyC y.1).toArray 36) = w7 at *
            refine wp_region_lexL [false, false, false, false, false, false] (fun W => W.rangeAt wr.heap.size 0 (keyC y.1) ∧ W.rangeAt b (off + (n + 1) * 33) (keyC y.1)) (by kernel_rfl) (by kernel_rfl) ?_ (fun K hK => ?_)
            · exact ⟨range_keep RN.out (Fr.refl No _).drew id, range_keep RT.out (Fr.refl No _).drew id⟩
            repeat (first | ((first | with_reducible refine lexL_read ?_ | ((with_reducible refine lexL_readG ?_ ?_); (focus rfl))); apply Exists.intro; refine ⟨?_, ?_⟩; (focus (first | exact lex_load (ty := 36) rfl (fun w h => h.1) uK rK (by rw [YK.out]; exact infoKey) | exact lex_load (ty := 36) rfl (fun w h => h.2) uK rK (by rw [YK.out]; exact infoKey) | exact fun w' h => eqKey.exec_neq (u := (keyC y.1).toArray) (v := (keyC y.1).toArray) rfl rfl rfl (keyOfKey YOK.out) (keyOfKey YOK.out) true ⟨fun _ => rfl, fun _ => rfl⟩ w' | (intro w' hS; obtain _ := hS; go_simp; (try with_reducible rfl); done))); try simp only [Act.put, List.setIfInBounds_toArray, List.set_cons_zero, List.set_cons_succ]) | ((first | ((with_reducible refine lexL_skip (c := false) ?_ ?_ ?_); (focus rfl); (focus rfl)) | ((with_reducible refine lexL_skip (c := true) ?_ ?_ ?_); (focus rfl); (focus rfl)) | ((with_reducible refine lexL_skipU ?_ ?_); (focus rfl))); try simp only [Act.put, List.setIfInBounds_toArray, List.set_cons_zero, List.set_cons_succ]))
            refine lexL_nil (hK.out _ _ ?_)
            have FD := Lib.hid (FN.out.drew)
            go_wp2
            go_roundw
            case rel => exact ⟨n + 1, by simp, by omega, FD.out⟩
            case measure => show D.length - (n + 1) < D.length - n; omega
        · have i2 : ¬ (n : Int) < (D.length : Int) := by omega
          have C8 := Lib.hid (C6.out.fr0 FR.out)
          have R8 := Lib.hid (range_keep R6.out FR.out id)
          go_wp2_with (first | (refine wpList_value rfl (exec_load (ty := 36) rfl rfl R8.out uK rK (by rw [XK.out]; exact infoKey)) ?_) | (go_at_call 19; refine (till_T C8.out (by omega) x.1 XOK.out).mono ?_; rintro e w9 ⟨rfl, f9⟩; rw [HND.out]))
          go_ret
          exact ⟨by rfl, C8.out.fr.trans0 f9⟩
  · have j1 : (120 : Int) < (acts.length : Int) := by omega
    go_enter Tryd.func7, Tryd.ntmps7
    go_wp2_with fail
    refine (alive_any w HT.out).mono ?_
    rintro e w1 ⟨rfl, f1⟩
    have F1 := Lib.hid f1
    clear f1
    go_wp2
    go_ret
    exact ⟨rfl, F1.out⟩
end Go.Proofs.YthmaekkjpginoaaDoor
