/- EmbargoDue: the walk. -/
import Derived.Test.YthmaekkjpginoaaDoorEmbLen
namespace Go.Proofs.YthmaekkjpginoaaDoor
open Go Go.RowKit Go.Maps Go.MapKept Go.Sort

set_option maxRecDepth 20000 in
set_option maxHeartbeats 4000000 in
theorem dueLaw_any (w : World) (hT : TabAt w) {v : Value} {acts : List ActD} (ha : ActsIs w v acts) (now : Int) (hnow : 0 ≤ now ∧ now ≤ 18446744073709551615) :
    Calls Tryd.prog 9 #[v, .int .u64 now] w fun e w' => e = .returned (.bool true) ∧ Fr No w w' := by
  obtain ⟨dK, uK, rK⟩ := descKey
  obtain ⟨va, vc, rfl⟩ := ha.2.form
  have HA := Lib.hid ha
  have HT := Lib.hid hT
  clear ha hT
  by_cases hN : acts.length ≤ 120
  · have j1 : ¬ (120 : Int) < (acts.length : Int) := by omega
    go_enter Tryd.func9, Tryd.ntmps9
    go_wp2_with fail
    refine (alive_any w HT.out).mono ?_
    rintro e w1 ⟨rfl, f1⟩
    have F1 := Lib.hid f1
    clear f1
    go_wp2_with fail
    refine (grown_any w w1 F1.out (HA.out.keep F1.out) hN).mono ?_
    rintro e w2 ⟨p, rfl, V, c2, f2, hV⟩
    have C2 := Lib.hid c2
    clear f2 hV c2
    go_wp2_with fail
    refine (all_T C2.out (by omega)).mono ?_
    rintro e w3 ⟨v3, rfl, o3, f3⟩
    have HB := Lib.hid (show ∀ j, V j → j < w3.heap.size from fun j h => Nat.lt_of_lt_of_le (C2.out.hi j h) f3.size)
    have KW := Lib.hid (own_keysT C2.out o3)
    have C3 := Lib.hid (C2.out.fr0 f3)
    have hgl : (grownT acts).length ≤ 120 := by have := C2.out.len; omega
    clear o3 f3 C2
    generalize grownT acts = T at *
    obtain ⟨a3, e3, rfl⟩ := KW.out.form
    rw [List.length_map] at *
    have GD := Lib.hid C3.out.good
    have OKT := Lib.hid (show ∀ x ∈ T, x.1.ok from fun x hx => C3.out.keyOk x.1 (List.mem_map.2 ⟨x, hx, rfl⟩))
    go_wp2_with fail
    go_loopw [7, 36] (fun l iv wr => ∃ n : Nat, iv = .int .i64 n ∧ n ≤ T.length ∧ wr.ownsRow w3.heap.size 36 33 l ((T.take n).filter (dueT now)).length ((((T.take n).filter (dueT now)).map (·.1)).flatMap keyC) ∧ Fr No w3 wr) (fun _ iv _ => T.length - (intOf iv).toNat)
    case atStart => exact ⟨0, rfl, Nat.zero_le _, World.ownsRow_nil _ _ _ _, Fr.refl _ _⟩
    case round =>
      obtain ⟨n, rfl, hn, ho, fr⟩ := hrel
      have FR := Lib.hid fr
      have FE := Lib.hid (fun (e : n = T.length) => (by rw [show T.take n = T by rw [e, List.take_length], filter_take GD.out.srt] : (T.take n).filter (dueT now) = T.takeWhile (dueT now)))
      have FS := Lib.hid (fun (x : KT) (hx : T[n]? = some x) => (by rw [List.take_add_one, hx, List.filter_append]; rfl : (T.take (n + 1)).filter (dueT now) = (T.take n).filter (dueT now) ++ [x].filter (dueT now)))
      have FLn : ((T.take n).filter (dueT now)).length ≤ 120 := by have h1 := List.length_filter_le (dueT now) (T.take n); rw [List.length_take] at h1; omega
      clear fr
      generalize (T.take n).filter (dueT now) = W at *
      have HO := Lib.hid ho
      obtain ⟨la, lc, rfl⟩ := ho.slice.arg.form
      clear ho
      by_cases h : n < T.length
      · have i1 : (n : Int) < (T.length : Int) := by omega
        obtain ⟨x, hx⟩ : ∃ x, T[n]? = some x := ⟨_, List.getElem?_eq_getElem h⟩
        have hxk : (T.map (·.1))[n]? = some x.1 := by rw [List.getElem?_map, hx]; rfl
        obtain ⟨b, off, cap, hv, hr, -⟩ := (KW.out.keep FR.out).at_ hxk
        rw [List.length_map] at hv
        cases hv
        have SX := FS.out x hx
        have XOK := Lib.hid (OKT.out x (List.mem_of_getElem? hx))
        have XK := Lib.hid (keyC_len XOK.out)
        have R1 := Lib.hid hr
        have RN := Lib.hid (range_new wr (keyC x.1) 36)
        have FA := Lib.hid (FR.out.alloc (.cells (keyC x.1).toArray 36))
        have hoE := Lib.hid (HO.out.alloc (.cells (keyC x.1).toArray 36))
        have hlt := Lib.hid (show ∀ j, (Value.slice la W.length lc).ownBlock = some j → w3.heap.size ≤ j ∧ j < wr.heap.size from fun j e => HO.out.lt j e)
        have TX := Lib.hid (show tillT T x.1 = x.2 from tillT_mem GD.out.nodup (List.mem_of_getElem? hx))
        have HX := Lib.hid (show hasT T x.1 = true from hasT_mem.2 (List.mem_map.2 ⟨x, List.mem_of_getElem? hx, rfl⟩))
        clear hr hx hxk FS FE
        by_cases hc : x.2 ≤ now
        · have HSX := Lib.hid (show (T.take (n + 1)).filter (dueT now) = W ++ [x] by rw [SX]; simp [dueT, hc])
          clear SX
          go_wp2_with (first | (refine wpList_value rfl (exec_load (ty := 36) rfl rfl R8 uK rK (by rw [XK.out]; exact infoKey)) ?_) | (refine wpList_value rfl (exec_load (ty := 36) rfl rfl R1.out uK rK (by rw [XK.out]; exact infoKey)) ?_) | (refine wpList_done rfl (exec_store_new (w := wr) (ty := 36) rfl rfl rfl (by rw [XK.out]; rfl) (by rw [XK.out]; exact infoKey) keyC_one) ?_) | (refine wpList_value rfl (exec_load (ty := 36) rfl rfl RN.out uK rK (by rw [XK.out]; exact infoKey)) ?_) | (refine wpList_value rfl (exec_buildSliceA (t := 31) rfl rfl undKeys infoKeyZ2 rfl (by decide) (by decide) XK.out) ?_) | (at_builtin; refine wpList_append_run rfl rfl rfl rfl hap ?_) | (go_at_call 19; refine (till_T (C3.out.fr0 FA.out) (by omega) x.1 XOK.out).mono ?_; rintro e w8 ⟨rfl, f8⟩; rw [TX.out, HX.out]; have R8 := range_keep RN.out f8 id; obtain ⟨v9, w9, hap, ho9, f9, -, -⟩ := append_blk (P := Tryd.prog) w8 w3.heap.size 31 31 36 33 40 _ undKeys infoKeyZ rfl (by decide) (ownsRow_keep hoE.out f8 (fun _ _ => id)) (keyC x.1) XK.out keyC_one (by omega) (by unfold maxLen; omega) ((FA.out.trans0 f8).size); have F9 := Lib.hid ((FA.out.trans0 f8).trans f9 (fun i hi e => by have := (hlt.out i e).1; omega)); have HO9 := Lib.hid (show w9.ownsRow w3.heap.size 36 33 v9 (W ++ [x]).length (((W ++ [x]).map (·.1)).flatMap keyC) by simpa using ho9); obtain ⟨a9, c9, rfl⟩ := ho9.slice.arg.form; clear f8 ho9 f9))
          go_roundw
          case rel => exact ⟨n + 1, by simp, by omega, by rw [HSX.out]; exact HO9.out, F9.out⟩
          case measure => show T.length - (n + 1) < T.length - n; omega
        · have HSX := Lib.hid (show (T.take (n + 1)).filter (dueT now) = W by rw [SX]; simp [dueT, hc])
          clear SX
          go_wp2_with (first | (refine wpList_value rfl (exec_load (ty := 36) rfl rfl R1.out uK rK (by rw [XK.out]; exact infoKey)) ?_) | (refine wpList_done rfl (exec_store_new (w := wr) (ty := 36) rfl rfl rfl (by rw [XK.out]; rfl) (by rw [XK.out]; exact infoKey) keyC_one) ?_) | (refine wpList_value rfl (exec_load (ty := 36) rfl rfl RN.out uK rK (by rw [XK.out]; exact infoKey)) ?_) | (go_at_call 19; refine (till_T (C3.out.fr0 FA.out) (by omega) x.1 XOK.out).mono ?_; rintro e w8 ⟨rfl, f8⟩; rw [TX.out, HX.out]))
          go_roundw
          case rel => exact ⟨n + 1, by simp, by omega, by rw [HSX.out]; exact ownsRow_keep hoE.out f8 (fun _ _ => id), FA.out.trans0 f8⟩
          case measure => show T.length - (n + 1) < T.length - n; omega
      · have i1 : ¬ (n : Int) < (T.length : Int) := by omega
        have WE := FE.out (by omega)
        subst WE
        have C4 := Lib.hid (C3.out.fr0 FR.out)
        have KN := Lib.hid (fun x (hx : x ∈ T.takeWhile (dueT now)) => (⟨tillT_mem GD.out.nodup ((List.takeWhile_prefix _).subset hx), hasT_mem.2 (List.mem_map.2 ⟨x, (List.takeWhile_prefix _).subset hx, rfl⟩)⟩ : tillT T x.1 = x.2 ∧ hasT T x.1 = true))
        have SRT := Lib.hid (List.Pairwise.sublist (List.takeWhile_prefix (l := T) (dueT now)).sublist GD.out.srt)
        have NN := Lib.hid (show ∀ x ∈ T.takeWhile (dueT now), 0 ≤ x.2 from fun x hx => (GD.out.ok x ((List.takeWhile_prefix _).subset hx)).2.1)
        have OKL := Lib.hid (show ∀ x ∈ T.takeWhile (dueT now), x.1.ok from fun x hx => OKT.out x ((List.takeWhile_prefix _).subset hx))
        have GONE := Lib.hid (fun x (hx : x ∈ T.takeWhile (dueT now)) => due_apart GD.out.nodup hx)
        have TD := Lib.hid (take_drop_due T now)
        have DD := Lib.hid (drop_drop_due T now)
        have DH := Lib.hid (fun x R (h : T.dropWhile (dueT now) = x :: R) => drop_head h)
        have CNT := Lib.hid (due_count T now)
        have DUE := Lib.hid (fun (wz : World) (c : CT w wz p V T acts.length) => due_T c (by omega) now)
        clear FE FS
        generalize T.takeWhile (dueT now) = L at *
        generalize T.dropWhile (dueT now) = R at *
        go_wp2_with fail
        go_loopw [12, 58] (fun z iv wr2 => ∃ (n : Nat) (y : Int), iv = .int .i64 n ∧ n ≤ L.length ∧ z = .int .u64 y ∧ (∀ x ∈ L.drop n, y ≤ x.2) ∧ Fr No wr wr2) (fun _ iv _ => L.length - (intOf iv).toNat)
        case atStart => exact ⟨0, 0, rfl, Nat.zero_le _, rfl, fun x hx => NN.out x (by simpa using hx), Fr.refl _ _⟩
        case round =>
          obtain ⟨n2, y, rfl, hn2, rfl, hy, fr2⟩ := hrel
          have FR2 := Lib.hid fr2
          clear fr2
          by_cases h2 : n2 < L.length
          · have i2 : (n2 : Int) < (L.length : Int) := by omega
            obtain ⟨x, hx⟩ : ∃ x, L[n2]? = some x := ⟨_, List.getElem?_eq_getElem h2⟩
            have hxk : (L.map (·.1))[n2]? = some x.1 := by rw [List.getElem?_map, hx]; rfl
            have hxm := List.mem_of_getElem? hx
            obtain ⟨gx, cx, hvx, hrx, -⟩ := own_elem (by decide) (fun k hk => by obtain ⟨z, hz, rfl⟩ := List.mem_map.1 hk; exact keyC_len (OKL.out z hz)) (ownsRow_keep HO.out FR2.out (fun _ _ => id)) hxk
            cases hvx
            have XOK := Lib.hid (OKL.out x hxm)
            have XK := Lib.hid (keyC_len XOK.out)
            have R1 := Lib.hid hrx
            have RN := Lib.hid (range_new wr (keyC x.1) 36)
            have FA := Lib.hid (FR2.out.alloc (.cells (keyC x.1).toArray 36))
            have KX := Lib.hid (KN.out x hxm)
            have hdr : L.drop n2 = x :: L.drop (n2 + 1) := by
              obtain ⟨hl, he⟩ := List.getElem?_eq_some_iff.1 hx
              rw [List.drop_eq_getElem_cons hl, he]
            have hlt : ¬ x.2 < y := by have := hy x (by rw [hdr]; simp); omega
            have HY := Lib.hid (show ∀ z ∈ L.drop (n2 + 1), x.2 ≤ z.2 by
              have := List.Pairwise.sublist (List.drop_sublist n2 L) SRT.out
              rw [hdr] at this
              exact (List.pairwise_cons.1 this).1)
            clear hrx hx hxk hxm hdr hy
            go_wp2_with (first | (refine wpList_value rfl (exec_load (ty := 36) rfl rfl R1.out uK rK (by rw [XK.out]; exact infoKey)) ?_) | (refine wpList_done rfl (exec_store_new (w := wr) (ty := 36) rfl rfl rfl (by rw [XK.out]; rfl) (by rw [XK.out]; exact infoKey) keyC_one) ?_) | (refine wpList_value rfl (exec_load (ty := 36) rfl rfl RN.out uK rK (by rw [XK.out]; exact infoKey)) ?_) | (go_at_call 19; refine (till_T (C4.out.fr0 FA.out) (by omega) x.1 XOK.out).mono ?_; rintro e w8 ⟨rfl, f8⟩; rw [KX.out.1, KX.out.2]))
            go_roundw
            case rel => exact ⟨n2 + 1, x.2, by simp, by omega, rfl, HY.out, FA.out.trans0 f8⟩
            case measure => show L.length - (n2 + 1) < L.length - n2; omega
          · have i2 : ¬ (n2 : Int) < (L.length : Int) := by omega
            have C5 := Lib.hid (C4.out.fr0 FR2.out)
            have HO5 := Lib.hid (ownsRow_keep HO.out FR2.out (fun _ _ => id))
            have hlw : w3.heap.size ≤ wr.heap.size := (FR.out.trans0 FR2.out).size
            clear C4 HO SRT NN KN hy
            go_wp2_with fail
            refine (DUE.out _ C5.out).mono ?_
            rintro e w6 ⟨v6, rfl, o6, c6, f6⟩
            have HO6 := Lib.hid (ownsRow_keep HO5.out f6 (fun j e h => by have := (HO5.out.lt j e).1; have := HB.out j h; omega))
            have GO6 := Lib.hid o6
            have C6 := Lib.hid c6
            obtain ⟨a6, e6, rfl⟩ := o6.slice.arg.form
            clear o6 c6 f6 C5 HO5
            go_wp2_with fail
            refine (all_T C6.out (by omega)).mono ?_
            rintro e w7 ⟨v7, rfl, o7, f7⟩
            have HO7 := Lib.hid (ownsRow_keep HO6.out f7 (fun _ _ => id))
            have GO7 := Lib.hid (ownsRow_keep GO6.out f7 (fun _ _ => id))
            have C7 := Lib.hid (C6.out.fr0 f7)
            obtain ⟨a7, e7, rfl⟩ := o7.slice.arg.form
            clear o7 f7 C6 HO6 GO6
            have hlen := len_keys
            have hsum : IntKind.i64.wrap ((R.length : Int) + (L.length : Int)) = (T.length : Int) := by
              have := CNT.out
              rw [IntWalk.i64_in _ (by omega)]
              omega
            go_wp2_with (go_at_call 14; refine (due_T C7.out (by omega) now).mono ?_; rintro e w8 ⟨v8, rfl, o8, c8, f8⟩; rw [TD.out] at o8; rw [DD.out] at c8; obtain ⟨a8, e8, rfl⟩ := o8.slice.arg.form; simp only [List.length_nil])
            have C8 := Lib.hid c8
            have HO8 := Lib.hid (ownsRow_keep HO7.out f8 (fun j e h => by have := (HO7.out.lt j e).1; have := HB.out j h; omega))
            have GO8 := Lib.hid (ownsRow_keep GO7.out f8 (fun j e h => by have := (GO7.out.lt j e).1; have := HB.out j h; omega))
            clear o8 c8 f8 C7 HO7 GO7 hsum
            go_loopw [102] (fun iv wr3 => ∃ n : Nat, iv = .int .i64 n ∧ n ≤ L.length ∧ Fr No w8 wr3) (fun iv _ => L.length - (intOf iv).toNat)
            case atStart => exact ⟨0, rfl, Nat.zero_le _, Fr.refl _ _⟩
            case round =>
              obtain ⟨m, rfl, hm, fr3⟩ := hrel
              have FR3 := Lib.hid fr3
              clear fr3
              by_cases h3 : m < L.length
              · have i3 : (m : Int) < (L.length : Int) := by omega
                obtain ⟨x, hx⟩ : ∃ x, L[m]? = some x := ⟨_, List.getElem?_eq_getElem h3⟩
                have hxk : (L.map (·.1))[m]? = some x.1 := by rw [List.getElem?_map, hx]; rfl
                have hxm := List.mem_of_getElem? hx
                obtain ⟨gx, cx, hvx, hrx, -⟩ := own_elem (by decide) (fun k hk => by obtain ⟨z, hz, rfl⟩ := List.mem_map.1 hk; exact keyC_len (OKL.out z hz)) (ownsRow_keep GO8.out FR3.out (fun _ _ => id)) hxk
                cases hvx
                obtain ⟨gy, cy, hvy, hry, -⟩ := own_elem (by decide) (fun k hk => by obtain ⟨z, hz, rfl⟩ := List.mem_map.1 hk; exact keyC_len (OKL.out z hz)) (ownsRow_keep HO8.out FR3.out (fun _ _ => id)) hxk
                cases hvy
                have XOK := Lib.hid (OKL.out x hxm)
                have XK := Lib.hid (keyC_len XOK.out)
                have R1 := Lib.hid hrx
                have RY := Lib.hid hry
                have RN := Lib.hid (range_new wr (keyC x.1) 36)
                have FA := Lib.hid (FR3.out.alloc (.cells (keyC x.1).toArray 36))
                have GX := Lib.hid (GONE.out x hxm)
                clear hrx hry hx hxk hxm
                go_wp2_with (first | (refine wpList_value rfl (exec_load (ty := 36) rfl rfl R1.out uK rK (by rw [XK.out]; exact infoKey)) ?_) | (refine wpList_done rfl (exec_store_new (w := wr) (ty := 36) rfl rfl rfl (by rw [XK.out]; rfl) (by rw [XK.out]; exact infoKey) keyC_one) ?_) | (refine wpList_value rfl (exec_load (ty := 36) rfl rfl RN.out uK rK (by rw [XK.out]; exact infoKey)) ?_) | (go_at_call 19; refine (till_T (C8.out.fr0 FA.out) (by omega) x.1 XOK.out).mono ?_; rintro e w9 ⟨rfl, f9⟩; rw [GX.out]))
                have F9 := Lib.hid (FA.out.trans0 f9)
                have RN9 := Lib.hid (range_keep RN.out f9 id)
                have RY9 := Lib.hid (range_keep RY.out ((Fr.refl No wr).alloc (.cells (keyC x.1).toArray 36) |>.trans0 f9) id)
                clear f9 RN RY FA
                refine wp_region_lexL [false, false, false, false, false, false, false, false, false] (fun W => W.rangeAt wr.heap.size 0 (keyC x.1) ∧ W.rangeAt gy (m * 33) (keyC x.1)) (by kernel_rfl) (by kernel_rfl) ?_ (fun K hK => ?_)
                · exact ⟨range_keep RN9.out (Fr.refl No _).drew id, range_keep RY9.out (Fr.refl No _).drew id⟩
                repeat (first | ((first | with_reducible refine lexL_read ?_ | ((with_reducible refine lexL_readG ?_ ?_); (focus rfl))); apply Exists.intro; refine ⟨?_, ?_⟩; (focus (first | exact lex_load (ty := 36) rfl (fun w h => h.1) uK rK (by rw [XK.out]; exact infoKey) | exact lex_load (ty := 36) rfl (fun w h => h.2) uK rK (by rw [XK.out]; exact infoKey) | exact fun w' h => eqKey.exec_neq (u := (keyC x.1).toArray) (v := (keyC x.1).toArray) rfl rfl rfl (keyOfKey XOK.out) (keyOfKey XOK.out) true ⟨fun _ => rfl, fun _ => rfl⟩ w' | (intro w' hS; obtain _ := hS; go_simp; (try with_reducible rfl); done))); try simp only [Act.put, List.setIfInBounds_toArray, List.set_cons_zero, List.set_cons_succ]) | ((first | ((with_reducible refine lexL_skip (c := false) ?_ ?_ ?_); (focus rfl); (focus rfl)) | ((with_reducible refine lexL_skip (c := true) ?_ ?_ ?_); (focus rfl); (focus rfl)) | ((with_reducible refine lexL_skipU ?_ ?_); (focus rfl))); try simp only [Act.put, List.setIfInBounds_toArray, List.set_cons_zero, List.set_cons_succ]))
                refine lexL_nil (hK.out _ _ ?_)
                have FD := Lib.hid (F9.out.drew)
                go_wp2
                go_roundw
                case rel => exact ⟨m + 1, by simp, by omega, FD.out⟩
                case measure => show L.length - (m + 1) < L.length - m; omega
              · have i3 : ¬ (m : Int) < (L.length : Int) := by omega
                have C9 := Lib.hid (C8.out.fr0 FR3.out)
                clear C8 HO8 GO8
                by_cases hz : R = []
                · subst hz
                  go_wp2_with (go_at_call 27; refine (next_T C9.out (by omega)).mono ?_; rintro e w10 ⟨rfl, f10⟩; rw [show (!([] : List KT).isEmpty) = false from rfl])
                  go_ret
                  exact ⟨by rfl, C9.out.fr.trans0 f10⟩
                · have hR : (0 : Int) < (R.length : Int) := by have := List.length_pos_iff.2 hz; omega
                  have RE := Lib.hid (show (!R.isEmpty) = true by cases R with | nil => exact absurd rfl hz | cons x R => rfl)
                  have hNX : now < nextT R := by
                    cases hR2 : R with
                    | nil => exact absurd hR2 hz
                    | cons x R' => exact DH.out x R' hR2
                  go_wp2_with (go_at_call 27; refine (next_T C9.out (by omega)).mono ?_; rintro e w10 ⟨rfl, f10⟩; rw [RE.out])
                  go_ret
                  exact ⟨by rfl, C9.out.fr.trans0 f10⟩
  · have j1 : (120 : Int) < (acts.length : Int) := by omega
    go_enter Tryd.func9, Tryd.ntmps9
    go_wp2_with fail
    refine (alive_any w HT.out).mono ?_
    rintro e w1 ⟨rfl, f1⟩
    have F1 := Lib.hid f1
    clear f1
    go_wp2
    go_ret
    exact ⟨rfl, F1.out⟩
end Go.Proofs.YthmaekkjpginoaaDoor
