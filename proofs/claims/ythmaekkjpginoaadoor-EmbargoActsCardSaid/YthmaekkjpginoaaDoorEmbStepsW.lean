/- EmbargoSteps: the walk. -/
import Derived.Test.YthmaekkjpginoaaDoorEmbK
import Derived.Test.YthmaekkjpginoaaDoorEmbN
import Derived.Test.YthmaekkjpginoaaDoorEmbV
import Derived.Test.YthmaekkjpginoaaDoorAppN
namespace Go.Proofs.YthmaekkjpginoaaDoor
open Go Go.RowKit Go.Maps Go.MapKept Go.Sort

theorem due_steps {T : List KT} {lo hi : Int} (h : lo ≤ hi) : T.takeWhile (dueT lo) ++ (T.dropWhile (dueT lo)).takeWhile (dueT hi) = T.takeWhile (dueT hi) ∧ (T.dropWhile (dueT lo)).dropWhile (dueT hi) = T.dropWhile (dueT hi) := by
  induction T with
  | nil => exact ⟨rfl, rfl⟩
  | cons x T ih =>
    by_cases e : x.2 ≤ lo
    · have h1 : dueT lo x = true := decide_eq_true e
      have h2 : dueT hi x = true := decide_eq_true (by omega)
      simp only [List.takeWhile_cons, List.dropWhile_cons, h1, h2, if_true, List.cons_append]
      exact ⟨by rw [ih.1], ih.2⟩
    · have h1 : dueT lo x = false := decide_eq_false e
      simp only [List.takeWhile_cons, List.dropWhile_cons, h1, if_false, List.nil_append, Bool.false_eq_true]
      exact ⟨trivial, trivial⟩
theorem keysC_one {ks : List KeyD} : ∀ u ∈ ks.flatMap keyC, u.oneCell' = true := fun u hu => by
  obtain ⟨x, _, hx⟩ := List.mem_flatMap.1 hu
  exact keyC_one u hx
theorem keysC_len {ks : List KeyD} (ok : ∀ k ∈ ks, k.ok) : (ks.flatMap keyC).length = ks.length * 33 := flatR_len keyC 33 ks (fun x hx => keyC_len (ok x hx))
theorem CT.keyOk {w0 w : World} {p : Nat} {V : Nat → Prop} {T : List KT} {N : Nat} (h : CT w0 w p V T N) : ∀ k ∈ T.map (·.1), k.ok := fun k hk => by
  obtain ⟨x, hx, rfl⟩ := List.mem_map.1 hk
  exact (h.good.ok x hx).1

set_option maxRecDepth 20000 in
set_option maxHeartbeats 4000000 in
theorem steps_any (w : World) (hT : TabAt w) {v : Value} {acts : List ActD} (ha : ActsIs w v acts) (a b : Int) :
    Calls Tryd.prog 5 #[v, .int .u64 a, .int .u64 b] w fun e w' => e = .returned (.bool true) ∧ Fr No w w' := by
  obtain ⟨dK, uK, rK⟩ := descKey
  obtain ⟨va, vc, rfl⟩ := ha.2.form
  have HA := Lib.hid ha
  have HT := Lib.hid hT
  clear ha hT
  by_cases hN : acts.length ≤ 120
  · have j1 : ¬ (120 : Int) < (acts.length : Int) := by omega
    go_enter Tryd.func5, Tryd.ntmps5
    go_wp2_with fail
    refine (alive_any w HT.out).mono ?_
    rintro e w1 ⟨rfl, f1⟩
    have F1 := Lib.hid f1
    clear f1
    go_wp2_with fail
    refine (grown_any w w1 F1.out (HA.out.keep F1.out) hN).mono ?_
    rintro e w2 ⟨p, rfl, V, c2, f2, hV⟩
    have F2 := Lib.hid (F1.out.trans0 f2)
    have C2 := Lib.hid c2
    clear f2 hV c2
    go_wp2_with fail
    refine (grown_any w w2 F2.out (HA.out.keep F2.out) hN).mono ?_
    rintro e w3 ⟨q, rfl, U, d3, f3, hU⟩
    have DIS := Lib.hid (show ∀ k, V k → ¬ U k from fun k h1 h2 => by have := C2.out.hi k h1; have := hU k h2; omega)
    have C3 := Lib.hid (C2.out.fr0 f3)
    have D3 := Lib.hid d3
    clear f3 hU d3
    go_wp2_with fail
    refine (due_T C3.out (by omega) (min a b)).mono ?_
    rintro e w4 ⟨v4, rfl, o4, c4, f4⟩
    have D4 := Lib.hid (D3.out.frV f4 (fun k h1 h2 => DIS.out k h2 h1) C3.out.lo)
    have C4 := Lib.hid c4
    have O4 := Lib.hid o4
    have S4 := Lib.hid f4.size
    clear c4 o4 f4
    go_wp2_with fail
    refine (due_T C4.out (by omega) (max a b)).mono ?_
    rintro e w5 ⟨v5, rfl, o5, c5, f5⟩
    have hst := due_steps (T := grownT acts) (lo := min a b) (hi := max a b) (by omega)
    rw [hst.2] at c5
    have NV4 := Lib.hid (show ∀ k, v4.ownBlock = some k → w3.heap.size ≤ k from fun k e => (O4.out.lt k e).1)
    have O45 := ownsRow_keep O4.out f5 (fun k e h => by have := NV4.out k e; have := C3.out.hi k h; omega)
    have ok4 : ∀ k ∈ ((grownT acts).takeWhile (dueT (min a b))).map (·.1), k.ok := fun k hk => C3.out.keyOk k (((List.takeWhile_prefix _).sublist.map (fun x : KT => x.1)).subset hk)
    have ok5 : ∀ k ∈ (((grownT acts).dropWhile (dueT (min a b))).takeWhile (dueT (max a b))).map (·.1), k.ok := fun k hk => C4.out.keyOk k (((List.takeWhile_prefix _).sublist.map (fun x : KT => x.1)).subset hk)
    have hlen : ((grownT acts).takeWhile (dueT (min a b))).length + (((grownT acts).dropWhile (dueT (min a b))).takeWhile (dueT (max a b))).length = ((grownT acts).takeWhile (dueT (max a b))).length := by rw [← List.length_append, hst.1]
    have hle : ((grownT acts).takeWhile (dueT (max a b))).length ≤ 120 := by
      have h1 := (List.takeWhile_prefix (l := grownT acts) (dueT (max a b))).length_le
      have h2 := C3.out.len
      omega
    have S5 := Lib.hid (Nat.le_trans S4.out f5.size)
    obtain ⟨v6, w6, hap, o6, f6, hb6⟩ := append_sl (P := Tryd.prog) w5 w3.heap.size 31 31 36 33 40 _ undKeys infoKeyZ rfl (by decide) v4 _ _ O45 v5 _ _ o5.slice (by rw [keysC_len ok5, List.length_map]) keysC_one (by omega) (by unfold maxLen; omega) S5.out
    rw [← List.flatMap_append, ← List.map_append, hst.1, hlen] at o6
    have C6 := Lib.hid (c5.frV f6 (fun k h1 h2 => by have := NV4.out k h2; have := C3.out.hi k h1; omega) (fun k h2 => Nat.le_trans C3.out.fr.size (NV4.out k h2)))
    have D6 := Lib.hid ((D4.out.frV f5 (fun k h1 h2 => DIS.out k h2 h1) C3.out.lo).frV f6 (fun k h1 h2 => by have := NV4.out k h2; have := D3.out.hi k h1; omega) (fun k h2 => Nat.le_trans C3.out.fr.size (NV4.out k h2)))
    have O6 := Lib.hid o6
    have HAP := Lib.hid hap
    have OK6 := Lib.hid (show ∀ k ∈ ((grownT acts).takeWhile (dueT (max a b))).map (·.1), k.ok from fun k hk => C3.out.keyOk k (((List.takeWhile_prefix _).sublist.map (fun x : KT => x.1)).subset hk))
    obtain ⟨a4, e4, rfl⟩ := O4.out.slice.arg.form
    obtain ⟨a5, e5, rfl⟩ := o5.slice.arg.form
    obtain ⟨a6, e6, rfl⟩ := O6.out.slice.arg.form
    clear hap o6 f6 hb6 O45 c5 o5 f5 hst hlen ok4 ok5
    go_wp2_with (at_builtin; refine wpList_append_run rfl rfl rfl rfl HAP.out ?_)
    refine (due_T D6.out (by omega) (max a b)).mono ?_
    rintro e w7 ⟨v7, rfl, o7, d7, f7⟩
    have C7 := Lib.hid (C6.out.frV f7 (fun k h1 h2 => DIS.out k h1 h2) D6.out.lo)
    have D7 := Lib.hid d7
    have OX := Lib.hid (ownsRow_keep O6.out f7 (fun k e h => by have := (O6.out.lt k e).1; have := D3.out.hi k h; omega))
    have OY := Lib.hid o7
    obtain ⟨a7, e7, rfl⟩ := o7.slice.arg.form
    clear o7 d7 f7 HAP
    go_wp2_with fail
    have hCD : ((grownT acts).dropWhile (dueT (max a b))).length ≤ 120 := by
      have h1 := (List.dropWhile_suffix (l := grownT acts) (dueT (max a b))).length_le
      have h2 := C3.out.len
      omega
    generalize (grownT acts).dropWhile (dueT (max a b)) = D at *
    generalize (grownT acts).takeWhile (dueT (max a b)) = L at *
    clear C3 D3 C4 D4 O4 O6 NV4 C6 D6
    go_loopw [44] (fun iv wr => ∃ n : Nat, iv = .int .i64 n ∧ n ≤ L.length ∧ Fr No w7 wr) (fun iv _ => L.length - (intOf iv).toNat)
    case atStart => exact ⟨0, rfl, Nat.zero_le _, Fr.refl _ _⟩
    case round =>
      obtain ⟨n, rfl, hn, fr⟩ := hrel
      have FR := Lib.hid fr
      clear fr
      by_cases h : n < L.length
      · have i1 : (n : Int) < (L.length : Int) := by omega
        obtain ⟨x, hx⟩ : ∃ x, (L.map (·.1))[n]? = some x := ⟨_, List.getElem?_eq_getElem (by rw [List.length_map]; exact h)⟩
        obtain ⟨gx, cx, hvx, hrx, -⟩ := own_elem (by decide) (fun k hk => keyC_len (OK6.out k hk)) (ownsRow_keep OX.out FR.out (fun _ _ => id)) hx
        cases hvx
        obtain ⟨gy, cy, hvy, hry, -⟩ := own_elem (by decide) (fun k hk => keyC_len (OK6.out k hk)) (ownsRow_keep OY.out FR.out (fun _ _ => id)) hx
        cases hvy
        have XOK := Lib.hid (OK6.out x (List.mem_of_getElem? hx))
        have XK := Lib.hid (keyC_len XOK.out)
        have RX := Lib.hid hrx
        have RY := Lib.hid hry
        clear hrx hry hx
        go_wp2
        refine wp_region_lexL [false, false, false, false, false, false, false, false, false] (fun W => W.rangeAt gx (n * 33) (keyC x) ∧ W.rangeAt gy (n * 33) (keyC x)) (by kernel_rfl) (by kernel_rfl) ?_ (fun K hK => ?_)
        · exact ⟨range_keep RX.out (Fr.refl No _).drew id, range_keep RY.out (Fr.refl No _).drew id⟩
        repeat (first | ((first | with_reducible refine lexL_read ?_ | ((with_reducible refine lexL_readG ?_ ?_); (focus rfl))); apply Exists.intro; refine ⟨?_, ?_⟩; (focus (first | exact lex_load (ty := 36) rfl (fun w h => h.1) uK rK (by rw [XK.out]; exact infoKey) | exact lex_load (ty := 36) rfl (fun w h => h.2) uK rK (by rw [XK.out]; exact infoKey) | exact fun w' h => eqKey.exec_neq (u := (keyC x).toArray) (v := (keyC x).toArray) rfl rfl rfl (keyOfKey XOK.out) (keyOfKey XOK.out) true ⟨fun _ => rfl, fun _ => rfl⟩ w' | (intro w' hS; obtain _ := hS; go_simp; (try with_reducible rfl); done))); try simp only [Act.put, List.setIfInBounds_toArray, List.set_cons_zero, List.set_cons_succ]) | ((first | ((with_reducible refine lexL_skip (c := false) ?_ ?_ ?_); (focus rfl); (focus rfl)) | ((with_reducible refine lexL_skip (c := true) ?_ ?_ ?_); (focus rfl); (focus rfl)) | ((with_reducible refine lexL_skipU ?_ ?_); (focus rfl))); try simp only [Act.put, List.setIfInBounds_toArray, List.set_cons_zero, List.set_cons_succ]))
        refine lexL_nil (hK.out _ _ ?_)
        have FD := Lib.hid (FR.out.drew)
        go_wp2
        go_roundw
        case rel => exact ⟨n + 1, by simp, by omega, FD.out⟩
        case measure => show L.length - (n + 1) < L.length - n; omega
      · have i1 : ¬ (n : Int) < (L.length : Int) := by omega
        have C8 := Lib.hid (C7.out.fr0 FR.out)
        have D8 := Lib.hid (D7.out.fr0 FR.out)
        go_wp2_with fail
        refine (all_T C8.out (by omega)).mono ?_
        rintro e w9 ⟨v9, rfl, o9, f9⟩
        have D9 := Lib.hid (D8.out.fr0 f9)
        obtain ⟨a9, e9, rfl⟩ := o9.slice.arg.form
        clear o9 f9
        go_wp2_with fail
        refine (all_T D9.out (by omega)).mono ?_
        rintro e w10 ⟨v10, rfl, o10, f10⟩
        have F10 := Lib.hid (D9.out.fr.trans0 f10)
        obtain ⟨a10, e10, rfl⟩ := o10.slice.arg.form
        clear o10 f10
        go_wp2
        go_ret
        exact ⟨by simp, F10.out⟩
  · have j1 : (120 : Int) < (acts.length : Int) := by omega
    go_enter Tryd.func5, Tryd.ntmps5
    go_wp2_with fail
    refine (alive_any w HT.out).mono ?_
    rintro e w1 ⟨rfl, f1⟩
    have F1 := Lib.hid f1
    clear f1
    go_wp2
    go_ret
    exact ⟨rfl, F1.out⟩
end Go.Proofs.YthmaekkjpginoaaDoor
