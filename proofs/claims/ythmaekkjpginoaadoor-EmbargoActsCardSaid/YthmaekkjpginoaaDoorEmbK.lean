/- pappuslaw16.grown: a clock behind acts. -/
import Derived.Test.YthmaekkjpginoaaDoorEmbJ
import Derived.Test.YthmaekkjpginoaaDoorEmbA
namespace Go.Proofs.YthmaekkjpginoaaDoor
open Go Go.RowKit Go.Maps Go.MapKept Go.Sort

structure ActD where
  kind : Int
  k : KeyD
  at_ : Int
def ActD.ok (a : ActD) : Prop := inI64 a.kind ∧ a.k.ok ∧ 0 ≤ a.at_ ∧ a.at_ ≤ 18446744073709551615
def actC (a : ActD) : List Value := .int .i64 a.kind :: (keyC a.k ++ [.int .u64 a.at_])
theorem actC_len {a : ActD} (h : a.ok) : (actC a).length = 35 := by simp [actC, keyC_len h.2.1]
theorem actC_0 (a : ActD) : (actC a)[0]? = some (.int .i64 a.kind) := rfl
theorem actC_34 {a : ActD} (h : a.ok) : (actC a)[34]? = some (.int .u64 a.at_) := by
  show (keyC a.k ++ [Value.int .u64 a.at_])[33]? = _
  rw [List.getElem?_append_right (by rw [keyC_len h.2.1]; omega), keyC_len h.2.1]; rfl
theorem actC_one {a : ActD} : ∀ v ∈ actC a, v.oneCell' = true := by
  intro v hv
  unfold actC keyC at hv
  simp only [List.cons_append, List.mem_cons, List.mem_append, List.mem_map, List.not_mem_nil, or_false] at hv
  rcases hv with rfl | rfl | ⟨x, _, rfl⟩ | rfl <;> rfl
theorem act_key {w : World} {b o : Nat} {a : ActD} (h : w.rangeAt b o (actC a)) : w.rangeAt b (o + 1) (keyC a.k) := fun j v hj => by
  have := h (j + 1) v (by
    show (keyC a.k ++ [Value.int .u64 a.at_])[j]? = some v
    rw [List.getElem?_append_left (List.getElem?_eq_some_iff.1 hj).1]
    exact hj)
  rw [show o + 1 + j = o + (j + 1) by omega]
  exact this

def ActsIs (w : World) (v : Value) (acts : List ActD) : Prop := (∀ a ∈ acts, a.ok) ∧ ArgIs w v acts.length (acts.flatMap actC)
theorem ActsIs.keep {w w' : World} {v : Value} {acts : List ActD} (h : ActsIs w v acts) (f : Fr No w w') : ActsIs w' v acts := ⟨h.1, h.2.keep f⟩
theorem ActsIs.at_ {w : World} {v : Value} {acts : List ActD} (h : ActsIs w v acts) {i : Nat} {a : ActD} (hx : acts[i]? = some a) : ∃ b off cap, v = .slice (some ⟨b, off, none⟩) acts.length cap ∧ w.rangeAt b (off + i * 35) (actC a) ∧ b < w.heap.size :=
  h.2.elem (by decide) (fun x hx => actC_len (h.1 x hx)) hx

def actT (T : List KT) (a : ActD) : List KT := if a.kind = 0 then setT T a.k a.at_ else if a.kind = 1 then delT T a.k else if a.kind = 2 then T.dropWhile (dueT a.at_) else T
def grownT (acts : List ActD) : List KT := acts.foldl actT []
theorem grownT_snoc (acts : List ActD) (n : Nat) (a : ActD) (h : acts[n]? = some a) : grownT (acts.take (n + 1)) = actT (grownT (acts.take n)) a := by
  unfold grownT
  rw [List.take_add_one, h, List.foldl_append]
  rfl

theorem descAct : ∃ d, Tryd.prog.underlying 55 = some d ∧ d.isRow = true := row_of (by kernel_rfl)
theorem infoAct : (Tryd.prog.info? 55).map (·.size) = some 35 := by kernel_rfl
theorem descRKey : ∃ d, Tryd.prog.underlying 39 = some d ∧ d.isRow = true := row_of (by kernel_rfl)
theorem infoRKey : (Tryd.prog.info? 39).map (·.size) = some 33 := by kernel_rfl

set_option maxRecDepth 20000 in
set_option maxHeartbeats 4000000 in
theorem grown_any (w0 w : World) (f0 : Fr No w0 w) {v : Value} {acts : List ActD} (ha : ActsIs w v acts) (hN : acts.length ≤ 120) :
    Calls Tryd.prog 13 #[v] w fun e w' => ∃ p, e = .returned (.pointer (some ⟨p, 0, none⟩)) ∧ ∃ V, CT w0 w' p V (grownT acts) acts.length ∧ Fr No w w' ∧ (∀ k, V k → w.heap.size ≤ k) := by
  obtain ⟨dA, uA, rA⟩ := descAct
  obtain ⟨dR, uR, rR⟩ := descRKey
  obtain ⟨va, vc, rfl⟩ := ha.2.form
  have HA := Lib.hid ha
  have F0 := Lib.hid f0
  clear ha f0
  go_enter Tryd.func13, Tryd.ntmps13
  go_wp2_with fail
  refine (new_T w w (Fr.refl _ _)).mono ?_
  rintro e w1 ⟨p, V0, rfl, c1, f1, hV0⟩
  have C1 := Lib.hid c1
  have F1 := Lib.hid f1
  clear c1 f1 hV0
  go_wp2_with fail
  go_loopw [9] (fun iv wr => ∃ n : Nat, iv = .int .i64 n ∧ n ≤ acts.length ∧ ∃ V, CT w wr p V (grownT (acts.take n)) n) (fun iv _ => acts.length - (intOf iv).toNat)
  case atStart => exact ⟨0, rfl, Nat.zero_le _, V0, C1.out⟩
  case round =>
    obtain ⟨n, rfl, hn, V, hct⟩ := hrel
    have CT1 := Lib.hid hct
    clear hct
    by_cases h : n < acts.length
    · have i1 : (n : Int) < (acts.length : Int) := by omega
      obtain ⟨a, hx⟩ : ∃ a, acts[n]? = some a := ⟨_, List.getElem?_eq_getElem h⟩
      obtain ⟨b, off, cap, hv, hr, hb⟩ := (HA.out.keep CT1.out.fr).at_ hx
      cases hv
      have AOK := Lib.hid (HA.out.1 a (List.mem_of_getElem? hx))
      have HAL := Lib.hid (actC_len AOK.out)
      have HKL := Lib.hid (keyC_len AOK.out.2.1)
      have R1 := Lib.hid hr
      have SN := Lib.hid (grownT_snoc acts n a hx)
      have nb0 : (wr.alloc (.cells (actC a).toArray 55)).rangeAt wr.heap.size 0 (actC a) := range_new wr (actC a) 55
      have k0 : (wr.alloc (.cells (actC a).toArray 55)).cell? ⟨wr.heap.size, 0, none⟩ = some (.int .i64 a.kind) := by have := nb0 0 _ (actC_0 a); simpa using this
      have k34 : (wr.alloc (.cells (actC a).toArray 55)).cell? ⟨wr.heap.size, 34, none⟩ = some (.int .u64 a.at_) := by have := nb0 34 _ (actC_34 AOK.out); simpa using this
      have RK := Lib.hid (show World.rangeAt (wr.alloc (.cells (actC a).toArray 55)) wr.heap.size 1 (keyC a.k) from act_key nb0)
      have CT2 := Lib.hid (CT1.out.fr0 ((Fr.refl No wr).alloc (.cells (actC a).toArray 55)))
      clear hr nb0 hx
      have hcase : a.kind = 0 ∨ (¬ a.kind = 0 ∧ a.kind = 1) ∨ (¬ a.kind = 0 ∧ ¬ a.kind = 1 ∧ a.kind = 2) ∨ (¬ a.kind = 0 ∧ ¬ a.kind = 1 ∧ ¬ a.kind = 2) := by omega
      rcases hcase with q0 | ⟨q0, q1⟩ | ⟨q0, q1, q2⟩ | ⟨q0, q1, q2⟩
      · have AT := Lib.hid (show actT (grownT (acts.take n)) a = setT (grownT (acts.take n)) a.k a.at_ by simp [actT, q0])
        go_wp2_with (first | (refine wpList_value rfl (exec_load (ty := 55) rfl rfl R1.out uA rA (by rw [HAL.out]; exact infoAct)) ?_) | (refine wpList_done rfl (exec_store_new (w := wr) (ty := 55) rfl rfl rfl (by rw [HAL.out]; rfl) (by rw [HAL.out]; exact infoAct) actC_one) ?_))
        generalize wr.alloc (.cells (actC a).toArray 55) = w2 at *
        have K34 := Lib.hid k34
        clear k0 k34 q0
        refine wp_region_lexM [false, false, false, true, false, false, true] (fun W => W.cell? ⟨wr.heap.size, 34, none⟩ = some (.int .u64 a.at_) ∧ W.rangeAt wr.heap.size 1 (keyC a.k)) (by kernel_rfl) (by kernel_rfl) 6 (by kernel_rfl) (by kernel_rfl) ?_ (fun K hK => ?_)
        · exact ⟨K34.out, range_keep RK.out (Fr.refl No _).drew id⟩
        repeat (first | ((first | with_reducible refine lexM_read ?_ | ((with_reducible refine lexM_readG ?_ ?_); (focus rfl))); apply Exists.intro; refine ⟨?_, ?_⟩; (focus (first | exact lex_load (ty := 39) rfl (fun w h => h.2) uR rR (by rw [HKL.out]; exact infoRKey) | (intro w' hS; obtain ⟨s1, s2⟩ := hS; go_simp; (try with_reducible rfl); done))); try simp only [Act.put, List.setIfInBounds_toArray, List.set_cons_zero, List.set_cons_succ]) | ((first | ((with_reducible refine lexM_skip (c := false) ?_ ?_ ?_); (focus rfl); (focus rfl)) | ((with_reducible refine lexM_skip (c := true) ?_ ?_ ?_); (focus rfl); (focus rfl)) | ((with_reducible refine lexM_skipU ?_ ?_); (focus rfl))); try simp only [Act.put, List.setIfInBounds_toArray, List.set_cons_zero, List.set_cons_succ]))
        (first | with_reducible refine lexM_eff (fun K' hK' => ?_) | ((with_reducible refine lexM_effG ?_ (fun K' hK' => ?_)); (focus rfl)))
        go_simp
        refine (of_any _ a.k AOK.out.2.1).mono ?_
        rintro e w3 ⟨rfl, f3⟩
        have g3 := ((Fr.refl No w2).drew).trans0 f3
        refine hK'.out _ _ (fun _ => ?_) (fun hS => ?_)
        · exact ⟨g3.cell K34.out id, range_keep RK.out g3 id⟩
        try simp only [Act.put, List.setIfInBounds_toArray, List.set_cons_zero, List.set_cons_succ]
        repeat (first | ((first | with_reducible refine lexM_read ?_ | ((with_reducible refine lexM_readG ?_ ?_); (focus rfl))); apply Exists.intro; refine ⟨?_, ?_⟩; (focus (first | (intro w' hS; obtain ⟨s1, s2⟩ := hS; go_simp; (try with_reducible rfl); done))); try simp only [Act.put, List.setIfInBounds_toArray, List.set_cons_zero, List.set_cons_succ]) | ((first | ((with_reducible refine lexM_skip (c := false) ?_ ?_ ?_); (focus rfl); (focus rfl)) | ((with_reducible refine lexM_skip (c := true) ?_ ?_ ?_); (focus rfl); (focus rfl)) | ((with_reducible refine lexM_skipU ?_ ?_); (focus rfl))); try simp only [Act.put, List.setIfInBounds_toArray, List.set_cons_zero, List.set_cons_succ]))
        (first | with_reducible refine lexM_eff (fun K' hK' => ?_) | ((with_reducible refine lexM_effG ?_ (fun K' hK' => ?_)); (focus rfl)))
        go_simp
        refine (set_T (CT2.out.fr0 g3) (by omega) a.k AOK.out.2.1 a.at_ AOK.out.2.2).mono ?_
        rintro e w4 ⟨V4, rfl, c4, h4, f4⟩
        refine hK'.out _ _ (fun h => absurd rfl h) (fun hS => ?_)
        refine lexM_nil (hK.out _ _ ?_)
        have C4 := Lib.hid c4
        clear c4 h4 f4 g3 f3
        go_wp2
        go_roundw
        case rel => exact ⟨n + 1, by simp, by omega, V4, by rw [SN.out, AT.out]; exact C4.out⟩
        case measure => show acts.length - (n + 1) < acts.length - n; omega
      · have AT := Lib.hid (show actT (grownT (acts.take n)) a = delT (grownT (acts.take n)) a.k by simp [actT, q1])
        go_wp2_with (first | (refine wpList_value rfl (exec_load (ty := 55) rfl rfl R1.out uA rA (by rw [HAL.out]; exact infoAct)) ?_) | (refine wpList_done rfl (exec_store_new (w := wr) (ty := 55) rfl rfl rfl (by rw [HAL.out]; rfl) (by rw [HAL.out]; exact infoAct) actC_one) ?_) | (refine wpList_value rfl (exec_load (ty := 39) rfl rfl RK.out uR rR (by rw [HKL.out]; exact infoRKey)) ?_) | (go_at_call 17; refine (of_any _ a.k AOK.out.2.1).mono ?_; rintro e w3 ⟨rfl, f3⟩) | (go_at_call 20; refine (drop_T (CT2.out.fr0 f3) (by omega) a.k AOK.out.2.1).mono ?_; rintro e w4 ⟨rfl, c4, f4⟩))
        have C4 := Lib.hid (c4.more (Nat.le_succ _))
        clear c4 f4 f3
        go_roundw
        case rel => exact ⟨n + 1, by simp, by omega, V, by rw [SN.out, AT.out]; exact C4.out⟩
        case measure => show acts.length - (n + 1) < acts.length - n; omega
      · have AT := Lib.hid (show actT (grownT (acts.take n)) a = (grownT (acts.take n)).dropWhile (dueT a.at_) by simp [actT, q2])
        go_wp2_with (first | (refine wpList_value rfl (exec_load (ty := 55) rfl rfl R1.out uA rA (by rw [HAL.out]; exact infoAct)) ?_) | (refine wpList_done rfl (exec_store_new (w := wr) (ty := 55) rfl rfl rfl (by rw [HAL.out]; rfl) (by rw [HAL.out]; exact infoAct) actC_one) ?_) | (go_at_call 14; refine (due_T CT2.out (by omega) a.at_).mono ?_; rintro e w4 ⟨v4, rfl, -, c4, f4⟩))
        have C4 := Lib.hid (c4.more (Nat.le_succ _))
        clear c4 f4
        go_roundw
        case rel => exact ⟨n + 1, by simp, by omega, V, by rw [SN.out, AT.out]; exact C4.out⟩
        case measure => show acts.length - (n + 1) < acts.length - n; omega
      · have AT := Lib.hid (show actT (grownT (acts.take n)) a = grownT (acts.take n) by simp [actT, q0, q1, q2])
        go_wp2_with (first | (refine wpList_value rfl (exec_load (ty := 55) rfl rfl R1.out uA rA (by rw [HAL.out]; exact infoAct)) ?_) | (refine wpList_done rfl (exec_store_new (w := wr) (ty := 55) rfl rfl rfl (by rw [HAL.out]; rfl) (by rw [HAL.out]; exact infoAct) actC_one) ?_))
        go_roundw
        case rel => exact ⟨n + 1, by simp, by omega, V, by rw [SN.out, AT.out]; exact CT2.out.more (Nat.le_succ _)⟩
        case measure => show acts.length - (n + 1) < acts.length - n; omega
    · have i1 : ¬ (n : Int) < (acts.length : Int) := by omega
      have i2 : n = acts.length := by omega
      have C9 := Lib.hid (show CT w wr p V (grownT acts) acts.length by have := CT1.out; rw [i2, List.take_length] at this; exact this)
      clear i2
      go_wp2
      go_ret
      exact ⟨p, rfl, V, C9.out.base F0.out, C9.out.fr, C9.out.lo⟩
end Go.Proofs.YthmaekkjpginoaaDoor
