/- kin: New, Has. -/
import Derived.Test.YtnjkpjcnmdgoeaaKinM
import Derived.Test.YtnjkpjcnmdgoeaaRowB
namespace Go.Proofs.Ytnjkpjcnmdgoeaa
open Go Go.RowKit Go.Maps Go.MapKept

theorem gok_nil : GOk [] := ⟨by simp [ids], by simp, fun A n B e => by simp at e⟩
theorem run_makeG (w : World) : (Instr.makeMap 53 none).run Try.prog w = .ok (.map (some w.heap.size)) (w.alloc (.map #[] 0)) := by kernel_rfl
theorem run_makeI (w : World) : (Instr.makeMap 52 none).run Try.prog w = .ok (.map (some w.heap.size)) (w.alloc (.map #[] 0)) := by kernel_rfl
theorem new_K (w0 w : World) (f : Fr No w0 w) : Calls Try.prog 19 #[] w fun e w' => ∃ p, e = .returned (.pointer (some ⟨p, 0, none⟩)) ∧ ∃ V, GC w0 w' p V [] 0 ∧ Fr No w w' ∧ ∀ j, V j → w.heap.size ≤ j := by
  have b0 := new_obj w (.map #[] 0)
  have b1 := old_obj b0 (.cells #[.map (some w.heap.size), .int .i64 0] 55)
  have b2 := new_obj (w.alloc (.map #[] 0)) (.cells #[.map (some w.heap.size), .int .i64 0] 55)
  have HF := Lib.hid (((Fr.refl No w).alloc (.map #[] 0)).alloc (.cells #[.map (some w.heap.size), .int .i64 0] 55))
  have hm : GMap ((w.alloc (.map #[] 0)).alloc (.cells #[.map (some w.heap.size), .int .i64 0] 55)) w.heap.size [] := (MapIs.made w).keep ((Fr.refl No _).alloc _) id
  have HGC := Lib.hid (show GC w0 ((w.alloc (.map #[] 0)).alloc (.cells #[.map (some w.heap.size), .int .i64 0] 55)) (w.heap.size + 1) (fun j => j ∈ gblks (w.heap.size + 1) w.heap.size []) [] 0 from by
    refine ⟨⟨w.heap.size, 0, [], ⟨by simpa using b2, ⟨[], hm, by simp⟩, by simp, by simp [gblks], fun j hj => ?_, by simp, by simp, by simp, by simp, f.trans0 HF.out⟩, rfl, rfl, by simp, Nat.le_refl _⟩, gok_nil, Nat.zero_le _⟩
    have := f.size
    simp [gblks] at hj
    omega)
  have HV := Lib.hid (show ∀ j, j ∈ gblks (w.heap.size + 1) w.heap.size [] → w.heap.size ≤ j from fun j hj => by simp [gblks] at hj; omega)
  clear b0 b1 b2 hm
  have m1 := run_makeG
  go_enter Try.func19, Try.ntmps19
  go_wp2_with fail
  go_ret
  exact ⟨w.heap.size + 1, by simp, _, HGC.out, HF.out, HV.out⟩
section
variable {w0 w : World} {p N : Nat} {V : Nat → Prop} {G : List NodeD}
theorem GR.keepM {m sq : Nat} {L : List RecD} (_ : GR w0 w p m sq L) {w' : World} (f : Fr No w w') : ∀ M, GMap w m M → GMap w' m M := fun _ hM => hM.keep f id
set_option maxRecDepth 20000 in
set_option maxHeartbeats 2000000 in
theorem has_K (h : GC w0 w p V G N) {x : HashD} (hx : hashOk x) : Calls Try.prog 28 #[.pointer (some ⟨p, 0, none⟩), .agg (hashC x).toArray] w fun e w' => e = .returned (.bool (decide (x ∈ ids G))) ∧ Fr No w w' := by
  obtain ⟨dK, uK, rK⟩ := descHash
  obtain ⟨m, sq, L, hr, -, hG, -, -⟩ := h.ex
  have HX := Lib.hid (hashC_len hx)
  have f1 : Fr No w (w.alloc (.cells (hashC x).toArray 30)) := (Fr.refl No w).alloc _
  have RB := Lib.hid (range_new w (hashC x) 30)
  have c0 := (blk2 (f1.obj hr.obj id)).1
  obtain ⟨k1, k2⟩ := hr.run_look hx false rfl
  have KM := Lib.hid (fun (w' : World) (f : Fr No (w.alloc (.cells (hashC x).toArray 30)) w') => hr.keepM (f1.trans0 f))
  have F1 := Lib.hid f1
  have HI := Lib.hid (show ids G = L.map (·.id) by rw [← hG]; simp [ids, Function.comp])
  clear h hr hG f1
  by_cases hin : x ∈ ids G
  · have D := Lib.hid (decide_eq_true hin)
    rw [HI.out] at hin
    obtain ⟨r, hr, rfl⟩ := List.mem_map.1 hin
    have K1 := Lib.hid (k1 r hr rfl)
    clear k1 k2 hin hr
    unfold nodeV at K1
    unfold hashV at K1
    go_enter Try.func28, Try.ntmps28
    go_wp2_with fail
    generalize hq : w.heap.size = q at *
    generalize w.alloc (.cells (hashC r.id).toArray 30) = w1 at *
    refine wp_region_lexL [false, false, false, false, false, false, false, false, false, false, false, false] (fun w' => w'.cell? ⟨p, 0, none⟩ = some (.map (some m)) ∧ w'.rangeAt q 0 (hashC r.id) ∧ (∀ M, GMap w m M → GMap w' m M)) (by kernel_rfl) (by kernel_rfl) ?_ (fun K hK => ?_)
    · exact ⟨(Fr.refl No _).drew.cell c0 id, range_keep RB.out (Fr.refl No _).drew id, KM.out _ (Fr.refl No _).drew⟩
    repeat (first | ((first | with_reducible refine lexL_read ?_ | ((with_reducible refine lexL_readG ?_ ?_); (focus rfl))); apply Exists.intro; refine ⟨?_, ?_⟩; (focus (first | exact lex_load (ty := 30) rfl (fun w h => h.2.1) uK rK (by rw [HX.out]; exact infoHash) | exact fun w' h => exec_lookup (t := 53) rfl rfl rfl (K1.out w' h.2.2) | (intro w' hS; obtain ⟨s1, s2, s3⟩ := hS; go_simp; (try with_reducible rfl); done))); try simp only [Act.put, List.setIfInBounds_toArray, List.set_cons_zero, List.set_cons_succ]) | ((first | ((with_reducible refine lexL_skip (c := false) ?_ ?_ ?_); (focus rfl); (focus rfl)) | ((with_reducible refine lexL_skip (c := true) ?_ ?_ ?_); (focus rfl); (focus rfl)) | ((with_reducible refine lexL_skipU ?_ ?_); (focus rfl))); try simp only [Act.put, List.setIfInBounds_toArray, List.set_cons_zero, List.set_cons_succ]))
    refine lexL_nil (hK.out _ _ ?_)
    go_wp2_with fail
    go_ret
    exact ⟨by rw [D.out]; rfl, F1.out.drew⟩
  · have D := Lib.hid (decide_eq_false hin)
    rw [HI.out] at hin
    have K1 := Lib.hid (k2 hin)
    clear k1 k2 hin
    unfold hashV at K1
    go_enter Try.func28, Try.ntmps28
    go_wp2_with fail
    generalize hq : w.heap.size = q at *
    generalize w.alloc (.cells (hashC x).toArray 30) = w1 at *
    refine wp_region_lexL [false, false, false, false, false, false, false, false, false, false, false, false] (fun w' => w'.cell? ⟨p, 0, none⟩ = some (.map (some m)) ∧ w'.rangeAt q 0 (hashC x) ∧ (∀ M, GMap w m M → GMap w' m M)) (by kernel_rfl) (by kernel_rfl) ?_ (fun K hK => ?_)
    · exact ⟨(Fr.refl No _).drew.cell c0 id, range_keep RB.out (Fr.refl No _).drew id, KM.out _ (Fr.refl No _).drew⟩
    repeat (first | ((first | with_reducible refine lexL_read ?_ | ((with_reducible refine lexL_readG ?_ ?_); (focus rfl))); apply Exists.intro; refine ⟨?_, ?_⟩; (focus (first | exact lex_load (ty := 30) rfl (fun w h => h.2.1) uK rK (by rw [HX.out]; exact infoHash) | exact fun w' h => exec_lookup (t := 53) rfl rfl rfl (K1.out w' h.2.2) | (intro w' hS; obtain ⟨s1, s2, s3⟩ := hS; go_simp; (try with_reducible rfl); done))); try simp only [Act.put, List.setIfInBounds_toArray, List.set_cons_zero, List.set_cons_succ]) | ((first | ((with_reducible refine lexL_skip (c := false) ?_ ?_ ?_); (focus rfl); (focus rfl)) | ((with_reducible refine lexL_skip (c := true) ?_ ?_ ?_); (focus rfl); (focus rfl)) | ((with_reducible refine lexL_skipU ?_ ?_); (focus rfl))); try simp only [Act.put, List.setIfInBounds_toArray, List.set_cons_zero, List.set_cons_succ]))
    refine lexL_nil (hK.out _ _ ?_)
    go_wp2_with fail
    go_ret
    exact ⟨by rw [D.out]; rfl, F1.out.drew⟩
end
end Go.Proofs.Ytnjkpjcnmdgoeaa
