/- embargo: the document's Delay. -/
import Derived.Test.YthmaekkjpginoaaDoorEmbY
import Derived.Test.YthmaekkjpginoaaDoorBuild
namespace Go.Proofs.YthmaekkjpginoaaDoor
open Go Go.RowKit Go.Maps Go.MapKept

def u64V (x : Nat) : Value := .int .u64 x
set_option maxRecDepth 20000 in
set_option maxHeartbeats 1000000 in
theorem table_any (w : World) : Calls Tryd.prog 29 #[] w fun e w' => e = .returned (.agg (tabL.map u64V).toArray) ∧ Fr No w w' := by
  go_enter Tryd.func29, Tryd.ntmps29
  have hb : ∀ w : World, (Instr.build 71 #[(0, u64V 0), (1, u64V 1), (2, u64V 2), (3, u64V 2), (4, u64V 3), (5, u64V 4), (6, u64V 5), (7, u64V 5), (8, u64V 6), (9, u64V 7), (10, u64V 8), (11, u64V 9), (12, u64V 10), (13, u64V 11), (14, u64V 12), (15, u64V 13), (16, u64V 14), (17, u64V 16), (18, u64V 17), (19, u64V 19), (20, u64V 20), (21, u64V 22), (22, u64V 24), (23, u64V 27), (24, u64V 29), (25, u64V 32), (26, u64V 35), (27, u64V 39), (28, u64V 44), (29, u64V 51), (30, u64V 61), (31, u64V 83), (32, u64V 100)]).run Tryd.prog w = .ok (.agg (tabL.map u64V).toArray) w := fun w => by kernel_rfl
  go_wp2_with (first | (refine wpList_done rfl (exec_store_new (ty := 71) rfl rfl rfl (cs := tabL.map u64V) (by rfl) (by kernel_rfl) (by decide)) ?_))
  exact bodyPost_ret (v := .agg (tabL.map u64V).toArray) (results_cell_row (P := Tryd.prog) (fn := Tryd.f29) rfl _ _ w.heap.size 71 (tabL.map u64V).toArray (0, 0) _ rfl (new_obj w _) Tryd.underlying71 rfl (by kernel_rfl)) rfl ⟨rfl, by (repeat (first | with_reducible exact Fr.refl _ _ | with_reducible assumption | with_reducible refine Fr.drew ?_ | with_reducible refine Fr.drewN ?_ _ | with_reducible refine Fr.alloc ?_ _ | with_reducible refine Fr.setCell ?_ _ (.inl (by simp <;> omega)) _))⟩

theorem desc33 : ∃ d, Tryd.prog.underlying 71 = some d ∧ d.isRow = true := row_of (by kernel_rfl)
set_option maxRecDepth 20000 in
set_option maxHeartbeats 1000000 in
theorem delayR_any (w : World) (d : Nat) (hd : d ≤ 65535) :
    Calls Tryd.prog 12 #[.int .u16 d] w fun e w' => e = .returned (.int .u64 (delayN d)) ∧ Fr No w w' := by
  have h1 := tab_step (d / 2048) (by omega)
  have h2 := tab_at (d / 2048) (by omega)
  have h3 := tab_at (d / 2048 + 1) (by omega)
  unfold delayN
  have hr : d % 2048 < 2048 := by omega
  obtain ⟨k, hk⟩ : ∃ k, d / 2048 = k := ⟨_, rfl⟩
  obtain ⟨k2, hk2⟩ : ∃ k2, k + 1 = k2 := ⟨_, rfl⟩
  have hkl : k < 32 := by omega
  have ek : (d : Int) / 2048 = (k : Int) := by omega
  have ek2 : IntKind.u64.wrap ((k : Int) + 1) = (k2 : Int) := by simp [IntKind.wrap, IntKind.bits, IntKind.signed]; omega
  rw [hk] at h1 h2 h3 ⊢
  rw [hk2] at h1 h3 ⊢
  have i1 : (k : Int) < 33 := by omega
  have i2 : (k2 : Int) < 33 := by omega
  generalize tabL.getD k 0 = lo at *
  generalize tabL.getD k2 0 = hi at *
  obtain ⟨m, hm⟩ : ∃ m, d % 2048 = m := ⟨_, rfl⟩
  have em : (d : Int) % 2048 = (m : Int) := by omega
  rw [hm] at hr ⊢
  have q2 : ∀ w' : World, w'.rangeAt w'.heap.size 0 [] → True := fun _ _ => trivial
  have l1 : ((hi : Int) - lo) * m ≤ 100 * 2047 := by
    have : (((hi - lo) * m : Nat) : Int) = ((hi : Int) - lo) * m := by
      rw [Int.natCast_mul, Int.natCast_sub h1.1]
    rw [← this]
    have : (hi - lo) * m ≤ 100 * 2047 := Nat.mul_le_mul (by omega) (by omega)
    omega
  have l0 : 0 ≤ ((hi : Int) - lo) * m := Int.mul_nonneg (by omega) (by omega)
  have ev : IntKind.u64.wrap (10 + (lo : Int) + IntKind.u64.wrap ((((hi : Int) - lo) * (m : Int)).tdiv 2048)) = ((10 + (lo + (hi - lo) * m / 2048) : Nat) : Int) := by
    have hc : (((hi - lo) * m : Nat) : Int) = ((hi : Int) - lo) * m := by
      rw [Int.natCast_mul, Int.natCast_sub h1.1]
    rw [Int.tdiv_eq_ediv_of_nonneg l0]
    rw [← hc] at l1 l0 ⊢
    have e1 : IntKind.u64.wrap ((((hi - lo) * m : Nat) : Int) / 2048) = (((hi - lo) * m : Nat) : Int) / 2048 := by
      simp only [IntKind.wrap, IntKind.bits, IntKind.signed]
      simp only [Bool.false_and, Bool.false_eq_true, if_false]
      generalize (hi - lo) * m = z at *
      omega
    rw [e1]
    simp only [IntKind.wrap, IntKind.bits, IntKind.signed]
    simp only [Bool.false_and, Bool.false_eq_true, if_false]
    generalize (hi - lo) * m = z at *
    omega
  have EV := Lib.hid ev
  clear ev
  have EK := Lib.hid ek
  have EM := Lib.hid em
  have EK2 := Lib.hid ek2
  have H2 := Lib.hid h2
  have H3 := Lib.hid h3
  clear hk hk2 ek ek2 hm em h2 h3 q2
  go_enter Tryd.func12, Tryd.ntmps12
  go_wp2_with fail
  refine (table_any w).mono ?_
  rintro e w1 ⟨rfl, f1⟩
  have c2 : (w1.alloc (.cells (tabL.map u64V).toArray 71)).cell? ⟨w1.heap.size, k, none⟩ = some (.int .u64 lo) := by
    have := range_new w1 (tabL.map u64V) 71 k (.int .u64 lo) (by rw [List.getElem?_map, H2.out]; rfl)
    simpa using this
  have c3 : (w1.alloc (.cells (tabL.map u64V).toArray 71)).cell? ⟨w1.heap.size, k2, none⟩ = some (.int .u64 hi) := by
    have := range_new w1 (tabL.map u64V) 71 k2 (.int .u64 hi) (by rw [List.getElem?_map, H3.out]; rfl)
    simpa using this
  have F := Lib.hid (show Fr No w (w1.alloc (.cells (tabL.map u64V).toArray 71)) from f1.alloc _)
  go_wp2_with (first | (refine wpList_done rfl (exec_store_new (w := w1) (ty := 71) rfl rfl rfl (cs := tabL.map u64V) (by rfl) (by kernel_rfl) (by decide)) ?_))
  rw [EK.out, EM.out]
  generalize (w1.alloc (.cells (tabL.map u64V).toArray 71)) = w2 at *
  have ek2 := EK2.out
  have a1 : IntKind.u64.wrap (10 + (lo : Int)) = 10 + (lo : Int) := by simp [IntKind.wrap, IntKind.bits, IntKind.signed]; omega
  have a2 : IntKind.u64.wrap ((hi : Int) - (lo : Int)) = (hi : Int) - (lo : Int) := by simp [IntKind.wrap, IntKind.bits, IntKind.signed]; omega
  have a3 : IntKind.u64.wrap (((hi : Int) - (lo : Int)) * (m : Int)) = ((hi : Int) - (lo : Int)) * (m : Int) := by simp [IntKind.wrap, IntKind.bits, IntKind.signed]; exact Int.emod_eq_of_lt l0 (by omega)
  refine wp_region_lexL [false, false, false, false, false, false, false, false, false, false, false, false, false, false, false, false, false] (fun w' => w'.cell? ⟨w1.heap.size, k, none⟩ = some (.int .u64 lo) ∧ w'.cell? ⟨w1.heap.size, k2, none⟩ = some (.int .u64 hi)) (by kernel_rfl) (by kernel_rfl) ?_ (fun K hK => ?_)
  · exact ⟨c2, c3⟩
  repeat (first | ((first | with_reducible refine lexL_read ?_ | ((with_reducible refine lexL_readG ?_ ?_); (focus rfl))); apply Exists.intro; refine ⟨fun w' hS => ?_, ?_⟩; (focus (obtain ⟨s1, s2⟩ := hS; go_simp; (try with_reducible rfl); done)); try simp only [Act.put, List.setIfInBounds_toArray, List.set_cons_zero, List.set_cons_succ]) | ((first | ((with_reducible refine lexL_skip (c := false) ?_ ?_ ?_); (focus rfl); (focus rfl)) | ((with_reducible refine lexL_skip (c := true) ?_ ?_ ?_); (focus rfl); (focus rfl)) | ((with_reducible refine lexL_skipU ?_ ?_); (focus rfl))); try simp only [Act.put, List.setIfInBounds_toArray, List.set_cons_zero, List.set_cons_succ]))
  refine lexL_nil (hK.out _ _ ?_)
  clear ek2 a1 a2 a3
  go_wp2
  go_ret
  refine ⟨?_, F.out.drew⟩
  refine congrArg (fun x => Ending.returned (.int .u64 x)) ?_
  exact EV.out
end Go.Proofs.YthmaekkjpginoaaDoor
