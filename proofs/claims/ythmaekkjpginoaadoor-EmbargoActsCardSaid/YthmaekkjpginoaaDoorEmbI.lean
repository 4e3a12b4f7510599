/- embargo: Next, Till. -/
import Derived.Test.YthmaekkjpginoaaDoorEmbE
namespace Go.Proofs.YthmaekkjpginoaaDoor
open Go Go.RowKit Go.Maps Go.MapKept Go.Sort

theorem next_none {w0 w : World} {p : Nat} {g : CkG} {N : Nat} (hc : Ck w0 w p g [] N) :
    Calls Tryd.prog 27 #[.pointer (some ⟨g.bl, 0, none⟩)] w fun e w' => e = .returned (.tuple #[.int .u64 0, .bool false]) ∧ Fr No w w' := by
  obtain ⟨k0, -, -⟩ := hc.at_.cells
  obtain ⟨ha, hcp, hvf⟩ := hc.at_.hh.slice.arg.form
  rw [hc.empty] at hvf
  rw [hvf] at k0
  clear hvf hc
  go_enter Tryd.func27, Tryd.ntmps27
  go_wp2
  go_ret2
  exact ⟨rfl, Fr.refl _ _⟩
theorem next_some {w0 w : World} {p : Nat} {g : CkG} {x : HeldD} {S : List HeldD} {N : Nat} (hc : Ck w0 w p g (x :: S) N) (hN : N ≤ 1000) :
    Calls Tryd.prog 27 #[.pointer (some ⟨g.bl, 0, none⟩)] w fun e w' => e = .returned (.tuple #[.int .u64 x.till, .bool true]) ∧ Fr No w w' := by
  obtain ⟨k0, -, -⟩ := hc.at_.cells
  have h0 := hc.head
  obtain ⟨gb, cap, hv, hr, hgl⟩ := hc.at_.at_ h0
  have hHl : 0 < g.H.length := (List.getElem?_eq_some_iff.1 h0).1
  have hlm : g.H.length ≤ 1000 := by have := hc.len; omega
  have okx := hc.at_.ok x (List.mem_of_getElem? h0)
  rw [hv] at k0
  have i1 : (0 : Int) < (g.H.length : Int) := by omega
  have i2 : (g.H.length : Int) ≠ 0 := by omega
  have hr0 : w.rangeAt gb 0 (heldC x) := by simpa using hr
  have t33 : w.cell? ⟨gb, 33, none⟩ = some (.int .u64 x.till) := by have := hr0 33 _ (heldC_33 okx); simpa using this
  clear hr0 hr hc h0 hv okx
  go_enter Tryd.func27, Tryd.ntmps27
  go_wp2
  go_ret2
  exact ⟨rfl, Fr.refl _ _⟩

set_option maxRecDepth 20000 in
set_option maxHeartbeats 1000000 in
theorem till_none {w0 w : World} {p : Nat} {g : CkG} {S : List HeldD} {N : Nat} (hc : Ck w0 w p g S N) (k : KeyD) (hk : k.ok) (hin : ¬ hasK S k) :
    Calls Tryd.prog 19 #[.pointer (some ⟨g.bl, 0, none⟩), .agg (keyC k).toArray] w fun e w' => e = .returned (.tuple #[.int .u64 0, .bool false]) ∧ Fr No w w' := by
  have hM : ∀ j, (k, j) ∉ g.M := fun j hj => by
    obtain ⟨n, x, _, hx, he⟩ := (hc.rep _ _).1 hj
    exact hin ⟨x, hc.mem.2 (List.mem_of_getElem? hx), he⟩
  clear hin
  have fB : Fr No w (w.alloc (.cells (keyC k).toArray 36)) := by (repeat (first | with_reducible exact Fr.refl _ _ | with_reducible assumption | with_reducible refine Fr.drew ?_ | with_reducible refine Fr.drewN ?_ _ | with_reducible refine Fr.alloc ?_ _ | with_reducible refine Fr.setCell ?_ _ (.inl (by simp <;> omega)) _))
  have HK1 := Lib.hid (hc.at_.keep0 fB)
  obtain ⟨c0, c1, c2⟩ := HK1.out.cells
  have RB := Lib.hid (range_new w (keyC k) 36)
  have HL := Lib.hid (keyC_len hk)
  obtain ⟨dK, uK, rK⟩ := descKey
  have LOOK := Lib.hid (fun (w' : World) (hm : MapIs Tryd.prog 36 keyV intV w' g.bm g.M) => (hm.miss keyedKey undKeyMap (fun _ _ => keyV_inj) zeroInt (keyOfKey hk) hM).1)
  have f1 : Fr No w (w.alloc (.cells (keyC k).toArray 36)).drew := by (repeat (first | with_reducible exact Fr.refl _ _ | with_reducible assumption | with_reducible refine Fr.drew ?_ | with_reducible refine Fr.drewN ?_ _ | with_reducible refine Fr.alloc ?_ _ | with_reducible refine Fr.setCell ?_ _ (.inl (by simp <;> omega)) _))
  have HCK := Lib.hid hc
  clear hc fB
  go_enter Tryd.func19, Tryd.ntmps19
  go_wp2
  refine wp_region_lexL [false, false, false, false, false, false, false, false, false, false, false] (fun w' => w'.cell? ⟨g.bl, 1, none⟩ = some (.map (some g.bm)) ∧ w'.rangeAt w.heap.size 0 (keyC k) ∧ MapIs Tryd.prog 36 keyV intV w' g.bm g.M) (by kernel_rfl) (by kernel_rfl) ?_ (fun K hK => ?_)
  · exact ⟨c1, range_keep RB.out (Fr.refl No _).drew id, HK1.out.hm.keep (Fr.refl No _).drew id⟩
  repeat (first | ((first | with_reducible refine lexL_read ?_ | ((with_reducible refine lexL_readG ?_ ?_); (focus rfl))); apply Exists.intro; refine ⟨?_, ?_⟩; (focus (first | exact lex_load (ty := 36) rfl (fun w h => h.2.1) uK rK (by rw [HL.out]; exact infoKey) | exact fun w' h => exec_lookup (t := 74) rfl rfl rfl (LOOK.out w' h.2.2) | (intro w' hS; obtain ⟨s1, s2, s3⟩ := hS; go_simp; (try with_reducible rfl); done))); try simp only [Act.put, List.setIfInBounds_toArray, List.set_cons_zero, List.set_cons_succ]) | ((first | ((with_reducible refine lexL_skip (c := false) ?_ ?_ ?_); (focus rfl); (focus rfl)) | ((with_reducible refine lexL_skip (c := true) ?_ ?_ ?_); (focus rfl); (focus rfl)) | ((with_reducible refine lexL_skipU ?_ ?_); (focus rfl))); try simp only [Act.put, List.setIfInBounds_toArray, List.set_cons_zero, List.set_cons_succ]))
  refine lexL_nil (hK.out _ _ ?_)
  have F := Lib.hid f1
  clear f1
  go_wp2
  go_ret2
  exact ⟨rfl, F.out⟩
set_option maxRecDepth 20000 in
set_option maxHeartbeats 1000000 in
theorem till_some {w0 w : World} {p : Nat} {g : CkG} {S : List HeldD} {N : Nat} (hc : Ck w0 w p g S N) (hN : N ≤ 1000) (x : HeldD) (hx : x ∈ S) :
    Calls Tryd.prog 19 #[.pointer (some ⟨g.bl, 0, none⟩), .agg (keyC x.k).toArray] w fun e w' => e = .returned (.tuple #[.int .u64 x.till, .bool true]) ∧ Fr No w w' := by
  obtain ⟨j, hj⟩ := List.mem_iff_getElem?.1 (hc.mem.1 hx)
  have hM : (x.k, (j : Int)) ∈ g.M := (hc.rep _ _).2 ⟨j, x, rfl, hj, rfl⟩
  have okx := hc.at_.ok x (hc.mem.1 hx)
  have hk := okx.1
  have hlm : g.H.length ≤ 1000 := by have := hc.len; omega
  have hjl : j < g.H.length := (List.getElem?_eq_some_iff.1 hj).1
  generalize hkk : x.k = k at *
  have fB : Fr No w (w.alloc (.cells (keyC k).toArray 36)) := by (repeat (first | with_reducible exact Fr.refl _ _ | with_reducible assumption | with_reducible refine Fr.drew ?_ | with_reducible refine Fr.drewN ?_ _ | with_reducible refine Fr.alloc ?_ _ | with_reducible refine Fr.setCell ?_ _ (.inl (by simp <;> omega)) _))
  have HK1 := Lib.hid (hc.at_.keep0 fB)
  obtain ⟨c0, c1, c2⟩ := HK1.out.cells
  have RB := Lib.hid (range_new w (keyC k) 36)
  have HL := Lib.hid (keyC_len hk)
  obtain ⟨dK, uK, rK⟩ := descKey
  have LOOK := Lib.hid (fun (w' : World) (hm : MapIs Tryd.prog 36 keyV intV w' g.bm g.M) => (hm.hit keyedKey undKeyMap (fun _ _ => keyV_inj) zeroInt (keyOfKey hk) hM).1)
  have f1 : Fr No w (w.alloc (.cells (keyC k).toArray 36)).drew := by (repeat (first | with_reducible exact Fr.refl _ _ | with_reducible assumption | with_reducible refine Fr.drew ?_ | with_reducible refine Fr.drewN ?_ _ | with_reducible refine Fr.alloc ?_ _ | with_reducible refine Fr.setCell ?_ _ (.inl (by simp <;> omega)) _))
  have HCK := Lib.hid hc
  clear hc fB
  go_enter Tryd.func19, Tryd.ntmps19
  go_wp2
  refine wp_region_lexL [false, false, false, false, false, false, false, false, false, false, false] (fun w' => w'.cell? ⟨g.bl, 1, none⟩ = some (.map (some g.bm)) ∧ w'.rangeAt w.heap.size 0 (keyC k) ∧ MapIs Tryd.prog 36 keyV intV w' g.bm g.M) (by kernel_rfl) (by kernel_rfl) ?_ (fun K hK => ?_)
  · exact ⟨c1, range_keep RB.out (Fr.refl No _).drew id, HK1.out.hm.keep (Fr.refl No _).drew id⟩
  repeat (first | ((first | with_reducible refine lexL_read ?_ | ((with_reducible refine lexL_readG ?_ ?_); (focus rfl))); apply Exists.intro; refine ⟨?_, ?_⟩; (focus (first | exact lex_load (ty := 36) rfl (fun w h => h.2.1) uK rK (by rw [HL.out]; exact infoKey) | exact fun w' h => exec_lookup (t := 74) rfl rfl rfl (LOOK.out w' h.2.2) | (intro w' hS; obtain ⟨s1, s2, s3⟩ := hS; go_simp; (try with_reducible rfl); done))); try simp only [Act.put, List.setIfInBounds_toArray, List.set_cons_zero, List.set_cons_succ]) | ((first | ((with_reducible refine lexL_skip (c := false) ?_ ?_ ?_); (focus rfl); (focus rfl)) | ((with_reducible refine lexL_skip (c := true) ?_ ?_ ?_); (focus rfl); (focus rfl)) | ((with_reducible refine lexL_skipU ?_ ?_); (focus rfl))); try simp only [Act.put, List.setIfInBounds_toArray, List.set_cons_zero, List.set_cons_succ]))
  refine lexL_nil (hK.out _ _ ?_)
  have F := Lib.hid f1
  have C2 := HCK.out.at_.keep0 f1
  clear f1 c0 c1 c2
  obtain ⟨k0, -, -⟩ := C2.cells
  obtain ⟨gb, cap, hv, hr, hgl⟩ := C2.at_ hj
  rw [hv] at k0
  have i1 : (j : Int) < (g.H.length : Int) := by omega
  have t33 := hr 33 _ (heldC_33 okx)
  clear C2 hv hr
  simp only [intV]
  go_wp2
  go_ret2
  exact ⟨rfl, F.out⟩
end Go.Proofs.YthmaekkjpginoaaDoor
