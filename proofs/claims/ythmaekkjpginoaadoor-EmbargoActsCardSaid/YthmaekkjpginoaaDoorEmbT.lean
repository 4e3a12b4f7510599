/- embargo: Set. -/
import Derived.Test.YthmaekkjpginoaaDoorEmbS
import Derived.Test.YthmaekkjpginoaaDoorLexM
namespace Go.Proofs.YthmaekkjpginoaaDoor
open Go Go.RowKit Go.Maps Go.MapKept Go.Sort

theorem keyC_one {k : KeyD} : ∀ v ∈ keyC k, v.oneCell' = true := by
  intro v hv
  unfold keyC at hv
  simp only [List.mem_cons, List.mem_map] at hv
  rcases hv with rfl | ⟨x, _, rfl⟩ <;> rfl
def key0 : KeyD := ⟨0, List.replicate 32 0⟩
theorem infoHeldZ : (Tryd.prog.info? 78).map (fun i => (i.zero, i.size, i.bytes)) = some (some (.agg (heldC ⟨key0, 0, 0⟩).toArray), 35, 56) := by kernel_rfl
theorem infoHeldZ2 : (Tryd.prog.info? 78).map (fun i => (i.zero, i.size)) = some (some (.agg (heldC ⟨key0, 0, 0⟩).toArray), 35) := by kernel_rfl
theorem undHelds : Tryd.prog.underlying 73 = some (.slice 78) := by kernel_rfl
theorem placesHeld : buildPlaces Tryd.prog 78 = some (35, [(0, 33), (33, 1), (34, 1)]) := by kernel_rfl

theorem CkAt.setSq {w : World} {g : CkG} (h : CkAt w g) (n : Int) : CkAt (w.setCell ⟨g.bl, 2, none⟩ (.int .i64 n)) { g with sq := n } := by
  have f : Fr (fun i => i = g.bl) w (w.setCell ⟨g.bl, 2, none⟩ (.int .i64 n)) := Fr.setCell (W := fun i => i = g.bl) (Fr.refl _ w) ⟨g.bl, 2, none⟩ (.inr rfl) _
  exact { h with
    hb := by have := heap_setCell_same w g.bl 2 _ _ (.int .i64 n) h.hb; simpa using this
    hh := ownsRow_keep h.hh f (fun k hk e => h.n2 (e ▸ hk))
    hm := h.hm.keep f (fun e => h.n1 e.symm) }
theorem ck_put {w : World} {bl bm : Nat} {old v : Value} {M : List (KeyD × Int)} {sq : Int} {H : List HeldD} (hb : w.heap[bl]? = some (.cells #[old, .map (some bm), .int .i64 sq] 76 (0, 0))) (hm : MapIs Tryd.prog 36 keyV intV w bm M) (hr : w.ownsRow 0 78 35 v H.length (H.flatMap heldC)) (ok : ∀ x ∈ H, x.ok) (n1 : bl ≠ bm) (n2 : v.ownBlock ≠ some bl) (n3 : v.ownBlock ≠ some bm) : CkAt (w.setCell ⟨bl, 0, none⟩ v) ⟨bl, bm, v, H, sq, M⟩ := by
  have f : Fr (fun i => i = bl) w (w.setCell ⟨bl, 0, none⟩ v) := Fr.setCell (W := fun i => i = bl) (Fr.refl _ w) ⟨bl, 0, none⟩ (.inr rfl) _
  exact {
    hb := by have := heap_setCell_same w bl 0 _ _ v hb; simpa using this
    hh := ownsRow_keep hr f (fun k hk e => n2 (e ▸ hk))
    hm := hm.keep f (fun e => n1 e.symm)
    ok := ok
    n1 := n1
    n2 := n2
    n3 := n3 }

/-- A key among those that are held. -/
def hasK (S : List HeldD) (k : KeyD) : Prop := ∃ x ∈ S, x.k = k

set_option maxRecDepth 20000 in
set_option maxHeartbeats 1000000 in
theorem set_there {w0 w : World} {p : Nat} {g : CkG} {S : List HeldD} {N : Nat} (hc : Ck w0 w p g S N) (k : KeyD) (hk : k.ok) (t : Int) (hin : hasK S k) :
    Calls Tryd.prog 16 #[.pointer (some ⟨g.bl, 0, none⟩), .agg (keyC k).toArray, .int .u64 t] w fun e w' => e = .returned (.int .i64 10) ∧ Fr No w w' := by
  obtain ⟨x, hx, hxk⟩ := hin
  obtain ⟨j, hj⟩ := List.mem_iff_getElem?.1 (hc.mem.1 hx)
  have hM : (k, (j : Int)) ∈ g.M := (hc.rep _ _).2 ⟨j, x, rfl, hj, hxk⟩
  have fB : Fr No w (w.alloc (.cells (keyC k).toArray 36)) := by (repeat (first | with_reducible exact Fr.refl _ _ | with_reducible assumption | with_reducible refine Fr.drew ?_ | with_reducible refine Fr.drewN ?_ _ | with_reducible refine Fr.alloc ?_ _ | with_reducible refine Fr.setCell ?_ _ (.inl (by simp <;> omega)) _))
  have HK1 := Lib.hid (hc.at_.keep0 fB)
  obtain ⟨c0, c1, c2⟩ := HK1.out.cells
  have RB := Lib.hid (range_new w (keyC k) 36)
  have HL := Lib.hid (keyC_len hk)
  obtain ⟨dK, uK, rK⟩ := descKey
  have LOOK := Lib.hid (fun (w' : World) (hm : MapIs Tryd.prog 36 keyV intV w' g.bm g.M) => (hm.hit keyedKey undKeyMap (fun _ _ => keyV_inj) zeroInt (keyOfKey hk) hM).1)
  have f1 : Fr No w (w.alloc (.cells (keyC k).toArray 36)).drew := by (repeat (first | with_reducible exact Fr.refl _ _ | with_reducible assumption | with_reducible refine Fr.drew ?_ | with_reducible refine Fr.drewN ?_ _ | with_reducible refine Fr.alloc ?_ _ | with_reducible refine Fr.setCell ?_ _ (.inl (by simp <;> omega)) _))
  have HCK := Lib.hid hc
  clear hc fB
  go_enter Tryd.func16, Tryd.ntmps16
  go_wp2
  refine wp_region_lexL [false, false, false, false, false, false, false, false, false, false, false] (fun w' => w'.cell? ⟨g.bl, 1, none⟩ = some (.map (some g.bm)) ∧ w'.rangeAt w.heap.size 0 (keyC k) ∧ MapIs Tryd.prog 36 keyV intV w' g.bm g.M) (by kernel_rfl) (by kernel_rfl) ?_ (fun K hK => ?_)
  · exact ⟨c1, range_keep RB.out (Fr.refl No _).drew id, HK1.out.hm.keep (Fr.refl No _).drew id⟩
  repeat (first | ((first | with_reducible refine lexL_read ?_ | ((with_reducible refine lexL_readG ?_ ?_); (focus rfl))); apply Exists.intro; refine ⟨?_, ?_⟩; (focus (first | exact lex_load (ty := 36) rfl (fun w h => h.2.1) uK rK (by rw [HL.out]; exact infoKey) | exact fun w' h => exec_lookup (t := 74) rfl rfl rfl (LOOK.out w' h.2.2) | (intro w' hS; obtain ⟨s1, s2, s3⟩ := hS; go_simp; (try with_reducible rfl); done))); try simp only [Act.put, List.setIfInBounds_toArray, List.set_cons_zero, List.set_cons_succ]) | ((first | ((with_reducible refine lexL_skip (c := false) ?_ ?_ ?_); (focus rfl); (focus rfl)) | ((with_reducible refine lexL_skip (c := true) ?_ ?_ ?_); (focus rfl); (focus rfl)) | ((with_reducible refine lexL_skipU ?_ ?_); (focus rfl))); try simp only [Act.put, List.setIfInBounds_toArray, List.set_cons_zero, List.set_cons_succ]))
  refine lexL_nil (hK.out _ _ ?_)
  have F := Lib.hid f1
  clear f1
  go_wp2
  go_ret
  exact ⟨rfl, F.out⟩
theorem fill_held {k : KeyD} (hk : k.ok) (t s : Int) : FillOk (([(0, 33), (33, 1), (34, 1)] : List (Nat × Nat)).toArray[·]?) 0 [(0, .agg (keyC k).toArray), (1, .int .u64 t), (2, .int .i64 s)] := by
  have h : (Value.agg (keyC k).toArray).cells.size = 33 := by show (keyC k).toArray.size = 33; simpa using keyC_len hk
  have h1 : ∀ q x, (Value.int q x).cells.size = 1 := fun _ _ => rfl
  simp only [FillOk, h, h1]
  exact ⟨rfl, rfl, rfl, trivial⟩
theorem parts_held (k : KeyD) (t s : Int) : partsC [(0, .agg (keyC k).toArray), (1, .int .u64 t), (2, .int .i64 s)] = heldC ⟨k, t, s⟩ := by
  have h : (Value.agg (keyC k).toArray).cells.toList = keyC k := by show (keyC k).toArray.toList = keyC k; simp
  have h1 : ∀ q x, (Value.int q x).cells.toList = [.int q x] := fun _ _ => rfl
  simp [partsC, heldC, h, h1]

theorem heap_snoc {H : List HeldD} (x : HeldD) (h : HeapOk beforeB H) : HeapAt beforeB H.length (H ++ [x]) ∧ DownOk beforeB H.length (H ++ [x]) := by
  refine ⟨⟨fun n a q n0 n1 n2 ha hq => ?_, fun c a q h0 c0 ce ha hq => ?_⟩, fun c a q c0 ce ha hq => ?_⟩
  · have hl := (List.getElem?_eq_some_iff.1 ha).1
    rw [List.length_append, List.length_singleton] at hl
    rw [List.getElem?_append_left (by omega)] at ha hq
    exact h n a q n0 ha hq
  · have hl := (List.getElem?_eq_some_iff.1 ha).1
    rw [List.length_append, List.length_singleton] at hl
    omega
  · have hl := (List.getElem?_eq_some_iff.1 ha).1
    rw [List.length_append, List.length_singleton] at hl
    omega
theorem rep_snoc {H : List HeldD} {M : List (KeyD × Int)} {x : HeldD} (h : Rep HeldD.k H M) (hM : (M.map (·.1)).Nodup) (hx : ∀ y ∈ H, y.k ≠ x.k) : RepBut HeldD.k H.length (H ++ [x]) M := by
  refine ⟨?_, fun k j hk => ?_, fun n y hn hy => ?_⟩
  · rw [List.map_append, List.nodup_append]
    refine ⟨h.nodup hM, by simp, fun a ha b hb => ?_⟩
    obtain ⟨y, hy, rfl⟩ := List.mem_map.1 ha
    simp at hb
    subst hb
    exact hx y hy
  · obtain ⟨n, y, rfl, hy, he⟩ := (h k j).1 hk
    have hl := (List.getElem?_eq_some_iff.1 hy).1
    exact .inr ⟨n, y, by omega, rfl, by rw [List.getElem?_append_left hl]; exact hy, he⟩
  · have hl := (List.getElem?_eq_some_iff.1 hy).1
    rw [List.length_append, List.length_singleton] at hl
    rw [List.getElem?_append_left (by omega)] at hy
    exact (h _ _).2 ⟨n, y, rfl, hy, rfl⟩

/-- What Set leaves, where the key was not there. -/
def SetOk (w0 w : World) (p : Nat) (g : CkG) (S : List HeldD) (N : Nat) (k : KeyD) (t : Int) (e : Ending) (w' : World) : Prop :=
  e = .returned (.int .i64 0) ∧ ∃ g', Ck w0 w' p g' (insS S ⟨k, t, g.sq + 1⟩) (N + 1) ∧ CStep w g w' g'

set_option maxRecDepth 20000 in
set_option maxHeartbeats 2000000 in
theorem set_new {w0 w : World} {p : Nat} {g : CkG} {S : List HeldD} {N : Nat} (hc : Ck w0 w p g S N) (hN : N ≤ 1000) (k : KeyD) (hk : k.ok) (t : Int) (ht : 0 ≤ t ∧ t ≤ 18446744073709551615) (hin : ¬ hasK S k) :
    Calls Tryd.prog 16 #[.pointer (some ⟨g.bl, 0, none⟩), .agg (keyC k).toArray, .int .u64 t] w (SetOk w0 w p g S N k t) := by
  have hM : ∀ j, (k, j) ∉ g.M := fun j hj => by
    obtain ⟨n, x, _, hx, he⟩ := (hc.rep _ _).1 hj
    exact hin ⟨x, hc.mem.2 (List.mem_of_getElem? hx), he⟩
  have hH : ∀ y ∈ g.H, y.k ≠ k := fun y hy e => hin ⟨y, hc.mem.2 hy, e⟩
  have HH := Lib.hid hH
  have xok : (⟨k, t, g.sq + 1⟩ : HeldD).ok := ⟨hk, ht, by have := hc.sq; unfold inI64; show _ ≤ g.sq + 1 ∧ g.sq + 1 ≤ _; omega⟩
  obtain ⟨s0, s1⟩ := hc.sq
  have hlen := hc.len
  have hml := hc.mlen
  clear hH hin
  have fB : Fr No w (w.alloc (.cells (keyC k).toArray 36)) := by (repeat (first | with_reducible exact Fr.refl _ _ | with_reducible assumption | with_reducible refine Fr.drew ?_ | with_reducible refine Fr.drewN ?_ _ | with_reducible refine Fr.alloc ?_ _ | with_reducible refine Fr.setCell ?_ _ (.inl (by simp <;> omega)) _))
  have HK1 := Lib.hid (hc.at_.keep0 fB)
  obtain ⟨c0, c1, c2⟩ := HK1.out.cells
  have RB := Lib.hid (range_new w (keyC k) 36)
  have HL := Lib.hid (keyC_len hk)
  obtain ⟨dK, uK, rK⟩ := descKey
  have LOOK := Lib.hid (fun (w' : World) (hm : MapIs Tryd.prog 36 keyV intV w' g.bm g.M) => (hm.miss keyedKey undKeyMap (fun _ _ => keyV_inj) zeroInt (keyOfKey hk) hM).1)
  have f1 : Fr No w (w.alloc (.cells (keyC k).toArray 36)).drew := by (repeat (first | with_reducible exact Fr.refl _ _ | with_reducible assumption | with_reducible refine Fr.drew ?_ | with_reducible refine Fr.drewN ?_ _ | with_reducible refine Fr.alloc ?_ _ | with_reducible refine Fr.setCell ?_ _ (.inl (by simp <;> omega)) _))
  have HCK := Lib.hid hc
  clear hc fB
  go_enter Tryd.func16, Tryd.ntmps16
  go_wp2
  refine wp_region_lexL [false, false, false, false, false, false, false, false, false, false, false] (fun w' => w'.cell? ⟨g.bl, 1, none⟩ = some (.map (some g.bm)) ∧ w'.rangeAt w.heap.size 0 (keyC k) ∧ MapIs Tryd.prog 36 keyV intV w' g.bm g.M) (by kernel_rfl) (by kernel_rfl) ?_ (fun K hK => ?_)
  · exact ⟨c1, range_keep RB.out (Fr.refl No _).drew id, HK1.out.hm.keep (Fr.refl No _).drew id⟩
  repeat (first | ((first | with_reducible refine lexL_read ?_ | ((with_reducible refine lexL_readG ?_ ?_); (focus rfl))); apply Exists.intro; refine ⟨?_, ?_⟩; (focus (first | exact lex_load (ty := 36) rfl (fun w h => h.2.1) uK rK (by rw [HL.out]; exact infoKey) | exact fun w' h => exec_lookup (t := 74) rfl rfl rfl (LOOK.out w' h.2.2) | (intro w' hS; obtain ⟨s1, s2, s3⟩ := hS; go_simp; (try with_reducible rfl); done))); try simp only [Act.put, List.setIfInBounds_toArray, List.set_cons_zero, List.set_cons_succ]) | ((first | ((with_reducible refine lexL_skip (c := false) ?_ ?_ ?_); (focus rfl); (focus rfl)) | ((with_reducible refine lexL_skip (c := true) ?_ ?_ ?_); (focus rfl); (focus rfl)) | ((with_reducible refine lexL_skipU ?_ ?_); (focus rfl))); try simp only [Act.put, List.setIfInBounds_toArray, List.set_cons_zero, List.set_cons_succ]))
  refine lexL_nil (hK.out _ _ ?_)
  have HC2 := Lib.hid (HCK.out.at_.keep0 f1)
  have RB2 := Lib.hid (range_keep RB.out (Fr.refl No _).drew id)
  have F1 := Lib.hid f1
  have BX := Lib.hid (show w.heap.size < (w.alloc (.cells (keyC k).toArray 36)).drew.heap.size by show _ < (w.alloc _).heap.size; simp)
  clear f1 c0 c1 c2 RB HK1 LOOK
  generalize (w.alloc (.cells (keyC k).toArray 36)).drew = w2 at *
  obtain ⟨c0, c1, c2⟩ := HC2.out.cells
  have fz : w2.frozen? ⟨g.bl, 2, none⟩ = false := frozen_none HC2.out.hb 2
  go_wp2
  have HC3 := Lib.hid (HC2.out.setSq (g.sq + 1))
  have f3 : Fr (fun i => i = g.bl) w2 (w2.setCell ⟨g.bl, 2, none⟩ (.int .i64 (g.sq + 1))) := Fr.setCell (W := fun i => i = g.bl) (Fr.refl _ w2) ⟨g.bl, 2, none⟩ (.inr rfl) _
  have hbw : g.bl < w.heap.size := obj_lt HCK.out.at_.hb
  have RB3 := Lib.hid (range_keep RB2.out f3 (fun e => by omega))
  have F3 := Lib.hid f3
  clear f3 c0 c1 c2 fz
  generalize w2.setCell ⟨g.bl, 2, none⟩ (.int .i64 (g.sq + 1)) = w3 at *
  obtain ⟨c0, c1, c2⟩ := HC3.out.cells
  simp only at c0 c1 c2
  obtain ⟨ha, hcp, hvf⟩ := HC3.out.hh.slice.arg.form
  simp only at hvf
  rw [hvf] at c0
  have HVF := Lib.hid hvf
  clear hvf
  obtain ⟨v5, w5, hap, ho5, f5, hne5, hb5⟩ := append_blk (P := Tryd.prog) w3.drew 0 73 73 78 35 56 _ undHelds infoHeldZ rfl (by decide) (ownsRow_keep HC3.out.hh (Fr.refl No _).drew (fun _ _ => id)) (heldC ⟨k, t, g.sq + 1⟩) (heldC_len xok) heldC_one (by simp only; omega) (by unfold maxLen; simp only; omega) (Nat.zero_le _)
  have hb6 : w5.heap[g.bl]? = some (.cells #[g.hv, .map (some g.bm), .int .i64 (g.sq + 1)] 76 (0, 0)) := f5.obj ((Fr.refl No w3).drew.obj HC3.out.hb id) (fun e => HC3.out.n2 e)
  obtain ⟨a5, p5, rfl⟩ := ho5.slice.arg.form
  have HB6 := Lib.hid hb6
  have HO5 := Lib.hid ho5
  have HF5 := Lib.hid f5
  have BB5 := Lib.hid hb5
  simp only at hap
  rw [show g.hv = _ from HVF.out] at hap
  have HAP := Lib.hid hap
  clear hb6 ho5 hb5 hap hne5 f5
  refine wp_region_lexM [false, false, false, false, false, false, false, false, false, false, false, false, true, true, false, false, true] (fun w' => w'.cell? ⟨g.bl, 0, none⟩ = some (.slice ha g.H.length hcp) ∧ w'.rangeAt w.heap.size 0 (keyC k) ∧ w'.cell? ⟨g.bl, 2, none⟩ = some (.int .i64 (g.sq + 1))) (by kernel_rfl) (by kernel_rfl) 16 (by kernel_rfl) (by kernel_rfl) ?_ (fun K hK => ?_)
  · exact ⟨c0, range_keep RB3.out (Fr.refl No _).drew id, c2⟩
  repeat (first | ((first | with_reducible refine lexM_read ?_ | ((with_reducible refine lexM_readG ?_ ?_); (focus rfl))); apply Exists.intro; refine ⟨?_, ?_⟩; (focus (first | exact lex_load (ty := 36) rfl (fun w h => h.2.1) uK rK (by rw [HL.out]; exact infoKey) | exact fun w' h => exec_build (t := 78) rfl rfl placesHeld (fill_held hk t (g.sq + 1)) (parts_held k t (g.sq + 1)) (heldC_len xok) | (intro w' hS; obtain ⟨s1, s2, s3⟩ := hS; go_simp; (try with_reducible rfl); done))); try simp only [Act.put, List.setIfInBounds_toArray, List.set_cons_zero, List.set_cons_succ]) | ((first | ((with_reducible refine lexM_skip (c := false) ?_ ?_ ?_); (focus rfl); (focus rfl)) | ((with_reducible refine lexM_skip (c := true) ?_ ?_ ?_); (focus rfl); (focus rfl)) | ((with_reducible refine lexM_skipU ?_ ?_); (focus rfl))); try simp only [Act.put, List.setIfInBounds_toArray, List.set_cons_zero, List.set_cons_succ]))
  (first | with_reducible refine lexM_eff (fun K' hK' => ?_) | ((with_reducible refine lexM_effG ?_ (fun K' hK' => ?_)); (focus rfl)))
  refine wp_value (exec_buildSliceA (t := 73) rfl rfl undHelds infoHeldZ2 rfl (by decide) (by decide) (heldC_len xok)) ?_
  refine hK'.out _ _ (fun _ => ?_) (fun hS => ?_)
  · exact ⟨((Fr.refl No w3).drew.alloc _).cell c0 id, range_keep RB3.out ((Fr.refl No w3).drew.alloc _) id, ((Fr.refl No w3).drew.alloc _).cell c2 id⟩
  try simp only [Act.put, List.setIfInBounds_toArray, List.set_cons_zero, List.set_cons_succ]
  (first | with_reducible refine lexM_eff (fun K' hK' => ?_) | ((with_reducible refine lexM_effG ?_ (fun K' hK' => ?_)); (focus rfl)))
  refine wp_append_run rfl rfl rfl HAP.out ?_
  have nb : ∀ j, g.hv.ownBlock = some j → j ≠ g.bl ∧ j ≠ w.heap.size := fun j hj => ⟨fun e => HC3.out.n2 (e ▸ hj), fun e => by have := (HCK.out.at_.hh.lt j hj).2; omega⟩
  have k0 : w5.cell? ⟨g.bl, 0, none⟩ = some (.slice ha g.H.length hcp) := by rw [← HVF.out]; simp [World.cell?, HB6.out]
  have k1 : w5.frozen? ⟨g.bl, 0, none⟩ = false := by simp [World.frozen?, HB6.out]
  have R5 := range_keep (range_keep RB3.out (Fr.refl No _).drew id) HF5.out (fun e => (nb _ e).2 rfl)
  have C25 : w5.cell? ⟨g.bl, 2, none⟩ = some (.int .i64 (g.sq + 1)) := by simp [World.cell?, HB6.out]
  refine hK'.out _ _ (fun _ => ?_) (fun hS => ?_)
  · exact ⟨k0, R5, C25⟩
  try simp only [Act.put, List.setIfInBounds_toArray, List.set_cons_zero, List.set_cons_succ]
  repeat (first | ((first | with_reducible refine lexM_read ?_ | ((with_reducible refine lexM_readG ?_ ?_); (focus rfl))); apply Exists.intro; refine ⟨?_, ?_⟩; (focus (first | (intro w' hS; obtain ⟨s1, s2, s3⟩ := hS; go_simp; (try with_reducible rfl); done))); try simp only [Act.put, List.setIfInBounds_toArray, List.set_cons_zero, List.set_cons_succ]) | ((first | ((with_reducible refine lexM_skip (c := false) ?_ ?_ ?_); (focus rfl); (focus rfl)) | ((with_reducible refine lexM_skip (c := true) ?_ ?_ ?_); (focus rfl); (focus rfl)) | ((with_reducible refine lexM_skipU ?_ ?_); (focus rfl))); try simp only [Act.put, List.setIfInBounds_toArray, List.set_cons_zero, List.set_cons_succ]))
  (first | with_reducible refine lexM_eff (fun K' hK' => ?_) | ((with_reducible refine lexM_effG ?_ (fun K' hK' => ?_)); (focus rfl)))
  go_simp
  refine hK'.out _ _ (fun h => absurd rfl h) (fun hS => ?_)
  refine lexM_nil (hK.out _ _ ?_)
  clear R5 C25 k0 k1
  have n2 : (Value.slice a5 (g.H.length + 1) p5).ownBlock ≠ some g.bl := fun e => (BB5.out _ e).elim (fun e => (nb _ e).1 rfl) (fun e => by have := obj_lt HC3.out.hb; simp only at this; have e2 : w3.drew.heap.size = w3.heap.size := rfl; omega)
  have n3 : (Value.slice a5 (g.H.length + 1) p5).ownBlock ≠ some g.bm := fun e => (BB5.out _ e).elim (fun e => HC3.out.n3 e) (fun e => by have := HC3.out.hm.lt; simp only at this; have e2 : w3.drew.heap.size = w3.heap.size := rfl; omega)
  have hx6 := ck_put HB6.out (HC3.out.hm.keep (W := fun i => g.hv.ownBlock = some i) ((Fr.refl No w3).drew.of0.trans HF5.out (fun _ _ h => h)) (fun e => HC3.out.n3 e)) (v := .slice a5 (g.H.length + 1) p5) (H := g.H ++ [⟨k, t, g.sq + 1⟩]) (by simpa using HO5.out) (fun y hy => by
      rcases List.mem_append.1 hy with hy | hy
      · exact HC3.out.ok y hy
      · simp at hy; subst hy; exact xok) HC3.out.n1 n2 n3
  have f6 : Fr g.W w2 (w5.setCell ⟨g.bl, 0, none⟩ (.slice a5 (g.H.length + 1) p5)) := ((F3.out.mono (fun k e => .inl e)).drew.trans (HF5.out.mono (fun k e => .inr (.inr e))) (fun _ _ h => h)).setCell ⟨g.bl, 0, none⟩ (.inr (.inl rfl)) _
  have SP : ∀ k, (Value.slice a5 (g.H.length + 1) p5).ownBlock = some k → g.W k ∨ w.heap.size ≤ k := fun k e => (BB5.out _ e).elim (fun e => .inl (.inr (.inr e))) (fun e => .inr (by
    have h1 := F1.out.size
    have h2 := F3.out.size
    have e2 : w3.drew.heap.size = w3.heap.size := rfl
    omega))
  have HX := Lib.hid hx6
  have SPH := Lib.hid SP
  have HF6 := Lib.hid f6
  clear n2 n3 hx6 f6 nb SP HB6 HO5 HF5 BB5 HAP RB3
  generalize w5.setCell ⟨g.bl, 0, none⟩ (.slice a5 (g.H.length + 1) p5) = w6 at *
  obtain ⟨k0, -, -⟩ := HX.out.cells
  simp only at k0
  obtain ⟨hs1, hs2⟩ := heap_snoc ⟨k, t, g.sq + 1⟩ HCK.out.heap
  have hup := up_any w6 _ g.H.length ⟨k, t, g.sq + 1⟩ HX.out (by simp) hs1 (rep_snoc HCK.out.rep HCK.out.at_.hm.nodup HH.out) (by simp; unfold maxLen; omega)
  have HUP := Lib.hid hup
  have HD := Lib.hid hs2
  clear hs1 hs2 hup
  go_wp2_with fail
  refine HUP.out.mono ?_
  rintro e w7 ⟨rfl, g', j, like, hc7, hp7, hr7, hj7, hA7, hU7, hD7, hm7, f7⟩
  have FIN : SetOk w0 w p g S N k t (.returned (.int .i64 0)) w7 := by
    have hW6 : ∀ k, g'.W k → g.W k ∨ w.heap.size ≤ k := fun k hk => by
      rw [like.W] at hk
      rcases hk with e | e | e
      · exact .inl (.inl e)
      · exact .inl (.inr (.inl e))
      · exact SPH.out k e
    have fw : Fr g.W w w7 := (F1.out.of0.trans HF6.out (fun _ _ h => h)).trans f7 (fun i hi e => by
      rw [← like.W] at e
      exact (hW6 i e).elim id (fun e => by omega))
    have hsz := HCK.out.fr.size
    refine ⟨rfl, g', { bl := like.bl.trans HCK.out.bl, at_ := hc7, heap := hA7.ok hU7 (hD7 HD.out), rep := hr7, perm := ?_, srt := insS_srt HCK.out.srt (fun y hy => ?_), seq := fun y hy => ?_, sq := ?_, W := fun k hk => ?_, fr := ?_, len := ?_ }, ⟨like.bl, hW6, fw⟩⟩
    · exact (insS_perm S _).trans ((HCK.out.perm.cons _).trans (List.perm_append_singleton _ _).symm) |>.trans hp7.symm
    · have := HCK.out.seq y (HCK.out.mem.1 hy)
      show y.seq < g.sq + 1
      omega
    · rw [like.sq]
      rcases List.mem_append.1 (hp7.mem_iff.1 hy) with hy | hy
      · have := HCK.out.seq y hy
        show y.seq ≤ g.sq + 1
        omega
      · simp at hy
        subst hy
        exact Int.le_refl _
    · rw [like.sq]
      show 0 ≤ g.sq + 1 ∧ g.sq + 1 ≤ ((N + 1 : Nat) : Int)
      omega
    · exact (hW6 k hk).elim (HCK.out.W k) (fun e => Nat.le_trans hsz e)
    · exact HCK.out.fr.trans fw (fun i hi e => by have := HCK.out.W i e; omega)
    · rw [like.len]
      simp
      exact HCK.out.len
  have HFIN := Lib.hid FIN
  clear FIN hc7 hp7 hr7 hj7 hA7 hU7 hD7 hm7 f7
  go_wp2
  go_ret
  exact HFIN.out
end Go.Proofs.YthmaekkjpginoaaDoor
