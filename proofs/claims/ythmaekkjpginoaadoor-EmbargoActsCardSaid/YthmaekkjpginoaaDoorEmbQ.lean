/- embargo: Drop. -/
import Derived.Test.YthmaekkjpginoaaDoorEmbP
namespace Go.Proofs.YthmaekkjpginoaaDoor
open Go Go.RowKit Go.Maps Go.MapKept Go.Sort

theorem undHelds' : Tryd.prog.underlying 73 = some (.slice (Tryd.prog.elem 73)) := by kernel_rfl
theorem sizeHeldE : ∀ w : World, (sizeOf (Tryd.prog.elem 73)).run Tryd.prog w = .ok 35 w := by
  intro w
  have h : (Tryd.prog.info? (Tryd.prog.elem 73)).map (fun i => (i.zero, i.size, i.bytes)) = some (some (.agg (heldC ⟨key0, 0, 0⟩).toArray), 35, 56) := by kernel_rfl
  obtain ⟨i, hi, hz, hs, hb⟩ := info_parts h
  simp [sizeOf, typeInfo, hi, hs]
theorem cut_held (a : Addr) (n cap q : Nat) (hq : q ≤ cap) (w : World) :
    (Instr.slice 73 (.slice (some a) n cap) none (some (.int .i64 (q : Int))) none).run Tryd.prog w = .ok (.slice (some a) q cap) w := by
  rw [run_slice_h w 73 (some a) n cap undHelds' .i64 q (by omega) (by omega), sizeHeldE]
  simp [Result.andThen, sliced, Addr.add]

set_option maxRecDepth 20000 in
set_option maxHeartbeats 1000000 in
theorem drop_none {w0 w : World} {p : Nat} {g : CkG} {S : List HeldD} {N : Nat} (hc : Ck w0 w p g S N) (k : KeyD) (hk : k.ok) (hin : ¬ hasK S k) :
    Calls Tryd.prog 20 #[.pointer (some ⟨g.bl, 0, none⟩), .agg (keyC k).toArray] w fun e w' => e = .returned (.int .i64 9) ∧ Fr No w w' := by
  have hM : ∀ j, (k, j) ∉ g.M := fun j hj => by
    obtain ⟨n, x, _, hx, he⟩ := (hc.rep _ _).1 hj
    exact hin ⟨x, hc.mem.2 (List.mem_of_getElem? hx), he⟩
  have fB : Fr No w (w.alloc (.cells (keyC k).toArray 36)) := by (repeat (first | with_reducible exact Fr.refl _ _ | with_reducible assumption | with_reducible refine Fr.drew ?_ | with_reducible refine Fr.drewN ?_ _ | with_reducible refine Fr.alloc ?_ _ | with_reducible refine Fr.setCell ?_ _ (.inl (by simp <;> omega)) _))
  have HK1 := Lib.hid (hc.at_.keep0 fB)
  obtain ⟨c0, c1, c2⟩ := HK1.out.cells
  have RB := Lib.hid (range_new w (keyC k) 36)
  have HL := Lib.hid (keyC_len hk)
  obtain ⟨dK, uK, rK⟩ := descKey
  have LOOK := Lib.hid (fun (w' : World) (hm : MapIs Tryd.prog 36 keyV intV w' g.bm g.M) => (hm.miss keyedKey undKeyMap (fun _ _ => keyV_inj) zeroInt (keyOfKey hk) hM).1)
  have f1 : Fr No w (w.alloc (.cells (keyC k).toArray 36)).drew := by (repeat (first | with_reducible exact Fr.refl _ _ | with_reducible assumption | with_reducible refine Fr.drew ?_ | with_reducible refine Fr.drewN ?_ _ | with_reducible refine Fr.alloc ?_ _ | with_reducible refine Fr.setCell ?_ _ (.inl (by simp <;> omega)) _))
  have HCK := Lib.hid hc
  clear hc fB
  go_enter Tryd.func20, Tryd.ntmps20
  go_wp2
  refine wp_region_lexL [false, false, false, false, false, false, false, false, false, false, false] (fun w' => w'.cell? ⟨g.bl, 1, none⟩ = some (.map (some g.bm)) ∧ w'.rangeAt w.heap.size 0 (keyC k) ∧ MapIs Tryd.prog 36 keyV intV w' g.bm g.M) (by kernel_rfl) (by kernel_rfl) ?_ (fun K hK => ?_)
  · exact ⟨c1, range_keep RB.out (Fr.refl No _).drew id, HK1.out.hm.keep (Fr.refl No _).drew id⟩
  repeat (first | ((first | with_reducible refine lexL_read ?_ | ((with_reducible refine lexL_readG ?_ ?_); (focus rfl))); apply Exists.intro; refine ⟨?_, ?_⟩; (focus (first | exact lex_load (ty := 36) rfl (fun w h => h.2.1) uK rK (by rw [HL.out]; exact infoKey) | exact fun w' h => exec_lookup (t := 74) rfl rfl rfl (LOOK.out w' h.2.2) | (intro w' hS; obtain ⟨s1, s2, s3⟩ := hS; go_simp; (try with_reducible rfl); done))); try simp only [Act.put, List.setIfInBounds_toArray, List.set_cons_zero, List.set_cons_succ]) | ((first | ((with_reducible refine lexL_skip (c := false) ?_ ?_ ?_); (focus rfl); (focus rfl)) | ((with_reducible refine lexL_skip (c := true) ?_ ?_ ?_); (focus rfl); (focus rfl)) | ((with_reducible refine lexL_skipU ?_ ?_); (focus rfl))); try simp only [Act.put, List.setIfInBounds_toArray, List.set_cons_zero, List.set_cons_succ]))
  refine lexL_nil (hK.out _ _ ?_)
  have F := Lib.hid f1
  clear f1
  go_wp2
  go_ret
  exact ⟨rfl, F.out⟩

/-- What Drop leaves. -/
def DropOk (w0 w : World) (p : Nat) (g : CkG) (S : List HeldD) (N : Nat) (k : KeyD) (e : Ending) (w' : World) : Prop :=
  e = .returned (.int .i64 0) ∧ ∃ g', Ck w0 w' p g' (delS S k) N ∧ CStep w g w' g' ∧ g'.sq = g.sq ∧ g'.W = g.W

set_option maxRecDepth 20000 in
set_option maxHeartbeats 4000000 in
theorem drop_ok {w0 w : World} {p : Nat} {g : CkG} {S : List HeldD} {N : Nat} (hc : Ck w0 w p g S N) (hN : N ≤ 1000) (k : KeyD) (hk : k.ok) (hin : hasK S k) :
    Calls Tryd.prog 20 #[.pointer (some ⟨g.bl, 0, none⟩), .agg (keyC k).toArray] w (DropOk w0 w p g S N k) := by
  obtain ⟨x, hx, hxk⟩ := hin
  obtain ⟨i, hi⟩ := List.mem_iff_getElem?.1 (hc.mem.1 hx)
  have hM : (k, (i : Int)) ∈ g.M := (hc.rep _ _).2 ⟨i, x, rfl, hi, hxk⟩
  have hil := (List.getElem?_eq_some_iff.1 hi).1
  have hlen := hc.len
  have hml := hc.mlen
  obtain ⟨X, y, hXy⟩ : ∃ X y, g.H = X ++ [y] := by
    rcases List.eq_nil_or_concat g.H with h | ⟨X, y, h⟩
    · rw [h] at hil; simp at hil
    · exact ⟨X, y, by rw [h, List.concat_eq_append]⟩
  have hXl : g.H.length = X.length + 1 := by rw [hXy]; simp
  have hyl : g.H[X.length]? = some y := by rw [hXy]; simp
  obtain ⟨gb, cap, hv, hry, hgl⟩ := hc.at_.at_ hyl
  have oky := hc.at_.ok y (List.mem_of_getElem? hyl)
  obtain ⟨dH, uH, rH⟩ := descHeld
  have hdel := fun (w' : World) (hm : MapIs Tryd.prog 36 keyV intV w' g.bm g.M) (ty x : TypeId) => hm.del keyedKey undKeyMap (fun _ _ => keyV_inj) (keyOfKey hk) ty x
  have HDEL := Lib.hid hdel
  have HI := Lib.hid hi
  have HXY := Lib.hid hXy
  have HV := Lib.hid hv
  have LY := Lib.hid (heldC_len oky)
  have XK := Lib.hid hxk
  have HXL := Lib.hid hXl
  have hXl2 : (X.length : Int) ≤ 1000 := by omega
  have hgl2 : (g.H.length : Int) ≤ 1000 := by omega
  have hil2 : (i : Int) ≤ (X.length : Int) := by omega
  clear hi hx hxk hXy hv hdel hry hyl hXl
  have fB : Fr No w (w.alloc (.cells (keyC k).toArray 36)) := by (repeat (first | with_reducible exact Fr.refl _ _ | with_reducible assumption | with_reducible refine Fr.drew ?_ | with_reducible refine Fr.drewN ?_ _ | with_reducible refine Fr.alloc ?_ _ | with_reducible refine Fr.setCell ?_ _ (.inl (by simp <;> omega)) _))
  have HK1 := Lib.hid (hc.at_.keep0 fB)
  obtain ⟨c0, c1, c2⟩ := HK1.out.cells
  have RB := Lib.hid (range_new w (keyC k) 36)
  have HL := Lib.hid (keyC_len hk)
  obtain ⟨dK, uK, rK⟩ := descKey
  have LOOK := Lib.hid (fun (w' : World) (hm : MapIs Tryd.prog 36 keyV intV w' g.bm g.M) => (show (Instr.lookup 74 (.map (some g.bm)) (keyV k) true).run Tryd.prog w' = .ok (.tuple #[.int .i64 i, .bool true]) w' from (hm.hit keyedKey undKeyMap (fun _ _ => keyV_inj) zeroInt (keyOfKey hk) hM).1))
  have f1 : Fr No w (w.alloc (.cells (keyC k).toArray 36)).drew := by (repeat (first | with_reducible exact Fr.refl _ _ | with_reducible assumption | with_reducible refine Fr.drew ?_ | with_reducible refine Fr.drewN ?_ _ | with_reducible refine Fr.alloc ?_ _ | with_reducible refine Fr.setCell ?_ _ (.inl (by simp <;> omega)) _))
  have HCK := Lib.hid hc
  clear hc fB
  go_enter Tryd.func20, Tryd.ntmps20
  go_wp2
  refine wp_region_lexL [false, false, false, false, false, false, false, false, false, false, false] (fun w' => w'.cell? ⟨g.bl, 1, none⟩ = some (.map (some g.bm)) ∧ w'.rangeAt w.heap.size 0 (keyC k) ∧ MapIs Tryd.prog 36 keyV intV w' g.bm g.M) (by kernel_rfl) (by kernel_rfl) ?_ (fun K hK => ?_)
  · exact ⟨c1, range_keep RB.out (Fr.refl No _).drew id, HK1.out.hm.keep (Fr.refl No _).drew id⟩
  repeat (first | ((first | with_reducible refine lexL_read ?_ | ((with_reducible refine lexL_readG ?_ ?_); (focus rfl))); apply Exists.intro; refine ⟨?_, ?_⟩; (focus (first | exact lex_load (ty := 36) rfl (fun w h => h.2.1) uK rK (by rw [HL.out]; exact infoKey) | exact fun w' h => exec_lookup (t := 74) rfl rfl rfl (LOOK.out w' h.2.2) | (intro w' hS; obtain ⟨s1, s2, s3⟩ := hS; go_simp; (try with_reducible rfl); done))); try simp only [Act.put, List.setIfInBounds_toArray, List.set_cons_zero, List.set_cons_succ]) | ((first | ((with_reducible refine lexL_skip (c := false) ?_ ?_ ?_); (focus rfl); (focus rfl)) | ((with_reducible refine lexL_skip (c := true) ?_ ?_ ?_); (focus rfl); (focus rfl)) | ((with_reducible refine lexL_skipU ?_ ?_); (focus rfl))); try simp only [Act.put, List.setIfInBounds_toArray, List.set_cons_zero, List.set_cons_succ]))
  refine lexL_nil (hK.out _ _ ?_)
  have HC2 := Lib.hid (HCK.out.at_.keep0 f1)
  have RB2 := Lib.hid (range_keep RB.out (Fr.refl No _).drew id)
  have F1 := Lib.hid f1
  clear f1 c0 c1 c2 RB HK1 LOOK hM
  generalize (w.alloc (.cells (keyC k).toArray 36)).drew = w2 at *
  obtain ⟨c0, c1, c2⟩ := HC2.out.cells
  go_wp2
  obtain ⟨w3, M1, hr3, hM3, hD3, hT3, hl3⟩ := HDEL.out w2.drew (HC2.out.hm.keep (Fr.refl No _).drew id) 0 36
  have HR3 := Lib.hid hr3
  refine wp_region_lexM [false, false, false, false, false, true] (fun w' => w'.cell? ⟨g.bl, 1, none⟩ = some (.map (some g.bm)) ∧ w'.rangeAt w.heap.size 0 (keyC k)) (by kernel_rfl) (by kernel_rfl) 5 (by kernel_rfl) (by kernel_rfl) ?_ (fun K hK => ?_)
  · exact ⟨c1, range_keep RB2.out (Fr.refl No _).drew id⟩
  repeat (first | ((first | with_reducible refine lexM_read ?_ | ((with_reducible refine lexM_readG ?_ ?_); (focus rfl))); apply Exists.intro; refine ⟨?_, ?_⟩; (focus (first | exact lex_load (ty := 36) rfl (fun w h => h.2) uK rK (by rw [HL.out]; exact infoKey) | (intro w' hS; obtain ⟨s1, s2⟩ := hS; go_simp; (try with_reducible rfl); done))); try simp only [Act.put, List.setIfInBounds_toArray, List.set_cons_zero, List.set_cons_succ]) | ((first | ((with_reducible refine lexM_skip (c := false) ?_ ?_ ?_); (focus rfl); (focus rfl)) | ((with_reducible refine lexM_skip (c := true) ?_ ?_ ?_); (focus rfl); (focus rfl)) | ((with_reducible refine lexM_skipU ?_ ?_); (focus rfl))); try simp only [Act.put, List.setIfInBounds_toArray, List.set_cons_zero, List.set_cons_succ]))
  (first | with_reducible refine lexM_eff (fun K' hK' => ?_) | ((with_reducible refine lexM_effG ?_ (fun K' hK' => ?_)); (focus rfl)))
  refine wp_value (exec_delete rfl rfl rfl HR3.out) ?_
  refine hK'.out _ _ (fun h => absurd rfl h) (fun hS => ?_)
  refine lexM_nil (hK.out _ _ ?_)
  have HC3 := Lib.hid ((HC2.out.keep0 (Fr.refl No _).drew).turn hT3 hM3)
  have F3 := Lib.hid (hT3.fr)
  clear hr3 HR3 c0 c1 c2 HDEL hM3 hT3
  obtain ⟨c0, c1, c2⟩ := HC3.out.cells
  simp only at c0 c1 c2
  rw [HV.out] at c0
  obtain ⟨gb2, cap2, hv2, hry2, -⟩ := HC3.out.at_ (i := X.length) (x := y) (by show g.H[X.length]? = some y; rw [HXY.out]; simp)
  simp only at hv2
  rw [HV.out] at hv2
  injection hv2 with e1 e2 e3
  injection e1 with e1
  injection e1 with e1
  subst e1
  have RY := Lib.hid hry2
  clear hry2 e2 e3
  have ew : IntKind.i64.wrap ((g.H.length : Int) - 1) = (X.length : Int) := by have := HXL.out; rw [IntWalk.i64_in _ (by omega)]; omega
  have j1 : (X.length : Int) < (g.H.length : Int) := by have := HXL.out; omega
  have EW := Lib.hid ew
  go_wp2
  refine wp_region_lexM [false, false, false, false, false, false, false, false, false, false, false, false, true, true] (fun w' => w'.cell? ⟨g.bl, 0, none⟩ = some (.slice (some ⟨gb, 0, none⟩) g.H.length cap) ∧ w'.rangeAt gb (X.length * 35) (heldC y)) (by kernel_rfl) (by kernel_rfl) 13 (by kernel_rfl) (by kernel_rfl) ?_ (fun K hK => ?_)
  · exact ⟨c0, range_keep RY.out (Fr.refl No _).drew id⟩
  repeat (first | ((first | with_reducible refine lexM_read ?_ | ((with_reducible refine lexM_readG ?_ ?_); (focus rfl))); apply Exists.intro; refine ⟨?_, ?_⟩; (focus (first | exact lex_load (ty := 78) rfl (fun w h => h.2) uH rH (by rw [LY.out]; exact infoHeld) | (intro w' hS; obtain ⟨s1, s2⟩ := hS; go_simp; (try with_reducible rfl); done))); try simp only [Act.put, List.setIfInBounds_toArray, List.set_cons_zero, List.set_cons_succ]) | ((first | ((with_reducible refine lexM_skip (c := false) ?_ ?_ ?_); (focus rfl); (focus rfl)) | ((with_reducible refine lexM_skip (c := true) ?_ ?_ ?_); (focus rfl); (focus rfl)) | ((with_reducible refine lexM_skipU ?_ ?_); (focus rfl))); try simp only [Act.put, List.setIfInBounds_toArray, List.set_cons_zero, List.set_cons_succ]))
  (first | with_reducible refine lexM_eff (fun K' hK' => ?_) | ((with_reducible refine lexM_effG ?_ (fun K' hK' => ?_)); (focus rfl)))
  go_simp
  refine hK'.out _ _ (fun _ => ?_) (fun hS => ?_)
  · exact ⟨((Fr.refl No w3).drew.alloc _).cell c0 id, range_keep RY.out ((Fr.refl No w3).drew.alloc _) id⟩
  try simp only [Act.put, List.setIfInBounds_toArray, List.set_cons_zero, List.set_cons_succ]
  (first | with_reducible refine lexM_eff (fun K' hK' => ?_) | ((with_reducible refine lexM_effG ?_ (fun K' hK' => ?_)); (focus rfl)))
  refine wp_done (exec_store_new (w := w3.drew) (ty := 78) rfl rfl rfl (by rw [LY.out]; rfl) (by rw [LY.out]; exact infoHeld) heldC_one) ?_
  refine hK'.out _ _ (fun h => absurd rfl h) (fun hS => ?_)
  refine lexM_nil (hK.out _ _ ?_)
  have f4 : Fr No w3 (w3.drew.alloc (.cells (heldC y).toArray 78)) := by (repeat (first | with_reducible exact Fr.refl _ _ | with_reducible assumption | with_reducible refine Fr.drew ?_ | with_reducible refine Fr.drewN ?_ _ | with_reducible refine Fr.alloc ?_ _ | with_reducible refine Fr.setCell ?_ _ (.inl (by simp <;> omega)) _))
  have RBY := Lib.hid (show (w3.drew.alloc (.cells (heldC y).toArray 78)).rangeAt w3.heap.size 0 (heldC y) from range_new w3.drew (heldC y) 78)
  have bx4 : w3.heap.size < (w3.drew.alloc (.cells (heldC y).toArray 78)).heap.size := by show _ < (World.alloc _ _).heap.size; simp
  have HC4 := Lib.hid (HC3.out.keep0 f4)
  have F4 := Lib.hid f4
  clear c0 c1 c2 ew f4
  generalize w3.drew.alloc (.cells (heldC y).toArray 78) = w4 at *
  obtain ⟨c0, c1, c2⟩ := HC4.out.cells
  simp only at c0 c1 c2
  rw [HV.out] at c0
  have fz := frozen_none HC4.out.hb 0
  simp only at fz
  have ew := EW.out
  have hcap : X.length ≤ cap := by
    rcases HC4.out.hh.slice with ⟨e, _⟩ | ⟨_, _, _, e, h2, _⟩
    · simp only at e; rw [HV.out] at e; cases e
    · simp only at e h2; rw [HV.out] at e; injection e with _ _ e3; omega
  have hsl := cut_held ⟨gb, 0, none⟩ g.H.length cap X.length hcap
  go_wp2
  refine wp_region_lexM [false, false, false, false, false, false, false, false, false, false, false, false, false, false, true] (fun w' => w'.cell? ⟨g.bl, 0, none⟩ = some (.slice (some ⟨gb, 0, none⟩) g.H.length cap)) (by kernel_rfl) (by kernel_rfl) 14 (by kernel_rfl) (by kernel_rfl) ?_ (fun K hK => ?_)
  · exact c0
  repeat (first | ((first | with_reducible refine lexM_read ?_ | ((with_reducible refine lexM_readG ?_ ?_); (focus rfl))); apply Exists.intro; refine ⟨?_, ?_⟩; (focus (first | (intro w' hS; obtain s1 := hS; go_simp; (try with_reducible rfl); done))); try simp only [Act.put, List.setIfInBounds_toArray, List.set_cons_zero, List.set_cons_succ]) | ((first | ((with_reducible refine lexM_skip (c := false) ?_ ?_ ?_); (focus rfl); (focus rfl)) | ((with_reducible refine lexM_skip (c := true) ?_ ?_ ?_); (focus rfl); (focus rfl)) | ((with_reducible refine lexM_skipU ?_ ?_); (focus rfl))); try simp only [Act.put, List.setIfInBounds_toArray, List.set_cons_zero, List.set_cons_succ]))
  (first | with_reducible refine lexM_eff (fun K' hK' => ?_) | ((with_reducible refine lexM_effG ?_ (fun K' hK' => ?_)); (focus rfl)))
  go_simp
  refine hK'.out _ _ (fun h => absurd rfl h) (fun hS => ?_)
  refine lexM_nil (hK.out _ _ ?_)
  have hr5 : w4.ownsRow 0 78 35 (.slice (some ⟨gb, 0, none⟩) X.length cap) X.length (X.flatMap heldC) := by
    have h1 := HC4.out.hh
    simp only at h1
    rw [HV.out] at h1
    have h2 := own_take h1 (m := X.length) (by have := HXL.out; omega)
    rw [HXY.out] at h2
    rwa [flat_take (fun z hz => heldC_len (HCK.out.at_.ok z (by rw [HXY.out]; simp [hz])))] at h2
  have hbo : (Value.slice (some ⟨gb, 0, none⟩) X.length cap).ownBlock = g.hv.ownBlock := by rw [HV.out]; rfl
  have hc5 := ck_put HC4.out.hb HC4.out.hm hr5 (fun z hz => HCK.out.at_.ok z (by rw [HXY.out]; simp [hz])) HC4.out.n1 (by rw [hbo]; exact HC4.out.n2) (by rw [hbo]; exact HC4.out.n3)
  simp only at hc5
  have f5 : Fr (fun i => i = g.bl) w4 (w4.setCell ⟨g.bl, 0, none⟩ (.slice (some ⟨gb, 0, none⟩) X.length cap)).drew := (Fr.setCell (W := fun i => i = g.bl) (Fr.refl _ w4) ⟨g.bl, 0, none⟩ (.inr rfl) _).drew
  have HC5 := Lib.hid (hc5.keep0 (Fr.refl No _).drew)
  have hbl4 := obj_lt HC3.out.hb
  have RB5 := Lib.hid (range_keep RBY.out f5 (fun e => by simp only at hbl4; omega))
  have fw3 : Fr g.W w2 w3 := (Fr.refl No w2).drew.of0.trans (F3.out.mono (fun k e => .inr (.inl e))) (fun _ _ h => h)
  have fw5 := (F1.out.of0.trans fw3 (fun _ _ h => h)).trans (F4.out.of0.trans (f5.mono (fun k e => .inl e)) (fun _ _ h => h)) (fun _ _ h => h)
  have FW5 := Lib.hid fw5
  clear ew hsl f5 hc5 hr5 c0 c1 c2 fw3 fw5 fz
  generalize (w4.setCell ⟨g.bl, 0, none⟩ (.slice (some ⟨gb, 0, none⟩) X.length cap)).drew = w5 at *
  obtain ⟨c0, c1, c2⟩ := HC5.out.cells
  simp only at c0 c1 c2
  have KEYS := Lib.hid HCK.out.keys
  have LIKE : ∀ g' : CkG, (CkG.mk g.bl g.bm (.slice (some ⟨gb, 0, none⟩) X.length cap) X g.sq M1).Like g' → g'.W = g.W := fun g' l => by
    rw [l.W]
    funext k
    unfold CkG.W
    simp only [hbo]
  have HLIKE := Lib.hid LIKE
  have hW0 : (CkG.mk g.bl g.bm (.slice (some ⟨gb, 0, none⟩) X.length cap) X g.sq M1).W = g.W := LIKE _ ⟨rfl, rfl, rfl, rfl, rfl⟩
  have HW0 := Lib.hid hW0
  clear LIKE hW0 hbo
  by_cases hiX : i < X.length
  · have j2 : (i : Int) < (X.length : Int) := by omega
    have hxi : X[i]? = some x := by have := HI.out; rwa [HXY.out, List.getElem?_append_left hiX] at this
    have HXI := Lib.hid hxi
    clear hxi
    have hput := put_any w5 _ i y HC5.out hiX oky (by unfold maxLen; simp only; omega)
    have HPUT := Lib.hid hput
    clear hput
    go_wp2_with (refine wpList_value rfl (exec_load (ty := 78) rfl rfl RB5.out uH rH (by rw [LY.out]; exact infoHeld)) ?_)
    refine HPUT.out.mono ?_
    rintro e w6 ⟨rfl, M2, hc6, hU6, hl6, f6⟩
    simp only at hc6 hU6 hl6
    have rep6 := rep_move (by have := HCK.out.rep; rwa [HXY.out] at this) HCK.out.at_.hm.nodup HXI.out (by rw [XK.out]; exact hD3) hU6
    have heap6 := heap_set (heap_pre (by have := HCK.out.heap; rwa [HXY.out] at this)) i y
    have hyi : (X.set i y)[i]? = some y := by simp [hiX]
    have hup := up_any w6 _ i y hc6 hyi heap6 (rep6.but hc6.hm.nodup i) (by unfold maxLen; simp; omega)
    have HUP := Lib.hid hup
    rw [HW0.out] at f6
    have RB6 := Lib.hid (range_keep RB5.out f6 (fun e => by have := HCK.out.at_.wlt _ e; have h1 := F1.out.size; have h2 := F3.out.size; have e2 : w2.drew.heap.size = w2.heap.size := rfl; omega))
    have HF6 := Lib.hid f6
    clear hup hc6 hU6 rep6 heap6 hyi f6 HPUT c0 c1 c2
    go_wp2_with fail
    refine HUP.out.mono ?_
    rintro e w7 ⟨rfl, g7, j, like7, hc7, hp7, hr7, hj7, hA7, hU7, -, hm7, f7⟩
    have hW6 : g7.W = g.W := by
      rw [like7.W, ← HW0.out]
      rfl
    have f7' : Fr g.W w6 w7 := by
      have e : (CkG.mk g.bl g.bm (.slice (some ⟨gb, 0, none⟩) X.length cap) (X.set i y) g.sq M2).W = g.W := by rw [← HW0.out]; rfl
      rw [e] at f7
      exact f7
    have hsz3 : w.heap.size ≤ w3.heap.size := by have h1 := F1.out.size; have h2 := F3.out.size; have e2 : w2.drew.heap.size = w2.heap.size := rfl; omega
    have RB7 := Lib.hid (range_key (range_keep RB6.out f7' (fun e => by have := HCK.out.at_.wlt _ e; omega)))
    have hl7 : g7.H.length = X.length := by rw [like7.len]; simp
    have hjM : (y.k, (j : Int)) ∈ g7.M := (hr7 _ _).2 ⟨j, y, rfl, hj7, rfl⟩
    have hdn := down_any w7.drew g7 j y (hc7.keep0 (Fr.refl No _).drew) hj7 hA7 hU7 hr7 (by unfold maxLen; simp only at hm7; omega) (by omega)
    rw [show g7.bl = g.bl from like7.bl] at hdn
    have hb7 : g7.bm = g.bm := like7.bm
    have HM7 := Lib.hid (show MapIs Tryd.prog 36 keyV intV w7 g.bm g7.M by rw [← hb7]; exact hc7.hm)
    have HDN := Lib.hid hdn
    obtain ⟨-, k1, -⟩ := hc7.cells
    rw [show g7.bl = g.bl from like7.bl, hb7] at k1
    have HF7 := Lib.hid ((FW5.out.trans HF6.out (fun _ _ h => h)).trans f7' (fun _ _ h => h))
    have LK7 := Lib.hid like7
    have HP7 := Lib.hid hp7
    have W67 := Lib.hid hW6
    have LOOK7 := Lib.hid (fun (w' : World) (hm : MapIs Tryd.prog 36 keyV intV w' g.bm g7.M) => (show (Instr.lookup 74 (.map (some g.bm)) (keyV y.k) false).run Tryd.prog w' = .ok (.int .i64 j) w' from (hm.hit keyedKey undKeyMap (fun _ _ => keyV_inj) zeroInt (keyOfKey oky.1) hjM).2))
    have LYK := Lib.hid (keyC_len oky.1)
    have HL7 := Lib.hid hl7
    clear hdn hb7 hc7 hp7 hr7 hj7 hA7 hU7 hm7 f7 f7' hl7 hjM like7 hW6
    go_wp2
    refine wp_region_lexM [false, false, false, false, false, false, false, false, true] (fun w' => w'.cell? ⟨g.bl, 1, none⟩ = some (.map (some g.bm)) ∧ w'.rangeAt w3.heap.size 0 (keyC y.k) ∧ MapIs Tryd.prog 36 keyV intV w' g.bm g7.M) (by kernel_rfl) (by kernel_rfl) 8 (by kernel_rfl) (by kernel_rfl) ?_ (fun K hK => ?_)
    · exact ⟨k1, range_keep RB7.out (Fr.refl No _).drew id, HM7.out.keep (Fr.refl No _).drew id⟩
    repeat (first | ((first | with_reducible refine lexM_read ?_ | ((with_reducible refine lexM_readG ?_ ?_); (focus rfl))); apply Exists.intro; refine ⟨?_, ?_⟩; (focus (first | exact lex_load (ty := 36) rfl (fun w h => h.2.1) uK rK (by rw [LYK.out]; exact infoKey) | exact fun w' h => exec_lookup (t := 74) rfl rfl rfl (LOOK7.out w' h.2.2) | (intro w' hS; obtain ⟨s1, s2, s3⟩ := hS; go_simp; (try with_reducible rfl); done))); try simp only [Act.put, List.setIfInBounds_toArray, List.set_cons_zero, List.set_cons_succ]) | ((first | ((with_reducible refine lexM_skip (c := false) ?_ ?_ ?_); (focus rfl); (focus rfl)) | ((with_reducible refine lexM_skip (c := true) ?_ ?_ ?_); (focus rfl); (focus rfl)) | ((with_reducible refine lexM_skipU ?_ ?_); (focus rfl))); try simp only [Act.put, List.setIfInBounds_toArray, List.set_cons_zero, List.set_cons_succ]))
    (first | with_reducible refine lexM_eff (fun K' hK' => ?_) | ((with_reducible refine lexM_effG ?_ (fun K' hK' => ?_)); (focus rfl)))
    go_simp
    refine HDN.out.mono ?_
    rintro e w8 ⟨rfl, g8, like8, hc8, hp8, hr8, hH8, hm8, f8⟩
    have FIN : DropOk w0 w p g S N k (.returned (.int .i64 0)) w8 := by
      have hW8 : g8.W = g.W := by rw [like8.W, W67.out]
      have fw : Fr g.W w w8 := HF7.out.trans (by rw [W67.out] at f8; exact (Fr.refl No w7).drew.of0.trans f8 (fun _ _ h => h)) (fun _ _ h => h)
      have hpm : (delS S k).Perm g8.H := by
        have h1 : (delS S k).Perm (delS g.H k) := HCK.out.perm.filter _
        have h2 := move_perm HXI.out (y := y) (by rw [← HXY.out]; exact KEYS.out)
        rw [← HXY.out, XK.out] at h2
        exact h1.trans (h2.symm.trans (HP7.out.symm.trans hp8.symm))
      have hmem : ∀ z, z ∈ g8.H → z ∈ g.H := fun z hz => HCK.out.mem.1 (mem_delS.1 (hpm.mem_iff.2 hz)).1
      refine ⟨rfl, g8, { bl := (like8.bl.trans LK7.out.bl).trans HCK.out.bl, at_ := hc8, heap := hH8, rep := hr8, perm := hpm, srt := HCK.out.srt.sublist List.filter_sublist, seq := fun z hz => ?_, sq := ?_, W := fun j hj => ?_, fr := ?_, len := ?_ }, ⟨like8.bl.trans LK7.out.bl, fun j hj => .inl (by rw [hW8] at hj; exact hj), fw⟩, like8.sq.trans LK7.out.sq, hW8⟩
      · rw [like8.sq, LK7.out.sq]
        exact HCK.out.seq z (hmem z hz)
      · rw [like8.sq, LK7.out.sq]
        exact HCK.out.sq
      · rw [hW8] at hj
        exact HCK.out.W j hj
      · exact HCK.out.fr.trans fw (fun i hi e => by have := HCK.out.W i e; omega)
      · rw [like8.len, HL7.out]
        have := HXL.out
        omega
    have HFIN := Lib.hid FIN
    clear FIN hc8 hp8 hr8 hH8 hm8 f8
    refine hK'.out _ _ (fun h => absurd rfl h) (fun hS => ?_)
    refine lexM_nil (hK.out _ _ ?_)
    go_wp2
    go_ret
    exact HFIN.out
  · have hiX' : i = X.length := by have := HXL.out; omega
    have j2 : ¬ (i : Int) < (X.length : Int) := by omega
    have hxy : x = y := by
      have := HI.out
      rw [HXY.out, hiX', List.getElem?_append_right (Nat.le_refl _), Nat.sub_self] at this
      exact (Option.some.inj this).symm
    have FIN : DropOk w0 w p g S N k (.returned (.int .i64 0)) w5 := by
      have hk2 : k = y.k := by rw [← hxy]; exact XK.out.symm
      have hpm : (delS S k).Perm X := by
        have h1 : (delS S k).Perm (delS g.H k) := HCK.out.perm.filter _
        have h2 := KEYS.out
        rw [HXY.out] at h2
        have h3 := delS_one (A := X) (B := []) h2
        rw [List.append_nil, ← HXY.out, ← hk2] at h3
        rw [h3] at h1
        exact h1
      have hmem : ∀ z, z ∈ X → z ∈ g.H := fun z hz => by rw [HXY.out]; simp [hz]
      refine ⟨rfl, CkG.mk g.bl g.bm (.slice (some ⟨gb, 0, none⟩) X.length cap) X g.sq M1, { bl := HCK.out.bl, at_ := HC5.out, heap := heap_pre (y := y) (by have := HCK.out.heap; rwa [HXY.out] at this), rep := rep_last (y := y) (by have := HCK.out.rep; rwa [HXY.out] at this) HCK.out.at_.hm.nodup (by rw [← hk2]; exact hD3), perm := hpm, srt := HCK.out.srt.sublist List.filter_sublist, seq := fun z hz => HCK.out.seq z (hmem z hz), sq := HCK.out.sq, W := fun j hj => ?_, fr := ?_, len := ?_ }, ⟨rfl, fun j hj => .inl (by rw [HW0.out] at hj; exact hj), FW5.out⟩, rfl, HW0.out⟩
      · rw [HW0.out] at hj
        exact HCK.out.W j hj
      · exact HCK.out.fr.trans FW5.out (fun i hi e => by have := HCK.out.W i e; omega)
      · show X.length ≤ N
        have := HXL.out
        omega
    have HFIN := Lib.hid FIN
    clear FIN hxy hiX'
    go_wp2
    go_ret
    exact HFIN.out
end Go.Proofs.YthmaekkjpginoaaDoor
