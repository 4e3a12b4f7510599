/- embargo: a clock in memory; put. -/
import Derived.Test.YthmaekkjpginoaaDoorEmbM
import Derived.Test.YthmaekkjpginoaaDoorHeap
namespace Go.Proofs.YthmaekkjpginoaaDoor
open Go Go.RowKit Go.Maps Go.MapKept

/-- A clock: its blocks, the heap, the count, the index. -/
structure CkG where
  bl : Nat
  bm : Nat
  hv : Value
  H : List HeldD
  sq : Int
  M : List (KeyD × Int)
def intV (x : Int) : Value := .int .i64 x
def CkG.W (g : CkG) (k : Nat) : Prop := k = g.bl ∨ k = g.bm ∨ g.hv.ownBlock = some k
structure CkAt (w : World) (g : CkG) : Prop where
  hb : w.heap[g.bl]? = some (.cells #[g.hv, .map (some g.bm), .int .i64 g.sq] 76 (0, 0))
  hh : w.ownsRow 0 78 35 g.hv g.H.length (g.H.flatMap heldC)
  hm : MapIs Tryd.prog 36 keyV intV w g.bm g.M
  ok : ∀ h ∈ g.H, h.ok
  n1 : g.bl ≠ g.bm
  n2 : g.hv.ownBlock ≠ some g.bl
  n3 : g.hv.ownBlock ≠ some g.bm
theorem CkAt.keep {w w' : World} {g : CkG} (h : CkAt w g) {V : Nat → Prop} (f : Fr V w w') (hV : ∀ k, g.W k → ¬ V k) : CkAt w' g :=
  { h with
    hb := f.obj h.hb (hV _ (.inl rfl))
    hh := ownsRow_keep h.hh f (fun k hk => hV k (.inr (.inr hk)))
    hm := h.hm.keep f (hV _ (.inr (.inl rfl))) }
theorem CkAt.keep0 {w w' : World} {g : CkG} (h : CkAt w g) (f : Fr No w w') : CkAt w' g := h.keep f (fun _ _ => id)
theorem CkAt.wlt {w : World} {g : CkG} (h : CkAt w g) : ∀ k, g.W k → k < w.heap.size := by
  rintro k (rfl | rfl | hk)
  · exact obj_lt h.hb
  · exact h.hm.lt
  · exact (h.hh.lt k hk).2
theorem CkAt.cells {w : World} {g : CkG} (h : CkAt w g) : w.cell? ⟨g.bl, 0, none⟩ = some g.hv ∧ w.cell? ⟨g.bl, 1, none⟩ = some (.map (some g.bm)) ∧ w.cell? ⟨g.bl, 2, none⟩ = some (.int .i64 g.sq) := by
  have := h.hb
  simp [World.cell?, this]
theorem CkAt.len {w : World} {g : CkG} (h : CkAt w g) : ∀ x ∈ g.H, (heldC x).length = 35 := fun x hx => heldC_len (h.ok x hx)
/-- An element of the heap. -/
theorem CkAt.at_ {w : World} {g : CkG} (h : CkAt w g) {i : Nat} {x : HeldD} (hx : g.H[i]? = some x) : ∃ gb cap, g.hv = .slice (some ⟨gb, 0, none⟩) g.H.length cap ∧ w.rangeAt gb (i * 35) (heldC x) ∧ gb < w.heap.size :=
  own_elem (by decide) h.len h.hh hx

theorem infoHeld : (Tryd.prog.info? 78).map (·.size) = some 35 := by kernel_rfl
theorem infoKey : (Tryd.prog.info? 36).map (·.size) = some 33 := by kernel_rfl
theorem descHeld : ∃ d, Tryd.prog.underlying 78 = some d ∧ d.isRow = true := row_of (by kernel_rfl)
theorem descKey : ∃ d, Tryd.prog.underlying 36 = some d ∧ d.isRow = true := row_of (by kernel_rfl)
theorem heldC_one {h : HeldD} : ∀ v ∈ heldC h, v.oneCell' = true := by
  intro v hv
  unfold heldC keyC at hv
  simp only [List.cons_append, List.mem_cons, List.mem_append, List.mem_map, List.not_mem_nil, or_false] at hv
  rcases hv with rfl | ⟨x, _, rfl⟩ | rfl | rfl <;> rfl
theorem range_key {w : World} {b o : Nat} {h : HeldD} (hr : w.rangeAt b o (heldC h)) : w.rangeAt b o (keyC h.k) := fun j v hj => hr j v (by
  unfold heldC
  rw [List.getElem?_append_left (List.getElem?_eq_some_iff.1 hj).1]
  exact hj)

theorem CkAt.set {w : World} {g : CkG} (h : CkAt w g) {gb cap i : Nat} {x : HeldD} (hv : g.hv = .slice (some ⟨gb, 0, none⟩) g.H.length cap) (hi : i < g.H.length) (hx : x.ok) : CkAt (w.setCells gb (i * 35) (heldC x)) { g with H := g.H.set i x } := by
  have f := setCells_fr gb (heldC x) (i * 35) w
  have n2 := h.n2
  have n3 := h.n3
  have hh := h.hh
  rw [hv] at n2 n3 hh
  simp only [Value.ownBlock, ne_eq, Option.some.injEq] at n2 n3
  exact {
    hb := f.obj h.hb (fun e => n2 e.symm)
    hh := by
      have := own_set h.len hh hi x (heldC_len hx)
      rw [← hv] at this
      simpa using this
    hm := h.hm.keep f (fun e => n3 e.symm)
    ok := fun y hy => (List.mem_or_eq_of_mem_set hy).elim (h.ok y) (fun e => e ▸ hx)
    n1 := h.n1
    n2 := h.n2
    n3 := h.n3 }
theorem CkAt.turn {w w' : World} {g : CkG} (h : CkAt w g) {M' : List (KeyD × Int)} (hT : Turned g.bm w w') (hM : MapIs Tryd.prog 36 keyV intV w' g.bm M') : CkAt w' { g with M := M' } :=
  { h with
    hb := hT.fr.obj h.hb (fun e => h.n1 e)
    hh := ownsRow_keep h.hh hT.fr (fun k hk e => h.n3 (e ▸ hk))
    hm := hM }

/-- What put leaves. -/
def PutOk (w : World) (g : CkG) (i : Nat) (h : HeldD) (e : Ending) (w' : World) : Prop :=
  e = .returned (.tuple #[]) ∧ ∃ M', CkAt w' { g with H := g.H.set i h, M := M' } ∧ Upd g.M h.k i M' ∧ M'.length ≤ g.M.length + 1 ∧ Fr g.W w w'

set_option maxRecDepth 20000 in
set_option maxHeartbeats 1000000 in
theorem put_any (w : World) (g : CkG) (i : Nat) (h : HeldD) (hc : CkAt w g) (hi : i < g.H.length) (hh : h.ok) (room : g.M.length < maxLen) :
    Calls Tryd.prog 35 #[.pointer (some ⟨g.bl, 0, none⟩), .int .i64 i, .agg (heldC h).toArray] w (PutOk w g i h) := by
  obtain ⟨gb, cap, hv, -, hgl⟩ := hc.at_ (List.getElem?_eq_getElem hi)
  have hgb : gb < w.heap.size ∧ g.bl ≠ gb := ⟨hgl, fun e => hc.n2 (by rw [hv, e]; rfl)⟩
  have hbm : g.bm < w.heap.size := hc.hm.lt
  obtain ⟨dH, uH, rH⟩ := descHeld
  obtain ⟨dK, uK, rK⟩ := descKey
  have hl := heldC_len hh
  have fB : Fr No w (w.alloc (.cells (heldC h).toArray 78)) := by (repeat (first | with_reducible exact Fr.refl _ _ | with_reducible assumption | with_reducible refine Fr.drew ?_ | with_reducible refine Fr.drewN ?_ _ | with_reducible refine Fr.alloc ?_ _ | with_reducible refine Fr.setCell ?_ _ (.inl (by simp <;> omega)) _))
  have hc0 := hc.keep0 fB
  obtain ⟨c0, c1, c2⟩ := hc0.cells
  rw [hv] at c0
  have rB := range_new w (heldC h) 78
  have hbx : w.heap.size < (w.alloc (.cells (heldC h).toArray 78)).heap.size := by simp
  have i1 : (i : Int) < (g.H.length : Int) := by omega
  have hlm : g.H.length ≤ maxLen := hc.hh.slice.len
  unfold maxLen at hlm
  have HV := Lib.hid hv
  have HC := Lib.hid hc0
  have HL := Lib.hid hl
  have RB := Lib.hid rB
  clear hv hc hc0 hl rB
  go_enter Tryd.func35, Tryd.ntmps35
  go_wp2
  refine wp_region_lexL [false, false, false, false, false, false, false, true] (fun w' => w'.cell? ⟨g.bl, 0, none⟩ = some (.slice (some ⟨gb, 0, none⟩) g.H.length cap) ∧ w'.rangeAt w.heap.size 0 (heldC h)) (by kernel_rfl) (by kernel_rfl) ?_ (fun K hK => ?_)
  · exact ⟨c0, range_keep RB.out (Fr.refl No _).drew id⟩
  repeat (first | ((first | with_reducible refine lexL_read ?_ | ((with_reducible refine lexL_readG ?_ ?_); (focus rfl))); apply Exists.intro; refine ⟨?_, ?_⟩; (focus (first | exact lex_load (ty := 78) rfl (fun w h => h.2) uH rH (by rw [HL.out]; exact infoHeld) | (intro w' hS; obtain ⟨s1, s2⟩ := hS; go_simp; (try with_reducible rfl); done))); try simp only [Act.put, List.setIfInBounds_toArray, List.set_cons_zero, List.set_cons_succ]) | ((first | ((with_reducible refine lexL_skip (c := false) ?_ ?_ ?_); (focus rfl); (focus rfl)) | ((with_reducible refine lexL_skip (c := true) ?_ ?_ ?_); (focus rfl); (focus rfl)) | ((with_reducible refine lexL_skipU ?_ ?_); (focus rfl))); try simp only [Act.put, List.setIfInBounds_toArray, List.set_cons_zero, List.set_cons_succ]))
  have HC1 := Lib.hid (HC.out.keep0 (Fr.refl No _).drew)
  have hown := HC1.out.hh
  rw [show g.hv = _ from HV.out] at hown
  have HO := Lib.hid hown
  clear hown
  have hg1 := HC1.out.set HV.out hi hh
  have fS := setCells_fr gb (heldC h) (i * 35) (w.alloc (.cells (heldC h).toArray 78)).drew
  have HG := Lib.hid hg1
  clear hg1
  (first | with_reducible refine lexL_eff (fun K' hK' => ?_) | ((with_reducible refine lexL_effG ?_ (fun K' hK' => ?_)); (focus rfl)))
  refine wp_done (exec_store rfl rfl rfl (by rw [HL.out]; exact own_there HO.out hi) (by rw [HL.out]; exact infoHeld) heldC_one) ?_
  refine hK'.out _ _ ?_ (fun hS => ?_)
  · exact ⟨fS.cell c0 hgb.2, range_keep (range_keep RB.out (Fr.refl No _).drew id) fS (fun e => by omega)⟩
  refine lexL_nil (hK.out _ _ ?_)
  have RB2 := Lib.hid (range_key (range_keep (range_keep RB.out (Fr.refl No _).drew id) fS (fun e => by omega)))
  obtain ⟨k0, k1, k2⟩ := HG.out.cells
  simp only at k1
  obtain ⟨w3, M', hr, hM, hU, hT, hl⟩ := (HG.out.keep0 (Fr.refl No _).drew).hm.upd keyedKey undKeyMap (fun _ _ => keyV_inj) (keyOfKey hh.1) room (i : Int)
  have HR := Lib.hid hr
  have HG3 := Lib.hid ((HG.out.keep0 (Fr.refl No _).drew).turn hT hM)
  have fT := hT.fr
  have FIN := Lib.hid (show PutOk w g i h (.returned (.tuple #[])) w3 from ⟨rfl, M', HG3.out, hU, hl, ((fB.drew.of0.trans (fS.mono (fun k e => .inr (.inr (by rw [HV.out, e]; rfl)))) (fun _ _ h => h)).drew).trans fT (fun k _ e => .inr (.inl e))⟩)
  have S2 := Lib.hid (show w3.cell? ⟨g.bl, 1, none⟩ = some (.map (some g.bm)) ∧ w3.rangeAt w.heap.size 0 (keyC h.k) from ⟨HG3.out.cells.2.1, range_keep (range_keep RB2.out (Fr.refl No _).drew id) fT (fun e => by simp only at e; omega)⟩)
  clear hr hM hU hT hl fT HG3
  go_wp2
  refine wp_region_lexL [false, false, false, false, false, false, false, true] (fun w' => w'.cell? ⟨g.bl, 1, none⟩ = some (.map (some g.bm)) ∧ w'.rangeAt w.heap.size 0 (keyC h.k)) (by kernel_rfl) (by kernel_rfl) ?_ (fun K hK => ?_)
  · exact ⟨k1, range_keep RB2.out (Fr.refl No _).drew id⟩
  repeat (first | ((first | with_reducible refine lexL_read ?_ | ((with_reducible refine lexL_readG ?_ ?_); (focus rfl))); apply Exists.intro; refine ⟨?_, ?_⟩; (focus (first | exact lex_load (ty := 36) rfl (fun w h => h.2) uK rK (by rw [keyC_len hh.1]; exact infoKey) | (intro w' hS; obtain ⟨s1, s2⟩ := hS; go_simp; (try with_reducible rfl); done))); try simp only [Act.put, List.setIfInBounds_toArray, List.set_cons_zero, List.set_cons_succ]) | ((first | ((with_reducible refine lexL_skip (c := false) ?_ ?_ ?_); (focus rfl); (focus rfl)) | ((with_reducible refine lexL_skip (c := true) ?_ ?_ ?_); (focus rfl); (focus rfl)) | ((with_reducible refine lexL_skipU ?_ ?_); (focus rfl))); try simp only [Act.put, List.setIfInBounds_toArray, List.set_cons_zero, List.set_cons_succ]))
  (first | with_reducible refine lexL_eff (fun K' hK' => ?_) | ((with_reducible refine lexL_effG ?_ (fun K' hK' => ?_)); (focus rfl)))
  refine wp_done (exec_mapUpdate rfl rfl rfl rfl HR.out) ?_
  refine hK'.out _ _ ?_ (fun hS => ?_)
  · exact S2.out
  refine lexL_nil (hK.out _ _ ?_)
  go_wp2
  go_end0
  exact FIN.out
end Go.Proofs.YthmaekkjpginoaaDoor
