/- embargo: up. -/
import Derived.Test.YthmaekkjpginoaaDoorEmbC
import Derived.Maps.RangeWalk
import Derived.IntWalk
namespace Go.Proofs.YthmaekkjpginoaaDoor
open Go Go.RowKit Go.Maps Go.MapKept Go.Sort

theorem before_iff (a b : HeldD) : beforeB a b = true ↔ a.till < b.till ∨ a.till = b.till ∧ a.seq < b.seq := by simp [beforeB]
theorem before_not (a b : HeldD) : beforeB a b = false ↔ ¬ (a.till < b.till ∨ a.till = b.till ∧ a.seq < b.seq) := by rw [← before_iff]; simp
theorem swoB : SWO beforeB where
  irrefl x := by rw [before_not]; omega
  trans x y z h1 h2 := by rw [before_iff] at *; omega
  ntrans x y z h1 h2 := by rw [before_not] at *; omega

theorem set_same {α : Type} {L : List α} {i : Nat} {x : α} (h : L[i]? = some x) : L.set i x = L := by
  obtain ⟨hl, rfl⟩ := List.getElem?_eq_some_iff.1 h
  exact List.set_getElem_self hl
/-- The same blocks. -/
structure CkG.Like (g g' : CkG) : Prop where
  bl : g'.bl = g.bl
  bm : g'.bm = g.bm
  hv : g'.hv = g.hv
  sq : g'.sq = g.sq
  len : g'.H.length = g.H.length
theorem CkG.Like.W {g g' : CkG} (h : g.Like g') : g'.W = g.W := by
  funext k
  unfold CkG.W
  rw [h.bl, h.bm, h.hv]

/-- What up leaves. -/
def UpDone (w : World) (g : CkG) (i : Nat) (h : HeldD) (e : Ending) (w' : World) : Prop :=
  e = .returned (.tuple #[]) ∧ ∃ (g' : CkG) (j : Nat), g.Like g' ∧ CkAt w' g' ∧ g'.H.Perm g.H ∧ Rep HeldD.k g'.H g'.M ∧ g'.H[j]? = some h ∧ HeapAt beforeB j g'.H ∧ UpOk beforeB j g'.H ∧ (DownOk beforeB i g.H → DownOk beforeB j g'.H) ∧ g'.M.length ≤ g.M.length + i + 1 ∧ Fr g.W w w'

/-- At the head of up's loop: the hole is at n. -/
structure UpInv (w : World) (g : CkG) (i : Nat) (h : HeldD) (wr : World) (g' : CkG) (n : Nat) : Prop where
  like : g.Like g'
  at_ : CkAt wr g'
  lt : n < g.H.length
  perm : (g'.H.set n h).Perm g.H
  heap : HeapAt beforeB n (g'.H.set n h)
  down : DownOk beforeB i g.H → DownOk beforeB n (g'.H.set n h)
  rep : RepBut HeldD.k n (g'.H.set n h) g'.M
  ml : g'.M.length + n ≤ g.M.length + i
  fr : Fr g.W w wr
  box : wr.rangeAt w.heap.size 0 (heldC h)
theorem UpInv.fr0 {w wr wr' : World} {g g' : CkG} {i n : Nat} {h : HeldD} (U : UpInv w g i h wr g' n) (f : Fr No wr wr') : UpInv w g i h wr' g' n :=
  { U with at_ := U.at_.keep0 f, fr := U.fr.trans0 f, box := range_keep U.box f id }
theorem UpInv.done {w wr w' : World} {g g' : CkG} {i n : Nat} {h : HeldD} {e : Ending} (U : UpInv w g i h wr g' n) (up : UpOk beforeB n (g'.H.set n h)) (P : PutOk wr g' n h e w') : UpDone w g i h e w' := by
  obtain ⟨rfl, M', hc, hU, hl, f⟩ := P
  refine ⟨rfl, { g' with H := g'.H.set n h, M := M' }, n, ⟨U.like.bl, U.like.bm, U.like.hv, U.like.sq, by simpa using U.like.len⟩, hc, U.perm, ?_, ?_, U.heap, up, U.down, ?_, ?_⟩
  · exact U.rep.settle (by simp [U.like.len, U.lt]) hU
  · simp [U.like.len, U.lt]
  · show M'.length ≤ _
    have := U.ml
    omega
  · rw [U.like.W] at f
    exact U.fr.trans f (fun _ _ h => h)
theorem UpInv.step {w wr w' : World} {g g' : CkG} {i n : Nat} {h y : HeldD} {e : Ending} (U : UpInv w g i h wr g' n) (h0 : 0 < n) (hy : g'.H[(n - 1) / 2]? = some y) (hl : beforeB h y = true) (hbox : ∀ k, g.W k → k < w.heap.size) (P : PutOk wr g' n y e w') :
    e = .returned (.tuple #[]) ∧ ∃ g2, UpInv w g i h w' g2 ((n - 1) / 2) := by
  obtain ⟨rfl, M', hc, hU, hml, f⟩ := P
  have li : n < g'.H.length := by rw [U.like.len]; exact U.lt
  have hi : (g'.H.set n h)[n]? = some h := by simp [li]
  have hp : (g'.H.set n h)[(n - 1) / 2]? = some y := by rw [List.getElem?_set_ne (by omega)]; exact hy
  have e1 : (g'.H.set n y).set ((n - 1) / 2) h = ((g'.H.set n h).set n y).set ((n - 1) / 2) h := by rw [List.set_set]
  obtain ⟨a1, a2⟩ := U.heap.up swoB h0 hi hp hl
  refine ⟨rfl, { g' with H := g'.H.set n y, M := M' }, ⟨U.like.bl, U.like.bm, U.like.hv, U.like.sq, by simpa using U.like.len⟩, hc, by have := U.lt; omega, ?_, ?_, fun _ => ?_, ?_, ?_, ?_, ?_⟩
  · show ((g'.H.set n y).set ((n - 1) / 2) h).Perm g.H
    rw [e1]
    exact (swap_perm hi hp).trans U.perm
  · show HeapAt beforeB _ ((g'.H.set n y).set ((n - 1) / 2) h)
    rw [e1]; exact a1
  · show DownOk beforeB _ ((g'.H.set n y).set ((n - 1) / 2) h)
    rw [e1]; exact a2
  · show RepBut HeldD.k _ ((g'.H.set n y).set ((n - 1) / 2) h) M'
    rw [e1]
    exact U.rep.move (by omega) hi hp hU
  · show M'.length + _ ≤ _
    have := U.ml
    omega
  · rw [U.like.W] at f
    exact U.fr.trans f (fun _ _ h => h)
  · exact range_keep U.box f (fun e => by rw [U.like.W] at e; have := hbox _ e; omega)

set_option maxRecDepth 20000 in
set_option maxHeartbeats 2000000 in
theorem up_any (w : World) (g : CkG) (i : Nat) (h : HeldD) (hc : CkAt w g) (hi : g.H[i]? = some h) (hA : HeapAt beforeB i g.H) (hR : RepBut HeldD.k i g.H g.M) (room : g.M.length + g.H.length < maxLen) :
    Calls Tryd.prog 34 #[.pointer (some ⟨g.bl, 0, none⟩), .int .i64 i] w (UpDone w g i h) := by
  obtain ⟨gb, cap, hv, hr, hgl⟩ := hc.at_ hi
  obtain ⟨dH, uH, rH⟩ := descHeld
  obtain ⟨c0, c1, c2⟩ := hc.cells
  rw [hv] at c0
  have hh := hc.ok h (List.mem_of_getElem? hi)
  have hl := heldC_len hh
  have hil := (List.getElem?_eq_some_iff.1 hi).1
  have i1 : (i : Int) < (g.H.length : Int) := by omega
  have hlm : g.H.length ≤ maxLen := hc.hh.slice.len
  have ROOM := Lib.hid room
  unfold maxLen at hlm
  have f1 : Fr No w (w.alloc (.cells (heldC h).toArray 78)) := by (repeat (first | with_reducible exact Fr.refl _ _ | with_reducible assumption | with_reducible refine Fr.drew ?_ | with_reducible refine Fr.drewN ?_ _ | with_reducible refine Fr.alloc ?_ _ | with_reducible refine Fr.setCell ?_ _ (.inl (by simp <;> omega)) _))
  have hset : g.H.set i h = g.H := set_same hi
  have INV := Lib.hid (show UpInv w g i h (w.alloc (.cells (heldC h).toArray 78)) g i from
    { like := ⟨rfl, rfl, rfl, rfl, rfl⟩, at_ := hc.keep0 f1, lt := hil, perm := by rw [hset], heap := by rw [hset]; exact hA, down := by rw [hset]; exact id, rep := by rw [hset]; exact hR, ml := Nat.le_refl _, fr := f1.of0, box := range_new w (heldC h) 78 })
  have WLT := Lib.hid hc.wlt
  have HL := Lib.hid hl
  have HR := Lib.hid hr
  have HI := Lib.hid hi
  have HV := Lib.hid hv
  have hsz : w.heap.size ≤ (w.alloc (.cells (heldC h).toArray 78)).heap.size := f1.size
  clear hl hr hi hv hc hset hA hR room f1
  go_enter Tryd.func34, Tryd.ntmps34
  go_wp2_with (first | (refine wpList_value rfl (exec_load (ty := 78) rfl rfl HR.out uH rH (by rw [HL.out]; exact infoHeld)) ?_) | (refine wpList_done rfl (exec_store_new (ty := 78) rfl rfl rfl (by rw [HL.out]; rfl) (by rw [HL.out]; exact infoHeld) heldC_one) ?_))
  go_frame
  go_loopw [1] (fun iv wr => ∃ (n : Nat) (g' : CkG), iv = .int .i64 n ∧ UpInv w g i h wr g' n) (fun iv _ => (intOf iv).toNat)
  case atStart => exact ⟨i, g, rfl, INV.out⟩
  case round =>
    obtain ⟨n, g', rfl, U⟩ := hrel
    obtain ⟨k0, k1, k2⟩ := U.at_.cells
    rw [U.like.bl, U.like.hv, HV.out] at k0
    have hlt := U.lt
    have hbox := U.box
    by_cases h0 : 0 < n
    · have i2 : (0 : Int) < (n : Int) := by omega
      have i3 : (n : Int) < (g.H.length : Int) := by omega
      obtain ⟨q, hq⟩ : ∃ q, (n - 1) / 2 = q := ⟨_, rfl⟩
      have hpl : q < g'.H.length := by rw [U.like.len]; omega
      have hpl2 : q < g.H.length := by omega
      have ew : IntKind.i64.wrap ((n : Int) - 1) / 2 = (q : Int) := by rw [IntWalk.i64_in _ (by omega)]; omega
      have hy : g'.H[q]? = some g'.H[q] := List.getElem?_eq_getElem hpl
      have HQ := Lib.hid hq
      have EW := Lib.hid ew
      clear hq ew
      have hok := U.at_.ok _ (List.getElem_mem hpl)
      obtain ⟨gb2, cap2, hv2, hry, -⟩ := U.at_.at_ hy
      rw [U.like.hv, HV.out] at hv2
      injection hv2 with e1 e2 e3
      injection e1 with e1
      injection e1 with e1
      subst e1
      have UU := Lib.hid U
      have HY := Lib.hid hy
      have RY := Lib.hid hry
      have HB := Lib.hid hbox
      clear U hy hry hbox e3 e2
      generalize g'.H[q] = y at *
      have hly := heldC_len hok
      have HLY := Lib.hid hly
      clear hly
      have ro2 := UU.out.ml
      have ro3 := ROOM.out
      have PUT := Lib.hid (fun (W : World) (f : Fr No wr W) (x : HeldD) (hx : x.ok) => by
        have hp := put_any W g' n x (UU.out.at_.keep0 f) (by rw [UU.out.like.len]; exact hlt) hx (by omega)
        rw [UU.out.like.bl] at hp
        exact hp)
      clear ro2 ro3
      cases hbf : beforeB h y with
      | true =>
        have HBF := Lib.hid hbf
        clear hbf
        have i4 : (q : Int) < (g.H.length : Int) := by omega
        go_wp2
        have ew := EW.out
        refine wp_region_lexL [false, false, false, false, false, false, false, false, false, false, false, false, false, true, false] (fun w' => w'.cell? ⟨g.bl, 0, none⟩ = some (.slice (some ⟨gb, 0, none⟩) g.H.length cap) ∧ w'.rangeAt w.heap.size 0 (heldC h) ∧ w'.rangeAt gb (q * 35) (heldC y)) (by kernel_rfl) (by kernel_rfl) ?_ (fun K hK => ?_)
        · exact ⟨k0, range_keep HB.out (Fr.refl No _).drew id, range_keep RY.out (Fr.refl No _).drew id⟩
        repeat (first | ((first | with_reducible refine lexL_read ?_ | ((with_reducible refine lexL_readG ?_ ?_); (focus rfl))); apply Exists.intro; refine ⟨?_, ?_⟩; (focus (first | exact lex_load (ty := 78) rfl (fun w h => h.2.1) uH rH (by rw [HL.out]; exact infoHeld) | exact lex_load (ty := 78) rfl (fun w h => h.2.2) uH rH (by rw [HLY.out]; exact infoHeld) | (intro w' hS; obtain ⟨s1, s2, s3⟩ := hS; go_simp; (try with_reducible rfl); done))); try simp only [Act.put, List.setIfInBounds_toArray, List.set_cons_zero, List.set_cons_succ]) | ((first | ((with_reducible refine lexL_skip (c := false) ?_ ?_ ?_); (focus rfl); (focus rfl)) | ((with_reducible refine lexL_skip (c := true) ?_ ?_ ?_); (focus rfl); (focus rfl)) | ((with_reducible refine lexL_skipU ?_ ?_); (focus rfl))); try simp only [Act.put, List.setIfInBounds_toArray, List.set_cons_zero, List.set_cons_succ]))
        (first | with_reducible refine lexL_eff (fun K' hK' => ?_) | ((with_reducible refine lexL_effG ?_ (fun K' hK' => ?_)); (focus rfl)))
        go_simp
        refine (before_any _ h y hh hok).mono ?_
        rintro e w2 ⟨rfl, rfl⟩
        rw [HBF.out]
        refine hK'.out _ _ ?_ (fun hS => ?_)
        · exact ⟨(((Fr.refl No wr).drew.alloc _).alloc _).cell k0 id, range_keep HB.out (((Fr.refl No wr).drew.alloc _).alloc _) id, range_keep RY.out (((Fr.refl No wr).drew.alloc _).alloc _) id⟩
        try simp only [Act.put, List.setIfInBounds_toArray, List.set_cons_zero, List.set_cons_succ]
        repeat (first | ((first | with_reducible refine lexL_read ?_ | ((with_reducible refine lexL_readG ?_ ?_); (focus rfl))); apply Exists.intro; refine ⟨?_, ?_⟩; (focus (first | (intro w' hS; obtain ⟨s1, s2, s3⟩ := hS; go_simp; (try with_reducible rfl); done))); try simp only [Act.put, List.setIfInBounds_toArray, List.set_cons_zero, List.set_cons_succ]) | ((first | ((with_reducible refine lexL_skip (c := false) ?_ ?_ ?_); (focus rfl); (focus rfl)) | ((with_reducible refine lexL_skip (c := true) ?_ ?_ ?_); (focus rfl); (focus rfl)) | ((with_reducible refine lexL_skipU ?_ ?_); (focus rfl))); try simp only [Act.put, List.setIfInBounds_toArray, List.set_cons_zero, List.set_cons_succ]))
        refine lexL_nil (hK.out _ _ ?_)
        clear ew
        have F5 : Fr No wr ((wr.drew.alloc (.cells (heldC h).toArray 78)).alloc (.cells (heldC y).toArray 78)) := by (repeat (first | with_reducible exact Fr.refl _ _ | with_reducible assumption | with_reducible refine Fr.drew ?_ | with_reducible refine Fr.drewN ?_ _ | with_reducible refine Fr.alloc ?_ _ | with_reducible refine Fr.setCell ?_ _ (.inl (by simp <;> omega)) _))
        generalize ((wr.drew.alloc (.cells (heldC h).toArray 78)).alloc (.cells (heldC y).toArray 78)) = w5 at *
        have RY5 := Lib.hid (show w5.rangeAt gb ((n - 1) / 2 * 35) (heldC y) by rw [HQ.out]; exact range_keep RY.out F5 id)
        obtain ⟨k5, -, -⟩ := (UU.out.fr0 F5).at_.cells
        rw [UU.out.like.bl, UU.out.like.hv, HV.out] at k5
        have HF5 := Lib.hid F5
        clear F5
        go_wp2_with (refine wpList_value rfl (exec_load (ty := 78) rfl rfl RY5.out uH rH (by rw [HLY.out]; exact infoHeld)) ?_)
        refine (PUT.out _ HF5.out y hok).mono ?_
        intro e w6 hp
        obtain ⟨rfl, g2, U2⟩ := (UU.out.fr0 HF5.out).step h0 (by rw [HQ.out]; exact HY.out) HBF.out WLT.out hp
        have HU2 := Lib.hid U2
        clear U2 hp
        go_wp2
        go_roundw
        case rel => exact ⟨(n - 1) / 2, g2, by go_num, HU2.out⟩
        case measure => simp [intOf]; omega
      | false =>
        have HBF := Lib.hid hbf
        clear hbf
        have i4 : (q : Int) < (g.H.length : Int) := by omega
        go_wp2
        have ew := EW.out
        refine wp_region_lexL [false, false, false, false, false, false, false, false, false, false, false, false, false, true, false] (fun w' => w'.cell? ⟨g.bl, 0, none⟩ = some (.slice (some ⟨gb, 0, none⟩) g.H.length cap) ∧ w'.rangeAt w.heap.size 0 (heldC h) ∧ w'.rangeAt gb (q * 35) (heldC y)) (by kernel_rfl) (by kernel_rfl) ?_ (fun K hK => ?_)
        · exact ⟨k0, range_keep HB.out (Fr.refl No _).drew id, range_keep RY.out (Fr.refl No _).drew id⟩
        repeat (first | ((first | with_reducible refine lexL_read ?_ | ((with_reducible refine lexL_readG ?_ ?_); (focus rfl))); apply Exists.intro; refine ⟨?_, ?_⟩; (focus (first | exact lex_load (ty := 78) rfl (fun w h => h.2.1) uH rH (by rw [HL.out]; exact infoHeld) | exact lex_load (ty := 78) rfl (fun w h => h.2.2) uH rH (by rw [HLY.out]; exact infoHeld) | (intro w' hS; obtain ⟨s1, s2, s3⟩ := hS; go_simp; (try with_reducible rfl); done))); try simp only [Act.put, List.setIfInBounds_toArray, List.set_cons_zero, List.set_cons_succ]) | ((first | ((with_reducible refine lexL_skip (c := false) ?_ ?_ ?_); (focus rfl); (focus rfl)) | ((with_reducible refine lexL_skip (c := true) ?_ ?_ ?_); (focus rfl); (focus rfl)) | ((with_reducible refine lexL_skipU ?_ ?_); (focus rfl))); try simp only [Act.put, List.setIfInBounds_toArray, List.set_cons_zero, List.set_cons_succ]))
        (first | with_reducible refine lexL_eff (fun K' hK' => ?_) | ((with_reducible refine lexL_effG ?_ (fun K' hK' => ?_)); (focus rfl)))
        go_simp
        refine (before_any _ h y hh hok).mono ?_
        rintro e w2 ⟨rfl, rfl⟩
        rw [HBF.out]
        refine hK'.out _ _ ?_ (fun hS => ?_)
        · exact ⟨(((Fr.refl No wr).drew.alloc _).alloc _).cell k0 id, range_keep HB.out (((Fr.refl No wr).drew.alloc _).alloc _) id, range_keep RY.out (((Fr.refl No wr).drew.alloc _).alloc _) id⟩
        try simp only [Act.put, List.setIfInBounds_toArray, List.set_cons_zero, List.set_cons_succ]
        repeat (first | ((first | with_reducible refine lexL_read ?_ | ((with_reducible refine lexL_readG ?_ ?_); (focus rfl))); apply Exists.intro; refine ⟨?_, ?_⟩; (focus (first | (intro w' hS; obtain ⟨s1, s2, s3⟩ := hS; go_simp; (try with_reducible rfl); done))); try simp only [Act.put, List.setIfInBounds_toArray, List.set_cons_zero, List.set_cons_succ]) | ((first | ((with_reducible refine lexL_skip (c := false) ?_ ?_ ?_); (focus rfl); (focus rfl)) | ((with_reducible refine lexL_skip (c := true) ?_ ?_ ?_); (focus rfl); (focus rfl)) | ((with_reducible refine lexL_skipU ?_ ?_); (focus rfl))); try simp only [Act.put, List.setIfInBounds_toArray, List.set_cons_zero, List.set_cons_succ]))
        refine lexL_nil (hK.out _ _ ?_)
        clear ew
        have F5 : Fr No wr ((wr.drew.alloc (.cells (heldC h).toArray 78)).alloc (.cells (heldC y).toArray 78)) := by (repeat (first | with_reducible exact Fr.refl _ _ | with_reducible assumption | with_reducible refine Fr.drew ?_ | with_reducible refine Fr.drewN ?_ _ | with_reducible refine Fr.alloc ?_ _ | with_reducible refine Fr.setCell ?_ _ (.inl (by simp <;> omega)) _))
        generalize ((wr.drew.alloc (.cells (heldC h).toArray 78)).alloc (.cells (heldC y).toArray 78)) = w5 at *
        have HB5 := Lib.hid (range_keep HB.out F5 id)
        have HF5 := Lib.hid F5
        clear F5
        go_wp2_with (refine wpList_value rfl (exec_load (ty := 78) rfl rfl HB5.out uH rH (by rw [HL.out]; exact infoHeld)) ?_)
        refine (PUT.out _ HF5.out h hh).mono ?_
        intro e w6 hp
        have up : UpOk beforeB n (g'.H.set n h) := fun x p _ hx hq => by
          have l1 : n < g'.H.length := by rw [UU.out.like.len]; exact hlt
          rw [List.getElem?_set_self l1] at hx
          cases hx
          rw [HQ.out, List.getElem?_set_ne (by have := HQ.out; omega), HY.out] at hq
          cases hq
          exact HBF.out
        have FIN := (UU.out.fr0 HF5.out).done up hp
        obtain rfl := FIN.1
        have FIN := Lib.hid FIN
        clear up hp
        go_wp2
        go_end0
        exact FIN.out
    · have h00 : n = 0 := by omega
      subst h00
      have ro2 := U.ml
      have ro3 := ROOM.out
      have hp := fun (W : World) (f : Fr No wr W) => put_any W g' 0 h (U.at_.keep0 f) (by rw [U.like.len]; exact hlt) hh (by omega)
      rw [U.like.bl] at hp
      have PUT := Lib.hid hp
      have UU := Lib.hid U
      have HB := Lib.hid hbox
      clear hp U hbox ro2 ro3
      go_wp2
      refine wp_region_lexL [false, false, false, false, false, false, false, false, false, false, false, false, false, true, false] (fun _ => True) (by kernel_rfl) (by kernel_rfl) ?_ (fun K hK => ?_)
      · trivial
      repeat (first | ((first | with_reducible refine lexL_read ?_ | ((with_reducible refine lexL_readG ?_ ?_); (focus rfl))); apply Exists.intro; refine ⟨?_, ?_⟩; (focus (first | (intro w' hS; obtain _ := hS; go_simp; (try with_reducible rfl); done))); try simp only [Act.put, List.setIfInBounds_toArray, List.set_cons_zero, List.set_cons_succ]) | ((first | ((with_reducible refine lexL_skip (c := false) ?_ ?_ ?_); (focus rfl); (focus rfl)) | ((with_reducible refine lexL_skip (c := true) ?_ ?_ ?_); (focus rfl); (focus rfl)) | ((with_reducible refine lexL_skipU ?_ ?_); (focus rfl))); try simp only [Act.put, List.setIfInBounds_toArray, List.set_cons_zero, List.set_cons_succ]))
      refine lexL_nil (hK.out _ _ ?_)
      have F5 : Fr No wr wr.drew := by (repeat (first | with_reducible exact Fr.refl _ _ | with_reducible assumption | with_reducible refine Fr.drew ?_ | with_reducible refine Fr.drewN ?_ _ | with_reducible refine Fr.alloc ?_ _ | with_reducible refine Fr.setCell ?_ _ (.inl (by simp <;> omega)) _))
      have HB5 := Lib.hid (range_keep HB.out F5 id)
      have HF5 := Lib.hid F5
      clear F5
      go_wp2_with (refine wpList_value rfl (exec_load (ty := 78) rfl rfl HB5.out uH rH (by rw [HL.out]; exact infoHeld)) ?_)
      refine (PUT.out _ HF5.out).mono ?_
      intro e w6 hp
      have FIN := (UU.out.fr0 HF5.out).done (fun x p h0 _ _ => absurd h0 (by omega)) hp
      obtain rfl := FIN.1
      have FIN := Lib.hid FIN
      clear hp
      go_wp2
      go_end0
      exact FIN.out
end Go.Proofs.YthmaekkjpginoaaDoor
