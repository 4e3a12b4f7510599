/- embargo: down. -/
import Derived.Test.YthmaekkjpginoaaDoorEmbU
namespace Go.Proofs.YthmaekkjpginoaaDoor
open Go Go.RowKit Go.Maps Go.MapKept Go.Sort

/-- What down leaves. -/
def DownDone (w : World) (g : CkG) (e : Ending) (w' : World) : Prop :=
  e = .returned (.tuple #[]) ∧ ∃ (g' : CkG), g.Like g' ∧ CkAt w' g' ∧ g'.H.Perm g.H ∧ Rep HeldD.k g'.H g'.M ∧ HeapOk beforeB g'.H ∧ g'.M.length ≤ g.M.length + g.H.length ∧ Fr g.W w w'

/-- At the head of down's loop: the hole is at n. -/
structure DownInv (w : World) (g : CkG) (i : Nat) (h : HeldD) (wr : World) (g' : CkG) (n : Nat) : Prop where
  like : g.Like g'
  at_ : CkAt wr g'
  lt : n < g.H.length
  perm : (g'.H.set n h).Perm g.H
  heap : HeapAt beforeB n (g'.H.set n h)
  up : UpOk beforeB n (g'.H.set n h)
  rep : RepBut HeldD.k n (g'.H.set n h) g'.M
  ml : g'.M.length + i ≤ g.M.length + n
  fr : Fr g.W w wr
  box : wr.rangeAt w.heap.size 0 (heldC h)
theorem DownInv.fr0 {w wr wr' : World} {g g' : CkG} {i n : Nat} {h : HeldD} (U : DownInv w g i h wr g' n) (f : Fr No wr wr') : DownInv w g i h wr' g' n :=
  { U with at_ := U.at_.keep0 f, fr := U.fr.trans0 f, box := range_keep U.box f id }
theorem DownInv.done {w wr w' : World} {g g' : CkG} {i n : Nat} {h : HeldD} {e : Ending} (U : DownInv w g i h wr g' n) (dn : DownOk beforeB n (g'.H.set n h)) (P : PutOk wr g' n h e w') : DownDone w g e w' := by
  obtain ⟨rfl, M', hc, hU, hl, f⟩ := P
  refine ⟨rfl, { g' with H := g'.H.set n h, M := M' }, ⟨U.like.bl, U.like.bm, U.like.hv, U.like.sq, by simpa using U.like.len⟩, hc, U.perm, ?_, U.heap.ok U.up dn, ?_, ?_⟩
  · exact U.rep.settle (by simp [U.like.len, U.lt]) hU
  · show M'.length ≤ _
    have := U.ml
    have := U.lt
    omega
  · rw [U.like.W] at f
    exact U.fr.trans f (fun _ _ h => h)
theorem DownInv.step {w wr w' : World} {g g' : CkG} {i n k : Nat} {h y : HeldD} {e : Ending} (U : DownInv w g i h wr g' n) (h0 : 0 < k) (hk : (k - 1) / 2 = n) (hy : g'.H[k]? = some y) (hl : beforeB y h = true) (hs : ∀ s x, 0 < s → (s - 1) / 2 = n → g'.H[s]? = some x → beforeB x y = false) (hbox : ∀ k, g.W k → k < w.heap.size) (P : PutOk wr g' n y e w') :
    e = .returned (.tuple #[]) ∧ ∃ g2, DownInv w g i h w' g2 k := by
  obtain ⟨rfl, M', hc, hU, hml, f⟩ := P
  have li : n < g'.H.length := by rw [U.like.len]; exact U.lt
  have hi : (g'.H.set n h)[n]? = some h := by simp [li]
  have hp : (g'.H.set n h)[k]? = some y := by rw [List.getElem?_set_ne (by omega)]; exact hy
  have e1 : (g'.H.set n y).set k h = ((g'.H.set n h).set n y).set k h := by rw [List.set_set]
  have lk := (List.getElem?_eq_some_iff.1 hy).1
  rw [U.like.len] at lk
  obtain ⟨a1, a2⟩ := U.heap.down swoB h0 hk hi hp hl (fun s x s0 se hx => hs s x s0 se (by rw [List.getElem?_set_ne (by omega)] at hx; exact hx))
  refine ⟨rfl, { g' with H := g'.H.set n y, M := M' }, ⟨U.like.bl, U.like.bm, U.like.hv, U.like.sq, by simpa using U.like.len⟩, hc, lk, ?_, ?_, ?_, ?_, ?_, ?_, ?_⟩
  · show ((g'.H.set n y).set k h).Perm g.H
    rw [e1]
    exact (swap_perm hi hp).trans U.perm
  · show HeapAt beforeB _ ((g'.H.set n y).set k h)
    rw [e1]; exact a1
  · show UpOk beforeB _ ((g'.H.set n y).set k h)
    rw [e1]; exact a2
  · show RepBut HeldD.k _ ((g'.H.set n y).set k h) M'
    rw [e1]
    exact U.rep.move (by omega) hi hp hU
  · show M'.length + _ ≤ _
    have := U.ml
    omega
  · rw [U.like.W] at f
    exact U.fr.trans f (fun _ _ h => h)
  · exact range_keep U.box f (fun e => by rw [U.like.W] at e; have := hbox _ e; omega)

set_option maxRecDepth 20000 in
set_option maxHeartbeats 4000000 in
theorem down_any (w : World) (g : CkG) (i : Nat) (h : HeldD) (hc : CkAt w g) (hi : g.H[i]? = some h) (hA : HeapAt beforeB i g.H) (hU : UpOk beforeB i g.H) (hR : Rep HeldD.k g.H g.M) (room : g.M.length + g.H.length < maxLen) (hlen : g.H.length ≤ 1000000) :
    Calls Tryd.prog 36 #[.pointer (some ⟨g.bl, 0, none⟩), .int .i64 i] w (DownDone w g) := by
  obtain ⟨gb, cap, hv, hr, hgl⟩ := hc.at_ hi
  obtain ⟨dH, uH, rH⟩ := descHeld
  obtain ⟨c0, c1, c2⟩ := hc.cells
  rw [hv] at c0
  have hh := hc.ok h (List.mem_of_getElem? hi)
  have hl := heldC_len hh
  have hil := (List.getElem?_eq_some_iff.1 hi).1
  have i1 : (i : Int) < (g.H.length : Int) := by omega
  have hlm : (g.H.length : Int) ≤ 1000000 := by omega
  have ROOM := Lib.hid room
  have f1 : Fr No w (w.alloc (.cells (heldC h).toArray 78)) := by (repeat (first | with_reducible exact Fr.refl _ _ | with_reducible assumption | with_reducible refine Fr.drew ?_ | with_reducible refine Fr.drewN ?_ _ | with_reducible refine Fr.alloc ?_ _ | with_reducible refine Fr.setCell ?_ _ (.inl (by simp <;> omega)) _))
  have hset : g.H.set i h = g.H := set_same hi
  have INV := Lib.hid (show DownInv w g i h (w.alloc (.cells (heldC h).toArray 78)) g i from
    { like := ⟨rfl, rfl, rfl, rfl, rfl⟩, at_ := hc.keep0 f1, lt := hil, perm := by rw [hset], heap := by rw [hset]; exact hA, up := by rw [hset]; exact hU, rep := by rw [hset]; exact hR.but hc.hm.nodup i, ml := Nat.le_refl _, fr := f1.of0, box := range_new w (heldC h) 78 })
  have WLT := Lib.hid hc.wlt
  have HL := Lib.hid hl
  have HR := Lib.hid hr
  have HI := Lib.hid hi
  have HV := Lib.hid hv
  clear hl hr hi hv hc hset hA hU hR room f1
  go_enter Tryd.func36, Tryd.ntmps36
  go_wp2_with (first | (refine wpList_value rfl (exec_load (ty := 78) rfl rfl HR.out uH rH (by rw [HL.out]; exact infoHeld)) ?_) | (refine wpList_done rfl (exec_store_new (ty := 78) rfl rfl rfl (by rw [HL.out]; rfl) (by rw [HL.out]; exact infoHeld) heldC_one) ?_))
  go_frame
  go_loopw [1] (fun iv wr => ∃ (n : Nat) (g' : CkG), iv = .int .i64 n ∧ DownInv w g i h wr g' n) (fun iv _ => g.H.length - (intOf iv).toNat)
  case atStart => exact ⟨i, g, rfl, INV.out⟩
  case round =>
    obtain ⟨n, g', rfl, U⟩ := hrel
    obtain ⟨k0, k1, k2⟩ := U.at_.cells
    rw [U.like.bl, U.like.hv, HV.out] at k0
    have hlt := U.lt
    have hbox := U.box
    have i2 : (n : Int) < (g.H.length : Int) := by omega
    obtain ⟨a, ha⟩ : ∃ a : Nat, a = n * 2 + 1 := ⟨_, rfl⟩
    obtain ⟨b, hb⟩ : ∃ b : Nat, b = n * 2 + 2 := ⟨_, rfl⟩
    have e5 : (n : Int) * 2 + 1 = (a : Int) := by omega
    have ewb : IntKind.i64.wrap ((a : Int) + 1) = (b : Int) := by rw [IntWalk.i64_in _ (by omega)]; omega
    have e6 : (a : Int) + 1 = (b : Int) := by omega
    have HA := Lib.hid ha
    have HB2 := Lib.hid hb
    have E5 := Lib.hid e5
    have EWB := Lib.hid ewb
    have E6 := Lib.hid e6
    have hn1 : n + 1 < g.H.length → True := fun _ => trivial
    have ro2 := U.ml
    have ro3 := ROOM.out
    have PUT := Lib.hid (fun (W : World) (f : Fr No wr W) (x : HeldD) (hx : x.ok) => by
      have hp := put_any W g' n x (U.at_.keep0 f) (by rw [U.like.len]; exact hlt) hx (by omega)
      rw [U.like.bl] at hp
      exact hp)
    clear ro2 ro3 ewb e5 e6 hn1
    have ELEM : ∀ {k : Nat} {y : HeldD}, g'.H[k]? = some y → wr.rangeAt gb (k * 35) (heldC y) := fun {k y} hy => by
      obtain ⟨gb2, cap2, hv2, hry, -⟩ := U.at_.at_ hy
      rw [U.like.hv, HV.out] at hv2
      injection hv2 with e1 e2 e3
      injection e1 with e1
      injection e1 with e1
      subst e1
      exact hry
    have ELEM := Lib.hid (fun (k : Nat) (y : HeldD) (hy : g'.H[k]? = some y) => ELEM hy)
    have UU := Lib.hid U
    have HB := Lib.hid hbox
    by_cases hal : a < g.H.length
    · have j1 : (a : Int) < (g.H.length : Int) := by omega
      have hya : g'.H[a]? = some (g'.H[a]'(by rw [U.like.len]; exact hal)) := List.getElem?_eq_getElem _
      have oka := U.at_.ok _ (List.mem_of_getElem? hya)
      generalize (g'.H[a]'(by rw [U.like.len]; exact hal)) = ya at *
      have HYA := Lib.hid hya
      have LA := Lib.hid (heldC_len oka)
      clear hya
      by_cases hbl : b < g.H.length
      · have j2 : (b : Int) < (g.H.length : Int) := by omega
        have hyb : g'.H[b]? = some (g'.H[b]'(by rw [U.like.len]; exact hbl)) := List.getElem?_eq_getElem _
        have okb := U.at_.ok _ (List.mem_of_getElem? hyb)
        generalize (g'.H[b]'(by rw [U.like.len]; exact hbl)) = yb at *
        have HYB := Lib.hid hyb
        have LB := Lib.hid (heldC_len okb)
        clear hyb U hbox ha hb
        cases hbf : beforeB yb ya with
        | true =>
          have HBF := Lib.hid hbf
          clear hbf
          go_wp2
          rw [E5.out]
          have ewb := EWB.out
          refine wp_region_lexL [false, false, false, false, false, false, false, false, false, false, false, false, false, false, false, false, false, false, false, false, false, false, false, false, true, false] (fun w' => w'.cell? ⟨g.bl, 0, none⟩ = some (.slice (some ⟨gb, 0, none⟩) g.H.length cap) ∧ w'.rangeAt gb (b * 35) (heldC yb) ∧ w'.rangeAt gb (a * 35) (heldC ya)) (by kernel_rfl) (by kernel_rfl) ?_ (fun K hK => ?_)
          · exact ⟨k0, range_keep (ELEM.out _ _ HYB.out) (Fr.refl No _).drew id, range_keep (ELEM.out _ _ HYA.out) (Fr.refl No _).drew id⟩
          repeat (first | ((first | with_reducible refine lexL_read ?_ | ((with_reducible refine lexL_readG ?_ ?_); (focus rfl))); apply Exists.intro; refine ⟨?_, ?_⟩; (focus (first | exact lex_load (ty := 78) rfl (fun w h => h.2.1) uH rH (by rw [LB.out]; exact infoHeld) | exact lex_load (ty := 78) rfl (fun w h => h.2.2) uH rH (by rw [LA.out]; exact infoHeld) | (intro w' hS; obtain ⟨s1, s2, s3⟩ := hS; go_simp; (try with_reducible rfl); done))); try simp only [Act.put, List.setIfInBounds_toArray, List.set_cons_zero, List.set_cons_succ]) | ((first | ((with_reducible refine lexL_skip (c := false) ?_ ?_ ?_); (focus rfl); (focus rfl)) | ((with_reducible refine lexL_skip (c := true) ?_ ?_ ?_); (focus rfl); (focus rfl)) | ((with_reducible refine lexL_skipU ?_ ?_); (focus rfl))); try simp only [Act.put, List.setIfInBounds_toArray, List.set_cons_zero, List.set_cons_succ]))
          (first | with_reducible refine lexL_eff (fun K' hK' => ?_) | ((with_reducible refine lexL_effG ?_ (fun K' hK' => ?_)); (focus rfl)))
          go_simp
          refine (before_any _ yb ya okb oka).mono ?_
          rintro e w2 ⟨rfl, rfl⟩
          rw [HBF.out]
          refine hK'.out _ _ ?_ (fun hS => ?_)
          · exact ⟨(((Fr.refl No wr).drew.alloc _).alloc _).cell k0 id, range_keep (ELEM.out _ _ HYB.out) (((Fr.refl No wr).drew.alloc _).alloc _) id, range_keep (ELEM.out _ _ HYA.out) (((Fr.refl No wr).drew.alloc _).alloc _) id⟩
          try simp only [Act.put, List.setIfInBounds_toArray, List.set_cons_zero, List.set_cons_succ]
          repeat (first | ((first | with_reducible refine lexL_read ?_ | ((with_reducible refine lexL_readG ?_ ?_); (focus rfl))); apply Exists.intro; refine ⟨?_, ?_⟩; (focus (first | (intro w' hS; obtain ⟨s1, s2, s3⟩ := hS; go_simp; (try with_reducible rfl); done))); try simp only [Act.put, List.setIfInBounds_toArray, List.set_cons_zero, List.set_cons_succ]) | ((first | ((with_reducible refine lexL_skip (c := false) ?_ ?_ ?_); (focus rfl); (focus rfl)) | ((with_reducible refine lexL_skip (c := true) ?_ ?_ ?_); (focus rfl); (focus rfl)) | ((with_reducible refine lexL_skipU ?_ ?_); (focus rfl))); try simp only [Act.put, List.setIfInBounds_toArray, List.set_cons_zero, List.set_cons_succ]))
          refine lexL_nil (hK.out _ _ ?_)
          clear ewb
          have F5 : Fr No wr ((wr.drew.alloc (.cells (heldC yb).toArray 78)).alloc (.cells (heldC ya).toArray 78)) := by (repeat (first | with_reducible exact Fr.refl _ _ | with_reducible assumption | with_reducible refine Fr.drew ?_ | with_reducible refine Fr.drewN ?_ _ | with_reducible refine Fr.alloc ?_ _ | with_reducible refine Fr.setCell ?_ _ (.inl (by simp <;> omega)) _))
          generalize ((wr.drew.alloc (.cells (heldC yb).toArray 78)).alloc (.cells (heldC ya).toArray 78)) = w5 at *
          have F5 := Lib.hid F5
          have hs : ∀ s x, 0 < s → (s - 1) / 2 = n → g'.H[s]? = some x → beforeB x yb = false := fun s x s0 se hx => by
            have h1 := HA.out
            have h2 := HB2.out
            rcases (show s = a ∨ s = b by omega) with rfl | rfl
            · rw [HYA.out] at hx; cases hx; exact asymm' swoB HBF.out
            · rw [HYB.out] at hx; cases hx; exact swoB.irrefl _
          have HS := Lib.hid hs
          clear hs
          go_wp2
          rw [E6.out]
          obtain ⟨k5, -, -⟩ := (UU.out.fr0 F5.out).at_.cells
          rw [UU.out.like.bl, UU.out.like.hv, HV.out] at k5
          cases hbf2 : beforeB yb h with
          | true =>
            have HBF2 := Lib.hid hbf2
            clear hbf2
            have gq : decide (g.H.length ≤ b) = false := decide_eq_false (by omega)
            refine wp_region_lexL [false, false, false, false, false, false, false, false, false, false, false, false, false, false, false, false, true, false, false] (fun w' => w'.cell? ⟨g.bl, 0, none⟩ = some (.slice (some ⟨gb, 0, none⟩) g.H.length cap) ∧ w'.rangeAt gb (b * 35) (heldC yb) ∧ w'.rangeAt w.heap.size 0 (heldC h)) (by kernel_rfl) (by kernel_rfl) ?_ (fun K hK => ?_)
            · exact ⟨k5, range_keep (ELEM.out _ _ HYB.out) F5.out.drew id, range_keep HB.out F5.out.drew id⟩
            repeat (first | ((first | with_reducible refine lexL_read ?_ | ((with_reducible refine lexL_readG ?_ ?_); (focus rfl))); apply Exists.intro; refine ⟨?_, ?_⟩; (focus (first | exact lex_load (ty := 78) rfl (fun w h => h.2.1) uH rH (by rw [LB.out]; exact infoHeld) | exact lex_load (ty := 78) rfl (fun w h => h.2.2) uH rH (by rw [HL.out]; exact infoHeld) | (intro w' hS; obtain ⟨s1, s2, s3⟩ := hS; go_simp; (try with_reducible rfl); done))); try simp only [Act.put, List.setIfInBounds_toArray, List.set_cons_zero, List.set_cons_succ]) | ((first | ((with_reducible refine lexL_skip (c := false) ?_ ?_ ?_); (focus rfl); (focus rfl)) | ((with_reducible refine lexL_skip (c := true) ?_ ?_ ?_); (focus rfl); (focus rfl)) | ((with_reducible refine lexL_skipU ?_ ?_); (focus rfl))); try simp only [Act.put, List.setIfInBounds_toArray, List.set_cons_zero, List.set_cons_succ]))
            (first | with_reducible refine lexL_eff (fun K' hK' => ?_) | ((with_reducible refine lexL_effG ?_ (fun K' hK' => ?_)); (focus rfl)))
            go_simp
            refine (before_any _ yb h okb hh).mono ?_
            rintro e w2 ⟨rfl, rfl⟩
            rw [HBF2.out]
            refine hK'.out _ _ ?_ (fun hS => ?_)
            · exact ⟨(((Fr.refl No w5).drew.alloc _).alloc _).cell k5 id, range_keep (ELEM.out _ _ HYB.out) ((F5.out.drew.alloc _).alloc _) id, range_keep HB.out ((F5.out.drew.alloc _).alloc _) id⟩
            try simp only [Act.put, List.setIfInBounds_toArray, List.set_cons_zero, List.set_cons_succ]
            repeat (first | ((first | with_reducible refine lexL_read ?_ | ((with_reducible refine lexL_readG ?_ ?_); (focus rfl))); apply Exists.intro; refine ⟨?_, ?_⟩; (focus (first | (intro w' hS; obtain ⟨s1, s2, s3⟩ := hS; go_simp; (try with_reducible rfl); done))); try simp only [Act.put, List.setIfInBounds_toArray, List.set_cons_zero, List.set_cons_succ]) | ((first | ((with_reducible refine lexL_skip (c := false) ?_ ?_ ?_); (focus rfl); (focus rfl)) | ((with_reducible refine lexL_skip (c := true) ?_ ?_ ?_); (focus rfl); (focus rfl)) | ((with_reducible refine lexL_skipU ?_ ?_); (focus rfl))); try simp only [Act.put, List.setIfInBounds_toArray, List.set_cons_zero, List.set_cons_succ]))
            refine lexL_nil (hK.out _ _ ?_)
            clear k5 gq
            have F6 : Fr No wr ((w5.drew.alloc (.cells (heldC yb).toArray 78)).alloc (.cells (heldC h).toArray 78)) := (F5.out.drew.alloc _).alloc _
            generalize ((w5.drew.alloc (.cells (heldC yb).toArray 78)).alloc (.cells (heldC h).toArray 78)) = w6 at *
            have RY6 := Lib.hid (range_keep (ELEM.out _ _ HYB.out) F6 id)
            obtain ⟨k6, -, -⟩ := (UU.out.fr0 F6).at_.cells
            rw [UU.out.like.bl, UU.out.like.hv, HV.out] at k6
            have HF6 := Lib.hid F6
            clear F6
            go_wp2_with (refine wpList_value rfl (exec_load (ty := 78) rfl rfl RY6.out uH rH (by rw [LB.out]; exact infoHeld)) ?_)
            refine (PUT.out _ HF6.out yb okb).mono ?_
            intro e w7 hp
            obtain ⟨rfl, g2, U2⟩ := (UU.out.fr0 HF6.out).step (k := b) (by have := HA.out; have := HB2.out; omega) (by have := HA.out; have := HB2.out; omega) HYB.out HBF2.out HS.out WLT.out hp
            have HU2 := Lib.hid U2
            clear U2 hp
            have hm1 := HA.out
            have hm2 := HB2.out
            have HM := Lib.hid (show n < b by omega)
            clear hm1 hm2
            go_wp2
            go_roundw
            case rel => exact ⟨b, g2, by go_num, HU2.out⟩
            case measure => simp [intOf]; have := HM.out; omega
          | false =>
            have HBF2 := Lib.hid hbf2
            clear hbf2
            have gq : decide (g.H.length ≤ b) = false := decide_eq_false (by omega)
            refine wp_region_lexL [false, false, false, false, false, false, false, false, false, false, false, false, false, false, false, false, true, false, false] (fun w' => w'.cell? ⟨g.bl, 0, none⟩ = some (.slice (some ⟨gb, 0, none⟩) g.H.length cap) ∧ w'.rangeAt gb (b * 35) (heldC yb) ∧ w'.rangeAt w.heap.size 0 (heldC h)) (by kernel_rfl) (by kernel_rfl) ?_ (fun K hK => ?_)
            · exact ⟨k5, range_keep (ELEM.out _ _ HYB.out) F5.out.drew id, range_keep HB.out F5.out.drew id⟩
            repeat (first | ((first | with_reducible refine lexL_read ?_ | ((with_reducible refine lexL_readG ?_ ?_); (focus rfl))); apply Exists.intro; refine ⟨?_, ?_⟩; (focus (first | exact lex_load (ty := 78) rfl (fun w h => h.2.1) uH rH (by rw [LB.out]; exact infoHeld) | exact lex_load (ty := 78) rfl (fun w h => h.2.2) uH rH (by rw [HL.out]; exact infoHeld) | (intro w' hS; obtain ⟨s1, s2, s3⟩ := hS; go_simp; (try with_reducible rfl); done))); try simp only [Act.put, List.setIfInBounds_toArray, List.set_cons_zero, List.set_cons_succ]) | ((first | ((with_reducible refine lexL_skip (c := false) ?_ ?_ ?_); (focus rfl); (focus rfl)) | ((with_reducible refine lexL_skip (c := true) ?_ ?_ ?_); (focus rfl); (focus rfl)) | ((with_reducible refine lexL_skipU ?_ ?_); (focus rfl))); try simp only [Act.put, List.setIfInBounds_toArray, List.set_cons_zero, List.set_cons_succ]))
            (first | with_reducible refine lexL_eff (fun K' hK' => ?_) | ((with_reducible refine lexL_effG ?_ (fun K' hK' => ?_)); (focus rfl)))
            go_simp
            refine (before_any _ yb h okb hh).mono ?_
            rintro e w2 ⟨rfl, rfl⟩
            rw [HBF2.out]
            refine hK'.out _ _ ?_ (fun hS => ?_)
            · exact ⟨(((Fr.refl No w5).drew.alloc _).alloc _).cell k5 id, range_keep (ELEM.out _ _ HYB.out) ((F5.out.drew.alloc _).alloc _) id, range_keep HB.out ((F5.out.drew.alloc _).alloc _) id⟩
            try simp only [Act.put, List.setIfInBounds_toArray, List.set_cons_zero, List.set_cons_succ]
            repeat (first | ((first | with_reducible refine lexL_read ?_ | ((with_reducible refine lexL_readG ?_ ?_); (focus rfl))); apply Exists.intro; refine ⟨?_, ?_⟩; (focus (first | (intro w' hS; obtain ⟨s1, s2, s3⟩ := hS; go_simp; (try with_reducible rfl); done))); try simp only [Act.put, List.setIfInBounds_toArray, List.set_cons_zero, List.set_cons_succ]) | ((first | ((with_reducible refine lexL_skip (c := false) ?_ ?_ ?_); (focus rfl); (focus rfl)) | ((with_reducible refine lexL_skip (c := true) ?_ ?_ ?_); (focus rfl); (focus rfl)) | ((with_reducible refine lexL_skipU ?_ ?_); (focus rfl))); try simp only [Act.put, List.setIfInBounds_toArray, List.set_cons_zero, List.set_cons_succ]))
            refine lexL_nil (hK.out _ _ ?_)
            clear k5 gq
            have F6 : Fr No wr ((w5.drew.alloc (.cells (heldC yb).toArray 78)).alloc (.cells (heldC h).toArray 78)) := (F5.out.drew.alloc _).alloc _
            generalize ((w5.drew.alloc (.cells (heldC yb).toArray 78)).alloc (.cells (heldC h).toArray 78)) = w6 at *
            have dn : DownOk beforeB n (g'.H.set n h) := fun s x z s0 se hx hz => by
              have l1 : n < g'.H.length := by rw [UU.out.like.len]; exact hlt
              rw [List.getElem?_set_self l1] at hz
              cases hz
              rw [List.getElem?_set_ne (by omega)] at hx
              exact swoB.ntrans _ _ _ (HS.out s x s0 se hx) HBF2.out
            have HB6 := Lib.hid (range_keep HB.out F6 id)
            have HF6 := Lib.hid F6
            have DN := Lib.hid dn
            clear F6 dn
            go_wp2_with (refine wpList_value rfl (exec_load (ty := 78) rfl rfl HB6.out uH rH (by rw [HL.out]; exact infoHeld)) ?_)
            refine (PUT.out _ HF6.out h hh).mono ?_
            intro e w7 hp
            have FIN := (UU.out.fr0 HF6.out).done DN.out hp
            obtain rfl := FIN.1
            have FIN := Lib.hid FIN
            clear hp
            go_wp2
            go_end0
            exact FIN.out
        | false =>
          have HBF := Lib.hid hbf
          clear hbf
          go_wp2
          rw [E5.out]
          have ewb := EWB.out
          refine wp_region_lexL [false, false, false, false, false, false, false, false, false, false, false, false, false, false, false, false, false, false, false, false, false, false, false, false, true, false] (fun w' => w'.cell? ⟨g.bl, 0, none⟩ = some (.slice (some ⟨gb, 0, none⟩) g.H.length cap) ∧ w'.rangeAt gb (b * 35) (heldC yb) ∧ w'.rangeAt gb (a * 35) (heldC ya)) (by kernel_rfl) (by kernel_rfl) ?_ (fun K hK => ?_)
          · exact ⟨k0, range_keep (ELEM.out _ _ HYB.out) (Fr.refl No _).drew id, range_keep (ELEM.out _ _ HYA.out) (Fr.refl No _).drew id⟩
          repeat (first | ((first | with_reducible refine lexL_read ?_ | ((with_reducible refine lexL_readG ?_ ?_); (focus rfl))); apply Exists.intro; refine ⟨?_, ?_⟩; (focus (first | exact lex_load (ty := 78) rfl (fun w h => h.2.1) uH rH (by rw [LB.out]; exact infoHeld) | exact lex_load (ty := 78) rfl (fun w h => h.2.2) uH rH (by rw [LA.out]; exact infoHeld) | (intro w' hS; obtain ⟨s1, s2, s3⟩ := hS; go_simp; (try with_reducible rfl); done))); try simp only [Act.put, List.setIfInBounds_toArray, List.set_cons_zero, List.set_cons_succ]) | ((first | ((with_reducible refine lexL_skip (c := false) ?_ ?_ ?_); (focus rfl); (focus rfl)) | ((with_reducible refine lexL_skip (c := true) ?_ ?_ ?_); (focus rfl); (focus rfl)) | ((with_reducible refine lexL_skipU ?_ ?_); (focus rfl))); try simp only [Act.put, List.setIfInBounds_toArray, List.set_cons_zero, List.set_cons_succ]))
          (first | with_reducible refine lexL_eff (fun K' hK' => ?_) | ((with_reducible refine lexL_effG ?_ (fun K' hK' => ?_)); (focus rfl)))
          go_simp
          refine (before_any _ yb ya okb oka).mono ?_
          rintro e w2 ⟨rfl, rfl⟩
          rw [HBF.out]
          refine hK'.out _ _ ?_ (fun hS => ?_)
          · exact ⟨(((Fr.refl No wr).drew.alloc _).alloc _).cell k0 id, range_keep (ELEM.out _ _ HYB.out) (((Fr.refl No wr).drew.alloc _).alloc _) id, range_keep (ELEM.out _ _ HYA.out) (((Fr.refl No wr).drew.alloc _).alloc _) id⟩
          try simp only [Act.put, List.setIfInBounds_toArray, List.set_cons_zero, List.set_cons_succ]
          repeat (first | ((first | with_reducible refine lexL_read ?_ | ((with_reducible refine lexL_readG ?_ ?_); (focus rfl))); apply Exists.intro; refine ⟨?_, ?_⟩; (focus (first | (intro w' hS; obtain ⟨s1, s2, s3⟩ := hS; go_simp; (try with_reducible rfl); done))); try simp only [Act.put, List.setIfInBounds_toArray, List.set_cons_zero, List.set_cons_succ]) | ((first | ((with_reducible refine lexL_skip (c := false) ?_ ?_ ?_); (focus rfl); (focus rfl)) | ((with_reducible refine lexL_skip (c := true) ?_ ?_ ?_); (focus rfl); (focus rfl)) | ((with_reducible refine lexL_skipU ?_ ?_); (focus rfl))); try simp only [Act.put, List.setIfInBounds_toArray, List.set_cons_zero, List.set_cons_succ]))
          refine lexL_nil (hK.out _ _ ?_)
          clear ewb
          have F5 : Fr No wr ((wr.drew.alloc (.cells (heldC yb).toArray 78)).alloc (.cells (heldC ya).toArray 78)) := by (repeat (first | with_reducible exact Fr.refl _ _ | with_reducible assumption | with_reducible refine Fr.drew ?_ | with_reducible refine Fr.drewN ?_ _ | with_reducible refine Fr.alloc ?_ _ | with_reducible refine Fr.setCell ?_ _ (.inl (by simp <;> omega)) _))
          generalize ((wr.drew.alloc (.cells (heldC yb).toArray 78)).alloc (.cells (heldC ya).toArray 78)) = w5 at *
          have F5 := Lib.hid F5
          have hs : ∀ s x, 0 < s → (s - 1) / 2 = n → g'.H[s]? = some x → beforeB x ya = false := fun s x s0 se hx => by
            have h1 := HA.out
            have h2 := HB2.out
            rcases (show s = a ∨ s = b by omega) with rfl | rfl
            · rw [HYA.out] at hx; cases hx; exact swoB.irrefl _
            · rw [HYB.out] at hx; cases hx; exact HBF.out
          have HS := Lib.hid hs
          clear hs
          go_wp2
          obtain ⟨k5, -, -⟩ := (UU.out.fr0 F5.out).at_.cells
          rw [UU.out.like.bl, UU.out.like.hv, HV.out] at k5
          cases hbf2 : beforeB ya h with
          | true =>
            have HBF2 := Lib.hid hbf2
            clear hbf2
            have gq : decide (g.H.length ≤ a) = false := decide_eq_false (by omega)
            refine wp_region_lexL [false, false, false, false, false, false, false, false, false, false, false, false, false, false, false, false, true, false, false] (fun w' => w'.cell? ⟨g.bl, 0, none⟩ = some (.slice (some ⟨gb, 0, none⟩) g.H.length cap) ∧ w'.rangeAt gb (a * 35) (heldC ya) ∧ w'.rangeAt w.heap.size 0 (heldC h)) (by kernel_rfl) (by kernel_rfl) ?_ (fun K hK => ?_)
            · exact ⟨k5, range_keep (ELEM.out _ _ HYA.out) F5.out.drew id, range_keep HB.out F5.out.drew id⟩
            repeat (first | ((first | with_reducible refine lexL_read ?_ | ((with_reducible refine lexL_readG ?_ ?_); (focus rfl))); apply Exists.intro; refine ⟨?_, ?_⟩; (focus (first | exact lex_load (ty := 78) rfl (fun w h => h.2.1) uH rH (by rw [LA.out]; exact infoHeld) | exact lex_load (ty := 78) rfl (fun w h => h.2.2) uH rH (by rw [HL.out]; exact infoHeld) | (intro w' hS; obtain ⟨s1, s2, s3⟩ := hS; go_simp; (try with_reducible rfl); done))); try simp only [Act.put, List.setIfInBounds_toArray, List.set_cons_zero, List.set_cons_succ]) | ((first | ((with_reducible refine lexL_skip (c := false) ?_ ?_ ?_); (focus rfl); (focus rfl)) | ((with_reducible refine lexL_skip (c := true) ?_ ?_ ?_); (focus rfl); (focus rfl)) | ((with_reducible refine lexL_skipU ?_ ?_); (focus rfl))); try simp only [Act.put, List.setIfInBounds_toArray, List.set_cons_zero, List.set_cons_succ]))
            (first | with_reducible refine lexL_eff (fun K' hK' => ?_) | ((with_reducible refine lexL_effG ?_ (fun K' hK' => ?_)); (focus rfl)))
            go_simp
            refine (before_any _ ya h oka hh).mono ?_
            rintro e w2 ⟨rfl, rfl⟩
            rw [HBF2.out]
            refine hK'.out _ _ ?_ (fun hS => ?_)
            · exact ⟨(((Fr.refl No w5).drew.alloc _).alloc _).cell k5 id, range_keep (ELEM.out _ _ HYA.out) ((F5.out.drew.alloc _).alloc _) id, range_keep HB.out ((F5.out.drew.alloc _).alloc _) id⟩
            try simp only [Act.put, List.setIfInBounds_toArray, List.set_cons_zero, List.set_cons_succ]
            repeat (first | ((first | with_reducible refine lexL_read ?_ | ((with_reducible refine lexL_readG ?_ ?_); (focus rfl))); apply Exists.intro; refine ⟨?_, ?_⟩; (focus (first | (intro w' hS; obtain ⟨s1, s2, s3⟩ := hS; go_simp; (try with_reducible rfl); done))); try simp only [Act.put, List.setIfInBounds_toArray, List.set_cons_zero, List.set_cons_succ]) | ((first | ((with_reducible refine lexL_skip (c := false) ?_ ?_ ?_); (focus rfl); (focus rfl)) | ((with_reducible refine lexL_skip (c := true) ?_ ?_ ?_); (focus rfl); (focus rfl)) | ((with_reducible refine lexL_skipU ?_ ?_); (focus rfl))); try simp only [Act.put, List.setIfInBounds_toArray, List.set_cons_zero, List.set_cons_succ]))
            refine lexL_nil (hK.out _ _ ?_)
            clear k5 gq
            have F6 : Fr No wr ((w5.drew.alloc (.cells (heldC ya).toArray 78)).alloc (.cells (heldC h).toArray 78)) := (F5.out.drew.alloc _).alloc _
            generalize ((w5.drew.alloc (.cells (heldC ya).toArray 78)).alloc (.cells (heldC h).toArray 78)) = w6 at *
            have RY6 := Lib.hid (range_keep (ELEM.out _ _ HYA.out) F6 id)
            obtain ⟨k6, -, -⟩ := (UU.out.fr0 F6).at_.cells
            rw [UU.out.like.bl, UU.out.like.hv, HV.out] at k6
            have HF6 := Lib.hid F6
            clear F6
            go_wp2_with (refine wpList_value rfl (exec_load (ty := 78) rfl rfl RY6.out uH rH (by rw [LA.out]; exact infoHeld)) ?_)
            refine (PUT.out _ HF6.out ya oka).mono ?_
            intro e w7 hp
            obtain ⟨rfl, g2, U2⟩ := (UU.out.fr0 HF6.out).step (k := a) (by have := HA.out; have := HB2.out; omega) (by have := HA.out; have := HB2.out; omega) HYA.out HBF2.out HS.out WLT.out hp
            have HU2 := Lib.hid U2
            clear U2 hp
            have hm1 := HA.out
            have hm2 := HB2.out
            have HM := Lib.hid (show n < a by omega)
            clear hm1 hm2
            go_wp2
            go_roundw
            case rel => exact ⟨a, g2, by go_num, HU2.out⟩
            case measure => simp [intOf]; have := HM.out; omega
          | false =>
            have HBF2 := Lib.hid hbf2
            clear hbf2
            have gq : decide (g.H.length ≤ a) = false := decide_eq_false (by omega)
            refine wp_region_lexL [false, false, false, false, false, false, false, false, false, false, false, false, false, false, false, false, true, false, false] (fun w' => w'.cell? ⟨g.bl, 0, none⟩ = some (.slice (some ⟨gb, 0, none⟩) g.H.length cap) ∧ w'.rangeAt gb (a * 35) (heldC ya) ∧ w'.rangeAt w.heap.size 0 (heldC h)) (by kernel_rfl) (by kernel_rfl) ?_ (fun K hK => ?_)
            · exact ⟨k5, range_keep (ELEM.out _ _ HYA.out) F5.out.drew id, range_keep HB.out F5.out.drew id⟩
            repeat (first | ((first | with_reducible refine lexL_read ?_ | ((with_reducible refine lexL_readG ?_ ?_); (focus rfl))); apply Exists.intro; refine ⟨?_, ?_⟩; (focus (first | exact lex_load (ty := 78) rfl (fun w h => h.2.1) uH rH (by rw [LA.out]; exact infoHeld) | exact lex_load (ty := 78) rfl (fun w h => h.2.2) uH rH (by rw [HL.out]; exact infoHeld) | (intro w' hS; obtain ⟨s1, s2, s3⟩ := hS; go_simp; (try with_reducible rfl); done))); try simp only [Act.put, List.setIfInBounds_toArray, List.set_cons_zero, List.set_cons_succ]) | ((first | ((with_reducible refine lexL_skip (c := false) ?_ ?_ ?_); (focus rfl); (focus rfl)) | ((with_reducible refine lexL_skip (c := true) ?_ ?_ ?_); (focus rfl); (focus rfl)) | ((with_reducible refine lexL_skipU ?_ ?_); (focus rfl))); try simp only [Act.put, List.setIfInBounds_toArray, List.set_cons_zero, List.set_cons_succ]))
            (first | with_reducible refine lexL_eff (fun K' hK' => ?_) | ((with_reducible refine lexL_effG ?_ (fun K' hK' => ?_)); (focus rfl)))
            go_simp
            refine (before_any _ ya h oka hh).mono ?_
            rintro e w2 ⟨rfl, rfl⟩
            rw [HBF2.out]
            refine hK'.out _ _ ?_ (fun hS => ?_)
            · exact ⟨(((Fr.refl No w5).drew.alloc _).alloc _).cell k5 id, range_keep (ELEM.out _ _ HYA.out) ((F5.out.drew.alloc _).alloc _) id, range_keep HB.out ((F5.out.drew.alloc _).alloc _) id⟩
            try simp only [Act.put, List.setIfInBounds_toArray, List.set_cons_zero, List.set_cons_succ]
            repeat (first | ((first | with_reducible refine lexL_read ?_ | ((with_reducible refine lexL_readG ?_ ?_); (focus rfl))); apply Exists.intro; refine ⟨?_, ?_⟩; (focus (first | (intro w' hS; obtain ⟨s1, s2, s3⟩ := hS; go_simp; (try with_reducible rfl); done))); try simp only [Act.put, List.setIfInBounds_toArray, List.set_cons_zero, List.set_cons_succ]) | ((first | ((with_reducible refine lexL_skip (c := false) ?_ ?_ ?_); (focus rfl); (focus rfl)) | ((with_reducible refine lexL_skip (c := true) ?_ ?_ ?_); (focus rfl); (focus rfl)) | ((with_reducible refine lexL_skipU ?_ ?_); (focus rfl))); try simp only [Act.put, List.setIfInBounds_toArray, List.set_cons_zero, List.set_cons_succ]))
            refine lexL_nil (hK.out _ _ ?_)
            clear k5 gq
            have F6 : Fr No wr ((w5.drew.alloc (.cells (heldC ya).toArray 78)).alloc (.cells (heldC h).toArray 78)) := (F5.out.drew.alloc _).alloc _
            generalize ((w5.drew.alloc (.cells (heldC ya).toArray 78)).alloc (.cells (heldC h).toArray 78)) = w6 at *
            have dn : DownOk beforeB n (g'.H.set n h) := fun s x z s0 se hx hz => by
              have l1 : n < g'.H.length := by rw [UU.out.like.len]; exact hlt
              rw [List.getElem?_set_self l1] at hz
              cases hz
              rw [List.getElem?_set_ne (by omega)] at hx
              exact swoB.ntrans _ _ _ (HS.out s x s0 se hx) HBF2.out
            have HB6 := Lib.hid (range_keep HB.out F6 id)
            have HF6 := Lib.hid F6
            have DN := Lib.hid dn
            clear F6 dn
            go_wp2_with (refine wpList_value rfl (exec_load (ty := 78) rfl rfl HB6.out uH rH (by rw [HL.out]; exact infoHeld)) ?_)
            refine (PUT.out _ HF6.out h hh).mono ?_
            intro e w7 hp
            have FIN := (UU.out.fr0 HF6.out).done DN.out hp
            obtain rfl := FIN.1
            have FIN := Lib.hid FIN
            clear hp
            go_wp2
            go_end0
            exact FIN.out
      · have j2 : ¬ (b : Int) < (g.H.length : Int) := by omega
        clear U hbox ha hb
        have gq2 : decide (b < g.H.length) = false := decide_eq_false (by omega)
        go_wp2
        rw [E5.out]
        have ewb := EWB.out
        refine wp_region_lexL [false, false, false, false, false, false, false, false, false, false, false, false, false, false, false, false, false, false, false, false, false, false, false, false, true, false] (fun w' => w'.cell? ⟨g.bl, 0, none⟩ = some (.slice (some ⟨gb, 0, none⟩) g.H.length cap)) (by kernel_rfl) (by kernel_rfl) ?_ (fun K hK => ?_)
        · exact k0
        repeat (first | ((first | with_reducible refine lexL_read ?_ | ((with_reducible refine lexL_readG ?_ ?_); (focus rfl))); apply Exists.intro; refine ⟨?_, ?_⟩; (focus (first | (intro w' hS; obtain s1 := hS; go_simp; (try with_reducible rfl); done))); try simp only [Act.put, List.setIfInBounds_toArray, List.set_cons_zero, List.set_cons_succ]) | ((first | ((with_reducible refine lexL_skip (c := false) ?_ ?_ ?_); (focus rfl); (focus rfl)) | ((with_reducible refine lexL_skip (c := true) ?_ ?_ ?_); (focus rfl); (focus rfl)) | ((with_reducible refine lexL_skipU ?_ ?_); (focus rfl))); try simp only [Act.put, List.setIfInBounds_toArray, List.set_cons_zero, List.set_cons_succ]))
        refine lexL_nil (hK.out _ _ ?_)
        clear ewb gq2
        have F5 : Fr No wr wr.drew := by (repeat (first | with_reducible exact Fr.refl _ _ | with_reducible assumption | with_reducible refine Fr.drew ?_ | with_reducible refine Fr.drewN ?_ _ | with_reducible refine Fr.alloc ?_ _ | with_reducible refine Fr.setCell ?_ _ (.inl (by simp <;> omega)) _))
        generalize wr.drew = w5 at *
        have F5 := Lib.hid F5
        have hs : ∀ s x, 0 < s → (s - 1) / 2 = n → g'.H[s]? = some x → beforeB x ya = false := fun s x s0 se hx => by
          have h1 := HA.out
          have h2 := HB2.out
          have h3 := (List.getElem?_eq_some_iff.1 hx).1
          rw [UU.out.like.len] at h3
          rcases (show s = a ∨ s = b by omega) with rfl | rfl
          · rw [HYA.out] at hx; cases hx; exact swoB.irrefl _
          · omega
        have HS := Lib.hid hs
        clear hs
        go_wp2
        obtain ⟨k5, -, -⟩ := (UU.out.fr0 F5.out).at_.cells
        rw [UU.out.like.bl, UU.out.like.hv, HV.out] at k5
        cases hbf2 : beforeB ya h with
        | true =>
          have HBF2 := Lib.hid hbf2
          clear hbf2
          have gq : decide (g.H.length ≤ a) = false := decide_eq_false (by omega)
          refine wp_region_lexL [false, false, false, false, false, false, false, false, false, false, false, false, false, false, false, false, true, false, false] (fun w' => w'.cell? ⟨g.bl, 0, none⟩ = some (.slice (some ⟨gb, 0, none⟩) g.H.length cap) ∧ w'.rangeAt gb (a * 35) (heldC ya) ∧ w'.rangeAt w.heap.size 0 (heldC h)) (by kernel_rfl) (by kernel_rfl) ?_ (fun K hK => ?_)
          · exact ⟨k5, range_keep (ELEM.out _ _ HYA.out) F5.out.drew id, range_keep HB.out F5.out.drew id⟩
          repeat (first | ((first | with_reducible refine lexL_read ?_ | ((with_reducible refine lexL_readG ?_ ?_); (focus rfl))); apply Exists.intro; refine ⟨?_, ?_⟩; (focus (first | exact lex_load (ty := 78) rfl (fun w h => h.2.1) uH rH (by rw [LA.out]; exact infoHeld) | exact lex_load (ty := 78) rfl (fun w h => h.2.2) uH rH (by rw [HL.out]; exact infoHeld) | (intro w' hS; obtain ⟨s1, s2, s3⟩ := hS; go_simp; (try with_reducible rfl); done))); try simp only [Act.put, List.setIfInBounds_toArray, List.set_cons_zero, List.set_cons_succ]) | ((first | ((with_reducible refine lexL_skip (c := false) ?_ ?_ ?_); (focus rfl); (focus rfl)) | ((with_reducible refine lexL_skip (c := true) ?_ ?_ ?_); (focus rfl); (focus rfl)) | ((with_reducible refine lexL_skipU ?_ ?_); (focus rfl))); try simp only [Act.put, List.setIfInBounds_toArray, List.set_cons_zero, List.set_cons_succ]))
          (first | with_reducible refine lexL_eff (fun K' hK' => ?_) | ((with_reducible refine lexL_effG ?_ (fun K' hK' => ?_)); (focus rfl)))
          go_simp
          refine (before_any _ ya h oka hh).mono ?_
          rintro e w2 ⟨rfl, rfl⟩
          rw [HBF2.out]
          refine hK'.out _ _ ?_ (fun hS => ?_)
          · exact ⟨(((Fr.refl No w5).drew.alloc _).alloc _).cell k5 id, range_keep (ELEM.out _ _ HYA.out) ((F5.out.drew.alloc _).alloc _) id, range_keep HB.out ((F5.out.drew.alloc _).alloc _) id⟩
          try simp only [Act.put, List.setIfInBounds_toArray, List.set_cons_zero, List.set_cons_succ]
          repeat (first | ((first | with_reducible refine lexL_read ?_ | ((with_reducible refine lexL_readG ?_ ?_); (focus rfl))); apply Exists.intro; refine ⟨?_, ?_⟩; (focus (first | (intro w' hS; obtain ⟨s1, s2, s3⟩ := hS; go_simp; (try with_reducible rfl); done))); try simp only [Act.put, List.setIfInBounds_toArray, List.set_cons_zero, List.set_cons_succ]) | ((first | ((with_reducible refine lexL_skip (c := false) ?_ ?_ ?_); (focus rfl); (focus rfl)) | ((with_reducible refine lexL_skip (c := true) ?_ ?_ ?_); (focus rfl); (focus rfl)) | ((with_reducible refine lexL_skipU ?_ ?_); (focus rfl))); try simp only [Act.put, List.setIfInBounds_toArray, List.set_cons_zero, List.set_cons_succ]))
          refine lexL_nil (hK.out _ _ ?_)
          clear k5 gq
          have F6 : Fr No wr ((w5.drew.alloc (.cells (heldC ya).toArray 78)).alloc (.cells (heldC h).toArray 78)) := (F5.out.drew.alloc _).alloc _
          generalize ((w5.drew.alloc (.cells (heldC ya).toArray 78)).alloc (.cells (heldC h).toArray 78)) = w6 at *
          have RY6 := Lib.hid (range_keep (ELEM.out _ _ HYA.out) F6 id)
          obtain ⟨k6, -, -⟩ := (UU.out.fr0 F6).at_.cells
          rw [UU.out.like.bl, UU.out.like.hv, HV.out] at k6
          have HF6 := Lib.hid F6
          clear F6
          go_wp2_with (refine wpList_value rfl (exec_load (ty := 78) rfl rfl RY6.out uH rH (by rw [LA.out]; exact infoHeld)) ?_)
          refine (PUT.out _ HF6.out ya oka).mono ?_
          intro e w7 hp
          obtain ⟨rfl, g2, U2⟩ := (UU.out.fr0 HF6.out).step (k := a) (by have := HA.out; have := HB2.out; omega) (by have := HA.out; have := HB2.out; omega) HYA.out HBF2.out HS.out WLT.out hp
          have HU2 := Lib.hid U2
          clear U2 hp
          have hm1 := HA.out
          have hm2 := HB2.out
          have HM := Lib.hid (show n < a by omega)
          clear hm1 hm2
          go_wp2
          go_roundw
          case rel => exact ⟨a, g2, by go_num, HU2.out⟩
          case measure => simp [intOf]; have := HM.out; omega
        | false =>
          have HBF2 := Lib.hid hbf2
          clear hbf2
          have gq : decide (g.H.length ≤ a) = false := decide_eq_false (by omega)
          refine wp_region_lexL [false, false, false, false, false, false, false, false, false, false, false, false, false, false, false, false, true, false, false] (fun w' => w'.cell? ⟨g.bl, 0, none⟩ = some (.slice (some ⟨gb, 0, none⟩) g.H.length cap) ∧ w'.rangeAt gb (a * 35) (heldC ya) ∧ w'.rangeAt w.heap.size 0 (heldC h)) (by kernel_rfl) (by kernel_rfl) ?_ (fun K hK => ?_)
          · exact ⟨k5, range_keep (ELEM.out _ _ HYA.out) F5.out.drew id, range_keep HB.out F5.out.drew id⟩
          repeat (first | ((first | with_reducible refine lexL_read ?_ | ((with_reducible refine lexL_readG ?_ ?_); (focus rfl))); apply Exists.intro; refine ⟨?_, ?_⟩; (focus (first | exact lex_load (ty := 78) rfl (fun w h => h.2.1) uH rH (by rw [LA.out]; exact infoHeld) | exact lex_load (ty := 78) rfl (fun w h => h.2.2) uH rH (by rw [HL.out]; exact infoHeld) | (intro w' hS; obtain ⟨s1, s2, s3⟩ := hS; go_simp; (try with_reducible rfl); done))); try simp only [Act.put, List.setIfInBounds_toArray, List.set_cons_zero, List.set_cons_succ]) | ((first | ((with_reducible refine lexL_skip (c := false) ?_ ?_ ?_); (focus rfl); (focus rfl)) | ((with_reducible refine lexL_skip (c := true) ?_ ?_ ?_); (focus rfl); (focus rfl)) | ((with_reducible refine lexL_skipU ?_ ?_); (focus rfl))); try simp only [Act.put, List.setIfInBounds_toArray, List.set_cons_zero, List.set_cons_succ]))
          (first | with_reducible refine lexL_eff (fun K' hK' => ?_) | ((with_reducible refine lexL_effG ?_ (fun K' hK' => ?_)); (focus rfl)))
          go_simp
          refine (before_any _ ya h oka hh).mono ?_
          rintro e w2 ⟨rfl, rfl⟩
          rw [HBF2.out]
          refine hK'.out _ _ ?_ (fun hS => ?_)
          · exact ⟨(((Fr.refl No w5).drew.alloc _).alloc _).cell k5 id, range_keep (ELEM.out _ _ HYA.out) ((F5.out.drew.alloc _).alloc _) id, range_keep HB.out ((F5.out.drew.alloc _).alloc _) id⟩
          try simp only [Act.put, List.setIfInBounds_toArray, List.set_cons_zero, List.set_cons_succ]
          repeat (first | ((first | with_reducible refine lexL_read ?_ | ((with_reducible refine lexL_readG ?_ ?_); (focus rfl))); apply Exists.intro; refine ⟨?_, ?_⟩; (focus (first | (intro w' hS; obtain ⟨s1, s2, s3⟩ := hS; go_simp; (try with_reducible rfl); done))); try simp only [Act.put, List.setIfInBounds_toArray, List.set_cons_zero, List.set_cons_succ]) | ((first | ((with_reducible refine lexL_skip (c := false) ?_ ?_ ?_); (focus rfl); (focus rfl)) | ((with_reducible refine lexL_skip (c := true) ?_ ?_ ?_); (focus rfl); (focus rfl)) | ((with_reducible refine lexL_skipU ?_ ?_); (focus rfl))); try simp only [Act.put, List.setIfInBounds_toArray, List.set_cons_zero, List.set_cons_succ]))
          refine lexL_nil (hK.out _ _ ?_)
          clear k5 gq
          have F6 : Fr No wr ((w5.drew.alloc (.cells (heldC ya).toArray 78)).alloc (.cells (heldC h).toArray 78)) := (F5.out.drew.alloc _).alloc _
          generalize ((w5.drew.alloc (.cells (heldC ya).toArray 78)).alloc (.cells (heldC h).toArray 78)) = w6 at *
          have dn : DownOk beforeB n (g'.H.set n h) := fun s x z s0 se hx hz => by
            have l1 : n < g'.H.length := by rw [UU.out.like.len]; exact hlt
            rw [List.getElem?_set_self l1] at hz
            cases hz
            rw [List.getElem?_set_ne (by omega)] at hx
            exact swoB.ntrans _ _ _ (HS.out s x s0 se hx) HBF2.out
          have HB6 := Lib.hid (range_keep HB.out F6 id)
          have HF6 := Lib.hid F6
          have DN := Lib.hid dn
          clear F6 dn
          go_wp2_with (refine wpList_value rfl (exec_load (ty := 78) rfl rfl HB6.out uH rH (by rw [HL.out]; exact infoHeld)) ?_)
          refine (PUT.out _ HF6.out h hh).mono ?_
          intro e w7 hp
          have FIN := (UU.out.fr0 HF6.out).done DN.out hp
          obtain rfl := FIN.1
          have FIN := Lib.hid FIN
          clear hp
          go_wp2
          go_end0
          exact FIN.out
    · have j1 : ¬ (a : Int) < (g.H.length : Int) := by omega
      have j2 : ¬ (b : Int) < (g.H.length : Int) := by omega
      clear U hbox ha hb
      have gq2 : decide (b < g.H.length) = false := decide_eq_false (by omega)
      go_wp2
      rw [E5.out]
      have ewb := EWB.out
      refine wp_region_lexL [false, false, false, false, false, false, false, false, false, false, false, false, false, false, false, false, false, false, false, false, false, false, false, false, true, false] (fun w' => w'.cell? ⟨g.bl, 0, none⟩ = some (.slice (some ⟨gb, 0, none⟩) g.H.length cap)) (by kernel_rfl) (by kernel_rfl) ?_ (fun K hK => ?_)
      · exact k0
      repeat (first | ((first | with_reducible refine lexL_read ?_ | ((with_reducible refine lexL_readG ?_ ?_); (focus rfl))); apply Exists.intro; refine ⟨?_, ?_⟩; (focus (first | (intro w' hS; obtain s1 := hS; go_simp; (try with_reducible rfl); done))); try simp only [Act.put, List.setIfInBounds_toArray, List.set_cons_zero, List.set_cons_succ]) | ((first | ((with_reducible refine lexL_skip (c := false) ?_ ?_ ?_); (focus rfl); (focus rfl)) | ((with_reducible refine lexL_skip (c := true) ?_ ?_ ?_); (focus rfl); (focus rfl)) | ((with_reducible refine lexL_skipU ?_ ?_); (focus rfl))); try simp only [Act.put, List.setIfInBounds_toArray, List.set_cons_zero, List.set_cons_succ]))
      refine lexL_nil (hK.out _ _ ?_)
      clear ewb gq2
      have F5 : Fr No wr wr.drew := by (repeat (first | with_reducible exact Fr.refl _ _ | with_reducible assumption | with_reducible refine Fr.drew ?_ | with_reducible refine Fr.drewN ?_ _ | with_reducible refine Fr.alloc ?_ _ | with_reducible refine Fr.setCell ?_ _ (.inl (by simp <;> omega)) _))
      generalize wr.drew = w5 at *
      have F5 := Lib.hid F5
      go_wp2
      obtain ⟨k5, -, -⟩ := (UU.out.fr0 F5.out).at_.cells
      rw [UU.out.like.bl, UU.out.like.hv, HV.out] at k5
      have gq : decide (g.H.length ≤ a) = true := decide_eq_true (by omega)
      refine wp_region_lexL [false, false, false, false, false, false, false, false, false, false, false, false, false, false, false, false, true, false, false] (fun w' => w'.cell? ⟨g.bl, 0, none⟩ = some (.slice (some ⟨gb, 0, none⟩) g.H.length cap)) (by kernel_rfl) (by kernel_rfl) ?_ (fun K hK => ?_)
      · exact k5
      repeat (first | ((first | with_reducible refine lexL_read ?_ | ((with_reducible refine lexL_readG ?_ ?_); (focus rfl))); apply Exists.intro; refine ⟨?_, ?_⟩; (focus (first | (intro w' hS; obtain s1 := hS; go_simp; (try with_reducible rfl); done))); try simp only [Act.put, List.setIfInBounds_toArray, List.set_cons_zero, List.set_cons_succ]) | ((first | ((with_reducible refine lexL_skip (c := false) ?_ ?_ ?_); (focus rfl); (focus rfl)) | ((with_reducible refine lexL_skip (c := true) ?_ ?_ ?_); (focus rfl); (focus rfl)) | ((with_reducible refine lexL_skipU ?_ ?_); (focus rfl))); try simp only [Act.put, List.setIfInBounds_toArray, List.set_cons_zero, List.set_cons_succ]))
      refine lexL_nil (hK.out _ _ ?_)
      clear k5 gq
      have F6 : Fr No wr w5.drew := F5.out.drew
      generalize w5.drew = w6 at *
      have dn : DownOk beforeB n (g'.H.set n h) := fun s x y s0 se hx _ => by
        have h1 := HA.out
        have h2 := HB2.out
        have h3 := (List.getElem?_eq_some_iff.1 hx).1
        rw [List.length_set, UU.out.like.len] at h3
        omega
      have HB6 := Lib.hid (range_keep HB.out F6 id)
      have HF6 := Lib.hid F6
      have DN := Lib.hid dn
      clear F6 dn
      go_wp2_with (refine wpList_value rfl (exec_load (ty := 78) rfl rfl HB6.out uH rH (by rw [HL.out]; exact infoHeld)) ?_)
      refine (PUT.out _ HF6.out h hh).mono ?_
      intro e w7 hp
      have FIN := (UU.out.fr0 HF6.out).done DN.out hp
      obtain rfl := FIN.1
      have FIN := Lib.hid FIN
      clear hp
      go_wp2
      go_end0
      exact FIN.out
end Go.Proofs.YthmaekkjpginoaaDoor
