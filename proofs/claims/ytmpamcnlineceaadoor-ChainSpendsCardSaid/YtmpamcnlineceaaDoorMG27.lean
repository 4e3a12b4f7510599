/- chain: a chain in memory. -/
import Derived.Test.YtmpamcnlineceaaDoorMG26
import Derived.Test.YtmpamcnlineceaaDoorMG19
import Derived.Test.YtmpamcnlineceaaDoorMG36
set_option linter.unusedVariables false
set_option linter.unusedSimpArgs false
set_option linter.unnecessarySimpa false
set_option linter.all false
namespace Go.Proofs.YtmpamcnlineceaaDoor
open Go Go.RowKit Go.Maps Go.MapKept

structure ChAt (w0 w : World) (p s : Nat) (U : Nat → Prop) (mi : Nat) (bv : Value) (css : List (List Value)) (D : ChD) : Prop where
  obj : w.heap[p]? = some (.cells #[.pointer (some ⟨s, 0, none⟩), bv, .map (some mi)] 92 (0, 0))
  set : CS w0 w s U D.S
  row : w.ownsRow w0.heap.size 97 5 bv D.bs.length (css.flatMap id)
  cl : css.length = D.bs.length
  c5 : ∀ cs ∈ css, cs.length = 5
  data : ∀ (i : Nat) (d : DoneD) (cs : List Value), D.bs[i]? = some d → css[i]? = some cs → Kept (chV p U mi bv) w (fun w => DoneQ w d cs)
  map : IdMap w mi D.M
  pm : p ≠ mi
  up : ¬ U p
  um : ¬ U mi
  rn : ∀ k, bv.ownBlock = some k → k ≠ p ∧ k ≠ mi ∧ ¬ U k
  lo1 : w0.heap.size ≤ p
  lo2 : w0.heap.size ≤ mi
section
variable {w0 w w' : World} {p s mi : Nat} {U : Nat → Prop} {bv : Value} {css : List (List Value)} {D : ChD}
theorem ChAt.fr (h : ChAt w0 w p s U mi bv css D) : Fr No w0 w := h.set.fr
theorem ChAt.lo (h : ChAt w0 w p s U mi bv css D) : ∀ j, chV p U mi bv j → w0.heap.size ≤ j := by
  intro j hj
  rcases hj with rfl | hj | rfl | hj
  · exact h.lo1
  · exact h.set.lo j hj
  · exact h.lo2
  · exact (h.row.lt j hj).1
theorem ChAt.hi (h : ChAt w0 w p s U mi bv css D) : ∀ j, chV p U mi bv j → j < w.heap.size := by
  intro j hj
  rcases hj with rfl | hj | rfl | hj
  · exact obj_lt h.obj
  · exact h.set.hi j hj
  · exact h.map.lt
  · exact (h.row.lt j hj).2
theorem ChAt.frV (h : ChAt w0 w p s U mi bv css D) {W : Nat → Prop} (f : Fr W w w') (hU : ∀ j, chV p U mi bv j → ¬ W j) (h0 : ∀ j, W j → w0.heap.size ≤ j) (hd : ∀ (i : Nat) (d : DoneD) (cs : List Value), D.bs[i]? = some d → css[i]? = some cs → Kept (chV p U mi bv) w' (fun w => DoneQ w d cs)) : ChAt w0 w' p s U mi bv css D :=
  { h with
    obj := f.obj h.obj (hU _ (.inl rfl))
    set := h.set.frV f (fun j hj => hU j (.inr (.inl hj))) h0
    row := ownsRow_keep h.row f (fun j hj => hU j (.inr (.inr (.inr hj))))
    data := hd
    map := h.map.keep f (hU _ (.inr (.inr (.inl rfl)))) }
theorem ChAt.fr0 (h : ChAt w0 w p s U mi bv css D) (f : Fr No w w') : ChAt w0 w' p s U mi bv css D :=
  h.frV f (fun _ _ => id) (fun _ h => h.elim) (fun i d cs h1 h2 => (h.data i d cs h1 h2).same f.of0)
/-- The set has turned. -/
theorem ChAt.setS (h : ChAt w0 w p s U mi bv css D) {S' : List CoinD} (hs : CS w0 w' s U S') (f : Fr U w w') : ChAt w0 w' p s U mi bv css ⟨S', D.bs, D.M⟩ :=
  { h with
    obj := f.obj h.obj h.up
    set := hs
    row := ownsRow_keep h.row f (fun j hj => (h.rn j hj).2.2)
    data := fun i d cs h1 h2 => (h.data i d cs h1 h2).same (f.mono (fun j hj => .inr (.inl hj)))
    map := h.map.keep f h.um }
theorem ChAt.cells (h : ChAt w0 w p s U mi bv css D) : w.cell? ⟨p, 0, none⟩ = some (.pointer (some ⟨s, 0, none⟩)) ∧ w.cell? ⟨p, 1, none⟩ = some bv ∧ w.cell? ⟨p, 2, none⟩ = some (.map (some mi)) := by
  have := range_obj h.obj
  exact ⟨by simpa using this 0 _ rfl, by simpa using this 1 _ rfl, by simpa using this 2 _ rfl⟩
end
/-- A chain, whatever its blocks. -/
def Ch (w0 w : World) (p : Nat) (V : Nat → Prop) (D : ChD) : Prop := ∃ s U mi bv css, ChAt w0 w p s U mi bv css D ∧ V = chV p U mi bv
theorem Ch.fr0 {w0 w w' : World} {p : Nat} {V : Nat → Prop} {D : ChD} (h : Ch w0 w p V D) (f : Fr No w w') : Ch w0 w' p V D := by
  obtain ⟨s, U, mi, bv, css, h, e⟩ := h
  exact ⟨s, U, mi, bv, css, h.fr0 f, e⟩
theorem Ch.fr {w0 w : World} {p : Nat} {V : Nat → Prop} {D : ChD} (h : Ch w0 w p V D) : Fr No w0 w := by
  obtain ⟨s, U, mi, bv, css, h, e⟩ := h
  exact h.fr
theorem Ch.lo {w0 w : World} {p : Nat} {V : Nat → Prop} {D : ChD} (h : Ch w0 w p V D) : ∀ j, V j → w0.heap.size ≤ j := by
  obtain ⟨s, U, mi, bv, css, h, rfl⟩ := h
  exact h.lo
set_option maxRecDepth 20000 in
theorem height_any {w0 w : World} {p : Nat} {V : Nat → Prop} {D : ChD} (h : Ch w0 w p V D) : Calls Tryd.prog 18 #[.pointer (some ⟨p, 0, none⟩)] w fun e w' => e = .returned (.int .i64 (D.bs.length : Int)) ∧ w' = w := by
  obtain ⟨s, U, mi, bv, css, h, -⟩ := h
  obtain ⟨c0, c1, c2⟩ := h.cells
  obtain ⟨a, c, rfl⟩ := h.row.slice.arg.form
  clear h c0 c2
  go_enter Tryd.func18, Tryd.ntmps18
  go_wp2
  go_ret
  exact ⟨rfl, rfl⟩
set_option maxRecDepth 20000 in
theorem chcoins_any {w0 w : World} {p : Nat} {V : Nat → Prop} {D : ChD} (h : Ch w0 w p V D) (hN : D.S.length ≤ 100000) : Calls Tryd.prog 19 #[.pointer (some ⟨p, 0, none⟩)] w fun e w' => ∃ v, e = .returned v ∧ w'.ownsRow w.heap.size 57 66 v D.S.length (D.S.flatMap coinC) ∧ Fr No w w' := by
  obtain ⟨s, U, mi, bv, css, h, -⟩ := h
  obtain ⟨c0, c1, c2⟩ := h.cells
  have HA := Lib.hid (all_C h.set hN)
  clear h c1 c2
  go_enter Tryd.func19, Tryd.ntmps19
  go_wp2_with (go_at_call 37; refine HA.out.mono ?_; rintro e w2 ⟨v, rfl, h2, f2⟩; have H2 := Lib.hid h2; have F2 := Lib.hid f2; clear h2 f2)
  go_ret
  exact ⟨_, rfl, H2.out, F2.out⟩
set_option maxRecDepth 20000 in
set_option maxHeartbeats 2000000 in
theorem chfind_any {w0 w : World} {p : Nat} {V : Nat → Prop} {D : ChD} (h : Ch w0 w p V D) {q : PointD} (hq : q.ok) : Calls Tryd.prog 27 #[.pointer (some ⟨p, 0, none⟩), .agg (pointC q).toArray] w fun e w' => e = .returned (.tuple #[.agg (outC (outOf D.S q)).toArray, .bool (hasC D.S q)]) ∧ Fr No w w' := by
  obtain ⟨s, U, mi, bv, css, h, -⟩ := h
  obtain ⟨dP, uP, rP⟩ := descPoint
  obtain ⟨dO, uO, rO⟩ := descOut
  have zo := zeroOutC
  have PL := Lib.hid (pointC_len hq)
  have XOK := Lib.hid (outOf_ok h.set.ok q)
  have OL := Lib.hid (outC_len XOK.out)
  have f1 : Fr No w ((w.alloc (.cells (pointC q).toArray 47)).alloc (.cells (outC out0).toArray 55)).drew := (((Fr.refl No w).alloc _).alloc _).drew
  have HF := Lib.hid (fun w' (f : Fr No w w') => find_C (h.set.fr0 f) hq)
  have f12 : Fr No (w.alloc (.cells (pointC q).toArray 47)) ((w.alloc (.cells (pointC q).toArray 47)).alloc (.cells (outC out0).toArray 55)).drew := ((Fr.refl No _).alloc _).drew
  have CK := Lib.hid (fun w' (f : Fr No w w') => (h.fr0 f).cells.1)
  have RB := Lib.hid (range_keep (range_new w (pointC q) 47) f12 id)
  have B2 := Lib.hid ((Fr.refl No _).drew.obj (new_obj' (w.alloc (.cells (pointC q).toArray 47)) (.cells (outC out0).toArray 55) (n := w.heap.size + 1) (by simp)) id)
  have F1 := Lib.hid f1
  clear h f1 f12
  go_enter Tryd.func27, Tryd.ntmps27
  go_wp2_with fail
  generalize ((w.alloc (.cells (pointC q).toArray 47)).alloc (.cells (outC out0).toArray 55)) = w2 at *
  have K2 := Lib.hid (show ∀ w', Fr No w w' → True from fun _ _ => trivial)
  refine wp_region_lexL [false, false, false, false, false, true, false, false, true, false] (fun w' => w'.cell? ⟨p, 0, none⟩ = some (.pointer (some ⟨s, 0, none⟩)) ∧ w'.rangeAt w.heap.size 0 (pointC q)) (by kernel_rfl) (by kernel_rfl) ?_ (fun K hK => ?_)
  · exact ⟨CK.out _ F1.out, RB.out⟩
  repeat (first | ((first | with_reducible refine lexL_read ?_ | ((with_reducible refine lexL_readG ?_ ?_); (focus rfl))); apply Exists.intro; refine ⟨?_, ?_⟩; (focus (first | exact lex_load (ty := 47) rfl (fun w h => h.2) uP rP (by rw [PL.out]; exact infoPoint) | (intro w' hS; obtain ⟨s1, s2⟩ := hS; go_simp; (try with_reducible rfl); done))); try simp only [Act.put, List.setIfInBounds_toArray, List.set_cons_zero, List.set_cons_succ]) | ((first | ((with_reducible refine lexL_skip (c := false) ?_ ?_ ?_); (focus rfl); (focus rfl)) | ((with_reducible refine lexL_skip (c := true) ?_ ?_ ?_); (focus rfl); (focus rfl)) | ((with_reducible refine lexL_skipU ?_ ?_); (focus rfl))); try simp only [Act.put, List.setIfInBounds_toArray, List.set_cons_zero, List.set_cons_succ]))
  (first | with_reducible refine lexL_eff (fun K' hK' => ?_) | ((with_reducible refine lexL_effG ?_ (fun K' hK' => ?_)); (focus rfl)))
  go_simp
  refine (HF.out _ F1.out).mono ?_
  rintro e w3 ⟨rfl, f3⟩
  have F3 := Lib.hid (F1.out.trans0 f3)
  have B3 := Lib.hid (f3.obj B2.out id)
  have R3 := Lib.hid (range_keep RB.out f3 id)
  clear f3
  generalize hX : outOf D.S q = X at *
  generalize hH : hasC D.S q = hb at *
  refine hK'.out _ _ ?_ (fun hS => ?_)
  · exact ⟨CK.out _ F3.out, R3.out⟩
  try simp only [Act.put, List.setIfInBounds_toArray, List.set_cons_zero, List.set_cons_succ]
  repeat (first | ((first | with_reducible refine lexL_read ?_ | ((with_reducible refine lexL_readG ?_ ?_); (focus rfl))); apply Exists.intro; refine ⟨?_, ?_⟩; (focus (first | (intro w' hS; obtain ⟨s1, s2⟩ := hS; go_simp; (try with_reducible rfl); done))); try simp only [Act.put, List.setIfInBounds_toArray, List.set_cons_zero, List.set_cons_succ]) | ((first | ((with_reducible refine lexL_skip (c := false) ?_ ?_ ?_); (focus rfl); (focus rfl)) | ((with_reducible refine lexL_skip (c := true) ?_ ?_ ?_); (focus rfl); (focus rfl)) | ((with_reducible refine lexL_skipU ?_ ?_); (focus rfl))); try simp only [Act.put, List.setIfInBounds_toArray, List.set_cons_zero, List.set_cons_succ]))
  (first | with_reducible refine lexL_eff (fun K' hK' => ?_) | ((with_reducible refine lexL_effG ?_ (fun K' hK' => ?_)); (focus rfl)))
  refine wp_done (exec_store (ty := 55) (b := w.heap.size + 1) (off := 0) (cs := outC X) rfl rfl rfl (by rw [OL.out]; exact there_obj B3.out (Nat.le_of_eq out0_size.symm)) (by rw [OL.out]; exact infoOut) outC_one) ?_
  have F4 := Lib.hid (show Fr No w (w3.setCells (w.heap.size + 1) 0 (outC X)) from F3.out.trans (setCells_fr _ _ _ _) (fun i hi e => by omega))
  refine hK'.out _ _ ?_ (fun hS => ?_)
  · exact ⟨CK.out _ F4.out, range_keep R3.out (setCells_fr _ _ _ _) (fun e => by omega)⟩
  try simp only [Act.put, List.setIfInBounds_toArray, List.set_cons_zero, List.set_cons_succ]
  repeat (first | ((first | with_reducible refine lexL_read ?_ | ((with_reducible refine lexL_readG ?_ ?_); (focus rfl))); apply Exists.intro; refine ⟨?_, ?_⟩; (focus (first | (intro w' hS; obtain ⟨s1, s2⟩ := hS; go_simp; (try with_reducible rfl); done))); try simp only [Act.put, List.setIfInBounds_toArray, List.set_cons_zero, List.set_cons_succ]) | ((first | ((with_reducible refine lexL_skip (c := false) ?_ ?_ ?_); (focus rfl); (focus rfl)) | ((with_reducible refine lexL_skip (c := true) ?_ ?_ ?_); (focus rfl); (focus rfl)) | ((with_reducible refine lexL_skipU ?_ ?_); (focus rfl))); try simp only [Act.put, List.setIfInBounds_toArray, List.set_cons_zero, List.set_cons_succ]))
  refine lexL_nil (hK.out _ _ ?_)
  go_wp2_with fail
  refine bodyPost_ret (results_row_tmp (P := Tryd.prog) (fn := Tryd.f27) rfl _ rfl (range_set B3.out (by rw [OL.out]; exact out0_size)) uO rO (by rw [OL.out]; exact infoOut) rfl) rfl ⟨by rw [hX, hH]; rfl, F4.out⟩
end Go.Proofs.YtmpamcnlineceaaDoor

/- chain: New. -/
namespace Go.Proofs.YtmpamcnlineceaaDoor
open Go Go.RowKit Go.Maps Go.MapKept

theorem run_makeIds (w : World) : (Instr.makeMap 90 none).run Tryd.prog w = .ok (.map (some w.heap.size)) (w.alloc (.map #[] 0)) := by kernel_rfl
theorem bldChain (s m : Nat) (w : World) : (Instr.build 92 #[(0, .pointer (some ⟨s, 0, none⟩)), (2, .map (some m))]).run Tryd.prog w = .ok (.agg #[.pointer (some ⟨s, 0, none⟩), .slice none 0 0, .map (some m)]) w := by kernel_rfl
def chain0 (l : List OutD) : ChD := ⟨putC [] (payC hash0 l), [], []⟩
set_option maxRecDepth 20000 in
set_option maxHeartbeats 2000000 in
theorem chnew_any (w : World) {v : Value} {l : List OutD} (hl : OutsIs w v l) (hN : l.length ≤ 256) :
    Calls Tryd.prog 17 #[v] w fun e w' => ∃ p, e = .returned (.tuple #[.pointer (some ⟨p, 0, none⟩), .int .i64 0]) ∧ ∃ V, Ch w w' p V (chain0 l) := by
  have j1 : decide ((256 : Int) < (l.length : Int)) = false := by simp; omega
  have HP := Lib.hid (payments_any w hash0_ok hl (by omega))
  have OK := Lib.hid (payC_ok hash0_ok hl.1 (by omega))
  have HN := Lib.hid hN
  obtain ⟨va, vc, rfl⟩ := hl.2.form
  clear hl hN
  go_enter Tryd.func17, Tryd.ntmps17
  have K0 := Lib.hid True.intro
  have K1 := Lib.hid True.intro
  have K2 := Lib.hid True.intro
  have K3 := Lib.hid True.intro
  go_wp2_with (first | ((with_reducible refine at_list ?_); have mk := K0.out; with_reducible refine at_dst 10 ?_; refine wpList_value rfl (exec_bld (t := 45) rfl rfl (bldHash0 _)) ?_; go_frame; clear mk K0) | (have mk := K1.out; go_at_call 36; refine HP.out.mono ?_; rintro e w2 ⟨pv, rfl, o2, f2⟩; have F2 := Lib.hid f2; have O2 := Lib.hid (show CoinsIs w2 pv (payC hash0 l) from ⟨OK.out, by rw [payC_len]; exact o2.slice.arg⟩); obtain ⟨pa, pc, hpv⟩ := o2.slice.arg.form; subst hpv; clear o2 f2; go_frame; clear mk K1) | (have mk := K2.out; go_at_call 35; refine (new_C w w2 F2.out O2.out (by rw [payC_len]; have := HN.out; omega) (payC_nodup _ _)).mono ?_; rintro e w3 ⟨s, rfl, U, hcs, f3, hU⟩; have C3 := Lib.hid hcs; have F3 := Lib.hid f3; clear hcs f3 hU; have mk3 := run_makeIds w3; go_frame; clear mk K2) | ((with_reducible refine at_list ?_); have mk := K3.out; with_reducible refine at_dst 18 ?_; refine wpList_value rfl (exec_bld (t := 92) rfl rfl (bldChain _ _ _)) ?_; go_frame; clear mk K3))
  have fA := (Fr.refl No w3).alloc (.map #[] 0)
  have fB := (Fr.refl No (w3.alloc (.map #[] 0))).alloc (.cells #[.pointer (some ⟨s, 0, none⟩), .slice none 0 0, .map (some w3.heap.size)] 92)
  have q1 : (w3.alloc (.map #[] 0)).heap.size = w3.heap.size + 1 := by simp
  have hob := new_obj (w3.alloc (.map #[] 0)) (.cells #[.pointer (some ⟨s, 0, none⟩), .slice none 0 0, .map (some w3.heap.size)] 92)
  have CC := Lib.hid (show ChAt w _ (w3.alloc (.map #[] 0)).heap.size s U w3.heap.size (.slice none 0 0) [] (chain0 l) from {
    obj := hob
    set := (C3.out.fr0 fA).fr0 fB
    row := World.ownsRow_nil _ _ _ 5
    cl := rfl
    c5 := fun cs h => by cases h
    data := fun i d cs h => by simp [chain0] at h
    map := (show IdMap (w3.alloc (.map #[] 0)) w3.heap.size [] from MapIs.made w3).keep fB id
    pm := by omega
    up := fun h => by have := C3.out.hi _ h; omega
    um := fun h => by have := C3.out.hi _ h; omega
    rn := fun k h => by cases h
    lo1 := by have := F2.out.size; have := F3.out.size; omega
    lo2 := by have := F2.out.size; have := F3.out.size; omega })
  rw [q1] at CC
  go_ret2
  exact ⟨_, rfl, _, _, _, _, _, _, CC.out, rfl⟩
set_option maxRecDepth 20000 in
theorem chnew_long (w : World) {a : Option Addr} {n c : Nat} (hN : 256 < n) :
    Calls Tryd.prog 17 #[.slice a n c] w fun e w' => e = .returned (.tuple #[.pointer none, .int .i64 5]) ∧ w' = w := by
  have j1 : decide ((256 : Int) < (n : Int)) = true := by simp; omega
  clear hN
  go_enter Tryd.func17, Tryd.ntmps17
  go_wp2
  go_ret2
  exact ⟨rfl, rfl⟩
end Go.Proofs.YtmpamcnlineceaaDoor
