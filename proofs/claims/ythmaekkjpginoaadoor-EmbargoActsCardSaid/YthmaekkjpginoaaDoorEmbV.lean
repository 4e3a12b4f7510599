/- embargo: alive. -/
import Derived.Test.YthmaekkjpginoaaDoorEmbV0
namespace Go.Proofs.YthmaekkjpginoaaDoor
open Go Go.RowKit Go.Maps Go.MapKept Go.Sort

theorem delay0 (w : World) (hT : TabAt w) : Calls Tryd.prog 11 #[.int .u16 0] w fun e w' => e = .returned (.int .u64 10) ∧ Fr No w w' := delay_any w hT 0 (by omega)
theorem delay1 (w : World) (hT : TabAt w) : Calls Tryd.prog 11 #[.int .u16 2048] w fun e w' => e = .returned (.int .u64 11) ∧ Fr No w w' := delay_any w hT 2048 (by omega)
theorem delay2 (w : World) (hT : TabAt w) : Calls Tryd.prog 11 #[.int .u16 65535] w fun e w' => e = .returned (.int .u64 109) ∧ Fr No w w' := delay_any w hT 65535 (by omega)
theorem alcN (w : World) {n : Nat} (h : w.heap.size = n) : (Instr.alloc 36 true (.tuple #[])).run Tryd.prog w = .ok (.pointer (some ⟨n, 0, none⟩)) (w.alloc (.cells (keyC key0).toArray 36)) := by
  subst h
  exact alcK w
set_option maxRecDepth 20000 in
set_option maxHeartbeats 800000 in
theorem alive_any (w : World) (hT : TabAt w) : Calls Tryd.prog 10 #[] w fun e w' => e = .returned (.bool true) ∧ Fr No w w' := by
  obtain ⟨dK, uK, rK⟩ := descKey
  have lA : (keyC kA).length = 33 := rfl
  have lB : (keyC kB).length = 33 := rfl
  have lD : (keyC kD).length = 33 := rfl
  have LA := Lib.hid lA
  have LB := Lib.hid lB
  have LD := Lib.hid lD
  clear lA lB lD
  have HT := Lib.hid hT
  clear hT
  go_enter Tryd.func10, Tryd.ntmps10
  go_wp2_with fail
  refine (new_any w w (Fr.refl _ _)).mono ?_
  rintro e w1 ⟨p, g, rfl, c1, f1, -⟩
  obtain rfl := c1.bl
  obtain ⟨t0, -, -⟩ := tri_there w1
  obtain ⟨t1, t2, r1, r2, r3⟩ := tri_at w1
  have f2 := tri_fr w1
  have T0 := Lib.hid t0
  have T1 := Lib.hid t1
  have T2 := Lib.hid t2
  have R1 := Lib.hid r1
  have R2 := Lib.hid r2
  have R3 := Lib.hid r3
  have F2 := Lib.hid f2
  clear t0 t1 t2 r1 r2 r3 f2
  go_wp2_with (first | ((refine wpList_value rfl (exec_buildRun (o := ⟨some 8, _, _, _, _, _⟩) (t := 36) rfl rfl (bldA _)) ?_); go_frame; refine wpList_value rfl (exec_buildRun (o := ⟨some 9, _, _, _, _, _⟩) (t := 36) rfl rfl (bldB _)) ?_; go_frame; refine wpList_value rfl (exec_buildRun (o := ⟨some 10, _, _, _, _, _⟩) (t := 34) rfl rfl (bldH _)) ?_; go_frame; refine wpList_value rfl (exec_buildRun (o := ⟨some 11, _, _, _, _, _⟩) (t := 36) rfl rfl (bldD _)) ?_; go_frame; refine wpList_value rfl (exec_alloc (t := 36) rfl (alcN _ rfl)) ?_; go_frame; refine wpList_value rfl (exec_alloc (t := 36) rfl (alcN _ (n := w1.heap.size + 1) (by simp))) ?_; go_frame; refine wpList_value rfl (exec_alloc (t := 36) rfl (alcN _ (n := w1.heap.size + 1 + 1) (by simp))) ?_; go_frame; refine wpList_done (w' := tri1 w1) rfl (exec_store (w := tri w1) (ty := 36) (cs := keyC kA) rfl (by rfl) (by rfl) T0.out infoKey keyC_one) ?_; go_frame; refine wpList_done (w' := tri2 w1) rfl (exec_store (w := tri1 w1) (ty := 36) (cs := keyC kB) rfl (by rfl) (by rfl) T1.out infoKey keyC_one) ?_; go_frame; refine wpList_done (w' := tri3 w1) rfl (exec_store (w := tri2 w1) (ty := 36) (cs := keyC kD) rfl (by rfl) (by rfl) T2.out infoKey keyC_one) ?_; go_frame; generalize tri3 w1 = w2 at *) | ((refine wpList_valueG (o := ⟨some 16, _, _, _, _, _⟩) rfl (exec_load (ty := 36) rfl rfl R1.out uK rK infoKey) ?_); go_frame))
  have nb : ∀ k, w1.heap.size ≤ k → ¬ g.W k := fun k hk h => by have := c1.at_.wlt k h; omega
  have hsz2 : w1.heap.size + 1 + 1 < w2.heap.size := World.block_lt_of_cell? w2 ⟨w1.heap.size + 1 + 1, 0, none⟩ (R3.out 0 _ rfl)
  have hs1 := set_new (c1.fr0 F2.out) (by omega) kA okA 7 ⟨by omega, by omega⟩ (by rintro ⟨x, hx, _⟩; cases hx)
  have HS1 := Lib.hid hs1
  clear hs1 c1
  refine HS1.out.mono ?_
  rintro e w3 ⟨rfl, g3, c3, st3⟩
  rw [show insS [] ⟨kA, 7, g.sq + 1⟩ = [⟨kA, 7, g.sq + 1⟩] from rfl] at c3
  generalize g.sq + 1 = s1 at c3
  have R1 := Lib.hid (range_keep R1.out st3.fr (nb _ (by omega)))
  have R2 := Lib.hid (range_keep R2.out st3.fr (nb _ (by omega)))
  have R3 := Lib.hid (range_keep R3.out st3.fr (nb _ (by omega)))
  have nb3 : ∀ k, w1.heap.size ≤ k → k ≤ w1.heap.size + 1 + 1 → ¬ g3.W k := fun k hk hk2 h => (st3.W k h).elim (nb k hk) (fun e => by omega)
  have bl3 := st3.bl
  have hs2 := set_new c3 (by omega) kB okB 5 ⟨by omega, by omega⟩ (by
    rintro ⟨x, hx, e⟩
    simp at hx
    subst hx
    have := congrArg KeyD.src e
    simp [kA, kB] at this)
  rw [bl3] at hs2
  have HS2 := Lib.hid hs2
  have hsz3 := st3.fr.size
  clear hs2 HS1 st3 c3
  go_wp2_with ((refine wpList_valueG (o := ⟨some 22, _, _, _, _, _⟩) rfl (exec_load (ty := 36) rfl rfl R2.out uK rK infoKey) ?_); go_frame)
  refine HS2.out.mono ?_
  rintro e w4 ⟨rfl, g4, c4, st4⟩
  rw [show insS [⟨kA, 7, s1⟩] ⟨kB, 5, g3.sq + 1⟩ = [⟨kB, 5, g3.sq + 1⟩, ⟨kA, 7, s1⟩] by simp [insS]] at c4
  generalize g3.sq + 1 = s2 at c4
  have R1 := Lib.hid (range_keep R1.out st4.fr (nb3 _ (by omega) (by omega)))
  have R2 := Lib.hid (range_keep R2.out st4.fr (nb3 _ (by omega) (by omega)))
  have R3 := Lib.hid (range_keep R3.out st4.fr (nb3 _ (by omega) (by omega)))
  have nb4 : ∀ k, w1.heap.size ≤ k → k ≤ w1.heap.size + 1 + 1 → ¬ g4.W k := fun k hk hk2 h => (st4.W k h).elim (nb3 k hk hk2) (fun e => by omega)
  have bl4 := st4.bl.trans bl3
  have hs3 := set_new c4 (by omega) kD okD 7 ⟨by omega, by omega⟩ (by
    rintro ⟨x, hx, e⟩
    simp at hx
    rcases hx with rfl | rfl
    · have := congrArg KeyD.src e
      simp [kB, kD] at this
    · have := congrArg (fun k => k.id.head?) e
      simp [kA, kD] at this)
  rw [bl4] at hs3
  have HS3 := Lib.hid hs3
  have hsz4 := st4.fr.size
  clear hs3 HS2 st4 c4
  go_wp2_with ((refine wpList_valueG (o := ⟨some 28, _, _, _, _, _⟩) rfl (exec_load (ty := 36) rfl rfl R3.out uK rK infoKey) ?_); go_frame)
  refine HS3.out.mono ?_
  rintro e w5 ⟨rfl, g5, c5, st5⟩
  rw [show insS [⟨kB, 5, s2⟩, ⟨kA, 7, s1⟩] ⟨kD, 7, g4.sq + 1⟩ = [⟨kB, 5, s2⟩, ⟨kA, 7, s1⟩, ⟨kD, 7, g4.sq + 1⟩] by simp [insS]] at c5
  generalize g4.sq + 1 = s3 at c5
  have R1 := Lib.hid (range_keep R1.out st5.fr (nb4 _ (by omega) (by omega)))
  have R2 := Lib.hid (range_keep R2.out st5.fr (nb4 _ (by omega) (by omega)))
  have R3 := Lib.hid (range_keep R3.out st5.fr (nb4 _ (by omega) (by omega)))
  have nb5 : ∀ k, w1.heap.size ≤ k → k ≤ w1.heap.size + 1 + 1 → ¬ g5.W k := fun k hk hk2 h => (st5.W k h).elim (nb4 k hk hk2) (fun e => by omega)
  have bl5 := st5.bl.trans bl4
  have hs4 := set_there c5 kA okA 3 ⟨⟨kA, 7, s1⟩, by simp, rfl⟩
  rw [bl5] at hs4
  have HS4 := Lib.hid hs4
  have hsz5 := st5.fr.size
  have C5 := Lib.hid c5
  clear hs4 HS3 st5 c5
  go_wp2_with ((refine wpList_valueG (o := ⟨some 34, _, _, _, _, _⟩) rfl (exec_load (ty := 36) rfl rfl R1.out uK rK infoKey) ?_); go_frame)
  refine HS4.out.mono ?_
  rintro e w6 ⟨rfl, f6⟩
  have c6 := C5.out.fr0 f6
  have R1 := Lib.hid (range_keep R1.out f6 id)
  have R2 := Lib.hid (range_keep R2.out f6 id)
  have R3 := Lib.hid (range_keep R3.out f6 id)
  have HC6L := Lib.hid (show ∀ k, g5.W k → k < w6.heap.size from c6.at_.wlt)
  have hd1 := due_any c6 (by omega) 6
  rw [bl5] at hd1
  have HD1 := Lib.hid hd1
  have hsz6 := f6.size
  clear hd1 HS4 C5 f6 c6
  go_wp2_with fail
  refine HD1.out.mono ?_
  rintro e w7 ⟨v7, g7, rfl, ro7, c7, W7, sq7, f7⟩
  have e7 : List.takeWhile (dueP 6) [⟨kB, 5, s2⟩, ⟨kA, 7, s1⟩, ⟨kD, 7, s3⟩] = [⟨kB, 5, s2⟩] := by simp [dueP]
  have e7' : List.dropWhile (dueP 6) [⟨kB, 5, s2⟩, ⟨kA, 7, s1⟩, ⟨kD, 7, s3⟩] = [⟨kA, 7, s1⟩, ⟨kD, 7, s3⟩] := by simp [dueP]
  rw [e7] at ro7
  rw [e7'] at c7
  clear e7 e7'
  have R1 := Lib.hid (range_keep R1.out f7 (nb5 _ (by omega) (by omega)))
  have R2 := Lib.hid (range_keep R2.out f7 (nb5 _ (by omega) (by omega)))
  have R3 := Lib.hid (range_keep R3.out f7 (nb5 _ (by omega) (by omega)))
  have nb7 : ∀ k, w1.heap.size ≤ k → k ≤ w1.heap.size + 1 + 1 → ¬ g7.W k := by rw [W7]; exact nb5
  have hd2 := due_any c7 (by omega) 7
  rw [c7.bl] at hd2
  have HD2 := Lib.hid hd2
  have hsz7 := f7.size
  obtain ⟨gb7, cap7, rfl, q7, hgb7⟩ := own_elem (f := keyC) (k := 33) (L := [kB]) (by decide) (by intro x hx; simp at hx; subst hx; rfl) ro7 (i := 0) (x := kB) rfl
  have hg7 : w6.heap.size ≤ gb7 := (ro7.lt gb7 rfl).1
  have nv7 : ¬ g7.W gb7 := fun h => by
    rw [W7] at h
    have := HC6L.out gb7 h
    omega
  have Q7 := Lib.hid (show w7.rangeAt gb7 0 (keyC kB) by simpa using q7)
  clear hd2 HD1 f7 c7 q7 ro7
  go_wp2_with fail
  refine HD2.out.mono ?_
  rintro e w8 ⟨v8, g8, rfl, ro8, c8, W8, sq8, f8⟩
  have e8 : List.takeWhile (dueP 7) [⟨kA, 7, s1⟩, ⟨kD, 7, s3⟩] = [⟨kA, 7, s1⟩, ⟨kD, 7, s3⟩] := by simp [dueP]
  rw [e8] at ro8
  clear e8
  have R1 := Lib.hid (range_keep R1.out f8 (nb7 _ (by omega) (by omega)))
  have R2 := Lib.hid (range_keep R2.out f8 (nb7 _ (by omega) (by omega)))
  have R3 := Lib.hid (range_keep R3.out f8 (nb7 _ (by omega) (by omega)))
  have Q7 := Lib.hid (range_keep Q7.out f8 nv7)
  obtain ⟨gb8, cap8, rfl, q8, hgb8⟩ := own_elem (f := keyC) (k := 33) (L := [kA, kD]) (by decide) (by intro x hx; simp at hx; rcases hx with rfl | rfl <;> rfl) ro8 (i := 0) (x := kA) rfl
  obtain ⟨gb9, cap9, e9, q9, -⟩ := own_elem (f := keyC) (k := 33) (L := [kA, kD]) (by decide) (by intro x hx; simp at hx; rcases hx with rfl | rfl <;> rfl) ro8 (i := 1) (x := kD) rfl
  injection e9 with e9
  injection e9 with e9
  injection e9 with e9
  subst e9
  have Q8 := Lib.hid (show w8.rangeAt gb8 0 (keyC kA) by simpa using q8)
  have Q9 := Lib.hid (show w8.rangeAt gb8 33 (keyC kD) by simpa using q9)
  have HT8 := Lib.hid (HT.out.keep c8.fr id)
  have F8 := Lib.hid c8.fr
  clear ro8 c8 q8 q9 HD2 f8 nb nb3 nb4 nb5 nb7 nv7
  have hS : ∀ W, Fr No w8 W → W.rangeAt gb7 0 (keyC kB) ∧ W.rangeAt gb8 0 (keyC kA) ∧ W.rangeAt gb8 33 (keyC kD) ∧ W.rangeAt w1.heap.size 0 (keyC kA) ∧ W.rangeAt (w1.heap.size + 1) 0 (keyC kB) ∧ W.rangeAt (w1.heap.size + 1 + 1) 0 (keyC kD) := fun W f => ⟨range_keep Q7.out f id, range_keep Q8.out f id, range_keep Q9.out f id, range_keep R1.out f id, range_keep R2.out f id, range_keep R3.out f id⟩
  have HS := Lib.hid hS
  clear hS
  have g0 : Fr No w8 w8.drew := by (repeat (first | with_reducible exact Fr.refl _ _ | with_reducible assumption | with_reducible refine Fr.drew ?_ | with_reducible refine Fr.drewN ?_ _ | with_reducible refine Fr.alloc ?_ _ | with_reducible refine Fr.setCell ?_ _ (.inl (by simp <;> omega)) _))
  go_wp2
  refine wp_region_lexL [false, false, false, false, false, false, false, false, false, false, false, false, false, false, false, false, false, false, false, false, false, false, false, false, false, false, false, false, false, false, true, false, false, false, true, false, false, false, true, false, false, false] (fun W => W.rangeAt gb7 0 (keyC kB) ∧ W.rangeAt gb8 0 (keyC kA) ∧ W.rangeAt gb8 33 (keyC kD) ∧ W.rangeAt w1.heap.size 0 (keyC kA) ∧ W.rangeAt (w1.heap.size + 1) 0 (keyC kB) ∧ W.rangeAt (w1.heap.size + 1 + 1) 0 (keyC kD)) (by kernel_rfl) (by kernel_rfl) ?_ (fun K hK => ?_)
  · exact HS.out _ g0
  repeat (first | ((first | with_reducible refine lexL_read (dst := some 48) ?_ | ((with_reducible refine lexL_readG (dst := some 48) ?_ ?_); (focus rfl))); apply Exists.intro; refine ⟨?_, ?_⟩; (focus (exact lex_load (ty := 36) rfl (fun w h => h.1) uK rK infoKey)); try simp only [Act.put, List.setIfInBounds_toArray, List.set_cons_zero, List.set_cons_succ]) | ((first | with_reducible refine lexL_read (dst := some 60) ?_ | ((with_reducible refine lexL_readG (dst := some 60) ?_ ?_); (focus rfl))); apply Exists.intro; refine ⟨?_, ?_⟩; (focus (exact lex_load (ty := 36) rfl (fun w h => h.2.1) uK rK infoKey)); try simp only [Act.put, List.setIfInBounds_toArray, List.set_cons_zero, List.set_cons_succ]) | ((first | with_reducible refine lexL_read (dst := some 67) ?_ | ((with_reducible refine lexL_readG (dst := some 67) ?_ ?_); (focus rfl))); apply Exists.intro; refine ⟨?_, ?_⟩; (focus (exact lex_load (ty := 36) rfl (fun w h => h.2.2.1) uK rK infoKey)); try simp only [Act.put, List.setIfInBounds_toArray, List.set_cons_zero, List.set_cons_succ]) | ((first | with_reducible refine lexL_read (dst := some 61) ?_ | ((with_reducible refine lexL_readG (dst := some 61) ?_ ?_); (focus rfl))); apply Exists.intro; refine ⟨?_, ?_⟩; (focus (exact lex_load (ty := 36) rfl (fun w h => h.2.2.2.1) uK rK infoKey)); try simp only [Act.put, List.setIfInBounds_toArray, List.set_cons_zero, List.set_cons_succ]) | ((first | with_reducible refine lexL_read (dst := some 49) ?_ | ((with_reducible refine lexL_readG (dst := some 49) ?_ ?_); (focus rfl))); apply Exists.intro; refine ⟨?_, ?_⟩; (focus (exact lex_load (ty := 36) rfl (fun w h => h.2.2.2.2.1) uK rK infoKey)); try simp only [Act.put, List.setIfInBounds_toArray, List.set_cons_zero, List.set_cons_succ]) | ((first | with_reducible refine lexL_read (dst := some 68) ?_ | ((with_reducible refine lexL_readG (dst := some 68) ?_ ?_); (focus rfl))); apply Exists.intro; refine ⟨?_, ?_⟩; (focus (exact lex_load (ty := 36) rfl (fun w h => h.2.2.2.2.2) uK rK infoKey)); try simp only [Act.put, List.setIfInBounds_toArray, List.set_cons_zero, List.set_cons_succ]) | ((first | with_reducible refine lexL_read (dst := some 62) ?_ | ((with_reducible refine lexL_readG (dst := some 62) ?_ ?_); (focus rfl))); apply Exists.intro; refine ⟨?_, ?_⟩; (focus (exact fun w _ => eqKey.exec_eql (u := (keyC kA).toArray) (v := (keyC kA).toArray) rfl rfl rfl (keyOfKey okA) (keyOfKey okA) true (by simp) w)); try simp only [Act.put, List.setIfInBounds_toArray, List.set_cons_zero, List.set_cons_succ]) | ((first | with_reducible refine lexL_read (dst := some 50) ?_ | ((with_reducible refine lexL_readG (dst := some 50) ?_ ?_); (focus rfl))); apply Exists.intro; refine ⟨?_, ?_⟩; (focus (exact fun w _ => eqKey.exec_eql (u := (keyC kB).toArray) (v := (keyC kB).toArray) rfl rfl rfl (keyOfKey okB) (keyOfKey okB) true (by simp) w)); try simp only [Act.put, List.setIfInBounds_toArray, List.set_cons_zero, List.set_cons_succ]) | ((first | with_reducible refine lexL_read (dst := some 69) ?_ | ((with_reducible refine lexL_readG (dst := some 69) ?_ ?_); (focus rfl))); apply Exists.intro; refine ⟨?_, ?_⟩; (focus (exact fun w _ => eqKey.exec_eql (u := (keyC kD).toArray) (v := (keyC kD).toArray) rfl rfl rfl (keyOfKey okD) (keyOfKey okD) true (by simp) w)); try simp only [Act.put, List.setIfInBounds_toArray, List.set_cons_zero, List.set_cons_succ]) | ((first | with_reducible refine lexL_read ?_ | ((with_reducible refine lexL_readG ?_ ?_); (focus rfl))); apply Exists.intro; refine ⟨fun w' hS => ?_, ?_⟩; (focus (obtain _ := hS; go_simp; (try with_reducible rfl); done)); try simp only [Act.put, List.setIfInBounds_toArray, List.set_cons_zero, List.set_cons_succ]) | ((first | ((with_reducible refine lexL_skip (c := false) ?_ ?_ ?_); (focus rfl); (focus rfl)) | ((with_reducible refine lexL_skip (c := true) ?_ ?_ ?_); (focus rfl); (focus rfl)) | ((with_reducible refine lexL_skipU ?_ ?_); (focus rfl))); try simp only [Act.put, List.setIfInBounds_toArray, List.set_cons_zero, List.set_cons_succ]))
  (first | with_reducible refine lexL_eff (fun K' hK' => ?_) | ((with_reducible refine lexL_effG ?_ (fun K' hK' => ?_)); (focus rfl)))
  go_simp
  refine (delay0 _ (HT8.out.keep g0 id)).mono ?_
  rintro e w9 ⟨rfl, f9⟩
  have g1 := g0.trans0 f9
  refine hK'.out _ _ ?_ (fun hS => ?_)
  · exact HS.out _ g1
  try simp only [Act.put, List.setIfInBounds_toArray, List.set_cons_zero, List.set_cons_succ]
  repeat (first | ((first | with_reducible refine lexL_read ?_ | ((with_reducible refine lexL_readG ?_ ?_); (focus rfl))); apply Exists.intro; refine ⟨?_, ?_⟩; (focus (first | (intro w' hS; obtain _ := hS; go_simp; (try with_reducible rfl); done))); try simp only [Act.put, List.setIfInBounds_toArray, List.set_cons_zero, List.set_cons_succ]) | ((first | ((with_reducible refine lexL_skip (c := false) ?_ ?_ ?_); (focus rfl); (focus rfl)) | ((with_reducible refine lexL_skip (c := true) ?_ ?_ ?_); (focus rfl); (focus rfl)) | ((with_reducible refine lexL_skipU ?_ ?_); (focus rfl))); try simp only [Act.put, List.setIfInBounds_toArray, List.set_cons_zero, List.set_cons_succ]))
  (first | with_reducible refine lexL_eff (fun K' hK' => ?_) | ((with_reducible refine lexL_effG ?_ (fun K' hK' => ?_)); (focus rfl)))
  go_simp
  refine (delay1 _ (HT8.out.keep g1 id)).mono ?_
  rintro e w10 ⟨rfl, f10⟩
  have g2 := g1.trans0 f10
  refine hK'.out _ _ ?_ (fun hS => ?_)
  · exact HS.out _ g2
  try simp only [Act.put, List.setIfInBounds_toArray, List.set_cons_zero, List.set_cons_succ]
  repeat (first | ((first | with_reducible refine lexL_read ?_ | ((with_reducible refine lexL_readG ?_ ?_); (focus rfl))); apply Exists.intro; refine ⟨?_, ?_⟩; (focus (first | (intro w' hS; obtain _ := hS; go_simp; (try with_reducible rfl); done))); try simp only [Act.put, List.setIfInBounds_toArray, List.set_cons_zero, List.set_cons_succ]) | ((first | ((with_reducible refine lexL_skip (c := false) ?_ ?_ ?_); (focus rfl); (focus rfl)) | ((with_reducible refine lexL_skip (c := true) ?_ ?_ ?_); (focus rfl); (focus rfl)) | ((with_reducible refine lexL_skipU ?_ ?_); (focus rfl))); try simp only [Act.put, List.setIfInBounds_toArray, List.set_cons_zero, List.set_cons_succ]))
  (first | with_reducible refine lexL_eff (fun K' hK' => ?_) | ((with_reducible refine lexL_effG ?_ (fun K' hK' => ?_)); (focus rfl)))
  go_simp
  refine (delay2 _ (HT8.out.keep g2 id)).mono ?_
  rintro e w11 ⟨rfl, f11⟩
  have g3 := g2.trans0 f11
  refine hK'.out _ _ ?_ (fun hS => ?_)
  · exact HS.out _ g3
  try simp only [Act.put, List.setIfInBounds_toArray, List.set_cons_zero, List.set_cons_succ]
  repeat (first | ((first | with_reducible refine lexL_read ?_ | ((with_reducible refine lexL_readG ?_ ?_); (focus rfl))); apply Exists.intro; refine ⟨?_, ?_⟩; (focus (first | (intro w' hS; obtain _ := hS; go_simp; (try with_reducible rfl); done))); try simp only [Act.put, List.setIfInBounds_toArray, List.set_cons_zero, List.set_cons_succ]) | ((first | ((with_reducible refine lexL_skip (c := false) ?_ ?_ ?_); (focus rfl); (focus rfl)) | ((with_reducible refine lexL_skip (c := true) ?_ ?_ ?_); (focus rfl); (focus rfl)) | ((with_reducible refine lexL_skipU ?_ ?_); (focus rfl))); try simp only [Act.put, List.setIfInBounds_toArray, List.set_cons_zero, List.set_cons_succ]))
  refine lexL_nil (hK.out _ _ ?_)
  have FIN := Lib.hid (F8.out.trans0 g3)
  clear g0 g1 g2 g3 f9 f10 f11 HS
  go_wp2
  go_ret
  exact ⟨rfl, FIN.out⟩
end Go.Proofs.YthmaekkjpginoaaDoor
