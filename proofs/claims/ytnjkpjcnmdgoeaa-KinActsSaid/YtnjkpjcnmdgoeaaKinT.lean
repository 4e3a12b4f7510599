/- pappuslaw12: alive, the first part. -/
import Derived.Test.YtnjkpjcnmdgoeaaKinS
import Derived.Test.YtnjkpjcnmdgoeaaSeq
namespace Go.Proofs.Ytnjkpjcnmdgoeaa
open Go Go.RowKit Go.Maps Go.MapKept

theorem alcH (w : World) {n : Nat} (h : w.heap.size = n) : (Instr.alloc 30 true (.tuple #[])).run Try.prog w = .ok (.pointer (some ⟨n, 0, none⟩)) (w.alloc (.cells (hashC hash0).toArray 30)) := by
  subst h
  kernel_rfl
/-- Three new ids. -/
def triK (w : World) : World := (((w.alloc (.cells (hashC hash0).toArray 30)).alloc (.cells (hashC hash0).toArray 30)).alloc (.cells (hashC hash0).toArray 30))
def triK1 (w : World) : World := (triK w).setCells w.heap.size 0 (hashC hA)
def triK2 (w : World) : World := (triK1 w).setCells (w.heap.size + 1) 0 (hashC hB)
def triK3 (w : World) : World := (triK2 w).setCells (w.heap.size + 1 + 1) 0 (hashC hC)
theorem triK_there (w : World) : (triK w).there w.heap.size 0 32 ∧ (triK w).there (w.heap.size + 1) 0 32 ∧ (triK w).there (w.heap.size + 1 + 1) 0 32 := by
  have h0 : (triK w).heap[w.heap.size]? = some (.cells (hashC hash0).toArray 30 (0, 0)) := old_obj (old_obj (new_obj w _) _) _
  have h1 : (triK w).heap[w.heap.size + 1]? = some (.cells (hashC hash0).toArray 30 (0, 0)) := old_obj (new_obj' (w.alloc _) _ (by simp)) _
  have h2 : (triK w).heap[w.heap.size + 1 + 1]? = some (.cells (hashC hash0).toArray 30 (0, 0)) := new_obj' ((w.alloc _).alloc _) _ (by simp)
  exact ⟨there_obj h0 (by decide), there_obj h1 (by decide), there_obj h2 (by decide)⟩
theorem triK_fr (w : World) : Fr No w (triK3 w) := by
  have f : Fr No w (triK w) := by unfold triK; exact (((Fr.refl No w).alloc _).alloc _).alloc _
  have g : ∀ (b : Nat) (cs : List Value) (W : World), w.heap.size ≤ b → Fr No w W → Fr No w (W.setCells b 0 cs) := fun b cs W hb h =>
    h.trans (setCells_fr b cs 0 W) (fun i hi e => by omega)
  exact g _ _ _ (by omega) (g _ _ _ (by omega) (g _ _ _ (Nat.le_refl _) f))
theorem triK_at (w : World) : (triK1 w).there (w.heap.size + 1) 0 32 ∧ (triK2 w).there (w.heap.size + 1 + 1) 0 32 ∧ (triK3 w).rangeAt w.heap.size 0 (hashC hA) ∧ (triK3 w).rangeAt (w.heap.size + 1) 0 (hashC hB) ∧ (triK3 w).rangeAt (w.heap.size + 1 + 1) 0 (hashC hC) := by
  obtain ⟨t0, t1, t2⟩ := triK_there w
  have u1 : (triK1 w).there (w.heap.size + 1) 0 32 := World.there_setCells t1 _ _ _
  have u2 : (triK2 w).there (w.heap.size + 1 + 1) 0 32 := World.there_setCells (World.there_setCells t2 _ _ _) _ _ _
  refine ⟨u1, u2, ?_, ?_, ?_⟩
  · exact World.rangeAt_setCells_apart (World.rangeAt_setCells_apart (World.rangeAt_setCells_same _ _ _ _ t0) _ _ _ (.inl (by omega))) _ _ _ (.inl (by omega))
  · exact World.rangeAt_setCells_apart (World.rangeAt_setCells_same _ _ _ _ u1) _ _ _ (.inl (by omega))
  · exact World.rangeAt_setCells_same _ _ _ _ u2
theorem RowK.is {w w' : World} {v : Value} {S : List HashD} (h : RowK w w' v S) (ok : ∀ c ∈ S, hashOk c) : IdsIs w' v S := IdsIs.own h.1 ok
section
variable {w0 w : World} {p N : Nat} {V : Nat → Prop} {G : List NodeD}
theorem GC.okUp (h : GC w0 w p V G N) (l : List HashD) : ∀ c ∈ upS G l, hashOk c := fun c hc => h.okId c (up_sub l c hc)
theorem GC.okDown (h : GC w0 w p V G N) (l : List HashD) : ∀ c ∈ downS G l, hashOk c := fun c hc => h.okId c (down_sub l c hc)
end
theorem ids_new3' (w : World) {x y z : HashD} (hx : hashOk x) (hy : hashOk y) (hz : hashOk z) : IdsIs (w.alloc (.cells (hashC x ++ hashC y ++ hashC z).toArray 30)) (.slice (some ⟨w.heap.size, 0, none⟩) 3 3) [x, y, z] := by
  rw [List.append_assoc]
  exact ids_new3 w hx hy hz
theorem inCB : hB ∈ ids gC := by rw [idsC]; simp
theorem infoHash' : (Try.prog.info? 30).map (·.size) = some (hashC hA).length := by kernel_rfl
set_option maxRecDepth 20000 in
set_option maxHeartbeats 4000000 in
theorem aliveK_any (w : World) : Calls Try.prog 10 #[] w fun e w' => e = .returned (.bool true) ∧ Fr No w w' := by
  obtain ⟨dK, uK, rK⟩ := descHash
  have LA := Lib.hid (hashC_len okA)
  have LB := Lib.hid (hashC_len okB)
  have LC := Lib.hid (hashC_len okC)
  have LD := Lib.hid (hashC_len okD)
  go_enter Try.func10, Try.ntmps10
  go_wp2_with fail
  refine (new_K w w (Fr.refl _ _)).mono ?_
  rintro e w1 ⟨p, rfl, V, g1, f1, hV⟩
  obtain ⟨t0, -, -⟩ := triK_there w1
  obtain ⟨t1, t2, r1, r2, r3⟩ := triK_at w1
  have f2 := triK_fr w1
  have T0 := Lib.hid t0
  have T1 := Lib.hid t1
  have T2 := Lib.hid t2
  have A2 := Lib.hid (show AlvAt w (triK3 w1) p V [] 0 w1.heap.size from ⟨g1.fr0 f2, fun j hj => .inl (g1.hi j hj), r1, r2, r3, World.block_lt_of_cell? (triK3 w1) ⟨w1.heap.size + 1 + 1, 0, none⟩ (r3 0 _ rfl)⟩)
  clear t0 t1 t2 r1 r2 r3 f2 f1 hV g1
  have M0 := Lib.hid True.intro
  have M1 := Lib.hid True.intro
  have M2 := Lib.hid True.intro
  have M3 := Lib.hid True.intro
  have M4 := Lib.hid True.intro
  have M5 := Lib.hid True.intro
  have M6 := Lib.hid True.intro
  have M7 := Lib.hid True.intro
  have M8 := Lib.hid True.intro
  have M9 := Lib.hid True.intro
  go_wp2_with (first | ((with_reducible refine at_dst 6 ?_); have mk := M0.out; refine wpList_value rfl (exec_bld (o := ⟨some 6, _, _, _, _, _⟩) (t := 30) rfl rfl (bldA _)) ?_; go_frame; clear mk M0) | ((with_reducible refine at_dst 7 ?_); have mk := M1.out; refine wpList_value rfl (exec_bld (o := ⟨some 7, _, _, _, _, _⟩) (t := 30) rfl rfl (bldB _)) ?_; go_frame; clear mk M1) | ((with_reducible refine at_dst 8 ?_); have mk := M2.out; refine wpList_value rfl (exec_bld (o := ⟨some 8, _, _, _, _, _⟩) (t := 30) rfl rfl (bldC _)) ?_; go_frame; clear mk M2) | ((with_reducible refine at_list ?_); have mk := M3.out; refine wpList_value rfl (exec_alloc (t := 30) rfl (alcH _ (n := w1.heap.size) (by first | rfl | simp))) ?_; go_frame; clear mk M3) | ((with_reducible refine at_list ?_); have mk := M4.out; refine wpList_value rfl (exec_alloc (t := 30) rfl (alcH _ (n := w1.heap.size + 1) (by first | rfl | simp))) ?_; go_frame; clear mk M4) | ((with_reducible refine at_list ?_); have mk := M5.out; refine wpList_value rfl (exec_alloc (t := 30) rfl (alcH _ (n := w1.heap.size + 1 + 1) (by first | rfl | simp))) ?_; go_frame; clear mk M5) | ((with_reducible refine at_store ?_); have mk := M6.out; refine wpList_done (w' := triK1 w1) rfl (exec_store (w := triK w1) (ty := 30) (cs := hashC hA) rfl (by rfl) (by rfl) T0.out infoHash' hashC_one) ?_; go_frame; clear mk M6) | ((with_reducible refine at_store ?_); have mk := M7.out; refine wpList_done (w' := triK2 w1) rfl (exec_store (w := triK1 w1) (ty := 30) (cs := hashC hB) rfl (by rfl) (by rfl) T1.out infoHash' hashC_one) ?_; go_frame; clear mk M7) | ((with_reducible refine at_store ?_); have mk := M8.out; refine wpList_done (w' := triK3 w1) rfl (exec_store (w := triK2 w1) (ty := 30) (cs := hashC hC) rfl (by rfl) (by rfl) T2.out infoHash' hashC_one) ?_; generalize triK3 w1 = w2 at *; generalize w1.heap.size = q0 at *; go_frame; clear mk M8) | ((with_reducible refine at_dst 13 ?_); have mk := M9.out; refine wpList_vG (o := ⟨some 13, _, _, _, _, _⟩) rfl (exec_load (ty := 30) rfl rfl A2.out.ra uK rK (by rw [LA.out]; exact infoHash)) ?_; go_frame; clear mk M9))
  refine (add_K A2.out.gc (by decide) okA (ids_nil _) (by simp)).mono ?_
  rintro e w3 ⟨rfl, V3, g3, f3, s3⟩
  rw [eA]
  rw [eA, if_pos rfl] at g3
  have A3 := Lib.hid (show AlvAt w w3 p V3 gA 1 q0 from A2.out.call g3 f3 s3)
  clear g3 f3 s3 A2
  have N0 := Lib.hid True.intro
  have N1 := Lib.hid True.intro
  have N2 := Lib.hid True.intro
  go_wp2_with (first | ((with_reducible refine at_dst 19 ?_); have mk := N0.out; refine wpList_vG (o := ⟨some 19, _, _, _, _, _⟩) rfl (exec_load (ty := 30) rfl rfl A3.out.rb uK rK (by rw [LB.out]; exact infoHash)) ?_; go_frame; clear mk N0) | ((with_reducible refine at_dst 20 ?_); have mk := N1.out; refine wpList_vG (o := ⟨some 20, _, _, _, _, _⟩) rfl (exec_load (ty := 30) rfl rfl A3.out.ra uK rK (by rw [LA.out]; exact infoHash)) ?_; go_frame; clear mk N1) | ((with_reducible refine at_dst 21 ?_); have mk := N2.out; refine wpList_vG (o := ⟨some 21, _, _, _, _, _⟩) rfl (exec_buildSliceA (t := 27) rfl rfl undIds infoHashZ2 rfl (by decide) (by decide) LA.out) ?_; go_frame; clear mk N2))
  refine (add_K (A3.out.keep ((Fr.refl No w3).alloc (.cells (hashC hA).toArray 30))).gc (by decide) okB (ids_new1 w3 okA) (by simp)).mono ?_
  rintro e w4 ⟨rfl, V4, g4, f4, s4⟩
  rw [eB]
  rw [eB, if_pos rfl] at g4
  have A4 := Lib.hid (show AlvAt w w4 p V4 gB 2 q0 from (A3.out.keep ((Fr.refl No w3).alloc (.cells (hashC hA).toArray 30))).call g4 f4 s4)
  clear g4 f4 s4 A3
  have O0 := Lib.hid True.intro
  have O1 := Lib.hid True.intro
  have O2 := Lib.hid True.intro
  have O3 := Lib.hid True.intro
  go_wp2_with (first | ((with_reducible refine at_dst 27 ?_); have mk := O0.out; refine wpList_vG (o := ⟨some 27, _, _, _, _, _⟩) rfl (exec_load (ty := 30) rfl rfl A4.out.rc uK rK (by rw [LC.out]; exact infoHash)) ?_; go_frame; clear mk O0) | ((with_reducible refine at_dst 28 ?_); have mk := O1.out; refine wpList_vG (o := ⟨some 28, _, _, _, _, _⟩) rfl (exec_load (ty := 30) rfl rfl A4.out.rb uK rK (by rw [LB.out]; exact infoHash)) ?_; go_frame; clear mk O1) | ((with_reducible refine at_dst 29 ?_); have mk := O2.out; refine wpList_vG (o := ⟨some 29, _, _, _, _, _⟩) rfl (exec_load (ty := 30) rfl rfl A4.out.rb uK rK (by rw [LB.out]; exact infoHash)) ?_; go_frame; clear mk O2) | ((with_reducible refine at_dst 30 ?_); have mk := O3.out; refine wpList_vG (o := ⟨some 30, _, _, _, _, _⟩) rfl (exec_buildSlice2 (t := 27) rfl rfl rfl undIds infoHashZ2 rfl (by decide) (by decide) LB.out LB.out) ?_; go_frame; clear mk O3))
  refine (add_K (A4.out.keep ((Fr.refl No w4).alloc (.cells (hashC hB ++ hashC hB).toArray 30))).gc (by decide) okC (ids_new2 w4 okB okB) (by simp)).mono ?_
  rintro e w5 ⟨rfl, V5, g5, f5, s5⟩
  rw [eC]
  rw [eC, if_pos rfl] at g5
  have A5 := Lib.hid (show AlvAt w w5 p V5 gC 3 q0 from (A4.out.keep ((Fr.refl No w4).alloc (.cells (hashC hB ++ hashC hB).toArray 30))).call g5 f5 s5)
  clear g5 f5 s5 A4
  have P0 := Lib.hid True.intro
  go_wp2_with (first | ((with_reducible refine at_dst 36 ?_); have mk := P0.out; refine wpList_vG (o := ⟨some 36, _, _, _, _, _⟩) rfl (exec_load (ty := 30) rfl rfl A5.out.rc uK rK (by rw [LC.out]; exact infoHash)) ?_; go_frame; clear mk P0))
  refine (add_K A5.out.gc (by decide) okC (ids_nil _) (by simp)).mono ?_
  rintro e w6 ⟨rfl, V6, g6, f6, s6⟩
  rw [eC2]
  rw [eC2, if_neg (by decide)] at g6
  have A6 := Lib.hid (show AlvAt w w6 p V6 gC 4 q0 from A5.out.call g6 f6 s6)
  clear g6 f6 s6 A5
  have Q0 := Lib.hid True.intro
  have Q1 := Lib.hid True.intro
  have Q2 := Lib.hid True.intro
  go_wp2_with (first | ((with_reducible refine at_dst 42 ?_); have mk := Q0.out; refine wpList_vG (o := ⟨some 42, _, _, _, _, _⟩) rfl (exec_bld (t := 30) rfl rfl (bldD _)) ?_; go_frame; clear mk Q0) | ((with_reducible refine at_dst 43 ?_); have mk := Q1.out; refine wpList_vG (o := ⟨some 43, _, _, _, _, _⟩) rfl (exec_bld (t := 30) rfl rfl (bldD _)) ?_; go_frame; clear mk Q1) | ((with_reducible refine at_dst 44 ?_); have mk := Q2.out; refine wpList_vG (o := ⟨some 44, _, _, _, _, _⟩) rfl (exec_buildSliceA (t := 27) rfl rfl undIds infoHashZ2 rfl (by decide) (by decide) LD.out) ?_; go_frame; clear mk Q2))
  refine (add_K (A6.out.keep ((Fr.refl No w6).alloc (.cells (hashC hD).toArray 30))).gc (by decide) okD (ids_new1 w6 okD) (by simp)).mono ?_
  rintro e w7 ⟨rfl, V7, g7, f7, s7⟩
  rw [eD]
  rw [eD, if_neg (by decide)] at g7
  have A7 := Lib.hid (show AlvAt w w7 p V7 gC 5 q0 from (A6.out.keep ((Fr.refl No w6).alloc (.cells (hashC hD).toArray 30))).call g7 f7 s7)
  clear g7 f7 s7 A6
  go_wp2
  have A := Lib.hid (A7.out.keep (Fr.refl No w7).drew)
  clear A7
  refine wp_region_lexT 35 [0, 1, 2, 3, 4, 5, 6, 7, 8, 9, 10, 11, 12, 13, 14, 15, 16, 17, 18, 19, 20, 21, 22, 23, 24, 25, 26, 27, 28, 29, 30, 31, 32, 33, 34] (fun w' => w'.rangeAt q0 0 (hashC hA) ∧ w'.rangeAt (q0 + 1) 0 (hashC hB) ∧ w'.rangeAt (q0 + 1 + 1) 0 (hashC hC)) (by kernel_rfl) (by kernel_rfl) (by kernel_rfl) (by kernel_rfl) ?_ (fun K hK => ?_)
  · exact A.out.s
  generalize w7.drew = k0 at *
  (((first | (refine lexT_rd 0 (by kernel_rfl) rfl rfl ?_; apply Exists.intro; refine ⟨?_, ?_⟩; (focus (first | exact lex_load (ty := 30) rfl (fun w h => h.1) uK rK (by rw [LA.out]; exact infoHash) | exact lex_load (ty := 30) rfl (fun w h => h.2.1) uK rK (by rw [LB.out]; exact infoHash) | exact lex_load (ty := 30) rfl (fun w h => h.2.2) uK rK (by rw [LC.out]; exact infoHash) | (intro w' hS; obtain ⟨s1, s2, s3⟩ := hS; go_simp; (try with_reducible rfl); done)))) | (refine lexT_sk 0 (by kernel_rfl) rfl rfl ?_)); try simp only [Act.put, List.setIfInBounds_toArray, List.set_cons_zero, List.set_cons_succ]); ((first | (refine lexT_rd 1 (by kernel_rfl) rfl rfl ?_; apply Exists.intro; refine ⟨?_, ?_⟩; (focus (first | exact lex_load (ty := 30) rfl (fun w h => h.1) uK rK (by rw [LA.out]; exact infoHash) | exact lex_load (ty := 30) rfl (fun w h => h.2.1) uK rK (by rw [LB.out]; exact infoHash) | exact lex_load (ty := 30) rfl (fun w h => h.2.2) uK rK (by rw [LC.out]; exact infoHash) | (intro w' hS; obtain ⟨s1, s2, s3⟩ := hS; go_simp; (try with_reducible rfl); done)))) | (refine lexT_sk 1 (by kernel_rfl) rfl rfl ?_)); try simp only [Act.put, List.setIfInBounds_toArray, List.set_cons_zero, List.set_cons_succ]); ((first | (refine lexT_rd 4 (by kernel_rfl) rfl rfl ?_; apply Exists.intro; refine ⟨?_, ?_⟩; (focus (first | exact lex_load (ty := 30) rfl (fun w h => h.1) uK rK (by rw [LA.out]; exact infoHash) | exact lex_load (ty := 30) rfl (fun w h => h.2.1) uK rK (by rw [LB.out]; exact infoHash) | exact lex_load (ty := 30) rfl (fun w h => h.2.2) uK rK (by rw [LC.out]; exact infoHash) | (intro w' hS; obtain ⟨s1, s2, s3⟩ := hS; go_simp; (try with_reducible rfl); done)))) | (refine lexT_sk 4 (by kernel_rfl) rfl rfl ?_)); try simp only [Act.put, List.setIfInBounds_toArray, List.set_cons_zero, List.set_cons_succ]); ((first | (refine lexT_rd 5 (by kernel_rfl) rfl rfl ?_; apply Exists.intro; refine ⟨?_, ?_⟩; (focus (first | exact lex_load (ty := 30) rfl (fun w h => h.1) uK rK (by rw [LA.out]; exact infoHash) | exact lex_load (ty := 30) rfl (fun w h => h.2.1) uK rK (by rw [LB.out]; exact infoHash) | exact lex_load (ty := 30) rfl (fun w h => h.2.2) uK rK (by rw [LC.out]; exact infoHash) | (intro w' hS; obtain ⟨s1, s2, s3⟩ := hS; go_simp; (try with_reducible rfl); done)))) | (refine lexT_sk 5 (by kernel_rfl) rfl rfl ?_)); try simp only [Act.put, List.setIfInBounds_toArray, List.set_cons_zero, List.set_cons_succ]); ((first | (refine lexT_rd 6 (by kernel_rfl) rfl rfl ?_; apply Exists.intro; refine ⟨?_, ?_⟩; (focus (first | exact lex_load (ty := 30) rfl (fun w h => h.1) uK rK (by rw [LA.out]; exact infoHash) | exact lex_load (ty := 30) rfl (fun w h => h.2.1) uK rK (by rw [LB.out]; exact infoHash) | exact lex_load (ty := 30) rfl (fun w h => h.2.2) uK rK (by rw [LC.out]; exact infoHash) | (intro w' hS; obtain ⟨s1, s2, s3⟩ := hS; go_simp; (try with_reducible rfl); done)))) | (refine lexT_sk 6 (by kernel_rfl) rfl rfl ?_)); try simp only [Act.put, List.setIfInBounds_toArray, List.set_cons_zero, List.set_cons_succ]))
  refine lexT_ef2 2 7 (by kernel_rfl) rfl rfl rfl rfl (fun K' hK' => ?_) (fun K' hK' => ?_)
  · refine wp_value (exec_buildSliceA (t := 27) rfl rfl undIds infoHashZ2 rfl (by decide) (by decide) LC.out) ?_
    have f := Lib.hid ((Fr.refl No k0).alloc (.cells (hashC hC).toArray 30))
    (try replace H1 := Lib.hid (H1.out.keep f.out))
    (try replace H2 := Lib.hid (H2.out.keep f.out))
    (try replace H3 := Lib.hid (H3.out.keep f.out))
    have H1 := Lib.hid (ids_new1 k0 okC)
    replace A := Lib.hid (A.out.keep f.out)
    clear f
    refine hK'.out _ _ ?_ (fun hS => ?_)
    · exact A.out.s
    try simp only [Act.put, List.setIfInBounds_toArray, List.set_cons_zero, List.set_cons_succ]
    clear hS hK' K'
    generalize k0.alloc (.cells (hashC hC).toArray 30) = k1 at *
    generalize k0.heap.size = q2 at *
    refine lexT_ef2 3 7 (by kernel_rfl) rfl rfl rfl rfl (fun K' hK' => ?_) (fun K' hK' => ?_)
    · go_simp
      refine (up_K A.out.gc (by decide) H1.out (by decide)).mono ?_
      rintro e k3 ⟨v2, rfl, o⟩
      have f := Lib.hid o.2
      (try replace H1 := Lib.hid (H1.out.keep f.out))
      (try replace H2 := Lib.hid (H2.out.keep f.out))
      (try replace H3 := Lib.hid (H3.out.keep f.out))
      have H2 := Lib.hid (show IdsIs k3 v2 [hA, hB, hC] by have h := o.is (A.out.gc.okUp [hC]); rw [uC] at h; exact h)
      replace A := Lib.hid (A.out.keep f.out)
      clear f o
      refine hK'.out _ _ ?_ (fun hS => ?_)
      · exact A.out.s
      try simp only [Act.put, List.setIfInBounds_toArray, List.set_cons_zero, List.set_cons_succ]
      clear hS hK' K'
      refine lexT_ef1 7 (by kernel_rfl) rfl rfl (fun K' hK' => ?_)
      refine wp_value (exec_buildSlice3 (t := 27) rfl rfl rfl rfl undIds infoHashZ2 rfl (by decide) (by decide) LA.out LB.out LC.out) ?_
      have f := Lib.hid ((Fr.refl No k3).alloc (.cells (hashC hA ++ hashC hB ++ hashC hC).toArray 30))
      (try replace H1 := Lib.hid (H1.out.keep f.out))
      (try replace H2 := Lib.hid (H2.out.keep f.out))
      (try replace H3 := Lib.hid (H3.out.keep f.out))
      have H3 := Lib.hid (ids_new3' k3 okA okB okC)
      replace A := Lib.hid (A.out.keep f.out)
      clear f
      refine hK'.out _ _ ?_ (fun hS => ?_)
      · exact A.out.s
      try simp only [Act.put, List.setIfInBounds_toArray, List.set_cons_zero, List.set_cons_succ]
      clear hS hK' K'
      generalize k3.alloc (.cells (hashC hA ++ hashC hB ++ hashC hC).toArray 30) = k4 at *
      generalize k3.heap.size = q5 at *
      refine lexT_ef1 8 (by kernel_rfl) rfl rfl (fun K' hK' => ?_)
      go_simp
      refine (sameIds_any k4 H2.out H3.out (by decide) (by decide)).mono ?_
      rintro e k6 ⟨bb, rfl, hbb, f0⟩
      obtain rfl : bb = true := hbb.2 rfl
      have f := Lib.hid f0
      replace A := Lib.hid (A.out.keep f.out)
      clear f f0 hbb H1 H2 H3
      refine hK'.out _ _ ?_ (fun hS => ?_)
      · exact A.out.s
      try simp only [Act.put, List.setIfInBounds_toArray, List.set_cons_zero, List.set_cons_succ]
      clear hS hK' K'
      (((first | (refine lexT_rd 9 (by kernel_rfl) rfl rfl ?_; apply Exists.intro; refine ⟨?_, ?_⟩; (focus (first | exact lex_load (ty := 30) rfl (fun w h => h.1) uK rK (by rw [LA.out]; exact infoHash) | exact lex_load (ty := 30) rfl (fun w h => h.2.1) uK rK (by rw [LB.out]; exact infoHash) | exact lex_load (ty := 30) rfl (fun w h => h.2.2) uK rK (by rw [LC.out]; exact infoHash) | (intro w' hS; obtain ⟨s1, s2, s3⟩ := hS; go_simp; (try with_reducible rfl); done)))) | (refine lexT_sk 9 (by kernel_rfl) rfl rfl ?_)); try simp only [Act.put, List.setIfInBounds_toArray, List.set_cons_zero, List.set_cons_succ]); ((first | (refine lexT_rd 10 (by kernel_rfl) rfl rfl ?_; apply Exists.intro; refine ⟨?_, ?_⟩; (focus (first | exact lex_load (ty := 30) rfl (fun w h => h.1) uK rK (by rw [LA.out]; exact infoHash) | exact lex_load (ty := 30) rfl (fun w h => h.2.1) uK rK (by rw [LB.out]; exact infoHash) | exact lex_load (ty := 30) rfl (fun w h => h.2.2) uK rK (by rw [LC.out]; exact infoHash) | (intro w' hS; obtain ⟨s1, s2, s3⟩ := hS; go_simp; (try with_reducible rfl); done)))) | (refine lexT_sk 10 (by kernel_rfl) rfl rfl ?_)); try simp only [Act.put, List.setIfInBounds_toArray, List.set_cons_zero, List.set_cons_succ]); ((first | (refine lexT_rd 11 (by kernel_rfl) rfl rfl ?_; apply Exists.intro; refine ⟨?_, ?_⟩; (focus (first | exact lex_load (ty := 30) rfl (fun w h => h.1) uK rK (by rw [LA.out]; exact infoHash) | exact lex_load (ty := 30) rfl (fun w h => h.2.1) uK rK (by rw [LB.out]; exact infoHash) | exact lex_load (ty := 30) rfl (fun w h => h.2.2) uK rK (by rw [LC.out]; exact infoHash) | (intro w' hS; obtain ⟨s1, s2, s3⟩ := hS; go_simp; (try with_reducible rfl); done)))) | (refine lexT_sk 11 (by kernel_rfl) rfl rfl ?_)); try simp only [Act.put, List.setIfInBounds_toArray, List.set_cons_zero, List.set_cons_succ]); ((first | (refine lexT_rd 14 (by kernel_rfl) rfl rfl ?_; apply Exists.intro; refine ⟨?_, ?_⟩; (focus (first | exact lex_load (ty := 30) rfl (fun w h => h.1) uK rK (by rw [LA.out]; exact infoHash) | exact lex_load (ty := 30) rfl (fun w h => h.2.1) uK rK (by rw [LB.out]; exact infoHash) | exact lex_load (ty := 30) rfl (fun w h => h.2.2) uK rK (by rw [LC.out]; exact infoHash) | (intro w' hS; obtain ⟨s1, s2, s3⟩ := hS; go_simp; (try with_reducible rfl); done)))) | (refine lexT_sk 14 (by kernel_rfl) rfl rfl ?_)); try simp only [Act.put, List.setIfInBounds_toArray, List.set_cons_zero, List.set_cons_succ]); ((first | (refine lexT_rd 15 (by kernel_rfl) rfl rfl ?_; apply Exists.intro; refine ⟨?_, ?_⟩; (focus (first | exact lex_load (ty := 30) rfl (fun w h => h.1) uK rK (by rw [LA.out]; exact infoHash) | exact lex_load (ty := 30) rfl (fun w h => h.2.1) uK rK (by rw [LB.out]; exact infoHash) | exact lex_load (ty := 30) rfl (fun w h => h.2.2) uK rK (by rw [LC.out]; exact infoHash) | (intro w' hS; obtain ⟨s1, s2, s3⟩ := hS; go_simp; (try with_reducible rfl); done)))) | (refine lexT_sk 15 (by kernel_rfl) rfl rfl ?_)); try simp only [Act.put, List.setIfInBounds_toArray, List.set_cons_zero, List.set_cons_succ]))
      refine lexT_ef2 12 16 (by kernel_rfl) rfl rfl rfl rfl (fun K' hK' => ?_) (fun K' hK' => ?_)
      · refine wp_value (exec_buildSliceA (t := 27) rfl rfl undIds infoHashZ2 rfl (by decide) (by decide) LB.out) ?_
        have f := Lib.hid ((Fr.refl No k6).alloc (.cells (hashC hB).toArray 30))
        (try replace H1 := Lib.hid (H1.out.keep f.out))
        (try replace H2 := Lib.hid (H2.out.keep f.out))
        (try replace H3 := Lib.hid (H3.out.keep f.out))
        have H1 := Lib.hid (ids_new1 k6 okB)
        replace A := Lib.hid (A.out.keep f.out)
        clear f
        refine hK'.out _ _ ?_ (fun hS => ?_)
        · exact A.out.s
        try simp only [Act.put, List.setIfInBounds_toArray, List.set_cons_zero, List.set_cons_succ]
        clear hS hK' K'
        generalize k6.alloc (.cells (hashC hB).toArray 30) = k7 at *
        generalize k6.heap.size = q8 at *
        refine lexT_ef2 13 16 (by kernel_rfl) rfl rfl rfl rfl (fun K' hK' => ?_) (fun K' hK' => ?_)
        · go_simp
          refine (down_K A.out.gc (by decide) H1.out (by decide)).mono ?_
          rintro e k9 ⟨v2, rfl, o⟩
          have f := Lib.hid o.2
          (try replace H1 := Lib.hid (H1.out.keep f.out))
          (try replace H2 := Lib.hid (H2.out.keep f.out))
          (try replace H3 := Lib.hid (H3.out.keep f.out))
          have H2 := Lib.hid (show IdsIs k9 v2 [hB, hC] by have h := o.is (A.out.gc.okDown [hB]); rw [dC] at h; exact h)
          replace A := Lib.hid (A.out.keep f.out)
          clear f o
          refine hK'.out _ _ ?_ (fun hS => ?_)
          · exact A.out.s
          try simp only [Act.put, List.setIfInBounds_toArray, List.set_cons_zero, List.set_cons_succ]
          clear hS hK' K'
          refine lexT_ef1 16 (by kernel_rfl) rfl rfl (fun K' hK' => ?_)
          refine wp_value (exec_buildSlice2 (t := 27) rfl rfl rfl undIds infoHashZ2 rfl (by decide) (by decide) LB.out LC.out) ?_
          have f := Lib.hid ((Fr.refl No k9).alloc (.cells (hashC hB ++ hashC hC).toArray 30))
          (try replace H1 := Lib.hid (H1.out.keep f.out))
          (try replace H2 := Lib.hid (H2.out.keep f.out))
          (try replace H3 := Lib.hid (H3.out.keep f.out))
          have H3 := Lib.hid (ids_new2 k9 okB okC)
          replace A := Lib.hid (A.out.keep f.out)
          clear f
          refine hK'.out _ _ ?_ (fun hS => ?_)
          · exact A.out.s
          try simp only [Act.put, List.setIfInBounds_toArray, List.set_cons_zero, List.set_cons_succ]
          clear hS hK' K'
          generalize k9.alloc (.cells (hashC hB ++ hashC hC).toArray 30) = k10 at *
          generalize k9.heap.size = q11 at *
          refine lexT_ef1 17 (by kernel_rfl) rfl rfl (fun K' hK' => ?_)
          go_simp
          refine (sameIds_any k10 H2.out H3.out (by decide) (by decide)).mono ?_
          rintro e k12 ⟨bb, rfl, hbb, f0⟩
          obtain rfl : bb = true := hbb.2 rfl
          have f := Lib.hid f0
          replace A := Lib.hid (A.out.keep f.out)
          clear f f0 hbb H1 H2 H3
          refine hK'.out _ _ ?_ (fun hS => ?_)
          · exact A.out.s
          try simp only [Act.put, List.setIfInBounds_toArray, List.set_cons_zero, List.set_cons_succ]
          clear hS hK' K'
          (((first | (refine lexT_rd 18 (by kernel_rfl) rfl rfl ?_; apply Exists.intro; refine ⟨?_, ?_⟩; (focus (first | exact lex_load (ty := 30) rfl (fun w h => h.1) uK rK (by rw [LA.out]; exact infoHash) | exact lex_load (ty := 30) rfl (fun w h => h.2.1) uK rK (by rw [LB.out]; exact infoHash) | exact lex_load (ty := 30) rfl (fun w h => h.2.2) uK rK (by rw [LC.out]; exact infoHash) | (intro w' hS; obtain ⟨s1, s2, s3⟩ := hS; go_simp; (try with_reducible rfl); done)))) | (refine lexT_sk 18 (by kernel_rfl) rfl rfl ?_)); try simp only [Act.put, List.setIfInBounds_toArray, List.set_cons_zero, List.set_cons_succ]); ((first | (refine lexT_rd 19 (by kernel_rfl) rfl rfl ?_; apply Exists.intro; refine ⟨?_, ?_⟩; (focus (first | exact lex_load (ty := 30) rfl (fun w h => h.1) uK rK (by rw [LA.out]; exact infoHash) | exact lex_load (ty := 30) rfl (fun w h => h.2.1) uK rK (by rw [LB.out]; exact infoHash) | exact lex_load (ty := 30) rfl (fun w h => h.2.2) uK rK (by rw [LC.out]; exact infoHash) | (intro w' hS; obtain ⟨s1, s2, s3⟩ := hS; go_simp; (try with_reducible rfl); done)))) | (refine lexT_sk 19 (by kernel_rfl) rfl rfl ?_)); try simp only [Act.put, List.setIfInBounds_toArray, List.set_cons_zero, List.set_cons_succ]); ((first | (refine lexT_rd 20 (by kernel_rfl) rfl rfl ?_; apply Exists.intro; refine ⟨?_, ?_⟩; (focus (first | exact lex_load (ty := 30) rfl (fun w h => h.1) uK rK (by rw [LA.out]; exact infoHash) | exact lex_load (ty := 30) rfl (fun w h => h.2.1) uK rK (by rw [LB.out]; exact infoHash) | exact lex_load (ty := 30) rfl (fun w h => h.2.2) uK rK (by rw [LC.out]; exact infoHash) | (intro w' hS; obtain ⟨s1, s2, s3⟩ := hS; go_simp; (try with_reducible rfl); done)))) | (refine lexT_sk 20 (by kernel_rfl) rfl rfl ?_)); try simp only [Act.put, List.setIfInBounds_toArray, List.set_cons_zero, List.set_cons_succ]); ((first | (refine lexT_rd 21 (by kernel_rfl) rfl rfl ?_; apply Exists.intro; refine ⟨?_, ?_⟩; (focus (first | exact lex_load (ty := 30) rfl (fun w h => h.1) uK rK (by rw [LA.out]; exact infoHash) | exact lex_load (ty := 30) rfl (fun w h => h.2.1) uK rK (by rw [LB.out]; exact infoHash) | exact lex_load (ty := 30) rfl (fun w h => h.2.2) uK rK (by rw [LC.out]; exact infoHash) | (intro w' hS; obtain ⟨s1, s2, s3⟩ := hS; go_simp; (try with_reducible rfl); done)))) | (refine lexT_sk 21 (by kernel_rfl) rfl rfl ?_)); try simp only [Act.put, List.setIfInBounds_toArray, List.set_cons_zero, List.set_cons_succ]))
          refine lexT_ef1 22 (by kernel_rfl) rfl rfl (fun K' hK' => ?_)
          go_simp
          refine (lift_K A.out.gc (by decide) okB).mono ?_
          rintro e k13 ⟨rfl, V14, g8, f8, s8⟩
          rw [if_pos inCB]
          replace A := Lib.hid (A.out.call g8 f8 (fun j h => .inl (s8 j h)))
          clear g8 f8 s8
          refine hK'.out _ _ ?_ (fun hS => ?_)
          · exact A.out.s
          try simp only [Act.put, List.setIfInBounds_toArray, List.set_cons_zero, List.set_cons_succ]
          clear hS hK' K'
          (((first | (refine lexT_rd 23 (by kernel_rfl) rfl rfl ?_; apply Exists.intro; refine ⟨?_, ?_⟩; (focus (first | exact lex_load (ty := 30) rfl (fun w h => h.1) uK rK (by rw [LA.out]; exact infoHash) | exact lex_load (ty := 30) rfl (fun w h => h.2.1) uK rK (by rw [LB.out]; exact infoHash) | exact lex_load (ty := 30) rfl (fun w h => h.2.2) uK rK (by rw [LC.out]; exact infoHash) | (intro w' hS; obtain ⟨s1, s2, s3⟩ := hS; go_simp; (try with_reducible rfl); done)))) | (refine lexT_sk 23 (by kernel_rfl) rfl rfl ?_)); try simp only [Act.put, List.setIfInBounds_toArray, List.set_cons_zero, List.set_cons_succ]); ((first | (refine lexT_rd 24 (by kernel_rfl) rfl rfl ?_; apply Exists.intro; refine ⟨?_, ?_⟩; (focus (first | exact lex_load (ty := 30) rfl (fun w h => h.1) uK rK (by rw [LA.out]; exact infoHash) | exact lex_load (ty := 30) rfl (fun w h => h.2.1) uK rK (by rw [LB.out]; exact infoHash) | exact lex_load (ty := 30) rfl (fun w h => h.2.2) uK rK (by rw [LC.out]; exact infoHash) | (intro w' hS; obtain ⟨s1, s2, s3⟩ := hS; go_simp; (try with_reducible rfl); done)))) | (refine lexT_sk 24 (by kernel_rfl) rfl rfl ?_)); try simp only [Act.put, List.setIfInBounds_toArray, List.set_cons_zero, List.set_cons_succ]); ((first | (refine lexT_rd 25 (by kernel_rfl) rfl rfl ?_; apply Exists.intro; refine ⟨?_, ?_⟩; (focus (first | exact lex_load (ty := 30) rfl (fun w h => h.1) uK rK (by rw [LA.out]; exact infoHash) | exact lex_load (ty := 30) rfl (fun w h => h.2.1) uK rK (by rw [LB.out]; exact infoHash) | exact lex_load (ty := 30) rfl (fun w h => h.2.2) uK rK (by rw [LC.out]; exact infoHash) | (intro w' hS; obtain ⟨s1, s2, s3⟩ := hS; go_simp; (try with_reducible rfl); done)))) | (refine lexT_sk 25 (by kernel_rfl) rfl rfl ?_)); try simp only [Act.put, List.setIfInBounds_toArray, List.set_cons_zero, List.set_cons_succ]); ((first | (refine lexT_rd 26 (by kernel_rfl) rfl rfl ?_; apply Exists.intro; refine ⟨?_, ?_⟩; (focus (first | exact lex_load (ty := 30) rfl (fun w h => h.1) uK rK (by rw [LA.out]; exact infoHash) | exact lex_load (ty := 30) rfl (fun w h => h.2.1) uK rK (by rw [LB.out]; exact infoHash) | exact lex_load (ty := 30) rfl (fun w h => h.2.2) uK rK (by rw [LC.out]; exact infoHash) | (intro w' hS; obtain ⟨s1, s2, s3⟩ := hS; go_simp; (try with_reducible rfl); done)))) | (refine lexT_sk 26 (by kernel_rfl) rfl rfl ?_)); try simp only [Act.put, List.setIfInBounds_toArray, List.set_cons_zero, List.set_cons_succ]); ((first | (refine lexT_rd 27 (by kernel_rfl) rfl rfl ?_; apply Exists.intro; refine ⟨?_, ?_⟩; (focus (first | exact lex_load (ty := 30) rfl (fun w h => h.1) uK rK (by rw [LA.out]; exact infoHash) | exact lex_load (ty := 30) rfl (fun w h => h.2.1) uK rK (by rw [LB.out]; exact infoHash) | exact lex_load (ty := 30) rfl (fun w h => h.2.2) uK rK (by rw [LC.out]; exact infoHash) | (intro w' hS; obtain ⟨s1, s2, s3⟩ := hS; go_simp; (try with_reducible rfl); done)))) | (refine lexT_sk 27 (by kernel_rfl) rfl rfl ?_)); try simp only [Act.put, List.setIfInBounds_toArray, List.set_cons_zero, List.set_cons_succ]); ((first | (refine lexT_rd 30 (by kernel_rfl) rfl rfl ?_; apply Exists.intro; refine ⟨?_, ?_⟩; (focus (first | exact lex_load (ty := 30) rfl (fun w h => h.1) uK rK (by rw [LA.out]; exact infoHash) | exact lex_load (ty := 30) rfl (fun w h => h.2.1) uK rK (by rw [LB.out]; exact infoHash) | exact lex_load (ty := 30) rfl (fun w h => h.2.2) uK rK (by rw [LC.out]; exact infoHash) | (intro w' hS; obtain ⟨s1, s2, s3⟩ := hS; go_simp; (try with_reducible rfl); done)))) | (refine lexT_sk 30 (by kernel_rfl) rfl rfl ?_)); try simp only [Act.put, List.setIfInBounds_toArray, List.set_cons_zero, List.set_cons_succ]))
          refine lexT_ef2 28 31 (by kernel_rfl) rfl rfl rfl rfl (fun K' hK' => ?_) (fun K' hK' => ?_)
          · refine wp_value (exec_buildSliceA (t := 27) rfl rfl undIds infoHashZ2 rfl (by decide) (by decide) LC.out) ?_
            have f := Lib.hid ((Fr.refl No k13).alloc (.cells (hashC hC).toArray 30))
            (try replace H1 := Lib.hid (H1.out.keep f.out))
            (try replace H2 := Lib.hid (H2.out.keep f.out))
            (try replace H3 := Lib.hid (H3.out.keep f.out))
            have H1 := Lib.hid (ids_new1 k13 okC)
            replace A := Lib.hid (A.out.keep f.out)
            clear f
            refine hK'.out _ _ ?_ (fun hS => ?_)
            · exact A.out.s
            try simp only [Act.put, List.setIfInBounds_toArray, List.set_cons_zero, List.set_cons_succ]
            clear hS hK' K'
            generalize k13.alloc (.cells (hashC hC).toArray 30) = k15 at *
            generalize k13.heap.size = q16 at *
            refine lexT_ef2 29 31 (by kernel_rfl) rfl rfl rfl rfl (fun K' hK' => ?_) (fun K' hK' => ?_)
            · go_simp
              refine (up_K A.out.gc (by decide) H1.out (by decide)).mono ?_
              rintro e k17 ⟨v2, rfl, o⟩
              have f := Lib.hid o.2
              (try replace H1 := Lib.hid (H1.out.keep f.out))
              (try replace H2 := Lib.hid (H2.out.keep f.out))
              (try replace H3 := Lib.hid (H3.out.keep f.out))
              have H2 := Lib.hid (show IdsIs k17 v2 [hC] by have h := o.is (A.out.gc.okUp [hC]); rw [uL] at h; exact h)
              replace A := Lib.hid (A.out.keep f.out)
              clear f o
              refine hK'.out _ _ ?_ (fun hS => ?_)
              · exact A.out.s
              try simp only [Act.put, List.setIfInBounds_toArray, List.set_cons_zero, List.set_cons_succ]
              clear hS hK' K'
              refine lexT_ef1 31 (by kernel_rfl) rfl rfl (fun K' hK' => ?_)
              refine wp_value (exec_buildSliceA (t := 27) rfl rfl undIds infoHashZ2 rfl (by decide) (by decide) LC.out) ?_
              have f := Lib.hid ((Fr.refl No k17).alloc (.cells (hashC hC).toArray 30))
              (try replace H1 := Lib.hid (H1.out.keep f.out))
              (try replace H2 := Lib.hid (H2.out.keep f.out))
              (try replace H3 := Lib.hid (H3.out.keep f.out))
              have H3 := Lib.hid (ids_new1 k17 okC)
              replace A := Lib.hid (A.out.keep f.out)
              clear f
              refine hK'.out _ _ ?_ (fun hS => ?_)
              · exact A.out.s
              try simp only [Act.put, List.setIfInBounds_toArray, List.set_cons_zero, List.set_cons_succ]
              clear hS hK' K'
              generalize k17.alloc (.cells (hashC hC).toArray 30) = k18 at *
              generalize k17.heap.size = q19 at *
              refine lexT_ef1 32 (by kernel_rfl) rfl rfl (fun K' hK' => ?_)
              go_simp
              refine (sameIds_any k18 H2.out H3.out (by decide) (by decide)).mono ?_
              rintro e k20 ⟨bb, rfl, hbb, f0⟩
              obtain rfl : bb = true := hbb.2 rfl
              have f := Lib.hid f0
              replace A := Lib.hid (A.out.keep f.out)
              clear f f0 hbb H1 H2 H3
              refine hK'.out _ _ ?_ (fun hS => ?_)
              · exact A.out.s
              try simp only [Act.put, List.setIfInBounds_toArray, List.set_cons_zero, List.set_cons_succ]
              clear hS hK' K'
              (((first | (refine lexT_rd 33 (by kernel_rfl) rfl rfl ?_; apply Exists.intro; refine ⟨?_, ?_⟩; (focus (first | exact lex_load (ty := 30) rfl (fun w h => h.1) uK rK (by rw [LA.out]; exact infoHash) | exact lex_load (ty := 30) rfl (fun w h => h.2.1) uK rK (by rw [LB.out]; exact infoHash) | exact lex_load (ty := 30) rfl (fun w h => h.2.2) uK rK (by rw [LC.out]; exact infoHash) | (intro w' hS; obtain ⟨s1, s2, s3⟩ := hS; go_simp; (try with_reducible rfl); done)))) | (refine lexT_sk 33 (by kernel_rfl) rfl rfl ?_)); try simp only [Act.put, List.setIfInBounds_toArray, List.set_cons_zero, List.set_cons_succ]); ((first | (refine lexT_rd 34 (by kernel_rfl) rfl rfl ?_; apply Exists.intro; refine ⟨?_, ?_⟩; (focus (first | exact lex_load (ty := 30) rfl (fun w h => h.1) uK rK (by rw [LA.out]; exact infoHash) | exact lex_load (ty := 30) rfl (fun w h => h.2.1) uK rK (by rw [LB.out]; exact infoHash) | exact lex_load (ty := 30) rfl (fun w h => h.2.2) uK rK (by rw [LC.out]; exact infoHash) | (intro w' hS; obtain ⟨s1, s2, s3⟩ := hS; go_simp; (try with_reducible rfl); done)))) | (refine lexT_sk 34 (by kernel_rfl) rfl rfl ?_)); try simp only [Act.put, List.setIfInBounds_toArray, List.set_cons_zero]))
              refine lexT_nil (hK.out _ _ ?_)
              go_wp2
              go_ret
              exact ⟨by rfl, A.out.gc.fr⟩
            · refine wp_value (exec_buildSliceA (t := 27) rfl rfl undIds infoHashZ2 rfl (by decide) (by decide) LC.out) ?_
              have f := Lib.hid ((Fr.refl No k15).alloc (.cells (hashC hC).toArray 30))
              (try replace H1 := Lib.hid (H1.out.keep f.out))
              (try replace H2 := Lib.hid (H2.out.keep f.out))
              (try replace H3 := Lib.hid (H3.out.keep f.out))
              have H3 := Lib.hid (ids_new1 k15 okC)
              replace A := Lib.hid (A.out.keep f.out)
              clear f
              refine hK'.out _ _ ?_ (fun hS => ?_)
              · exact A.out.s
              try simp only [Act.put, List.setIfInBounds_toArray, List.set_cons_zero, List.set_cons_succ]
              clear hS hK' K'
              generalize k15.alloc (.cells (hashC hC).toArray 30) = k21 at *
              generalize k15.heap.size = q22 at *
              refine lexT_ef1 29 (by kernel_rfl) rfl rfl (fun K' hK' => ?_)
              go_simp
              refine (up_K A.out.gc (by decide) H1.out (by decide)).mono ?_
              rintro e k23 ⟨v2, rfl, o⟩
              have f := Lib.hid o.2
              (try replace H1 := Lib.hid (H1.out.keep f.out))
              (try replace H2 := Lib.hid (H2.out.keep f.out))
              (try replace H3 := Lib.hid (H3.out.keep f.out))
              have H2 := Lib.hid (show IdsIs k23 v2 [hC] by have h := o.is (A.out.gc.okUp [hC]); rw [uL] at h; exact h)
              replace A := Lib.hid (A.out.keep f.out)
              clear f o
              refine hK'.out _ _ ?_ (fun hS => ?_)
              · exact A.out.s
              try simp only [Act.put, List.setIfInBounds_toArray, List.set_cons_zero, List.set_cons_succ]
              clear hS hK' K'
              refine lexT_ef1 32 (by kernel_rfl) rfl rfl (fun K' hK' => ?_)
              go_simp
              refine (sameIds_any k23 H2.out H3.out (by decide) (by decide)).mono ?_
              rintro e k24 ⟨bb, rfl, hbb, f0⟩
              obtain rfl : bb = true := hbb.2 rfl
              have f := Lib.hid f0
              replace A := Lib.hid (A.out.keep f.out)
              clear f f0 hbb H1 H2 H3
              refine hK'.out _ _ ?_ (fun hS => ?_)
              · exact A.out.s
              try simp only [Act.put, List.setIfInBounds_toArray, List.set_cons_zero, List.set_cons_succ]
              clear hS hK' K'
              (((first | (refine lexT_rd 33 (by kernel_rfl) rfl rfl ?_; apply Exists.intro; refine ⟨?_, ?_⟩; (focus (first | exact lex_load (ty := 30) rfl (fun w h => h.1) uK rK (by rw [LA.out]; exact infoHash) | exact lex_load (ty := 30) rfl (fun w h => h.2.1) uK rK (by rw [LB.out]; exact infoHash) | exact lex_load (ty := 30) rfl (fun w h => h.2.2) uK rK (by rw [LC.out]; exact infoHash) | (intro w' hS; obtain ⟨s1, s2, s3⟩ := hS; go_simp; (try with_reducible rfl); done)))) | (refine lexT_sk 33 (by kernel_rfl) rfl rfl ?_)); try simp only [Act.put, List.setIfInBounds_toArray, List.set_cons_zero, List.set_cons_succ]); ((first | (refine lexT_rd 34 (by kernel_rfl) rfl rfl ?_; apply Exists.intro; refine ⟨?_, ?_⟩; (focus (first | exact lex_load (ty := 30) rfl (fun w h => h.1) uK rK (by rw [LA.out]; exact infoHash) | exact lex_load (ty := 30) rfl (fun w h => h.2.1) uK rK (by rw [LB.out]; exact infoHash) | exact lex_load (ty := 30) rfl (fun w h => h.2.2) uK rK (by rw [LC.out]; exact infoHash) | (intro w' hS; obtain ⟨s1, s2, s3⟩ := hS; go_simp; (try with_reducible rfl); done)))) | (refine lexT_sk 34 (by kernel_rfl) rfl rfl ?_)); try simp only [Act.put, List.setIfInBounds_toArray, List.set_cons_zero]))
              refine lexT_nil (hK.out _ _ ?_)
              go_wp2
              go_ret
              exact ⟨by rfl, A.out.gc.fr⟩
          · refine wp_value (exec_buildSliceA (t := 27) rfl rfl undIds infoHashZ2 rfl (by decide) (by decide) LC.out) ?_
            have f := Lib.hid ((Fr.refl No k13).alloc (.cells (hashC hC).toArray 30))
            (try replace H1 := Lib.hid (H1.out.keep f.out))
            (try replace H2 := Lib.hid (H2.out.keep f.out))
            (try replace H3 := Lib.hid (H3.out.keep f.out))
            have H3 := Lib.hid (ids_new1 k13 okC)
            replace A := Lib.hid (A.out.keep f.out)
            clear f
            refine hK'.out _ _ ?_ (fun hS => ?_)
            · exact A.out.s
            try simp only [Act.put, List.setIfInBounds_toArray, List.set_cons_zero, List.set_cons_succ]
            clear hS hK' K'
            generalize k13.alloc (.cells (hashC hC).toArray 30) = k25 at *
            generalize k13.heap.size = q26 at *
            refine lexT_ef1 28 (by kernel_rfl) rfl rfl (fun K' hK' => ?_)
            refine wp_value (exec_buildSliceA (t := 27) rfl rfl undIds infoHashZ2 rfl (by decide) (by decide) LC.out) ?_
            have f := Lib.hid ((Fr.refl No k25).alloc (.cells (hashC hC).toArray 30))
            (try replace H1 := Lib.hid (H1.out.keep f.out))
            (try replace H2 := Lib.hid (H2.out.keep f.out))
            (try replace H3 := Lib.hid (H3.out.keep f.out))
            have H1 := Lib.hid (ids_new1 k25 okC)
            replace A := Lib.hid (A.out.keep f.out)
            clear f
            refine hK'.out _ _ ?_ (fun hS => ?_)
            · exact A.out.s
            try simp only [Act.put, List.setIfInBounds_toArray, List.set_cons_zero, List.set_cons_succ]
            clear hS hK' K'
            generalize k25.alloc (.cells (hashC hC).toArray 30) = k27 at *
            generalize k25.heap.size = q28 at *
            refine lexT_ef1 29 (by kernel_rfl) rfl rfl (fun K' hK' => ?_)
            go_simp
            refine (up_K A.out.gc (by decide) H1.out (by decide)).mono ?_
            rintro e k29 ⟨v2, rfl, o⟩
            have f := Lib.hid o.2
            (try replace H1 := Lib.hid (H1.out.keep f.out))
            (try replace H2 := Lib.hid (H2.out.keep f.out))
            (try replace H3 := Lib.hid (H3.out.keep f.out))
            have H2 := Lib.hid (show IdsIs k29 v2 [hC] by have h := o.is (A.out.gc.okUp [hC]); rw [uL] at h; exact h)
            replace A := Lib.hid (A.out.keep f.out)
            clear f o
            refine hK'.out _ _ ?_ (fun hS => ?_)
            · exact A.out.s
            try simp only [Act.put, List.setIfInBounds_toArray, List.set_cons_zero, List.set_cons_succ]
            clear hS hK' K'
            refine lexT_ef1 32 (by kernel_rfl) rfl rfl (fun K' hK' => ?_)
            go_simp
            refine (sameIds_any k29 H2.out H3.out (by decide) (by decide)).mono ?_
            rintro e k30 ⟨bb, rfl, hbb, f0⟩
            obtain rfl : bb = true := hbb.2 rfl
            have f := Lib.hid f0
            replace A := Lib.hid (A.out.keep f.out)
            clear f f0 hbb H1 H2 H3
            refine hK'.out _ _ ?_ (fun hS => ?_)
            · exact A.out.s
            try simp only [Act.put, List.setIfInBounds_toArray, List.set_cons_zero, List.set_cons_succ]
            clear hS hK' K'
            (((first | (refine lexT_rd 33 (by kernel_rfl) rfl rfl ?_; apply Exists.intro; refine ⟨?_, ?_⟩; (focus (first | exact lex_load (ty := 30) rfl (fun w h => h.1) uK rK (by rw [LA.out]; exact infoHash) | exact lex_load (ty := 30) rfl (fun w h => h.2.1) uK rK (by rw [LB.out]; exact infoHash) | exact lex_load (ty := 30) rfl (fun w h => h.2.2) uK rK (by rw [LC.out]; exact infoHash) | (intro w' hS; obtain ⟨s1, s2, s3⟩ := hS; go_simp; (try with_reducible rfl); done)))) | (refine lexT_sk 33 (by kernel_rfl) rfl rfl ?_)); try simp only [Act.put, List.setIfInBounds_toArray, List.set_cons_zero, List.set_cons_succ]); ((first | (refine lexT_rd 34 (by kernel_rfl) rfl rfl ?_; apply Exists.intro; refine ⟨?_, ?_⟩; (focus (first | exact lex_load (ty := 30) rfl (fun w h => h.1) uK rK (by rw [LA.out]; exact infoHash) | exact lex_load (ty := 30) rfl (fun w h => h.2.1) uK rK (by rw [LB.out]; exact infoHash) | exact lex_load (ty := 30) rfl (fun w h => h.2.2) uK rK (by rw [LC.out]; exact infoHash) | (intro w' hS; obtain ⟨s1, s2, s3⟩ := hS; go_simp; (try with_reducible rfl); done)))) | (refine lexT_sk 34 (by kernel_rfl) rfl rfl ?_)); try simp only [Act.put, List.setIfInBounds_toArray, List.set_cons_zero]))
            refine lexT_nil (hK.out _ _ ?_)
            go_wp2
            go_ret
            exact ⟨by rfl, A.out.gc.fr⟩
        · refine wp_value (exec_buildSlice2 (t := 27) rfl rfl rfl undIds infoHashZ2 rfl (by decide) (by decide) LB.out LC.out) ?_
          have f := Lib.hid ((Fr.refl No k7).alloc (.cells (hashC hB ++ hashC hC).toArray 30))
          (try replace H1 := Lib.hid (H1.out.keep f.out))
          (try replace H2 := Lib.hid (H2.out.keep f.out))
          (try replace H3 := Lib.hid (H3.out.keep f.out))
          have H3 := Lib.hid (ids_new2 k7 okB okC)
          replace A := Lib.hid (A.out.keep f.out)
          clear f
          refine hK'.out _ _ ?_ (fun hS => ?_)
          · exact A.out.s
          try simp only [Act.put, List.setIfInBounds_toArray, List.set_cons_zero, List.set_cons_succ]
          clear hS hK' K'
          generalize k7.alloc (.cells (hashC hB ++ hashC hC).toArray 30) = k31 at *
          generalize k7.heap.size = q32 at *
          refine lexT_ef1 13 (by kernel_rfl) rfl rfl (fun K' hK' => ?_)
          go_simp
          refine (down_K A.out.gc (by decide) H1.out (by decide)).mono ?_
          rintro e k33 ⟨v2, rfl, o⟩
          have f := Lib.hid o.2
          (try replace H1 := Lib.hid (H1.out.keep f.out))
          (try replace H2 := Lib.hid (H2.out.keep f.out))
          (try replace H3 := Lib.hid (H3.out.keep f.out))
          have H2 := Lib.hid (show IdsIs k33 v2 [hB, hC] by have h := o.is (A.out.gc.okDown [hB]); rw [dC] at h; exact h)
          replace A := Lib.hid (A.out.keep f.out)
          clear f o
          refine hK'.out _ _ ?_ (fun hS => ?_)
          · exact A.out.s
          try simp only [Act.put, List.setIfInBounds_toArray, List.set_cons_zero, List.set_cons_succ]
          clear hS hK' K'
          refine lexT_ef1 17 (by kernel_rfl) rfl rfl (fun K' hK' => ?_)
          go_simp
          refine (sameIds_any k33 H2.out H3.out (by decide) (by decide)).mono ?_
          rintro e k34 ⟨bb, rfl, hbb, f0⟩
          obtain rfl : bb = true := hbb.2 rfl
          have f := Lib.hid f0
          replace A := Lib.hid (A.out.keep f.out)
          clear f f0 hbb H1 H2 H3
          refine hK'.out _ _ ?_ (fun hS => ?_)
          · exact A.out.s
          try simp only [Act.put, List.setIfInBounds_toArray, List.set_cons_zero, List.set_cons_succ]
          clear hS hK' K'
          (((first | (refine lexT_rd 18 (by kernel_rfl) rfl rfl ?_; apply Exists.intro; refine ⟨?_, ?_⟩; (focus (first | exact lex_load (ty := 30) rfl (fun w h => h.1) uK rK (by rw [LA.out]; exact infoHash) | exact lex_load (ty := 30) rfl (fun w h => h.2.1) uK rK (by rw [LB.out]; exact infoHash) | exact lex_load (ty := 30) rfl (fun w h => h.2.2) uK rK (by rw [LC.out]; exact infoHash) | (intro w' hS; obtain ⟨s1, s2, s3⟩ := hS; go_simp; (try with_reducible rfl); done)))) | (refine lexT_sk 18 (by kernel_rfl) rfl rfl ?_)); try simp only [Act.put, List.setIfInBounds_toArray, List.set_cons_zero, List.set_cons_succ]); ((first | (refine lexT_rd 19 (by kernel_rfl) rfl rfl ?_; apply Exists.intro; refine ⟨?_, ?_⟩; (focus (first | exact lex_load (ty := 30) rfl (fun w h => h.1) uK rK (by rw [LA.out]; exact infoHash) | exact lex_load (ty := 30) rfl (fun w h => h.2.1) uK rK (by rw [LB.out]; exact infoHash) | exact lex_load (ty := 30) rfl (fun w h => h.2.2) uK rK (by rw [LC.out]; exact infoHash) | (intro w' hS; obtain ⟨s1, s2, s3⟩ := hS; go_simp; (try with_reducible rfl); done)))) | (refine lexT_sk 19 (by kernel_rfl) rfl rfl ?_)); try simp only [Act.put, List.setIfInBounds_toArray, List.set_cons_zero, List.set_cons_succ]); ((first | (refine lexT_rd 20 (by kernel_rfl) rfl rfl ?_; apply Exists.intro; refine ⟨?_, ?_⟩; (focus (first | exact lex_load (ty := 30) rfl (fun w h => h.1) uK rK (by rw [LA.out]; exact infoHash) | exact lex_load (ty := 30) rfl (fun w h => h.2.1) uK rK (by rw [LB.out]; exact infoHash) | exact lex_load (ty := 30) rfl (fun w h => h.2.2) uK rK (by rw [LC.out]; exact infoHash) | (intro w' hS; obtain ⟨s1, s2, s3⟩ := hS; go_simp; (try with_reducible rfl); done)))) | (refine lexT_sk 20 (by kernel_rfl) rfl rfl ?_)); try simp only [Act.put, List.setIfInBounds_toArray, List.set_cons_zero, List.set_cons_succ]); ((first | (refine lexT_rd 21 (by kernel_rfl) rfl rfl ?_; apply Exists.intro; refine ⟨?_, ?_⟩; (focus (first | exact lex_load (ty := 30) rfl (fun w h => h.1) uK rK (by rw [LA.out]; exact infoHash) | exact lex_load (ty := 30) rfl (fun w h => h.2.1) uK rK (by rw [LB.out]; exact infoHash) | exact lex_load (ty := 30) rfl (fun w h => h.2.2) uK rK (by rw [LC.out]; exact infoHash) | (intro w' hS; obtain ⟨s1, s2, s3⟩ := hS; go_simp; (try with_reducible rfl); done)))) | (refine lexT_sk 21 (by kernel_rfl) rfl rfl ?_)); try simp only [Act.put, List.setIfInBounds_toArray, List.set_cons_zero, List.set_cons_succ]))
          refine lexT_ef1 22 (by kernel_rfl) rfl rfl (fun K' hK' => ?_)
          go_simp
          refine (lift_K A.out.gc (by decide) okB).mono ?_
          rintro e k35 ⟨rfl, V36, g8, f8, s8⟩
          rw [if_pos inCB]
          replace A := Lib.hid (A.out.call g8 f8 (fun j h => .inl (s8 j h)))
          clear g8 f8 s8
          refine hK'.out _ _ ?_ (fun hS => ?_)
          · exact A.out.s
          try simp only [Act.put, List.setIfInBounds_toArray, List.set_cons_zero, List.set_cons_succ]
          clear hS hK' K'
          (((first | (refine lexT_rd 23 (by kernel_rfl) rfl rfl ?_; apply Exists.intro; refine ⟨?_, ?_⟩; (focus (first | exact lex_load (ty := 30) rfl (fun w h => h.1) uK rK (by rw [LA.out]; exact infoHash) | exact lex_load (ty := 30) rfl (fun w h => h.2.1) uK rK (by rw [LB.out]; exact infoHash) | exact lex_load (ty := 30) rfl (fun w h => h.2.2) uK rK (by rw [LC.out]; exact infoHash) | (intro w' hS; obtain ⟨s1, s2, s3⟩ := hS; go_simp; (try with_reducible rfl); done)))) | (refine lexT_sk 23 (by kernel_rfl) rfl rfl ?_)); try simp only [Act.put, List.setIfInBounds_toArray, List.set_cons_zero, List.set_cons_succ]); ((first | (refine lexT_rd 24 (by kernel_rfl) rfl rfl ?_; apply Exists.intro; refine ⟨?_, ?_⟩; (focus (first | exact lex_load (ty := 30) rfl (fun w h => h.1) uK rK (by rw [LA.out]; exact infoHash) | exact lex_load (ty := 30) rfl (fun w h => h.2.1) uK rK (by rw [LB.out]; exact infoHash) | exact lex_load (ty := 30) rfl (fun w h => h.2.2) uK rK (by rw [LC.out]; exact infoHash) | (intro w' hS; obtain ⟨s1, s2, s3⟩ := hS; go_simp; (try with_reducible rfl); done)))) | (refine lexT_sk 24 (by kernel_rfl) rfl rfl ?_)); try simp only [Act.put, List.setIfInBounds_toArray, List.set_cons_zero, List.set_cons_succ]); ((first | (refine lexT_rd 25 (by kernel_rfl) rfl rfl ?_; apply Exists.intro; refine ⟨?_, ?_⟩; (focus (first | exact lex_load (ty := 30) rfl (fun w h => h.1) uK rK (by rw [LA.out]; exact infoHash) | exact lex_load (ty := 30) rfl (fun w h => h.2.1) uK rK (by rw [LB.out]; exact infoHash) | exact lex_load (ty := 30) rfl (fun w h => h.2.2) uK rK (by rw [LC.out]; exact infoHash) | (intro w' hS; obtain ⟨s1, s2, s3⟩ := hS; go_simp; (try with_reducible rfl); done)))) | (refine lexT_sk 25 (by kernel_rfl) rfl rfl ?_)); try simp only [Act.put, List.setIfInBounds_toArray, List.set_cons_zero, List.set_cons_succ]); ((first | (refine lexT_rd 26 (by kernel_rfl) rfl rfl ?_; apply Exists.intro; refine ⟨?_, ?_⟩; (focus (first | exact lex_load (ty := 30) rfl (fun w h => h.1) uK rK (by rw [LA.out]; exact infoHash) | exact lex_load (ty := 30) rfl (fun w h => h.2.1) uK rK (by rw [LB.out]; exact infoHash) | exact lex_load (ty := 30) rfl (fun w h => h.2.2) uK rK (by rw [LC.out]; exact infoHash) | (intro w' hS; obtain ⟨s1, s2, s3⟩ := hS; go_simp; (try with_reducible rfl); done)))) | (refine lexT_sk 26 (by kernel_rfl) rfl rfl ?_)); try simp only [Act.put, List.setIfInBounds_toArray, List.set_cons_zero, List.set_cons_succ]); ((first | (refine lexT_rd 27 (by kernel_rfl) rfl rfl ?_; apply Exists.intro; refine ⟨?_, ?_⟩; (focus (first | exact lex_load (ty := 30) rfl (fun w h => h.1) uK rK (by rw [LA.out]; exact infoHash) | exact lex_load (ty := 30) rfl (fun w h => h.2.1) uK rK (by rw [LB.out]; exact infoHash) | exact lex_load (ty := 30) rfl (fun w h => h.2.2) uK rK (by rw [LC.out]; exact infoHash) | (intro w' hS; obtain ⟨s1, s2, s3⟩ := hS; go_simp; (try with_reducible rfl); done)))) | (refine lexT_sk 27 (by kernel_rfl) rfl rfl ?_)); try simp only [Act.put, List.setIfInBounds_toArray, List.set_cons_zero, List.set_cons_succ]); ((first | (refine lexT_rd 30 (by kernel_rfl) rfl rfl ?_; apply Exists.intro; refine ⟨?_, ?_⟩; (focus (first | exact lex_load (ty := 30) rfl (fun w h => h.1) uK rK (by rw [LA.out]; exact infoHash) | exact lex_load (ty := 30) rfl (fun w h => h.2.1) uK rK (by rw [LB.out]; exact infoHash) | exact lex_load (ty := 30) rfl (fun w h => h.2.2) uK rK (by rw [LC.out]; exact infoHash) | (intro w' hS; obtain ⟨s1, s2, s3⟩ := hS; go_simp; (try with_reducible rfl); done)))) | (refine lexT_sk 30 (by kernel_rfl) rfl rfl ?_)); try simp only [Act.put, List.setIfInBounds_toArray, List.set_cons_zero, List.set_cons_succ]))
          refine lexT_ef2 28 31 (by kernel_rfl) rfl rfl rfl rfl (fun K' hK' => ?_) (fun K' hK' => ?_)
          · refine wp_value (exec_buildSliceA (t := 27) rfl rfl undIds infoHashZ2 rfl (by decide) (by decide) LC.out) ?_
            have f := Lib.hid ((Fr.refl No k35).alloc (.cells (hashC hC).toArray 30))
            (try replace H1 := Lib.hid (H1.out.keep f.out))
            (try replace H2 := Lib.hid (H2.out.keep f.out))
            (try replace H3 := Lib.hid (H3.out.keep f.out))
            have H1 := Lib.hid (ids_new1 k35 okC)
            replace A := Lib.hid (A.out.keep f.out)
            clear f
            refine hK'.out _ _ ?_ (fun hS => ?_)
            · exact A.out.s
            try simp only [Act.put, List.setIfInBounds_toArray, List.set_cons_zero, List.set_cons_succ]
            clear hS hK' K'
            generalize k35.alloc (.cells (hashC hC).toArray 30) = k37 at *
            generalize k35.heap.size = q38 at *
            refine lexT_ef2 29 31 (by kernel_rfl) rfl rfl rfl rfl (fun K' hK' => ?_) (fun K' hK' => ?_)
            · go_simp
              refine (up_K A.out.gc (by decide) H1.out (by decide)).mono ?_
              rintro e k39 ⟨v2, rfl, o⟩
              have f := Lib.hid o.2
              (try replace H1 := Lib.hid (H1.out.keep f.out))
              (try replace H2 := Lib.hid (H2.out.keep f.out))
              (try replace H3 := Lib.hid (H3.out.keep f.out))
              have H2 := Lib.hid (show IdsIs k39 v2 [hC] by have h := o.is (A.out.gc.okUp [hC]); rw [uL] at h; exact h)
              replace A := Lib.hid (A.out.keep f.out)
              clear f o
              refine hK'.out _ _ ?_ (fun hS => ?_)
              · exact A.out.s
              try simp only [Act.put, List.setIfInBounds_toArray, List.set_cons_zero, List.set_cons_succ]
              clear hS hK' K'
              refine lexT_ef1 31 (by kernel_rfl) rfl rfl (fun K' hK' => ?_)
              refine wp_value (exec_buildSliceA (t := 27) rfl rfl undIds infoHashZ2 rfl (by decide) (by decide) LC.out) ?_
              have f := Lib.hid ((Fr.refl No k39).alloc (.cells (hashC hC).toArray 30))
              (try replace H1 := Lib.hid (H1.out.keep f.out))
              (try replace H2 := Lib.hid (H2.out.keep f.out))
              (try replace H3 := Lib.hid (H3.out.keep f.out))
              have H3 := Lib.hid (ids_new1 k39 okC)
              replace A := Lib.hid (A.out.keep f.out)
              clear f
              refine hK'.out _ _ ?_ (fun hS => ?_)
              · exact A.out.s
              try simp only [Act.put, List.setIfInBounds_toArray, List.set_cons_zero, List.set_cons_succ]
              clear hS hK' K'
              generalize k39.alloc (.cells (hashC hC).toArray 30) = k40 at *
              generalize k39.heap.size = q41 at *
              refine lexT_ef1 32 (by kernel_rfl) rfl rfl (fun K' hK' => ?_)
              go_simp
              refine (sameIds_any k40 H2.out H3.out (by decide) (by decide)).mono ?_
              rintro e k42 ⟨bb, rfl, hbb, f0⟩
              obtain rfl : bb = true := hbb.2 rfl
              have f := Lib.hid f0
              replace A := Lib.hid (A.out.keep f.out)
              clear f f0 hbb H1 H2 H3
              refine hK'.out _ _ ?_ (fun hS => ?_)
              · exact A.out.s
              try simp only [Act.put, List.setIfInBounds_toArray, List.set_cons_zero, List.set_cons_succ]
              clear hS hK' K'
              (((first | (refine lexT_rd 33 (by kernel_rfl) rfl rfl ?_; apply Exists.intro; refine ⟨?_, ?_⟩; (focus (first | exact lex_load (ty := 30) rfl (fun w h => h.1) uK rK (by rw [LA.out]; exact infoHash) | exact lex_load (ty := 30) rfl (fun w h => h.2.1) uK rK (by rw [LB.out]; exact infoHash) | exact lex_load (ty := 30) rfl (fun w h => h.2.2) uK rK (by rw [LC.out]; exact infoHash) | (intro w' hS; obtain ⟨s1, s2, s3⟩ := hS; go_simp; (try with_reducible rfl); done)))) | (refine lexT_sk 33 (by kernel_rfl) rfl rfl ?_)); try simp only [Act.put, List.setIfInBounds_toArray, List.set_cons_zero, List.set_cons_succ]); ((first | (refine lexT_rd 34 (by kernel_rfl) rfl rfl ?_; apply Exists.intro; refine ⟨?_, ?_⟩; (focus (first | exact lex_load (ty := 30) rfl (fun w h => h.1) uK rK (by rw [LA.out]; exact infoHash) | exact lex_load (ty := 30) rfl (fun w h => h.2.1) uK rK (by rw [LB.out]; exact infoHash) | exact lex_load (ty := 30) rfl (fun w h => h.2.2) uK rK (by rw [LC.out]; exact infoHash) | (intro w' hS; obtain ⟨s1, s2, s3⟩ := hS; go_simp; (try with_reducible rfl); done)))) | (refine lexT_sk 34 (by kernel_rfl) rfl rfl ?_)); try simp only [Act.put, List.setIfInBounds_toArray, List.set_cons_zero]))
              refine lexT_nil (hK.out _ _ ?_)
              go_wp2
              go_ret
              exact ⟨by rfl, A.out.gc.fr⟩
            · refine wp_value (exec_buildSliceA (t := 27) rfl rfl undIds infoHashZ2 rfl (by decide) (by decide) LC.out) ?_
              have f := Lib.hid ((Fr.refl No k37).alloc (.cells (hashC hC).toArray 30))
              (try replace H1 := Lib.hid (H1.out.keep f.out))
              (try replace H2 := Lib.hid (H2.out.keep f.out))
              (try replace H3 := Lib.hid (H3.out.keep f.out))
              have H3 := Lib.hid (ids_new1 k37 okC)
              replace A := Lib.hid (A.out.keep f.out)
              clear f
              refine hK'.out _ _ ?_ (fun hS => ?_)
              · exact A.out.s
              try simp only [Act.put, List.setIfInBounds_toArray, List.set_cons_zero, List.set_cons_succ]
              clear hS hK' K'
              generalize k37.alloc (.cells (hashC hC).toArray 30) = k43 at *
              generalize k37.heap.size = q44 at *
              refine lexT_ef1 29 (by kernel_rfl) rfl rfl (fun K' hK' => ?_)
              go_simp
              refine (up_K A.out.gc (by decide) H1.out (by decide)).mono ?_
              rintro e k45 ⟨v2, rfl, o⟩
              have f := Lib.hid o.2
              (try replace H1 := Lib.hid (H1.out.keep f.out))
              (try replace H2 := Lib.hid (H2.out.keep f.out))
              (try replace H3 := Lib.hid (H3.out.keep f.out))
              have H2 := Lib.hid (show IdsIs k45 v2 [hC] by have h := o.is (A.out.gc.okUp [hC]); rw [uL] at h; exact h)
              replace A := Lib.hid (A.out.keep f.out)
              clear f o
              refine hK'.out _ _ ?_ (fun hS => ?_)
              · exact A.out.s
              try simp only [Act.put, List.setIfInBounds_toArray, List.set_cons_zero, List.set_cons_succ]
              clear hS hK' K'
              refine lexT_ef1 32 (by kernel_rfl) rfl rfl (fun K' hK' => ?_)
              go_simp
              refine (sameIds_any k45 H2.out H3.out (by decide) (by decide)).mono ?_
              rintro e k46 ⟨bb, rfl, hbb, f0⟩
              obtain rfl : bb = true := hbb.2 rfl
              have f := Lib.hid f0
              replace A := Lib.hid (A.out.keep f.out)
              clear f f0 hbb H1 H2 H3
              refine hK'.out _ _ ?_ (fun hS => ?_)
              · exact A.out.s
              try simp only [Act.put, List.setIfInBounds_toArray, List.set_cons_zero, List.set_cons_succ]
              clear hS hK' K'
              (((first | (refine lexT_rd 33 (by kernel_rfl) rfl rfl ?_; apply Exists.intro; refine ⟨?_, ?_⟩; (focus (first | exact lex_load (ty := 30) rfl (fun w h => h.1) uK rK (by rw [LA.out]; exact infoHash) | exact lex_load (ty := 30) rfl (fun w h => h.2.1) uK rK (by rw [LB.out]; exact infoHash) | exact lex_load (ty := 30) rfl (fun w h => h.2.2) uK rK (by rw [LC.out]; exact infoHash) | (intro w' hS; obtain ⟨s1, s2, s3⟩ := hS; go_simp; (try with_reducible rfl); done)))) | (refine lexT_sk 33 (by kernel_rfl) rfl rfl ?_)); try simp only [Act.put, List.setIfInBounds_toArray, List.set_cons_zero, List.set_cons_succ]); ((first | (refine lexT_rd 34 (by kernel_rfl) rfl rfl ?_; apply Exists.intro; refine ⟨?_, ?_⟩; (focus (first | exact lex_load (ty := 30) rfl (fun w h => h.1) uK rK (by rw [LA.out]; exact infoHash) | exact lex_load (ty := 30) rfl (fun w h => h.2.1) uK rK (by rw [LB.out]; exact infoHash) | exact lex_load (ty := 30) rfl (fun w h => h.2.2) uK rK (by rw [LC.out]; exact infoHash) | (intro w' hS; obtain ⟨s1, s2, s3⟩ := hS; go_simp; (try with_reducible rfl); done)))) | (refine lexT_sk 34 (by kernel_rfl) rfl rfl ?_)); try simp only [Act.put, List.setIfInBounds_toArray, List.set_cons_zero]))
              refine lexT_nil (hK.out _ _ ?_)
              go_wp2
              go_ret
              exact ⟨by rfl, A.out.gc.fr⟩
          · refine wp_value (exec_buildSliceA (t := 27) rfl rfl undIds infoHashZ2 rfl (by decide) (by decide) LC.out) ?_
            have f := Lib.hid ((Fr.refl No k35).alloc (.cells (hashC hC).toArray 30))
            (try replace H1 := Lib.hid (H1.out.keep f.out))
            (try replace H2 := Lib.hid (H2.out.keep f.out))
            (try replace H3 := Lib.hid (H3.out.keep f.out))
            have H3 := Lib.hid (ids_new1 k35 okC)
            replace A := Lib.hid (A.out.keep f.out)
            clear f
            refine hK'.out _ _ ?_ (fun hS => ?_)
            · exact A.out.s
            try simp only [Act.put, List.setIfInBounds_toArray, List.set_cons_zero, List.set_cons_succ]
            clear hS hK' K'
            generalize k35.alloc (.cells (hashC hC).toArray 30) = k47 at *
            generalize k35.heap.size = q48 at *
            refine lexT_ef1 28 (by kernel_rfl) rfl rfl (fun K' hK' => ?_)
            refine wp_value (exec_buildSliceA (t := 27) rfl rfl undIds infoHashZ2 rfl (by decide) (by decide) LC.out) ?_
            have f := Lib.hid ((Fr.refl No k47).alloc (.cells (hashC hC).toArray 30))
            (try replace H1 := Lib.hid (H1.out.keep f.out))
            (try replace H2 := Lib.hid (H2.out.keep f.out))
            (try replace H3 := Lib.hid (H3.out.keep f.out))
            have H1 := Lib.hid (ids_new1 k47 okC)
            replace A := Lib.hid (A.out.keep f.out)
            clear f
            refine hK'.out _ _ ?_ (fun hS => ?_)
            · exact A.out.s
            try simp only [Act.put, List.setIfInBounds_toArray, List.set_cons_zero, List.set_cons_succ]
            clear hS hK' K'
            generalize k47.alloc (.cells (hashC hC).toArray 30) = k49 at *
            generalize k47.heap.size = q50 at *
            refine lexT_ef1 29 (by kernel_rfl) rfl rfl (fun K' hK' => ?_)
            go_simp
            refine (up_K A.out.gc (by decide) H1.out (by decide)).mono ?_
            rintro e k51 ⟨v2, rfl, o⟩
            have f := Lib.hid o.2
            (try replace H1 := Lib.hid (H1.out.keep f.out))
            (try replace H2 := Lib.hid (H2.out.keep f.out))
            (try replace H3 := Lib.hid (H3.out.keep f.out))
            have H2 := Lib.hid (show IdsIs k51 v2 [hC] by have h := o.is (A.out.gc.okUp [hC]); rw [uL] at h; exact h)
            replace A := Lib.hid (A.out.keep f.out)
            clear f o
            refine hK'.out _ _ ?_ (fun hS => ?_)
            · exact A.out.s
            try simp only [Act.put, List.setIfInBounds_toArray, List.set_cons_zero, List.set_cons_succ]
            clear hS hK' K'
            refine lexT_ef1 32 (by kernel_rfl) rfl rfl (fun K' hK' => ?_)
            go_simp
            refine (sameIds_any k51 H2.out H3.out (by decide) (by decide)).mono ?_
            rintro e k52 ⟨bb, rfl, hbb, f0⟩
            obtain rfl : bb = true := hbb.2 rfl
            have f := Lib.hid f0
            replace A := Lib.hid (A.out.keep f.out)
            clear f f0 hbb H1 H2 H3
            refine hK'.out _ _ ?_ (fun hS => ?_)
            · exact A.out.s
            try simp only [Act.put, List.setIfInBounds_toArray, List.set_cons_zero, List.set_cons_succ]
            clear hS hK' K'
            (((first | (refine lexT_rd 33 (by kernel_rfl) rfl rfl ?_; apply Exists.intro; refine ⟨?_, ?_⟩; (focus (first | exact lex_load (ty := 30) rfl (fun w h => h.1) uK rK (by rw [LA.out]; exact infoHash) | exact lex_load (ty := 30) rfl (fun w h => h.2.1) uK rK (by rw [LB.out]; exact infoHash) | exact lex_load (ty := 30) rfl (fun w h => h.2.2) uK rK (by rw [LC.out]; exact infoHash) | (intro w' hS; obtain ⟨s1, s2, s3⟩ := hS; go_simp; (try with_reducible rfl); done)))) | (refine lexT_sk 33 (by kernel_rfl) rfl rfl ?_)); try simp only [Act.put, List.setIfInBounds_toArray, List.set_cons_zero, List.set_cons_succ]); ((first | (refine lexT_rd 34 (by kernel_rfl) rfl rfl ?_; apply Exists.intro; refine ⟨?_, ?_⟩; (focus (first | exact lex_load (ty := 30) rfl (fun w h => h.1) uK rK (by rw [LA.out]; exact infoHash) | exact lex_load (ty := 30) rfl (fun w h => h.2.1) uK rK (by rw [LB.out]; exact infoHash) | exact lex_load (ty := 30) rfl (fun w h => h.2.2) uK rK (by rw [LC.out]; exact infoHash) | (intro w' hS; obtain ⟨s1, s2, s3⟩ := hS; go_simp; (try with_reducible rfl); done)))) | (refine lexT_sk 34 (by kernel_rfl) rfl rfl ?_)); try simp only [Act.put, List.setIfInBounds_toArray, List.set_cons_zero]))
            refine lexT_nil (hK.out _ _ ?_)
            go_wp2
            go_ret
            exact ⟨by rfl, A.out.gc.fr⟩
      · refine wp_value (exec_buildSlice2 (t := 27) rfl rfl rfl undIds infoHashZ2 rfl (by decide) (by decide) LB.out LC.out) ?_
        have f := Lib.hid ((Fr.refl No k6).alloc (.cells (hashC hB ++ hashC hC).toArray 30))
        (try replace H1 := Lib.hid (H1.out.keep f.out))
        (try replace H2 := Lib.hid (H2.out.keep f.out))
        (try replace H3 := Lib.hid (H3.out.keep f.out))
        have H3 := Lib.hid (ids_new2 k6 okB okC)
        replace A := Lib.hid (A.out.keep f.out)
        clear f
        refine hK'.out _ _ ?_ (fun hS => ?_)
        · exact A.out.s
        try simp only [Act.put, List.setIfInBounds_toArray, List.set_cons_zero, List.set_cons_succ]
        clear hS hK' K'
        generalize k6.alloc (.cells (hashC hB ++ hashC hC).toArray 30) = k53 at *
        generalize k6.heap.size = q54 at *
        refine lexT_ef1 12 (by kernel_rfl) rfl rfl (fun K' hK' => ?_)
        refine wp_value (exec_buildSliceA (t := 27) rfl rfl undIds infoHashZ2 rfl (by decide) (by decide) LB.out) ?_
        have f := Lib.hid ((Fr.refl No k53).alloc (.cells (hashC hB).toArray 30))
        (try replace H1 := Lib.hid (H1.out.keep f.out))
        (try replace H2 := Lib.hid (H2.out.keep f.out))
        (try replace H3 := Lib.hid (H3.out.keep f.out))
        have H1 := Lib.hid (ids_new1 k53 okB)
        replace A := Lib.hid (A.out.keep f.out)
        clear f
        refine hK'.out _ _ ?_ (fun hS => ?_)
        · exact A.out.s
        try simp only [Act.put, List.setIfInBounds_toArray, List.set_cons_zero, List.set_cons_succ]
        clear hS hK' K'
        generalize k53.alloc (.cells (hashC hB).toArray 30) = k55 at *
        generalize k53.heap.size = q56 at *
        refine lexT_ef1 13 (by kernel_rfl) rfl rfl (fun K' hK' => ?_)
        go_simp
        refine (down_K A.out.gc (by decide) H1.out (by decide)).mono ?_
        rintro e k57 ⟨v2, rfl, o⟩
        have f := Lib.hid o.2
        (try replace H1 := Lib.hid (H1.out.keep f.out))
        (try replace H2 := Lib.hid (H2.out.keep f.out))
        (try replace H3 := Lib.hid (H3.out.keep f.out))
        have H2 := Lib.hid (show IdsIs k57 v2 [hB, hC] by have h := o.is (A.out.gc.okDown [hB]); rw [dC] at h; exact h)
        replace A := Lib.hid (A.out.keep f.out)
        clear f o
        refine hK'.out _ _ ?_ (fun hS => ?_)
        · exact A.out.s
        try simp only [Act.put, List.setIfInBounds_toArray, List.set_cons_zero, List.set_cons_succ]
        clear hS hK' K'
        refine lexT_ef1 17 (by kernel_rfl) rfl rfl (fun K' hK' => ?_)
        go_simp
        refine (sameIds_any k57 H2.out H3.out (by decide) (by decide)).mono ?_
        rintro e k58 ⟨bb, rfl, hbb, f0⟩
        obtain rfl : bb = true := hbb.2 rfl
        have f := Lib.hid f0
        replace A := Lib.hid (A.out.keep f.out)
        clear f f0 hbb H1 H2 H3
        refine hK'.out _ _ ?_ (fun hS => ?_)
        · exact A.out.s
        try simp only [Act.put, List.setIfInBounds_toArray, List.set_cons_zero, List.set_cons_succ]
        clear hS hK' K'
        (((first | (refine lexT_rd 18 (by kernel_rfl) rfl rfl ?_; apply Exists.intro; refine ⟨?_, ?_⟩; (focus (first | exact lex_load (ty := 30) rfl (fun w h => h.1) uK rK (by rw [LA.out]; exact infoHash) | exact lex_load (ty := 30) rfl (fun w h => h.2.1) uK rK (by rw [LB.out]; exact infoHash) | exact lex_load (ty := 30) rfl (fun w h => h.2.2) uK rK (by rw [LC.out]; exact infoHash) | (intro w' hS; obtain ⟨s1, s2, s3⟩ := hS; go_simp; (try with_reducible rfl); done)))) | (refine lexT_sk 18 (by kernel_rfl) rfl rfl ?_)); try simp only [Act.put, List.setIfInBounds_toArray, List.set_cons_zero, List.set_cons_succ]); ((first | (refine lexT_rd 19 (by kernel_rfl) rfl rfl ?_; apply Exists.intro; refine ⟨?_, ?_⟩; (focus (first | exact lex_load (ty := 30) rfl (fun w h => h.1) uK rK (by rw [LA.out]; exact infoHash) | exact lex_load (ty := 30) rfl (fun w h => h.2.1) uK rK (by rw [LB.out]; exact infoHash) | exact lex_load (ty := 30) rfl (fun w h => h.2.2) uK rK (by rw [LC.out]; exact infoHash) | (intro w' hS; obtain ⟨s1, s2, s3⟩ := hS; go_simp; (try with_reducible rfl); done)))) | (refine lexT_sk 19 (by kernel_rfl) rfl rfl ?_)); try simp only [Act.put, List.setIfInBounds_toArray, List.set_cons_zero, List.set_cons_succ]); ((first | (refine lexT_rd 20 (by kernel_rfl) rfl rfl ?_; apply Exists.intro; refine ⟨?_, ?_⟩; (focus (first | exact lex_load (ty := 30) rfl (fun w h => h.1) uK rK (by rw [LA.out]; exact infoHash) | exact lex_load (ty := 30) rfl (fun w h => h.2.1) uK rK (by rw [LB.out]; exact infoHash) | exact lex_load (ty := 30) rfl (fun w h => h.2.2) uK rK (by rw [LC.out]; exact infoHash) | (intro w' hS; obtain ⟨s1, s2, s3⟩ := hS; go_simp; (try with_reducible rfl); done)))) | (refine lexT_sk 20 (by kernel_rfl) rfl rfl ?_)); try simp only [Act.put, List.setIfInBounds_toArray, List.set_cons_zero, List.set_cons_succ]); ((first | (refine lexT_rd 21 (by kernel_rfl) rfl rfl ?_; apply Exists.intro; refine ⟨?_, ?_⟩; (focus (first | exact lex_load (ty := 30) rfl (fun w h => h.1) uK rK (by rw [LA.out]; exact infoHash) | exact lex_load (ty := 30) rfl (fun w h => h.2.1) uK rK (by rw [LB.out]; exact infoHash) | exact lex_load (ty := 30) rfl (fun w h => h.2.2) uK rK (by rw [LC.out]; exact infoHash) | (intro w' hS; obtain ⟨s1, s2, s3⟩ := hS; go_simp; (try with_reducible rfl); done)))) | (refine lexT_sk 21 (by kernel_rfl) rfl rfl ?_)); try simp only [Act.put, List.setIfInBounds_toArray, List.set_cons_zero, List.set_cons_succ]))
        refine lexT_ef1 22 (by kernel_rfl) rfl rfl (fun K' hK' => ?_)
        go_simp
        refine (lift_K A.out.gc (by decide) okB).mono ?_
        rintro e k59 ⟨rfl, V60, g8, f8, s8⟩
        rw [if_pos inCB]
        replace A := Lib.hid (A.out.call g8 f8 (fun j h => .inl (s8 j h)))
        clear g8 f8 s8
        refine hK'.out _ _ ?_ (fun hS => ?_)
        · exact A.out.s
        try simp only [Act.put, List.setIfInBounds_toArray, List.set_cons_zero, List.set_cons_succ]
        clear hS hK' K'
        (((first | (refine lexT_rd 23 (by kernel_rfl) rfl rfl ?_; apply Exists.intro; refine ⟨?_, ?_⟩; (focus (first | exact lex_load (ty := 30) rfl (fun w h => h.1) uK rK (by rw [LA.out]; exact infoHash) | exact lex_load (ty := 30) rfl (fun w h => h.2.1) uK rK (by rw [LB.out]; exact infoHash) | exact lex_load (ty := 30) rfl (fun w h => h.2.2) uK rK (by rw [LC.out]; exact infoHash) | (intro w' hS; obtain ⟨s1, s2, s3⟩ := hS; go_simp; (try with_reducible rfl); done)))) | (refine lexT_sk 23 (by kernel_rfl) rfl rfl ?_)); try simp only [Act.put, List.setIfInBounds_toArray, List.set_cons_zero, List.set_cons_succ]); ((first | (refine lexT_rd 24 (by kernel_rfl) rfl rfl ?_; apply Exists.intro; refine ⟨?_, ?_⟩; (focus (first | exact lex_load (ty := 30) rfl (fun w h => h.1) uK rK (by rw [LA.out]; exact infoHash) | exact lex_load (ty := 30) rfl (fun w h => h.2.1) uK rK (by rw [LB.out]; exact infoHash) | exact lex_load (ty := 30) rfl (fun w h => h.2.2) uK rK (by rw [LC.out]; exact infoHash) | (intro w' hS; obtain ⟨s1, s2, s3⟩ := hS; go_simp; (try with_reducible rfl); done)))) | (refine lexT_sk 24 (by kernel_rfl) rfl rfl ?_)); try simp only [Act.put, List.setIfInBounds_toArray, List.set_cons_zero, List.set_cons_succ]); ((first | (refine lexT_rd 25 (by kernel_rfl) rfl rfl ?_; apply Exists.intro; refine ⟨?_, ?_⟩; (focus (first | exact lex_load (ty := 30) rfl (fun w h => h.1) uK rK (by rw [LA.out]; exact infoHash) | exact lex_load (ty := 30) rfl (fun w h => h.2.1) uK rK (by rw [LB.out]; exact infoHash) | exact lex_load (ty := 30) rfl (fun w h => h.2.2) uK rK (by rw [LC.out]; exact infoHash) | (intro w' hS; obtain ⟨s1, s2, s3⟩ := hS; go_simp; (try with_reducible rfl); done)))) | (refine lexT_sk 25 (by kernel_rfl) rfl rfl ?_)); try simp only [Act.put, List.setIfInBounds_toArray, List.set_cons_zero, List.set_cons_succ]); ((first | (refine lexT_rd 26 (by kernel_rfl) rfl rfl ?_; apply Exists.intro; refine ⟨?_, ?_⟩; (focus (first | exact lex_load (ty := 30) rfl (fun w h => h.1) uK rK (by rw [LA.out]; exact infoHash) | exact lex_load (ty := 30) rfl (fun w h => h.2.1) uK rK (by rw [LB.out]; exact infoHash) | exact lex_load (ty := 30) rfl (fun w h => h.2.2) uK rK (by rw [LC.out]; exact infoHash) | (intro w' hS; obtain ⟨s1, s2, s3⟩ := hS; go_simp; (try with_reducible rfl); done)))) | (refine lexT_sk 26 (by kernel_rfl) rfl rfl ?_)); try simp only [Act.put, List.setIfInBounds_toArray, List.set_cons_zero, List.set_cons_succ]); ((first | (refine lexT_rd 27 (by kernel_rfl) rfl rfl ?_; apply Exists.intro; refine ⟨?_, ?_⟩; (focus (first | exact lex_load (ty := 30) rfl (fun w h => h.1) uK rK (by rw [LA.out]; exact infoHash) | exact lex_load (ty := 30) rfl (fun w h => h.2.1) uK rK (by rw [LB.out]; exact infoHash) | exact lex_load (ty := 30) rfl (fun w h => h.2.2) uK rK (by rw [LC.out]; exact infoHash) | (intro w' hS; obtain ⟨s1, s2, s3⟩ := hS; go_simp; (try with_reducible rfl); done)))) | (refine lexT_sk 27 (by kernel_rfl) rfl rfl ?_)); try simp only [Act.put, List.setIfInBounds_toArray, List.set_cons_zero, List.set_cons_succ]); ((first | (refine lexT_rd 30 (by kernel_rfl) rfl rfl ?_; apply Exists.intro; refine ⟨?_, ?_⟩; (focus (first | exact lex_load (ty := 30) rfl (fun w h => h.1) uK rK (by rw [LA.out]; exact infoHash) | exact lex_load (ty := 30) rfl (fun w h => h.2.1) uK rK (by rw [LB.out]; exact infoHash) | exact lex_load (ty := 30) rfl (fun w h => h.2.2) uK rK (by rw [LC.out]; exact infoHash) | (intro w' hS; obtain ⟨s1, s2, s3⟩ := hS; go_simp; (try with_reducible rfl); done)))) | (refine lexT_sk 30 (by kernel_rfl) rfl rfl ?_)); try simp only [Act.put, List.setIfInBounds_toArray, List.set_cons_zero, List.set_cons_succ]))
        refine lexT_ef2 28 31 (by kernel_rfl) rfl rfl rfl rfl (fun K' hK' => ?_) (fun K' hK' => ?_)
        · refine wp_value (exec_buildSliceA (t := 27) rfl rfl undIds infoHashZ2 rfl (by decide) (by decide) LC.out) ?_
          have f := Lib.hid ((Fr.refl No k59).alloc (.cells (hashC hC).toArray 30))
          (try replace H1 := Lib.hid (H1.out.keep f.out))
          (try replace H2 := Lib.hid (H2.out.keep f.out))
          (try replace H3 := Lib.hid (H3.out.keep f.out))
          have H1 := Lib.hid (ids_new1 k59 okC)
          replace A := Lib.hid (A.out.keep f.out)
          clear f
          refine hK'.out _ _ ?_ (fun hS => ?_)
          · exact A.out.s
          try simp only [Act.put, List.setIfInBounds_toArray, List.set_cons_zero, List.set_cons_succ]
          clear hS hK' K'
          generalize k59.alloc (.cells (hashC hC).toArray 30) = k61 at *
          generalize k59.heap.size = q62 at *
          refine lexT_ef2 29 31 (by kernel_rfl) rfl rfl rfl rfl (fun K' hK' => ?_) (fun K' hK' => ?_)
          · go_simp
            refine (up_K A.out.gc (by decide) H1.out (by decide)).mono ?_
            rintro e k63 ⟨v2, rfl, o⟩
            have f := Lib.hid o.2
            (try replace H1 := Lib.hid (H1.out.keep f.out))
            (try replace H2 := Lib.hid (H2.out.keep f.out))
            (try replace H3 := Lib.hid (H3.out.keep f.out))
            have H2 := Lib.hid (show IdsIs k63 v2 [hC] by have h := o.is (A.out.gc.okUp [hC]); rw [uL] at h; exact h)
            replace A := Lib.hid (A.out.keep f.out)
            clear f o
            refine hK'.out _ _ ?_ (fun hS => ?_)
            · exact A.out.s
            try simp only [Act.put, List.setIfInBounds_toArray, List.set_cons_zero, List.set_cons_succ]
            clear hS hK' K'
            refine lexT_ef1 31 (by kernel_rfl) rfl rfl (fun K' hK' => ?_)
            refine wp_value (exec_buildSliceA (t := 27) rfl rfl undIds infoHashZ2 rfl (by decide) (by decide) LC.out) ?_
            have f := Lib.hid ((Fr.refl No k63).alloc (.cells (hashC hC).toArray 30))
            (try replace H1 := Lib.hid (H1.out.keep f.out))
            (try replace H2 := Lib.hid (H2.out.keep f.out))
            (try replace H3 := Lib.hid (H3.out.keep f.out))
            have H3 := Lib.hid (ids_new1 k63 okC)
            replace A := Lib.hid (A.out.keep f.out)
            clear f
            refine hK'.out _ _ ?_ (fun hS => ?_)
            · exact A.out.s
            try simp only [Act.put, List.setIfInBounds_toArray, List.set_cons_zero, List.set_cons_succ]
            clear hS hK' K'
            generalize k63.alloc (.cells (hashC hC).toArray 30) = k64 at *
            generalize k63.heap.size = q65 at *
            refine lexT_ef1 32 (by kernel_rfl) rfl rfl (fun K' hK' => ?_)
            go_simp
            refine (sameIds_any k64 H2.out H3.out (by decide) (by decide)).mono ?_
            rintro e k66 ⟨bb, rfl, hbb, f0⟩
            obtain rfl : bb = true := hbb.2 rfl
            have f := Lib.hid f0
            replace A := Lib.hid (A.out.keep f.out)
            clear f f0 hbb H1 H2 H3
            refine hK'.out _ _ ?_ (fun hS => ?_)
            · exact A.out.s
            try simp only [Act.put, List.setIfInBounds_toArray, List.set_cons_zero, List.set_cons_succ]
            clear hS hK' K'
            (((first | (refine lexT_rd 33 (by kernel_rfl) rfl rfl ?_; apply Exists.intro; refine ⟨?_, ?_⟩; (focus (first | exact lex_load (ty := 30) rfl (fun w h => h.1) uK rK (by rw [LA.out]; exact infoHash) | exact lex_load (ty := 30) rfl (fun w h => h.2.1) uK rK (by rw [LB.out]; exact infoHash) | exact lex_load (ty := 30) rfl (fun w h => h.2.2) uK rK (by rw [LC.out]; exact infoHash) | (intro w' hS; obtain ⟨s1, s2, s3⟩ := hS; go_simp; (try with_reducible rfl); done)))) | (refine lexT_sk 33 (by kernel_rfl) rfl rfl ?_)); try simp only [Act.put, List.setIfInBounds_toArray, List.set_cons_zero, List.set_cons_succ]); ((first | (refine lexT_rd 34 (by kernel_rfl) rfl rfl ?_; apply Exists.intro; refine ⟨?_, ?_⟩; (focus (first | exact lex_load (ty := 30) rfl (fun w h => h.1) uK rK (by rw [LA.out]; exact infoHash) | exact lex_load (ty := 30) rfl (fun w h => h.2.1) uK rK (by rw [LB.out]; exact infoHash) | exact lex_load (ty := 30) rfl (fun w h => h.2.2) uK rK (by rw [LC.out]; exact infoHash) | (intro w' hS; obtain ⟨s1, s2, s3⟩ := hS; go_simp; (try with_reducible rfl); done)))) | (refine lexT_sk 34 (by kernel_rfl) rfl rfl ?_)); try simp only [Act.put, List.setIfInBounds_toArray, List.set_cons_zero]))
            refine lexT_nil (hK.out _ _ ?_)
            go_wp2
            go_ret
            exact ⟨by rfl, A.out.gc.fr⟩
          · refine wp_value (exec_buildSliceA (t := 27) rfl rfl undIds infoHashZ2 rfl (by decide) (by decide) LC.out) ?_
            have f := Lib.hid ((Fr.refl No k61).alloc (.cells (hashC hC).toArray 30))
            (try replace H1 := Lib.hid (H1.out.keep f.out))
            (try replace H2 := Lib.hid (H2.out.keep f.out))
            (try replace H3 := Lib.hid (H3.out.keep f.out))
            have H3 := Lib.hid (ids_new1 k61 okC)
            replace A := Lib.hid (A.out.keep f.out)
            clear f
            refine hK'.out _ _ ?_ (fun hS => ?_)
            · exact A.out.s
            try simp only [Act.put, List.setIfInBounds_toArray, List.set_cons_zero, List.set_cons_succ]
            clear hS hK' K'
            generalize k61.alloc (.cells (hashC hC).toArray 30) = k67 at *
            generalize k61.heap.size = q68 at *
            refine lexT_ef1 29 (by kernel_rfl) rfl rfl (fun K' hK' => ?_)
            go_simp
            refine (up_K A.out.gc (by decide) H1.out (by decide)).mono ?_
            rintro e k69 ⟨v2, rfl, o⟩
            have f := Lib.hid o.2
            (try replace H1 := Lib.hid (H1.out.keep f.out))
            (try replace H2 := Lib.hid (H2.out.keep f.out))
            (try replace H3 := Lib.hid (H3.out.keep f.out))
            have H2 := Lib.hid (show IdsIs k69 v2 [hC] by have h := o.is (A.out.gc.okUp [hC]); rw [uL] at h; exact h)
            replace A := Lib.hid (A.out.keep f.out)
            clear f o
            refine hK'.out _ _ ?_ (fun hS => ?_)
            · exact A.out.s
            try simp only [Act.put, List.setIfInBounds_toArray, List.set_cons_zero, List.set_cons_succ]
            clear hS hK' K'
            refine lexT_ef1 32 (by kernel_rfl) rfl rfl (fun K' hK' => ?_)
            go_simp
            refine (sameIds_any k69 H2.out H3.out (by decide) (by decide)).mono ?_
            rintro e k70 ⟨bb, rfl, hbb, f0⟩
            obtain rfl : bb = true := hbb.2 rfl
            have f := Lib.hid f0
            replace A := Lib.hid (A.out.keep f.out)
            clear f f0 hbb H1 H2 H3
            refine hK'.out _ _ ?_ (fun hS => ?_)
            · exact A.out.s
            try simp only [Act.put, List.setIfInBounds_toArray, List.set_cons_zero, List.set_cons_succ]
            clear hS hK' K'
            (((first | (refine lexT_rd 33 (by kernel_rfl) rfl rfl ?_; apply Exists.intro; refine ⟨?_, ?_⟩; (focus (first | exact lex_load (ty := 30) rfl (fun w h => h.1) uK rK (by rw [LA.out]; exact infoHash) | exact lex_load (ty := 30) rfl (fun w h => h.2.1) uK rK (by rw [LB.out]; exact infoHash) | exact lex_load (ty := 30) rfl (fun w h => h.2.2) uK rK (by rw [LC.out]; exact infoHash) | (intro w' hS; obtain ⟨s1, s2, s3⟩ := hS; go_simp; (try with_reducible rfl); done)))) | (refine lexT_sk 33 (by kernel_rfl) rfl rfl ?_)); try simp only [Act.put, List.setIfInBounds_toArray, List.set_cons_zero, List.set_cons_succ]); ((first | (refine lexT_rd 34 (by kernel_rfl) rfl rfl ?_; apply Exists.intro; refine ⟨?_, ?_⟩; (focus (first | exact lex_load (ty := 30) rfl (fun w h => h.1) uK rK (by rw [LA.out]; exact infoHash) | exact lex_load (ty := 30) rfl (fun w h => h.2.1) uK rK (by rw [LB.out]; exact infoHash) | exact lex_load (ty := 30) rfl (fun w h => h.2.2) uK rK (by rw [LC.out]; exact infoHash) | (intro w' hS; obtain ⟨s1, s2, s3⟩ := hS; go_simp; (try with_reducible rfl); done)))) | (refine lexT_sk 34 (by kernel_rfl) rfl rfl ?_)); try simp only [Act.put, List.setIfInBounds_toArray, List.set_cons_zero]))
            refine lexT_nil (hK.out _ _ ?_)
            go_wp2
            go_ret
            exact ⟨by rfl, A.out.gc.fr⟩
        · refine wp_value (exec_buildSliceA (t := 27) rfl rfl undIds infoHashZ2 rfl (by decide) (by decide) LC.out) ?_
          have f := Lib.hid ((Fr.refl No k59).alloc (.cells (hashC hC).toArray 30))
          (try replace H1 := Lib.hid (H1.out.keep f.out))
          (try replace H2 := Lib.hid (H2.out.keep f.out))
          (try replace H3 := Lib.hid (H3.out.keep f.out))
          have H3 := Lib.hid (ids_new1 k59 okC)
          replace A := Lib.hid (A.out.keep f.out)
          clear f
          refine hK'.out _ _ ?_ (fun hS => ?_)
          · exact A.out.s
          try simp only [Act.put, List.setIfInBounds_toArray, List.set_cons_zero, List.set_cons_succ]
          clear hS hK' K'
          generalize k59.alloc (.cells (hashC hC).toArray 30) = k71 at *
          generalize k59.heap.size = q72 at *
          refine lexT_ef1 28 (by kernel_rfl) rfl rfl (fun K' hK' => ?_)
          refine wp_value (exec_buildSliceA (t := 27) rfl rfl undIds infoHashZ2 rfl (by decide) (by decide) LC.out) ?_
          have f := Lib.hid ((Fr.refl No k71).alloc (.cells (hashC hC).toArray 30))
          (try replace H1 := Lib.hid (H1.out.keep f.out))
          (try replace H2 := Lib.hid (H2.out.keep f.out))
          (try replace H3 := Lib.hid (H3.out.keep f.out))
          have H1 := Lib.hid (ids_new1 k71 okC)
          replace A := Lib.hid (A.out.keep f.out)
          clear f
          refine hK'.out _ _ ?_ (fun hS => ?_)
          · exact A.out.s
          try simp only [Act.put, List.setIfInBounds_toArray, List.set_cons_zero, List.set_cons_succ]
          clear hS hK' K'
          generalize k71.alloc (.cells (hashC hC).toArray 30) = k73 at *
          generalize k71.heap.size = q74 at *
          refine lexT_ef1 29 (by kernel_rfl) rfl rfl (fun K' hK' => ?_)
          go_simp
          refine (up_K A.out.gc (by decide) H1.out (by decide)).mono ?_
          rintro e k75 ⟨v2, rfl, o⟩
          have f := Lib.hid o.2
          (try replace H1 := Lib.hid (H1.out.keep f.out))
          (try replace H2 := Lib.hid (H2.out.keep f.out))
          (try replace H3 := Lib.hid (H3.out.keep f.out))
          have H2 := Lib.hid (show IdsIs k75 v2 [hC] by have h := o.is (A.out.gc.okUp [hC]); rw [uL] at h; exact h)
          replace A := Lib.hid (A.out.keep f.out)
          clear f o
          refine hK'.out _ _ ?_ (fun hS => ?_)
          · exact A.out.s
          try simp only [Act.put, List.setIfInBounds_toArray, List.set_cons_zero, List.set_cons_succ]
          clear hS hK' K'
          refine lexT_ef1 32 (by kernel_rfl) rfl rfl (fun K' hK' => ?_)
          go_simp
          refine (sameIds_any k75 H2.out H3.out (by decide) (by decide)).mono ?_
          rintro e k76 ⟨bb, rfl, hbb, f0⟩
          obtain rfl : bb = true := hbb.2 rfl
          have f := Lib.hid f0
          replace A := Lib.hid (A.out.keep f.out)
          clear f f0 hbb H1 H2 H3
          refine hK'.out _ _ ?_ (fun hS => ?_)
          · exact A.out.s
          try simp only [Act.put, List.setIfInBounds_toArray, List.set_cons_zero, List.set_cons_succ]
          clear hS hK' K'
          (((first | (refine lexT_rd 33 (by kernel_rfl) rfl rfl ?_; apply Exists.intro; refine ⟨?_, ?_⟩; (focus (first | exact lex_load (ty := 30) rfl (fun w h => h.1) uK rK (by rw [LA.out]; exact infoHash) | exact lex_load (ty := 30) rfl (fun w h => h.2.1) uK rK (by rw [LB.out]; exact infoHash) | exact lex_load (ty := 30) rfl (fun w h => h.2.2) uK rK (by rw [LC.out]; exact infoHash) | (intro w' hS; obtain ⟨s1, s2, s3⟩ := hS; go_simp; (try with_reducible rfl); done)))) | (refine lexT_sk 33 (by kernel_rfl) rfl rfl ?_)); try simp only [Act.put, List.setIfInBounds_toArray, List.set_cons_zero, List.set_cons_succ]); ((first | (refine lexT_rd 34 (by kernel_rfl) rfl rfl ?_; apply Exists.intro; refine ⟨?_, ?_⟩; (focus (first | exact lex_load (ty := 30) rfl (fun w h => h.1) uK rK (by rw [LA.out]; exact infoHash) | exact lex_load (ty := 30) rfl (fun w h => h.2.1) uK rK (by rw [LB.out]; exact infoHash) | exact lex_load (ty := 30) rfl (fun w h => h.2.2) uK rK (by rw [LC.out]; exact infoHash) | (intro w' hS; obtain ⟨s1, s2, s3⟩ := hS; go_simp; (try with_reducible rfl); done)))) | (refine lexT_sk 34 (by kernel_rfl) rfl rfl ?_)); try simp only [Act.put, List.setIfInBounds_toArray, List.set_cons_zero]))
          refine lexT_nil (hK.out _ _ ?_)
          go_wp2
          go_ret
          exact ⟨by rfl, A.out.gc.fr⟩
    · refine wp_value (exec_buildSlice3 (t := 27) rfl rfl rfl rfl undIds infoHashZ2 rfl (by decide) (by decide) LA.out LB.out LC.out) ?_
      have f := Lib.hid ((Fr.refl No k1).alloc (.cells (hashC hA ++ hashC hB ++ hashC hC).toArray 30))
      (try replace H1 := Lib.hid (H1.out.keep f.out))
      (try replace H2 := Lib.hid (H2.out.keep f.out))
      (try replace H3 := Lib.hid (H3.out.keep f.out))
      have H3 := Lib.hid (ids_new3' k1 okA okB okC)
      replace A := Lib.hid (A.out.keep f.out)
      clear f
      refine hK'.out _ _ ?_ (fun hS => ?_)
      · exact A.out.s
      try simp only [Act.put, List.setIfInBounds_toArray, List.set_cons_zero, List.set_cons_succ]
      clear hS hK' K'
      generalize k1.alloc (.cells (hashC hA ++ hashC hB ++ hashC hC).toArray 30) = k77 at *
      generalize k1.heap.size = q78 at *
      refine lexT_ef1 3 (by kernel_rfl) rfl rfl (fun K' hK' => ?_)
      go_simp
      refine (up_K A.out.gc (by decide) H1.out (by decide)).mono ?_
      rintro e k79 ⟨v2, rfl, o⟩
      have f := Lib.hid o.2
      (try replace H1 := Lib.hid (H1.out.keep f.out))
      (try replace H2 := Lib.hid (H2.out.keep f.out))
      (try replace H3 := Lib.hid (H3.out.keep f.out))
      have H2 := Lib.hid (show IdsIs k79 v2 [hA, hB, hC] by have h := o.is (A.out.gc.okUp [hC]); rw [uC] at h; exact h)
      replace A := Lib.hid (A.out.keep f.out)
      clear f o
      refine hK'.out _ _ ?_ (fun hS => ?_)
      · exact A.out.s
      try simp only [Act.put, List.setIfInBounds_toArray, List.set_cons_zero, List.set_cons_succ]
      clear hS hK' K'
      refine lexT_ef1 8 (by kernel_rfl) rfl rfl (fun K' hK' => ?_)
      go_simp
      refine (sameIds_any k79 H2.out H3.out (by decide) (by decide)).mono ?_
      rintro e k80 ⟨bb, rfl, hbb, f0⟩
      obtain rfl : bb = true := hbb.2 rfl
      have f := Lib.hid f0
      replace A := Lib.hid (A.out.keep f.out)
      clear f f0 hbb H1 H2 H3
      refine hK'.out _ _ ?_ (fun hS => ?_)
      · exact A.out.s
      try simp only [Act.put, List.setIfInBounds_toArray, List.set_cons_zero, List.set_cons_succ]
      clear hS hK' K'
      (((first | (refine lexT_rd 9 (by kernel_rfl) rfl rfl ?_; apply Exists.intro; refine ⟨?_, ?_⟩; (focus (first | exact lex_load (ty := 30) rfl (fun w h => h.1) uK rK (by rw [LA.out]; exact infoHash) | exact lex_load (ty := 30) rfl (fun w h => h.2.1) uK rK (by rw [LB.out]; exact infoHash) | exact lex_load (ty := 30) rfl (fun w h => h.2.2) uK rK (by rw [LC.out]; exact infoHash) | (intro w' hS; obtain ⟨s1, s2, s3⟩ := hS; go_simp; (try with_reducible rfl); done)))) | (refine lexT_sk 9 (by kernel_rfl) rfl rfl ?_)); try simp only [Act.put, List.setIfInBounds_toArray, List.set_cons_zero, List.set_cons_succ]); ((first | (refine lexT_rd 10 (by kernel_rfl) rfl rfl ?_; apply Exists.intro; refine ⟨?_, ?_⟩; (focus (first | exact lex_load (ty := 30) rfl (fun w h => h.1) uK rK (by rw [LA.out]; exact infoHash) | exact lex_load (ty := 30) rfl (fun w h => h.2.1) uK rK (by rw [LB.out]; exact infoHash) | exact lex_load (ty := 30) rfl (fun w h => h.2.2) uK rK (by rw [LC.out]; exact infoHash) | (intro w' hS; obtain ⟨s1, s2, s3⟩ := hS; go_simp; (try with_reducible rfl); done)))) | (refine lexT_sk 10 (by kernel_rfl) rfl rfl ?_)); try simp only [Act.put, List.setIfInBounds_toArray, List.set_cons_zero, List.set_cons_succ]); ((first | (refine lexT_rd 11 (by kernel_rfl) rfl rfl ?_; apply Exists.intro; refine ⟨?_, ?_⟩; (focus (first | exact lex_load (ty := 30) rfl (fun w h => h.1) uK rK (by rw [LA.out]; exact infoHash) | exact lex_load (ty := 30) rfl (fun w h => h.2.1) uK rK (by rw [LB.out]; exact infoHash) | exact lex_load (ty := 30) rfl (fun w h => h.2.2) uK rK (by rw [LC.out]; exact infoHash) | (intro w' hS; obtain ⟨s1, s2, s3⟩ := hS; go_simp; (try with_reducible rfl); done)))) | (refine lexT_sk 11 (by kernel_rfl) rfl rfl ?_)); try simp only [Act.put, List.setIfInBounds_toArray, List.set_cons_zero, List.set_cons_succ]); ((first | (refine lexT_rd 14 (by kernel_rfl) rfl rfl ?_; apply Exists.intro; refine ⟨?_, ?_⟩; (focus (first | exact lex_load (ty := 30) rfl (fun w h => h.1) uK rK (by rw [LA.out]; exact infoHash) | exact lex_load (ty := 30) rfl (fun w h => h.2.1) uK rK (by rw [LB.out]; exact infoHash) | exact lex_load (ty := 30) rfl (fun w h => h.2.2) uK rK (by rw [LC.out]; exact infoHash) | (intro w' hS; obtain ⟨s1, s2, s3⟩ := hS; go_simp; (try with_reducible rfl); done)))) | (refine lexT_sk 14 (by kernel_rfl) rfl rfl ?_)); try simp only [Act.put, List.setIfInBounds_toArray, List.set_cons_zero, List.set_cons_succ]); ((first | (refine lexT_rd 15 (by kernel_rfl) rfl rfl ?_; apply Exists.intro; refine ⟨?_, ?_⟩; (focus (first | exact lex_load (ty := 30) rfl (fun w h => h.1) uK rK (by rw [LA.out]; exact infoHash) | exact lex_load (ty := 30) rfl (fun w h => h.2.1) uK rK (by rw [LB.out]; exact infoHash) | exact lex_load (ty := 30) rfl (fun w h => h.2.2) uK rK (by rw [LC.out]; exact infoHash) | (intro w' hS; obtain ⟨s1, s2, s3⟩ := hS; go_simp; (try with_reducible rfl); done)))) | (refine lexT_sk 15 (by kernel_rfl) rfl rfl ?_)); try simp only [Act.put, List.setIfInBounds_toArray, List.set_cons_zero, List.set_cons_succ]))
      refine lexT_ef2 12 16 (by kernel_rfl) rfl rfl rfl rfl (fun K' hK' => ?_) (fun K' hK' => ?_)
      · refine wp_value (exec_buildSliceA (t := 27) rfl rfl undIds infoHashZ2 rfl (by decide) (by decide) LB.out) ?_
        have f := Lib.hid ((Fr.refl No k80).alloc (.cells (hashC hB).toArray 30))
        (try replace H1 := Lib.hid (H1.out.keep f.out))
        (try replace H2 := Lib.hid (H2.out.keep f.out))
        (try replace H3 := Lib.hid (H3.out.keep f.out))
        have H1 := Lib.hid (ids_new1 k80 okB)
        replace A := Lib.hid (A.out.keep f.out)
        clear f
        refine hK'.out _ _ ?_ (fun hS => ?_)
        · exact A.out.s
        try simp only [Act.put, List.setIfInBounds_toArray, List.set_cons_zero, List.set_cons_succ]
        clear hS hK' K'
        generalize k80.alloc (.cells (hashC hB).toArray 30) = k81 at *
        generalize k80.heap.size = q82 at *
        refine lexT_ef2 13 16 (by kernel_rfl) rfl rfl rfl rfl (fun K' hK' => ?_) (fun K' hK' => ?_)
        · go_simp
          refine (down_K A.out.gc (by decide) H1.out (by decide)).mono ?_
          rintro e k83 ⟨v2, rfl, o⟩
          have f := Lib.hid o.2
          (try replace H1 := Lib.hid (H1.out.keep f.out))
          (try replace H2 := Lib.hid (H2.out.keep f.out))
          (try replace H3 := Lib.hid (H3.out.keep f.out))
          have H2 := Lib.hid (show IdsIs k83 v2 [hB, hC] by have h := o.is (A.out.gc.okDown [hB]); rw [dC] at h; exact h)
          replace A := Lib.hid (A.out.keep f.out)
          clear f o
          refine hK'.out _ _ ?_ (fun hS => ?_)
          · exact A.out.s
          try simp only [Act.put, List.setIfInBounds_toArray, List.set_cons_zero, List.set_cons_succ]
          clear hS hK' K'
          refine lexT_ef1 16 (by kernel_rfl) rfl rfl (fun K' hK' => ?_)
          refine wp_value (exec_buildSlice2 (t := 27) rfl rfl rfl undIds infoHashZ2 rfl (by decide) (by decide) LB.out LC.out) ?_
          have f := Lib.hid ((Fr.refl No k83).alloc (.cells (hashC hB ++ hashC hC).toArray 30))
          (try replace H1 := Lib.hid (H1.out.keep f.out))
          (try replace H2 := Lib.hid (H2.out.keep f.out))
          (try replace H3 := Lib.hid (H3.out.keep f.out))
          have H3 := Lib.hid (ids_new2 k83 okB okC)
          replace A := Lib.hid (A.out.keep f.out)
          clear f
          refine hK'.out _ _ ?_ (fun hS => ?_)
          · exact A.out.s
          try simp only [Act.put, List.setIfInBounds_toArray, List.set_cons_zero, List.set_cons_succ]
          clear hS hK' K'
          generalize k83.alloc (.cells (hashC hB ++ hashC hC).toArray 30) = k84 at *
          generalize k83.heap.size = q85 at *
          refine lexT_ef1 17 (by kernel_rfl) rfl rfl (fun K' hK' => ?_)
          go_simp
          refine (sameIds_any k84 H2.out H3.out (by decide) (by decide)).mono ?_
          rintro e k86 ⟨bb, rfl, hbb, f0⟩
          obtain rfl : bb = true := hbb.2 rfl
          have f := Lib.hid f0
          replace A := Lib.hid (A.out.keep f.out)
          clear f f0 hbb H1 H2 H3
          refine hK'.out _ _ ?_ (fun hS => ?_)
          · exact A.out.s
          try simp only [Act.put, List.setIfInBounds_toArray, List.set_cons_zero, List.set_cons_succ]
          clear hS hK' K'
          (((first | (refine lexT_rd 18 (by kernel_rfl) rfl rfl ?_; apply Exists.intro; refine ⟨?_, ?_⟩; (focus (first | exact lex_load (ty := 30) rfl (fun w h => h.1) uK rK (by rw [LA.out]; exact infoHash) | exact lex_load (ty := 30) rfl (fun w h => h.2.1) uK rK (by rw [LB.out]; exact infoHash) | exact lex_load (ty := 30) rfl (fun w h => h.2.2) uK rK (by rw [LC.out]; exact infoHash) | (intro w' hS; obtain ⟨s1, s2, s3⟩ := hS; go_simp; (try with_reducible rfl); done)))) | (refine lexT_sk 18 (by kernel_rfl) rfl rfl ?_)); try simp only [Act.put, List.setIfInBounds_toArray, List.set_cons_zero, List.set_cons_succ]); ((first | (refine lexT_rd 19 (by kernel_rfl) rfl rfl ?_; apply Exists.intro; refine ⟨?_, ?_⟩; (focus (first | exact lex_load (ty := 30) rfl (fun w h => h.1) uK rK (by rw [LA.out]; exact infoHash) | exact lex_load (ty := 30) rfl (fun w h => h.2.1) uK rK (by rw [LB.out]; exact infoHash) | exact lex_load (ty := 30) rfl (fun w h => h.2.2) uK rK (by rw [LC.out]; exact infoHash) | (intro w' hS; obtain ⟨s1, s2, s3⟩ := hS; go_simp; (try with_reducible rfl); done)))) | (refine lexT_sk 19 (by kernel_rfl) rfl rfl ?_)); try simp only [Act.put, List.setIfInBounds_toArray, List.set_cons_zero, List.set_cons_succ]); ((first | (refine lexT_rd 20 (by kernel_rfl) rfl rfl ?_; apply Exists.intro; refine ⟨?_, ?_⟩; (focus (first | exact lex_load (ty := 30) rfl (fun w h => h.1) uK rK (by rw [LA.out]; exact infoHash) | exact lex_load (ty := 30) rfl (fun w h => h.2.1) uK rK (by rw [LB.out]; exact infoHash) | exact lex_load (ty := 30) rfl (fun w h => h.2.2) uK rK (by rw [LC.out]; exact infoHash) | (intro w' hS; obtain ⟨s1, s2, s3⟩ := hS; go_simp; (try with_reducible rfl); done)))) | (refine lexT_sk 20 (by kernel_rfl) rfl rfl ?_)); try simp only [Act.put, List.setIfInBounds_toArray, List.set_cons_zero, List.set_cons_succ]); ((first | (refine lexT_rd 21 (by kernel_rfl) rfl rfl ?_; apply Exists.intro; refine ⟨?_, ?_⟩; (focus (first | exact lex_load (ty := 30) rfl (fun w h => h.1) uK rK (by rw [LA.out]; exact infoHash) | exact lex_load (ty := 30) rfl (fun w h => h.2.1) uK rK (by rw [LB.out]; exact infoHash) | exact lex_load (ty := 30) rfl (fun w h => h.2.2) uK rK (by rw [LC.out]; exact infoHash) | (intro w' hS; obtain ⟨s1, s2, s3⟩ := hS; go_simp; (try with_reducible rfl); done)))) | (refine lexT_sk 21 (by kernel_rfl) rfl rfl ?_)); try simp only [Act.put, List.setIfInBounds_toArray, List.set_cons_zero, List.set_cons_succ]))
          refine lexT_ef1 22 (by kernel_rfl) rfl rfl (fun K' hK' => ?_)
          go_simp
          refine (lift_K A.out.gc (by decide) okB).mono ?_
          rintro e k87 ⟨rfl, V88, g8, f8, s8⟩
          rw [if_pos inCB]
          replace A := Lib.hid (A.out.call g8 f8 (fun j h => .inl (s8 j h)))
          clear g8 f8 s8
          refine hK'.out _ _ ?_ (fun hS => ?_)
          · exact A.out.s
          try simp only [Act.put, List.setIfInBounds_toArray, List.set_cons_zero, List.set_cons_succ]
          clear hS hK' K'
          (((first | (refine lexT_rd 23 (by kernel_rfl) rfl rfl ?_; apply Exists.intro; refine ⟨?_, ?_⟩; (focus (first | exact lex_load (ty := 30) rfl (fun w h => h.1) uK rK (by rw [LA.out]; exact infoHash) | exact lex_load (ty := 30) rfl (fun w h => h.2.1) uK rK (by rw [LB.out]; exact infoHash) | exact lex_load (ty := 30) rfl (fun w h => h.2.2) uK rK (by rw [LC.out]; exact infoHash) | (intro w' hS; obtain ⟨s1, s2, s3⟩ := hS; go_simp; (try with_reducible rfl); done)))) | (refine lexT_sk 23 (by kernel_rfl) rfl rfl ?_)); try simp only [Act.put, List.setIfInBounds_toArray, List.set_cons_zero, List.set_cons_succ]); ((first | (refine lexT_rd 24 (by kernel_rfl) rfl rfl ?_; apply Exists.intro; refine ⟨?_, ?_⟩; (focus (first | exact lex_load (ty := 30) rfl (fun w h => h.1) uK rK (by rw [LA.out]; exact infoHash) | exact lex_load (ty := 30) rfl (fun w h => h.2.1) uK rK (by rw [LB.out]; exact infoHash) | exact lex_load (ty := 30) rfl (fun w h => h.2.2) uK rK (by rw [LC.out]; exact infoHash) | (intro w' hS; obtain ⟨s1, s2, s3⟩ := hS; go_simp; (try with_reducible rfl); done)))) | (refine lexT_sk 24 (by kernel_rfl) rfl rfl ?_)); try simp only [Act.put, List.setIfInBounds_toArray, List.set_cons_zero, List.set_cons_succ]); ((first | (refine lexT_rd 25 (by kernel_rfl) rfl rfl ?_; apply Exists.intro; refine ⟨?_, ?_⟩; (focus (first | exact lex_load (ty := 30) rfl (fun w h => h.1) uK rK (by rw [LA.out]; exact infoHash) | exact lex_load (ty := 30) rfl (fun w h => h.2.1) uK rK (by rw [LB.out]; exact infoHash) | exact lex_load (ty := 30) rfl (fun w h => h.2.2) uK rK (by rw [LC.out]; exact infoHash) | (intro w' hS; obtain ⟨s1, s2, s3⟩ := hS; go_simp; (try with_reducible rfl); done)))) | (refine lexT_sk 25 (by kernel_rfl) rfl rfl ?_)); try simp only [Act.put, List.setIfInBounds_toArray, List.set_cons_zero, List.set_cons_succ]); ((first | (refine lexT_rd 26 (by kernel_rfl) rfl rfl ?_; apply Exists.intro; refine ⟨?_, ?_⟩; (focus (first | exact lex_load (ty := 30) rfl (fun w h => h.1) uK rK (by rw [LA.out]; exact infoHash) | exact lex_load (ty := 30) rfl (fun w h => h.2.1) uK rK (by rw [LB.out]; exact infoHash) | exact lex_load (ty := 30) rfl (fun w h => h.2.2) uK rK (by rw [LC.out]; exact infoHash) | (intro w' hS; obtain ⟨s1, s2, s3⟩ := hS; go_simp; (try with_reducible rfl); done)))) | (refine lexT_sk 26 (by kernel_rfl) rfl rfl ?_)); try simp only [Act.put, List.setIfInBounds_toArray, List.set_cons_zero, List.set_cons_succ]); ((first | (refine lexT_rd 27 (by kernel_rfl) rfl rfl ?_; apply Exists.intro; refine ⟨?_, ?_⟩; (focus (first | exact lex_load (ty := 30) rfl (fun w h => h.1) uK rK (by rw [LA.out]; exact infoHash) | exact lex_load (ty := 30) rfl (fun w h => h.2.1) uK rK (by rw [LB.out]; exact infoHash) | exact lex_load (ty := 30) rfl (fun w h => h.2.2) uK rK (by rw [LC.out]; exact infoHash) | (intro w' hS; obtain ⟨s1, s2, s3⟩ := hS; go_simp; (try with_reducible rfl); done)))) | (refine lexT_sk 27 (by kernel_rfl) rfl rfl ?_)); try simp only [Act.put, List.setIfInBounds_toArray, List.set_cons_zero, List.set_cons_succ]); ((first | (refine lexT_rd 30 (by kernel_rfl) rfl rfl ?_; apply Exists.intro; refine ⟨?_, ?_⟩; (focus (first | exact lex_load (ty := 30) rfl (fun w h => h.1) uK rK (by rw [LA.out]; exact infoHash) | exact lex_load (ty := 30) rfl (fun w h => h.2.1) uK rK (by rw [LB.out]; exact infoHash) | exact lex_load (ty := 30) rfl (fun w h => h.2.2) uK rK (by rw [LC.out]; exact infoHash) | (intro w' hS; obtain ⟨s1, s2, s3⟩ := hS; go_simp; (try with_reducible rfl); done)))) | (refine lexT_sk 30 (by kernel_rfl) rfl rfl ?_)); try simp only [Act.put, List.setIfInBounds_toArray, List.set_cons_zero, List.set_cons_succ]))
          refine lexT_ef2 28 31 (by kernel_rfl) rfl rfl rfl rfl (fun K' hK' => ?_) (fun K' hK' => ?_)
          · refine wp_value (exec_buildSliceA (t := 27) rfl rfl undIds infoHashZ2 rfl (by decide) (by decide) LC.out) ?_
            have f := Lib.hid ((Fr.refl No k87).alloc (.cells (hashC hC).toArray 30))
            (try replace H1 := Lib.hid (H1.out.keep f.out))
            (try replace H2 := Lib.hid (H2.out.keep f.out))
            (try replace H3 := Lib.hid (H3.out.keep f.out))
            have H1 := Lib.hid (ids_new1 k87 okC)
            replace A := Lib.hid (A.out.keep f.out)
            clear f
            refine hK'.out _ _ ?_ (fun hS => ?_)
            · exact A.out.s
            try simp only [Act.put, List.setIfInBounds_toArray, List.set_cons_zero, List.set_cons_succ]
            clear hS hK' K'
            generalize k87.alloc (.cells (hashC hC).toArray 30) = k89 at *
            generalize k87.heap.size = q90 at *
            refine lexT_ef2 29 31 (by kernel_rfl) rfl rfl rfl rfl (fun K' hK' => ?_) (fun K' hK' => ?_)
            · go_simp
              refine (up_K A.out.gc (by decide) H1.out (by decide)).mono ?_
              rintro e k91 ⟨v2, rfl, o⟩
              have f := Lib.hid o.2
              (try replace H1 := Lib.hid (H1.out.keep f.out))
              (try replace H2 := Lib.hid (H2.out.keep f.out))
              (try replace H3 := Lib.hid (H3.out.keep f.out))
              have H2 := Lib.hid (show IdsIs k91 v2 [hC] by have h := o.is (A.out.gc.okUp [hC]); rw [uL] at h; exact h)
              replace A := Lib.hid (A.out.keep f.out)
              clear f o
              refine hK'.out _ _ ?_ (fun hS => ?_)
              · exact A.out.s
              try simp only [Act.put, List.setIfInBounds_toArray, List.set_cons_zero, List.set_cons_succ]
              clear hS hK' K'
              refine lexT_ef1 31 (by kernel_rfl) rfl rfl (fun K' hK' => ?_)
              refine wp_value (exec_buildSliceA (t := 27) rfl rfl undIds infoHashZ2 rfl (by decide) (by decide) LC.out) ?_
              have f := Lib.hid ((Fr.refl No k91).alloc (.cells (hashC hC).toArray 30))
              (try replace H1 := Lib.hid (H1.out.keep f.out))
              (try replace H2 := Lib.hid (H2.out.keep f.out))
              (try replace H3 := Lib.hid (H3.out.keep f.out))
              have H3 := Lib.hid (ids_new1 k91 okC)
              replace A := Lib.hid (A.out.keep f.out)
              clear f
              refine hK'.out _ _ ?_ (fun hS => ?_)
              · exact A.out.s
              try simp only [Act.put, List.setIfInBounds_toArray, List.set_cons_zero, List.set_cons_succ]
              clear hS hK' K'
              generalize k91.alloc (.cells (hashC hC).toArray 30) = k92 at *
              generalize k91.heap.size = q93 at *
              refine lexT_ef1 32 (by kernel_rfl) rfl rfl (fun K' hK' => ?_)
              go_simp
              refine (sameIds_any k92 H2.out H3.out (by decide) (by decide)).mono ?_
              rintro e k94 ⟨bb, rfl, hbb, f0⟩
              obtain rfl : bb = true := hbb.2 rfl
              have f := Lib.hid f0
              replace A := Lib.hid (A.out.keep f.out)
              clear f f0 hbb H1 H2 H3
              refine hK'.out _ _ ?_ (fun hS => ?_)
              · exact A.out.s
              try simp only [Act.put, List.setIfInBounds_toArray, List.set_cons_zero, List.set_cons_succ]
              clear hS hK' K'
              (((first | (refine lexT_rd 33 (by kernel_rfl) rfl rfl ?_; apply Exists.intro; refine ⟨?_, ?_⟩; (focus (first | exact lex_load (ty := 30) rfl (fun w h => h.1) uK rK (by rw [LA.out]; exact infoHash) | exact lex_load (ty := 30) rfl (fun w h => h.2.1) uK rK (by rw [LB.out]; exact infoHash) | exact lex_load (ty := 30) rfl (fun w h => h.2.2) uK rK (by rw [LC.out]; exact infoHash) | (intro w' hS; obtain ⟨s1, s2, s3⟩ := hS; go_simp; (try with_reducible rfl); done)))) | (refine lexT_sk 33 (by kernel_rfl) rfl rfl ?_)); try simp only [Act.put, List.setIfInBounds_toArray, List.set_cons_zero, List.set_cons_succ]); ((first | (refine lexT_rd 34 (by kernel_rfl) rfl rfl ?_; apply Exists.intro; refine ⟨?_, ?_⟩; (focus (first | exact lex_load (ty := 30) rfl (fun w h => h.1) uK rK (by rw [LA.out]; exact infoHash) | exact lex_load (ty := 30) rfl (fun w h => h.2.1) uK rK (by rw [LB.out]; exact infoHash) | exact lex_load (ty := 30) rfl (fun w h => h.2.2) uK rK (by rw [LC.out]; exact infoHash) | (intro w' hS; obtain ⟨s1, s2, s3⟩ := hS; go_simp; (try with_reducible rfl); done)))) | (refine lexT_sk 34 (by kernel_rfl) rfl rfl ?_)); try simp only [Act.put, List.setIfInBounds_toArray, List.set_cons_zero]))
              refine lexT_nil (hK.out _ _ ?_)
              go_wp2
              go_ret
              exact ⟨by rfl, A.out.gc.fr⟩
            · refine wp_value (exec_buildSliceA (t := 27) rfl rfl undIds infoHashZ2 rfl (by decide) (by decide) LC.out) ?_
              have f := Lib.hid ((Fr.refl No k89).alloc (.cells (hashC hC).toArray 30))
              (try replace H1 := Lib.hid (H1.out.keep f.out))
              (try replace H2 := Lib.hid (H2.out.keep f.out))
              (try replace H3 := Lib.hid (H3.out.keep f.out))
              have H3 := Lib.hid (ids_new1 k89 okC)
              replace A := Lib.hid (A.out.keep f.out)
              clear f
              refine hK'.out _ _ ?_ (fun hS => ?_)
              · exact A.out.s
              try simp only [Act.put, List.setIfInBounds_toArray, List.set_cons_zero, List.set_cons_succ]
              clear hS hK' K'
              generalize k89.alloc (.cells (hashC hC).toArray 30) = k95 at *
              generalize k89.heap.size = q96 at *
              refine lexT_ef1 29 (by kernel_rfl) rfl rfl (fun K' hK' => ?_)
              go_simp
              refine (up_K A.out.gc (by decide) H1.out (by decide)).mono ?_
              rintro e k97 ⟨v2, rfl, o⟩
              have f := Lib.hid o.2
              (try replace H1 := Lib.hid (H1.out.keep f.out))
              (try replace H2 := Lib.hid (H2.out.keep f.out))
              (try replace H3 := Lib.hid (H3.out.keep f.out))
              have H2 := Lib.hid (show IdsIs k97 v2 [hC] by have h := o.is (A.out.gc.okUp [hC]); rw [uL] at h; exact h)
              replace A := Lib.hid (A.out.keep f.out)
              clear f o
              refine hK'.out _ _ ?_ (fun hS => ?_)
              · exact A.out.s
              try simp only [Act.put, List.setIfInBounds_toArray, List.set_cons_zero, List.set_cons_succ]
              clear hS hK' K'
              refine lexT_ef1 32 (by kernel_rfl) rfl rfl (fun K' hK' => ?_)
              go_simp
              refine (sameIds_any k97 H2.out H3.out (by decide) (by decide)).mono ?_
              rintro e k98 ⟨bb, rfl, hbb, f0⟩
              obtain rfl : bb = true := hbb.2 rfl
              have f := Lib.hid f0
              replace A := Lib.hid (A.out.keep f.out)
              clear f f0 hbb H1 H2 H3
              refine hK'.out _ _ ?_ (fun hS => ?_)
              · exact A.out.s
              try simp only [Act.put, List.setIfInBounds_toArray, List.set_cons_zero, List.set_cons_succ]
              clear hS hK' K'
              (((first | (refine lexT_rd 33 (by kernel_rfl) rfl rfl ?_; apply Exists.intro; refine ⟨?_, ?_⟩; (focus (first | exact lex_load (ty := 30) rfl (fun w h => h.1) uK rK (by rw [LA.out]; exact infoHash) | exact lex_load (ty := 30) rfl (fun w h => h.2.1) uK rK (by rw [LB.out]; exact infoHash) | exact lex_load (ty := 30) rfl (fun w h => h.2.2) uK rK (by rw [LC.out]; exact infoHash) | (intro w' hS; obtain ⟨s1, s2, s3⟩ := hS; go_simp; (try with_reducible rfl); done)))) | (refine lexT_sk 33 (by kernel_rfl) rfl rfl ?_)); try simp only [Act.put, List.setIfInBounds_toArray, List.set_cons_zero, List.set_cons_succ]); ((first | (refine lexT_rd 34 (by kernel_rfl) rfl rfl ?_; apply Exists.intro; refine ⟨?_, ?_⟩; (focus (first | exact lex_load (ty := 30) rfl (fun w h => h.1) uK rK (by rw [LA.out]; exact infoHash) | exact lex_load (ty := 30) rfl (fun w h => h.2.1) uK rK (by rw [LB.out]; exact infoHash) | exact lex_load (ty := 30) rfl (fun w h => h.2.2) uK rK (by rw [LC.out]; exact infoHash) | (intro w' hS; obtain ⟨s1, s2, s3⟩ := hS; go_simp; (try with_reducible rfl); done)))) | (refine lexT_sk 34 (by kernel_rfl) rfl rfl ?_)); try simp only [Act.put, List.setIfInBounds_toArray, List.set_cons_zero]))
              refine lexT_nil (hK.out _ _ ?_)
              go_wp2
              go_ret
              exact ⟨by rfl, A.out.gc.fr⟩
          · refine wp_value (exec_buildSliceA (t := 27) rfl rfl undIds infoHashZ2 rfl (by decide) (by decide) LC.out) ?_
            have f := Lib.hid ((Fr.refl No k87).alloc (.cells (hashC hC).toArray 30))
            (try replace H1 := Lib.hid (H1.out.keep f.out))
            (try replace H2 := Lib.hid (H2.out.keep f.out))
            (try replace H3 := Lib.hid (H3.out.keep f.out))
            have H3 := Lib.hid (ids_new1 k87 okC)
            replace A := Lib.hid (A.out.keep f.out)
            clear f
            refine hK'.out _ _ ?_ (fun hS => ?_)
            · exact A.out.s
            try simp only [Act.put, List.setIfInBounds_toArray, List.set_cons_zero, List.set_cons_succ]
            clear hS hK' K'
            generalize k87.alloc (.cells (hashC hC).toArray 30) = k99 at *
            generalize k87.heap.size = q100 at *
            refine lexT_ef1 28 (by kernel_rfl) rfl rfl (fun K' hK' => ?_)
            refine wp_value (exec_buildSliceA (t := 27) rfl rfl undIds infoHashZ2 rfl (by decide) (by decide) LC.out) ?_
            have f := Lib.hid ((Fr.refl No k99).alloc (.cells (hashC hC).toArray 30))
            (try replace H1 := Lib.hid (H1.out.keep f.out))
            (try replace H2 := Lib.hid (H2.out.keep f.out))
            (try replace H3 := Lib.hid (H3.out.keep f.out))
            have H1 := Lib.hid (ids_new1 k99 okC)
            replace A := Lib.hid (A.out.keep f.out)
            clear f
            refine hK'.out _ _ ?_ (fun hS => ?_)
            · exact A.out.s
            try simp only [Act.put, List.setIfInBounds_toArray, List.set_cons_zero, List.set_cons_succ]
            clear hS hK' K'
            generalize k99.alloc (.cells (hashC hC).toArray 30) = k101 at *
            generalize k99.heap.size = q102 at *
            refine lexT_ef1 29 (by kernel_rfl) rfl rfl (fun K' hK' => ?_)
            go_simp
            refine (up_K A.out.gc (by decide) H1.out (by decide)).mono ?_
            rintro e k103 ⟨v2, rfl, o⟩
            have f := Lib.hid o.2
            (try replace H1 := Lib.hid (H1.out.keep f.out))
            (try replace H2 := Lib.hid (H2.out.keep f.out))
            (try replace H3 := Lib.hid (H3.out.keep f.out))
            have H2 := Lib.hid (show IdsIs k103 v2 [hC] by have h := o.is (A.out.gc.okUp [hC]); rw [uL] at h; exact h)
            replace A := Lib.hid (A.out.keep f.out)
            clear f o
            refine hK'.out _ _ ?_ (fun hS => ?_)
            · exact A.out.s
            try simp only [Act.put, List.setIfInBounds_toArray, List.set_cons_zero, List.set_cons_succ]
            clear hS hK' K'
            refine lexT_ef1 32 (by kernel_rfl) rfl rfl (fun K' hK' => ?_)
            go_simp
            refine (sameIds_any k103 H2.out H3.out (by decide) (by decide)).mono ?_
            rintro e k104 ⟨bb, rfl, hbb, f0⟩
            obtain rfl : bb = true := hbb.2 rfl
            have f := Lib.hid f0
            replace A := Lib.hid (A.out.keep f.out)
            clear f f0 hbb H1 H2 H3
            refine hK'.out _ _ ?_ (fun hS => ?_)
            · exact A.out.s
            try simp only [Act.put, List.setIfInBounds_toArray, List.set_cons_zero, List.set_cons_succ]
            clear hS hK' K'
            (((first | (refine lexT_rd 33 (by kernel_rfl) rfl rfl ?_; apply Exists.intro; refine ⟨?_, ?_⟩; (focus (first | exact lex_load (ty := 30) rfl (fun w h => h.1) uK rK (by rw [LA.out]; exact infoHash) | exact lex_load (ty := 30) rfl (fun w h => h.2.1) uK rK (by rw [LB.out]; exact infoHash) | exact lex_load (ty := 30) rfl (fun w h => h.2.2) uK rK (by rw [LC.out]; exact infoHash) | (intro w' hS; obtain ⟨s1, s2, s3⟩ := hS; go_simp; (try with_reducible rfl); done)))) | (refine lexT_sk 33 (by kernel_rfl) rfl rfl ?_)); try simp only [Act.put, List.setIfInBounds_toArray, List.set_cons_zero, List.set_cons_succ]); ((first | (refine lexT_rd 34 (by kernel_rfl) rfl rfl ?_; apply Exists.intro; refine ⟨?_, ?_⟩; (focus (first | exact lex_load (ty := 30) rfl (fun w h => h.1) uK rK (by rw [LA.out]; exact infoHash) | exact lex_load (ty := 30) rfl (fun w h => h.2.1) uK rK (by rw [LB.out]; exact infoHash) | exact lex_load (ty := 30) rfl (fun w h => h.2.2) uK rK (by rw [LC.out]; exact infoHash) | (intro w' hS; obtain ⟨s1, s2, s3⟩ := hS; go_simp; (try with_reducible rfl); done)))) | (refine lexT_sk 34 (by kernel_rfl) rfl rfl ?_)); try simp only [Act.put, List.setIfInBounds_toArray, List.set_cons_zero]))
            refine lexT_nil (hK.out _ _ ?_)
            go_wp2
            go_ret
            exact ⟨by rfl, A.out.gc.fr⟩
        · refine wp_value (exec_buildSlice2 (t := 27) rfl rfl rfl undIds infoHashZ2 rfl (by decide) (by decide) LB.out LC.out) ?_
          have f := Lib.hid ((Fr.refl No k81).alloc (.cells (hashC hB ++ hashC hC).toArray 30))
          (try replace H1 := Lib.hid (H1.out.keep f.out))
          (try replace H2 := Lib.hid (H2.out.keep f.out))
          (try replace H3 := Lib.hid (H3.out.keep f.out))
          have H3 := Lib.hid (ids_new2 k81 okB okC)
          replace A := Lib.hid (A.out.keep f.out)
          clear f
          refine hK'.out _ _ ?_ (fun hS => ?_)
          · exact A.out.s
          try simp only [Act.put, List.setIfInBounds_toArray, List.set_cons_zero, List.set_cons_succ]
          clear hS hK' K'
          generalize k81.alloc (.cells (hashC hB ++ hashC hC).toArray 30) = k105 at *
          generalize k81.heap.size = q106 at *
          refine lexT_ef1 13 (by kernel_rfl) rfl rfl (fun K' hK' => ?_)
          go_simp
          refine (down_K A.out.gc (by decide) H1.out (by decide)).mono ?_
          rintro e k107 ⟨v2, rfl, o⟩
          have f := Lib.hid o.2
          (try replace H1 := Lib.hid (H1.out.keep f.out))
          (try replace H2 := Lib.hid (H2.out.keep f.out))
          (try replace H3 := Lib.hid (H3.out.keep f.out))
          have H2 := Lib.hid (show IdsIs k107 v2 [hB, hC] by have h := o.is (A.out.gc.okDown [hB]); rw [dC] at h; exact h)
          replace A := Lib.hid (A.out.keep f.out)
          clear f o
          refine hK'.out _ _ ?_ (fun hS => ?_)
          · exact A.out.s
          try simp only [Act.put, List.setIfInBounds_toArray, List.set_cons_zero, List.set_cons_succ]
          clear hS hK' K'
          refine lexT_ef1 17 (by kernel_rfl) rfl rfl (fun K' hK' => ?_)
          go_simp
          refine (sameIds_any k107 H2.out H3.out (by decide) (by decide)).mono ?_
          rintro e k108 ⟨bb, rfl, hbb, f0⟩
          obtain rfl : bb = true := hbb.2 rfl
          have f := Lib.hid f0
          replace A := Lib.hid (A.out.keep f.out)
          clear f f0 hbb H1 H2 H3
          refine hK'.out _ _ ?_ (fun hS => ?_)
          · exact A.out.s
          try simp only [Act.put, List.setIfInBounds_toArray, List.set_cons_zero, List.set_cons_succ]
          clear hS hK' K'
          (((first | (refine lexT_rd 18 (by kernel_rfl) rfl rfl ?_; apply Exists.intro; refine ⟨?_, ?_⟩; (focus (first | exact lex_load (ty := 30) rfl (fun w h => h.1) uK rK (by rw [LA.out]; exact infoHash) | exact lex_load (ty := 30) rfl (fun w h => h.2.1) uK rK (by rw [LB.out]; exact infoHash) | exact lex_load (ty := 30) rfl (fun w h => h.2.2) uK rK (by rw [LC.out]; exact infoHash) | (intro w' hS; obtain ⟨s1, s2, s3⟩ := hS; go_simp; (try with_reducible rfl); done)))) | (refine lexT_sk 18 (by kernel_rfl) rfl rfl ?_)); try simp only [Act.put, List.setIfInBounds_toArray, List.set_cons_zero, List.set_cons_succ]); ((first | (refine lexT_rd 19 (by kernel_rfl) rfl rfl ?_; apply Exists.intro; refine ⟨?_, ?_⟩; (focus (first | exact lex_load (ty := 30) rfl (fun w h => h.1) uK rK (by rw [LA.out]; exact infoHash) | exact lex_load (ty := 30) rfl (fun w h => h.2.1) uK rK (by rw [LB.out]; exact infoHash) | exact lex_load (ty := 30) rfl (fun w h => h.2.2) uK rK (by rw [LC.out]; exact infoHash) | (intro w' hS; obtain ⟨s1, s2, s3⟩ := hS; go_simp; (try with_reducible rfl); done)))) | (refine lexT_sk 19 (by kernel_rfl) rfl rfl ?_)); try simp only [Act.put, List.setIfInBounds_toArray, List.set_cons_zero, List.set_cons_succ]); ((first | (refine lexT_rd 20 (by kernel_rfl) rfl rfl ?_; apply Exists.intro; refine ⟨?_, ?_⟩; (focus (first | exact lex_load (ty := 30) rfl (fun w h => h.1) uK rK (by rw [LA.out]; exact infoHash) | exact lex_load (ty := 30) rfl (fun w h => h.2.1) uK rK (by rw [LB.out]; exact infoHash) | exact lex_load (ty := 30) rfl (fun w h => h.2.2) uK rK (by rw [LC.out]; exact infoHash) | (intro w' hS; obtain ⟨s1, s2, s3⟩ := hS; go_simp; (try with_reducible rfl); done)))) | (refine lexT_sk 20 (by kernel_rfl) rfl rfl ?_)); try simp only [Act.put, List.setIfInBounds_toArray, List.set_cons_zero, List.set_cons_succ]); ((first | (refine lexT_rd 21 (by kernel_rfl) rfl rfl ?_; apply Exists.intro; refine ⟨?_, ?_⟩; (focus (first | exact lex_load (ty := 30) rfl (fun w h => h.1) uK rK (by rw [LA.out]; exact infoHash) | exact lex_load (ty := 30) rfl (fun w h => h.2.1) uK rK (by rw [LB.out]; exact infoHash) | exact lex_load (ty := 30) rfl (fun w h => h.2.2) uK rK (by rw [LC.out]; exact infoHash) | (intro w' hS; obtain ⟨s1, s2, s3⟩ := hS; go_simp; (try with_reducible rfl); done)))) | (refine lexT_sk 21 (by kernel_rfl) rfl rfl ?_)); try simp only [Act.put, List.setIfInBounds_toArray, List.set_cons_zero, List.set_cons_succ]))
          refine lexT_ef1 22 (by kernel_rfl) rfl rfl (fun K' hK' => ?_)
          go_simp
          refine (lift_K A.out.gc (by decide) okB).mono ?_
          rintro e k109 ⟨rfl, V110, g8, f8, s8⟩
          rw [if_pos inCB]
          replace A := Lib.hid (A.out.call g8 f8 (fun j h => .inl (s8 j h)))
          clear g8 f8 s8
          refine hK'.out _ _ ?_ (fun hS => ?_)
          · exact A.out.s
          try simp only [Act.put, List.setIfInBounds_toArray, List.set_cons_zero, List.set_cons_succ]
          clear hS hK' K'
          (((first | (refine lexT_rd 23 (by kernel_rfl) rfl rfl ?_; apply Exists.intro; refine ⟨?_, ?_⟩; (focus (first | exact lex_load (ty := 30) rfl (fun w h => h.1) uK rK (by rw [LA.out]; exact infoHash) | exact lex_load (ty := 30) rfl (fun w h => h.2.1) uK rK (by rw [LB.out]; exact infoHash) | exact lex_load (ty := 30) rfl (fun w h => h.2.2) uK rK (by rw [LC.out]; exact infoHash) | (intro w' hS; obtain ⟨s1, s2, s3⟩ := hS; go_simp; (try with_reducible rfl); done)))) | (refine lexT_sk 23 (by kernel_rfl) rfl rfl ?_)); try simp only [Act.put, List.setIfInBounds_toArray, List.set_cons_zero, List.set_cons_succ]); ((first | (refine lexT_rd 24 (by kernel_rfl) rfl rfl ?_; apply Exists.intro; refine ⟨?_, ?_⟩; (focus (first | exact lex_load (ty := 30) rfl (fun w h => h.1) uK rK (by rw [LA.out]; exact infoHash) | exact lex_load (ty := 30) rfl (fun w h => h.2.1) uK rK (by rw [LB.out]; exact infoHash) | exact lex_load (ty := 30) rfl (fun w h => h.2.2) uK rK (by rw [LC.out]; exact infoHash) | (intro w' hS; obtain ⟨s1, s2, s3⟩ := hS; go_simp; (try with_reducible rfl); done)))) | (refine lexT_sk 24 (by kernel_rfl) rfl rfl ?_)); try simp only [Act.put, List.setIfInBounds_toArray, List.set_cons_zero, List.set_cons_succ]); ((first | (refine lexT_rd 25 (by kernel_rfl) rfl rfl ?_; apply Exists.intro; refine ⟨?_, ?_⟩; (focus (first | exact lex_load (ty := 30) rfl (fun w h => h.1) uK rK (by rw [LA.out]; exact infoHash) | exact lex_load (ty := 30) rfl (fun w h => h.2.1) uK rK (by rw [LB.out]; exact infoHash) | exact lex_load (ty := 30) rfl (fun w h => h.2.2) uK rK (by rw [LC.out]; exact infoHash) | (intro w' hS; obtain ⟨s1, s2, s3⟩ := hS; go_simp; (try with_reducible rfl); done)))) | (refine lexT_sk 25 (by kernel_rfl) rfl rfl ?_)); try simp only [Act.put, List.setIfInBounds_toArray, List.set_cons_zero, List.set_cons_succ]); ((first | (refine lexT_rd 26 (by kernel_rfl) rfl rfl ?_; apply Exists.intro; refine ⟨?_, ?_⟩; (focus (first | exact lex_load (ty := 30) rfl (fun w h => h.1) uK rK (by rw [LA.out]; exact infoHash) | exact lex_load (ty := 30) rfl (fun w h => h.2.1) uK rK (by rw [LB.out]; exact infoHash) | exact lex_load (ty := 30) rfl (fun w h => h.2.2) uK rK (by rw [LC.out]; exact infoHash) | (intro w' hS; obtain ⟨s1, s2, s3⟩ := hS; go_simp; (try with_reducible rfl); done)))) | (refine lexT_sk 26 (by kernel_rfl) rfl rfl ?_)); try simp only [Act.put, List.setIfInBounds_toArray, List.set_cons_zero, List.set_cons_succ]); ((first | (refine lexT_rd 27 (by kernel_rfl) rfl rfl ?_; apply Exists.intro; refine ⟨?_, ?_⟩; (focus (first | exact lex_load (ty := 30) rfl (fun w h => h.1) uK rK (by rw [LA.out]; exact infoHash) | exact lex_load (ty := 30) rfl (fun w h => h.2.1) uK rK (by rw [LB.out]; exact infoHash) | exact lex_load (ty := 30) rfl (fun w h => h.2.2) uK rK (by rw [LC.out]; exact infoHash) | (intro w' hS; obtain ⟨s1, s2, s3⟩ := hS; go_simp; (try with_reducible rfl); done)))) | (refine lexT_sk 27 (by kernel_rfl) rfl rfl ?_)); try simp only [Act.put, List.setIfInBounds_toArray, List.set_cons_zero, List.set_cons_succ]); ((first | (refine lexT_rd 30 (by kernel_rfl) rfl rfl ?_; apply Exists.intro; refine ⟨?_, ?_⟩; (focus (first | exact lex_load (ty := 30) rfl (fun w h => h.1) uK rK (by rw [LA.out]; exact infoHash) | exact lex_load (ty := 30) rfl (fun w h => h.2.1) uK rK (by rw [LB.out]; exact infoHash) | exact lex_load (ty := 30) rfl (fun w h => h.2.2) uK rK (by rw [LC.out]; exact infoHash) | (intro w' hS; obtain ⟨s1, s2, s3⟩ := hS; go_simp; (try with_reducible rfl); done)))) | (refine lexT_sk 30 (by kernel_rfl) rfl rfl ?_)); try simp only [Act.put, List.setIfInBounds_toArray, List.set_cons_zero, List.set_cons_succ]))
          refine lexT_ef2 28 31 (by kernel_rfl) rfl rfl rfl rfl (fun K' hK' => ?_) (fun K' hK' => ?_)
          · refine wp_value (exec_buildSliceA (t := 27) rfl rfl undIds infoHashZ2 rfl (by decide) (by decide) LC.out) ?_
            have f := Lib.hid ((Fr.refl No k109).alloc (.cells (hashC hC).toArray 30))
            (try replace H1 := Lib.hid (H1.out.keep f.out))
            (try replace H2 := Lib.hid (H2.out.keep f.out))
            (try replace H3 := Lib.hid (H3.out.keep f.out))
            have H1 := Lib.hid (ids_new1 k109 okC)
            replace A := Lib.hid (A.out.keep f.out)
            clear f
            refine hK'.out _ _ ?_ (fun hS => ?_)
            · exact A.out.s
            try simp only [Act.put, List.setIfInBounds_toArray, List.set_cons_zero, List.set_cons_succ]
            clear hS hK' K'
            generalize k109.alloc (.cells (hashC hC).toArray 30) = k111 at *
            generalize k109.heap.size = q112 at *
            refine lexT_ef2 29 31 (by kernel_rfl) rfl rfl rfl rfl (fun K' hK' => ?_) (fun K' hK' => ?_)
            · go_simp
              refine (up_K A.out.gc (by decide) H1.out (by decide)).mono ?_
              rintro e k113 ⟨v2, rfl, o⟩
              have f := Lib.hid o.2
              (try replace H1 := Lib.hid (H1.out.keep f.out))
              (try replace H2 := Lib.hid (H2.out.keep f.out))
              (try replace H3 := Lib.hid (H3.out.keep f.out))
              have H2 := Lib.hid (show IdsIs k113 v2 [hC] by have h := o.is (A.out.gc.okUp [hC]); rw [uL] at h; exact h)
              replace A := Lib.hid (A.out.keep f.out)
              clear f o
              refine hK'.out _ _ ?_ (fun hS => ?_)
              · exact A.out.s
              try simp only [Act.put, List.setIfInBounds_toArray, List.set_cons_zero, List.set_cons_succ]
              clear hS hK' K'
              refine lexT_ef1 31 (by kernel_rfl) rfl rfl (fun K' hK' => ?_)
              refine wp_value (exec_buildSliceA (t := 27) rfl rfl undIds infoHashZ2 rfl (by decide) (by decide) LC.out) ?_
              have f := Lib.hid ((Fr.refl No k113).alloc (.cells (hashC hC).toArray 30))
              (try replace H1 := Lib.hid (H1.out.keep f.out))
              (try replace H2 := Lib.hid (H2.out.keep f.out))
              (try replace H3 := Lib.hid (H3.out.keep f.out))
              have H3 := Lib.hid (ids_new1 k113 okC)
              replace A := Lib.hid (A.out.keep f.out)
              clear f
              refine hK'.out _ _ ?_ (fun hS => ?_)
              · exact A.out.s
              try simp only [Act.put, List.setIfInBounds_toArray, List.set_cons_zero, List.set_cons_succ]
              clear hS hK' K'
              generalize k113.alloc (.cells (hashC hC).toArray 30) = k114 at *
              generalize k113.heap.size = q115 at *
              refine lexT_ef1 32 (by kernel_rfl) rfl rfl (fun K' hK' => ?_)
              go_simp
              refine (sameIds_any k114 H2.out H3.out (by decide) (by decide)).mono ?_
              rintro e k116 ⟨bb, rfl, hbb, f0⟩
              obtain rfl : bb = true := hbb.2 rfl
              have f := Lib.hid f0
              replace A := Lib.hid (A.out.keep f.out)
              clear f f0 hbb H1 H2 H3
              refine hK'.out _ _ ?_ (fun hS => ?_)
              · exact A.out.s
              try simp only [Act.put, List.setIfInBounds_toArray, List.set_cons_zero, List.set_cons_succ]
              clear hS hK' K'
              (((first | (refine lexT_rd 33 (by kernel_rfl) rfl rfl ?_; apply Exists.intro; refine ⟨?_, ?_⟩; (focus (first | exact lex_load (ty := 30) rfl (fun w h => h.1) uK rK (by rw [LA.out]; exact infoHash) | exact lex_load (ty := 30) rfl (fun w h => h.2.1) uK rK (by rw [LB.out]; exact infoHash) | exact lex_load (ty := 30) rfl (fun w h => h.2.2) uK rK (by rw [LC.out]; exact infoHash) | (intro w' hS; obtain ⟨s1, s2, s3⟩ := hS; go_simp; (try with_reducible rfl); done)))) | (refine lexT_sk 33 (by kernel_rfl) rfl rfl ?_)); try simp only [Act.put, List.setIfInBounds_toArray, List.set_cons_zero, List.set_cons_succ]); ((first | (refine lexT_rd 34 (by kernel_rfl) rfl rfl ?_; apply Exists.intro; refine ⟨?_, ?_⟩; (focus (first | exact lex_load (ty := 30) rfl (fun w h => h.1) uK rK (by rw [LA.out]; exact infoHash) | exact lex_load (ty := 30) rfl (fun w h => h.2.1) uK rK (by rw [LB.out]; exact infoHash) | exact lex_load (ty := 30) rfl (fun w h => h.2.2) uK rK (by rw [LC.out]; exact infoHash) | (intro w' hS; obtain ⟨s1, s2, s3⟩ := hS; go_simp; (try with_reducible rfl); done)))) | (refine lexT_sk 34 (by kernel_rfl) rfl rfl ?_)); try simp only [Act.put, List.setIfInBounds_toArray, List.set_cons_zero]))
              refine lexT_nil (hK.out _ _ ?_)
              go_wp2
              go_ret
              exact ⟨by rfl, A.out.gc.fr⟩
            · refine wp_value (exec_buildSliceA (t := 27) rfl rfl undIds infoHashZ2 rfl (by decide) (by decide) LC.out) ?_
              have f := Lib.hid ((Fr.refl No k111).alloc (.cells (hashC hC).toArray 30))
              (try replace H1 := Lib.hid (H1.out.keep f.out))
              (try replace H2 := Lib.hid (H2.out.keep f.out))
              (try replace H3 := Lib.hid (H3.out.keep f.out))
              have H3 := Lib.hid (ids_new1 k111 okC)
              replace A := Lib.hid (A.out.keep f.out)
              clear f
              refine hK'.out _ _ ?_ (fun hS => ?_)
              · exact A.out.s
              try simp only [Act.put, List.setIfInBounds_toArray, List.set_cons_zero, List.set_cons_succ]
              clear hS hK' K'
              generalize k111.alloc (.cells (hashC hC).toArray 30) = k117 at *
              generalize k111.heap.size = q118 at *
              refine lexT_ef1 29 (by kernel_rfl) rfl rfl (fun K' hK' => ?_)
              go_simp
              refine (up_K A.out.gc (by decide) H1.out (by decide)).mono ?_
              rintro e k119 ⟨v2, rfl, o⟩
              have f := Lib.hid o.2
              (try replace H1 := Lib.hid (H1.out.keep f.out))
              (try replace H2 := Lib.hid (H2.out.keep f.out))
              (try replace H3 := Lib.hid (H3.out.keep f.out))
              have H2 := Lib.hid (show IdsIs k119 v2 [hC] by have h := o.is (A.out.gc.okUp [hC]); rw [uL] at h; exact h)
              replace A := Lib.hid (A.out.keep f.out)
              clear f o
              refine hK'.out _ _ ?_ (fun hS => ?_)
              · exact A.out.s
              try simp only [Act.put, List.setIfInBounds_toArray, List.set_cons_zero, List.set_cons_succ]
              clear hS hK' K'
              refine lexT_ef1 32 (by kernel_rfl) rfl rfl (fun K' hK' => ?_)
              go_simp
              refine (sameIds_any k119 H2.out H3.out (by decide) (by decide)).mono ?_
              rintro e k120 ⟨bb, rfl, hbb, f0⟩
              obtain rfl : bb = true := hbb.2 rfl
              have f := Lib.hid f0
              replace A := Lib.hid (A.out.keep f.out)
              clear f f0 hbb H1 H2 H3
              refine hK'.out _ _ ?_ (fun hS => ?_)
              · exact A.out.s
              try simp only [Act.put, List.setIfInBounds_toArray, List.set_cons_zero, List.set_cons_succ]
              clear hS hK' K'
              (((first | (refine lexT_rd 33 (by kernel_rfl) rfl rfl ?_; apply Exists.intro; refine ⟨?_, ?_⟩; (focus (first | exact lex_load (ty := 30) rfl (fun w h => h.1) uK rK (by rw [LA.out]; exact infoHash) | exact lex_load (ty := 30) rfl (fun w h => h.2.1) uK rK (by rw [LB.out]; exact infoHash) | exact lex_load (ty := 30) rfl (fun w h => h.2.2) uK rK (by rw [LC.out]; exact infoHash) | (intro w' hS; obtain ⟨s1, s2, s3⟩ := hS; go_simp; (try with_reducible rfl); done)))) | (refine lexT_sk 33 (by kernel_rfl) rfl rfl ?_)); try simp only [Act.put, List.setIfInBounds_toArray, List.set_cons_zero, List.set_cons_succ]); ((first | (refine lexT_rd 34 (by kernel_rfl) rfl rfl ?_; apply Exists.intro; refine ⟨?_, ?_⟩; (focus (first | exact lex_load (ty := 30) rfl (fun w h => h.1) uK rK (by rw [LA.out]; exact infoHash) | exact lex_load (ty := 30) rfl (fun w h => h.2.1) uK rK (by rw [LB.out]; exact infoHash) | exact lex_load (ty := 30) rfl (fun w h => h.2.2) uK rK (by rw [LC.out]; exact infoHash) | (intro w' hS; obtain ⟨s1, s2, s3⟩ := hS; go_simp; (try with_reducible rfl); done)))) | (refine lexT_sk 34 (by kernel_rfl) rfl rfl ?_)); try simp only [Act.put, List.setIfInBounds_toArray, List.set_cons_zero]))
              refine lexT_nil (hK.out _ _ ?_)
              go_wp2
              go_ret
              exact ⟨by rfl, A.out.gc.fr⟩
          · refine wp_value (exec_buildSliceA (t := 27) rfl rfl undIds infoHashZ2 rfl (by decide) (by decide) LC.out) ?_
            have f := Lib.hid ((Fr.refl No k109).alloc (.cells (hashC hC).toArray 30))
            (try replace H1 := Lib.hid (H1.out.keep f.out))
            (try replace H2 := Lib.hid (H2.out.keep f.out))
            (try replace H3 := Lib.hid (H3.out.keep f.out))
            have H3 := Lib.hid (ids_new1 k109 okC)
            replace A := Lib.hid (A.out.keep f.out)
            clear f
            refine hK'.out _ _ ?_ (fun hS => ?_)
            · exact A.out.s
            try simp only [Act.put, List.setIfInBounds_toArray, List.set_cons_zero, List.set_cons_succ]
            clear hS hK' K'
            generalize k109.alloc (.cells (hashC hC).toArray 30) = k121 at *
            generalize k109.heap.size = q122 at *
            refine lexT_ef1 28 (by kernel_rfl) rfl rfl (fun K' hK' => ?_)
            refine wp_value (exec_buildSliceA (t := 27) rfl rfl undIds infoHashZ2 rfl (by decide) (by decide) LC.out) ?_
            have f := Lib.hid ((Fr.refl No k121).alloc (.cells (hashC hC).toArray 30))
            (try replace H1 := Lib.hid (H1.out.keep f.out))
            (try replace H2 := Lib.hid (H2.out.keep f.out))
            (try replace H3 := Lib.hid (H3.out.keep f.out))
            have H1 := Lib.hid (ids_new1 k121 okC)
            replace A := Lib.hid (A.out.keep f.out)
            clear f
            refine hK'.out _ _ ?_ (fun hS => ?_)
            · exact A.out.s
            try simp only [Act.put, List.setIfInBounds_toArray, List.set_cons_zero, List.set_cons_succ]
            clear hS hK' K'
            generalize k121.alloc (.cells (hashC hC).toArray 30) = k123 at *
            generalize k121.heap.size = q124 at *
            refine lexT_ef1 29 (by kernel_rfl) rfl rfl (fun K' hK' => ?_)
            go_simp
            refine (up_K A.out.gc (by decide) H1.out (by decide)).mono ?_
            rintro e k125 ⟨v2, rfl, o⟩
            have f := Lib.hid o.2
            (try replace H1 := Lib.hid (H1.out.keep f.out))
            (try replace H2 := Lib.hid (H2.out.keep f.out))
            (try replace H3 := Lib.hid (H3.out.keep f.out))
            have H2 := Lib.hid (show IdsIs k125 v2 [hC] by have h := o.is (A.out.gc.okUp [hC]); rw [uL] at h; exact h)
            replace A := Lib.hid (A.out.keep f.out)
            clear f o
            refine hK'.out _ _ ?_ (fun hS => ?_)
            · exact A.out.s
            try simp only [Act.put, List.setIfInBounds_toArray, List.set_cons_zero, List.set_cons_succ]
            clear hS hK' K'
            refine lexT_ef1 32 (by kernel_rfl) rfl rfl (fun K' hK' => ?_)
            go_simp
            refine (sameIds_any k125 H2.out H3.out (by decide) (by decide)).mono ?_
            rintro e k126 ⟨bb, rfl, hbb, f0⟩
            obtain rfl : bb = true := hbb.2 rfl
            have f := Lib.hid f0
            replace A := Lib.hid (A.out.keep f.out)
            clear f f0 hbb H1 H2 H3
            refine hK'.out _ _ ?_ (fun hS => ?_)
            · exact A.out.s
            try simp only [Act.put, List.setIfInBounds_toArray, List.set_cons_zero, List.set_cons_succ]
            clear hS hK' K'
            (((first | (refine lexT_rd 33 (by kernel_rfl) rfl rfl ?_; apply Exists.intro; refine ⟨?_, ?_⟩; (focus (first | exact lex_load (ty := 30) rfl (fun w h => h.1) uK rK (by rw [LA.out]; exact infoHash) | exact lex_load (ty := 30) rfl (fun w h => h.2.1) uK rK (by rw [LB.out]; exact infoHash) | exact lex_load (ty := 30) rfl (fun w h => h.2.2) uK rK (by rw [LC.out]; exact infoHash) | (intro w' hS; obtain ⟨s1, s2, s3⟩ := hS; go_simp; (try with_reducible rfl); done)))) | (refine lexT_sk 33 (by kernel_rfl) rfl rfl ?_)); try simp only [Act.put, List.setIfInBounds_toArray, List.set_cons_zero, List.set_cons_succ]); ((first | (refine lexT_rd 34 (by kernel_rfl) rfl rfl ?_; apply Exists.intro; refine ⟨?_, ?_⟩; (focus (first | exact lex_load (ty := 30) rfl (fun w h => h.1) uK rK (by rw [LA.out]; exact infoHash) | exact lex_load (ty := 30) rfl (fun w h => h.2.1) uK rK (by rw [LB.out]; exact infoHash) | exact lex_load (ty := 30) rfl (fun w h => h.2.2) uK rK (by rw [LC.out]; exact infoHash) | (intro w' hS; obtain ⟨s1, s2, s3⟩ := hS; go_simp; (try with_reducible rfl); done)))) | (refine lexT_sk 34 (by kernel_rfl) rfl rfl ?_)); try simp only [Act.put, List.setIfInBounds_toArray, List.set_cons_zero]))
            refine lexT_nil (hK.out _ _ ?_)
            go_wp2
            go_ret
            exact ⟨by rfl, A.out.gc.fr⟩
      · refine wp_value (exec_buildSlice2 (t := 27) rfl rfl rfl undIds infoHashZ2 rfl (by decide) (by decide) LB.out LC.out) ?_
        have f := Lib.hid ((Fr.refl No k80).alloc (.cells (hashC hB ++ hashC hC).toArray 30))
        (try replace H1 := Lib.hid (H1.out.keep f.out))
        (try replace H2 := Lib.hid (H2.out.keep f.out))
        (try replace H3 := Lib.hid (H3.out.keep f.out))
        have H3 := Lib.hid (ids_new2 k80 okB okC)
        replace A := Lib.hid (A.out.keep f.out)
        clear f
        refine hK'.out _ _ ?_ (fun hS => ?_)
        · exact A.out.s
        try simp only [Act.put, List.setIfInBounds_toArray, List.set_cons_zero, List.set_cons_succ]
        clear hS hK' K'
        generalize k80.alloc (.cells (hashC hB ++ hashC hC).toArray 30) = k127 at *
        generalize k80.heap.size = q128 at *
        refine lexT_ef1 12 (by kernel_rfl) rfl rfl (fun K' hK' => ?_)
        refine wp_value (exec_buildSliceA (t := 27) rfl rfl undIds infoHashZ2 rfl (by decide) (by decide) LB.out) ?_
        have f := Lib.hid ((Fr.refl No k127).alloc (.cells (hashC hB).toArray 30))
        (try replace H1 := Lib.hid (H1.out.keep f.out))
        (try replace H2 := Lib.hid (H2.out.keep f.out))
        (try replace H3 := Lib.hid (H3.out.keep f.out))
        have H1 := Lib.hid (ids_new1 k127 okB)
        replace A := Lib.hid (A.out.keep f.out)
        clear f
        refine hK'.out _ _ ?_ (fun hS => ?_)
        · exact A.out.s
        try simp only [Act.put, List.setIfInBounds_toArray, List.set_cons_zero, List.set_cons_succ]
        clear hS hK' K'
        generalize k127.alloc (.cells (hashC hB).toArray 30) = k129 at *
        generalize k127.heap.size = q130 at *
        refine lexT_ef1 13 (by kernel_rfl) rfl rfl (fun K' hK' => ?_)
        go_simp
        refine (down_K A.out.gc (by decide) H1.out (by decide)).mono ?_
        rintro e k131 ⟨v2, rfl, o⟩
        have f := Lib.hid o.2
        (try replace H1 := Lib.hid (H1.out.keep f.out))
        (try replace H2 := Lib.hid (H2.out.keep f.out))
        (try replace H3 := Lib.hid (H3.out.keep f.out))
        have H2 := Lib.hid (show IdsIs k131 v2 [hB, hC] by have h := o.is (A.out.gc.okDown [hB]); rw [dC] at h; exact h)
        replace A := Lib.hid (A.out.keep f.out)
        clear f o
        refine hK'.out _ _ ?_ (fun hS => ?_)
        · exact A.out.s
        try simp only [Act.put, List.setIfInBounds_toArray, List.set_cons_zero, List.set_cons_succ]
        clear hS hK' K'
        refine lexT_ef1 17 (by kernel_rfl) rfl rfl (fun K' hK' => ?_)
        go_simp
        refine (sameIds_any k131 H2.out H3.out (by decide) (by decide)).mono ?_
        rintro e k132 ⟨bb, rfl, hbb, f0⟩
        obtain rfl : bb = true := hbb.2 rfl
        have f := Lib.hid f0
        replace A := Lib.hid (A.out.keep f.out)
        clear f f0 hbb H1 H2 H3
        refine hK'.out _ _ ?_ (fun hS => ?_)
        · exact A.out.s
        try simp only [Act.put, List.setIfInBounds_toArray, List.set_cons_zero, List.set_cons_succ]
        clear hS hK' K'
        (((first | (refine lexT_rd 18 (by kernel_rfl) rfl rfl ?_; apply Exists.intro; refine ⟨?_, ?_⟩; (focus (first | exact lex_load (ty := 30) rfl (fun w h => h.1) uK rK (by rw [LA.out]; exact infoHash) | exact lex_load (ty := 30) rfl (fun w h => h.2.1) uK rK (by rw [LB.out]; exact infoHash) | exact lex_load (ty := 30) rfl (fun w h => h.2.2) uK rK (by rw [LC.out]; exact infoHash) | (intro w' hS; obtain ⟨s1, s2, s3⟩ := hS; go_simp; (try with_reducible rfl); done)))) | (refine lexT_sk 18 (by kernel_rfl) rfl rfl ?_)); try simp only [Act.put, List.setIfInBounds_toArray, List.set_cons_zero, List.set_cons_succ]); ((first | (refine lexT_rd 19 (by kernel_rfl) rfl rfl ?_; apply Exists.intro; refine ⟨?_, ?_⟩; (focus (first | exact lex_load (ty := 30) rfl (fun w h => h.1) uK rK (by rw [LA.out]; exact infoHash) | exact lex_load (ty := 30) rfl (fun w h => h.2.1) uK rK (by rw [LB.out]; exact infoHash) | exact lex_load (ty := 30) rfl (fun w h => h.2.2) uK rK (by rw [LC.out]; exact infoHash) | (intro w' hS; obtain ⟨s1, s2, s3⟩ := hS; go_simp; (try with_reducible rfl); done)))) | (refine lexT_sk 19 (by kernel_rfl) rfl rfl ?_)); try simp only [Act.put, List.setIfInBounds_toArray, List.set_cons_zero, List.set_cons_succ]); ((first | (refine lexT_rd 20 (by kernel_rfl) rfl rfl ?_; apply Exists.intro; refine ⟨?_, ?_⟩; (focus (first | exact lex_load (ty := 30) rfl (fun w h => h.1) uK rK (by rw [LA.out]; exact infoHash) | exact lex_load (ty := 30) rfl (fun w h => h.2.1) uK rK (by rw [LB.out]; exact infoHash) | exact lex_load (ty := 30) rfl (fun w h => h.2.2) uK rK (by rw [LC.out]; exact infoHash) | (intro w' hS; obtain ⟨s1, s2, s3⟩ := hS; go_simp; (try with_reducible rfl); done)))) | (refine lexT_sk 20 (by kernel_rfl) rfl rfl ?_)); try simp only [Act.put, List.setIfInBounds_toArray, List.set_cons_zero, List.set_cons_succ]); ((first | (refine lexT_rd 21 (by kernel_rfl) rfl rfl ?_; apply Exists.intro; refine ⟨?_, ?_⟩; (focus (first | exact lex_load (ty := 30) rfl (fun w h => h.1) uK rK (by rw [LA.out]; exact infoHash) | exact lex_load (ty := 30) rfl (fun w h => h.2.1) uK rK (by rw [LB.out]; exact infoHash) | exact lex_load (ty := 30) rfl (fun w h => h.2.2) uK rK (by rw [LC.out]; exact infoHash) | (intro w' hS; obtain ⟨s1, s2, s3⟩ := hS; go_simp; (try with_reducible rfl); done)))) | (refine lexT_sk 21 (by kernel_rfl) rfl rfl ?_)); try simp only [Act.put, List.setIfInBounds_toArray, List.set_cons_zero, List.set_cons_succ]))
        refine lexT_ef1 22 (by kernel_rfl) rfl rfl (fun K' hK' => ?_)
        go_simp
        refine (lift_K A.out.gc (by decide) okB).mono ?_
        rintro e k133 ⟨rfl, V134, g8, f8, s8⟩
        rw [if_pos inCB]
        replace A := Lib.hid (A.out.call g8 f8 (fun j h => .inl (s8 j h)))
        clear g8 f8 s8
        refine hK'.out _ _ ?_ (fun hS => ?_)
        · exact A.out.s
        try simp only [Act.put, List.setIfInBounds_toArray, List.set_cons_zero, List.set_cons_succ]
        clear hS hK' K'
        (((first | (refine lexT_rd 23 (by kernel_rfl) rfl rfl ?_; apply Exists.intro; refine ⟨?_, ?_⟩; (focus (first | exact lex_load (ty := 30) rfl (fun w h => h.1) uK rK (by rw [LA.out]; exact infoHash) | exact lex_load (ty := 30) rfl (fun w h => h.2.1) uK rK (by rw [LB.out]; exact infoHash) | exact lex_load (ty := 30) rfl (fun w h => h.2.2) uK rK (by rw [LC.out]; exact infoHash) | (intro w' hS; obtain ⟨s1, s2, s3⟩ := hS; go_simp; (try with_reducible rfl); done)))) | (refine lexT_sk 23 (by kernel_rfl) rfl rfl ?_)); try simp only [Act.put, List.setIfInBounds_toArray, List.set_cons_zero, List.set_cons_succ]); ((first | (refine lexT_rd 24 (by kernel_rfl) rfl rfl ?_; apply Exists.intro; refine ⟨?_, ?_⟩; (focus (first | exact lex_load (ty := 30) rfl (fun w h => h.1) uK rK (by rw [LA.out]; exact infoHash) | exact lex_load (ty := 30) rfl (fun w h => h.2.1) uK rK (by rw [LB.out]; exact infoHash) | exact lex_load (ty := 30) rfl (fun w h => h.2.2) uK rK (by rw [LC.out]; exact infoHash) | (intro w' hS; obtain ⟨s1, s2, s3⟩ := hS; go_simp; (try with_reducible rfl); done)))) | (refine lexT_sk 24 (by kernel_rfl) rfl rfl ?_)); try simp only [Act.put, List.setIfInBounds_toArray, List.set_cons_zero, List.set_cons_succ]); ((first | (refine lexT_rd 25 (by kernel_rfl) rfl rfl ?_; apply Exists.intro; refine ⟨?_, ?_⟩; (focus (first | exact lex_load (ty := 30) rfl (fun w h => h.1) uK rK (by rw [LA.out]; exact infoHash) | exact lex_load (ty := 30) rfl (fun w h => h.2.1) uK rK (by rw [LB.out]; exact infoHash) | exact lex_load (ty := 30) rfl (fun w h => h.2.2) uK rK (by rw [LC.out]; exact infoHash) | (intro w' hS; obtain ⟨s1, s2, s3⟩ := hS; go_simp; (try with_reducible rfl); done)))) | (refine lexT_sk 25 (by kernel_rfl) rfl rfl ?_)); try simp only [Act.put, List.setIfInBounds_toArray, List.set_cons_zero, List.set_cons_succ]); ((first | (refine lexT_rd 26 (by kernel_rfl) rfl rfl ?_; apply Exists.intro; refine ⟨?_, ?_⟩; (focus (first | exact lex_load (ty := 30) rfl (fun w h => h.1) uK rK (by rw [LA.out]; exact infoHash) | exact lex_load (ty := 30) rfl (fun w h => h.2.1) uK rK (by rw [LB.out]; exact infoHash) | exact lex_load (ty := 30) rfl (fun w h => h.2.2) uK rK (by rw [LC.out]; exact infoHash) | (intro w' hS; obtain ⟨s1, s2, s3⟩ := hS; go_simp; (try with_reducible rfl); done)))) | (refine lexT_sk 26 (by kernel_rfl) rfl rfl ?_)); try simp only [Act.put, List.setIfInBounds_toArray, List.set_cons_zero, List.set_cons_succ]); ((first | (refine lexT_rd 27 (by kernel_rfl) rfl rfl ?_; apply Exists.intro; refine ⟨?_, ?_⟩; (focus (first | exact lex_load (ty := 30) rfl (fun w h => h.1) uK rK (by rw [LA.out]; exact infoHash) | exact lex_load (ty := 30) rfl (fun w h => h.2.1) uK rK (by rw [LB.out]; exact infoHash) | exact lex_load (ty := 30) rfl (fun w h => h.2.2) uK rK (by rw [LC.out]; exact infoHash) | (intro w' hS; obtain ⟨s1, s2, s3⟩ := hS; go_simp; (try with_reducible rfl); done)))) | (refine lexT_sk 27 (by kernel_rfl) rfl rfl ?_)); try simp only [Act.put, List.setIfInBounds_toArray, List.set_cons_zero, List.set_cons_succ]); ((first | (refine lexT_rd 30 (by kernel_rfl) rfl rfl ?_; apply Exists.intro; refine ⟨?_, ?_⟩; (focus (first | exact lex_load (ty := 30) rfl (fun w h => h.1) uK rK (by rw [LA.out]; exact infoHash) | exact lex_load (ty := 30) rfl (fun w h => h.2.1) uK rK (by rw [LB.out]; exact infoHash) | exact lex_load (ty := 30) rfl (fun w h => h.2.2) uK rK (by rw [LC.out]; exact infoHash) | (intro w' hS; obtain ⟨s1, s2, s3⟩ := hS; go_simp; (try with_reducible rfl); done)))) | (refine lexT_sk 30 (by kernel_rfl) rfl rfl ?_)); try simp only [Act.put, List.setIfInBounds_toArray, List.set_cons_zero, List.set_cons_succ]))
        refine lexT_ef2 28 31 (by kernel_rfl) rfl rfl rfl rfl (fun K' hK' => ?_) (fun K' hK' => ?_)
        · refine wp_value (exec_buildSliceA (t := 27) rfl rfl undIds infoHashZ2 rfl (by decide) (by decide) LC.out) ?_
          have f := Lib.hid ((Fr.refl No k133).alloc (.cells (hashC hC).toArray 30))
          (try replace H1 := Lib.hid (H1.out.keep f.out))
          (try replace H2 := Lib.hid (H2.out.keep f.out))
          (try replace H3 := Lib.hid (H3.out.keep f.out))
          have H1 := Lib.hid (ids_new1 k133 okC)
          replace A := Lib.hid (A.out.keep f.out)
          clear f
          refine hK'.out _ _ ?_ (fun hS => ?_)
          · exact A.out.s
          try simp only [Act.put, List.setIfInBounds_toArray, List.set_cons_zero, List.set_cons_succ]
          clear hS hK' K'
          generalize k133.alloc (.cells (hashC hC).toArray 30) = k135 at *
          generalize k133.heap.size = q136 at *
          refine lexT_ef2 29 31 (by kernel_rfl) rfl rfl rfl rfl (fun K' hK' => ?_) (fun K' hK' => ?_)
          · go_simp
            refine (up_K A.out.gc (by decide) H1.out (by decide)).mono ?_
            rintro e k137 ⟨v2, rfl, o⟩
            have f := Lib.hid o.2
            (try replace H1 := Lib.hid (H1.out.keep f.out))
            (try replace H2 := Lib.hid (H2.out.keep f.out))
            (try replace H3 := Lib.hid (H3.out.keep f.out))
            have H2 := Lib.hid (show IdsIs k137 v2 [hC] by have h := o.is (A.out.gc.okUp [hC]); rw [uL] at h; exact h)
            replace A := Lib.hid (A.out.keep f.out)
            clear f o
            refine hK'.out _ _ ?_ (fun hS => ?_)
            · exact A.out.s
            try simp only [Act.put, List.setIfInBounds_toArray, List.set_cons_zero, List.set_cons_succ]
            clear hS hK' K'
            refine lexT_ef1 31 (by kernel_rfl) rfl rfl (fun K' hK' => ?_)
            refine wp_value (exec_buildSliceA (t := 27) rfl rfl undIds infoHashZ2 rfl (by decide) (by decide) LC.out) ?_
            have f := Lib.hid ((Fr.refl No k137).alloc (.cells (hashC hC).toArray 30))
            (try replace H1 := Lib.hid (H1.out.keep f.out))
            (try replace H2 := Lib.hid (H2.out.keep f.out))
            (try replace H3 := Lib.hid (H3.out.keep f.out))
            have H3 := Lib.hid (ids_new1 k137 okC)
            replace A := Lib.hid (A.out.keep f.out)
            clear f
            refine hK'.out _ _ ?_ (fun hS => ?_)
            · exact A.out.s
            try simp only [Act.put, List.setIfInBounds_toArray, List.set_cons_zero, List.set_cons_succ]
            clear hS hK' K'
            generalize k137.alloc (.cells (hashC hC).toArray 30) = k138 at *
            generalize k137.heap.size = q139 at *
            refine lexT_ef1 32 (by kernel_rfl) rfl rfl (fun K' hK' => ?_)
            go_simp
            refine (sameIds_any k138 H2.out H3.out (by decide) (by decide)).mono ?_
            rintro e k140 ⟨bb, rfl, hbb, f0⟩
            obtain rfl : bb = true := hbb.2 rfl
            have f := Lib.hid f0
            replace A := Lib.hid (A.out.keep f.out)
            clear f f0 hbb H1 H2 H3
            refine hK'.out _ _ ?_ (fun hS => ?_)
            · exact A.out.s
            try simp only [Act.put, List.setIfInBounds_toArray, List.set_cons_zero, List.set_cons_succ]
            clear hS hK' K'
            (((first | (refine lexT_rd 33 (by kernel_rfl) rfl rfl ?_; apply Exists.intro; refine ⟨?_, ?_⟩; (focus (first | exact lex_load (ty := 30) rfl (fun w h => h.1) uK rK (by rw [LA.out]; exact infoHash) | exact lex_load (ty := 30) rfl (fun w h => h.2.1) uK rK (by rw [LB.out]; exact infoHash) | exact lex_load (ty := 30) rfl (fun w h => h.2.2) uK rK (by rw [LC.out]; exact infoHash) | (intro w' hS; obtain ⟨s1, s2, s3⟩ := hS; go_simp; (try with_reducible rfl); done)))) | (refine lexT_sk 33 (by kernel_rfl) rfl rfl ?_)); try simp only [Act.put, List.setIfInBounds_toArray, List.set_cons_zero, List.set_cons_succ]); ((first | (refine lexT_rd 34 (by kernel_rfl) rfl rfl ?_; apply Exists.intro; refine ⟨?_, ?_⟩; (focus (first | exact lex_load (ty := 30) rfl (fun w h => h.1) uK rK (by rw [LA.out]; exact infoHash) | exact lex_load (ty := 30) rfl (fun w h => h.2.1) uK rK (by rw [LB.out]; exact infoHash) | exact lex_load (ty := 30) rfl (fun w h => h.2.2) uK rK (by rw [LC.out]; exact infoHash) | (intro w' hS; obtain ⟨s1, s2, s3⟩ := hS; go_simp; (try with_reducible rfl); done)))) | (refine lexT_sk 34 (by kernel_rfl) rfl rfl ?_)); try simp only [Act.put, List.setIfInBounds_toArray, List.set_cons_zero]))
            refine lexT_nil (hK.out _ _ ?_)
            go_wp2
            go_ret
            exact ⟨by rfl, A.out.gc.fr⟩
          · refine wp_value (exec_buildSliceA (t := 27) rfl rfl undIds infoHashZ2 rfl (by decide) (by decide) LC.out) ?_
            have f := Lib.hid ((Fr.refl No k135).alloc (.cells (hashC hC).toArray 30))
            (try replace H1 := Lib.hid (H1.out.keep f.out))
            (try replace H2 := Lib.hid (H2.out.keep f.out))
            (try replace H3 := Lib.hid (H3.out.keep f.out))
            have H3 := Lib.hid (ids_new1 k135 okC)
            replace A := Lib.hid (A.out.keep f.out)
            clear f
            refine hK'.out _ _ ?_ (fun hS => ?_)
            · exact A.out.s
            try simp only [Act.put, List.setIfInBounds_toArray, List.set_cons_zero, List.set_cons_succ]
            clear hS hK' K'
            generalize k135.alloc (.cells (hashC hC).toArray 30) = k141 at *
            generalize k135.heap.size = q142 at *
            refine lexT_ef1 29 (by kernel_rfl) rfl rfl (fun K' hK' => ?_)
            go_simp
            refine (up_K A.out.gc (by decide) H1.out (by decide)).mono ?_
            rintro e k143 ⟨v2, rfl, o⟩
            have f := Lib.hid o.2
            (try replace H1 := Lib.hid (H1.out.keep f.out))
            (try replace H2 := Lib.hid (H2.out.keep f.out))
            (try replace H3 := Lib.hid (H3.out.keep f.out))
            have H2 := Lib.hid (show IdsIs k143 v2 [hC] by have h := o.is (A.out.gc.okUp [hC]); rw [uL] at h; exact h)
            replace A := Lib.hid (A.out.keep f.out)
            clear f o
            refine hK'.out _ _ ?_ (fun hS => ?_)
            · exact A.out.s
            try simp only [Act.put, List.setIfInBounds_toArray, List.set_cons_zero, List.set_cons_succ]
            clear hS hK' K'
            refine lexT_ef1 32 (by kernel_rfl) rfl rfl (fun K' hK' => ?_)
            go_simp
            refine (sameIds_any k143 H2.out H3.out (by decide) (by decide)).mono ?_
            rintro e k144 ⟨bb, rfl, hbb, f0⟩
            obtain rfl : bb = true := hbb.2 rfl
            have f := Lib.hid f0
            replace A := Lib.hid (A.out.keep f.out)
            clear f f0 hbb H1 H2 H3
            refine hK'.out _ _ ?_ (fun hS => ?_)
            · exact A.out.s
            try simp only [Act.put, List.setIfInBounds_toArray, List.set_cons_zero, List.set_cons_succ]
            clear hS hK' K'
            (((first | (refine lexT_rd 33 (by kernel_rfl) rfl rfl ?_; apply Exists.intro; refine ⟨?_, ?_⟩; (focus (first | exact lex_load (ty := 30) rfl (fun w h => h.1) uK rK (by rw [LA.out]; exact infoHash) | exact lex_load (ty := 30) rfl (fun w h => h.2.1) uK rK (by rw [LB.out]; exact infoHash) | exact lex_load (ty := 30) rfl (fun w h => h.2.2) uK rK (by rw [LC.out]; exact infoHash) | (intro w' hS; obtain ⟨s1, s2, s3⟩ := hS; go_simp; (try with_reducible rfl); done)))) | (refine lexT_sk 33 (by kernel_rfl) rfl rfl ?_)); try simp only [Act.put, List.setIfInBounds_toArray, List.set_cons_zero, List.set_cons_succ]); ((first | (refine lexT_rd 34 (by kernel_rfl) rfl rfl ?_; apply Exists.intro; refine ⟨?_, ?_⟩; (focus (first | exact lex_load (ty := 30) rfl (fun w h => h.1) uK rK (by rw [LA.out]; exact infoHash) | exact lex_load (ty := 30) rfl (fun w h => h.2.1) uK rK (by rw [LB.out]; exact infoHash) | exact lex_load (ty := 30) rfl (fun w h => h.2.2) uK rK (by rw [LC.out]; exact infoHash) | (intro w' hS; obtain ⟨s1, s2, s3⟩ := hS; go_simp; (try with_reducible rfl); done)))) | (refine lexT_sk 34 (by kernel_rfl) rfl rfl ?_)); try simp only [Act.put, List.setIfInBounds_toArray, List.set_cons_zero]))
            refine lexT_nil (hK.out _ _ ?_)
            go_wp2
            go_ret
            exact ⟨by rfl, A.out.gc.fr⟩
        · refine wp_value (exec_buildSliceA (t := 27) rfl rfl undIds infoHashZ2 rfl (by decide) (by decide) LC.out) ?_
          have f := Lib.hid ((Fr.refl No k133).alloc (.cells (hashC hC).toArray 30))
          (try replace H1 := Lib.hid (H1.out.keep f.out))
          (try replace H2 := Lib.hid (H2.out.keep f.out))
          (try replace H3 := Lib.hid (H3.out.keep f.out))
          have H3 := Lib.hid (ids_new1 k133 okC)
          replace A := Lib.hid (A.out.keep f.out)
          clear f
          refine hK'.out _ _ ?_ (fun hS => ?_)
          · exact A.out.s
          try simp only [Act.put, List.setIfInBounds_toArray, List.set_cons_zero, List.set_cons_succ]
          clear hS hK' K'
          generalize k133.alloc (.cells (hashC hC).toArray 30) = k145 at *
          generalize k133.heap.size = q146 at *
          refine lexT_ef1 28 (by kernel_rfl) rfl rfl (fun K' hK' => ?_)
          refine wp_value (exec_buildSliceA (t := 27) rfl rfl undIds infoHashZ2 rfl (by decide) (by decide) LC.out) ?_
          have f := Lib.hid ((Fr.refl No k145).alloc (.cells (hashC hC).toArray 30))
          (try replace H1 := Lib.hid (H1.out.keep f.out))
          (try replace H2 := Lib.hid (H2.out.keep f.out))
          (try replace H3 := Lib.hid (H3.out.keep f.out))
          have H1 := Lib.hid (ids_new1 k145 okC)
          replace A := Lib.hid (A.out.keep f.out)
          clear f
          refine hK'.out _ _ ?_ (fun hS => ?_)
          · exact A.out.s
          try simp only [Act.put, List.setIfInBounds_toArray, List.set_cons_zero, List.set_cons_succ]
          clear hS hK' K'
          generalize k145.alloc (.cells (hashC hC).toArray 30) = k147 at *
          generalize k145.heap.size = q148 at *
          refine lexT_ef1 29 (by kernel_rfl) rfl rfl (fun K' hK' => ?_)
          go_simp
          refine (up_K A.out.gc (by decide) H1.out (by decide)).mono ?_
          rintro e k149 ⟨v2, rfl, o⟩
          have f := Lib.hid o.2
          (try replace H1 := Lib.hid (H1.out.keep f.out))
          (try replace H2 := Lib.hid (H2.out.keep f.out))
          (try replace H3 := Lib.hid (H3.out.keep f.out))
          have H2 := Lib.hid (show IdsIs k149 v2 [hC] by have h := o.is (A.out.gc.okUp [hC]); rw [uL] at h; exact h)
          replace A := Lib.hid (A.out.keep f.out)
          clear f o
          refine hK'.out _ _ ?_ (fun hS => ?_)
          · exact A.out.s
          try simp only [Act.put, List.setIfInBounds_toArray, List.set_cons_zero, List.set_cons_succ]
          clear hS hK' K'
          refine lexT_ef1 32 (by kernel_rfl) rfl rfl (fun K' hK' => ?_)
          go_simp
          refine (sameIds_any k149 H2.out H3.out (by decide) (by decide)).mono ?_
          rintro e k150 ⟨bb, rfl, hbb, f0⟩
          obtain rfl : bb = true := hbb.2 rfl
          have f := Lib.hid f0
          replace A := Lib.hid (A.out.keep f.out)
          clear f f0 hbb H1 H2 H3
          refine hK'.out _ _ ?_ (fun hS => ?_)
          · exact A.out.s
          try simp only [Act.put, List.setIfInBounds_toArray, List.set_cons_zero, List.set_cons_succ]
          clear hS hK' K'
          (((first | (refine lexT_rd 33 (by kernel_rfl) rfl rfl ?_; apply Exists.intro; refine ⟨?_, ?_⟩; (focus (first | exact lex_load (ty := 30) rfl (fun w h => h.1) uK rK (by rw [LA.out]; exact infoHash) | exact lex_load (ty := 30) rfl (fun w h => h.2.1) uK rK (by rw [LB.out]; exact infoHash) | exact lex_load (ty := 30) rfl (fun w h => h.2.2) uK rK (by rw [LC.out]; exact infoHash) | (intro w' hS; obtain ⟨s1, s2, s3⟩ := hS; go_simp; (try with_reducible rfl); done)))) | (refine lexT_sk 33 (by kernel_rfl) rfl rfl ?_)); try simp only [Act.put, List.setIfInBounds_toArray, List.set_cons_zero, List.set_cons_succ]); ((first | (refine lexT_rd 34 (by kernel_rfl) rfl rfl ?_; apply Exists.intro; refine ⟨?_, ?_⟩; (focus (first | exact lex_load (ty := 30) rfl (fun w h => h.1) uK rK (by rw [LA.out]; exact infoHash) | exact lex_load (ty := 30) rfl (fun w h => h.2.1) uK rK (by rw [LB.out]; exact infoHash) | exact lex_load (ty := 30) rfl (fun w h => h.2.2) uK rK (by rw [LC.out]; exact infoHash) | (intro w' hS; obtain ⟨s1, s2, s3⟩ := hS; go_simp; (try with_reducible rfl); done)))) | (refine lexT_sk 34 (by kernel_rfl) rfl rfl ?_)); try simp only [Act.put, List.setIfInBounds_toArray, List.set_cons_zero]))
          refine lexT_nil (hK.out _ _ ?_)
          go_wp2
          go_ret
          exact ⟨by rfl, A.out.gc.fr⟩
  · refine wp_value (exec_buildSlice3 (t := 27) rfl rfl rfl rfl undIds infoHashZ2 rfl (by decide) (by decide) LA.out LB.out LC.out) ?_
    have f := Lib.hid ((Fr.refl No k0).alloc (.cells (hashC hA ++ hashC hB ++ hashC hC).toArray 30))
    (try replace H1 := Lib.hid (H1.out.keep f.out))
    (try replace H2 := Lib.hid (H2.out.keep f.out))
    (try replace H3 := Lib.hid (H3.out.keep f.out))
    have H3 := Lib.hid (ids_new3' k0 okA okB okC)
    replace A := Lib.hid (A.out.keep f.out)
    clear f
    refine hK'.out _ _ ?_ (fun hS => ?_)
    · exact A.out.s
    try simp only [Act.put, List.setIfInBounds_toArray, List.set_cons_zero, List.set_cons_succ]
    clear hS hK' K'
    generalize k0.alloc (.cells (hashC hA ++ hashC hB ++ hashC hC).toArray 30) = k151 at *
    generalize k0.heap.size = q152 at *
    refine lexT_ef1 2 (by kernel_rfl) rfl rfl (fun K' hK' => ?_)
    refine wp_value (exec_buildSliceA (t := 27) rfl rfl undIds infoHashZ2 rfl (by decide) (by decide) LC.out) ?_
    have f := Lib.hid ((Fr.refl No k151).alloc (.cells (hashC hC).toArray 30))
    (try replace H1 := Lib.hid (H1.out.keep f.out))
    (try replace H2 := Lib.hid (H2.out.keep f.out))
    (try replace H3 := Lib.hid (H3.out.keep f.out))
    have H1 := Lib.hid (ids_new1 k151 okC)
    replace A := Lib.hid (A.out.keep f.out)
    clear f
    refine hK'.out _ _ ?_ (fun hS => ?_)
    · exact A.out.s
    try simp only [Act.put, List.setIfInBounds_toArray, List.set_cons_zero, List.set_cons_succ]
    clear hS hK' K'
    generalize k151.alloc (.cells (hashC hC).toArray 30) = k153 at *
    generalize k151.heap.size = q154 at *
    refine lexT_ef1 3 (by kernel_rfl) rfl rfl (fun K' hK' => ?_)
    go_simp
    refine (up_K A.out.gc (by decide) H1.out (by decide)).mono ?_
    rintro e k155 ⟨v2, rfl, o⟩
    have f := Lib.hid o.2
    (try replace H1 := Lib.hid (H1.out.keep f.out))
    (try replace H2 := Lib.hid (H2.out.keep f.out))
    (try replace H3 := Lib.hid (H3.out.keep f.out))
    have H2 := Lib.hid (show IdsIs k155 v2 [hA, hB, hC] by have h := o.is (A.out.gc.okUp [hC]); rw [uC] at h; exact h)
    replace A := Lib.hid (A.out.keep f.out)
    clear f o
    refine hK'.out _ _ ?_ (fun hS => ?_)
    · exact A.out.s
    try simp only [Act.put, List.setIfInBounds_toArray, List.set_cons_zero, List.set_cons_succ]
    clear hS hK' K'
    refine lexT_ef1 8 (by kernel_rfl) rfl rfl (fun K' hK' => ?_)
    go_simp
    refine (sameIds_any k155 H2.out H3.out (by decide) (by decide)).mono ?_
    rintro e k156 ⟨bb, rfl, hbb, f0⟩
    obtain rfl : bb = true := hbb.2 rfl
    have f := Lib.hid f0
    replace A := Lib.hid (A.out.keep f.out)
    clear f f0 hbb H1 H2 H3
    refine hK'.out _ _ ?_ (fun hS => ?_)
    · exact A.out.s
    try simp only [Act.put, List.setIfInBounds_toArray, List.set_cons_zero, List.set_cons_succ]
    clear hS hK' K'
    (((first | (refine lexT_rd 9 (by kernel_rfl) rfl rfl ?_; apply Exists.intro; refine ⟨?_, ?_⟩; (focus (first | exact lex_load (ty := 30) rfl (fun w h => h.1) uK rK (by rw [LA.out]; exact infoHash) | exact lex_load (ty := 30) rfl (fun w h => h.2.1) uK rK (by rw [LB.out]; exact infoHash) | exact lex_load (ty := 30) rfl (fun w h => h.2.2) uK rK (by rw [LC.out]; exact infoHash) | (intro w' hS; obtain ⟨s1, s2, s3⟩ := hS; go_simp; (try with_reducible rfl); done)))) | (refine lexT_sk 9 (by kernel_rfl) rfl rfl ?_)); try simp only [Act.put, List.setIfInBounds_toArray, List.set_cons_zero, List.set_cons_succ]); ((first | (refine lexT_rd 10 (by kernel_rfl) rfl rfl ?_; apply Exists.intro; refine ⟨?_, ?_⟩; (focus (first | exact lex_load (ty := 30) rfl (fun w h => h.1) uK rK (by rw [LA.out]; exact infoHash) | exact lex_load (ty := 30) rfl (fun w h => h.2.1) uK rK (by rw [LB.out]; exact infoHash) | exact lex_load (ty := 30) rfl (fun w h => h.2.2) uK rK (by rw [LC.out]; exact infoHash) | (intro w' hS; obtain ⟨s1, s2, s3⟩ := hS; go_simp; (try with_reducible rfl); done)))) | (refine lexT_sk 10 (by kernel_rfl) rfl rfl ?_)); try simp only [Act.put, List.setIfInBounds_toArray, List.set_cons_zero, List.set_cons_succ]); ((first | (refine lexT_rd 11 (by kernel_rfl) rfl rfl ?_; apply Exists.intro; refine ⟨?_, ?_⟩; (focus (first | exact lex_load (ty := 30) rfl (fun w h => h.1) uK rK (by rw [LA.out]; exact infoHash) | exact lex_load (ty := 30) rfl (fun w h => h.2.1) uK rK (by rw [LB.out]; exact infoHash) | exact lex_load (ty := 30) rfl (fun w h => h.2.2) uK rK (by rw [LC.out]; exact infoHash) | (intro w' hS; obtain ⟨s1, s2, s3⟩ := hS; go_simp; (try with_reducible rfl); done)))) | (refine lexT_sk 11 (by kernel_rfl) rfl rfl ?_)); try simp only [Act.put, List.setIfInBounds_toArray, List.set_cons_zero, List.set_cons_succ]); ((first | (refine lexT_rd 14 (by kernel_rfl) rfl rfl ?_; apply Exists.intro; refine ⟨?_, ?_⟩; (focus (first | exact lex_load (ty := 30) rfl (fun w h => h.1) uK rK (by rw [LA.out]; exact infoHash) | exact lex_load (ty := 30) rfl (fun w h => h.2.1) uK rK (by rw [LB.out]; exact infoHash) | exact lex_load (ty := 30) rfl (fun w h => h.2.2) uK rK (by rw [LC.out]; exact infoHash) | (intro w' hS; obtain ⟨s1, s2, s3⟩ := hS; go_simp; (try with_reducible rfl); done)))) | (refine lexT_sk 14 (by kernel_rfl) rfl rfl ?_)); try simp only [Act.put, List.setIfInBounds_toArray, List.set_cons_zero, List.set_cons_succ]); ((first | (refine lexT_rd 15 (by kernel_rfl) rfl rfl ?_; apply Exists.intro; refine ⟨?_, ?_⟩; (focus (first | exact lex_load (ty := 30) rfl (fun w h => h.1) uK rK (by rw [LA.out]; exact infoHash) | exact lex_load (ty := 30) rfl (fun w h => h.2.1) uK rK (by rw [LB.out]; exact infoHash) | exact lex_load (ty := 30) rfl (fun w h => h.2.2) uK rK (by rw [LC.out]; exact infoHash) | (intro w' hS; obtain ⟨s1, s2, s3⟩ := hS; go_simp; (try with_reducible rfl); done)))) | (refine lexT_sk 15 (by kernel_rfl) rfl rfl ?_)); try simp only [Act.put, List.setIfInBounds_toArray, List.set_cons_zero, List.set_cons_succ]))
    refine lexT_ef2 12 16 (by kernel_rfl) rfl rfl rfl rfl (fun K' hK' => ?_) (fun K' hK' => ?_)
    · refine wp_value (exec_buildSliceA (t := 27) rfl rfl undIds infoHashZ2 rfl (by decide) (by decide) LB.out) ?_
      have f := Lib.hid ((Fr.refl No k156).alloc (.cells (hashC hB).toArray 30))
      (try replace H1 := Lib.hid (H1.out.keep f.out))
      (try replace H2 := Lib.hid (H2.out.keep f.out))
      (try replace H3 := Lib.hid (H3.out.keep f.out))
      have H1 := Lib.hid (ids_new1 k156 okB)
      replace A := Lib.hid (A.out.keep f.out)
      clear f
      refine hK'.out _ _ ?_ (fun hS => ?_)
      · exact A.out.s
      try simp only [Act.put, List.setIfInBounds_toArray, List.set_cons_zero, List.set_cons_succ]
      clear hS hK' K'
      generalize k156.alloc (.cells (hashC hB).toArray 30) = k157 at *
      generalize k156.heap.size = q158 at *
      refine lexT_ef2 13 16 (by kernel_rfl) rfl rfl rfl rfl (fun K' hK' => ?_) (fun K' hK' => ?_)
      · go_simp
        refine (down_K A.out.gc (by decide) H1.out (by decide)).mono ?_
        rintro e k159 ⟨v2, rfl, o⟩
        have f := Lib.hid o.2
        (try replace H1 := Lib.hid (H1.out.keep f.out))
        (try replace H2 := Lib.hid (H2.out.keep f.out))
        (try replace H3 := Lib.hid (H3.out.keep f.out))
        have H2 := Lib.hid (show IdsIs k159 v2 [hB, hC] by have h := o.is (A.out.gc.okDown [hB]); rw [dC] at h; exact h)
        replace A := Lib.hid (A.out.keep f.out)
        clear f o
        refine hK'.out _ _ ?_ (fun hS => ?_)
        · exact A.out.s
        try simp only [Act.put, List.setIfInBounds_toArray, List.set_cons_zero, List.set_cons_succ]
        clear hS hK' K'
        refine lexT_ef1 16 (by kernel_rfl) rfl rfl (fun K' hK' => ?_)
        refine wp_value (exec_buildSlice2 (t := 27) rfl rfl rfl undIds infoHashZ2 rfl (by decide) (by decide) LB.out LC.out) ?_
        have f := Lib.hid ((Fr.refl No k159).alloc (.cells (hashC hB ++ hashC hC).toArray 30))
        (try replace H1 := Lib.hid (H1.out.keep f.out))
        (try replace H2 := Lib.hid (H2.out.keep f.out))
        (try replace H3 := Lib.hid (H3.out.keep f.out))
        have H3 := Lib.hid (ids_new2 k159 okB okC)
        replace A := Lib.hid (A.out.keep f.out)
        clear f
        refine hK'.out _ _ ?_ (fun hS => ?_)
        · exact A.out.s
        try simp only [Act.put, List.setIfInBounds_toArray, List.set_cons_zero, List.set_cons_succ]
        clear hS hK' K'
        generalize k159.alloc (.cells (hashC hB ++ hashC hC).toArray 30) = k160 at *
        generalize k159.heap.size = q161 at *
        refine lexT_ef1 17 (by kernel_rfl) rfl rfl (fun K' hK' => ?_)
        go_simp
        refine (sameIds_any k160 H2.out H3.out (by decide) (by decide)).mono ?_
        rintro e k162 ⟨bb, rfl, hbb, f0⟩
        obtain rfl : bb = true := hbb.2 rfl
        have f := Lib.hid f0
        replace A := Lib.hid (A.out.keep f.out)
        clear f f0 hbb H1 H2 H3
        refine hK'.out _ _ ?_ (fun hS => ?_)
        · exact A.out.s
        try simp only [Act.put, List.setIfInBounds_toArray, List.set_cons_zero, List.set_cons_succ]
        clear hS hK' K'
        (((first | (refine lexT_rd 18 (by kernel_rfl) rfl rfl ?_; apply Exists.intro; refine ⟨?_, ?_⟩; (focus (first | exact lex_load (ty := 30) rfl (fun w h => h.1) uK rK (by rw [LA.out]; exact infoHash) | exact lex_load (ty := 30) rfl (fun w h => h.2.1) uK rK (by rw [LB.out]; exact infoHash) | exact lex_load (ty := 30) rfl (fun w h => h.2.2) uK rK (by rw [LC.out]; exact infoHash) | (intro w' hS; obtain ⟨s1, s2, s3⟩ := hS; go_simp; (try with_reducible rfl); done)))) | (refine lexT_sk 18 (by kernel_rfl) rfl rfl ?_)); try simp only [Act.put, List.setIfInBounds_toArray, List.set_cons_zero, List.set_cons_succ]); ((first | (refine lexT_rd 19 (by kernel_rfl) rfl rfl ?_; apply Exists.intro; refine ⟨?_, ?_⟩; (focus (first | exact lex_load (ty := 30) rfl (fun w h => h.1) uK rK (by rw [LA.out]; exact infoHash) | exact lex_load (ty := 30) rfl (fun w h => h.2.1) uK rK (by rw [LB.out]; exact infoHash) | exact lex_load (ty := 30) rfl (fun w h => h.2.2) uK rK (by rw [LC.out]; exact infoHash) | (intro w' hS; obtain ⟨s1, s2, s3⟩ := hS; go_simp; (try with_reducible rfl); done)))) | (refine lexT_sk 19 (by kernel_rfl) rfl rfl ?_)); try simp only [Act.put, List.setIfInBounds_toArray, List.set_cons_zero, List.set_cons_succ]); ((first | (refine lexT_rd 20 (by kernel_rfl) rfl rfl ?_; apply Exists.intro; refine ⟨?_, ?_⟩; (focus (first | exact lex_load (ty := 30) rfl (fun w h => h.1) uK rK (by rw [LA.out]; exact infoHash) | exact lex_load (ty := 30) rfl (fun w h => h.2.1) uK rK (by rw [LB.out]; exact infoHash) | exact lex_load (ty := 30) rfl (fun w h => h.2.2) uK rK (by rw [LC.out]; exact infoHash) | (intro w' hS; obtain ⟨s1, s2, s3⟩ := hS; go_simp; (try with_reducible rfl); done)))) | (refine lexT_sk 20 (by kernel_rfl) rfl rfl ?_)); try simp only [Act.put, List.setIfInBounds_toArray, List.set_cons_zero, List.set_cons_succ]); ((first | (refine lexT_rd 21 (by kernel_rfl) rfl rfl ?_; apply Exists.intro; refine ⟨?_, ?_⟩; (focus (first | exact lex_load (ty := 30) rfl (fun w h => h.1) uK rK (by rw [LA.out]; exact infoHash) | exact lex_load (ty := 30) rfl (fun w h => h.2.1) uK rK (by rw [LB.out]; exact infoHash) | exact lex_load (ty := 30) rfl (fun w h => h.2.2) uK rK (by rw [LC.out]; exact infoHash) | (intro w' hS; obtain ⟨s1, s2, s3⟩ := hS; go_simp; (try with_reducible rfl); done)))) | (refine lexT_sk 21 (by kernel_rfl) rfl rfl ?_)); try simp only [Act.put, List.setIfInBounds_toArray, List.set_cons_zero, List.set_cons_succ]))
        refine lexT_ef1 22 (by kernel_rfl) rfl rfl (fun K' hK' => ?_)
        go_simp
        refine (lift_K A.out.gc (by decide) okB).mono ?_
        rintro e k163 ⟨rfl, V164, g8, f8, s8⟩
        rw [if_pos inCB]
        replace A := Lib.hid (A.out.call g8 f8 (fun j h => .inl (s8 j h)))
        clear g8 f8 s8
        refine hK'.out _ _ ?_ (fun hS => ?_)
        · exact A.out.s
        try simp only [Act.put, List.setIfInBounds_toArray, List.set_cons_zero, List.set_cons_succ]
        clear hS hK' K'
        (((first | (refine lexT_rd 23 (by kernel_rfl) rfl rfl ?_; apply Exists.intro; refine ⟨?_, ?_⟩; (focus (first | exact lex_load (ty := 30) rfl (fun w h => h.1) uK rK (by rw [LA.out]; exact infoHash) | exact lex_load (ty := 30) rfl (fun w h => h.2.1) uK rK (by rw [LB.out]; exact infoHash) | exact lex_load (ty := 30) rfl (fun w h => h.2.2) uK rK (by rw [LC.out]; exact infoHash) | (intro w' hS; obtain ⟨s1, s2, s3⟩ := hS; go_simp; (try with_reducible rfl); done)))) | (refine lexT_sk 23 (by kernel_rfl) rfl rfl ?_)); try simp only [Act.put, List.setIfInBounds_toArray, List.set_cons_zero, List.set_cons_succ]); ((first | (refine lexT_rd 24 (by kernel_rfl) rfl rfl ?_; apply Exists.intro; refine ⟨?_, ?_⟩; (focus (first | exact lex_load (ty := 30) rfl (fun w h => h.1) uK rK (by rw [LA.out]; exact infoHash) | exact lex_load (ty := 30) rfl (fun w h => h.2.1) uK rK (by rw [LB.out]; exact infoHash) | exact lex_load (ty := 30) rfl (fun w h => h.2.2) uK rK (by rw [LC.out]; exact infoHash) | (intro w' hS; obtain ⟨s1, s2, s3⟩ := hS; go_simp; (try with_reducible rfl); done)))) | (refine lexT_sk 24 (by kernel_rfl) rfl rfl ?_)); try simp only [Act.put, List.setIfInBounds_toArray, List.set_cons_zero, List.set_cons_succ]); ((first | (refine lexT_rd 25 (by kernel_rfl) rfl rfl ?_; apply Exists.intro; refine ⟨?_, ?_⟩; (focus (first | exact lex_load (ty := 30) rfl (fun w h => h.1) uK rK (by rw [LA.out]; exact infoHash) | exact lex_load (ty := 30) rfl (fun w h => h.2.1) uK rK (by rw [LB.out]; exact infoHash) | exact lex_load (ty := 30) rfl (fun w h => h.2.2) uK rK (by rw [LC.out]; exact infoHash) | (intro w' hS; obtain ⟨s1, s2, s3⟩ := hS; go_simp; (try with_reducible rfl); done)))) | (refine lexT_sk 25 (by kernel_rfl) rfl rfl ?_)); try simp only [Act.put, List.setIfInBounds_toArray, List.set_cons_zero, List.set_cons_succ]); ((first | (refine lexT_rd 26 (by kernel_rfl) rfl rfl ?_; apply Exists.intro; refine ⟨?_, ?_⟩; (focus (first | exact lex_load (ty := 30) rfl (fun w h => h.1) uK rK (by rw [LA.out]; exact infoHash) | exact lex_load (ty := 30) rfl (fun w h => h.2.1) uK rK (by rw [LB.out]; exact infoHash) | exact lex_load (ty := 30) rfl (fun w h => h.2.2) uK rK (by rw [LC.out]; exact infoHash) | (intro w' hS; obtain ⟨s1, s2, s3⟩ := hS; go_simp; (try with_reducible rfl); done)))) | (refine lexT_sk 26 (by kernel_rfl) rfl rfl ?_)); try simp only [Act.put, List.setIfInBounds_toArray, List.set_cons_zero, List.set_cons_succ]); ((first | (refine lexT_rd 27 (by kernel_rfl) rfl rfl ?_; apply Exists.intro; refine ⟨?_, ?_⟩; (focus (first | exact lex_load (ty := 30) rfl (fun w h => h.1) uK rK (by rw [LA.out]; exact infoHash) | exact lex_load (ty := 30) rfl (fun w h => h.2.1) uK rK (by rw [LB.out]; exact infoHash) | exact lex_load (ty := 30) rfl (fun w h => h.2.2) uK rK (by rw [LC.out]; exact infoHash) | (intro w' hS; obtain ⟨s1, s2, s3⟩ := hS; go_simp; (try with_reducible rfl); done)))) | (refine lexT_sk 27 (by kernel_rfl) rfl rfl ?_)); try simp only [Act.put, List.setIfInBounds_toArray, List.set_cons_zero, List.set_cons_succ]); ((first | (refine lexT_rd 30 (by kernel_rfl) rfl rfl ?_; apply Exists.intro; refine ⟨?_, ?_⟩; (focus (first | exact lex_load (ty := 30) rfl (fun w h => h.1) uK rK (by rw [LA.out]; exact infoHash) | exact lex_load (ty := 30) rfl (fun w h => h.2.1) uK rK (by rw [LB.out]; exact infoHash) | exact lex_load (ty := 30) rfl (fun w h => h.2.2) uK rK (by rw [LC.out]; exact infoHash) | (intro w' hS; obtain ⟨s1, s2, s3⟩ := hS; go_simp; (try with_reducible rfl); done)))) | (refine lexT_sk 30 (by kernel_rfl) rfl rfl ?_)); try simp only [Act.put, List.setIfInBounds_toArray, List.set_cons_zero, List.set_cons_succ]))
        refine lexT_ef2 28 31 (by kernel_rfl) rfl rfl rfl rfl (fun K' hK' => ?_) (fun K' hK' => ?_)
        · refine wp_value (exec_buildSliceA (t := 27) rfl rfl undIds infoHashZ2 rfl (by decide) (by decide) LC.out) ?_
          have f := Lib.hid ((Fr.refl No k163).alloc (.cells (hashC hC).toArray 30))
          (try replace H1 := Lib.hid (H1.out.keep f.out))
          (try replace H2 := Lib.hid (H2.out.keep f.out))
          (try replace H3 := Lib.hid (H3.out.keep f.out))
          have H1 := Lib.hid (ids_new1 k163 okC)
          replace A := Lib.hid (A.out.keep f.out)
          clear f
          refine hK'.out _ _ ?_ (fun hS => ?_)
          · exact A.out.s
          try simp only [Act.put, List.setIfInBounds_toArray, List.set_cons_zero, List.set_cons_succ]
          clear hS hK' K'
          generalize k163.alloc (.cells (hashC hC).toArray 30) = k165 at *
          generalize k163.heap.size = q166 at *
          refine lexT_ef2 29 31 (by kernel_rfl) rfl rfl rfl rfl (fun K' hK' => ?_) (fun K' hK' => ?_)
          · go_simp
            refine (up_K A.out.gc (by decide) H1.out (by decide)).mono ?_
            rintro e k167 ⟨v2, rfl, o⟩
            have f := Lib.hid o.2
            (try replace H1 := Lib.hid (H1.out.keep f.out))
            (try replace H2 := Lib.hid (H2.out.keep f.out))
            (try replace H3 := Lib.hid (H3.out.keep f.out))
            have H2 := Lib.hid (show IdsIs k167 v2 [hC] by have h := o.is (A.out.gc.okUp [hC]); rw [uL] at h; exact h)
            replace A := Lib.hid (A.out.keep f.out)
            clear f o
            refine hK'.out _ _ ?_ (fun hS => ?_)
            · exact A.out.s
            try simp only [Act.put, List.setIfInBounds_toArray, List.set_cons_zero, List.set_cons_succ]
            clear hS hK' K'
            refine lexT_ef1 31 (by kernel_rfl) rfl rfl (fun K' hK' => ?_)
            refine wp_value (exec_buildSliceA (t := 27) rfl rfl undIds infoHashZ2 rfl (by decide) (by decide) LC.out) ?_
            have f := Lib.hid ((Fr.refl No k167).alloc (.cells (hashC hC).toArray 30))
            (try replace H1 := Lib.hid (H1.out.keep f.out))
            (try replace H2 := Lib.hid (H2.out.keep f.out))
            (try replace H3 := Lib.hid (H3.out.keep f.out))
            have H3 := Lib.hid (ids_new1 k167 okC)
            replace A := Lib.hid (A.out.keep f.out)
            clear f
            refine hK'.out _ _ ?_ (fun hS => ?_)
            · exact A.out.s
            try simp only [Act.put, List.setIfInBounds_toArray, List.set_cons_zero, List.set_cons_succ]
            clear hS hK' K'
            generalize k167.alloc (.cells (hashC hC).toArray 30) = k168 at *
            generalize k167.heap.size = q169 at *
            refine lexT_ef1 32 (by kernel_rfl) rfl rfl (fun K' hK' => ?_)
            go_simp
            refine (sameIds_any k168 H2.out H3.out (by decide) (by decide)).mono ?_
            rintro e k170 ⟨bb, rfl, hbb, f0⟩
            obtain rfl : bb = true := hbb.2 rfl
            have f := Lib.hid f0
            replace A := Lib.hid (A.out.keep f.out)
            clear f f0 hbb H1 H2 H3
            refine hK'.out _ _ ?_ (fun hS => ?_)
            · exact A.out.s
            try simp only [Act.put, List.setIfInBounds_toArray, List.set_cons_zero, List.set_cons_succ]
            clear hS hK' K'
            (((first | (refine lexT_rd 33 (by kernel_rfl) rfl rfl ?_; apply Exists.intro; refine ⟨?_, ?_⟩; (focus (first | exact lex_load (ty := 30) rfl (fun w h => h.1) uK rK (by rw [LA.out]; exact infoHash) | exact lex_load (ty := 30) rfl (fun w h => h.2.1) uK rK (by rw [LB.out]; exact infoHash) | exact lex_load (ty := 30) rfl (fun w h => h.2.2) uK rK (by rw [LC.out]; exact infoHash) | (intro w' hS; obtain ⟨s1, s2, s3⟩ := hS; go_simp; (try with_reducible rfl); done)))) | (refine lexT_sk 33 (by kernel_rfl) rfl rfl ?_)); try simp only [Act.put, List.setIfInBounds_toArray, List.set_cons_zero, List.set_cons_succ]); ((first | (refine lexT_rd 34 (by kernel_rfl) rfl rfl ?_; apply Exists.intro; refine ⟨?_, ?_⟩; (focus (first | exact lex_load (ty := 30) rfl (fun w h => h.1) uK rK (by rw [LA.out]; exact infoHash) | exact lex_load (ty := 30) rfl (fun w h => h.2.1) uK rK (by rw [LB.out]; exact infoHash) | exact lex_load (ty := 30) rfl (fun w h => h.2.2) uK rK (by rw [LC.out]; exact infoHash) | (intro w' hS; obtain ⟨s1, s2, s3⟩ := hS; go_simp; (try with_reducible rfl); done)))) | (refine lexT_sk 34 (by kernel_rfl) rfl rfl ?_)); try simp only [Act.put, List.setIfInBounds_toArray, List.set_cons_zero]))
            refine lexT_nil (hK.out _ _ ?_)
            go_wp2
            go_ret
            exact ⟨by rfl, A.out.gc.fr⟩
          · refine wp_value (exec_buildSliceA (t := 27) rfl rfl undIds infoHashZ2 rfl (by decide) (by decide) LC.out) ?_
            have f := Lib.hid ((Fr.refl No k165).alloc (.cells (hashC hC).toArray 30))
            (try replace H1 := Lib.hid (H1.out.keep f.out))
            (try replace H2 := Lib.hid (H2.out.keep f.out))
            (try replace H3 := Lib.hid (H3.out.keep f.out))
            have H3 := Lib.hid (ids_new1 k165 okC)
            replace A := Lib.hid (A.out.keep f.out)
            clear f
            refine hK'.out _ _ ?_ (fun hS => ?_)
            · exact A.out.s
            try simp only [Act.put, List.setIfInBounds_toArray, List.set_cons_zero, List.set_cons_succ]
            clear hS hK' K'
            generalize k165.alloc (.cells (hashC hC).toArray 30) = k171 at *
            generalize k165.heap.size = q172 at *
            refine lexT_ef1 29 (by kernel_rfl) rfl rfl (fun K' hK' => ?_)
            go_simp
            refine (up_K A.out.gc (by decide) H1.out (by decide)).mono ?_
            rintro e k173 ⟨v2, rfl, o⟩
            have f := Lib.hid o.2
            (try replace H1 := Lib.hid (H1.out.keep f.out))
            (try replace H2 := Lib.hid (H2.out.keep f.out))
            (try replace H3 := Lib.hid (H3.out.keep f.out))
            have H2 := Lib.hid (show IdsIs k173 v2 [hC] by have h := o.is (A.out.gc.okUp [hC]); rw [uL] at h; exact h)
            replace A := Lib.hid (A.out.keep f.out)
            clear f o
            refine hK'.out _ _ ?_ (fun hS => ?_)
            · exact A.out.s
            try simp only [Act.put, List.setIfInBounds_toArray, List.set_cons_zero, List.set_cons_succ]
            clear hS hK' K'
            refine lexT_ef1 32 (by kernel_rfl) rfl rfl (fun K' hK' => ?_)
            go_simp
            refine (sameIds_any k173 H2.out H3.out (by decide) (by decide)).mono ?_
            rintro e k174 ⟨bb, rfl, hbb, f0⟩
            obtain rfl : bb = true := hbb.2 rfl
            have f := Lib.hid f0
            replace A := Lib.hid (A.out.keep f.out)
            clear f f0 hbb H1 H2 H3
            refine hK'.out _ _ ?_ (fun hS => ?_)
            · exact A.out.s
            try simp only [Act.put, List.setIfInBounds_toArray, List.set_cons_zero, List.set_cons_succ]
            clear hS hK' K'
            (((first | (refine lexT_rd 33 (by kernel_rfl) rfl rfl ?_; apply Exists.intro; refine ⟨?_, ?_⟩; (focus (first | exact lex_load (ty := 30) rfl (fun w h => h.1) uK rK (by rw [LA.out]; exact infoHash) | exact lex_load (ty := 30) rfl (fun w h => h.2.1) uK rK (by rw [LB.out]; exact infoHash) | exact lex_load (ty := 30) rfl (fun w h => h.2.2) uK rK (by rw [LC.out]; exact infoHash) | (intro w' hS; obtain ⟨s1, s2, s3⟩ := hS; go_simp; (try with_reducible rfl); done)))) | (refine lexT_sk 33 (by kernel_rfl) rfl rfl ?_)); try simp only [Act.put, List.setIfInBounds_toArray, List.set_cons_zero, List.set_cons_succ]); ((first | (refine lexT_rd 34 (by kernel_rfl) rfl rfl ?_; apply Exists.intro; refine ⟨?_, ?_⟩; (focus (first | exact lex_load (ty := 30) rfl (fun w h => h.1) uK rK (by rw [LA.out]; exact infoHash) | exact lex_load (ty := 30) rfl (fun w h => h.2.1) uK rK (by rw [LB.out]; exact infoHash) | exact lex_load (ty := 30) rfl (fun w h => h.2.2) uK rK (by rw [LC.out]; exact infoHash) | (intro w' hS; obtain ⟨s1, s2, s3⟩ := hS; go_simp; (try with_reducible rfl); done)))) | (refine lexT_sk 34 (by kernel_rfl) rfl rfl ?_)); try simp only [Act.put, List.setIfInBounds_toArray, List.set_cons_zero]))
            refine lexT_nil (hK.out _ _ ?_)
            go_wp2
            go_ret
            exact ⟨by rfl, A.out.gc.fr⟩
        · refine wp_value (exec_buildSliceA (t := 27) rfl rfl undIds infoHashZ2 rfl (by decide) (by decide) LC.out) ?_
          have f := Lib.hid ((Fr.refl No k163).alloc (.cells (hashC hC).toArray 30))
          (try replace H1 := Lib.hid (H1.out.keep f.out))
          (try replace H2 := Lib.hid (H2.out.keep f.out))
          (try replace H3 := Lib.hid (H3.out.keep f.out))
          have H3 := Lib.hid (ids_new1 k163 okC)
          replace A := Lib.hid (A.out.keep f.out)
          clear f
          refine hK'.out _ _ ?_ (fun hS => ?_)
          · exact A.out.s
          try simp only [Act.put, List.setIfInBounds_toArray, List.set_cons_zero, List.set_cons_succ]
          clear hS hK' K'
          generalize k163.alloc (.cells (hashC hC).toArray 30) = k175 at *
          generalize k163.heap.size = q176 at *
          refine lexT_ef1 28 (by kernel_rfl) rfl rfl (fun K' hK' => ?_)
          refine wp_value (exec_buildSliceA (t := 27) rfl rfl undIds infoHashZ2 rfl (by decide) (by decide) LC.out) ?_
          have f := Lib.hid ((Fr.refl No k175).alloc (.cells (hashC hC).toArray 30))
          (try replace H1 := Lib.hid (H1.out.keep f.out))
          (try replace H2 := Lib.hid (H2.out.keep f.out))
          (try replace H3 := Lib.hid (H3.out.keep f.out))
          have H1 := Lib.hid (ids_new1 k175 okC)
          replace A := Lib.hid (A.out.keep f.out)
          clear f
          refine hK'.out _ _ ?_ (fun hS => ?_)
          · exact A.out.s
          try simp only [Act.put, List.setIfInBounds_toArray, List.set_cons_zero, List.set_cons_succ]
          clear hS hK' K'
          generalize k175.alloc (.cells (hashC hC).toArray 30) = k177 at *
          generalize k175.heap.size = q178 at *
          refine lexT_ef1 29 (by kernel_rfl) rfl rfl (fun K' hK' => ?_)
          go_simp
          refine (up_K A.out.gc (by decide) H1.out (by decide)).mono ?_
          rintro e k179 ⟨v2, rfl, o⟩
          have f := Lib.hid o.2
          (try replace H1 := Lib.hid (H1.out.keep f.out))
          (try replace H2 := Lib.hid (H2.out.keep f.out))
          (try replace H3 := Lib.hid (H3.out.keep f.out))
          have H2 := Lib.hid (show IdsIs k179 v2 [hC] by have h := o.is (A.out.gc.okUp [hC]); rw [uL] at h; exact h)
          replace A := Lib.hid (A.out.keep f.out)
          clear f o
          refine hK'.out _ _ ?_ (fun hS => ?_)
          · exact A.out.s
          try simp only [Act.put, List.setIfInBounds_toArray, List.set_cons_zero, List.set_cons_succ]
          clear hS hK' K'
          refine lexT_ef1 32 (by kernel_rfl) rfl rfl (fun K' hK' => ?_)
          go_simp
          refine (sameIds_any k179 H2.out H3.out (by decide) (by decide)).mono ?_
          rintro e k180 ⟨bb, rfl, hbb, f0⟩
          obtain rfl : bb = true := hbb.2 rfl
          have f := Lib.hid f0
          replace A := Lib.hid (A.out.keep f.out)
          clear f f0 hbb H1 H2 H3
          refine hK'.out _ _ ?_ (fun hS => ?_)
          · exact A.out.s
          try simp only [Act.put, List.setIfInBounds_toArray, List.set_cons_zero, List.set_cons_succ]
          clear hS hK' K'
          (((first | (refine lexT_rd 33 (by kernel_rfl) rfl rfl ?_; apply Exists.intro; refine ⟨?_, ?_⟩; (focus (first | exact lex_load (ty := 30) rfl (fun w h => h.1) uK rK (by rw [LA.out]; exact infoHash) | exact lex_load (ty := 30) rfl (fun w h => h.2.1) uK rK (by rw [LB.out]; exact infoHash) | exact lex_load (ty := 30) rfl (fun w h => h.2.2) uK rK (by rw [LC.out]; exact infoHash) | (intro w' hS; obtain ⟨s1, s2, s3⟩ := hS; go_simp; (try with_reducible rfl); done)))) | (refine lexT_sk 33 (by kernel_rfl) rfl rfl ?_)); try simp only [Act.put, List.setIfInBounds_toArray, List.set_cons_zero, List.set_cons_succ]); ((first | (refine lexT_rd 34 (by kernel_rfl) rfl rfl ?_; apply Exists.intro; refine ⟨?_, ?_⟩; (focus (first | exact lex_load (ty := 30) rfl (fun w h => h.1) uK rK (by rw [LA.out]; exact infoHash) | exact lex_load (ty := 30) rfl (fun w h => h.2.1) uK rK (by rw [LB.out]; exact infoHash) | exact lex_load (ty := 30) rfl (fun w h => h.2.2) uK rK (by rw [LC.out]; exact infoHash) | (intro w' hS; obtain ⟨s1, s2, s3⟩ := hS; go_simp; (try with_reducible rfl); done)))) | (refine lexT_sk 34 (by kernel_rfl) rfl rfl ?_)); try simp only [Act.put, List.setIfInBounds_toArray, List.set_cons_zero]))
          refine lexT_nil (hK.out _ _ ?_)
          go_wp2
          go_ret
          exact ⟨by rfl, A.out.gc.fr⟩
      · refine wp_value (exec_buildSlice2 (t := 27) rfl rfl rfl undIds infoHashZ2 rfl (by decide) (by decide) LB.out LC.out) ?_
        have f := Lib.hid ((Fr.refl No k157).alloc (.cells (hashC hB ++ hashC hC).toArray 30))
        (try replace H1 := Lib.hid (H1.out.keep f.out))
        (try replace H2 := Lib.hid (H2.out.keep f.out))
        (try replace H3 := Lib.hid (H3.out.keep f.out))
        have H3 := Lib.hid (ids_new2 k157 okB okC)
        replace A := Lib.hid (A.out.keep f.out)
        clear f
        refine hK'.out _ _ ?_ (fun hS => ?_)
        · exact A.out.s
        try simp only [Act.put, List.setIfInBounds_toArray, List.set_cons_zero, List.set_cons_succ]
        clear hS hK' K'
        generalize k157.alloc (.cells (hashC hB ++ hashC hC).toArray 30) = k181 at *
        generalize k157.heap.size = q182 at *
        refine lexT_ef1 13 (by kernel_rfl) rfl rfl (fun K' hK' => ?_)
        go_simp
        refine (down_K A.out.gc (by decide) H1.out (by decide)).mono ?_
        rintro e k183 ⟨v2, rfl, o⟩
        have f := Lib.hid o.2
        (try replace H1 := Lib.hid (H1.out.keep f.out))
        (try replace H2 := Lib.hid (H2.out.keep f.out))
        (try replace H3 := Lib.hid (H3.out.keep f.out))
        have H2 := Lib.hid (show IdsIs k183 v2 [hB, hC] by have h := o.is (A.out.gc.okDown [hB]); rw [dC] at h; exact h)
        replace A := Lib.hid (A.out.keep f.out)
        clear f o
        refine hK'.out _ _ ?_ (fun hS => ?_)
        · exact A.out.s
        try simp only [Act.put, List.setIfInBounds_toArray, List.set_cons_zero, List.set_cons_succ]
        clear hS hK' K'
        refine lexT_ef1 17 (by kernel_rfl) rfl rfl (fun K' hK' => ?_)
        go_simp
        refine (sameIds_any k183 H2.out H3.out (by decide) (by decide)).mono ?_
        rintro e k184 ⟨bb, rfl, hbb, f0⟩
        obtain rfl : bb = true := hbb.2 rfl
        have f := Lib.hid f0
        replace A := Lib.hid (A.out.keep f.out)
        clear f f0 hbb H1 H2 H3
        refine hK'.out _ _ ?_ (fun hS => ?_)
        · exact A.out.s
        try simp only [Act.put, List.setIfInBounds_toArray, List.set_cons_zero, List.set_cons_succ]
        clear hS hK' K'
        (((first | (refine lexT_rd 18 (by kernel_rfl) rfl rfl ?_; apply Exists.intro; refine ⟨?_, ?_⟩; (focus (first | exact lex_load (ty := 30) rfl (fun w h => h.1) uK rK (by rw [LA.out]; exact infoHash) | exact lex_load (ty := 30) rfl (fun w h => h.2.1) uK rK (by rw [LB.out]; exact infoHash) | exact lex_load (ty := 30) rfl (fun w h => h.2.2) uK rK (by rw [LC.out]; exact infoHash) | (intro w' hS; obtain ⟨s1, s2, s3⟩ := hS; go_simp; (try with_reducible rfl); done)))) | (refine lexT_sk 18 (by kernel_rfl) rfl rfl ?_)); try simp only [Act.put, List.setIfInBounds_toArray, List.set_cons_zero, List.set_cons_succ]); ((first | (refine lexT_rd 19 (by kernel_rfl) rfl rfl ?_; apply Exists.intro; refine ⟨?_, ?_⟩; (focus (first | exact lex_load (ty := 30) rfl (fun w h => h.1) uK rK (by rw [LA.out]; exact infoHash) | exact lex_load (ty := 30) rfl (fun w h => h.2.1) uK rK (by rw [LB.out]; exact infoHash) | exact lex_load (ty := 30) rfl (fun w h => h.2.2) uK rK (by rw [LC.out]; exact infoHash) | (intro w' hS; obtain ⟨s1, s2, s3⟩ := hS; go_simp; (try with_reducible rfl); done)))) | (refine lexT_sk 19 (by kernel_rfl) rfl rfl ?_)); try simp only [Act.put, List.setIfInBounds_toArray, List.set_cons_zero, List.set_cons_succ]); ((first | (refine lexT_rd 20 (by kernel_rfl) rfl rfl ?_; apply Exists.intro; refine ⟨?_, ?_⟩; (focus (first | exact lex_load (ty := 30) rfl (fun w h => h.1) uK rK (by rw [LA.out]; exact infoHash) | exact lex_load (ty := 30) rfl (fun w h => h.2.1) uK rK (by rw [LB.out]; exact infoHash) | exact lex_load (ty := 30) rfl (fun w h => h.2.2) uK rK (by rw [LC.out]; exact infoHash) | (intro w' hS; obtain ⟨s1, s2, s3⟩ := hS; go_simp; (try with_reducible rfl); done)))) | (refine lexT_sk 20 (by kernel_rfl) rfl rfl ?_)); try simp only [Act.put, List.setIfInBounds_toArray, List.set_cons_zero, List.set_cons_succ]); ((first | (refine lexT_rd 21 (by kernel_rfl) rfl rfl ?_; apply Exists.intro; refine ⟨?_, ?_⟩; (focus (first | exact lex_load (ty := 30) rfl (fun w h => h.1) uK rK (by rw [LA.out]; exact infoHash) | exact lex_load (ty := 30) rfl (fun w h => h.2.1) uK rK (by rw [LB.out]; exact infoHash) | exact lex_load (ty := 30) rfl (fun w h => h.2.2) uK rK (by rw [LC.out]; exact infoHash) | (intro w' hS; obtain ⟨s1, s2, s3⟩ := hS; go_simp; (try with_reducible rfl); done)))) | (refine lexT_sk 21 (by kernel_rfl) rfl rfl ?_)); try simp only [Act.put, List.setIfInBounds_toArray, List.set_cons_zero, List.set_cons_succ]))
        refine lexT_ef1 22 (by kernel_rfl) rfl rfl (fun K' hK' => ?_)
        go_simp
        refine (lift_K A.out.gc (by decide) okB).mono ?_
        rintro e k185 ⟨rfl, V186, g8, f8, s8⟩
        rw [if_pos inCB]
        replace A := Lib.hid (A.out.call g8 f8 (fun j h => .inl (s8 j h)))
        clear g8 f8 s8
        refine hK'.out _ _ ?_ (fun hS => ?_)
        · exact A.out.s
        try simp only [Act.put, List.setIfInBounds_toArray, List.set_cons_zero, List.set_cons_succ]
        clear hS hK' K'
        (((first | (refine lexT_rd 23 (by kernel_rfl) rfl rfl ?_; apply Exists.intro; refine ⟨?_, ?_⟩; (focus (first | exact lex_load (ty := 30) rfl (fun w h => h.1) uK rK (by rw [LA.out]; exact infoHash) | exact lex_load (ty := 30) rfl (fun w h => h.2.1) uK rK (by rw [LB.out]; exact infoHash) | exact lex_load (ty := 30) rfl (fun w h => h.2.2) uK rK (by rw [LC.out]; exact infoHash) | (intro w' hS; obtain ⟨s1, s2, s3⟩ := hS; go_simp; (try with_reducible rfl); done)))) | (refine lexT_sk 23 (by kernel_rfl) rfl rfl ?_)); try simp only [Act.put, List.setIfInBounds_toArray, List.set_cons_zero, List.set_cons_succ]); ((first | (refine lexT_rd 24 (by kernel_rfl) rfl rfl ?_; apply Exists.intro; refine ⟨?_, ?_⟩; (focus (first | exact lex_load (ty := 30) rfl (fun w h => h.1) uK rK (by rw [LA.out]; exact infoHash) | exact lex_load (ty := 30) rfl (fun w h => h.2.1) uK rK (by rw [LB.out]; exact infoHash) | exact lex_load (ty := 30) rfl (fun w h => h.2.2) uK rK (by rw [LC.out]; exact infoHash) | (intro w' hS; obtain ⟨s1, s2, s3⟩ := hS; go_simp; (try with_reducible rfl); done)))) | (refine lexT_sk 24 (by kernel_rfl) rfl rfl ?_)); try simp only [Act.put, List.setIfInBounds_toArray, List.set_cons_zero, List.set_cons_succ]); ((first | (refine lexT_rd 25 (by kernel_rfl) rfl rfl ?_; apply Exists.intro; refine ⟨?_, ?_⟩; (focus (first | exact lex_load (ty := 30) rfl (fun w h => h.1) uK rK (by rw [LA.out]; exact infoHash) | exact lex_load (ty := 30) rfl (fun w h => h.2.1) uK rK (by rw [LB.out]; exact infoHash) | exact lex_load (ty := 30) rfl (fun w h => h.2.2) uK rK (by rw [LC.out]; exact infoHash) | (intro w' hS; obtain ⟨s1, s2, s3⟩ := hS; go_simp; (try with_reducible rfl); done)))) | (refine lexT_sk 25 (by kernel_rfl) rfl rfl ?_)); try simp only [Act.put, List.setIfInBounds_toArray, List.set_cons_zero, List.set_cons_succ]); ((first | (refine lexT_rd 26 (by kernel_rfl) rfl rfl ?_; apply Exists.intro; refine ⟨?_, ?_⟩; (focus (first | exact lex_load (ty := 30) rfl (fun w h => h.1) uK rK (by rw [LA.out]; exact infoHash) | exact lex_load (ty := 30) rfl (fun w h => h.2.1) uK rK (by rw [LB.out]; exact infoHash) | exact lex_load (ty := 30) rfl (fun w h => h.2.2) uK rK (by rw [LC.out]; exact infoHash) | (intro w' hS; obtain ⟨s1, s2, s3⟩ := hS; go_simp; (try with_reducible rfl); done)))) | (refine lexT_sk 26 (by kernel_rfl) rfl rfl ?_)); try simp only [Act.put, List.setIfInBounds_toArray, List.set_cons_zero, List.set_cons_succ]); ((first | (refine lexT_rd 27 (by kernel_rfl) rfl rfl ?_; apply Exists.intro; refine ⟨?_, ?_⟩; (focus (first | exact lex_load (ty := 30) rfl (fun w h => h.1) uK rK (by rw [LA.out]; exact infoHash) | exact lex_load (ty := 30) rfl (fun w h => h.2.1) uK rK (by rw [LB.out]; exact infoHash) | exact lex_load (ty := 30) rfl (fun w h => h.2.2) uK rK (by rw [LC.out]; exact infoHash) | (intro w' hS; obtain ⟨s1, s2, s3⟩ := hS; go_simp; (try with_reducible rfl); done)))) | (refine lexT_sk 27 (by kernel_rfl) rfl rfl ?_)); try simp only [Act.put, List.setIfInBounds_toArray, List.set_cons_zero, List.set_cons_succ]); ((first | (refine lexT_rd 30 (by kernel_rfl) rfl rfl ?_; apply Exists.intro; refine ⟨?_, ?_⟩; (focus (first | exact lex_load (ty := 30) rfl (fun w h => h.1) uK rK (by rw [LA.out]; exact infoHash) | exact lex_load (ty := 30) rfl (fun w h => h.2.1) uK rK (by rw [LB.out]; exact infoHash) | exact lex_load (ty := 30) rfl (fun w h => h.2.2) uK rK (by rw [LC.out]; exact infoHash) | (intro w' hS; obtain ⟨s1, s2, s3⟩ := hS; go_simp; (try with_reducible rfl); done)))) | (refine lexT_sk 30 (by kernel_rfl) rfl rfl ?_)); try simp only [Act.put, List.setIfInBounds_toArray, List.set_cons_zero, List.set_cons_succ]))
        refine lexT_ef2 28 31 (by kernel_rfl) rfl rfl rfl rfl (fun K' hK' => ?_) (fun K' hK' => ?_)
        · refine wp_value (exec_buildSliceA (t := 27) rfl rfl undIds infoHashZ2 rfl (by decide) (by decide) LC.out) ?_
          have f := Lib.hid ((Fr.refl No k185).alloc (.cells (hashC hC).toArray 30))
          (try replace H1 := Lib.hid (H1.out.keep f.out))
          (try replace H2 := Lib.hid (H2.out.keep f.out))
          (try replace H3 := Lib.hid (H3.out.keep f.out))
          have H1 := Lib.hid (ids_new1 k185 okC)
          replace A := Lib.hid (A.out.keep f.out)
          clear f
          refine hK'.out _ _ ?_ (fun hS => ?_)
          · exact A.out.s
          try simp only [Act.put, List.setIfInBounds_toArray, List.set_cons_zero, List.set_cons_succ]
          clear hS hK' K'
          generalize k185.alloc (.cells (hashC hC).toArray 30) = k187 at *
          generalize k185.heap.size = q188 at *
          refine lexT_ef2 29 31 (by kernel_rfl) rfl rfl rfl rfl (fun K' hK' => ?_) (fun K' hK' => ?_)
          · go_simp
            refine (up_K A.out.gc (by decide) H1.out (by decide)).mono ?_
            rintro e k189 ⟨v2, rfl, o⟩
            have f := Lib.hid o.2
            (try replace H1 := Lib.hid (H1.out.keep f.out))
            (try replace H2 := Lib.hid (H2.out.keep f.out))
            (try replace H3 := Lib.hid (H3.out.keep f.out))
            have H2 := Lib.hid (show IdsIs k189 v2 [hC] by have h := o.is (A.out.gc.okUp [hC]); rw [uL] at h; exact h)
            replace A := Lib.hid (A.out.keep f.out)
            clear f o
            refine hK'.out _ _ ?_ (fun hS => ?_)
            · exact A.out.s
            try simp only [Act.put, List.setIfInBounds_toArray, List.set_cons_zero, List.set_cons_succ]
            clear hS hK' K'
            refine lexT_ef1 31 (by kernel_rfl) rfl rfl (fun K' hK' => ?_)
            refine wp_value (exec_buildSliceA (t := 27) rfl rfl undIds infoHashZ2 rfl (by decide) (by decide) LC.out) ?_
            have f := Lib.hid ((Fr.refl No k189).alloc (.cells (hashC hC).toArray 30))
            (try replace H1 := Lib.hid (H1.out.keep f.out))
            (try replace H2 := Lib.hid (H2.out.keep f.out))
            (try replace H3 := Lib.hid (H3.out.keep f.out))
            have H3 := Lib.hid (ids_new1 k189 okC)
            replace A := Lib.hid (A.out.keep f.out)
            clear f
            refine hK'.out _ _ ?_ (fun hS => ?_)
            · exact A.out.s
            try simp only [Act.put, List.setIfInBounds_toArray, List.set_cons_zero, List.set_cons_succ]
            clear hS hK' K'
            generalize k189.alloc (.cells (hashC hC).toArray 30) = k190 at *
            generalize k189.heap.size = q191 at *
            refine lexT_ef1 32 (by kernel_rfl) rfl rfl (fun K' hK' => ?_)
            go_simp
            refine (sameIds_any k190 H2.out H3.out (by decide) (by decide)).mono ?_
            rintro e k192 ⟨bb, rfl, hbb, f0⟩
            obtain rfl : bb = true := hbb.2 rfl
            have f := Lib.hid f0
            replace A := Lib.hid (A.out.keep f.out)
            clear f f0 hbb H1 H2 H3
            refine hK'.out _ _ ?_ (fun hS => ?_)
            · exact A.out.s
            try simp only [Act.put, List.setIfInBounds_toArray, List.set_cons_zero, List.set_cons_succ]
            clear hS hK' K'
            (((first | (refine lexT_rd 33 (by kernel_rfl) rfl rfl ?_; apply Exists.intro; refine ⟨?_, ?_⟩; (focus (first | exact lex_load (ty := 30) rfl (fun w h => h.1) uK rK (by rw [LA.out]; exact infoHash) | exact lex_load (ty := 30) rfl (fun w h => h.2.1) uK rK (by rw [LB.out]; exact infoHash) | exact lex_load (ty := 30) rfl (fun w h => h.2.2) uK rK (by rw [LC.out]; exact infoHash) | (intro w' hS; obtain ⟨s1, s2, s3⟩ := hS; go_simp; (try with_reducible rfl); done)))) | (refine lexT_sk 33 (by kernel_rfl) rfl rfl ?_)); try simp only [Act.put, List.setIfInBounds_toArray, List.set_cons_zero, List.set_cons_succ]); ((first | (refine lexT_rd 34 (by kernel_rfl) rfl rfl ?_; apply Exists.intro; refine ⟨?_, ?_⟩; (focus (first | exact lex_load (ty := 30) rfl (fun w h => h.1) uK rK (by rw [LA.out]; exact infoHash) | exact lex_load (ty := 30) rfl (fun w h => h.2.1) uK rK (by rw [LB.out]; exact infoHash) | exact lex_load (ty := 30) rfl (fun w h => h.2.2) uK rK (by rw [LC.out]; exact infoHash) | (intro w' hS; obtain ⟨s1, s2, s3⟩ := hS; go_simp; (try with_reducible rfl); done)))) | (refine lexT_sk 34 (by kernel_rfl) rfl rfl ?_)); try simp only [Act.put, List.setIfInBounds_toArray, List.set_cons_zero]))
            refine lexT_nil (hK.out _ _ ?_)
            go_wp2
            go_ret
            exact ⟨by rfl, A.out.gc.fr⟩
          · refine wp_value (exec_buildSliceA (t := 27) rfl rfl undIds infoHashZ2 rfl (by decide) (by decide) LC.out) ?_
            have f := Lib.hid ((Fr.refl No k187).alloc (.cells (hashC hC).toArray 30))
            (try replace H1 := Lib.hid (H1.out.keep f.out))
            (try replace H2 := Lib.hid (H2.out.keep f.out))
            (try replace H3 := Lib.hid (H3.out.keep f.out))
            have H3 := Lib.hid (ids_new1 k187 okC)
            replace A := Lib.hid (A.out.keep f.out)
            clear f
            refine hK'.out _ _ ?_ (fun hS => ?_)
            · exact A.out.s
            try simp only [Act.put, List.setIfInBounds_toArray, List.set_cons_zero, List.set_cons_succ]
            clear hS hK' K'
            generalize k187.alloc (.cells (hashC hC).toArray 30) = k193 at *
            generalize k187.heap.size = q194 at *
            refine lexT_ef1 29 (by kernel_rfl) rfl rfl (fun K' hK' => ?_)
            go_simp
            refine (up_K A.out.gc (by decide) H1.out (by decide)).mono ?_
            rintro e k195 ⟨v2, rfl, o⟩
            have f := Lib.hid o.2
            (try replace H1 := Lib.hid (H1.out.keep f.out))
            (try replace H2 := Lib.hid (H2.out.keep f.out))
            (try replace H3 := Lib.hid (H3.out.keep f.out))
            have H2 := Lib.hid (show IdsIs k195 v2 [hC] by have h := o.is (A.out.gc.okUp [hC]); rw [uL] at h; exact h)
            replace A := Lib.hid (A.out.keep f.out)
            clear f o
            refine hK'.out _ _ ?_ (fun hS => ?_)
            · exact A.out.s
            try simp only [Act.put, List.setIfInBounds_toArray, List.set_cons_zero, List.set_cons_succ]
            clear hS hK' K'
            refine lexT_ef1 32 (by kernel_rfl) rfl rfl (fun K' hK' => ?_)
            go_simp
            refine (sameIds_any k195 H2.out H3.out (by decide) (by decide)).mono ?_
            rintro e k196 ⟨bb, rfl, hbb, f0⟩
            obtain rfl : bb = true := hbb.2 rfl
            have f := Lib.hid f0
            replace A := Lib.hid (A.out.keep f.out)
            clear f f0 hbb H1 H2 H3
            refine hK'.out _ _ ?_ (fun hS => ?_)
            · exact A.out.s
            try simp only [Act.put, List.setIfInBounds_toArray, List.set_cons_zero, List.set_cons_succ]
            clear hS hK' K'
            (((first | (refine lexT_rd 33 (by kernel_rfl) rfl rfl ?_; apply Exists.intro; refine ⟨?_, ?_⟩; (focus (first | exact lex_load (ty := 30) rfl (fun w h => h.1) uK rK (by rw [LA.out]; exact infoHash) | exact lex_load (ty := 30) rfl (fun w h => h.2.1) uK rK (by rw [LB.out]; exact infoHash) | exact lex_load (ty := 30) rfl (fun w h => h.2.2) uK rK (by rw [LC.out]; exact infoHash) | (intro w' hS; obtain ⟨s1, s2, s3⟩ := hS; go_simp; (try with_reducible rfl); done)))) | (refine lexT_sk 33 (by kernel_rfl) rfl rfl ?_)); try simp only [Act.put, List.setIfInBounds_toArray, List.set_cons_zero, List.set_cons_succ]); ((first | (refine lexT_rd 34 (by kernel_rfl) rfl rfl ?_; apply Exists.intro; refine ⟨?_, ?_⟩; (focus (first | exact lex_load (ty := 30) rfl (fun w h => h.1) uK rK (by rw [LA.out]; exact infoHash) | exact lex_load (ty := 30) rfl (fun w h => h.2.1) uK rK (by rw [LB.out]; exact infoHash) | exact lex_load (ty := 30) rfl (fun w h => h.2.2) uK rK (by rw [LC.out]; exact infoHash) | (intro w' hS; obtain ⟨s1, s2, s3⟩ := hS; go_simp; (try with_reducible rfl); done)))) | (refine lexT_sk 34 (by kernel_rfl) rfl rfl ?_)); try simp only [Act.put, List.setIfInBounds_toArray, List.set_cons_zero]))
            refine lexT_nil (hK.out _ _ ?_)
            go_wp2
            go_ret
            exact ⟨by rfl, A.out.gc.fr⟩
        · refine wp_value (exec_buildSliceA (t := 27) rfl rfl undIds infoHashZ2 rfl (by decide) (by decide) LC.out) ?_
          have f := Lib.hid ((Fr.refl No k185).alloc (.cells (hashC hC).toArray 30))
          (try replace H1 := Lib.hid (H1.out.keep f.out))
          (try replace H2 := Lib.hid (H2.out.keep f.out))
          (try replace H3 := Lib.hid (H3.out.keep f.out))
          have H3 := Lib.hid (ids_new1 k185 okC)
          replace A := Lib.hid (A.out.keep f.out)
          clear f
          refine hK'.out _ _ ?_ (fun hS => ?_)
          · exact A.out.s
          try simp only [Act.put, List.setIfInBounds_toArray, List.set_cons_zero, List.set_cons_succ]
          clear hS hK' K'
          generalize k185.alloc (.cells (hashC hC).toArray 30) = k197 at *
          generalize k185.heap.size = q198 at *
          refine lexT_ef1 28 (by kernel_rfl) rfl rfl (fun K' hK' => ?_)
          refine wp_value (exec_buildSliceA (t := 27) rfl rfl undIds infoHashZ2 rfl (by decide) (by decide) LC.out) ?_
          have f := Lib.hid ((Fr.refl No k197).alloc (.cells (hashC hC).toArray 30))
          (try replace H1 := Lib.hid (H1.out.keep f.out))
          (try replace H2 := Lib.hid (H2.out.keep f.out))
          (try replace H3 := Lib.hid (H3.out.keep f.out))
          have H1 := Lib.hid (ids_new1 k197 okC)
          replace A := Lib.hid (A.out.keep f.out)
          clear f
          refine hK'.out _ _ ?_ (fun hS => ?_)
          · exact A.out.s
          try simp only [Act.put, List.setIfInBounds_toArray, List.set_cons_zero, List.set_cons_succ]
          clear hS hK' K'
          generalize k197.alloc (.cells (hashC hC).toArray 30) = k199 at *
          generalize k197.heap.size = q200 at *
          refine lexT_ef1 29 (by kernel_rfl) rfl rfl (fun K' hK' => ?_)
          go_simp
          refine (up_K A.out.gc (by decide) H1.out (by decide)).mono ?_
          rintro e k201 ⟨v2, rfl, o⟩
          have f := Lib.hid o.2
          (try replace H1 := Lib.hid (H1.out.keep f.out))
          (try replace H2 := Lib.hid (H2.out.keep f.out))
          (try replace H3 := Lib.hid (H3.out.keep f.out))
          have H2 := Lib.hid (show IdsIs k201 v2 [hC] by have h := o.is (A.out.gc.okUp [hC]); rw [uL] at h; exact h)
          replace A := Lib.hid (A.out.keep f.out)
          clear f o
          refine hK'.out _ _ ?_ (fun hS => ?_)
          · exact A.out.s
          try simp only [Act.put, List.setIfInBounds_toArray, List.set_cons_zero, List.set_cons_succ]
          clear hS hK' K'
          refine lexT_ef1 32 (by kernel_rfl) rfl rfl (fun K' hK' => ?_)
          go_simp
          refine (sameIds_any k201 H2.out H3.out (by decide) (by decide)).mono ?_
          rintro e k202 ⟨bb, rfl, hbb, f0⟩
          obtain rfl : bb = true := hbb.2 rfl
          have f := Lib.hid f0
          replace A := Lib.hid (A.out.keep f.out)
          clear f f0 hbb H1 H2 H3
          refine hK'.out _ _ ?_ (fun hS => ?_)
          · exact A.out.s
          try simp only [Act.put, List.setIfInBounds_toArray, List.set_cons_zero, List.set_cons_succ]
          clear hS hK' K'
          (((first | (refine lexT_rd 33 (by kernel_rfl) rfl rfl ?_; apply Exists.intro; refine ⟨?_, ?_⟩; (focus (first | exact lex_load (ty := 30) rfl (fun w h => h.1) uK rK (by rw [LA.out]; exact infoHash) | exact lex_load (ty := 30) rfl (fun w h => h.2.1) uK rK (by rw [LB.out]; exact infoHash) | exact lex_load (ty := 30) rfl (fun w h => h.2.2) uK rK (by rw [LC.out]; exact infoHash) | (intro w' hS; obtain ⟨s1, s2, s3⟩ := hS; go_simp; (try with_reducible rfl); done)))) | (refine lexT_sk 33 (by kernel_rfl) rfl rfl ?_)); try simp only [Act.put, List.setIfInBounds_toArray, List.set_cons_zero, List.set_cons_succ]); ((first | (refine lexT_rd 34 (by kernel_rfl) rfl rfl ?_; apply Exists.intro; refine ⟨?_, ?_⟩; (focus (first | exact lex_load (ty := 30) rfl (fun w h => h.1) uK rK (by rw [LA.out]; exact infoHash) | exact lex_load (ty := 30) rfl (fun w h => h.2.1) uK rK (by rw [LB.out]; exact infoHash) | exact lex_load (ty := 30) rfl (fun w h => h.2.2) uK rK (by rw [LC.out]; exact infoHash) | (intro w' hS; obtain ⟨s1, s2, s3⟩ := hS; go_simp; (try with_reducible rfl); done)))) | (refine lexT_sk 34 (by kernel_rfl) rfl rfl ?_)); try simp only [Act.put, List.setIfInBounds_toArray, List.set_cons_zero]))
          refine lexT_nil (hK.out _ _ ?_)
          go_wp2
          go_ret
          exact ⟨by rfl, A.out.gc.fr⟩
    · refine wp_value (exec_buildSlice2 (t := 27) rfl rfl rfl undIds infoHashZ2 rfl (by decide) (by decide) LB.out LC.out) ?_
      have f := Lib.hid ((Fr.refl No k156).alloc (.cells (hashC hB ++ hashC hC).toArray 30))
      (try replace H1 := Lib.hid (H1.out.keep f.out))
      (try replace H2 := Lib.hid (H2.out.keep f.out))
      (try replace H3 := Lib.hid (H3.out.keep f.out))
      have H3 := Lib.hid (ids_new2 k156 okB okC)
      replace A := Lib.hid (A.out.keep f.out)
      clear f
      refine hK'.out _ _ ?_ (fun hS => ?_)
      · exact A.out.s
      try simp only [Act.put, List.setIfInBounds_toArray, List.set_cons_zero, List.set_cons_succ]
      clear hS hK' K'
      generalize k156.alloc (.cells (hashC hB ++ hashC hC).toArray 30) = k203 at *
      generalize k156.heap.size = q204 at *
      refine lexT_ef1 12 (by kernel_rfl) rfl rfl (fun K' hK' => ?_)
      refine wp_value (exec_buildSliceA (t := 27) rfl rfl undIds infoHashZ2 rfl (by decide) (by decide) LB.out) ?_
      have f := Lib.hid ((Fr.refl No k203).alloc (.cells (hashC hB).toArray 30))
      (try replace H1 := Lib.hid (H1.out.keep f.out))
      (try replace H2 := Lib.hid (H2.out.keep f.out))
      (try replace H3 := Lib.hid (H3.out.keep f.out))
      have H1 := Lib.hid (ids_new1 k203 okB)
      replace A := Lib.hid (A.out.keep f.out)
      clear f
      refine hK'.out _ _ ?_ (fun hS => ?_)
      · exact A.out.s
      try simp only [Act.put, List.setIfInBounds_toArray, List.set_cons_zero, List.set_cons_succ]
      clear hS hK' K'
      generalize k203.alloc (.cells (hashC hB).toArray 30) = k205 at *
      generalize k203.heap.size = q206 at *
      refine lexT_ef1 13 (by kernel_rfl) rfl rfl (fun K' hK' => ?_)
      go_simp
      refine (down_K A.out.gc (by decide) H1.out (by decide)).mono ?_
      rintro e k207 ⟨v2, rfl, o⟩
      have f := Lib.hid o.2
      (try replace H1 := Lib.hid (H1.out.keep f.out))
      (try replace H2 := Lib.hid (H2.out.keep f.out))
      (try replace H3 := Lib.hid (H3.out.keep f.out))
      have H2 := Lib.hid (show IdsIs k207 v2 [hB, hC] by have h := o.is (A.out.gc.okDown [hB]); rw [dC] at h; exact h)
      replace A := Lib.hid (A.out.keep f.out)
      clear f o
      refine hK'.out _ _ ?_ (fun hS => ?_)
      · exact A.out.s
      try simp only [Act.put, List.setIfInBounds_toArray, List.set_cons_zero, List.set_cons_succ]
      clear hS hK' K'
      refine lexT_ef1 17 (by kernel_rfl) rfl rfl (fun K' hK' => ?_)
      go_simp
      refine (sameIds_any k207 H2.out H3.out (by decide) (by decide)).mono ?_
      rintro e k208 ⟨bb, rfl, hbb, f0⟩
      obtain rfl : bb = true := hbb.2 rfl
      have f := Lib.hid f0
      replace A := Lib.hid (A.out.keep f.out)
      clear f f0 hbb H1 H2 H3
      refine hK'.out _ _ ?_ (fun hS => ?_)
      · exact A.out.s
      try simp only [Act.put, List.setIfInBounds_toArray, List.set_cons_zero, List.set_cons_succ]
      clear hS hK' K'
      (((first | (refine lexT_rd 18 (by kernel_rfl) rfl rfl ?_; apply Exists.intro; refine ⟨?_, ?_⟩; (focus (first | exact lex_load (ty := 30) rfl (fun w h => h.1) uK rK (by rw [LA.out]; exact infoHash) | exact lex_load (ty := 30) rfl (fun w h => h.2.1) uK rK (by rw [LB.out]; exact infoHash) | exact lex_load (ty := 30) rfl (fun w h => h.2.2) uK rK (by rw [LC.out]; exact infoHash) | (intro w' hS; obtain ⟨s1, s2, s3⟩ := hS; go_simp; (try with_reducible rfl); done)))) | (refine lexT_sk 18 (by kernel_rfl) rfl rfl ?_)); try simp only [Act.put, List.setIfInBounds_toArray, List.set_cons_zero, List.set_cons_succ]); ((first | (refine lexT_rd 19 (by kernel_rfl) rfl rfl ?_; apply Exists.intro; refine ⟨?_, ?_⟩; (focus (first | exact lex_load (ty := 30) rfl (fun w h => h.1) uK rK (by rw [LA.out]; exact infoHash) | exact lex_load (ty := 30) rfl (fun w h => h.2.1) uK rK (by rw [LB.out]; exact infoHash) | exact lex_load (ty := 30) rfl (fun w h => h.2.2) uK rK (by rw [LC.out]; exact infoHash) | (intro w' hS; obtain ⟨s1, s2, s3⟩ := hS; go_simp; (try with_reducible rfl); done)))) | (refine lexT_sk 19 (by kernel_rfl) rfl rfl ?_)); try simp only [Act.put, List.setIfInBounds_toArray, List.set_cons_zero, List.set_cons_succ]); ((first | (refine lexT_rd 20 (by kernel_rfl) rfl rfl ?_; apply Exists.intro; refine ⟨?_, ?_⟩; (focus (first | exact lex_load (ty := 30) rfl (fun w h => h.1) uK rK (by rw [LA.out]; exact infoHash) | exact lex_load (ty := 30) rfl (fun w h => h.2.1) uK rK (by rw [LB.out]; exact infoHash) | exact lex_load (ty := 30) rfl (fun w h => h.2.2) uK rK (by rw [LC.out]; exact infoHash) | (intro w' hS; obtain ⟨s1, s2, s3⟩ := hS; go_simp; (try with_reducible rfl); done)))) | (refine lexT_sk 20 (by kernel_rfl) rfl rfl ?_)); try simp only [Act.put, List.setIfInBounds_toArray, List.set_cons_zero, List.set_cons_succ]); ((first | (refine lexT_rd 21 (by kernel_rfl) rfl rfl ?_; apply Exists.intro; refine ⟨?_, ?_⟩; (focus (first | exact lex_load (ty := 30) rfl (fun w h => h.1) uK rK (by rw [LA.out]; exact infoHash) | exact lex_load (ty := 30) rfl (fun w h => h.2.1) uK rK (by rw [LB.out]; exact infoHash) | exact lex_load (ty := 30) rfl (fun w h => h.2.2) uK rK (by rw [LC.out]; exact infoHash) | (intro w' hS; obtain ⟨s1, s2, s3⟩ := hS; go_simp; (try with_reducible rfl); done)))) | (refine lexT_sk 21 (by kernel_rfl) rfl rfl ?_)); try simp only [Act.put, List.setIfInBounds_toArray, List.set_cons_zero, List.set_cons_succ]))
      refine lexT_ef1 22 (by kernel_rfl) rfl rfl (fun K' hK' => ?_)
      go_simp
      refine (lift_K A.out.gc (by decide) okB).mono ?_
      rintro e k209 ⟨rfl, V210, g8, f8, s8⟩
      rw [if_pos inCB]
      replace A := Lib.hid (A.out.call g8 f8 (fun j h => .inl (s8 j h)))
      clear g8 f8 s8
      refine hK'.out _ _ ?_ (fun hS => ?_)
      · exact A.out.s
      try simp only [Act.put, List.setIfInBounds_toArray, List.set_cons_zero, List.set_cons_succ]
      clear hS hK' K'
      (((first | (refine lexT_rd 23 (by kernel_rfl) rfl rfl ?_; apply Exists.intro; refine ⟨?_, ?_⟩; (focus (first | exact lex_load (ty := 30) rfl (fun w h => h.1) uK rK (by rw [LA.out]; exact infoHash) | exact lex_load (ty := 30) rfl (fun w h => h.2.1) uK rK (by rw [LB.out]; exact infoHash) | exact lex_load (ty := 30) rfl (fun w h => h.2.2) uK rK (by rw [LC.out]; exact infoHash) | (intro w' hS; obtain ⟨s1, s2, s3⟩ := hS; go_simp; (try with_reducible rfl); done)))) | (refine lexT_sk 23 (by kernel_rfl) rfl rfl ?_)); try simp only [Act.put, List.setIfInBounds_toArray, List.set_cons_zero, List.set_cons_succ]); ((first | (refine lexT_rd 24 (by kernel_rfl) rfl rfl ?_; apply Exists.intro; refine ⟨?_, ?_⟩; (focus (first | exact lex_load (ty := 30) rfl (fun w h => h.1) uK rK (by rw [LA.out]; exact infoHash) | exact lex_load (ty := 30) rfl (fun w h => h.2.1) uK rK (by rw [LB.out]; exact infoHash) | exact lex_load (ty := 30) rfl (fun w h => h.2.2) uK rK (by rw [LC.out]; exact infoHash) | (intro w' hS; obtain ⟨s1, s2, s3⟩ := hS; go_simp; (try with_reducible rfl); done)))) | (refine lexT_sk 24 (by kernel_rfl) rfl rfl ?_)); try simp only [Act.put, List.setIfInBounds_toArray, List.set_cons_zero, List.set_cons_succ]); ((first | (refine lexT_rd 25 (by kernel_rfl) rfl rfl ?_; apply Exists.intro; refine ⟨?_, ?_⟩; (focus (first | exact lex_load (ty := 30) rfl (fun w h => h.1) uK rK (by rw [LA.out]; exact infoHash) | exact lex_load (ty := 30) rfl (fun w h => h.2.1) uK rK (by rw [LB.out]; exact infoHash) | exact lex_load (ty := 30) rfl (fun w h => h.2.2) uK rK (by rw [LC.out]; exact infoHash) | (intro w' hS; obtain ⟨s1, s2, s3⟩ := hS; go_simp; (try with_reducible rfl); done)))) | (refine lexT_sk 25 (by kernel_rfl) rfl rfl ?_)); try simp only [Act.put, List.setIfInBounds_toArray, List.set_cons_zero, List.set_cons_succ]); ((first | (refine lexT_rd 26 (by kernel_rfl) rfl rfl ?_; apply Exists.intro; refine ⟨?_, ?_⟩; (focus (first | exact lex_load (ty := 30) rfl (fun w h => h.1) uK rK (by rw [LA.out]; exact infoHash) | exact lex_load (ty := 30) rfl (fun w h => h.2.1) uK rK (by rw [LB.out]; exact infoHash) | exact lex_load (ty := 30) rfl (fun w h => h.2.2) uK rK (by rw [LC.out]; exact infoHash) | (intro w' hS; obtain ⟨s1, s2, s3⟩ := hS; go_simp; (try with_reducible rfl); done)))) | (refine lexT_sk 26 (by kernel_rfl) rfl rfl ?_)); try simp only [Act.put, List.setIfInBounds_toArray, List.set_cons_zero, List.set_cons_succ]); ((first | (refine lexT_rd 27 (by kernel_rfl) rfl rfl ?_; apply Exists.intro; refine ⟨?_, ?_⟩; (focus (first | exact lex_load (ty := 30) rfl (fun w h => h.1) uK rK (by rw [LA.out]; exact infoHash) | exact lex_load (ty := 30) rfl (fun w h => h.2.1) uK rK (by rw [LB.out]; exact infoHash) | exact lex_load (ty := 30) rfl (fun w h => h.2.2) uK rK (by rw [LC.out]; exact infoHash) | (intro w' hS; obtain ⟨s1, s2, s3⟩ := hS; go_simp; (try with_reducible rfl); done)))) | (refine lexT_sk 27 (by kernel_rfl) rfl rfl ?_)); try simp only [Act.put, List.setIfInBounds_toArray, List.set_cons_zero, List.set_cons_succ]); ((first | (refine lexT_rd 30 (by kernel_rfl) rfl rfl ?_; apply Exists.intro; refine ⟨?_, ?_⟩; (focus (first | exact lex_load (ty := 30) rfl (fun w h => h.1) uK rK (by rw [LA.out]; exact infoHash) | exact lex_load (ty := 30) rfl (fun w h => h.2.1) uK rK (by rw [LB.out]; exact infoHash) | exact lex_load (ty := 30) rfl (fun w h => h.2.2) uK rK (by rw [LC.out]; exact infoHash) | (intro w' hS; obtain ⟨s1, s2, s3⟩ := hS; go_simp; (try with_reducible rfl); done)))) | (refine lexT_sk 30 (by kernel_rfl) rfl rfl ?_)); try simp only [Act.put, List.setIfInBounds_toArray, List.set_cons_zero, List.set_cons_succ]))
      refine lexT_ef2 28 31 (by kernel_rfl) rfl rfl rfl rfl (fun K' hK' => ?_) (fun K' hK' => ?_)
      · refine wp_value (exec_buildSliceA (t := 27) rfl rfl undIds infoHashZ2 rfl (by decide) (by decide) LC.out) ?_
        have f := Lib.hid ((Fr.refl No k209).alloc (.cells (hashC hC).toArray 30))
        (try replace H1 := Lib.hid (H1.out.keep f.out))
        (try replace H2 := Lib.hid (H2.out.keep f.out))
        (try replace H3 := Lib.hid (H3.out.keep f.out))
        have H1 := Lib.hid (ids_new1 k209 okC)
        replace A := Lib.hid (A.out.keep f.out)
        clear f
        refine hK'.out _ _ ?_ (fun hS => ?_)
        · exact A.out.s
        try simp only [Act.put, List.setIfInBounds_toArray, List.set_cons_zero, List.set_cons_succ]
        clear hS hK' K'
        generalize k209.alloc (.cells (hashC hC).toArray 30) = k211 at *
        generalize k209.heap.size = q212 at *
        refine lexT_ef2 29 31 (by kernel_rfl) rfl rfl rfl rfl (fun K' hK' => ?_) (fun K' hK' => ?_)
        · go_simp
          refine (up_K A.out.gc (by decide) H1.out (by decide)).mono ?_
          rintro e k213 ⟨v2, rfl, o⟩
          have f := Lib.hid o.2
          (try replace H1 := Lib.hid (H1.out.keep f.out))
          (try replace H2 := Lib.hid (H2.out.keep f.out))
          (try replace H3 := Lib.hid (H3.out.keep f.out))
          have H2 := Lib.hid (show IdsIs k213 v2 [hC] by have h := o.is (A.out.gc.okUp [hC]); rw [uL] at h; exact h)
          replace A := Lib.hid (A.out.keep f.out)
          clear f o
          refine hK'.out _ _ ?_ (fun hS => ?_)
          · exact A.out.s
          try simp only [Act.put, List.setIfInBounds_toArray, List.set_cons_zero, List.set_cons_succ]
          clear hS hK' K'
          refine lexT_ef1 31 (by kernel_rfl) rfl rfl (fun K' hK' => ?_)
          refine wp_value (exec_buildSliceA (t := 27) rfl rfl undIds infoHashZ2 rfl (by decide) (by decide) LC.out) ?_
          have f := Lib.hid ((Fr.refl No k213).alloc (.cells (hashC hC).toArray 30))
          (try replace H1 := Lib.hid (H1.out.keep f.out))
          (try replace H2 := Lib.hid (H2.out.keep f.out))
          (try replace H3 := Lib.hid (H3.out.keep f.out))
          have H3 := Lib.hid (ids_new1 k213 okC)
          replace A := Lib.hid (A.out.keep f.out)
          clear f
          refine hK'.out _ _ ?_ (fun hS => ?_)
          · exact A.out.s
          try simp only [Act.put, List.setIfInBounds_toArray, List.set_cons_zero, List.set_cons_succ]
          clear hS hK' K'
          generalize k213.alloc (.cells (hashC hC).toArray 30) = k214 at *
          generalize k213.heap.size = q215 at *
          refine lexT_ef1 32 (by kernel_rfl) rfl rfl (fun K' hK' => ?_)
          go_simp
          refine (sameIds_any k214 H2.out H3.out (by decide) (by decide)).mono ?_
          rintro e k216 ⟨bb, rfl, hbb, f0⟩
          obtain rfl : bb = true := hbb.2 rfl
          have f := Lib.hid f0
          replace A := Lib.hid (A.out.keep f.out)
          clear f f0 hbb H1 H2 H3
          refine hK'.out _ _ ?_ (fun hS => ?_)
          · exact A.out.s
          try simp only [Act.put, List.setIfInBounds_toArray, List.set_cons_zero, List.set_cons_succ]
          clear hS hK' K'
          (((first | (refine lexT_rd 33 (by kernel_rfl) rfl rfl ?_; apply Exists.intro; refine ⟨?_, ?_⟩; (focus (first | exact lex_load (ty := 30) rfl (fun w h => h.1) uK rK (by rw [LA.out]; exact infoHash) | exact lex_load (ty := 30) rfl (fun w h => h.2.1) uK rK (by rw [LB.out]; exact infoHash) | exact lex_load (ty := 30) rfl (fun w h => h.2.2) uK rK (by rw [LC.out]; exact infoHash) | (intro w' hS; obtain ⟨s1, s2, s3⟩ := hS; go_simp; (try with_reducible rfl); done)))) | (refine lexT_sk 33 (by kernel_rfl) rfl rfl ?_)); try simp only [Act.put, List.setIfInBounds_toArray, List.set_cons_zero, List.set_cons_succ]); ((first | (refine lexT_rd 34 (by kernel_rfl) rfl rfl ?_; apply Exists.intro; refine ⟨?_, ?_⟩; (focus (first | exact lex_load (ty := 30) rfl (fun w h => h.1) uK rK (by rw [LA.out]; exact infoHash) | exact lex_load (ty := 30) rfl (fun w h => h.2.1) uK rK (by rw [LB.out]; exact infoHash) | exact lex_load (ty := 30) rfl (fun w h => h.2.2) uK rK (by rw [LC.out]; exact infoHash) | (intro w' hS; obtain ⟨s1, s2, s3⟩ := hS; go_simp; (try with_reducible rfl); done)))) | (refine lexT_sk 34 (by kernel_rfl) rfl rfl ?_)); try simp only [Act.put, List.setIfInBounds_toArray, List.set_cons_zero]))
          refine lexT_nil (hK.out _ _ ?_)
          go_wp2
          go_ret
          exact ⟨by rfl, A.out.gc.fr⟩
        · refine wp_value (exec_buildSliceA (t := 27) rfl rfl undIds infoHashZ2 rfl (by decide) (by decide) LC.out) ?_
          have f := Lib.hid ((Fr.refl No k211).alloc (.cells (hashC hC).toArray 30))
          (try replace H1 := Lib.hid (H1.out.keep f.out))
          (try replace H2 := Lib.hid (H2.out.keep f.out))
          (try replace H3 := Lib.hid (H3.out.keep f.out))
          have H3 := Lib.hid (ids_new1 k211 okC)
          replace A := Lib.hid (A.out.keep f.out)
          clear f
          refine hK'.out _ _ ?_ (fun hS => ?_)
          · exact A.out.s
          try simp only [Act.put, List.setIfInBounds_toArray, List.set_cons_zero, List.set_cons_succ]
          clear hS hK' K'
          generalize k211.alloc (.cells (hashC hC).toArray 30) = k217 at *
          generalize k211.heap.size = q218 at *
          refine lexT_ef1 29 (by kernel_rfl) rfl rfl (fun K' hK' => ?_)
          go_simp
          refine (up_K A.out.gc (by decide) H1.out (by decide)).mono ?_
          rintro e k219 ⟨v2, rfl, o⟩
          have f := Lib.hid o.2
          (try replace H1 := Lib.hid (H1.out.keep f.out))
          (try replace H2 := Lib.hid (H2.out.keep f.out))
          (try replace H3 := Lib.hid (H3.out.keep f.out))
          have H2 := Lib.hid (show IdsIs k219 v2 [hC] by have h := o.is (A.out.gc.okUp [hC]); rw [uL] at h; exact h)
          replace A := Lib.hid (A.out.keep f.out)
          clear f o
          refine hK'.out _ _ ?_ (fun hS => ?_)
          · exact A.out.s
          try simp only [Act.put, List.setIfInBounds_toArray, List.set_cons_zero, List.set_cons_succ]
          clear hS hK' K'
          refine lexT_ef1 32 (by kernel_rfl) rfl rfl (fun K' hK' => ?_)
          go_simp
          refine (sameIds_any k219 H2.out H3.out (by decide) (by decide)).mono ?_
          rintro e k220 ⟨bb, rfl, hbb, f0⟩
          obtain rfl : bb = true := hbb.2 rfl
          have f := Lib.hid f0
          replace A := Lib.hid (A.out.keep f.out)
          clear f f0 hbb H1 H2 H3
          refine hK'.out _ _ ?_ (fun hS => ?_)
          · exact A.out.s
          try simp only [Act.put, List.setIfInBounds_toArray, List.set_cons_zero, List.set_cons_succ]
          clear hS hK' K'
          (((first | (refine lexT_rd 33 (by kernel_rfl) rfl rfl ?_; apply Exists.intro; refine ⟨?_, ?_⟩; (focus (first | exact lex_load (ty := 30) rfl (fun w h => h.1) uK rK (by rw [LA.out]; exact infoHash) | exact lex_load (ty := 30) rfl (fun w h => h.2.1) uK rK (by rw [LB.out]; exact infoHash) | exact lex_load (ty := 30) rfl (fun w h => h.2.2) uK rK (by rw [LC.out]; exact infoHash) | (intro w' hS; obtain ⟨s1, s2, s3⟩ := hS; go_simp; (try with_reducible rfl); done)))) | (refine lexT_sk 33 (by kernel_rfl) rfl rfl ?_)); try simp only [Act.put, List.setIfInBounds_toArray, List.set_cons_zero, List.set_cons_succ]); ((first | (refine lexT_rd 34 (by kernel_rfl) rfl rfl ?_; apply Exists.intro; refine ⟨?_, ?_⟩; (focus (first | exact lex_load (ty := 30) rfl (fun w h => h.1) uK rK (by rw [LA.out]; exact infoHash) | exact lex_load (ty := 30) rfl (fun w h => h.2.1) uK rK (by rw [LB.out]; exact infoHash) | exact lex_load (ty := 30) rfl (fun w h => h.2.2) uK rK (by rw [LC.out]; exact infoHash) | (intro w' hS; obtain ⟨s1, s2, s3⟩ := hS; go_simp; (try with_reducible rfl); done)))) | (refine lexT_sk 34 (by kernel_rfl) rfl rfl ?_)); try simp only [Act.put, List.setIfInBounds_toArray, List.set_cons_zero]))
          refine lexT_nil (hK.out _ _ ?_)
          go_wp2
          go_ret
          exact ⟨by rfl, A.out.gc.fr⟩
      · refine wp_value (exec_buildSliceA (t := 27) rfl rfl undIds infoHashZ2 rfl (by decide) (by decide) LC.out) ?_
        have f := Lib.hid ((Fr.refl No k209).alloc (.cells (hashC hC).toArray 30))
        (try replace H1 := Lib.hid (H1.out.keep f.out))
        (try replace H2 := Lib.hid (H2.out.keep f.out))
        (try replace H3 := Lib.hid (H3.out.keep f.out))
        have H3 := Lib.hid (ids_new1 k209 okC)
        replace A := Lib.hid (A.out.keep f.out)
        clear f
        refine hK'.out _ _ ?_ (fun hS => ?_)
        · exact A.out.s
        try simp only [Act.put, List.setIfInBounds_toArray, List.set_cons_zero, List.set_cons_succ]
        clear hS hK' K'
        generalize k209.alloc (.cells (hashC hC).toArray 30) = k221 at *
        generalize k209.heap.size = q222 at *
        refine lexT_ef1 28 (by kernel_rfl) rfl rfl (fun K' hK' => ?_)
        refine wp_value (exec_buildSliceA (t := 27) rfl rfl undIds infoHashZ2 rfl (by decide) (by decide) LC.out) ?_
        have f := Lib.hid ((Fr.refl No k221).alloc (.cells (hashC hC).toArray 30))
        (try replace H1 := Lib.hid (H1.out.keep f.out))
        (try replace H2 := Lib.hid (H2.out.keep f.out))
        (try replace H3 := Lib.hid (H3.out.keep f.out))
        have H1 := Lib.hid (ids_new1 k221 okC)
        replace A := Lib.hid (A.out.keep f.out)
        clear f
        refine hK'.out _ _ ?_ (fun hS => ?_)
        · exact A.out.s
        try simp only [Act.put, List.setIfInBounds_toArray, List.set_cons_zero, List.set_cons_succ]
        clear hS hK' K'
        generalize k221.alloc (.cells (hashC hC).toArray 30) = k223 at *
        generalize k221.heap.size = q224 at *
        refine lexT_ef1 29 (by kernel_rfl) rfl rfl (fun K' hK' => ?_)
        go_simp
        refine (up_K A.out.gc (by decide) H1.out (by decide)).mono ?_
        rintro e k225 ⟨v2, rfl, o⟩
        have f := Lib.hid o.2
        (try replace H1 := Lib.hid (H1.out.keep f.out))
        (try replace H2 := Lib.hid (H2.out.keep f.out))
        (try replace H3 := Lib.hid (H3.out.keep f.out))
        have H2 := Lib.hid (show IdsIs k225 v2 [hC] by have h := o.is (A.out.gc.okUp [hC]); rw [uL] at h; exact h)
        replace A := Lib.hid (A.out.keep f.out)
        clear f o
        refine hK'.out _ _ ?_ (fun hS => ?_)
        · exact A.out.s
        try simp only [Act.put, List.setIfInBounds_toArray, List.set_cons_zero, List.set_cons_succ]
        clear hS hK' K'
        refine lexT_ef1 32 (by kernel_rfl) rfl rfl (fun K' hK' => ?_)
        go_simp
        refine (sameIds_any k225 H2.out H3.out (by decide) (by decide)).mono ?_
        rintro e k226 ⟨bb, rfl, hbb, f0⟩
        obtain rfl : bb = true := hbb.2 rfl
        have f := Lib.hid f0
        replace A := Lib.hid (A.out.keep f.out)
        clear f f0 hbb H1 H2 H3
        refine hK'.out _ _ ?_ (fun hS => ?_)
        · exact A.out.s
        try simp only [Act.put, List.setIfInBounds_toArray, List.set_cons_zero, List.set_cons_succ]
        clear hS hK' K'
        (((first | (refine lexT_rd 33 (by kernel_rfl) rfl rfl ?_; apply Exists.intro; refine ⟨?_, ?_⟩; (focus (first | exact lex_load (ty := 30) rfl (fun w h => h.1) uK rK (by rw [LA.out]; exact infoHash) | exact lex_load (ty := 30) rfl (fun w h => h.2.1) uK rK (by rw [LB.out]; exact infoHash) | exact lex_load (ty := 30) rfl (fun w h => h.2.2) uK rK (by rw [LC.out]; exact infoHash) | (intro w' hS; obtain ⟨s1, s2, s3⟩ := hS; go_simp; (try with_reducible rfl); done)))) | (refine lexT_sk 33 (by kernel_rfl) rfl rfl ?_)); try simp only [Act.put, List.setIfInBounds_toArray, List.set_cons_zero, List.set_cons_succ]); ((first | (refine lexT_rd 34 (by kernel_rfl) rfl rfl ?_; apply Exists.intro; refine ⟨?_, ?_⟩; (focus (first | exact lex_load (ty := 30) rfl (fun w h => h.1) uK rK (by rw [LA.out]; exact infoHash) | exact lex_load (ty := 30) rfl (fun w h => h.2.1) uK rK (by rw [LB.out]; exact infoHash) | exact lex_load (ty := 30) rfl (fun w h => h.2.2) uK rK (by rw [LC.out]; exact infoHash) | (intro w' hS; obtain ⟨s1, s2, s3⟩ := hS; go_simp; (try with_reducible rfl); done)))) | (refine lexT_sk 34 (by kernel_rfl) rfl rfl ?_)); try simp only [Act.put, List.setIfInBounds_toArray, List.set_cons_zero]))
        refine lexT_nil (hK.out _ _ ?_)
        go_wp2
        go_ret
        exact ⟨by rfl, A.out.gc.fr⟩
end Go.Proofs.Ytnjkpjcnmdgoeaa
