/- kin: Lift, Drop. -/
import Derived.Test.YtnjkpjcnmdgoeaaKinL
namespace Go.Proofs.Ytnjkpjcnmdgoeaa
open Go Go.RowKit Go.Maps Go.MapKept

theorem ids_new1 (w : World) {x : HashD} (hx : hashOk x) : IdsIs (w.alloc (.cells (hashC x).toArray 30)) (.slice (some ⟨w.heap.size, 0, none⟩) 1 1) [x] := by
  refine ⟨fun c hc => by rw [List.mem_singleton.1 hc]; exact hx, .inl (.inr ⟨w.heap.size, 0, 1, rfl, Nat.le_refl _, by unfold maxLen; omega, fun j u hj => ?_, by simp⟩)⟩
  rw [List.flatMap_cons, List.flatMap_nil, List.append_nil] at hj
  exact range_new w (hashC x) 30 j u hj
theorem down_none {G : List NodeD} {x : HashD} (h : x ∉ ids G) : downS G [x] = [] := by
  refine List.eq_nil_iff_forall_not_mem.2 fun y hy => ?_
  obtain ⟨a, ha, hr⟩ := mem_down.1 hy
  rw [List.mem_singleton.1 ha] at hr
  exact h hr.right
theorem cut_mem {G : List NodeD} {l : List HashD} {n : Nat} {q : HashD} (hn : l.Nodup) (hs : ∀ y ∈ l, y ∈ ids G) (h : l[n]? = some q) : q ∈ ids (cutL G (l.take n)) :=
  mem_ids_cut.2 ⟨hs q (List.mem_of_getElem? h), take_nmem hn h⟩
def LiftOk (w0 w : World) (p : Nat) (V : Nat → Prop) (G : List NodeD) (N : Nat) (x : HashD) (e : Ending) (w' : World) : Prop :=
  e = .returned (.int .i64 (if x ∈ ids G then 0 else 9)) ∧ ∃ V', GC w0 w' p V' (cutL G [x]) N ∧ Fr V w w' ∧ ∀ j, V' j → V j
def DropOk (w0 w : World) (p : Nat) (V : Nat → Prop) (G : List NodeD) (N : Nat) (x : HashD) (e : Ending) (w' : World) : Prop :=
  ∃ v, e = .returned (.tuple #[v, .int .i64 (if x ∈ ids G then 0 else 9)]) ∧ ∃ V', GC w0 w' p V' (cutL G (downS G [x])) N ∧ Fr V w w' ∧ (∀ j, V' j → V j) ∧ w'.ownsRow w.heap.size 30 32 v (downS G [x]).length ((downS G [x]).flatMap hashC)
theorem cutL_not {G : List NodeD} (ok : GOk G) {x : HashD} (h : x ∉ ids G) : cutL G [x] = G := by
  unfold cutL
  rw [List.filter_eq_self.2 fun n hn => by simp; exact fun e => h (mem_ids.2 ⟨n, hn, e⟩)]
  conv => rhs; rw [← List.map_id G]
  refine List.map_congr_left fun n hn => ?_
  have : n.ps.filter (fun p => decide (p ∉ [x])) = n.ps := List.filter_eq_self.2 fun y hy => by
    simp
    rintro rfl
    exact h (par_mem ok (x := n.id) (by rw [par_of ok hn]; exact hy))
  rw [this]
  rfl
section
variable {w0 w : World} {p N : Nat} {V : Nat → Prop} {G : List NodeD}
set_option maxRecDepth 20000 in
set_option maxHeartbeats 4000000 in
theorem lift_K (h : GC w0 w p V G N) (hN : N ≤ 1000) {x : HashD} (hx : hashOk x) : Calls Try.prog 23 #[.pointer (some ⟨p, 0, none⟩), .agg (hashC x).toArray] w (LiftOk w0 w p V G N x) := by
  obtain ⟨dK, uK, rK⟩ := descHash
  obtain ⟨m, sq, L, hr, -, hG, -, -⟩ := h.ex
  have HX := Lib.hid (hashC_len hx)
  have f1 : Fr No w (w.alloc (.cells (hashC x).toArray 30)) := (Fr.refl No w).alloc _
  have RB := Lib.hid (range_new w (hashC x) 30)
  have c0 := (blk2 (f1.obj hr.obj id)).1
  obtain ⟨k1, k2⟩ := hr.run_look hx false rfl
  have KM := Lib.hid (fun (w' : World) (f : Fr No (w.alloc (.cells (hashC x).toArray 30)) w') => hr.keepM (f1.trans0 f))
  have F1 := Lib.hid f1
  have HI := Lib.hid (show ids G = L.map (·.id) by rw [← hG]; simp [ids, Function.comp])
  have HC := Lib.hid h
  have XOK := Lib.hid hx
  clear h hr hG f1
  by_cases hin : x ∈ ids G
  · have D := Lib.hid hin
    rw [HI.out] at hin
    obtain ⟨r, hr, rfl⟩ := List.mem_map.1 hin
    have K1 := Lib.hid (k1 r hr rfl)
    clear k1 k2 hin hr
    unfold nodeV at K1
    unfold hashV at K1
    go_enter Try.func23, Try.ntmps23
    go_wp2_with fail
    generalize hq : w.heap.size = q at *
    generalize w.alloc (.cells (hashC r.id).toArray 30) = w1 at *
    refine wp_region_lexL [false, false, false, false, false, false, false] (fun w' => w'.cell? ⟨p, 0, none⟩ = some (.map (some m)) ∧ w'.rangeAt q 0 (hashC r.id) ∧ (∀ M, GMap w m M → GMap w' m M)) (by kernel_rfl) (by kernel_rfl) ?_ (fun K hK => ?_)
    · exact ⟨(Fr.refl No _).drew.cell c0 id, range_keep RB.out (Fr.refl No _).drew id, KM.out _ (Fr.refl No _).drew⟩
    repeat (first | ((first | with_reducible refine lexL_read ?_ | ((with_reducible refine lexL_readG ?_ ?_); (focus rfl))); apply Exists.intro; refine ⟨?_, ?_⟩; (focus (first | exact lex_load (ty := 30) rfl (fun w h => h.2.1) uK rK (by rw [HX.out]; exact infoHash) | exact fun w' h => exec_lookup (t := 53) rfl rfl rfl (K1.out w' h.2.2) | (intro w' hS; obtain ⟨s1, s2, s3⟩ := hS; go_simp; (try with_reducible rfl); done))); try simp only [Act.put, List.setIfInBounds_toArray, List.set_cons_zero, List.set_cons_succ]) | ((first | ((with_reducible refine lexL_skip (c := false) ?_ ?_ ?_); (focus rfl); (focus rfl)) | ((with_reducible refine lexL_skip (c := true) ?_ ?_ ?_); (focus rfl); (focus rfl)) | ((with_reducible refine lexL_skipU ?_ ?_); (focus rfl))); try simp only [Act.put, List.setIfInBounds_toArray, List.set_cons_zero, List.set_cons_succ]))
    refine lexL_nil (hK.out _ _ ?_)
    have RB2 := Lib.hid (range_keep RB.out (Fr.refl No _).drew id)
    go_wp2_with (first | (refine wpList_value rfl (exec_load (ty := 30) rfl rfl RB2.out uK rK (by rw [HX.out]; exact infoHash)) ?_) | (go_at_call 32; refine (cut_K (HC.out.fr0 F1.out.drew) hN XOK.out D.out).mono ?_; rintro e w2 ⟨rfl, V2, g2, f2, s2⟩; have G2 := Lib.hid g2; have F2 := Lib.hid (F1.out.drew.of0.trans f2 (fun _ _ h => h)); have S2 := Lib.hid s2; clear g2 f2 s2))
    go_ret
    refine ⟨by rw [if_pos D.out]; rfl, V2, ?_, F2.out, S2.out⟩
    rw [← cutG_one]
    exact G2.out
  · have D := Lib.hid hin
    rw [HI.out] at hin
    have K1 := Lib.hid (k2 hin)
    clear k1 k2 hin
    unfold hashV at K1
    go_enter Try.func23, Try.ntmps23
    go_wp2_with fail
    generalize hq : w.heap.size = q at *
    generalize w.alloc (.cells (hashC x).toArray 30) = w1 at *
    refine wp_region_lexL [false, false, false, false, false, false, false] (fun w' => w'.cell? ⟨p, 0, none⟩ = some (.map (some m)) ∧ w'.rangeAt q 0 (hashC x) ∧ (∀ M, GMap w m M → GMap w' m M)) (by kernel_rfl) (by kernel_rfl) ?_ (fun K hK => ?_)
    · exact ⟨(Fr.refl No _).drew.cell c0 id, range_keep RB.out (Fr.refl No _).drew id, KM.out _ (Fr.refl No _).drew⟩
    repeat (first | ((first | with_reducible refine lexL_read ?_ | ((with_reducible refine lexL_readG ?_ ?_); (focus rfl))); apply Exists.intro; refine ⟨?_, ?_⟩; (focus (first | exact lex_load (ty := 30) rfl (fun w h => h.2.1) uK rK (by rw [HX.out]; exact infoHash) | exact fun w' h => exec_lookup (t := 53) rfl rfl rfl (K1.out w' h.2.2) | (intro w' hS; obtain ⟨s1, s2, s3⟩ := hS; go_simp; (try with_reducible rfl); done))); try simp only [Act.put, List.setIfInBounds_toArray, List.set_cons_zero, List.set_cons_succ]) | ((first | ((with_reducible refine lexL_skip (c := false) ?_ ?_ ?_); (focus rfl); (focus rfl)) | ((with_reducible refine lexL_skip (c := true) ?_ ?_ ?_); (focus rfl); (focus rfl)) | ((with_reducible refine lexL_skipU ?_ ?_); (focus rfl))); try simp only [Act.put, List.setIfInBounds_toArray, List.set_cons_zero, List.set_cons_succ]))
    refine lexL_nil (hK.out _ _ ?_)
    go_wp2_with fail
    go_ret
    refine ⟨by rw [if_neg D.out]; rfl, V, ?_, F1.out.drew.of0, fun _ h => h⟩
    rw [cutL_not HC.out.gok D.out]
    exact HC.out.fr0 F1.out.drew
set_option maxRecDepth 20000 in
set_option maxHeartbeats 4000000 in
theorem drop_K (h : GC w0 w p V G N) (hN : N ≤ 1000) {x : HashD} (hx : hashOk x) : Calls Try.prog 17 #[.pointer (some ⟨p, 0, none⟩), .agg (hashC x).toArray] w (DropOk w0 w p V G N x) := by
  obtain ⟨dK, uK, rK⟩ := descHash
  have HX := Lib.hid (hashC_len hx)
  have f1 : Fr No w (w.alloc (.cells (hashC x).toArray 30)) := (Fr.refl No w).alloc _
  have RB := Lib.hid (range_new w (hashC x) 30)
  have F1 := Lib.hid f1
  have HC := Lib.hid h
  have XOK := Lib.hid hx
  have F1s := Lib.hid (show (w.alloc (.cells (hashC x).toArray 30)).heap.size = w.heap.size + 1 by simp)
  have DL := Lib.hid (Nat.le_trans (down_len (G := G) [x]) (Nat.le_trans h.len hN))
  have hdown := fun (w1 : World) (f : Fr No w w1) => down_K (h.fr0 (f.trans0 ((Fr.refl No w1).alloc (.cells (hashC x).toArray 30)))) hN (ids_new1 w1 hx) (by simp)
  have hd := hdown _ f1
  rw [F1s.out] at hd
  have HD := Lib.hid hd
  have DN := Lib.hid (show (downS G [x]).Nodup from h.gok.nd.sublist (down_sublist [x]))
  have DS := Lib.hid (down_sub (G := G) [x])
  have GS := Lib.hid h.gok
  have hcase : (x ∈ ids G ∧ ¬ ((downS G [x]).length : Int) = 0) ∨ (x ∉ ids G ∧ ((downS G [x]).length : Int) = 0) := by
    by_cases hin : x ∈ ids G
    · obtain ⟨r, hr⟩ := down_head h.gok hin
      exact .inl ⟨hin, by rw [hr]; simp; omega⟩
    · exact .inr ⟨hin, by rw [down_none hin]; rfl⟩
  clear h f1 hdown hd
  unfold DropOk
  generalize downS G [x] = D at *
  go_enter Try.func17, Try.ntmps17
  go_wp2_with (first | (refine wpList_value rfl (exec_load (ty := 30) rfl rfl RB.out uK rK (by rw [HX.out]; exact infoHash)) ?_) | (refine wpList_value rfl (exec_buildSliceA (t := 27) rfl rfl undIds infoHashZ2 rfl (by decide) (by decide) HX.out) ?_))
  refine HD.out.mono ?_
  rintro e w2 ⟨v2, rfl, o2, f2⟩
  obtain ⟨va, vc, rfl⟩ := o2.slice.arg.form
  have F2 := Lib.hid ((F1.out.alloc (.cells (hashC x).toArray 30)).trans0 f2)
  have O2 := Lib.hid (own_base o2 (show w.heap.size ≤ _ from (F1.out.alloc (.cells (hashC x).toArray 30)).size))
  have VW := Lib.hid (show ∀ j, V j → j < w.heap.size from HC.out.hi)
  clear o2 f2 HD RB
  rcases hcase with ⟨hin, h0⟩ | ⟨hin, h0⟩
  · go_wp2_with fail
    rw [show ((D.length : Int) == 0) = false from by simpa using h0]
    have HIN := Lib.hid hin
    clear h0 hin
    go_loopw [20] (fun iv wr => ∃ (n : Nat) (V' : Nat → Prop), iv = .int .i64 n ∧ n ≤ D.length ∧ GC w0 wr p V' (cutL G (D.take n)) N ∧ Fr V w wr ∧ (∀ j, V' j → V j) ∧ wr.ownsRow w.heap.size 30 32 (.slice va D.length vc) D.length (D.flatMap hashC)) (fun iv _ => D.length - (intOf iv).toNat)
    case atStart => exact ⟨0, V, rfl, Nat.zero_le _, by rw [List.take_zero, cutL_nil]; exact HC.out.fr0 F2.out, F2.out.of0, fun _ h => h, O2.out⟩
    case round =>
      obtain ⟨n, V', rfl, hn, hg, hf, hs, ho⟩ := hrel
      by_cases h : n < D.length
      · have i1 : (n : Int) < (D.length : Int) := by omega
        obtain ⟨q, hq⟩ : ∃ q, D[n]? = some q := ⟨_, List.getElem?_eq_getElem h⟩
        have QI := Lib.hid (cut_mem DN.out DS.out hq)
        have QT := Lib.hid (show cutL G (D.take (n + 1)) = cutG (cutL G (D.take n)) q by rw [take_snoc hq, cutL_snoc])
        have QOK := Lib.hid (HC.out.okId q (DS.out q (List.mem_of_getElem? hq)))
        have HQ := Lib.hid (hashC_len QOK.out)
        obtain ⟨bq, oq, cq, hvq, hrq, -⟩ := (IdsIs.own ho (fun y hy => HC.out.okId y (DS.out y hy))).at_ hq
        cases hvq
        have R1 := Lib.hid hrq
        have FA := Lib.hid ((Fr.refl No wr).alloc (.cells (hashC q).toArray 30))
        have RN := Lib.hid (range_new wr (hashC q) 30)
        have GG := Lib.hid hg
        have FF := Lib.hid hf
        have SS := Lib.hid hs
        have OO := Lib.hid ho
        have hdl := DL.out
        clear hg hf hs ho hq hrq
        go_wp2_with (first | (refine wpList_value rfl (exec_load (ty := 30) rfl rfl R1.out uK rK (by rw [HQ.out]; exact infoHash)) ?_) | (refine wpList_done rfl (exec_store_new (w := wr) (cs := hashC q) (ty := 30) rfl rfl rfl (by rw [HQ.out]; rfl) (by rw [HQ.out]; exact infoHash) hashC_one) ?_) | (refine wpList_value rfl (exec_load (ty := 30) rfl rfl RN.out uK rK (by rw [HQ.out]; exact infoHash)) ?_) | (go_at_call 32; refine (cut_K (GG.out.fr0 FA.out) hN QOK.out QI.out).mono ?_; rintro e w5 ⟨rfl, V5, g5, f5, s5⟩; have G5 := Lib.hid g5; have F5 := Lib.hid (FA.out.of0.trans f5 (fun _ _ h => h)); have S5 := Lib.hid s5; clear g5 f5 s5))
        go_roundw
        case rel => exact ⟨n + 1, V5, by simp, by omega, by rw [QT.out]; exact G5.out, FF.out.trans F5.out (fun _ _ h => SS.out _ h), fun j hj => SS.out j (S5.out j hj), ownsRow_keep OO.out F5.out (fun j hj e => by have := (OO.out.lt j hj).1; have := VW.out j (SS.out j e); omega)⟩
        case measure => show D.length - (n + 1) < D.length - n; omega
      · have i1 : ¬ (n : Int) < (D.length : Int) := by omega
        have hnl : n = D.length := by omega
        subst hnl
        rw [List.take_length] at hg
        have GG := Lib.hid hg
        have FF := Lib.hid hf
        have SS := Lib.hid hs
        have OO := Lib.hid ho
        clear hg hf hs ho
        go_wp2_with fail
        go_ret2
        exact ⟨.slice va D.length vc, by first | rfl | (rw [if_pos HIN.out]; rfl), V', GG.out, FF.out, SS.out, OO.out⟩
  · have h1 : D = [] := List.eq_nil_of_length_eq_zero (by omega)
    subst h1
    have h2 : (([] : List HashD).length : Int) = 0 := rfl
    have HIN := Lib.hid hin
    clear hin
    go_wp2_with fail
    go_ret2
    exact ⟨.slice none 0 0, by first | rfl | (rw [if_neg HIN.out]; rfl), V, by rw [cutL_nil]; exact HC.out.fr0 F2.out, F2.out.of0, fun _ h => h, World.ownsRow_nil _ _ _ _⟩
end
end Go.Proofs.Ytnjkpjcnmdgoeaa
