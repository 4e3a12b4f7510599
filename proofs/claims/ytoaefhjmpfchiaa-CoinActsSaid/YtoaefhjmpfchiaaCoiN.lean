/- coin: New, Len, Find. -/
import Derived.Test.YtoaefhjmpfchiaaCoiM
import Derived.Test.YtoaefhjmpfchiaaRowB
namespace Go.Proofs.Ytoaefhjmpfchiaa
open Go Go.RowKit Go.Maps Go.MapKept

theorem out0_size : (outC out0).toArray.size = 33 := by rw [List.size_toArray, outC_len out0_ok]
theorem hasC_nil (p : PointD) : hasC [] p = false := rfl
theorem new_C (w0 w : World) (f : Fr No w0 w) {v : Value} {l : List CoinD} (hl : CoinsIs w v l) (hN : l.length ≤ 100000) (hnd : (l.map (·.at_)).Nodup) :
    Calls Try.prog 12 #[v] w fun e w' => ∃ p, e = .returned (.tuple #[.pointer (some ⟨p, 0, none⟩), .int .i64 0]) ∧ ∃ V, CS w0 w' p V (putC [] l) ∧ Fr No w w' ∧ (∀ k, V k → w.heap.size ≤ k) := by
  refine (new_raw w hl hN).mono ?_
  rintro e w' ⟨M, rfl, hm, hb, fr, hs⟩
  refine ⟨w.heap.size + 1, by rw [if_pos hnd], fun j => j = w.heap.size + 1 ∨ j = w.heap.size, ⟨⟨_, M, hb, hm, fun k v => ?_, by omega, rfl⟩, putC_srt List.Pairwise.nil hnd (fun _ _ => rfl), fun c hc => ?_, ?_, f.trans0 fr⟩, fr, ?_⟩
  · rw [hs hnd, mem_putC]; simp
  · rcases mem_putC.1 hc with h | h
    · cases h
    · exact hl.1 c h
  · have := f.size; rintro j (rfl | rfl) <;> omega
  · rintro j (rfl | rfl) <;> omega
theorem new_twice (w : World) {v : Value} {l : List CoinD} (hl : CoinsIs w v l) (hN : l.length ≤ 100000) (hnd : ¬ (l.map (·.at_)).Nodup) :
    Calls Try.prog 12 #[v] w fun e w' => e = .returned (.tuple #[.pointer none, .int .i64 12]) ∧ Fr No w w' := by
  refine (new_raw w hl hN).mono ?_
  rintro e w' ⟨M, rfl, -, -, fr, -⟩
  exact ⟨by rw [if_neg hnd], fr⟩

theorem find_iff {S : List CoinD} (h : SrtC S) {q : PointD} {v : OutD} : findC S q = some v ↔ (⟨q, v⟩ : CoinD) ∈ S := by
  constructor
  · intro e
    cases hh : hasC S q with
    | false => rw [findC_none hh] at e; cases e
    | true =>
      obtain ⟨c, hc, rfl⟩ := hasC_iff.1 hh
      rw [findC_some h hc] at e
      injection e with e
      rw [← e]
      exact hc
  · intro hm
    exact findC_some (c := ⟨q, v⟩) h hm
def outOf (S : List CoinD) (q : PointD) : OutD := (findC S q).getD out0
theorem outOf_ok {S : List CoinD} (ok : ∀ c ∈ S, c.ok) (q : PointD) : (outOf S q).ok := by
  unfold outOf findC
  cases e : S.find? fun c => decide (c.at_ = q) with
  | none => exact out0_ok
  | some c => exact (ok c (List.mem_of_find?_eq_some e)).2
section
variable {w0 w : World} {p : Nat} {V : Nat → Prop} {S : List CoinD}
set_option maxRecDepth 20000 in
theorem look_at {m : Nat} {M : List (PointD × OutD)} (hs : ∀ k v, (k, v) ∈ M ↔ (⟨k, v⟩ : CoinD) ∈ S) (srt : SrtC S) {q : PointD} (hq : q.ok) (hm : AtMap w m M) :
    (Instr.lookup 67 (.map (some m)) (pointV q) true).run Try.prog w = .ok (.tuple #[.agg (outC (outOf S q)).toArray, .bool (hasC S q)]) w := by
  have h := hm.look eqPoint.keyed undAtMap (fun _ _ => pointV_inj) zeroOut (keyOfPoint hq) true (r := findC S q) (fun v => by rw [hs, find_iff srt])
  rw [h, findC_isSome]
  have : ((findC S q).map outV).getD (outV out0) = outV (outOf S q) := by
    unfold outOf
    cases findC S q <;> rfl
  simp only [if_true, this]
  rfl
set_option maxRecDepth 20000 in
theorem len_C (h : CS w0 w p V S) : Calls Try.prog 17 #[.pointer (some ⟨p, 0, none⟩)] w fun e w' => e = .returned (.int .i64 (S.length : Int)) ∧ Fr No w w' := by
  obtain ⟨m, M, hb, hm, hs, hne, rfl⟩ := h.ex
  have c0 := (blk1 hb).1
  have hl := pairs_len hm hs h.srt
  have LR := Lib.hid (fun ty => hm.lenRun undAtMap ty)
  rw [← hl]
  clear h hb hm hs hne hl
  go_enter Try.func17, Try.ntmps17
  go_wp2_with (refine wpList_value rfl (exec_len rfl rfl (LR.out _)) ?_)
  go_ret
  exact ⟨rfl, Fr.refl _ _⟩

set_option maxRecDepth 20000 in
set_option maxHeartbeats 2000000 in
theorem find_C (h : CS w0 w p V S) {q : PointD} (hq : q.ok) : Calls Try.prog 13 #[.pointer (some ⟨p, 0, none⟩), .agg (pointC q).toArray] w fun e w' => e = .returned (.tuple #[.agg (outC (outOf S q)).toArray, .bool (hasC S q)]) ∧ Fr No w w' := by
  obtain ⟨dP, uP, rP⟩ := descPoint
  obtain ⟨dO, uO, rO⟩ := descOut
  obtain ⟨m, M, hb, hm, hs, hne, rfl⟩ := h.ex
  have LOOK := Lib.hid (fun w' (h' : AtMap w' m M) => look_at (w := w') hs h.srt hq h')
  have XOK := Lib.hid (outOf_ok h.ok q)
  have OL := Lib.hid (outC_len XOK.out)
  have PL := Lib.hid (pointC_len hq)
  have zo := zeroOutC
  have f1 : Fr No w ((w.alloc (.cells (pointC q).toArray 27)).alloc (.cells (outC out0).toArray 36)) := ((Fr.refl No w).alloc _).alloc _
  have c0 := (blk1 (f1.obj hb id)).1
  have RB := Lib.hid (range_keep (range_new w (pointC q) 27) ((Fr.refl No _).alloc (.cells (outC out0).toArray 36)) id)
  have HM := Lib.hid (hm.keep f1 id)
  have HRC := Lib.hid (new_obj' (w.alloc (.cells (pointC q).toArray 27)) (.cells (outC out0).toArray 36) (n := w.heap.size + 1) (by simp))
  have F1 := Lib.hid f1
  have HSZ := Lib.hid (show ((w.alloc (.cells (pointC q).toArray 27)).alloc (.cells (outC out0).toArray 36)).heap.size = w.heap.size + 2 by simp)
  generalize hasC S q = hb' at *
  generalize outOf S q = X at *
  clear h hb hm hs hne f1
  go_enter Try.func13, Try.ntmps13
  go_wp2_with fail
  generalize hq1 : w.heap.size = n at *
  generalize (w.alloc (.cells (pointC q).toArray 27)).alloc (.cells (outC out0).toArray 36) = wz at *
  refine wp_region_lexL [false, false, false, false, false, false, false, false, false, true, true, false] (fun w' => w'.cell? ⟨p, 0, none⟩ = some (.map (some m)) ∧ w'.rangeAt n 0 (pointC q) ∧ AtMap w' m M) (by kernel_rfl) (by kernel_rfl) ?_ (fun K hK => ?_)
  · exact ⟨c0, range_keep RB.out (Fr.refl No _).drew id, HM.out.keep (Fr.refl No _).drew id⟩
  repeat (first | ((first | with_reducible refine lexL_read ?_ | ((with_reducible refine lexL_readG ?_ ?_); (focus rfl))); apply Exists.intro; refine ⟨?_, ?_⟩; (focus (first | exact lex_load (ty := 27) rfl (fun w h => h.2.1) uP rP (by rw [PL.out]; exact infoPoint) | exact fun w' h => exec_lookup (t := 67) rfl rfl rfl (LOOK.out w' h.2.2) | (intro w' hS; obtain ⟨s1, s2, s3⟩ := hS; go_simp; (try with_reducible rfl); done))); try simp only [Act.put, List.setIfInBounds_toArray, List.set_cons_zero, List.set_cons_succ]) | ((first | ((with_reducible refine lexL_skip (c := false) ?_ ?_ ?_); (focus rfl); (focus rfl)) | ((with_reducible refine lexL_skip (c := true) ?_ ?_ ?_); (focus rfl); (focus rfl)) | ((with_reducible refine lexL_skipU ?_ ?_); (focus rfl))); try simp only [Act.put, List.setIfInBounds_toArray, List.set_cons_zero, List.set_cons_succ]))
  (first | with_reducible refine lexL_eff (fun K' hK' => ?_) | ((with_reducible refine lexL_effG ?_ (fun K' hK' => ?_)); (focus rfl)))
  refine wp_value (exec_alloc rfl (zeroOutC _)) ?_
  refine hK'.out _ _ ?_ (fun hS => ?_)
  · exact ⟨(((Fr.refl No wz).drew).alloc _).cell c0 id, range_keep RB.out (((Fr.refl No wz).drew).alloc _) id, HM.out.keep (((Fr.refl No wz).drew).alloc _) id⟩
  try simp only [Act.put, List.setIfInBounds_toArray, List.set_cons_zero, List.set_cons_succ]
  (first | with_reducible refine lexL_eff (fun K' hK' => ?_) | ((with_reducible refine lexL_effG ?_ (fun K' hK' => ?_)); (focus rfl)))
  refine wp_done (exec_store_new (w := wz.drew) (ty := 36) (cs := outC X) rfl rfl rfl (by rw [OL.out]; rfl) (by rw [OL.out]; exact infoOut) outC_one) ?_
  refine hK'.out _ _ ?_ (fun hS => ?_)
  · exact ⟨(((Fr.refl No wz).drew).alloc _).cell c0 id, range_keep RB.out (((Fr.refl No wz).drew).alloc _) id, HM.out.keep (((Fr.refl No wz).drew).alloc _) id⟩
  try simp only [Act.put]
  repeat (first | ((first | with_reducible refine lexL_read ?_ | ((with_reducible refine lexL_readG ?_ ?_); (focus rfl))); apply Exists.intro; refine ⟨?_, ?_⟩; (focus (first | (intro w' hS; obtain _ := hS; go_simp; (try with_reducible rfl); done))); try simp only [Act.put, List.setIfInBounds_toArray, List.set_cons_zero, List.set_cons_succ]) | ((first | ((with_reducible refine lexL_skip (c := false) ?_ ?_ ?_); (focus rfl); (focus rfl)) | ((with_reducible refine lexL_skip (c := true) ?_ ?_ ?_); (focus rfl); (focus rfl)) | ((with_reducible refine lexL_skipU ?_ ?_); (focus rfl))); try simp only [Act.put, List.setIfInBounds_toArray, List.set_cons_zero, List.set_cons_succ]))
  refine lexL_nil (hK.out _ _ ?_)
  have RO := Lib.hid (show (wz.alloc (.cells (outC X).toArray 36)).drew.rangeAt wz.heap.size 0 (outC X) from range_new wz (outC X) 36)
  have HRC2 := Lib.hid (((Fr.refl No wz).alloc (.cells (outC X).toArray 36)).drew.obj HRC.out id)
  have F2 := Lib.hid ((F1.out.alloc (.cells (outC X).toArray 36)).drew)
  clear c0 RB HM LOOK HRC
  go_wp2_with (first | (refine wpList_value rfl (exec_load (ty := 36) rfl rfl RO.out uO rO (by rw [OL.out]; exact infoOut)) ?_) | (refine wpList_done rfl (exec_store (ty := 36) rfl rfl rfl (by rw [OL.out]; exact there_obj HRC2.out (Nat.le_of_eq out0_size.symm)) (by rw [OL.out]; exact infoOut) outC_one) ?_))
  refine bodyPost_ret (results_row_tmp (P := Try.prog) (fn := Try.f13) rfl _ rfl (range_set HRC2.out (by rw [OL.out]; exact out0_size)) uO rO (by rw [OL.out]; exact infoOut) rfl) rfl ⟨rfl, ?_⟩
  exact F2.out.trans (setCells_fr _ _ _ _) (fun i hi e => by omega)
end
end Go.Proofs.Ytoaefhjmpfchiaa
