/- coin: All. -/
import Derived.Test.YtoaefhjmpfchiaaCoiH
import Derived.Test.YtoaefhjmpfchiaaCoiU
import Derived.Laws.MakeOwn
namespace Go.Proofs.Ytoaefhjmpfchiaa
open Go Go.RowKit Go.Maps Go.MapKept Go.Sort

theorem placesCoin : buildPlaces Try.prog 38 = some (66, [(0, 33), (33, 33)]) := by kernel_rfl
theorem fill_coin {c : CoinD} (hc : c.ok) : FillOk (([(0, 33), (33, 33)] : List (Nat × Nat)).toArray[·]?) 0 [(0, .agg (pointC c.at_).toArray), (1, .agg (outC c.out).toArray)] := by
  have h : (Value.agg (pointC c.at_).toArray).cells.size = 33 := by show (pointC c.at_).toArray.size = 33; simpa using pointC_len hc.1
  have h1 : (Value.agg (outC c.out).toArray).cells.size = 33 := by show (outC c.out).toArray.size = 33; simpa using outC_len hc.2
  simp only [FillOk, h, h1]
  exact ⟨rfl, rfl, trivial⟩
theorem parts_coin (c : CoinD) : partsC [(0, .agg (pointC c.at_).toArray), (1, .agg (outC c.out).toArray)] = coinC c := by
  have h : (Value.agg (pointC c.at_).toArray).cells.toList = pointC c.at_ := by show (pointC c.at_).toArray.toList = _; simp
  have h1 : (Value.agg (outC c.out).toArray).cells.toList = outC c.out := by show (outC c.out).toArray.toList = _; simp
  simp [partsC, coinC, h, h1]
def coinOf (x : PointD × OutD) : CoinD := ⟨x.1, x.2⟩
theorem pairs_perm {M : List (PointD × OutD)} {S : List CoinD} (hm : (M.map (·.1)).Nodup) (hs : ∀ k v, (k, v) ∈ M ↔ (⟨k, v⟩ : CoinD) ∈ S) (srt : SrtC S) : S.Perm (M.map coinOf) := by
  have h1 : (M.map coinOf).Nodup := by
    unfold List.Nodup at *
    rw [List.pairwise_map] at *
    exact hm.imp (fun h e => h (by unfold coinOf at e; injection e))
  have h2 : S.Nodup := by
    have := srt.nodup
    unfold List.Nodup at *
    rw [List.pairwise_map] at this
    exact this.imp (fun h e => h (by rw [e]))
  refine (List.perm_ext_iff_of_nodup h2 h1).2 (fun x => ?_)
  rw [← show (⟨x.at_, x.out⟩ : CoinD) = x from rfl, ← hs]
  constructor
  · intro h
    exact List.mem_map.2 ⟨_, h, rfl⟩
  · intro h
    obtain ⟨y, hy, e⟩ := List.mem_map.1 h
    unfold coinOf at e
    injection e with e1 e2
    rw [← e1, ← e2]
    exact hy
theorem own_no_iter {w : World} {B k n : Nat} {e : TypeId} {v : Value} {xs : List Value} {r b : Nat} {M R : List (PointD × OutD)} (h : w.ownsRow B e k v n xs) (hI : AtIter w r b M R) : ∀ j, v.ownBlock = some j → j ≠ r := by
  obtain ⟨es, clk, seen, -, -, -, -, -, -, h7, -⟩ := hI
  rcases h.2 with ⟨rfl, _⟩ | ⟨g, cap, cur, rfl, _, hg, _⟩
  · intro j hj; cases hj
  · intro j hj e
    simp [Value.ownBlock] at hj
    subst hj e
    rw [hg] at h7
    cases h7
section
variable {w0 w : World} {p : Nat} {V : Nat → Prop} {S : List CoinD}
set_option maxRecDepth 20000 in
set_option maxHeartbeats 4000000 in
theorem all_C (h : CS w0 w p V S) (hN : S.length ≤ 100000) :
    Calls Try.prog 15 #[.pointer (some ⟨p, 0, none⟩)] w fun e w' => ∃ v, e = .returned v ∧ w'.ownsRow w.heap.size 38 66 v S.length (S.flatMap coinC) ∧ Fr No w w' := by
  obtain ⟨dP, uP, rP⟩ := descPoint
  obtain ⟨dO, uO, rO⟩ := descOut
  obtain ⟨m, M, hb, hm, hs, hne, hVe⟩ := h.ex
  have LM := Lib.hid (pairs_len hm hs h.srt)
  have LR := Lib.hid (fun ty => hm.lenRun undAtMap ty)
  obtain ⟨iK, hi, hz, hsz, hby⟩ := info_parts infoCoinZ
  obtain ⟨w2, hmk, ho2, hg2⟩ := run_makeSlice_owned (P := Try.prog) (w := w) w.heap.size 22 38 iK _ 66 undCoins hi hz hsz .i64 .i64 M.length (by rw [LM.out]; omega) (by rw [hby, LM.out]; omega) (by rw [LM.out]; unfold maxLen; omega) (Nat.le_refl _)
  have f2 : Fr No w w2 := Fr.of_grown hg2 (fun k e => by cases e)
  have hm2 := hm.keep f2 id
  obtain ⟨clk, hrng, hit⟩ := hm2.rangeI undAtMap
  have c0 : w.cell? ⟨p, 0, none⟩ = some (.map (some m)) := (blk1 hb).1
  have c2 : w2.cell? ⟨p, 0, none⟩ = some (.map (some m)) := (blk1 (f2.obj hb id)).1
  have HS := Lib.hid hs
  have OKS := Lib.hid (show ∀ x ∈ M, x.1.ok ∧ x.2.ok from fun x hx => h.ok _ ((hs x.1 x.2).1 hx))
  have SRT := Lib.hid h.srt
  have HND := Lib.hid hm.nodup
  have HI0 := Lib.hid hit
  have F0 := Lib.hid (f2.alloc (.mapIter (some m) clk #[] clk))
  have HO0 := Lib.hid (ho2.alloc (.mapIter (some m) clk #[] clk))
  have HSZ := Lib.hid (show w.heap.size ≤ w2.heap.size from f2.size)
  have HSA := Lib.hid (show w2.heap.size < (w2.alloc (.mapIter (some m) clk #[] clk)).heap.size by simp)
  have SOK := Lib.hid h.ok
  have MLT := Lib.hid hm.lt
  have zp := zeroPoint
  have zo := zeroOutC
  clear h hb hm hm2 hs hne hVe hi hz hsz hby ho2 hg2 f2 hit
  go_enter Try.func15, Try.ntmps15
  go_wp2_with (first | (refine wpList_value rfl (exec_len rfl rfl (LR.out _)) ?_) | (refine wpList_range_run rfl rfl rfl hrng ?_))
  generalize hq : w2.heap.size = r at *
  generalize w2.alloc (.mapIter (some m) clk #[] clk) = W at *
  clear hrng hmk LR c0 c2
  try simp only [Act.put, List.setIfInBounds_toArray, List.set_cons_zero, List.set_cons_succ]
  go_loopg [3] M.length (fun n l wr => ∃ (D R : List (PointD × OutD)), (D ++ R).Perm M ∧ R.length = n ∧ AtIter wr r m M R ∧ wr.ownsRow w.heap.size 38 66 l D.length ((D.map coinOf).flatMap coinC) ∧ Fr No w wr)
  case atStart => exact ⟨[], M, List.Perm.refl _, rfl, HI0.out, HO0.out, F0.out⟩
  case round =>
    obtain ⟨D, R, hperm, hm, hI, ho, hfr⟩ := hrel
    cases R with
    | nil =>
      have hnx := hI.stop
      rw [List.append_nil] at hperm
      have hp := pairs_perm HND.out HS.out SRT.out
      have hp2 : S.Perm (D.map coinOf) := hp.trans (hperm.symm.map _)
      have hDl : D.length = S.length := by rw [hp2.length_eq, List.length_map]
      have hsort := sortC_any (H := D.map coinOf) (by rw [List.length_map]; exact ho) (fun c hc => SOK.out c (hp2.mem_iff.2 hc)) hp2 SRT.out (by rw [List.length_map, hDl]; exact hN)
      rw [List.length_map, hDl] at hsort
      have HSORT := Lib.hid hsort
      have FR := Lib.hid hfr
      have HO := Lib.hid ho
      obtain ⟨la, lc, hlv⟩ := ho.slice.arg.form
      rw [hDl] at hlv
      subst hlv
      clear hI ho hperm hm hfr hp hp2 hsort hDl
      go_wp2_with (first | (refine wpList_next_run rfl rfl rfl (hnx _) ?_) | (go_at_call 28; refine HSORT.out.mono ?_; rintro e w5 ⟨rfl, ho5, f5⟩))
      go_ret
      exact ⟨_, rfl, ho5, FR.out.trans f5 (fun i hi e => by have := (HO.out.lt i e).1; omega)⟩
    | cons x0 R0 =>
      obtain ⟨A, x, B, w3, hAB, hnx, hI2, f3, hent⟩ := hI.step (by simp) 0
      have hx : x ∈ M := hperm.subset (by rw [hAB]; simp)
      have XOK := Lib.hid (OKS.out x hx)
      have COK := Lib.hid (show (coinOf x).ok from XOK.out)
      have PL := Lib.hid (pointC_len XOK.out.1)
      have OL := Lib.hid (outC_len XOK.out.2)
      have CL := Lib.hid (coinC_len COK.out)
      have hp2 : ((D ++ [x]) ++ (A ++ B)).Perm M := by
        refine List.Perm.trans ?_ hperm
        rw [hAB, List.append_assoc]
        exact List.Perm.append_left _ (show (x :: (A ++ B)).Perm (A ++ x :: B) from List.perm_middle.symm)
      have hDl : D.length ≤ 100000 := by have := hp2.length_eq; have := LM.out; simp at this ⊢; simp at *; omega
      obtain ⟨t1, t2, t3, t4, t5⟩ := two_blocks w3 (T1 := 27) (T2 := 36) (z1 := (pointC point0).toArray) (z2 := (outC out0).toArray) (c1 := pointC x.1) (c2 := outC x.2) (by rw [PL.out]; rfl) (by rw [OL.out]; exact out0_size)
      have hni := own_no_iter ho hI
      have ho3 := ownsRow_keep (ownsRow_keep ho f3 (fun j e e' => hni j e e')) t5 (fun _ _ => id)
      have hlt := fun j e => ho.lt j e
      have fr4 : Fr No w ((((w3.alloc (.cells (pointC point0).toArray 27)).alloc (.cells (outC out0).toArray 36)).setCells w3.heap.size 0 (pointC x.1)).setCells (w3.heap.size + 1) 0 (outC x.2)) := (hfr.trans f3 (fun i hi e => by have := HSZ.out; omega)).trans0 t5
      obtain ⟨v5, w5, hap, ho5, f5, -, -⟩ := append_blk (P := Try.prog) _ w.heap.size 22 22 38 66 80 _ undCoins infoCoinZ rfl (by decide) ho3 (coinC (coinOf x)) CL.out coinC_one (by omega) (by unfold maxLen; omega) fr4.size
      have HO5 := Lib.hid (show w5.ownsRow w.heap.size 38 66 v5 (D ++ [x]).length (((D ++ [x]).map coinOf).flatMap coinC) by simpa using ho5)
      have HI5 := Lib.hid ((hI2.keep t5 id id).keep f5 (fun e => by have := (hlt m e).1; have := MLT.out; omega) (fun e => hni r e rfl))
      have F5 := Lib.hid (fr4.trans f5 (fun i hi e => by have := (hlt i e).1; omega))
      obtain ⟨la, lc, rfl⟩ := ho.slice.arg.form
      obtain ⟨a5, c5, rfl⟩ := ho5.slice.arg.form
      have HAP := Lib.hid hap
      have HP := Lib.hid hp2
      have HR := Lib.hid (show (A ++ B).length < gk by rw [← hm, hAB]; simp)
      have T1 := Lib.hid t1
      have T2 := Lib.hid t2
      have T3 := Lib.hid t3
      have T4 := Lib.hid t4
      clear hI hI2 ho ho3 ho5 hfr fr4 hx hp2 hDl t1 t2 t3 t4 t5 hap f5 hAB hperm hm f3 hni hlt
      unfold pointV outV at hnx hent
      go_wp2_with (first | refine wpList_next_run rfl rfl rfl hnx ?_ | refine wpList_entry_run rfl rfl rfl hent ?_ | (refine wpList_done rfl (exec_store (ty := 27) (b := w3.heap.size) rfl rfl rfl T1.out (by rw [PL.out]; exact infoPoint) pointC_one) ?_) | (refine wpList_done rfl (exec_store (ty := 36) (b := w3.heap.size + 1) rfl (by show Value.pointer (some ⟨_, 0, none⟩) = _; simp) rfl T2.out (by rw [OL.out]; exact infoOut) outC_one) ?_) | (refine wpList_value rfl (exec_load (ty := 27) rfl rfl T3.out uP rP (by rw [PL.out]; exact infoPoint)) ?_) | (refine wpList_value rfl (exec_load (ty := 36) rfl rfl T4.out uO rO (by rw [OL.out]; exact infoOut)) ?_) | (refine wpList_value rfl (exec_build (t := 38) rfl rfl placesCoin (fill_coin COK.out) (parts_coin (coinOf x)) CL.out) ?_) | (refine wpList_value rfl (exec_buildSliceA (t := 22) rfl rfl undCoins infoCoinZ2 rfl (by decide) (by decide) CL.out) ?_) | (at_builtin; refine wpList_append_run rfl rfl rfl rfl HAP.out ?_))
      go_roundg (A ++ B).length
      case measure => exact HR.out
      case rel => exact ⟨D ++ [x], A ++ B, HP.out, rfl, HI5.out, HO5.out, F5.out⟩
end
end Go.Proofs.Ytoaefhjmpfchiaa
