/- chain: payments; tx: Points, Coins. -/
import Derived.Test.YtmpamcnlineceaaDoorMG23
set_option linter.unusedVariables false
set_option linter.unusedSimpArgs false
set_option linter.unnecessarySimpa false
set_option linter.all false
namespace Go.Proofs.YtmpamcnlineceaaDoor
open Go Go.RowKit Go.Maps Go.MapKept

/-- The coins of an id. -/
def payC (id : HashD) (l : List OutD) : List CoinD := l.mapIdx fun i x => ⟨⟨id, (i : Int)⟩, x⟩
theorem payC_len (id : HashD) (l : List OutD) : (payC id l).length = l.length := by simp [payC]
theorem payC_at (id : HashD) {l : List OutD} {i : Nat} {x : OutD} (h : l[i]? = some x) : (payC id l)[i]? = some ⟨⟨id, (i : Int)⟩, x⟩ := by simp [payC, h]
theorem payC_ok {id : HashD} {l : List OutD} (hi : hashOk id) (hl : ∀ x ∈ l, x.ok) (hn : l.length ≤ 4294967296) : ∀ c ∈ payC id l, c.ok := by
  intro c hc
  obtain ⟨i, hi'⟩ := List.mem_iff_getElem?.1 hc
  have hlt : i < l.length := by have := (List.getElem?_eq_some_iff.1 hi').1; rwa [payC_len] at this
  have hx : l[i]? = some l[i] := List.getElem?_eq_getElem hlt
  rw [payC_at id hx] at hi'
  cases hi'
  exact ⟨⟨hi, by show (0 : Int) ≤ (i : Int); omega, by show (i : Int) ≤ _; omega⟩, hl _ (List.getElem_mem hlt)⟩
theorem placesPt : buildPlaces Tryd.prog 47 = some (33, [(0, 32), (32, 1)]) := by kernel_rfl
theorem fill_pt {h : HashD} (hh : hashOk h) (n : Int) : FillOk (([(0, 32), (32, 1)] : List (Nat × Nat)).toArray[·]?) 0 [(0, .agg (hashC h).toArray), (1, .int .u32 n)] := by
  have h1 : (Value.agg (hashC h).toArray).cells.size = 32 := by show (hashC h).toArray.size = 32; simpa using hashC_len hh
  have h2 : (Value.int .u32 n).cells.size = 1 := rfl
  simp only [FillOk, h1, h2]
  exact ⟨rfl, rfl, trivial⟩
theorem parts_pt (h : HashD) (n : Int) : partsC [(0, .agg (hashC h).toArray), (1, .int .u32 n)] = pointC ⟨h, n⟩ := by
  have h1 : (Value.agg (hashC h).toArray).cells.toList = hashC h := by show (hashC h).toArray.toList = _; simp
  have h2 : (Value.int .u32 n).cells.toList = [.int .u32 n] := rfl
  simp only [partsC, List.flatMap_cons, List.flatMap_nil, h1, h2, pointC, List.append_nil]
  rfl
theorem placesCn : buildPlaces Tryd.prog 57 = some (66, [(0, 33), (33, 33)]) := by kernel_rfl
theorem fill_cn {p : PointD} {o : OutD} (hp : p.ok) (ho : o.ok) : FillOk (([(0, 33), (33, 33)] : List (Nat × Nat)).toArray[·]?) 0 [(0, .agg (pointC p).toArray), (1, .agg (outC o).toArray)] := by
  have h : (Value.agg (pointC p).toArray).cells.size = 33 := by show (pointC p).toArray.size = 33; simpa using pointC_len hp
  have h1 : (Value.agg (outC o).toArray).cells.size = 33 := by show (outC o).toArray.size = 33; simpa using outC_len ho
  simp only [FillOk, h, h1]
  exact ⟨rfl, rfl, trivial⟩
theorem parts_cn (p : PointD) (o : OutD) : partsC [(0, .agg (pointC p).toArray), (1, .agg (outC o).toArray)] = coinC ⟨p, o⟩ := by
  have h : (Value.agg (pointC p).toArray).cells.toList = pointC p := by show (pointC p).toArray.toList = _; simp
  have h1 : (Value.agg (outC o).toArray).cells.toList = outC o := by show (outC o).toArray.toList = _; simp
  simp [partsC, coinC, h, h1]
/-- A row filled up to n, one more. -/
theorem fill_step {α : Type} (f : α → List Value) {k : Nat} {A : List α} {xs : List Value} {n : Nat} {y : α} (hy : A[n]? = some y) (hl : (f y).length = k) (hx : xs.take (n * k) = (A.take n).flatMap f) (hn : n * k + k ≤ xs.length) :
    (setM xs (n * k) (f y)).take ((n + 1) * k) = (A.take (n + 1)).flatMap f := by
  have h1 := setM_pre xs (f y) (n * k) (by rw [hl]; exact hn)
  rw [hl] at h1
  rw [show (n + 1) * k = n * k + k by rw [Nat.add_mul, Nat.one_mul], h1, hx, List.take_add_one, hy]
  simp
set_option maxRecDepth 20000 in
set_option maxHeartbeats 8000000 in
theorem payments_any (w : World) {id : HashD} (hi : hashOk id) {v : Value} {l : List OutD} (hl : OutsIs w v l) (hN : l.length ≤ 1000) :
    Calls Tryd.prog 36 #[.agg (hashC id).toArray, v] w fun e w' => ∃ v', e = .returned v' ∧ w'.ownsRow w.heap.size 57 66 v' l.length ((payC id l).flatMap coinC) ∧ Fr No w w' := by
  obtain ⟨dO, uO, rO⟩ := descOut
  obtain ⟨dH, uH, rH⟩ := descHash
  obtain ⟨iK, hiK, hz, hsz, hby⟩ := info_parts infoCoinZ
  have zo := zeroOutC
  have F1 := (Fr.refl No w).alloc (.cells (hashC id).toArray 45)
  have hs1 : (w.alloc (.cells (hashC id).toArray 45)).heap.size = w.heap.size + 1 := by simp
  obtain ⟨w2, hmk, ho2, hg2⟩ := run_makeSlice_full (P := Tryd.prog) (w := w.alloc (.cells (hashC id).toArray 45)) (w.heap.size) 51 57 iK _ 66 undCoins hiK hz hsz .i64 .i64 l.length (by omega) (by rw [hby]; omega) (by unfold maxLen; omega) (by simp)
  have f12 : Fr No (w.alloc (.cells (hashC id).toArray 45)) w2 := Fr.of_grown hg2 (fun k e => by cases e)
  have F2 := Lib.hid (F1.trans0 f12)
  have HB2 := Lib.hid (f12.obj (new_obj w (.cells (hashC id).toArray 45)) _root_.id)
  rw [hs1] at hmk ho2
  have HO0 := Lib.hid ho2
  have HL := Lib.hid hl
  have IOK := Lib.hid hi
  have HHL := Lib.hid (hashC_len hi)
  obtain ⟨va, vc, rfl⟩ := hl.2.form
  have SZ2 := Lib.hid (show w.heap.size + 1 < w2.heap.size from (ho2.lt _ rfl).2)
  clear hi hl hiK hz hsz hby ho2 hg2 f12 hs1
  go_enter Tryd.func36, Tryd.ntmps36
  go_wp2_with fail
  clear hmk
  obtain ⟨g, hgd⟩ : ∃ g, g = w.heap.size + 1 := ⟨_, rfl⟩
  have G0 := Lib.hid hgd
  rw [← hgd] at HO0 SZ2 ⊢
  clear hgd
  go_loopw [13] (fun iv wr => ∃ (n : Nat) (xs : List Value), iv = .int .i64 n ∧ n ≤ l.length ∧ wr.ownsRow (w.heap.size) 57 66 (.slice (some ⟨g, 0, none⟩) l.length l.length) l.length xs ∧ xs.take (n * 66) = ((payC id l).take n).flatMap coinC ∧ Fr No w wr ∧ g < wr.heap.size ∧ wr.heap[w.heap.size]? = some (.cells (hashC id).toArray 45 (0, 0))) (fun iv _ => l.length - (intOf iv).toNat)
  case atStart => exact ⟨0, _, rfl, Nat.zero_le _, HO0.out, by simp, F2.out, SZ2.out, HB2.out⟩
  case round =>
    obtain ⟨n, xs, rfl, hn, hor, hxs, fr, hsz, hbh⟩ := hrel
    have FR := Lib.hid fr
    have HOR := Lib.hid hor
    have HXS := Lib.hid hxs
    have HSZ := Lib.hid hsz
    have HBH := Lib.hid hbh
    clear fr hor hxs hsz hbh
    by_cases hlt : n < l.length
    · have i1 : (n : Int) < (l.length : Int) := by omega
      obtain ⟨x, hx⟩ : ∃ x, l[n]? = some x := ⟨_, List.getElem?_eq_getElem hlt⟩
      obtain ⟨b, off, cap, hv, hr, -⟩ := (HL.out.keep FR.out).at_ hx
      cases hv
      have XOK := Lib.hid (HL.out.1 x (List.mem_of_getElem? hx))
      have IL := Lib.hid (outC_len XOK.out)
      have R1 := Lib.hid hr
      have POK := Lib.hid (show (⟨id, (n : Int)⟩ : PointD).ok from ⟨IOK.out, by show (0 : Int) ≤ (n : Int); omega, by show (n : Int) ≤ _; omega⟩)
      have HX := Lib.hid (payC_at id hx)
      have CL := Lib.hid (show (coinC ⟨⟨id, (n : Int)⟩, x⟩).length = 66 from coinC_len ⟨POK.out, XOK.out⟩)
      have PL := Lib.hid (pointC_len POK.out)
      have e32 : (n : Int) % 4294967296 = (n : Int) := by omega
      have fA := (Fr.refl No wr).alloc (.cells (outC x).toArray 55)
      have FA := Lib.hid fA
      have RO := Lib.hid (range_new wr (outC x) 55)
      have RH := Lib.hid (show (wr.alloc (.cells (outC x).toArray 55)).rangeAt (w.heap.size) 0 (hashC id) from range_keep (range_obj HBH.out) fA (fun h => h))
      have HO5 := Lib.hid (ownsRow_keep HOR.out fA (fun _ _ => _root_.id))
      have TH := Lib.hid (own_there HO5.out hlt)
      have HO6 := Lib.hid (own_setAt HO5.out (n * 66) (cs := coinC ⟨⟨id, (n : Int)⟩, x⟩) (by rw [CL.out]; omega))
      have HXN := Lib.hid (fill_step coinC HX.out CL.out HXS.out (by rw [HOR.out.1]; omega))
      clear hr hx fA
      have K0 := Lib.hid True.intro
      have K1 := Lib.hid True.intro
      have K2 := Lib.hid True.intro
      have K3 := Lib.hid True.intro
      have K4 := Lib.hid True.intro
      have K5 := Lib.hid True.intro
      have K6 := Lib.hid True.intro
      go_wp2_with (first | ((with_reducible refine at_list ?_); have mk := K0.out; refine wpList_value rfl (exec_load (ty := 55) rfl rfl R1.out uO rO (by rw [IL.out]; exact infoOut)) ?_; go_frame; clear mk K0) | ((with_reducible refine at_store ?_); have mk := K1.out; refine wpList_done rfl (exec_store_new (w := wr) (ty := 55) (cs := outC x) rfl rfl rfl (by rw [IL.out]; rfl) (by rw [IL.out]; exact infoOut) outC_one) ?_; generalize wr.alloc (.cells (outC x).toArray 55) = wA at *; go_frame; clear mk K1) | ((with_reducible refine at_list ?_); have mk := K2.out; refine wpList_value rfl (exec_load (ty := 45) rfl rfl RH.out uH rH (by rw [HHL.out]; exact infoHash)) ?_; go_frame; clear mk K2) | ((with_reducible refine at_list ?_); have mk := K3.out; refine wpList_value rfl (exec_build (t := 47) (vs := [(0, .agg (hashC id).toArray), (1, .int .u32 n)]) rfl (by simp [Act.eval, e32]) placesPt (fill_pt IOK.out n) (parts_pt id n) (by rw [PL.out])) ?_; go_frame; clear mk K3) | ((with_reducible refine at_list ?_); have mk := K4.out; refine wpList_value rfl (exec_load (ty := 55) rfl rfl RO.out uO rO (by rw [IL.out]; exact infoOut)) ?_; go_frame; clear mk K4) | ((with_reducible refine at_list ?_); have mk := K5.out; refine wpList_value rfl (exec_build (t := 57) (vs := [(0, .agg (pointC ⟨id, (n : Int)⟩).toArray), (1, .agg (outC x).toArray)]) rfl rfl placesCn (fill_cn POK.out XOK.out) (parts_cn _ _) (by rw [CL.out])) ?_; go_frame; clear mk K5) | ((with_reducible refine at_store ?_); have mk := K6.out; refine wpList_done rfl (exec_store (ty := 57) (b := g) (off := n * 66) (cs := coinC ⟨⟨id, (n : Int)⟩, x⟩) rfl rfl rfl (by rw [CL.out]; exact TH.out) (by rw [CL.out]; exact infoCoin) coinC_one) ?_; go_frame; clear mk K6))
      go_roundw
      case rel => exact ⟨n + 1, _, by go_num, by omega, HO6.out, HXN.out, (FR.out.trans0 FA.out).trans (setCells_fr _ _ _ _) (fun i hi e => by have := G0.out; omega), by have := (setCells_fr g (coinC ⟨⟨id, (n : Int)⟩, x⟩) (n * 66) wA).size; have := FA.out.size; have := HSZ.out; omega, (setCells_fr g (coinC ⟨⟨id, (n : Int)⟩, x⟩) (n * 66) wA).obj (FA.out.obj HBH.out _root_.id) (fun e => by have := G0.out; omega)⟩
      case measure => simp [intOf]; omega
    · have hne : n = l.length := by omega
      have i1 : ¬ (n : Int) < (l.length : Int) := by omega
      have HE := Lib.hid (show xs = (payC id l).flatMap coinC by
        have := HXS.out
        rw [hne, List.take_of_length_le (by rw [HOR.out.1]; exact Nat.le_refl _), List.take_of_length_le (by rw [payC_len]; exact Nat.le_refl _)] at this
        exact this)
      go_wp2
      go_ret
      exact ⟨_, rfl, by rw [← HE.out]; exact HOR.out, FR.out⟩
def ptsD (t : TxD) : List PointD := t.ins.map (·.from_)
set_option maxRecDepth 20000 in
set_option maxHeartbeats 8000000 in
theorem points_any (w : World) {t : TxD} {cs : List Value} (ht : TxQ w t cs) (hN : t.ins.length ≤ 1000) :
    Calls Tryd.prog 26 #[.agg cs.toArray] w fun e w' => ∃ v', e = .returned v' ∧ w'.ownsRow w.heap.size 47 33 v' t.ins.length ((ptsD t).flatMap pointC) ∧ Fr No w w' := by
  obtain ⟨ia, ic, oa, oc, rfl, -, hi, -⟩ := ht
  obtain ⟨dI, uI, rI⟩ := descIn
  obtain ⟨dP, uP, rP⟩ := descPoint
  obtain ⟨iK, hiK, hz, hsz, hby⟩ := info_parts infoPointZ
  have zI := zeroIn1
  have F1 := (Fr.refl No w).alloc (.cells #[.int .u32 t.ver, .slice ia t.ins.length ic, .slice oa t.outs.length oc] 41)
  have hs1 : (w.alloc (.cells #[.int .u32 t.ver, .slice ia t.ins.length ic, .slice oa t.outs.length oc] 41)).heap.size = w.heap.size + 1 := by simp
  obtain ⟨w2, hmk, ho2, hg2⟩ := run_makeSlice_full (P := Tryd.prog) (w := w.alloc (.cells #[.int .u32 t.ver, .slice ia t.ins.length ic, .slice oa t.outs.length oc] 41)) (w.heap.size) 75 47 iK _ 33 undPoints hiK hz hsz .i64 .i64 t.ins.length (by omega) (by rw [hby]; omega) (by unfold maxLen; omega) (by simp)
  have f12 : Fr No (w.alloc (.cells #[.int .u32 t.ver, .slice ia t.ins.length ic, .slice oa t.outs.length oc] 41)) w2 := Fr.of_grown hg2 (fun k e => by cases e)
  have F2 := Lib.hid (F1.trans0 f12)
  obtain ⟨c0, c1, -, -⟩ := tx_new w t.ver (.slice ia t.ins.length ic) (.slice oa t.outs.length oc)
  have c1' := f12.cell c1 _root_.id
  rw [hs1] at hmk ho2
  have HO0 := Lib.hid ho2
  have HI := Lib.hid hi
  have SZ2 := Lib.hid (show w.heap.size + 1 < w2.heap.size from (ho2.lt _ rfl).2)
  clear hi hiK hz hsz hby ho2 hg2 f12 hs1
  show Calls Tryd.prog 26 #[.agg #[.int .u32 t.ver, .slice ia t.ins.length ic, .slice oa t.outs.length oc]] w _
  go_enter Tryd.func26, Tryd.ntmps26
  go_wp2_with fail
  clear hmk c0 c1 c1'
  obtain ⟨g, hgd⟩ : ∃ g, g = w.heap.size + 1 := ⟨_, rfl⟩
  have G0 := Lib.hid hgd
  rw [← hgd] at HO0 SZ2 ⊢
  clear hgd
  go_loopw [13] (fun iv wr => ∃ (n : Nat) (xs : List Value), iv = .int .i64 n ∧ n ≤ t.ins.length ∧ wr.ownsRow (w.heap.size) 47 33 (.slice (some ⟨g, 0, none⟩) t.ins.length t.ins.length) t.ins.length xs ∧ xs.take (n * 33) = ((ptsD t).take n).flatMap pointC ∧ Fr No w wr ∧ g < wr.heap.size) (fun iv _ => t.ins.length - (intOf iv).toNat)
  case atStart => exact ⟨0, _, rfl, Nat.zero_le _, HO0.out, by simp, F2.out, SZ2.out⟩
  case round =>
    obtain ⟨n, xs, rfl, hn, hor, hxs, fr, hsz⟩ := hrel
    have FR := Lib.hid fr
    have HOR := Lib.hid hor
    have HXS := Lib.hid hxs
    have HSZ := Lib.hid hsz
    clear fr hor hxs hsz
    by_cases hlt : n < t.ins.length
    · have i1 : (n : Int) < (t.ins.length : Int) := by omega
      obtain ⟨x, hx⟩ : ∃ x, t.ins[n]? = some x := ⟨_, List.getElem?_eq_getElem hlt⟩
      obtain ⟨b, off, cap, cs, hv, hr, ka, kc, rfl, pok, hkey⟩ := (HI.out.keep0 FR.out).at_ hx
      cases hv
      have R1 := Lib.hid hr
      have POK := Lib.hid pok
      have IL := Lib.hid (inC_len pok (.slice ka x.key.length kc))
      have HX := Lib.hid (show (ptsD t)[n]? = some x.from_ by simp [ptsD, hx])
      have CL := Lib.hid (pointC_len POK.out)
      have fA := (Fr.refl No wr).alloc (.cells (inC x.from_ (.slice ka x.key.length kc)).toArray 50)
      have FA := Lib.hid fA
      have RP := Lib.hid (in_new wr (kv := .slice ka x.key.length kc) pok).1
      have HO5 := Lib.hid (ownsRow_keep HOR.out fA (fun _ _ => _root_.id))
      have TH := Lib.hid (own_there HO5.out hlt)
      have HO6 := Lib.hid (own_setAt HO5.out (n * 33) (cs := pointC x.from_) (by rw [CL.out]; omega))
      have HXN := Lib.hid (fill_step pointC HX.out CL.out HXS.out (by rw [HOR.out.1]; omega))
      clear hr hx fA hkey pok
      have K0 := Lib.hid True.intro
      have K1 := Lib.hid True.intro
      have K2 := Lib.hid True.intro
      have K3 := Lib.hid True.intro
      go_wp2_with (first | ((with_reducible refine at_list ?_); have mk := K0.out; refine wpList_value rfl (exec_load (ty := 50) rfl rfl R1.out uI rI (by rw [IL.out]; exact infoIn)) ?_; go_frame; clear mk K0) | ((with_reducible refine at_store ?_); have mk := K1.out; refine wpList_done rfl (exec_store_new (w := wr) (ty := 50) (cs := inC x.from_ (.slice ka x.key.length kc)) rfl rfl rfl (by rw [IL.out]; rfl) (by rw [IL.out]; exact infoIn) inC_one) ?_; generalize wr.alloc (.cells (inC x.from_ (.slice ka x.key.length kc)).toArray 50) = wA at *; go_frame; clear mk K1) | ((with_reducible refine at_list ?_); have mk := K2.out; refine wpList_value rfl (exec_load (ty := 47) rfl rfl RP.out uP rP (by rw [CL.out]; exact infoPoint)) ?_; go_frame; clear mk K2) | ((with_reducible refine at_store ?_); have mk := K3.out; refine wpList_done rfl (exec_store (ty := 47) (b := g) (off := n * 33) (cs := pointC x.from_) rfl rfl rfl (by rw [CL.out]; exact TH.out) (by rw [CL.out]; exact infoPoint) pointC_one) ?_; go_frame; clear mk K3))
      go_roundw
      case rel => exact ⟨n + 1, _, by go_num, by omega, HO6.out, HXN.out, (FR.out.trans0 FA.out).trans (setCells_fr _ _ _ _) (fun i hi e => by have := G0.out; omega), by have := (setCells_fr g (pointC x.from_) (n * 33) wA).size; have := FA.out.size; have := HSZ.out; omega⟩
      case measure => simp [intOf]; omega
    · have hne : n = t.ins.length := by omega
      have i1 : ¬ (n : Int) < (t.ins.length : Int) := by omega
      have HE := Lib.hid (show xs = (ptsD t).flatMap pointC by
        have := HXS.out
        rw [hne, List.take_of_length_le (by rw [HOR.out.1]; exact Nat.le_refl _), List.take_of_length_le (by simp [ptsD])] at this
        exact this)
      go_wp2
      go_ret
      exact ⟨_, rfl, by rw [← HE.out]; exact HOR.out, FR.out⟩
def CoinsOk (w : World) (t : TxD) (e : Ending) (w' : World) : Prop := ∃ v, e = .returned (.tuple #[v, .int .i64 (idE t)]) ∧ Fr No w w' ∧ (if formB t = true then w'.ownsRow w.heap.size 57 66 v t.outs.length ((payC (idH t) t.outs).flatMap coinC) else v = .slice none 0 0)
set_option maxRecDepth 20000 in
set_option maxHeartbeats 8000000 in
theorem coins_any {w : World} (hg : ShaW w) {t : TxD} {cs : List Value} (ht : TxQ w t cs) :
    Calls Tryd.prog 16 #[.agg cs.toArray] w (CoinsOk w t) := by
  have HT := Lib.hid ht
  have oks := ht.oks
  obtain ⟨ia, ic, oa, oc, rfl, hv, -, ho⟩ := ht
  obtain ⟨dO, uO, rO⟩ := descOut
  obtain ⟨dH, uH, rH⟩ := descHash
  obtain ⟨dT, uT, rT⟩ := descTx
  have zo := zeroOutC
  have zH := zeroHash
  have F1 := Lib.hid ((Fr.refl No w).alloc (.cells #[.int .u32 t.ver, .slice ia t.ins.length ic, .slice oa t.outs.length oc] 41))
  have HS1 := Lib.hid (show (w.alloc (.cells #[.int .u32 t.ver, .slice ia t.ins.length ic, .slice oa t.outs.length oc] 41)).heap.size = w.heap.size + 1 by simp)
  obtain ⟨c0, c1, c2, r0⟩ := tx_new w t.ver (.slice ia t.ins.length ic) (.slice oa t.outs.length oc)
  have R0 := Lib.hid r0
  have C2 := Lib.hid c2
  have HC := Lib.hid (id_any (hg.keep0 F1.out) (HT.out.keep F1.out))
  have HHL := Lib.hid (hashC_len (idH_ok t))
  have IOK := Lib.hid (idH_ok t)
  have HL0 := Lib.hid ho
  clear ho hv c0 c1 c2 r0
  show Calls Tryd.prog 16 #[.agg #[.int .u32 t.ver, .slice ia t.ins.length ic, .slice oa t.outs.length oc]] w _
  by_cases hfm : formB t = true
  rotate_left
  · have hfm2 : formB t = false := by simpa using hfm
    have he : idE t = 5 := by simp [idE, hfm2]
    have HP := Lib.hid (show ∀ w', Fr No w w' → CoinsOk w t (.returned (.tuple #[.slice none 0 0, .int .i64 5])) w' from fun w' f => ⟨.slice none 0 0, by rw [he], f, by rw [hfm2]; rfl⟩)
    rw [he] at HC
    clear hfm hfm2 he
    generalize idH t = id at *
    go_enter Tryd.func16, Tryd.ntmps16
    have K0 := Lib.hid True.intro
    have K1 := Lib.hid True.intro
    have K2 := Lib.hid True.intro
    go_wp2_with (first | ((with_reducible refine at_list ?_); have mk := K0.out; refine wpList_value rfl (exec_load (ty := 41) rfl rfl R0.out uT rT infoTx) ?_; generalize w.alloc (.cells #[.int .u32 t.ver, .slice ia t.ins.length ic, .slice oa t.outs.length oc] 41) = w1 at *; go_frame; clear mk K0) | (have mk := K1.out; go_at_call 22; refine HC.out.mono ?_; rintro e w2 ⟨rfl, f2⟩; have F2 := Lib.hid (F1.out.trans0 f2); clear f2; have F3 := Lib.hid (show Fr No w2 (w2.alloc (.cells (hashC id).toArray 45)) from (Fr.refl No w2).alloc _); go_frame; clear mk K1) | ((with_reducible refine at_store ?_); have mk := K2.out; refine wpList_done rfl (exec_store_new (w := w2) (ty := 45) (cs := hashC id) rfl rfl rfl (by rw [HHL.out]; rfl) (by rw [HHL.out]; exact infoHash) hashC_one) ?_; go_frame; clear mk K2))
    go_ret2
    exact HP.out _ (F2.out.trans0 F3.out)
  · have he : idE t = 0 := by simp [idE, hfm]
    have hol : t.outs.length ≤ 8 := (formB_iff.1 hfm).2.2
    obtain ⟨l, hl⟩ : ∃ l, l = t.outs := ⟨_, rfl⟩
    have HP := Lib.hid (show ∀ v w', Fr No w w' → w'.ownsRow w.heap.size 57 66 v l.length ((payC (idH t) l).flatMap coinC) → CoinsOk w t (.returned (.tuple #[v, .int .i64 0])) w' from fun v w' f h => ⟨v, by rw [he], f, by rw [if_pos hfm, ← hl]; exact h⟩)
    rw [he] at HC
    rw [← hl] at hol R0 C2 HC HL0 F1 HS1 ⊢
    clear hl
    clear hfm he
    generalize idH t = id at *
    go_enter Tryd.func16, Tryd.ntmps16
    have HL := Lib.hid HL0.out
    obtain ⟨iK, hiK, hz, hsz, hby⟩ := info_parts infoCoinZ
    have MK := Lib.hid (fun (w3 : World) => run_makeSlice_full (P := Tryd.prog) (w := w3) w3.heap.size 51 57 iK _ 66 undCoins hiK hz hsz .i64 .i64 l.length (by omega) (by rw [hby]; omega) (by unfold maxLen; omega) (Nat.le_refl _))
    clear hiK hz hsz hby
    have K0 := Lib.hid True.intro
    have K1 := Lib.hid True.intro
    have K2 := Lib.hid True.intro
    go_wp2_with (first | ((with_reducible refine at_list ?_); have mk := K0.out; refine wpList_value rfl (exec_load (ty := 41) rfl rfl R0.out uT rT infoTx) ?_; generalize w.alloc (.cells #[.int .u32 t.ver, .slice ia t.ins.length ic, .slice oa l.length oc] 41) = w1 at *; go_frame; clear mk K0) | (have mk := K1.out; go_at_call 22; refine HC.out.mono ?_; rintro e w2 ⟨rfl, f2⟩; have F2 := Lib.hid (F1.out.trans0 f2); have HS2 := Lib.hid f2.size; have C22 := Lib.hid (f2.cell C2.out _root_.id); clear f2; go_frame; clear mk K1) | ((with_reducible refine at_store ?_); have mk := K2.out; refine wpList_done rfl (exec_store_new (w := w2) (ty := 45) (cs := hashC id) rfl rfl rfl (by rw [HHL.out]; rfl) (by rw [HHL.out]; exact infoHash) hashC_one) ?_; have F3 := Lib.hid (show Fr No w2 (w2.alloc (.cells (hashC id).toArray 45)) from (Fr.refl No w2).alloc _); have HB3 := Lib.hid (new_obj w2 (.cells (hashC id).toArray 45)); have HS3 := Lib.hid (show (w2.alloc (.cells (hashC id).toArray 45)).heap.size = w2.heap.size + 1 by simp); generalize w2.alloc (.cells (hashC id).toArray 45) = w3 at *; generalize w2.heap.size = q3 at *; obtain ⟨w4, hmk, ho4, hg4⟩ := MK.out w3; have f34 : Fr No w3 w4 := Fr.of_grown hg4 (fun k e => by cases e); have F4 := Lib.hid f34; rw [HS3.out] at hmk ho4; have HO4 := Lib.hid ho4; have c2 := F3.out.cell C22.out _root_.id; have c2' := f34.cell c2 _root_.id; clear hg4 ho4 f34; go_frame; clear mk K2))
    clear hmk c2 c2'
    obtain ⟨g, hgd⟩ : ∃ g, g = q3 + 1 := ⟨_, rfl⟩
    have G0 := Lib.hid (show g = q3 + 1 ∧ w.heap.size + 1 ≤ q3 from ⟨hgd, by have := HS1.out; have := HS2.out; omega⟩)
    rw [← hgd] at HO4 ⊢
    have SZ2 := Lib.hid (show g < w4.heap.size from (HO4.out.lt _ rfl).2)
    have HO0 := Lib.hid (own_mono HO4.out (show w.heap.size ≤ g by have := G0.out; omega))
    have HB2 := Lib.hid (F4.out.obj HB3.out _root_.id)
    have FF := Lib.hid ((F2.out.trans0 F3.out).trans0 F4.out)
    clear hgd F2 F3 F4
    have F2 := Lib.hid FF.out
    go_loopw [24] (fun iv wr => ∃ (n : Nat) (xs : List Value), iv = .int .i64 n ∧ n ≤ l.length ∧ wr.ownsRow (w.heap.size) 57 66 (.slice (some ⟨g, 0, none⟩) l.length l.length) l.length xs ∧ xs.take (n * 66) = ((payC id l).take n).flatMap coinC ∧ Fr No w wr ∧ g < wr.heap.size ∧ wr.heap[q3]? = some (.cells (hashC id).toArray 45 (0, 0))) (fun iv _ => l.length - (intOf iv).toNat)
    case atStart => exact ⟨0, _, rfl, Nat.zero_le _, HO0.out, by simp, F2.out, SZ2.out, HB2.out⟩
    case round =>
      obtain ⟨n, xs, rfl, hn, hor, hxs, fr, hsz, hbh⟩ := hrel
      have FR := Lib.hid fr
      have HOR := Lib.hid hor
      have HXS := Lib.hid hxs
      have HSZ := Lib.hid hsz
      have HBH := Lib.hid hbh
      clear fr hor hxs hsz hbh
      by_cases hlt : n < l.length
      · have i1 : (n : Int) < (l.length : Int) := by omega
        obtain ⟨x, hx⟩ : ∃ x, l[n]? = some x := ⟨_, List.getElem?_eq_getElem hlt⟩
        obtain ⟨b, off, cap, hv, hr, -⟩ := (HL.out.keep FR.out).at_ hx
        cases hv
        have XOK := Lib.hid (HL.out.1 x (List.mem_of_getElem? hx))
        have IL := Lib.hid (outC_len XOK.out)
        have R1 := Lib.hid hr
        have POK := Lib.hid (show (⟨id, (n : Int)⟩ : PointD).ok from ⟨IOK.out, by show (0 : Int) ≤ (n : Int); omega, by show (n : Int) ≤ _; omega⟩)
        have HX := Lib.hid (payC_at id hx)
        have CL := Lib.hid (show (coinC ⟨⟨id, (n : Int)⟩, x⟩).length = 66 from coinC_len ⟨POK.out, XOK.out⟩)
        have PL := Lib.hid (pointC_len POK.out)
        have e32 : (n : Int) % 4294967296 = (n : Int) := by omega
        have fA := (Fr.refl No wr).alloc (.cells (outC x).toArray 55)
        have FA := Lib.hid fA
        have RO := Lib.hid (range_new wr (outC x) 55)
        have RH := Lib.hid (show (wr.alloc (.cells (outC x).toArray 55)).rangeAt (q3) 0 (hashC id) from range_keep (range_obj HBH.out) fA (fun h => h))
        have HO5 := Lib.hid (ownsRow_keep HOR.out fA (fun _ _ => _root_.id))
        have TH := Lib.hid (own_there HO5.out hlt)
        have HO6 := Lib.hid (own_setAt HO5.out (n * 66) (cs := coinC ⟨⟨id, (n : Int)⟩, x⟩) (by rw [CL.out]; omega))
        have HXN := Lib.hid (fill_step coinC HX.out CL.out HXS.out (by rw [HOR.out.1]; omega))
        clear hr hx fA
        have K0 := Lib.hid True.intro
        have K1 := Lib.hid True.intro
        have K2 := Lib.hid True.intro
        have K3 := Lib.hid True.intro
        have K4 := Lib.hid True.intro
        have K5 := Lib.hid True.intro
        have K6 := Lib.hid True.intro
        go_wp2_with (first | ((with_reducible refine at_list ?_); have mk := K0.out; refine wpList_value rfl (exec_load (ty := 55) rfl rfl R1.out uO rO (by rw [IL.out]; exact infoOut)) ?_; go_frame; clear mk K0) | ((with_reducible refine at_store ?_); have mk := K1.out; refine wpList_done rfl (exec_store_new (w := wr) (ty := 55) (cs := outC x) rfl rfl rfl (by rw [IL.out]; rfl) (by rw [IL.out]; exact infoOut) outC_one) ?_; generalize wr.alloc (.cells (outC x).toArray 55) = wA at *; go_frame; clear mk K1) | ((with_reducible refine at_list ?_); have mk := K2.out; refine wpList_value rfl (exec_load (ty := 45) rfl rfl RH.out uH rH (by rw [HHL.out]; exact infoHash)) ?_; go_frame; clear mk K2) | ((with_reducible refine at_list ?_); have mk := K3.out; refine wpList_value rfl (exec_build (t := 47) (vs := [(0, .agg (hashC id).toArray), (1, .int .u32 n)]) rfl (by simp [Act.eval, e32]) placesPt (fill_pt IOK.out n) (parts_pt id n) (by rw [PL.out])) ?_; go_frame; clear mk K3) | ((with_reducible refine at_list ?_); have mk := K4.out; refine wpList_value rfl (exec_load (ty := 55) rfl rfl RO.out uO rO (by rw [IL.out]; exact infoOut)) ?_; go_frame; clear mk K4) | ((with_reducible refine at_list ?_); have mk := K5.out; refine wpList_value rfl (exec_build (t := 57) (vs := [(0, .agg (pointC ⟨id, (n : Int)⟩).toArray), (1, .agg (outC x).toArray)]) rfl rfl placesCn (fill_cn POK.out XOK.out) (parts_cn _ _) (by rw [CL.out])) ?_; go_frame; clear mk K5) | ((with_reducible refine at_store ?_); have mk := K6.out; refine wpList_done rfl (exec_store (ty := 57) (b := g) (off := n * 66) (cs := coinC ⟨⟨id, (n : Int)⟩, x⟩) rfl rfl rfl (by rw [CL.out]; exact TH.out) (by rw [CL.out]; exact infoCoin) coinC_one) ?_; go_frame; clear mk K6))
        go_roundw
        case rel => exact ⟨n + 1, _, by go_num, by omega, HO6.out, HXN.out, (FR.out.trans0 FA.out).trans (setCells_fr _ _ _ _) (fun i hi e => by have := G0.out; omega), by have := (setCells_fr g (coinC ⟨⟨id, (n : Int)⟩, x⟩) (n * 66) wA).size; have := FA.out.size; have := HSZ.out; omega, (setCells_fr g (coinC ⟨⟨id, (n : Int)⟩, x⟩) (n * 66) wA).obj (FA.out.obj HBH.out _root_.id) (fun e => by have := G0.out; omega)⟩
        case measure => simp [intOf]; omega
      · have hne : n = l.length := by omega
        have i1 : ¬ (n : Int) < (l.length : Int) := by omega
        have HE := Lib.hid (show xs = (payC id l).flatMap coinC by
          have := HXS.out
          rw [hne, List.take_of_length_le (by rw [HOR.out.1]; exact Nat.le_refl _), List.take_of_length_le (by rw [payC_len]; exact Nat.le_refl _)] at this
          exact this)
        have HF2 := Lib.hid (HP.out _ wr FR.out (by rw [← HE.out]; exact HOR.out))
        go_wp2
        go_ret2
        exact HF2.out
end Go.Proofs.YtmpamcnlineceaaDoor
