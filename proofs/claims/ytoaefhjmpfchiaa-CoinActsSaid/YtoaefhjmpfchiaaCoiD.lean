/- pappusref09: Below, Ats, Twice. -/
import Derived.Test.YtoaefhjmpfchiaaCoiN
import Derived.Test.YtoaefhjmpfchiaaSortK
namespace Go.Proofs.Ytoaefhjmpfchiaa
open Go Go.RowKit Go.Maps Go.MapKept

theorem cmpI_pre : ∀ {i : Nat} {a b : List Int} {x y : Int}, a.take i = b.take i → a[i]? = some x → b[i]? = some y → x ≠ y → cmpI a b = if x < y then -1 else 1
  | 0, [], _, _, _, _, h, _, _ => by simp at h
  | 0, _ :: _, [], _, _, _, _, h, _ => by simp at h
  | 0, x' :: a, y' :: b, x, y, _, h1, h2, hne => by
    simp at h1 h2
    subst h1 h2
    unfold cmpI
    by_cases h : x' < y'
    · simp [h]
    · rw [if_neg h, if_neg h, if_pos (by omega)]
  | i + 1, [], _, _, _, _, h, _, _ => by simp at h
  | i + 1, _ :: _, [], _, _, _, _, h, _ => by simp at h
  | i + 1, x' :: a, y' :: b, x, y, h, h1, h2, hne => by
    simp only [List.take_succ_cons, List.cons.injEq] at h
    obtain ⟨rfl, h⟩ := h
    unfold cmpI
    rw [if_neg (by omega), if_neg (by omega)]
    exact cmpI_pre h (by simpa using h1) (by simpa using h2) hne
theorem ptLt_pre {a b : PointD} {i : Nat} {x y : Int} (h : a.tx.take i = b.tx.take i) (h1 : a.tx[i]? = some x) (h2 : b.tx[i]? = some y) (hne : x ≠ y) : ptLt a b = decide (x < y) := by
  unfold ptLt cmpPt
  rw [cmpI_pre h h1 h2 hne]
  by_cases hl : x < y <;> simp [hl]
theorem ptLt_same {a b : PointD} (h : a.tx = b.tx) : ptLt a b = decide (a.n < b.n) := by
  unfold ptLt cmpPt
  rw [h, cmpI_self, if_pos rfl]
  unfold cmpN
  by_cases hl : a.n < b.n
  · simp [hl]
  · by_cases hg : b.n < a.n <;> simp [hl, hg]

set_option maxRecDepth 20000 in
set_option maxHeartbeats 2000000 in
theorem below_any (w : World) {a b : PointD} (ha : a.ok) (hb : b.ok) :
    Calls Try.prog 16 #[.agg (pointC a).toArray, .agg (pointC b).toArray] w fun e w' => e = .returned (.bool (ptLt a b)) ∧ Fr No w w' := by
  have ra : ((w.alloc (.cells (pointC a).toArray 27)).alloc (.cells (pointC b).toArray 27)).rangeAt w.heap.size 0 (pointC a) := range_keep (range_new w (pointC a) 27) ((Fr.refl No _).alloc _) id
  have rb : ((w.alloc (.cells (pointC a).toArray 27)).alloc (.cells (pointC b).toArray 27)).rangeAt (w.heap.size + 1) 0 (pointC b) := by
    have := range_new (w.alloc (.cells (pointC a).toArray 27)) (pointC b) 27
    simpa using this
  have F1 := Lib.hid (show Fr No w ((w.alloc (.cells (pointC a).toArray 27)).alloc (.cells (pointC b).toArray 27)) from ((Fr.refl No w).alloc _).alloc _)
  have RA := Lib.hid ra
  have RB := Lib.hid rb
  have HA := Lib.hid ha
  have HB := Lib.hid hb
  have PS := Lib.hid (fun (i : Nat) (x y : Int) h h1 h2 hne => ptLt_pre (a := a) (b := b) (i := i) (x := x) (y := y) h h1 h2 hne)
  have PE := Lib.hid (fun h => ptLt_same (a := a) (b := b) h)
  generalize ptLt a b = res at *
  clear ra rb ha hb
  go_enter Try.func16, Try.ntmps16
  go_wp2_with fail
  generalize hq : w.heap.size = q at *
  generalize (w.alloc (.cells (pointC a).toArray 27)).alloc (.cells (pointC b).toArray 27) = w1 at *
  go_loopw [6] (fun iv wr => ∃ n : Nat, iv = .int .i64 n ∧ n ≤ 32 ∧ a.tx.take n = b.tx.take n ∧ Fr No w1 wr) (fun iv _ => 32 - (intOf iv).toNat)
  case atStart => exact ⟨0, rfl, by omega, by simp, Fr.refl _ _⟩
  case round =>
    obtain ⟨n, rfl, hn, hni, fr⟩ := hrel
    have FR := Lib.hid fr
    have NI := Lib.hid hni
    clear fr hni
    by_cases h : n < 32
    · have i1 : (n : Int) < 32 := by omega
      obtain ⟨x, hx⟩ : ∃ x, a.tx[n]? = some x := ⟨_, List.getElem?_eq_getElem (by rw [HA.out.1.1]; exact h)⟩
      obtain ⟨y, hy⟩ : ∃ y, b.tx[n]? = some y := ⟨_, List.getElem?_eq_getElem (by rw [HB.out.1.1]; exact h)⟩
      have gx : ∀ W, Fr No w1 W → W.cell? ⟨q, n, none⟩ = some (.int .u8 x) := fun W f => by
        have := range_keep RA.out f id n (byteV x) (by unfold pointC; rw [List.getElem?_append_left (by rw [List.length_map, HA.out.1.1]; exact h), List.getElem?_map, hx]; rfl)
        simpa [byteV] using this
      have gy : ∀ W, Fr No w1 W → W.cell? ⟨q + 1, n, none⟩ = some (.int .u8 y) := fun W f => by
        have := range_keep RB.out f id n (byteV y) (by unfold pointC; rw [List.getElem?_append_left (by rw [List.length_map, HB.out.1.1]; exact h), List.getElem?_map, hy]; rfl)
        simpa [byteV] using this
      have GX := Lib.hid gx
      have GY := Lib.hid gy
      clear gx gy
      have f1 : Fr No w1 wr.drew := FR.out.drew
      by_cases hxy : x = y
      · have NI2 := Lib.hid (show a.tx.take (n + 1) = b.tx.take (n + 1) by rw [List.take_add_one, List.take_add_one, hx, hy, NI.out, hxy])
        subst hxy
        clear hx hy
        go_wp2
        refine wp_region_lexL [false, false, false, false, false, false, false, false, false] (fun w' => w'.cell? ⟨q, n, none⟩ = some (.int .u8 x) ∧ w'.cell? ⟨q + 1, n, none⟩ = some (.int .u8 x)) (by kernel_rfl) (by kernel_rfl) ?_ (fun K hK => ?_)
        · exact ⟨GX.out _ f1, GY.out _ f1⟩
        repeat (first | ((first | with_reducible refine lexL_read ?_ | ((with_reducible refine lexL_readG ?_ ?_); (focus rfl))); apply Exists.intro; refine ⟨?_, ?_⟩; (focus (first | (intro w' hS; obtain ⟨s1, s2⟩ := hS; go_simp; (try with_reducible rfl); done))); try simp only [Act.put, List.setIfInBounds_toArray, List.set_cons_zero, List.set_cons_succ]) | ((first | ((with_reducible refine lexL_skip (c := false) ?_ ?_ ?_); (focus rfl); (focus rfl)) | ((with_reducible refine lexL_skip (c := true) ?_ ?_ ?_); (focus rfl); (focus rfl)) | ((with_reducible refine lexL_skipU ?_ ?_); (focus rfl))); try simp only [Act.put, List.setIfInBounds_toArray, List.set_cons_zero, List.set_cons_succ]))
        refine lexL_nil (hK.out _ _ ?_)
        go_wp2
        go_roundw
        case rel => exact ⟨n + 1, by simp, by omega, NI2.out, f1⟩
        case measure => show 32 - (n + 1) < 32 - n; omega
      · have R := Lib.hid (PS.out n x y NI.out hx hy hxy)
        clear hx hy
        go_wp2
        refine wp_region_lexL [false, false, false, false, false, false, false, false, false] (fun w' => w'.cell? ⟨q, n, none⟩ = some (.int .u8 x) ∧ w'.cell? ⟨q + 1, n, none⟩ = some (.int .u8 y)) (by kernel_rfl) (by kernel_rfl) ?_ (fun K hK => ?_)
        · exact ⟨GX.out _ f1, GY.out _ f1⟩
        repeat (first | ((first | with_reducible refine lexL_read ?_ | ((with_reducible refine lexL_readG ?_ ?_); (focus rfl))); apply Exists.intro; refine ⟨?_, ?_⟩; (focus (first | (intro w' hS; obtain ⟨s1, s2⟩ := hS; go_simp; (try with_reducible rfl); done))); try simp only [Act.put, List.setIfInBounds_toArray, List.set_cons_zero, List.set_cons_succ]) | ((first | ((with_reducible refine lexL_skip (c := false) ?_ ?_ ?_); (focus rfl); (focus rfl)) | ((with_reducible refine lexL_skip (c := true) ?_ ?_ ?_); (focus rfl); (focus rfl)) | ((with_reducible refine lexL_skipU ?_ ?_); (focus rfl))); try simp only [Act.put, List.setIfInBounds_toArray, List.set_cons_zero, List.set_cons_succ]))
        refine lexL_nil (hK.out _ _ ?_)
        go_wp2
        have f2 : Fr No w1 wr.drew.drew := f1.drew
        refine wp_region_lexL [false, false, false, false, false, false, false, false, false, false] (fun w' => w'.cell? ⟨q, n, none⟩ = some (.int .u8 x) ∧ w'.cell? ⟨q + 1, n, none⟩ = some (.int .u8 y)) (by kernel_rfl) (by kernel_rfl) ?_ (fun K hK => ?_)
        · exact ⟨GX.out _ f2, GY.out _ f2⟩
        repeat (first | ((first | with_reducible refine lexL_read ?_ | ((with_reducible refine lexL_readG ?_ ?_); (focus rfl))); apply Exists.intro; refine ⟨?_, ?_⟩; (focus (first | (intro w' hS; obtain ⟨s1, s2⟩ := hS; go_simp; (try with_reducible rfl); done))); try simp only [Act.put, List.setIfInBounds_toArray, List.set_cons_zero, List.set_cons_succ]) | ((first | ((with_reducible refine lexL_skip (c := false) ?_ ?_ ?_); (focus rfl); (focus rfl)) | ((with_reducible refine lexL_skip (c := true) ?_ ?_ ?_); (focus rfl); (focus rfl)) | ((with_reducible refine lexL_skipU ?_ ?_); (focus rfl))); try simp only [Act.put, List.setIfInBounds_toArray, List.set_cons_zero, List.set_cons_succ]))
        refine lexL_nil (hK.out _ _ ?_)
        go_wp2
        go_ret
        exact ⟨by rw [R.out]; rfl, F1.out.trans0 f2⟩
    · have i1 : ¬ (n : Int) < 32 := by omega
      have HT := Lib.hid (PE.out (by have := NI.out; rwa [show n = 32 by omega, List.take_of_length_le (by rw [HA.out.1.1]; omega), List.take_of_length_le (by rw [HB.out.1.1]; omega)] at this))
      have ca : wr.cell? ⟨q, 32, none⟩ = some (.int .u32 a.n) := by have := range_keep RA.out FR.out id 32 _ (pointC_32 HA.out); simpa using this
      have cb : wr.cell? ⟨q + 1, 32, none⟩ = some (.int .u32 b.n) := by have := range_keep RB.out FR.out id 32 _ (pointC_32 HB.out); simpa using this
      go_wp2
      go_ret
      exact ⟨by rw [HT.out]; rfl, F1.out.trans0 FR.out⟩

set_option maxRecDepth 20000 in
set_option maxHeartbeats 2000000 in
theorem ats_any (w : World) {v : Value} {l : List CoinD} (hl : CoinsIs w v l) (hN : l.length ≤ 100000) :
    Calls Try.prog 25 #[v] w fun e w' => ∃ v', e = .returned v' ∧ w'.ownsRow w.heap.size 27 33 v' l.length ((l.map (·.at_)).flatMap pointC) ∧ Fr No w w' := by
  obtain ⟨dC, uC, rC⟩ := descCoin
  obtain ⟨dP, uP, rP⟩ := descPoint
  obtain ⟨va, vc, rfl⟩ := hl.2.form
  have HL := Lib.hid hl
  have zc := zeroCoin
  clear hl
  go_enter Try.func25, Try.ntmps25
  go_wp2_with fail
  go_loopw [3, 8] (fun rv iv wr => ∃ n : Nat, iv = .int .i64 n ∧ n ≤ l.length ∧ wr.ownsRow w.heap.size 27 33 rv n (((l.take n).map (·.at_)).flatMap pointC) ∧ Fr No w wr) (fun _ iv _ => l.length - (intOf iv).toNat)
  case atStart => exact ⟨0, rfl, Nat.zero_le _, World.ownsRow_nil _ _ _ _, Fr.refl _ _⟩
  case round =>
    obtain ⟨n, rfl, hn, ho, fr⟩ := hrel
    have FR := Lib.hid fr
    have HO := Lib.hid ho
    obtain ⟨la, lc, rfl⟩ := ho.slice.arg.form
    clear fr ho
    by_cases h : n < l.length
    · have i1 : (n : Int) < (l.length : Int) := by omega
      obtain ⟨c, hx⟩ : ∃ x, l[n]? = some x := ⟨_, List.getElem?_eq_getElem h⟩
      obtain ⟨b, off, cap, hv, hr, -⟩ := (HL.out.keep FR.out).at_ hx
      cases hv
      have COK := Lib.hid (HL.out.1 c (List.mem_of_getElem? hx))
      have CL := Lib.hid (coinC_len COK.out)
      have PL := Lib.hid (pointC_len COK.out.1)
      have R1 := Lib.hid hr
      have RP := Lib.hid (coin_at (range_new wr (coinC c) 38))
      have HTN := Lib.hid (show ((l.take (n + 1)).map (·.at_)).flatMap pointC = ((l.take n).map (·.at_)).flatMap pointC ++ pointC c.at_ by rw [List.take_add_one, hx]; simp)
      have FA := FR.out.alloc (.cells (coinC c).toArray 38)
      obtain ⟨v5, w5, hap, ho5, f5, -, -⟩ := append_blk (P := Try.prog) _ w.heap.size 52 52 27 33 36 _ undPoints infoPointZ rfl (by decide) (HO.out.alloc (.cells (coinC c).toArray 38)) (pointC c.at_) PL.out pointC_one (by omega) (by unfold maxLen; omega) FA.size
      have F5 := Lib.hid (FA.trans f5 (fun i hi e => by have := (HO.out.lt i e).1; omega))
      have HO5 := Lib.hid (show w5.ownsRow w.heap.size 27 33 v5 (n + 1) (((l.take (n + 1)).map (·.at_)).flatMap pointC) by rw [HTN.out]; exact ho5)
      obtain ⟨a5, c5, rfl⟩ := ho5.slice.arg.form
      have HAP := Lib.hid hap
      clear hap ho5 f5 hr hx FA
      go_wp2_with (first | (refine wpList_value rfl (exec_load (ty := 38) rfl rfl R1.out uC rC (by rw [CL.out]; exact infoCoin)) ?_) | (refine wpList_done rfl (exec_store_new (w := wr) (ty := 38) rfl rfl rfl (by rw [CL.out]; rfl) (by rw [CL.out]; exact infoCoin) coinC_one) ?_) | (refine wpList_value rfl (exec_load (ty := 27) rfl rfl RP.out uP rP (by rw [PL.out]; exact infoPoint)) ?_) | (refine wpList_value rfl (exec_buildSliceA (t := 52) rfl rfl undPoints infoPointZ2 rfl (by decide) (by decide) PL.out) ?_) | (at_builtin; refine wpList_append_run rfl rfl rfl rfl HAP.out ?_))
      go_roundw
      case rel => exact ⟨n + 1, by simp, by omega, HO5.out, F5.out⟩
      case measure => show l.length - (n + 1) < l.length - n; omega
    · have i1 : ¬ (n : Int) < (l.length : Int) := by omega
      have HF := Lib.hid (show wr.ownsRow w.heap.size 27 33 (.slice la n lc) l.length ((l.map (·.at_)).flatMap pointC) by
        have := HO.out
        rw [show l.take n = l by rw [show n = l.length by omega, List.take_length]] at this
        rwa [show l.length = n by omega])
      go_wp2
      go_ret
      exact ⟨_, rfl, HF.out, FR.out⟩
end Go.Proofs.Ytoaefhjmpfchiaa
