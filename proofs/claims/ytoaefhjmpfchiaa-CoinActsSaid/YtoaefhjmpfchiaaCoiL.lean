/- pappuslaw09: alive, many. -/
import Derived.Test.YtoaefhjmpfchiaaCoiW
import Derived.Test.YtoaefhjmpfchiaaCoiV
import Derived.Test.YtoaefhjmpfchiaaCoiB
import Derived.Test.YtoaefhjmpfchiaaTree
namespace Go.Proofs.Ytoaefhjmpfchiaa
open Go Go.RowKit Go.Maps Go.MapKept

theorem many_any (w : World) (a : Option Addr) (n c : Nat) : Calls Try.prog 11 #[.slice a n c] w fun e w' => e = .returned (.bool (decide (300 < n))) ∧ w' = w := by
  have h : decide ((300 : Int) < (n : Int)) = decide (300 < n) := by
    by_cases h : 300 < n
    · rw [decide_eq_true h, decide_eq_true (by omega)]
    · rw [decide_eq_false h, decide_eq_false (by omega)]
  have H := Lib.hid h
  clear h
  go_enter Try.func11, Try.ntmps11
  go_wp2
  go_ret
  exact ⟨by first | (rw [H.out]; rfl) | (rw [← H.out]; rfl), rfl⟩

theorem coins_new1 (w : World) {c : CoinD} (hc : c.ok) : CoinsIs (w.alloc (.cells (coinC c).toArray 38)) (.slice (some ⟨w.heap.size, 0, none⟩) 1 1) [c] := by
  refine ⟨by simpa using hc, .inl (.inr ⟨w.heap.size, 0, 1, rfl, Nat.le_refl _, by unfold maxLen; omega, fun j u hj => ?_, by simp⟩)⟩
  rw [List.flatMap_cons, List.flatMap_nil, List.append_nil] at hj
  exact range_new w (coinC c) 38 j u hj
theorem coins_new2 (w : World) {c d : CoinD} (hc : c.ok) (hd : d.ok) : CoinsIs (w.alloc (.cells (coinC c ++ coinC d).toArray 38)) (.slice (some ⟨w.heap.size, 0, none⟩) 2 2) [c, d] := by
  refine ⟨fun x hx => ?_, .inl (.inr ⟨w.heap.size, 0, 2, rfl, Nat.le_refl _, by unfold maxLen; omega, fun j u hj => ?_, by simp⟩)⟩
  · simp at hx; rcases hx with rfl | rfl <;> assumption
  rw [List.flatMap_cons, List.flatMap_cons, List.flatMap_nil, List.append_nil] at hj
  exact range_new w (coinC c ++ coinC d) 38 j u hj

def hashA : List Int := 1 :: List.replicate 31 0
def coinA : CoinD := ⟨⟨hashA, 9⟩, ⟨5, List.replicate 32 0⟩⟩
def coinB : CoinD := ⟨⟨hashA, 3⟩, out0⟩
theorem hashA_ok : hashOk hashA := ⟨rfl, by decide⟩
theorem coinA_ok : coinA.ok := ⟨⟨hashA_ok, by decide, by decide⟩, ⟨by decide, rfl, by decide⟩⟩
theorem coinB_ok : coinB.ok := ⟨⟨hashA_ok, by decide, by decide⟩, out0_ok⟩
theorem bldHa (w : World) : (Instr.build 24 #[(0, .int .u8 1)]).run Try.prog w = .ok (.agg (hashA.map byteV).toArray) w := by kernel_rfl
theorem bldPa (w : World) : (Instr.build 27 #[(0, .agg (hashA.map byteV).toArray), (1, .int .u32 9)]).run Try.prog w = .ok (.agg (pointC coinA.at_).toArray) w := by kernel_rfl
theorem bldPb (w : World) : (Instr.build 27 #[(0, .agg (hashA.map byteV).toArray), (1, .int .u32 3)]).run Try.prog w = .ok (.agg (pointC coinB.at_).toArray) w := by kernel_rfl
theorem bldOa (w : World) : (Instr.build 36 #[(0, .int .u64 5)]).run Try.prog w = .ok (.agg (outC coinA.out).toArray) w := by kernel_rfl
theorem bldCa (w : World) : (Instr.build 38 #[(0, .agg (pointC coinA.at_).toArray), (1, .agg (outC coinA.out).toArray)]).run Try.prog w = .ok (.agg (coinC coinA).toArray) w := by kernel_rfl
theorem bldCb (w : World) : (Instr.build 38 #[(0, .agg (pointC coinB.at_).toArray)]).run Try.prog w = .ok (.agg (coinC coinB).toArray) w := by kernel_rfl
theorem aliveS : putC [] [coinA, coinB] = [coinB, coinA] := by rfl
theorem aliveN : ([coinA, coinB].map (·.at_)).Nodup := by decide
theorem aliveE1 : putE [coinB, coinA] [coinB] = 10 := by decide
theorem aliveE2 : putE [coinB, coinA] [coinA, coinA] = 12 := by decide
theorem aliveF : outOf [coinB, coinA] coinA.at_ = coinA.out ∧ hasC [coinB, coinA] coinA.at_ = true := ⟨rfl, by decide⟩

theorem bldS2 (w : World) : (Instr.buildSlice 22 2 #[(0, .agg (coinC coinB).toArray), (1, .agg (coinC coinA).toArray)]).run Try.prog w = .ok (.slice (some ⟨w.heap.size, 0, none⟩) 2 2) (w.alloc (.cells (coinC coinB ++ coinC coinA).toArray 38)) := by kernel_rfl
set_option maxRecDepth 20000 in
set_option maxHeartbeats 1000000 in
theorem aliveC_any (w : World) : Calls Try.prog 10 #[] w fun e w' => e = .returned (.bool true) ∧ Fr No w w' := by
  obtain ⟨dC, uC, rC⟩ := descCoin
  obtain ⟨dP, uP, rP⟩ := descPoint
  have LA := Lib.hid (coinC_len coinA_ok)
  have LB := Lib.hid (coinC_len coinB_ok)
  have LPA := Lib.hid (pointC_len coinA_ok.1)
  have LOA := Lib.hid (outC_len coinA_ok.2)
  have zc := zeroCoin
  have zo := zeroOutC
  have RA := Lib.hid (range_keep (range_new w (coinC coinA) 38) ((Fr.refl No _).alloc (.cells (coinC coinB).toArray 38)) id)
  have RB := Lib.hid (show ((w.alloc (.cells (coinC coinA).toArray 38)).alloc (.cells (coinC coinB).toArray 38)).rangeAt (w.heap.size + 1) 0 (coinC coinB) by have := range_new (w.alloc (.cells (coinC coinA).toArray 38)) (coinC coinB) 38; simpa using this)
  have F1 := Lib.hid (show Fr No w ((w.alloc (.cells (coinC coinA).toArray 38)).alloc (.cells (coinC coinB).toArray 38)) from ((Fr.refl No w).alloc _).alloc _)
  go_enter Try.func10, Try.ntmps10
  have M0 := Lib.hid True.intro
  have M1 := Lib.hid True.intro
  have M2 := Lib.hid True.intro
  have M3 := Lib.hid True.intro
  have M4 := Lib.hid True.intro
  have M5 := Lib.hid True.intro
  have M6 := Lib.hid True.intro
  have M7 := Lib.hid True.intro
  have M8 := Lib.hid True.intro
  have M9 := Lib.hid True.intro
  have M10 := Lib.hid True.intro
  have M11 := Lib.hid True.intro
  go_wp2_with (first | (have mk := M0.out; refine wpList_value rfl (exec_bld (o := ⟨some 7, _, _, _, _, _⟩) (t := 24) rfl rfl (bldHa _)) ?_; clear mk M0) | (have mk := M1.out; refine wpList_value rfl (exec_bld (o := ⟨some 8, _, _, _, _, _⟩) (t := 27) rfl rfl (bldPa _)) ?_; clear mk M1) | (have mk := M2.out; refine wpList_value rfl (exec_bld (o := ⟨some 9, _, _, _, _, _⟩) (t := 36) rfl rfl (bldOa _)) ?_; clear mk M2) | (have mk := M3.out; refine wpList_value rfl (exec_bld (o := ⟨some 10, _, _, _, _, _⟩) (t := 38) rfl rfl (bldCa _)) ?_; clear mk M3) | (have mk := M4.out; refine wpList_done rfl (exec_store_new (w := w) (cs := coinC coinA) (ty := 38) rfl rfl rfl (by rw [LA.out]; rfl) (by rw [LA.out]; exact infoCoin) coinC_one) ?_; clear mk M4) | (have mk := M5.out; refine wpList_value rfl (exec_bld (o := ⟨some 11, _, _, _, _, _⟩) (t := 24) rfl rfl (bldHa _)) ?_; clear mk M5) | (have mk := M6.out; refine wpList_value rfl (exec_bld (o := ⟨some 12, _, _, _, _, _⟩) (t := 27) rfl rfl (bldPb _)) ?_; clear mk M6) | (have mk := M7.out; refine wpList_value rfl (exec_bld (o := ⟨some 13, _, _, _, _, _⟩) (t := 38) rfl rfl (bldCb _)) ?_; clear mk M7) | (have mk := M8.out; refine wpList_done rfl (exec_store_new (w := w.alloc (.cells (coinC coinA).toArray 38)) (cs := coinC coinB) (ty := 38) rfl (by show Value.pointer (some ⟨w.heap.size + 1, 0, none⟩) = _; simp) rfl (by rw [LB.out]; rfl) (by rw [LB.out]; exact infoCoin) coinC_one) ?_; clear mk M8) | (have mk := M9.out; refine wpList_value rfl (exec_load (ty := 38) rfl rfl RA.out uC rC (by rw [LA.out]; exact infoCoin)) ?_; clear mk M9) | (have mk := M10.out; refine wpList_value rfl (exec_load (ty := 38) rfl rfl RB.out uC rC (by rw [LB.out]; exact infoCoin)) ?_; clear mk M10) | (have mk := M11.out; refine wpList_value rfl (exec_buildSlice2 (t := 22) rfl rfl rfl undCoins infoCoinZ2 rfl (by decide) (by decide) LA.out LB.out) ?_; clear mk M11))
  have CN := Lib.hid (show CoinsIs (((w.alloc (.cells (coinC coinA).toArray 38)).alloc (.cells (coinC coinB).toArray 38)).alloc (.cells (coinC coinA ++ coinC coinB).toArray 38)) (.slice (some ⟨w.heap.size + 1 + 1, 0, none⟩) 2 2) [coinA, coinB] by
    have := coins_new2 ((w.alloc (.cells (coinC coinA).toArray 38)).alloc (.cells (coinC coinB).toArray 38)) coinA_ok coinB_ok
    rwa [show ((w.alloc (.cells (coinC coinA).toArray 38)).alloc (.cells (coinC coinB).toArray 38)).heap.size = w.heap.size + 1 + 1 by simp] at this)
  have HSZ := Lib.hid (show w.heap.size + 1 < ((w.alloc (.cells (coinC coinA).toArray 38)).alloc (.cells (coinC coinB).toArray 38)).heap.size by simp)
  generalize (w.alloc (.cells (coinC coinA).toArray 38)).alloc (.cells (coinC coinB).toArray 38) = W at *
  have FX := Lib.hid ((Fr.refl No W).alloc (.cells (coinC coinA ++ coinC coinB).toArray 38))
  generalize W.alloc (.cells (coinC coinA ++ coinC coinB).toArray 38) = W2 at *
  refine (new_C w W2 (F1.out.trans0 FX.out) CN.out (by decide) aliveN).mono ?_
  rintro e w7 ⟨p, rfl, V, c7, f7, hV⟩
  rw [aliveS] at c7
  have C7 := Lib.hid c7
  have NVA := Lib.hid (show ¬ V w.heap.size from fun h => by have := hV _ h; have := FX.out.size; have := HSZ.out; omega)
  have NVB := Lib.hid (show ¬ V (w.heap.size + 1) from fun h => by have := hV _ h; have := FX.out.size; have := HSZ.out; omega)
  have RA7 := Lib.hid (range_keep RA.out (FX.out.trans0 f7) id)
  have RB7 := Lib.hid (range_keep RB.out (FX.out.trans0 f7) id)
  clear c7 f7 hV RA RB F1
  have N0 := Lib.hid True.intro
  have N1 := Lib.hid True.intro
  have N2 := Lib.hid True.intro
  have N3 := Lib.hid True.intro
  have N4 := Lib.hid True.intro
  have N5 := Lib.hid True.intro
  have N6 := Lib.hid True.intro
  have N7 := Lib.hid True.intro
  have N8 := Lib.hid True.intro
  have N9 := Lib.hid True.intro
  go_wp2_with (first | (have mk := N0.out; refine wpList_vG (o := ⟨some 29, _, _, _, _, _⟩) rfl (exec_load (ty := 38) rfl rfl RB7.out uC rC (by rw [LB.out]; exact infoCoin)) ?_; clear mk N0) | (have mk := N1.out; refine wpList_vG (o := ⟨some 30, _, _, _, _, _⟩) rfl (exec_buildSliceA (t := 22) rfl rfl undCoins infoCoinZ2 rfl (by decide) (by decide) LB.out) ?_; clear mk N1) | (have mk := N2.out; go_at_call 14; refine (put_C (C7.out.fr0 ((Fr.refl No w7).alloc _)) (coins_new1 w7 coinB_ok) (by decide)).mono ?_; rintro e w8 ⟨rfl, c8, f8⟩; rw [aliveE1]; have C8 := Lib.hid c8; have RA8 := Lib.hid (range_keep (range_keep RA7.out ((Fr.refl No w7).alloc (.cells (coinC coinB).toArray 38)) id) f8 NVA.out); have RB8 := Lib.hid (range_keep (range_keep RB7.out ((Fr.refl No w7).alloc (.cells (coinC coinB).toArray 38)) id) f8 NVB.out); clear c8 f8; clear mk N2) | (have mk := N3.out; refine wpList_vG (o := ⟨some 36, _, _, _, _, _⟩) rfl (exec_load (ty := 38) rfl rfl RA8.out uC rC (by rw [LA.out]; exact infoCoin)) ?_; clear mk N3) | (have mk := N4.out; refine wpList_vG (o := ⟨some 37, _, _, _, _, _⟩) rfl (exec_load (ty := 38) rfl rfl RA8.out uC rC (by rw [LA.out]; exact infoCoin)) ?_; clear mk N4) | (have mk := N5.out; refine wpList_vG (o := ⟨some 38, _, _, _, _, _⟩) rfl (exec_buildSlice2 (t := 22) rfl rfl rfl undCoins infoCoinZ2 rfl (by decide) (by decide) LA.out LA.out) ?_; clear mk N5) | (have mk := N6.out; go_at_call 14; refine (put_C (C8.out.fr0 ((Fr.refl No w8).alloc _)) (coins_new2 w8 coinA_ok coinA_ok) (by decide)).mono ?_; rintro e w9 ⟨rfl, c9, f9⟩; rw [show putE (putS [coinB, coinA] [coinB]) [coinA, coinA] = 12 by decide]; have C9 := Lib.hid c9; have RA9 := Lib.hid (range_keep (range_keep RA8.out ((Fr.refl No w8).alloc (.cells (coinC coinA ++ coinC coinA).toArray 38)) id) f9 NVA.out); have RP9 := Lib.hid (coin_at RA9.out); have RB9 := Lib.hid (range_keep (range_keep RB8.out ((Fr.refl No w8).alloc (.cells (coinC coinA ++ coinC coinA).toArray 38)) id) f9 NVB.out); clear c9 f9; clear mk N6) | (have mk := N7.out; refine wpList_value rfl (exec_load (ty := 27) rfl rfl RP9.out uP rP (by rw [LPA.out]; exact infoPoint)) ?_; clear mk N7) | (have mk := N8.out; go_at_call 13; refine (find_C C9.out coinA_ok.1).mono ?_; rintro e w10 ⟨rfl, f10⟩; rw [show outOf (putS (putS [coinB, coinA] [coinB]) [coinA, coinA]) coinA.at_ = coinA.out from rfl, show hasC (putS (putS [coinB, coinA] [coinB]) [coinA, coinA]) coinA.at_ = true by decide]; have C10 := Lib.hid (C9.out.fr0 f10); have RA10 := Lib.hid (range_keep RA9.out f10 id); have RB10 := Lib.hid (range_keep RB9.out f10 id); clear f10; clear mk N8) | (have mk := N9.out; refine wpList_done rfl (exec_store_new (w := w10) (cs := outC coinA.out) (ty := 36) rfl rfl rfl (by rw [LOA.out]; rfl) (by rw [LOA.out]; exact infoOut) outC_one) ?_; clear mk N9))
  have C11 := Lib.hid (show CS w (w10.alloc (.cells (outC coinA.out).toArray 36)) p V [coinB, coinA] by
    have h := C10.out.fr0 ((Fr.refl No w10).alloc (.cells (outC coinA.out).toArray 36))
    rwa [show putS (putS [coinB, coinA] [coinB]) [coinA, coinA] = [coinB, coinA] from rfl] at h)
  have c5 : (w10.alloc (.cells (outC coinA.out).toArray 36)).cell? ⟨w10.heap.size, 0, none⟩ = some (.int .u64 5) := by
    have := range_new w10 (outC coinA.out) 36 0 _ (outC_0 _)
    simpa [coinA] using this
  have K5 := Lib.hid c5
  have RA11 := Lib.hid (range_keep RA10.out ((Fr.refl No w10).alloc (.cells (outC coinA.out).toArray 36)) id)
  have RB11 := Lib.hid (range_keep RB10.out ((Fr.refl No w10).alloc (.cells (outC coinA.out).toArray 36)) id)
  clear c5 C10 RA10 RB10 RA9 RB9 RA8 RB8 RA7 RB7 C9 C8 C7
  generalize w10.alloc (.cells (outC coinA.out).toArray 36) = w11 at *
  generalize w10.heap.size = q5 at *
  generalize w.heap.size = q0 at *
  have KS := Lib.hid (fun (W : World) (f : Fr No w11 W) => (⟨f.cell K5.out id, range_keep RA11.out f id, range_keep RB11.out f id⟩ : W.cell? ⟨q5, 0, none⟩ = some (.int .u64 5) ∧ W.rangeAt q0 0 (coinC coinA) ∧ W.rangeAt (q0 + 1) 0 (coinC coinB)))
  refine wp_region_lexT 20 [0, 1, 2, 3, 4, 5, 6, 7, 8, 9, 10, 11, 12, 13, 14, 15, 16, 17, 18, 19] (fun w' => w'.cell? ⟨q5, 0, none⟩ = some (.int .u64 5) ∧ w'.rangeAt q0 0 (coinC coinA) ∧ w'.rangeAt (q0 + 1) 0 (coinC coinB)) (by kernel_rfl) (by kernel_rfl) (by kernel_rfl) (by kernel_rfl) ?_ (fun K hK => ?_)
  · exact KS.out _ (Fr.refl No _).drew
  (((first | (refine lexT_rd 0 (by kernel_rfl) rfl rfl ?_; apply Exists.intro; refine ⟨?_, ?_⟩; (focus (first | exact lex_load (ty := 38) rfl (fun w h => h.2.1) uC rC (by rw [LA.out]; exact infoCoin) | exact lex_load (ty := 38) rfl (fun w h => h.2.2) uC rC (by rw [LB.out]; exact infoCoin) | (intro w' hS; obtain ⟨s1, s2, s3⟩ := hS; go_simp; (try with_reducible rfl); done)))) | (refine lexT_sk 0 (by kernel_rfl) rfl rfl ?_)); try simp only [Act.put, List.setIfInBounds_toArray, List.set_cons_zero, List.set_cons_succ]); ((first | (refine lexT_rd 1 (by kernel_rfl) rfl rfl ?_; apply Exists.intro; refine ⟨?_, ?_⟩; (focus (first | exact lex_load (ty := 38) rfl (fun w h => h.2.1) uC rC (by rw [LA.out]; exact infoCoin) | exact lex_load (ty := 38) rfl (fun w h => h.2.2) uC rC (by rw [LB.out]; exact infoCoin) | (intro w' hS; obtain ⟨s1, s2, s3⟩ := hS; go_simp; (try with_reducible rfl); done)))) | (refine lexT_sk 1 (by kernel_rfl) rfl rfl ?_)); try simp only [Act.put, List.setIfInBounds_toArray, List.set_cons_zero, List.set_cons_succ]); ((first | (refine lexT_rd 2 (by kernel_rfl) rfl rfl ?_; apply Exists.intro; refine ⟨?_, ?_⟩; (focus (first | exact lex_load (ty := 38) rfl (fun w h => h.2.1) uC rC (by rw [LA.out]; exact infoCoin) | exact lex_load (ty := 38) rfl (fun w h => h.2.2) uC rC (by rw [LB.out]; exact infoCoin) | (intro w' hS; obtain ⟨s1, s2, s3⟩ := hS; go_simp; (try with_reducible rfl); done)))) | (refine lexT_sk 2 (by kernel_rfl) rfl rfl ?_)); try simp only [Act.put, List.setIfInBounds_toArray, List.set_cons_zero, List.set_cons_succ]); ((first | (refine lexT_rd 3 (by kernel_rfl) rfl rfl ?_; apply Exists.intro; refine ⟨?_, ?_⟩; (focus (first | exact lex_load (ty := 38) rfl (fun w h => h.2.1) uC rC (by rw [LA.out]; exact infoCoin) | exact lex_load (ty := 38) rfl (fun w h => h.2.2) uC rC (by rw [LB.out]; exact infoCoin) | (intro w' hS; obtain ⟨s1, s2, s3⟩ := hS; go_simp; (try with_reducible rfl); done)))) | (refine lexT_sk 3 (by kernel_rfl) rfl rfl ?_)); try simp only [Act.put, List.setIfInBounds_toArray, List.set_cons_zero, List.set_cons_succ]); ((first | (refine lexT_rd 4 (by kernel_rfl) rfl rfl ?_; apply Exists.intro; refine ⟨?_, ?_⟩; (focus (first | exact lex_load (ty := 38) rfl (fun w h => h.2.1) uC rC (by rw [LA.out]; exact infoCoin) | exact lex_load (ty := 38) rfl (fun w h => h.2.2) uC rC (by rw [LB.out]; exact infoCoin) | (intro w' hS; obtain ⟨s1, s2, s3⟩ := hS; go_simp; (try with_reducible rfl); done)))) | (refine lexT_sk 4 (by kernel_rfl) rfl rfl ?_)); try simp only [Act.put, List.setIfInBounds_toArray, List.set_cons_zero, List.set_cons_succ]); ((first | (refine lexT_rd 5 (by kernel_rfl) rfl rfl ?_; apply Exists.intro; refine ⟨?_, ?_⟩; (focus (first | exact lex_load (ty := 38) rfl (fun w h => h.2.1) uC rC (by rw [LA.out]; exact infoCoin) | exact lex_load (ty := 38) rfl (fun w h => h.2.2) uC rC (by rw [LB.out]; exact infoCoin) | (intro w' hS; obtain ⟨s1, s2, s3⟩ := hS; go_simp; (try with_reducible rfl); done)))) | (refine lexT_sk 5 (by kernel_rfl) rfl rfl ?_)); try simp only [Act.put, List.setIfInBounds_toArray, List.set_cons_zero, List.set_cons_succ]); ((first | (refine lexT_rd 6 (by kernel_rfl) rfl rfl ?_; apply Exists.intro; refine ⟨?_, ?_⟩; (focus (first | exact lex_load (ty := 38) rfl (fun w h => h.2.1) uC rC (by rw [LA.out]; exact infoCoin) | exact lex_load (ty := 38) rfl (fun w h => h.2.2) uC rC (by rw [LB.out]; exact infoCoin) | (intro w' hS; obtain ⟨s1, s2, s3⟩ := hS; go_simp; (try with_reducible rfl); done)))) | (refine lexT_sk 6 (by kernel_rfl) rfl rfl ?_)); try simp only [Act.put, List.setIfInBounds_toArray, List.set_cons_zero, List.set_cons_succ]); ((first | (refine lexT_rd 7 (by kernel_rfl) rfl rfl ?_; apply Exists.intro; refine ⟨?_, ?_⟩; (focus (first | exact lex_load (ty := 38) rfl (fun w h => h.2.1) uC rC (by rw [LA.out]; exact infoCoin) | exact lex_load (ty := 38) rfl (fun w h => h.2.2) uC rC (by rw [LB.out]; exact infoCoin) | (intro w' hS; obtain ⟨s1, s2, s3⟩ := hS; go_simp; (try with_reducible rfl); done)))) | (refine lexT_sk 7 (by kernel_rfl) rfl rfl ?_)); try simp only [Act.put, List.setIfInBounds_toArray, List.set_cons_zero, List.set_cons_succ]); ((first | (refine lexT_rd 9 (by kernel_rfl) rfl rfl ?_; apply Exists.intro; refine ⟨?_, ?_⟩; (focus (first | exact lex_load (ty := 38) rfl (fun w h => h.2.1) uC rC (by rw [LA.out]; exact infoCoin) | exact lex_load (ty := 38) rfl (fun w h => h.2.2) uC rC (by rw [LB.out]; exact infoCoin) | (intro w' hS; obtain ⟨s1, s2, s3⟩ := hS; go_simp; (try with_reducible rfl); done)))) | (refine lexT_sk 9 (by kernel_rfl) rfl rfl ?_)); try simp only [Act.put, List.setIfInBounds_toArray, List.set_cons_zero, List.set_cons_succ]); ((first | (refine lexT_rd 10 (by kernel_rfl) rfl rfl ?_; apply Exists.intro; refine ⟨?_, ?_⟩; (focus (first | exact lex_load (ty := 38) rfl (fun w h => h.2.1) uC rC (by rw [LA.out]; exact infoCoin) | exact lex_load (ty := 38) rfl (fun w h => h.2.2) uC rC (by rw [LB.out]; exact infoCoin) | (intro w' hS; obtain ⟨s1, s2, s3⟩ := hS; go_simp; (try with_reducible rfl); done)))) | (refine lexT_sk 10 (by kernel_rfl) rfl rfl ?_)); try simp only [Act.put, List.setIfInBounds_toArray, List.set_cons_zero, List.set_cons_succ]))
  refine lexT_ef2 8 11 (by kernel_rfl) rfl rfl rfl rfl (fun K' hK' => ?_) (fun K' hK' => ?_)
  · go_simp
    refine (all_C (C11.out.fr0 (Fr.refl No _).drew) (by decide)).mono ?_
    rintro e w12 ⟨v12, rfl, o12, f12⟩
    have F12 := Lib.hid ((Fr.refl No w11).drew.trans0 f12)
    have O12 := Lib.hid o12
    clear o12 f12
    refine hK'.out _ _ ?_ (fun hS => ?_)
    · exact KS.out _ F12.out
    try simp only [Act.put, List.setIfInBounds_toArray, List.set_cons_zero, List.set_cons_succ]
    refine lexT_ef1 11 (by kernel_rfl) rfl rfl (fun K' hK' => ?_)
    refine wp_value (exec_buildSlice2 (t := 22) rfl rfl rfl undCoins infoCoinZ2 rfl (by decide) (by decide) LB.out LA.out) ?_
    have F13 := Lib.hid (F12.out.alloc (.cells (coinC coinB ++ coinC coinA).toArray 38))
    have HU := Lib.hid (show CoinsIs (w12.alloc (.cells (coinC coinB ++ coinC coinA).toArray 38)) v12 [coinB, coinA] from ⟨C11.out.ok, (ownsRow_keep O12.out ((Fr.refl No w12).alloc (.cells (coinC coinB ++ coinC coinA).toArray 38)) (fun _ _ => id)).slice.arg⟩)
    have HV := Lib.hid (coins_new2 w12 coinB_ok coinA_ok)
    refine hK'.out _ _ ?_ (fun hS => ?_)
    · exact KS.out _ F13.out
    try simp only [Act.put, List.setIfInBounds_toArray, List.set_cons_zero, List.set_cons_succ]
    refine lexT_ef1 12 (by kernel_rfl) rfl rfl (fun K' hK' => ?_)
    go_simp
    refine (sameCoins_any _ HU.out HV.out (by decide) (by decide)).mono ?_
    rintro e w14 ⟨bb, rfl, hbb, f14⟩
    obtain rfl : bb = true := hbb.2 rfl
    have F14 := Lib.hid (F13.out.trans0 f14)
    clear hbb f14
    refine hK'.out _ _ ?_ (fun hS => ?_)
    · exact KS.out _ F14.out
    try simp only [Act.put, List.setIfInBounds_toArray, List.set_cons_zero, List.set_cons_succ]
    (((first | (refine lexT_rd 13 (by kernel_rfl) rfl rfl ?_; apply Exists.intro; refine ⟨?_, ?_⟩; (focus (first | (intro w' hS; obtain ⟨s1, s2, s3⟩ := hS; go_simp; (try with_reducible rfl); done)))) | (refine lexT_sk 13 (by kernel_rfl) rfl rfl ?_)); try simp only [Act.put, List.setIfInBounds_toArray, List.set_cons_zero, List.set_cons_succ]); ((first | (refine lexT_rd 14 (by kernel_rfl) rfl rfl ?_; apply Exists.intro; refine ⟨?_, ?_⟩; (focus (first | (intro w' hS; obtain ⟨s1, s2, s3⟩ := hS; go_simp; (try with_reducible rfl); done)))) | (refine lexT_sk 14 (by kernel_rfl) rfl rfl ?_)); try simp only [Act.put, List.setIfInBounds_toArray, List.set_cons_zero, List.set_cons_succ]); ((first | (refine lexT_rd 15 (by kernel_rfl) rfl rfl ?_; apply Exists.intro; refine ⟨?_, ?_⟩; (focus (first | (intro w' hS; obtain ⟨s1, s2, s3⟩ := hS; go_simp; (try with_reducible rfl); done)))) | (refine lexT_sk 15 (by kernel_rfl) rfl rfl ?_)); try simp only [Act.put, List.setIfInBounds_toArray, List.set_cons_zero, List.set_cons_succ]))
    refine lexT_ef1 16 (by kernel_rfl) rfl rfl (fun K' hK' => ?_)
    go_simp
    refine (len_C (C11.out.fr0 F14.out)).mono ?_
    rintro e w15 ⟨rfl, f15⟩
    have F15 := Lib.hid (F14.out.trans0 f15)
    clear f15
    refine hK'.out _ _ ?_ (fun hS => ?_)
    · exact KS.out _ F15.out
    try simp only [Act.put, List.setIfInBounds_toArray, List.set_cons_zero, List.set_cons_succ]
    (((first | (refine lexT_rd 17 (by kernel_rfl) rfl rfl ?_; apply Exists.intro; refine ⟨?_, ?_⟩; (focus (first | (intro w' hS; obtain ⟨s1, s2, s3⟩ := hS; go_simp; (try with_reducible rfl); done)))) | (refine lexT_sk 17 (by kernel_rfl) rfl rfl ?_)); try simp only [Act.put, List.setIfInBounds_toArray, List.set_cons_zero, List.set_cons_succ]); ((first | (refine lexT_rd 18 (by kernel_rfl) rfl rfl ?_; apply Exists.intro; refine ⟨?_, ?_⟩; (focus (first | (intro w' hS; obtain ⟨s1, s2, s3⟩ := hS; go_simp; (try with_reducible rfl); done)))) | (refine lexT_sk 18 (by kernel_rfl) rfl rfl ?_)); try simp only [Act.put, List.setIfInBounds_toArray, List.set_cons_zero, List.set_cons_succ]); ((first | (refine lexT_rd 19 (by kernel_rfl) rfl rfl ?_; apply Exists.intro; refine ⟨?_, ?_⟩; (focus (first | (intro w' hS; obtain ⟨s1, s2, s3⟩ := hS; go_simp; (try with_reducible rfl); done)))) | (refine lexT_sk 19 (by kernel_rfl) rfl rfl ?_)); try simp only [Act.put, List.setIfInBounds_toArray, List.set_cons_zero, List.set_cons_succ]))
    refine lexT_nil (hK.out _ _ ?_)
    go_wp2
    go_ret
    exact ⟨by rfl, (C11.out.fr0 F15.out).fr⟩
  · refine wp_value (exec_buildSlice2 (t := 22) rfl rfl rfl undCoins infoCoinZ2 rfl (by decide) (by decide) LB.out LA.out) ?_
    have F12 := Lib.hid ((Fr.refl No w11).drew.alloc (.cells (coinC coinB ++ coinC coinA).toArray 38))
    have HV0 := Lib.hid (coins_new2 w11.drew coinB_ok coinA_ok)
    refine hK'.out _ _ ?_ (fun hS => ?_)
    · exact KS.out _ F12.out
    try simp only [Act.put, List.setIfInBounds_toArray, List.set_cons_zero, List.set_cons_succ]
    refine lexT_ef1 8 (by kernel_rfl) rfl rfl (fun K' hK' => ?_)
    go_simp
    refine (all_C (C11.out.fr0 F12.out) (by decide)).mono ?_
    rintro e w13 ⟨v12, rfl, o12, f12⟩
    have F13 := Lib.hid (F12.out.trans0 f12)
    have HV := Lib.hid (HV0.out.keep f12)
    have HU := Lib.hid (show CoinsIs w13 v12 [coinB, coinA] from ⟨C11.out.ok, o12.slice.arg⟩)
    clear o12 f12
    refine hK'.out _ _ ?_ (fun hS => ?_)
    · exact KS.out _ F13.out
    try simp only [Act.put, List.setIfInBounds_toArray, List.set_cons_zero, List.set_cons_succ]
    refine lexT_ef1 12 (by kernel_rfl) rfl rfl (fun K' hK' => ?_)
    go_simp
    refine (sameCoins_any _ HU.out HV.out (by decide) (by decide)).mono ?_
    rintro e w14 ⟨bb, rfl, hbb, f14⟩
    obtain rfl : bb = true := hbb.2 rfl
    have F14 := Lib.hid (F13.out.trans0 f14)
    clear hbb f14
    refine hK'.out _ _ ?_ (fun hS => ?_)
    · exact KS.out _ F14.out
    try simp only [Act.put, List.setIfInBounds_toArray, List.set_cons_zero, List.set_cons_succ]
    (((first | (refine lexT_rd 13 (by kernel_rfl) rfl rfl ?_; apply Exists.intro; refine ⟨?_, ?_⟩; (focus (first | (intro w' hS; obtain ⟨s1, s2, s3⟩ := hS; go_simp; (try with_reducible rfl); done)))) | (refine lexT_sk 13 (by kernel_rfl) rfl rfl ?_)); try simp only [Act.put, List.setIfInBounds_toArray, List.set_cons_zero, List.set_cons_succ]); ((first | (refine lexT_rd 14 (by kernel_rfl) rfl rfl ?_; apply Exists.intro; refine ⟨?_, ?_⟩; (focus (first | (intro w' hS; obtain ⟨s1, s2, s3⟩ := hS; go_simp; (try with_reducible rfl); done)))) | (refine lexT_sk 14 (by kernel_rfl) rfl rfl ?_)); try simp only [Act.put, List.setIfInBounds_toArray, List.set_cons_zero, List.set_cons_succ]); ((first | (refine lexT_rd 15 (by kernel_rfl) rfl rfl ?_; apply Exists.intro; refine ⟨?_, ?_⟩; (focus (first | (intro w' hS; obtain ⟨s1, s2, s3⟩ := hS; go_simp; (try with_reducible rfl); done)))) | (refine lexT_sk 15 (by kernel_rfl) rfl rfl ?_)); try simp only [Act.put, List.setIfInBounds_toArray, List.set_cons_zero, List.set_cons_succ]))
    refine lexT_ef1 16 (by kernel_rfl) rfl rfl (fun K' hK' => ?_)
    go_simp
    refine (len_C (C11.out.fr0 F14.out)).mono ?_
    rintro e w15 ⟨rfl, f15⟩
    have F15 := Lib.hid (F14.out.trans0 f15)
    clear f15
    refine hK'.out _ _ ?_ (fun hS => ?_)
    · exact KS.out _ F15.out
    try simp only [Act.put, List.setIfInBounds_toArray, List.set_cons_zero, List.set_cons_succ]
    (((first | (refine lexT_rd 17 (by kernel_rfl) rfl rfl ?_; apply Exists.intro; refine ⟨?_, ?_⟩; (focus (first | (intro w' hS; obtain ⟨s1, s2, s3⟩ := hS; go_simp; (try with_reducible rfl); done)))) | (refine lexT_sk 17 (by kernel_rfl) rfl rfl ?_)); try simp only [Act.put, List.setIfInBounds_toArray, List.set_cons_zero, List.set_cons_succ]); ((first | (refine lexT_rd 18 (by kernel_rfl) rfl rfl ?_; apply Exists.intro; refine ⟨?_, ?_⟩; (focus (first | (intro w' hS; obtain ⟨s1, s2, s3⟩ := hS; go_simp; (try with_reducible rfl); done)))) | (refine lexT_sk 18 (by kernel_rfl) rfl rfl ?_)); try simp only [Act.put, List.setIfInBounds_toArray, List.set_cons_zero, List.set_cons_succ]); ((first | (refine lexT_rd 19 (by kernel_rfl) rfl rfl ?_; apply Exists.intro; refine ⟨?_, ?_⟩; (focus (first | (intro w' hS; obtain ⟨s1, s2, s3⟩ := hS; go_simp; (try with_reducible rfl); done)))) | (refine lexT_sk 19 (by kernel_rfl) rfl rfl ?_)); try simp only [Act.put, List.setIfInBounds_toArray, List.set_cons_zero, List.set_cons_succ]))
    refine lexT_nil (hK.out _ _ ?_)
    go_wp2
    go_ret
    exact ⟨by rfl, (C11.out.fr0 F15.out).fr⟩
end Go.Proofs.Ytoaefhjmpfchiaa
