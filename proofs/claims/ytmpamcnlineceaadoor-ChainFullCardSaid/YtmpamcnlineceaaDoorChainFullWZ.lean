/- ChainFull: the walk. -/
import Derived.Test.YtmpamcnlineceaaDoorMG33
set_option linter.unusedVariables false
set_option linter.unusedSimpArgs false
set_option linter.unnecessarySimpa false
set_option linter.all false
namespace Go.Proofs.YtmpamcnlineceaaDoor
open Go Go.RowKit Go.Maps Go.MapKept

def emptyB (t : Int) : BlkD := ⟨t, [], []⟩
def emptyD (t : Int) : DoneD := ⟨emptyB t, [], [⟨[], []⟩]⟩
def bsN (n : Nat) : List DoneD := (List.range n).map fun (i : Nat) => emptyD (i : Int)
theorem bsN_len (n : Nat) : (bsN n).length = n := by simp [bsN]
theorem bsN_succ (n : Nat) : bsN (n + 1) = bsN n ++ [emptyD (n : Int)] := by simp [bsN, List.range_succ]
theorem putE_nil (S : List CoinD) : putE S [] = 0 := by simp [putE]
theorem putS_nil (S : List CoinD) : putS S [] = S := by simp [putS, putE_nil, putC]
theorem takeS_nil (S : List CoinD) : takeS S [] = S := by simp [takeS, takeE, takeC]
theorem empty_ok (t : Int) : blkOk (emptyB t) = true ∧ (emptyB t).pay.any badV = false ∧ payD (emptyB t) = [] := ⟨by simp [blkOk, emptyB], rfl, rfl⟩
theorem empty_conn (S : List CoinD) (bs : List DoneD) (t : Int) : (bs.length < 1024 → conn0E S bs (emptyB t) = 0 ∧ conn0S S bs (emptyB t) = S ∧ conn0B S bs (emptyB t) = bs ++ [emptyD t]) ∧ (1024 ≤ bs.length → conn0E S bs (emptyB t) = 18 ∧ conn0S S bs (emptyB t) = S ∧ conn0B S bs (emptyB t) = bs) := by
  obtain ⟨h1, h2, h3⟩ := empty_ok t
  constructor
  · intro h
    have hE : conn0E S bs (emptyB t) = 0 := by
      unfold conn0E
      rw [if_neg (by omega), if_pos h1, h2, if_neg (by decide)]
      unfold R0
      rw [h3, if_pos (putE_nil S)]
    refine ⟨hE, ?_, ?_⟩
    · unfold conn0S
      rw [if_pos hE, h3, putS_nil]
    · unfold conn0B
      rw [if_pos hE, h3]
      rfl
  · intro h
    have hE : conn0E S bs (emptyB t) = 18 := by
      unfold conn0E
      rw [if_pos h]
    refine ⟨hE, ?_, ?_⟩
    · unfold conn0S
      rw [if_neg (by rw [hE]; decide)]
    · unfold conn0B
      rw [if_neg (by rw [hE]; decide)]
theorem empty_undo (S : List CoinD) (t : Int) : undoS (emptyD t).chg S = S ∧ tookN (emptyD t).chg = 0 := ⟨by show putS (takeS S []) [] = S; rw [takeS_nil, putS_nil], rfl⟩
theorem bldBt (t : Int) (w : World) : (Instr.build 27 #[(0, .int .u64 t)]).run Tryd.prog w = .ok (.agg [.int .u64 t, .slice none 0 0, .slice none 0 0].toArray) w := by kernel_rfl
theorem emptyQ (w : World) {t : Int} (h : 0 ≤ t ∧ t ≤ 18446744073709551615) : BlkQ w (emptyB t) [.int .u64 t, .slice none 0 0, .slice none 0 0] := ⟨none, 0, none, 0, rfl, h, ⟨(fun x hx => by cases hx), .inl (.inl ⟨rfl, rfl, rfl⟩)⟩, RowsIs.nil⟩
theorem exec_min {P : Program} {ev : Operand → Value} {o : Oper} {w : World} {ts : Array TypeId} {x y : Operand} {a b v : Value} (ho : o.op = .call { callee := .builtin .min, args := #[x, y], argTypes := ts }) (h1 : ev x = a) (h2 : ev y = b) (hr : (Builtin.min_ ts o.type #[a, b]).run P w = .ok v w) : (execOp ev o).run P w = .ok (.value v) w := by
  simp [execOp, ho, resolve, h1, h2, invoke, builtin, hr, Result.andThen]
theorem min_at {P : Program} (ts : Array TypeId) (t : TypeId) (w : World) (j : Nat) : (Builtin.min_ ts t #[.int .i64 (j : Int), .int .i64 1024]).run P w = .ok (.int .i64 ((min j 1024 : Nat) : Int)) w := by
  rw [run_min_int2]
  congr 2
  split <;> omega
set_option maxRecDepth 20000 in
set_option maxHeartbeats 4000000 in
theorem fullLaw_any {w : World} (hg : ShaW w) {n : Nat} (hn : n ≤ 65535) {v : Value} {l : List OutD} (hl : OutsIs w v l) :
    Calls Tryd.prog 5 #[.int .u16 n, v] w fun e w' => e = .returned (.bool true) ∧ Fr No w w' := by
  have HG := Lib.hid hg
  have HL := Lib.hid hl
  have AL := Lib.hid (aliven_any hg)
  have zB := zeroBlk
  obtain ⟨va, vc, rfl⟩ := hl.2.form
  clear hg hl
  by_cases h256 : 256 < l.length
  · have j1 : decide ((256 : Int) < (l.length : Int)) = true := by simp; omega
    clear h256
    go_enter Tryd.func5, Tryd.ntmps5
    go_wp2_with (go_at_call 10; refine AL.out.mono ?_; rintro e w1 ⟨rfl, f1⟩; have F1 := Lib.hid f1; clear f1)
    go_ret
    exact ⟨rfl, F1.out⟩
  have j1 : decide ((256 : Int) < (l.length : Int)) = false := by simp; omega
  obtain ⟨k, hk⟩ : ∃ k, k = n % 1100 := ⟨_, rfl⟩
  have k1 : k < 1100 := by omega
  have e1 : (n : Int) % 1100 = (k : Int) := by omega
  have e2 : Int.tmod (n : Int) 1100 = (k : Int) := by rw [Int.tmod_eq_emod_of_nonneg (by omega)]; exact e1
  have L256 := Lib.hid (show l.length ≤ 256 by omega)
  clear h256 hk
  have SL := Lib.hid (show (putC [] (payC hash0 l)).length = l.length by rw [(putC_perm _ _).length_eq, List.nil_append, payC_len])
  have NEW := Lib.hid (fun (w' : World) (f : Fr No w w') => newn_any w' (HL.out.keep f) L256.out)
  generalize putC [] (payC hash0 l) = S0 at *
  go_enter Tryd.func5, Tryd.ntmps5
  have K0 := Lib.hid True.intro
  have K1 := Lib.hid True.intro
  go_wp2_with (first | (have mk := K0.out; go_at_call 10; refine AL.out.mono ?_; rintro e w1 ⟨rfl, f1⟩; have F1 := Lib.hid f1; clear f1; go_frame; clear mk K0) | (have mk := K1.out; go_at_call 17; refine (NEW.out w1 F1.out).mono ?_; rintro e w2 ⟨p, rfl, V, hc⟩; have C2 := Lib.hid (hc.base F1.out); clear hc; go_frame; clear mk K1))
  go_loopw [28] (fun iv wr => ∃ (j : Nat) (V' : Nat → Prop), iv = .int .i64 j ∧ j ≤ k ∧ Cn w wr p V' S0 (bsN (min j 1024)) []) (fun iv _ => k - (intOf iv).toNat)
  case atStart => exact ⟨0, V, rfl, Nat.zero_le _, C2.out⟩
  case round =>
    obtain ⟨j, V', rfl, hj, hc⟩ := hrel
    have C := Lib.hid hc
    clear hc
    by_cases hlt : j < k
    · have i1 : (j : Int) < (k : Int) := by omega
      have e64 : (j : Int) % 18446744073709551616 = (j : Int) := by omega
      have BL := Lib.hid (bsN_len (min j 1024))
      have CON := Lib.hid (conn0_any HG.out C.out (emptyQ wr (t := j) (by omega)) rfl (by rw [SL.out]; have := L256.out; omega) (by rw [BL.out]; omega))
      by_cases hb : j < 1024
      · have j2 : decide ((1024 : Int) ≤ (j : Int)) = false := by simp; omega
        obtain ⟨q1, q2, q3⟩ := (empty_conn S0 (bsN (min j 1024)) (j : Int)).1 (by rw [BL.out]; omega)
        rw [q1, q2, q3, show min j 1024 = j by omega, ← bsN_succ] at CON
        have HM := Lib.hid (show min (j + 1) 1024 = j + 1 by omega)
        clear q1 q2 q3 hb
        have K0 := Lib.hid True.intro
        have K1 := Lib.hid True.intro
        go_wp2_with (first | ((with_reducible refine at_list ?_); have mk := K0.out; with_reducible refine at_dst 36 ?_; refine wpList_value rfl (exec_bld (t := 27) rfl rfl (bldBt _ _)) ?_; go_frame; clear mk K0) | (have mk := K1.out; go_at_call 15; refine CON.out.mono ?_; rintro e w4 ⟨rfl, V4, c4⟩; have C4 := Lib.hid c4; clear c4; go_frame; clear mk K1))
        go_roundw
        case rel => exact ⟨j + 1, V4, by go_num, by omega, by rw [HM.out]; exact C4.out⟩
        case measure => simp [intOf]; omega
      · have j2 : decide ((1024 : Int) ≤ (j : Int)) = true := by simp; omega
        obtain ⟨q1, q2, q3⟩ := (empty_conn S0 (bsN (min j 1024)) (j : Int)).2 (by rw [BL.out]; omega)
        rw [q1, q2, q3, show min j 1024 = 1024 by omega] at CON
        have HM := Lib.hid (show min (j + 1) 1024 = 1024 by omega)
        clear q1 q2 q3 hb
        have K0 := Lib.hid True.intro
        have K1 := Lib.hid True.intro
        go_wp2_with (first | ((with_reducible refine at_list ?_); have mk := K0.out; with_reducible refine at_dst 36 ?_; refine wpList_value rfl (exec_bld (t := 27) rfl rfl (bldBt _ _)) ?_; go_frame; clear mk K0) | (have mk := K1.out; go_at_call 15; refine CON.out.mono ?_; rintro e w4 ⟨rfl, V4, c4⟩; have C4 := Lib.hid c4; clear c4; go_frame; clear mk K1))
        go_roundw
        case rel => exact ⟨j + 1, V4, by go_num, by omega, by rw [HM.out]; exact C4.out⟩
        case measure => simp [intOf]; omega
    · have hjk : j = k := by omega
      subst hjk
      have i1 : ¬ (j : Int) < (j : Int) := by omega
      obtain ⟨m, hm⟩ : ∃ m, m = min j 1024 := ⟨_, rfl⟩
      rw [← hm] at C
      have BL := Lib.hid (bsN_len m)
      have CO := Lib.hid (fun w' (f : Fr No wr w') => coinsn_any (C.out.fr0 f) (by rw [SL.out]; have := L256.out; omega))
      rw [SL.out] at CO
      by_cases h0 : j = 0
      · have hm0 : m = 0 := by omega
        subst hm0
        have jz : ((j : Int) == 0) = true := by simp [h0]
        have hmin : min (j : Int) 1024 = 0 := by omega
        clear hm j1 e1 e2 k1 h0 hj hlt
        have DN := Lib.hid (fun w' (f : Fr No wr w') => discn_none (C.out.fr0 f))
        have K0 := Lib.hid True.intro
        have K1 := Lib.hid True.intro
        have K2 := Lib.hid True.intro
        have K3 := Lib.hid True.intro
        go_wp2_with (first | (have mk := K0.out; go_at_call 18; refine (heightn_any C.out).mono ?_; rintro e w4 ⟨rfl, hw4⟩; rw [hw4, BL.out]; go_frame; clear mk K0) | (have mk := K1.out; go_at_call 19; refine (CO.out wr (Fr.refl _ _)).mono ?_; rintro e w5 ⟨cv, rfl, o5, f5⟩; obtain ⟨ca, cc, hcv⟩ := o5.slice.arg.form; subst hcv; have F5 := Lib.hid f5; clear o5 f5; go_frame; clear mk K1) | (have mk := K2.out; go_at_call 20; refine (DN.out w5 F5.out).mono ?_; rintro e w6 ⟨rfl, f6⟩; have F6 := Lib.hid (F5.out.trans0 f6); clear f6; have F7 := Lib.hid (F6.out.trans0 ((Fr.refl No w6).alloc (.cells blkz.toArray 27))); go_frame; clear mk K2) | ((with_reducible refine at_store ?_); have mk := K3.out; refine wpList_done rfl (exec_store_new (w := w6) (ty := 27) (cs := blkz) rfl rfl rfl rfl infoBlk blkz_one) ?_; go_frame; clear mk K3))
        go_ret
        exact ⟨rfl, C.out.fr.trans0 F7.out⟩
      · obtain ⟨m', hm'⟩ : ∃ m', m = m' + 1 := ⟨m - 1, by omega⟩
        have CD := Lib.hid (show Cn w wr p V' S0 (bsN m' ++ [emptyD m']) [] by rw [← bsN_succ, ← hm']; exact C.out)
        have EU := Lib.hid (empty_undo S0 (m' : Int))
        have DN := Lib.hid (fun w' (f : Fr No wr w') => discn_any (CD.out.fr0 f) (by rw [bsN_len]; omega) (by rw [EU.out.2, SL.out]; have := L256.out; omega) (by simp [emptyD]) (by simp [emptyD]))
        have BL' := Lib.hid (bsN_len m')
        have em : (m' : Int) % 18446744073709551616 = (m' : Int) := by omega
        have emm : (m' : Int) + 1 - 1 = (m' : Int) := by omega
        have BLM := Lib.hid (show ((bsN m).length : Int) = (m' : Int) + 1 by rw [bsN_len]; omega)
        have hmin : min (j : Int) 1024 = (m : Int) := by omega
        have ECON := Lib.hid ((empty_conn S0 (bsN m') 0).1 (by rw [bsN_len]; omega)).1
        clear j1 e1 e2 k1 h0
        have jz : ((j : Int) == 0) = false := by simp; omega
        have em2 : ((m : Int) - 1) % 18446744073709551616 = (m' : Int) := by omega
        have em3 : (m : Int) - 1 = (m' : Int) := by omega
        replace BLM := Lib.hid (show ((bsN m).length : Int) = (m : Int) by rw [bsN_len])
        clear hm em emm hj hlt hm'
        have K0 := Lib.hid True.intro
        have K1 := Lib.hid True.intro
        have K2 := Lib.hid True.intro
        have K3 := Lib.hid True.intro
        have K4 := Lib.hid True.intro
        have K5 := Lib.hid True.intro
        go_wp2_with (first | (have mk := K0.out; go_at_call 18; refine (heightn_any C.out).mono ?_; rintro e w4 ⟨rfl, hw4⟩; rw [hw4, BLM.out]; go_frame; clear mk K0) | (have mk := K1.out; go_at_call 19; refine (CO.out wr (Fr.refl _ _)).mono ?_; rintro e w5 ⟨cv, rfl, o5, f5⟩; obtain ⟨ca, cc, hcv⟩ := o5.slice.arg.form; subst hcv; have F5 := Lib.hid f5; clear o5 f5; go_frame; clear mk K1) | (have mk := K2.out; go_at_call 20; refine (DN.out w5 F5.out).mono ?_; rintro e w6 ⟨bcs, V6, rfl, c6, k6⟩; rw [EU.out.1] at c6; obtain ⟨pa, pc, ta, tc, hbcs⟩ := k6.now.form; subst hbcs; have C6 := Lib.hid c6; clear c6 k6; have FA := Lib.hid ((Fr.refl No w6).alloc (.cells [.int .u64 (m' : Int), .slice pa 0 pc, .slice ta 0 tc].toArray 27)); have C7 := Lib.hid (C6.out.fr0 FA.out); have cz := (row3_new w6 (.int .u64 (m' : Int)) (.slice pa 0 pc) (.slice ta 0 tc) 27).1; go_frame; clear mk K2) | ((with_reducible refine at_store ?_); have mk := K3.out; refine wpList_done rfl (exec_store_new (w := w6) (ty := 27) (cs := [.int .u64 (m' : Int), .slice pa 0 pc, .slice ta 0 tc]) rfl rfl rfl rfl infoBlk (fun u hu => by simp only [List.mem_cons, List.not_mem_nil, or_false] at hu; rcases hu with rfl | rfl | rfl <;> rfl)) ?_; generalize w6.alloc (.cells #[.int .u64 (m' : Int), .slice pa 0 pc, .slice ta 0 tc] 27) = w7 at *; go_frame; clear mk K3) | ((with_reducible refine at_dst 76 ?_); have mk := K4.out; refine wpList_vG (o := ⟨some 76, _, _, _, _, _⟩) rfl (exec_bld (t := 27) rfl rfl (bldBlk0 _)) ?_; go_frame; clear mk K4) | (have mk := K5.out; go_at_call 15; refine (conn0_any HG.out C7.out (b := emptyB 0) (cs := blkz) (emptyQ w7 (by decide)) rfl (by rw [SL.out]; have := L256.out; omega) (by rw [BL'.out]; omega)).mono ?_; rintro e w8 ⟨rfl, V8, c8⟩; rw [ECON.out]; have C8 := Lib.hid c8; clear c8; go_frame; clear mk K5))
        go_ret
        exact ⟨rfl, C8.out.fr⟩
end Go.Proofs.YtmpamcnlineceaaDoor
