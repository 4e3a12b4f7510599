/- pappuslaw11: total. -/
import Derived.Test.YtmpamcnlineceaaDoorMG39
import Derived.Test.YtmpamcnlineceaaDoorMG32
set_option linter.unusedVariables false
set_option linter.unusedSimpArgs false
set_option linter.unnecessarySimpa false
set_option linter.all false
namespace Go.Proofs.YtmpamcnlineceaaDoor
open Go Go.RowKit Go.Maps Go.MapKept

/-- An own row of numbers. -/
def NRow (w : World) (B : Nat) (v : Value) (l : List Int) : Prop := w.ownsRow B 24 1 v l.length (l.map numV)
theorem append_num (w : World) {B : Nat} {v : Value} {l : List Int} {x : Int} (ho : NRow w B v l) (hn : l.length + 1 ≤ 1000000) (hB : B ≤ w.heap.size) :
    ∃ v' w', (Builtin.append_ #[86, 86] 86 #[v, .slice (some ⟨w.heap.size, 0, none⟩) 1 1]).run Tryd.prog (w.alloc (.cells #[numV x] 24)) = .ok v' w' ∧ NRow w' B v' (l ++ [x]) ∧ Fr (fun j => v.ownBlock = some j) w w' ∧ GrowTo w v v' := by
  obtain ⟨v', w', a1, a2, a3, -, a5⟩ := append_blk (P := Tryd.prog) w B 86 86 24 1 8 _ undNums infoU64Z rfl (by decide) ho [numV x] rfl (fun u hu => by simp at hu; subst hu; rfl) (by omega) (by unfold maxLen; omega) hB
  exact ⟨v', w', a1, by unfold NRow; rw [List.length_append, List.map_append]; exact a2, a3, a5⟩
theorem NRow.form {w : World} {B : Nat} {v : Value} {l : List Int} (h : NRow w B v l) : ∃ a c, v = .slice a l.length c := h.slice.arg.form
def totV (S : List CoinD) (m : List OutD) : List Int := S.map (·.out.value) ++ valsO m
set_option maxRecDepth 20000 in
set_option maxHeartbeats 4000000 in
theorem total_any {w0 w : World} {p : Nat} {V : Nat → Prop} {S : List CoinD} {bs : List DoneD} {ids : List HashD} (h : Cn w0 w p V S bs ids) (hok : ∀ c ∈ S, c.ok) (hN : S.length ≤ 50000) {v : Value} {m : List OutD} (hm : OutsIs w v m) (hM : m.length ≤ 10000) :
    Calls Tryd.prog 14 #[.pointer (some ⟨p, 0, none⟩), v] w fun e w' => e = .returned (.tuple #[.int .u64 (sumR (totV S m)), .int .i64 (sumE (totV S m))]) ∧ Fr No w w' := by
  have HM := Lib.hid hm
  have HC := Lib.hid (coinsn_any h (by omega))
  have OKS := Lib.hid hok
  obtain ⟨va, vc, rfl⟩ := hm.2.form
  obtain ⟨dC, uC, rC⟩ := descCoin
  obtain ⟨dO, uO, rO⟩ := descOut
  have zC := zeroCoin
  have zO := zeroOutC
  clear h hok hm
  go_enter Tryd.func14, Tryd.ntmps14
  have K0 := Lib.hid True.intro
  go_wp2_with (first | (have mk := K0.out; go_at_call 19; refine HC.out.mono ?_; rintro e w1 ⟨cv, rfl, o1, f1⟩; have O1 := Lib.hid o1; have F1 := Lib.hid f1; obtain ⟨ca, cc, hcv⟩ := o1.slice.arg.form; subst hcv; clear o1 f1; go_frame; clear mk K0))
  have SN0 := Lib.hid hN
  go_loopw [6, 14] (fun bv iv wr => ∃ n : Nat, iv = .int .i64 n ∧ n ≤ S.length ∧ NRow wr w1.heap.size bv ((S.take n).map (·.out.value)) ∧ Fr No w1 wr) (fun _ iv _ => S.length - (intOf iv).toNat)
  case atStart => exact ⟨0, rfl, Nat.zero_le _, World.ownsRow_nil _ _ _ 1, Fr.refl _ _⟩
  case round =>
    obtain ⟨n, rfl, hn, hb, fr⟩ := hrel
    have FR := Lib.hid fr
    have BR := Lib.hid hb
    obtain ⟨ba, bc, hbv⟩ := hb.form
    clear fr hb
    by_cases hlt : n < S.length
    · have i1 : (n : Int) < (S.length : Int) := by omega
      obtain ⟨c, hx⟩ : ∃ x, S[n]? = some x := ⟨_, List.getElem?_eq_getElem hlt⟩
      have cok := OKS.out c (List.mem_of_getElem? hx)
      have CL := Lib.hid (coinC_len cok)
      obtain ⟨g, cap, hv, hr, -⟩ := own_elem (f := coinC) (k := 66) (by decide) (fun x hx => coinC_len (OKS.out x hx)) (ownsRow_keep O1.out FR.out (fun _ _ => id)) hx
      cases hv
      have R1 := Lib.hid hr
      have FA := Lib.hid ((Fr.refl No wr).alloc (.cells (coinC c).toArray 57))
      have n1 : (wr.alloc (.cells (coinC c).toArray 57)).cell? ⟨wr.heap.size, 33, none⟩ = some (.int .u64 c.out.value) := by
        have := coin_out cok (range_new wr (coinC c) 57) 0 _ rfl
        simpa using this
      obtain ⟨v5, w5, a1, a2, a3, a4⟩ := append_num (wr.alloc (.cells (coinC c).toArray 57)) (x := c.out.value) (ownsRow_keep BR.out FA.out (fun _ _ => id)) (by simp; have := SN0.out; omega) (Nat.le_trans FR.out.size FA.out.size)
      have A1 := Lib.hid a1
      have B5 := Lib.hid (show NRow w5 w1.heap.size v5 ((S.take (n + 1)).map (·.out.value)) by rw [List.take_add_one, hx]; simpa using a2)
      have F5 := Lib.hid (show Fr No w1 w5 from (FR.out.trans0 FA.out).trans a3 (fun i hi e => by have := (BR.out.lt i e).1; omega))
      clear hr hx a1 a2 a3 a4 cok
      subst hbv
      generalize ((S.take n).map (·.out.value)).length = zz at *
      have K0 := Lib.hid True.intro
      have K1 := Lib.hid True.intro
      have K2 := Lib.hid True.intro
      go_wp2_with (first | ((with_reducible refine at_list ?_); have mk := K0.out; refine wpList_value rfl (exec_load (ty := 57) rfl rfl R1.out uC rC (by rw [CL.out]; exact infoCoin)) ?_; go_frame; clear mk K0) | ((with_reducible refine at_store ?_); have mk := K1.out; refine wpList_done rfl (exec_store_new (w := wr) (ty := 57) (cs := coinC c) rfl rfl rfl (by rw [CL.out]; rfl) (by rw [CL.out]; exact infoCoin) coinC_one) ?_; generalize wr.alloc (.cells (coinC c).toArray 57) = wA at *; go_frame; clear mk K1) | ((with_reducible refine at_list ?_); have mk := K2.out; at_builtin; refine wpList_append_run rfl rfl rfl rfl A1.out ?_; go_frame; clear mk K2))
      go_roundw
      case rel => exact ⟨n + 1, by go_num, by omega, B5.out, F5.out⟩
      case measure => simp [intOf]; omega
    · have hne : n = S.length := by omega
      have i1 : ¬ (n : Int) < (S.length : Int) := by omega
      have BF := Lib.hid (show NRow wr w1.heap.size (.slice ba ((S.take n).map (·.out.value)).length bc) (S.map (·.out.value)) by
        rw [← hbv]
        have := BR.out
        rw [hne, List.take_length] at this
        exact this)
      have FW := Lib.hid (F1.out.trans0 FR.out)
      subst hbv
      generalize ((S.take n).map (·.out.value)).length = zz at *
      clear hn hlt
      go_wp2
      go_loopw [6, 27] (fun bv iv wr => ∃ n : Nat, iv = .int .i64 n ∧ n ≤ m.length ∧ NRow wr w1.heap.size bv (S.map (·.out.value) ++ (valsO m).take n) ∧ Fr No w1 wr) (fun _ iv _ => m.length - (intOf iv).toNat)
      case atStart => exact ⟨0, rfl, Nat.zero_le _, by simpa using BF.out, FR.out⟩
      case round =>
        obtain ⟨k, rfl, hk, hb, fr⟩ := hrel
        have FQ := Lib.hid fr
        have BQ := Lib.hid hb
        obtain ⟨qa, qc, hqv⟩ := hb.form
        clear fr hb
        by_cases hlk : k < m.length
        · have i3 : (k : Int) < (m.length : Int) := by omega
          obtain ⟨o, hx⟩ : ∃ x, m[k]? = some x := ⟨_, List.getElem?_eq_getElem hlk⟩
          obtain ⟨bb, off, cap, hv, hr, -⟩ := (HM.out.keep (F1.out.trans0 FQ.out)).at_ hx
          cases hv
          have ook := HM.out.1 o (List.mem_of_getElem? hx)
          have R1 := Lib.hid hr
          have IL := Lib.hid (outC_len ook)
          have FA := Lib.hid ((Fr.refl No wr).alloc (.cells (outC o).toArray 55))
          have n1 := (out_new wr ook).1
          obtain ⟨v5, w5, a1, a2, a3, a4⟩ := append_num (wr.alloc (.cells (outC o).toArray 55)) (x := o.value) (ownsRow_keep BQ.out FA.out (fun _ _ => id)) (by simp [valsO]; have := SN0.out; omega) (Nat.le_trans FQ.out.size FA.out.size)
          have A1 := Lib.hid a1
          have e3 : (valsO m)[k]? = some o.value := by simp [valsO, hx]
          have B5 := Lib.hid (show NRow w5 w1.heap.size v5 (S.map (·.out.value) ++ (valsO m).take (k + 1)) by rw [List.take_add_one, e3]; simpa using a2)
          have F5 := Lib.hid (show Fr No w1 w5 from (FQ.out.trans0 FA.out).trans a3 (fun i hi e => by have := (BQ.out.lt i e).1; omega))
          clear hr hx a1 a2 a3 a4 ook e3
          subst hqv
          generalize (S.map (·.out.value) ++ (valsO m).take k).length = yy at *
          have K0 := Lib.hid True.intro
          have K1 := Lib.hid True.intro
          have K2 := Lib.hid True.intro
          go_wp2_with (first | ((with_reducible refine at_list ?_); have mk := K0.out; refine wpList_value rfl (exec_load (ty := 55) rfl rfl R1.out uO rO (by rw [IL.out]; exact infoOut)) ?_; go_frame; clear mk K0) | ((with_reducible refine at_store ?_); have mk := K1.out; refine wpList_done rfl (exec_store_new (w := wr) (ty := 55) (cs := outC o) rfl rfl rfl (by rw [IL.out]; rfl) (by rw [IL.out]; exact infoOut) outC_one) ?_; generalize wr.alloc (.cells (outC o).toArray 55) = wA at *; go_frame; clear mk K1) | ((with_reducible refine at_list ?_); have mk := K2.out; at_builtin; refine wpList_append_run rfl rfl rfl rfl A1.out ?_; go_frame; clear mk K2))
          go_roundw
          case rel => exact ⟨k + 1, by go_num, by omega, B5.out, F5.out⟩
          case measure => simp [intOf]; omega
        · have hke : k = m.length := by omega
          have i3 : ¬ (k : Int) < (m.length : Int) := by omega
          have BT := Lib.hid (show NRow wr w1.heap.size (.slice qa (S.map (·.out.value) ++ (valsO m).take k).length qc) (totV S m) by
            rw [← hqv]
            have := BQ.out
            rw [List.take_of_length_le (by simp [valsO]; omega)] at this
            exact this)
          have SUM := Lib.hid (calcsum_any wr (l := totV S m) BT.out.slice.arg (fun y hy => by
            rcases List.mem_append.1 hy with hy | hy
            · obtain ⟨c, hc, rfl⟩ := List.mem_map.1 hy
              exact (OKS.out c hc).2.1
            · obtain ⟨o, ho, rfl⟩ := List.mem_map.1 hy
              exact (HM.out.1 o ho).1) (by simp [totV, valsO]; have := SN0.out; omega))
          subst hqv
          generalize (S.map (·.out.value) ++ (valsO m).take k).length = yy at *
          clear hk hlk
          go_wp2_with (go_at_call 31; refine SUM.out.mono ?_; rintro e w5 ⟨rfl, f5⟩; have F5 := Lib.hid f5; clear f5)
          go_ret2
          exact ⟨rfl, F1.out.trans0 (FQ.out.trans0 F5.out)⟩
end Go.Proofs.YtmpamcnlineceaaDoor
