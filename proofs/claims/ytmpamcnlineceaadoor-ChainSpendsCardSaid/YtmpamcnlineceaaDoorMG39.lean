/- calc: Sum. -/
import Derived.Laws.Externs
import Derived.Test.YtmpamcnlineceaaDoorMG38
import Derived.Test.YtmpamcnlineceaaDoorMG3
set_option linter.unusedVariables false
set_option linter.unusedSimpArgs false
set_option linter.unnecessarySimpa false
set_option linter.all false
namespace Go.Proofs.YtmpamcnlineceaaDoor
open Go Go.RowKit Go.Maps Go.MapKept

def numV (x : Int) : Value := .int .u64 x
def sumE (l : List Int) : Int := if l.sum < 18446744073709551616 then 0 else 3
def sumR (l : List Int) : Int := if l.sum < 18446744073709551616 then l.sum else 0
set_option maxRecDepth 20000 in
set_option maxHeartbeats 4000000 in
theorem calcsum_any (w : World) {v : Value} {l : List Int} (hl : ArgIs w v l.length (l.map numV)) (ok : ∀ x ∈ l, 0 ≤ x ∧ x ≤ 18446744073709551615) (hN : l.length ≤ 100000) :
    Calls Tryd.prog 31 #[v] w fun e w' => e = .returned (.tuple #[.int .u64 (sumR l), .int .i64 (sumE l)]) ∧ Fr No w w' := by
  have HL := Lib.hid hl
  have OK := Lib.hid ok
  have POS := Lib.hid (show ∀ n, n ≤ l.length → 0 ≤ (l.take n).sum ∧ (l.take n).sum ≤ 18446744073709551615 * (n : Int) from fun n => by
    induction n with
    | zero => intro _; simp
    | succ n ih =>
      intro hn
      have h1 := ih (by omega)
      have hx : l[n]? = some l[n] := List.getElem?_eq_getElem (by omega)
      have h2 := ok l[n] (List.getElem_mem _)
      rw [List.take_add_one, hx]
      simp only [Option.toList_some, List.sum_append, List.sum_cons, List.sum_nil]
      omega)
  obtain ⟨va, vc, rfl⟩ := hl.form
  clear hl ok
  go_enter Tryd.func31, Tryd.ntmps31
  go_wp2
  go_loopw [4, 5, 12] (fun hv lv iv wr => ∃ n : Nat, iv = .int .i64 n ∧ n ≤ l.length ∧ hv = .int .u64 ((l.take n).sum / 18446744073709551616) ∧ lv = .int .u64 ((l.take n).sum % 18446744073709551616) ∧ Fr No w wr) (fun _ _ iv _ => l.length - (intOf iv).toNat)
  case atStart => exact ⟨0, rfl, Nat.zero_le _, by simp, by simp, Fr.refl _ _⟩
  case round =>
    obtain ⟨n, rfl, hn, rfl, rfl, fr⟩ := hrel
    have FR := Lib.hid fr
    clear fr
    have PN := POS.out n hn
    generalize hT : (l.take n).sum = T at *
    by_cases hlt : n < l.length
    · have i1 : (n : Int) < (l.length : Int) := by omega
      obtain ⟨x, hx⟩ : ∃ x, l[n]? = some x := ⟨_, List.getElem?_eq_getElem hlt⟩
      have XOK := OK.out x (List.mem_of_getElem? hx)
      have SN := Lib.hid (show (l.take (n + 1)).sum = T + x by rw [List.take_add_one, hx, ← hT]; simp)
      have hcell : ∃ b off cap, Value.slice va l.length vc = .slice (some ⟨b, off, none⟩) l.length cap ∧ wr.cell? ⟨b, off + n, none⟩ = some (.int .u64 x) := by
        rcases HL.out.keep FR.out with (⟨e, h, -⟩ | ⟨b, off, cap, e, h1, h2, h3, h4⟩) | ⟨a, cap, e, h, -⟩
        · omega
        · exact ⟨b, off, cap, e, h3 n _ (by rw [List.getElem?_map, hx]; rfl)⟩
        · omega
      obtain ⟨b, off, cap, hv, hc⟩ := hcell
      cases hv
      have E1 := Lib.hid (show (T % 18446744073709551616 + x + 0) % 18446744073709551616 = (T + x) % 18446744073709551616 by omega)
      have E2 := Lib.hid (show T / 18446744073709551616 + (T % 18446744073709551616 + x) / 18446744073709551616 = (T + x) / 18446744073709551616 by omega)
      have L0 : 0 ≤ T % 18446744073709551616 := by omega
      have X0 := XOK.1
      clear hx hT
      go_wp2
      rw [run_callFunc_extern Tryd.func45 (by kernel_rfl) (by kernel_rfl) (by kernel_rfl) (e := add64Entry) (by kernel_rfl), run_add64 _ x 0 L0 X0 (by omega) (by omega)]
      simp only [Result.andThen]
      rw [Oper.upon_value]
      rw [E1.out]
      go_wp2
      go_roundw
      case rel => exact ⟨n + 1, by go_num, by omega, by rw [SN.out]; exact congrArg (Value.int .u64) E2.out, by rw [SN.out], FR.out⟩
      case measure => simp [intOf]; omega
    · have hne : n = l.length := by omega
      have i1 : ¬ (n : Int) < (l.length : Int) := by omega
      have hS : l.sum = T := by rw [← hT, hne, List.take_length]
      by_cases ho : T < 18446744073709551616
      · have HE := Lib.hid (show sumE l = 0 ∧ sumR l = T by unfold sumE sumR; rw [hS, if_pos ho, if_pos ho]; exact ⟨rfl, rfl⟩)
        have jz : (T / 18446744073709551616 == 0) = true := by rw [beq_iff_eq]; omega
        have jm : T % 18446744073709551616 = T := by omega
        clear hS ho hT
        go_wp2
        go_ret2
        exact ⟨by rw [HE.out.1, HE.out.2]; rfl, FR.out⟩
      · have HE := Lib.hid (show sumE l = 3 ∧ sumR l = 0 by unfold sumE sumR; rw [hS, if_neg ho, if_neg ho]; exact ⟨rfl, rfl⟩)
        have jz : (T / 18446744073709551616 == 0) = false := by rw [beq_eq_false_iff_ne]; omega
        clear hS ho hT
        go_wp2
        go_ret2
        exact ⟨by rw [HE.out.1, HE.out.2]; rfl, FR.out⟩
end Go.Proofs.YtmpamcnlineceaaDoor

/- fee: Of. -/
namespace Go.Proofs.YtmpamcnlineceaaDoor
open Go Go.RowKit Go.Maps Go.MapKept

/-- Do the keys open the locks? -/
def opens : List InD → List OutD → Bool
  | x :: I, o :: O => decide (shaSum x.key = o.lock) && opens I O
  | _, _ => true
def valsO (l : List OutD) : List Int := l.map (·.value)
def feeE (t : TxD) (prev : List OutD) : Int :=
  if checkE t = 0 then
    (if prev.length = t.ins.length then
      (if opens t.ins prev = true then
        (if (valsO prev).sum < 18446744073709551616 then (if sumO t.outs ≤ (valsO prev).sum then 0 else 11) else 11)
       else 13)
     else 2)
  else checkE t
def feeR (t : TxD) (prev : List OutD) : Int := if feeE t prev = 0 then (valsO prev).sum - sumO t.outs else 0
theorem opens_at : ∀ {I : List InD} {O : List OutD}, opens I O = true ↔ ∀ (i : Nat) (x : InD) (o : OutD), I[i]? = some x → O[i]? = some o → shaSum x.key = o.lock
  | [], O => by simp [opens]
  | x :: I, [] => by simp [opens]
  | x :: I, o :: O => by
    simp only [opens, Bool.and_eq_true, decide_eq_true_eq, opens_at (I := I) (O := O)]
    constructor
    · rintro ⟨h1, h2⟩ i y p hy hp
      cases i with
      | zero => simp at hy hp; subst hy; subst hp; exact h1
      | succ i => exact h2 i y p (by simpa using hy) (by simpa using hp)
    · intro h
      exact ⟨h 0 x o rfl rfl, fun i y p hy hp => h (i + 1) y p (by simpa using hy) (by simpa using hp)⟩
theorem infoU64Z : (Tryd.prog.info? 24).map (fun i => (i.zero, i.size, i.bytes)) = some (some (.int .u64 0), 1, 8) := by kernel_rfl
theorem undNums : Tryd.prog.underlying 86 = some (.slice 24) := by kernel_rfl
/-- The values filled up to n. -/
def valC (l : List OutD) (n : Nat) : List Value := ((valsO l).take n).map numV ++ List.replicate (l.length - n) (numV 0)
theorem valC_len (l : List OutD) {n : Nat} (h : n ≤ l.length) : (valC l n).length = l.length := by simp [valC, valsO]; omega
theorem valC_set (l : List OutD) {n : Nat} {o : OutD} (h : l[n]? = some o) : (valC l n).toArray.setIfInBounds n (numV o.value) = (valC l (n + 1)).toArray := by
  have hn := (List.getElem?_eq_some_iff.1 h).1
  rw [List.setIfInBounds_toArray]
  congr 1
  have e1 : l.length - n = (l.length - (n + 1)) + 1 := by omega
  have e2 : (((valsO l).take n).map numV).length = n := by simp [valsO]; omega
  unfold valC
  rw [e1, List.replicate_succ, List.set_append_right _ _ (by rw [e2]; exact Nat.le_refl _), e2, Nat.sub_self, List.set_cons_zero, List.take_add_one]
  have e3 : (valsO l)[n]? = some o.value := by simp [valsO, h]
  rw [e3]
  simp
theorem sumO_nn : ∀ {l : List OutD}, (∀ x ∈ l, 0 ≤ x.value) → 0 ≤ sumO l
  | [], _ => by simp [sumO]
  | x :: l, h => by
    have := sumO_nn (l := l) (fun y hy => h y (.tail _ hy))
    have h2 := h x (.head _)
    have e : sumO (x :: l) = x.value + sumO l := by simp [sumO]
    omega
theorem sumO_mono {l : List OutD} (h : ∀ x ∈ l, 0 ≤ x.value) (n : Nat) : sumO (l.take n) ≤ sumO l := by
  have e : sumO (l.take n ++ l.drop n) = sumO (l.take n) + sumO (l.drop n) := by simp only [sumO, List.map_append, List.sum_append]
  rw [List.take_append_drop] at e
  have := sumO_nn (l := l.drop n) (fun x hx => h x (List.mem_of_mem_drop hx))
  omega
def FeeOk (w : World) (t : TxD) (prev : List OutD) (e : Ending) (w' : World) : Prop := e = .returned (.tuple #[.int .u64 (feeR t prev), .int .i64 (feeE t prev)]) ∧ Fr No w w'
theorem fee_bad {t : TxD} {prev : List OutD} {w : World} {E : Int} (h : feeE t prev = E) (hE : E ≠ 0) : ∀ w', Fr No w w' → FeeOk w t prev (.returned (.tuple #[.int .u64 0, .int .i64 E])) w' := fun w' f => by
  refine ⟨?_, f⟩
  have : feeR t prev = 0 := by unfold feeR; rw [h, if_neg hE]
  rw [this, h]
set_option maxRecDepth 20000 in
set_option maxHeartbeats 4000000 in
theorem feeof_any {w : World} (hg : ShaW w) {t : TxD} {cs : List Value} (ht : TxQ w t cs) {v : Value} {prev : List OutD} (hp : OutsIs w v prev) (hN : prev.length ≤ 1000) :
    Calls Tryd.prog 58 #[.agg cs.toArray, v] w (FeeOk w t prev) := by
  have HG := Lib.hid hg
  have HT := Lib.hid ht
  have HP := Lib.hid hp
  obtain ⟨ia, ic, oa, oc, rfl, hv, hi, ho⟩ := ht
  obtain ⟨va, vc, rfl⟩ := hp.2.form
  obtain ⟨dO, uO, rO⟩ := descOut
  obtain ⟨dT, uT, rT⟩ := descTx
  obtain ⟨dH, uH, rH⟩ := descHash
  have zO := zeroOutC
  have F1 := Lib.hid ((Fr.refl No w).alloc (.cells #[.int .u32 t.ver, .slice ia t.ins.length ic, .slice oa t.outs.length oc] 41))
  obtain ⟨-, c1, c2, r0⟩ := tx_new w t.ver (.slice ia t.ins.length ic) (.slice oa t.outs.length oc)
  have C1 := Lib.hid c1
  have C2 := Lib.hid c2
  have R0 := Lib.hid r0
  have HC := Lib.hid (check_any (w.alloc (.cells #[.int .u32 t.ver, .slice ia t.ins.length ic, .slice oa t.outs.length oc] 41)) (HT.out.keep F1.out))
  clear hi ho hv c1 c2 r0 hp hg
  show Calls Tryd.prog 58 #[.agg #[.int .u32 t.ver, .slice ia t.ins.length ic, .slice oa t.outs.length oc], .slice va prev.length vc] w _
  by_cases hck : checkE t = 0
  rotate_left
  · have BAD := Lib.hid (fee_bad (t := t) (prev := prev) (w := w) (E := checkE t) (by unfold feeE; rw [if_neg hck]) hck)
    have jz : (checkE t == 0) = false := by rw [beq_eq_false_iff_ne]; exact hck
    clear hck
    go_enter Tryd.func58, Tryd.ntmps58
    have K0 := Lib.hid True.intro
    have K1 := Lib.hid True.intro
    go_wp2_with (first | ((with_reducible refine at_list ?_); have mk := K0.out; refine wpList_value rfl (exec_load (ty := 41) rfl rfl R0.out uT rT infoTx) ?_; generalize w.alloc (.cells #[.int .u32 t.ver, .slice ia t.ins.length ic, .slice oa t.outs.length oc] 41) = w1 at *; go_frame; clear mk K0) | (have mk := K1.out; go_at_call 46; refine HC.out.mono ?_; rintro e w2 ⟨rfl, f2⟩; have F12 := Lib.hid f2; clear f2; go_frame; clear mk K1))
    go_ret2
    exact BAD.out _ (F1.out.trans0 F12.out)
  have hi8 : t.ins.length ≤ 8 := by
    unfold checkE at hck
    split at hck
    · rename_i h; exact (formB_iff.1 h).2.1
    · cases hck
  have HKB := Lib.hid (show ∀ x ∈ t.ins, x.key.length ≤ 64 by
    have hck2 := hck
    unfold checkE at hck2
    split at hck2
    · rename_i h; exact (formB_iff.1 h).1
    · cases hck2)
  by_cases hlen : prev.length = t.ins.length
  rotate_left
  · have BAD := Lib.hid (fee_bad (t := t) (prev := prev) (w := w) (E := 2) (by unfold feeE; rw [if_pos hck, if_neg hlen]) (by decide))
    have jl : ¬ (prev.length : Int) = (t.ins.length : Int) := by omega
    have jl2 : ((prev.length : Int) == (t.ins.length : Int)) = false := by rw [beq_eq_false_iff_ne]; exact jl
    unfold CheckOk at HC
    rw [hck] at HC
    clear hck hlen
    go_enter Tryd.func58, Tryd.ntmps58
    have K0 := Lib.hid True.intro
    have K1 := Lib.hid True.intro
    go_wp2_with (first | ((with_reducible refine at_list ?_); have mk := K0.out; refine wpList_value rfl (exec_load (ty := 41) rfl rfl R0.out uT rT infoTx) ?_; generalize w.alloc (.cells #[.int .u32 t.ver, .slice ia t.ins.length ic, .slice oa t.outs.length oc] 41) = w1 at *; go_frame; clear mk K0) | (have mk := K1.out; go_at_call 46; refine HC.out.mono ?_; rintro e w2 ⟨rfl, f2⟩; have F12 := Lib.hid f2; clear f2; have d1 := F12.out.cell C1.out id; go_frame; clear mk K1))
    go_ret2
    exact BAD.out _ (F1.out.trans0 F12.out)
  have jl2 : ((prev.length : Int) == (t.ins.length : Int)) = true := by rw [beq_iff_eq]; omega
  have jl3 : ((prev.length : Int) != (t.ins.length : Int)) = false := by rw [bne, jl2]; rfl
  obtain ⟨iK, hiK, hz, hsz, hby⟩ := info_parts infoU64Z
  have MK := Lib.hid (fun (w3 : World) => run_makeSlice_full (P := Tryd.prog) (w := w3) w3.heap.size 86 24 iK _ 1 undNums hiK hz hsz .i64 .i64 prev.length (by omega) (by rw [hby]; omega) (by unfold maxLen; omega) (Nat.le_refl _))
  have FE := Lib.hid (show feeE t prev = if opens t.ins prev = true then (if (valsO prev).sum < 18446744073709551616 then (if sumO t.outs ≤ (valsO prev).sum then 0 else 11) else 11) else 13 by unfold feeE; rw [if_pos hck, if_pos hlen])
  have HLEN := Lib.hid hlen
  unfold CheckOk at HC
  rw [hck] at HC
  clear hiK hz hsz hby hck hlen
  go_enter Tryd.func58, Tryd.ntmps58
  have K0 := Lib.hid True.intro
  have K1 := Lib.hid True.intro
  go_wp2_with (first | ((with_reducible refine at_list ?_); have mk := K0.out; refine wpList_value rfl (exec_load (ty := 41) rfl rfl R0.out uT rT infoTx) ?_; generalize w.alloc (.cells #[.int .u32 t.ver, .slice ia t.ins.length ic, .slice oa t.outs.length oc] 41) = w1 at *; go_frame; clear mk K0) | (have mk := K1.out; go_at_call 46; refine HC.out.mono ?_; rintro e w2 ⟨rfl, f2⟩; have F12 := Lib.hid f2; clear f2; have d1 := F12.out.cell C1.out id; obtain ⟨w4, hmk, ho4, hg4⟩ := MK.out w2; have f24 : Fr No w2 w4 := Fr.of_grown hg4 (fun k e => by cases e); have F24 := Lib.hid f24; have HO4 := Lib.hid ho4; clear hg4 ho4 f24; go_frame; clear mk K1))
  have F4 := Lib.hid (F1.out.trans0 (F12.out.trans0 F24.out))
  have F14 := Lib.hid (F12.out.trans0 F24.out)
  have GL := Lib.hid (show w2.heap.size < w4.heap.size from (HO4.out.lt _ rfl).2)
  have WL := Lib.hid (show w.heap.size < w2.heap.size by have h1 := World.block_lt_of_cell? _ _ C1.out; have h2 := F12.out.size; simp only at h1; omega)
  clear hmk
  generalize w2.heap.size = g at *
  clear d1
  have jn : prev.length ≤ 1000 := hN
  go_loopw [30] (fun iv wr => ∃ (n : Nat) (xs : List Value), iv = .int .i64 n ∧ n ≤ prev.length ∧ (∀ i, i < n → ∀ x o, t.ins[i]? = some x → prev[i]? = some o → shaSum x.key = o.lock) ∧ wr.ownsRow g 24 1 (.slice (some ⟨g, 0, none⟩) prev.length prev.length) prev.length xs ∧ xs.take n = ((valsO prev).take n).map numV ∧ Fr (fun j => j = g) w4 wr) (fun iv _ => prev.length - (intOf iv).toNat)
  case atStart => exact ⟨0, _, rfl, Nat.zero_le _, (fun i hi => by omega), HO4.out, by simp, Fr.refl _ _⟩
  case round =>
    obtain ⟨n, xs, rfl, hn, hop, hor, hxs, fr⟩ := hrel
    have FR := Lib.hid fr
    have OP := Lib.hid hop
    have HOR := Lib.hid hor
    have HXS := Lib.hid hxs
    have FW := Lib.hid (show Fr No w wr from F4.out.trans fr (fun i hi e => by have := WL.out; omega))
    clear fr hop hor hxs
    by_cases hlt : n < prev.length
    · have i1 : (n : Int) < (prev.length : Int) := by omega
      have i2 : (n : Int) < (t.ins.length : Int) := by have := HLEN.out; omega
      obtain ⟨o, hx⟩ : ∃ x, prev[n]? = some x := ⟨_, List.getElem?_eq_getElem hlt⟩
      obtain ⟨x, hy⟩ : ∃ x, t.ins[n]? = some x := ⟨_, List.getElem?_eq_getElem (by have := HLEN.out; omega)⟩
      obtain ⟨bb, off, cap, hv, hr, -⟩ := (HP.out.keep FW.out).at_ hx
      cases hv
      have ook := HP.out.1 o (List.mem_of_getElem? hx)
      obtain ⟨ia2, ic2, oa2, oc2, e2, -, hi2, -⟩ := HT.out.keep FW.out
      simp only [txC, List.cons.injEq, and_true] at e2
      obtain ⟨-, e2, -⟩ := e2
      injection e2 with e21 _ e23
      subst e21; subst e23
      obtain ⟨b3, off3, cap3, cs3, hv3, hr3, ka, kc, rfl, pok, hkey⟩ := hi2.at_ hy
      cases hv3
      have R1 := Lib.hid hr
      have IL := Lib.hid (outC_len ook)
      have KC := Lib.hid (show wr.cell? ⟨b3, off3 + n * 34 + 33, none⟩ = some (.slice ka x.key.length kc) from (in_at hr3 pok).2)
      have KY := Lib.hid hkey
      have LKN := Lib.hid ook.2
      have fA := ((Fr.refl No wr).alloc (.cells (outC o).toArray 55)).drew
      have FA := Lib.hid fA
      have fAr := (Fr.refl No wr).alloc (.cells (outC o).toArray 55)
      have FAR := Lib.hid fAr
      obtain ⟨n1, n2⟩ := out_new wr ook
      have N1 := Lib.hid n1
      have N2 := Lib.hid n2
      have XW := Lib.hid (FR.out.cell (F14.out.cell C1.out id) (fun e => by have e2 : w.heap.size = g := e; have := WL.out; omega))
      have HXX := Lib.hid hx
      have HYY := Lib.hid hy
      have LOCK := Lib.hid (lock_any (HG.out.keep0 (FW.out.trans0 fA)) ((hkey.keep fA).2) (by have := HKB.out x (List.mem_of_getElem? hy); omega))
      have SOK := Lib.hid (shaSum_ok x.key)
      have QX := Lib.hid (show wr.heap.size < (wr.alloc (.cells (outC o).toArray 55)).drew.heap.size by show wr.heap.size < (wr.alloc (.cells (outC o).toArray 55)).heap.size; simp)
      have KS := Lib.hid (show ∀ w', Fr No (wr.alloc (.cells (outC o).toArray 55)).drew w' → w'.cell? ⟨w.heap.size, 1, none⟩ = some (.slice (some ⟨b3, off3, none⟩) t.ins.length ic) ∧ w'.cell? ⟨b3, off3 + n * 34 + 33, none⟩ = some (.slice ka x.key.length kc) ∧ w'.rangeAt wr.heap.size 1 (hashC o.lock) from fun w' f => ⟨f.cell (FA.out.cell XW.out id) id, f.cell (FA.out.cell KC.out id) id, range_keep (range_keep N2.out (Fr.refl No _).drew id) f id⟩)
      have OPN := Lib.hid (show shaSum x.key ≠ o.lock → opens t.ins prev = false from fun hne => by
        cases ho : opens t.ins prev with
        | false => rfl
        | true => exact absurd (opens_at.1 ho n x o hy hx) hne)
      have TF := Lib.hid (show ((valsO prev).take (n + 1)).map numV = ((valsO prev).take n).map numV ++ [numV o.value] by
        have e3 : (valsO prev)[n]? = some o.value := by simp [valsO, hx]
        rw [List.take_add_one, e3]
        simp)
      have OPS := Lib.hid (show shaSum x.key = o.lock → ∀ i, i < n + 1 → ∀ x' o', t.ins[i]? = some x' → prev[i]? = some o' → shaSum x'.key = o'.lock from fun he i hi x' o' h1 h2 => by
        by_cases hin : i < n
        · exact OP.out i hin x' o' h1 h2
        · obtain rfl : i = n := by omega
          rw [hy] at h1; rw [hx] at h2
          cases h1; cases h2
          exact he)
      have HORA := Lib.hid (ownsRow_keep HOR.out fA (fun _ _ => id))
      clear hr hr3 hkey pok hi2 fA fAr n1 n2 hx hy ook
      go_wp2_with (first | (refine wpList_value rfl (exec_load (ty := 55) rfl rfl R1.out uO rO (by rw [IL.out]; exact infoOut)) ?_) | (refine wpList_done rfl (exec_store_new (w := wr) (ty := 55) (cs := outC o) rfl rfl rfl (by rw [IL.out]; rfl) (by rw [IL.out]; exact infoOut) outC_one) ?_))
      refine wp_region_lexL [false, false, false, false, false, false, true, false, false, false] (fun w' => w'.cell? ⟨w.heap.size, 1, none⟩ = some (.slice (some ⟨b3, off3, none⟩) t.ins.length ic) ∧ w'.cell? ⟨b3, off3 + n * 34 + 33, none⟩ = some (.slice ka x.key.length kc) ∧ w'.rangeAt wr.heap.size 1 (hashC o.lock)) (by kernel_rfl) (by kernel_rfl) ?_ (fun K hK => ?_)
      · exact KS.out _ (Fr.refl _ _)
      repeat (first | ((first | with_reducible refine lexL_read ?_ | ((with_reducible refine lexL_readG ?_ ?_); (focus rfl))); apply Exists.intro; refine ⟨?_, ?_⟩; (focus (first | (intro w' hS; obtain ⟨s1, s2, s3⟩ := hS; go_simp; (try with_reducible rfl); done))); try simp only [Act.put, List.setIfInBounds_toArray, List.set_cons_zero, List.set_cons_succ]) | ((first | ((with_reducible refine lexL_skip (c := false) ?_ ?_ ?_); (focus rfl); (focus rfl)) | ((with_reducible refine lexL_skip (c := true) ?_ ?_ ?_); (focus rfl); (focus rfl)) | ((with_reducible refine lexL_skipU ?_ ?_); (focus rfl))); try simp only [Act.put, List.setIfInBounds_toArray, List.set_cons_zero, List.set_cons_succ]))
      (first | with_reducible refine lexL_eff (fun K' hK' => ?_) | ((with_reducible refine lexL_effG ?_ (fun K' hK' => ?_)); (focus rfl)))
      go_simp
      refine LOCK.out.mono ?_
      rintro e wz ⟨rfl, fz⟩
      have FZ := Lib.hid fz
      have FWZ := Lib.hid (show Fr (fun j => j = g) w4 wz from (FR.out.trans0 FA.out).trans0 fz)
      have FTZ := Lib.hid ((FW.out.trans0 FA.out).trans0 fz)
      have N1Z := fz.cell ((Fr.refl No _).drew.cell N1.out id) id
      have HOZ := Lib.hid (ownsRow_keep HORA.out fz (fun _ _ => id))
      clear fz
      refine hK'.out _ _ ?_ (fun hS => ?_)
      · exact KS.out _ FZ.out
      try simp only [Act.put, List.setIfInBounds_toArray, List.set_cons_zero, List.set_cons_succ]
      by_cases heq : shaSum x.key = o.lock
      · repeat (first | ((first | with_reducible refine lexL_read ?_ | ((with_reducible refine lexL_readG ?_ ?_); (focus rfl))); apply Exists.intro; refine ⟨?_, ?_⟩; (focus (first | exact lex_load (ty := 45) rfl (fun w h => h.2.2) uH rH (by rw [hashC_len LKN.out]; exact infoHash) | exact fun w' _ => eqHash.exec_neq rfl (u := (hashC (shaSum x.key)).toArray) (v := (hashC o.lock).toArray) rfl rfl (keyOfHash SOK.out) (keyOfHash LKN.out) true (by rw [heq]; simp) w' | (intro w' hS; obtain ⟨s1, s2, s3⟩ := hS; go_simp; (try with_reducible rfl); done))); try simp only [Act.put, List.setIfInBounds_toArray, List.set_cons_zero, List.set_cons_succ]) | ((first | ((with_reducible refine lexL_skip (c := false) ?_ ?_ ?_); (focus rfl); (focus rfl)) | ((with_reducible refine lexL_skip (c := true) ?_ ?_ ?_); (focus rfl); (focus rfl)) | ((with_reducible refine lexL_skipU ?_ ?_); (focus rfl))); try simp only [Act.put, List.setIfInBounds_toArray, List.set_cons_zero, List.set_cons_succ]))
        refine lexL_nil (hK.out _ _ ?_)
        have OPZ := Lib.hid (OPS.out heq)
        obtain ⟨tk1, tk2⟩ := own_there HOZ.out hlt 0 (by decide)
        obtain ⟨u0, tk3⟩ := Option.isSome_iff_exists.1 tk1
        simp only [Nat.mul_one, Nat.add_zero] at tk2 tk3
        have HO6 := Lib.hid (own_setAt HOZ.out n (cs := [numV o.value]) (by simp; omega))
        have HX6 := Lib.hid (show (setM xs n [numV o.value]).take (n + 1) = ((valsO prev).take (n + 1)).map numV by
          have h1 := setM_pre xs [numV o.value] n (by rw [HOZ.out.1]; simp; omega)
          simp only [List.length_singleton] at h1
          rw [h1, HXS.out, TF.out])
        have F6 := Lib.hid (show Fr (fun j => j = g) w4 (wz.setCells g n [numV o.value]) from FWZ.out.trans (setCells_fr g [numV o.value] n wz) (fun _ _ h => h))
        clear tk1 heq
        go_wp2_with fail
        go_roundw
        case rel => exact ⟨n + 1, _, by go_num, by omega, OPZ.out, HO6.out, HX6.out, F6.out⟩
        case measure => simp [intOf]; omega
      · repeat (first | ((first | with_reducible refine lexL_read ?_ | ((with_reducible refine lexL_readG ?_ ?_); (focus rfl))); apply Exists.intro; refine ⟨?_, ?_⟩; (focus (first | exact lex_load (ty := 45) rfl (fun w h => h.2.2) uH rH (by rw [hashC_len LKN.out]; exact infoHash) | exact fun w' _ => eqHash.exec_neq rfl (u := (hashC (shaSum x.key)).toArray) (v := (hashC o.lock).toArray) rfl rfl (keyOfHash SOK.out) (keyOfHash LKN.out) false (by simp only [Bool.false_eq_true, false_iff]; intro h; exact heq (hashC_inj (by simpa using congrArg Array.toList h))) w' | (intro w' hS; obtain ⟨s1, s2, s3⟩ := hS; go_simp; (try with_reducible rfl); done))); try simp only [Act.put, List.setIfInBounds_toArray, List.set_cons_zero, List.set_cons_succ]) | ((first | ((with_reducible refine lexL_skip (c := false) ?_ ?_ ?_); (focus rfl); (focus rfl)) | ((with_reducible refine lexL_skip (c := true) ?_ ?_ ?_); (focus rfl); (focus rfl)) | ((with_reducible refine lexL_skipU ?_ ?_); (focus rfl))); try simp only [Act.put, List.setIfInBounds_toArray, List.set_cons_zero, List.set_cons_succ]))
        refine lexL_nil (hK.out _ _ ?_)
        have BAD := Lib.hid (fee_bad (t := t) (prev := prev) (w := w) (E := 13) (by rw [FE.out, OPN.out heq]; rfl) (by decide))
        clear heq
        go_wp2_with fail
        go_ret2
        exact BAD.out _ FTZ.out
    · have hne : n = prev.length := by omega
      have i1 : ¬ (n : Int) < (prev.length : Int) := by omega
      have hopen : opens t.ins prev = true := opens_at.2 (fun i x o h1 h2 => OP.out i (by have := (List.getElem?_eq_some_iff.1 h2).1; omega) x o h1 h2)
      rw [hopen] at FE
      have hxe : xs = (valsO prev).map numV := by
        have h1 := HXS.out
        rw [hne, List.take_of_length_le (by rw [HOR.out.1]; omega), List.take_of_length_le (by simp [valsO])] at h1
        exact h1
      have VL := Lib.hid (show (valsO prev).length = prev.length by simp [valsO])
      have SUM := Lib.hid (calcsum_any wr (v := .slice (some ⟨g, 0, none⟩) prev.length prev.length) (l := valsO prev) (by rw [VL.out, ← hxe]; exact HOR.out.slice.arg) (fun y hy => by
        obtain ⟨o, ho, rfl⟩ := List.mem_map.1 hy
        exact (HP.out.1 o ho).1) (by rw [VL.out]; omega))
      have OV := Lib.hid (show ∀ x ∈ t.outs, x.ok from (HT.out.oks).2)
      have XW := Lib.hid (FR.out.cell (F14.out.cell C2.out id) (fun e => by have e2 : w.heap.size = g := e; have := WL.out; omega))
      obtain ⟨S0, hS0'⟩ : ∃ S0, S0 = (valsO prev).sum := ⟨_, rfl⟩
      have hS0 := hS0'.symm
      have hS1 := Lib.hid hS0
      rw [hS0] at FE
      have HE1 := Lib.hid (show S0 < 18446744073709551616 → sumE (valsO prev) = 0 ∧ sumR (valsO prev) = S0 from fun h => by unfold sumE sumR; rw [hS0, if_pos h, if_pos h]; exact ⟨rfl, rfl⟩)
      have HE2 := Lib.hid (show ¬ S0 < 18446744073709551616 → sumE (valsO prev) = 3 ∧ sumR (valsO prev) = 0 from fun h => by unfold sumE sumR; rw [hS0, if_neg h, if_neg h]; exact ⟨rfl, rfl⟩)
      have S0N := Lib.hid (show 0 ≤ S0 by
        rw [← hS0]
        exact sumO_nn (l := prev) (fun x hx => (HP.out.1 x hx).1.1))
      clear hopen hxe jn hS0 hS0'
      by_cases hov : S0 < 18446744073709551616
      rotate_left
      · have BAD := Lib.hid (fee_bad (t := t) (prev := prev) (w := w) (E := 11) (by rw [FE.out, if_pos rfl, if_neg hov]) (by decide))
        have hEE := HE2.out hov
        rw [hEE.1, hEE.2] at SUM
        clear hov hEE hlt hn
        go_wp2_with (go_at_call 31; refine SUM.out.mono ?_; rintro e w5 ⟨rfl, f5⟩; have F5 := Lib.hid f5; clear f5)
        go_ret2
        exact BAD.out _ (FW.out.trans0 F5.out)
      have hEE := HE1.out hov
      rw [hEE.1, hEE.2] at SUM
      have FEE := Lib.hid (show feeE t prev = if sumO t.outs ≤ S0 then 0 else 11 by rw [FE.out, if_pos rfl, if_pos hov])
      have HOV := Lib.hid hov
      clear hEE hlt hn
      have hol : t.outs.length ≤ 9223372036854775807 := by
        obtain ⟨_, _, _, _, _, _, _, ho2⟩ := HT.out
        exact Nat.le_trans ho2.2.len (by unfold maxLen; decide)
      go_wp2_with (go_at_call 31; refine SUM.out.mono ?_; rintro e w5 ⟨rfl, f5⟩; have F5 := Lib.hid (FW.out.trans0 f5); have yy := f5.cell XW.out id; clear f5)
      clear yy
      go_loopw [10, 61] (fun lv iv wr => ∃ n : Nat, iv = .int .i64 n ∧ n ≤ t.outs.length ∧ lv = .int .u64 (S0 - sumO (t.outs.take n)) ∧ sumO (t.outs.take n) ≤ S0 ∧ Fr No w5 wr) (fun _ iv _ => t.outs.length - (intOf iv).toNat)
      case atStart => exact ⟨0, rfl, Nat.zero_le _, by simp [sumO], by simpa [sumO] using S0N.out, Fr.refl _ _⟩
      case round =>
        obtain ⟨k, rfl, hk, rfl, hle, fr⟩ := hrel
        have FQ := Lib.hid (F5.out.trans0 fr)
        have FR5 := Lib.hid fr
        have NN := sumO_nn (l := t.outs.take k) (fun x hx => (OV.out x (List.mem_of_mem_take hx)).1.1)
        clear fr
        by_cases hlk : k < t.outs.length
        · have i3 : (k : Int) < (t.outs.length : Int) := by omega
          obtain ⟨x, hx⟩ : ∃ x, t.outs[k]? = some x := ⟨_, List.getElem?_eq_getElem hlk⟩
          have SN := Lib.hid (sumO_snoc hx)
          have MO := Lib.hid (sumO_mono (l := t.outs) (fun x hx => (OV.out x hx).1.1) (k + 1))
          obtain ⟨_, _, oa2, oc2, e2, -, -, ho2⟩ := HT.out.keep FQ.out
          simp only [txC, List.cons.injEq, and_true] at e2
          obtain ⟨-, -, e2⟩ := e2
          injection e2 with e21 _ e23
          subst e21; subst e23
          obtain ⟨bb, off, cap, hv, hr, -⟩ := ho2.at_ hx
          cases hv
          have ook := OV.out x (List.mem_of_getElem? hx)
          have R1 := Lib.hid hr
          have IL := Lib.hid (outC_len ook)
          have FA := Lib.hid ((Fr.refl No wr).alloc (.cells (outC x).toArray 55))
          have n1 := (out_new wr ook).1
          have vv := ook.1
          have hov2 := HOV.out
          clear hr hx ook ho2
          generalize hT : sumO (t.outs.take k) = T at *
          by_cases hlx : S0 - T < x.value
          · have BAD := Lib.hid (fee_bad (t := t) (prev := prev) (w := w) (E := 11) (by rw [FEE.out, if_neg (by have := MO.out; have := SN.out; omega)]) (by decide))
            have jx : decide (S0 - T < x.value) = true := by simpa using hlx
            clear vv NN hle
            have K0 := Lib.hid True.intro
            have K1 := Lib.hid True.intro
            go_wp2_with (first | ((with_reducible refine at_list ?_); have mk := K0.out; refine wpList_value rfl (exec_load (ty := 55) rfl rfl R1.out uO rO (by rw [IL.out]; exact infoOut)) ?_; go_frame; clear mk K0) | ((with_reducible refine at_store ?_); have mk := K1.out; refine wpList_done rfl (exec_store_new (w := wr) (ty := 55) (cs := outC x) rfl rfl rfl (by rw [IL.out]; rfl) (by rw [IL.out]; exact infoOut) outC_one) ?_; generalize wr.alloc (.cells (outC x).toArray 55) = wA at *; go_frame; clear mk K1))
            go_ret2
            exact BAD.out _ (FQ.out.trans0 FA.out)
          · have jx : ¬ S0 - T < x.value := hlx
            have es : (S0 - T - x.value) % 18446744073709551616 = S0 - T - x.value := by omega
            have ES := Lib.hid (show S0 - T - x.value = S0 - sumO (t.outs.take (k + 1)) by rw [SN.out]; omega)
            have LE2 := Lib.hid (show sumO (t.outs.take (k + 1)) ≤ S0 by rw [SN.out]; omega)
            clear vv NN hle hlx
            have K0 := Lib.hid True.intro
            have K1 := Lib.hid True.intro
            go_wp2_with (first | ((with_reducible refine at_list ?_); have mk := K0.out; refine wpList_value rfl (exec_load (ty := 55) rfl rfl R1.out uO rO (by rw [IL.out]; exact infoOut)) ?_; go_frame; clear mk K0) | ((with_reducible refine at_store ?_); have mk := K1.out; refine wpList_done rfl (exec_store_new (w := wr) (ty := 55) (cs := outC x) rfl rfl rfl (by rw [IL.out]; rfl) (by rw [IL.out]; exact infoOut) outC_one) ?_; generalize wr.alloc (.cells (outC x).toArray 55) = wA at *; go_frame; clear mk K1))
            go_roundw
            case rel => exact ⟨k + 1, by go_num, by omega, by rw [← ES.out], LE2.out, FR5.out.trans0 FA.out⟩
            case measure => simp [intOf]; omega
        · have hke : k = t.outs.length := by omega
          have i3 : ¬ (k : Int) < (t.outs.length : Int) := by omega
          have est : t.outs.take k = t.outs := by rw [hke, List.take_length]
          rw [est] at hle
          have GOOD := Lib.hid (show FeeOk w t prev (.returned (.tuple #[.int .u64 (S0 - sumO t.outs), .int .i64 0])) wr from ⟨by
            have h1 : feeE t prev = 0 := by rw [FEE.out, if_pos hle]
            have h2 : feeR t prev = S0 - sumO t.outs := by unfold feeR; rw [if_pos h1, hS1.out]
            rw [h1, h2], FQ.out⟩)
          rw [est]
          clear hle NN est
          go_wp2
          go_ret2
          exact GOOD.out
end Go.Proofs.YtmpamcnlineceaaDoor
