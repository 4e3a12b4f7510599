/- pappuslaw11: heavy. -/
import Derived.Test.YtmpamcnlineceaaDoorMG26
set_option linter.unusedVariables false
set_option linter.unusedSimpArgs false
set_option linter.unnecessarySimpa false
set_option linter.all false
namespace Go.Proofs.YtmpamcnlineceaaDoor
open Go Go.RowKit Go.Maps Go.MapKept

def heavyT (t : TxD) : Bool := decide (30 < t.ins.length) || (decide (30 < t.outs.length) || t.ins.any fun x => decide (100 < x.key.length))
def heavyB (b : BlkD) : Bool := decide (30 < b.pay.length) || (decide (30 < b.txs.length) || b.txs.any heavyT)
theorem heavyB_not {b : BlkD} (h : heavyB b = false) : b.pay.length ≤ 30 ∧ b.txs.length ≤ 30 ∧ ∀ t ∈ b.txs, t.ins.length ≤ 30 ∧ t.outs.length ≤ 30 ∧ ∀ x ∈ t.ins, x.key.length ≤ 100 := by
  unfold heavyB at h
  simp only [Bool.or_eq_false_iff, decide_eq_false_iff_not, List.any_eq_false] at h
  refine ⟨by omega, by omega, fun t ht => ?_⟩
  have := h.2.2 t ht
  simp only [heavyT, Bool.or_eq_true, decide_eq_true_eq, List.any_eq_true, not_or, not_exists, not_and] at this
  exact ⟨by omega, by omega, fun x hx => by have := this.2.2 x hx; omega⟩
def HeavyOk (w : World) (b : BlkD) (e : Ending) (w' : World) : Prop := e = .returned (.bool (heavyB b)) ∧ Fr No w w'
set_option maxRecDepth 20000 in
set_option maxHeartbeats 4000000 in
theorem heavy_any (w : World) {b : BlkD} {cs : List Value} (hb : BlkQ w b cs) :
    Calls Tryd.prog 12 #[.agg cs.toArray] w (HeavyOk w b) := by
  obtain ⟨pa, pc, ta, tc, rfl, -, ho, hx⟩ := hb
  obtain ⟨dI, uI, rI⟩ := descIn
  obtain ⟨dT, uT, rT⟩ := descTx
  have zI := zeroIn1
  have zT := zeroTx3
  have F1 := Lib.hid ((Fr.refl No w).alloc (.cells #[.int .u64 b.tag, .slice pa b.pay.length pc, .slice ta b.txs.length tc] 27))
  have HX := Lib.hid (hx.keep0 F1.out)
  obtain ⟨-, c1, c2, -⟩ := row3_new w (.int .u64 b.tag) (.slice pa b.pay.length pc) (.slice ta b.txs.length tc) 27
  clear ho hx
  show Calls Tryd.prog 12 #[.agg #[.int .u64 b.tag, .slice pa b.pay.length pc, .slice ta b.txs.length tc]] w _
  by_cases h1 : 30 < b.pay.length
  · have j1 : decide ((30 : Int) < (b.pay.length : Int)) = true := by simp; omega
    have HP := Lib.hid (show ∀ w', Fr No w w' → HeavyOk w b (.returned (.bool true)) w' from fun w' f => ⟨by simp [heavyB, h1], f⟩)
    clear h1
    go_enter Tryd.func12, Tryd.ntmps12
    go_wp2
    go_ret
    exact HP.out _ F1.out
  have j1 : decide ((30 : Int) < (b.pay.length : Int)) = false := by simp; omega
  by_cases h2 : 30 < b.txs.length
  · have j2 : decide ((30 : Int) < (b.txs.length : Int)) = true := by simp; omega
    have HP := Lib.hid (show ∀ w', Fr No w w' → HeavyOk w b (.returned (.bool true)) w' from fun w' f => ⟨by simp [heavyB, h2], f⟩)
    clear h1 h2
    go_enter Tryd.func12, Tryd.ntmps12
    go_wp2
    go_ret
    exact HP.out _ F1.out
  have j2 : decide ((30 : Int) < (b.txs.length : Int)) = false := by simp; omega
  have HT := Lib.hid (show ∀ t ∈ b.txs, heavyT t = true → ∀ w', Fr No w w' → HeavyOk w b (.returned (.bool true)) w' from fun t ht hh w' f => ⟨by
    have : b.txs.any heavyT = true := List.any_eq_true.2 ⟨t, ht, hh⟩
    simp [heavyB, this], f⟩)
  have HF := Lib.hid (show (∀ t ∈ b.txs, heavyT t = false) → ∀ w', Fr No w w' → HeavyOk w b (.returned (.bool false)) w' from fun hh w' f => ⟨by
    have : b.txs.any heavyT = false := List.any_eq_false.2 (fun t ht => by rw [hh t ht]; decide)
    simp only [heavyB, this]
    simp
    omega, f⟩)
  have l30 : b.txs.length ≤ 30 := by omega
  clear h1 h2
  go_enter Tryd.func12, Tryd.ntmps12
  go_wp2
  generalize w.alloc (.cells #[.int .u64 b.tag, .slice pa b.pay.length pc, .slice ta b.txs.length tc] 27) = w1 at *
  clear c1 c2 j1 j2
  go_loopw [20] (fun iv wr => ∃ n : Nat, iv = .int .i64 n ∧ n ≤ b.txs.length ∧ (∀ t ∈ b.txs.take n, heavyT t = false) ∧ Fr No w1 wr) (fun iv _ => b.txs.length - (intOf iv).toNat)
  case atStart => exact ⟨0, rfl, Nat.zero_le _, by simp, Fr.refl _ _⟩
  case round =>
    obtain ⟨n, rfl, hn, hks, fr⟩ := hrel
    have FR := Lib.hid fr
    have HK := Lib.hid hks
    clear fr hks
    by_cases hlt : n < b.txs.length
    · have i1 : (n : Int) < (b.txs.length : Int) := by omega
      obtain ⟨t, hx⟩ : ∃ x, b.txs[n]? = some x := ⟨_, List.getElem?_eq_getElem hlt⟩
      obtain ⟨bb, off, cap, cs, hv, hr, hq⟩ := (HX.out.keep0 FR.out).at_ hx
      cases hv
      have R1 := Lib.hid hr
      obtain ⟨ia, ic, oa, oc, rfl, -, hI, -⟩ := hq
      have FA := Lib.hid ((Fr.refl No wr).alloc (.cells #[.int .u32 t.ver, .slice ia t.ins.length ic, .slice oa t.outs.length oc] 41))
      obtain ⟨-, d1, d2, -⟩ := row3_new wr (.int .u32 t.ver) (.slice ia t.ins.length ic) (.slice oa t.outs.length oc) 41
      have HI := Lib.hid (hI.keep0 FA.out)
      have FW := Lib.hid (F1.out.trans0 (FR.out.trans0 FA.out))
      have TRU := Lib.hid (HT.out t (List.mem_of_getElem? hx))
      have NXT := Lib.hid (show heavyT t = false → ∀ s ∈ b.txs.take (n + 1), heavyT s = false from fun hh s hs => by
        rw [List.take_add_one, hx] at hs
        rcases List.mem_append.1 hs with hs | hs
        · exact HK.out s hs
        · simp at hs; subst hs; exact hh)
      have FR2 := Lib.hid (FR.out.trans0 FA.out)
      have hn30 : n ≤ 30 := by omega
      clear hr hI hx
      have i2 : n < b.txs.length := hlt
      by_cases g1 : 30 < t.ins.length
      · have j1 : decide ((30 : Int) < (t.ins.length : Int)) = true := by simp; omega
        have HP := Lib.hid (TRU.out (by simp [heavyT, g1]))
        clear g1
        go_wp2_with (first | (refine wpList_value rfl (exec_load (ty := 41) rfl rfl R1.out uT rT infoTx) ?_) | (refine wpList_done rfl (exec_store_new (w := wr) (ty := 41) (cs := [.int .u32 t.ver, .slice ia t.ins.length ic, .slice oa t.outs.length oc]) rfl rfl rfl rfl infoTx (txC_one (a := ia) (b := oa))) ?_; generalize wr.alloc (.cells [.int .u32 t.ver, .slice ia t.ins.length ic, .slice oa t.outs.length oc].toArray 41) = w2 at *))
        go_ret
        exact HP.out _ FW.out
      have j1 : decide ((30 : Int) < (t.ins.length : Int)) = false := by simp; omega
      by_cases g2 : 30 < t.outs.length
      · have j2 : decide ((30 : Int) < (t.outs.length : Int)) = true := by simp; omega
        have HP := Lib.hid (TRU.out (by simp [heavyT, g2]))
        clear g1 g2
        go_wp2_with (first | (refine wpList_value rfl (exec_load (ty := 41) rfl rfl R1.out uT rT infoTx) ?_) | (refine wpList_done rfl (exec_store_new (w := wr) (ty := 41) (cs := [.int .u32 t.ver, .slice ia t.ins.length ic, .slice oa t.outs.length oc]) rfl rfl rfl rfl infoTx (txC_one (a := ia) (b := oa))) ?_; generalize wr.alloc (.cells [.int .u32 t.ver, .slice ia t.ins.length ic, .slice oa t.outs.length oc].toArray 41) = w2 at *))
        go_ret
        exact HP.out _ FW.out
      have j2 : decide ((30 : Int) < (t.outs.length : Int)) = false := by simp; omega
      have q30 : t.ins.length ≤ 30 := by omega
      have NXT2 := Lib.hid (show (∀ x ∈ t.ins, ¬ 100 < x.key.length) → ∀ s ∈ b.txs.take (n + 1), heavyT s = false from fun hh => NXT.out (by
        have : t.ins.any (fun x => decide (100 < x.key.length)) = false := List.any_eq_false.2 (fun x hx => by simpa using hh x hx)
        simp only [heavyT, this]
        simp
        omega))
      have TRU2 := Lib.hid (show ∀ x ∈ t.ins, 100 < x.key.length → ∀ w', Fr No w w' → HeavyOk w b (.returned (.bool true)) w' from fun x hx hk => TRU.out (by
        have : t.ins.any (fun x => decide (100 < x.key.length)) = true := List.any_eq_true.2 ⟨x, hx, by simpa using hk⟩
        simp [heavyT, this]))
      clear g1 g2 NXT TRU HT HF
      go_wp2_with (first | (refine wpList_value rfl (exec_load (ty := 41) rfl rfl R1.out uT rT infoTx) ?_) | (refine wpList_done rfl (exec_store_new (w := wr) (ty := 41) (cs := [.int .u32 t.ver, .slice ia t.ins.length ic, .slice oa t.outs.length oc]) rfl rfl rfl rfl infoTx (txC_one (a := ia) (b := oa))) ?_; generalize wr.alloc (.cells [.int .u32 t.ver, .slice ia t.ins.length ic, .slice oa t.outs.length oc].toArray 41) = w2 at *))
      clear d1 d2 j1 j2
      go_loopw [37] (fun iv wq => ∃ m : Nat, iv = .int .i64 m ∧ m ≤ t.ins.length ∧ (∀ x ∈ t.ins.take m, ¬ 100 < x.key.length) ∧ Fr No w2 wq) (fun iv _ => t.ins.length - (intOf iv).toNat)
      case atStart => exact ⟨0, rfl, Nat.zero_le _, by simp, Fr.refl _ _⟩
      case round =>
        obtain ⟨m, rfl, hm, hms, fq⟩ := hrel
        have FQ := Lib.hid fq
        have HM := Lib.hid hms
        clear fq hms
        by_cases hlm : m < t.ins.length
        · have i3 : (m : Int) < (t.ins.length : Int) := by omega
          obtain ⟨x, hx⟩ : ∃ x, t.ins[m]? = some x := ⟨_, List.getElem?_eq_getElem hlm⟩
          obtain ⟨b3, off3, cap3, cs3, hv3, hr3, ka, kc, rfl, pok, hkey⟩ := (HI.out.keep0 FQ.out).at_ hx
          cases hv3
          have R3 := Lib.hid hr3
          have IL := Lib.hid (inC_len pok (.slice ka x.key.length kc))
          have c33 := (in_new wr (kv := .slice ka x.key.length kc) pok).2
          have FB := Lib.hid (FQ.out.alloc (.cells (inC x.from_ (.slice ka x.key.length kc)).toArray 50))
          have MEM := Lib.hid (TRU2.out x (List.mem_of_getElem? hx))
          have HXX := Lib.hid hx
          clear hr3 hkey pok hx
          by_cases hk : 100 < x.key.length
          · have j3 : decide ((100 : Int) < (x.key.length : Int)) = true := by simp; omega
            have HP := Lib.hid (MEM.out hk)
            clear hk
            go_wp2_with (first | (refine wpList_value rfl (exec_load (ty := 50) rfl rfl R3.out uI rI (by rw [IL.out]; exact infoIn)) ?_) | (refine wpList_done rfl (exec_store_new (w := wr) (ty := 50) (cs := inC x.from_ (.slice ka x.key.length kc)) rfl rfl rfl (by rw [IL.out]; rfl) (by rw [IL.out]; exact infoIn) inC_one) ?_; generalize wr.alloc (.cells (inC x.from_ (.slice ka x.key.length kc)).toArray 50) = w3 at *))
            go_ret
            exact HP.out _ (FW.out.trans0 FB.out)
          · have j3 : decide ((100 : Int) < (x.key.length : Int)) = false := by simp; omega
            have MN := Lib.hid (show ∀ y ∈ t.ins.take (m + 1), ¬ 100 < y.key.length from fun y hy => by
              rw [List.take_add_one, HXX.out] at hy
              rcases List.mem_append.1 hy with hy | hy
              · exact HM.out y hy
              · simp at hy; subst hy; exact hk)
            clear hk
            go_wp2_with (first | (refine wpList_value rfl (exec_load (ty := 50) rfl rfl R3.out uI rI (by rw [IL.out]; exact infoIn)) ?_) | (refine wpList_done rfl (exec_store_new (w := wr) (ty := 50) (cs := inC x.from_ (.slice ka x.key.length kc)) rfl rfl rfl (by rw [IL.out]; rfl) (by rw [IL.out]; exact infoIn) inC_one) ?_; generalize wr.alloc (.cells (inC x.from_ (.slice ka x.key.length kc)).toArray 50) = w3 at *))
            go_roundw
            case rel => exact ⟨m + 1, by go_num, by omega, MN.out, FB.out⟩
            case measure => simp [intOf]; omega
        · have hme : m = t.ins.length := by omega
          have i3 : ¬ (m : Int) < (t.ins.length : Int) := by omega
          have AN := Lib.hid (NXT2.out (by
            have := HM.out
            rw [hme, List.take_length] at this
            exact this))
          go_wp2
          go_roundw
          case rel => exact ⟨n + 1, by go_num, by omega, AN.out, FR2.out.trans0 FQ.out⟩
          case measure => simp [intOf]; omega
    · have i1 : ¬ (n : Int) < (b.txs.length : Int) := by omega
      have AN := Lib.hid (HF.out (by
        have := HK.out
        rw [show n = b.txs.length by omega, List.take_length] at this
        exact this))
      go_wp2
      go_ret
      exact AN.out _ (F1.out.trans0 FR.out)
end Go.Proofs.YtmpamcnlineceaaDoor
