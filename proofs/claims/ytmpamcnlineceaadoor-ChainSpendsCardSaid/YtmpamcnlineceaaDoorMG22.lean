/- tx: fixed, form. -/
import Derived.Test.YtmpamcnlineceaaDoorMG21
set_option linter.unusedVariables false
set_option linter.unusedSimpArgs false
set_option linter.unnecessarySimpa false
set_option linter.all false
namespace Go.Proofs.YtmpamcnlineceaaDoor
open Go Go.RowKit Go.Maps Go.MapKept

/-- A number's lowest bytes, the lowest first. -/
def leB : Nat → Int → List Int
  | 0, _ => []
  | n + 1, x => x % 256 :: leB n (x / 256)
theorem leB_len : ∀ (n : Nat) (x : Int), (leB n x).length = n
  | 0, _ => rfl
  | n + 1, x => by simp [leB, leB_len n]
theorem leB_ok : ∀ (n : Nat) (x : Int), ∀ b ∈ leB n x, 0 ≤ b ∧ b ≤ 255
  | 0, _, b, h => by cases h
  | n + 1, x, b, h => by
    rcases List.mem_cons.1 h with rfl | h
    · omega
    · exact leB_ok n _ b h
def shrN : Nat → Int → Int
  | 0, x => x
  | n + 1, x => shrN n (x / 256)
theorem shrN_snoc : ∀ (n : Nat) (x : Int), shrN (n + 1) x = shrN n x / 256
  | 0, _ => rfl
  | n + 1, x => by rw [shrN, shrN_snoc n (x / 256)]; rfl
theorem leB_snoc : ∀ (n : Nat) (x : Int), leB (n + 1) x = leB n x ++ [shrN n x % 256]
  | 0, _ => rfl
  | n + 1, x => by rw [leB, leB_snoc n (x / 256)]; rfl
theorem shrN_ok : ∀ (n : Nat) {x : Int}, 0 ≤ x ∧ x ≤ 18446744073709551615 → 0 ≤ shrN n x ∧ shrN n x ≤ 18446744073709551615
  | 0, _, h => h
  | n + 1, x, h => by
    rw [shrN_snoc]
    have := shrN_ok n h
    omega
set_option maxRecDepth 20000 in
set_option maxHeartbeats 4000000 in
theorem fixed_any {w : World} {B : Nat} {v : Value} {l : List Int} (ho : BRow w B v l) (hB : B ≤ w.heap.size) {x : Int} (hx : 0 ≤ x ∧ x ≤ 18446744073709551615) {n : Nat} (hn : n ≤ 8) (hl : l.length ≤ 100000) :
    Calls Tryd.prog 53 #[v, .int .u64 x, .int .i64 n] w fun e w' => ∃ v', e = .returned v' ∧ BRow w' B v' (l ++ leB n x) ∧ Fr (fun j => v.ownBlock = some j) w w' ∧ GrowTo w v v' := by
  have HO := Lib.hid ho
  have HX := Lib.hid hx
  have HB := Lib.hid hB
  have HLN := Lib.hid hl
  obtain ⟨va, vc, rfl⟩ := ho.form
  clear ho hx hB hl
  go_enter Tryd.func53, Tryd.ntmps53
  go_wp2
  go_loopw [0, 1, 8] (fun bv xv iv wr => ∃ k : Nat, iv = .int .i64 k ∧ k ≤ n ∧ xv = .int .u64 (shrN k x) ∧ BRow wr B bv (l ++ leB k x) ∧ Fr (fun j => Value.ownBlock (.slice va l.length vc) = some j) w wr ∧ GrowTo w (.slice va l.length vc) bv) (fun _ _ iv _ => n - (intOf iv).toNat)
  case atStart => exact ⟨0, rfl, Nat.zero_le _, rfl, by simpa [leB] using HO.out, Fr.refl _ _, fun k hk => .inl hk⟩
  case round =>
    obtain ⟨k, rfl, hk, rfl, ho, fr, gt⟩ := hrel
    have HOr := Lib.hid ho
    have FR := Lib.hid fr
    have GT := Lib.hid gt
    obtain ⟨ba, bc, rfl⟩ := ho.form
    clear ho fr gt
    by_cases hlt : k < n
    rotate_left
    · have hke : k = n := by omega
      subst hke
      have i1 : ¬ (k : Int) < (k : Int) := by omega
      have HF := Lib.hid (show ∃ v', (Value.slice ba (l ++ leB k x).length bc) = v' ∧ BRow wr B v' (l ++ leB k x) ∧ Fr (fun j => Value.ownBlock (.slice va l.length vc) = some j) w wr ∧ GrowTo w (.slice va l.length vc) v' from ⟨_, rfl, HOr.out, FR.out, GT.out⟩)
      generalize hL : (l ++ leB k x).length = m at *
      go_wp2
      go_ret
      obtain ⟨v', e, h⟩ := HF.out
      exact ⟨v', by rw [← e]; rfl, h⟩
    · have i1 : (k : Int) < (n : Int) := by omega
      have hs := shrN_ok k HX.out
      have L1 := Lib.hid (show (l ++ leB k x).length ≤ 100008 by rw [List.length_append, leB_len]; have := HLN.out; omega)
      obtain ⟨v2, w2, a1, a2, a3, a4⟩ := append_byte wr (x := shrN k x % 256) HOr.out (by have := L1.out; omega) (Nat.le_trans HB.out FR.out.size) 48
      have A1 := Lib.hid a1
      have A2 := Lib.hid (show BRow w2 B v2 (l ++ leB (k + 1) x) by rw [leB_snoc, ← List.append_assoc]; exact a2)
      have A3 := Lib.hid (FR.out.trans a3 (fun i hi e => (GT.out i e).resolve_right (by omega)))
      have A4 := Lib.hid (show GrowTo w (.slice va l.length vc) v2 from fun j hj => (a4 j hj).elim (fun e => GT.out j e) (fun e => .inr (Nat.le_trans FR.out.size e)))
      have SN := Lib.hid (shrN_snoc k x)
      clear a1 a2 a3 a4
      generalize l ++ leB k x = L at *
      go_wp2_with (first | (at_builtin; refine wpList_append_run rfl rfl rfl rfl A1.out ?_))
      go_roundw
      case rel => exact ⟨k + 1, by go_num, by omega, by rw [SN.out], A2.out, A3.out, A4.out⟩
      case measure => simp [intOf]; omega
def formB (t : TxD) : Bool := t.ins.all (fun x => decide (x.key.length ≤ 64)) && (decide (t.ins.length ≤ 8) && decide (t.outs.length ≤ 8))
/-- A new input. -/
theorem in_new (w : World) {p : PointD} {kv : Value} (ok : p.ok) : (w.alloc (.cells (inC p kv).toArray 50)).rangeAt w.heap.size 0 (pointC p) ∧ (w.alloc (.cells (inC p kv).toArray 50)).cell? ⟨w.heap.size, 33, none⟩ = some kv := by
  have := in_at (range_new w (inC p kv) 50) ok
  simpa using this
theorem tx_new (w : World) (v : Int) (iv ov : Value) : (w.alloc (.cells #[.int .u32 v, iv, ov] 41)).cell? ⟨w.heap.size, 0, none⟩ = some (.int .u32 v) ∧ (w.alloc (.cells #[.int .u32 v, iv, ov] 41)).cell? ⟨w.heap.size, 1, none⟩ = some iv ∧ (w.alloc (.cells #[.int .u32 v, iv, ov] 41)).cell? ⟨w.heap.size, 2, none⟩ = some ov ∧ (w.alloc (.cells #[.int .u32 v, iv, ov] 41)).rangeAt w.heap.size 0 [.int .u32 v, iv, ov] := by
  have := range_new w [.int .u32 v, iv, ov] 41
  exact ⟨by simpa using this 0 _ rfl, by simpa using this 1 _ rfl, by simpa using this 2 _ rfl, this⟩
set_option maxRecDepth 20000 in
set_option maxHeartbeats 4000000 in
theorem form_any (w : World) {t : TxD} {cs : List Value} (ht : TxQ w t cs) :
    Calls Tryd.prog 52 #[.agg cs.toArray] w fun e w' => e = .returned (.bool (formB t)) ∧ Fr No w w' := by
  obtain ⟨ia, ic, oa, oc, rfl, -, hi, -⟩ := ht
  obtain ⟨dI, uI, rI⟩ := descIn
  have zI := zeroIn1
  have F1 := Lib.hid ((Fr.refl No w).alloc (.cells #[.int .u32 t.ver, .slice ia t.ins.length ic, .slice oa t.outs.length oc] 41))
  obtain ⟨-, c1, c2, -⟩ := tx_new w t.ver (.slice ia t.ins.length ic) (.slice oa t.outs.length oc)
  have C1 := Lib.hid c1
  have C2 := Lib.hid c2
  have HI := Lib.hid (hi.keep0 F1.out)
  have hil : t.ins.length ≤ 9223372036854775807 := Nat.le_trans hi.len (by unfold maxLen; decide)
  clear hi
  show Calls Tryd.prog 52 #[.agg #[.int .u32 t.ver, .slice ia t.ins.length ic, .slice oa t.outs.length oc]] w _
  go_enter Tryd.func52, Tryd.ntmps52
  go_wp2
  generalize w.alloc (.cells #[.int .u32 t.ver, .slice ia t.ins.length ic, .slice oa t.outs.length oc] 41) = w1 at *
  generalize w.heap.size = q at *
  clear c1 c2
  go_loopw [8] (fun iv wr => ∃ n : Nat, iv = .int .i64 n ∧ n ≤ t.ins.length ∧ (∀ x ∈ t.ins.take n, x.key.length ≤ 64) ∧ Fr No w1 wr) (fun iv _ => t.ins.length - (intOf iv).toNat)
  case atStart => exact ⟨0, rfl, Nat.zero_le _, by simp, Fr.refl _ _⟩
  case round =>
    obtain ⟨n, rfl, hn, hks, fr⟩ := hrel
    have FR := Lib.hid fr
    have HK := Lib.hid hks
    clear fr hks
    by_cases hlt : n < t.ins.length
    · have i1 : (n : Int) < (t.ins.length : Int) := by omega
      obtain ⟨x, hx⟩ : ∃ x, t.ins[n]? = some x := ⟨_, List.getElem?_eq_getElem hlt⟩
      obtain ⟨b, off, cap, cs, hv, hr, ka, kc, rfl, pok, hkey⟩ := (HI.out.keep0 FR.out).at_ hx
      cases hv
      have R1 := Lib.hid hr
      have OK := Lib.hid pok
      have IL := Lib.hid (inC_len pok (.slice ka x.key.length kc))
      have c33 := (in_new wr (kv := .slice ka x.key.length kc) pok).2
      have FA := Lib.hid (FR.out.alloc (.cells (inC x.from_ (.slice ka x.key.length kc)).toArray 50))
      have HX := Lib.hid hx
      clear hr hkey pok hx
      by_cases hk : 64 < x.key.length
      · have j1 : decide ((64 : Int) < (x.key.length : Int)) = true := by simp; omega
        have HF := Lib.hid (show formB t = false by
          have : t.ins.all (fun x => decide (x.key.length ≤ 64)) = false := by
            rw [List.all_eq_false]
            exact ⟨x, List.mem_of_getElem? HX.out, by simp; omega⟩
          simp [formB, this])
        clear hk
        go_wp2_with (first | (refine wpList_value rfl (exec_load (ty := 50) rfl rfl R1.out uI rI (by rw [IL.out]; exact infoIn)) ?_) | (refine wpList_done rfl (exec_store_new (w := wr) (ty := 50) (cs := inC x.from_ (.slice ka x.key.length kc)) rfl rfl rfl (by rw [IL.out]; rfl) (by rw [IL.out]; exact infoIn) inC_one) ?_; generalize wr.alloc (.cells (inC x.from_ (.slice ka x.key.length kc)).toArray 50) = w2 at *))
        go_ret
        exact ⟨by rw [HF.out]; rfl, F1.out.trans0 FA.out⟩
      · have j1 : decide ((64 : Int) < (x.key.length : Int)) = false := by simp; omega
        have HN := Lib.hid (show ∀ e ∈ t.ins.take (n + 1), e.key.length ≤ 64 from fun e he => by
          rw [List.take_add_one, HX.out] at he
          rcases List.mem_append.1 he with he | he
          · exact HK.out e he
          · simp at he; subst he; omega)
        clear hk
        go_wp2_with (first | (refine wpList_value rfl (exec_load (ty := 50) rfl rfl R1.out uI rI (by rw [IL.out]; exact infoIn)) ?_) | (refine wpList_done rfl (exec_store_new (w := wr) (ty := 50) (cs := inC x.from_ (.slice ka x.key.length kc)) rfl rfl rfl (by rw [IL.out]; rfl) (by rw [IL.out]; exact infoIn) inC_one) ?_; generalize wr.alloc (.cells (inC x.from_ (.slice ka x.key.length kc)).toArray 50) = w2 at *))
        go_roundw
        case rel => exact ⟨n + 1, by go_num, by omega, HN.out, FA.out⟩
        case measure => simp [intOf]; omega
    · have i1 : ¬ (n : Int) < (t.ins.length : Int) := by omega
      have c1 := FR.out.cell C1.out id
      have c2 := FR.out.cell C2.out id
      have hall : t.ins.all (fun x => decide (x.key.length ≤ 64)) = true := by
        rw [List.all_eq_true]
        intro x hx
        rw [show n = t.ins.length by omega, List.take_length] at HK
        simpa using HK.out x hx
      have HF := Lib.hid (show formB t = (decide (t.ins.length ≤ 8) && decide (t.outs.length ≤ 8)) by simp [formB, hall])
      have FE := Lib.hid (F1.out.trans0 FR.out)
      clear hall
      by_cases h8 : t.ins.length ≤ 8
      · have j1 : decide ((t.ins.length : Int) ≤ 8) = true := by simp; omega
        by_cases h9 : t.outs.length ≤ 8
        · have j2 : decide ((t.outs.length : Int) ≤ 8) = true := by simp; omega
          have j3 : (decide (t.ins.length ≤ 8) && decide (t.outs.length ≤ 8)) = true := by simp [h8, h9]
          have J3 := Lib.hid j3
          clear h8 h9 j3
          go_wp2
          go_ret
          exact ⟨by rw [HF.out, J3.out]; rfl, FE.out⟩
        · have j2 : decide ((t.outs.length : Int) ≤ 8) = false := by simp; omega
          have j3 : (decide (t.ins.length ≤ 8) && decide (t.outs.length ≤ 8)) = false := by simp [h8, h9]
          have J3 := Lib.hid j3
          clear h8 h9 j3
          go_wp2
          go_ret
          exact ⟨by rw [HF.out, J3.out]; rfl, FE.out⟩
      · have j1 : decide ((t.ins.length : Int) ≤ 8) = false := by simp; omega
        have j3 : (decide (t.ins.length ≤ 8) && decide (t.outs.length ≤ 8)) = false := by simp [h8]
        have J3 := Lib.hid j3
        clear h8 j3
        go_wp2
        go_ret
        exact ⟨by rw [HF.out, J3.out]; rfl, FE.out⟩
end Go.Proofs.YtmpamcnlineceaaDoor
