/- tx: Put. -/
import Derived.Test.YtmpamcnlineceaaDoorMG22
import Derived.Test.YtmpamcnlineceaaDoorMG18
import Derived.Test.YtmpamcnlineceaaDoorMG9
import Derived.Test.YtmpamcnlineceaaDoorMG21
set_option linter.unusedVariables false
set_option linter.unusedSimpArgs false
set_option linter.unnecessarySimpa false
set_option linter.all false
namespace Go.Proofs.YtmpamcnlineceaaDoor
open Go Go.RowKit Go.Maps Go.MapKept

def inB (x : InD) : List Int := x.from_.tx ++ (leB 4 x.from_.n ++ ((x.key.length : Int) :: x.key))
def outB (o : OutD) : List Int := leB 8 o.value ++ o.lock
def txB (t : TxD) : List Int := leB 4 t.ver ++ ((t.ins.length : Int) :: (t.ins.flatMap inB ++ ((t.outs.length : Int) :: t.outs.flatMap outB)))
theorem inB_len {x : InD} (h : x.from_.ok) : (inB x).length = 37 + x.key.length := by simp [inB, leB_len, h.1.1]; omega
theorem outB_len {x : OutD} (h : x.ok) : (outB x).length = 40 := by simp [outB, leB_len, h.2.1]
theorem insB_len : ∀ {l : List InD}, (∀ x ∈ l, x.from_.ok) → (∀ x ∈ l, x.key.length ≤ 64) → (l.flatMap inB).length ≤ 101 * l.length
  | [], _, _ => Nat.le_refl _
  | x :: l, h, k => by
    have := insB_len (l := l) (fun y hy => h y (.tail _ hy)) (fun y hy => k y (.tail _ hy))
    have h1 := inB_len (h x (.head _))
    have h2 := k x (.head _)
    simp only [List.flatMap_cons, List.length_append, List.length_cons]
    omega
theorem outsB_len : ∀ {l : List OutD}, (∀ x ∈ l, x.ok) → (l.flatMap outB).length = 40 * l.length
  | [], _ => rfl
  | x :: l, h => by
    have := outsB_len (l := l) (fun y hy => h y (.tail _ hy))
    have h1 := outB_len (h x (.head _))
    simp only [List.flatMap_cons, List.length_append, List.length_cons]
    omega
theorem formB_iff {t : TxD} : formB t = true ↔ (∀ x ∈ t.ins, x.key.length ≤ 64) ∧ t.ins.length ≤ 8 ∧ t.outs.length ≤ 8 := by
  simp [formB]
theorem take_flat {α β : Type} (f : α → List β) {l : List α} {n : Nat} {x : α} (h : l[n]? = some x) : (l.take (n + 1)).flatMap f = (l.take n).flatMap f ++ f x := by
  rw [List.take_add_one, h]
  simp
theorem out_new (w : World) {o : OutD} (ok : o.ok) : (w.alloc (.cells (outC o).toArray 55)).cell? ⟨w.heap.size, 0, none⟩ = some (.int .u64 o.value) ∧ (w.alloc (.cells (outC o).toArray 55)).rangeAt w.heap.size 1 (o.lock.map byteV) := by
  have r := range_new w (outC o) 55
  refine ⟨by simpa using r 0 _ rfl, fun j u hj => ?_⟩
  have := r (j + 1) u (by simpa [outC] using hj)
  rwa [show 0 + (j + 1) = 1 + j by omega] at this
/-- An array's bytes as a slice. -/
theorem arr_arg {w : World} {b o : Nat} {l : List Int} (h : w.rangeAt b o (l.map byteV)) (hl : l.length = 32) (hb : b < w.heap.size) : ArgIs w (.slice (some ⟨b, o, none⟩) 32 32) l.length (l.map byteV) := by
  rw [hl]
  exact .inl (.inr ⟨b, o, 32, rfl, Nat.le_refl _, by decide, h, hb⟩)
theorem BRow.step {w1 wi wj : World} {B : Nat} {v : Value} {l : List Int} (fr : Fr No w1 wi) (hb : BRow wi B v l) (hB : w1.heap.size ≤ B) (f : Fr (fun j => v.ownBlock = some j) wi wj) : Fr No w1 wj := fr.trans f (fun i hi e => by have := (hb.lt i e).1; omega)
theorem GrowTo.ne {w : World} {v v' : Value} {q : Nat} (g : GrowTo w v v') (hn : v.ownBlock ≠ some q) (hq : q < w.heap.size) : v'.ownBlock ≠ some q := fun e => (g q e).elim hn (fun h => by omega)
theorem BRow.ne {w : World} {B : Nat} {v : Value} {l : List Int} (hb : BRow w B v l) {q : Nat} (hq : w.heap.size ≤ q) : v.ownBlock ≠ some q := fun e => by have := (hb.lt q e).2; omega
def PutOk (w : World) (t : TxD) (e : Ending) (w' : World) : Prop := ∃ v, e = .returned (.tuple #[v, .int .i64 (if formB t = true then 0 else 5)]) ∧ Fr No w w' ∧ (if formB t = true then BRow w' w.heap.size v (txB t) else v = .slice none 0 0)
set_option maxRecDepth 20000 in
set_option maxHeartbeats 8000000 in
theorem put_any (w : World) {t : TxD} {cs : List Value} (ht : TxQ w t cs) :
    Calls Tryd.prog 38 #[.agg cs.toArray] w (PutOk w t) := by
  have HT := Lib.hid ht
  obtain ⟨ia, ic, oa, oc, rfl, hv, hi, ho⟩ := ht
  obtain ⟨dI, uI, rI⟩ := descIn
  obtain ⟨dO, uO, rO⟩ := descOut
  obtain ⟨dT, uT, rT⟩ := descTx
  have zI := zeroIn1
  have zO := zeroOutC
  have F1 := Lib.hid ((Fr.refl No w).alloc (.cells #[.int .u32 t.ver, .slice ia t.ins.length ic, .slice oa t.outs.length oc] 41))
  have Q1 := Lib.hid (show (w.alloc (.cells #[.int .u32 t.ver, .slice ia t.ins.length ic, .slice oa t.outs.length oc] 41)).heap.size = w.heap.size + 1 by simp)
  obtain ⟨c0, c1, c2, r0⟩ := tx_new w t.ver (.slice ia t.ins.length ic) (.slice oa t.outs.length oc)
  have C0 := Lib.hid c0
  have C1 := Lib.hid c1
  have C2 := Lib.hid c2
  have R0 := Lib.hid r0
  have HI := Lib.hid (hi.keep0 F1.out)
  have HOu := Lib.hid (ho.keep F1.out)
  have HV := Lib.hid hv
  have HF := Lib.hid (form_any (w.alloc (.cells #[.int .u32 t.ver, .slice ia t.ins.length ic, .slice oa t.outs.length oc] 41)) (HT.out.keep F1.out))
  have hfx : [Value.int .u32 t.ver, .slice ia t.ins.length ic, .slice oa t.outs.length oc].toArray = #[Value.int .u32 t.ver, .slice ia t.ins.length ic, .slice oa t.outs.length oc] := rfl
  clear hi ho hv
  show Calls Tryd.prog 38 #[.agg #[.int .u32 t.ver, .slice ia t.ins.length ic, .slice oa t.outs.length oc]] w _
  by_cases hfm : formB t = true
  rotate_left
  · have hfm2 : formB t = false := by simpa using hfm
    rw [hfm2] at HF
    have HP := Lib.hid (show ∀ w', Fr No w w' → PutOk w t (.returned (.tuple #[.slice none 0 0, .int .i64 5])) w' from fun w' f => ⟨.slice none 0 0, by rw [hfm2]; rfl, f, by rw [hfm2]; rfl⟩)
    clear hfm hfm2 c0 c1 c2 r0
    go_enter Tryd.func38, Tryd.ntmps38
    go_wp2_with (first | (refine wpList_value rfl (exec_load (ty := 41) rfl rfl R0.out uT rT infoTx) ?_; generalize w.alloc (.cells #[.int .u32 t.ver, .slice ia t.ins.length ic, .slice oa t.outs.length oc] 41) = w1 at *) | (go_at_call 52; refine HF.out.mono ?_; rintro e w2 ⟨rfl, f2⟩; have F2 := Lib.hid f2; clear f2))
    go_ret2
    exact HP.out _ (F1.out.trans0 F2.out)
  · obtain ⟨hk, hil, hol⟩ := formB_iff.1 hfm
    rw [hfm] at HF
    have HK := Lib.hid hk
    have HP := Lib.hid (show ∀ v w', Fr No w w' → BRow w' (w.heap.size + 1) v (txB t) → PutOk w t (.returned (.tuple #[v, .int .i64 0])) w' from fun v w' f h => ⟨v, by rw [hfm]; rfl, f, by rw [if_pos hfm]; exact own_mono h (Nat.le_succ _)⟩)
    clear hk hfm c0 c1 c2 r0
    go_enter Tryd.func38, Tryd.ntmps38
    have v1 := HV.out.1
    have v2 := HV.out.2
    have e1 : (t.ins.length : Int) % 256 = (t.ins.length : Int) := by omega
    have e2 : (t.outs.length : Int) % 256 = (t.outs.length : Int) := by omega
    have M0 := Lib.hid True.intro
    have M1 := Lib.hid True.intro
    have M2 := Lib.hid True.intro
    have M3 := Lib.hid True.intro
    go_wp2_with (first | ((with_reducible refine at_list ?_); have mk := M0.out; refine wpList_value rfl (exec_load (ty := 41) rfl rfl R0.out uT rT infoTx) ?_; generalize w.alloc (.cells #[.int .u32 t.ver, .slice ia t.ins.length ic, .slice oa t.outs.length oc] 41) = w1 at *; go_frame; clear mk M0) | (have mk := M1.out; go_at_call 52; refine HF.out.mono ?_; rintro e w2 ⟨rfl, f2⟩; have F2 := Lib.hid (F1.out.trans0 f2); have F12 := Lib.hid f2; clear f2; have cA := F12.out.cell C0.out id; go_frame; clear mk M1) | (have mk := M2.out; go_at_call 53; refine (fixed_any (BRow.nil w2 (w.heap.size + 1)) (by have := Q1.out; have := F12.out.size; omega) (x := t.ver) (by omega) (n := 4) (by decide) (by decide)).mono ?_; rintro e w3 ⟨v3, rfl, b3, f3, -⟩; have F3 := Lib.hid (F12.out.trans f3 (fun i hi e => (by cases e))); rw [List.nil_append] at b3; have BL := Lib.hid (leB_len 4 t.ver); have B3 := Lib.hid b3; clear f3 b3; have cB := F3.out.cell C1.out id; obtain ⟨v4, w4, a1, a2, a3, a4⟩ := append_byte w3 (x := t.ins.length) B3.out (by rw [BL.out]; decide) (by have := Q1.out; have := F3.out.size; omega) 48; have A1 := Lib.hid a1; have B4 := Lib.hid a2; have F4 := Lib.hid (F3.out.trans a3 (fun i hi e => (show False by have := (B3.out.lt i e).1; have := Q1.out; omega))); clear a1 a2 a3 a4; go_frame; clear mk M2) | ((with_reducible refine at_list ?_); have mk := M3.out; at_builtin; refine wpList_append_run rfl rfl rfl rfl A1.out ?_; have cC := F4.out.cell C1.out id; go_frame; clear mk M3))
    have HIL := Lib.hid (show (leB 4 t.ver ++ [(t.ins.length : Int)]).length = 5 by rw [List.length_append, leB_len]; rfl)
    have LE := Lib.hid (show txB t = leB 4 t.ver ++ [(t.ins.length : Int)] ++ t.ins.flatMap inB ++ ([(t.outs.length : Int)] ++ t.outs.flatMap outB) by simp [txB])
    have IOK := Lib.hid (show ∀ x ∈ t.ins, x.from_.ok from fun x hx => by
      obtain ⟨i, hi⟩ := List.mem_iff_getElem?.1 hx
      obtain ⟨_, _, _, _, _, _, _, _, _, h, _⟩ := HI.out.at_ hi
      exact h)
    generalize leB 4 t.ver ++ [(t.ins.length : Int)] = L0 at *
    go_loopw [4, 26] (fun bv iv wr => ∃ n : Nat, iv = .int .i64 n ∧ n ≤ t.ins.length ∧ BRow wr (w.heap.size + 1) bv (L0 ++ (t.ins.take n).flatMap inB) ∧ Fr No w1 wr) (fun _ iv _ => t.ins.length - (intOf iv).toNat)
    case atStart => exact ⟨0, rfl, Nat.zero_le _, by simpa using B4.out, F4.out⟩
    case round =>
      obtain ⟨n, rfl, hn, hb, fr⟩ := hrel
      have FR := Lib.hid fr
      have BR := Lib.hid hb
      have SZ := Lib.hid (show w.heap.size + 1 ≤ wr.heap.size by have := fr.size; have := Q1.out; omega)
      have SL := Lib.hid (show (L0 ++ (t.ins.take n).flatMap inB).length ≤ 5 + 101 * n by
        rw [List.length_append, HIL.out]
        have := insB_len (l := t.ins.take n) (fun x hx => IOK.out x (List.mem_of_mem_take hx)) (fun x hx => HK.out x (List.mem_of_mem_take hx))
        rw [List.length_take] at this
        omega)
      obtain ⟨ba, bc, hbv⟩ := hb.form
      clear fr hb
      by_cases hlt : n < t.ins.length
      · have i1 : (n : Int) < (t.ins.length : Int) := by omega
        obtain ⟨x, hx⟩ : ∃ x, t.ins[n]? = some x := ⟨_, List.getElem?_eq_getElem hlt⟩
        have TF := Lib.hid (take_flat inB hx)
        have KL := Lib.hid (HK.out x (List.mem_of_getElem? hx))
        obtain ⟨b, off, cap, cs, hv, hr, ka, kc, rfl, pok, hkey⟩ := HI.out.at_ hx
        cases hv
        have R1 := Lib.hid (range_keep hr FR.out id)
        have OK := Lib.hid pok
        have KEY := Lib.hid hkey
        have IL := Lib.hid (inC_len pok (.slice ka x.key.length kc))
        have FA := Lib.hid ((Fr.refl No wr).alloc (.cells (inC x.from_ (.slice ka x.key.length kc)).toArray 50))
        have QA := Lib.hid (show (wr.alloc (.cells (inC x.from_ (.slice ka x.key.length kc)).toArray 50)).heap.size = wr.heap.size + 1 by simp)
        obtain ⟨n1, n2⟩ := in_new wr (kv := .slice ka x.key.length kc) pok
        obtain ⟨n3, n4⟩ := pt_at n1 pok
        have N2 := Lib.hid n2
        have N4 := Lib.hid (show (wr.alloc (.cells (inC x.from_ (.slice ka x.key.length kc)).toArray 50)).cell? ⟨wr.heap.size, 32, none⟩ = some (.int .u32 x.from_.n) by simpa using n4)
        obtain ⟨v3, w3, a1, a2, a3, a4⟩ := append_bytes _ (BR.out.keep0 FA.out) (arr_arg n3 pok.1.1 (by have := QA.out; omega)) (by have := SL.out; rw [pok.1.1]; omega) (by have := SZ.out; have := QA.out; omega) 48
        have A1 := Lib.hid a1
        have B3 := Lib.hid a2
        have F3 := Lib.hid (BRow.step (FR.out.trans0 FA.out) (BR.out.keep0 FA.out) (by have := Q1.out; omega) a3)
        have D0 := BR.out.ne (Nat.le_refl _)
        have D3 := Lib.hid (a4.ne D0 (by have := QA.out; omega))
        have c32 := a3.cell N4.out D0
        have C33 := Lib.hid (a3.cell N2.out D0)
        have QL := Lib.hid (show wr.heap.size < w3.heap.size by have := a3.size; have := QA.out; omega)
        have nb1 := pok.2.1
        have nb2 := pok.2.2
        have kl1 : (x.key.length : Int) % 256 = (x.key.length : Int) := by have := KL.out; omega
        have LX := Lib.hid (show x.from_.tx.length = 32 from pok.1.1)
        clear n1 n2 n3 n4 a1 a2 a3 a4 hr hkey pok hx D0
        subst hbv
        generalize hLn : L0 ++ (t.ins.take n).flatMap inB = Ln at *
        have K0 := Lib.hid True.intro
        have K1 := Lib.hid True.intro
        have K2 := Lib.hid True.intro
        have K3 := Lib.hid True.intro
        have K4 := Lib.hid True.intro
        have K5 := Lib.hid True.intro
        go_wp2_with (first | ((with_reducible refine at_list ?_); have mk := K0.out; refine wpList_value rfl (exec_load (ty := 50) rfl rfl R1.out uI rI (by rw [IL.out]; exact infoIn)) ?_; go_frame; clear mk K0) | ((with_reducible refine at_store ?_); have mk := K1.out; refine wpList_done rfl (exec_store_new (w := wr) (ty := 50) (cs := inC x.from_ (.slice ka x.key.length kc)) rfl rfl rfl (by rw [IL.out]; rfl) (by rw [IL.out]; exact infoIn) inC_one) ?_; generalize wr.alloc (.cells (inC x.from_ (.slice ka x.key.length kc)).toArray 50) = wA at *; go_frame; clear mk K1) | ((with_reducible refine at_list ?_); have mk := K2.out; at_builtin; refine wpList_append_run rfl rfl rfl rfl A1.out ?_; go_frame; clear mk K2) | (have mk := K3.out; go_at_call 53; refine (fixed_any B3.out (by have := SZ.out; have := QL.out; omega) (x := x.from_.n) (by omega) (n := 4) (by decide) (by rw [List.length_append, LX.out]; have := SL.out; omega)).mono ?_; rintro e w4 ⟨v4, rfl, b4, f4, g4⟩; have B5 := Lib.hid b4; have F5 := Lib.hid (BRow.step F3.out B3.out (by have := Q1.out; omega) f4); have D5 := Lib.hid (g4.ne D3.out QL.out); have C5 := Lib.hid (f4.cell C33.out D3.out); have c33 := C5.out; have Q5 := Lib.hid (show wr.heap.size < w4.heap.size by have := f4.size; have := QL.out; omega); have L5 := Lib.hid (show (Ln ++ x.from_.tx ++ leB 4 x.from_.n).length ≤ 41 + 101 * n by simp only [List.length_append, LX.out, leB_len]; have := SL.out; omega); clear b4 f4 g4; obtain ⟨v5, w5, a1, a2, a3, a4⟩ := append_byte w4 (x := x.key.length) B5.out (by have := L5.out; omega) (by have := SZ.out; have := Q5.out; omega) 48; have A5 := Lib.hid a1; have B6 := Lib.hid a2; have F6 := Lib.hid (BRow.step F5.out B5.out (by have := Q1.out; omega) a3); have c5 := a3.cell C5.out D5.out; have Q6 := Lib.hid (show wr.heap.size < w5.heap.size by have := a3.size; have := Q5.out; omega); clear a1 a2 a3 a4; obtain ⟨v6, w6, a1, a2, a3, -⟩ := append_bytes w5 B6.out (KEY.out.2.keep F6.out) (by have := L5.out; have := KL.out; rw [List.length_append]; simp only [List.length_singleton]; omega) (by have := SZ.out; have := Q6.out; omega) 48; have A6 := Lib.hid a1; have B7 := Lib.hid a2; have F7 := Lib.hid (BRow.step F6.out B6.out (by have := Q1.out; omega) a3); clear a1 a2 a3; go_frame; clear mk K3) | ((with_reducible refine at_list ?_); have mk := K4.out; at_builtin; refine wpList_append_run rfl rfl rfl rfl A5.out ?_; go_frame; clear mk K4) | ((with_reducible refine at_list ?_); have mk := K5.out; at_builtin; refine wpList_append_run rfl rfl rfl rfl A6.out ?_; go_frame; clear mk K5))
        go_roundw
        case rel => exact ⟨n + 1, by go_num, by omega, by rw [TF.out, ← List.append_assoc, hLn]; simpa [inB] using B7.out, F7.out⟩
        case measure => simp [intOf]; omega
      · have hne : n = t.ins.length := by omega
        subst hne
        have i1 : ¬ (t.ins.length : Int) < (t.ins.length : Int) := by omega
        rw [List.take_length] at BR SL
        have c2 := FR.out.cell C2.out id
        obtain ⟨v3, w3, a1, a2, a3, a4⟩ := append_byte wr (x := t.outs.length) BR.out (by have := SL.out; omega) SZ.out 48
        have A1 := Lib.hid a1
        have B3 := Lib.hid a2
        have F3 := Lib.hid (BRow.step FR.out BR.out (by have := Q1.out; omega) a3)
        have SZ3 := Lib.hid (show w.heap.size + 1 ≤ w3.heap.size by have := a3.size; have := SZ.out; omega)
        have cD := F3.out.cell C2.out id
        have SL3 := Lib.hid (show (L0 ++ t.ins.flatMap inB ++ [(t.outs.length : Int)]).length ≤ 1000 by
          rw [List.length_append]
          have := SL.out
          simp only [List.length_singleton]
          omega)
        rw [← List.append_assoc] at LE
        have OOK := Lib.hid HOu.out.1
        clear a1 a2 a3 a4
        subst hbv
        generalize hLn : L0 ++ t.ins.flatMap inB = Ln at *
        go_wp2_with (first | (at_builtin; refine wpList_append_run rfl rfl rfl rfl A1.out ?_))
        generalize hLm : Ln ++ [(t.outs.length : Int)] = Lm at *
        go_loopw [4, 63] (fun bv iv wr => ∃ n : Nat, iv = .int .i64 n ∧ n ≤ t.outs.length ∧ BRow wr (w.heap.size + 1) bv (Lm ++ (t.outs.take n).flatMap outB) ∧ Fr No w1 wr) (fun _ iv _ => t.outs.length - (intOf iv).toNat)
        case atStart => exact ⟨0, rfl, Nat.zero_le _, by simpa using B3.out, F3.out⟩
        case round =>
          obtain ⟨n, rfl, hn, hb, fr⟩ := hrel
          have FS := Lib.hid fr
          have BS := Lib.hid hb
          have SY := Lib.hid (show w.heap.size + 1 ≤ wr.heap.size by have := fr.size; have := Q1.out; omega)
          have SL4 := Lib.hid (show (Lm ++ (t.outs.take n).flatMap outB).length ≤ 1000 + 40 * n by
            rw [List.length_append, outsB_len (fun x hx => OOK.out x (List.mem_of_mem_take hx)), List.length_take]
            have := SL3.out
            omega)
          obtain ⟨ba, bc, hbv⟩ := hb.form
          clear fr hb
          by_cases hlt : n < t.outs.length
          · have i1 : (n : Int) < (t.outs.length : Int) := by omega
            obtain ⟨x, hx⟩ : ∃ x, t.outs[n]? = some x := ⟨_, List.getElem?_eq_getElem hlt⟩
            have TF := Lib.hid (take_flat outB hx)
            obtain ⟨b, off, cap, hv, hr, -⟩ := HOu.out.at_ hx
            cases hv
            have pok := OOK.out x (List.mem_of_getElem? hx)
            have R1 := Lib.hid (range_keep hr FS.out id)
            have OK := Lib.hid pok
            have IL := Lib.hid (outC_len pok)
            have FA := Lib.hid ((Fr.refl No wr).alloc (.cells (outC x).toArray 55))
            have QA := Lib.hid (show (wr.alloc (.cells (outC x).toArray 55)).heap.size = wr.heap.size + 1 by simp)
            obtain ⟨n1, n2⟩ := out_new wr pok
            have N2 := Lib.hid n2
            have nb1 := pok.1.1
            have nb2 := pok.1.2
            have LX := Lib.hid pok.2.1
            have D0 := Lib.hid (BS.out.ne (Nat.le_refl _))
            have FW := Lib.hid (FS.out.trans0 FA.out)
            have BW := Lib.hid (BS.out.keep0 FA.out)
            clear n2 hr pok hx
            subst hbv
            generalize hLo : Lm ++ (t.outs.take n).flatMap outB = Lo at *
            have K0 := Lib.hid True.intro
            have K1 := Lib.hid True.intro
            have K2 := Lib.hid True.intro
            have K3 := Lib.hid True.intro
            go_wp2_with (first | ((with_reducible refine at_list ?_); have mk := K0.out; refine wpList_value rfl (exec_load (ty := 55) rfl rfl R1.out uO rO (by rw [IL.out]; exact infoOut)) ?_; go_frame; clear mk K0) | ((with_reducible refine at_store ?_); have mk := K1.out; refine wpList_done rfl (exec_store_new (w := wr) (ty := 55) (cs := outC x) rfl rfl rfl (by rw [IL.out]; rfl) (by rw [IL.out]; exact infoOut) outC_one) ?_; generalize wr.alloc (.cells (outC x).toArray 55) = wA at *; go_frame; clear mk K1) | (have mk := K2.out; go_at_call 53; refine (fixed_any BW.out (by have := SY.out; have := QA.out; omega) (x := x.value) (by omega) (n := 8) (by decide) (by have := SL4.out; omega)).mono ?_; rintro e w4 ⟨v4, rfl, b4, f4, g4⟩; have B5 := Lib.hid b4; have F5 := Lib.hid (BRow.step FW.out BW.out (by have := Q1.out; omega) f4); have N5 := Lib.hid (range_keep N2.out f4 D0.out); have Q5 := Lib.hid (show wr.heap.size < w4.heap.size by have := f4.size; have := QA.out; omega); clear b4 f4 g4; obtain ⟨v6, w6, a1, a2, a3, -⟩ := append_bytes w4 B5.out (arr_arg N5.out LX.out Q5.out) (by simp only [List.length_append, LX.out, leB_len]; have := SL4.out; omega) (by have := SY.out; have := Q5.out; omega) 48; have A6 := Lib.hid a1; have B7 := Lib.hid a2; have F7 := Lib.hid (BRow.step F5.out B5.out (by have := Q1.out; omega) a3); clear a1 a2 a3; go_frame; clear mk K2) | ((with_reducible refine at_list ?_); have mk := K3.out; at_builtin; refine wpList_append_run rfl rfl rfl rfl A6.out ?_; go_frame; clear mk K3))
            go_roundw
            case rel => exact ⟨n + 1, by go_num, by omega, by rw [TF.out, ← List.append_assoc, hLo]; simpa [outB] using B7.out, F7.out⟩
            case measure => simp [intOf]; omega
          · have hne : n = t.outs.length := by omega
            subst hne
            have i1 : ¬ (t.outs.length : Int) < (t.outs.length : Int) := by omega
            rw [List.take_length] at BS
            have HF2 := Lib.hid (HP.out _ wr (F1.out.trans0 FS.out) (by rw [LE.out]; exact BS.out))
            subst hbv
            generalize (Lm ++ (t.outs.take t.outs.length).flatMap outB).length = zz at *
            go_wp2
            go_ret2
            exact HF2.out
end Go.Proofs.YtmpamcnlineceaaDoor

/- tx: Id. -/
namespace Go.Proofs.YtmpamcnlineceaaDoor
open Go Go.RowKit Go.Maps Go.MapKept

def idE (t : TxD) : Int := if formB t = true then 0 else 5
def idH (t : TxD) : HashD := if formB t = true then shaTwice (txB t) else hash0
theorem idH_ok (t : TxD) : hashOk (idH t) := by
  unfold idH
  split
  · exact shaTwice_ok _
  · exact hash0_ok
theorem txB_len {t : TxD} (h : formB t = true) (hi : ∀ x ∈ t.ins, x.from_.ok) (ho : ∀ x ∈ t.outs, x.ok) : (txB t).length ≤ 100000 := by
  obtain ⟨h1, h2, h3⟩ := formB_iff.1 h
  have a := insB_len hi h1
  have b := outsB_len ho
  simp only [txB, List.length_append, List.length_cons, leB_len]
  omega
theorem TxQ.oks {w : World} {t : TxD} {cs : List Value} (h : TxQ w t cs) : (∀ x ∈ t.ins, x.from_.ok) ∧ ∀ x ∈ t.outs, x.ok := by
  obtain ⟨ia, ic, oa, oc, -, -, hi, ho⟩ := h
  refine ⟨fun x hx => ?_, ho.1⟩
  obtain ⟨i, hxi⟩ := List.mem_iff_getElem?.1 hx
  obtain ⟨_, _, _, _, _, _, _, _, _, h, _⟩ := hi.at_ hxi
  exact h
theorem TxQ.form {w : World} {t : TxD} {cs : List Value} (h : TxQ w t cs) : ∃ ia ic oa oc, cs = [.int .u32 t.ver, .slice ia t.ins.length ic, .slice oa t.outs.length oc] := by
  obtain ⟨ia, ic, oa, oc, e, -⟩ := h
  exact ⟨ia, ic, oa, oc, e⟩
theorem blk_tx (w : World) {cs : List Value} (h : cs.length = 3) : (w.alloc (.cells cs.toArray 41)).rangeAt w.heap.size 0 cs := range_new w cs _
theorem h0_size : (hashC hash0).toArray.size = 32 := rfl
theorem bldHash0 (w : World) : (Instr.build 45 #[]).run Tryd.prog w = .ok (.agg (hashC hash0).toArray) w := by kernel_rfl
set_option maxRecDepth 20000 in
set_option maxHeartbeats 4000000 in
theorem id_any {w : World} (hg : ShaW w) {t : TxD} {cs : List Value} (ht : TxQ w t cs) :
    Calls Tryd.prog 22 #[.agg cs.toArray] w fun e w' => e = .returned (.tuple #[.agg (hashC (idH t)).toArray, .int .i64 (idE t)]) ∧ Fr No w w' := by
  have zH := zeroHash
  obtain ⟨dT, uT, rT⟩ := descTx
  obtain ⟨dH, uH, rH⟩ := descHash
  obtain ⟨ia, ic, oa, oc, hcs⟩ := ht.form
  subst hcs
  have HT := Lib.hid ht
  have HO := Lib.hid ht.oks
  have f1 : Fr No w (w.alloc (.cells #[.int .u32 t.ver, .slice ia t.ins.length ic, .slice oa t.outs.length oc] 41)) := (Fr.refl No w).alloc _
  have R0 := Lib.hid (range_keep (tx_new w t.ver (.slice ia t.ins.length ic) (.slice oa t.outs.length oc)).2.2.2 ((Fr.refl No _).alloc (.cells (hashC hash0).toArray 45)) id)
  have F2 := Lib.hid (f1.alloc (.cells (hashC hash0).toArray 45))
  have B2 := Lib.hid (new_obj' (w.alloc (.cells #[.int .u32 t.ver, .slice ia t.ins.length ic, .slice oa t.outs.length oc] 41)) (.cells (hashC hash0).toArray 45) (n := w.heap.size + 1) (by simp))
  have HP := Lib.hid (put_any _ (ht.keep F2.out))
  have G2 := Lib.hid (hg.keep0 F2.out)
  have LB := Lib.hid (fun h => txB_len (t := t) h HO.out.1 HO.out.2)
  have Z2 := Lib.hid (show w.heap.size + 2 = ((w.alloc (.cells #[.int .u32 t.ver, .slice ia t.ins.length ic, .slice oa t.outs.length oc] 41)).alloc (.cells (hashC hash0).toArray 45)).heap.size by simp)
  clear ht f1 hg
  show Calls Tryd.prog 22 #[.agg #[.int .u32 t.ver, .slice ia t.ins.length ic, .slice oa t.outs.length oc]] w _
  go_enter Tryd.func22, Tryd.ntmps22
  by_cases hfm : formB t = true
  · have HE := Lib.hid (show idE t = 0 ∧ idH t = shaTwice (txB t) from ⟨by simp [idE, hfm], by simp [idH, hfm]⟩)
    have LB2 := Lib.hid (LB.out hfm)
    have HFM := Lib.hid hfm
    have SL := Lib.hid (show (hashC (shaTwice (txB t))).length = 32 from hashC_len (shaTwice_ok _))
    clear hfm
    have K0 := Lib.hid True.intro
    have K1 := Lib.hid True.intro
    have K2 := Lib.hid True.intro
    have K3 := Lib.hid True.intro
    go_wp2_with (first | ((with_reducible refine at_list ?_); have mk := K0.out; refine wpList_value rfl (exec_load (ty := 41) rfl rfl R0.out uT rT infoTx) ?_; generalize (w.alloc (.cells #[.int .u32 t.ver, .slice ia t.ins.length ic, .slice oa t.outs.length oc] 41)).alloc (.cells (hashC hash0).toArray 45) = w2 at *; go_frame; clear mk K0) | (have mk := K1.out; go_at_call 38; refine HP.out.mono ?_; rintro e w3 ⟨v, rfl, f3, h3⟩; rw [if_pos HFM.out] at h3; rw [if_pos HFM.out]; have F3 := Lib.hid f3; have B3 := Lib.hid h3; obtain ⟨va, vc, hva⟩ := h3.form; subst hva; have G3 := Lib.hid (G2.out.keep0 F3.out); have F4 := Lib.hid (show Fr No w3 (w3.alloc (.cells #[.slice va (txB t).length vc] 48)) from (Fr.refl No w3).alloc _); have HTW := Lib.hid (twice_any (G3.out.keep0 F4.out) (v := .slice (some ⟨w3.heap.size, 0, none⟩) 1 1) (L := [txB t]) (piece_at B3.out.slice.arg) (by simp) (by have := LB2.out; simp; omega)); rw [show [txB t].flatten = txB t by simp] at HTW; clear f3 h3; generalize shaTwice (txB t) = TB at *; go_frame; clear mk K1) | (have mk := K2.out; go_at_call 29; refine HTW.out.mono ?_; rintro e w5 ⟨rfl, f5⟩; have F5 := Lib.hid f5; clear f5; have B5 := Lib.hid (F5.out.obj (F4.out.obj (F3.out.obj B2.out id) id) id); go_frame; clear mk K2) | ((with_reducible refine at_store ?_); have mk := K3.out; refine wpList_done rfl (exec_store (ty := 45) (b := w.heap.size + 1) (off := 0) (cs := hashC TB) rfl rfl rfl (by rw [SL.out]; exact there_obj B5.out (Nat.le_of_eq h0_size.symm)) (by rw [SL.out]; exact infoHash) hashC_one) ?_; go_frame; clear mk K3))
    refine bodyPost_ret (results_row_tmp (P := Tryd.prog) (fn := Tryd.f22) rfl _ rfl (range_set B5.out (by rw [SL.out]; exact h0_size)) uH rH (by rw [SL.out]; exact infoHash) rfl) rfl ⟨by rw [HE.out.1, HE.out.2]; rfl, ?_⟩
    exact (((F2.out.trans0 F3.out).trans0 F4.out).trans0 F5.out).trans (setCells_fr _ _ _ _) (fun i hi e => by omega)
  · have hfm2 : formB t = false := by simpa using hfm
    have HE := Lib.hid (show idE t = 5 ∧ idH t = hash0 from ⟨by simp [idE, hfm2], by simp [idH, hfm2]⟩)
    have HFM := Lib.hid hfm2
    have SL := Lib.hid (show (hashC hash0).length = 32 from rfl)
    clear hfm hfm2
    have K0 := Lib.hid True.intro
    have K1 := Lib.hid True.intro
    have K2 := Lib.hid True.intro
    have K3 := Lib.hid True.intro
    go_wp2_with (first | ((with_reducible refine at_list ?_); have mk := K0.out; refine wpList_value rfl (exec_load (ty := 41) rfl rfl R0.out uT rT infoTx) ?_; generalize (w.alloc (.cells #[.int .u32 t.ver, .slice ia t.ins.length ic, .slice oa t.outs.length oc] 41)).alloc (.cells (hashC hash0).toArray 45) = w2 at *; go_frame; clear mk K0) | (have mk := K1.out; go_at_call 38; refine HP.out.mono ?_; rintro e w3 ⟨v, rfl, f3, h3⟩; rw [HFM.out] at h3; have h4 : v = .slice none 0 0 := h3; subst h4; rw [HFM.out]; have F3 := Lib.hid f3; clear f3 h3; have B5 := Lib.hid (F3.out.obj B2.out id); go_frame; clear mk K1) | ((with_reducible refine at_list ?_); have mk := K2.out; with_reducible refine at_dst 13 ?_; refine wpList_value rfl (exec_bld (t := 45) rfl rfl (bldHash0 _)) ?_; go_frame; clear mk K2) | ((with_reducible refine at_store ?_); have mk := K3.out; refine wpList_done rfl (exec_store (ty := 45) (b := w.heap.size + 1) (off := 0) (cs := hashC hash0) rfl rfl rfl (by rw [SL.out]; exact there_obj B5.out (Nat.le_of_eq h0_size.symm)) (by rw [SL.out]; exact infoHash) hashC_one) ?_; go_frame; clear mk K3))
    refine bodyPost_ret (results_row_tmp (P := Tryd.prog) (fn := Tryd.f22) rfl _ rfl (range_set B5.out (by rw [SL.out]; exact h0_size)) uH rH (by rw [SL.out]; exact infoHash) rfl) rfl ⟨by rw [HE.out.1, HE.out.2]; rfl, ?_⟩
    exact (F2.out.trans0 F3.out).trans (setCells_fr _ _ _ _) (fun i hi e => by omega)
end Go.Proofs.YtmpamcnlineceaaDoor
