/- tx: Put. -/
import Derived.Test.YtdkkjchclkjleaaGreatDoorSG11
import Derived.Test.YtdkkjchclkjleaaGreatDoorSG6
import Derived.Test.YtdkkjchclkjleaaGreatDoorSG2
set_option linter.unusedVariables false
set_option linter.unusedSimpArgs false
set_option linter.unnecessarySimpa false
set_option linter.all false
namespace Go.Proofs.YtdkkjchclkjleaaGreatDoor
open Go Go.RowKit Go.Maps Go.MapKept
def inB (x : InD) : List Int := x.from_.tx ++ (leB 4 x.from_.n ++ ((x.key.length : Int) :: x.key))
def QF (o : yF) : List Int := leB 8 o.value ++ o.lock
def txB (t : TxD) : List Int := leB 4 t.ver ++ ((t.ins.length : Int) :: (t.ins.flatMap inB ++ ((t.outs.length : Int) :: t.outs.flatMap QF)))
theorem zie {x : InD} (h : x.from_.ok) : (inB x).length = 37 + x.key.length := by simp [inB, Jc, h.1.1]; omega
theorem zg7 {x : yF} (h : x.ok) : (QF x).length = 40 := by simp [QF, Jc, h.2.1]
theorem zad : ∀ {l : List InD}, (∀ x ∈ l, x.from_.ok) → (∀ x ∈ l, x.key.length ≤ 64) → (l.flatMap inB).length ≤ 101 * l.length
 | [], _, _ => Nat.le_refl _
 | x :: l, h, k => by
  have := zad (l := l) (fun y hy => h y (.tail _ hy)) (fun y hy => k y (.tail _ hy))
  have h1 := zie (h x (.head _))
  have h2 := k x (.head _)
  simp only [List.flatMap_cons, List.length_append, List.length_cons]
  omega
theorem X6 : ∀ {l : List yF}, (∀ x ∈ l, x.ok) → (l.flatMap QF).length = 40 * l.length
 | [], _ => rfl
 | x :: l, h => by
  have := X6 (l := l) (fun y hy => h y (.tail _ hy))
  have h1 := zg7 (h x (.head _))
  simp only [List.flatMap_cons, List.length_append, List.length_cons]
  omega
theorem yX {t : TxD} : qP t = true ↔ (∀ x ∈ t.ins, x.key.length ≤ 64) ∧ t.ins.length ≤ 8 ∧ t.outs.length ≤ 8 := by
 simp [qP]
theorem zba {α β : Type} (f : α → List β) {l : List α} {n : Nat} {x : α} (h : l[n]? = some x) : (l.take (n + 1)).flatMap f = (l.take n).flatMap f ++ f x := by
 rw [List.take_add_one, h]
 simp
theorem Q7 (w : World) {o : yF} (ok : o.ok) : (w.alloc (.cells (zG o).toArray 103)).cell? ⟨w.heap.size, 0, none⟩ = some (.int .u64 o.value) ∧ (w.alloc (.cells (zG o).toArray 103)).rangeAt w.heap.size 1 (o.lock.map zP) := by
 have r := zC w (zG o) 103
 refine ⟨by simpa using r 0 _ rfl, fun j u hj => ?_⟩
 have := r (j + 1) u (by simpa [zG] using hj)
 rwa [show 0 + (j + 1) = 1 + j by omega] at this
theorem zeh {w : World} {b o : Nat} {l : List Int} (h : w.rangeAt b o (l.map zP)) (hl : l.length = 32) (hb : b < w.heap.size) : xq w (.slice (some ⟨b, o, none⟩) 32 32) l.length (l.map zP) := by
 rw [hl]
 exact .inl (.inr ⟨b, o, 32, rfl, Nat.le_refl _, by decide, h, hb⟩)
theorem vm.step {w1 wi wj : World} {B : Nat} {v : Value} {l : List Int} (fr : Fr No w1 wi) (hb : vm wi B v l) (hB : w1.heap.size ≤ B) (f : Fr (fun j => v.ownBlock = some j) wi wj) : Fr No w1 wj := fr.trans f (fun i hi e => by have := (hb.lt i e).1; omega)
theorem Zq.ne {w : World} {v v' : Value} {q : Nat} (g : Zq w v v') (hn : v.ownBlock ≠ some q) (hq : q < w.heap.size) : v'.ownBlock ≠ some q := fun e => (g q e).elim hn (fun h => by omega)
theorem vm.ne {w : World} {B : Nat} {v : Value} {l : List Int} (hb : vm w B v l) {q : Nat} (hq : w.heap.size ≤ q) : v.ownBlock ≠ some q := fun e => by have := (hb.lt q e).2; omega
def zgZ (w : World) (t : TxD) (e : Ending) (w' : World) : Prop := ∃ v, e = .returned (.tuple #[v, .int .i64 (if qP t = true then 0 else 5)]) ∧ Fr No w w' ∧ (if qP t = true then vm w' w.heap.size v (txB t) else v = .slice none 0 0)
set_option maxRecDepth 20000 in
set_option maxHeartbeats 8000000 in
theorem zhU (w : World) {t : TxD} {cs : List Value} (ht : TxQ w t cs) :
  Calls Tryz.prog 45 #[.agg cs.toArray] w (zgZ w t) := by
 have HT := Hd ht
 obtain ⟨ia, ic, oa, oc, rfl, hv, hi, ho⟩ := ht
 obtain ⟨dI, uI, rI⟩ := YV
 obtain ⟨dO, uO, rO⟩ := vA
 obtain ⟨dT, uT, rT⟩ := vw
 have zI := Zj
 have zO := qT
 have F1 := Hd ((Fr.refl No w).alloc (.cells #[.int .u32 t.ver, .slice ia t.ins.length ic, .slice oa t.outs.length oc] 34))
 have Q1 := Hd (show (w.alloc (.cells #[.int .u32 t.ver, .slice ia t.ins.length ic, .slice oa t.outs.length oc] 34)).heap.size = w.heap.size + 1 by simp)
 obtain ⟨c0, c1, c2, r0⟩ := qZ w t.ver (.slice ia t.ins.length ic) (.slice oa t.outs.length oc)
 have C0 := Hd c0
 have C1 := Hd c1
 have C2 := Hd c2
 have R0 := Hd r0
 have HI := Hd (hi.keep0 F1.out)
 have HOu := Hd (ho.keep F1.out)
 have HV := Hd hv
 have HF := Hd (zal (w.alloc (.cells #[.int .u32 t.ver, .slice ia t.ins.length ic, .slice oa t.outs.length oc] 34)) (HT.out.keep F1.out))
 have hfx : [Value.int .u32 t.ver, .slice ia t.ins.length ic, .slice oa t.outs.length oc].toArray = #[Value.int .u32 t.ver, .slice ia t.ins.length ic, .slice oa t.outs.length oc] := rfl
 clear hi ho hv
 show Calls Tryz.prog 45 #[.agg #[.int .u32 t.ver, .slice ia t.ins.length ic, .slice oa t.outs.length oc]] w _
 by_cases hfm : qP t = true
 rotate_left
 ·have hfm2 : qP t = false := by simpa using hfm
  rw [hfm2] at HF
  have HP := Hd (show ∀ w', Fr No w w' → zgZ w t (.returned (.tuple #[.slice none 0 0, .int .i64 5])) w' from fun w' f => ⟨.slice none 0 0, by rw [hfm2]; rfl, f, by rw [hfm2]; rfl⟩)
  clear hfm hfm2 c0 c1 c2 r0
  go_enter Tryz.func45, Tryz.ntmps45
  go_wp2_with (first | (refine zd rfl (zf (ty := 34) rfl rfl R0.out uT rT zR) ?_; generalize w.alloc (.cells #[.int .u32 t.ver, .slice ia t.ins.length ic, .slice oa t.outs.length oc] 34) = w1 at *) | (go_at_call 66; refine HF.out.mono ?_; rintro e w2 ⟨rfl, f2⟩; have F2 := Hd f2; clear f2))
  go_ret2
  exact HP.out _ (F1.out.trans0 F2.out)
 ·obtain ⟨hk, hil, hol⟩ := yX.1 hfm
  rw [hfm] at HF
  have HK := Hd hk
  have HP := Hd (show ∀ v w', Fr No w w' → vm w' (w.heap.size + 1) v (txB t) → zgZ w t (.returned (.tuple #[v, .int .i64 0])) w' from fun v w' f h => ⟨v, by rw [hfm]; rfl, f, by rw [if_pos hfm]; exact yU h (Nat.le_succ _)⟩)
  clear hk hfm c0 c1 c2 r0
  go_enter Tryz.func45, Tryz.ntmps45
  have v1 := HV.out.1
  have v2 := HV.out.2
  have e1 : (t.ins.length : Int) % 256 = (t.ins.length : Int) := by omega
  have e2 : (t.outs.length : Int) % 256 = (t.outs.length : Int) := by omega
  have M0 := tru
  have M1 := tru
  have M2 := tru
  have M3 := tru
  go_wp2_with (first | ((with_reducible refine zn ?_); have mk := M0.out; refine zd rfl (zf (ty := 34) rfl rfl R0.out uT rT zR) ?_; generalize w.alloc (.cells #[.int .u32 t.ver, .slice ia t.ins.length ic, .slice oa t.outs.length oc] 34) = w1 at *; go_frame; clear mk M0) | (have mk := M1.out; go_at_call 66; refine HF.out.mono ?_; rintro e w2 ⟨rfl, f2⟩; have F2 := Hd (F1.out.trans0 f2); have F12 := Hd f2; clear f2; have cA := F12.out.cell C0.out id; go_frame; clear mk M1) | (have mk := M2.out; go_at_call 85; refine (XH (vm.nil w2 (w.heap.size + 1)) (by have := Q1.out; have := F12.out.size; omega) (x := t.ver) (by omega) (n := 4) (by decide) (by decide)).mono ?_; rintro e w3 ⟨v3, rfl, b3, f3, -⟩; have F3 := Hd (F12.out.trans f3 (fun i hi e => (by cases e))); rw [List.nil_append] at b3; have BL := Hd (Jc 4 t.ver); have B3 := Hd b3; clear f3 b3; have cB := F3.out.cell C1.out id; obtain ⟨v4, w4, a1, a2, a3, a4⟩ := JF w3 (x := t.ins.length) B3.out (by rw [BL.out]; decide) (by have := Q1.out; have := F3.out.size; omega) 106; have A1 := Hd a1; have B4 := Hd a2; have F4 := Hd (F3.out.trans a3 (fun i hi e => (show False by have := (B3.out.lt i e).1; have := Q1.out; omega))); clear a1 a2 a3 a4; go_frame; clear mk M2) | ((with_reducible refine zn ?_); have mk := M3.out; at_builtin; refine zW rfl rfl rfl rfl A1.out ?_; have cC := F4.out.cell C1.out id; go_frame; clear mk M3))
  have HIL := Hd (show (leB 4 t.ver ++ [(t.ins.length : Int)]).length = 5 by rw [List.length_append, Jc]; rfl)
  have LE := Hd (show txB t = leB 4 t.ver ++ [(t.ins.length : Int)] ++ t.ins.flatMap inB ++ ([(t.outs.length : Int)] ++ t.outs.flatMap QF) by simp [txB])
  have IOK := Hd (show ∀ x ∈ t.ins, x.from_.ok from fun x hx => by
   obtain ⟨i, hi⟩ := List.mem_iff_getElem?.1 hx
   obtain ⟨_, _, _, _, _, _, _, _, _, h, _⟩ := HI.out.at_ hi
   exact h)
  generalize leB 4 t.ver ++ [(t.ins.length : Int)] = L0 at *
  go_loopw [4, 26] (fun bv iv wr => ∃ n : Nat, iv = .int .i64 n ∧ n ≤ t.ins.length ∧ vm wr (w.heap.size + 1) bv (L0 ++ (t.ins.take n).flatMap inB) ∧ Fr No w1 wr) (fun _ iv _ => t.ins.length - (intOf iv).toNat)
  case atStart => exact ⟨0, rfl, Nat.zero_le _, by simpa using B4.out, F4.out⟩
  case round =>
   obtain ⟨n, rfl, hn, hb, fr⟩ := hrel
   have FR := Hd fr
   have BR := Hd hb
   have SZ := Hd (show w.heap.size + 1 ≤ wr.heap.size by have := fr.size; have := Q1.out; omega)
   have SL := Hd (show (L0 ++ (t.ins.take n).flatMap inB).length ≤ 5 + 101 * n by
    rw [List.length_append, HIL.out]
    have := zad (l := t.ins.take n) (fun x hx => IOK.out x (List.mem_of_mem_take hx)) (fun x hx => HK.out x (List.mem_of_mem_take hx))
    rw [List.length_take] at this
    omega)
   obtain ⟨ba, bc, hbv⟩ := hb.form
   clear fr hb
   by_cases hlt : n < t.ins.length
   ·have i1 : (n : Int) < (t.ins.length : Int) := by omega
    obtain ⟨x, hx⟩ : ∃ x, t.ins[n]? = some x := ⟨_, List.getElem?_eq_getElem hlt⟩
    have TF := Hd (zba inB hx)
    have KL := Hd (HK.out x (List.mem_of_getElem? hx))
    obtain ⟨b, off, cap, cs, hv, hr, ka, kc, rfl, pok, hkey⟩ := HI.out.at_ hx
    cases hv
    have R1 := Hd (zb hr FR.out id)
    have OK := Hd pok
    have KEY := Hd hkey
    have IL := Hd (vi pok (.slice ka x.key.length kc))
    have FA := Hd ((Fr.refl No wr).alloc (.cells (inC x.from_ (.slice ka x.key.length kc)).toArray 108))
    have QA := Hd (show (wr.alloc (.cells (inC x.from_ (.slice ka x.key.length kc)).toArray 108)).heap.size = wr.heap.size + 1 by simp)
    obtain ⟨n1, n2⟩ := Y4 wr (kv := .slice ka x.key.length kc) pok
    obtain ⟨n3, n4⟩ := Qn n1 pok
    have N2 := Hd n2
    have N4 := Hd (show (wr.alloc (.cells (inC x.from_ (.slice ka x.key.length kc)).toArray 108)).cell? ⟨wr.heap.size, 32, none⟩ = some (.int .u32 x.from_.n) by simpa using n4)
    obtain ⟨v3, w3, a1, a2, a3, a4⟩ := Jb _ (BR.out.keep0 FA.out) (zeh n3 pok.1.1 (by have := QA.out; omega)) (by have := SL.out; rw [pok.1.1]; omega) (by have := SZ.out; have := QA.out; omega) 106
    have A1 := Hd a1
    have B3 := Hd a2
    have F3 := Hd (vm.step (FR.out.trans0 FA.out) (BR.out.keep0 FA.out) (by have := Q1.out; omega) a3)
    have D0 := BR.out.ne (Nat.le_refl _)
    have D3 := Hd (a4.ne D0 (by have := QA.out; omega))
    have c32 := a3.cell N4.out D0
    have C33 := Hd (a3.cell N2.out D0)
    have QL := Hd (show wr.heap.size < w3.heap.size by have := a3.size; have := QA.out; omega)
    have nb1 := pok.2.1
    have nb2 := pok.2.2
    have kl1 : (x.key.length : Int) % 256 = (x.key.length : Int) := by have := KL.out; omega
    have LX := Hd (show x.from_.tx.length = 32 from pok.1.1)
    clear n1 n2 n3 n4 a1 a2 a3 a4 hr hkey pok hx D0
    subst hbv
    generalize hLn : L0 ++ (t.ins.take n).flatMap inB = Ln at *
    have K0 := tru
    have K1 := tru
    have K2 := tru
    have K3 := tru
    have K4 := tru
    have K5 := tru
    go_wp2_with (first | ((with_reducible refine zn ?_); have mk := K0.out; refine zd rfl (zf (ty := 108) rfl rfl R1.out uI rI (by rw [IL.out]; exact q9)) ?_; go_frame) | ((with_reducible refine zA ?_); have mk := K1.out; refine zq rfl (zm (w := wr) (ty := 108) (cs := inC x.from_ (.slice ka x.key.length kc)) rfl rfl rfl (by rw [IL.out]; rfl) (by rw [IL.out]; exact q9) jF) ?_; generalize wr.alloc (.cells (inC x.from_ (.slice ka x.key.length kc)).toArray 108) = wA at *; go_frame) | ((with_reducible refine zn ?_); have mk := K2.out; at_builtin; refine zW rfl rfl rfl rfl A1.out ?_; go_frame) | (clear K3; go_at_call 85; refine (XH B3.out (by have := SZ.out; have := QL.out; omega) (x := x.from_.n) (by omega) (n := 4) (by decide) (by rw [List.length_append, LX.out]; have := SL.out; omega)).mono ?_; rintro e w4 ⟨v4, rfl, b4, f4, g4⟩; have B5 := Hd b4; have F5 := Hd (vm.step F3.out B3.out (by have := Q1.out; omega) f4); have D5 := Hd (g4.ne D3.out QL.out); have C5 := Hd (f4.cell C33.out D3.out); have c33 := C5.out; have Q5 := Hd (show wr.heap.size < w4.heap.size by have := f4.size; have := QL.out; omega); have L5 := Hd (show (Ln ++ x.from_.tx ++ leB 4 x.from_.n).length ≤ 41 + 101 * n by simp only [List.length_append, LX.out, Jc]; have := SL.out; omega); clear b4 f4 g4; obtain ⟨v5, w5, a1, a2, a3, a4⟩ := JF w4 (x := x.key.length) B5.out (by have := L5.out; omega) (by have := SZ.out; have := Q5.out; omega) 106; have A5 := Hd a1; have B6 := Hd a2; have F6 := Hd (vm.step F5.out B5.out (by have := Q1.out; omega) a3); have c5 := a3.cell C5.out D5.out; have Q6 := Hd (show wr.heap.size < w5.heap.size by have := a3.size; have := Q5.out; omega); clear a1 a2 a3 a4; obtain ⟨v6, w6, a1, a2, a3, -⟩ := Jb w5 B6.out (KEY.out.2.keep F6.out) (by have := L5.out; have := KL.out; rw [List.length_append]; simp only [List.length_singleton]; omega) (by have := SZ.out; have := Q6.out; omega) 106; have A6 := Hd a1; have B7 := Hd a2; have F7 := Hd (vm.step F6.out B6.out (by have := Q1.out; omega) a3); clear a1 a2 a3; go_frame) | ((with_reducible refine zn ?_); have mk := K4.out; at_builtin; refine zW rfl rfl rfl rfl A5.out ?_; go_frame) | ((with_reducible refine zn ?_); have mk := K5.out; at_builtin; refine zW rfl rfl rfl rfl A6.out ?_; go_frame))
    go_roundw
    case rel => exact ⟨n + 1, by go_num, by omega, by rw [TF.out, ← List.append_assoc, hLn]; simpa [inB] using B7.out, F7.out⟩
    case measure => simp [intOf]; omega
   ·have hne : n = t.ins.length := by omega
    subst hne
    have i1 : ¬ (t.ins.length : Int) < (t.ins.length : Int) := by omega
    rw [List.take_length] at BR SL
    have c2 := FR.out.cell C2.out id
    obtain ⟨v3, w3, a1, a2, a3, a4⟩ := JF wr (x := t.outs.length) BR.out (by have := SL.out; omega) SZ.out 106
    have A1 := Hd a1
    have B3 := Hd a2
    have F3 := Hd (vm.step FR.out BR.out (by have := Q1.out; omega) a3)
    have SZ3 := Hd (show w.heap.size + 1 ≤ w3.heap.size by have := a3.size; have := SZ.out; omega)
    have cD := F3.out.cell C2.out id
    have SL3 := Hd (show (L0 ++ t.ins.flatMap inB ++ [(t.outs.length : Int)]).length ≤ 1000 by
     rw [List.length_append]
     have := SL.out
     simp only [List.length_singleton]
     omega)
    rw [← List.append_assoc] at LE
    have OOK := Hd HOu.out.1
    clear a1 a2 a3 a4
    subst hbv
    generalize hLn : L0 ++ t.ins.flatMap inB = Ln at *
    go_wp2_with (first | (at_builtin; refine zW rfl rfl rfl rfl A1.out ?_))
    generalize hLm : Ln ++ [(t.outs.length : Int)] = Lm at *
    go_loopw [4, 63] (fun bv iv wr => ∃ n : Nat, iv = .int .i64 n ∧ n ≤ t.outs.length ∧ vm wr (w.heap.size + 1) bv (Lm ++ (t.outs.take n).flatMap QF) ∧ Fr No w1 wr) (fun _ iv _ => t.outs.length - (intOf iv).toNat)
    case atStart => exact ⟨0, rfl, Nat.zero_le _, by simpa using B3.out, F3.out⟩
    case round =>
     obtain ⟨n, rfl, hn, hb, fr⟩ := hrel
     have FS := Hd fr
     have BS := Hd hb
     have SY := Hd (show w.heap.size + 1 ≤ wr.heap.size by have := fr.size; have := Q1.out; omega)
     have SL4 := Hd (show (Lm ++ (t.outs.take n).flatMap QF).length ≤ 1000 + 40 * n by
      rw [List.length_append, X6 (fun x hx => OOK.out x (List.mem_of_mem_take hx)), List.length_take]
      have := SL3.out
      omega)
     obtain ⟨ba, bc, hbv⟩ := hb.form
     clear fr hb
     by_cases hlt : n < t.outs.length
     ·have i1 : (n : Int) < (t.outs.length : Int) := by omega
      obtain ⟨x, hx⟩ : ∃ x, t.outs[n]? = some x := ⟨_, List.getElem?_eq_getElem hlt⟩
      have TF := Hd (zba QF hx)
      obtain ⟨b, off, cap, hv, hr, -⟩ := HOu.out.at_ hx
      cases hv
      have pok := OOK.out x (List.mem_of_getElem? hx)
      have R1 := Hd (zb hr FS.out id)
      have OK := Hd pok
      have IL := Hd (yD pok)
      have FA := Hd ((Fr.refl No wr).alloc (.cells (zG x).toArray 103))
      have QA := Hd (show (wr.alloc (.cells (zG x).toArray 103)).heap.size = wr.heap.size + 1 by simp)
      obtain ⟨n1, n2⟩ := Q7 wr pok
      have N2 := Hd n2
      have nb1 := pok.1.1
      have nb2 := pok.1.2
      have LX := Hd pok.2.1
      have D0 := Hd (BS.out.ne (Nat.le_refl _))
      have FW := Hd (FS.out.trans0 FA.out)
      have BW := Hd (BS.out.keep0 FA.out)
      clear n2 hr pok hx
      subst hbv
      generalize hLo : Lm ++ (t.outs.take n).flatMap QF = Lo at *
      have K0 := tru
      have K1 := tru
      have K2 := tru
      have K3 := tru
      go_wp2_with (first | ((with_reducible refine zn ?_); have mk := K0.out; refine zd rfl (zf (ty := 103) rfl rfl R1.out uO rO (by rw [IL.out]; exact zY)) ?_; go_frame) | ((with_reducible refine zA ?_); have mk := K1.out; refine zq rfl (zm (w := wr) (ty := 103) (cs := zG x) rfl rfl rfl (by rw [IL.out]; rfl) (by rw [IL.out]; exact zY) ye) ?_; generalize wr.alloc (.cells (zG x).toArray 103) = wA at *; go_frame) | (clear K2; go_at_call 85; refine (XH BW.out (by have := SY.out; have := QA.out; omega) (x := x.value) (by omega) (n := 8) (by decide) (by have := SL4.out; omega)).mono ?_; rintro e w4 ⟨v4, rfl, b4, f4, g4⟩; have B5 := Hd b4; have F5 := Hd (vm.step FW.out BW.out (by have := Q1.out; omega) f4); have N5 := Hd (zb N2.out f4 D0.out); have Q5 := Hd (show wr.heap.size < w4.heap.size by have := f4.size; have := QA.out; omega); clear b4 f4 g4; obtain ⟨v6, w6, a1, a2, a3, -⟩ := Jb w4 B5.out (zeh N5.out LX.out Q5.out) (by simp only [List.length_append, LX.out, Jc]; have := SL4.out; omega) (by have := SY.out; have := Q5.out; omega) 106; have A6 := Hd a1; have B7 := Hd a2; have F7 := Hd (vm.step F5.out B5.out (by have := Q1.out; omega) a3); clear a1 a2 a3; go_frame) | ((with_reducible refine zn ?_); have mk := K3.out; at_builtin; refine zW rfl rfl rfl rfl A6.out ?_; go_frame))
      go_roundw
      case rel => exact ⟨n + 1, by go_num, by omega, by rw [TF.out, ← List.append_assoc, hLo]; simpa [QF] using B7.out, F7.out⟩
      case measure => simp [intOf]; omega
     ·have hne : n = t.outs.length := by omega
      subst hne
      have i1 : ¬ (t.outs.length : Int) < (t.outs.length : Int) := by omega
      rw [List.take_length] at BS
      have HF2 := Hd (HP.out _ wr (F1.out.trans0 FS.out) (by rw [LE.out]; exact BS.out))
      subst hbv
      generalize (Lm ++ (t.outs.take t.outs.length).flatMap QF).length = zz at *
      go_wp2
      go_ret2
      exact HF2.out
end Go.Proofs.YtdkkjchclkjleaaGreatDoor

/- tx: Id. -/
namespace Go.Proofs.YtdkkjchclkjleaaGreatDoor
open Go Go.RowKit Go.Maps Go.MapKept
def idE (t : TxD) : Int := if qP t = true then 0 else 5
def idH (t : TxD) : zi := if qP t = true then vI (txB t) else yN
theorem Jp (t : TxD) : zQ (idH t) := by
 unfold idH
 split
 ·exact Yf _
 ·exact xQ
theorem zhy {t : TxD} (h : qP t = true) (hi : ∀ x ∈ t.ins, x.from_.ok) (ho : ∀ x ∈ t.outs, x.ok) : (txB t).length ≤ 100000 := by
 obtain ⟨h1, h2, h3⟩ := yX.1 h
 have a := zad hi h1
 have b := X6 ho
 simp only [txB, List.length_append, List.length_cons, Jc]
 omega
theorem TxQ.oks {w : World} {t : TxD} {cs : List Value} (h : TxQ w t cs) : (∀ x ∈ t.ins, x.from_.ok) ∧ ∀ x ∈ t.outs, x.ok := by
 obtain ⟨ia, ic, oa, oc, -, -, hi, ho⟩ := h
 refine ⟨fun x hx => ?_, ho.1⟩
 obtain ⟨i, hxi⟩ := List.mem_iff_getElem?.1 hx
 obtain ⟨_, _, _, _, _, _, _, _, _, h, _⟩ := hi.at_ hxi
 exact h
theorem TxQ.form {w : World} {t : TxD} {cs : List Value} (h : TxQ w t cs) : ∃ ia ic oa oc, cs = [.int .u32 t.ver, .slice ia t.ins.length ic, .slice oa t.outs.length oc] := by
 obtain ⟨ia, ic, oa, oc, e, -⟩ := h
 exact ⟨ia, ic, oa, oc, e⟩
theorem Vd : (zj yN).toArray.size = 32 := rfl
theorem zcX (w : World) : (Instr.build 41 #[]).run Tryz.prog w = .ok (.agg (zj yN).toArray) w := by kernel_rfl
set_option maxRecDepth 20000 in
set_option maxHeartbeats 4000000 in
theorem Vh {w : World} (hg : Jx w) {t : TxD} {cs : List Value} (ht : TxQ w t cs) :
  Calls Tryz.prog 15 #[.agg cs.toArray] w fun e w' => e = .returned (.tuple #[.agg (zj (idH t)).toArray, .int .i64 (idE t)]) ∧ Fr No w w' := by
 have zH := y6
 obtain ⟨dT, uT, rT⟩ := vw
 obtain ⟨dH, uH, rH⟩ := yj
 obtain ⟨ia, ic, oa, oc, hcs⟩ := ht.form
 subst hcs
 have HT := Hd ht
 have HO := Hd ht.oks
 have f1 : Fr No w (w.alloc (.cells #[.int .u32 t.ver, .slice ia t.ins.length ic, .slice oa t.outs.length oc] 34)) := (Fr.refl No w).alloc _
 have R0 := Hd (zb (qZ w t.ver (.slice ia t.ins.length ic) (.slice oa t.outs.length oc)).2.2.2 ((Fr.refl No _).alloc (.cells (zj yN).toArray 41)) id)
 have F2 := Hd (f1.alloc (.cells (zj yN).toArray 41))
 have B2 := Hd (yL (w.alloc (.cells #[.int .u32 t.ver, .slice ia t.ins.length ic, .slice oa t.outs.length oc] 34)) (.cells (zj yN).toArray 41) (n := w.heap.size + 1) (by simp))
 have HP := Hd (zhU _ (ht.keep F2.out))
 have G2 := Hd (hg.keep0 F2.out)
 have LB := Hd (fun h => zhy (t := t) h HO.out.1 HO.out.2)
 have Z2 := Hd (show w.heap.size + 2 = ((w.alloc (.cells #[.int .u32 t.ver, .slice ia t.ins.length ic, .slice oa t.outs.length oc] 34)).alloc (.cells (zj yN).toArray 41)).heap.size by simp)
 clear ht f1 hg
 show Calls Tryz.prog 15 #[.agg #[.int .u32 t.ver, .slice ia t.ins.length ic, .slice oa t.outs.length oc]] w _
 go_enter Tryz.func15, Tryz.ntmps15
 by_cases hfm : qP t = true
 ·have HE := Hd (show idE t = 0 ∧ idH t = vI (txB t) from ⟨by simp [idE, hfm], by simp [idH, hfm]⟩)
  have LB2 := Hd (LB.out hfm)
  have HFM := Hd hfm
  have SL := Hd (show (zj (vI (txB t))).length = 32 from zE (Yf _))
  clear hfm
  have K0 := tru
  have K1 := tru
  have K2 := tru
  have K3 := tru
  go_wp2_with (first | ((with_reducible refine zn ?_); have mk := K0.out; refine zd rfl (zf (ty := 34) rfl rfl R0.out uT rT zR) ?_; generalize (w.alloc (.cells #[.int .u32 t.ver, .slice ia t.ins.length ic, .slice oa t.outs.length oc] 34)).alloc (.cells (zj yN).toArray 41) = w2 at *; go_frame) | (clear K1; go_at_call 45; refine HP.out.mono ?_; rintro e w3 ⟨v, rfl, f3, h3⟩; rw [if_pos HFM.out] at h3; rw [if_pos HFM.out]; have F3 := Hd f3; have B3 := Hd h3; obtain ⟨va, vc, hva⟩ := h3.form; subst hva; have G3 := Hd (G2.out.keep0 F3.out); have F4 := Hd (show Fr No w3 (w3.alloc (.cells #[.slice va (txB t).length vc] 106)) from (Fr.refl No w3).alloc _); have HTW := Hd (zeL (G3.out.keep0 F4.out) (v := .slice (some ⟨w3.heap.size, 0, none⟩) 1 1) (L := [txB t]) (zcl B3.out.slice.arg) (by simp) (by have := LB2.out; simp; omega)); rw [show [txB t].flatten = txB t by simp] at HTW; clear f3 h3; generalize vI (txB t) = TB at *; go_frame) | (clear K2; go_at_call 46; refine HTW.out.mono ?_; rintro e w5 ⟨rfl, f5⟩; have F5 := Hd f5; clear f5; have B5 := Hd (F5.out.obj (F4.out.obj (F3.out.obj B2.out id) id) id); go_frame) | ((with_reducible refine zA ?_); have mk := K3.out; refine zq rfl (z6 (ty := 41) (b := w.heap.size + 1) (off := 0) (cs := zj TB) rfl rfl rfl (by rw [SL.out]; exact yg B5.out (Nat.le_of_eq Vd.symm)) (by rw [SL.out]; exact zr) zV) ?_; go_frame))
  refine bodyPost_ret (yO (P := Tryz.prog) (fn := Tryz.f15) rfl _ rfl (yY B5.out (by rw [SL.out]; exact Vd)) uH rH (by rw [SL.out]; exact zr) rfl) rfl ⟨by rw [HE.out.1, HE.out.2]; rfl, ?_⟩
  exact (((F2.out.trans0 F3.out).trans0 F4.out).trans0 F5.out).trans (zJ _ _ _ _) (fun i hi e => by omega)
 ·have hfm2 : qP t = false := by simpa using hfm
  have HE := Hd (show idE t = 5 ∧ idH t = yN from ⟨by simp [idE, hfm2], by simp [idH, hfm2]⟩)
  have HFM := Hd hfm2
  have SL := Hd (show (zj yN).length = 32 from rfl)
  clear hfm hfm2
  have K0 := tru
  have K1 := tru
  have K2 := tru
  have K3 := tru
  go_wp2_with (first | ((with_reducible refine zn ?_); have mk := K0.out; refine zd rfl (zf (ty := 34) rfl rfl R0.out uT rT zR) ?_; generalize (w.alloc (.cells #[.int .u32 t.ver, .slice ia t.ins.length ic, .slice oa t.outs.length oc] 34)).alloc (.cells (zj yN).toArray 41) = w2 at *; go_frame) | (clear K1; go_at_call 45; refine HP.out.mono ?_; rintro e w3 ⟨v, rfl, f3, h3⟩; rw [HFM.out] at h3; have h4 : v = .slice none 0 0 := h3; subst h4; rw [HFM.out]; have F3 := Hd f3; clear f3 h3; have B5 := Hd (F3.out.obj B2.out id); go_frame) | ((with_reducible refine zn ?_); have mk := K2.out; with_reducible refine yk 13 ?_; refine zd rfl (yA (t := 41) rfl rfl (zcX _)) ?_; go_frame) | ((with_reducible refine zA ?_); have mk := K3.out; refine zq rfl (z6 (ty := 41) (b := w.heap.size + 1) (off := 0) (cs := zj yN) rfl rfl rfl (by rw [SL.out]; exact yg B5.out (Nat.le_of_eq Vd.symm)) (by rw [SL.out]; exact zr) zV) ?_; go_frame))
  refine bodyPost_ret (yO (P := Tryz.prog) (fn := Tryz.f15) rfl _ rfl (yY B5.out (by rw [SL.out]; exact Vd)) uH rH (by rw [SL.out]; exact zr) rfl) rfl ⟨by rw [HE.out.1, HE.out.2]; rfl, ?_⟩
  exact (F2.out.trans0 F3.out).trans (zJ _ _ _ _) (fun i hi e => by omega)
end Go.Proofs.YtdkkjchclkjleaaGreatDoor

/- chain: payments; tx: Points, Coins. -/
namespace Go.Proofs.YtdkkjchclkjleaaGreatDoor
open Go Go.RowKit Go.Maps Go.MapKept
def Zz (id : zi) (l : List yF) : List zy := l.mapIdx fun i x => ⟨⟨id, (i : Int)⟩, x⟩
theorem jo (id : zi) (l : List yF) : (Zz id l).length = l.length := by simp [Zz]
theorem Q9 (id : zi) {l : List yF} {i : Nat} {x : yF} (h : l[i]? = some x) : (Zz id l)[i]? = some ⟨⟨id, (i : Int)⟩, x⟩ := by simp [Zz, h]
theorem Vb {id : zi} {l : List yF} (hi : zQ id) (hl : ∀ x ∈ l, x.ok) (hn : l.length ≤ 4294967296) : ∀ c ∈ Zz id l, c.ok := by
 intro c hc
 obtain ⟨i, hi'⟩ := List.mem_iff_getElem?.1 hc
 have hlt : i < l.length := by have := (List.getElem?_eq_some_iff.1 hi').1; rwa [jo] at this
 have hx : l[i]? = some l[i] := List.getElem?_eq_getElem hlt
 rw [Q9 id hx] at hi'
 cases hi'
 exact ⟨⟨hi, by show (0 : Int) ≤ (i : Int); omega, by show (i : Int) ≤ _; omega⟩, hl _ (List.getElem_mem hlt)⟩
theorem zf3 : xu Tryz.prog 95 = some (33, [(0, 32), (32, 1)]) := by kernel_rfl
theorem ziK {h : zi} (hh : zQ h) (n : Int) : jY (([(0, 32), (32, 1)] : List (Nat × Nat)).toArray[·]?) 0 [(0, .agg (zj h).toArray), (1, .int .u32 n)] := by
 have h1 : (Value.agg (zj h).toArray).cells.size = 32 := by show (zj h).toArray.size = 32; simpa using zE hh
 have h2 : (Value.int .u32 n).cells.size = 1 := rfl
 simp only [jY, h1, h2]
 exact ⟨rfl, rfl, trivial⟩
theorem zgY (h : zi) (n : Int) : xp [(0, .agg (zj h).toArray), (1, .int .u32 n)] = zB ⟨h, n⟩ := by
 have h1 : (Value.agg (zj h).toArray).cells.toList = zj h := by show (zj h).toArray.toList = _; simp
 have h2 : (Value.int .u32 n).cells.toList = [.int .u32 n] := rfl
 simp only [xp, List.flatMap_cons, List.flatMap_nil, h1, h2, zB, List.append_nil]
 rfl
theorem zgw : xu Tryz.prog 214 = some (66, [(0, 33), (33, 33)]) := by kernel_rfl
theorem zh6 {p : zF} {o : yF} (hp : p.ok) (ho : o.ok) : jY (([(0, 33), (33, 33)] : List (Nat × Nat)).toArray[·]?) 0 [(0, .agg (zB p).toArray), (1, .agg (zG o).toArray)] := by
 have h : (Value.agg (zB p).toArray).cells.size = 33 := by show (zB p).toArray.size = 33; simpa using yb hp
 have h1 : (Value.agg (zG o).toArray).cells.size = 33 := by show (zG o).toArray.size = 33; simpa using yD ho
 simp only [jY, h, h1]
 exact ⟨rfl, rfl, trivial⟩
theorem zg5 (p : zF) (o : yF) : xp [(0, .agg (zB p).toArray), (1, .agg (zG o).toArray)] = qE ⟨p, o⟩ := by
 have h : (Value.agg (zB p).toArray).cells.toList = zB p := by show (zB p).toArray.toList = _; simp
 have h1 : (Value.agg (zG o).toArray).cells.toList = zG o := by show (zG o).toArray.toList = _; simp
 simp [xp, qE, h, h1]
theorem zbq {α : Type} (f : α → List Value) {k : Nat} {A : List α} {xs : List Value} {n : Nat} {y : α} (hy : A[n]? = some y) (hl : (f y).length = k) (hx : xs.take (n * k) = (A.take n).flatMap f) (hn : n * k + k ≤ xs.length) :
  (qQ xs (n * k) (f y)).take ((n + 1) * k) = (A.take (n + 1)).flatMap f := by
 have h1 := VH xs (f y) (n * k) (by rw [hl]; exact hn)
 rw [hl] at h1
 rw [show (n + 1) * k = n * k + k by rw [Nat.add_mul, Nat.one_mul], h1, hx, List.take_add_one, hy]
 simp
set_option maxRecDepth 20000 in
set_option maxHeartbeats 8000000 in
theorem zbH (w : World) {id : zi} (hi : zQ id) {v : Value} {l : List yF} (hl : xz w v l) (hN : l.length ≤ 1000) :
  Calls Tryz.prog 70 #[.agg (zj id).toArray, v] w fun e w' => ∃ v', e = .returned v' ∧ w'.ownsRow w.heap.size 214 66 v' l.length ((Zz id l).flatMap qE) ∧ Fr No w w' := by
 obtain ⟨dO, uO, rO⟩ := vA
 obtain ⟨dH, uH, rH⟩ := yj
 obtain ⟨iK, hiK, hz, hsz, hby⟩ := info_parts zeD
 have zo := qT
 have F1 := (Fr.refl No w).alloc (.cells (zj id).toArray 41)
 have hs1 : (w.alloc (.cells (zj id).toArray 41)).heap.size = w.heap.size + 1 := by simp
 obtain ⟨w2, hmk, ho2, hg2⟩ := run_makeSlice_full (P := Tryz.prog) (w := w.alloc (.cells (zj id).toArray 41)) (w.heap.size) 145 214 iK _ 66 zgG hiK hz hsz .i64 .i64 l.length (by omega) (by rw [hby]; omega) (by unfold maxLen; omega) (by simp)
 have f12 : Fr No (w.alloc (.cells (zj id).toArray 41)) w2 := Fr.of_grown hg2 (fun k e => by cases e)
 have F2 := Hd (F1.trans0 f12)
 have HB2 := Hd (f12.obj (yn w (.cells (zj id).toArray 41)) _root_.id)
 rw [hs1] at hmk ho2
 have HO0 := Hd ho2
 have HL := Hd hl
 have IOK := Hd hi
 have HHL := Hd (zE hi)
 obtain ⟨va, vc, rfl⟩ := hl.2.form
 have SZ2 := Hd (show w.heap.size + 1 < w2.heap.size from (ho2.lt _ rfl).2)
 clear hi hl hiK hz hsz hby ho2 hg2 f12 hs1
 go_enter Tryz.func70, Tryz.ntmps70
 go_wp2_with fail
 clear hmk
 obtain ⟨g, hgd⟩ : ∃ g, g = w.heap.size + 1 := ⟨_, rfl⟩
 have G0 := Hd hgd
 rw [← hgd] at HO0 SZ2 ⊢
 clear hgd
 go_loopw [13] (fun iv wr => ∃ (n : Nat) (xs : List Value), iv = .int .i64 n ∧ n ≤ l.length ∧ wr.ownsRow (w.heap.size) 214 66 (.slice (some ⟨g, 0, none⟩) l.length l.length) l.length xs ∧ xs.take (n * 66) = ((Zz id l).take n).flatMap qE ∧ Fr No w wr ∧ g < wr.heap.size ∧ wr.heap[w.heap.size]? = some (.cells (zj id).toArray 41 (0, 0))) (fun iv _ => l.length - (intOf iv).toNat)
 case atStart => exact ⟨0, _, rfl, Nat.zero_le _, HO0.out, by simp, F2.out, SZ2.out, HB2.out⟩
 case round =>
  obtain ⟨n, xs, rfl, hn, hor, hxs, fr, hsz, hbh⟩ := hrel
  have FR := Hd fr
  have HOR := Hd hor
  have HXS := Hd hxs
  have HSZ := Hd hsz
  have HBH := Hd hbh
  clear fr hor hxs hsz hbh
  by_cases hlt : n < l.length
  ·have i1 : (n : Int) < (l.length : Int) := by omega
   obtain ⟨x, hx⟩ : ∃ x, l[n]? = some x := ⟨_, List.getElem?_eq_getElem hlt⟩
   obtain ⟨b, off, cap, hv, hr, -⟩ := (HL.out.keep FR.out).at_ hx
   cases hv
   have XOK := Hd (HL.out.1 x (List.mem_of_getElem? hx))
   have IL := Hd (yD XOK.out)
   have R1 := Hd hr
   have POK := Hd (show (⟨id, (n : Int)⟩ : zF).ok from ⟨IOK.out, by show (0 : Int) ≤ (n : Int); omega, by show (n : Int) ≤ _; omega⟩)
   have HX := Hd (Q9 id hx)
   have CL := Hd (show (qE ⟨⟨id, (n : Int)⟩, x⟩).length = 66 from Qa ⟨POK.out, XOK.out⟩)
   have PL := Hd (yb POK.out)
   have e32 : (n : Int) % 4294967296 = (n : Int) := by omega
   have fA := (Fr.refl No wr).alloc (.cells (zG x).toArray 103)
   have FA := Hd fA
   have RO := Hd (zC wr (zG x) 103)
   have RH := Hd (show (wr.alloc (.cells (zG x).toArray 103)).rangeAt (w.heap.size) 0 (zj id) from zb (ya HBH.out) fA (fun h => h))
   have HO5 := Hd (zl HOR.out fA (fun _ _ => _root_.id))
   have TH := Hd (J7 HO5.out hlt)
   have HO6 := Hd (vz HO5.out (n * 66) (cs := qE ⟨⟨id, (n : Int)⟩, x⟩) (by rw [CL.out]; omega))
   have HXN := Hd (zbq qE HX.out CL.out HXS.out (by rw [HOR.out.1]; omega))
   clear hr hx fA
   have K0 := tru
   have K1 := tru
   have K2 := tru
   have K3 := tru
   have K4 := tru
   have K5 := tru
   have K6 := tru
   go_wp2_with (first | ((with_reducible refine zn ?_); have mk := K0.out; refine zd rfl (zf (ty := 103) rfl rfl R1.out uO rO (by rw [IL.out]; exact zY)) ?_; go_frame) | ((with_reducible refine zA ?_); have mk := K1.out; refine zq rfl (zm (w := wr) (ty := 103) (cs := zG x) rfl rfl rfl (by rw [IL.out]; rfl) (by rw [IL.out]; exact zY) ye) ?_; generalize wr.alloc (.cells (zG x).toArray 103) = wA at *; go_frame) | ((with_reducible refine zn ?_); have mk := K2.out; refine zd rfl (zf (ty := 41) rfl rfl RH.out uH rH (by rw [HHL.out]; exact zr)) ?_; go_frame) | ((with_reducible refine zn ?_); have mk := K3.out; refine zd rfl (y4 (t := 95) (vs := [(0, .agg (zj id).toArray), (1, .int .u32 n)]) rfl (by simp [Act.eval, e32]) zf3 (ziK IOK.out n) (zgY id n) (by rw [PL.out])) ?_; go_frame) | ((with_reducible refine zn ?_); have mk := K4.out; refine zd rfl (zf (ty := 103) rfl rfl RO.out uO rO (by rw [IL.out]; exact zY)) ?_; go_frame) | ((with_reducible refine zn ?_); have mk := K5.out; refine zd rfl (y4 (t := 214) (vs := [(0, .agg (zB ⟨id, (n : Int)⟩).toArray), (1, .agg (zG x).toArray)]) rfl rfl zgw (zh6 POK.out XOK.out) (zg5 _ _) (by rw [CL.out])) ?_; go_frame) | ((with_reducible refine zA ?_); have mk := K6.out; refine zq rfl (z6 (ty := 214) (b := g) (off := n * 66) (cs := qE ⟨⟨id, (n : Int)⟩, x⟩) rfl rfl rfl (by rw [CL.out]; exact TH.out) (by rw [CL.out]; exact Vz) zbe) ?_; go_frame))
   go_roundw
   case rel => exact ⟨n + 1, _, by go_num, by omega, HO6.out, HXN.out, (FR.out.trans0 FA.out).trans (zJ _ _ _ _) (fun i hi e => by have := G0.out; omega), by have := (zJ g (qE ⟨⟨id, (n : Int)⟩, x⟩) (n * 66) wA).size; have := FA.out.size; have := HSZ.out; omega, (zJ g (qE ⟨⟨id, (n : Int)⟩, x⟩) (n * 66) wA).obj (FA.out.obj HBH.out _root_.id) (fun e => by have := G0.out; omega)⟩
   case measure => simp [intOf]; omega
  ·have hne : n = l.length := by omega
   have i1 : ¬ (n : Int) < (l.length : Int) := by omega
   have HE := Hd (show xs = (Zz id l).flatMap qE by
    have := HXS.out
    rw [hne, List.take_of_length_le (by rw [HOR.out.1]; exact Nat.le_refl _), List.take_of_length_le (by rw [jo]; exact Nat.le_refl _)] at this
    exact this)
   go_wp2
   go_ret
   exact ⟨_, rfl, by rw [← HE.out]; exact HOR.out, FR.out⟩
def zS (t : TxD) : List zF := t.ins.map (·.from_)
set_option maxRecDepth 20000 in
set_option maxHeartbeats 8000000 in
theorem vP (w : World) {t : TxD} {cs : List Value} (ht : TxQ w t cs) (hN : t.ins.length ≤ 1000) :
  Calls Tryz.prog 33 #[.agg cs.toArray] w fun e w' => ∃ v', e = .returned v' ∧ w'.ownsRow w.heap.size 95 33 v' t.ins.length ((zS t).flatMap zB) ∧ Fr No w w' := by
 obtain ⟨ia, ic, oa, oc, rfl, -, hi, -⟩ := ht
 obtain ⟨dI, uI, rI⟩ := YV
 obtain ⟨dP, uP, rP⟩ := xr
 obtain ⟨iK, hiK, hz, hsz, hby⟩ := info_parts zdx
 have zI := Zj
 have F1 := (Fr.refl No w).alloc (.cells #[.int .u32 t.ver, .slice ia t.ins.length ic, .slice oa t.outs.length oc] 34)
 have hs1 : (w.alloc (.cells #[.int .u32 t.ver, .slice ia t.ins.length ic, .slice oa t.outs.length oc] 34)).heap.size = w.heap.size + 1 := by simp
 obtain ⟨w2, hmk, ho2, hg2⟩ := run_makeSlice_full (P := Tryz.prog) (w := w.alloc (.cells #[.int .u32 t.ver, .slice ia t.ins.length ic, .slice oa t.outs.length oc] 34)) (w.heap.size) 91 95 iK _ 33 zeO hiK hz hsz .i64 .i64 t.ins.length (by omega) (by rw [hby]; omega) (by unfold maxLen; omega) (by simp)
 have f12 : Fr No (w.alloc (.cells #[.int .u32 t.ver, .slice ia t.ins.length ic, .slice oa t.outs.length oc] 34)) w2 := Fr.of_grown hg2 (fun k e => by cases e)
 have F2 := Hd (F1.trans0 f12)
 obtain ⟨c0, c1, -, -⟩ := qZ w t.ver (.slice ia t.ins.length ic) (.slice oa t.outs.length oc)
 have c1' := f12.cell c1 _root_.id
 rw [hs1] at hmk ho2
 have HO0 := Hd ho2
 have HI := Hd hi
 have SZ2 := Hd (show w.heap.size + 1 < w2.heap.size from (ho2.lt _ rfl).2)
 clear hi hiK hz hsz hby ho2 hg2 f12 hs1
 show Calls Tryz.prog 33 #[.agg #[.int .u32 t.ver, .slice ia t.ins.length ic, .slice oa t.outs.length oc]] w _
 go_enter Tryz.func33, Tryz.ntmps33
 go_wp2_with fail
 clear hmk c0 c1 c1'
 obtain ⟨g, hgd⟩ : ∃ g, g = w.heap.size + 1 := ⟨_, rfl⟩
 have G0 := Hd hgd
 rw [← hgd] at HO0 SZ2 ⊢
 clear hgd
 go_loopw [13] (fun iv wr => ∃ (n : Nat) (xs : List Value), iv = .int .i64 n ∧ n ≤ t.ins.length ∧ wr.ownsRow (w.heap.size) 95 33 (.slice (some ⟨g, 0, none⟩) t.ins.length t.ins.length) t.ins.length xs ∧ xs.take (n * 33) = ((zS t).take n).flatMap zB ∧ Fr No w wr ∧ g < wr.heap.size) (fun iv _ => t.ins.length - (intOf iv).toNat)
 case atStart => exact ⟨0, _, rfl, Nat.zero_le _, HO0.out, by simp, F2.out, SZ2.out⟩
 case round =>
  obtain ⟨n, xs, rfl, hn, hor, hxs, fr, hsz⟩ := hrel
  have FR := Hd fr
  have HOR := Hd hor
  have HXS := Hd hxs
  have HSZ := Hd hsz
  clear fr hor hxs hsz
  by_cases hlt : n < t.ins.length
  ·have i1 : (n : Int) < (t.ins.length : Int) := by omega
   obtain ⟨x, hx⟩ : ∃ x, t.ins[n]? = some x := ⟨_, List.getElem?_eq_getElem hlt⟩
   obtain ⟨b, off, cap, cs, hv, hr, ka, kc, rfl, pok, hkey⟩ := (HI.out.keep0 FR.out).at_ hx
   cases hv
   have R1 := Hd hr
   have POK := Hd pok
   have IL := Hd (vi pok (.slice ka x.key.length kc))
   have HX := Hd (show (zS t)[n]? = some x.from_ by simp [zS, hx])
   have CL := Hd (yb POK.out)
   have fA := (Fr.refl No wr).alloc (.cells (inC x.from_ (.slice ka x.key.length kc)).toArray 108)
   have FA := Hd fA
   have RP := Hd (Y4 wr (kv := .slice ka x.key.length kc) pok).1
   have HO5 := Hd (zl HOR.out fA (fun _ _ => _root_.id))
   have TH := Hd (J7 HO5.out hlt)
   have HO6 := Hd (vz HO5.out (n * 33) (cs := zB x.from_) (by rw [CL.out]; omega))
   have HXN := Hd (zbq zB HX.out CL.out HXS.out (by rw [HOR.out.1]; omega))
   clear hr hx fA hkey pok
   have K0 := tru
   have K1 := tru
   have K2 := tru
   have K3 := tru
   go_wp2_with (first | ((with_reducible refine zn ?_); have mk := K0.out; refine zd rfl (zf (ty := 108) rfl rfl R1.out uI rI (by rw [IL.out]; exact q9)) ?_; go_frame) | ((with_reducible refine zA ?_); have mk := K1.out; refine zq rfl (zm (w := wr) (ty := 108) (cs := inC x.from_ (.slice ka x.key.length kc)) rfl rfl rfl (by rw [IL.out]; rfl) (by rw [IL.out]; exact q9) jF) ?_; generalize wr.alloc (.cells (inC x.from_ (.slice ka x.key.length kc)).toArray 108) = wA at *; go_frame) | ((with_reducible refine zn ?_); have mk := K2.out; refine zd rfl (zf (ty := 95) rfl rfl RP.out uP rP (by rw [CL.out]; exact zL)) ?_; go_frame) | ((with_reducible refine zA ?_); have mk := K3.out; refine zq rfl (z6 (ty := 95) (b := g) (off := n * 33) (cs := zB x.from_) rfl rfl rfl (by rw [CL.out]; exact TH.out) (by rw [CL.out]; exact zL) y3) ?_; go_frame))
   go_roundw
   case rel => exact ⟨n + 1, _, by go_num, by omega, HO6.out, HXN.out, (FR.out.trans0 FA.out).trans (zJ _ _ _ _) (fun i hi e => by have := G0.out; omega), by have := (zJ g (zB x.from_) (n * 33) wA).size; have := FA.out.size; have := HSZ.out; omega⟩
   case measure => simp [intOf]; omega
  ·have hne : n = t.ins.length := by omega
   have i1 : ¬ (n : Int) < (t.ins.length : Int) := by omega
   have HE := Hd (show xs = (zS t).flatMap zB by
    have := HXS.out
    rw [hne, List.take_of_length_le (by rw [HOR.out.1]; exact Nat.le_refl _), List.take_of_length_le (by simp [zS])] at this
    exact this)
   go_wp2
   go_ret
   exact ⟨_, rfl, by rw [← HE.out]; exact HOR.out, FR.out⟩
end Go.Proofs.YtdkkjchclkjleaaGreatDoor

/- chain: Id. -/
namespace Go.Proofs.YtdkkjchclkjleaaGreatDoor
open Go Go.RowKit Go.Maps Go.MapKept
def zbb (b : Zr) : Bool := decide (b.pay.length ≤ 8) && (decide (b.txs.length ≤ 16) && b.txs.all qP)
def zki (b : Zr) : List Int := leB 8 b.tag ++ ((b.pay.length : Int) :: (b.pay.flatMap QF ++ ((b.txs.length : Int) :: b.txs.flatMap idH)))
def zji (b : Zr) : zi := if zbb b = true then vI (zki b) else yN
theorem zhC (b : Zr) : zQ (zji b) := by
 unfold zji
 split
 ·exact Yf _
 ·exact xQ
end Go.Proofs.YtdkkjchclkjleaaGreatDoor
