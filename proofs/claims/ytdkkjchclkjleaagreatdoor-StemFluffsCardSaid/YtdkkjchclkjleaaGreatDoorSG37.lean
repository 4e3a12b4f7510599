/- stem: cut. -/
import Derived.Test.YtdkkjchclkjleaaGreatDoorSG34
import Derived.Test.YtdkkjchclkjleaaGreatDoorSG35
import Derived.Test.YtdkkjchclkjleaaGreatDoorSG36
import Derived.Test.YtdkkjchclkjleaaGreatDoorSG30
set_option linter.unusedVariables false
set_option linter.unusedSimpArgs false
set_option linter.unnecessarySimpa false
set_option linter.all false
namespace Go.Proofs.YtdkkjchclkjleaaGreatDoor
open Go Go.RowKit Go.Maps Go.MapKept
def vq (R : Nat → Value) (n : Nat) (v : Value) : Nat → Value := fun j => if j = n then v else R j
def Xf (p ma ms : Nat) (v : Value) : Nat → Prop := fun j => j = p ∨ j = ma ∨ j = ms ∨ v.ownBlock = some j
theorem YE {w : World} {q : Nat} {i : Int} {x : zi} (h : w.rangeAt q 0 (skC (i, x))) : w.cell? ⟨q, 0, none⟩ = some (.int .i64 i) ∧ w.rangeAt q 1 (zj x) := by
 refine ⟨by simpa using h 0 _ rfl, fun j v hj => ?_⟩
 have := h (j + 1) v (by unfold skC; rw [List.getElem?_cons_succ]; exact hj)
 rw [Nat.zero_add] at this
 rw [Nat.add_comm]
 exact this
section
variable {w0 w w' : World} {p ma ms : Nat} {R : Nat → Value} {X : Nat → Prop} {C : Nat → zi → List Value} {Q : StQ}
theorem jE {n : Nat} (hn : n < 65) : ∀ j, Xf p ma ms (R n) j → stV p ma ms R j := by
 rintro j (e | e | e | e)
 ·exact .inl e
 ·exact .inr (.inl e)
 ·exact .inr (.inr (.inl e))
 ·exact .inr (.inr (.inr ⟨n, hn, e⟩))
theorem yz.upd (h : yz w0 w p ma ms R X C Q) {n : Nat} (hn : n < 65) {v' : Value} {l' : List StE} {C' : Nat → zi → List Value} {X' : Nat → Prop} (f : Fr (Xf p ma ms (R n)) w w')
  (obj : w'.heap[p]? = some (.cells (stC ma ms (vq R n v')).toArray 116 (0, 0)))
  (row : w'.ownsRow w0.heap.size 41 32 v' (yc l').length ((yc l').flatMap zj))
  (am : ∃ M, qR w' ma M ∧ ∀ k cs, (k, cs) ∈ M ↔ ∃ i : Nat, i < 65 ∧ k.1 = (i : Int) ∧ ∃ e ∈ qU Q n l' i, e.id = k.2 ∧ cs = C' i k.2)
  (sm : ∃ M, Zb w' ms M ∧ ∀ k x, (k, x) ∈ M ↔ ∃ i : Nat, i < 65 ∧ k.1 = (i : Int) ∧ ∃ e ∈ qU Q n l' i, k.2 ∈ zS e.tx ∧ e.id = x)
  (data : ∀ e ∈ l', Kept X' w' (fun w => TxQ w e.tx (C' n e.id))) (hC : ∀ i, i ≠ n → C' i = C i) (val : SVal l') (hv : ∀ j, v'.ownBlock = some j → (R n).ownBlock = some j ∨ w.heap.size ≤ j)
  (hX : ∀ j, j < w.heap.size → X' j → X j) (hs : ∀ j, stV p ma ms (vq R n v') j → X' j) : yz w0 w' p ma ms (vq R n v') X' C' (qU Q n l') := by
 have hst : ∀ j, Xf p ma ms (R n) j → stV p ma ms R j := jE hn
 refine { obj := obj, row := fun i hi => ?_, am := am, sm := sm, data := fun i hi e he => ?_, val := fun i => ?_, apart := h.apart, rnot := fun i hi j hj => ?_, rapart := fun i k hi hk hik j hj hk2 => ?_, lo3 := h.lo3, fr := h.fr.trans f (fun j hj e => by have := h.lo j (hst j e); omega), sub := hs }
 ·by_cases e : i = n
  ·subst e
   unfold vq
   rw [if_pos rfl, xh]
   exact row
  ·unfold vq
   rw [if_neg e, xY Q l' e]
   refine zl (h.row i hi) f (fun j hj c => ?_)
   have h3 := h.rnot i hi j hj
   rcases c with c | c | c | c
   ·exact h3.1 c
   ·exact h3.2.1 c
   ·exact h3.2.2 c
   ·exact h.rapart i n hi hn e j hj c
 ·by_cases en : i = n
  ·subst en
   rw [xh] at he
   exact data e he
  ·rw [xY Q l' en] at he
   rw [hC i en]
   exact (h.data i hi e he).step (f.mono (fun j c => h.sub j (hst j c))) hX
 ·by_cases e : i = n
  ·subst e; rw [xh]; exact val
  ·rw [xY Q l' e]; exact h.val i
 ·by_cases e : i = n
  ·subst e
   unfold vq at hj
   rw [if_pos rfl] at hj
   rcases hv j hj with c | c
   ·exact h.rnot i hi j c
   ·have h1 := h.hi p (.inl rfl)
    have h2 := h.hi ma (.inr (.inl rfl))
    have h3 := h.hi ms (.inr (.inr (.inl rfl)))
    omega
  ·unfold vq at hj
   rw [if_neg e] at hj
   exact h.rnot i hi j hj
 ·unfold vq at hj hk2
  by_cases ei : i = n
  ·rw [if_pos ei] at hj
   rw [if_neg (fun e => hik (ei.trans e.symm))] at hk2
   rcases hv j hj with c | c
   ·exact h.rapart n k hn hk (fun e => hik (ei.trans e)) j c hk2
   ·have := ((h.row k hk).lt j hk2).2
    omega
  ·rw [if_neg ei] at hj
   by_cases ek : k = n
   ·rw [if_pos ek] at hk2
    rcases hv j hk2 with c | c
    ·exact h.rapart n i hn hi (fun e => ei e.symm) j c hj
    ·have := ((h.row i hi).lt j hj).2
     omega
   ·rw [if_neg ek] at hk2
    exact h.rapart i k hi hk hik j hj hk2
structure Qr (w : World) (p ma ms : Nat) (R : Nat → Value) (C : Nat → zi → List Value) (Q : StQ) (n : Nat) (e : StE) (m : Nat) : Prop where
 obj : w.heap[p]? = some (.cells (stC ma ms R).toArray 116 (0, 0))
 am : ∃ M, qR w ma M ∧ ∀ k cs, (k, cs) ∈ M ↔ ∃ i : Nat, i < 65 ∧ k.1 = (i : Int) ∧ ∃ e ∈ Q i, e.id = k.2 ∧ cs = C i k.2
 sm : ∃ M, Zb w ms M ∧ ∀ k x, (k, x) ∈ M ↔ ¬ (k.1 = (n : Int) ∧ k.2 ∈ (zS e.tx).take m) ∧ ∃ i : Nat, i < 65 ∧ k.1 = (i : Int) ∧ ∃ e ∈ Q i, k.2 ∈ zS e.tx ∧ e.id = x
theorem Qr.cells {n m : Nat} {e : StE} (h : Qr w p ma ms R C Q n e m) : w.cell? ⟨p, 0, none⟩ = some (.map (some ma)) ∧ w.cell? ⟨p, 66, none⟩ = some (.map (some ms)) ∧ ∀ i, i < 65 → w.cell? ⟨p, i + 1, none⟩ = some (R i) := by
 have := ya h.obj
 refine ⟨by simpa using this 0 _ rfl, by simpa using this 66 _ zbC, fun i hi => ?_⟩
 have := this (i + 1) _ (Y8 hi)
 simpa using this
theorem Qr.fr0 {n m : Nat} {e : StE} (h : Qr w p ma ms R C Q n e m) (f : Fr No w w') : Qr w' p ma ms R C Q n e m := by
 obtain ⟨M, hM, hm⟩ := h.am
 obtain ⟨M', hM', hm'⟩ := h.sm
 exact ⟨f.obj h.obj id, ⟨M, hM.keep f id, hm⟩, ⟨M', hM'.keep f id, hm'⟩⟩
theorem zga {l : List StE} (hn : (yc l).Nodup) {a e : StE} (ha : a ∈ l) (he : e ∈ l) (h : a.id = e.id) : a = e := by
 obtain ⟨i, hi, hi2⟩ := List.getElem_of_mem ha
 obtain ⟨k, hk, hk2⟩ := List.getElem_of_mem he
 have h1 : (yc l)[i]? = some e.id := by unfold yc; rw [List.getElem?_map, List.getElem?_eq_getElem hi, hi2]; exact congrArg some h
 have h2 : (yc l)[k]? = some e.id := by unfold yc; rw [List.getElem?_map, List.getElem?_eq_getElem hk, hk2]; rfl
 have := (List.getElem?_inj (List.getElem?_eq_some_iff.1 h1).1 hn).1 (h1.trans h2.symm)
 subst this
 exact hi2.symm.trans hk2
theorem SVal.apart2 {l : List StE} (h : SVal l) {a e : StE} (ha : a ∈ l) (he : e ∈ l) (hne : a ≠ e) : ∀ q ∈ zS e.tx, q ∉ zS a.tx := fun q hq hq2 => by
 have h1 := (List.pairwise_iff_getElem.1 h.apart)
 obtain ⟨i, hi, rfl⟩ := List.getElem_of_mem ha
 obtain ⟨k, hk, hk2⟩ := List.getElem_of_mem he
 rcases Nat.lt_trichotomy i k with hik | hik | hik
 ·exact h1 i k hi hk hik q hq2 (by rw [hk2]; exact hq)
 ·subst hik; exact hne hk2
 ·exact h1 k i hk hi hik q (by rw [hk2]; exact hq) hq2
theorem SVal.ins8 {l : List StE} (h : SVal l) : ∀ e ∈ l, e.tx.ins.length ≤ 8 := fun e he => (yX.1 (j5 (h.ent e he).1).1).2.1
theorem zfq {l : List StE} (h : SVal l) {e : StE} (he : e ∈ l) (q : zF) (x : zi) : (q ∉ zS e.tx ∧ ∃ a ∈ l, q ∈ zS a.tx ∧ a.id = x) ↔ ∃ a ∈ zaw l e.id, q ∈ zS a.tx ∧ a.id = x := by
 constructor
 ·rintro ⟨hq, a, ha, hqa, rfl⟩
  refine ⟨a, List.mem_filter.2 ⟨ha, ?_⟩, hqa, rfl⟩
  simp only [decide_eq_true_eq]
  intro hax
  rw [zga h.nd ha he hax] at hqa
  exact hq hqa
 ·rintro ⟨a, ha, hqa, rfl⟩
  obtain ⟨h1, h2⟩ := List.mem_filter.1 ha
  simp only [decide_eq_true_eq] at h2
  exact ⟨fun hq => h.apart2 h1 he (fun e' => h2 (by rw [e'])) q hq hqa, a, h1, hqa, rfl⟩
theorem XS (w : World) (i : Int) (x : zi) : (w.alloc (.cells (skC (i, x)).toArray 110)).rangeAt w.heap.size 0 (skC (i, x)) := zC w _ _
set_option maxRecDepth 20000 in
set_option maxHeartbeats 8000000 in
theorem zjN (h : yz w0 w p ma ms R X C Q) {n : Nat} (hn : n < 65) {e : StE} (he : e ∈ Q n) :
  Calls Tryz.prog 44 #[.pointer (some ⟨p, 0, none⟩), .agg (skC (n, e.id)).toArray] w fun e' w' => e' = .returned (.tuple #[]) ∧ Fr (Xf p ma ms (R n)) w w' ∧ ∃ v', (∀ j, v'.ownBlock = some j → (R n).ownBlock = some j) ∧ yz w0 w' p ma ms (vq R n v') X C (qU Q n (zaw (Q n) e.id)) := by
 obtain ⟨dH, uH, rH⟩ := yj
 obtain ⟨dP, uP, rP⟩ := xr
 obtain ⟨dT, uT, rT⟩ := vw
 obtain ⟨dS, uS, rS⟩ := zdN
 have zp := jA
 have zh := y6
 have HH := Hd h
 have HE := Hd he
 have HV := Hd (h.val n)
 have XOK := Hd (h.idok n e.id (List.mem_map.2 ⟨e, he, rfl⟩))
 have XL := Hd (zE XOK.out)
 have SL := Hd (Jd (k := ((n : Int), e.id)) XOK.out)
 have ELN := Hd (show e.tx.ins.length ≤ 1000 from by have := HV.out.ins8 e he; omega)
 have iel := ELN.out
 have i65 : (n : Int) < 65 := by omega
 have i0 : (0 : Int) ≤ (n : Int) := by omega
 have HN := Hd hn
 have AA := Hd h.apart
 obtain ⟨x, hx⟩ : ∃ x, e.id = x := ⟨_, rfl⟩
 have EX := Hd hx
 rw [hx] at XOK XL SL
 rw [hx]
 obtain ⟨ra, rc, hR⟩ := h.row_form hn
 have HRR := Hd hR
 have ROWL := Hd (h.row n hn)
 have IDOK := Hd (h.idok n)
 have F1 := Hd ((Fr.refl No w).alloc (.cells (skC (n, x)).toArray 110))
 have RK := Hd (XS w n x)
 have BLT := Hd (show p < w.heap.size ∧ ma < w.heap.size ∧ ms < w.heap.size from ⟨h.hi p (.inl rfl), h.hi ma (.inr (.inl rfl)), h.hi ms (.inr (.inr (.inl rfl)))⟩)
 clear h he hx hR
 go_enter Tryz.func44, Tryz.ntmps44
 go_wp2_with fail
 generalize hq0 : w.heap.size = q0 at *
 generalize hwa : w.alloc (.cells (skC (n, x)).toArray 110) = wa at *
 have ZA := Hd (show wa.heap.size = q0 + 1 by rw [← hwa, ← hq0]; simp)
 clear hwa
 have FD := Hd F1.out.drew
 have HD := Hd (HH.out.fr0 FD.out)
 have RD := Hd (zb RK.out (Fr.refl No wa).drew id)
 obtain ⟨M, hM, hm⟩ := HD.out.am
 obtain ⟨ia, ic, oa, oc, hce⟩ := (HD.out.data n HN.out e HE.out).now.form
 have hcel : YB C Q n x = [.int .u32 e.tx.ver, .slice ia e.tx.ins.length ic, .slice oa e.tx.outs.length oc] := by
  unfold YB
  rw [if_pos (show vC Q n x = true from by unfold vC; simp only [decide_eq_true_eq]; exact ⟨i0, i65, by rw [Int.toNat_natCast, ← EX.out]; exact List.mem_map.2 ⟨e, HE.out, rfl⟩⟩), Int.toNat_natCast, ← EX.out, hce]
 have LK := Hd (show ∀ w', qR w' ma M → (Instr.lookup 113 (.map (some ma)) (.agg (skC (n, x)).toArray) false).run Tryz.prog w' = .ok (.agg #[.int .u32 e.tx.ver, .slice ia e.tx.ins.length ic, .slice oa e.tx.outs.length oc]) w' from fun w' h' => by
  have := Zh (w := w') (Qz HN.out) XOK.out h' hm false
  rw [hcel] at this
  simpa using this)
 have HM := Hd hM
 have TQ := Hd (show TxQ wa.drew e.tx [.int .u32 e.tx.ver, .slice ia e.tx.ins.length ic, .slice oa e.tx.outs.length oc] from by rw [← hce]; exact (HD.out.data n HN.out e HE.out).now)
 clear hM hm hce hcel
 refine zv [false, false, false, false, false, false, true, false, false] (fun w' => w'.cell? ⟨p, 0, none⟩ = some (.map (some ma)) ∧ w'.rangeAt q0 0 (skC (n, x)) ∧ qR w' ma M) (by kernel_rfl) (by kernel_rfl) ?_ (fun K hK => ?_)
 ·exact ⟨HD.out.cells.1, RD.out, HM.out⟩
 have ZWD := Hd (show wa.drew.heap.size = q0 + 1 from ZA.out)
 generalize wa.drew = wd at *
 repeat (first | ((first | with_reducible refine zx ?_ | ((with_reducible refine zu ?_ ?_); (focus rfl))); apply Exists.intro; refine ⟨?_, ?_⟩; (focus (first | exact zD (ty := 110) rfl (fun w h => h.2.1) uS rS (by rw [SL.out]; exact jh) | exact fun w' h => zN (t := 113) rfl rfl rfl (LK.out w' h.2.2) | (intro w' hS; obtain ⟨s1, s2, s3⟩ := hS; go_simp; (try with_reducible rfl); done))); try simp only [Act.put, pA, pB, pC]) | ((first | ((with_reducible refine zg (c := false) ?_ ?_ ?_); (focus rfl); (focus rfl)) | ((with_reducible refine zg (c := true) ?_ ?_ ?_); (focus rfl); (focus rfl)) | ((with_reducible refine zt ?_ ?_); (focus rfl))); try simp only [Act.put, pA, pB, pC]))
 (first | with_reducible refine zU (fun K' hK' => ?_) | ((with_reducible refine zK ?_ (fun K' hK' => ?_)); (focus rfl)))
 go_simp
 refine (vP wd TQ.out ELN.out).mono ?_
 rintro e' w3 ⟨pv, rfl, hpo, f3⟩
 obtain ⟨pa, pc, hpv⟩ := hpo.slice.arg.form
 subst hpv
 have F3 := Hd f3
 have PO := Hd hpo
 clear f3 hpo
 refine hK'.out _ _ ?_ (fun hS => ?_)
 ·exact ⟨(HD.out.fr0 F3.out).cells.1, zb RD.out F3.out id, HM.out.keep F3.out id⟩
 try simp only [Act.put, pA, pB, pC]
 repeat (first | ((first | with_reducible refine zx ?_ | ((with_reducible refine zu ?_ ?_); (focus rfl))); apply Exists.intro; refine ⟨?_, ?_⟩; (focus (first | (intro w' hS; obtain ⟨s1, s2, s3⟩ := hS; go_simp; (try with_reducible rfl); done))); try simp only [Act.put, pA, pB, pC]) | ((first | ((with_reducible refine zg (c := false) ?_ ?_ ?_); (focus rfl); (focus rfl)) | ((with_reducible refine zg (c := true) ?_ ?_ ?_); (focus rfl); (focus rfl)) | ((with_reducible refine zt ?_ ?_); (focus rfl))); try simp only [Act.put, pA, pB, pC]))
 refine zM (hK.out _ _ ?_)
 have H3 := Hd (HD.out.fr0 F3.out)
 have F03 := Hd (FD.out.trans0 F3.out)
 have POK := Hd (show ∀ q ∈ zS e.tx, q.ok from fun q hq => by obtain ⟨y, hy, rfl⟩ := List.mem_map.1 hq; exact TQ.out.oks.1 y hy)
 have PTL := Hd (qW e.tx)
 have R3 := Hd (zb RD.out F3.out id)
 have Z3 := Hd (show q0 < w3.heap.size by have := F3.out.size; have := ZWD.out; omega)
 have DI0 := Hd (show Qr w3 p ma ms R C Q n e 0 from ⟨H3.out.obj, H3.out.am, by
  obtain ⟨M', h1, h2⟩ := H3.out.sm
  exact ⟨M', h1, fun q y => by rw [h2]; simp⟩⟩)
 have PNO := Hd (show ∀ j, (Value.slice pa e.tx.ins.length pc).ownBlock = some j → wd.heap.size ≤ j from fun j hj => (PO.out.lt j hj).1)
 have ZD := Hd (show ms < wd.heap.size from HD.out.hi ms (.inr (.inr (.inl rfl))))
 go_wp2_with fail
 go_loopw [15] (fun iv wi => ∃ m : Nat, iv = .int .i64 m ∧ m ≤ e.tx.ins.length ∧ Qr wi p ma ms R C Q n e m ∧ Fr (fun j => j = ms) w3 wi) (fun iv _ => e.tx.ins.length - (intOf iv).toNat)
 case atStart => exact ⟨0, rfl, Nat.zero_le _, DI0.out, Fr.refl _ _⟩
 case round =>
  obtain ⟨m, rfl, hm, hdi, hfi⟩ := hrel
  rename World => wi
  have DI := Hd hdi
  have FI := Hd hfi
  have RI := Hd (zb R3.out FI.out (fun e => by have := BLT.out.2.2; omega))
  clear hdi hfi
  by_cases hmt : m < e.tx.ins.length
  ·have i2 : (m : Int) < (e.tx.ins.length : Int) := by omega
   obtain ⟨q, hq⟩ : ∃ q, (zS e.tx)[m]? = some q := ⟨_, List.getElem?_eq_getElem (by rw [PTL.out]; exact hmt)⟩
   have QOK := Hd (POK.out q (List.mem_of_getElem? hq))
   have POI := Hd (zl PO.out FI.out (fun j hj e => by have := PNO.out j hj; have := ZD.out; omega))
   have hpi : qg wi (.slice pa e.tx.ins.length pc) (zS e.tx) := ⟨POK.out, by rw [PTL.out]; exact POI.out.slice.arg⟩
   obtain ⟨b2, off2, cap2, e2, hr2, -⟩ := hpi.at_ hq
   injection e2 with e3 e4 e5
   subst e3
   have R2 := Hd hr2
   have PL := Hd (yb QOK.out)
   have RQ := Hd (zC wi (zB q) 95)
   have FQ := Hd ((Fr.refl No wi).alloc (.cells (zB q).toArray 95))
   have TK := Hd (show ∀ y, y ∉ (zS e.tx).take (m + 1) ↔ y ≠ q ∧ y ∉ (zS e.tx).take m from fun y => by
    rw [List.take_add_one, hq]
    simp [and_comm])
   clear hr2 hq e4 e5 hpi
   have K0 := tru
   have K1 := tru
   go_wp2_with (first | ((with_reducible refine zn ?_); have mk := K0.out; refine zd rfl (zf (ty := 95) rfl rfl R2.out uP rP (by rw [PL.out]; exact zL)) ?_; go_frame) | ((with_reducible refine zA ?_); have mk := K1.out; refine zq rfl (zm (w := wi) (ty := 95) (cs := zB q) rfl rfl rfl (by rw [PL.out]; rfl) (by rw [PL.out]; exact zL) y3) ?_; go_frame))
   generalize hqq : wi.heap.size = qq at *
   generalize hwb : wi.alloc (.cells (zB q).toArray 95) = wb at *
   have FQD := Hd FQ.out.drew
   have DID := Hd (DI.out.fr0 FQD.out)
   have RQD := Hd (zb RQ.out (Fr.refl No wb).drew id)
   have RKD := Hd (YE (zb RI.out FQD.out id)).1
   clear hwb
   refine zv [false, false, false, false, false, false, false, false, true] (fun w' => w'.cell? ⟨p, 66, none⟩ = some (.map (some ms)) ∧ w'.rangeAt qq 0 (zB q) ∧ w'.cell? ⟨q0, 0, none⟩ = some (.int .i64 n)) (by kernel_rfl) (by kernel_rfl) ?_ (fun K hK => ?_)
   ·exact ⟨DID.out.cells.2.1, RQD.out, RKD.out⟩
   generalize wb.drew = z1 at *
   obtain ⟨M2, hM2, hm2⟩ := DID.out.sm
   obtain ⟨w5, M5, hdel, hm5, hD5, hT5, -⟩ := hM2.del zhR.keyed Xr (fun _ _ => QK) (QV (k := ((n : Int), q)) (Qz HN.out) QOK.out) 0 118
   have HR5 := Hd hdel
   have FM := Hd hT5.fr
   have NMS := Hd (show p ≠ ms ∧ ma ≠ ms from ⟨AA.out.2.1, AA.out.2.2⟩)
   have DI5 := Hd (show Qr w5 p ma ms R C Q n e (m + 1) from ⟨FM.out.obj DID.out.obj NMS.out.1, by
    obtain ⟨Ma, h1, h2⟩ := DID.out.am
    exact ⟨Ma, h1.keep FM.out NMS.out.2, h2⟩, ⟨M5, hm5, fun y z => by
    rw [hD5 y z, hm2]
    have t := TK.out y.2
    constructor
    ·rintro ⟨a, b, c⟩
     refine ⟨fun ⟨d1, d2⟩ => ?_, c⟩
     refine Classical.byContradiction fun _ => ?_
     have : y.2 ∉ (zS e.tx).take (m + 1) := t.2 ⟨fun d3 => a (Prod.ext d1 d3), fun d4 => b ⟨d1, d4⟩⟩
     exact this d2
    ·rintro ⟨a, c⟩
     refine ⟨fun d => a ⟨by rw [d], ?_⟩, fun ⟨d1, d2⟩ => a ⟨d1, ?_⟩, c⟩
     ·exact Classical.byContradiction fun d3 => (t.1 d3).1 (by rw [d])
     ·exact Classical.byContradiction fun d3 => (t.1 d3).2 d2⟩⟩)
   have F5 := Hd (show Fr (fun j => j = ms) w3 w5 from (FI.out.trans0 FQD.out).trans FM.out (fun j _ e => e))
   have R5 := Hd (zb RQD.out FM.out (fun e => by have := ZD.out; have := F3.out.size; have := FI.out.size; omega))
   have K5 := Hd (FM.out.cell RKD.out (fun e => by have := BLT.out.2.2; have e : q0 = ms := e; omega))
   have SPL := Hd (QU (k := ((n : Int), q)) QOK.out)
   clear hdel hm5 hD5 hT5 hM2 hm2
   unfold spV at HR5
   repeat (first | ((first | with_reducible refine zx ?_ | ((with_reducible refine zu ?_ ?_); (focus rfl))); apply Exists.intro; refine ⟨?_, ?_⟩; (focus (first | exact zD (ty := 95) rfl (fun w h => h.2.1) uP rP (by rw [PL.out]; exact zL) | exact fun w' _ => y4 (t := 118) rfl rfl Vg (zbR _ QOK.out) (Vj _ _) SPL.out | (intro w' hS; obtain ⟨s1, s2, s3⟩ := hS; go_simp; (try with_reducible rfl); done))); try simp only [Act.put, pA, pB, pC]) | ((first | ((with_reducible refine zg (c := false) ?_ ?_ ?_); (focus rfl); (focus rfl)) | ((with_reducible refine zg (c := true) ?_ ?_ ?_); (focus rfl); (focus rfl)) | ((with_reducible refine zt ?_ ?_); (focus rfl))); try simp only [Act.put, pA, pB, pC]))
   (first | with_reducible refine zU (fun K' hK' => ?_) | ((with_reducible refine zK ?_ (fun K' hK' => ?_)); (focus rfl)))
   refine yB (jU rfl rfl rfl HR5.out) ?_
   refine hK'.out _ _ ?_ (fun hS => ?_)
   ·exact ⟨DI5.out.cells.2.1, R5.out, K5.out⟩
   try simp only [Act.put]
   refine zM (hK.out _ _ ?_)
   go_wp2_with fail
   go_roundw
   case rel => exact ⟨m + 1, by go_num, by omega, DI5.out, F5.out⟩
   case measure => simp [intOf]; omega
  ·have hme : m = e.tx.ins.length := by omega
   have i2 : ¬ (m : Int) < (e.tx.ins.length : Int) := by omega
   have TKA := Hd (show (zS e.tx).take m = zS e.tx by rw [hme, ← PTL.out, List.take_length])
   clear hme
   go_wp2_with fail
   have FID := Hd ((Fr.refl No wi).drew)
   have DID := Hd (DI.out.fr0 FID.out)
   have RXJ := Hd (zb RI.out FID.out id)
   have WSZ := Hd (show q0 < wi.drew.heap.size from by have := FI.out.size; have := Z3.out; show q0 < wi.heap.size; omega)
   refine zv [false, false, false, false, false, true] (fun w' => w'.cell? ⟨p, 0, none⟩ = some (.map (some ma)) ∧ w'.rangeAt q0 0 (skC (n, x))) (by kernel_rfl) (by kernel_rfl) ?_ (fun K hK => ?_)
   ·exact ⟨DID.out.cells.1, RXJ.out⟩
   generalize wi.drew = z1 at *
   obtain ⟨M2, hM2, hm2⟩ := DID.out.am
   obtain ⟨w5, M5, hdel, hm5, hD5, hT5, -⟩ := hM2.del zi7.keyed zak (fun _ _ => zbP) (zbW (k := ((n : Int), x)) (Qz HN.out) XOK.out) 0 110
   have HR5 := Hd hdel
   have FM := Hd hT5.fr
   have NMA := Hd (show p ≠ ma ∧ ms ≠ ma from ⟨AA.out.1, fun e => AA.out.2.2 e.symm⟩)
   have AM5 := Hd (show ∃ M, qR w5 ma M ∧ ∀ k cs, (k, cs) ∈ M ↔ ∃ i : Nat, i < 65 ∧ k.1 = (i : Int) ∧ ∃ a ∈ qU Q n (zaw (Q n) x) i, a.id = k.2 ∧ cs = C i k.2 from ⟨M5, hm5, fun k cs => by
    rw [hD5 k cs, hm2]
    constructor
    ·rintro ⟨h1, i, hi, hki, a, ha, hak, hcs⟩
     refine ⟨i, hi, hki, a, ?_, hak, hcs⟩
     by_cases c : i = n
     ·subst c
      rw [xh]
      refine List.mem_filter.2 ⟨ha, ?_⟩
      simp only [decide_eq_true_eq]
      exact fun hax => h1 (Prod.ext hki (by rw [← hak, hax]))
     ·rw [xY Q _ c]
      exact ha
    ·rintro ⟨i, hi, hki, a, ha, hak, hcs⟩
     by_cases c : i = n
     ·subst c
      rw [xh] at ha
      obtain ⟨h1, h2⟩ := List.mem_filter.1 ha
      simp only [decide_eq_true_eq] at h2
      exact ⟨fun d => h2 (by rw [hak, d]), i, hi, hki, a, h1, hak, hcs⟩
     ·rw [xY Q _ c] at ha
      exact ⟨fun d => c (by have h : k.1 = (n : Int) := (congrArg Prod.fst d); omega), i, hi, hki, a, ha, hak, hcs⟩⟩)
   have SM5 := Hd (show ∃ M, Zb w5 ms M ∧ ∀ k y, (k, y) ∈ M ↔ ∃ i : Nat, i < 65 ∧ k.1 = (i : Int) ∧ ∃ a ∈ qU Q n (zaw (Q n) x) i, k.2 ∈ zS a.tx ∧ a.id = y from by
    obtain ⟨M6, h1, h2⟩ := DID.out.sm
    refine ⟨M6, h1.keep FM.out NMA.out.2, fun k y => ?_⟩
    rw [h2, TKA.out]
    have sc := zfq HV.out HE.out k.2 y
    rw [EX.out] at sc
    constructor
    ·rintro ⟨hq, i, hi, hki, a, ha, hqa, hay⟩
     refine ⟨i, hi, hki, ?_⟩
     by_cases c : i = n
     ·subst c
      rw [xh]
      exact sc.1 ⟨fun d => hq ⟨hki, d⟩, a, ha, hqa, hay⟩
     ·rw [xY Q _ c]
      exact ⟨a, ha, hqa, hay⟩
    ·rintro ⟨i, hi, hki, a, ha, hqa, hay⟩
     by_cases c : i = n
     ·subst c
      rw [xh] at ha
      obtain ⟨s1, a', s2, s3, s4⟩ := sc.2 ⟨a, ha, hqa, hay⟩
      exact ⟨fun d => s1 d.2, i, hi, hki, a', s2, s3, s4⟩
     ·rw [xY Q _ c] at ha
      exact ⟨fun d => c (by have := d.1; omega), i, hi, hki, a, ha, hqa, hay⟩)
   have FAL := Hd (show Fr (fun j => j = ma ∨ j = ms) w w5 from ((F03.out.of0.trans FI.out (fun j _ e => .inr e)).trans0 FID.out).trans FM.out (fun j _ e => .inl e))
   have OB5 := Hd (FM.out.obj DID.out.obj NMA.out.1)
   have R5 := Hd (zb RXJ.out FM.out (fun e => by have := BLT.out.2.1; omega))
   have Z5 := Hd (show q0 < w5.heap.size by have := FM.out.size; have := WSZ.out; omega)
   have CL5 := Hd (show w5.cell? ⟨p, 0, none⟩ = some (.map (some ma)) from by have := ya OB5.out 0 _ rfl; simpa using this)
   clear hdel hm5 hD5 hT5 hM2 hm2
   unfold skV at HR5
   repeat (first | ((first | with_reducible refine zx ?_ | ((with_reducible refine zu ?_ ?_); (focus rfl))); apply Exists.intro; refine ⟨?_, ?_⟩; (focus (first | exact zD (ty := 110) rfl (fun w h => h.2) uS rS (by rw [SL.out]; exact jh) | (intro w' hS; obtain ⟨s1, s2⟩ := hS; go_simp; (try with_reducible rfl); done))); try simp only [Act.put, pA, pB, pC]) | ((first | ((with_reducible refine zg (c := false) ?_ ?_ ?_); (focus rfl); (focus rfl)) | ((with_reducible refine zg (c := true) ?_ ?_ ?_); (focus rfl); (focus rfl)) | ((with_reducible refine zt ?_ ?_); (focus rfl))); try simp only [Act.put, pA, pB, pC]))
   (first | with_reducible refine zU (fun K' hK' => ?_) | ((with_reducible refine zK ?_ (fun K' hK' => ?_)); (focus rfl)))
   refine yB (jU rfl rfl rfl HR5.out) ?_
   refine hK'.out _ _ ?_ (fun hS => ?_)
   ·exact ⟨CL5.out, R5.out⟩
   try simp only [Act.put]
   refine zM (hK.out _ _ ?_)
   go_wp2_with fail
   have F6 := Hd ((Fr.refl No w5).drew)
   have FA6 := Hd (FAL.out.trans0 F6.out)
   have OB6 := Hd (F6.out.obj OB5.out id)
   have R6 := Hd (YE (zb R5.out F6.out id))
   have ROW6 := Hd (zl ROWL.out FA6.out (fun j hj e => by have := HH.out.rnot n HN.out j hj; rcases e with e | e; exact this.2.1 e; exact this.2.2 e))
   have C6 := Hd (show w5.drew.cell? ⟨p, 1 + n, none⟩ = some (.slice ra (Q n).length rc) from by have := ya OB6.out (1 + n) _ (by rw [Nat.add_comm]; exact Y8 HN.out); rw [HRR.out] at this; simpa using this)
   obtain ⟨ix, hix⟩ : ∃ ix, (yc (Q n))[ix]? = some x := List.mem_iff_getElem?.1 (by rw [← EX.out]; exact List.mem_map.2 ⟨e, HE.out, rfl⟩)
   have IXL := Hd (show ix < (yc (Q n)).length from (List.getElem?_eq_some_iff.1 hix).1)
   have IXN := Hd (Xk hix (zar HV.out.nd hix))
   have ERS := Hd (show (yc (Q n)).eraseIdx ix = yc (zaw (Q n) x) by rw [erase_filter HV.out.nd hix, zgB])
   have L4 := Hd (show (yc (Q n)).length ≤ 100000 by rw [xk]; have := HV.out.len; omega)
   have Z6 := Hd (show q0 < w5.drew.heap.size from Z5.out)
   clear hix
   refine zv [false, false, false, false, false, false, false, false, false, true, false] (fun w' => w'.cell? ⟨p, 1 + n, none⟩ = some (.slice ra (Q n).length rc) ∧ w'.cell? ⟨q0, 0, none⟩ = some (.int .i64 n) ∧ w'.rangeAt q0 1 (zj x)) (by kernel_rfl) (by kernel_rfl) ?_ (fun K hK => ?_)
   ·exact ⟨C6.out, R6.out.1, R6.out.2⟩
   generalize w5.drew = w6 at *
   have IDX := Hd (show Calls Tryz.prog 83 #[.slice ra (Q n).length rc, .agg (zj x).toArray] w6 fun e w' => e = .returned (.int .i64 ix) ∧ Fr No w6 w' from by
    have := zbu w6 (yV.own ROW6.out IDOK.out) L4.out x XOK.out
    rw [HRR.out, IXN.out] at this
    exact this)
   repeat (first | ((first | with_reducible refine zx ?_ | ((with_reducible refine zu ?_ ?_); (focus rfl))); apply Exists.intro; refine ⟨?_, ?_⟩; (focus (first | exact zD (ty := 41) rfl (fun w h => h.2.2) uH rH (by rw [XL.out]; exact zr) | (intro w' hS; obtain ⟨s1, s2, s3⟩ := hS; go_simp; (try with_reducible rfl); done))); try simp only [Act.put, pA, pB, pC]) | ((first | ((with_reducible refine zg (c := false) ?_ ?_ ?_); (focus rfl); (focus rfl)) | ((with_reducible refine zg (c := true) ?_ ?_ ?_); (focus rfl); (focus rfl)) | ((with_reducible refine zt ?_ ?_); (focus rfl))); try simp only [Act.put, pA, pB, pC]))
   (first | with_reducible refine zU (fun K' hK' => ?_) | ((with_reducible refine zK ?_ (fun K' hK' => ?_)); (focus rfl)))
   go_simp
   refine IDX.out.mono ?_
   rintro e' w7 ⟨rfl, f7⟩
   have F7 := Hd f7
   clear f7
   refine hK'.out _ _ ?_ (fun hS => ?_)
   ·exact ⟨F7.out.cell C6.out id, F7.out.cell R6.out.1 id, zb R6.out.2 F7.out id⟩
   try simp only [Act.put, pA, pB, pC]
   repeat (first | ((first | with_reducible refine zx ?_ | ((with_reducible refine zu ?_ ?_); (focus rfl))); apply Exists.intro; refine ⟨?_, ?_⟩; (focus (first | (intro w' hS; obtain ⟨s1, s2, s3⟩ := hS; go_simp; (try with_reducible rfl); done))); try simp only [Act.put, pA, pB, pC]) | ((first | ((with_reducible refine zg (c := false) ?_ ?_ ?_); (focus rfl); (focus rfl)) | ((with_reducible refine zg (c := true) ?_ ?_ ?_); (focus rfl); (focus rfl)) | ((with_reducible refine zt ?_ ?_); (focus rfl))); try simp only [Act.put, pA, pB, pC]))
   refine zM (hK.out _ _ ?_)
   go_wp2_with fail
   have F8 := Hd (F7.out.drew)
   have OB8 := Hd (F8.out.obj OB6.out id)
   have C8 := Hd (F8.out.cell C6.out id)
   have K8 := Hd (F8.out.cell R6.out.1 id)
   have ROW8 := Hd (zl ROW6.out F8.out (fun _ _ => id))
   have FA8 := Hd (FA6.out.trans0 F8.out)
   have Z8 := Hd (show q0 < w7.drew.heap.size by have := F8.out.size; have := Z6.out; omega)
   have i9 : IntKind.i64.wrap ((ix : Int) + 1) = (ix : Int) + 1 := IntWalk.i64_in _ (by have := IXL.out; have := L4.out; omega)
   refine yJ [false, false, false, false, false, false, false, false, false, false, false, false, false, true, false, false, false, true] (fun w' => w'.cell? ⟨p, 1 + n, none⟩ = some (.slice ra (Q n).length rc) ∧ w'.cell? ⟨q0, 0, none⟩ = some (.int .i64 n)) (by kernel_rfl) (by kernel_rfl) 17 (by kernel_rfl) (by kernel_rfl) ?_ (fun K hK => ?_)
   ·exact ⟨C8.out, K8.out⟩
   generalize w7.drew = w8 at *
   have DEL := Hd (zbx ROW8.out IDOK.out L4.out IXL.out)
   rw [HRR.out] at DEL
   repeat (first | ((first | with_reducible refine yG ?_ | ((with_reducible refine yp ?_ ?_); (focus rfl))); apply Exists.intro; refine ⟨?_, ?_⟩; (focus (first | (intro w' hS; obtain ⟨s1, s2⟩ := hS; go_simp; (try with_reducible rfl); done))); try simp only [Act.put, pA, pB, pC]) | ((first | ((with_reducible refine zX (c := false) ?_ ?_ ?_); (focus rfl); (focus rfl)) | ((with_reducible refine zX (c := true) ?_ ?_ ?_); (focus rfl); (focus rfl)) | ((with_reducible refine yq ?_ ?_); (focus rfl))); try simp only [Act.put, pA, pB, pC]))
   (first | with_reducible refine yK (fun K' hK' => ?_) | ((with_reducible refine yx ?_ (fun K' hK' => ?_)); (focus rfl)))
   go_simp
   refine DEL.out.mono ?_
   rintro e' w9 ⟨v9, rfl, ho9, f9, hv9⟩
   have O9 := Hd ho9
   have F9 := Hd f9
   have V9 := Hd hv9
   have N9 := Hd (show ¬ (Value.slice ra (Q n).length rc).ownBlock = some p from fun e => (HH.out.rnot n HN.out p (by rw [HRR.out]; exact e)).1 rfl)
   have NQ9 := Hd (show ¬ (Value.slice ra (Q n).length rc).ownBlock = some q0 from fun e => by have := (ROWL.out.lt q0 (by rw [HRR.out]; exact e)).2; omega)
   clear ho9 f9 hv9
   obtain ⟨va9, vc9, hvf⟩ := O9.out.slice.arg.form
   subst hvf
   refine hK'.out _ _ (fun _ => ?_) (fun hS => ?_)
   ·exact ⟨F9.out.cell C8.out N9.out, F9.out.cell K8.out NQ9.out⟩
   try simp only [Act.put, pA, pB, pC]
   repeat (first | ((first | with_reducible refine yG ?_ | ((with_reducible refine yp ?_ ?_); (focus rfl))); apply Exists.intro; refine ⟨?_, ?_⟩; (focus (first | (intro w' hS; obtain ⟨s1, s2⟩ := hS; go_simp; (try with_reducible rfl); done))); try simp only [Act.put, pA, pB, pC]) | ((first | ((with_reducible refine zX (c := false) ?_ ?_ ?_); (focus rfl); (focus rfl)) | ((with_reducible refine zX (c := true) ?_ ?_ ?_); (focus rfl); (focus rfl)) | ((with_reducible refine yq ?_ ?_); (focus rfl))); try simp only [Act.put, pA, pB, pC]))
   have OB9 := Hd (F9.out.obj OB8.out N9.out)
   have fz : w9.frozen? ⟨p, 1 + n, none⟩ = false := yI OB9.out
   have cz := F9.out.cell C8.out N9.out
   (first | with_reducible refine yK (fun K' hK' => ?_) | ((with_reducible refine yx ?_ (fun K' hK' => ?_)); (focus rfl)))
   go_simp
   refine hK'.out _ _ (fun h => absurd rfl h) (fun hS => ?_)
   refine qy (hK.out _ _ ?_)
   go_wp2_with fail
   refine bodyPost_end (results_none rfl _ _ _) rfl ?_
   have SET := heap_setCell_same w9 p (1 + n) _ _ (.slice va9 ((yc (Q n)).eraseIdx ix).length vc9) OB9.out
   have FS : Fr (fun j => j = p) w9 (w9.setCell ⟨p, 1 + n, none⟩ (.slice va9 ((yc (Q n)).eraseIdx ix).length vc9)) := (Fr.refl (fun j => j = p) w9).setCell ⟨p, 1 + n, none⟩ (.inr rfl) _
   have FT : Fr (Xf p ma ms (R n)) w (w9.setCell ⟨p, 1 + n, none⟩ (.slice va9 ((yc (Q n)).eraseIdx ix).length vc9)) := ((FA8.out.mono (fun j e => by rcases e with e | e; exact .inr (.inl e); exact .inr (.inr (.inl e)))).trans F9.out (fun j _ e => .inr (.inr (.inr (by rw [HRR.out]; exact e))))).trans FS (fun j _ e => .inl e)
   have F58 := Hd (show Fr No w5 w8 from F6.out.trans0 F8.out)
   have NM := HH.out.rnot n HN.out
   have F5T : Fr (fun j => j = p ∨ (R n).ownBlock = some j) w5 (w9.setCell ⟨p, 1 + n, none⟩ (.slice va9 ((yc (Q n)).eraseIdx ix).length vc9)) := ((F58.out.of0.trans F9.out (fun j _ e => .inr (by rw [HRR.out]; exact e))).trans FS (fun j _ e => .inl e))
   refine ⟨rfl, FT, .slice va9 ((yc (Q n)).eraseIdx ix).length vc9, fun j hj => by rw [HRR.out]; exact V9.out j hj, HH.out.upd HN.out FT ?_ ?_ ?_ ?_ (fun a ha => (HH.out.data n HN.out a (zg3 a ha)).step (FT.mono (fun j c => HH.out.sub j (jE HN.out j c))) (fun _ _ h => h)) (fun _ _ => rfl) (HV.out.filter _) (fun j hj => .inl (by rw [HRR.out]; exact V9.out j hj)) (fun _ _ h => h) ?_⟩
   ·have := zer (ma := ma) (ms := ms) (R := R) HN.out (.slice va9 ((yc (Q n)).eraseIdx ix).length vc9)
    rw [SET, Nat.add_comm 1 n]
    unfold vq
    rw [← this]
    simp
   ·rw [← ERS.out]
    exact zl O9.out FS (fun j hj e => N9.out (by rw [← e]; exact V9.out j hj))
   ·obtain ⟨M6, h1, h2⟩ := AM5.out
    exact ⟨M6, h1.keep F5T (fun e => e.elim (fun e => AA.out.1 e.symm) (fun e => (NM ma e).2.1 rfl)), h2⟩
   ·obtain ⟨M6, h1, h2⟩ := SM5.out
    exact ⟨M6, h1.keep F5T (fun e => e.elim (fun e => AA.out.2.1 e.symm) (fun e => (NM ms e).2.2 rfl)), h2⟩
   ·rintro j (e | e | e | ⟨i, hi, e⟩)
    ·exact HH.out.sub j (.inl e)
    ·exact HH.out.sub j (.inr (.inl e))
    ·exact HH.out.sub j (.inr (.inr (.inl e)))
    ·unfold vq at e
     by_cases c : i = n
     ·rw [if_pos c] at e
      exact HH.out.sub j (.inr (.inr (.inr ⟨n, HN.out, by rw [HRR.out]; exact V9.out j e⟩)))
     ·rw [if_neg c] at e
      exact HH.out.sub j (.inr (.inr (.inr ⟨i, hi, e⟩)))
end
end Go.Proofs.YtdkkjchclkjleaaGreatDoor
