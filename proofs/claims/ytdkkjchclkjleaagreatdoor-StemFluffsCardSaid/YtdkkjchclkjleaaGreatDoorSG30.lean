/- pool: drop. -/
import Derived.Test.YtdkkjchclkjleaaGreatDoorSG29
import Derived.Test.YtdkkjchclkjleaaGreatDoorSG16
import Derived.Test.YtdkkjchclkjleaaGreatDoorSG13
set_option linter.unusedVariables false
set_option linter.unusedSimpArgs false
set_option linter.unnecessarySimpa false
set_option linter.all false
namespace Go.Proofs.YtdkkjchclkjleaaGreatDoor
open Go Go.RowKit Go.Maps Go.MapKept
structure jL (w0 w : World) (p ma ms g : Nat) (X : Nat → Prop) (C : zi → List Value) (L : List z7) : Prop where
 obj : w.heap[p]? = some (.cells #[.map (some ma), .map (some ms), .pointer (some ⟨g, 0, none⟩)] 137 (0, 0))
 am : ∃ M, qA w ma M ∧ ∀ x cs, (x, cs) ∈ M ↔ ∃ e ∈ L, e.id = x ∧ cs = C x
 sm : ∃ M, Qf w ms M ∧ ∀ q x, (q, x) ∈ M ↔ ∃ e ∈ L, q ∈ zS e.tx ∧ e.id = x
 data : ∀ e ∈ L, Kept X w (fun w => zfj w e (C e.id))
 apart : p ≠ ma ∧ p ≠ ms ∧ ma ≠ ms
 lo3 : w0.heap.size ≤ p ∧ w0.heap.size ≤ ma ∧ w0.heap.size ≤ ms
 subX : X ma ∧ X ms
 fr : Fr No w0 w
 ok : ∀ x ∈ xD L, zQ x
section
variable {w0 w w' : World} {p ma ms g N : Nat} {VG X : Nat → Prop} {C : zi → List Value} {L : List z7}
theorem yf.m (h : yf w0 w p ma ms g VG X C L N) : jL w0 w p ma ms g X C L :=
 ⟨h.obj, h.am, h.sm, h.data, ⟨h.apart.1, h.apart.2.1, h.apart.2.2.1⟩, h.lo3, ⟨h.sub _ (.inr (.inl rfl)), h.sub _ (.inr (.inr (.inl rfl)))⟩, h.fr, h.ids⟩
theorem jL.at_ (h : jL w0 w p ma ms g X C L) (hg : GC w0 w g VG (gOf L) N) (ha : ¬ VG p ∧ ¬ VG ma ∧ ¬ VG ms) (hs : ∀ j, poV p ma ms VG j → X j) : yf w0 w p ma ms g VG X C L N :=
 ⟨h.obj, hg, h.am, h.sm, h.data, ⟨h.apart.1, h.apart.2.1, h.apart.2.2, ha⟩, h.lo3, hs⟩
theorem jL.frV (h : jL w0 w p ma ms g X C L) {U X' : Nat → Prop} (f : Fr U w w') (hU : ¬ U p ∧ ¬ U ma ∧ ¬ U ms) (h0 : ∀ j, U j → w0.heap.size ≤ j) (hUX : ∀ j, U j → X j) (hX : ∀ j, j < w.heap.size → X' j → X j) (hs : X' ma ∧ X' ms) : jL w0 w' p ma ms g X' C L := by
 obtain ⟨M, hM, hm⟩ := h.am
 obtain ⟨M', hM', hm'⟩ := h.sm
 exact { h with
  obj := f.obj h.obj hU.1
  am := ⟨M, hM.keep f hU.2.1, hm⟩
  sm := ⟨M', hM'.keep f hU.2.2, hm'⟩
  data := fun e he => (h.data e he).step (f.mono hUX) hX
  fr := h.fr.trans f (fun i hi e => by have := h0 i e; omega)
  subX := hs }
theorem jL.fr0 (h : jL w0 w p ma ms g X C L) (f : Fr No w w') : jL w0 w' p ma ms g X C L :=
 h.frV f ⟨id, id, id⟩ (fun _ h => h.elim) (fun _ h => h.elim) (fun _ _ h => h) h.subX
theorem jL.cells (h : jL w0 w p ma ms g X C L) : w.cell? ⟨p, 0, none⟩ = some (.map (some ma)) ∧ w.cell? ⟨p, 1, none⟩ = some (.map (some ms)) ∧ w.cell? ⟨p, 2, none⟩ = some (.pointer (some ⟨g, 0, none⟩)) := by
 have := ya h.obj
 exact ⟨by simpa using this 0 _ rfl, by simpa using this 1 _ rfl, by simpa using this 2 _ rfl⟩
structure ZK (w0 w : World) (p ma ms g : Nat) (X : Nat → Prop) (C : zi → List Value) (L : List z7) (e : z7) (m : Nat) : Prop where
 obj : w.heap[p]? = some (.cells #[.map (some ma), .map (some ms), .pointer (some ⟨g, 0, none⟩)] 137 (0, 0))
 am : ∃ M, qA w ma M ∧ ∀ x cs, (x, cs) ∈ M ↔ ∃ e ∈ L, e.id = x ∧ cs = C x
 sm : ∃ M, Qf w ms M ∧ ∀ q x, (q, x) ∈ M ↔ q ∉ (zS e.tx).take m ∧ ∃ e ∈ L, q ∈ zS e.tx ∧ e.id = x
theorem ZK.cells {e : z7} {m : Nat} (h : ZK w0 w p ma ms g X C L e m) : w.cell? ⟨p, 0, none⟩ = some (.map (some ma)) ∧ w.cell? ⟨p, 1, none⟩ = some (.map (some ms)) := by
 have := ya h.obj
 exact ⟨by simpa using this 0 _ rfl, by simpa using this 1 _ rfl⟩
theorem ZK.fr0 {e : z7} {m : Nat} (h : ZK w0 w p ma ms g X C L e m) (f : Fr No w w') : ZK w0 w' p ma ms g X C L e m := by
 obtain ⟨M, hM, hm⟩ := h.am
 obtain ⟨M', hM', hm'⟩ := h.sm
 exact ⟨f.obj h.obj id, ⟨M, hM.keep f id, hm⟩, ⟨M', hM'.keep f id, hm'⟩⟩
theorem zar {ps : List zi} {n : Nat} {q : zi} (hn : ps.Nodup) (h : ps[n]? = some q) : q ∉ ps.take n := fun hm => by
 obtain ⟨i, hi⟩ := List.mem_iff_getElem?.1 hm
 have hin : i < n := by
  have := (List.getElem?_eq_some_iff.1 hi).1
  rw [List.length_take] at this
  omega
 rw [List.getElem?_take_of_lt hin] at hi
 have := (List.getElem?_inj (List.getElem?_eq_some_iff.1 hi).1 hn).1 (hi.trans h.symm)
 omega
theorem zds {l : List zi} {n : Nat} {x : zi} (h : l[n]? = some x) : yT L (l.take (n + 1)) = (yT L (l.take n)).filter fun e => decide (e.id ≠ x) := by
 unfold yT
 rw [List.filter_filter, List.take_add_one, h]
 refine List.filter_congr fun e _ => ?_
 by_cases h1 : e.id = x <;> by_cases h2 : e.id ∈ l.take n <;> simp [h1, h2]
set_option maxRecDepth 20000 in
set_option maxHeartbeats 8000000 in
theorem zjj (h : jL w0 w p ma ms g X C L) (hap : L.Pairwise fun a b => ∀ q ∈ zS a.tx, q ∉ zS b.tx) (hnd : (xD L).Nodup) (hin : ∀ e ∈ L, e.tx.ins.length ≤ 1000) {v : Value} {l : List zi} (hl : Kept (fun j => j = ma ∨ j = ms) w (fun w => yV w v l)) (hs : ∀ x ∈ l, x ∈ xD L) (hln : l.Nodup) (hl2 : l.length ≤ 100000) :
  Calls Tryz.prog 92 #[.pointer (some ⟨p, 0, none⟩), v] w fun e w' => e = .returned (.tuple #[]) ∧ jL w0 w' p ma ms g X C (yT L l) ∧ Fr (fun j => j = ma ∨ j = ms) w w' := by
 obtain ⟨dH, uH, rH⟩ := yj
 obtain ⟨dP, uP, rP⟩ := xr
 obtain ⟨dT, uT, rT⟩ := vw
 have zp := jA
 have zh := y6
 obtain ⟨va, vc, rfl⟩ := hl.now.2.form
 have HL := Hd hl
 have HH := Hd h
 have AP := Hd hap
 have ND := Hd hnd
 have HIN := Hd hin
 have HS := Hd hs
 have LND := Hd hln
 have AA := Hd h.apart
 clear hl h hap hnd hin hs hln
 go_enter Tryz.func92, Tryz.ntmps92
 go_wp2_with fail
 go_loopw [10] (fun iv wr => ∃ n : Nat, iv = .int .i64 n ∧ n ≤ l.length ∧ jL w0 wr p ma ms g X C (yT L (l.take n)) ∧ Fr (fun j => j = ma ∨ j = ms) w wr) (fun iv _ => l.length - (intOf iv).toNat)
 case atStart => exact ⟨0, rfl, Nat.zero_le _, by rw [List.take_zero, J4]; exact HH.out, Fr.refl _ _⟩
 case round =>
  obtain ⟨n, rfl, hn, hpm, hfr⟩ := hrel
  have PM := Hd hpm
  have FR := Hd hfr
  clear hpm hfr
  by_cases hlt : n < l.length
  ·have i1 : (n : Int) < (l.length : Int) := by omega
   obtain ⟨x, hx⟩ : ∃ x, l[n]? = some x := ⟨_, List.getElem?_eq_getElem hlt⟩
   have HX := Hd hx
   obtain ⟨b, off, cap, e0, hr, -⟩ := (HL.out wr FR.out).at_ hx
   cases e0
   obtain ⟨e, heL, hex⟩ := List.mem_map.1 (HS.out x (List.mem_of_getElem? hx))
   have hnt : x ∉ l.take n := zar LND.out hx
   have EM := Hd (show e ∈ yT L (l.take n) from Jn.2 ⟨heL, by rw [hex]; exact hnt⟩)
   have EX := Hd hex
   have XOK := Hd (PM.out.ok x (by rw [← hex]; exact List.mem_map.2 ⟨e, EM.out, rfl⟩))
   have XL := Hd (zE XOK.out)
   have R1 := Hd hr
   have NDN := Hd (show (xD (yT L (l.take n))).Nodup from by rw [Yj]; exact ND.out.filter _)
   have ELN := Hd (HIN.out e heL)
   have APN := Hd (show ∀ a ∈ yT L (l.take n), a ≠ e → ∀ q ∈ zS e.tx, q ∉ zS a.tx from fun a ha hne q hq hq2 => by
    have h1 := (List.pairwise_iff_getElem.1 AP.out)
    obtain ⟨i, hi, rfl⟩ := List.getElem_of_mem (Jn.1 ha).1
    obtain ⟨k, hk, hk2⟩ := List.getElem_of_mem heL
    rcases Nat.lt_trichotomy i k with hik | hik | hik
    ·exact h1 i k hi hk hik q hq2 (by rw [hk2]; exact hq)
    ·subst hik; exact hne hk2
    ·exact h1 k i hk hi hik q (by rw [hk2]; exact hq) hq2)
   have STP := Hd (zds (L := L) hx)
   have MLR := Hd (show ma < wr.heap.size ∧ ms < wr.heap.size from by
    obtain ⟨M', h1, -⟩ := PM.out.am
    obtain ⟨M2, h2, -⟩ := PM.out.sm
    exact ⟨h1.lt, h2.lt⟩)
   have iel := ELN.out
   clear hr hx hnt hex heL
   generalize hLn : yT L (l.take n) = Ln at *
   have RX := Hd (zC wr (zj x) 41)
   have FA := Hd ((Fr.refl No wr).alloc (.cells (zj x).toArray 41))
   have K0 := tru
   have K1 := tru
   go_wp2_with (first | ((with_reducible refine zn ?_); have mk := K0.out; refine zd rfl (zf (ty := 41) rfl rfl R1.out uH rH (by rw [XL.out]; exact zr)) ?_; go_frame) | ((with_reducible refine zA ?_); have mk := K1.out; refine zq rfl (zm (w := wr) (ty := 41) (cs := zj x) rfl rfl rfl (by rw [XL.out]; rfl) (by rw [XL.out]; exact zr) zV) ?_; go_frame))
   generalize hqx : wr.heap.size = qx at *
   generalize hwa : wr.alloc (.cells (zj x).toArray 41) = wa at *
   have FD := Hd (FA.out.drew)
   have PMD := Hd (PM.out.fr0 FD.out)
   have RXD := Hd (zb RX.out (Fr.refl No wa).drew id)
   have ZX := Hd (show wa.drew.heap.size = qx + 1 by show wa.heap.size = _; rw [← hwa, ← hqx]; simp)
   clear hwa
   obtain ⟨M, hM, hm⟩ := PMD.out.am
   obtain ⟨ia, ic, oa, oc, hce⟩ := (PMD.out.data e EM.out).now.form
   have hcel : ZY C Ln x = [.int .u32 e.tx.ver, .slice ia e.tx.ins.length ic, .slice oa e.tx.outs.length oc, .int .u64 e.fee, .int .i64 e.size, .int .u64 e.added] := by
    unfold ZY
    rw [if_pos (show x ∈ xD Ln from List.mem_map.2 ⟨e, EM.out, EX.out⟩), ← EX.out, hce]
   have LK := Hd (fun w' (h' : qA w' ma M) => Yp (w := w') XOK.out h' hm hcel)
   have HM := Hd hM
   have TQ := Hd (show TxQ wa.drew e.tx [.int .u32 e.tx.ver, .slice ia e.tx.ins.length ic, .slice oa e.tx.outs.length oc] from by
    obtain ⟨tcs, h1, h2⟩ := (PMD.out.data e EM.out).now
    rw [hce] at h1
    obtain ⟨ia', ic', oa', oc', rfl⟩ := h2.form
    unfold zjZ at h1
    simp only [List.cons_append, List.nil_append, List.cons.injEq, and_true, true_and] at h1
    rw [h1.1, h1.2]
    exact h2)
   clear hM hm hce hcel
   refine zv [false, false, false, false, false, false, false, true, false, false] (fun w' => w'.cell? ⟨p, 0, none⟩ = some (.map (some ma)) ∧ w'.rangeAt qx 0 (zj x) ∧ qA w' ma M) (by kernel_rfl) (by kernel_rfl) ?_ (fun K hK => ?_)
   ·exact ⟨PMD.out.cells.1, RXD.out, HM.out⟩
   generalize wa.drew = wd at *
   repeat (first | ((first | with_reducible refine zx ?_ | ((with_reducible refine zu ?_ ?_); (focus rfl))); apply Exists.intro; refine ⟨?_, ?_⟩; (focus (first | exact zD (ty := 41) rfl (fun w h => h.2.1) uH rH (by rw [XL.out]; exact zr) | exact fun w' h => zN (t := 133) rfl rfl rfl (LK.out w' h.2.2) | exact fun w' _ => vS (t := 129) (f := 0) rfl rfl (ziU e.tx.ver ia oa e.tx.ins.length ic e.tx.outs.length oc e.fee e.size e.added w') | (intro w' hS; obtain ⟨s1, s2, s3⟩ := hS; go_simp; (try with_reducible rfl); done))); try simp only [Act.put, pA, pB, pC]) | ((first | ((with_reducible refine zg (c := false) ?_ ?_ ?_); (focus rfl); (focus rfl)) | ((with_reducible refine zg (c := true) ?_ ?_ ?_); (focus rfl); (focus rfl)) | ((with_reducible refine zt ?_ ?_); (focus rfl))); try simp only [Act.put, pA, pB, pC]))
   (first | with_reducible refine zU (fun K' hK' => ?_) | ((with_reducible refine zK ?_ (fun K' hK' => ?_)); (focus rfl)))
   go_simp
   refine (vP wd TQ.out ELN.out).mono ?_
   rintro e' w3 ⟨pv, rfl, hpo, f3⟩
   obtain ⟨pa, pc, hpv⟩ := hpo.slice.arg.form
   subst hpv
   have F3 := Hd f3
   have PO := Hd hpo
   clear f3 hpo
   refine hK'.out _ _ ?_ (fun hS => ?_)
   ·exact ⟨(PMD.out.fr0 F3.out).cells.1, zb RXD.out F3.out id, HM.out.keep F3.out id⟩
   try simp only [Act.put, pA, pB, pC]
   repeat (first | ((first | with_reducible refine zx ?_ | ((with_reducible refine zu ?_ ?_); (focus rfl))); apply Exists.intro; refine ⟨?_, ?_⟩; (focus (first | (intro w' hS; obtain ⟨s1, s2, s3⟩ := hS; go_simp; (try with_reducible rfl); done))); try simp only [Act.put, pA, pB, pC]) | ((first | ((with_reducible refine zg (c := false) ?_ ?_ ?_); (focus rfl); (focus rfl)) | ((with_reducible refine zg (c := true) ?_ ?_ ?_); (focus rfl); (focus rfl)) | ((with_reducible refine zt ?_ ?_); (focus rfl))); try simp only [Act.put, pA, pB, pC]))
   refine zM (hK.out _ _ ?_)
   have PM3 := Hd (PMD.out.fr0 F3.out)
   have POK := Hd (show ∀ q ∈ zS e.tx, q.ok from fun q hq => by obtain ⟨y, hy, rfl⟩ := List.mem_map.1 hq; exact TQ.out.oks.1 y hy)
   have PTL := Hd (qW e.tx)
   have RX3 := Hd (zb RXD.out F3.out id)
   have Z3 := Hd (show qx + 1 ≤ w3.heap.size by have := F3.out.size; have := ZX.out; omega)
   have DI0 := Hd (show ZK w0 w3 p ma ms g X C Ln e 0 from ⟨PM3.out.obj, PM3.out.am, by
    obtain ⟨M', h1, h2⟩ := PM3.out.sm
    exact ⟨M', h1, fun q y => by rw [h2]; simp⟩⟩)
   have PNO := Hd (show ∀ j, (Value.slice pa e.tx.ins.length pc).ownBlock = some j → wd.heap.size ≤ j from fun j hj => (PO.out.lt j hj).1)
   have MLT := Hd (show ma < wd.heap.size ∧ ms < wd.heap.size ∧ p < wd.heap.size from by
    obtain ⟨M', h1, -⟩ := PMD.out.sm
    exact ⟨HM.out.lt, h1.lt, xf PMD.out.obj⟩)
   go_wp2_with fail
   go_loopw [23] (fun iv wi => ∃ m : Nat, iv = .int .i64 m ∧ m ≤ e.tx.ins.length ∧ ZK w0 wi p ma ms g X C Ln e m ∧ Fr (fun j => j = ms) w3 wi) (fun iv _ => e.tx.ins.length - (intOf iv).toNat)
   case atStart => exact ⟨0, rfl, Nat.zero_le _, DI0.out, Fr.refl _ _⟩
   case round =>
    obtain ⟨m, rfl, hm, hdi, hfi⟩ := hrel
    rename World => wi
    have DI := Hd hdi
    have FI := Hd hfi
    clear hdi hfi
    by_cases hmt : m < e.tx.ins.length
    ·have i2 : (m : Int) < (e.tx.ins.length : Int) := by omega
     obtain ⟨q, hq⟩ : ∃ q, (zS e.tx)[m]? = some q := ⟨_, List.getElem?_eq_getElem (by rw [PTL.out]; exact hmt)⟩
     have QOK := Hd (POK.out q (List.mem_of_getElem? hq))
     have POI := Hd (zl PO.out FI.out (fun j hj e => by have := PNO.out j hj; have := MLT.out; omega))
     have hpi : qg wi (.slice pa e.tx.ins.length pc) (zS e.tx) := ⟨POK.out, by rw [PTL.out]; exact POI.out.slice.arg⟩
     obtain ⟨b2, off2, cap2, e2, hr2, -⟩ := hpi.at_ hq
     injection e2 with e3 e4 e5
     subst e3
     have R2 := Hd hr2
     have PL := Hd (yb QOK.out)
     have RQ := Hd (zC wi (zB q) 95)
     have FQ := Hd ((Fr.refl No wi).alloc (.cells (zB q).toArray 95))
     have TK := Hd (show ∀ y, y ∉ (zS e.tx).take (m + 1) ↔ y ≠ q ∧ y ∉ (zS e.tx).take m from fun y => by
      rw [List.take_add_one, hq]
      simp [and_comm])
     clear hr2 hq e4 e5 hpi
     have K0 := tru
     have K1 := tru
     go_wp2_with (first | ((with_reducible refine zn ?_); have mk := K0.out; refine zd rfl (zf (ty := 95) rfl rfl R2.out uP rP (by rw [PL.out]; exact zL)) ?_; go_frame) | ((with_reducible refine zA ?_); have mk := K1.out; refine zq rfl (zm (w := wi) (ty := 95) (cs := zB q) rfl rfl rfl (by rw [PL.out]; rfl) (by rw [PL.out]; exact zL) y3) ?_; go_frame))
     generalize hqq : wi.heap.size = qq at *
     generalize hwb : wi.alloc (.cells (zB q).toArray 95) = wb at *
     have FQD := Hd FQ.out.drew
     have DID := Hd (DI.out.fr0 FQD.out)
     have RQD := Hd (zb RQ.out (Fr.refl No wb).drew id)
     clear hwb
     refine zv [false, false, false, false, false, true] (fun w' => w'.cell? ⟨p, 1, none⟩ = some (.map (some ms)) ∧ w'.rangeAt qq 0 (zB q)) (by kernel_rfl) (by kernel_rfl) ?_ (fun K hK => ?_)
     ·exact ⟨DID.out.cells.2, RQD.out⟩
     generalize wb.drew = z1 at *
     obtain ⟨M2, hM2, hm2⟩ := DID.out.sm
     obtain ⟨w5, M5, hdel, hm5, hD5, hT5, -⟩ := hM2.del JK.keyed XA (fun _ _ => vO) (qI QOK.out) 0 95
     have HR5 := Hd hdel
     have FM := Hd hT5.fr
     have NMS := Hd (show p ≠ ms ∧ ma ≠ ms from ⟨AA.out.2.1, AA.out.2.2⟩)
     have DI5 := Hd (show ZK w0 w5 p ma ms g X C Ln e (m + 1) from ⟨FM.out.obj DID.out.obj NMS.out.1, by
      obtain ⟨Ma, h1, h2⟩ := DID.out.am
      exact ⟨Ma, h1.keep FM.out NMS.out.2, h2⟩, ⟨M5, hm5, fun y z => by
      rw [hD5 y z, hm2, TK.out]
      exact ⟨fun ⟨a, b, c⟩ => ⟨⟨a, b⟩, c⟩, fun ⟨⟨a, b⟩, c⟩ => ⟨a, b, c⟩⟩⟩⟩)
     have F5 := Hd (show Fr (fun j => j = ms) w3 w5 from (FI.out.trans0 FQD.out).trans FM.out (fun j _ e => e))
     have R5 := Hd (zb RQD.out FM.out (fun e => by have := MLT.out; have := F3.out.size; have := FI.out.size; omega))
     clear hdel hm5 hD5 hT5 hM2 hm2
     repeat (first | ((first | with_reducible refine zx ?_ | ((with_reducible refine zu ?_ ?_); (focus rfl))); apply Exists.intro; refine ⟨?_, ?_⟩; (focus (first | exact zD (ty := 95) rfl (fun w h => h.2) uP rP (by rw [PL.out]; exact zL) | (intro w' hS; obtain ⟨s1, s2⟩ := hS; go_simp; (try with_reducible rfl); done))); try simp only [Act.put, pA, pB, pC]) | ((first | ((with_reducible refine zg (c := false) ?_ ?_ ?_); (focus rfl); (focus rfl)) | ((with_reducible refine zg (c := true) ?_ ?_ ?_); (focus rfl); (focus rfl)) | ((with_reducible refine zt ?_ ?_); (focus rfl))); try simp only [Act.put, pA, pB, pC]))
     (first | with_reducible refine zU (fun K' hK' => ?_) | ((with_reducible refine zK ?_ (fun K' hK' => ?_)); (focus rfl)))
     refine yB (jU rfl rfl rfl HR5.out) ?_
     refine hK'.out _ _ ?_ (fun hS => ?_)
     ·exact ⟨DI5.out.cells.2, R5.out⟩
     try simp only [Act.put]
     refine zM (hK.out _ _ ?_)
     go_wp2_with fail
     go_roundw
     case rel => exact ⟨m + 1, by go_num, by omega, DI5.out, F5.out⟩
     case measure => simp [intOf]; omega
    ·have hme : m = e.tx.ins.length := by omega
     have i2 : ¬ (m : Int) < (e.tx.ins.length : Int) := by omega
     have TKA := Hd (show (zS e.tx).take m = zS e.tx by rw [hme, ← PTL.out, List.take_length])
     have RXI := Hd (zb RX3.out FI.out (fun e => by have := MLR.out; omega))
     clear hme
     go_wp2_with fail
     have FID := Hd ((Fr.refl No wi).drew)
     have DID := Hd (DI.out.fr0 FID.out)
     have RXJ := Hd (zb RXI.out FID.out id)
     refine zv [false, false, false, false, false, true] (fun w' => w'.cell? ⟨p, 0, none⟩ = some (.map (some ma)) ∧ w'.rangeAt qx 0 (zj x)) (by kernel_rfl) (by kernel_rfl) ?_ (fun K hK => ?_)
     ·exact ⟨DID.out.cells.1, RXJ.out⟩
     generalize wi.drew = z1 at *
     obtain ⟨M2, hM2, hm2⟩ := DID.out.am
     obtain ⟨w5, M5, hdel, hm5, hD5, hT5, -⟩ := hM2.del xy.keyed Yy (fun _ _ => yS) (yd XOK.out) 0 41
     have HR5 := Hd hdel
     have FM := Hd hT5.fr
     have NMA := Hd (show p ≠ ma ∧ ms ≠ ma from ⟨AA.out.1, fun e => AA.out.2.2 e.symm⟩)
     have EUN := Hd (show ∀ a ∈ Ln, a.id = x → a = e from fun a ha hax => by
      obtain ⟨i, hi, hi2⟩ := List.getElem_of_mem ha
      obtain ⟨k, hk, hk2⟩ := List.getElem_of_mem EM.out
      have h1 : (xD Ln)[i]? = some x := by unfold xD; rw [List.getElem?_map, List.getElem?_eq_getElem hi, hi2]; exact congrArg some hax
      have h2 : (xD Ln)[k]? = some x := by unfold xD; rw [List.getElem?_map, List.getElem?_eq_getElem hk, hk2]; exact congrArg some EX.out
      have := (List.getElem?_inj (List.getElem?_eq_some_iff.1 h1).1 NDN.out).1 (h1.trans h2.symm)
      subst this
      exact hi2.symm.trans hk2)
     have FAL := Hd (show Fr (fun j => j = ma ∨ j = ms) wr w5 from (((FD.out.trans0 F3.out).of0.trans FI.out (fun j _ e => .inr e)).trans0 FID.out).trans FM.out (fun j _ e => .inl e))
     have PM5 := Hd (show jL w0 w5 p ma ms g X C (yT L (l.take (n + 1))) from by
      rw [STP.out]
      refine ⟨FM.out.obj DID.out.obj NMA.out.1, ⟨M5, hm5, fun y cs => ?_⟩, ?_, fun a ha => ?_, AA.out, PM.out.lo3, PM.out.subX, PM.out.fr.trans FAL.out (fun i hi e => by have := PM.out.lo3; rcases e with e | e <;> omega), fun y hy => ?_⟩
      ·rw [hD5 y cs, hm2]
       constructor
       ·rintro ⟨h1, a, ha, hax, rfl⟩
        exact ⟨a, List.mem_filter.2 ⟨ha, by simpa [hax] using h1⟩, hax, rfl⟩
       ·rintro ⟨a, ha, hax, rfl⟩
        obtain ⟨h1, h2⟩ := List.mem_filter.1 ha
        exact ⟨by simpa [hax] using h2, a, h1, hax, rfl⟩
      ·obtain ⟨M6, h1, h2⟩ := DID.out.sm
       refine ⟨M6, h1.keep FM.out NMA.out.2, fun q y => ?_⟩
       rw [h2, TKA.out]
       constructor
       ·rintro ⟨hq, a, ha, hqa, rfl⟩
        refine ⟨a, List.mem_filter.2 ⟨ha, ?_⟩, hqa, rfl⟩
        simp only [decide_eq_true_eq]
        intro hax
        rw [EUN.out a ha hax] at hqa
        exact hq hqa
       ·rintro ⟨a, ha, hqa, rfl⟩
        obtain ⟨h1, h2⟩ := List.mem_filter.1 ha
        refine ⟨fun hq => APN.out a h1 (fun e => ?_) q hq hqa, a, h1, hqa, rfl⟩
        simp only [decide_eq_true_eq] at h2
        exact h2 (by rw [e]; exact EX.out)
      ·exact (PM.out.data a (List.mem_filter.1 ha).1).step (FAL.out.mono (fun j e => by rcases e with e | e; rw [e]; exact PM.out.subX.1; rw [e]; exact PM.out.subX.2)) (fun _ _ h => h)
      ·obtain ⟨a, ha, hay⟩ := List.mem_map.1 hy
       exact PM.out.ok y (List.mem_map.2 ⟨a, (List.mem_filter.1 ha).1, hay⟩))
     have R5 := Hd (zb RXJ.out FM.out (fun e => by have := MLR.out; omega))
     have P5c := Hd PM5.out.cells.1
     clear hdel hm5 hD5 hT5 hM2 hm2
     repeat (first | ((first | with_reducible refine zx ?_ | ((with_reducible refine zu ?_ ?_); (focus rfl))); apply Exists.intro; refine ⟨?_, ?_⟩; (focus (first | exact zD (ty := 41) rfl (fun w h => h.2) uH rH (by rw [XL.out]; exact zr) | (intro w' hS; obtain ⟨s1, s2⟩ := hS; go_simp; (try with_reducible rfl); done))); try simp only [Act.put, pA, pB, pC]) | ((first | ((with_reducible refine zg (c := false) ?_ ?_ ?_); (focus rfl); (focus rfl)) | ((with_reducible refine zg (c := true) ?_ ?_ ?_); (focus rfl); (focus rfl)) | ((with_reducible refine zt ?_ ?_); (focus rfl))); try simp only [Act.put, pA, pB, pC]))
     (first | with_reducible refine zU (fun K' hK' => ?_) | ((with_reducible refine zK ?_ (fun K' hK' => ?_)); (focus rfl)))
     refine yB (jU rfl rfl rfl HR5.out) ?_
     refine hK'.out _ _ ?_ (fun hS => ?_)
     ·exact ⟨P5c.out, R5.out⟩
     try simp only [Act.put]
     refine zM (hK.out _ _ ?_)
     go_wp2_with fail
     go_roundw
     case rel => exact ⟨n + 1, by go_num, by omega, PM5.out, FR.out.trans FAL.out (fun _ _ h => h)⟩
     case measure => simp [intOf]; omega
  ·have hne : n = l.length := by omega
   have i1 : ¬ (n : Int) < (l.length : Int) := by omega
   have PE := Hd (show jL w0 wr p ma ms g X C (yT L l) by have := PM.out; rw [hne, List.take_length] at this; exact this)
   go_wp2_with fail
   refine bodyPost_end (results_none rfl _ _ _) rfl ?_
   exact ⟨rfl, PE.out, FR.out⟩
end
end Go.Proofs.YtdkkjchclkjleaaGreatDoor

/- pappuslaw11: Two opened; inputs appended to a row. -/
namespace Go.Proofs.YtdkkjchclkjleaaGreatDoor
open Go Go.RowKit Go.ChangeShapes Go.WideShapes Go.Deep Go.Maps Go.MapKept
section
variable {H : Type} {enc : TypeId × Value → H} {w : World} {base : Nat} {spare : Nat → Bool} {held : Bool}
end
theorem zex {a b : Option Addr} {n m c d : Nat} (h : Value.slice a n c = .slice b m d) : a = b ∧ n = m ∧ c = d := by
 injection h with h1 h2 h3
 exact ⟨h1, h2, h3⟩
theorem zc9 {P : Program} (w : World) (t ty e : TypeId) (ht : P.underlying t = some (.slice e)) (i : TypeInfo) (hi : P.info? e = some i) (base : Option Addr) (n cap c : Nat) (hle : n ≤ cap) :
  (Builtin.append_ #[t, t] ty #[.slice base n cap, .slice none 0 c]).run P w = .ok (.slice base n cap) w := by
 cases base <;> simp [Builtin.append_, run_underlying ht, sizeOf, typeInfo, hi, hle, storeCells, loadCells, Builtin.lenOf, Builtin.firstCells]
theorem zeR {α : Type} {k : Nat} {q : World → α → List Value → Prop} {V : Nat → Prop} {w : World} {va : Option Addr} {n vc : Nat} {L : List α} (hk0 : 0 < k) (hk : ∀ w d cs, q w d cs → cs.length = k) (h : Kept V w (fun w => qK k q w (.slice va n vc) L)) : ∃ css : List (List Value), css.length = L.length ∧ ∀ (i : Nat) (d : α) (cs : List Value), L[i]? = some d → css[i]? = some cs → ∃ b off, va = some ⟨b, off, none⟩ ∧ Kept V w (fun w => w.rangeAt b (off + i * k) cs ∧ q w d cs) := by
 have key : ∀ i : Fin L.length, ∃ cs, ∃ b off, va = some ⟨b, off, none⟩ ∧ Kept V w (fun w => w.rangeAt b (off + i.1 * k) cs ∧ q w L[i.1] cs) := fun i => by
  obtain ⟨b, off, cap, cs, e, -, -, a3⟩ := zh3 hk0 hk h (List.getElem?_eq_getElem i.2)
  exact ⟨cs, b, off, (zex e).1, a3⟩
 refine ⟨List.ofFn (fun i => Classical.choose (key i)), by simp, fun i d cs hd hc => ?_⟩
 have hi : i < L.length := (List.getElem?_eq_some_iff.1 hd).1
 have hc' : cs = Classical.choose (key ⟨i, hi⟩) := by
  rw [List.getElem?_ofFn, dif_pos hi] at hc
  exact (Option.some.inj hc).symm
 have hd' : L[i] = d := (List.getElem?_eq_some_iff.1 hd).2
 have := Classical.choose_spec (key ⟨i, hi⟩)
 rw [← hc'] at this
 dsimp only at this
 rw [hd'] at this
 exact this
theorem InQ.len {w : World} {x : InD} {cs : List Value} (h : InQ w x cs) : cs.length = 34 := by
 obtain ⟨ka, kc, rfl, hp, -⟩ := h
 exact vi hp _
theorem zdE (w : World) {B : Nat} {v x : Value} {n : Nat} {xs : List Value} {L : List InD} (hv : w.ownsRow B 108 34 v n xs) {V : Nat → Prop} (hx : Kept V w (fun w => Xj w x L)) (hn : n + L.length ≤ 100000) (hB : B ≤ w.heap.size) :
  ∃ (css : List (List Value)) (v' : Value) (w' : World), (Builtin.append_ #[32, 32] 32 #[v, x]).run Tryz.prog w = .ok v' w' ∧ css.length = L.length ∧ (∀ (i : Nat) (d : InD) (cs : List Value), L[i]? = some d → css[i]? = some cs → Kept V w (fun w => InQ w d cs)) ∧ (∀ cs ∈ css, cs.length = 34) ∧
   w'.ownsRow B 108 34 v' (n + L.length) (xs ++ css.flatMap id) ∧ Fr (fun j => v.ownBlock = some j) w w' ∧ Zq w v v' := by
 obtain ⟨va, vc, rfl⟩ := hx.now.form
 obtain ⟨css, hcl, hcs⟩ := zeR (by decide) (fun _ _ _ h => h.len) hx
 have hck : ∀ cs ∈ css, cs.length = 34 ∧ ∀ u ∈ cs, u.oneCell' = true := fun cs hc => by
  obtain ⟨i, hi⟩ := List.mem_iff_getElem?.1 hc
  have hlt : i < L.length := by rw [← hcl]; exact (List.getElem?_eq_some_iff.1 hi).1
  obtain ⟨_, _, _, hkp⟩ := hcs i L[i] cs (List.getElem?_eq_getElem hlt) hi
  obtain ⟨-, ka, kc, rfl, hp, _⟩ := hkp.now
  exact ⟨vi hp _, jF⟩
 obtain ⟨i, hi, hz, hs, hb⟩ := info_parts zhF
 have hfl : (css.flatMap id).length = L.length * 34 := by rw [xL id 34 css (fun cs hc => (hck cs hc).1), hcl]
 cases hva : va with
 | none =>
  have hL : L = [] := by
   cases L with
   | nil => rfl
   | cons d L =>
    have h0 : 0 < css.length := by rw [hcl]; simp
    obtain ⟨b, off, e, _⟩ := hcs 0 d css[0] rfl (List.getElem?_eq_getElem h0)
    rw [hva] at e
    cases e
  subst hL
  have hc0 : css = [] := List.eq_nil_of_length_eq_zero hcl
  subst hc0
  obtain ⟨a, c, e, hle⟩ : ∃ a c, v = .slice a n c ∧ n ≤ c := by
   rcases hv.2 with ⟨rfl, rfl⟩ | ⟨g, cap, cur, rfl, _, _, h, _⟩
   ·exact ⟨none, 0, rfl, Nat.le_refl _⟩
   ·exact ⟨_, _, rfl, h⟩
  subst e
  refine ⟨[], _, w, zc9 w _ _ _ XV i hi a n c vc hle, rfl, (fun i d cs h => by simp at h), (fun _ h => by cases h), ?_, Fr.refl _ _, fun k h => .inl h⟩
  simpa using hv
 | some ad =>
  rw [hva] at hcs
  have hcells : ∀ j u, (css.flatMap id)[j]? = some u → w.cell? (ad.add j) = some u := fun j u hj => by
   have hjl : j < L.length * 34 := by rw [← hfl]; exact (List.getElem?_eq_some_iff.1 hj).1
   have hd : j / 34 < L.length := by omega
   obtain ⟨b, off, e, hkp⟩ := hcs (j / 34) L[j / 34] css[j / 34] (List.getElem?_eq_getElem hd) (List.getElem?_eq_getElem (by rw [hcl]; exact hd))
   have hr := hkp.now.1
   obtain rfl := Option.some.inj e
   have h1 := Ju id 34 css (fun cs hc => (hck cs hc).1) (j / 34) css[j / 34] (List.getElem?_eq_getElem (by rw [hcl]; exact hd)) (j % 34) (by omega)
   rw [show j / 34 * 34 + j % 34 = j by omega] at h1
   have h2 := hr (j % 34) u (by rw [← hj, h1]; rfl)
   rw [J5]
   rw [show off + j / 34 * 34 + j % 34 = off + j by omega] at h2
   exact h2
  obtain ⟨v', w', a1, a2, a3, a4, a5⟩ := XR (P := Tryz.prog) w B 32 32 108 34 64 _ XV i hi hz hs hb rfl (by decide) v n xs hv ad L.length vc (css.flatMap id) hcells hfl (fun u hu => by
   obtain ⟨cs, hc, hu⟩ := List.mem_flatMap.1 hu
   exact (hck cs hc).2 u hu) (by omega) (by unfold maxLen; omega) hB
  exact ⟨css, v', w', a1, hcl, fun i d cs h1 h2 => (hcs i d cs h1 h2).elim fun b h => h.elim fun off h => fun w' f => (h.2 w' f).2, fun cs hc => (hck cs hc).1, a2, (Fr.refl _ w).grown a3 (fun k e => .inr e), a5⟩
end Go.Proofs.YtdkkjchclkjleaaGreatDoor
