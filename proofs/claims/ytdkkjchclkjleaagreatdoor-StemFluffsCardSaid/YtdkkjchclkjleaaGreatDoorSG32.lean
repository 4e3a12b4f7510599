/- pool: room. -/
import Derived.Test.YtdkkjchclkjleaaGreatDoorSG30
import Derived.Test.YtdkkjchclkjleaaGreatDoorSG23
import Derived.Test.YtdkkjchclkjleaaGreatDoorSG19
import Derived.Test.YtdkkjchclkjleaaGreatDoorSG31
set_option linter.unusedVariables false
set_option linter.unusedSimpArgs false
set_option linter.unnecessarySimpa false
set_option linter.all false
namespace Go.Proofs.YtdkkjchclkjleaaGreatDoor
open Go Go.RowKit Go.Maps Go.MapKept
theorem zd1 : Tryz.prog.underlying 191 = some (.slice 127) := by kernel_rfl
theorem zgm : (Tryz.prog.info? 127).map (fun i => (i.zero, i.size, i.bytes)) = some (some (.agg #[.int .u64 0, .int .i64 0]), 2, 16) := by kernel_rfl
theorem zfD : (Tryz.prog.info? 127).map (fun i => (i.zero, i.size)) = some (some (.agg #[.int .u64 0, .int .i64 0]), 2) := by kernel_rfl
def qz (L : List z7) (U : List zi) (n : Nat) : List z7 := (L.take n).filter fun e => decide (e.id ∉ U)
theorem zdX {L : List z7} {U : List zi} {n : Nat} {e : z7} (h : L[n]? = some e) : qz L U (n + 1) = if e.id ∈ U then qz L U n else qz L U n ++ [e] := by
 unfold qz
 rw [List.take_add_one, h, Option.toList_some, List.filter_append]
 by_cases hu : e.id ∈ U
 ·simp [hu]
 ·simp [hu]
theorem zfy (L : List z7) (U : List zi) (n : Nat) : (qz L U n).length ≤ L.length := by
 unfold qz
 have h1 := List.length_filter_le (fun e => decide (z7.id e ∉ U)) (L.take n)
 have h2 : (L.take n).length ≤ L.length := by rw [List.length_take]; omega
 omega
section
variable {w0 w : World} {p ma ms g N : Nat} {VG X : Nat → Prop} {C : zi → List Value} {L : List z7}
theorem yf.mapLen (h : yf w0 w p ma ms g VG X C L N) {M : List (zi × List Value)} (hM : qA w ma M) (hm : ∀ x cs, (x, cs) ∈ M ↔ ∃ e ∈ L, e.id = x ∧ cs = C x) : M.length = L.length := by
 have h1 := hM.nodup
 have h2 := h.nd
 have h3 : ∀ x, x ∈ M.map (·.1) ↔ x ∈ xD L := fun x => by
  constructor
  ·intro hx
   obtain ⟨y, hy, rfl⟩ := List.mem_map.1 hx
   obtain ⟨e, he, hi, _⟩ := (hm y.1 y.2).1 hy
   rw [← hi]
   exact List.mem_map.2 ⟨e, he, rfl⟩
  ·intro hx
   obtain ⟨e, he, rfl⟩ := List.mem_map.1 hx
   exact List.mem_map.2 ⟨(e.id, C e.id), (hm _ _).2 ⟨e, he, rfl, rfl⟩, rfl⟩
 have h4 := xM h1 (fun x hx => (h3 x).1 hx)
 have h5 := xM h2 (fun x hx => (h3 x).2 hx)
 rw [List.length_map] at h4 h5
 unfold xD at h4 h5
 rw [List.length_map] at h4 h5
 omega
def X7 (w0 w : World) (p ma ms g : Nat) (VG X : Nat → Prop) (C : zi → List Value) (L : List z7) (N : Nat) (x : Int × Int) (ps : List zi) (e : Ending) (w' : World) : Prop :=
 ∃ gv, e = .returned (.tuple #[gv, .int .i64 (vW L x ps)]) ∧ ∃ VG', yf w0 w' p ma ms g VG' X C (yT L (qC L x ps)) N ∧ Fr (poV p ma ms VG) w w' ∧ (∀ j, VG' j → VG j) ∧
  w'.ownsRow w.heap.size 41 32 gv (qC L x ps).length ((qC L x ps).flatMap zj)
theorem X7.none {w' : World} {x : Int × Int} {ps : List zi} {c : Int} (h : yf w0 w p ma ms g VG X C L N) (hE : vW L x ps = c) (hG : qC L x ps = []) (f : Fr No w w') : X7 w0 w p ma ms g VG X C L N x ps (.returned (.tuple #[.slice none 0 0, .int .i64 c])) w' :=
 ⟨_, by rw [hE], VG, by rw [hG, J4]; exact h.fr0 f, f.of0, fun _ h => h, by rw [hG]; exact World.ownsRow_nil _ _ _ _⟩
set_option maxRecDepth 20000 in
set_option maxHeartbeats 16000000 in
theorem zgh (h : yf w0 w p ma ms g VG X C L N) (hNN : N ≤ 900) (hap : L.Pairwise fun a b => ∀ q ∈ zS a.tx, q ∉ zS b.tx) (hin : ∀ e ∈ L, e.tx.ins.length ≤ 1000) (hwo : ∀ e ∈ L, WOk (wgt e)) {x : Int × Int} (hx : WOk x) {v : Value} {ps : List zi} (hv : yV w v ps) (hps : ps.length ≤ 1000) :
  Calls Tryz.prog 48 #[.pointer (some ⟨p, 0, none⟩), .agg (y9 x).toArray, v] w (X7 w0 w p ma ms g VG X C L N x ps) := by
 obtain ⟨dH, uH, rH⟩ := yj
 obtain ⟨dW, uW, rW⟩ := Xz
 have zh := y6
 have HH := Hd h
 have HV := Hd hv
 have AP := Hd hap
 have HIN := Hd hin
 have HWO := Hd hwo
 have HX := Hd hx
 have LN := Hd h.len
 have f1 : Fr No w (w.alloc (.cells (y9 x).toArray 127)) := (Fr.refl No w).alloc _
 have F1 := Hd f1
 have RW := Hd (zC w (y9 x) 127)
 have c0 := (h.fr0 f1).cells.1
 have c2 := (h.fr0 f1).cells.2.2
 obtain ⟨M, hM, hm⟩ := h.am
 have HML := Hd (h.mapLen hM hm)
 have hlen := fun ty => (hM.keep f1 id).lenRun Yy ty
 rw [HML.out] at hlen
 have HLEN := Hd hlen
 have HM := Hd hM
 have HMM := Hd hm
 have H1 := Hd (h.fr0 f1)
 clear h hv hap hin hwo hx f1 hM hm hlen
 by_cases h32 : L.length < 32
 ·have RE := Hd (show vW L x ps = 0 ∧ qC L x ps = [] from ⟨by unfold vW; rw [if_pos h32], by unfold qC; rw [if_pos h32]⟩)
  have i1 : (L.length : Int) < 32 := by omega
  go_enter Tryz.func48, Tryz.ntmps48
  go_wp2_with (refine zd rfl (jq rfl rfl (HLEN.out _)) ?_)
  go_ret2
  exact X7.none HH.out RE.out.1 RE.out.2 F1.out
 have i1 : ¬ (L.length : Int) < 32 := by omega
 have hup := fun w' (f : Fr No w w') => zjH (HH.out.gr.fr0 f) (by omega) (HV.out.keep f) hps
 have HUP := Hd hup
 have HAL := Hd (fun w' (f : Fr No w w') => zjY (HH.out.gr.fr0 f) (by omega))
 have UOK := Hd (show ∀ y ∈ upS (gOf L) ps, zQ y from fun y hy => HH.out.gr.okId y ((qJ ps).subset hy))
 have UL := Hd (show (upS (gOf L) ps).length ≤ 1000 by have := xM (HH.out.gr.gok.nd.sublist (qJ ps)) (fun x hx => (qJ ps).subset hx); rw [qv] at this; unfold xD at this; rw [List.length_map] at this; have := LN.out; omega)
 have CD := Hd (show qz L (upS (gOf L) ps) L.length = Zu L ps by unfold qz Zu; rw [List.take_length])
 have IDG := Hd (show (ids (gOf L)).length = L.length by rw [qv]; unfold xD; simp)
 have ROOM := Hd (show ∀ r, Zn L ps = r → vW L x ps = (match r with | none => 18 | some e => if Y0 (wgt e) x < 0 then 0 else 18) ∧ qC L x ps = (match r with | none => [] | some e => if Y0 (wgt e) x < 0 then qm (gOf L) [e.id] else []) from fun r hr => by
  unfold vW qC
  rw [if_neg h32, if_neg h32, hr]
  exact ⟨rfl, rfl⟩)
 have WP := Hd (show Zn L ps = (jV ((Zu L ps).map wgt) (Zu L ps).length).bind fun k => (Zu L ps)[k]? from rfl)
 have iL : L.length ≤ 900 := by have := LN.out; omega
 clear hup h32
 generalize hU : upS (gOf L) ps = U at *
 go_enter Tryz.func48, Tryz.ntmps48
 have K0 := tru
 have K1 := tru
 have K2 := tru
 go_wp2_with (first | ((with_reducible refine zn ?_); have mk := K0.out; refine zd rfl (jq rfl rfl (HLEN.out _)) ?_; generalize hqw : w.heap.size = qw at *; generalize hw1 : w.alloc (.cells (y9 x).toArray 127) = w1 at *; have Z1 := Hd (show qw < w1.heap.size by rw [← hw1, ← hqw]; simp); clear hw1; have F11 := Hd (Fr.refl No w1); go_frame) | (clear K1; go_at_call 87; refine (HUP.out _ F1.out).mono ?_; rintro e w2 ⟨uv, rfl, hrk⟩; obtain ⟨ua, uc, huv⟩ := hrk.1.slice.arg.form; subst huv; have F12 := Hd hrk.2; have F2 := Hd (F1.out.trans0 hrk.2); have UI := Hd (yV.own hrk.1 UOK.out); clear hrk; have c22 := (HH.out.fr0 F2.out).cells.2.2; go_frame) | (clear K2; go_at_call 55; refine (HAL.out _ F2.out).mono ?_; rintro e w3 ⟨av, rfl, hrk⟩; obtain ⟨aa, ac, hav⟩ := hrk.1.slice.arg.form; subst hav; have F23 := Hd hrk.2; have F3 := Hd (F2.out.trans0 hrk.2); have AI := Hd (yV.own hrk.1 (fun y hy => HH.out.gr.okId y hy)); clear hrk; have UI3 := Hd (UI.out.keep F23.out); go_frame))
 have H3 := Hd (HH.out.fr0 F3.out)
 rw [IDG.out]
 go_loopw [9, 10, 34] (fun ov wv iv wr => ∃ n : Nat, iv = .int .i64 n ∧ n ≤ L.length ∧ ∃ ia ic wa wc, ov = .slice ia (qz L U n).length ic ∧ wv = .slice wa (qz L U n).length wc ∧ wr.ownsRow w3.heap.size 41 32 (.slice ia (qz L U n).length ic) (qz L U n).length (((qz L U n).map (·.id)).flatMap zj) ∧ wr.ownsRow w3.heap.size 127 2 (.slice wa (qz L U n).length wc) (qz L U n).length (((qz L U n).map wgt).flatMap y9) ∧ (∀ j, (Value.slice ia (qz L U n).length ic).ownBlock = some j → (Value.slice wa (qz L U n).length wc).ownBlock = some j → False) ∧ Fr No w3 wr) (fun _ _ iv _ => L.length - (intOf iv).toNat)
 case atStart => exact ⟨0, rfl, Nat.zero_le _, none, 0, none, 0, rfl, rfl, World.ownsRow_nil _ _ _ _, World.ownsRow_nil _ _ _ _, fun j h _ => (by cases h), Fr.refl _ _⟩
 case round =>
  obtain ⟨n, rfl, hn, ia, ic, wa, wc, rfl, rfl, hio, hwo, hds, hfr⟩ := hrel
  have FR := Hd hfr
  have IO := Hd hio
  have WO := Hd hwo
  have DS := Hd hds
  have CL := Hd (zfy L U n)
  clear hfr hio hwo hds
  by_cases hlt : n < L.length
  ·have i2 : (n : Int) < (L.length : Int) := by omega
   obtain ⟨e, he⟩ : ∃ e, L[n]? = some e := ⟨_, List.getElem?_eq_getElem hlt⟩
   have HE := Hd he
   have heid : (ids (gOf L))[n]? = some e.id := by rw [qv]; unfold xD; rw [List.getElem?_map, he]; rfl
   obtain ⟨b, off, cap, e0, hr, -⟩ := (AI.out.keep FR.out).at_ heid
   injection e0 with e1 e2 e3
   subst e1
   have EOK := Hd (AI.out.1 e.id (List.mem_of_getElem? heid))
   have EL := Hd (zE EOK.out)
   have R1 := Hd hr
   have RN := Hd (zC wr (zj e.id) 41)
   have FA := Hd ((Fr.refl No wr).alloc (.cells (zj e.id).toArray 41))
   have HCN := Hd (Zi _ (UI3.out.keep (FR.out.trans0 FA.out)) (by have := UL.out; omega) e.id EOK.out)
   have SN := Hd (zdX (U := U) he)
   have EMEM := Hd (List.mem_of_getElem? he)
   clear hr he heid e2 e3
   by_cases hu : e.id ∈ U
   ·have du : decide (e.id ∈ U) = true := decide_eq_true hu
    rw [du] at HCN
    rw [if_pos hu] at SN
    clear hu du
    have K0 := tru
    have K1 := tru
    have K2 := tru
    have K3 := tru
    go_wp2_with (first | ((with_reducible refine zn ?_); have mk := K0.out; refine zd rfl (zf (ty := 41) rfl rfl R1.out uH rH (by rw [EL.out]; exact zr)) ?_; go_frame) | ((with_reducible refine zA ?_); have mk := K1.out; refine zq rfl (zm (w := wr) (ty := 41) (cs := zj e.id) rfl rfl rfl (by rw [EL.out]; rfl) (by rw [EL.out]; exact zr) zV) ?_; go_frame) | ((with_reducible refine zn ?_); have mk := K2.out; refine zd rfl (zf (ty := 41) rfl rfl RN.out uH rH (by rw [EL.out]; exact zr)) ?_; go_frame) | (clear K3; go_at_call 88; refine HCN.out.mono ?_; rintro e' w5 ⟨rfl, f5⟩; have F5 := Hd (FA.out.trans0 f5); clear f5; go_frame))
    go_roundw
    case rel => exact ⟨n + 1, by go_num, by omega, ia, ic, wa, wc, by rw [SN.out], by rw [SN.out], by rw [SN.out]; exact zl IO.out F5.out (fun _ _ => id), by rw [SN.out]; exact zl WO.out F5.out (fun _ _ => id), by rw [SN.out]; exact DS.out, FR.out.trans0 F5.out⟩
    case measure => simp [intOf]; omega
   ·have du : decide (e.id ∈ U) = false := decide_eq_false hu
    rw [du] at HCN
    rw [if_neg hu] at SN
    clear hu du
    obtain ⟨ta, tc, oa, oc, hce⟩ := (H3.out.data e EMEM.out).now.form
    have hcel : ZY C L e.id = [.int .u32 e.tx.ver, .slice ta e.tx.ins.length tc, .slice oa e.tx.outs.length oc, .int .u64 e.fee, .int .i64 e.size, .int .u64 e.added] := by
     unfold ZY
     rw [if_pos (show e.id ∈ xD L from List.mem_map.2 ⟨e, EMEM.out, rfl⟩), hce]
    have LK := Hd (fun w' (h' : qA w' ma M) => Yp (w := w') EOK.out h' HMM.out hcel)
    clear hce hcel
    have K0 := tru
    have K1 := tru
    have K2 := tru
    have K3 := tru
    have K4 := tru
    have K5 := tru
    have K6 := tru
    go_wp2_with (first | ((with_reducible refine zn ?_); have mk := K0.out; refine zd rfl (zf (ty := 41) rfl rfl R1.out uH rH (by rw [EL.out]; exact zr)) ?_; go_frame) | ((with_reducible refine zA ?_); have mk := K1.out; refine zq rfl (zm (w := wr) (ty := 41) (cs := zj e.id) rfl rfl rfl (by rw [EL.out]; rfl) (by rw [EL.out]; exact zr) zV) ?_; generalize hqx : wr.heap.size = qx at *; go_frame) | ((with_reducible refine zn ?_); have mk := K2.out; refine zd rfl (zf (ty := 41) rfl rfl RN.out uH rH (by rw [EL.out]; exact zr)) ?_; go_frame) | (clear K3; go_at_call 88; refine HCN.out.mono ?_; rintro e' w5 ⟨rfl, f5⟩; have F5 := Hd (FA.out.trans0 f5); have RN5 := Hd (zb RN.out f5 id); clear f5; obtain ⟨v6, w6, a1, a2, a3, -, a5⟩ := xj (P := Tryz.prog) w5 w3.heap.size 38 38 41 32 32 _ xB xI rfl (by decide) (zl IO.out F5.out (fun _ _ => id)) (zj e.id) EL.out zV (by have := CL.out; omega) (by have := CL.out; unfold maxLen; omega) (by have := FR.out.size; have := F5.out.size; omega); obtain ⟨va6, vc6, hv6⟩ := a2.slice.arg.form; subst hv6; have A1 := Hd a1; have A2 := Hd a2; have A3 := Hd a3; have A5 := Hd a5; clear a1 a2 a3 a5; go_frame) | ((with_reducible refine zn ?_); have mk := K4.out; refine zd rfl (zf (ty := 41) rfl rfl RN5.out uH rH (by rw [EL.out]; exact zr)) ?_; go_frame) | ((with_reducible refine zn ?_); have mk := K5.out; refine zd rfl (zZ (t := 38) rfl rfl xB qs rfl (by decide) (by decide) EL.out) ?_; go_frame) | ((with_reducible refine zn ?_); have mk := K6.out; at_builtin; refine zW rfl rfl rfl rfl A1.out ?_; go_frame))
    have NI := Hd (show ∀ j, (Value.slice ia (qz L U n).length ic).ownBlock = some j → w3.heap.size ≤ j ∧ j < qx from fun j hj => ⟨(IO.out.lt j hj).1, by rw [← hqx]; exact (IO.out.lt j hj).2⟩)
    have NW := Hd (show ∀ j, (Value.slice wa (qz L U n).length wc).ownBlock = some j → w3.heap.size ≤ j ∧ j < qx from fun j hj => ⟨(WO.out.lt j hj).1, by rw [← hqx]; exact (WO.out.lt j hj).2⟩)
    have FR6 := Hd (show Fr No w3 w6 from (FR.out.trans0 F5.out).trans A3.out (fun i hi e => by have := (NI.out i e).1; omega))
    have RN6 := Hd (zb RN5.out A3.out (fun e => by have := (NI.out _ e).2; omega))
    have WO6 := Hd (zl (zl WO.out F5.out (fun _ _ => id)) A3.out (fun j hj e => DS.out j e hj))
    have FD := Hd ((Fr.refl No w6).drew)
    have FR7 := Hd (FR6.out.trans0 FD.out)
    have H7 := Hd (H3.out.fr0 FR7.out)
    have RN7 := Hd (zb RN6.out FD.out id)
    have HM7 := Hd (HM.out.keep (F3.out.trans0 FR7.out) id)
    have WO7 := Hd (zl WO6.out FD.out (fun _ _ => id))
    have A27 := Hd (zl A2.out FD.out (fun _ _ => id))
    have QL := Hd (show qx < w6.drew.heap.size from by have h1 := F5.out.size; have h2 := A3.out.size; have h3 := FA.out.size; have h4 := vt RN7.out (by intro h0; have := EL.out; rw [h0] at this; cases this); exact h4)
    have D6 := Hd (show ∀ j, (Value.slice va6 ((qz L U n).length + 1) vc6).ownBlock = some j → (Value.slice wa (qz L U n).length wc).ownBlock = some j → False from fun j h1 h2 => by
     rcases A5.out j h1 with h | h
     ·exact DS.out j h h2
     ·have := (NW.out j h2).2; have := F5.out.size; omega)
    refine zv [false, false, false, false, false, false, false, false, true, true, false] (fun w' => w'.cell? ⟨p, 0, none⟩ = some (.map (some ma)) ∧ w'.rangeAt qx 0 (zj e.id) ∧ qA w' ma M) (by kernel_rfl) (by kernel_rfl) ?_ (fun K hK => ?_)
    ·exact ⟨H7.out.cells.1, RN7.out, HM7.out⟩
    generalize w6.drew = w7 at *
    obtain ⟨v8, w8, b1, b2, b3, -, b5⟩ := xj (P := Tryz.prog) w7 w3.heap.size 191 191 127 2 16 _ zd1 zgm rfl (by decide) WO7.out (y9 (wgt e)) rfl Xg (by have := CL.out; omega) (by have := CL.out; unfold maxLen; omega) FR7.out.size
    obtain ⟨va8, vc8, hv8⟩ := b2.slice.arg.form
    subst hv8
    have B1 := Hd b1
    have B2 := Hd b2
    have B3 := Hd b3
    have B5 := Hd b5
    clear b1 b2 b3 b5
    have FR8 := Hd (show Fr No w3 w8 from FR7.out.trans B3.out (fun i hi e => by have := (NW.out i e).1; omega))
    have RN8 := Hd (zb RN7.out B3.out (fun e => by have := (NW.out _ e).2; omega))
    have I8 := Hd (zl A27.out B3.out (fun j hj e => D6.out j hj e))
    have D8 := Hd (show ∀ j, (Value.slice va6 ((qz L U n).length + 1) vc6).ownBlock = some j → (Value.slice va8 ((qz L U n).length + 1) vc8).ownBlock = some j → False from fun j h1 h2 => by
     rcases B5.out j h2 with h | h
     ·exact D6.out j h1 h
     ·have := (A27.out.lt j h1).2; omega)
    repeat (first | ((first | with_reducible refine zx ?_ | ((with_reducible refine zu ?_ ?_); (focus rfl))); apply Exists.intro; refine ⟨?_, ?_⟩; (focus (first | exact zD (ty := 41) rfl (fun w h => h.2.1) uH rH (by rw [EL.out]; exact zr) | exact fun w' h => zN (t := 133) rfl rfl rfl (LK.out w' h.2.2) | exact fun w' _ => vS (t := 129) (f := 1) rfl rfl (ziS e.tx.ver ta oa e.tx.ins.length tc e.tx.outs.length oc e.fee e.size e.added w') | (intro w' hS; obtain ⟨s1, s2, s3⟩ := hS; go_simp; (try with_reducible rfl); done))); try simp only [Act.put, pA, pB, pC]) | ((first | ((with_reducible refine zg (c := false) ?_ ?_ ?_); (focus rfl); (focus rfl)) | ((with_reducible refine zg (c := true) ?_ ?_ ?_); (focus rfl); (focus rfl)) | ((with_reducible refine zt ?_ ?_); (focus rfl))); try simp only [Act.put, pA, pB, pC]))
    (first | with_reducible refine zU (fun K' hK' => ?_) | ((with_reducible refine zK ?_ (fun K' hK' => ?_)); (focus rfl)))
    refine yB (zZ (t := 191) (cs := y9 (wgt e)) rfl rfl zd1 zfD rfl (by decide) (by decide) rfl) ?_
    have FB := Hd ((Fr.refl No w7).alloc (.cells (y9 (wgt e)).toArray 127))
    refine hK'.out _ _ ?_ (fun hS => ?_)
    ·exact ⟨FB.out.cell H7.out.cells.1 id, zb RN7.out FB.out id, HM7.out.keep FB.out id⟩
    try simp only [Act.put, pA, pB, pC]
    (first | with_reducible refine zU (fun K' hK' => ?_) | ((with_reducible refine zK ?_ (fun K' hK' => ?_)); (focus rfl)))
    refine xU rfl rfl rfl B1.out ?_
    refine hK'.out _ _ ?_ (fun hS => ?_)
    ·exact ⟨(H3.out.fr0 FR8.out).cells.1, RN8.out, HM.out.keep (F3.out.trans0 FR8.out) id⟩
    try simp only [Act.put, pA, pB, pC]
    repeat (first | ((first | with_reducible refine zx ?_ | ((with_reducible refine zu ?_ ?_); (focus rfl))); apply Exists.intro; refine ⟨?_, ?_⟩; (focus (first | (intro w' hS; obtain _ := hS; go_simp; (try with_reducible rfl); done))); try simp only [Act.put, pA, pB, pC]) | ((first | ((with_reducible refine zg (c := false) ?_ ?_ ?_); (focus rfl); (focus rfl)) | ((with_reducible refine zg (c := true) ?_ ?_ ?_); (focus rfl); (focus rfl)) | ((with_reducible refine zt ?_ ?_); (focus rfl))); try simp only [Act.put, pA, pB, pC]))
    refine zM (hK.out _ _ ?_)
    have SNL := Hd (show (qz L U (n + 1)).length = (qz L U n).length + 1 by rw [SN.out]; simp)
    go_wp2_with fail
    go_roundw
    case rel => exact ⟨n + 1, by go_num, by omega, va6, vc6, va8, vc8, by rw [SNL.out], by rw [SNL.out], by rw [SNL.out, SN.out, List.map_append, List.flatMap_append]; simpa using I8.out, by rw [SNL.out, SN.out, List.map_append, List.flatMap_append]; simpa using B2.out, by rw [SNL.out]; exact D8.out, FR8.out⟩
    case measure => simp [intOf]; omega
  ·have hne : n = L.length := by omega
   have i2 : ¬ (n : Int) < (L.length : Int) := by omega
   have CE := Hd (show qz L U n = Zu L ps by rw [hne]; exact CD.out)
   clear hne
   rw [CE.out]
   rw [CE.out] at IO WO
   generalize hK : Zu L ps = K at *
   have KM := Hd (show ∀ e ∈ K, e ∈ L ∧ e.id ∉ U from fun e he => by
    rw [← hK] at he
    unfold Zu at he
    rw [hU] at he
    simpa using he)
   have KL := Hd (show K.length ≤ 900 by have := CL.out; rw [CE.out] at this; omega)
   have WI := Hd (show YP wr (.slice wa K.length wc) (K.map wgt) from ⟨fun y hy => by
    obtain ⟨e, he, rfl⟩ := List.mem_map.1 hy
    exact HWO.out e (KM.out e he).1, by rw [List.length_map]; exact WO.out.slice.arg⟩)
   have II := Hd (show yV wr (.slice ia K.length ic) (K.map (·.id)) from ⟨fun y hy => by
    obtain ⟨e, he, rfl⟩ := List.mem_map.1 hy
    exact HH.out.ids _ (List.mem_map.2 ⟨e, (KM.out e he).1, rfl⟩), by rw [List.length_map]; exact IO.out.slice.arg⟩)
   have hwk := zfI wr WI.out (by rw [List.length_map]; have := KL.out; omega)
   rw [List.length_map] at hwk
   have HWK := Hd hwk
   have RWR := Hd (zb RW.out ((F12.out.trans0 F23.out).trans0 FR.out) id)
   clear hwk hK
   have FWR := Hd (F3.out.trans0 FR.out)
   cases hw : jV (K.map wgt) K.length with
   | none =>
    have RE := Hd (ROOM.out none (by rw [WP.out, hw]; rfl))
    have WN : jX (K.map wgt) K.length = -1 := by unfold jX; rw [hw]
    rw [WN] at HWK
    clear hw WN
    have K0 := tru
    go_wp2_with (first | (clear K0; go_at_call 89; refine HWK.out.mono ?_; rintro e w5 ⟨rfl, f5⟩; have F5 := Hd f5; clear f5; go_frame))
    refine zv [false, false, false, false, false, false, false, false, true, false, false] (fun _ => True) (by kernel_rfl) (by kernel_rfl) ?_ (fun K hK => ?_)
    ·trivial
    repeat (first | ((first | with_reducible refine zx ?_ | ((with_reducible refine zu ?_ ?_); (focus rfl))); apply Exists.intro; refine ⟨?_, ?_⟩; (focus (first | (intro w' hS; obtain _ := hS; go_simp; (try with_reducible rfl); done))); try simp only [Act.put, pA, pB, pC]) | ((first | ((with_reducible refine zg (c := false) ?_ ?_ ?_); (focus rfl); (focus rfl)) | ((with_reducible refine zg (c := true) ?_ ?_ ?_); (focus rfl); (focus rfl)) | ((with_reducible refine zt ?_ ?_); (focus rfl))); try simp only [Act.put, pA, pB, pC]))
    refine zM (hK.out _ _ ?_)
    go_wp2_with fail
    go_ret2
    exact X7.none HH.out RE.out.1 RE.out.2 ((FWR.out.trans0 F5.out).drew)
   | some k =>
    have hk := XJ _ _ k hw
    obtain ⟨ek, hek⟩ : ∃ ek, K[k]? = some ek := ⟨_, List.getElem?_eq_getElem hk⟩
    have RE := Hd (ROOM.out (some ek) (by rw [WP.out, hw]; exact hek))
    have WN : jX (K.map wgt) K.length = k := by unfold jX; rw [hw]
    rw [WN] at HWK
    have EK := Hd (KM.out ek (List.mem_of_getElem? hek))
    have EOK := Hd (HH.out.ids ek.id (List.mem_map.2 ⟨ek, EK.out.1, rfl⟩))
    have EL := Hd (zE EOK.out)
    obtain ⟨bw, ow, cw, e0, hrw, -⟩ := WI.out.at_ (i := k) (c := wgt ek) (by rw [List.getElem?_map, hek]; rfl)
    injection e0 with e1 e2 e3
    subst e1
    obtain ⟨bi, oi, ci, e4, hri, hbl⟩ := II.out.at_ (i := k) (c := ek.id) (by rw [List.getElem?_map, hek]; rfl)
    injection e4 with e5 e6 e7
    subst e5
    have RKW := Hd hrw
    have RKI := Hd hri
    have NBI := Hd (show w3.heap.size ≤ bi from (IO.out.lt bi rfl).1)
    have i5 : ¬ (k : Int) < 0 := by omega
    have i6 : (k : Int) < (K.length : Int) := by omega
    have LS := Hd (fun w => zf8 (HWO.out ek EK.out.1) HX.out w)
    clear hw WN hek hrw hri e2 e3 e6 e7 hbl
    by_cases hc : Y0 (wgt ek) x < 0
    ·have REE := Hd (show vW L x ps = 0 ∧ qC L x ps = qm (gOf L) [ek.id] from ⟨by rw [RE.out.1]; exact if_pos hc, by rw [RE.out.2]; exact if_pos hc⟩)
     rw [decide_eq_true hc] at LS
     clear hc
     have K0 := tru
     go_wp2_with (first | (clear K0; go_at_call 89; refine HWK.out.mono ?_; rintro e w5 ⟨rfl, f5⟩; have F5 := Hd f5; clear f5; go_frame))
     have F5D := Hd (F5.out.drew)
     refine zv [false, false, false, false, false, false, false, false, true, false, false] (fun w' => w'.rangeAt bw (ow + k * 2) (y9 (wgt ek)) ∧ w'.rangeAt qw 0 (y9 x)) (by kernel_rfl) (by kernel_rfl) ?_ (fun K hK => ?_)
     ·exact ⟨zb RKW.out F5D.out id, zb RWR.out F5D.out id⟩
     generalize w5.drew = w5d at *
     repeat (first | ((first | with_reducible refine zx ?_ | ((with_reducible refine zu ?_ ?_); (focus rfl))); apply Exists.intro; refine ⟨?_, ?_⟩; (focus (first | exact zD (ty := 127) rfl (fun w h => h.1) uW rW (show _ = some (y9 (wgt ek)).length from xK) | exact zD (ty := 127) rfl (fun w h => h.2) uW rW (show _ = some (y9 x).length from xK) | (intro w' hS; obtain ⟨s1, s2⟩ := hS; go_simp; (try with_reducible rfl); done))); try simp only [Act.put, pA, pB, pC]) | ((first | ((with_reducible refine zg (c := false) ?_ ?_ ?_); (focus rfl); (focus rfl)) | ((with_reducible refine zg (c := true) ?_ ?_ ?_); (focus rfl); (focus rfl)) | ((with_reducible refine zt ?_ ?_); (focus rfl))); try simp only [Act.put, pA, pB, pC]))
     (first | with_reducible refine zU (fun K' hK' => ?_) | ((with_reducible refine zK ?_ (fun K' hK' => ?_)); (focus rfl)))
     go_simp
     refine (LS.out _).mono ?_
     rintro e w6 ⟨rfl, f6⟩
     have F56 := Hd (F5D.out.trans0 f6)
     clear f6
     refine hK'.out _ _ ?_ (fun hS => ?_)
     ·exact ⟨zb RKW.out F56.out id, zb RWR.out F56.out id⟩
     try simp only [Act.put, pA, pB, pC]
     repeat (first | ((first | with_reducible refine zx ?_ | ((with_reducible refine zu ?_ ?_); (focus rfl))); apply Exists.intro; refine ⟨?_, ?_⟩; (focus (first | (intro w' hS; obtain ⟨s1, s2⟩ := hS; go_simp; (try with_reducible rfl); done))); try simp only [Act.put, pA, pB, pC]) | ((first | ((with_reducible refine zg (c := false) ?_ ?_ ?_); (focus rfl); (focus rfl)) | ((with_reducible refine zg (c := true) ?_ ?_ ?_); (focus rfl); (focus rfl)) | ((with_reducible refine zt ?_ ?_); (focus rfl))); try simp only [Act.put, pA, pB, pC]))
     refine zM (hK.out _ _ ?_)
     have F6 := Hd (FWR.out.trans0 F56.out)
     have H6 := Hd (HH.out.fr0 F6.out)
     have R6I := Hd (zb RKI.out F56.out id)
     have VGW := Hd (show ∀ j, VG j → j < w.heap.size from HH.out.gr.hi)
     go_wp2_with fail
     have F7 := Hd ((Fr.refl No w6).drew)
     have F7W := Hd (F6.out.trans0 F7.out)
     have H7 := Hd (HH.out.fr0 F7W.out)
     have R7I := Hd (zb R6I.out F7.out id)
     refine zv [false, false, false, false, false, false, false, false, true, false, false, false, false, false] (fun w' => w'.cell? ⟨p, 2, none⟩ = some (.pointer (some ⟨g, 0, none⟩)) ∧ w'.rangeAt bi (oi + k * 32) (zj ek.id)) (by kernel_rfl) (by kernel_rfl) ?_ (fun K hK => ?_)
     ·exact ⟨H7.out.cells.2.2, R7I.out⟩
     generalize w6.drew = w7 at *
     repeat (first | ((first | with_reducible refine zx ?_ | ((with_reducible refine zu ?_ ?_); (focus rfl))); apply Exists.intro; refine ⟨?_, ?_⟩; (focus (first | exact zD (ty := 41) rfl (fun w h => h.2) uH rH (by rw [EL.out]; exact zr) | (intro w' hS; obtain ⟨s1, s2⟩ := hS; go_simp; (try with_reducible rfl); done))); try simp only [Act.put, pA, pB, pC]) | ((first | ((with_reducible refine zg (c := false) ?_ ?_ ?_); (focus rfl); (focus rfl)) | ((with_reducible refine zg (c := true) ?_ ?_ ?_); (focus rfl); (focus rfl)) | ((with_reducible refine zt ?_ ?_); (focus rfl))); try simp only [Act.put, pA, pB, pC]))
     (first | with_reducible refine zU (fun K' hK' => ?_) | ((with_reducible refine zK ?_ (fun K' hK' => ?_)); (focus rfl)))
     go_simp
     refine (zje H7.out.gr (by omega) EOK.out).mono ?_
     rintro e' w8 ⟨gv, rfl, V8, hg8, hf8, hv8, ho8⟩
     obtain ⟨ga, gc, hgv⟩ := ho8.slice.arg.form
     subst hgv
     have GID := Hd (show ek.id ∈ ids (gOf L) by rw [qv]; exact List.mem_map.2 ⟨ek, EK.out.1, rfl⟩)
     have G8 := Hd hg8
     have F8 := Hd hf8
     have V8S := Hd hv8
     have O8 := Hd ho8
     clear hg8 hf8 hv8 ho8
     rw [if_pos GID.out]
     have c8 := Hd (F8.out.cell H7.out.cells.2.2 H7.out.apart.2.2.2.1)
     have R8I := Hd (zb R7I.out F8.out (fun e => by have := VGW.out _ e; have := NBI.out; have := F3.out.size; omega))
     refine hK'.out _ _ ?_ (fun hS => ?_)
     ·exact ⟨c8.out, R8I.out⟩
     try simp only [Act.put, pA, pB, pC]
     repeat (first | ((first | with_reducible refine zx ?_ | ((with_reducible refine zu ?_ ?_); (focus rfl))); apply Exists.intro; refine ⟨?_, ?_⟩; (focus (first | (intro w' hS; obtain ⟨s1, s2⟩ := hS; go_simp; (try with_reducible rfl); done))); try simp only [Act.put, pA, pB, pC]) | ((first | ((with_reducible refine zg (c := false) ?_ ?_ ?_); (focus rfl); (focus rfl)) | ((with_reducible refine zg (c := true) ?_ ?_ ?_); (focus rfl); (focus rfl)) | ((with_reducible refine zt ?_ ?_); (focus rfl))); try simp only [Act.put, pA, pB, pC]))
     refine zM (hK.out _ _ ?_)
     have M8 := Hd (show jL w0 w8 p ma ms g X C L from H7.out.m.frV F8.out ⟨H7.out.apart.2.2.2.1, H7.out.apart.2.2.2.2.1, H7.out.apart.2.2.2.2.2⟩ H7.out.gr.lo (fun j hj => H7.out.sub j (.inr (.inr (.inr hj)))) (fun _ _ h => h) H7.out.m.subX)
     have MW := Hd (show ma < w.heap.size ∧ ms < w.heap.size from ⟨HH.out.hi ma (.inr (.inl rfl)), HH.out.hi ms (.inr (.inr (.inl rfl)))⟩)
     have DOK := Hd (show ∀ y ∈ qm (gOf L) [ek.id], zQ y from fun y hy => HH.out.gr.okId y ((qj [ek.id]).subset hy))
     have DL := Hd (show (qm (gOf L) [ek.id]).length ≤ 100000 by have := xM (HH.out.gr.gok.nd.sublist (qj [ek.id])) (fun x hx => (qj [ek.id]).subset hx); rw [qv] at this; unfold xD at this; rw [List.length_map] at this; omega)
     have HD := Hd (zjj M8.out AP.out HH.out.nd HIN.out (v := .slice ga (qm (gOf L) [ek.id]).length gc) (l := qm (gOf L) [ek.id]) (fun w' f => yV.own (zl O8.out f (fun j hj e => by have := (O8.out.lt j hj).1; have := F7W.out.size; have := MW.out; rcases e with e | e <;> omega)) DOK.out) (fun y hy => by rw [← qv]; exact (qj [ek.id]).subset hy) (HH.out.gr.gok.nd.sublist (qj [ek.id])) DL.out)
     have SHUT := Hd (zbm HH.out.gr.gok [ek.id])
     rw [zc7 SHUT.out] at G8
     generalize hDD : qm (gOf L) [ek.id] = DD at *
     have K0 := tru
     go_wp2_with (first | (clear K0; go_at_call 92; refine HD.out.mono ?_; rintro e' w9 ⟨rfl, hm9, hf9⟩; have M9 := Hd hm9; have F9 := Hd hf9; clear hm9 hf9; go_frame))
     go_ret2
     refine ⟨_, by rw [REE.out.1]; rfl, V8, ?_, ?_, V8S.out, ?_⟩
     ·rw [REE.out.2]
      exact M9.out.at_ (G8.out.frV F9.out (fun j hj e => by rcases e with e | e; (rw [e] at hj; exact H7.out.apart.2.2.2.2.1 (V8S.out _ hj)); (rw [e] at hj; exact H7.out.apart.2.2.2.2.2 (V8S.out _ hj))) (fun j e => by have := HH.out.lo3; rcases e with e | e <;> omega)) ⟨fun e => H7.out.apart.2.2.2.1 (V8S.out _ e), fun e => H7.out.apart.2.2.2.2.1 (V8S.out _ e), fun e => H7.out.apart.2.2.2.2.2 (V8S.out _ e)⟩ (fun j hj => HH.out.sub j (hj.imp_right (fun h => h.imp_right (fun h => h.imp_right (V8S.out j)))))
     ·exact (F7W.out.of0.trans F8.out (fun j _ e => .inr (.inr (.inr e)))).trans F9.out (fun j _ e => by rcases e with e | e; exact .inr (.inl e); exact .inr (.inr (.inl e)))
     ·rw [REE.out.2]
      exact yU (zl O8.out F9.out (fun j hj e => by have := (O8.out.lt j hj).1; have := F7W.out.size; have := MW.out; rcases e with e | e <;> omega)) F7W.out.size
    ·have REE := Hd (show vW L x ps = 18 ∧ qC L x ps = [] from ⟨by rw [RE.out.1]; exact if_neg hc, by rw [RE.out.2]; exact if_neg hc⟩)
     rw [decide_eq_false hc] at LS
     clear hc
     have K0 := tru
     go_wp2_with (first | (clear K0; go_at_call 89; refine HWK.out.mono ?_; rintro e w5 ⟨rfl, f5⟩; have F5 := Hd f5; clear f5; go_frame))
     have F5D := Hd (F5.out.drew)
     refine zv [false, false, false, false, false, false, false, false, true, false, false] (fun w' => w'.rangeAt bw (ow + k * 2) (y9 (wgt ek)) ∧ w'.rangeAt qw 0 (y9 x)) (by kernel_rfl) (by kernel_rfl) ?_ (fun K hK => ?_)
     ·exact ⟨zb RKW.out F5D.out id, zb RWR.out F5D.out id⟩
     generalize w5.drew = w5d at *
     repeat (first | ((first | with_reducible refine zx ?_ | ((with_reducible refine zu ?_ ?_); (focus rfl))); apply Exists.intro; refine ⟨?_, ?_⟩; (focus (first | exact zD (ty := 127) rfl (fun w h => h.1) uW rW (show _ = some (y9 (wgt ek)).length from xK) | exact zD (ty := 127) rfl (fun w h => h.2) uW rW (show _ = some (y9 x).length from xK) | (intro w' hS; obtain ⟨s1, s2⟩ := hS; go_simp; (try with_reducible rfl); done))); try simp only [Act.put, pA, pB, pC]) | ((first | ((with_reducible refine zg (c := false) ?_ ?_ ?_); (focus rfl); (focus rfl)) | ((with_reducible refine zg (c := true) ?_ ?_ ?_); (focus rfl); (focus rfl)) | ((with_reducible refine zt ?_ ?_); (focus rfl))); try simp only [Act.put, pA, pB, pC]))
     (first | with_reducible refine zU (fun K' hK' => ?_) | ((with_reducible refine zK ?_ (fun K' hK' => ?_)); (focus rfl)))
     go_simp
     refine (LS.out _).mono ?_
     rintro e w6 ⟨rfl, f6⟩
     have F56 := Hd (F5D.out.trans0 f6)
     clear f6
     refine hK'.out _ _ ?_ (fun hS => ?_)
     ·exact ⟨zb RKW.out F56.out id, zb RWR.out F56.out id⟩
     try simp only [Act.put, pA, pB, pC]
     repeat (first | ((first | with_reducible refine zx ?_ | ((with_reducible refine zu ?_ ?_); (focus rfl))); apply Exists.intro; refine ⟨?_, ?_⟩; (focus (first | (intro w' hS; obtain ⟨s1, s2⟩ := hS; go_simp; (try with_reducible rfl); done))); try simp only [Act.put, pA, pB, pC]) | ((first | ((with_reducible refine zg (c := false) ?_ ?_ ?_); (focus rfl); (focus rfl)) | ((with_reducible refine zg (c := true) ?_ ?_ ?_); (focus rfl); (focus rfl)) | ((with_reducible refine zt ?_ ?_); (focus rfl))); try simp only [Act.put, pA, pB, pC]))
     refine zM (hK.out _ _ ?_)
     have F6 := Hd (FWR.out.trans0 F56.out)
     go_wp2_with fail
     go_ret2
     exact X7.none HH.out REE.out.1 REE.out.2 F6.out
end
end Go.Proofs.YtdkkjchclkjleaaGreatDoor
