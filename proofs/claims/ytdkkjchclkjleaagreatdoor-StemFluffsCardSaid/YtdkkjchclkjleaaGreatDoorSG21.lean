/- kin: walk. -/
import Derived.Deep.LoopGhost
import Derived.Shelf.SlSortCmp.WholeK
import Derived.Test.YtdkkjchclkjleaaGreatDoorProg
import Derived.Shelf.SlSortCmp.NoneTotal
import Derived.Test.YtdkkjchclkjleaaGreatDoorSG20
import Derived.Test.YtdkkjchclkjleaaGreatDoorSG19
import Derived.Test.YtdkkjchclkjleaaGreatDoorSG10
import Derived.Test.YtdkkjchclkjleaaGreatDoorSG4
set_option linter.unusedVariables false
set_option linter.unusedSimpArgs false
set_option linter.unnecessarySimpa false
set_option linter.all false
namespace Go.Proofs.YtdkkjchclkjleaaGreatDoor
open Go Go.RowKit Go.Maps Go.MapKept
def QH (c : Int) : Value := .int .i64 c
abbrev jQ (w : World) (b : Nat) (M : List (zi × Int)) := yl Tryz.prog 41 yW QH w b M
def vr (up : Bool) (G : List yE) (x : zi) : List zi := if up then par G x else kid G x
noncomputable def zbM (up : Bool) (G : List yE) (l : List zi) : List zi := if up then upS G l else qm G l
theorem zeF {G : List yE} (h : GOk G) {up : Bool} {l : List zi} {x : zi} : x ∈ zbM up G l ↔ ∃ a ∈ l, Rch (vr up G) (· ∈ ids G) a x := by
 cases up with
 | true => exact zbV
 | false =>
  refine JT.trans ⟨fun ⟨a, ha, hr⟩ => ⟨a, ha, (zeo h).2 hr⟩, fun ⟨a, ha, hr⟩ => ⟨a, ha, (zeo h).1 hr⟩⟩
theorem zc2 {G : List yE} (h : GOk G) (up : Bool) (x : zi) : (vr up G x).length ≤ G.length := by
 cases up
 ·exact Va x
 ·exact zb1 h x
structure WlK (w wr : World) (b : Nat) (tv : Value) (M : List (zi × Int)) (T vis : List zi) (up : Bool) (G : List yE) (l : List zi) : Prop where
 own : wr.ownsRow w.heap.size 41 32 tv T.length (T.flatMap zj)
 ok : ∀ x ∈ T, zQ x
 map : jQ wr b M
 mem : ∀ k c, (k, c) ∈ M ↔ c = 1 ∧ k ∈ vis
 wl : Wl (vr up G) (· ∈ ids G) l T vis
 cnt : M.length + T.length + wlW (vr up G) vis (ids G) ≤ l.length + G.length * G.length
 fr : Fr No w wr
 apart : ∀ j, tv.ownBlock = some j → j ≠ b
section
variable {w0 w : World} {p N : Nat} {V : Nat → Prop} {G : List yE}
theorem QO {wr : World} {b : Nat} {M : List (zi × Int)} {vis : List zi} (hm : jQ wr b M) (hv : ∀ k c, (k, c) ∈ M ↔ c = 1 ∧ k ∈ vis) {x : zi} (hx : zQ x) :
  (Instr.lookup 120 (.map (some b)) (yW x) false).run Tryz.prog wr = .ok (.int .i64 (if x ∈ vis then 1 else 0)) wr := by
 by_cases h : x ∈ vis
 ·have := hm.look xy.keyed qO (fun _ _ => yS) zfS (yd hx) false (r := some 1) (fun v => by
   rw [hv]; exact ⟨fun e => ⟨(Option.some.inj e).symm, h⟩, fun e => by rw [e.1]⟩)
  rw [if_pos h]
  simpa [QH] using this
 ·have := hm.look xy.keyed qO (fun _ _ => yS) zfS (yd hx) false (r := none) (fun v => by
   rw [hv]; exact ⟨fun e => (by cases e), fun e => absurd e.2 h⟩)
  rw [if_neg h]
  simpa using this
theorem VQ {T : List zi} {x : zi} (h : ∀ y ∈ T ++ [x], zQ y) : ((T ++ [x]).flatMap zj).take (T.length * 32) = T.flatMap zj := by
 have hl := Jj (l := T) (fun y hy => h y (by simp [hy]))
 rw [List.flatMap_append, List.take_append_of_le_length (by omega), List.take_of_length_le (by omega)]
theorem WlK.own0 {w wr : World} {b g tc : Nat} {M : List (zi × Int)} {T vis : List zi} {x : zi} {up : Bool} {l : List zi} (h : WlK w wr b (.slice (some ⟨g, 0, none⟩) (T.length + 1) tc) M (T ++ [x]) vis up G l) : wr.ownsRow w.heap.size 41 32 (.slice (some ⟨g, 0, none⟩) (T.length + 1) tc) (T.length + 1) ((T ++ [x]).flatMap zj) := by
 have ho := h.own
 rwa [show (T ++ [x]).length = T.length + 1 by simp] at ho
theorem WlK.pop {w wr wr' : World} {b g tc : Nat} {M : List (zi × Int)} {T vis : List zi} {x : zi} {up : Bool} {l : List zi} (h : WlK w wr b (.slice (some ⟨g, 0, none⟩) (T.length + 1) tc) M (T ++ [x]) vis up G l) (f : Fr No wr wr') (hx : ¬ x ∈ ids G ∨ x ∈ vis) : WlK w wr' b (.slice (some ⟨g, 0, none⟩) T.length tc) M T vis up G l := by
 have ho := h.own
 have hlen : (T ++ [x]).length = T.length + 1 := by simp
 rw [hlen] at ho
 have ho2 := JW ho (m := T.length) (by omega)
 rw [VQ h.ok] at ho2
 have hc := h.cnt
 rw [hlen] at hc
 exact ⟨zl ho2 f (fun _ _ => id), fun y hy => h.ok y (by simp [hy]), h.map.keep f id, h.mem, h.wl.skip hx, by omega, h.fr.trans0 f, fun j hj => h.apart j hj⟩
theorem WlK.next {w wr wr' : World} {b g tc : Nat} {M M' : List (zi × Int)} {T vis : List zi} {x : zi} {up : Bool} {l : List zi} {tv : Value} {U : Nat → Prop} (h : WlK w wr b (.slice (some ⟨g, 0, none⟩) (T.length + 1) tc) M (T ++ [x]) vis up G l) (nd : (ids G).Nodup) (hx : x ∈ ids G) (hv : x ∉ vis) (hU : Upd M x 1 M') (hl : M'.length ≤ M.length + 1) (hm : jQ wr' b M') (ho : wr'.ownsRow w.heap.size 41 32 tv (T.length + (vr up G x).length) (T.flatMap zj ++ (vr up G x).flatMap zj)) (hok : ∀ y ∈ vr up G x, zQ y) (hn : ∀ j, tv.ownBlock = some j → j = g ∨ wr.heap.size ≤ j) (f : Fr U wr wr') (hW : ∀ j, U j → w.heap.size ≤ j) : WlK w wr' b tv M' (T ++ vr up G x) (x :: vis) up G l := by
 have hlen : (T ++ [x]).length = T.length + 1 := by simp
 have hc := h.cnt
 rw [hlen] at hc
 have hw := Yv (E := vr up G) hv nd hx
 refine ⟨by rw [List.length_append, List.flatMap_append]; exact ho, fun y hy => ?_, hm, fun k c => ?_, h.wl.visit hx, by rw [List.length_append]; omega, h.fr.trans f (fun i hi e => by have := hW i e; omega), fun j hj e => ?_⟩
 ·rcases List.mem_append.1 hy with hy | hy
  ·exact h.ok y (by simp [hy])
  ·exact hok y hy
 ·rw [hU, h.mem]
  constructor
  ·rintro (⟨rfl, rfl⟩ | ⟨_, h2, h3⟩)
   ·exact ⟨rfl, by simp⟩
   ·exact ⟨h2, by simp [h3]⟩
  ·rintro ⟨rfl, h2⟩
   by_cases e : k = x
   ·exact .inl ⟨e, rfl⟩
   ·exact .inr ⟨e, rfl, (List.mem_cons.1 h2).elim (fun h => absurd h e) id⟩
 ·rcases hn j hj with rfl | h1
  ·exact h.apart j rfl e
  ·have := h.map.lt
   omega
set_option maxRecDepth 20000 in
set_option maxHeartbeats 4000000 in
theorem zdz (h : GC w0 w p V G N) (hN : N ≤ 1000) {v : Value} {l : List zi} (hl : yV w v l) (hl2 : l.length ≤ 1000) (up : Bool) :
  Calls Tryz.prog 93 #[.pointer (some ⟨p, 0, none⟩), v, .bool up] w fun e w' => ∃ b M, e = .returned (.map (some b)) ∧ jQ w' b M ∧ (∀ k c, (k, c) ∈ M ↔ c = 1 ∧ k ∈ zbM up G l) ∧ w.heap.size ≤ b ∧ Fr No w w' := by
 obtain ⟨dK, uK, rK⟩ := yj
 obtain ⟨m, sq, L, hr, -, hG, hks, -⟩ := h.ex
 have GK := Hd h.gok
 have GL := Hd (Nat.le_trans h.len hN)
 have HI := Hd (show ids G = L.map (·.id) by rw [← hG]; simp [ids, Function.comp])
 have HP := Hd (show ∀ r ∈ L, par G r.id = r.ps from fun r hr' => vY h.gok (n := ⟨r.id, r.ps⟩) (by rw [← hG]; exact List.mem_map.2 ⟨r, hr', rfl⟩))
 have HK := Hd hks
 have HR := Hd hr
 have HL := Hd hl
 have SQ := Hd (show G.length * G.length ≤ 1000 * 1000 from Nat.mul_le_mul GL.out GL.out)
 obtain ⟨va, vc, rfl⟩ := hl.2.form
 have f1 : Fr No w (w.alloc (.map #[] 0)) := (Fr.refl No w).alloc _
 have HC := Hd (Zk (w.alloc (.map #[] 0)) (hl.keep f1) (by omega))
 have HM1 := Hd (show jQ (w.alloc (.map #[] 0)) w.heap.size [] from yl.made w)
 have F1 := Hd f1
 have m1 := X9
 have c0w := (Xe hr.obj).1
 clear h hr hG hks hl f1
 go_enter Tryz.func93, Tryz.ntmps93
 go_wp2_with (go_at_call 42; refine HC.out.mono ?_; rintro e w2 ⟨tv0, rfl, o2, f2⟩; have O2 := Hd o2; have F2 := Hd (F1.out.trans0 f2); have HM2 := Hd (HM1.out.keep f2 id); clear o2 f2)
 have HB := Hd (Nat.le_refl w.heap.size)
 have ST : WlK w w2 w.heap.size tv0 [] l [] up G l := ⟨⟨O2.out.1, O2.out.2.imp id (fun ⟨g, cp, cur, a1, a2, a3⟩ => ⟨g, cp, cur, a1, Nat.le_trans F1.out.size a2, a3⟩)⟩, HL.out.1, HM2.out, by simp, Wl.init l, by
  have := zfW (E := vr up G) (vis := []) (l := ids G) (k := G.length) (fun x _ => zc2 GK.out up x)
  rw [show (ids G).length = G.length by simp [ids]] at this
  simp only [List.length_nil]; omega, F2.out, fun j hj e => by
  have := (O2.out.lt j hj).1
  rw [e] at this
  simp at this
  omega⟩
 have ST' := Hd ST
 clear m1 HC O2 HM1 HM2 ST
 generalize hb0 : w.heap.size = b at *
 go_loopg [8] (l.length + wlW (vr up G) [] (ids G)) (fun g tv wr => ∃ (T vis : List zi) (M : List (zi × Int)), WlK w wr b tv M T vis up G l ∧ g = T.length + wlW (vr up G) vis (ids G))
 case atStart => exact ⟨l, [], [], ST'.out, rfl⟩
 case round =>
  obtain ⟨T, vis, M, hk, hgk⟩ := hrel
  have WK := Hd hk
  obtain ⟨ta, tc, e⟩ := hk.own.slice.arg.form
  subst e
  clear hk
  rcases List.eq_nil_or_concat T with rfl | ⟨T0, x, rfl⟩
  ·have DN := Hd (fun k c => (WK.out.mem k c).trans (and_congr Iff.rfl ((WK.out.wl.done k).trans (zeF GK.out).symm)))
   go_wp2_with fail
   go_ret
   exact ⟨b, M, by rfl, WK.out.map, DN.out, by rw [hb0]; exact Nat.le_refl _, WK.out.fr⟩
  ·rw [List.concat_eq_append] at *
   have hlen : (T0 ++ [x]).length = T0.length + 1 := by simp
   rw [hlen]
   have hT : T0.length ≤ 1001000 := by have := WK.out.cnt; have := SQ.out; rw [hlen] at *; omega
   have i1 : (0 : Int) < ((T0.length + 1 : Nat) : Int) := by omega
   have hx : (T0 ++ [x])[T0.length]? = some x := by simp
   obtain ⟨g, rfl⟩ : ∃ g, ta = some ⟨g, 0, none⟩ := by
    rcases WK.out.own.2 with ⟨_, h0⟩ | ⟨g, cp, cur, e, _⟩
    ·simp at h0
    ·injection e with e1; exact ⟨g, e1⟩
   obtain ⟨g', off, cap, hv, hrx, hgl⟩ := (yV.own WK.out.own WK.out.ok).at_ hx
   cases hv
   rw [Nat.zero_add] at hrx
   have R1 := Hd hrx
   have XOK := Hd (WK.out.ok x (by simp))
   have HX := Hd (zE XOK.out)
   have FA := Hd ((Fr.refl No wr).alloc (.cells (zj x).toArray 41))
   have RN := Hd (zC wr (zj x) 41)
   have FD := Hd ((WK.out.fr.trans0 FA.out).drew)
   have FE := Hd (FA.out.drew)
   have KM := Hd (fun (w' : World) (f : Fr No w w') => HR.out.keepM f)
   have WK1 := Hd (show WlK w wr b (.slice (some ⟨g, 0, none⟩) (T0.length + 1) tc) M (T0 ++ [x]) vis up G l by have := WK.out; rwa [hlen] at this)
   have hgk2 : gk = T0.length + 1 + wlW (vr up G) vis (ids G) := by rw [hgk, hlen]
   have hcap : T0.length + 1 ≤ tc := xq.cap (n := T0.length + 1) (by have := WK1.out.own.slice.arg; rwa [hlen] at this)
   have i2 : (T0.length : Int) ≤ (tc : Int) := by omega
   clear hrx hgl hx hgk
   by_cases hin : x ∈ ids G
   ·have hin2 := hin
    rw [HI.out] at hin2
    obtain ⟨r, hr, rfl⟩ := List.mem_map.1 hin2
    have K1 := Hd ((HR.out.run_look XOK.out false rfl).1 r hr rfl)
    have ND := Hd (HR.out.node r hr)
    have RR := Hd hr
    have IN := Hd hin
    clear hin hin2 hr
    unfold YG at K1
    unfold yW at K1
    generalize hxr : r.id = x at *
    by_cases hv : x ∈ vis
    ·have LI := Hd (QO (WK1.out.map.keep FE.out id) WK1.out.mem XOK.out)
     rw [if_pos hv] at LI
     unfold yW at LI
     have WZ := Hd (WK1.out.pop FE.out (.inr hv))
     clear hv
     go_wp2_with (first | (refine zd rfl (zf (ty := 41) rfl rfl R1.out uK rK (by rw [HX.out]; exact zr)) ?_) | (refine zq rfl (zm (w := wr) (cs := zj x) (ty := 41) rfl rfl rfl (by rw [HX.out]; rfl) (by rw [HX.out]; exact zr) zV) ?_))
     generalize hq1 : wr.heap.size = q at *
     generalize wr.alloc (.cells (zj x).toArray 41) = w1 at *
     refine zv [false, false, false, false, false, false, false] (fun w' => w'.cell? ⟨p, 0, none⟩ = some (.map (some m)) ∧ w'.rangeAt q 0 (zj x) ∧ (∀ M, xW w m M → xW w' m M)) (by kernel_rfl) (by kernel_rfl) ?_ (fun K hK => ?_)
     ·exact ⟨FD.out.cell c0w id, zb RN.out (Fr.refl No _).drew id, KM.out _ FD.out⟩
     repeat (first | ((first | with_reducible refine zx ?_ | ((with_reducible refine zu ?_ ?_); (focus rfl))); apply Exists.intro; refine ⟨?_, ?_⟩; (focus (first | exact zD (ty := 41) rfl (fun w h => h.2.1) uK rK (by rw [HX.out]; exact zr) | exact fun w' h => zN (t := 197) rfl rfl rfl (K1.out w' h.2.2) | (intro w' hS; obtain ⟨s1, s2, s3⟩ := hS; go_simp; (try with_reducible rfl); done))); try simp only [Act.put, pA, pB, pC]) | ((first | ((with_reducible refine zg (c := false) ?_ ?_ ?_); (focus rfl); (focus rfl)) | ((with_reducible refine zg (c := true) ?_ ?_ ?_); (focus rfl); (focus rfl)) | ((with_reducible refine zt ?_ ?_); (focus rfl))); try simp only [Act.put, pA, pB, pC]))
     refine zM (hK.out _ _ ?_)
     have RN2 := Hd (zb RN.out (Fr.refl No w1).drew id)
     go_wp2_with (first | (refine xN (o := ⟨some 38, _, _, _, _, _⟩) rfl (zf (ty := 41) rfl rfl RN2.out uK rK (by rw [HX.out]; exact zr)) ?_) | (refine xN (o := ⟨some 39, _, _, _, _, _⟩) rfl (zN (t := 120) rfl rfl rfl LI.out) ?_))
     go_roundg (T0.length + wlW (vr up G) vis (ids G))
     case measure => omega
     case rel => exact ⟨T0, vis, M, WZ.out, rfl⟩
    ·have LI := Hd (QO (WK1.out.map.keep FE.out id) WK1.out.mem XOK.out)
     rw [if_neg hv] at LI
     unfold yW at LI
     have NV := Hd hv
     have RO := Hd (show zQ r.id ∧ (∀ y ∈ r.ps, zQ y) ∧ ∀ y ∈ r.ks, zQ y from HR.out.ok r RR.out)
     have NL := Hd (zc2 GK.out up x)
     clear hv
     cases up with
     | true =>
      have NE := Hd (show vr true G x = r.ps from by rw [← hxr]; exact HP.out r RR.out)
      have PL := Hd (show r.ps.length ≤ 1000 by rw [← NE.out]; have := NL.out; have := GL.out; omega)
      go_wp2_with (first | (refine zd rfl (zf (ty := 41) rfl rfl R1.out uK rK (by rw [HX.out]; exact zr)) ?_) | (refine zq rfl (zm (w := wr) (cs := zj x) (ty := 41) rfl rfl rfl (by rw [HX.out]; rfl) (by rw [HX.out]; exact zr) zV) ?_))
      generalize hq1 : wr.heap.size = q at *
      generalize wr.alloc (.cells (zj x).toArray 41) = w1 at *
      refine zv [false, false, false, false, false, false, false] (fun w' => w'.cell? ⟨p, 0, none⟩ = some (.map (some m)) ∧ w'.rangeAt q 0 (zj x) ∧ (∀ M, xW w m M → xW w' m M)) (by kernel_rfl) (by kernel_rfl) ?_ (fun K hK => ?_)
      ·exact ⟨FD.out.cell c0w id, zb RN.out (Fr.refl No _).drew id, KM.out _ FD.out⟩
      repeat (first | ((first | with_reducible refine zx ?_ | ((with_reducible refine zu ?_ ?_); (focus rfl))); apply Exists.intro; refine ⟨?_, ?_⟩; (focus (first | exact zD (ty := 41) rfl (fun w h => h.2.1) uK rK (by rw [HX.out]; exact zr) | exact fun w' h => zN (t := 197) rfl rfl rfl (K1.out w' h.2.2) | (intro w' hS; obtain ⟨s1, s2, s3⟩ := hS; go_simp; (try with_reducible rfl); done))); try simp only [Act.put, pA, pB, pC]) | ((first | ((with_reducible refine zg (c := false) ?_ ?_ ?_); (focus rfl); (focus rfl)) | ((with_reducible refine zg (c := true) ?_ ?_ ?_); (focus rfl); (focus rfl)) | ((with_reducible refine zt ?_ ?_); (focus rfl))); try simp only [Act.put, pA, pB, pC]))
      refine zM (hK.out _ _ ?_)
      have RN2 := Hd (zb RN.out (Fr.refl No w1).drew id)
      obtain ⟨w3, M', hup, hm3, hupd, htu, hml⟩ := (WK1.out.map.keep FE.out id).upd xy.keyed qO (fun _ _ => yS) (yd XOK.out) (show M.length < maxLen by unfold maxLen; have := WK1.out.cnt; have := SQ.out; omega) 1
      have F3 := Hd (show Fr (· = b) wr w3 from (FE.out.of0 (W := (· = b))).trans htu.fr (fun _ _ h => h))
      have F3w := Hd (show Fr No w w3 from WK1.out.fr.trans F3.out (fun i hi e => by subst e; omega))
      obtain ⟨xa, xc, hpv⟩ := ND.out.prow.slice.arg.form
      have NA := Hd (ND.out.keep F3w.out (fun _ _ => id))
      have cx := (Zl NA.out.blk).2.1
      rw [hpv] at cx
      have ho3 := zl (JW WK1.out.own0 (m := T0.length) (by omega)) F3.out (fun j hj => WK1.out.apart j hj)
      rw [VQ WK1.out.ok] at ho3
      obtain ⟨tv4, w4, hap, ho4, f4, hn4⟩ := XU (P := Tryz.prog) w3 w.heap.size 38 38 41 32 32 _ xB xI rfl (by decide) _ _ _ ho3 (.slice xa _ xc) _ _ (by rw [← hpv]; exact NA.out.prow.slice) (Jj RO.out.2.1) Jf (by have := PL.out; omega) (by unfold maxLen; have := PL.out; omega) (by rw [hb0]; have := F3w.out.size; omega)
      have HUP := Hd hup
      have HAP := Hd hap
      have WZ := Hd (WK1.out.next (tv := tv4) (M' := M') (wr' := w4) (U := fun j => j = b ∨ j = g) GK.out.nd IN.out NV.out hupd hml (hm3.keep f4 (fun e => WK1.out.apart b e rfl)) (by rw [NE.out]; exact ho4) (by rw [NE.out]; exact RO.out.2.1) (fun j hj => (hn4 j hj).elim (fun h => .inl (by simpa [Value.ownBlock] using h.symm)) (fun h => .inr (by have := F3.out.size; omega))) ((F3.out.mono (fun _ h => .inl h)).trans f4 (fun i _ h => .inr (by simpa [Value.ownBlock] using h.symm))) (fun j hj => hj.elim (fun e => by omega) (fun e => by have := (WK1.out.own0.lt g rfl).1; omega)))
      clear hup hap hupd hml hm3 htu hpv ho3 ho4 f4 hn4
      unfold yW QH at HUP
      go_wp2_with (first | (refine xN (o := ⟨some 38, _, _, _, _, _⟩) rfl (zf (ty := 41) rfl rfl RN2.out uK rK (by rw [HX.out]; exact zr)) ?_) | (refine xN (o := ⟨some 39, _, _, _, _, _⟩) rfl (zN (t := 120) rfl rfl rfl LI.out) ?_) | (refine zd rfl (zf (ty := 41) rfl rfl RN2.out uK rK (by rw [HX.out]; exact zr)) ?_) | (refine zq rfl (y5 rfl rfl rfl rfl HUP.out) ?_) | (at_builtin; refine zW rfl rfl rfl rfl HAP.out ?_))
      go_roundg (T0.length + (vr true G x).length + wlW (vr true G) (x :: vis) (ids G))
      case measure => have := Yv (E := vr true G) NV.out GK.out.nd IN.out; omega
      case rel => exact ⟨_, _, M', WZ.out, by rw [List.length_append]⟩
     | false =>
      have NE := Hd (show vr false G x = r.ks from by rw [← hxr]; exact (HK.out r RR.out).symm)
      have PL := Hd (show r.ks.length ≤ 1000 by rw [← NE.out]; have := NL.out; have := GL.out; omega)
      go_wp2_with (first | (refine zd rfl (zf (ty := 41) rfl rfl R1.out uK rK (by rw [HX.out]; exact zr)) ?_) | (refine zq rfl (zm (w := wr) (cs := zj x) (ty := 41) rfl rfl rfl (by rw [HX.out]; rfl) (by rw [HX.out]; exact zr) zV) ?_))
      generalize hq1 : wr.heap.size = q at *
      generalize wr.alloc (.cells (zj x).toArray 41) = w1 at *
      refine zv [false, false, false, false, false, false, false] (fun w' => w'.cell? ⟨p, 0, none⟩ = some (.map (some m)) ∧ w'.rangeAt q 0 (zj x) ∧ (∀ M, xW w m M → xW w' m M)) (by kernel_rfl) (by kernel_rfl) ?_ (fun K hK => ?_)
      ·exact ⟨FD.out.cell c0w id, zb RN.out (Fr.refl No _).drew id, KM.out _ FD.out⟩
      repeat (first | ((first | with_reducible refine zx ?_ | ((with_reducible refine zu ?_ ?_); (focus rfl))); apply Exists.intro; refine ⟨?_, ?_⟩; (focus (first | exact zD (ty := 41) rfl (fun w h => h.2.1) uK rK (by rw [HX.out]; exact zr) | exact fun w' h => zN (t := 197) rfl rfl rfl (K1.out w' h.2.2) | (intro w' hS; obtain ⟨s1, s2, s3⟩ := hS; go_simp; (try with_reducible rfl); done))); try simp only [Act.put, pA, pB, pC]) | ((first | ((with_reducible refine zg (c := false) ?_ ?_ ?_); (focus rfl); (focus rfl)) | ((with_reducible refine zg (c := true) ?_ ?_ ?_); (focus rfl); (focus rfl)) | ((with_reducible refine zt ?_ ?_); (focus rfl))); try simp only [Act.put, pA, pB, pC]))
      refine zM (hK.out _ _ ?_)
      have RN2 := Hd (zb RN.out (Fr.refl No w1).drew id)
      obtain ⟨w3, M', hup, hm3, hupd, htu, hml⟩ := (WK1.out.map.keep FE.out id).upd xy.keyed qO (fun _ _ => yS) (yd XOK.out) (show M.length < maxLen by unfold maxLen; have := WK1.out.cnt; have := SQ.out; omega) 1
      have F3 := Hd (show Fr (· = b) wr w3 from (FE.out.of0 (W := (· = b))).trans htu.fr (fun _ _ h => h))
      have F3w := Hd (show Fr No w w3 from WK1.out.fr.trans F3.out (fun i hi e => by subst e; omega))
      obtain ⟨xa, xc, hpv⟩ := ND.out.crow.slice.arg.form
      have NA := Hd (ND.out.keep F3w.out (fun _ _ => id))
      have cx := (Zl NA.out.blk).2.2
      rw [hpv] at cx
      have ho3 := zl (JW WK1.out.own0 (m := T0.length) (by omega)) F3.out (fun j hj => WK1.out.apart j hj)
      rw [VQ WK1.out.ok] at ho3
      obtain ⟨tv4, w4, hap, ho4, f4, hn4⟩ := XU (P := Tryz.prog) w3 w.heap.size 38 38 41 32 32 _ xB xI rfl (by decide) _ _ _ ho3 (.slice xa _ xc) _ _ (by rw [← hpv]; exact NA.out.crow.slice) (Jj RO.out.2.2) Jf (by have := PL.out; omega) (by unfold maxLen; have := PL.out; omega) (by rw [hb0]; have := F3w.out.size; omega)
      have HUP := Hd hup
      have HAP := Hd hap
      have WZ := Hd (WK1.out.next (tv := tv4) (M' := M') (wr' := w4) (U := fun j => j = b ∨ j = g) GK.out.nd IN.out NV.out hupd hml (hm3.keep f4 (fun e => WK1.out.apart b e rfl)) (by rw [NE.out]; exact ho4) (by rw [NE.out]; exact RO.out.2.2) (fun j hj => (hn4 j hj).elim (fun h => .inl (by simpa [Value.ownBlock] using h.symm)) (fun h => .inr (by have := F3.out.size; omega))) ((F3.out.mono (fun _ h => .inl h)).trans f4 (fun i _ h => .inr (by simpa [Value.ownBlock] using h.symm))) (fun j hj => hj.elim (fun e => by omega) (fun e => by have := (WK1.out.own0.lt g rfl).1; omega)))
      clear hup hap hupd hml hm3 htu hpv ho3 ho4 f4 hn4
      unfold yW QH at HUP
      go_wp2_with (first | (refine xN (o := ⟨some 38, _, _, _, _, _⟩) rfl (zf (ty := 41) rfl rfl RN2.out uK rK (by rw [HX.out]; exact zr)) ?_) | (refine xN (o := ⟨some 39, _, _, _, _, _⟩) rfl (zN (t := 120) rfl rfl rfl LI.out) ?_) | (refine zd rfl (zf (ty := 41) rfl rfl RN2.out uK rK (by rw [HX.out]; exact zr)) ?_) | (refine zq rfl (y5 rfl rfl rfl rfl HUP.out) ?_) | (at_builtin; refine zW rfl rfl rfl rfl HAP.out ?_))
      go_roundg (T0.length + (vr false G x).length + wlW (vr false G) (x :: vis) (ids G))
      case measure => have := Yv (E := vr false G) NV.out GK.out.nd IN.out; omega
      case rel => exact ⟨_, _, M', WZ.out, by rw [List.length_append]⟩
   ·have K1 := Hd ((HR.out.run_look XOK.out false rfl).2 (by rw [← HI.out]; exact hin))
    have WZ := Hd (WK1.out.pop FE.out (.inl hin))
    clear hin
    unfold yW at K1
    go_wp2_with (first | (refine zd rfl (zf (ty := 41) rfl rfl R1.out uK rK (by rw [HX.out]; exact zr)) ?_) | (refine zq rfl (zm (w := wr) (cs := zj x) (ty := 41) rfl rfl rfl (by rw [HX.out]; rfl) (by rw [HX.out]; exact zr) zV) ?_))
    generalize hq1 : wr.heap.size = q at *
    generalize wr.alloc (.cells (zj x).toArray 41) = w1 at *
    refine zv [false, false, false, false, false, false, false] (fun w' => w'.cell? ⟨p, 0, none⟩ = some (.map (some m)) ∧ w'.rangeAt q 0 (zj x) ∧ (∀ M, xW w m M → xW w' m M)) (by kernel_rfl) (by kernel_rfl) ?_ (fun K hK => ?_)
    ·exact ⟨FD.out.cell c0w id, zb RN.out (Fr.refl No _).drew id, KM.out _ FD.out⟩
    repeat (first | ((first | with_reducible refine zx ?_ | ((with_reducible refine zu ?_ ?_); (focus rfl))); apply Exists.intro; refine ⟨?_, ?_⟩; (focus (first | exact zD (ty := 41) rfl (fun w h => h.2.1) uK rK (by rw [HX.out]; exact zr) | exact fun w' h => zN (t := 197) rfl rfl rfl (K1.out w' h.2.2) | (intro w' hS; obtain ⟨s1, s2, s3⟩ := hS; go_simp; (try with_reducible rfl); done))); try simp only [Act.put, pA, pB, pC]) | ((first | ((with_reducible refine zg (c := false) ?_ ?_ ?_); (focus rfl); (focus rfl)) | ((with_reducible refine zg (c := true) ?_ ?_ ?_); (focus rfl); (focus rfl)) | ((with_reducible refine zt ?_ ?_); (focus rfl))); try simp only [Act.put, pA, pB, pC]))
    refine zM (hK.out _ _ ?_)
    go_wp2_with fail
    go_roundg (T0.length + wlW (vr up G) vis (ids G))
    case measure => omega
    case rel => exact ⟨T0, vis, M, WZ.out, rfl⟩
end
end Go.Proofs.YtdkkjchclkjleaaGreatDoor

/- slices.SortFunc's bodies at this dump (written by laysort.py and the kit's lay-plain.mjs). -/
namespace Go.Proofs
open Go.Shelf
def Tryz.laysK_ren : Go.Shelf.Ren := ⟨fun | 6 => 138 | 15 => 168 | 14 => 167 | 28 => 194 | 29 => 195 | 20 => 186 | 21 => 187 | 22 => 188 | 23 => 189 | 24 => 190 | 25 => 191 | 26 => 192 | 27 => 193 | 46 => 203 | 47 => 204 | 48 => 205 | 49 => 206 | 50 => 207 | 57 => 208 | n => n, fun | 22 => 38 | 24 => 41 | 25 => 258 | 3 => 3 | 39 => 245 | 0 => 0 | 53 => 31 | 55 => 48 | 4 => 4 | 46 => 303 | 45 => 302 | 50 => 307 | 5 => 5 | 9 => 9 | 66 => 319 | 70 => 322 | 76 => 324 | 77 => 325 | n => n, fun | n => n⟩
theorem Tryz.laysK : Go.Proofs.SlLaysF0.n6 Tryz.prog Tryz.laysK_ren := {
 mixed := by kernel_rfl
 f6 := ⟨Tryz.f138.name, by decide, Tryz.func138.trans (congrArg some (by kernel_rfl))⟩
 f14 := ⟨Tryz.f167.name, by decide, Tryz.func167.trans (congrArg some (by kernel_rfl))⟩
 f15 := Tryz.func168.trans (congrArg some (by kernel_rfl))
 f20 := ⟨Tryz.f186.name, by decide, Tryz.func186.trans (congrArg some (by kernel_rfl))⟩
 f21 := ⟨Tryz.f187.name, by decide, Tryz.func187.trans (congrArg some (by kernel_rfl))⟩
 f22 := ⟨Tryz.f188.name, by decide, Tryz.func188.trans (congrArg some (by kernel_rfl))⟩
 f23 := ⟨Tryz.f189.name, by decide, Tryz.func189.trans (congrArg some (by kernel_rfl))⟩
 f24 := ⟨Tryz.f190.name, by decide, Tryz.func190.trans (congrArg some (by kernel_rfl))⟩
 f25 := ⟨Tryz.f191.name, by decide, Tryz.func191.trans (congrArg some (by kernel_rfl))⟩
 f26 := ⟨Tryz.f192.name, by decide, Tryz.func192.trans (congrArg some (by kernel_rfl))⟩
 f27 := ⟨Tryz.f193.name, by decide, Tryz.func193.trans (congrArg some (by kernel_rfl))⟩
 f28 := Tryz.func194.trans (congrArg some (by kernel_rfl))
 f29 := Tryz.func195.trans (congrArg some (by kernel_rfl))
 f46 := ⟨Tryz.f203.name, by decide, Tryz.func203.trans (congrArg some (by kernel_rfl))⟩
 f47 := Tryz.func204.trans (congrArg some (by kernel_rfl))
 f48 := Tryz.func205.trans (congrArg some (by kernel_rfl))
 f49 := ⟨Tryz.f206.name, by decide, Tryz.func206.trans (congrArg some (by kernel_rfl))⟩
 f50 := ⟨Tryz.f207.name, by decide, Tryz.func207.trans (congrArg some (by kernel_rfl))⟩
 f57 := ⟨Tryz.f208.name, by decide, Tryz.func208.trans (congrArg some (by kernel_rfl))⟩
 t0 := Tryz.underlying0
 a0 := Tryz.isAgg0
 z0 := Tryz.sizeOf0
 v0 := Tryz.zeroValue0
 t3 := Tryz.underlying3
 a3 := Tryz.isAgg3
 z3 := Tryz.sizeOf3
 v3 := Tryz.zeroValue3
 t4 := Tryz.underlying4
 a4 := Tryz.isAgg4
 z4 := Tryz.sizeOf4
 v4 := Tryz.zeroValue4
 t5 := Tryz.underlying5
 a5 := Tryz.isAgg5
 z5 := Tryz.sizeOf5
 v5 := Tryz.zeroValue5
 t9 := Tryz.underlying9
 a9 := Tryz.isAgg9
 z9 := Tryz.sizeOf9
 v9 := Tryz.zeroValue9
 t22 := Tryz.underlying38
 a22 := Tryz.isAgg38
 z22 := Tryz.sizeOf38
 v22 := Tryz.zeroValue38
 t25 := Tryz.underlying258
 a25 := Tryz.isAgg258
 z25 := Tryz.sizeOf258
 v25 := Tryz.zeroValue258
 t39 := Tryz.underlying245
 a39 := Tryz.isAgg245
 z39 := Tryz.sizeOf245
 v39 := Tryz.zeroValue245
 t45 := Tryz.underlying302
 a45 := Tryz.isAgg302
 z45 := Tryz.sizeOf302
 v45 := Tryz.zeroValue302
 t46 := Tryz.underlying303
 a46 := Tryz.isAgg303
 z46 := Tryz.sizeOf303
 v46 := Tryz.zeroValue303
 t50 := Tryz.underlying307
 a50 := Tryz.isAgg307
 z50 := Tryz.sizeOf307
 v50 := Tryz.zeroValue307
 t53 := Tryz.underlying31
 a53 := Tryz.isAgg31
 z53 := Tryz.sizeOf31
 v53 := Tryz.zeroValue31
 t55 := Tryz.underlying48
 a55 := Tryz.isAgg48
 z55 := Tryz.sizeOf48
 v55 := Tryz.zeroValue48
 t66 := Tryz.underlying319
 a66 := Tryz.isAgg319
 z66 := Tryz.sizeOf319
 v66 := Tryz.zeroValue319
 t70 := Tryz.underlying322
 a70 := Tryz.isAgg322
 z70 := Tryz.sizeOf322
 v70 := Tryz.zeroValue322
 t76 := Tryz.underlying324
 a76 := Tryz.isAgg324
 z76 := Tryz.sizeOf324
 v76 := Tryz.zeroValue324
 t77 := Tryz.underlying325
 a77 := Tryz.isAgg325
 z77 := Tryz.sizeOf325
 v77 := Tryz.zeroValue325 }
end Go.Proofs

/- kin: sorted's order, and the sort. -/
namespace Go.Proofs.YtdkkjchclkjleaaGreatDoor
open Go Go.RowKit Go.Maps Go.MapKept Go.Sort
def Qw (L : List ym) (x : zi) : Int := ((L.find? fun r => decide (r.id = x)).map fun r => (r.seq : Int)).getD 0
theorem Yw {L : List ym} (hn : (L.map (·.id)).Nodup) {r : ym} (hr : r ∈ L) : Qw L r.id = r.seq := by
 unfold Qw
 induction L with
 | nil => cases hr
 | cons y t ih =>
  obtain ⟨n1, n2⟩ := List.nodup_cons.1 (by simpa using hn : (y.id :: t.map (·.id)).Nodup)
  rcases List.mem_cons.1 hr with rfl | hr
  ·simp
  ·have : y.id ≠ r.id := fun e => n1 (by rw [e]; exact List.mem_map.2 ⟨r, hr, rfl⟩)
   rw [List.find?_cons_of_neg (by simpa using this)]
   exact ih n2 hr
theorem zdv {L : List ym} (hn : (L.map (·.id)).Nodup) (hs : L.Pairwise fun a b => a.seq < b.seq) : (L.map (·.id)).Pairwise fun a b => Qw L a < Qw L b := by
 rw [List.pairwise_map]
 refine (hs.imp_of_mem fun {a b} ha hb h => ?_)
 rw [Yw hn ha, Yw hn hb]
 omega
def Qy {L : List ym} (x : { h : zi // h ∈ L.map (·.id) }) : List Value := zj x.1
def zdB {L : List ym} (x y : { h : zi // h ∈ L.map (·.id) }) : Int := Qw L x.1 - Qw L y.1
theorem QR {L : List ym} (x y : { h : zi // h ∈ L.map (·.id) }) : ltOf zdB x y = decide (Qw L x.1 < Qw L y.1) := by
 unfold ltOf zdB
 by_cases h : Qw L x.1 < Qw L y.1
 ·simp [h]; omega
 ·simp [h]; omega
theorem zke {L : List ym} : SWO (ltOf (zdB (L := L))) where
 irrefl x := by rw [QR]; simp
 trans x y z h1 h2 := by rw [QR] at *; simp only [decide_eq_true_eq] at *; omega
 ntrans x y z h1 h2 := by rw [QR] at *; simp only [decide_eq_false_iff_not] at *; omega
section
variable {w0 w : World} {p m sq : Nat} {L : List ym}
set_option maxRecDepth 20000 in
set_option maxHeartbeats 4000000 in
theorem ziw (h : GR w0 w p m sq L) (hsq : sq ≤ 1000) {W : World} {bx : Nat} (cb : W.cell? ⟨bx, 0, none⟩ = some (.pointer (some ⟨p, 0, none⟩))) (cp : W.cell? ⟨p, 0, none⟩ = some (.map (some m))) (hk : ∀ M, xW w m M → xW W m M) (hn : ∀ r ∈ L, W.cell? ⟨r.b, 0, none⟩ = some (.int .i64 (r.seq : Int))) (x y : { h : zi // h ∈ L.map (·.id) }) :
  Calls Tryz.prog 139 #[.agg (Qy x).toArray, .agg (Qy y).toArray, .pointer (some ⟨bx, 0, none⟩)] W fun e w' => e = .returned (.int .i64 (zdB x y)) ∧ JQ W w' := by
 obtain ⟨dK, uK, rK⟩ := yj
 obtain ⟨x, hx⟩ := x
 obtain ⟨y, hy⟩ := y
 unfold Qy zdB
 dsimp only
 obtain ⟨r1, hr1, rfl⟩ := List.mem_map.1 hx
 obtain ⟨r2, hr2, rfl⟩ := List.mem_map.1 hy
 rw [Yw h.idn hr1, Yw h.idn hr2]
 have O1 := Hd (h.ok r1 hr1).1
 have O2 := Hd (h.ok r2 hr2).1
 have L1 := Hd (zE O1.out)
 have L2 := Hd (zE O2.out)
 have K1 := Hd ((h.run_look O1.out false rfl).1 r1 hr1 rfl)
 have K2 := Hd ((h.run_look O2.out false rfl).1 r2 hr2 rfl)
 unfold YG at K1 K2
 unfold yW at K1 K2
 have n1 := hn r1 hr1
 have n2 := hn r2 hr2
 have b1 : r1.seq ≤ 1000 := Nat.le_trans (h.top r1 hr1) hsq
 have b2 : r2.seq ≤ 1000 := Nat.le_trans (h.top r2 hr2) hsq
 have f1 : Fr No W ((W.alloc (.cells (zj r1.id).toArray 41)).alloc (.cells (zj r2.id).toArray 41)) := ((Fr.refl No W).alloc _).alloc _
 have GW := Hd ((((JQ.refl W).alloc (.cells (zj r1.id).toArray 41)).alloc (.cells (zj r2.id).toArray 41)).drew)
 have RA := Hd (zb (zC W (zj r1.id) 41) ((Fr.refl No _).alloc (.cells (zj r2.id).toArray 41)) id)
 have RB := Hd (show ((W.alloc (.cells (zj r1.id).toArray 41)).alloc (.cells (zj r2.id).toArray 41)).rangeAt (W.heap.size + 1) 0 (zj r2.id) by
  have := zC (W.alloc (.cells (zj r1.id).toArray 41)) (zj r2.id) 41
  simpa using this)
 have KP := Hd (fun (w' : World) (f : Fr No W w') => (⟨f.cell cb id, f.cell cp id, fun M hM => (hk M hM).keep f id, f.cell n1 id, f.cell n2 id⟩ : w'.cell? ⟨bx, 0, none⟩ = some (.pointer (some ⟨p, 0, none⟩)) ∧ w'.cell? ⟨p, 0, none⟩ = some (.map (some m)) ∧ (∀ M, xW w m M → xW w' m M) ∧ w'.cell? ⟨r1.b, 0, none⟩ = some (.int .i64 (r1.seq : Int)) ∧ w'.cell? ⟨r2.b, 0, none⟩ = some (.int .i64 (r2.seq : Int))))
 have F1 := Hd f1
 clear h hx hy hr1 hr2 hn hk cb cp n1 n2 f1 hsq
 have hw : IntKind.i64.wrap ((r1.seq : Int) - (r2.seq : Int)) = (r1.seq : Int) - (r2.seq : Int) := by
  simp [IntKind.wrap, IntKind.bits, IntKind.signed]
  omega
 go_enter Tryz.func139, Tryz.ntmps139
 go_wp2_with fail
 generalize hq : W.heap.size = q at *
 generalize (W.alloc (.cells (zj r1.id).toArray 41)).alloc (.cells (zj r2.id).toArray 41) = w1 at *
 refine zv [false, false, false, false, false, false, false, false, false, false, false, false, false, false, false, false, false, false, false, false] (fun w' => (w'.cell? ⟨bx, 0, none⟩ = some (.pointer (some ⟨p, 0, none⟩)) ∧ w'.cell? ⟨p, 0, none⟩ = some (.map (some m)) ∧ (∀ M, xW w m M → xW w' m M) ∧ w'.cell? ⟨r1.b, 0, none⟩ = some (.int .i64 (r1.seq : Int)) ∧ w'.cell? ⟨r2.b, 0, none⟩ = some (.int .i64 (r2.seq : Int))) ∧ w'.rangeAt q 0 (zj r1.id) ∧ w'.rangeAt (q + 1) 0 (zj r2.id)) (by kernel_rfl) (by kernel_rfl) ?_ (fun K hK => ?_)
 ·exact ⟨KP.out _ F1.out.drew, zb RA.out (Fr.refl No _).drew id, zb RB.out (Fr.refl No _).drew id⟩
 repeat (first | ((first | with_reducible refine zx ?_ | ((with_reducible refine zu ?_ ?_); (focus rfl))); apply Exists.intro; refine ⟨?_, ?_⟩; (focus (first | exact zD (ty := 41) rfl (fun w h => h.2.1) uK rK (by rw [L1.out]; exact zr) | exact zD (ty := 41) rfl (fun w h => h.2.2) uK rK (by rw [L2.out]; exact zr) | exact fun w' h => zN (t := 197) rfl rfl rfl (K1.out w' h.1.2.2.1) | exact fun w' h => zN (t := 197) rfl rfl rfl (K2.out w' h.1.2.2.1) | (intro w' hS; obtain ⟨⟨s1, s2, s3, s4, s5⟩, s6, s7⟩ := hS; go_simp; (try with_reducible rfl); done))); try simp only [Act.put, pA, pB, pC]) | ((first | ((with_reducible refine zg (c := false) ?_ ?_ ?_); (focus rfl); (focus rfl)) | ((with_reducible refine zg (c := true) ?_ ?_ ?_); (focus rfl); (focus rfl)) | ((with_reducible refine zt ?_ ?_); (focus rfl))); try simp only [Act.put, pA, pB, pC]))
 refine zM (hK.out _ _ ?_)
 go_wp2_with fail
 go_ret
 exact ⟨by (try rw [hw]); rfl, GW.out⟩
theorem zeV : ∀ w, (isAgg (Tryz.laysK_ren.t 24)).run Tryz.prog w = .ok true w := fun w => by kernel_rfl
theorem zfK : ∀ w, (Go.sizeOf (Tryz.laysK_ren.t 24)).run Tryz.prog w = .ok 32 w := fun w => by kernel_rfl
theorem zjv (h : GR w0 w p m sq L) (hsq : sq ≤ 1000) {bx B : Nat} (cb : w.cell? ⟨bx, 0, none⟩ = some (.pointer (some ⟨p, 0, none⟩))) {v : Value} {H S : List zi} (hh : w.ownsRow B 41 32 v H.length (H.flatMap zj)) (hv : ∀ j, v.ownBlock = some j → j ≠ bx ∧ j ∉ yu p m L) (hp : S.Perm H) (hs : S.Sublist (L.map (·.id))) (hN : H.length ≤ 100000) :
  Calls Tryz.prog 138 #[v, .func (.func 139) #[] #[.pointer (some ⟨bx, 0, none⟩)]] w fun e w' => e = .returned (.tuple #[]) ∧ w'.ownsRow B 41 32 v H.length (S.flatMap zj) ∧ Fr (fun j => v.ownBlock = some j) w w' := by
 by_cases h0 : H = []
 ·subst h0
  have hS : S = [] := hp.eq_nil
  subst hS
  obtain ⟨va, vc, rfl⟩ := hh.slice.arg.form
  refine (AnyF.slices_SortFunc_none Tryz.laysK va vc (.func (.func 139) #[] #[.pointer (some ⟨bx, 0, none⟩)]) w).mono ?_
  rintro e w' ⟨rfl, rfl⟩
  exact ⟨rfl, hh, Fr.refl _ _⟩
 ·have hl0 : H.length ≠ 0 := fun e => h0 (List.eq_nil_of_length_eq_zero e)
  obtain ⟨g, cap, rfl⟩ : ∃ g cap, v = .slice (some ⟨g, 0, none⟩) H.length cap := by
   rcases hh.2 with ⟨_, e⟩ | ⟨g, cap, cur, e, _⟩
   ·exact absurd e hl0
   ·exact ⟨g, cap, e⟩
  obtain ⟨L', hL'⟩ := zbj (q := fun h => h ∈ L.map (·.id)) H (fun x hx => hs.subset (hp.mem_iff.2 hx))
  subst hL'
  obtain ⟨x0, hx0⟩ : ∃ x, x ∈ L' := by
   cases L' with
   | nil => exact absurd rfl h0
   | cons a t => exact ⟨a, by simp⟩
  haveI : Inhabited { h : zi // h ∈ L.map (·.id) } := ⟨x0⟩
  have hf : (L'.map Subtype.val).flatMap zj = L'.flatMap Qy := by rw [List.flatMap_map]; rfl
  rw [hf, List.length_map] at hh
  rw [List.length_map] at hN hv ⊢
  have eg : ∀ args w, (callFunc 139 args).run Tryz.prog w = .ok (.enter 139 args) w := enters_of Tryz.func139 (by kernel_rfl) rfl
  have hk : ∀ x : { h : zi // h ∈ L.map (·.id) }, (Qy x).length = 32 := fun x => by
   obtain ⟨r, hr, e⟩ := List.mem_map.1 x.2
   unfold Qy
   rw [← e]
   exact zE (h.ok r hr).1
  have hg := hv g rfl
  have hcl : CmpLays Tryz.prog 139 #[.pointer (some ⟨bx, 0, none⟩)] Qy 32 zdB g 0 L'.toArray.size w := fun m' os dk hdk x y => by
   obtain ⟨-, f⟩ := Vo Qy 32 hk hh (d' := dk) (by rw [hdk, List.size_toArray]) m' os
   have hng : ∀ j ∈ yu p m L, ¬ j = g := fun j hj e => hg.2 (e ▸ hj)
   refine (ziw h hsq (f.cell cb (fun e => hg.1 e.symm)) (f.cell (Xe h.obj).1 (hng p (by simp [yu]))) (fun M hM => hM.keep f (hng m (by simp [yu]))) (fun r hr => f.cell (Zl (h.node r hr).blk).1 (hng r.b (by simp only [yu, List.mem_cons, List.mem_flatMap]; exact .inr (.inr ⟨r, hr, by simp [ym.blks]⟩)))) x y).mono fun _ _ ⟨he, hq⟩ => ⟨he, hq⟩
  have hcon := AnyQ.slices_SortFunc Tryz.laysK 32 zeV zfK Qy hk (fun x => zV) zdB zke 139 #[.pointer (some ⟨bx, 0, none⟩)] g 0 cap L'.toArray w eg hcl (zaO Qy 32 hk hh) (hh.lt g rfl).2 (by rw [List.size_toArray]; omega)
  rw [List.size_toArray] at hcon
  refine hcon.mono ?_
  rintro e w' ⟨rfl, d', n, os, hpi, hso, rfl⟩
  have hpw := (zdv h.idn h.seqs).sublist hs
  have hd : d'.toList.map Subtype.val = S := sorted_perm Subtype.val (r := fun a b => decide (Qw L a < Qw L b)) QR (d := L'.toArray) (by rw [List.size_toArray]; exact hpi) (by rw [List.size_toArray]; exact hso) hp
   (hpw.imp (fun {a b} h => by simp; omega))
   (fun a ha b hb h1 h2 => by
    simp only [decide_eq_false_iff_not] at h1 h2
    obtain ⟨r1, hr1, rfl⟩ := List.mem_map.1 (hs.subset ha)
    obtain ⟨r2, hr2, rfl⟩ := List.mem_map.1 (hs.subset hb)
    rw [Yw h.idn hr1, Yw h.idn hr2] at h1 h2
    obtain ⟨i, hi⟩ := List.mem_iff_getElem?.1 hr1
    obtain ⟨j, hj⟩ := List.mem_iff_getElem?.1 hr2
    have hp2 := List.pairwise_iff_getElem.1 h.seqs
    obtain ⟨hi1, hi2⟩ := List.getElem?_eq_some_iff.1 hi
    obtain ⟨hj1, hj2⟩ := List.getElem?_eq_some_iff.1 hj
    have : i = j := by
     rcases Nat.lt_trichotomy i j with e | e | e
     ·have := hp2 i j hi1 hj1 e; rw [hi2, hj2] at this; omega
     ·exact e
     ·have := hp2 j i hj1 hi1 e; rw [hi2, hj2] at this; omega
    subst this
    rw [hi] at hj
    injection hj with hj
    rw [hj])
  have hsz : d'.size = L'.length := by have := hpi.1; rw [List.size_toArray] at this; exact this
  obtain ⟨ho, fo⟩ := Vo Qy 32 hk hh hsz n os
  have hf2 : d'.toList.flatMap Qy = S.flatMap zj := by rw [← hd, List.flatMap_map]; rfl
  rw [hf2] at ho
  exact ⟨rfl, ho, fo.mono (fun j hj => by rw [hj]; rfl)⟩
end
end Go.Proofs.YtdkkjchclkjleaaGreatDoor
