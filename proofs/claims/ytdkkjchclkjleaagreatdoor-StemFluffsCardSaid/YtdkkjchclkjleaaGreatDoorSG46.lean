/- pappuslaw15: alive, the walk. -/
import Derived.Test.YtdkkjchclkjleaaGreatDoorSG45
import Derived.Test.YtdkkjchclkjleaaGreatDoorSG13
set_option linter.unusedVariables false
set_option linter.unusedSimpArgs false
set_option linter.unnecessarySimpa false
set_option linter.all false
namespace Go.Proofs.YtdkkjchclkjleaaGreatDoor
open Go Go.RowKit Go.Maps Go.MapKept
section
variable {w0 w w' : World} {pc pp ps N N' : Nat} {T X T' X' : Nat → Prop} {A A' : WA}
theorem j9.kept (n : j9 w0 w w' pc pp ps T X N' A' T' X') (h : WS w0 w pc pp ps T X N A) {Q : World → Prop} (k : Kept X w Q) : Kept X' w' Q :=
 k.step (n.fr.mono (fun j hj => (h.facts.1 j hj).2.2)) (fun j hj e => (n.xn j e).resolve_right (by omega))
theorem j9.out (n : j9 w0 w w' pc pp ps T X N' A' T' X') {b : Nat} (hb : ¬ T b) (hl : b < w.heap.size) : ¬ T' b := fun e => (n.tn b e).elim hb (by omega)
end
def Y3 (T : Nat → Prop) (w : World) (b : Nat) (cs : List Value) : Prop := w.rangeAt b 0 cs ∧ ¬ T b ∧ b < w.heap.size
theorem Y3.fr0 {T : Nat → Prop} {w w' : World} {b : Nat} {cs : List Value} (h : Y3 T w b cs) (f : Fr No w w') : Y3 T w' b cs := ⟨zb h.1 f id, h.2.1, Nat.lt_of_lt_of_le h.2.2 f.size⟩
theorem Y3.next {w0 w w' : World} {pc pp ps N' : Nat} {T X T' X' : Nat → Prop} {A' : WA} {b : Nat} {cs : List Value} (h : Y3 T w b cs) (n : j9 w0 w w' pc pp ps T X N' A' T' X') : Y3 T' w' b cs := ⟨zb h.1 n.fr h.2.1, n.out h.2.1 h.2.2, Nat.lt_of_lt_of_le h.2.2 n.fr.size⟩
theorem zj7 : Zw ⟨exS, exS, [], [], zhm⟩ 3 exA = 0 ∧ JG ⟨exS, exS, [], [], zhm⟩ 3 exA = ⟨exS, exS, [], [], zc8⟩ := zai (n := 3) (by decide) (l := []) rfl ex1
theorem zj1 : Zw ⟨exS, exS, [], [], zc8⟩ 3 exB = 14 ∧ JG ⟨exS, exS, [], [], zc8⟩ 3 exB = ⟨exS, exS, [], [], zc8⟩ := zcY (n := 3) (by decide) (l := [eA]) rfl (by decide) ex2
theorem zka : Zw ⟨exS, exS, [], [], zc8⟩ 64 exB = 0 ∧ JG ⟨exS, exS, [], [], zc8⟩ 64 exB = ⟨exS, exS, [], [], zc1⟩ := zai (n := 64) (by decide) (l := []) rfl ex3
theorem zjV : Zw ⟨exS, exS, [], [], zc1⟩ 4 exD = 15 ∧ JG ⟨exS, exS, [], [], zc1⟩ 4 exD = ⟨exS, exS, [], [], zc1⟩ := zcY (n := 4) (by decide) (l := []) rfl (by decide) ex4
theorem zj8 : Zw ⟨exS, exS, [], [], zc1⟩ 3 exD = 0 ∧ JG ⟨exS, exS, [], [], zc1⟩ 3 exD = ⟨exS, exS, [], [], XY⟩ := zai (n := 3) (by decide) (l := [eA]) rfl ex5
theorem zgp : XY 3 = [eA, eD] := rfl
theorem zhg : yC (XY 3) (idH exD) = [eA, eD] ∧ qU XY 3 (vn (XY 3) (idH exD)) = zbS := by
 rw [zgp, ex9.1, ex9.2]
 exact ⟨rfl, rfl⟩
theorem zhQ {w0 w : World} {pc pp ps N : Nat} {T X : Nat → Prop} (h : WS w0 w pc pp ps T X N ⟨exS, exS, [], [], XY⟩) :
  Calls Tryz.prog 14 #[.pointer (some ⟨ps, 0, none⟩), .int .i64 3, .agg (zj (idH exD)).toArray] w fun e w' => ∃ g cap cs, e = .returned (.tuple #[.slice (some ⟨g, 0, none⟩) 2 cap, .int .i64 0]) ∧ w'.rangeAt g 0 cs ∧ TxQ w' exA cs ∧ ∃ T', j9 w0 w w' pc pp ps T X N ⟨exS, exS, [], [], zbS⟩ T' X := by
 have hin : idH exD ∈ yc ((⟨exS, exS, [], [], XY⟩ : WA).Q 3) := by
  show idH exD ∈ yc (XY 3)
  rw [zgp]
  simp [yc, eD]
 refine (zhx (n := 3) h (by decide) hin).mono fun e w' ⟨tv, tc, he, hr, hk, T', _, hn⟩ => ?_
 have e1 : yC ((⟨exS, exS, [], [], XY⟩ : WA).Q 3) (idH exD) = [eA, eD] := zhg.1
 have e2 : qU (⟨exS, exS, [], [], XY⟩ : WA).Q 3 (vn ((⟨exS, exS, [], [], XY⟩ : WA).Q 3) (idH exD)) = zbS := zhg.2
 rw [e1] at hr hk
 rw [e2] at hn
 have hA := (hk eA (by simp)).now
 have hD := (hk eD (by simp)).now
 obtain ⟨g, cap, rfl, hg, -⟩ := jP (f := tc) (L := [eA, eD]) (i := 0) (x := eA) (by decide) (fun x hx => by
  rcases List.mem_cons.1 hx with rfl | hx
  ·exact (QS hA).1
  ·obtain rfl := List.mem_singleton.1 hx
   exact (QS hD).1) hr rfl
 exact ⟨g, cap, tc eA, he, by simpa using hg, hA, T', hn⟩
theorem zjD {w0 w : World} {pc pp ps N : Nat} {T X : Nat → Prop} (h : WS w0 w pc pp ps T X N ⟨exS, exS, [], [], zbS⟩) :
  Calls Tryz.prog 13 #[.pointer (some ⟨ps, 0, none⟩), .int .i64 3] w fun e w' => ∃ a c, e = .returned (.slice a 0 c) ∧ Fr No w w' := by
 refine (ziP (n := 3) h (by decide)).mono fun e w' ⟨v', he, ho, f⟩ => ?_
 obtain ⟨a, c, rfl⟩ := ho.slice.arg.form
 exact ⟨a, c, he, f⟩
theorem zjk {w0 w : World} {pc pp ps N : Nat} {T X : Nat → Prop} (h : WS w0 w pc pp ps T X N ⟨exS, exS, [], [], zbS⟩) :
  Calls Tryz.prog 21 #[.pointer (some ⟨ps, 0, none⟩)] w fun e w' => ∃ a c, e = .returned (.slice a 1 c) ∧ Fr No w w' := by
 refine (zeJ h).mono fun e w' ⟨v', he, ho, f⟩ => ?_
 have e1 : Jo (⟨exS, exS, [], [], zbS⟩ : WA).Q = [64] := zgf
 rw [e1] at ho
 obtain ⟨a, c, rfl⟩ := ho.slice.arg.form
 exact ⟨a, c, he, f⟩
theorem Xy : zQ j8 := vU []
theorem zb5 : xO.ok := ⟨xQ, by decide, by decide⟩
theorem ziW : (⟨500, j8⟩ : yF).ok := ⟨by decide, Xy⟩
theorem zgJ : (⟨400, j8⟩ : yF).ok := ⟨by decide, Xy⟩
theorem ziN : (⟨400, yN⟩ : yF).ok := ⟨by decide, xQ⟩
theorem ziQ : (⟨300, yN⟩ : yF).ok := ⟨by decide, xQ⟩
theorem zdK : (⟨idH exA, 0⟩ : zF).ok := ⟨Jp exA, by decide, by decide⟩
set_option maxRecDepth 20000 in
set_option maxHeartbeats 16000000 in
theorem zcJ {w : World} (hg : Jx w) : Calls Tryz.prog 9 #[] w fun e w' => e = .returned (.bool true) ∧ Fr No w w' := by
 obtain ⟨dT, uT, rT⟩ := vw
 obtain ⟨dH, uH, rH⟩ := yj
 have zh := y6
 have zT := show ∀ w, (zeroValue 34).run Tryz.prog w = .ok (.agg zfx.toArray) w from vM
 have HG := Hd hg
 have NILA := Hd (show ∀ w : World, xq w (.slice none 0 0) ([] : List Int).length (([] : List Int).map zP) from fun w => .inl (.inl ⟨rfl, rfl, rfl⟩))
 have OL5 := Hd (yD ziW)
 have OLA := Hd (yD zgJ)
 have OLB := Hd (yD ziN)
 have OLD := Hd (yD ziQ)
 have ILA := Hd (vi zb5 (.slice none 0 0))
 have ILD := Hd (vi zdK (.slice none 0 0))
 have XLA := Hd (zE (Jp exA))
 have XLD := Hd (zE (Jp exD))
 clear hg
 go_enter Tryz.func9, Tryz.ntmps9
 have K0 := tru
 have K1 := tru
 have K2 := tru
 have K3 := tru
 have K4 := tru
 have K5 := tru
 have K6 := tru
 have K7 := tru
 have K8 := tru
 have K9 := tru
 have K10 := tru
 have K11 := tru
 have K12 := tru
 have K13 := tru
 have K14 := tru
 have K15 := tru
 have K16 := tru
 have K17 := tru
 have K18 := tru
 have K19 := tru
 have K20 := tru
 have K21 := tru
 have K22 := tru
 have K23 := tru
 have K24 := tru
 have K25 := tru
 have K26 := tru
 have K27 := tru
 have K28 := tru
 have K29 := tru
 have K30 := tru
 have K31 := tru
 have K32 := tru
 have K33 := tru
 have K34 := tru
 have K35 := tru
 have K36 := tru
 have K37 := tru
 have K38 := tru
 have K39 := tru
 have K40 := tru
 have K41 := tru
 have K42 := tru
 have K43 := tru
 have K44 := tru
 go_wp2_with (first | (clear K0; go_at_call 36; refine (zam HG.out (NILA.out _) (by decide)).mono ?_; rintro e w1 ⟨rfl, f1⟩; have F1 := Hd f1; clear f1; go_frame) | ((with_reducible refine zn ?_); have mk := K1.out; refine zd rfl (y4 (t := 103) rfl rfl zaU (zcm _ Xy) (zbg _ _) OL5.out) ?_; go_frame) | ((with_reducible refine zn ?_); have mk := K2.out; refine zd rfl (zZ (t := 22) (cs := zG ⟨500, j8⟩) rfl rfl vx jC (by rw [← yw]; rfl) (by decide) (by decide) OL5.out) ?_; generalize hb0 : w1.heap.size = b0 at *; have BB0 := Hd (yL w1 (.cells (zG ⟨500, j8⟩).toArray 103) hb0.symm); have F2 := Hd (F1.out.alloc (.cells (zG ⟨500, j8⟩).toArray 103)); generalize w1.alloc (.cells (zG ⟨500, j8⟩).toArray 103) = w2 at *; go_frame) | (clear K3; go_at_call 35; refine (ziL w2 (za2 BB0.out ziW) (by decide)).mono ?_; rintro e w3 ⟨pc, rfl, VC, hc⟩; have HC := Hd hc; have F3 := Hd (F2.out.trans0 hc.fr); clear hc; go_frame) | (clear K4; go_at_call 37; refine (ziY w w3 F3.out).mono ?_; rintro e w4 ⟨rfl, f4, ma, ms, g, VG, hpv, hpo⟩; have F4 := Hd (F3.out.trans0 f4); have PV := Hd hpv; have PO := Hd hpo; have FP := Hd f4; clear hpv hpo f4; generalize hpp : w3.heap.size = pp at *; go_frame) | (clear K5; go_at_call 38; refine (ziX w w4 F4.out).mono ?_; rintro e w5 ⟨ps, ka, ks, rfl, f5, hsv, hst⟩; have F5 := Hd (F4.out.trans0 f5); obtain ⟨T, hws, hlo⟩ := zcq HC.out F2.out FP.out (fun j hj => by have := PV.out j hj; omega) PO.out f5 hsv hst; have WS5 := Hd (hws T (fun _ h => h) (fun j hj => (hlo j hj).2)); have S5 := Hd (Fr.refl No w5); have TL := Hd (fun j hj => (hlo j hj).2); clear hws hlo f5 hsv hst HC PV PO FP; go_frame) | ((with_reducible refine zn ?_); have mk := K6.out; with_reducible refine yk 37 ?_; refine zd rfl (yA (t := 108) rfl rfl (zgu _)) ?_; go_frame) | ((with_reducible refine zn ?_); have mk := K7.out; refine zd rfl (zZ (t := 32) (cs := inC xO (.slice none 0 0)) rfl rfl XV zau rfl (by decide) (by decide) ILA.out) ?_; generalize hi1 : w5.heap.size = i1 at *; have Bi1 := Hd (yL w5 (.cells (inC xO (.slice none 0 0)).toArray 108) hi1.symm); have F6 := Hd (F5.out.alloc (.cells (inC xO (.slice none 0 0)).toArray 108)); have S6 := Hd (S5.out.alloc (.cells (inC xO (.slice none 0 0)).toArray 108)); have Ni1 := Hd (show ¬ T i1 from fun e => by have := TL.out _ e; have := S5.out.size; omega); have FF := Hd ((Fr.refl No w5).alloc (.cells (inC xO (.slice none 0 0)).toArray 108)); have G6 := Hd (show w5.heap.size ≤ (w5.alloc (.cells (inC xO (.slice none 0 0)).toArray 108)).heap.size from FF.out.size); clear FF; generalize w5.alloc (.cells (inC xO (.slice none 0 0)).toArray 108) = w6 at *; go_frame) | (clear K8; go_at_call 36; refine (zam (HG.out.keep0 F6.out) (NILA.out _) (by decide)).mono ?_; rintro e w7 ⟨rfl, f7⟩; have F7 := Hd (F6.out.trans0 f7); have S7 := Hd (S6.out.trans0 f7); have G7 := Hd f7.size; have Bi1 := Hd (f7.obj Bi1.out id); clear f7; go_frame) | ((with_reducible refine zn ?_); have mk := K9.out; refine zd rfl (y4 (t := 103) rfl rfl zaU (zcm _ Xy) (zbg _ _) OLA.out) ?_; go_frame) | ((with_reducible refine zn ?_); have mk := K10.out; refine zd rfl (zZ (t := 22) (cs := zG ⟨400, j8⟩) rfl rfl vx jC (by rw [← yw]; rfl) (by decide) (by decide) OLA.out) ?_; generalize ho1 : w7.heap.size = o1 at *; have Bo1 := Hd (yL w7 (.cells (zG ⟨400, j8⟩).toArray 103) ho1.symm); have F8 := Hd (F7.out.alloc (.cells (zG ⟨400, j8⟩).toArray 103)); have S8 := Hd (S7.out.alloc (.cells (zG ⟨400, j8⟩).toArray 103)); have No1 := Hd (show ¬ T o1 from fun e => by have := TL.out _ e; have := S7.out.size; omega); have FF := Hd ((Fr.refl No w7).alloc (.cells (zG ⟨400, j8⟩).toArray 103)); have Bi1 := Hd (FF.out.obj Bi1.out id); have G8 := Hd (show w7.heap.size ≤ (w7.alloc (.cells (zG ⟨400, j8⟩).toArray 103)).heap.size from FF.out.size); clear FF; generalize w7.alloc (.cells (zG ⟨400, j8⟩).toArray 103) = w8 at *; go_frame) | ((with_reducible refine zn ?_); have mk := K11.out; with_reducible refine yk 42 ?_; refine zd rfl (yA (t := 34) rfl rfl (zhn _ _ _ _ _ _ _)) ?_; go_frame) | ((with_reducible refine zA ?_); have mk := K12.out; refine zq rfl (zm (w := w8) (ty := 34) (cs := [.int .u32 0, .slice (some ⟨i1, 0, none⟩) 1 1, .slice (some ⟨o1, 0, none⟩) 1 1]) rfl rfl rfl rfl zR (JN rfl rfl rfl)) ?_; generalize hc5 : w8.heap.size = c5 at *; have Bc5 := Hd (yL w8 (.cells ([.int .u32 0, .slice (some ⟨i1, 0, none⟩) 1 1, .slice (some ⟨o1, 0, none⟩) 1 1]).toArray 34) hc5.symm); have F9 := Hd (F8.out.alloc (.cells ([.int .u32 0, .slice (some ⟨i1, 0, none⟩) 1 1, .slice (some ⟨o1, 0, none⟩) 1 1]).toArray 34)); have S9 := Hd (S8.out.alloc (.cells ([.int .u32 0, .slice (some ⟨i1, 0, none⟩) 1 1, .slice (some ⟨o1, 0, none⟩) 1 1]).toArray 34)); have Nc5 := Hd (show ¬ T c5 from fun e => by have := TL.out _ e; have := S8.out.size; omega); have FF := Hd ((Fr.refl No w8).alloc (.cells ([.int .u32 0, .slice (some ⟨i1, 0, none⟩) 1 1, .slice (some ⟨o1, 0, none⟩) 1 1]).toArray 34)); have Bi1 := Hd (FF.out.obj Bi1.out id); have Bo1 := Hd (FF.out.obj Bo1.out id); have G9 := Hd (show w8.heap.size ≤ (w8.alloc (.cells ([.int .u32 0, .slice (some ⟨i1, 0, none⟩) 1 1, .slice (some ⟨o1, 0, none⟩) 1 1]).toArray 34)).heap.size from FF.out.size); clear FF; generalize w8.alloc (.cells ([.int .u32 0, .slice (some ⟨i1, 0, none⟩) 1 1, .slice (some ⟨o1, 0, none⟩) 1 1]).toArray 34) = w9 at *; go_frame) | ((with_reducible refine zn ?_); have mk := K13.out; with_reducible refine yk 43 ?_; refine zd rfl (yA (t := 108) rfl rfl (zgu _)) ?_; go_frame) | ((with_reducible refine zn ?_); have mk := K14.out; refine zd rfl (zZ (t := 32) (cs := inC xO (.slice none 0 0)) rfl rfl XV zau rfl (by decide) (by decide) ILA.out) ?_; generalize hi2 : w9.heap.size = i2 at *; have Bi2 := Hd (yL w9 (.cells (inC xO (.slice none 0 0)).toArray 108) hi2.symm); have F10 := Hd (F9.out.alloc (.cells (inC xO (.slice none 0 0)).toArray 108)); have S10 := Hd (S9.out.alloc (.cells (inC xO (.slice none 0 0)).toArray 108)); have Ni2 := Hd (show ¬ T i2 from fun e => by have := TL.out _ e; have := S9.out.size; omega); have FF := Hd ((Fr.refl No w9).alloc (.cells (inC xO (.slice none 0 0)).toArray 108)); have Bi1 := Hd (FF.out.obj Bi1.out id); have Bo1 := Hd (FF.out.obj Bo1.out id); have Bc5 := Hd (FF.out.obj Bc5.out id); have G10 := Hd (show w9.heap.size ≤ (w9.alloc (.cells (inC xO (.slice none 0 0)).toArray 108)).heap.size from FF.out.size); clear FF; generalize w9.alloc (.cells (inC xO (.slice none 0 0)).toArray 108) = w10 at *; go_frame) | ((with_reducible refine zn ?_); have mk := K15.out; with_reducible refine yk 45 ?_; refine zd rfl (yA (t := 103) rfl rfl (zhN _)) ?_; go_frame) | ((with_reducible refine zn ?_); have mk := K16.out; refine zd rfl (zZ (t := 22) (cs := zG ⟨400, yN⟩) rfl rfl vx jC (by rw [← yw]; rfl) (by decide) (by decide) OLB.out) ?_; generalize ho2 : w10.heap.size = o2 at *; have Bo2 := Hd (yL w10 (.cells (zG ⟨400, yN⟩).toArray 103) ho2.symm); have F11 := Hd (F10.out.alloc (.cells (zG ⟨400, yN⟩).toArray 103)); have S11 := Hd (S10.out.alloc (.cells (zG ⟨400, yN⟩).toArray 103)); have No2 := Hd (show ¬ T o2 from fun e => by have := TL.out _ e; have := S10.out.size; omega); have FF := Hd ((Fr.refl No w10).alloc (.cells (zG ⟨400, yN⟩).toArray 103)); have Bi1 := Hd (FF.out.obj Bi1.out id); have Bo1 := Hd (FF.out.obj Bo1.out id); have Bc5 := Hd (FF.out.obj Bc5.out id); have Bi2 := Hd (FF.out.obj Bi2.out id); have G11 := Hd (show w10.heap.size ≤ (w10.alloc (.cells (zG ⟨400, yN⟩).toArray 103)).heap.size from FF.out.size); clear FF; generalize w10.alloc (.cells (zG ⟨400, yN⟩).toArray 103) = w11 at *; go_frame) | ((with_reducible refine zn ?_); have mk := K17.out; with_reducible refine yk 47 ?_; refine zd rfl (yA (t := 34) rfl rfl (zjb _ _ _ _ _ _ _)) ?_; go_frame) | ((with_reducible refine zA ?_); have mk := K18.out; refine zq rfl (zm (w := w11) (ty := 34) (cs := [.int .u32 1, .slice (some ⟨i2, 0, none⟩) 1 1, .slice (some ⟨o2, 0, none⟩) 1 1]) rfl rfl rfl rfl zR (JN rfl rfl rfl)) ?_; generalize hc6 : w11.heap.size = c6 at *; have Bc6 := Hd (yL w11 (.cells ([.int .u32 1, .slice (some ⟨i2, 0, none⟩) 1 1, .slice (some ⟨o2, 0, none⟩) 1 1]).toArray 34) hc6.symm); have F12 := Hd (F11.out.alloc (.cells ([.int .u32 1, .slice (some ⟨i2, 0, none⟩) 1 1, .slice (some ⟨o2, 0, none⟩) 1 1]).toArray 34)); have S12 := Hd (S11.out.alloc (.cells ([.int .u32 1, .slice (some ⟨i2, 0, none⟩) 1 1, .slice (some ⟨o2, 0, none⟩) 1 1]).toArray 34)); have Nc6 := Hd (show ¬ T c6 from fun e => by have := TL.out _ e; have := S11.out.size; omega); have FF := Hd ((Fr.refl No w11).alloc (.cells ([.int .u32 1, .slice (some ⟨i2, 0, none⟩) 1 1, .slice (some ⟨o2, 0, none⟩) 1 1]).toArray 34)); have Bi1 := Hd (FF.out.obj Bi1.out id); have Bo1 := Hd (FF.out.obj Bo1.out id); have Bc5 := Hd (FF.out.obj Bc5.out id); have Bi2 := Hd (FF.out.obj Bi2.out id); have Bo2 := Hd (FF.out.obj Bo2.out id); have G12 := Hd (show w11.heap.size ≤ (w11.alloc (.cells ([.int .u32 1, .slice (some ⟨i2, 0, none⟩) 1 1, .slice (some ⟨o2, 0, none⟩) 1 1]).toArray 34)).heap.size from FF.out.size); clear FF; generalize w11.alloc (.cells ([.int .u32 1, .slice (some ⟨i2, 0, none⟩) 1 1, .slice (some ⟨o2, 0, none⟩) 1 1]).toArray 34) = w12 at *; have LD := Hd (ya Bc5.out); have TA := Hd (show TxQ w12 exA [.int .u32 0, .slice (some ⟨i1, 0, none⟩) 1 1, .slice (some ⟨o1, 0, none⟩) 1 1] from zf6 Bi1.out Bo1.out zb5 zgJ (by decide)); go_frame) | ((with_reducible refine zn ?_); have mk := K19.out; refine zd rfl (zf (ty := 34) rfl rfl LD.out uT rT zR) ?_; go_frame) | (clear K20; go_at_call 15; refine (Vh (HG.out.keep0 F12.out) TA.out).mono ?_; rintro e w13 ⟨rfl, f13⟩; rw [ex7]; have F13 := Hd (F12.out.trans0 f13); have S13 := Hd (S12.out.trans0 f13); have G13 := Hd f13.size; have Bi1 := Hd (f13.obj Bi1.out id); have Bo1 := Hd (f13.obj Bo1.out id); have Bc5 := Hd (f13.obj Bc5.out id); have Bi2 := Hd (f13.obj Bi2.out id); have Bo2 := Hd (f13.obj Bo2.out id); have Bc6 := Hd (f13.obj Bc6.out id); clear f13; go_frame) | ((with_reducible refine zA ?_); have mk := K21.out; refine zq rfl (zm (w := w13) (ty := 41) (cs := zj (idH exA)) rfl rfl rfl (by rw [XLA.out]; rfl) (by rw [XLA.out]; exact zr) zV) ?_; generalize hh7 : w13.heap.size = h7 at *; have Bh7 := Hd (yL w13 (.cells (zj (idH exA)).toArray 41) hh7.symm); have F14 := Hd (F13.out.alloc (.cells (zj (idH exA)).toArray 41)); have S14 := Hd (S13.out.alloc (.cells (zj (idH exA)).toArray 41)); have Nh7 := Hd (show ¬ T h7 from fun e => by have := TL.out _ e; have := S13.out.size; omega); have FF := Hd ((Fr.refl No w13).alloc (.cells (zj (idH exA)).toArray 41)); have Bi1 := Hd (FF.out.obj Bi1.out id); have Bo1 := Hd (FF.out.obj Bo1.out id); have Bc5 := Hd (FF.out.obj Bc5.out id); have Bi2 := Hd (FF.out.obj Bi2.out id); have Bo2 := Hd (FF.out.obj Bo2.out id); have Bc6 := Hd (FF.out.obj Bc6.out id); have G14 := Hd (show w13.heap.size ≤ (w13.alloc (.cells (zj (idH exA)).toArray 41)).heap.size from FF.out.size); clear FF; generalize w13.alloc (.cells (zj (idH exA)).toArray 41) = w14 at *; have LH := Hd (ya Bh7.out); go_frame) | ((with_reducible refine zn ?_); have mk := K22.out; refine zd rfl (zf (ty := 41) rfl rfl LH.out uH rH (by rw [XLA.out]; exact zr)) ?_; go_frame) | ((with_reducible refine zn ?_); have mk := K23.out; with_reducible refine yk 54 ?_; refine zd rfl (ZV (t := 95) rfl rfl (zhp (Jp exA))) ?_; go_frame) | ((with_reducible refine zn ?_); have mk := K24.out; with_reducible refine yk 55 ?_; refine zd rfl (ZV (t := 108) rfl rfl (zfZ zdK)) ?_; go_frame) | ((with_reducible refine zn ?_); have mk := K25.out; refine zd rfl (zZ (t := 32) (cs := inC ⟨idH exA, 0⟩ (.slice none 0 0)) rfl rfl XV zau rfl (by decide) (by decide) ILD.out) ?_; generalize hi3 : w14.heap.size = i3 at *; have Bi3 := Hd (yL w14 (.cells (inC ⟨idH exA, 0⟩ (.slice none 0 0)).toArray 108) hi3.symm); have F15 := Hd (F14.out.alloc (.cells (inC ⟨idH exA, 0⟩ (.slice none 0 0)).toArray 108)); have S15 := Hd (S14.out.alloc (.cells (inC ⟨idH exA, 0⟩ (.slice none 0 0)).toArray 108)); have Ni3 := Hd (show ¬ T i3 from fun e => by have := TL.out _ e; have := S14.out.size; omega); have FF := Hd ((Fr.refl No w14).alloc (.cells (inC ⟨idH exA, 0⟩ (.slice none 0 0)).toArray 108)); have Bi1 := Hd (FF.out.obj Bi1.out id); have Bo1 := Hd (FF.out.obj Bo1.out id); have Bc5 := Hd (FF.out.obj Bc5.out id); have Bi2 := Hd (FF.out.obj Bi2.out id); have Bo2 := Hd (FF.out.obj Bo2.out id); have Bc6 := Hd (FF.out.obj Bc6.out id); have Bh7 := Hd (FF.out.obj Bh7.out id); have G15 := Hd (show w14.heap.size ≤ (w14.alloc (.cells (inC ⟨idH exA, 0⟩ (.slice none 0 0)).toArray 108)).heap.size from FF.out.size); clear FF; generalize w14.alloc (.cells (inC ⟨idH exA, 0⟩ (.slice none 0 0)).toArray 108) = w15 at *; go_frame) | ((with_reducible refine zn ?_); have mk := K26.out; with_reducible refine yk 57 ?_; refine zd rfl (yA (t := 103) rfl rfl (ziF _)) ?_; go_frame) | ((with_reducible refine zn ?_); have mk := K27.out; refine zd rfl (zZ (t := 22) (cs := zG ⟨300, yN⟩) rfl rfl vx jC (by rw [← yw]; rfl) (by decide) (by decide) OLD.out) ?_; generalize ho3 : w15.heap.size = o3 at *; have Bo3 := Hd (yL w15 (.cells (zG ⟨300, yN⟩).toArray 103) ho3.symm); have F16 := Hd (F15.out.alloc (.cells (zG ⟨300, yN⟩).toArray 103)); have S16 := Hd (S15.out.alloc (.cells (zG ⟨300, yN⟩).toArray 103)); have No3 := Hd (show ¬ T o3 from fun e => by have := TL.out _ e; have := S15.out.size; omega); have FF := Hd ((Fr.refl No w15).alloc (.cells (zG ⟨300, yN⟩).toArray 103)); have Bi1 := Hd (FF.out.obj Bi1.out id); have Bo1 := Hd (FF.out.obj Bo1.out id); have Bc5 := Hd (FF.out.obj Bc5.out id); have Bi2 := Hd (FF.out.obj Bi2.out id); have Bo2 := Hd (FF.out.obj Bo2.out id); have Bc6 := Hd (FF.out.obj Bc6.out id); have Bh7 := Hd (FF.out.obj Bh7.out id); have Bi3 := Hd (FF.out.obj Bi3.out id); have G16 := Hd (show w15.heap.size ≤ (w15.alloc (.cells (zG ⟨300, yN⟩).toArray 103)).heap.size from FF.out.size); clear FF; generalize w15.alloc (.cells (zG ⟨300, yN⟩).toArray 103) = w16 at *; go_frame) | ((with_reducible refine zn ?_); have mk := K28.out; with_reducible refine yk 59 ?_; refine zd rfl (yA (t := 34) rfl rfl (zhn _ _ _ _ _ _ _)) ?_; go_frame) | ((with_reducible refine zA ?_); have mk := K29.out; refine zq rfl (zm (w := w16) (ty := 34) (cs := [.int .u32 0, .slice (some ⟨i3, 0, none⟩) 1 1, .slice (some ⟨o3, 0, none⟩) 1 1]) rfl rfl rfl rfl zR (JN rfl rfl rfl)) ?_; generalize hc9 : w16.heap.size = c9 at *; have Bc9 := Hd (yL w16 (.cells ([.int .u32 0, .slice (some ⟨i3, 0, none⟩) 1 1, .slice (some ⟨o3, 0, none⟩) 1 1]).toArray 34) hc9.symm); have F17 := Hd (F16.out.alloc (.cells ([.int .u32 0, .slice (some ⟨i3, 0, none⟩) 1 1, .slice (some ⟨o3, 0, none⟩) 1 1]).toArray 34)); have S17 := Hd (S16.out.alloc (.cells ([.int .u32 0, .slice (some ⟨i3, 0, none⟩) 1 1, .slice (some ⟨o3, 0, none⟩) 1 1]).toArray 34)); have Nc9 := Hd (show ¬ T c9 from fun e => by have := TL.out _ e; have := S16.out.size; omega); have FF := Hd ((Fr.refl No w16).alloc (.cells ([.int .u32 0, .slice (some ⟨i3, 0, none⟩) 1 1, .slice (some ⟨o3, 0, none⟩) 1 1]).toArray 34)); have Bi1 := Hd (FF.out.obj Bi1.out id); have Bo1 := Hd (FF.out.obj Bo1.out id); have Bc5 := Hd (FF.out.obj Bc5.out id); have Bi2 := Hd (FF.out.obj Bi2.out id); have Bo2 := Hd (FF.out.obj Bo2.out id); have Bc6 := Hd (FF.out.obj Bc6.out id); have Bh7 := Hd (FF.out.obj Bh7.out id); have Bi3 := Hd (FF.out.obj Bi3.out id); have Bo3 := Hd (FF.out.obj Bo3.out id); have G17 := Hd (show w16.heap.size ≤ (w16.alloc (.cells ([.int .u32 0, .slice (some ⟨i3, 0, none⟩) 1 1, .slice (some ⟨o3, 0, none⟩) 1 1]).toArray 34)).heap.size from FF.out.size); clear FF; generalize w16.alloc (.cells ([.int .u32 0, .slice (some ⟨i3, 0, none⟩) 1 1, .slice (some ⟨o3, 0, none⟩) 1 1]).toArray 34) = w17 at *; have FW17 := S17; have W17 := Hd (show WS w w17 pc pp ps T T 0 ⟨exS, exS, [], [], zhm⟩ from WS5.out.fr0 FW17.out); have K17A := Hd (show Kept T w17 (fun w => TxQ w exA [.int .u32 0, .slice (some ⟨i1, 0, none⟩) 1 1, .slice (some ⟨o1, 0, none⟩) 1 1]) from zbJ Bi1.out Bo1.out zb5 zgJ (by decide) Ni1.out No1.out); have K17B := Hd (show Kept T w17 (fun w => TxQ w exB [.int .u32 1, .slice (some ⟨i2, 0, none⟩) 1 1, .slice (some ⟨o2, 0, none⟩) 1 1]) from zbJ Bi2.out Bo2.out zb5 ziN (by decide) Ni2.out No2.out); have K17D := Hd (show Kept T w17 (fun w => TxQ w exD [.int .u32 0, .slice (some ⟨i3, 0, none⟩) 1 1, .slice (some ⟨o3, 0, none⟩) 1 1]) from zbJ Bi3.out Bo3.out zdK ziQ (by decide) Ni3.out No3.out); have OA17 := Hd (show Y3 T w17 c5 [.int .u32 0, .slice (some ⟨i1, 0, none⟩) 1 1, .slice (some ⟨o1, 0, none⟩) 1 1] from ⟨ya Bc5.out, Nc5.out, xf Bc5.out⟩); have OB17 := Hd (show Y3 T w17 c6 [.int .u32 1, .slice (some ⟨i2, 0, none⟩) 1 1, .slice (some ⟨o2, 0, none⟩) 1 1] from ⟨ya Bc6.out, Nc6.out, xf Bc6.out⟩); have OD17 := Hd (show Y3 T w17 c9 [.int .u32 0, .slice (some ⟨i3, 0, none⟩) 1 1, .slice (some ⟨o3, 0, none⟩) 1 1] from ⟨ya Bc9.out, Nc9.out, xf Bc9.out⟩); go_frame) | ((with_reducible refine zn ?_); have mk := K30.out; refine zd rfl (zf (ty := 34) rfl rfl OA17.out.1 uT rT zR) ?_; go_frame) | (clear K31; go_at_call 12; refine (XB (HG.out.keep0 W17.out.facts.2.2.1) W17.out 3 K17A.out).mono ?_; rintro e w18 ⟨rfl, T18, X18, n18⟩; rw [zj7.1]; rw [zj7.2] at n18; have W18 := Hd n18.ws; have K18A := Hd (n18.kept W17.out K17A.out); have OA18 := Hd (OA17.out.next n18); have K18B := Hd (n18.kept W17.out K17B.out); have OB18 := Hd (OB17.out.next n18); have K18D := Hd (n18.kept W17.out K17D.out); have OD18 := Hd (OD17.out.next n18); clear n18; go_frame) | ((with_reducible refine zn ?_); have mk := K32.out; refine xN rfl (zf (ty := 34) rfl rfl OB18.out.1 uT rT zR) ?_; go_frame) | (clear K33; go_at_call 12; refine (XB (HG.out.keep0 W18.out.facts.2.2.1) W18.out 3 K18B.out).mono ?_; rintro e w19 ⟨rfl, T19, X19, n19⟩; rw [zj1.1]; rw [zj1.2] at n19; have W19 := Hd n19.ws; have K19A := Hd (n19.kept W18.out K18A.out); have OA19 := Hd (OA18.out.next n19); have K19B := Hd (n19.kept W18.out K18B.out); have OB19 := Hd (OB18.out.next n19); have K19D := Hd (n19.kept W18.out K18D.out); have OD19 := Hd (OD18.out.next n19); clear n19; go_frame) | ((with_reducible refine zn ?_); have mk := K34.out; refine xN rfl (zf (ty := 34) rfl rfl OB19.out.1 uT rT zR) ?_; go_frame) | (clear K35; go_at_call 12; refine (XB (HG.out.keep0 W19.out.facts.2.2.1) W19.out 64 K19B.out).mono ?_; rintro e w20 ⟨rfl, T20, X20, n20⟩; rw [zka.1]; rw [zka.2] at n20; have W20 := Hd n20.ws; have K20A := Hd (n20.kept W19.out K19A.out); have OA20 := Hd (OA19.out.next n20); have K20B := Hd (n20.kept W19.out K19B.out); have OB20 := Hd (OB19.out.next n20); have K20D := Hd (n20.kept W19.out K19D.out); have OD20 := Hd (OD19.out.next n20); clear n20; go_frame) | ((with_reducible refine zn ?_); have mk := K36.out; refine xN rfl (zf (ty := 34) rfl rfl OD20.out.1 uT rT zR) ?_; go_frame) | (clear K37; go_at_call 12; refine (XB (HG.out.keep0 W20.out.facts.2.2.1) W20.out 4 K20D.out).mono ?_; rintro e w21 ⟨rfl, T21, X21, n21⟩; rw [zjV.1]; rw [zjV.2] at n21; have W21 := Hd n21.ws; have K21A := Hd (n21.kept W20.out K20A.out); have OA21 := Hd (OA20.out.next n21); have K21B := Hd (n21.kept W20.out K20B.out); have OB21 := Hd (OB20.out.next n21); have K21D := Hd (n21.kept W20.out K20D.out); have OD21 := Hd (OD20.out.next n21); clear n21; go_frame) | ((with_reducible refine zn ?_); have mk := K38.out; refine xN rfl (zf (ty := 34) rfl rfl OD21.out.1 uT rT zR) ?_; go_frame) | (clear K39; go_at_call 12; refine (XB (HG.out.keep0 W21.out.facts.2.2.1) W21.out 3 K21D.out).mono ?_; rintro e w22 ⟨rfl, T22, X22, n22⟩; rw [zj8.1]; rw [zj8.2] at n22; have W22 := Hd n22.ws; have K22A := Hd (n22.kept W21.out K21A.out); have OA22 := Hd (OA21.out.next n22); have K22B := Hd (n22.kept W21.out K21B.out); have OB22 := Hd (OB21.out.next n22); have K22D := Hd (n22.kept W21.out K21D.out); have OD22 := Hd (OD21.out.next n22); clear n22; go_frame) | ((with_reducible refine zn ?_); have mk := K40.out; refine zd rfl (zf (ty := 34) rfl rfl OD22.out.1 uT rT zR) ?_; go_frame) | (clear K41; go_at_call 15; refine (Vh (HG.out.keep0 W22.out.facts.2.2.1) K22D.out.now).mono ?_; rintro e w23 ⟨rfl, f23⟩; rw [ex8]; have W23 := Hd (W22.out.fr0 f23); have K23A := Hd (K22A.out.same f23.of0); have OA23 := Hd (OA22.out.fr0 f23); clear f23; go_frame) | ((with_reducible refine zA ?_); have mk := K42.out; refine zq rfl (zm (w := w23) (ty := 41) (cs := zj (idH exD)) rfl rfl rfl (by rw [XLD.out]; rfl) (by rw [XLD.out]; exact zr) zV) ?_; generalize hh10 : w23.heap.size = h10 at *; have FF := Hd ((Fr.refl No w23).alloc (.cells (zj (idH exD)).toArray 41)); have Bh10 := Hd (yL w23 (.cells (zj (idH exD)).toArray 41) hh10.symm); generalize w23.alloc (.cells (zj (idH exD)).toArray 41) = w24 at *; have W24 := Hd (W23.out.fr0 FF.out); have K24A := Hd (K23A.out.same FF.out.of0); have OA24 := Hd (OA23.out.fr0 FF.out); have LX := Hd (ya Bh10.out); go_frame) | ((with_reducible refine zn ?_); have mk := K43.out; refine zd rfl (zf (ty := 41) rfl rfl LX.out uH rH (by rw [XLD.out]; exact zr)) ?_; go_frame) | (clear K44; go_at_call 14; refine (zhQ W24.out).mono ?_; rintro e w25 ⟨g, cap, cs, rfl, hg, hq, T25, n25⟩; obtain ⟨ja, jc, ka, kc, ecs⟩ := hq.form; subst ecs; have RG := Hd hg; have HQ := Hd hq; have W25 := Hd n25.ws; have K25A := Hd (n25.kept W24.out K24A.out); have OA25 := Hd (OA24.out.next n25); clear hg hq n25; go_frame))
 have FD := Hd (Fr.refl No w25).drew
 have WD := Hd (W25.out.fr0 FD.out)
 have RGD := Hd (zb RG.out FD.out id)
 have RAD := Hd (zb OA25.out.1 FD.out id)
 have HQD := Hd (HQ.out.keep FD.out)
 have KAD := Hd (K25A.out.now.keep FD.out)
 refine zv [false, false, false, false, false, false, false, false, false, false, false, false, true, false, false, false, true, false, false, false, false, false, true, false, false, false, false] (fun w' => w'.rangeAt g 0 [.int .u32 exA.ver, .slice ja exA.ins.length jc, .slice ka exA.outs.length kc] ∧ w'.rangeAt c5 0 [.int .u32 0, .slice (some ⟨i1, 0, none⟩) 1 1, .slice (some ⟨o1, 0, none⟩) 1 1]) (by kernel_rfl) (by kernel_rfl) ?_ (fun K hK => ?_)
 ·exact ⟨RGD.out, RAD.out⟩
 generalize w25.drew = wd at *
 repeat (first | ((first | with_reducible refine zx ?_ | ((with_reducible refine zu ?_ ?_); (focus rfl))); apply Exists.intro; refine ⟨?_, ?_⟩; (focus (first | exact zD (ty := 34) rfl (fun w h => h.1) uT rT zR | exact zD (ty := 34) rfl (fun w h => h.2) uT rT zR | (intro w' hS; obtain ⟨s1, s2⟩ := hS; go_simp; (try with_reducible rfl); done))); try simp only [Act.put, pA, pB, pC]) | ((first | ((with_reducible refine zg (c := false) ?_ ?_ ?_); (focus rfl); (focus rfl)) | ((with_reducible refine zg (c := true) ?_ ?_ ?_); (focus rfl); (focus rfl)) | ((with_reducible refine zt ?_ ?_); (focus rfl))); try simp only [Act.put, pA, pB, pC]))
 (first | with_reducible refine zU (fun K' hK' => ?_) | ((with_reducible refine zK ?_ (fun K' hK' => ?_)); (focus rfl)))
 go_simp
 refine (zfJ wd HQD.out KAD.out (by decide) (by decide)).mono ?_
 rintro e w26 ⟨rfl, f26⟩
 have W26 := Hd (WD.out.fr0 f26)
 have F26 := Hd f26
 clear f26
 refine hK'.out _ _ ?_ (fun hS => ?_)
 ·exact ⟨zb RGD.out F26.out id, zb RAD.out F26.out id⟩
 try simp only [Act.put, pA, pB, pC]
 repeat (first | ((first | with_reducible refine zx ?_ | ((with_reducible refine zu ?_ ?_); (focus rfl))); apply Exists.intro; refine ⟨?_, ?_⟩; (focus (first | (intro w' hS; obtain ⟨s1, s2⟩ := hS; go_simp; (try with_reducible rfl); done))); try simp only [Act.put, pA, pB, pC]) | ((first | ((with_reducible refine zg (c := false) ?_ ?_ ?_); (focus rfl); (focus rfl)) | ((with_reducible refine zg (c := true) ?_ ?_ ?_); (focus rfl); (focus rfl)) | ((with_reducible refine zt ?_ ?_); (focus rfl))); try simp only [Act.put, pA, pB, pC]))
 (first | with_reducible refine zU (fun K' hK' => ?_) | ((with_reducible refine zK ?_ (fun K' hK' => ?_)); (focus rfl)))
 go_simp
 refine (zjD W26.out).mono ?_
 rintro e w27 ⟨aa, ac, rfl, f27⟩
 have W27 := Hd (W26.out.fr0 f27)
 have F27 := Hd (F26.out.trans0 f27)
 clear f27
 refine hK'.out _ _ ?_ (fun hS => ?_)
 ·exact ⟨zb RGD.out F27.out id, zb RAD.out F27.out id⟩
 try simp only [Act.put, pA, pB, pC]
 repeat (first | ((first | with_reducible refine zx ?_ | ((with_reducible refine zu ?_ ?_); (focus rfl))); apply Exists.intro; refine ⟨?_, ?_⟩; (focus (first | (intro w' hS; obtain ⟨s1, s2⟩ := hS; go_simp; (try with_reducible rfl); done))); try simp only [Act.put, pA, pB, pC]) | ((first | ((with_reducible refine zg (c := false) ?_ ?_ ?_); (focus rfl); (focus rfl)) | ((with_reducible refine zg (c := true) ?_ ?_ ?_); (focus rfl); (focus rfl)) | ((with_reducible refine zt ?_ ?_); (focus rfl))); try simp only [Act.put, pA, pB, pC]))
 (first | with_reducible refine zU (fun K' hK' => ?_) | ((with_reducible refine zK ?_ (fun K' hK' => ?_)); (focus rfl)))
 go_simp
 refine (zjk W27.out).mono ?_
 rintro e w28 ⟨sa, sc, rfl, f28⟩
 have W28 := Hd (W27.out.fr0 f28)
 have F28 := Hd (F27.out.trans0 f28)
 clear f28
 refine hK'.out _ _ ?_ (fun hS => ?_)
 ·exact ⟨zb RGD.out F28.out id, zb RAD.out F28.out id⟩
 try simp only [Act.put, pA, pB, pC]
 repeat (first | ((first | with_reducible refine zx ?_ | ((with_reducible refine zu ?_ ?_); (focus rfl))); apply Exists.intro; refine ⟨?_, ?_⟩; (focus (first | (intro w' hS; obtain ⟨s1, s2⟩ := hS; go_simp; (try with_reducible rfl); done))); try simp only [Act.put, pA, pB, pC]) | ((first | ((with_reducible refine zg (c := false) ?_ ?_ ?_); (focus rfl); (focus rfl)) | ((with_reducible refine zg (c := true) ?_ ?_ ?_); (focus rfl); (focus rfl)) | ((with_reducible refine zt ?_ ?_); (focus rfl))); try simp only [Act.put, pA, pB, pC]))
 refine zM (hK.out _ _ ?_)
 go_wp2_with fail
 go_ret
 exact ⟨rfl, W28.out.facts.2.2.1⟩
end Go.Proofs.YtdkkjchclkjleaaGreatDoor

/- pappuslaw15: heavy. -/
namespace Go.Proofs.YtdkkjchclkjleaaGreatDoor
open Go Go.RowKit Go.Maps Go.MapKept
def hvT (t : TxD) : Bool := decide (30 < t.ins.length) || (decide (30 < t.outs.length) || t.ins.any fun x => decide (100 < x.key.length))
def zjp (w : World) (t : TxD) (e : Ending) (w' : World) : Prop := e = .returned (.bool (hvT t)) ∧ Fr No w w'
set_option maxRecDepth 20000 in
set_option maxHeartbeats 4000000 in
theorem Qk (w : World) {t : TxD} {cs : List Value} (ht : TxQ w t cs) :
  Calls Tryz.prog 11 #[.agg cs.toArray] w (zjp w t) := by
 obtain ⟨ia, ic, oa, oc, rfl, -, hI, -⟩ := ht
 obtain ⟨dI, uI, rI⟩ := YV
 have zI := Zj
 have F1 := Hd ((Fr.refl No w).alloc (.cells #[.int .u32 t.ver, .slice ia t.ins.length ic, .slice oa t.outs.length oc] 34))
 have HI := Hd (hI.keep0 F1.out)
 obtain ⟨-, c1, c2, -⟩ := qZ w t.ver (.slice ia t.ins.length ic) (.slice oa t.outs.length oc)
 clear hI
 show Calls Tryz.prog 11 #[.agg #[.int .u32 t.ver, .slice ia t.ins.length ic, .slice oa t.outs.length oc]] w _
 by_cases h1 : 30 < t.ins.length
 ·have j1 : (30 : Int) < (t.ins.length : Int) := by omega
  have HP := Hd (show hvT t = true by simp [hvT, h1])
  clear h1
  go_enter Tryz.func11, Tryz.ntmps11
  go_wp2_with fail
  go_ret
  exact ⟨by rw [HP.out]; rfl, F1.out⟩
 have j1 : ¬ (30 : Int) < (t.ins.length : Int) := by omega
 by_cases h2 : 30 < t.outs.length
 ·have j2 : (30 : Int) < (t.outs.length : Int) := by omega
  have HP := Hd (show hvT t = true by simp [hvT, h2])
  clear h1 h2
  go_enter Tryz.func11, Tryz.ntmps11
  go_wp2_with fail
  go_ret
  exact ⟨by rw [HP.out]; rfl, F1.out⟩
 have j2 : ¬ (30 : Int) < (t.outs.length : Int) := by omega
 have l30 : t.ins.length ≤ 30 := by omega
 have HT := Hd (show ∀ x ∈ t.ins, 100 < x.key.length → hvT t = true from fun x hx h => by
  have : t.ins.any (fun x => decide (100 < x.key.length)) = true := List.any_eq_true.2 ⟨x, hx, by simpa using h⟩
  simp [hvT, this])
 have HF := Hd (show (∀ x ∈ t.ins, ¬ 100 < x.key.length) → hvT t = false from fun h => by
  have : t.ins.any (fun x => decide (100 < x.key.length)) = false := List.any_eq_false.2 (fun x hx => by simpa using h x hx)
  simp only [hvT, this]
  simp
  omega)
 clear h1 h2
 go_enter Tryz.func11, Tryz.ntmps11
 go_wp2_with fail
 generalize w.alloc (.cells #[.int .u32 t.ver, .slice ia t.ins.length ic, .slice oa t.outs.length oc] 34) = w1 at *
 clear c1 c2
 go_loopw [18] (fun iv wr => ∃ n : Nat, iv = .int .i64 n ∧ n ≤ t.ins.length ∧ (∀ x ∈ t.ins.take n, ¬ 100 < x.key.length) ∧ Fr No w1 wr) (fun iv _ => t.ins.length - (intOf iv).toNat)
 case atStart => exact ⟨0, rfl, Nat.zero_le _, by simp, Fr.refl _ _⟩
 case round =>
  obtain ⟨n, rfl, hn, hal, fr⟩ := hrel
  have AL := Hd hal
  clear hal
  have FR := Hd fr
  clear fr
  by_cases hlt : n < t.ins.length
  ·have i1 : (n : Int) < (t.ins.length : Int) := by omega
   obtain ⟨x, hx⟩ : ∃ x, t.ins[n]? = some x := ⟨_, List.getElem?_eq_getElem hlt⟩
   obtain ⟨bx, ox, cx, xs, hvx, hrx, ka, kc, rfl, pok, hkx⟩ := (HI.out.keep0 FR.out).at_ hx
   cases hvx
   have IL := Hd (vi pok (.slice ka x.key.length kc))
   have R1 := Hd hrx
   have FA := Hd ((Fr.refl No wr).alloc (.cells (inC x.from_ (.slice ka x.key.length kc)).toArray 108))
   have c33 := (Y4 wr (p := x.from_) (kv := .slice ka x.key.length kc) pok).2
   have HX := Hd hx
   clear hrx hkx hx pok
   by_cases hk : 100 < x.key.length
   ·have jk : (100 : Int) < (x.key.length : Int) := by omega
    have K0 := tru
    have K1 := tru
    go_wp2_with (first | ((with_reducible refine zn ?_); have mk := K0.out; refine zd rfl (zf (ty := 108) rfl rfl R1.out uI rI (by rw [IL.out]; exact q9)) ?_; go_frame) | ((with_reducible refine zA ?_); have mk := K1.out; refine zq rfl (zm (w := wr) (ty := 108) (cs := inC x.from_ (.slice ka x.key.length kc)) rfl rfl rfl (by rw [IL.out]; rfl) (by rw [IL.out]; exact q9) jF) ?_; go_frame))
    go_ret
    exact ⟨by rw [HT.out x (List.mem_of_getElem? HX.out) hk]; rfl, (F1.out.trans0 FR.out).trans0 FA.out⟩
   ·have jk : ¬ (100 : Int) < (x.key.length : Int) := by omega
    have ALN := Hd (show ∀ y ∈ t.ins.take (n + 1), ¬ 100 < y.key.length from fun y hy => by
     rw [List.take_add_one, HX.out] at hy
     rcases List.mem_append.1 hy with hy | hy
     ·exact AL.out y hy
     ·simp at hy; subst hy; exact hk)
    have K0 := tru
    have K1 := tru
    go_wp2_with (first | ((with_reducible refine zn ?_); have mk := K0.out; refine zd rfl (zf (ty := 108) rfl rfl R1.out uI rI (by rw [IL.out]; exact q9)) ?_; go_frame) | ((with_reducible refine zA ?_); have mk := K1.out; refine zq rfl (zm (w := wr) (ty := 108) (cs := inC x.from_ (.slice ka x.key.length kc)) rfl rfl rfl (by rw [IL.out]; rfl) (by rw [IL.out]; exact q9) jF) ?_; go_frame))
    go_roundw
    case rel => exact ⟨n + 1, by go_num, by omega, ALN.out, FR.out.trans0 FA.out⟩
    case measure => simp [intOf]; omega
  ·have hne : n = t.ins.length := by omega
   have i1 : ¬ (n : Int) < (t.ins.length : Int) := by omega
   have HP := Hd (HF.out (fun x hx => AL.out x (by rw [hne, List.take_length]; exact hx)))
   clear hne
   go_wp2_with fail
   go_ret
   exact ⟨by rw [HP.out]; rfl, F1.out.trans0 FR.out⟩
end Go.Proofs.YtdkkjchclkjleaaGreatDoor
