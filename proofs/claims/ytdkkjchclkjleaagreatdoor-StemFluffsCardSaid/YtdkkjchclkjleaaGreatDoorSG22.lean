/- kin: sorted, Up, Down. -/
import Derived.Laws.MakeOwn
import Derived.Test.YtdkkjchclkjleaaGreatDoorSG21
import Derived.Test.YtdkkjchclkjleaaGreatDoorSG5
set_option linter.unusedVariables false
set_option linter.unusedSimpArgs false
set_option linter.unnecessarySimpa false
set_option linter.all false
namespace Go.Proofs.YtdkkjchclkjleaaGreatDoor
open Go Go.RowKit Go.Maps Go.MapKept Go.Sort
abbrev zgM (w : World) (r b : Nat) (M R : List (zi × Int)) := vN Tryz.prog 41 yW QH w r b M R
theorem keys_perm {M : List (zi × Int)} {S : List zi} (hm : (M.map (·.1)).Nodup) (hs : ∀ k c, (k, c) ∈ M ↔ c = 1 ∧ k ∈ S) (hS : S.Nodup) : S.Perm (M.map (·.1)) := by
 refine (List.perm_ext_iff_of_nodup hS hm).2 (fun x => ?_)
 constructor
 ·intro h
  exact List.mem_map.2 ⟨(x, 1), (hs x 1).2 ⟨rfl, h⟩, rfl⟩
 ·intro h
  obtain ⟨⟨y, c⟩, hy, rfl⟩ := List.mem_map.1 h
  exact ((hs y c).1 hy).2
theorem zbG {w : World} {B k n : Nat} {e : TypeId} {v : Value} {xs : List Value} {r b : Nat} {M R : List (zi × Int)} (h : w.ownsRow B e k v n xs) (hI : zgM w r b M R) : ∀ j, v.ownBlock = some j → j ≠ r := by
 obtain ⟨es, clk, seen, -, -, -, -, -, -, h7, -⟩ := hI
 rcases h.2 with ⟨rfl, _⟩ | ⟨g, cap, cur, rfl, _, hg, _⟩
 ·intro j hj; cases hj
 ·intro j hj e
  simp [Value.ownBlock] at hj
  subst hj e
  rw [hg] at h7
  cases h7
theorem VE {w : World} {B n k bx : Nat} {v : Value} {xs : List Value} {c : Array Value} (h : w.ownsRow B 41 k v n xs) (hb : w.heap[bx]? = some (.cells c 135 (0, 0))) : ∀ j, v.ownBlock = some j → j ≠ bx := by
 rcases h.2 with ⟨rfl, _⟩ | ⟨g, cap, cur, rfl, _, hg, _⟩
 ·intro j hj; cases hj
 ·intro j hj e
  simp [Value.ownBlock] at hj
  subst hj e
  rw [hg] at hb
  injection hb with hb
  injection hb with _ hb
  revert hb
  decide
section
variable {w0 w : World} {p N : Nat} {V : Nat → Prop} {G : List yE}
set_option maxRecDepth 20000 in
set_option maxHeartbeats 4000000 in
theorem zaj (h : GC w0 w p V G N) (hN : N ≤ 1000) {b : Nat} {M : List (zi × Int)} {S : List zi} (hm : jQ w b M) (hs : ∀ k c, (k, c) ∈ M ↔ c = 1 ∧ k ∈ S) (hsub : S.Sublist (ids G)) :
  Calls Tryz.prog 100 #[.pointer (some ⟨p, 0, none⟩), .map (some b)] w fun e w' => ∃ v, e = .returned v ∧ w'.ownsRow w.heap.size 41 32 v S.length (S.flatMap zj) ∧ Fr No w w' := by
 obtain ⟨dK, uK, rK⟩ := yj
 have hSn : S.Nodup := h.gok.nd.sublist hsub
 have hSl : S.length ≤ 1000 := by
  have := hsub.length_le
  have := h.len
  simp only [ids, List.length_map] at *
  omega
 have LM := Hd (show M.length = S.length by rw [(keys_perm hm.nodup hs hSn).length_eq, List.length_map])
 have f1 : Fr No w (w.alloc (.cells #[.pointer (some ⟨p, 0, none⟩)] 135)) := (Fr.refl No w).alloc _
 have cb1 := (ze8 (yn w (.cells #[.pointer (some ⟨p, 0, none⟩)] 135))).1
 have hm1 := hm.keep f1 id
 have LR := Hd (fun ty => hm1.lenRun qO ty)
 obtain ⟨iK, hi, hz, hsz, hby⟩ := info_parts xI
 obtain ⟨w2, hmk, ho2, hg2⟩ := run_makeSlice_owned (P := Tryz.prog) (w := w.alloc (.cells #[.pointer (some ⟨p, 0, none⟩)] 135)) w.heap.size 38 41 iK _ 32 xB hi hz hsz .i64 .i64 M.length (by rw [LM.out]; omega) (by rw [hby, LM.out]; omega) (by rw [LM.out]; unfold maxLen; omega) (by simp)
 have f2 : Fr No (w.alloc (.cells #[.pointer (some ⟨p, 0, none⟩)] 135)) w2 := Fr.of_grown hg2 (fun k e => by cases e)
 have hm2 := hm1.keep f2 id
 obtain ⟨clk, hrng, hit⟩ := hm2.rangeI qO
 have HS := Hd hs
 have HSN := Hd hSn
 have OKS := Hd (show ∀ x ∈ M, zQ x.1 from fun x hx => h.okId x.1 (hsub.subset ((hs x.1 x.2).1 hx).2))
 have HND := Hd hm.nodup
 have HI0 := Hd hit
 have F0 := Hd ((f1.trans0 f2).alloc (.mapIter (some b) clk #[] clk))
 have CB := Hd ((f2.alloc (.mapIter (some b) clk #[] clk)).obj (yn w (.cells #[.pointer (some ⟨p, 0, none⟩)] 135)) id)
 have HO0 := Hd (show (w2.alloc (.mapIter (some b) clk #[] clk)).ownsRow w.heap.size 41 32 (.slice (some ⟨w.heap.size + 1, 0, none⟩) 0 M.length) 0 [] by have := ho2.alloc (.mapIter (some b) clk #[] clk); simpa using this)
 have HSZ := Hd (show w.heap.size ≤ w2.heap.size from (f1.trans0 f2).size)
 have HB := Hd (show w.heap.size < w2.heap.size by have := f2.size; simp at this; omega)
 have HC := Hd h
 have MLT := Hd hm.lt
 have SUB := Hd hsub
 have zh := y6
 clear h hm hm1 hs hsub hi hz hsz hby ho2 hg2 f2 hit f1 cb1 hSn hm2
 go_enter Tryz.func100, Tryz.ntmps100
 go_wp2_with (first | (refine zd rfl (jq rfl rfl (LR.out _)) ?_) | (refine J1 rfl rfl rfl hrng ?_))
 generalize hq : w2.heap.size = r at *
 generalize w2.alloc (.mapIter (some b) clk #[] clk) = W at *
 clear hrng hmk LR
 try simp only [Act.put, pA, pB, pC]
 generalize hbx : w.heap.size = bx at *
 go_loopg [5] M.length (fun n l wr => ∃ (D R : List (zi × Int)), (D ++ R).Perm M ∧ R.length = n ∧ zgM wr r b M R ∧ wr.ownsRow bx 41 32 l D.length ((D.map (·.1)).flatMap zj) ∧ wr.heap[bx]? = some (.cells #[.pointer (some ⟨p, 0, none⟩)] 135 (0, 0)) ∧ Fr No w wr)
 case atStart => exact ⟨[], M, List.Perm.refl _, rfl, HI0.out, HO0.out, CB.out, F0.out⟩
 case round =>
  obtain ⟨D, R, hperm, hm, hI, ho, hcb, hfr⟩ := hrel
  cases R with
  | nil =>
   have hnx := hI.stop
   rw [List.append_nil] at hperm
   have hp := keys_perm HND.out HS.out HSN.out
   have hp2 : S.Perm (D.map (·.1)) := hp.trans (hperm.symm.map _)
   have hDl : D.length = S.length := by rw [hp2.length_eq, List.length_map]
   obtain ⟨m, sq, L, hr, -, hG, -, hsq⟩ := HC.out.ex
   have hIds : ids G = L.map (·.id) := by rw [← hG]; simp [ids, Function.comp]
   have hsort := zjv (hr.fr0 hfr) (by omega) (bx := bx) (B := bx) (ze8 hcb).1 (H := D.map (·.1)) (by rw [List.length_map]; exact ho) (fun j hj => ⟨VE ho hcb j hj, fun e => by have := (ho.lt j hj).1; have := hr.hi j e; omega⟩) hp2 (by rw [← hIds]; exact SUB.out) (by rw [List.length_map, hDl]; omega)
   rw [List.length_map, hDl] at hsort
   have HSORT := Hd hsort
   have FR := Hd hfr
   have HO := Hd ho
   obtain ⟨la, lc, hlv⟩ := ho.slice.arg.form
   rw [hDl] at hlv
   subst hlv
   clear hI ho hperm hm hfr hp hp2 hsort hDl hcb hr hG hsq hIds
   go_wp2_with (first | (refine vL rfl rfl rfl (hnx _) ?_) | (go_at_call 138; refine HSORT.out.mono ?_; rintro e w5 ⟨rfl, ho5, f5⟩))
   go_ret
   exact ⟨.slice la S.length lc, by rfl, by rw [hbx]; exact ho5, FR.out.trans f5 (fun i hi e => by have := (HO.out.lt i e).1; omega)⟩
  | cons x0 R0 =>
   obtain ⟨A, x, B, w3, hAB, hnx, hI2, f3, hent⟩ := hI.step (by simp) 0
   have hx : x ∈ M := hperm.subset (by rw [hAB]; simp)
   have XOK := Hd (OKS.out x hx)
   have HX := Hd (zE XOK.out)
   have hp2 : ((D ++ [x]) ++ (A ++ B)).Perm M := by
    refine List.Perm.trans ?_ hperm
    rw [hAB, List.append_assoc]
    exact List.Perm.append_left _ (show (x :: (A ++ B)).Perm (A ++ x :: B) from List.perm_middle.symm)
   have hDl : D.length ≤ 100000 := by have := hp2.length_eq; have := LM.out; simp at this ⊢; simp at *; omega
   have hni := zbG ho hI
   have hnb := VE ho hcb
   have t5 : Fr No w3 (w3.alloc (.cells (zj x.1).toArray 41)) := (Fr.refl No w3).alloc _
   have ho3 := zl (zl ho f3 (fun j e e' => hni j e e')) t5 (fun _ _ => id)
   have hcb3 := t5.obj (f3.obj hcb (fun e => by have := HB.out; omega)) id
   have hlt := fun j e => ho.lt j e
   have fr4 : Fr No w (w3.alloc (.cells (zj x.1).toArray 41)) := (hfr.trans f3 (fun i hi e => by have := HB.out; omega)).trans0 t5
   obtain ⟨v5, w5, hap, ho5, f5, -, -⟩ := xj (P := Tryz.prog) _ bx 38 38 41 32 32 _ xB xI rfl (by decide) ho3 (zj x.1) HX.out zV (by omega) (by unfold maxLen; omega) (by have := fr4.size; omega)
   have HO5 := Hd (show w5.ownsRow bx 41 32 v5 (D ++ [x]).length (((D ++ [x]).map (·.1)).flatMap zj) by simpa using ho5)
   have HI5 := Hd ((hI2.keep t5 id id).keep f5 (fun e => by have := (hlt b e).1; have := MLT.out; omega) (fun e => hni r e rfl))
   have F5 := Hd (fr4.trans f5 (fun i hi e => by have := (hlt i e).1; omega))
   have CB5 := Hd (f5.obj hcb3 (fun e => hnb bx e rfl))
   obtain ⟨la, lc, rfl⟩ := ho.slice.arg.form
   obtain ⟨a5, c5, rfl⟩ := ho5.slice.arg.form
   have HAP := Hd hap
   have HP := Hd hp2
   have HR := Hd (show (A ++ B).length < gk by rw [← hm, hAB]; simp)
   have RN := Hd (zC w3 (zj x.1) 41)
   clear hI hI2 ho ho3 ho5 hfr fr4 hx hp2 hDl t5 hap f5 hAB hperm hm f3 hni hlt hcb hcb3 hnb
   unfold yW QH at hnx hent
   go_wp2_with (first | refine vL rfl rfl rfl hnx ?_ | refine JY rfl rfl rfl hent ?_ | (refine zq rfl (zm (w := w3) (cs := zj x.1) (ty := 41) rfl rfl rfl (by rw [HX.out]; rfl) (by rw [HX.out]; exact zr) zV) ?_) | (refine zd rfl (zf (ty := 41) rfl rfl RN.out uK rK (by rw [HX.out]; exact zr)) ?_) | (refine zd rfl (zZ (t := 38) rfl rfl xB qs rfl (by decide) (by decide) HX.out) ?_) | (at_builtin; refine zW rfl rfl rfl rfl HAP.out ?_))
   go_roundg (A ++ B).length
   case measure => exact HR.out
   case rel => exact ⟨D ++ [x], A ++ B, HP.out, rfl, HI5.out, HO5.out, CB5.out, F5.out⟩
end
end Go.Proofs.YtdkkjchclkjleaaGreatDoor

/- kin: Up, Down, All. -/
namespace Go.Proofs.YtdkkjchclkjleaaGreatDoor
open Go Go.RowKit Go.Maps Go.MapKept Go.Sort
theorem Yc {w : World} {B B' k n : Nat} {e : TypeId} {v : Value} {xs : List Value} (h : w.ownsRow B e k v n xs) (hB : B' ≤ B) : w.ownsRow B' e k v n xs :=
 ⟨h.1, h.2.imp id fun ⟨g, cp, cur, a1, a2, a3⟩ => ⟨g, cp, cur, a1, Nat.le_trans hB a2, a3⟩⟩
def RowK (w w' : World) (v : Value) (S : List zi) : Prop := w'.ownsRow w.heap.size 41 32 v S.length (S.flatMap zj) ∧ Fr No w w'
section
variable {w0 w : World} {p N : Nat} {V : Nat → Prop} {G : List yE}
theorem YJ (up : Bool) (l : List zi) : (zbM up G l).Sublist (ids G) := by
 cases up
 ·exact qj l
 ·exact qJ l
set_option maxRecDepth 20000 in
theorem zjH (h : GC w0 w p V G N) (hN : N ≤ 1000) {v : Value} {l : List zi} (hl : yV w v l) (hl2 : l.length ≤ 1000) :
  Calls Tryz.prog 87 #[.pointer (some ⟨p, 0, none⟩), v] w fun e w' => ∃ v', e = .returned v' ∧ RowK w w' v' (upS G l) := by
 have HC := Hd h
 have HL := Hd hl
 clear h hl
 go_enter Tryz.func87, Tryz.ntmps87
 go_wp2_with (first | (go_at_call 93; refine (zdz HC.out hN HL.out hl2 true).mono ?_; rintro e w2 ⟨b, M, rfl, hm, hs, hb, f2⟩; have HM := Hd hm; have HS := Hd hs; have F2 := Hd f2; clear hm hs f2) | (go_at_call 100; refine (zaj (HC.out.fr0 F2.out) hN HM.out HS.out (YJ true l)).mono ?_; rintro e w3 ⟨v3, rfl, o3, f3⟩; have O3 := Hd (Yc o3 F2.out.size); have F3 := Hd (F2.out.trans0 f3); clear o3 f3))
 go_ret
 exact ⟨_, rfl, O3.out, F3.out⟩
set_option maxRecDepth 20000 in
theorem zju (h : GC w0 w p V G N) (hN : N ≤ 1000) {v : Value} {l : List zi} (hl : yV w v l) (hl2 : l.length ≤ 1000) :
  Calls Tryz.prog 131 #[.pointer (some ⟨p, 0, none⟩), v] w fun e w' => ∃ v', e = .returned v' ∧ RowK w w' v' (qm G l) := by
 have HC := Hd h
 have HL := Hd hl
 clear h hl
 go_enter Tryz.func131, Tryz.ntmps131
 go_wp2_with (first | (go_at_call 93; refine (zdz HC.out hN HL.out hl2 false).mono ?_; rintro e w2 ⟨b, M, rfl, hm, hs, hb, f2⟩; have HM := Hd hm; have HS := Hd hs; have F2 := Hd f2; clear hm hs f2) | (go_at_call 100; refine (zaj (HC.out.fr0 F2.out) hN HM.out HS.out (YJ false l)).mono ?_; rintro e w3 ⟨v3, rfl, o3, f3⟩; have O3 := Hd (Yc o3 F2.out.size); have F3 := Hd (F2.out.trans0 f3); clear o3 f3))
 go_ret
 exact ⟨_, rfl, O3.out, F3.out⟩
set_option maxRecDepth 20000 in
set_option maxHeartbeats 4000000 in
theorem zjY (h : GC w0 w p V G N) (hN : N ≤ 1000) :
  Calls Tryz.prog 55 #[.pointer (some ⟨p, 0, none⟩)] w fun e w' => ∃ v', e = .returned v' ∧ RowK w w' v' (ids G) := by
 obtain ⟨dK, uK, rK⟩ := yj
 obtain ⟨m, sq, L, hr, -, hG, -, -⟩ := h.ex
 have hIds : ids G = L.map (·.id) := by rw [← hG]; simp [ids, Function.comp]
 obtain ⟨Mg, hM, hMs⟩ := hr.map
 have f1 : Fr No w (w.alloc (.map #[] 0)) := (Fr.refl No w).alloc _
 have hM1 := hM.keep f1 id
 obtain ⟨clk, hrng, hit⟩ := hM1.rangeI jN
 have c1 := f1.cell (Xe hr.obj).1 id
 have hin := (show jQ (w.alloc (.map #[] 0)) w.heap.size [] from yl.made w)
 have f2 : Fr No (w.alloc (.map #[] 0)) ((w.alloc (.map #[] 0)).alloc (.mapIter (some m) clk #[] clk)) := (Fr.refl No _).alloc _
 have HI0 := Hd (show vN Tryz.prog 41 yW YG ((w.alloc (.map #[] 0)).alloc (.mapIter (some m) clk #[] clk)) (w.heap.size + 1) m Mg Mg by rw [show w.heap.size + 1 = (w.alloc (.map #[] 0)).heap.size by simp]; exact hit)
 have HM0 := Hd (hin.keep f2 id)
 have F0 := Hd (f1.trans0 f2)
 have m1 := X9
 have KS := Hd (show ∀ k, k ∈ Mg.map (·.1) ↔ k ∈ ids G from fun k => by
  rw [hIds]
  constructor
  ·intro hk
   obtain ⟨⟨k', b'⟩, hx, rfl⟩ := List.mem_map.1 hk
   obtain ⟨r, hr', e, -⟩ := (hMs k' b').1 hx
   exact List.mem_map.2 ⟨r, hr', e⟩
  ·intro hk
   obtain ⟨r, hr', rfl⟩ := List.mem_map.1 hk
   exact List.mem_map.2 ⟨(r.id, r.b), (hMs _ _).2 ⟨r, hr', rfl, rfl⟩, rfl⟩)
 have LN := Hd (show Mg.length ≤ 1000 by
  have := xM (m := ids G) hM.nodup (fun x hx => (KS.out x).1 hx)
  have h2 := h.len
  simp only [ids, List.length_map] at this
  omega)
 have OKM := Hd (show ∀ x ∈ Mg, zQ x.1 from fun x hx => h.okId x.1 ((KS.out x.1).1 (List.mem_map.2 ⟨x, hx, rfl⟩)))
 have HC := Hd h
 have MB := Hd hM.lt
 have zh := y6
 clear h hr hG hIds hM hMs hM1 hit hin f1 f2
 go_enter Tryz.func55, Tryz.ntmps55
 go_wp2_with (refine J1 rfl rfl rfl hrng ?_)
 rw [show (w.alloc (.map #[] 0)).heap.size = w.heap.size + 1 by simp]
 generalize (w.alloc (.map #[] 0)).alloc (.mapIter (some m) clk #[] clk) = W at *
 generalize hb : w.heap.size = b at *
 clear hrng m1 c1
 try simp only [Act.put, pA, pB, pC]
 go_loopg [] Mg.length (fun n wr => ∃ (D R : List (zi × Nat)) (Mi : List (zi × Int)), (D ++ R).Perm Mg ∧ R.length = n ∧ vN Tryz.prog 41 yW YG wr (b + 1) m Mg R ∧ jQ wr b Mi ∧ (∀ k c, (k, c) ∈ Mi ↔ c = 1 ∧ k ∈ D.map (·.1)) ∧ Mi.length ≤ D.length ∧ Fr No w wr)
 case atStart => exact ⟨[], Mg, [], List.Perm.refl _, rfl, HI0.out, HM0.out, by simp, Nat.le_refl _, F0.out⟩
 case round =>
  obtain ⟨D, R, Mi, hperm, hm, hI, hin, hmem, hml, hfr⟩ := hrel
  cases R with
  | nil =>
   have hnx := hI.stop
   rw [List.append_nil] at hperm
   have FR := Hd hfr
   have HM := Hd hin
   have HS := Hd (show ∀ k c, (k, c) ∈ Mi ↔ c = 1 ∧ k ∈ ids G from fun k c => by
    rw [hmem, ← KS.out, (hperm.map (·.1)).mem_iff])
   clear hI hperm hm hfr hin hmem hml
   go_wp2_with (first | (refine vL rfl rfl rfl (hnx _) ?_) | (go_at_call 100; refine (zaj (HC.out.fr0 FR.out) hN HM.out HS.out (List.Sublist.refl _)).mono ?_; rintro e w3 ⟨v3, rfl, o3, f3⟩; have O3 := Hd (Yc o3 FR.out.size); have F3 := Hd (FR.out.trans0 f3); clear o3 f3))
   go_ret
   exact ⟨_, rfl, O3.out, F3.out⟩
  | cons x0 R0 =>
   obtain ⟨A, x, B, w3, hAB, hnx, hI2, f3, hent⟩ := hI.step (by simp) 0
   have hx : x ∈ Mg := hperm.subset (by rw [hAB]; simp)
   have XOK := Hd (OKM.out x hx)
   have HX := Hd (zE XOK.out)
   have hp2 : ((D ++ [x]) ++ (A ++ B)).Perm Mg := by
    refine List.Perm.trans ?_ hperm
    rw [hAB, List.append_assoc]
    exact List.Perm.append_left _ (show (x :: (A ++ B)).Perm (A ++ x :: B) from List.perm_middle.symm)
   have hDl : D.length ≤ 1000 := by have := hp2.length_eq; have := LN.out; simp at this ⊢; simp at *; omega
   have t5 : Fr No w3 (w3.alloc (.cells (zj x.1).toArray 41)) := (Fr.refl No w3).alloc _
   have hlt := hin.lt
   obtain ⟨w4, Mi', hup, hin4, hupd, htu, hml4⟩ := ((hin.keep f3 (by omega)).keep t5 id).upd xy.keyed qO (fun _ _ => yS) (yd XOK.out) (show Mi.length < maxLen by unfold maxLen; omega) 1
   have f4 : Fr No w w4 := ((hfr.trans f3 (fun i hi e => by omega)).trans0 t5).trans htu.fr (fun i hi e => by omega)
   have HI4 := Hd ((hI2.keep t5 id id).keep htu.fr (by have := MB.out; omega) (by omega))
   have HM4 := Hd hin4
   have HS4 := Hd (show ∀ k c, (k, c) ∈ Mi' ↔ c = 1 ∧ k ∈ (D ++ [x]).map (·.1) from fun k c => by
    rw [hupd, hmem, List.map_append, List.mem_append]
    constructor
    ·rintro (⟨rfl, rfl⟩ | ⟨_, h2, h3⟩)
     ·exact ⟨rfl, .inr (by simp)⟩
     ·exact ⟨h2, .inl h3⟩
    ·rintro ⟨rfl, h2⟩
     by_cases e : k = x.1
     ·exact .inl ⟨e, rfl⟩
     ·exact .inr ⟨e, rfl, h2.elim id (fun h => absurd (by simpa using h) e)⟩)
   have HL4 := Hd (show Mi'.length ≤ (D ++ [x]).length by simp; omega)
   have F4 := Hd f4
   have HP := Hd hp2
   have HR := Hd (show (A ++ B).length < gk by rw [← hm, hAB]; simp)
   have RN := Hd (zC w3 (zj x.1) 41)
   clear hI hI2 hfr hx hp2 hDl t5 hAB hperm hm f3 hlt hin hmem hml hin4 hupd htu hml4 f4
   unfold yW YG at hnx hent
   unfold yW QH at hup
   go_wp2_with (first | refine vL rfl rfl rfl hnx ?_ | refine JY rfl rfl rfl hent ?_ | (refine zq rfl (zm (w := w3) (cs := zj x.1) (ty := 41) rfl rfl rfl (by rw [HX.out]; rfl) (by rw [HX.out]; exact zr) zV) ?_) | (refine zd rfl (zf (ty := 41) rfl rfl RN.out uK rK (by rw [HX.out]; exact zr)) ?_) | (refine zq rfl (y5 rfl rfl rfl rfl hup) ?_))
   go_roundg (A ++ B).length
   case measure => exact HR.out
   case rel => exact ⟨D ++ [x], A ++ B, Mi', HP.out, rfl, HI4.out, HM4.out, HS4.out, HL4.out, F4.out⟩
end
end Go.Proofs.YtdkkjchclkjleaaGreatDoor

/- kin: a node's lists turned. -/
namespace Go.Proofs.YtdkkjchclkjleaaGreatDoor
open Go Go.RowKit Go.Maps Go.MapKept
abbrev Tri := zi × List zi × List zi
def ym.t3 (r : ym) : Tri := (r.id, r.ps, r.ks)
def vZ (G : List yE) : List Tri := G.map fun n => (n.id, n.ps, kid G n.id)
theorem jI (G : List yE) : (vZ G).map (·.1) = ids G := by simp [vZ, ids, Function.comp]
theorem step_map {T : List Tri} (hn : (T.map (·.1)).Nodup) {f g : Tri → Tri} (hf : ∀ t, (f t).1 = t.1) {q : zi} {A B : List ym} {r r' : ym} (hL : (A ++ r :: B).map ym.t3 = T.map f) (hr : r.id = q) (hg : ∀ t ∈ T, t.1 = q → f t = r.t3 → g t = r'.t3) (hg2 : ∀ t ∈ T, t.1 ≠ q → g t = f t) : (A ++ r' :: B).map ym.t3 = T.map g := by
 rw [List.map_append, List.map_cons] at hL ⊢
 obtain ⟨TA, T2, rfl, hA, h2⟩ := List.map_eq_append_iff.1 hL.symm
 obtain ⟨t, TB, rfl, ht, hB⟩ := List.map_eq_cons_iff.1 h2
 have hq : t.1 = q := by rw [← hf t, ht]; exact hr
 rw [List.map_append, List.map_cons] at hn
 obtain ⟨n1, n2, n3⟩ := List.nodup_append.1 hn
 obtain ⟨n4, n5⟩ := List.nodup_cons.1 n2
 rw [List.map_append, List.map_cons, ← hA, ← hB]
 congr 1
 ·refine List.map_congr_left fun s hs => (hg2 s (by simp [hs]) fun e => ?_).symm
  exact n3 s.1 (List.mem_map.2 ⟨s, hs, rfl⟩) t.1 (by simp) (by rw [e, hq])
 ·congr 1
  ·exact (hg t (by simp) hq ht).symm
  ·refine List.map_congr_left fun s hs => (hg2 s (by simp [hs]) fun e => ?_).symm
   exact n4 (by rw [hq, ← e]; exact List.mem_map.2 ⟨s, hs, rfl⟩)
theorem Y6 {T : List Tri} {f : Tri → Tri} (hf : ∀ t, (f t).1 = t.1) {L : List ym} (hL : L.map ym.t3 = T.map f) {q : zi} (hq : q ∈ T.map (·.1)) : ∃ A r B, L = A ++ r :: B ∧ r.id = q ∧ ∃ t ∈ T, t.1 = q ∧ f t = r.t3 := by
 obtain ⟨t, ht, rfl⟩ := List.mem_map.1 hq
 have h1 : f t ∈ L.map ym.t3 := by rw [hL]; exact List.mem_map.2 ⟨t, ht, rfl⟩
 obtain ⟨r, hr, e⟩ := List.mem_map.1 h1
 obtain ⟨A, B, rfl⟩ := List.append_of_mem hr
 refine ⟨A, r, B, rfl, ?_, t, ht, rfl, e.symm⟩
 have := congrArg Prod.fst e
 rw [hf] at this
 exact this
section
variable {w0 w : World} {p m sq : Nat} {A B : List ym} {r : ym}
theorem GR.blks_nodup (h : GR w0 w p m sq (A ++ r :: B)) : r.blks.Nodup := by
 have := h.apart
 rw [xg] at this
 exact (List.nodup_append.1 (List.nodup_append.1 this).2.1).1
theorem qf {j : Nat} : j ∈ r.blks ↔ j = r.b ∨ r.pv.ownBlock = some j ∨ r.cv.ownBlock = some j := by
 unfold ym.blks
 simp only [List.mem_cons, List.mem_append, Option.mem_toList]
theorem YX (h : r.blks.Nodup) : (r.pv.ownBlock ≠ some r.b) ∧ (r.cv.ownBlock ≠ some r.b) ∧ ∀ j, r.pv.ownBlock = some j → r.cv.ownBlock ≠ some j := by
 unfold ym.blks at h
 obtain ⟨h1, h2⟩ := List.nodup_cons.1 h
 obtain ⟨h3, h4, h5⟩ := List.nodup_append.1 h2
 refine ⟨fun e => h1 (by simp [e]), fun e => h1 (by simp [e]), fun j e1 e2 => h5 j (by simp [e1]) j (by simp [e2]) rfl⟩
theorem zbE {b : Nat} {pv cv : Value} (h1 : pv.ownBlock ≠ some b) (h2 : cv.ownBlock ≠ some b) (h3 : ∀ j, pv.ownBlock = some j → cv.ownBlock ≠ some j) : (b :: (pv.ownBlock.toList ++ cv.ownBlock.toList)).Nodup := by
 refine List.nodup_cons.2 ⟨fun h => ?_, List.nodup_append.2 ⟨?_, ?_, fun a ha c hc e => ?_⟩⟩
 ·simp only [List.mem_append, Option.mem_toList] at h
  exact h.elim h1 h2
 ·cases pv.ownBlock <;> simp
 ·cases cv.ownBlock <;> simp
 ·rw [Option.mem_toList] at ha hc
  exact h3 a ha (by rw [e]; exact hc)
theorem GR.setc (h : GR w0 w p m sq (A ++ r :: B)) {w1 : World} {v' : Value} {ks' : List zi} (f : Fr (fun j => r.cv.ownBlock = some j) w w1) (ho : w1.ownsRow w0.heap.size 41 32 v' ks'.length (ks'.flatMap zj)) (hn : ∀ j, v'.ownBlock = some j → r.cv.ownBlock = some j ∨ w.heap.size ≤ j) (ok : ∀ x ∈ ks', zQ x) :
  GR w0 (w1.setCell ⟨r.b, 2, none⟩ v') p m sq (A ++ { r with ks := ks', cv := v' } :: B) ∧ Fr (fun j => j ∈ r.blks) w (w1.setCell ⟨r.b, 2, none⟩ v') := by
 have hnd := h.blks_nodup
 obtain ⟨a1, a2, a3⟩ := YX hnd
 have hN := h.node r (by simp)
 have hbl := xf hN.blk
 have f2 : Fr (fun j => j ∈ r.blks) w (w1.setCell ⟨r.b, 2, none⟩ v') := (f.mono (fun j e => qf.2 (.inr (.inr e)))).setCell ⟨r.b, 2, none⟩ (.inr (qf.2 (.inl rfl))) v'
 have f3 : Fr (fun j => j = r.b) w1 (w1.setCell ⟨r.b, 2, none⟩ v') := (Fr.refl (fun j => j = r.b) w1).setCell ⟨r.b, 2, none⟩ (.inr rfl) v'
 have hv : v'.ownBlock ≠ some r.b := fun e => (hn _ e).elim a2 (fun e => by omega)
 have hpl := fun j e => (hN.prow.lt j e).2
 refine ⟨h.turn f2 (fun _ h => h) ⟨?_, ?_, ?_⟩ rfl rfl rfl (fun j hj => ?_) ?_ ⟨(h.ok r (by simp)).1, (h.ok r (by simp)).2.1, ok⟩, f2⟩
 ·have := heap_setCell_same w1 r.b 2 _ _ v' (f.obj hN.blk a2)
  simpa using this
 ·exact zl (zl hN.prow f (fun j e => a3 j e)) f3 (fun j e e2 => a1 (by rw [e, e2]))
 ·exact zl ho f3 (fun j e e2 => hv (by rw [e, e2]))
 ·rw [qf] at hj ⊢
  rcases hj with hj | hj | hj
  ·exact .inl (.inl hj)
  ·exact .inl (.inr (.inl hj))
  ·exact (hn j hj).imp (fun e => .inr (.inr e)) id
 ·refine zbE a1 hv fun j e e2 => ?_
  rcases hn j e2 with h1 | h1
  ·exact a3 j e h1
  ·have := hpl j e; omega
theorem GR.setp (h : GR w0 w p m sq (A ++ r :: B)) {w1 : World} {v' : Value} {ps' : List zi} (f : Fr (fun j => r.pv.ownBlock = some j) w w1) (ho : w1.ownsRow w0.heap.size 41 32 v' ps'.length (ps'.flatMap zj)) (hn : ∀ j, v'.ownBlock = some j → r.pv.ownBlock = some j ∨ w.heap.size ≤ j) (ok : ∀ x ∈ ps', zQ x) :
  GR w0 (w1.setCell ⟨r.b, 1, none⟩ v') p m sq (A ++ { r with ps := ps', pv := v' } :: B) ∧ Fr (fun j => j ∈ r.blks) w (w1.setCell ⟨r.b, 1, none⟩ v') := by
 have hnd := h.blks_nodup
 obtain ⟨a1, a2, a3⟩ := YX hnd
 have hN := h.node r (by simp)
 have hbl := xf hN.blk
 have f2 : Fr (fun j => j ∈ r.blks) w (w1.setCell ⟨r.b, 1, none⟩ v') := (f.mono (fun j e => qf.2 (.inr (.inl e)))).setCell ⟨r.b, 1, none⟩ (.inr (qf.2 (.inl rfl))) v'
 have f3 : Fr (fun j => j = r.b) w1 (w1.setCell ⟨r.b, 1, none⟩ v') := (Fr.refl (fun j => j = r.b) w1).setCell ⟨r.b, 1, none⟩ (.inr rfl) v'
 have hv : v'.ownBlock ≠ some r.b := fun e => (hn _ e).elim a1 (fun e => by omega)
 have hcl := fun j e => (hN.crow.lt j e).2
 refine ⟨h.turn f2 (fun _ h => h) ⟨?_, ?_, ?_⟩ rfl rfl rfl (fun j hj => ?_) ?_ ⟨(h.ok r (by simp)).1, ok, (h.ok r (by simp)).2.2⟩, f2⟩
 ·have := heap_setCell_same w1 r.b 1 _ _ v' (f.obj hN.blk a1)
  simpa using this
 ·exact zl ho f3 (fun j e e2 => hv (by rw [e, e2]))
 ·exact zl (zl hN.crow f (fun j e e3 => a3 j e3 e)) f3 (fun j e e2 => a2 (by rw [e, e2]))
 ·rw [qf] at hj ⊢
  rcases hj with hj | hj | hj
  ·exact .inl (.inl hj)
  ·exact (hn j hj).imp (fun e => .inr (.inl e)) id
  ·exact .inl (.inr (.inr hj))
 ·refine zbE hv a2 fun j e e2 => ?_
  rcases hn j e with h1 | h1
  ·exact a3 j h1 e2
  ·have := hcl j e2; omega
end
theorem GC.tri {w0 w : World} {p N : Nat} {V : Nat → Prop} {G : List yE} (h : GC w0 w p V G N) : ∃ m sq L, GR w0 w p m sq L ∧ V = (fun j => j ∈ yu p m L) ∧ L.map ym.t3 = vZ G ∧ sq ≤ N := by
 obtain ⟨m, sq, L, hr, hv, hG, hks, hsq⟩ := h.ex
 refine ⟨m, sq, L, hr, hv, ?_, hsq⟩
 rw [vZ]
 conv => rhs; rw [← hG]
 rw [List.map_map]
 refine List.map_congr_left fun r hr' => ?_
 simp only [ym.t3, Function.comp, hks r hr', hG]
theorem GC.of_tri {w0 w : World} {p m sq N : Nat} {G : List yE} {L : List ym} (hr : GR w0 w p m sq L) (hG : L.map ym.t3 = vZ G) (hsq : sq ≤ N) (ok : GOk G) (hl : G.length ≤ N) : GC w0 w p (fun j => j ∈ yu p m L) G N := by
 refine ⟨⟨m, sq, L, hr, rfl, ?_, fun r hr' => ?_, hsq⟩, ok, hl⟩
 ·have := congrArg (List.map fun t : Tri => (⟨t.1, t.2.1⟩ : yE)) hG
  rw [List.map_map, vZ, List.map_map] at this
  refine this.trans ?_
  conv => rhs; rw [← List.map_id G]
  rfl
 ·have h1 : r.t3 ∈ vZ G := by rw [← hG]; exact List.mem_map.2 ⟨r, hr', rfl⟩
  obtain ⟨n, hn, e⟩ := List.mem_map.1 h1
  unfold ym.t3 at e
  injection e with e1 e2
  injection e2 with e2 e3
  rw [← e3, e1]
end Go.Proofs.YtdkkjchclkjleaaGreatDoor

/- kin: cut. -/
namespace Go.Proofs.YtdkkjchclkjleaaGreatDoor
open Go Go.RowKit Go.Maps Go.MapKept
def zay (x : zi) (done : List zi) (t : Tri) : Tri := (t.1, t.2.1, if t.1 ∈ done then t.2.2.filter (fun y => decide (y ≠ x)) else t.2.2)
def QC (x : zi) (ps done : List zi) (t : Tri) : Tri := (t.1, if t.1 ∈ done then t.2.1.filter (fun y => decide (y ≠ x)) else t.2.1, if t.1 ∈ ps then t.2.2.filter (fun y => decide (y ≠ x)) else t.2.2)
theorem za1 {x : zi} {l : List zi} (h : x ∉ l) : l.filter (fun y => decide (y ≠ x)) = l := List.filter_eq_self.2 fun y hy => by simp; rintro rfl; exact h hy
theorem zhV {G : List yE} (ok : GOk G) (x : zi) : vZ (YQ G x) = ((vZ G).map (QC x (par G x) (kid G x))).filter fun t => decide (t.1 ≠ x) := by
 have hk : ∀ y, kid (YQ G x) y = if y = x then [] else (kid G y).filter fun z => decide (z ≠ x) := by
  intro y
  by_cases e : y = x
  ·subst e
   rw [if_pos rfl]
   refine List.eq_nil_iff_forall_not_mem.2 fun z hz => ?_
   obtain ⟨n, hn, -, hy⟩ := QP.1 hz
   unfold YQ at hn
   obtain ⟨n', -, rfl⟩ := List.mem_map.1 hn
   simp at hy
  ·rw [if_neg e]
   unfold kid YQ
   rw [List.filter_map, List.map_map, List.filter_filter, List.filter_map, List.filter_filter]
   congr 1
   refine List.filter_congr fun n _ => ?_
   simp only [Function.comp, List.mem_filter, ne_eq, e, decide_not]
   rw [Bool.and_comm]
   simp
 unfold vZ
 conv => lhs; unfold YQ
 rw [List.map_map, List.map_map, List.filter_map]
 have hfil : G.filter ((fun t : Tri => decide (t.1 ≠ x)) ∘ (QC x (par G x) (kid G x) ∘ fun n => (n.id, n.ps, kid G n.id))) = G.filter fun n => decide (n.id ≠ x) := rfl
 rw [hfil]
 refine List.map_congr_left fun n hn => ?_
 obtain ⟨hn1, hn2⟩ := List.mem_filter.1 hn
 simp only [decide_eq_true_eq] at hn2
 simp only [Function.comp, QC]
 refine Prod.ext rfl (Prod.ext ?_ ?_)
 ·show n.ps.filter (fun y => decide (y ≠ x)) = if n.id ∈ kid G x then n.ps.filter (fun y => decide (y ≠ x)) else n.ps
  by_cases h : n.id ∈ kid G x
  ·rw [if_pos h]
  ·rw [if_neg h]
   exact za1 fun hx => h (QP.2 ⟨n, hn1, rfl, hx⟩)
 ·show kid (YQ G x) n.id = if n.id ∈ par G x then (kid G n.id).filter (fun y => decide (y ≠ x)) else kid G n.id
  rw [hk, if_neg hn2]
  by_cases h : n.id ∈ par G x
  ·rw [if_pos h]
  ·rw [if_neg h]
   refine za1 fun hx => h ?_
   obtain ⟨n', hn', rfl, h2⟩ := QP.1 hx
   rw [vY ok hn']
   exact h2
def zj6 (w0 w : World) (p : Nat) (V : Nat → Prop) (G : List yE) (N : Nat) (x : zi) (e : Ending) (w' : World) : Prop :=
 e = .returned (.tuple #[]) ∧ ∃ V', GC w0 w' p V' (YQ G x) N ∧ Fr V w w' ∧ ∀ j, V' j → V j
structure Qo (w0 w wr : World) (p m sq : Nat) (L L' : List ym) (T : List Tri) (r0 : ym) : Prop where
 gr : GR w0 wr p m sq L'
 tri : L'.map ym.t3 = T
 r0 : r0 ∈ L'
 sub : ∀ j ∈ yu p m L', j ∈ yu p m L
 fr : Fr (fun j => j ∈ yu p m L) w wr
section
variable {w0 w : World} {p m sq : Nat}
theorem zco {wr w1 : World} {L A B : List ym} {r r0 r' : ym} {T T' : List Tri} (h : Qo w0 w wr p m sq L (A ++ r :: B) T r0) (hg : GR w0 w1 p m sq (A ++ r' :: B)) (f : Fr (fun j => j ∈ r.blks) wr w1) (hs : ∀ j ∈ r'.blks, j ∈ r.blks) (hne : r0.id ≠ r.id) (hT : (A ++ r' :: B).map ym.t3 = T') : Qo w0 w w1 p m sq L (A ++ r' :: B) T' r0 := by
 refine ⟨hg, hT, ?_, fun j hj => h.sub j ?_, h.fr.trans f fun i _ hi => h.sub i ?_⟩
 ·rcases List.mem_append.1 h.r0 with h1 | h1
  ·exact List.mem_append.2 (.inl h1)
  ·rcases List.mem_cons.1 h1 with rfl | h1
   ·exact absurd rfl hne
   ·exact List.mem_append.2 (.inr (List.mem_cons_of_mem _ h1))
 ·rw [xg] at hj ⊢
  simp only [List.mem_append] at hj ⊢
  exact hj.imp id (fun h => h.imp (hs j) id)
 ·rw [xg]
  simp [hi]
end
end Go.Proofs.YtdkkjchclkjleaaGreatDoor
