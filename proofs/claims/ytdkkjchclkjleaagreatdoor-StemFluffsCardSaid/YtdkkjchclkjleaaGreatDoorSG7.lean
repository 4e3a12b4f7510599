/- A struct literal of its first parts; the rest is zero. -/
import Derived.Test.YtdkkjchclkjleaaGreatDoorSG3
import Derived.Test.YtdkkjchclkjleaaGreatDoorSG6
set_option linter.unusedVariables false
set_option linter.unusedSimpArgs false
set_option linter.unnecessarySimpa false
set_option linter.all false
namespace Go
open Go.RowKit Go.Maps Go.MapKept
theorem ZV {P : Program} {t : TypeId} {w : World} {o : Oper} {ev : Operand → Value} {parts : Array (Nat × Operand)} {vs : List (Nat × Value)} {cs : List Value} (ho : o.op = .build t parts) (hv : (parts.toList.map fun (i, x) => (i, ev x)) = vs) (h : P.built t vs = some cs.toArray) :
  (execOp ev o).run P w = .ok (.value (.agg cs.toArray)) w := by
 have := run_build w t (parts.map fun (i, x) => (i, ev x)) _ (by rw [Array.toList_map, hv]; exact h)
 simp only [execOp, ho, Sem.run_bind, this, Result.andThen_ok, Sem.run_pure]
end Go

/- sha: add. -/
namespace Go.Proofs.YtdkkjchclkjleaaGreatDoor
open Go Go.RowKit Go.Maps Go.MapKept
theorem ZI {P : Program} {ops : Array Oper} {rest : List Oper} {o : Oper} {a : Act} {w w' : World} {Q : Exit → Act → World → Prop} {s x : Operand} {ts : Array TypeId} {sv xv v : Value} (hg : o.guard = none)
  (hop : o.op = .call { callee := .builtin .copy, args := #[s, x], argTypes := ts }) (hs : a.eval s = sv) (hx : a.eval x = xv)
  (hrun : (Builtin.copy_ ts o.type #[sv, xv]).run P w = .ok v w') (h : wpList P ops Q rest (a.put o.dst v) w') : wpList P ops Q (o :: rest) a w := by
 refine wpList_plain hg fun K' hK' => ?_
 unfold Oper.wp
 have he : (execOp a.eval o).run P w = .ok (.value v) w' := by
  simp [execOp, hop, resolve, hs, hx, invoke, builtin, hrun, Result.andThen]
 rw [he]
 exact hK' _ _ h
theorem XN {n : Int} (h0 : 0 ≤ n) (h1 : n < 18446744073709551616) : bits .and .u64 n 63 = n % 64 := bits_mask .u64 64 (by decide) (fun n h0 h1 => by simp [IntKind.wrap, IntKind.bits, IntKind.signed]; omega) 6 (by decide) n h0 (by omega)
def vK (w : World) (p : Nat) (v : Value) (l : List Int) : Prop := (l = [] ∧ ∃ a c, v = .slice a 0 c) ∨ ∃ b o c, v = .slice (some ⟨b, o, none⟩) l.length c ∧ b ≠ p ∧ w.rangeAt b o (l.map zP) ∧ l.length ≤ c
theorem vK.keep {w w' : World} {p : Nat} {v : Value} {l : List Int} (h : vK w p v l) (f : Fr (fun j => j = p) w w') : vK w' p v l := by
 rcases h with h | ⟨b, o, c, h1, h2, h3, h4⟩
 ·exact .inl h
 ·exact .inr ⟨b, o, c, h1, h2, zb h3 f h2, h4⟩
theorem vK.form {w : World} {p : Nat} {v : Value} {l : List Int} (h : vK w p v l) : ∃ a c, v = .slice a l.length c := by
 rcases h with ⟨rfl, a, c, h⟩ | ⟨b, o, c, h1, -⟩
 ·exact ⟨a, c, h⟩
 ·exact ⟨_, c, h1⟩
theorem zf7 : (Tryz.prog.info? 267).map (·.size) = some 8 := by kernel_rfl
theorem zfR : ∃ d, Tryz.prog.underlying 267 = some d ∧ d.isRow = true := jf (by kernel_rfl)
def zjJ : Value → Nat
 | .slice _ n _ => n
 | _ => 0
set_option maxRecDepth 20000 in
set_option maxHeartbeats 8000000 in
theorem QY {w : World} (hg : j7 w) (hw2 : 3 < w.heap.size) {p : Nat} {h : vE} (ok : qF h) (hb : w.heap[p]? = some (.cells (yv h).toArray 270 (0, 0))) (hp : p ≠ 0 ∧ p ≠ 3) {v : Value} {l : List Int} (hl : vK w p v l) (hn : h.n + l.length ≤ 4611686018427387904) :
  Calls Tryz.prog 156 #[.pointer (some ⟨p, 0, none⟩), v] w fun e w' => e = .returned (.tuple #[]) ∧ w'.heap[p]? = some (.cells (yv (l.foldl xF h)).toArray 270 (0, 0)) ∧ Fr (fun j => j = p) w w' := by
 have HG := Hd hg
 have HW := Hd hw2
 have HP := Hd hp
 have OK := Hd ok
 have HB := Hd hb
 have HL := Hd hl
 clear hg hw2 hp ok hb
 obtain ⟨va, vc, rfl⟩ := hl.form
 clear hl
 go_enter Tryz.func156, Tryz.ntmps156
 refine wp_block ?_
 go_loopw [1] (fun pv wr => ∃ d r : List Int, l = d ++ r ∧ vK wr p pv r ∧ wr.heap[p]? = some (.cells (yv (d.foldl xF h)).toArray 270 (0, 0)) ∧ Fr (fun j => j = p) w wr) (fun pv _ => zjJ pv)
 case atStart => exact ⟨[], l, rfl, HL.out, HB.out, Fr.refl _ _⟩
 case round =>
  obtain ⟨d, r, rfl, hby, hb, fr⟩ := hrel
  have FR := Hd fr
  have HBr := Hd hb
  have BY := Hd hby
  have OKd := Hd (OK.out.adds (l := d))
  have ND := Hd (Yx d h)
  have FD := Hd (List.foldl_append (f := xF) (b := h) (l := d) (l' := r))
  clear fr hb
  generalize hhd : d.foldl xF h = hd at *
  by_cases hr : r = []
  ·subst hr
   obtain ⟨a0, c0, rfl⟩ := hby.form
   have E := Hd (show (d ++ []).foldl xF h = hd by rw [List.append_nil, hhd])
   clear hby
   have j0 : ¬ (0 : Int) < 0 := by omega
   go_wp2
   (try simp only [Exit.inBlock, Exit.then])
   refine bodyPost_end (results_none rfl _ _ _) rfl ?_
   exact ⟨rfl, HBr.out, FR.out⟩
  ·obtain ⟨b, o, c, rfl, hbp, hrg, hrc⟩ := hby.resolve_left (fun e => hr e.1)
   have r0 : 0 < r.length := by cases r with | nil => exact absurd rfl hr | cons _ _ => simp
   have i1 : (0 : Int) < (r.length : Int) := by omega
   have hln : hd.n + r.length ≤ 4611686018427387904 := by rw [ND.out]; simp only [List.length_append] at hn; omega
   obtain ⟨t, ht⟩ : ∃ t, t = hd.n % 64 := ⟨_, rfl⟩
   have t64 : t < 64 := by omega
   have e1 : bits .and .u64 (hd.n : Int) 63 = (t : Int) := by rw [XN (by omega) (by omega), ht]; omega
   have al : Tryz.prog.arrayLen 268 = 64 := by kernel_rfl
   have t0 : (0 : Int) ≤ (t : Int) := by omega
   have t1 : (t : Int) ≤ 64 := by omega
   have tn : (t : Int).toNat = t := by omega
   have tm : ¬ (64 = t) := by omega
   have S1 := Hd (show ∀ w, (Instr.sliceAt 268 (.pointer (some ⟨p, 8, none⟩)) (some (.int .i64 t)) none none).run Tryz.prog w = .ok (.slice (some ⟨p, 8 + t, none⟩) (64 - t) (64 - t)) w from fun w => by
    have i8 : (sizeOf (Tryz.prog.elem 268)).run Tryz.prog w = .ok 1 w := by kernel_rfl
    rw [run_sliceAt_array_l w _ _ (by kernel_rfl) .i64 t t0 (by rw [al]; exact t1), i8]
    simp [slicedAt, al, tm, J5])
   have s1 := S1.out
   obtain ⟨h8, h64, c72⟩ := qB OKd.out HBr.out
   obtain ⟨k, hk⟩ : ∃ k, k = Nat.min r.length (64 - t) := ⟨_, rfl⟩
   have k1 : 0 < k ∧ k ≤ r.length ∧ k ≤ 64 - t := by rw [hk]; refine ⟨?_, Nat.min_le_left _ _, Nat.min_le_right _ _⟩; exact Nat.lt_min.2 ⟨r0, by omega⟩
   have CL := Hd (show ((r.take k).map zP).length = k by rw [List.length_map, List.length_take]; omega)
   have CP := Hd (run_copy_cells (P := Tryz.prog) wr 106 106 3 5 p (8 + t) (64 - t) (64 - t) ⟨b, o, none⟩ r.length c ((r.take k).map zP) Tryz.underlying106 (by kernel_rfl) (by rw [CL.out, hk]) (fun j v hj => by
     rw [J5]
     refine hrg j v ?_
     rw [List.getElem?_map] at hj ⊢
     rw [List.getElem?_take] at hj
     split at hj
     ·exact hj
     ·simp at hj) (fun j hj => by
     have hj2 : t + j < 64 := by rw [CL.out] at hj; omega
     have := h64 (t + j) _ (List.getElem?_eq_getElem (by rw [List.length_map, OKd.out.op]; exact hj2))
     rw [show 8 + t + j = 8 + (t + j) by omega, this]
     rfl) (fun j hj => yI HBr.out) (fun v hv => by obtain ⟨x, -, rfl⟩ := List.mem_map.1 hv; rfl))
   rw [CL.out] at CP
   obtain ⟨a2, ha2⟩ : ∃ a2 : Option Addr, a2 = if c = k then some ⟨b, o, none⟩ else some ⟨b, o + k, none⟩ := ⟨_, rfl⟩
   have S2 := Hd (show ∀ w, (Instr.slice 106 (.slice (some ⟨b, o, none⟩) r.length c) (some (.int .i64 k)) none none).run Tryz.prog w = .ok (.slice a2 (r.length - k) (c - k)) w from fun w => by
    have i8 : (sizeOf (Tryz.prog.elem 106)).run Tryz.prog w = .ok 1 w := by kernel_rfl
    rw [Go.run_slice_l (P := Tryz.prog) w 106 (some ⟨b, o, none⟩) r.length c (by kernel_rfl) IntKind.i64 (k : Int) (by omega) (by omega), i8, ha2]
    simp [sliced, J5])
   have A2 := Hd (show c ≠ k → a2 = some ⟨b, o + k, none⟩ from fun h => by rw [ha2, if_neg h])
   clear ha2
   have s2 := S2.out
   have kk : (0 : Int) ≤ (k : Int) := by omega
   have OP := Hd (show (wr.setCells p (8 + t) ((r.take k).map zP)).heap[p]? = some (.cells (yv ⟨hd.st, Zs hd.op t (r.take k), hd.n⟩).toArray 270 (0, 0)) by
    have := y7 p 270 ((r.take k).map zP) (8 + t) wr _ HBr.out
    rw [this]
    have e := zde (r.take k) hd.op t (hd.st.map Zg) [.int .u64 hd.n] (by rw [List.length_take, OKd.out.op]; omega)
    rw [List.length_map, OKd.out.st] at e
    unfold yv
    rw [List.toList_toArray, e])
   have FC := Hd (zJ p ((r.take k).map zP) (8 + t) wr)
   have OKc := Hd (show qF ⟨hd.st, Zs hd.op t (r.take k), hd.n⟩ from ⟨OKd.out.st, by rw [Zc]; exact OKd.out.op⟩)
   obtain ⟨z, hz⟩ : ∃ z, z = (hd.n + k) % 64 := ⟨_, rfl⟩
   have e3 : ((hd.n : Int) + (k : Int)) % 18446744073709551616 = (hd.n : Int) + (k : Int) := by omega
   have e2 : bits .and .u64 ((hd.n : Int) + (k : Int)) 63 = (z : Int) := by rw [XN (by omega) (by omega), hz]; omega
   have NX := Hd (show (d ++ r.take k).foldl xF h = zfu hd (r.take k) by
    rw [List.foldl_append, hhd]
    exact VX _ _ (by intro e; have := CL.out; rw [e] at this; simp at this; omega) (by rw [List.length_take]; omega))
   have AC := Hd (show zfu hd (r.take k) = ⟨if z = 0 then qM hd.st (Zs hd.op t (r.take k)) else hd.st, Zs hd.op t (r.take k), hd.n + k⟩ by
    have hlk : (r.take k).length = k := by rw [List.length_take]; omega
    unfold zfu
    rw [hlk, ← hz, ← ht])
   have SP := Hd (show d ++ r = (d ++ r.take k) ++ r.drop k by rw [List.append_assoc, List.take_append_drop])
   have BN := Hd (show ∀ W, Fr (fun j => j = p) wr W → vK W p (.slice a2 (r.length - k) (c - k)) (r.drop k) from fun W f => by
    have hrl : (r.drop k).length = r.length - k := List.length_drop
    by_cases hck : c = k
    ·exact .inl ⟨List.eq_nil_of_length_eq_zero (by omega), a2, c - k, by rw [show r.length - k = 0 by omega]⟩
    ·refine .inr ⟨b, o + k, c - k, by rw [A2.out hck, hrl], hbp, ?_, by omega⟩
     refine zb (fun j v hj => ?_) f hbp
     rw [List.getElem?_map, List.getElem?_drop] at hj
     have := hrg (k + j) v (by rw [List.getElem?_map]; exact hj)
     rwa [show o + (k + j) = o + k + j by omega] at this)
   have hk2 := k1.1
   clear ht hk
   by_cases hz0 : z = 0
   ·have j2 : ((z : Int) == 0) = true := by rw [hz0]; rfl
    have hst : hd.st = hd.st := rfl
    clear hz
    go_upto_region 6 with ((with_reducible refine yk 21 ?_); refine ZI rfl rfl rfl rfl CP.out ?_; generalize wr.setCells p (8 + t) ((r.take k).map zP) = wc at *; have c72c := (qB OKc.out OP.out).2.2; have fzc := yI (i := 72) OP.out)
    have AC2 := Hd (show (d ++ r.take k).foldl xF h = ⟨qM hd.st (Zs hd.op t (r.take k)), Zs hd.op t (r.take k), hd.n + k⟩ by rw [NX.out, AC.out, if_pos hz0])
    have fs : Fr (fun j => j = p) wc (wc.setCell ⟨p, 72, none⟩ (.int .u64 ((hd.n : Int) + (k : Int)))) := (Fr.refl (fun j => j = p) wc).setCell ⟨p, 72, none⟩ (.inr rfl) _
    have F9 := Hd (show Fr (fun j => j = p) wr (wc.setCell ⟨p, 72, none⟩ (.int .u64 ((hd.n : Int) + (k : Int)))) from FC.out.trans fs (fun _ _ h => h))
    have OK9 := Hd (show qF ⟨hd.st, Zs hd.op t (r.take k), hd.n + k⟩ from ⟨OKc.out.st, OKc.out.op⟩)
    have H9 := Hd (show (wc.setCell ⟨p, 72, none⟩ (.int .u64 ((hd.n : Int) + (k : Int)))).heap[p]? = some (.cells (yv ⟨hd.st, Zs hd.op t (r.take k), hd.n + k⟩).toArray 270 (0, 0)) by
     have := heap_setCell_same wc p 72 _ _ (.int .u64 ((hd.n : Int) + (k : Int))) OP.out
     rw [this]
     congr 2
     simp only [yv, List.setIfInBounds_toArray]
     rw [List.set_append_right _ _ (by simp [OKd.out.st, Zc, OKd.out.op])]
     simp [OKd.out.st, Zc, OKd.out.op])
    have HST := Hd OKd.out.st
    have HOP := Hd OK9.out.op
    generalize Zs hd.op t (r.take k) = op9 at *
    generalize wc.setCell ⟨p, 72, none⟩ (.int .u64 ((hd.n : Int) + (k : Int))) = w9 at *
    have BK := Hd (fun (w : World) (h1 : j7 w) (h2 : 3 < w.heap.size) => zeT h1 h2 HST.out HOP.out)
    have SBL := Hd (Xo hd.st op9)
    generalize qM hd.st op9 = sb at *
    have HD := Hd ((Fr.refl No w9).drew.obj H9.out id)
    have GD := Hd (show j7 w9.drew from (((HG.out.keep FR.out (fun e => HP.out.1 e.symm) (fun e => HP.out.2 e.symm)).keep F9.out (fun e => HP.out.1 e.symm) (fun e => HP.out.2 e.symm)).keep (Fr.refl No w9).drew id id))
    have SZ := Hd (show 3 < w9.drew.heap.size by have := HW.out; have := FR.out.size; have := F9.out.size; have := (Fr.refl No w9).drew.size; omega)
    obtain ⟨d8, y8, r8⟩ := zfR
    obtain ⟨d64, y64, r64⟩ := zgv
    have L8 := Hd (show (hd.st.map Zg).length = 8 by rw [List.length_map]; exact HST.out)
    have L64 := Hd (show (op9.map zP).length = 64 by rw [List.length_map]; exact HOP.out)
    refine yJ [false, false, false, false, false, false, false, false, false, true, false, false, true] (fun w' => w'.rangeAt p 0 (hd.st.map Zg) ∧ w'.rangeAt p 8 (op9.map zP)) (by kernel_rfl) (by kernel_rfl) 12 (by kernel_rfl) (by kernel_rfl) ?_ (fun K hK => ?_)
    ·exact ⟨(qB OK9.out HD.out).1, (qB OK9.out HD.out).2.1⟩
    repeat (first | ((first | with_reducible refine yG ?_ | ((with_reducible refine yp ?_ ?_); (focus rfl))); apply Exists.intro; refine ⟨?_, ?_⟩; (focus (first | exact zD (ty := 267) rfl (fun w h => h.1) y8 r8 (by rw [L8.out]; exact zf7) | exact zD (ty := 268) rfl (fun w h => h.2) y64 r64 (by rw [L64.out]; exact zgr) | (intro w' hS; obtain _ := hS; go_simp; (try with_reducible rfl); done))); try simp only [Act.put, pA, pB, pC]) | ((first | ((with_reducible refine zX (c := false) ?_ ?_ ?_); (focus rfl); (focus rfl)) | ((with_reducible refine zX (c := true) ?_ ?_ ?_); (focus rfl); (focus rfl)) | ((with_reducible refine yq ?_ ?_); (focus rfl))); try simp only [Act.put, pA, pB, pC]))
    (first | with_reducible refine yK (fun K' hK' => ?_) | ((with_reducible refine yx ?_ (fun K' hK' => ?_)); (focus rfl)))
    go_simp
    refine (BK.out _ GD.out SZ.out).mono ?_
    rintro e' w6 ⟨rfl, f6⟩
    have F6 := Hd f6
    have H6 := Hd (f6.obj HD.out id)
    clear f6
    refine hK'.out _ _ (fun _ => ?_) (fun hS => ?_)
    ·exact ⟨(qB OK9.out H6.out).1, (qB OK9.out H6.out).2.1⟩
    try simp only [Act.put, pA, pB, pC]
    repeat (first | ((first | with_reducible refine yG ?_ | ((with_reducible refine yp ?_ ?_); (focus rfl))); apply Exists.intro; refine ⟨?_, ?_⟩; (focus (first | (intro w' hS; obtain _ := hS; go_simp; (try with_reducible rfl); done))); try simp only [Act.put, pA, pB, pC]) | ((first | ((with_reducible refine zX (c := false) ?_ ?_ ?_); (focus rfl); (focus rfl)) | ((with_reducible refine zX (c := true) ?_ ?_ ?_); (focus rfl); (focus rfl)) | ((with_reducible refine yq ?_ ?_); (focus rfl))); try simp only [Act.put, pA, pB, pC]))
    (first | with_reducible refine yK (fun K' hK' => ?_) | ((with_reducible refine yx ?_ (fun K' hK' => ?_)); (focus rfl)))
    refine xb (z6 (ty := 267) (b := p) (off := 0) (cs := sb.map Zg) rfl rfl rfl (yg H6.out (by simp [yv, HST.out, HOP.out, SBL.out])) (by rw [List.length_map, SBL.out]; exact zf7) (fun v hv => by obtain ⟨x, -, rfl⟩ := List.mem_map.1 hv; rfl)) ?_
    refine hK'.out _ _ (fun h => absurd rfl h) (fun hS => ?_)
    refine qy (hK.out _ _ ?_)
    have FE := Hd (show Fr (fun j => j = p) wr (w6.setCells p 0 (sb.map Zg)) from ((F9.out.trans0 (Fr.refl No w9).drew).trans0 F6.out).trans (zJ p _ 0 w6) (fun _ _ h => h))
    have HE := Hd (show (w6.setCells p 0 (sb.map Zg)).heap[p]? = some (.cells (yv ((d ++ r.take k).foldl xF h)).toArray 270 (0, 0)) by
     rw [AC2.out]
     have := y7 p 270 (sb.map Zg) 0 w6 _ H6.out
     refine this.trans ?_
     congr 2
     have e := qS (sb.map Zg) [] (hd.st.map Zg) (op9.map zP ++ [.int .u64 ((hd.n + k : Nat) : Int)]) (by rw [List.length_map, List.length_map, SBL.out, HST.out])
     simp only [List.nil_append, List.length_nil] at e
     simp only [yv, List.append_assoc]
     rw [e])
    go_wp2
    go_roundw
    case rel => exact ⟨d ++ r.take k, r.drop k, SP.out, BN.out _ FE.out, HE.out, FR.out.trans FE.out (fun _ _ h => h)⟩
    case measure => show r.length - k < r.length; omega
   ·have j2 : ((z : Int) == 0) = false := by rw [beq_eq_false_iff_ne]; omega
    have AC2 := Hd (show (d ++ r.take k).foldl xF h = ⟨hd.st, Zs hd.op t (r.take k), hd.n + k⟩ by rw [NX.out, AC.out, if_neg hz0])
    clear hz
    go_wp2_with ((with_reducible refine yk 21 ?_); refine ZI rfl rfl rfl rfl CP.out ?_; generalize wr.setCells p (8 + t) ((r.take k).map zP) = wc at *; have c72c := (qB OKc.out OP.out).2.2; have fzc := yI (i := 72) OP.out)
    have fs : Fr (fun j => j = p) wc (wc.setCell ⟨p, 72, none⟩ (.int .u64 ((hd.n : Int) + (k : Int)))) := (Fr.refl (fun j => j = p) wc).setCell ⟨p, 72, none⟩ (.inr rfl) _
    have F9 := Hd (show Fr (fun j => j = p) wr (wc.setCell ⟨p, 72, none⟩ (.int .u64 ((hd.n : Int) + (k : Int)))) from FC.out.trans fs (fun _ _ h => h))
    have H9 := Hd (show (wc.setCell ⟨p, 72, none⟩ (.int .u64 ((hd.n : Int) + (k : Int)))).heap[p]? = some (.cells (yv ((d ++ r.take k).foldl xF h)).toArray 270 (0, 0)) by
     rw [AC2.out]
     have := heap_setCell_same wc p 72 _ _ (.int .u64 ((hd.n : Int) + (k : Int))) OP.out
     rw [this]
     congr 2
     simp only [yv, List.setIfInBounds_toArray]
     rw [List.set_append_right _ _ (by simp [OKd.out.st, Zc, OKd.out.op])]
     simp [OKd.out.st, Zc, OKd.out.op])
    go_roundw
    case rel => exact ⟨d ++ r.take k, r.drop k, SP.out, BN.out _ F9.out, H9.out, FR.out.trans F9.out (fun _ _ h => h)⟩
    case measure => show r.length - k < r.length; omega
end Go.Proofs.YtdkkjchclkjleaaGreatDoor

/- sha: New, Write. -/
namespace Go.Proofs.YtdkkjchclkjleaaGreatDoor
open Go Go.RowKit Go.Maps Go.MapKept
def JO : vE := ⟨zfv, List.replicate 64 0, 0⟩
theorem Ys : qF JO := ⟨rfl, by simp [JO]⟩
theorem zio {w : World} (h : j7 w) : w.rangeAt 0 0 (zfv.map Zg) := fun j v hj => by
 rw [List.getElem?_map] at hj
 cases hx : zfv[j]? with
 | none => rw [hx] at hj; cases hj
 | some x =>
  rw [hx] at hj
  cases hj
  have := h.i j x hx
  rw [Nat.zero_add]
  exact this
theorem zb0 : Tryz.prog.built 270 [(0, .agg (zfv.map Zg).toArray)] = some (yv JO).toArray := by kernel_rfl
set_option maxRecDepth 20000 in
set_option maxHeartbeats 4000000 in
theorem zgN {w : World} (hg : j7 w) : Calls Tryz.prog 122 #[] w fun e w' => e = .returned (.pointer (some ⟨w.heap.size, 0, none⟩)) ∧ w' = w.alloc (.cells (yv JO).toArray 270) := by
 have R := Hd (zio hg)
 clear hg
 obtain ⟨d8, y8, r8⟩ := zfR
 go_enter Tryz.func122, Tryz.ntmps122
 go_wp2_with (first | ((with_reducible refine yk 1 ?_); refine zd rfl (zf (ty := 267) rfl rfl R.out y8 r8 (by kernel_rfl)) ?_) | ((with_reducible refine yk 2 ?_); refine zd rfl (ZV (t := 270) rfl rfl zb0) ?_))
 go_ret
 exact ⟨rfl, rfl⟩
def Jq (w : World) (p : Nat) (v : Value) (L : List (List Int)) : Prop :=
 ∃ va vc, v = .slice va L.length vc ∧ ∀ (i : Nat) (l : List Int), L[i]? = some l → ∃ b off pv, va = some ⟨b, off, none⟩ ∧ b ≠ p ∧ w.cell? ⟨b, off + i, none⟩ = some pv ∧ vK w p pv l
theorem Jq.keep {w w' : World} {p : Nat} {v : Value} {L : List (List Int)} (h : Jq w p v L) (f : Fr (fun j => j = p) w w') : Jq w' p v L := by
 obtain ⟨va, vc, e, h⟩ := h
 refine ⟨va, vc, e, fun i l hi => ?_⟩
 obtain ⟨b, off, pv, h1, h2, h3, h4⟩ := h i l hi
 exact ⟨b, off, pv, h1, h2, f.cell h3 h2, h4.keep f⟩
set_option maxRecDepth 20000 in
set_option maxHeartbeats 4000000 in
theorem zeK {w : World} (hg : j7 w) (hw2 : 3 < w.heap.size) {p : Nat} {h : vE} (ok : qF h) (hb : w.heap[p]? = some (.cells (yv h).toArray 270 (0, 0))) (hp : p ≠ 0 ∧ p ≠ 3) {v : Value} {L : List (List Int)} (hl : Jq w p v L) (hL : L.length ≤ 1000000) (hn : h.n + L.flatten.length ≤ 4611686018427387904) :
  Calls Tryz.prog 123 #[.pointer (some ⟨p, 0, none⟩), v] w fun e w' => e = .returned (.int .i64 0) ∧ w'.heap[p]? = some (.cells (yv (L.flatten.foldl xF h)).toArray 270 (0, 0)) ∧ Fr (fun j => j = p) w w' := by
 have HG := Hd hg
 have HW := Hd hw2
 have HP := Hd hp
 have OK := Hd ok
 have HB := Hd hb
 have HL := Hd hl
 obtain ⟨va, vc, rfl, -⟩ := hl
 clear hg hw2 hp ok hb
 go_enter Tryz.func123, Tryz.ntmps123
 go_wp2
 go_loopw [11] (fun iv wr => ∃ n : Nat, iv = .int .i64 n ∧ n ≤ L.length ∧ wr.heap[p]? = some (.cells (yv ((L.take n).flatten.foldl xF h)).toArray 270 (0, 0)) ∧ Fr (fun j => j = p) w wr) (fun iv _ => L.length - (intOf iv).toNat)
 case atStart => exact ⟨0, rfl, Nat.zero_le _, HB.out, Fr.refl _ _⟩
 case round =>
  obtain ⟨n, rfl, hnn, hb, fr⟩ := hrel
  have FR := Hd fr
  have HBr := Hd hb
  clear fr hb
  by_cases hlt : n < L.length
  ·have i1 : (n : Int) < (L.length : Int) := by omega
   obtain ⟨l, hx⟩ : ∃ l, L[n]? = some l := ⟨_, List.getElem?_eq_getElem hlt⟩
   obtain ⟨va', vc', hv, hel⟩ := HL.out.keep FR.out
   obtain ⟨b, off, pv, hva, hbp, c1, hby⟩ := hel n l hx
   cases hv
   subst hva
   obtain ⟨pa, pc, rfl⟩ := hby.form
   have BY := Hd hby
   have FT := Hd (show (L.take (n + 1)).flatten.foldl xF h = l.foldl xF ((L.take n).flatten.foldl xF h) by rw [List.take_add_one, hx]; simp)
   have NT := Hd (show ((L.take n).flatten.foldl xF h).n + l.length ≤ 4611686018427387904 by
    rw [Yx]
    have : L = L.take n ++ l :: L.drop (n + 1) := by
     have h2 := (List.take_append_drop n L).symm
     rw [List.drop_eq_getElem_cons hlt, (List.getElem?_eq_some_iff.1 hx).2] at h2
     exact h2
    have h3 := congrArg (fun X => X.flatten.length) this
    simp only [List.flatten_append, List.flatten_cons, List.length_append] at h3
    omega)
   have OKn := Hd (OK.out.adds (l := (L.take n).flatten))
   have GN := Hd (HG.out.keep FR.out (fun e => HP.out.1 e.symm) (fun e => HP.out.2 e.symm))
   have WN := Hd (show 3 < wr.heap.size by have := HW.out; have := FR.out.size; omega)
   generalize (L.take n).flatten.foldl xF h = hd at *
   clear hby hel hx
   go_wp2_with (go_at_call 156; refine (QY GN.out WN.out OKn.out HBr.out HP.out BY.out NT.out).mono ?_; rintro e w2 ⟨rfl, hb2, f2⟩; rw [← FT.out] at hb2; have HB2 := Hd hb2; have F2 := Hd (FR.out.trans f2 (fun _ _ h => h)); clear hb2 f2)
   go_roundw
   case rel => exact ⟨n + 1, by simp, by omega, HB2.out, F2.out⟩
   case measure => show L.length - (n + 1) < L.length - n; omega
  ·have i1 : ¬ (n : Int) < (L.length : Int) := by omega
   have HE := Hd (show wr.heap[p]? = some (.cells (yv (L.flatten.foldl xF h)).toArray 270 (0, 0)) by
    have := HBr.out
    rwa [show L.take n = L by rw [show n = L.length by omega, List.take_length]] at this)
   go_wp2
   go_ret
   exact ⟨rfl, HE.out, FR.out⟩
end Go.Proofs.YtdkkjchclkjleaaGreatDoor

/- sha: the sum, plain. -/
namespace Go.Proofs.YtdkkjchclkjleaaGreatDoor
open Go Go.RowKit Go.Maps Go.MapKept
def Xi (n : Nat) : Nat := (120 - n % 64) % 64
theorem zgg (n : Nat) : (n + Xi n) % 64 = 56 := by unfold Xi; omega
theorem zic {n z : Nat} (h : z < Xi n) : (n + z) % 64 ≠ 56 := by unfold Xi at h; omega
def V4 (n : Nat) : List Int := [((n : Int) * 8 % 18446744073709551616) / 72057594037927936 % 256, ((n : Int) * 8 % 18446744073709551616) / 281474976710656 % 256, ((n : Int) * 8 % 18446744073709551616) / 1099511627776 % 256, ((n : Int) * 8 % 18446744073709551616) / 4294967296 % 256, ((n : Int) * 8 % 18446744073709551616) / 16777216 % 256, ((n : Int) * 8 % 18446744073709551616) / 65536 % 256, ((n : Int) * 8 % 18446744073709551616) / 256 % 256, ((n : Int) * 8 % 18446744073709551616) % 256]
def YC (x : Int) : List Int := [x / 16777216 % 256, x / 65536 % 256, x / 256 % 256, x % 256]
def JS (h : vE) : vE := (V4 h.n).foldl xF ((List.replicate (Xi (h.n + 1)) 0).foldl xF (xF h 128))
def zbX (h : vE) : List Int := (JS h).st.flatMap YC
def xG (l : List Int) : List Int := zbX (l.foldl xF JO)
def vI (l : List Int) : List Int := xG (xG l)
end Go.Proofs.YtdkkjchclkjleaaGreatDoor

/- sha: the sum's bytes, one by one. -/
namespace Go.Proofs.YtdkkjchclkjleaaGreatDoor
open Go Go.RowKit Go.Maps Go.MapKept
def J0 (B : List Int) (m : Nat) : List Int := B.take m ++ List.replicate (32 - m) 0
theorem zcN {B : List Int} (hB : B.length = 32) {m : Nat} (hm : m ≤ 32) : (J0 B m).length = 32 := by simp [J0]; omega
theorem Xu {B : List Int} (hB : B.length = 32) {m : Nat} (hm : m < 32) : (J0 B m).set m (B.getD m 0) = J0 B (m + 1) := by
 unfold J0
 have e1 : 32 - m = (32 - (m + 1)) + 1 := by omega
 have hl : (B.take m).length = m := by simp; omega
 rw [e1, List.replicate_succ, List.set_append_right _ _ (by omega), hl, Nat.sub_self, List.set_cons_zero, List.take_add_one, List.append_assoc]
 simp [List.getD_eq_getElem?_getD, List.getElem?_eq_getElem (show m < B.length by omega)]
theorem zav : ∀ (S : List Int), (S.flatMap YC).length = 4 * S.length
 | [] => rfl
 | x :: S => by
  rw [List.flatMap_cons, List.length_append, zav S, List.length_cons]
  have : (YC x).length = 4 := rfl
  omega
theorem flat_get : ∀ (S : List Int) (i k : Nat), k < 4 → i < S.length → (S.flatMap YC).getD (4 * i + k) 0 = (YC (S.getD i 0)).getD k 0
 | [], _, _, _, h => absurd h (by simp)
 | x :: S, 0, k, hk, _ => by
  rcases (show k = 0 ∨ k = 1 ∨ k = 2 ∨ k = 3 by omega) with rfl | rfl | rfl | rfl <;> rfl
 | x :: S, i + 1, k, hk, h => by
  have ih := flat_get S i k hk (by simpa using h)
  have e : 4 * (i + 1) + k = (4 * i + k) + 4 := by omega
  rw [List.flatMap_cons, e]
  exact ih
theorem zfT {B : List Int} (hB : B.length = 32) : J0 B 32 = B := by
 unfold J0
 rw [List.take_of_length_le (by omega)]
 simp
theorem Q0 {B : List Int} (hB : B.length = 32) {m : Nat} (hm : m < 32) : ∃ x, ((J0 B m).map zP)[m]? = some (.int .u8 x) :=
 ⟨(J0 B m)[m]'(by rw [zcN hB (by omega)]; exact hm), by rw [List.getElem?_map, List.getElem?_eq_getElem (by rw [zcN hB (by omega)]; exact hm)]; rfl⟩
theorem ziy {S : List Int} (hS : S.length = 8) {i : Nat} (hi : i < 8) (w : World) : (Instr.index 267 (.agg (S.map Zg).toArray) (.int .i64 i)).run Tryz.prog w = .ok (.int .u32 (S.getD i 0)) w := by
 have hn : (0 ≤ (i : Int) ∧ (i : Int) < ((8 : Nat) : Int)) := by omega
 have i8 : (sizeOf 31).run Tryz.prog w = .ok 1 w := by kernel_rfl
 simp [Instr.index, run_underlying Tryz.underlying267, asIntOf, hn, i8, part, go_sem]
 have hl : i < S.length := by omega
 rw [List.getElem?_eq_getElem hl]
 simp [hi, Zg]
end Go.Proofs.YtdkkjchclkjleaaGreatDoor
