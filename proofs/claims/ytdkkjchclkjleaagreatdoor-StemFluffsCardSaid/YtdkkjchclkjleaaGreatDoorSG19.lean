/- slices.Index, Contains, IndexFunc, DeleteFunc over ids. -/
import Derived.Lib.SliceRun
import Derived.Test.YtdkkjchclkjleaaGreatDoorSG18
import Derived.Test.YtdkkjchclkjleaaGreatDoorSG4
import Derived.Test.YtdkkjchclkjleaaGreatDoorSG3
set_option linter.unusedVariables false
set_option linter.unusedSimpArgs false
set_option linter.unnecessarySimpa false
set_option linter.all false
namespace Go.Proofs.YtdkkjchclkjleaaGreatDoor
open Go Go.RowKit Go.Maps Go.MapKept
def YA (x : zi) : List zi → Int
 | [] => -1
 | y :: r => if y = x then 0 else if x ∈ r then 1 + YA x r else -1
theorem X8 {x : zi} : ∀ {l : List zi}, x ∉ l → YA x l = -1
 | [], _ => rfl
 | y :: r, h => by
  have h1 : ¬ y = x := fun e => h (by simp [e])
  have h2 : x ∉ r := fun e => h (by simp [e])
  simp [YA, h1, h2]
theorem Xk {x : zi} : ∀ {l : List zi} {n : Nat}, l[n]? = some x → x ∉ l.take n → YA x l = n
 | [], n, h, _ => by simp at h
 | y :: r, 0, h, _ => by
  simp at h
  simp [YA, h]
 | y :: r, n + 1, h, hn => by
  simp only [List.getElem?_cons_succ] at h
  simp only [List.take_succ_cons, List.mem_cons, not_or] at hn
  have h1 : ¬ y = x := fun e => hn.1 e.symm
  have h2 : x ∈ r := List.mem_of_getElem? h
  have := Xk h hn.2
  simp only [YA, h1, if_false, h2, if_true, this]
  omega
theorem zei {x : zi} : ∀ {l : List zi}, (0 ≤ YA x l ↔ x ∈ l)
 | [] => by simp [YA]
 | y :: r => by
  have ih := zei (x := x) (l := r)
  by_cases h1 : y = x
  ·simp [YA, h1]
  ·by_cases h2 : x ∈ r
   ·have := ih.2 h2
    simp only [YA, h1, if_false, h2, if_true, List.mem_cons, or_true, iff_true]
    omega
   ·have h3 : ¬ x = y := fun e => h1 e.symm
    simp [YA, h1, h2, h3]
set_option maxRecDepth 20000 in
set_option maxHeartbeats 2000000 in
theorem zbu (w : World) {v : Value} {l : List zi} (hl : yV w v l) (hN : l.length ≤ 100000) (k : zi) (hk : zQ k) :
  Calls Tryz.prog 83 #[v, .agg (zj k).toArray] w fun e w' => e = .returned (.int .i64 (YA k l)) ∧ Fr No w w' := by
 obtain ⟨dK, uK, rK⟩ := yj
 obtain ⟨va, vc, rfl⟩ := hl.2.form
 have HL := Hd hl
 have HK := Hd (zE hk)
 have KOK := Hd hk
 have RB := Hd (zC w (zj k) 41)
 have F0 := Hd (show Fr No w (w.alloc (.cells (zj k).toArray 41)) by (repeat (first | with_reducible exact Fr.refl _ _ | with_reducible assumption | with_reducible refine Fr.drew ?_ | with_reducible refine Fr.drewN ?_ _ | with_reducible refine Fr.alloc ?_ _ | with_reducible refine Fr.setCell ?_ _ (.inl (by simp <;> omega)) _)))
 clear hl hk
 go_enter Tryz.func83, Tryz.ntmps83
 go_wp2
 generalize hq : w.heap.size = q at *
 generalize w.alloc (.cells (zj k).toArray 41) = w1 at *
 go_loopw [8] (fun iv wr => ∃ n : Nat, iv = .int .i64 n ∧ n ≤ l.length ∧ k ∉ l.take n ∧ Fr No w1 wr) (fun iv _ => l.length - (intOf iv).toNat)
 case atStart => exact ⟨0, rfl, Nat.zero_le _, by simp, Fr.refl _ _⟩
 case round =>
  obtain ⟨n, rfl, hn, hni, fr⟩ := hrel
  have FR := Hd fr
  have NI := Hd hni
  clear fr hni
  by_cases h : n < l.length
  ·have i1 : (n : Int) < (l.length : Int) := by omega
   obtain ⟨x, hx⟩ : ∃ x, l[n]? = some x := ⟨_, List.getElem?_eq_getElem h⟩
   obtain ⟨b, off, c, hv, hr, hb⟩ := (HL.out.keep (F0.out.trans0 FR.out)).at_ hx
   cases hv
   have OX := Hd (HL.out.1 x (List.mem_of_getElem? hx))
   have HX := Hd (zE OX.out)
   have R1 := Hd hr
   have RB2 := Hd (zb RB.out FR.out id)
   have HS := Hd (fun (W : World) (f : Fr No wr W) => (⟨zb RB2.out f id, zb R1.out f id⟩ : W.rangeAt q 0 (zj k) ∧ W.rangeAt b (off + n * 32) (zj x)))
   clear hr hb
   by_cases hxk : k = x
   ·subst hxk
    have EI := Hd (Xk hx NI.out)
    clear hx
    go_wp2
    refine zv [false, false, false, false, false, false] (fun W => W.rangeAt q 0 (zj k) ∧ W.rangeAt b (off + n * 32) (zj k)) (by kernel_rfl) (by kernel_rfl) ?_ (fun K hK => ?_)
    ·exact HS.out _ (Fr.refl No _).drew
    repeat (first | ((first | with_reducible refine zx ?_ | ((with_reducible refine zu ?_ ?_); (focus rfl))); apply Exists.intro; refine ⟨?_, ?_⟩; (focus (first | exact zD (ty := 41) rfl (fun w h => h.1) uK rK (by rw [HK.out]; exact zr) | exact zD (ty := 41) rfl (fun w h => h.2) uK rK (by rw [HK.out]; exact zr) | exact fun w' h => xy.exec_eql (u := (zj k).toArray) (v := (zj k).toArray) rfl rfl rfl (yd KOK.out) (yd KOK.out) true (by simp) w' | (intro w' hS; obtain _ := hS; go_simp; (try with_reducible rfl); done))); try simp only [Act.put, pA, pB, pC]) | ((first | ((with_reducible refine zg (c := false) ?_ ?_ ?_); (focus rfl); (focus rfl)) | ((with_reducible refine zg (c := true) ?_ ?_ ?_); (focus rfl); (focus rfl)) | ((with_reducible refine zt ?_ ?_); (focus rfl))); try simp only [Act.put, pA, pB, pC]))
    refine zM (hK.out _ _ ?_)
    go_wp2
    go_ret
    exact ⟨by rw [EI.out]; rfl, (F0.out.trans0 FR.out).drew⟩
   ·have NE := Hd (show ¬ (zj k).toArray = (zj x).toArray from fun e => hxk (yS (congrArg Value.agg e)))
    have NI2 := Hd (show k ∉ l.take (n + 1) by
     rw [List.take_add_one, hx]
     simp only [Option.toList_some, List.mem_append, List.mem_singleton]
     exact fun e => e.elim NI.out hxk)
    clear hx
    go_wp2
    refine zv [false, false, false, false, false, false] (fun W => W.rangeAt q 0 (zj k) ∧ W.rangeAt b (off + n * 32) (zj x)) (by kernel_rfl) (by kernel_rfl) ?_ (fun K hK => ?_)
    ·exact HS.out _ (Fr.refl No _).drew
    repeat (first | ((first | with_reducible refine zx ?_ | ((with_reducible refine zu ?_ ?_); (focus rfl))); apply Exists.intro; refine ⟨?_, ?_⟩; (focus (first | exact zD (ty := 41) rfl (fun w h => h.1) uK rK (by rw [HK.out]; exact zr) | exact zD (ty := 41) rfl (fun w h => h.2) uK rK (by rw [HX.out]; exact zr) | exact fun w' h => xy.exec_eql (u := (zj k).toArray) (v := (zj x).toArray) rfl rfl rfl (yd KOK.out) (yd OX.out) false ⟨fun e => (by cases e), fun e => absurd e NE.out⟩ w' | (intro w' hS; obtain _ := hS; go_simp; (try with_reducible rfl); done))); try simp only [Act.put, pA, pB, pC]) | ((first | ((with_reducible refine zg (c := false) ?_ ?_ ?_); (focus rfl); (focus rfl)) | ((with_reducible refine zg (c := true) ?_ ?_ ?_); (focus rfl); (focus rfl)) | ((with_reducible refine zt ?_ ?_); (focus rfl))); try simp only [Act.put, pA, pB, pC]))
    refine zM (hK.out _ _ ?_)
    go_wp2
    go_roundw
    case rel => exact ⟨n + 1, by simp, by omega, NI2.out, FR.out.drew⟩
    case measure => show l.length - (n + 1) < l.length - n; omega
  ·have i1 : ¬ (n : Int) < (l.length : Int) := by omega
   have i2 : n = l.length := by omega
   have FIN : k ∉ l := by have := NI.out; rw [i2, List.take_length] at this; exact this
   have HF := Hd (X8 FIN)
   clear FIN i2
   go_wp2
   go_ret
   exact ⟨by rw [HF.out]; rfl, F0.out.trans0 FR.out⟩
set_option maxRecDepth 20000 in
set_option maxHeartbeats 2000000 in
theorem Zi (w : World) {v : Value} {l : List zi} (hl : yV w v l) (hN : l.length ≤ 100000) (k : zi) (hk : zQ k) :
  Calls Tryz.prog 88 #[v, .agg (zj k).toArray] w fun e w' => e = .returned (.bool (decide (k ∈ l))) ∧ Fr No w w' := by
 obtain ⟨dK, uK, rK⟩ := yj
 obtain ⟨va, vc, rfl⟩ := hl.2.form
 have HK := Hd (zE hk)
 have RB := Hd (zC w (zj k) 41)
 have F0 := Hd (show Fr No w (w.alloc (.cells (zj k).toArray 41)) by (repeat (first | with_reducible exact Fr.refl _ _ | with_reducible assumption | with_reducible refine Fr.drew ?_ | with_reducible refine Fr.drewN ?_ _ | with_reducible refine Fr.alloc ?_ _ | with_reducible refine Fr.setCell ?_ _ (.inl (by simp <;> omega)) _)))
 have HC := Hd (zbu (w.alloc (.cells (zj k).toArray 41)) (hl.keep F0.out) hN k hk)
 have GE := Hd (zei (x := k) (l := l))
 clear hl hk
 have hcase : (k ∈ l ∧ 0 ≤ YA k l) ∨ (k ∉ l ∧ ¬ 0 ≤ YA k l) := by
  have := GE.out
  by_cases h : k ∈ l
  ·exact .inl ⟨h, this.2 h⟩
  ·exact .inr ⟨h, fun e => h (this.1 e)⟩
 generalize YA k l = i at *
 go_enter Tryz.func88, Tryz.ntmps88
 rcases hcase with ⟨h1, h2⟩ | ⟨h1, h2⟩
 ·have E1 := Hd (show decide (k ∈ l) = true from decide_eq_true h1)
  clear h1
  go_wp2_with (first | (refine zd rfl (zf (ty := 41) rfl rfl RB.out uK rK (by rw [HK.out]; exact zr)) ?_) | (go_at_call 83; refine HC.out.mono ?_; rintro e w2 ⟨rfl, f2⟩; have F2 := Hd (F0.out.trans0 f2); clear f2))
  go_ret
  exact ⟨by rw [E1.out]; rfl, F2.out⟩
 ·have E1 := Hd (show decide (k ∈ l) = false from decide_eq_false h1)
  clear h1
  go_wp2_with (first | (refine zd rfl (zf (ty := 41) rfl rfl RB.out uK rK (by rw [HK.out]; exact zr)) ?_) | (go_at_call 83; refine HC.out.mono ?_; rintro e w2 ⟨rfl, f2⟩; have F2 := Hd (F0.out.trans0 f2); clear f2))
  go_ret
  exact ⟨by rw [E1.out]; show Ending.returned (.bool (decide (0 ≤ i))) = _; rw [decide_eq_false (by omega)], F2.out⟩
def zaa (q : Nat) : Value := .func (.func 163) #[] #[.pointer (some ⟨q, 0, none⟩)]
set_option maxRecDepth 20000 in
set_option maxHeartbeats 2000000 in
theorem Xs (w : World) {q : Nat} {k x : zi} (hr : w.rangeAt q 0 (zj k)) (hk : zQ k) (hx : zQ x) :
  Calls Tryz.prog 163 #[.agg (zj x).toArray, .pointer (some ⟨q, 0, none⟩)] w fun e w' => e = .returned (.bool (decide (x = k))) ∧ Fr No w w' := by
 obtain ⟨dK, uK, rK⟩ := yj
 have HK := Hd (zE hk)
 have HX := Hd (zE hx)
 have RB := Hd (zC w (zj x) 41)
 have F0 := Hd (show Fr No w (w.alloc (.cells (zj x).toArray 41)) by (repeat (first | with_reducible exact Fr.refl _ _ | with_reducible assumption | with_reducible refine Fr.drew ?_ | with_reducible refine Fr.drewN ?_ _ | with_reducible refine Fr.alloc ?_ _ | with_reducible refine Fr.setCell ?_ _ (.inl (by simp <;> omega)) _)))
 have RK := Hd (zb hr F0.out id)
 clear hr
 have BB := Hd (show (decide (x = k) = true ↔ (zj x).toArray = (zj k).toArray) by
  rw [decide_eq_true_iff]
  exact ⟨fun e => by rw [e], fun e => yS (congrArg Value.agg e)⟩)
 generalize decide (x = k) = bb at *
 go_enter Tryz.func163, Tryz.ntmps163
 go_wp2_with (first | (refine zd rfl (zf (ty := 41) rfl rfl RB.out uK rK (by rw [HX.out]; exact zr)) ?_) | (refine zd rfl (zf (ty := 41) rfl rfl RK.out uK rK (by rw [HK.out]; exact zr)) ?_) | (refine zd rfl (xy.exec_eql rfl rfl rfl (yd hx) (yd hk) bb BB.out _) ?_))
 go_ret
 exact ⟨by rfl, F0.out⟩
set_option maxRecDepth 20000 in
set_option maxHeartbeats 2000000 in
theorem zaB (w : World) {v : Value} {l : List zi} (hl : yV w v l) (hN : l.length ≤ 100000) {q : Nat} {k : zi} (hr : w.rangeAt q 0 (zj k)) (hk : zQ k) :
  Calls Tryz.prog 137 #[v, zaa q] w fun e w' => e = .returned (.int .i64 (YA k l)) ∧ Fr No w w' := by
 obtain ⟨dK, uK, rK⟩ := yj
 obtain ⟨va, vc, rfl⟩ := hl.2.form
 unfold zaa
 have HL := Hd hl
 have KOK := Hd hk
 have RB := Hd hr
 clear hl hk hr
 go_enter Tryz.func137, Tryz.ntmps137
 go_wp2
 go_loopw [8] (fun iv wr => ∃ n : Nat, iv = .int .i64 n ∧ n ≤ l.length ∧ k ∉ l.take n ∧ Fr No w wr) (fun iv _ => l.length - (intOf iv).toNat)
 case atStart => exact ⟨0, rfl, Nat.zero_le _, by simp, Fr.refl _ _⟩
 case round =>
  obtain ⟨n, rfl, hn, hni, fr⟩ := hrel
  have FR := Hd fr
  have NI := Hd hni
  clear fr hni
  by_cases h : n < l.length
  ·have i1 : (n : Int) < (l.length : Int) := by omega
   obtain ⟨x, hx⟩ : ∃ x, l[n]? = some x := ⟨_, List.getElem?_eq_getElem h⟩
   obtain ⟨b, off, c, hv, hr, hb⟩ := (HL.out.keep FR.out).at_ hx
   cases hv
   have OX := Hd (HL.out.1 x (List.mem_of_getElem? hx))
   have HX := Hd (zE OX.out)
   have R1 := Hd hr
   clear hr hb
   by_cases hxk : x = k
   ·have EI := Hd (Xk (hxk ▸ hx) NI.out)
    have D1 := Hd (show decide (x = k) = true from decide_eq_true hxk)
    clear hx hxk
    go_wp2_with (first | (refine zd rfl (zf (ty := 41) rfl rfl R1.out uK rK (by rw [HX.out]; exact zr)) ?_) | (go_at_call 163; refine (Xs _ (zb RB.out FR.out id) KOK.out OX.out).mono ?_; rintro e w2 ⟨rfl, f2⟩; rw [D1.out]; have F2 := Hd (FR.out.trans0 f2); clear f2))
    go_ret
    exact ⟨by rw [EI.out]; rfl, F2.out⟩
   ·have D1 := Hd (show decide (x = k) = false from decide_eq_false hxk)
    have NI2 := Hd (show k ∉ l.take (n + 1) by
     rw [List.take_add_one, hx]
     simp only [Option.toList_some, List.mem_append, List.mem_singleton]
     exact fun e => e.elim NI.out (fun e => hxk e.symm))
    clear hx hxk
    go_wp2_with (first | (refine zd rfl (zf (ty := 41) rfl rfl R1.out uK rK (by rw [HX.out]; exact zr)) ?_) | (go_at_call 163; refine (Xs _ (zb RB.out FR.out id) KOK.out OX.out).mono ?_; rintro e w2 ⟨rfl, f2⟩; rw [D1.out]; have F2 := Hd (FR.out.trans0 f2); clear f2))
    go_roundw
    case rel => exact ⟨n + 1, by simp, by omega, NI2.out, F2.out⟩
    case measure => show l.length - (n + 1) < l.length - n; omega
  ·have i1 : ¬ (n : Int) < (l.length : Int) := by omega
   have i2 : n = l.length := by omega
   have FIN : k ∉ l := by have := NI.out; rw [i2, List.take_length] at this; exact this
   have HF := Hd (X8 FIN)
   clear FIN i2
   go_wp2
   go_ret
   exact ⟨by rw [HF.out]; rfl, FR.out⟩
end Go.Proofs.YtdkkjchclkjleaaGreatDoor

/- slices.DeleteFunc over ids. -/
namespace Go
open Go.RowKit Go.Maps Go.MapKept
theorem Yd {P : Program} (w : World) (t e ty : TypeId) (zs : List Value) (ht : P.underlying t = some (.slice e)) (hv : ∀ w, (zeroValue e).run P w = .ok (.agg zs.toArray) w) (h1 : ∀ v ∈ zs, v.oneCell' = true) (hz : 0 < zs.length) (b o n c : Nat) (hn : 0 < n)
  (hc : w.there b o (n * zs.length)) : ∃ cs : List Value, cs.length = n * zs.length ∧
  (Builtin.clear_ #[t] ty #[.slice (some ⟨b, o, none⟩) n c]).run P w = .ok (.tuple #[]) (w.setCells b o cs) := by
 have hl : (Builtin.zeroCells zs.toArray n).toList.length = n * zs.length := by simp [Builtin.zeroCells]
 have h2 : ∀ v ∈ (Builtin.zeroCells zs.toArray n).toList, v.oneCell' = true := by
  intro v hv'
  simp only [Builtin.zeroCells, Array.toList_map, List.mem_map, Array.toList_range, List.mem_range] at hv'
  obtain ⟨i, -, rfl⟩ := hv'
  have hm : i % zs.length < zs.length := Nat.mod_lt _ hz
  have e1 : zs.toArray[i % zs.toArray.size]! = zs[i % zs.length] := by
   simp only [List.size_toArray]
   rw [getElem!_pos _ _ (by simpa using hm)]
   simp
  rw [e1]
  exact h1 _ (List.getElem_mem _)
 refine ⟨(Builtin.zeroCells zs.toArray n).toList, hl, ?_⟩
 have hst := run_storeCells_cells (P := P) b o (Builtin.zeroCells zs.toArray n).toList 0 w (by rw [hl]; simpa using fun j hj => (hc j hj).1) (by rw [hl]; simpa using fun j hj => (hc j hj).2) h2
 simp only [Nat.add_zero] at hst
 obtain ⟨m, rfl⟩ : ∃ m, n = m + 1 := ⟨n - 1, by omega⟩
 simp [Builtin.clear_, run_underlying ht, hv, Value.cells, hst]
theorem YR : ∀ (cs xs : List Value) (o o' : Nat), o' ≤ o → (qQ xs o cs).take o' = xs.take o'
 | [], _, _, _, _ => rfl
 | v :: r, xs, o, o', h => by
  simp only [qQ]
  rw [YR r _ (o + 1) o' (by omega)]
  apply List.ext_getElem?
  intro i
  rw [List.getElem?_take, List.getElem?_take]
  split
  ·rw [List.getElem?_set_ne (by omega)]
  ·rfl
theorem JW {w : World} {B g cap n m k : Nat} {e : TypeId} {xs : List Value} (h : w.ownsRow B e k (.slice (some ⟨g, 0, none⟩) n cap) n xs) (hm : m ≤ n) : w.ownsRow B e k (.slice (some ⟨g, 0, none⟩) m cap) m (xs.take (m * k)) := by
 have hmk : m * k ≤ n * k := Nat.mul_le_mul_right _ hm
 refine ⟨by rw [List.length_take, h.1]; omega, ?_⟩
 rcases h.2 with ⟨e1, _⟩ | ⟨g', cap', cur, e1, hb, hg, hn, hcm, hcs, ht⟩
 ·cases e1
 ·injection e1 with e2 e3 e4
  injection e2 with e2
  injection e2 with e5
  subst e5 e4
  exact .inr ⟨g, cap, cur, rfl, hb, hg, by omega, hcm, hcs, by rw [← ht, List.take_take, Nat.min_eq_left hmk]⟩
end Go
namespace Go.Proofs.YtdkkjchclkjleaaGreatDoor
open Go Go.RowKit Go.Maps Go.MapKept
structure vj (k : zi) (l R : List zi) (n m : Nat) : Prop where
 len : R.length = l.length
 pre : R.take n = (l.take m).filter fun x => decide (x ≠ k)
 suf : R.drop m = l.drop m
 lt : n < m
 le : m ≤ l.length
theorem vj.start {k : zi} {l : List zi} {n : Nat} (h : l[n]? = some k) (hn : k ∉ l.take n) : vj k l l n (n + 1) := by
 have hlt := (List.getElem?_eq_some_iff.1 h).1
 refine ⟨rfl, ?_, rfl, by omega, hlt⟩
 rw [List.take_add_one, h, List.filter_append]
 simp only [Option.toList_some]
 rw [List.filter_eq_self.2 (fun x hx => by simp; rintro rfl; exact hn hx)]
 simp
theorem vj.skip {k : zi} {l R : List zi} {n m : Nat} (h : vj k l R n m) (hm : l[m]? = some k) : vj k l R n (m + 1) := by
 have hlt := (List.getElem?_eq_some_iff.1 hm).1
 refine ⟨h.len, ?_, ?_, by have := h.lt; omega, hlt⟩
 ·rw [List.take_add_one, hm, List.filter_append, h.pre]
  simp
 ·rw [← List.drop_drop, h.suf, List.drop_drop]
theorem vj.keep {k x : zi} {l R : List zi} {n m : Nat} (h : vj k l R n m) (hm : l[m]? = some x) (hx : x ≠ k) : vj k l (R.set n x) (n + 1) (m + 1) := by
 have hlt := (List.getElem?_eq_some_iff.1 hm).1
 have h1 := h.lt
 have h2 := h.len
 refine ⟨by rw [List.length_set, h2], ?_, ?_, by omega, hlt⟩
 ·rw [List.take_add_one (l := l), hm, List.filter_append, ← h.pre, List.take_add_one, List.getElem?_set_self (by omega)]
  have e : (R.set n x).take n = R.take n := by
   apply List.ext_getElem?
   intro i
   rw [List.getElem?_take, List.getElem?_take]
   split
   ·rw [List.getElem?_set_ne (by omega)]
   ·rfl
  rw [e]
  simp [hx]
 ·rw [List.drop_set_of_lt (by omega), ← List.drop_drop, h.suf, List.drop_drop]
theorem vj.at_ {k x : zi} {l R : List zi} {n m : Nat} (h : vj k l R n m) (hm : l[m]? = some x) : R[m]? = some x := by
 have h1 : (R.drop m)[0]? = (l.drop m)[0]? := by rw [h.suf]
 simpa [hm] using h1
theorem vj.done {k : zi} {l R : List zi} {n : Nat} (h : vj k l R n l.length) : R.take n = l.filter fun x => decide (x ≠ k) := by rw [h.pre, List.take_length]
def zjO (B : Nat) (w : World) (v : Value) (k : zi) (l : List zi) (v' : Value) (w' : World) : Prop :=
 w'.ownsRow B 41 32 v' (l.filter fun x => decide (x ≠ k)).length ((l.filter fun x => decide (x ≠ k)).flatMap zj) ∧ Fr (fun j => v.ownBlock = some j) w w' ∧ (∀ j, v'.ownBlock = some j → v.ownBlock = some j)
theorem filter_none {k : zi} {l : List zi} (h : k ∉ l) : l.filter (fun x => decide (x ≠ k)) = l := List.filter_eq_self.2 fun x hx => by simp; rintro rfl; exact h hx
set_option maxRecDepth 20000 in
set_option maxHeartbeats 4000000 in
theorem ZT {w : World} {B : Nat} {v : Value} {l : List zi} (hl : w.ownsRow B 41 32 v l.length (l.flatMap zj)) (ok : ∀ x ∈ l, zQ x) (hN : l.length ≤ 100000) {q : Nat} {k : zi} (hr : w.rangeAt q 0 (zj k)) (hk : zQ k) (hq : ∀ j, v.ownBlock = some j → j ≠ q) (_ : q < w.heap.size) :
  Calls Tryz.prog 98 #[v, zaa q] w fun e w' => ∃ v', e = .returned v' ∧ zjO B w v k l v' w' := by
 obtain ⟨dK, uK, rK⟩ := yj
 have zh := y6
 have HI := Hd (zaB w (yV.own hl ok) hN hr hk)
 by_cases hin : k ∈ l
 ·obtain ⟨va, vc, e⟩ := hl.slice.arg.form
  subst e
  obtain ⟨i, hi⟩ : ∃ i, l[i]? = some k ∧ k ∉ l.take i := by
   clear hl ok hN HI hr hk hq
   induction l with
   | nil => cases hin
   | cons y r ih =>
    by_cases e : y = k
    ·exact ⟨0, by simp [e], by simp⟩
    ·have hin' : k ∈ r := by
      rcases List.mem_cons.1 hin with h | h
      ·exact absurd h.symm e
      ·exact h
     obtain ⟨i, h1, h2⟩ := ih hin'
     exact ⟨i + 1, by simpa using h1, by simp; exact ⟨fun e' => e e'.symm, h2⟩⟩
  have EI := Hd (Xk hi.1 hi.2)
  have ST := Hd (vj.start hi.1 hi.2)
  have hil := (List.getElem?_eq_some_iff.1 hi.1).1
  obtain ⟨g, rfl⟩ : ∃ g, va = some ⟨g, 0, none⟩ := by
   rcases hl.2 with ⟨e, _⟩ | ⟨g, c, cur, e, _⟩
   ·injection e with e1 e2; omega
   ·injection e with e1; exact ⟨g, e1⟩
  have j1 : ¬ (i : Int) = -1 := by omega
  have HL := Hd hl
  have RQ := Hd hr
  have KOK := Hd hk
  have OK := Hd ok
  have NQ := Hd (show ¬ q = g from fun e => hq g rfl e.symm)
  clear hl ok hr hk hq hi hin
  unfold zaa
  unfold zaa at HI
  go_enter Tryz.func98, Tryz.ntmps98
  go_wp2_with (go_at_call 137; refine HI.out.mono ?_; rintro e w1 ⟨rfl, f1⟩; rw [EI.out]; have F1 := Hd f1; clear f1)
  rw [show ((i : Int) == -1) = false from by simp]
  clear j1
  go_loopw [5, 6] (fun nv mv wr => ∃ (n m : Nat) (R : List zi), nv = .int .i64 n ∧ mv = .int .i64 m ∧ vj k l R n m ∧ wr.ownsRow B 41 32 (.slice (some ⟨g, 0, none⟩) l.length vc) l.length (R.flatMap zj) ∧ (∀ x ∈ R, zQ x) ∧ Fr (· = g) w wr) (fun _ mv _ => l.length - (intOf mv).toNat)
  case atStart => exact ⟨i, i + 1, l, rfl, by simp, ST.out, zl HL.out F1.out (fun _ _ => id), OK.out, F1.out.of0⟩
  case round =>
   obtain ⟨n, m, R, rfl, rfl, hc, ho, hok, fr⟩ := hrel
   have CU := Hd hc
   have HO := Hd ho
   have ROK := Hd hok
   have FR := Hd fr
   have hle := hc.le
   have hlt := hc.lt
   have RL := Hd hc.len
   clear hc ho hok fr
   by_cases h : m < l.length
   ·have i1 : (m : Int) < (l.length : Int) := by omega
    have i2 : (n : Int) < (l.length : Int) := by omega
    obtain ⟨x, hx⟩ : ∃ x, l[m]? = some x := ⟨_, List.getElem?_eq_getElem h⟩
    have hxR := CU.out.at_ hx
    have HO2 := Hd (show wr.ownsRow B 41 32 (.slice (some ⟨g, 0, none⟩) R.length vc) R.length (R.flatMap zj) by rw [RL.out]; exact HO.out)
    obtain ⟨b2, off2, cap2, hv, hrx, hb⟩ := (yV.own HO2.out ROK.out).at_ hxR
    cases hv
    have OX := Hd (OK.out x (List.mem_of_getElem? hx))
    have HX := Hd (zE OX.out)
    have R1 := Hd (show wr.rangeAt g (m * 32) (zj x) by simpa using hrx)
    have FA := Hd ((Fr.refl No wr).alloc (.cells (zj x).toArray 41))
    have RN := Hd (zC wr (zj x) 41)
    have RQ2 := Hd (zb (zb RQ.out FR.out NQ.out) FA.out id)
    have ZG := Hd hb
    clear hrx hb hxR
    by_cases hxk : x = k
    ·have D1 := Hd (show decide (x = k) = true from decide_eq_true hxk)
     have CU2 := Hd (CU.out.skip (hxk ▸ hx))
     clear hx hxk
     go_wp2_with (first | (refine zd rfl (zf (ty := 41) rfl rfl R1.out uK rK (by rw [HX.out]; exact zr)) ?_) | (refine zq rfl (zm (w := wr) (cs := zj x) (ty := 41) rfl rfl rfl (by rw [HX.out]; rfl) (by rw [HX.out]; exact zr) zV) ?_) | (refine zd rfl (zf (ty := 41) rfl rfl RN.out uK rK (by rw [HX.out]; exact zr)) ?_) | (go_at_call 163; refine (Xs _ RQ2.out KOK.out OX.out).mono ?_; rintro e w2 ⟨rfl, f2⟩; rw [D1.out]; have F2 := Hd (FA.out.trans0 f2); clear f2))
     go_roundw
     case rel => exact ⟨n, m + 1, R, rfl, by simp, CU2.out, zl HO.out F2.out (fun _ _ => id), ROK.out, FR.out.trans0 F2.out⟩
     case measure => show l.length - (m + 1) < l.length - m; omega
    ·have D1 := Hd (show decide (x = k) = false from decide_eq_false hxk)
     have CU2 := Hd (CU.out.keep hx hxk)
     clear hx hxk
     go_wp2_with (first | (refine zd rfl (zf (ty := 41) rfl rfl RN2.out uK rK (by rw [HX.out]; exact zr)) ?_) | (refine zq rfl (z6 (ty := 41) rfl rfl rfl (by rw [HX.out]; exact TH.out) (by rw [HX.out]; exact zr) zV) ?_) | (refine zd rfl (zf (ty := 41) rfl rfl R1.out uK rK (by rw [HX.out]; exact zr)) ?_) | (refine zq rfl (zm (w := wr) (cs := zj x) (ty := 41) rfl rfl rfl (by rw [HX.out]; rfl) (by rw [HX.out]; exact zr) zV) ?_) | (refine zd rfl (zf (ty := 41) rfl rfl RN.out uK rK (by rw [HX.out]; exact zr)) ?_) | (go_at_call 163; refine (Xs _ RQ2.out KOK.out OX.out).mono ?_; rintro e w2 ⟨rfl, f2⟩; rw [D1.out]; have F2 := Hd (FA.out.trans0 f2); have RN2 := Hd (zb RN.out f2 id); have HO3 := Hd (zl HO2.out F2.out (fun _ _ => id)); have TH := Hd (J7 HO3.out (show n < R.length by rw [RL.out]; omega)); clear f2))
     have HO4 := Hd (zh0 (f := zj) (fun y hy => zE (ROK.out y hy)) HO3.out (show n < R.length by rw [RL.out]; omega) x HX.out)
     have HO5 := Hd (show (w2.setCells g (n * 32) (zj x)).ownsRow B 41 32 (.slice (some ⟨g, 0, none⟩) l.length vc) l.length ((R.set n x).flatMap zj) by have := HO4.out; rw [RL.out] at this; exact this)
     go_roundw
     case rel => exact ⟨n + 1, m + 1, R.set n x, by simp, by simp, CU2.out, HO5.out, fun y hy => (List.mem_or_eq_of_mem_set hy).elim (ROK.out y) (fun e => e ▸ OX.out), (FR.out.trans0 F2.out).trans (zJ g (zj x) (n * 32) w2) (fun _ _ h => h)⟩
     case measure => show l.length - (m + 1) < l.length - m; omega
   ·have i1 : ¬ (m : Int) < (l.length : Int) := by omega
    have hml : m = l.length := by omega
    subst hml
    have DN := Hd CU.out.done
    have HLF := Hd (show (R.flatMap zj).length = l.length * 32 from HO.out.1)
    have LN := Hd (show (l.filter fun x => decide (x ≠ k)).length = n by rw [← DN.out, List.length_take, RL.out]; omega)
    obtain ⟨cs, hcs, hclr⟩ := Yd (P := Tryz.prog) wr 38 41 0 (zj yN) xB y6 zV (by rw [zE xQ]; decide) g (n * 32) (l.length - n) (vc - n) (by omega) (fun j hj => by
     rw [zE xQ] at hj
     refine ⟨?_, HO.out.frozenAt _⟩
     rw [HO.out.cellAt (n * 32 + j) (by omega), List.getElem?_eq_getElem (by rw [HLF.out]; omega)]
     rfl)
    rw [zE xQ] at hcs
    have HS := Hd (vz HO.out (n * 32) (cs := cs) (by rw [hcs]; omega))
    have HT := Hd (JW HS.out (m := n) (by omega))
    have HF := Hd (show (qQ (R.flatMap zj) (n * 32) cs).take (n * 32) = (l.filter fun x => decide (x ≠ k)).flatMap zj by
     rw [YR _ _ _ _ (Nat.le_refl _), ← DN.out]
     conv => lhs; rw [← List.take_append_drop n R]
     rw [List.flatMap_append, List.take_append_of_le_length, List.take_of_length_le]
     ·rw [xL zj 32 _ (fun a ha => zE (ROK.out a (List.mem_of_mem_take ha))), List.length_take, RL.out]; omega
     ·rw [xL zj 32 _ (fun a ha => zE (ROK.out a (List.mem_of_mem_take ha))), List.length_take, RL.out]; omega)
    have FZ := Hd (FR.out.trans (zJ g cs (n * 32) wr) (fun _ _ h => h))
    have CLR := Hd hclr
    have hcap : l.length ≤ vc := xq.cap HO.out.slice.arg
    have jc : ¬ vc = n := by omega
    have jc2 : ¬ n = vc := by omega
    clear hclr hcs
    go_wp2_with (refine jv rfl rfl rfl CLR.out ?_)
    go_ret
    refine ⟨.slice (some ⟨g, 0, none⟩) n vc, by rfl, ?_, FZ.out.mono (fun j hj => by rw [hj]; rfl), fun _ h => h⟩
    rw [LN.out, ← HF.out]
    exact HT.out
 ·have EI := Hd (X8 hin)
  have FN := Hd (filter_none hin)
  obtain ⟨va, vc, e⟩ := hl.slice.arg.form
  subst e
  have HL := Hd hl
  clear hl ok hr hk hq hin
  unfold zaa
  unfold zaa at HI
  go_enter Tryz.func98, Tryz.ntmps98
  go_wp2_with (go_at_call 137; refine HI.out.mono ?_; rintro e w1 ⟨rfl, f1⟩; rw [EI.out]; have F1 := Hd f1; clear f1)
  go_ret
  exact ⟨_, by rfl, by rw [FN.out]; exact zl HL.out F1.out (fun _ _ => id), F1.out.of0, fun _ h => h⟩
end Go.Proofs.YtdkkjchclkjleaaGreatDoor
