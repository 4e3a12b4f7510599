/- slices.Clone of inputs, outputs, bytes; own: a transaction in memory of its own. -/
import Derived.Test.YtdkkjchclkjleaaGreatDoorSG25
import Derived.Test.YtdkkjchclkjleaaGreatDoorSG13
import Derived.Test.YtdkkjchclkjleaaGreatDoorSG30
import Derived.Test.YtdkkjchclkjleaaGreatDoorSG4
set_option linter.unusedVariables false
set_option linter.unusedSimpArgs false
set_option linter.unnecessarySimpa false
set_option linter.all false
namespace Go.Proofs.YtdkkjchclkjleaaGreatDoor
open Go Go.RowKit Go.Maps Go.MapKept
set_option maxRecDepth 20000 in
set_option maxHeartbeats 2000000 in
theorem qY (w : World) {v : Value} {l : List yF} (hh : xz w v l) (hN : l.length ≤ 100000) :
  Calls Tryz.prog 81 #[v] w fun e w' => ∃ v', e = .returned v' ∧ w'.ownsRow w.heap.size 103 33 v' l.length (l.flatMap zG) ∧ Fr No w w' := by
 have q22 : ∀ (w : World) (a : Option Addr) (n c n' c' : Nat), (binOp .eql 22 (.slice a n c) (.slice none n' c')).run Tryz.prog w = .ok (.bool a.isNone) w := fun w a n c n' c' => Lib.run_eql_slice_nil w _ _ a n c n' c' vx
 by_cases hnil : v = .slice none 0 0
 ·subst hnil
  have hl : l = [] := by
   obtain ⟨a, c, h⟩ := (hh.2).form
   injection h with h1 h2 h3
   exact List.eq_nil_of_length_eq_zero h2.symm
  subst hl
  go_enter Tryz.func81, Tryz.ntmps81
  go_wp2
  go_ret
  exact ⟨_, rfl, World.ownsRow_nil _ _ _ _, Fr.refl _ _⟩
 ·have hx : xq (w.alloc (.cells #[] 103)) v l.length (l.flatMap zG) := (hh.2).keep ((Fr.refl _ _).alloc _)
  obtain ⟨v', w', happ, ho, hg, -, hfr⟩ := jw (P := Tryz.prog) (w.alloc (.cells #[] 103)) w.heap.size 22 22 103 33 40 _ vx ZU rfl (by decide) (.slice (some ⟨w.heap.size, 0, none⟩) 0 0) 0 [] (World.ownsRow_made w #[] 0 (Nat.le_refl _) (Nat.zero_le _) rfl) v l.length (l.flatMap zG) hx (zho hh.1) (zfU) (by omega) (by unfold maxLen; omega) (by simp) hnil
  have f1 : Fr No w w' := Fr.grown ((Fr.refl _ w).alloc _) hg (fun k hk => by simp [Value.ownBlock] at hk; exact .inl (by omega))
  have hform : ∃ b n c, v = .slice (some b) n c := by
   rcases (hh.2) with (⟨h, _⟩ | ⟨g, go, gc, h, _⟩) | ⟨a0, gc, h, -⟩
   ·exact absurd h hnil
   ·exact ⟨_, _, _, h⟩
   ·exact ⟨_, _, _, h⟩
  obtain ⟨b, n, c, rfl⟩ := hform
  have HAP := Hd happ
  have HO := Hd (show w'.ownsRow w.heap.size 103 33 v' l.length (l.flatMap zG) by simpa using ho)
  have F1 := Hd f1
  clear hx happ ho hg hfr f1 hnil
  go_enter Tryz.func81, Tryz.ntmps81
  go_wp2_with (at_builtin; refine zW rfl rfl rfl rfl HAP.out ?_)
  go_ret
  exact ⟨_, rfl, HO.out, F1.out⟩
set_option maxRecDepth 20000 in
set_option maxHeartbeats 2000000 in
theorem Xc (w : World) {v : Value} {l : List Int} (hh : Vs w v l) (hN : l.length ≤ 100000) :
  Calls Tryz.prog 82 #[v] w fun e w' => ∃ v', e = .returned v' ∧ w'.ownsRow w.heap.size 5 1 v' l.length (l.map zP) ∧ Fr No w w' := by
 have q22 : ∀ (w : World) (a : Option Addr) (n c n' c' : Nat), (binOp .eql 106 (.slice a n c) (.slice none n' c')).run Tryz.prog w = .ok (.bool a.isNone) w := fun w a n c n' c' => Lib.run_eql_slice_nil w _ _ a n c n' c' Xq
 by_cases hnil : v = .slice none 0 0
 ·subst hnil
  have hl : l = [] := by
   obtain ⟨a, c, h⟩ := (hh.2).form
   injection h with h1 h2 h3
   exact List.eq_nil_of_length_eq_zero h2.symm
  subst hl
  go_enter Tryz.func82, Tryz.ntmps82
  go_wp2
  go_ret
  exact ⟨_, rfl, World.ownsRow_nil _ _ _ _, Fr.refl _ _⟩
 ·have hx : xq (w.alloc (.cells #[] 5)) v l.length (l.map zP) := (hh.2).keep ((Fr.refl _ _).alloc _)
  obtain ⟨v', w', happ, ho, hg, -, hfr⟩ := jw (P := Tryz.prog) (w.alloc (.cells #[] 5)) w.heap.size 106 106 5 1 1 _ Xq XG rfl (by decide) (.slice (some ⟨w.heap.size, 0, none⟩) 0 0) 0 [] (World.ownsRow_made w #[] 0 (Nat.le_refl _) (Nat.zero_le _) rfl) v l.length (l.map zP) hx (by simp) (zbl) (by omega) (by unfold maxLen; omega) (by simp) hnil
  have f1 : Fr No w w' := Fr.grown ((Fr.refl _ w).alloc _) hg (fun k hk => by simp [Value.ownBlock] at hk; exact .inl (by omega))
  have hform : ∃ b n c, v = .slice (some b) n c := by
   rcases (hh.2) with (⟨h, _⟩ | ⟨g, go, gc, h, _⟩) | ⟨a0, gc, h, -⟩
   ·exact absurd h hnil
   ·exact ⟨_, _, _, h⟩
   ·exact ⟨_, _, _, h⟩
  obtain ⟨b, n, c, rfl⟩ := hform
  have HAP := Hd happ
  have HO := Hd (show w'.ownsRow w.heap.size 5 1 v' l.length (l.map zP) by simpa using ho)
  have F1 := Hd f1
  clear hx happ ho hg hfr f1 hnil
  go_enter Tryz.func82, Tryz.ntmps82
  go_wp2_with (at_builtin; refine zW rfl rfl rfl rfl HAP.out ?_)
  go_ret
  exact ⟨_, rfl, HO.out, F1.out⟩
set_option maxRecDepth 20000 in
set_option maxHeartbeats 2000000 in
theorem Jg (w : World) {v : Value} {L : List InD} {V : Nat → Prop} (hx : Kept V w (fun w => Xj w v L)) (hN : L.length ≤ 100000) :
  Calls Tryz.prog 80 #[v] w fun e w' => ∃ (v' : Value) (css : List (List Value)), e = .returned v' ∧ css.length = L.length ∧ (∀ (i : Nat) (d : InD) (cs : List Value), L[i]? = some d → css[i]? = some cs → Kept V w' (fun w => InQ w d cs)) ∧ (∀ cs ∈ css, cs.length = 34) ∧ w'.ownsRow w.heap.size 108 34 v' L.length (css.flatMap id) ∧ Fr No w w' := by
 have q22 : ∀ (w : World) (a : Option Addr) (n c n' c' : Nat), (binOp .eql 32 (.slice a n c) (.slice none n' c')).run Tryz.prog w = .ok (.bool a.isNone) w := fun w a n c n' c' => Lib.run_eql_slice_nil w _ _ a n c n' c' XV
 obtain ⟨va, vc, rfl⟩ := hx.now.form
 have f1 : Fr No w (w.alloc (.cells #[] 108)) := (Fr.refl No w).alloc _
 obtain ⟨css, v', w', happ, hcl, hkp, hck, ho, hf, hg⟩ := zdE (w.alloc (.cells #[] 108)) (World.ownsRow_made w #[] 0 (Nat.le_refl _) (Nat.zero_le _) rfl) (V := fun j => V j ∨ j = w.heap.size) (hx.step f1.of0 (fun j hj h => h.resolve_right (by omega))) (by omega) (by simp)
 rw [Nat.zero_add, List.nil_append] at ho
 have f2 : Fr No w w' := f1.trans hf (fun i hi e => by simp [Value.ownBlock] at e; omega)
 have f12 : Fr (fun j => (Value.slice (some ⟨w.heap.size, 0, none⟩) 0 0).ownBlock = some j) (w.alloc (.cells #[] 108)) w' := hf
 cases va with
 | none =>
  have hL : L = [] := by
   cases L with
   | nil => rfl
   | cons d l =>
    obtain ⟨b, off, cap, cs, e, -⟩ := hx.now.at_ (i := 0) rfl
    injection e with e
    cases e
  subst hL
  clear happ ho hf hg hkp hck hcl
  go_enter Tryz.func80, Tryz.ntmps80
  go_wp2
  go_ret
  exact ⟨_, [], rfl, rfl, fun i d cs h => (by simp at h), fun _ h => (by cases h), World.ownsRow_nil _ _ _ _, Fr.refl _ _⟩
 | some ad =>
  have HAP := Hd happ
  have HO := Hd ho
  have F2 := Hd f2
  have HK := Hd (show ∀ (i : Nat) (d : InD) (cs : List Value), L[i]? = some d → css[i]? = some cs → Kept V w' (fun w => InQ w d cs) from fun i d cs h1 h2 => (hkp i d cs h1 h2).step (V' := V) (f12.mono (fun j e => .inr (by simpa [Value.ownBlock] using e.symm))) (fun _ _ h => .inl h))
  have HC := Hd hck
  have HL := Hd hcl
  clear happ ho hf f2 hg hkp hck hcl f12 hx f1
  go_enter Tryz.func80, Tryz.ntmps80
  go_wp2_with (at_builtin; refine zW rfl rfl rfl rfl HAP.out ?_)
  go_ret
  exact ⟨_, css, rfl, HL.out, HK.out, HC.out, HO.out, F2.out⟩
theorem vt {w : World} {b off : Nat} {cs : List Value} (h : w.rangeAt b off cs) (h0 : cs ≠ []) : b < w.heap.size := by
 cases cs with
 | nil => exact absurd rfl h0
 | cons v r => exact World.block_lt_of_cell? w ⟨b, off + 0, none⟩ (h 0 v rfl)
theorem zfC {w w' : World} {v : Value} {n : Nat} {cs : List Value} (h : xq w v n cs) {W : Nat → Prop} (f : Fr W w w') (hW : ∀ j, j < w.heap.size → ¬ W j) : xq w' v n cs :=
 h.imp (fun h => h.keep f (fun j hj => hW j (by
  rcases h with ⟨rfl, _⟩ | ⟨b', off, cap, rfl, h1, h2, h3, h4⟩
  ·cases hj
  ·simp [Value.ownBlock] at hj; subst hj; exact h4))) id
theorem zaL {w : World} {v : Value} {L : List InD} (h : Xj w v L) {V : Nat → Prop} (hV : ∀ j, j < w.heap.size → ¬ V j) : Kept V w (fun w => Xj w v L) := fun w' f => by
 obtain ⟨va, vc, e, hl, h⟩ := h
 refine ⟨va, vc, e, hl, fun i d hi => ?_⟩
 obtain ⟨b, off, cs, h0, h1, ka, kc, rfl, h3, h4⟩ := h i d hi
 have hb := vt h1 (by unfold inC; simp)
 exact ⟨b, off, _, h0, zb h1 f (hV b hb), ka, kc, rfl, h3, h4.1, zfC h4.2 f hV⟩
theorem Yg {k r : Nat} {v : Value} (hr : r < k) : ∀ {css : List (List Value)} {m : Nat} {cs : List Value}, (∀ c ∈ css, c.length = k) → css[m]? = some cs → (css.flatMap id).set (m * k + r) v = (css.set m (cs.set r v)).flatMap id
 | [], m, cs, _, h => by simp at h
 | c :: l, 0, cs, hk, h => by
  simp at h
  subst h
  have hc := hk c (.head _)
  simp only [List.flatMap_cons, id, List.set_cons_zero, Nat.zero_mul, Nat.zero_add]
  rw [List.set_append_left _ _ (by omega)]
 | c :: l, m + 1, cs, hk, h => by
  have hc := hk c (.head _)
  have ih := Yg (v := v) hr (css := l) (m := m) (fun x hx => hk x (.tail _ hx)) (by simpa using h)
  simp only [List.flatMap_cons, id, List.set_cons_succ] at ih ⊢
  rw [← ih, Nat.succ_mul, List.set_append_right _ _ (by omega)]
  congr 2
  omega
theorem zd7 {p : zF} (ok : p.ok) (a b : Value) : (inC p a).set 33 b = inC p b := by
 unfold inC
 rw [List.set_append_right _ _ (by rw [yb ok]; exact Nat.le_refl _), yb ok]
 rfl
def ziO (B : Nat) (t : TxD) (w2 : World) (s : Value) (wc : World) : Prop :=
 ∃ (qd : Nat) (ia : Option Addr) (ic : Nat) (oa : Option Addr) (oc : Nat) (css : List (List Value)), s = .pointer (some ⟨qd, 0, none⟩) ∧ B ≤ qd ∧ Fr No w2 wc ∧
  wc.heap[qd]? = some (.cells #[.int .u32 t.ver, .slice ia t.ins.length ic, .slice oa t.outs.length oc] 34 (0, 0)) ∧
  css.length = t.ins.length ∧ (∀ (i : Nat) (d : InD) (cs : List Value), t.ins[i]? = some d → css[i]? = some cs → Kept (fun j => B ≤ j) wc (fun w => InQ w d cs)) ∧ (∀ cs ∈ css, cs.length = 34) ∧
  wc.ownsRow B 108 34 (.slice ia t.ins.length ic) t.ins.length (css.flatMap id) ∧ wc.ownsRow B 103 33 (.slice oa t.outs.length oc) t.outs.length (t.outs.flatMap zG) ∧
  (∀ j, (Value.slice ia t.ins.length ic).ownBlock = some j → j ≠ qd ∧ (Value.slice oa t.outs.length oc).ownBlock ≠ some j)
theorem Qb (t : Int) (a b : Option Addr) (n c m d : Nat) (w : World) : (Instr.build 34 #[(0, .int .u32 t), (1, .slice a n c), (2, .slice b m d)]).run Tryz.prog w = .ok (.agg [.int .u32 t, .slice a n c, .slice b m d].toArray) w := by kernel_rfl
def ziZ (w : World) (t : TxD) (e : Ending) (w' : World) : Prop := ∃ cs, e = .returned (.agg cs.toArray) ∧ Fr No w w' ∧ ∀ V : Nat → Prop, (∀ j, V j → j < w.heap.size) → Kept V w' (fun w => TxQ w t cs)
structure zfB (B qd : Nat) (ia : Option Addr) (ic : Nat) (t : TxD) (wz wr : World) (n : Nat) (css : List (List Value)) : Prop where
 len : css.length = t.ins.length
 c34 : ∀ cs ∈ css, cs.length = 34
 row : wr.ownsRow B 108 34 (.slice ia t.ins.length ic) t.ins.length (css.flatMap id)
 new : ∀ (i : Nat) (d : InD) (cs : List Value), i < n → t.ins[i]? = some d → css[i]? = some cs → Kept (fun j => j < B ∨ (Value.slice ia t.ins.length ic).ownBlock = some j) wr (fun w => InQ w d cs)
 old : ∀ (i : Nat) (d : InD) (cs : List Value), n ≤ i → t.ins[i]? = some d → css[i]? = some cs → Kept (fun j => B ≤ j) wr (fun w => InQ w d cs)
 fr : Fr (fun j => (Value.slice ia t.ins.length ic).ownBlock = some j) wz wr
set_option maxRecDepth 20000 in
set_option maxHeartbeats 8000000 in
theorem ze2 (w : World) {t : TxD} {cs : List Value} (ht : TxQ w t cs) (hI : t.ins.length ≤ 1000 ∧ t.outs.length ≤ 1000 ∧ ∀ x ∈ t.ins, x.key.length ≤ 1000) :
  Calls Tryz.prog 49 #[.agg cs.toArray] w (ziZ w t) := by
 obtain ⟨ia, ic, oa, oc, rfl, hv, hi, ho⟩ := ht
 obtain ⟨dT, uT, rT⟩ := vw
 have zT := JA
 have f1 : Fr No w (w.alloc (.cells #[.int .u32 t.ver, .slice ia t.ins.length ic, .slice oa t.outs.length oc] 34)) := (Fr.refl No w).alloc _
 have f12 : Fr No (w.alloc (.cells #[.int .u32 t.ver, .slice ia t.ins.length ic, .slice oa t.outs.length oc] 34)) _ := (Fr.refl No _).alloc (.cells (txC 0 (.slice none 0 0) (.slice none 0 0)).toArray 34)
 obtain ⟨c0, c1, c2, -⟩ := qZ w t.ver (.slice ia t.ins.length ic) (.slice oa t.outs.length oc)
 have F2 := Hd (f1.trans0 f12)
 have FD := Hd (F2.out.drew)
 have C0 := Hd ((f12.drew).cell c0 _root_.id)
 have C1 := Hd ((f12.drew).cell c1 _root_.id)
 have C2 := Hd ((f12.drew).cell c2 _root_.id)
 have B2 := Hd (yL (w.alloc (.cells #[.int .u32 t.ver, .slice ia t.ins.length ic, .slice oa t.outs.length oc] 34)) (.cells (txC 0 (.slice none 0 0) (.slice none 0 0)).toArray 34) (n := w.heap.size + 1) (by simp))
 have HO := Hd (ho.keep FD.out)
 have HK := Hd ((zaL hi (V := fun j => w.heap.size + 2 ≤ j) (fun j hj => by omega)).step FD.out.of0 (fun _ _ h => h))
 have Z2 := Hd (show ((w.alloc (.cells #[.int .u32 t.ver, .slice ia t.ins.length ic, .slice oa t.outs.length oc] 34)).alloc (.cells (txC 0 (.slice none 0 0) (.slice none 0 0)).toArray 34)).heap.size = w.heap.size + 2 by simp)
 have HV := Hd hv
 have HI := Hd hI
 clear c0 c1 c2 f1 f12 ho hv hi hI
 show Calls Tryz.prog 49 #[.agg #[.int .u32 t.ver, .slice ia t.ins.length ic, .slice oa t.outs.length oc]] w _
 go_enter Tryz.func49, Tryz.ntmps49
 go_wp2_with fail
 generalize (w.alloc (.cells #[.int .u32 t.ver, .slice ia t.ins.length ic, .slice oa t.outs.length oc] 34)).alloc (.cells (txC 0 (.slice none 0 0) (.slice none 0 0)).toArray 34) = w2 at *
 go_cut [3] from 5 to 14 (fun s3 wc => ziO (w.heap.size + 2) t w2 s3 wc)
 case first =>
  have HKD := Hd (HK.out)
  refine ZZ 11 [0, 1, 2, 3, 4, 5, 6, 7, 8, 9, 10] (fun w' => w'.cell? ⟨w.heap.size, 0, none⟩ = some (.int .u32 t.ver) ∧ w'.cell? ⟨w.heap.size, 1, none⟩ = some (.slice ia t.ins.length ic) ∧ w'.cell? ⟨w.heap.size, 2, none⟩ = some (.slice oa t.outs.length oc)) (by kernel_rfl) (by kernel_rfl) (by kernel_rfl) (by kernel_rfl) ?_ (fun K hK => ?_)
  ·exact ⟨C0.out, C1.out, C2.out⟩
  have Z3 := Hd (show w2.drew.heap.size = w.heap.size + 2 from Z2.out)
  have FW := Hd (show Fr No w2 w2.drew from (Fr.refl No w2).drew)
  generalize w2.drew = w3 at *
  (((first | (refine xZ 0 (by kernel_rfl) rfl rfl ?_; apply Exists.intro; refine ⟨?_, ?_⟩; (focus (first | (intro w' hS; obtain ⟨s1, s2, s3⟩ := hS; go_simp; (try with_reducible rfl); done)))) | (refine x8 0 (by kernel_rfl) rfl rfl ?_)); try simp only [Act.put, pA, pB, pC]); ((first | (refine xZ 1 (by kernel_rfl) rfl rfl ?_; apply Exists.intro; refine ⟨?_, ?_⟩; (focus (first | (intro w' hS; obtain ⟨s1, s2, s3⟩ := hS; go_simp; (try with_reducible rfl); done)))) | (refine x8 1 (by kernel_rfl) rfl rfl ?_)); try simp only [Act.put, pA, pB, pC]); ((first | (refine xZ 2 (by kernel_rfl) rfl rfl ?_; apply Exists.intro; refine ⟨?_, ?_⟩; (focus (first | (intro w' hS; obtain ⟨s1, s2, s3⟩ := hS; go_simp; (try with_reducible rfl); done)))) | (refine x8 2 (by kernel_rfl) rfl rfl ?_)); try simp only [Act.put, pA, pB, pC]); ((first | (refine xZ 3 (by kernel_rfl) rfl rfl ?_; apply Exists.intro; refine ⟨?_, ?_⟩; (focus (first | (intro w' hS; obtain ⟨s1, s2, s3⟩ := hS; go_simp; (try with_reducible rfl); done)))) | (refine x8 3 (by kernel_rfl) rfl rfl ?_)); try simp only [Act.put, pA, pB, pC]); ((first | (refine xZ 5 (by kernel_rfl) rfl rfl ?_; apply Exists.intro; refine ⟨?_, ?_⟩; (focus (first | (intro w' hS; obtain ⟨s1, s2, s3⟩ := hS; go_simp; (try with_reducible rfl); done)))) | (refine x8 5 (by kernel_rfl) rfl rfl ?_)); try simp only [Act.put, pA, pB, pC]); ((first | (refine xZ 6 (by kernel_rfl) rfl rfl ?_; apply Exists.intro; refine ⟨?_, ?_⟩; (focus (first | (intro w' hS; obtain ⟨s1, s2, s3⟩ := hS; go_simp; (try with_reducible rfl); done)))) | (refine x8 6 (by kernel_rfl) rfl rfl ?_)); try simp only [Act.put, pA, pB, pC]))
  refine Xa 4 9 (by kernel_rfl) rfl rfl rfl rfl (fun K' hK' => ?_) (fun K' hK' => ?_)
  ·skip
   go_simp
   refine (Jg w3 (HK.out.step (Fr.refl No w3).of0 (fun _ _ h => h)) (by have := HI.out.1; omega)).mono ?_
   rintro e w4 ⟨iv4, css, rfl, hcl, hkp, h34, hor, f4⟩
   obtain ⟨ia4, ic4, hiv⟩ := hor.slice.arg.form
   subst hiv
   have F4 := Hd f4
   have CL := Hd hcl
   have KP := Hd hkp
   have H34 := Hd h34
   have OR := Hd hor
   clear hcl hkp h34 hor f4
   refine hK'.out _ _ ?_ (fun hS => ?_)
   ·exact ⟨F4.out.cell C0.out _root_.id, F4.out.cell C1.out _root_.id, F4.out.cell C2.out _root_.id⟩
   try simp only [Act.put, pA, pB, pC]
   refine Xa 7 9 (by kernel_rfl) rfl rfl rfl rfl (fun K' hK' => ?_) (fun K' hK' => ?_)
   ·skip
    go_simp
    refine (qY w4 (HO.out.keep F4.out) (by have := HI.out.2.1; omega)).mono ?_
    rintro e w5 ⟨ov5, rfl, hoo, f5⟩
    obtain ⟨oa5, oc5, hov⟩ := hoo.slice.arg.form
    subst hov
    have F5 := Hd f5
    have OO := Hd hoo
    clear hoo f5
    have F35 := Hd (F4.out.trans0 F5.out)
    refine hK'.out _ _ ?_ (fun hS => ?_)
    ·exact ⟨F35.out.cell C0.out _root_.id, F35.out.cell C1.out _root_.id, F35.out.cell C2.out _root_.id⟩
    try simp only [Act.put, pA, pB, pC]
    (((first | (refine xZ 8 (by kernel_rfl) rfl rfl ?_; apply Exists.intro; refine ⟨?_, ?_⟩; (focus (first | exact fun w' _ => yA (t := 34) rfl rfl (Qb t.ver ia4 oa5 t.ins.length ic4 t.outs.length oc5 w') | (intro w' hS; obtain ⟨s1, s2, s3⟩ := hS; go_simp; (try with_reducible rfl); done)))) | (refine x8 8 (by kernel_rfl) rfl rfl ?_)); try simp only [Act.put, pA, pB, pC]))
    refine qi 9 (by kernel_rfl) rfl rfl (fun K' hK' => ?_)
    refine yB (yZ rfl (JA _)) ?_
    have F6 := Hd ((Fr.refl No w5).alloc (.cells (txC 0 (.slice none 0 0) (.slice none 0 0)).toArray 34))
    refine hK'.out _ _ ?_ (fun hS => ?_)
    ·exact ⟨F6.out.cell (F35.out.cell C0.out _root_.id) _root_.id, F6.out.cell (F35.out.cell C1.out _root_.id) _root_.id, F6.out.cell (F35.out.cell C2.out _root_.id) _root_.id⟩
    try simp only [Act.put, pA, pB, pC]
    refine qi 10 (by kernel_rfl) rfl rfl (fun K' hK' => ?_)
    refine xb (zm (w := w5) (ty := 34) (cs := [.int .u32 t.ver, .slice ia4 t.ins.length ic4, .slice oa5 t.outs.length oc5]) rfl rfl rfl rfl zR (JN rfl rfl rfl)) ?_
    have F7 := Hd ((Fr.refl No w5).alloc (.cells ([.int .u32 t.ver, .slice ia4 t.ins.length ic4, .slice oa5 t.outs.length oc5]).toArray 34))
    refine hK'.out _ _ ?_ (fun hS => ?_)
    ·exact ⟨F7.out.cell (F35.out.cell C0.out _root_.id) _root_.id, F7.out.cell (F35.out.cell C1.out _root_.id) _root_.id, F7.out.cell (F35.out.cell C2.out _root_.id) _root_.id⟩
    try simp only [Act.put, pA, pB, pC]
    refine JU (hK.out _ _ ?_)
    go_wp2_with fail
    go_meet
    case rel => exact ⟨w5.heap.size, ia4, ic4, oa5, oc5, css, rfl, by have := F35.out.size; have := Z3.out; omega, FW.out.trans0 (F35.out.trans0 F7.out), yn w5 (.cells ([.int .u32 t.ver, .slice ia4 t.ins.length ic4, .slice oa5 t.outs.length oc5]).toArray 34), CL.out, fun i d cs h1 h2 => (KP.out i d cs h1 h2).step (F5.out.trans0 F7.out).of0 (fun _ _ h => h), H34.out, yU (zl (zl OR.out F5.out (fun _ _ => _root_.id)) F7.out (fun _ _ => _root_.id)) (by have := Z3.out; omega), yU (zl OO.out F7.out (fun _ _ => _root_.id)) (by have := F4.out.size; have := Z3.out; omega), fun j hj => ⟨by have := (OR.out.lt j hj).2; have := F5.out.size; omega, fun e => by have := (OR.out.lt j hj).2; have := (OO.out.lt j e).1; omega⟩⟩
   ·refine yB (yZ rfl (JA _)) ?_
    have FA := Hd ((Fr.refl No w4).alloc (.cells (txC 0 (.slice none 0 0) (.slice none 0 0)).toArray 34))
    have BA := Hd (yn w4 (.cells (txC 0 (.slice none 0 0) (.slice none 0 0)).toArray 34))
    have ZA := Hd (show (w4.alloc (.cells (txC 0 (.slice none 0 0) (.slice none 0 0)).toArray 34)).heap.size = w4.heap.size + 1 by simp)
    generalize w4.alloc (.cells (txC 0 (.slice none 0 0) (.slice none 0 0)).toArray 34) = wa at *
    generalize hqd : w4.heap.size = qd at *
    have F4A := Hd (F4.out.trans0 FA.out)
    refine hK'.out _ _ ?_ (fun hS => ?_)
    ·exact ⟨F4A.out.cell C0.out _root_.id, F4A.out.cell C1.out _root_.id, F4A.out.cell C2.out _root_.id⟩
    try simp only [Act.put, pA, pB, pC]
    refine qi 7 (by kernel_rfl) rfl rfl (fun K' hK' => ?_)
    go_simp
    refine (qY wa (HO.out.keep F4A.out) (by have := HI.out.2.1; omega)).mono ?_
    rintro e w5 ⟨ov5, rfl, hoo, f5⟩
    obtain ⟨oa5, oc5, hov⟩ := hoo.slice.arg.form
    subst hov
    have F5 := Hd f5
    have OO := Hd hoo
    clear hoo f5
    have F35 := Hd (F4A.out.trans0 F5.out)
    have B5 := Hd (F5.out.obj BA.out _root_.id)
    refine hK'.out _ _ ?_ (fun hS => ?_)
    ·exact ⟨F35.out.cell C0.out _root_.id, F35.out.cell C1.out _root_.id, F35.out.cell C2.out _root_.id⟩
    try simp only [Act.put, pA, pB, pC]
    (((first | (refine xZ 8 (by kernel_rfl) rfl rfl ?_; apply Exists.intro; refine ⟨?_, ?_⟩; (focus (first | exact fun w' _ => yA (t := 34) rfl rfl (Qb t.ver ia4 oa5 t.ins.length ic4 t.outs.length oc5 w') | (intro w' hS; obtain ⟨s1, s2, s3⟩ := hS; go_simp; (try with_reducible rfl); done)))) | (refine x8 8 (by kernel_rfl) rfl rfl ?_)); try simp only [Act.put, pA, pB, pC]))
    refine qi 10 (by kernel_rfl) rfl rfl (fun K' hK' => ?_)
    refine xb (z6 (ty := 34) (b := qd) (off := 0) (cs := [.int .u32 t.ver, .slice ia4 t.ins.length ic4, .slice oa5 t.outs.length oc5]) rfl rfl rfl (yg B5.out (Nat.le_refl 3)) zR (JN rfl rfl rfl)) ?_
    have F7 := Hd (zJ qd ([.int .u32 t.ver, .slice ia4 t.ins.length ic4, .slice oa5 t.outs.length oc5]) 0 w5)
    have HQ := Hd (show w3.heap.size ≤ qd by have := F4.out.size; omega)
    have F37 := Hd (show Fr No w3 _ from F35.out.trans F7.out (fun i hi e => by have := HQ.out; omega))
    refine hK'.out _ _ ?_ (fun hS => ?_)
    ·exact ⟨F37.out.cell C0.out _root_.id, F37.out.cell C1.out _root_.id, F37.out.cell C2.out _root_.id⟩
    try simp only [Act.put, pA, pB, pC]
    refine JU (hK.out _ _ ?_)
    go_wp2_with fail
    go_meet
    case rel => exact ⟨qd, ia4, ic4, oa5, oc5, css, rfl, by have := HQ.out; have := Z3.out; omega, FW.out.trans0 F37.out, zdt (cs := [.int .u32 t.ver, .slice ia4 t.ins.length ic4, .slice oa5 t.outs.length oc5]) B5.out rfl, CL.out, fun i d cs h1 h2 => ((KP.out i d cs h1 h2).step (FA.out.trans0 F5.out).of0 (fun _ _ h => h)).step (F7.out.mono (fun j e => by have := HQ.out; have := Z3.out; omega)) (fun _ _ h => h), H34.out, yU (zl (zl OR.out (FA.out.trans0 F5.out) (fun _ _ => _root_.id)) F7.out (fun j hj e => by have := (OR.out.lt j hj).2; omega)) (by have := Z3.out; omega), yU (zl OO.out F7.out (fun j hj e => by have := (OO.out.lt j hj).1; have := ZA.out; omega)) (by have := HQ.out; have := Z3.out; have := ZA.out; omega), fun j hj => ⟨by have := (OR.out.lt j hj).2; omega, fun e => by have := (OR.out.lt j hj).2; have := (OO.out.lt j e).1; have := ZA.out; omega⟩⟩
  ·refine yB (yZ rfl (JA _)) ?_
   have FA := Hd ((Fr.refl No w3).alloc (.cells (txC 0 (.slice none 0 0) (.slice none 0 0)).toArray 34))
   have BA := Hd (yn w3 (.cells (txC 0 (.slice none 0 0) (.slice none 0 0)).toArray 34))
   have ZA := Hd (show (w3.alloc (.cells (txC 0 (.slice none 0 0) (.slice none 0 0)).toArray 34)).heap.size = w3.heap.size + 1 by simp)
   generalize w3.alloc (.cells (txC 0 (.slice none 0 0) (.slice none 0 0)).toArray 34) = wa at *
   generalize hqd : w3.heap.size = qd at *
   refine hK'.out _ _ ?_ (fun hS => ?_)
   ·exact ⟨FA.out.cell C0.out _root_.id, FA.out.cell C1.out _root_.id, FA.out.cell C2.out _root_.id⟩
   try simp only [Act.put, pA, pB, pC]
   refine qi 4 (by kernel_rfl) rfl rfl (fun K' hK' => ?_)
   go_simp
   refine (Jg wa (HK.out.step (FA.out).of0 (fun _ _ h => h)) (by have := HI.out.1; omega)).mono ?_
   rintro e w4 ⟨iv4, css, rfl, hcl, hkp, h34, hor, f4⟩
   obtain ⟨ia4, ic4, hiv⟩ := hor.slice.arg.form
   subst hiv
   have F4 := Hd f4
   have CL := Hd hcl
   have KP := Hd hkp
   have H34 := Hd h34
   have OR := Hd hor
   clear hcl hkp h34 hor f4
   have F4A := Hd (FA.out.trans0 F4.out)
   refine hK'.out _ _ ?_ (fun hS => ?_)
   ·exact ⟨F4A.out.cell C0.out _root_.id, F4A.out.cell C1.out _root_.id, F4A.out.cell C2.out _root_.id⟩
   try simp only [Act.put, pA, pB, pC]
   refine qi 7 (by kernel_rfl) rfl rfl (fun K' hK' => ?_)
   go_simp
   refine (qY w4 (HO.out.keep F4A.out) (by have := HI.out.2.1; omega)).mono ?_
   rintro e w5 ⟨ov5, rfl, hoo, f5⟩
   obtain ⟨oa5, oc5, hov⟩ := hoo.slice.arg.form
   subst hov
   have F5 := Hd f5
   have OO := Hd hoo
   clear hoo f5
   have F35 := Hd (F4A.out.trans0 F5.out)
   have B5 := Hd (F5.out.obj (F4.out.obj BA.out _root_.id) _root_.id)
   refine hK'.out _ _ ?_ (fun hS => ?_)
   ·exact ⟨F35.out.cell C0.out _root_.id, F35.out.cell C1.out _root_.id, F35.out.cell C2.out _root_.id⟩
   try simp only [Act.put, pA, pB, pC]
   (((first | (refine xZ 8 (by kernel_rfl) rfl rfl ?_; apply Exists.intro; refine ⟨?_, ?_⟩; (focus (first | exact fun w' _ => yA (t := 34) rfl rfl (Qb t.ver ia4 oa5 t.ins.length ic4 t.outs.length oc5 w') | (intro w' hS; obtain ⟨s1, s2, s3⟩ := hS; go_simp; (try with_reducible rfl); done)))) | (refine x8 8 (by kernel_rfl) rfl rfl ?_)); try simp only [Act.put, pA, pB, pC]))
   refine qi 10 (by kernel_rfl) rfl rfl (fun K' hK' => ?_)
   refine xb (z6 (ty := 34) (b := qd) (off := 0) (cs := [.int .u32 t.ver, .slice ia4 t.ins.length ic4, .slice oa5 t.outs.length oc5]) rfl rfl rfl (yg B5.out (Nat.le_refl 3)) zR (JN rfl rfl rfl)) ?_
   have F7 := Hd (zJ qd ([.int .u32 t.ver, .slice ia4 t.ins.length ic4, .slice oa5 t.outs.length oc5]) 0 w5)
   have F37 := Hd (show Fr No w3 _ from F35.out.trans F7.out (fun i hi e => by omega))
   refine hK'.out _ _ ?_ (fun hS => ?_)
   ·exact ⟨F37.out.cell C0.out _root_.id, F37.out.cell C1.out _root_.id, F37.out.cell C2.out _root_.id⟩
   try simp only [Act.put, pA, pB, pC]
   refine JU (hK.out _ _ ?_)
   go_wp2_with fail
   go_meet
   case rel => exact ⟨qd, ia4, ic4, oa5, oc5, css, rfl, by have := Z3.out; omega, FW.out.trans0 F37.out, zdt (cs := [.int .u32 t.ver, .slice ia4 t.ins.length ic4, .slice oa5 t.outs.length oc5]) B5.out rfl, CL.out, fun i d cs h1 h2 => ((KP.out i d cs h1 h2).step F5.out.of0 (fun _ _ h => h)).step (F7.out.mono (fun j e => by have := Z3.out; omega)) (fun _ _ h => h), H34.out, yU (zl (zl OR.out F5.out (fun _ _ => _root_.id)) F7.out (fun j hj e => by have := (OR.out.lt j hj).1; have := ZA.out; omega)) (by have := Z3.out; have := ZA.out; omega), yU (zl OO.out F7.out (fun j hj e => by have := (OO.out.lt j hj).1; have := F4.out.size; have := ZA.out; omega)) (by have := Z3.out; have := ZA.out; have := F4.out.size; omega), fun j hj => ⟨by have := (OR.out.lt j hj).1; have := ZA.out; omega, fun e => by have := (OR.out.lt j hj).2; have := (OO.out.lt j e).1; omega⟩⟩
 case rest =>
  rename World => wz
  obtain ⟨qd, ia', ic', oa', oc', css, rfl, hqd, fc, bq, hcl, hck, hc34, hor, hoo, hap⟩ := hcut
  have QD := Hd hqd
  have FC := Hd fc
  have OO := Hd hoo
  have AP := Hd hap
  have QL := Hd (xf bq)
  have B2c := Hd (fc.obj B2.out _root_.id)
  have c1 : wz.cell? ⟨qd, 1, none⟩ = some (.slice ia' t.ins.length ic') := by have := ya bq 1 _ rfl; simpa using this
  have L8 := Hd HI.out.1
  have BQ := Hd bq
  have HR := Hd (show ∃ css, zfB (w.heap.size + 2) qd ia' ic' t wz wz 0 css from ⟨css, hcl, hc34, hor, fun i d cs h h1 h2 => absurd h (Nat.not_lt_zero i), fun i d cs h h1 h2 => hck i d cs h1 h2, Fr.refl _ _⟩)
  clear hqd fc bq hcl hck hc34 hor hoo hap
  have iz := HI.out.1
  go_wp2_with fail
  clear c1
  go_loopw [17] (fun iv wr => ∃ n : Nat, iv = .int .i64 n ∧ n ≤ t.ins.length ∧ ∃ css, zfB (w.heap.size + 2) qd ia' ic' t wz wr n css) (fun iv _ => t.ins.length - (intOf iv).toNat)
  case atStart => exact ⟨0, rfl, Nat.zero_le _, HR.out⟩
  case round =>
   obtain ⟨n, rfl, hn, css, hol⟩ := hrel
   have OL := Hd hol
   clear hol
   by_cases hlt : n < t.ins.length
   ·have i1 : (n : Int) < (t.ins.length : Int) := by omega
    obtain ⟨x, hx⟩ : ∃ x, t.ins[n]? = some x := ⟨_, List.getElem?_eq_getElem hlt⟩
    have HX := Hd hx
    obtain ⟨cs, hcs⟩ : ∃ cs, css[n]? = some cs := ⟨_, List.getElem?_eq_getElem (by rw [OL.out.len]; exact hlt)⟩
    obtain ⟨ka, kc, hce, hpok, hkey⟩ := (OL.out.old n x cs (Nat.le_refl _) hx hcs).now
    have KYR := Hd hkey
    have HCS := Hd (show css[n]? = some (inC x.from_ (.slice ka x.key.length kc)) by rw [hcs, hce])
    have POK := Hd hpok
    obtain ⟨g, cap, hge, hgr, hgl⟩ := jP (f := id) (by decide) OL.out.c34 OL.out.row HCS.out
    cases hge
    have GL := Hd ((OL.out.row.lt g rfl))
    have FZ := Hd OL.out.fr
    have AG := Hd (AP.out g rfl)
    have NQ := Hd (show qd ≠ g from fun e => AG.out.1 e.symm)
    have C1r := Hd (show wr.cell? ⟨qd, 1, none⟩ = some (.slice (some ⟨g, 0, none⟩) t.ins.length ic') from by
     have := ya (FZ.out.obj BQ.out (fun e => by cases e; exact NQ.out rfl)) 1 _ rfl
     simpa using this)
    have CK := Hd (show wr.cell? ⟨g, n * 34 + 33, none⟩ = some (.slice ka x.key.length kc) from (zdg hgr hpok).2)
    have KLN := Hd (HI.out.2.2 x (List.mem_of_getElem? hx))
    have i2 : (n : Int) < (t.ins.length : Int) := i1
    clear hx hcs hce hpok hkey hgr hgl
    go_wp2_with fail
    have FD1 := Hd ((Fr.refl No wr).drew)
    refine yJ [false, false, false, false, false, false, false, false, false, true, false, false, true] (fun w' => w'.cell? ⟨qd, 1, none⟩ = some (.slice (some ⟨g, 0, none⟩) t.ins.length ic') ∧ w'.cell? ⟨g, n * 34 + 33, none⟩ = some (.slice ka x.key.length kc)) (by kernel_rfl) (by kernel_rfl) 12 (by kernel_rfl) (by kernel_rfl) ?_ (fun K hK => ?_)
    ·exact ⟨FD1.out.cell C1r.out _root_.id, FD1.out.cell CK.out _root_.id⟩
    repeat (first | ((first | with_reducible refine yG ?_ | ((with_reducible refine yp ?_ ?_); (focus rfl))); apply Exists.intro; refine ⟨?_, ?_⟩; (focus (first | (intro w' hS; obtain ⟨s1, s2⟩ := hS; go_simp; (try with_reducible rfl); done))); try simp only [Act.put, pA, pB, pC]) | ((first | ((with_reducible refine zX (c := false) ?_ ?_ ?_); (focus rfl); (focus rfl)) | ((with_reducible refine zX (c := true) ?_ ?_ ?_); (focus rfl); (focus rfl)) | ((with_reducible refine yq ?_ ?_); (focus rfl))); try simp only [Act.put, pA, pB, pC]))
    (first | with_reducible refine yK (fun K' hK' => ?_) | ((with_reducible refine yx ?_ (fun K' hK' => ?_)); (focus rfl)))
    go_simp
    refine (Xc wr.drew (KYR.out.keep FD1.out) (by have := KLN.out; omega)).mono ?_
    rintro e w4 ⟨kv, rfl, hko, f4⟩
    obtain ⟨ka4, kc4, hkv⟩ := hko.slice.arg.form
    subst hkv
    have F4 := Hd (FD1.out.trans0 f4)
    have KO := Hd hko
    clear hko f4
    refine hK'.out _ _ (fun _ => ?_) (fun hS => ?_)
    ·exact ⟨F4.out.cell C1r.out _root_.id, F4.out.cell CK.out _root_.id⟩
    try simp only [Act.put, pA, pB, pC]
    repeat (first | ((first | with_reducible refine yG ?_ | ((with_reducible refine yp ?_ ?_); (focus rfl))); apply Exists.intro; refine ⟨?_, ?_⟩; (focus (first | (intro w' hS; obtain ⟨s1, s2⟩ := hS; go_simp; (try with_reducible rfl); done))); try simp only [Act.put, pA, pB, pC]) | ((first | ((with_reducible refine zX (c := false) ?_ ?_ ?_); (focus rfl); (focus rfl)) | ((with_reducible refine zX (c := true) ?_ ?_ ?_); (focus rfl); (focus rfl)) | ((with_reducible refine yq ?_ ?_); (focus rfl))); try simp only [Act.put, pA, pB, pC]))
    have ROW4 := Hd (zl OL.out.row F4.out (fun _ _ => _root_.id))
    have fz : w4.frozen? ⟨g, n * 34 + 33, none⟩ = false := ROW4.out.frozenAt _
    have cz := F4.out.cell CK.out _root_.id
    have NK := Hd (show n * 34 + 33 + 1 ≤ t.ins.length * 34 by omega)
    have fs : Fr (fun j => j = g) w4 (w4.setCell ⟨g, n * 34 + 33, none⟩ (.slice ka4 x.key.length kc4)) := (Fr.refl (fun j => j = g) w4).setCell _ (.inr rfl) _
    have FS := Hd fs
    have OLN := Hd (show zfB (w.heap.size + 2) qd (some ⟨g, 0, none⟩) ic' t wz (w4.setCell ⟨g, n * 34 + 33, none⟩ (.slice ka4 x.key.length kc4)) (n + 1) (css.set n (inC x.from_ (.slice ka4 x.key.length kc4))) from by
     refine ⟨by rw [List.length_set]; exact OL.out.len, fun cs hc => ?_, ?_, fun i d cs hi h1 h2 => ?_, fun i d cs hi h1 h2 => ?_, ?_⟩
     ·rcases List.mem_or_eq_of_mem_set hc with hc | rfl
      ·exact OL.out.c34 cs hc
      ·exact vi POK.out _
     ·have h1 := vz ROW4.out (n * 34 + 33) (cs := [.slice ka4 x.key.length kc4]) (by have := NK.out; simpa using this)
      have h2 := Yg (r := 33) (v := .slice ka4 x.key.length kc4) (by decide) OL.out.c34 HCS.out
      rw [zd7 POK.out] at h2
      rw [← h2]
      exact h1
     ·by_cases hin : i = n
      ·subst hin
       rw [HX.out] at h1
       cases h1
       rw [List.getElem?_set_self (by have := OL.out.len; omega)] at h2
       cases h2
       have hk := zck KO.out KYR.out.1 (V := fun j => j < w.heap.size + 2 ∨ (Value.slice (some ⟨g, 0, none⟩) t.ins.length ic').ownBlock = some j) (fun j hj => by
        have h3 := FZ.out.size
        have h4 := FC.out.size
        have h5 := Z2.out
        have h6 := GL.out.2
        show j < wr.heap.size
        rcases hj with hj | hj
        ·omega
        ·simp [Value.ownBlock] at hj; omega)
       exact (hk.step (FS.out.mono (fun j e => .inr (by rw [e]; rfl))) (fun _ _ h => h)).imp (fun w' _ h => ⟨ka4, kc4, rfl, POK.out, h⟩)
      ·rw [List.getElem?_set_ne (by omega)] at h2
       exact ((OL.out.new i d cs (by omega) h1 h2).step F4.out.of0 (fun _ _ h => h)).step (FS.out.mono (fun j e => .inr (by rw [e]; rfl))) (fun _ _ h => h)
     ·rw [List.getElem?_set_ne (by omega)] at h2
      exact ((OL.out.old i d cs (by omega) h1 h2).step F4.out.of0 (fun _ _ h => h)).step (FS.out.mono (fun j e => by rw [e]; exact GL.out.1)) (fun _ _ h => h)
     ·exact (FZ.out.trans0 F4.out).trans FS.out (fun j _ e => by rw [e]; rfl))
    clear fs
    (first | with_reducible refine yK (fun K' hK' => ?_) | ((with_reducible refine yx ?_ (fun K' hK' => ?_)); (focus rfl)))
    go_simp
    refine hK'.out _ _ (fun h => absurd rfl h) (fun hS => ?_)
    refine qy (hK.out _ _ ?_)
    go_wp2_with fail
    go_roundw
    case rel => exact ⟨n + 1, by go_num, by omega, _, OLN.out⟩
    case measure => simp [intOf]; omega
   ·have hne : n = t.ins.length := by omega
    have i1 : ¬ (n : Int) < (t.ins.length : Int) := by omega
    have HNE := Hd hne
    have FZ := Hd OL.out.fr
    have BQR := Hd (FZ.out.obj BQ.out (fun e => (AP.out qd e).1 rfl))
    have RU := Hd (ya BQR.out)
    have BRR := Hd (FZ.out.obj B2c.out (fun e => by have := (OL.out.row.lt _ e).1; omega))
    have HXF := Hd (show ∀ V : Nat → Prop, (∀ j, V j → j < w.heap.size + 2) → Kept V wr (fun w => TxQ w t [.int .u32 t.ver, .slice ia' t.ins.length ic', .slice oa' t.outs.length oc']) from fun V hV w' f => by
     have k1 : zb2 (w.heap.size + 2) 108 34 InQ (fun j => j < w.heap.size + 2) wr (.slice ia' t.ins.length ic') t.ins css := ⟨OL.out.row, OL.out.len, OL.out.c34, fun i d cs h1 h2 => OL.out.new i d cs (by rw [HNE.out]; exact (List.getElem?_eq_some_iff.1 h1).1) h1 h2⟩
     have k2 := k1.rows (U := V) (by decide) (by unfold maxLen; have := L8.out; omega) (fun j _ e => hV j e) (fun j hj e => by have := (k1.lt j hj).1; have := hV j e; omega) w' f
     have k3 := zaK (V := V) (zl OO.out FZ.out (fun j hj e => (AP.out j e).2 hj)) HO.out.1 hV w' f
     exact ⟨ia', ic', oa', oc', rfl, HV.out, k2, k3⟩)
    clear hne
    have K0 := tru
    have K1 := tru
    go_wp2_with (first | ((with_reducible refine zn ?_); have mk := K0.out; refine zd rfl (zf (ty := 34) rfl rfl RU.out uT rT zR) ?_; go_frame) | ((with_reducible refine zA ?_); have mk := K1.out; refine zq rfl (z6 (ty := 34) (b := w.heap.size + 1) (off := 0) (cs := [.int .u32 t.ver, .slice ia' t.ins.length ic', .slice oa' t.outs.length oc']) rfl rfl rfl (yg BRR.out (Nat.le_refl 3)) zR (JN rfl rfl rfl)) ?_; go_frame))
    have BE := zdt (cs := [.int .u32 t.ver, .slice ia' t.ins.length ic', .slice oa' t.outs.length oc']) BRR.out rfl
    have fE := zJ (w.heap.size + 1) [.int .u32 t.ver, .slice ia' t.ins.length ic', .slice oa' t.outs.length oc'] 0 wr
    refine bodyPost_ret (v := .agg [.int .u32 t.ver, .slice ia' t.ins.length ic', .slice oa' t.outs.length oc'].toArray) (results_cell_row (P := Tryz.prog) (fn := Tryz.f49) rfl _ _ (w.heap.size + 1) 34 _ (0, 0) _ rfl BE Tryz.underlying34 rfl zR) rfl ⟨_, rfl, ?_, fun V hV w' f => HXF.out (fun j => V j ∨ j = w.heap.size + 1) (fun j hj => by rcases hj with hj | hj; have := hV j hj; omega; omega) w' ((fE.mono (fun j hj => .inr hj)).trans (f.mono (fun j hj => .inl hj)) (fun _ _ h => h))⟩
    exact (((F2.out.trans0 FC.out).trans FZ.out (fun j hj e => by have := (OL.out.row.lt _ e).1; omega))).trans fE (fun i hi e => by omega)
end Go.Proofs.YtdkkjchclkjleaaGreatDoor
