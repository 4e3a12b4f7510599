/- chain: transactions and blocks as they lie. -/
import Derived.Deep.LoopGhost
import Derived.Laws.OwnMore
import Derived.Test.YtdkkjchclkjleaaGreatDoorSG10
import Derived.Test.YtdkkjchclkjleaaGreatDoorSG9
import Derived.Test.YtdkkjchclkjleaaGreatDoorSG6
import Derived.Test.YtdkkjchclkjleaaGreatDoorSG4
import Derived.Test.YtdkkjchclkjleaaGreatDoorSG5
set_option linter.unusedVariables false
set_option linter.unusedSimpArgs false
set_option linter.unnecessarySimpa false
set_option linter.all false
namespace Go.Proofs.YtdkkjchclkjleaaGreatDoor
open Go Go.RowKit Go.Maps Go.MapKept
def Kept (V : Nat → Prop) (w : World) (Q : World → Prop) : Prop := ∀ w', Fr V w w' → Q w'
theorem Kept.now {V : Nat → Prop} {w : World} {Q : World → Prop} (h : Kept V w Q) : Q w := h w (Fr.refl V w)
theorem Kept.step {V V' : Nat → Prop} {w w' : World} {Q : World → Prop} (h : Kept V w Q) (f : Fr V w w') (hv : ∀ j, j < w.heap.size → V' j → V j) : Kept V' w' Q :=
 fun w2 f2 => h w2 (f.trans f2 hv)
theorem Kept.same {V : Nat → Prop} {w w' : World} {Q : World → Prop} (h : Kept V w Q) (f : Fr V w w') : Kept V w' Q := h.step f (fun _ _ h => h)
theorem Kept.imp {V : Nat → Prop} {w : World} {Q R : World → Prop} (h : Kept V w Q) (hr : ∀ w', Fr V w w' → Q w' → R w') : Kept V w R := fun w' f => hr w' f (h w' f)
structure InD where
 from_ : zF
 key : List Int
structure TxD where
 ver : Int
 ins : List InD
 outs : List yF
structure Zr where
 tag : Int
 pay : List yF
 txs : List TxD
def qK {α : Type} (k : Nat) (q : World → α → List Value → Prop) (w : World) (v : Value) (L : List α) : Prop :=
 ∃ va vc, v = .slice va L.length vc ∧ L.length ≤ maxLen ∧ ∀ (i : Nat) (d : α), L[i]? = some d → ∃ b off cs, va = some ⟨b, off, none⟩ ∧ w.rangeAt b (off + i * k) cs ∧ q w d cs
theorem qK.keep {α : Type} {k : Nat} {q : World → α → List Value → Prop} {w w' : World} {v : Value} {L : List α} (hq : ∀ d cs, q w d cs → q w' d cs) (h : qK k q w v L) (f : Fr No w w') : qK k q w' v L := by
 obtain ⟨va, vc, e, hl, h⟩ := h
 refine ⟨va, vc, e, hl, fun i d hi => ?_⟩
 obtain ⟨b, off, cs, h0, h1, h2⟩ := h i d hi
 exact ⟨b, off, cs, h0, zb h1 f id, hq _ _ h2⟩
theorem qK.form {α : Type} {k : Nat} {q : World → α → List Value → Prop} {w : World} {v : Value} {L : List α} (h : qK k q w v L) : ∃ a c, v = .slice a L.length c := by
 obtain ⟨va, vc, e, _⟩ := h
 exact ⟨va, vc, e⟩
theorem qK.at_ {α : Type} {k : Nat} {q : World → α → List Value → Prop} {w : World} {v : Value} {L : List α} (h : qK k q w v L) {i : Nat} {d : α} (hx : L[i]? = some d) : ∃ b off cap cs, v = .slice (some ⟨b, off, none⟩) L.length cap ∧ w.rangeAt b (off + i * k) cs ∧ q w d cs := by
 obtain ⟨va, vc, rfl, -, h⟩ := h
 obtain ⟨b, off, cs, e, h1, h2⟩ := h i d hx
 subst e
 exact ⟨b, off, vc, cs, rfl, h1, h2⟩
theorem qK.len {α : Type} {k : Nat} {q : World → α → List Value → Prop} {w : World} {v : Value} {L : List α} (h : qK k q w v L) : L.length ≤ maxLen := by
 obtain ⟨va, vc, e, h, _⟩ := h
 exact h
theorem qK.own {α : Type} {k : Nat} {q : World → α → List Value → Prop} {w : World} {v : Value} {L : List α} {B : Nat} {ty : TypeId} {css : List (List Value)} (hk0 : 0 < k) (h : w.ownsRow B ty k v L.length (css.flatMap id)) (hl : css.length = L.length) (hk : ∀ cs ∈ css, cs.length = k) (hm : L.length ≤ maxLen)
  (hq : ∀ (i : Nat) (d : α) (cs : List Value), L[i]? = some d → css[i]? = some cs → q w d cs) : qK k q w v L := by
 obtain ⟨va, vc, rfl⟩ := h.slice.arg.form
 refine ⟨va, vc, rfl, hm, fun i d hi => ?_⟩
 have hil : i < css.length := by rw [hl]; exact (List.getElem?_eq_some_iff.1 hi).1
 obtain ⟨g, cap, e, hr, -⟩ := jP (f := id) hk0 hk h (List.getElem?_eq_getElem hil)
 injection e with e1 e2 e3
 subst e1
 exact ⟨g, 0, css[i], rfl, by rwa [Nat.zero_add], hq i d _ hi (List.getElem?_eq_getElem hil)⟩
def Vs (w : World) (v : Value) (k : List Int) : Prop := (∀ b ∈ k, 0 ≤ b ∧ b ≤ 255) ∧ xq w v k.length (k.map zP)
theorem Vs.keep {w w' : World} {v : Value} {k : List Int} (h : Vs w v k) (f : Fr No w w') : Vs w' v k := ⟨h.1, h.2.keep f⟩
def inC (p : zF) (kv : Value) : List Value := zB p ++ [kv]
theorem vi {p : zF} (h : p.ok) (kv : Value) : (inC p kv).length = 34 := by simp [inC, yb h]
theorem jF {p : zF} {a : Option Addr} {n c : Nat} : ∀ u ∈ inC p (.slice a n c), u.oneCell' = true := by
 intro u hu
 simp only [inC, List.mem_append, List.mem_singleton] at hu
 rcases hu with hu | rfl
 ·exact y3 u hu
 ·rfl
def InQ (w : World) (x : InD) (cs : List Value) : Prop := ∃ ka kc, cs = inC x.from_ (.slice ka x.key.length kc) ∧ x.from_.ok ∧ Vs w (.slice ka x.key.length kc) x.key
theorem InQ.keep {w w' : World} {x : InD} {cs : List Value} (h : InQ w x cs) (f : Fr No w w') : InQ w' x cs := by
 obtain ⟨ka, kc, e, h1, h2⟩ := h
 exact ⟨ka, kc, e, h1, h2.keep f⟩
abbrev Xj (w : World) (v : Value) (L : List InD) : Prop := qK 34 InQ w v L
theorem Xj.keep0 {w w' : World} {v : Value} {L : List InD} (h : Xj w v L) (f : Fr No w w') : Xj w' v L := qK.keep (fun _ _ h => h.keep f) h f
theorem YV : ∃ d, Tryz.prog.underlying 108 = some d ∧ d.isRow = true := jf (by kernel_rfl)
theorem q9 : (Tryz.prog.info? 108).map (·.size) = some 34 := by kernel_rfl
theorem Zj (w : World) : (zeroValue 108).run Tryz.prog w = .ok (.agg (inC xO (.slice none 0 0)).toArray) w := by kernel_rfl
theorem XV : Tryz.prog.underlying 32 = some (.slice 108) := by kernel_rfl
theorem zhF : (Tryz.prog.info? 108).map (fun i => (i.zero, i.size, i.bytes)) = some (some (.agg (inC xO (.slice none 0 0)).toArray), 34, 64) := by kernel_rfl
theorem zdg {w : World} {b off : Nat} {p : zF} {kv : Value} (r : w.rangeAt b off (inC p kv)) (ok : p.ok) : w.rangeAt b off (zB p) ∧ w.cell? ⟨b, off + 33, none⟩ = some kv := by
 refine ⟨fun j u hj => r j u ?_, ?_⟩
 ·unfold inC
  rw [List.getElem?_append_left (List.getElem?_eq_some_iff.1 hj).1]
  exact hj
 ·refine r 33 kv ?_
  unfold inC
  rw [List.getElem?_append_right (by rw [yb ok]; exact Nat.le_refl _), yb ok]
  rfl
theorem Qn {w : World} {b off : Nat} {p : zF} (r : w.rangeAt b off (zB p)) (ok : p.ok) : w.rangeAt b off (p.tx.map zP) ∧ w.cell? ⟨b, off + 32, none⟩ = some (.int .u32 p.n) := by
 refine ⟨fun j u hj => r j u ?_, r 32 _ (zeZ ok)⟩
 unfold zB
 rw [List.getElem?_append_left (List.getElem?_eq_some_iff.1 hj).1]
 exact hj
def txC (v : Int) (iv ov : Value) : List Value := [.int .u32 v, iv, ov]
def TxQ (w : World) (t : TxD) (cs : List Value) : Prop := ∃ ia ic oa oc, cs = txC t.ver (.slice ia t.ins.length ic) (.slice oa t.outs.length oc) ∧ (0 ≤ t.ver ∧ t.ver ≤ 4294967295) ∧ Xj w (.slice ia t.ins.length ic) t.ins ∧ xz w (.slice oa t.outs.length oc) t.outs
theorem TxQ.keep {w w' : World} {x : TxD} {cs : List Value} (h : TxQ w x cs) (f : Fr No w w') : TxQ w' x cs := by
 obtain ⟨ia, ic, oa, oc, e, h1, h2, h3⟩ := h
 exact ⟨ia, ic, oa, oc, e, h1, h2.keep0 f, h3.keep f⟩
abbrev zgT (w : World) (v : Value) (L : List TxD) : Prop := qK 3 TxQ w v L
theorem vw : ∃ d, Tryz.prog.underlying 34 = some d ∧ d.isRow = true := jf (by kernel_rfl)
theorem zR : (Tryz.prog.info? 34).map (·.size) = some 3 := by kernel_rfl
theorem zgD : Tryz.prog.underlying 23 = some (.slice 34) := by kernel_rfl
theorem zhO : (Tryz.prog.info? 34).map (fun i => (i.zero, i.size, i.bytes)) = some (some (.agg (txC 0 (.slice none 0 0) (.slice none 0 0)).toArray), 3, 56) := by kernel_rfl
def zkh (t : Int) (pv tv : Value) : List Value := [.int .u64 t, pv, tv]
def zkg (w : World) (b : Zr) (cs : List Value) : Prop := ∃ pa pc ta tc, cs = zkh b.tag (.slice pa b.pay.length pc) (.slice ta b.txs.length tc) ∧ (0 ≤ b.tag ∧ b.tag ≤ 18446744073709551615) ∧ xz w (.slice pa b.pay.length pc) b.pay ∧ zgT w (.slice ta b.txs.length tc) b.txs
end Go.Proofs.YtdkkjchclkjleaaGreatDoor

/- sha: one piece; Twice; fee.Lock. -/
namespace Go.Proofs.YtdkkjchclkjleaaGreatDoor
open Go Go.RowKit Go.Maps Go.MapKept
structure Jx (w : World) : Prop where
 at_ : j7 w
 lt : 3 < w.heap.size
theorem Jx.keep {w w' : World} (h : Jx w) {W : Nat → Prop} (f : Fr W w w') (hw : ∀ j, W j → 3 < j) : Jx w' := ⟨h.at_.keep f (fun h => by have := hw _ h; omega) (fun h => by have := hw _ h; omega), Nat.lt_of_lt_of_le h.lt f.size⟩
theorem Jx.keep0 {w w' : World} (h : Jx w) (f : Fr No w w') : Jx w' := h.keep f (fun _ h => h.elim)
theorem vU (l : List Int) : zQ (xG l) := by
 refine ⟨zcg Ys.adds, fun x hx => ?_⟩
 unfold xG zbX at hx
 obtain ⟨y, _, hy⟩ := List.mem_flatMap.1 hx
 simp only [YC, List.mem_cons, List.not_mem_nil, or_false] at hy
 rcases hy with rfl | rfl | rfl | rfl <;> omega
theorem Yf (l : List Int) : zQ (vI l) := vU _
theorem zht {w : World} {kv : Value} {k : List Int} (h : xq w kv k.length (k.map zP)) {p : Nat} (hp : w.heap.size ≤ p) : vK w p kv k := by
 rcases h with (⟨rfl, h1, -⟩ | ⟨b, off, cap, rfl, h1, h2, h3, h4⟩) | ⟨a, cap, rfl, h1, -, -⟩
 ·exact .inl ⟨List.eq_nil_of_length_eq_zero h1, none, 0, rfl⟩
 ·exact .inr ⟨b, off, cap, rfl, by omega, h3, h1⟩
 ·exact .inl ⟨List.eq_nil_of_length_eq_zero h1, some a, cap, rfl⟩
theorem zcl {w : World} {kv : Value} {k : List Int} (h : xq w kv k.length (k.map zP)) : ∀ p, (w.alloc (.cells #[kv] 106)).heap.size ≤ p → Jq (w.alloc (.cells #[kv] 106)) p (.slice (some ⟨w.heap.size, 0, none⟩) 1 1) [k] := fun p hp => by
 have hs : (w.alloc (.cells #[kv] 106)).heap.size = w.heap.size + 1 := by simp
 refine ⟨_, _, rfl, fun i l hi => ?_⟩
 cases i with
 | succ i => simp at hi
 | zero =>
  have e : k = l := by simpa using hi
  subst e
  exact ⟨w.heap.size, 0, kv, rfl, by omega, ya (yn w (.cells #[kv] 106)) 0 _ rfl, zht (h.keep ((Fr.refl No w).alloc _)) hp⟩
set_option maxRecDepth 20000 in
set_option maxHeartbeats 4000000 in
theorem zch {w : World} (hg : Jx w) {kv : Value} {k : List Int} (h : xq w kv k.length (k.map zP)) (hn : k.length ≤ 1000000000000) :
  Calls Tryz.prog 71 #[.slice (some ⟨w.heap.size, 0, none⟩) 1 1] (w.alloc (.cells #[kv] 106)) fun e w' => e = .returned (.agg ((xG k).map zP).toArray) ∧ Fr No (w.alloc (.cells #[kv] 106)) w' := by
 have f := (Fr.refl No w).alloc (.cells #[kv] 106)
 have g := hg.keep0 f
 have := zd4 g.at_ g.lt (v := .slice (some ⟨w.heap.size, 0, none⟩) 1 1) (L := [k]) (zcl h) (by simp) (by simpa using hn)
 simpa using this
set_option maxRecDepth 20000 in
set_option maxHeartbeats 4000000 in
theorem zam {w : World} (hg : Jx w) {kv : Value} {k : List Int} (h : xq w kv k.length (k.map zP)) (hn : k.length ≤ 1000000000000) :
  Calls Tryz.prog 36 #[kv] w fun e w' => e = .returned (.agg (zj (xG k)).toArray) ∧ Fr No w w' := by
 have z32 : ∀ w, (zeroValue 41).run Tryz.prog w = .ok (.agg xd) w := fun w => by kernel_rfl
 have F1 := Hd (show Fr No w (w.alloc (.cells xd 41)) from (Fr.refl No w).alloc _)
 have B1 := Hd (yn w (.cells xd 41))
 have Q1 := Hd (show (w.alloc (.cells xd 41)).heap.size = w.heap.size + 1 by simp)
 have HS := Hd (zch (hg.keep0 F1.out) (h.keep F1.out) hn)
 have SL := Hd (show ((xG k).map zP).length = 32 by rw [List.length_map]; exact (vU k).1)
 obtain ⟨va, vc, rfl⟩ := h.form
 clear hg h
 unfold zj
 generalize xG k = SB at *
 go_enter Tryz.func36, Tryz.ntmps36
 generalize hw1 : w.alloc (.cells xd 41) = w1 at *
 have F2 := Hd (show Fr No w1 (w1.alloc (.cells #[.slice va k.length vc] 106)) from (Fr.refl No w1).alloc _)
 go_wp2_with (first | (go_at_call 71; refine HS.out.mono ?_; rintro e w4 ⟨rfl, f4⟩; have F4 := Hd f4; clear f4) | ((with_reducible refine zA ?_); refine zq rfl (z6 (ty := 41) (b := w.heap.size) (off := 0) (cs := SB.map zP) rfl rfl rfl (by rw [SL.out]; exact yg (F4.out.obj (F2.out.obj B1.out id) id) (Nat.le_refl 32)) (by rw [SL.out]; exact xP) (fun v hv => by obtain ⟨x, -, rfl⟩ := List.mem_map.1 hv; rfl)) ?_))
 have HB := Hd (show w4.heap[w.heap.size]? = some (.cells xd 41 (0, 0)) from F4.out.obj (F2.out.obj B1.out id) id)
 have HE := y7 w.heap.size 41 (SB.map zP) 0 w4 xd HB.out
 have e := qS (SB.map zP) [] xd.toList [] (by rw [SL.out]; rfl)
 simp only [List.nil_append, List.append_nil, List.length_nil] at e
 rw [e] at HE
 exact bodyPost_ret (v := .agg (SB.map zP).toArray) (results_cell_row (P := Tryz.prog) (fn := Tryz.f36) rfl _ _ w.heap.size 41 (SB.map zP).toArray (0, 0) _ rfl HE Tryz.underlying41 rfl (by rw [List.size_toArray, SL.out]; exact xP)) rfl ⟨rfl, ((F1.out.trans0 F2.out).trans0 F4.out).trans (zJ _ _ _ _) (fun i hi e => (show False by omega))⟩
set_option maxRecDepth 20000 in
set_option maxHeartbeats 4000000 in
theorem zeL {w : World} (hg : Jx w) {v : Value} {L : List (List Int)} (hl : ∀ p, w.heap.size ≤ p → Jq w p v L) (hL : L.length ≤ 1000000) (hn : L.flatten.length ≤ 1000000000000) :
  Calls Tryz.prog 46 #[v] w fun e w' => e = .returned (.agg (zj (vI L.flatten)).toArray) ∧ Fr No w w' := by
 have z32 : ∀ w, (zeroValue 41).run Tryz.prog w = .ok (.agg xd) w := fun w => by kernel_rfl
 have F1 := Hd (show Fr No w (w.alloc (.cells xd 41)) from (Fr.refl No w).alloc _)
 have B1 := Hd (yn w (.cells xd 41))
 have Q1 := Hd (show (w.alloc (.cells xd 41)).heap.size = w.heap.size + 1 by simp)
 have G1 := Hd (hg.keep0 F1.out)
 have HS := Hd (zd4 G1.out.at_ G1.out.lt (fun p hp => (hl p (Nat.le_trans F1.out.size hp)).keep F1.out.of0) hL hn)
 have S1L := Hd (show ((xG L.flatten).map zP).length = 32 by rw [List.length_map]; exact (vU _).1)
 have SL := Hd (show ((vI L.flatten).map zP).length = 32 by rw [List.length_map]; exact (vU _).1)
 have HT := Hd (fun (w : World) (hg : Jx w) (kv : Value) (h : xq w kv (xG L.flatten).length ((xG L.flatten).map zP)) => zch hg h (by rw [(vU L.flatten).1]; decide))
 have ST := Hd (show xG (xG L.flatten) = vI L.flatten from rfl)
 rw [ST.out] at HT
 have S32 := Hd ((vU L.flatten).1)
 obtain ⟨va, vc, rfl, -⟩ := hl w.heap.size (Nat.le_refl _)
 clear hg hl ST
 unfold zj
 generalize vI L.flatten = TB at *
 generalize xG L.flatten = SB at *
 go_enter Tryz.func46, Tryz.ntmps46
 generalize hw1 : w.alloc (.cells xd 41) = w1 at *
 have M0 := tru
 have M1 := tru
 have M2 := tru
 have M3 := tru
 go_wp2_with (first | (have mk := M0.out; go_at_call 71; refine HS.out.mono ?_; rintro e w2 ⟨rfl, f2⟩; have F2 := Hd f2; clear f2; go_frame; clear mk M0) | ((with_reducible refine zA ?_); have mk := M1.out; refine zq rfl (zm (w := w2) (ty := 41) (cs := SB.map zP) rfl rfl rfl (by rw [S1L.out]; rfl) (by rw [S1L.out]; exact xP) (fun v hv => by obtain ⟨x, -, rfl⟩ := List.mem_map.1 hv; rfl)) ?_; have B3 := Hd (yn w2 (.cells (SB.map zP).toArray 41)); have F3 := Hd (show Fr No w2 (w2.alloc (.cells (SB.map zP).toArray 41)) from (Fr.refl No w2).alloc _); have Q3 := Hd (show w2.heap.size < (w2.alloc (.cells (SB.map zP).toArray 41)).heap.size by simp); generalize w2.alloc (.cells (SB.map zP).toArray 41) = w3 at *; generalize w2.heap.size = q3 at *; have HU := Hd (HT.out w3 ((G1.out.keep0 F2.out).keep0 F3.out) (.slice (some ⟨q3, 0, none⟩) 32 32) (by rw [S32.out]; exact .inl (.inr ⟨q3, 0, 32, rfl, Nat.le_refl _, by decide, ya B3.out, Q3.out⟩))); have F4 := Hd (show Fr No w3 (w3.alloc (.cells #[.slice (some ⟨q3, 0, none⟩) 32 32] 106)) from (Fr.refl No w3).alloc _); go_frame; clear mk M1) | (have mk := M2.out; go_at_call 71; refine HU.out.mono ?_; rintro e w5 ⟨rfl, f5⟩; have F5 := Hd f5; clear f5; have B5 := Hd (F5.out.obj (F4.out.obj (F3.out.obj (F2.out.obj B1.out id) id) id) id); go_frame; clear mk M2) | ((with_reducible refine zA ?_); have mk := M3.out; refine zq rfl (z6 (ty := 41) (b := w.heap.size) (off := 0) (cs := TB.map zP) rfl rfl rfl (by rw [SL.out]; exact yg B5.out (Nat.le_refl 32)) (by rw [SL.out]; exact xP) (fun v hv => by obtain ⟨x, -, rfl⟩ := List.mem_map.1 hv; rfl)) ?_; go_frame; clear mk M3))
 have HE := y7 w.heap.size 41 (TB.map zP) 0 w5 xd B5.out
 have e := qS (TB.map zP) [] xd.toList [] (by rw [SL.out]; rfl)
 simp only [List.nil_append, List.append_nil, List.length_nil] at e
 rw [e] at HE
 exact bodyPost_ret (v := .agg (TB.map zP).toArray) (results_cell_row (P := Tryz.prog) (fn := Tryz.f46) rfl _ _ w.heap.size 41 (TB.map zP).toArray (0, 0) _ rfl HE Tryz.underlying41 rfl (by rw [List.size_toArray, SL.out]; exact xP)) rfl ⟨rfl, ((((F1.out.trans0 F2.out).trans0 F3.out).trans0 F4.out).trans0 F5.out).trans (zJ _ _ _ _) (fun i hi e => (show False by omega))⟩
end Go.Proofs.YtdkkjchclkjleaaGreatDoor

/- tx: fixed, form. -/
namespace Go.Proofs.YtdkkjchclkjleaaGreatDoor
open Go Go.RowKit Go.Maps Go.MapKept
def leB : Nat → Int → List Int
 | 0, _ => []
 | n + 1, x => x % 256 :: leB n (x / 256)
theorem Jc : ∀ (n : Nat) (x : Int), (leB n x).length = n
 | 0, _ => rfl
 | n + 1, x => by simp [leB, Jc n]
def zbT : Nat → Int → Int
 | 0, x => x
 | n + 1, x => zbT n (x / 256)
theorem XE : ∀ (n : Nat) (x : Int), zbT (n + 1) x = zbT n x / 256
 | 0, _ => rfl
 | n + 1, x => by rw [zbT, XE n (x / 256)]; rfl
theorem zcF : ∀ (n : Nat) (x : Int), leB (n + 1) x = leB n x ++ [zbT n x % 256]
 | 0, _ => rfl
 | n + 1, x => by rw [leB, zcF n (x / 256)]; rfl
theorem zef : ∀ (n : Nat) {x : Int}, 0 ≤ x ∧ x ≤ 18446744073709551615 → 0 ≤ zbT n x ∧ zbT n x ≤ 18446744073709551615
 | 0, _, h => h
 | n + 1, x, h => by
  rw [XE]
  have := zef n h
  omega
set_option maxRecDepth 20000 in
set_option maxHeartbeats 4000000 in
theorem XH {w : World} {B : Nat} {v : Value} {l : List Int} (ho : vm w B v l) (hB : B ≤ w.heap.size) {x : Int} (hx : 0 ≤ x ∧ x ≤ 18446744073709551615) {n : Nat} (hn : n ≤ 8) (hl : l.length ≤ 100000) :
  Calls Tryz.prog 85 #[v, .int .u64 x, .int .i64 n] w fun e w' => ∃ v', e = .returned v' ∧ vm w' B v' (l ++ leB n x) ∧ Fr (fun j => v.ownBlock = some j) w w' ∧ Zq w v v' := by
 have HO := Hd ho
 have HX := Hd hx
 have HB := Hd hB
 have HLN := Hd hl
 obtain ⟨va, vc, rfl⟩ := ho.form
 clear ho hx hB hl
 go_enter Tryz.func85, Tryz.ntmps85
 go_wp2
 go_loopw [0, 1, 8] (fun bv xv iv wr => ∃ k : Nat, iv = .int .i64 k ∧ k ≤ n ∧ xv = .int .u64 (zbT k x) ∧ vm wr B bv (l ++ leB k x) ∧ Fr (fun j => Value.ownBlock (.slice va l.length vc) = some j) w wr ∧ Zq w (.slice va l.length vc) bv) (fun _ _ iv _ => n - (intOf iv).toNat)
 case atStart => exact ⟨0, rfl, Nat.zero_le _, rfl, by simpa [leB] using HO.out, Fr.refl _ _, fun k hk => .inl hk⟩
 case round =>
  obtain ⟨k, rfl, hk, rfl, ho, fr, gt⟩ := hrel
  have HOr := Hd ho
  have FR := Hd fr
  have GT := Hd gt
  obtain ⟨ba, bc, rfl⟩ := ho.form
  clear ho fr gt
  by_cases hlt : k < n
  rotate_left
  ·have hke : k = n := by omega
   subst hke
   have i1 : ¬ (k : Int) < (k : Int) := by omega
   have HF := Hd (show ∃ v', (Value.slice ba (l ++ leB k x).length bc) = v' ∧ vm wr B v' (l ++ leB k x) ∧ Fr (fun j => Value.ownBlock (.slice va l.length vc) = some j) w wr ∧ Zq w (.slice va l.length vc) v' from ⟨_, rfl, HOr.out, FR.out, GT.out⟩)
   generalize hL : (l ++ leB k x).length = m at *
   go_wp2
   go_ret
   obtain ⟨v', e, h⟩ := HF.out
   exact ⟨v', by rw [← e]; rfl, h⟩
  ·have i1 : (k : Int) < (n : Int) := by omega
   have hs := zef k HX.out
   have L1 := Hd (show (l ++ leB k x).length ≤ 100008 by rw [List.length_append, Jc]; have := HLN.out; omega)
   obtain ⟨v2, w2, a1, a2, a3, a4⟩ := JF wr (x := zbT k x % 256) HOr.out (by have := L1.out; omega) (Nat.le_trans HB.out FR.out.size) 106
   have A1 := Hd a1
   have A2 := Hd (show vm w2 B v2 (l ++ leB (k + 1) x) by rw [zcF, ← List.append_assoc]; exact a2)
   have A3 := Hd (FR.out.trans a3 (fun i hi e => (GT.out i e).resolve_right (by omega)))
   have A4 := Hd (show Zq w (.slice va l.length vc) v2 from fun j hj => (a4 j hj).elim (fun e => GT.out j e) (fun e => .inr (Nat.le_trans FR.out.size e)))
   have SN := Hd (XE k x)
   clear a1 a2 a3 a4
   generalize l ++ leB k x = L at *
   go_wp2_with (first | (at_builtin; refine zW rfl rfl rfl rfl A1.out ?_))
   go_roundw
   case rel => exact ⟨k + 1, by go_num, by omega, by rw [SN.out], A2.out, A3.out, A4.out⟩
   case measure => simp [intOf]; omega
def qP (t : TxD) : Bool := t.ins.all (fun x => decide (x.key.length ≤ 64)) && (decide (t.ins.length ≤ 8) && decide (t.outs.length ≤ 8))
theorem Y4 (w : World) {p : zF} {kv : Value} (ok : p.ok) : (w.alloc (.cells (inC p kv).toArray 108)).rangeAt w.heap.size 0 (zB p) ∧ (w.alloc (.cells (inC p kv).toArray 108)).cell? ⟨w.heap.size, 33, none⟩ = some kv := by
 have := zdg (zC w (inC p kv) 108) ok
 simpa using this
theorem qZ (w : World) (v : Int) (iv ov : Value) : (w.alloc (.cells #[.int .u32 v, iv, ov] 34)).cell? ⟨w.heap.size, 0, none⟩ = some (.int .u32 v) ∧ (w.alloc (.cells #[.int .u32 v, iv, ov] 34)).cell? ⟨w.heap.size, 1, none⟩ = some iv ∧ (w.alloc (.cells #[.int .u32 v, iv, ov] 34)).cell? ⟨w.heap.size, 2, none⟩ = some ov ∧ (w.alloc (.cells #[.int .u32 v, iv, ov] 34)).rangeAt w.heap.size 0 [.int .u32 v, iv, ov] := by
 have := zC w [.int .u32 v, iv, ov] 34
 exact ⟨by simpa using this 0 _ rfl, by simpa using this 1 _ rfl, by simpa using this 2 _ rfl, this⟩
set_option maxRecDepth 20000 in
set_option maxHeartbeats 4000000 in
theorem zal (w : World) {t : TxD} {cs : List Value} (ht : TxQ w t cs) :
  Calls Tryz.prog 66 #[.agg cs.toArray] w fun e w' => e = .returned (.bool (qP t)) ∧ Fr No w w' := by
 obtain ⟨ia, ic, oa, oc, rfl, -, hi, -⟩ := ht
 obtain ⟨dI, uI, rI⟩ := YV
 have zI := Zj
 have F1 := Hd ((Fr.refl No w).alloc (.cells #[.int .u32 t.ver, .slice ia t.ins.length ic, .slice oa t.outs.length oc] 34))
 obtain ⟨-, c1, c2, -⟩ := qZ w t.ver (.slice ia t.ins.length ic) (.slice oa t.outs.length oc)
 have C1 := Hd c1
 have C2 := Hd c2
 have HI := Hd (hi.keep0 F1.out)
 have hil : t.ins.length ≤ 9223372036854775807 := Nat.le_trans hi.len (by unfold maxLen; decide)
 clear hi
 show Calls Tryz.prog 66 #[.agg #[.int .u32 t.ver, .slice ia t.ins.length ic, .slice oa t.outs.length oc]] w _
 go_enter Tryz.func66, Tryz.ntmps66
 go_wp2
 generalize w.alloc (.cells #[.int .u32 t.ver, .slice ia t.ins.length ic, .slice oa t.outs.length oc] 34) = w1 at *
 generalize w.heap.size = q at *
 clear c1 c2
 go_loopw [8] (fun iv wr => ∃ n : Nat, iv = .int .i64 n ∧ n ≤ t.ins.length ∧ (∀ x ∈ t.ins.take n, x.key.length ≤ 64) ∧ Fr No w1 wr) (fun iv _ => t.ins.length - (intOf iv).toNat)
 case atStart => exact ⟨0, rfl, Nat.zero_le _, by simp, Fr.refl _ _⟩
 case round =>
  obtain ⟨n, rfl, hn, hks, fr⟩ := hrel
  have FR := Hd fr
  have HK := Hd hks
  clear fr hks
  by_cases hlt : n < t.ins.length
  ·have i1 : (n : Int) < (t.ins.length : Int) := by omega
   obtain ⟨x, hx⟩ : ∃ x, t.ins[n]? = some x := ⟨_, List.getElem?_eq_getElem hlt⟩
   obtain ⟨b, off, cap, cs, hv, hr, ka, kc, rfl, pok, hkey⟩ := (HI.out.keep0 FR.out).at_ hx
   cases hv
   have R1 := Hd hr
   have OK := Hd pok
   have IL := Hd (vi pok (.slice ka x.key.length kc))
   have c33 := (Y4 wr (kv := .slice ka x.key.length kc) pok).2
   have FA := Hd (FR.out.alloc (.cells (inC x.from_ (.slice ka x.key.length kc)).toArray 108))
   have HX := Hd hx
   clear hr hkey pok hx
   by_cases hk : 64 < x.key.length
   ·have j1 : decide ((64 : Int) < (x.key.length : Int)) = true := by simp; omega
    have HF := Hd (show qP t = false by
     have : t.ins.all (fun x => decide (x.key.length ≤ 64)) = false := by
      rw [List.all_eq_false]
      exact ⟨x, List.mem_of_getElem? HX.out, by simp; omega⟩
     simp [qP, this])
    clear hk
    go_wp2_with (first | (refine zd rfl (zf (ty := 108) rfl rfl R1.out uI rI (by rw [IL.out]; exact q9)) ?_) | (refine zq rfl (zm (w := wr) (ty := 108) (cs := inC x.from_ (.slice ka x.key.length kc)) rfl rfl rfl (by rw [IL.out]; rfl) (by rw [IL.out]; exact q9) jF) ?_; generalize wr.alloc (.cells (inC x.from_ (.slice ka x.key.length kc)).toArray 108) = w2 at *))
    go_ret
    exact ⟨by rw [HF.out]; rfl, F1.out.trans0 FA.out⟩
   ·have j1 : decide ((64 : Int) < (x.key.length : Int)) = false := by simp; omega
    have HN := Hd (show ∀ e ∈ t.ins.take (n + 1), e.key.length ≤ 64 from fun e he => by
     rw [List.take_add_one, HX.out] at he
     rcases List.mem_append.1 he with he | he
     ·exact HK.out e he
     ·simp at he; subst he; omega)
    clear hk
    go_wp2_with (first | (refine zd rfl (zf (ty := 108) rfl rfl R1.out uI rI (by rw [IL.out]; exact q9)) ?_) | (refine zq rfl (zm (w := wr) (ty := 108) (cs := inC x.from_ (.slice ka x.key.length kc)) rfl rfl rfl (by rw [IL.out]; rfl) (by rw [IL.out]; exact q9) jF) ?_; generalize wr.alloc (.cells (inC x.from_ (.slice ka x.key.length kc)).toArray 108) = w2 at *))
    go_roundw
    case rel => exact ⟨n + 1, by go_num, by omega, HN.out, FA.out⟩
    case measure => simp [intOf]; omega
  ·have i1 : ¬ (n : Int) < (t.ins.length : Int) := by omega
   have c1 := FR.out.cell C1.out id
   have c2 := FR.out.cell C2.out id
   have hall : t.ins.all (fun x => decide (x.key.length ≤ 64)) = true := by
    rw [List.all_eq_true]
    intro x hx
    rw [show n = t.ins.length by omega, List.take_length] at HK
    simpa using HK.out x hx
   have HF := Hd (show qP t = (decide (t.ins.length ≤ 8) && decide (t.outs.length ≤ 8)) by simp [qP, hall])
   have FE := Hd (F1.out.trans0 FR.out)
   clear hall
   by_cases h8 : t.ins.length ≤ 8
   ·have j1 : decide ((t.ins.length : Int) ≤ 8) = true := by simp; omega
    by_cases h9 : t.outs.length ≤ 8
    ·have j2 : decide ((t.outs.length : Int) ≤ 8) = true := by simp; omega
     have j3 : (decide (t.ins.length ≤ 8) && decide (t.outs.length ≤ 8)) = true := by simp [h8, h9]
     have J3 := Hd j3
     clear h8 h9 j3
     go_wp2
     go_ret
     exact ⟨by rw [HF.out, J3.out]; rfl, FE.out⟩
    ·have j2 : decide ((t.outs.length : Int) ≤ 8) = false := by simp; omega
     have j3 : (decide (t.ins.length ≤ 8) && decide (t.outs.length ≤ 8)) = false := by simp [h8, h9]
     have J3 := Hd j3
     clear h8 h9 j3
     go_wp2
     go_ret
     exact ⟨by rw [HF.out, J3.out]; rfl, FE.out⟩
   ·have j1 : decide ((t.ins.length : Int) ≤ 8) = false := by simp; omega
    have j3 : (decide (t.ins.length ≤ 8) && decide (t.outs.length ≤ 8)) = false := by simp [h8]
    have J3 := Hd j3
    clear h8 j3
    go_wp2
    go_ret
    exact ⟨by rw [HF.out, J3.out]; rfl, FE.out⟩
end Go.Proofs.YtdkkjchclkjleaaGreatDoor

/- coin: Put. -/
namespace Go.Proofs.YtdkkjchclkjleaaGreatDoor
open Go Go.RowKit Go.Maps Go.MapKept
def YS (S l : List zy) : Int := if (l.map (·.at_)).Nodup then if l.any (fun c => xV S c.at_) then 10 else 0 else 12
def zax (S l : List zy) : List zy := if YS S l = 0 then vX S l else S
theorem zg6 {S l : List zy} (h1 : (l.map (·.at_)).Nodup) (h2 : ∀ c ∈ l, xV S c.at_ = false) : YS S l = 0 ∧ zax S l = vX S l := by
 have : YS S l = 0 := by
  unfold YS
  rw [if_pos h1, if_neg (by rw [Bool.not_eq_true, List.any_eq_false]; exact fun c hc => by rw [h2 c hc]; simp)]
 exact ⟨this, by unfold zax; rw [if_pos this]⟩
section
variable {w0 w : World} {p : Nat} {V : Nat → Prop} {S : List zy}
end
end Go.Proofs.YtdkkjchclkjleaaGreatDoor

/- coin: Take. -/
namespace Go.Proofs.YtdkkjchclkjleaaGreatDoor
open Go Go.RowKit Go.Maps Go.MapKept Go.Sort
def zen (S : List zy) (ps : List zF) : Int := if ps.Nodup then if ps.all (xV S) then 0 else 9 else 12
def Qp (S : List zy) (ps : List zF) : List zy := if zen S ps = 0 then jO S ps else S
abbrev ziT (c : Int) : Value := .int .i64 c
abbrev zf4 (w : World) (m : Nat) (M : List (zF × Int)) : Prop := yl Tryz.prog 95 jW ziT w m M
theorem zbL (w : World) : (Instr.makeMap 159 none).run Tryz.prog w = .ok (.map (some w.heap.size)) (w.alloc (.map #[] 0)) := by kernel_rfl
theorem yU {w : World} {B B' k n : Nat} {e : TypeId} {v : Value} {xs : List Value} (h : w.ownsRow B e k v n xs) (hB : B' ≤ B) : w.ownsRow B' e k v n xs :=
 ⟨h.1, h.2.imp id fun ⟨g, c, cur, e1, hb, r⟩ => ⟨g, c, cur, e1, Nat.le_trans hB hb, r⟩⟩
section
variable {w0 w : World} {p : Nat} {V : Nat → Prop} {S : List zy}
end
end Go.Proofs.YtdkkjchclkjleaaGreatDoor
