/- pappuslaw15: begun. -/
import Derived.Test.YtdkkjchclkjleaaGreatDoorSG46
set_option linter.unusedVariables false
set_option linter.unusedSimpArgs false
set_option linter.unnecessarySimpa false
set_option linter.all false
namespace Go.Proofs.YtdkkjchclkjleaaGreatDoor
open Go Go.RowKit Go.Maps Go.MapKept
def zev (pc pp ps : Nat) : List Value := [.pointer (some ⟨pc, 0, none⟩), .pointer (some ⟨pp, 0, none⟩), .pointer (some ⟨ps, 0, none⟩)]
theorem zaS (w : World) : (zeroValue 29).run Tryz.prog w = .ok (.agg #[.pointer none, .pointer none, .pointer none]) w := by kernel_rfl
theorem zgP (a b c : Option Addr) (w : World) : (Instr.build 29 #[(0, .pointer a), (1, .pointer b), (2, .pointer c)]).run Tryz.prog w = .ok (.agg [.pointer a, .pointer b, .pointer c].toArray) w := by kernel_rfl
theorem XZ : (Tryz.prog.info? 29).map (·.size) = some 3 := by kernel_rfl
def zg0 (first : List yF) : List zy := vX [] (Zz yN first)
set_option maxRecDepth 20000 in
set_option maxHeartbeats 4000000 in
theorem zfr {w0 w : World} (f0 : Fr No w0 w) {v : Value} {first : List yF} (hl : xz w v first) (hN : first.length ≤ 256) :
  Calls Tryz.prog 10 #[v] w fun e w' => ∃ pc pp ps T, e = .returned (.agg (zev pc pp ps).toArray) ∧ WS w0 w' pc pp ps T T 0 ⟨zg0 first, zg0 first, [], [], fun _ => []⟩ ∧ (∀ j, T j → w.heap.size ≤ j) ∧ Fr No w w' := by
 have zw := zaS
 have F0 := Hd f0
 have F1 := Hd ((Fr.refl No w).alloc (.cells #[.pointer none, .pointer none, .pointer none] 29))
 have B1 := Hd (yn w (.cells #[.pointer none, .pointer none, .pointer none] 29))
 have HC := Hd (ziL _ (hl.keep F1.out) hN)
 clear hl f0
 go_enter Tryz.func10, Tryz.ntmps10
 have K0 := tru
 have K1 := tru
 have K2 := tru
 have K3 := tru
 have K4 := tru
 go_wp2_with (first | (clear K0; go_at_call 35; generalize hq0 : w.heap.size = q0 at *; generalize hwa : w.alloc (.cells #[.pointer none, .pointer none, .pointer none] 29) = w1 at *; have Z1 := Hd (show w1.heap.size = q0 + 1 by rw [← hwa, ← hq0]; simp); clear hwa; refine HC.out.mono ?_; rintro e w3 ⟨pc, rfl, VC, hc⟩; have GC := Hd hc; have F3 := Hd (F1.out.trans0 hc.fr); have B3 := Hd (hc.fr.obj B1.out id); clear hc; go_frame) | (clear K1; go_at_call 37; refine (ziY w0 w3 (F0.out.trans0 F3.out)).mono ?_; rintro e w4 ⟨rfl, f4, ma, ms, g, VG, hpv, hpo⟩; have F4 := Hd (F3.out.trans0 f4); have PV := Hd hpv; have PO := Hd hpo; have FP := Hd f4; have B4 := Hd (f4.obj B3.out id); clear hpv hpo f4; generalize hpp : w3.heap.size = pp at *; go_frame) | (clear K2; go_at_call 38; refine (ziX w0 w4 (F0.out.trans0 F4.out)).mono ?_; rintro e w5 ⟨ps, ka, ks, rfl, f5, hsv, hst⟩; have F5 := Hd (F4.out.trans0 f5); obtain ⟨T, hws, hlo⟩ := zcq GC.out (F0.out.trans0 F1.out) FP.out (fun j hj => by have := PV.out j hj; omega) PO.out f5 hsv hst; have WS5 := Hd hws; have TLO := Hd hlo; have Z5 := Hd (show q0 < w5.heap.size by have := F5.out.size; have := Z1.out; have := F3.out.size; have h1 := xf (f5.obj B4.out id); exact h1); have B5 := Hd (f5.obj B4.out id); clear hws hlo f5 hsv hst GC PV PO FP; go_frame) | ((with_reducible refine zn ?_); have mk := K3.out; refine zd rfl (yA (t := 29) rfl rfl (zgP _ _ _ _)) ?_; go_frame) | ((with_reducible refine zA ?_); have mk := K4.out; refine zq rfl (z6 (ty := 29) (b := q0) (off := 0) (cs := [.pointer (some ⟨pc, 0, none⟩), .pointer (some ⟨pp, 0, none⟩), .pointer (some ⟨ps, 0, none⟩)]) rfl rfl rfl (yg B5.out (Nat.le_refl 3)) XZ (JN rfl rfl rfl)) ?_; go_frame))
 have BE := zdt (cs := [.pointer (some ⟨pc, 0, none⟩), .pointer (some ⟨pp, 0, none⟩), .pointer (some ⟨ps, 0, none⟩)]) B5.out rfl
 have fE := zJ q0 [.pointer (some ⟨pc, 0, none⟩), .pointer (some ⟨pp, 0, none⟩), .pointer (some ⟨ps, 0, none⟩)] 0 w5
 have HW := WS5.out
 have NT : ∀ j, T j → q0 + 1 ≤ j := fun j hj => by have := (TLO.out j hj).1; have := Z1.out; omega
 have W0Q : w0.heap.size ≤ q0 := by have := F0.out.size; omega
 have W1 := HW (fun j => T j ∨ j = q0) (fun _ h => .inl h) (fun j hj => hj.elim (fun e => (TLO.out j e).2) (fun e => by rw [e]; exact Z5.out))
 have WE := W1.frV (X' := T) fE (fun j hj e => by have := NT j hj; omega) (fun j e => by omega) (fun j e => .inr e) (fun j _ e => .inl e) (fun _ h => h) (fun j hj => Nat.lt_of_lt_of_le (TLO.out j hj).2 fE.size)
 refine bodyPost_ret (v := .agg [.pointer (some ⟨pc, 0, none⟩), .pointer (some ⟨pp, 0, none⟩), .pointer (some ⟨ps, 0, none⟩)].toArray) (results_cell_row (P := Tryz.prog) (fn := Tryz.f10) rfl _ _ q0 29 _ (0, 0) _ rfl BE Tryz.underlying29 rfl XZ) rfl ⟨pc, pp, ps, T, rfl, WE, fun j hj => by have := NT j hj; omega, F5.out.trans fE (fun i hi e => by omega)⟩
end Go.Proofs.YtdkkjchclkjleaaGreatDoor

/- StemFluffs: what its walk goes by. -/
namespace Go.Proofs.YtdkkjchclkjleaaGreatDoor
open Go Go.RowKit Go.Maps Go.MapKept
section
variable {w0 w w' : World} {pc pp ps N N' : Nat} {T X T' X' : Nat → Prop} {A A' : WA}
theorem zdw (h : WS w0 w pc pp ps T X N A) :
  Calls Tryz.prog 13 #[.pointer (some ⟨ps, 0, none⟩), .int .i64 5] w fun e w' => ∃ a c, e = .returned (.slice a (A.Q 5).length c) ∧ w'.ownsRow w.heap.size 41 32 (.slice a (A.Q 5).length c) (A.Q 5).length ((yc (A.Q 5)).flatMap zj) ∧ Fr No w w' := by
 refine (ziP (n := 5) h (by decide)).mono fun e w' ⟨v', he, ho, f⟩ => ?_
 rw [xk] at ho
 obtain ⟨a, c, rfl⟩ := ho.slice.arg.form
 exact ⟨a, c, he, ho, f⟩
theorem ziE (h : WS w0 w pc pp ps T X N A) {x : zi} (hin : x ∈ yc (A.Q 5)) :
  Calls Tryz.prog 14 #[.pointer (some ⟨ps, 0, none⟩), .int .i64 5, .agg (zj x).toArray] w fun e w' => ∃ a c tc, e = .returned (.tuple #[.slice a (yC (A.Q 5) x).length c, .int .i64 0]) ∧ w'.ownsRow w.heap.size 34 3 (.slice a (yC (A.Q 5) x).length c) (yC (A.Q 5) x).length ((yC (A.Q 5) x).flatMap tc) ∧ (∀ e ∈ yC (A.Q 5) x, Kept X w' (fun w => TxQ w e.tx (tc e))) ∧ ∃ T', (∀ j, T' j → T j) ∧ j9 w0 w w' pc pp ps T X N { A with Q := qU A.Q 5 (vn (A.Q 5) x) } T' X := by
 refine (zhx (n := 5) h (by decide) hin).mono fun e w' ⟨tv, tc, he, hr, hk, T', ht, hn⟩ => ?_
 obtain ⟨a, c, rfl⟩ := hr.slice.arg.form
 exact ⟨a, c, tc, he, hr, hk, T', ht, hn⟩
theorem zfk (h : WS w0 w pc pp ps T X N A) {x : zi} (hx : zQ x) (hno : x ∉ yc (A.Q 5)) :
  Calls Tryz.prog 14 #[.pointer (some ⟨ps, 0, none⟩), .int .i64 5, .agg (zj x).toArray] w (zdC w) := by
 refine zgR (i := 5) h (by unfold YF; decide) hx ?_
 have := zfg A.Q (n := 5) (by decide) x
 rw [decide_eq_false hno] at this
 exact this
theorem zjs (S0 S : List zy) (L : List z7) (Q : StQ) (t : TxD) : JG ⟨S0, S, [], L, Q⟩ 5 t = ⟨S0, S, [], L, qU Q 5 (JJ S [] L (Q 5) t)⟩ := by
 unfold JG
 rw [if_neg (by decide)]
 rfl
end
def FlA (w0 w : World) (c7 pc pp ps : Nat) (T X : Nat → Prop) (N : Nat) (A : WA) : Prop :=
 WS w0 w pc pp ps T X N A ∧ (∀ j, X j → w0.heap.size ≤ j) ∧ ¬ T c7 ∧ w.heap[c7]? = some (.cells (zev pc pp ps).toArray 29 (0, 0))
section
variable {w0 w w' : World} {c7 pc pp ps N N' : Nat} {T X T' X' : Nat → Prop} {A A' : WA}
theorem FlA.fr0 (h : FlA w0 w c7 pc pp ps T X N A) (f : Fr No w w') : FlA w0 w' c7 pc pp ps T X N A := ⟨h.1.fr0 f, h.2.1, h.2.2.1, f.obj h.2.2.2 id⟩
theorem FlA.next (h : FlA w0 w c7 pc pp ps T X N A) (n : j9 w0 w w' pc pp ps T X N' A' T' X') : FlA w0 w' c7 pc pp ps T' X' N' A' :=
 ⟨n.ws, fun j hj => (n.xn j hj).elim (h.2.1 j) (fun e => Nat.le_trans h.1.facts.2.2.1.size e), n.out h.2.2.1 (xf h.2.2.2), n.fr.obj h.2.2.2 h.2.2.1⟩
theorem FlA.cells (h : FlA w0 w c7 pc pp ps T X N A) : w.cell? ⟨c7, 0, none⟩ = some (.pointer (some ⟨pc, 0, none⟩)) ∧ w.cell? ⟨c7, 1, none⟩ = some (.pointer (some ⟨pp, 0, none⟩)) ∧ w.cell? ⟨c7, 2, none⟩ = some (.pointer (some ⟨ps, 0, none⟩)) := by
 have := ya h.2.2.2
 exact ⟨by simpa using this 0 _ rfl, by simpa using this 1 _ rfl, by simpa using this 2 _ rfl⟩
theorem FlA.fr (h : FlA w0 w c7 pc pp ps T X N A) : Fr No w0 w := h.1.facts.2.2.1
theorem FlA.kept (h : FlA w0 w c7 pc pp ps T X N A) {t : TxD} {cs : List Value} (ht : TxQ w0 t cs) : Kept X w (fun w => TxQ w t cs) := fun _ f =>
 ht.keep (h.fr.trans f (fun i hi e => by have := h.2.1 i e; omega))
end
def jb (T : Nat → Prop) (w : World) (B : Nat) (ty : TypeId) (k : Nat) (v : Value) (n : Nat) (xs : List Value) : Prop := w.ownsRow B ty k v n xs ∧ ∀ j, v.ownBlock = some j → ¬ T j
theorem jb.fr0 {T : Nat → Prop} {w w' : World} {B k n : Nat} {ty : TypeId} {v : Value} {xs : List Value} (h : jb T w B ty k v n xs) (f : Fr No w w') : jb T w' B ty k v n xs := ⟨zl h.1 f (fun _ _ => id), h.2⟩
theorem jb.next {w0 w w' : World} {pc pp ps N' : Nat} {T X T' X' : Nat → Prop} {A' : WA} {B k n : Nat} {ty : TypeId} {v : Value} {xs : List Value} (h : jb T w B ty k v n xs) (m : j9 w0 w w' pc pp ps T X N' A' T' X') : jb T' w' B ty k v n xs :=
 ⟨zl h.1 m.fr h.2, fun j hj => m.out (h.2 j hj) (h.1.lt j hj).2⟩
theorem jb.new {w0 w : World} {pc pp ps N : Nat} {T X : Nat → Prop} {A : WA} {B k n : Nat} {ty : TypeId} {v : Value} {xs : List Value} {wb : World} (h : WS w0 wb pc pp ps T X N A) (ho : w.ownsRow B ty k v n xs) (hB : wb.heap.size ≤ B) : jb T w B ty k v n xs :=
 ⟨ho, fun j hj e => by have := (h.facts.1 j e).2.1; have := (ho.lt j hj).1; omega⟩
theorem zg1 {l : List StE} (x : zi) : (yc l).filter (fun y => decide (y ∉ yc (yC l x))) = yc (vn l x) := by
 unfold vn
 have h : ∀ e ∈ l, decide (e.id ∉ yc (yC l x)) = decide (e.id ∉ yM l x) := fun e he => by
  have : e.id ∈ yc (yC l x) ↔ e.id ∈ yM l x := by
   constructor
   ·intro h
    obtain ⟨a, ha, hae⟩ := List.mem_map.1 h
    have := (List.mem_filter.1 ha).2
    rw [hae] at this
    simpa using this
   ·intro h
    exact List.mem_map.2 ⟨e, List.mem_filter.2 ⟨he, by simpa using h⟩, rfl⟩
  exact decide_eq_decide.2 (not_congr this)
 unfold yc at *
 rw [List.filter_map]
 congr 1
 exact List.filter_congr h
theorem Vi (l : List StE) (x : zi) : (vn l x).length + (yC l x).length = l.length := by
 unfold vn yC
 induction l with
 | nil => rfl
 | cons a l ih =>
  have : ∀ K : List zi, ((a :: l).filter fun e => decide (e.id ∉ K)).length + ((a :: l).filter fun e => decide (e.id ∈ K)).length = (a :: l).length := by
   intro K
   clear ih
   induction (a :: l) with
   | nil => rfl
   | cons b m ih2 =>
    by_cases hb : b.id ∈ K
    ·rw [List.filter_cons_of_neg (by simpa using hb), List.filter_cons_of_pos (by simpa using hb), List.length_cons, List.length_cons]
     omega
    ·rw [List.filter_cons_of_pos (by simpa using hb), List.filter_cons_of_neg (by simpa using hb), List.length_cons, List.length_cons]
     omega
  exact this _
theorem zgX {l : List StE} {x : zi} (hx : x ∈ yc l) : x ∉ yc (vn l x) := fun h => by
 obtain ⟨a, ha, hae⟩ := List.mem_map.1 h
 have h1 := (List.mem_filter.1 ha).2
 obtain ⟨e, he, hex⟩ := List.mem_map.1 hx
 have := VS he
 rw [hex] at this
 rw [hae] at h1
 simp at h1
 exact h1 this
end Go.Proofs.YtdkkjchclkjleaaGreatDoor

/- StemFluffs: the pool's part, and rows that grow beside the objects. -/
namespace Go.Proofs.YtdkkjchclkjleaaGreatDoor
open Go Go.RowKit Go.Maps Go.MapKept
section
variable {w0 w w' : World} {c7 pc pp ps N : Nat} {T X : Nat → Prop} {A : WA} {S : List zy} {P : List z7} {Q : StQ} {u v v' : Value}
theorem zfG (hg : Jx w) (h : WS w0 w pc pp ps T X N ⟨S, S, [], P, Q⟩) (hN : N ≤ 800) {t : TxD} {cs : List Value} (ht : Kept X w (fun w => TxQ w t cs)) (h1 : Jl S [] P t = 0) (h2 : Jy S [] P t = []) :
  Calls Tryz.prog 16 #[.pointer (some ⟨pp, 0, none⟩), .pointer (some ⟨pc, 0, none⟩), .agg cs.toArray, .int .u64 0] w fun e w' => ∃ ga gc, e = .returned (.tuple #[.slice ga 0 gc, .int .i64 0]) ∧ ∃ T' X', j9 w0 w w' pc pp ps T X (N + 1) ⟨S, S, [], JR S [] P t 0, Q⟩ T' X' := by
 refine (zgc hg h hN ht).mono ?_
 rintro e w' ⟨gv, he, hr, T', X', n⟩
 have h1' : Jl S (jj ([] : List xt)) P t = 0 := h1
 have h2' : Jy S (jj ([] : List xt)) P t = [] := h2
 dsimp only at he hr
 rw [h1'] at he
 rw [h2'] at hr
 obtain ⟨a, c, rfl⟩ := hr.slice.arg.form
 exact ⟨a, c, he, T', X', n⟩
theorem FlA.app (h : FlA w0 w c7 pc pp ps T X N A) (f : Fr (fun j => v.ownBlock = some j) w w') (hx : ∀ j, v.ownBlock = some j → X j) (ht : ∀ j, v.ownBlock = some j → ¬ T j) (hc : ∀ j, v.ownBlock = some j → c7 < j) (hn : ∀ j, v'.ownBlock = some j → v.ownBlock = some j ∨ w.heap.size ≤ j) (hl : ∀ j, v'.ownBlock = some j → j < w'.heap.size) :
  ∃ X', FlA w0 w' c7 pc pp ps T X' N A ∧ (∀ j, v'.ownBlock = some j → X' j) ∧ (∀ j, v'.ownBlock = some j → ¬ T j) ∧ ∀ {Q : World → Prop}, Kept X w Q → Kept X' w' Q := by
 refine ⟨fun j => X j ∨ (w.heap.size ≤ j ∧ j < w'.heap.size), ⟨?_, ?_, h.2.2.1, ?_⟩, ?_, ?_, ?_⟩
 ·exact h.1.frV f (fun j hj e => ht j e hj) (fun j e => h.2.1 j (hx j e)) hx (fun j hj e => e.resolve_right (by omega)) (fun j hj => .inl (h.1.facts.1 j hj).2.2) (fun j hj => hj.elim (fun e => Nat.lt_of_lt_of_le (h.1.facts.2.1 j e) f.size) (·.2))
 ·exact fun j hj => hj.elim (h.2.1 j) (fun e => Nat.le_trans h.fr.size e.1)
 ·exact f.obj h.2.2.2 (fun e => by have := hc _ e; omega)
 ·exact fun j hj => (hn j hj).elim (fun e => .inl (hx j e)) (fun e => .inr ⟨e, hl j hj⟩)
 ·exact fun j hj => (hn j hj).elim (ht j) (fun e t => by have := (h.1.facts.1 j t).2.1; omega)
 ·exact fun k => k.step (f.mono hx) (fun j hj e => e.resolve_right (by omega))
theorem jb.app {B k n : Nat} {ty : TypeId} {xs : List Value} (h : jb T w B ty k u n xs) (f : Fr (fun j => v.ownBlock = some j) w w') {b : Nat} (hu : ∀ j, u.ownBlock = some j → j < b) (hv : ∀ j, v.ownBlock = some j → b ≤ j) : jb T w' B ty k u n xs :=
 ⟨zl h.1 f (fun j hj e => by have := hu j hj; have := hv j e; omega), h.2⟩
theorem Y3.app {b c : Nat} {cs : List Value} (h : Y3 T w c cs) (f : Fr (fun j => v.ownBlock = some j) w w') (hu : c < b) (hv : ∀ j, v.ownBlock = some j → b ≤ j) : Y3 T w' c cs :=
 ⟨zb h.1 f (fun e => by have := hv _ e; omega), h.2.1, Nat.lt_of_lt_of_le h.2.2 f.size⟩
theorem jb.blk {B k n : Nat} {ty : TypeId} {xs : List Value} (h : jb T w B ty k u n xs) : ∀ j, u.ownBlock = some j → j < w.heap.size := fun j hj => (h.1.lt j hj).2
theorem jb.ids {B : Nat} {a : Option Addr} {n c : Nat} {ks : List zi} (h : jb T w B 41 32 (.slice a n c) n (ks.flatMap zj)) (hn : ks.length = n) (ok : ∀ x ∈ ks, zQ x) : yV w (.slice a n c) ks := ⟨ok, by rw [hn]; exact h.1.slice.arg⟩
end
end Go.Proofs.YtdkkjchclkjleaaGreatDoor
