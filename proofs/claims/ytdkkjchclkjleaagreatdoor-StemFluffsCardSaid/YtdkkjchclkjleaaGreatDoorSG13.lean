/- chain: rows of outputs appended; a block's zero values. -/
import Derived.Deep.LoopGhost
import Derived.Laws.MakeOwn
import Derived.Deep.CutRange
import Derived.Test.YtdkkjchclkjleaaGreatDoorSG12
import Derived.Test.YtdkkjchclkjleaaGreatDoorSG11
import Derived.Test.YtdkkjchclkjleaaGreatDoorSG4
import Derived.Test.YtdkkjchclkjleaaGreatDoorSG10
import Derived.Test.YtdkkjchclkjleaaGreatDoorSG5
import Derived.Test.YtdkkjchclkjleaaGreatDoorSG6
set_option linter.unusedVariables false
set_option linter.unusedSimpArgs false
set_option linter.unnecessarySimpa false
set_option linter.all false
namespace Go.Proofs.YtdkkjchclkjleaaGreatDoor
open Go Go.RowKit Go.Maps Go.MapKept
def JV (x : yF) : Bool := decide (x.value = 0) || decide (1125899906842624 < x.value)
theorem zho {l : List yF} (h : ∀ x ∈ l, x.ok) : (l.flatMap zG).length = l.length * 33 := xL zG 33 l (fun x hx => yD (h x hx))
theorem zfU {l : List yF} : ∀ u ∈ l.flatMap zG, u.oneCell' = true := fun u hu => by
 obtain ⟨x, _, hx⟩ := List.mem_flatMap.1 hu
 exact ye u hx
theorem zaK {w : World} {B : Nat} {v : Value} {l : List yF} (h : w.ownsRow B 103 33 v l.length (l.flatMap zG)) (ok : ∀ x ∈ l, x.ok) {V : Nat → Prop} (hV : ∀ j, V j → j < B) : Kept V w (fun w => xz w v l) :=
 fun w' f => ⟨ok, (zl h f (fun b hb hv => by have := (h.lt b hb).1; have := hV b hv; omega)).slice.arg⟩
theorem zdt {w : World} {q : Nat} {T : TypeId} {z cs : List Value} (h : w.heap[q]? = some (.cells z.toArray T (0, 0))) (hl : z.length = cs.length) : (w.setCells q 0 cs).heap[q]? = some (.cells cs.toArray T (0, 0)) := by
 have HE := y7 q T cs 0 w _ h
 have e := qS cs [] z [] hl
 simp only [List.nil_append, List.append_nil, List.length_nil] at e
 rw [List.toList_toArray, e] at HE
 exact HE
end Go.Proofs.YtdkkjchclkjleaaGreatDoor

/- chain, plain: changes, blocks that are done, what is undone. -/
namespace Go.Proofs.YtdkkjchclkjleaaGreatDoor
open Go Go.RowKit Go.Maps Go.MapKept
structure zao where
 took : List zy
 made : List zF
structure xt where
 blk : Zr
 ids : List zi
 chg : List zao
structure ChD where
 S : List zy
 bs : List xt
 M : List (zi × Int)
def zkj (w : World) (c : zao) (cs : List Value) : Prop := ∃ ta tc ma mc, cs = [.slice ta c.took.length tc, .slice ma c.made.length mc] ∧ Je w (.slice ta c.took.length tc) c.took ∧ qg w (.slice ma c.made.length mc) c.made
abbrev zi2 (w : World) (v : Value) (L : List zao) : Prop := qK 2 zkj w v L
def zct (w : World) (d : xt) (cs : List Value) : Prop := ∃ bcs ia ic ca cc, cs = bcs ++ [.slice ia d.ids.length ic, .slice ca d.chg.length cc] ∧ zkg w d.blk bcs ∧ yV w (.slice ia d.ids.length ic) d.ids ∧ zi2 w (.slice ca d.chg.length cc) d.chg
abbrev zi1 (w : World) (m : Nat) (M : List (zi × Int)) : Prop := yl Tryz.prog 41 yW ziT w m M
def chV (p : Nat) (U : Nat → Prop) (mi : Nat) (bv : Value) : Nat → Prop := fun j => j = p ∨ U j ∨ j = mi ∨ bv.ownBlock = some j
def Qu (l : List zao) (S : List zy) : List zy := l.foldr (fun c S => zax (Qp S c.made) c.took) S
def Vf (l : List zao) : Nat := (l.map fun c => c.took.length + c.made.length).sum
theorem VM (id : zi) (l : List yF) : ((Zz id l).map (·.at_)).Nodup := by
 unfold List.Nodup
 rw [List.pairwise_map, List.pairwise_iff_getElem]
 intro i j hi hj hij
 have h1 := Q9 id (l := l) (i := i) (List.getElem?_eq_getElem (by rwa [jo] at hi))
 have h2 := Q9 id (l := l) (i := j) (List.getElem?_eq_getElem (by rwa [jo] at hj))
 rw [List.getElem?_eq_getElem hi] at h1
 rw [List.getElem?_eq_getElem hj] at h2
 rw [Option.some.inj h1, Option.some.inj h2]
 intro e
 injection e with _ e
 omega
def XD (b : Zr) : List zy := Zz (zji b) b.pay
theorem zcp (b : Zr) : (XD b).length = b.pay.length := jo _ _
structure DoR where
 E : Int
 S : List zy
 d : xt
theorem zfe {V : Nat → Prop} {w : World} {b o : Nat} (h : Kept V w (fun w => ∃ u, w.cell? ⟨b, o, none⟩ = some u)) : ¬ V b := fun hv => by
 have f : Fr V w { w with heap := w.heap.setIfInBounds b (.cells #[] 0 (0, 0)) } := ⟨rfl, rfl, rfl, by simp, fun k hk hn => by
  have : b ≠ k := fun e => hn (e ▸ hv)
  simp [Array.getElem?_setIfInBounds_ne this]⟩
 obtain ⟨u, hu⟩ := h _ f
 have hlt : b < w.heap.size := by
  obtain ⟨u', hu'⟩ := h.now
  exact World.block_lt_of_cell? w _ hu'
 have hb : ({ w with heap := w.heap.setIfInBounds b (.cells #[] 0 (0, 0)) } : World).heap[b]? = some (.cells #[] 0 (0, 0)) := by simp [hlt]
 have := ya hb
 simp [World.cell?, hlt] at hu
theorem zh3 {α : Type} {k : Nat} {q : World → α → List Value → Prop} {V : Nat → Prop} {w : World} {v : Value} {L : List α} (hk0 : 0 < k) (hk : ∀ w d cs, q w d cs → cs.length = k) (h : Kept V w (fun w => qK k q w v L)) {i : Nat} {d : α} (hx : L[i]? = some d) :
  ∃ b off cap cs, v = .slice (some ⟨b, off, none⟩) L.length cap ∧ ¬ V b ∧ q w d cs ∧ Kept V w (fun w => w.rangeAt b (off + i * k) cs ∧ q w d cs) := by
 obtain ⟨b, off, cap, cs, rfl, hr, hq⟩ := h.now.at_ hx
 have key : ∀ w', Fr V w w' → ∃ cs', w'.rangeAt b (off + i * k) cs' ∧ q w' d cs' := fun w' f => by
  obtain ⟨b', off', cap', cs', e, hr', hq'⟩ := (h w' f).at_ hx
  injection e with e1 e2 e3
  injection e1 with e1
  injection e1 with e1 e4
  subst e1
  subst e4
  exact ⟨cs', hr', hq'⟩
 have nV : ¬ V b := zfe (o := off + i * k) fun w' f => by
  obtain ⟨cs', hr', hq'⟩ := key w' f
  have hl := hk _ _ _ hq'
  cases cs' with
  | nil => simp at hl; omega
  | cons u r => exact ⟨u, hr' 0 u rfl⟩
 refine ⟨b, off, cap, cs, rfl, nV, hq, fun w' f => ?_⟩
 obtain ⟨cs', hr', hq'⟩ := key w' f
 have : cs' = cs := by
  have h1 := hk _ _ _ hq
  have h2 := hk _ _ _ hq'
  apply List.ext_getElem (by rw [h1, h2])
  intro j hj hj'
  have a1 := f.cell (hr j _ (List.getElem?_eq_getElem hj')) nV
  have a2 := hr' j _ (List.getElem?_eq_getElem hj)
  rw [a1] at a2
  exact (Option.some.inj a2).symm
 subst this
 exact ⟨hr', hq'⟩
end Go.Proofs.YtdkkjchclkjleaaGreatDoor

/- chain: a chain in memory. -/
namespace Go.Proofs.YtdkkjchclkjleaaGreatDoor
open Go Go.RowKit Go.Maps Go.MapKept
structure JP (w0 w : World) (p s : Nat) (U : Nat → Prop) (mi : Nat) (bv : Value) (css : List (List Value)) (D : ChD) : Prop where
 obj : w.heap[p]? = some (.cells #[.pointer (some ⟨s, 0, none⟩), bv, .map (some mi)] 167 (0, 0))
 set : CS w0 w s U D.S
 row : w.ownsRow w0.heap.size 207 5 bv D.bs.length (css.flatMap id)
 cl : css.length = D.bs.length
 c5 : ∀ cs ∈ css, cs.length = 5
 data : ∀ (i : Nat) (d : xt) (cs : List Value), D.bs[i]? = some d → css[i]? = some cs → Kept (chV p U mi bv) w (fun w => zct w d cs)
 map : zi1 w mi D.M
 pm : p ≠ mi
 up : ¬ U p
 um : ¬ U mi
 rn : ∀ k, bv.ownBlock = some k → k ≠ p ∧ k ≠ mi ∧ ¬ U k
 lo1 : w0.heap.size ≤ p
 lo2 : w0.heap.size ≤ mi
section
variable {w0 w w' : World} {p s mi : Nat} {U : Nat → Prop} {bv : Value} {css : List (List Value)} {D : ChD}
theorem JP.fr (h : JP w0 w p s U mi bv css D) : Fr No w0 w := h.set.fr
theorem JP.lo (h : JP w0 w p s U mi bv css D) : ∀ j, chV p U mi bv j → w0.heap.size ≤ j := by
 intro j hj
 rcases hj with rfl | hj | rfl | hj
 ·exact h.lo1
 ·exact h.set.lo j hj
 ·exact h.lo2
 ·exact (h.row.lt j hj).1
theorem JP.hi (h : JP w0 w p s U mi bv css D) : ∀ j, chV p U mi bv j → j < w.heap.size := by
 intro j hj
 rcases hj with rfl | hj | rfl | hj
 ·exact xf h.obj
 ·exact h.set.hi j hj
 ·exact h.map.lt
 ·exact (h.row.lt j hj).2
theorem JP.frV (h : JP w0 w p s U mi bv css D) {W : Nat → Prop} (f : Fr W w w') (hU : ∀ j, chV p U mi bv j → ¬ W j) (h0 : ∀ j, W j → w0.heap.size ≤ j) (hd : ∀ (i : Nat) (d : xt) (cs : List Value), D.bs[i]? = some d → css[i]? = some cs → Kept (chV p U mi bv) w' (fun w => zct w d cs)) : JP w0 w' p s U mi bv css D :=
 {h with
  obj := f.obj h.obj (hU _ (.inl rfl))
  set := h.set.frV f (fun j hj => hU j (.inr (.inl hj))) h0
  row := zl h.row f (fun j hj => hU j (.inr (.inr (.inr hj))))
  data := hd
  map := h.map.keep f (hU _ (.inr (.inr (.inl rfl)))) }
theorem JP.fr0 (h : JP w0 w p s U mi bv css D) (f : Fr No w w') : JP w0 w' p s U mi bv css D :=
 h.frV f (fun _ _ => id) (fun _ h => h.elim) (fun i d cs h1 h2 => (h.data i d cs h1 h2).same f.of0)
theorem JP.cells (h : JP w0 w p s U mi bv css D) : w.cell? ⟨p, 0, none⟩ = some (.pointer (some ⟨s, 0, none⟩)) ∧ w.cell? ⟨p, 1, none⟩ = some bv ∧ w.cell? ⟨p, 2, none⟩ = some (.map (some mi)) := by
 have := ya h.obj
 exact ⟨by simpa using this 0 _ rfl, by simpa using this 1 _ rfl, by simpa using this 2 _ rfl⟩
end
def Ch (w0 w : World) (p : Nat) (V : Nat → Prop) (D : ChD) : Prop := ∃ s U mi bv css, JP w0 w p s U mi bv css D ∧ V = chV p U mi bv
theorem Ch.fr0 {w0 w w' : World} {p : Nat} {V : Nat → Prop} {D : ChD} (h : Ch w0 w p V D) (f : Fr No w w') : Ch w0 w' p V D := by
 obtain ⟨s, U, mi, bv, css, h, e⟩ := h
 exact ⟨s, U, mi, bv, css, h.fr0 f, e⟩
theorem Ch.fr {w0 w : World} {p : Nat} {V : Nat → Prop} {D : ChD} (h : Ch w0 w p V D) : Fr No w0 w := by
 obtain ⟨s, U, mi, bv, css, h, e⟩ := h
 exact h.fr
theorem Ch.lo {w0 w : World} {p : Nat} {V : Nat → Prop} {D : ChD} (h : Ch w0 w p V D) : ∀ j, V j → w0.heap.size ≤ j := by
 obtain ⟨s, U, mi, bv, css, h, rfl⟩ := h
 exact h.lo
set_option maxRecDepth 20000 in
set_option maxHeartbeats 2000000 in
theorem zdp {w0 w : World} {p : Nat} {V : Nat → Prop} {D : ChD} (h : Ch w0 w p V D) {q : zF} (hq : q.ok) : Calls Tryz.prog 126 #[.pointer (some ⟨p, 0, none⟩), .agg (zB q).toArray] w fun e w' => e = .returned (.tuple #[.agg (zG (yr D.S q)).toArray, .bool (xV D.S q)]) ∧ Fr No w w' := by
 obtain ⟨s, U, mi, bv, css, h, -⟩ := h
 obtain ⟨dP, uP, rP⟩ := xr
 obtain ⟨dO, uO, rO⟩ := vA
 have zo := qT
 have PL := Hd (yb hq)
 have XOK := Hd (jT h.set.ok q)
 have OL := Hd (yD XOK.out)
 have f1 : Fr No w ((w.alloc (.cells (zB q).toArray 95)).alloc (.cells (zG yR).toArray 103)).drew := (((Fr.refl No w).alloc _).alloc _).drew
 have HF := Hd (fun w' (f : Fr No w w') => zjd (h.set.fr0 f) hq)
 have f12 : Fr No (w.alloc (.cells (zB q).toArray 95)) ((w.alloc (.cells (zB q).toArray 95)).alloc (.cells (zG yR).toArray 103)).drew := ((Fr.refl No _).alloc _).drew
 have CK := Hd (fun w' (f : Fr No w w') => (h.fr0 f).cells.1)
 have RB := Hd (zb (zC w (zB q) 95) f12 id)
 have B2 := Hd ((Fr.refl No _).drew.obj (yL (w.alloc (.cells (zB q).toArray 95)) (.cells (zG yR).toArray 103) (n := w.heap.size + 1) (by simp)) id)
 have F1 := Hd f1
 clear h f1 f12
 go_enter Tryz.func126, Tryz.ntmps126
 go_wp2_with fail
 generalize ((w.alloc (.cells (zB q).toArray 95)).alloc (.cells (zG yR).toArray 103)) = w2 at *
 have K2 := Hd (show ∀ w', Fr No w w' → True from fun _ _ => trivial)
 refine zv [false, false, false, false, false, true, false, false, true, false] (fun w' => w'.cell? ⟨p, 0, none⟩ = some (.pointer (some ⟨s, 0, none⟩)) ∧ w'.rangeAt w.heap.size 0 (zB q)) (by kernel_rfl) (by kernel_rfl) ?_ (fun K hK => ?_)
 ·exact ⟨CK.out _ F1.out, RB.out⟩
 repeat (first | ((first | with_reducible refine zx ?_ | ((with_reducible refine zu ?_ ?_); (focus rfl))); apply Exists.intro; refine ⟨?_, ?_⟩; (focus (first | exact zD (ty := 95) rfl (fun w h => h.2) uP rP (by rw [PL.out]; exact zL) | (intro w' hS; obtain ⟨s1, s2⟩ := hS; go_simp; (try with_reducible rfl); done))); try simp only [Act.put, pA, pB, pC]) | ((first | ((with_reducible refine zg (c := false) ?_ ?_ ?_); (focus rfl); (focus rfl)) | ((with_reducible refine zg (c := true) ?_ ?_ ?_); (focus rfl); (focus rfl)) | ((with_reducible refine zt ?_ ?_); (focus rfl))); try simp only [Act.put, pA, pB, pC]))
 (first | with_reducible refine zU (fun K' hK' => ?_) | ((with_reducible refine zK ?_ (fun K' hK' => ?_)); (focus rfl)))
 go_simp
 refine (HF.out _ F1.out).mono ?_
 rintro e w3 ⟨rfl, f3⟩
 have F3 := Hd (F1.out.trans0 f3)
 have B3 := Hd (f3.obj B2.out id)
 have R3 := Hd (zb RB.out f3 id)
 clear f3
 generalize hX : yr D.S q = X at *
 generalize hH : xV D.S q = hb at *
 refine hK'.out _ _ ?_ (fun hS => ?_)
 ·exact ⟨CK.out _ F3.out, R3.out⟩
 try simp only [Act.put, pA, pB, pC]
 repeat (first | ((first | with_reducible refine zx ?_ | ((with_reducible refine zu ?_ ?_); (focus rfl))); apply Exists.intro; refine ⟨?_, ?_⟩; (focus (first | (intro w' hS; obtain ⟨s1, s2⟩ := hS; go_simp; (try with_reducible rfl); done))); try simp only [Act.put, pA, pB, pC]) | ((first | ((with_reducible refine zg (c := false) ?_ ?_ ?_); (focus rfl); (focus rfl)) | ((with_reducible refine zg (c := true) ?_ ?_ ?_); (focus rfl); (focus rfl)) | ((with_reducible refine zt ?_ ?_); (focus rfl))); try simp only [Act.put, pA, pB, pC]))
 (first | with_reducible refine zU (fun K' hK' => ?_) | ((with_reducible refine zK ?_ (fun K' hK' => ?_)); (focus rfl)))
 refine xb (z6 (ty := 103) (b := w.heap.size + 1) (off := 0) (cs := zG X) rfl rfl rfl (by rw [OL.out]; exact yg B3.out (Nat.le_of_eq yw.symm)) (by rw [OL.out]; exact zY) ye) ?_
 have F4 := Hd (show Fr No w (w3.setCells (w.heap.size + 1) 0 (zG X)) from F3.out.trans (zJ _ _ _ _) (fun i hi e => by omega))
 refine hK'.out _ _ ?_ (fun hS => ?_)
 ·exact ⟨CK.out _ F4.out, zb R3.out (zJ _ _ _ _) (fun e => by omega)⟩
 try simp only [Act.put, pA, pB, pC]
 repeat (first | ((first | with_reducible refine zx ?_ | ((with_reducible refine zu ?_ ?_); (focus rfl))); apply Exists.intro; refine ⟨?_, ?_⟩; (focus (first | (intro w' hS; obtain ⟨s1, s2⟩ := hS; go_simp; (try with_reducible rfl); done))); try simp only [Act.put, pA, pB, pC]) | ((first | ((with_reducible refine zg (c := false) ?_ ?_ ?_); (focus rfl); (focus rfl)) | ((with_reducible refine zg (c := true) ?_ ?_ ?_); (focus rfl); (focus rfl)) | ((with_reducible refine zt ?_ ?_); (focus rfl))); try simp only [Act.put, pA, pB, pC]))
 refine zM (hK.out _ _ ?_)
 go_wp2_with fail
 refine bodyPost_ret (yO (P := Tryz.prog) (fn := Tryz.f126) rfl _ rfl (yY B3.out (by rw [OL.out]; exact yw)) uO rO (by rw [OL.out]; exact zY) rfl) rfl ⟨by rw [hX, hH]; rfl, F4.out⟩
end Go.Proofs.YtdkkjchclkjleaaGreatDoor

/- chain: New. -/
namespace Go.Proofs.YtdkkjchclkjleaaGreatDoor
open Go Go.RowKit Go.Maps Go.MapKept
theorem zcA (w : World) : (Instr.makeMap 120 none).run Tryz.prog w = .ok (.map (some w.heap.size)) (w.alloc (.map #[] 0)) := by kernel_rfl
theorem zgE (s m : Nat) (w : World) : (Instr.build 167 #[(0, .pointer (some ⟨s, 0, none⟩)), (2, .map (some m))]).run Tryz.prog w = .ok (.agg #[.pointer (some ⟨s, 0, none⟩), .slice none 0 0, .map (some m)]) w := by kernel_rfl
def zdT (l : List yF) : ChD := ⟨vX [] (Zz yN l), [], []⟩
set_option maxRecDepth 20000 in
set_option maxHeartbeats 2000000 in
theorem zft (w : World) {v : Value} {l : List yF} (hl : xz w v l) (hN : l.length ≤ 256) :
  Calls Tryz.prog 35 #[v] w fun e w' => ∃ p, e = .returned (.tuple #[.pointer (some ⟨p, 0, none⟩), .int .i64 0]) ∧ ∃ V, Ch w w' p V (zdT l) := by
 have j1 : decide ((256 : Int) < (l.length : Int)) = false := by simp; omega
 have HP := Hd (zbH w xQ hl (by omega))
 have OK := Hd (Vb xQ hl.1 (by omega))
 have HN := Hd hN
 obtain ⟨va, vc, rfl⟩ := hl.2.form
 clear hl hN
 go_enter Tryz.func35, Tryz.ntmps35
 have K0 := tru
 have K1 := tru
 have K2 := tru
 have K3 := tru
 go_wp2_with (first | ((with_reducible refine zn ?_); have mk := K0.out; with_reducible refine yk 10 ?_; refine zd rfl (yA (t := 41) rfl rfl (zcX _)) ?_; go_frame) | (clear K1; go_at_call 70; refine HP.out.mono ?_; rintro e w2 ⟨pv, rfl, o2, f2⟩; have F2 := Hd f2; have O2 := Hd (show Je w2 pv (Zz yN l) from ⟨OK.out, by rw [jo]; exact o2.slice.arg⟩); obtain ⟨pa, pc, hpv⟩ := o2.slice.arg.form; subst hpv; clear o2 f2; go_frame) | (clear K2; go_at_call 69; refine (zkc w w2 F2.out O2.out (by rw [jo]; have := HN.out; omega) (VM _ _)).mono ?_; rintro e w3 ⟨s, rfl, U, hcs, f3, hU⟩; have C3 := Hd hcs; have F3 := Hd f3; clear hcs f3 hU; have mk3 := zcA w3; go_frame) | ((with_reducible refine zn ?_); have mk := K3.out; with_reducible refine yk 18 ?_; refine zd rfl (yA (t := 167) rfl rfl (zgE _ _ _)) ?_; go_frame))
 have fA := (Fr.refl No w3).alloc (.map #[] 0)
 have fB := (Fr.refl No (w3.alloc (.map #[] 0))).alloc (.cells #[.pointer (some ⟨s, 0, none⟩), .slice none 0 0, .map (some w3.heap.size)] 167)
 have q1 : (w3.alloc (.map #[] 0)).heap.size = w3.heap.size + 1 := by simp
 have hob := yn (w3.alloc (.map #[] 0)) (.cells #[.pointer (some ⟨s, 0, none⟩), .slice none 0 0, .map (some w3.heap.size)] 167)
 have CC := Hd (show JP w _ (w3.alloc (.map #[] 0)).heap.size s U w3.heap.size (.slice none 0 0) [] (zdT l) from {
  obj := hob
  set := (C3.out.fr0 fA).fr0 fB
  row := World.ownsRow_nil _ _ _ 5
  cl := rfl
  c5 := fun cs h => by cases h
  data := fun i d cs h => by simp [zdT] at h
  map := (show zi1 (w3.alloc (.map #[] 0)) w3.heap.size [] from yl.made w3).keep fB id
  pm := by omega
  up := fun h => by have := C3.out.hi _ h; omega
  um := fun h => by have := C3.out.hi _ h; omega
  rn := fun k h => by cases h
  lo1 := by have := F2.out.size; have := F3.out.size; omega
  lo2 := by have := F2.out.size; have := F3.out.size; omega })
 rw [q1] at CC
 go_ret2
 exact ⟨_, rfl, _, _, _, _, _, _, CC.out, rfl⟩
end Go.Proofs.YtdkkjchclkjleaaGreatDoor

/- Own rows of elements whose parts lie apart: kept while the row grows. -/
namespace Go.Proofs.YtdkkjchclkjleaaGreatDoor
open Go Go.RowKit Go.Maps Go.MapKept
structure zb2 {α : Type} (B : Nat) (ty : TypeId) (k : Nat) (q : World → α → List Value → Prop) (V : Nat → Prop) (w : World) (v : Value) (L : List α) (css : List (List Value)) : Prop where
 row : w.ownsRow B ty k v L.length (css.flatMap id)
 cl : css.length = L.length
 ck : ∀ cs ∈ css, cs.length = k
 data : ∀ (i : Nat) (d : α) (cs : List Value), L[i]? = some d → css[i]? = some cs → Kept (fun j => V j ∨ v.ownBlock = some j) w (fun w => q w d cs)
section
variable {α : Type} {B : Nat} {ty : TypeId} {k : Nat} {q : World → α → List Value → Prop} {V : Nat → Prop} {w w' : World} {v : Value} {L : List α} {css : List (List Value)}
theorem zb2.lt (h : zb2 B ty k q V w v L css) : ∀ j, v.ownBlock = some j → B ≤ j ∧ j < w.heap.size := fun j hj => h.row.lt j hj
theorem zb2.base (h : zb2 B ty k q V w v L css) {B' : Nat} (hB : B' ≤ B) : zb2 B' ty k q V w v L css := ⟨yU h.row hB, h.cl, h.ck, h.data⟩
theorem zb2.rows (h : zb2 B ty k q V w v L css) (hk0 : 0 < k) (hml : L.length ≤ maxLen) {U : Nat → Prop} (hU : ∀ j, j < w.heap.size → U j → V j) (hn : ∀ j, v.ownBlock = some j → ¬ U j) : Kept U w (fun w => qK k q w v L) := fun w' f => by
 refine qK.own hk0 (zl h.row f hn) h.cl h.ck hml (fun i d cs h1 h2 => ?_)
 refine ((h.data i d cs h1 h2).step (V' := U) (Fr.refl _ _) (fun j hj e => .inl (hU j hj e))) w' f
end
end Go.Proofs.YtdkkjchclkjleaaGreatDoor

/- chain: own, of any block. -/
namespace Go.Proofs.YtdkkjchclkjleaaGreatDoor
open Go Go.RowKit Go.Maps Go.MapKept
theorem zck {w : World} {B : Nat} {v : Value} {k : List Int} (h : vm w B v k) (ok : ∀ b ∈ k, 0 ≤ b ∧ b ≤ 255) {V : Nat → Prop} (hV : ∀ j, V j → j < B) : Kept V w (fun w => Vs w v k) :=
 fun w' f => ⟨ok, (zl h f (fun b hb hv => by have := (h.lt b hb).1; have := hV b hv; omega)).slice.arg⟩
theorem zau : (Tryz.prog.info? 108).map (fun i => (i.zero, i.size)) = some (some (.agg (inC xO (.slice none 0 0)).toArray), 34) := by kernel_rfl
theorem zgF : (Tryz.prog.info? 34).map (fun i => (i.zero, i.size)) = some (some (.agg (txC 0 (.slice none 0 0) (.slice none 0 0)).toArray), 3) := by kernel_rfl
theorem JA (w : World) : (zeroValue 34).run Tryz.prog w = .ok (.agg (txC 0 (.slice none 0 0) (.slice none 0 0)).toArray) w := by kernel_rfl
theorem JN {a b c : Value} (h1 : a.oneCell' = true) (h2 : b.oneCell' = true) (h3 : c.oneCell' = true) : ∀ u ∈ [a, b, c], u.oneCell' = true := fun u hu => by
 simp only [List.mem_cons, List.not_mem_nil, or_false] at hu
 rcases hu with rfl | rfl | rfl
 ·exact h1
 ·exact h2
 ·exact h3
end Go.Proofs.YtdkkjchclkjleaaGreatDoor

/- chain: undo. -/
namespace Go.Proofs.YtdkkjchclkjleaaGreatDoor
open Go Go.RowKit Go.Maps Go.MapKept
theorem zaQ : Tryz.prog.underlying 120 = some (.map 41 3) := by kernel_rfl
end Go.Proofs.YtdkkjchclkjleaaGreatDoor

/- chain: Connect and Disconnect over blocks without transactions; the laws' alive, plain. -/
namespace Go.Proofs.YtdkkjchclkjleaaGreatDoor
open Go Go.RowKit Go.Maps Go.MapKept
def Cn (w0 w : World) (p : Nat) (V : Nat → Prop) (S : List zy) (bs : List xt) (ids : List zi) : Prop := ∃ M, Ch w0 w p V ⟨S, bs, M⟩ ∧ (∀ x, x ∈ ids ↔ ∃ v, (x, v) ∈ M) ∧ ∀ x v, (x, v) ∈ M → 0 < v
theorem Cn.fr {w0 w : World} {p : Nat} {V : Nat → Prop} {S : List zy} {bs : List xt} {ids : List zi} (h : Cn w0 w p V S bs ids) : Fr No w0 w := by
 obtain ⟨M, h, -⟩ := h
 exact Ch.fr h
theorem Cn.fr0 {w0 w w' : World} {p : Nat} {V : Nat → Prop} {S : List zy} {bs : List xt} {ids : List zi} (h : Cn w0 w p V S bs ids) (f : Fr No w w') : Cn w0 w' p V S bs ids := by
 obtain ⟨M, h, r⟩ := h
 exact ⟨M, h.fr0 f, r⟩
theorem Cn.lo {w0 w : World} {p : Nat} {V : Nat → Prop} {S : List zy} {bs : List xt} {ids : List zi} (h : Cn w0 w p V S bs ids) : ∀ j, V j → w0.heap.size ≤ j := by
 obtain ⟨M, h, -⟩ := h
 exact Ch.lo h
theorem Cn.hi {w0 w : World} {p : Nat} {V : Nat → Prop} {S : List zy} {bs : List xt} {ids : List zi} (h : Cn w0 w p V S bs ids) : ∀ j, V j → j < w.heap.size := by
 obtain ⟨M, ⟨s, U, mi, bv, css, h, rfl⟩, -⟩ := h
 exact h.hi
theorem JP.base {w0 wb w : World} {p s mi : Nat} {U : Nat → Prop} {bv : Value} {css : List (List Value)} {D : ChD} (h : JP w0 w p s U mi bv css D) (f : Fr No wb w0) : JP wb w p s U mi bv css D :=
 {h with set := h.set.base f, row := yU h.row f.size, lo1 := Nat.le_trans f.size h.lo1, lo2 := Nat.le_trans f.size h.lo2 }
theorem Cn.base {w0 wb w : World} {p : Nat} {V : Nat → Prop} {S : List zy} {bs : List xt} {ids : List zi} (h : Cn w0 w p V S bs ids) (f : Fr No wb w0) : Cn wb w p V S bs ids := by
 obtain ⟨M, ⟨s, U, mi, bv, css, h, hV⟩, r⟩ := h
 exact ⟨M, ⟨s, U, mi, bv, css, h.base f, hV⟩, r⟩
theorem zgQ (w : World) {v : Value} {l : List yF} (hl : xz w v l) (hN : l.length ≤ 256) :
  Calls Tryz.prog 35 #[v] w fun e w' => ∃ p, e = .returned (.tuple #[.pointer (some ⟨p, 0, none⟩), .int .i64 0]) ∧ ∃ V, Cn w w' p V (vX [] (Zz yN l)) [] [] :=
 (zft w hl hN).mono fun e w' ⟨p, he, V, h⟩ => ⟨p, he, V, [], h, by simp, by simp⟩
theorem za4 {w0 w : World} {p : Nat} {V : Nat → Prop} {S : List zy} {bs : List xt} {ids : List zi} (h : Cn w0 w p V S bs ids) {q : zF} (hq : q.ok) : Calls Tryz.prog 126 #[.pointer (some ⟨p, 0, none⟩), .agg (zB q).toArray] w fun e w' => e = .returned (.tuple #[.agg (zG (yr S q)).toArray, .bool (xV S q)]) ∧ Fr No w w' := by
 obtain ⟨M, h, -⟩ := h
 exact zdp h hq
def R0 (S : List zy) (b : Zr) : DoR := ⟨if YS S (XD b) = 0 then 0 else 10, zax S (XD b), ⟨b, [], if YS S (XD b) = 0 then [⟨[], (XD b).map (·.at_)⟩] else []⟩⟩
def zkd : yF := ⟨3, List.replicate 32 0⟩
def Zl : Zr := ⟨0, [zkd], []⟩
end Go.Proofs.YtdkkjchclkjleaaGreatDoor

/- chain: Done. -/
namespace Go.Proofs.YtdkkjchclkjleaaGreatDoor
open Go Go.RowKit Go.Maps Go.MapKept
set_option maxRecDepth 20000 in
set_option maxHeartbeats 2000000 in
theorem za7 {w0 w : World} {p : Nat} {V : Nat → Prop} {S : List zy} {bs : List xt} {ids : List zi} (h : Cn w0 w p V S bs ids) {x : zi} (hx : zQ x) :
  Calls Tryz.prog 74 #[.pointer (some ⟨p, 0, none⟩), .agg (zj x).toArray] w fun e w' => e = .returned (.bool (decide (x ∈ ids))) ∧ Fr No w w' := by
 obtain ⟨M, ⟨s, U, mi, bv, css, h, -⟩, hid, hpos⟩ := h
 obtain ⟨dH, uH, rH⟩ := yj
 have HL := Hd (zE hx)
 have f1 : Fr No w (w.alloc (.cells (zj x).toArray 41)).drew := ((Fr.refl No w).alloc _).drew
 have F1 := Hd f1
 have H1 := h.fr0 f1
 have CK := Hd H1.cells.2.2
 have RB := Hd (zb (zC w (zj x) 41) (Fr.refl No _).drew id)
 obtain ⟨v, hv⟩ : ∃ v : Int, (Instr.lookup 120 (.map (some mi)) (yW x) false).run Tryz.prog (w.alloc (.cells (zj x).toArray 41)).drew = .ok (.int .i64 v) (w.alloc (.cells (zj x).toArray 41)).drew ∧ decide (0 < v) = decide (x ∈ ids) := by
  by_cases hin : x ∈ ids
  ·obtain ⟨v, hm⟩ := (hid x).1 hin
   have := H1.map.look xy.keyed zaQ (fun _ _ => yS) V1 (yd hx) false (r := some v) (fun v' => ⟨fun e => by rw [← Option.some.inj e]; exact hm, fun h' => by rw [H1.map.uniq hm h']⟩)
   exact ⟨v, by simpa using this, by simp [hin, hpos x v hm]⟩
  ·have := H1.map.look xy.keyed zaQ (fun _ _ => yS) V1 (yd hx) false (r := none) (fun v' => ⟨fun e => (by cases e), fun h' => absurd ((hid x).2 ⟨v', h'⟩) hin⟩)
   exact ⟨0, by simpa using this, by simp [hin]⟩
 have LK := Hd hv.1
 have HD := Hd hv.2
 clear h H1 hv hid hpos f1
 go_enter Tryz.func74, Tryz.ntmps74
 go_wp2_with fail
 refine zv [false, false, false, false, false, false, false, false, false, false, false, false] (fun w' => w'.cell? ⟨p, 2, none⟩ = some (.map (some mi)) ∧ w'.rangeAt w.heap.size 0 (zj x) ∧ (Instr.lookup 120 (.map (some mi)) (yW x) false).run Tryz.prog w' = .ok (.int .i64 v) w') (by kernel_rfl) (by kernel_rfl) ?_ (fun K hK => ?_)
 ·exact ⟨CK.out, RB.out, LK.out⟩
 repeat (first | ((first | with_reducible refine zx ?_ | ((with_reducible refine zu ?_ ?_); (focus rfl))); apply Exists.intro; refine ⟨?_, ?_⟩; (focus (first | exact zD (ty := 41) rfl (fun w h => h.2.1) uH rH (by rw [HL.out]; exact zr) | exact fun w' h => zN (t := 120) rfl rfl rfl h.2.2 | (intro w' hS; obtain ⟨s1, s2, s3⟩ := hS; go_simp; (try with_reducible rfl); done))); try simp only [Act.put, pA, pB, pC]) | ((first | ((with_reducible refine zg (c := false) ?_ ?_ ?_); (focus rfl); (focus rfl)) | ((with_reducible refine zg (c := true) ?_ ?_ ?_); (focus rfl); (focus rfl)) | ((with_reducible refine zt ?_ ?_); (focus rfl))); try simp only [Act.put, pA, pB, pC]))
 refine zM (hK.out _ _ ?_)
 go_wp2_with fail
 go_ret
 exact ⟨by rw [← HD.out]; rfl, F1.out⟩
end Go.Proofs.YtdkkjchclkjleaaGreatDoor
