/- kin: Add. -/
import Derived.Test.YtdkkjchclkjleaaGreatDoorSG23
set_option linter.unusedVariables false
set_option linter.unusedSimpArgs false
set_option linter.unnecessarySimpa false
set_option linter.all false
namespace Go.Proofs.YtdkkjchclkjleaaGreatDoor
open Go Go.RowKit Go.Maps Go.MapKept
theorem zdu {G : List yE} {x : zi} {l : List zi} (h : x ∈ ids G) : Vn G x l = 10 := by unfold Vn; rw [if_pos h]
theorem zew {G : List yE} {x : zi} {l : List zi} (h : x ∉ ids G) (h2 : ∃ p ∈ l, p ∉ ids G) : Vn G x l = 9 := by unfold Vn; rw [if_neg h, if_pos h2]
theorem zgL {G : List yE} {x : zi} {l : List zi} (h : x ∉ ids G) (h2 : ∀ p ∈ l, p ∈ ids G) (h3 : ¬ (upS G l).length < 6) : Vn G x l = 16 := by
 unfold Vn; rw [if_neg h, if_neg (fun ⟨p, hp, hn⟩ => hn (h2 p hp)), if_neg h3]
theorem zep {G : List yE} {x : zi} {l : List zi} (h : x ∉ ids G) (h2 : ∀ p ∈ l, p ∈ ids G) (h3 : (upS G l).length < 6) : Vn G x l = 0 := by
 unfold Vn; rw [if_neg h, if_neg (fun ⟨p, hp, hn⟩ => hn (h2 p hp)), if_pos h3]
def Vp (x : zi) (done : List zi) (t : Tri) : Tri := (t.1, t.2.1, if t.1 ∈ done then t.2.2 ++ [x] else t.2.2)
theorem zhB {G : List yE} (ok : GOk G) {x : zi} {l : List zi} (hx : x ∉ ids G) (hl : ∀ p ∈ l, p ∈ ids G) : vZ (Yz G x l) = (vZ G).map (Vp x (dedup l)) ++ [(x, dedup l, [])] := by
 have hk : ∀ y, kid (Yz G x l) y = kid G y ++ (if y ∈ dedup l then [x] else []) := by
  intro y
  unfold kid Yz
  rw [List.filter_append, List.map_append]
  congr 1
  by_cases h : y ∈ dedup l
  ·rw [if_pos h, List.filter_cons_of_pos (by simpa using h)]; rfl
  ·rw [if_neg h, List.filter_cons_of_neg (by simpa using h)]; rfl
 have hkx : kid (Yz G x l) x = [] := by
  rw [hk, if_neg (fun h => hx (hl x (vT.1 h))), List.append_nil]
  refine List.eq_nil_iff_forall_not_mem.2 fun z hz => ?_
  exact hx (zbZ ok ((Xx ok).1 hz).2)
 unfold vZ
 conv => lhs; unfold Yz
 rw [List.map_append, List.map_map]
 congr 1
 ·refine List.map_congr_left fun n hn => ?_
  simp only [Function.comp, Vp]
  refine Prod.ext rfl (Prod.ext rfl ?_)
  show kid (Yz G x l) n.id = if n.id ∈ dedup l then kid G n.id ++ [x] else kid G n.id
  rw [hk]
  split <;> simp
 ·show [(x, dedup l, kid (Yz G x l) x)] = _
  rw [hkx]
def zbv (w0 w : World) (p : Nat) (V : Nat → Prop) (G : List yE) (N : Nat) (x : zi) (l : List zi) (e : Ending) (w' : World) : Prop :=
 e = .returned (.int .i64 (Vn G x l)) ∧ ∃ V', GC w0 w' p V' (if Vn G x l = 0 then Yz G x l else G) (N + 1) ∧ Fr V w w' ∧ ∀ j, V' j → V j ∨ w.heap.size ≤ j
theorem zbv.no {w0 w w' : World} {p N : Nat} {V : Nat → Prop} {G : List yE} {x : zi} {l : List zi} {c : Int} (h : GC w0 w p V G N) (f : Fr No w w') (e : Vn G x l = c) (hc : c ≠ 0) : zbv w0 w p V G N x l (.returned (.int .i64 c)) w' :=
 ⟨by rw [e], V, by rw [if_neg (by rw [e]; exact hc)]; exact (h.fr0 f).mono (by omega), f.of0, fun _ h => .inl h⟩
theorem Qg {w : World} {B n k bx : Nat} {v : Value} {xs : List Value} {c : Array Value} (h : w.ownsRow B 41 k v n xs) (hb : w.heap[bx]? = some (.cells c 201 (0, 0))) : ∀ j, v.ownBlock = some j → j ≠ bx := by
 rcases h.2 with ⟨rfl, _⟩ | ⟨g, cap, cur, rfl, _, hg, _⟩
 ·intro j hj; cases hj
 ·intro j hj e
  simp [Value.ownBlock] at hj
  subst hj e
  rw [hg] at hb
  injection hb with hb
  injection hb with _ hb
  revert hb
  decide
structure zeY (w wr : World) (G : List yE) (sq nb bx : Nat) (x : zi) (l : List zi) (n : Nat) (nv : Value) : Prop where
 le : n ≤ l.length
 sub : ∀ y ∈ l.take n, y ∈ ids G
 blk : wr.heap[nb]? = some (.cells #[.int .i64 ((sq : Int) + 1), nv, .slice none 0 0] 201 (0, 0))
 row : wr.ownsRow nb 41 32 nv (dedup (l.take n)).length ((dedup (l.take n)).flatMap zj)
 fr : Fr No w wr
 rx : wr.rangeAt bx 0 (zj x)
theorem zeY.keep {w wr w1 : World} {G : List yE} {sq nb bx n : Nat} {x : zi} {l : List zi} {nv : Value} (h : zeY w wr G sq nb bx x l n nv) (f : Fr No wr w1) : zeY w w1 G sq nb bx x l n nv :=
 ⟨h.le, h.sub, f.obj h.blk id, zl h.row f (fun _ _ => id), h.fr.trans0 f, zb h.rx f id⟩
structure zc0 (w0 w wr : World) (p m sq nb bx : Nat) (x : zi) (L L' : List ym) (T : List Tri) (nv : Value) (D : List zi) : Prop where
 gr : GR w0 wr p m sq L'
 tri : L'.map ym.t3 = T
 sub : ∀ j ∈ yu p m L', j ∈ yu p m L ∨ (w.heap.size ≤ j ∧ j ≠ nb ∧ nv.ownBlock ≠ some j ∧ j ≠ bx)
 blk : wr.heap[nb]? = some (.cells #[.int .i64 ((sq : Int) + 1), nv, .slice none 0 0] 201 (0, 0))
 row : wr.ownsRow nb 41 32 nv D.length (D.flatMap zj)
 fr : Fr (fun j => j ∈ yu p m L) w wr
 rx : wr.rangeAt bx 0 (zj x)
theorem zc0.keep {w0 w wr w1 : World} {p m sq nb bx : Nat} {x : zi} {L L' : List ym} {T : List Tri} {nv : Value} {D : List zi} (h : zc0 w0 w wr p m sq nb bx x L L' T nv D) (f : Fr No wr w1) : zc0 w0 w w1 p m sq nb bx x L L' T nv D :=
 ⟨h.gr.fr0 f, h.tri, h.sub, f.obj h.blk id, zl h.row f (fun _ _ => id), h.fr.trans0 f, zb h.rx f id⟩
theorem zc0.step {w0 w wr w1 : World} {p m sq nb bx : Nat} {x : zi} {L A B : List ym} {r r' : ym} {T T' : List Tri} {nv : Value} {D : List zi} (h : zc0 w0 w wr p m sq nb bx x L (A ++ r :: B) T nv D) (hg : GR w0 w1 p m sq (A ++ r' :: B)) (f : Fr (fun j => j ∈ r.blks) wr w1) (hs : ∀ j ∈ r'.blks, j ∈ r.blks ∨ wr.heap.size ≤ j) (hT : (A ++ r' :: B).map ym.t3 = T') (hnb : ∀ j ∈ yu p m L, j < w.heap.size) (hbx : bx < wr.heap.size) (hb : w.heap.size ≤ bx ∧ bx ≠ nb ∧ nv.ownBlock ≠ some bx) (hw : w.heap.size ≤ nb) : zc0 w0 w w1 p m sq nb bx x L (A ++ r' :: B) T' nv D := by
 have hrb : ∀ j ∈ r.blks, j ∈ yu p m (A ++ r :: B) := fun j hj => by rw [xg]; simp [hj]
 have hnr : ∀ j ∈ r.blks, j ≠ nb ∧ nv.ownBlock ≠ some j ∧ j ≠ bx := fun j hj => by
  rcases h.sub j (hrb j hj) with h1 | h1
  ·have := hnb j h1
   refine ⟨by omega, fun e => ?_, by omega⟩
   have := (h.row.lt j e).1
   omega
  ·exact h1.2
 refine ⟨hg, hT, fun j hj => ?_, f.obj h.blk (fun e => (hnr _ e).1 rfl), zl h.row f (fun j e e2 => (hnr j e2).2.1 e), h.fr.trans f (fun i hi e => ?_), zb h.rx f (fun e => (hnr _ e).2.2 rfl)⟩
 ·rw [xg] at hj
  simp only [List.mem_append] at hj
  have h2 : ∀ j, j ∈ (p :: m :: A.flatMap ym.blks) ∨ j ∈ r.blks ∨ j ∈ B.flatMap ym.blks → j ∈ yu p m (A ++ r :: B) := fun j hj => by rw [xg]; simp only [List.mem_append]; exact hj
  rcases hj with hj | hj | hj
  ·exact h.sub j (h2 j (.inl hj))
  ·rcases hs j hj with h3 | h3
   ·exact h.sub j (hrb j h3)
   ·refine .inr ⟨by have := h.fr.size; omega, fun e => by have := xf h.blk; omega, fun e => by have := (h.row.lt j e).2; omega, by omega⟩
  ·exact h.sub j (h2 j (.inr (.inr hj)))
 ·rcases h.sub i (hrb i e) with h1 | h1
  ·exact h1
  ·omega
section
variable {w0 w : World} {p N : Nat} {V : Nat → Prop} {G : List yE}
set_option maxRecDepth 20000 in
set_option maxHeartbeats 8000000 in
theorem zkb (h : GC w0 w p V G N) (hN : N ≤ 900) {x : zi} (hx : zQ x) {v : Value} {l : List zi} (hl : yV w v l) (hl2 : l.length ≤ 500) :
  Calls Tryz.prog 50 #[.pointer (some ⟨p, 0, none⟩), .agg (zj x).toArray, v] w (zbv w0 w p V G N x l) := by
 obtain ⟨dK, uK, rK⟩ := yj
 obtain ⟨m, sq, L, hr, hV, htri, hsq⟩ := h.tri
 obtain ⟨va, vc, rfl⟩ := hl.2.form
 have HX := Hd (zE hx)
 have XOK := Hd hx
 have HL := Hd hl
 have f1 : Fr No w (w.alloc (.cells (zj x).toArray 41)) := (Fr.refl No w).alloc _
 have RB := Hd (zC w (zj x) 41)
 have c0 := (Xe (f1.obj hr.obj id)).1
 have c1 := (Xe (f1.obj hr.obj id)).2.1
 obtain ⟨k1, k2⟩ := hr.run_look hx false rfl
 have KM := Hd (fun (w' : World) (f : Fr No (w.alloc (.cells (zj x).toArray 41)) w') => hr.keepM (f1.trans0 f))
 have F1 := Hd f1
 have HI := Hd (show ids G = L.map (·.id) by
  have := congrArg (List.map Prod.fst) htri
  rw [jI, List.map_map] at this
  exact this.symm)
 have HC := Hd h
 have HR := Hd hr
 have HV := Hd hV
 have HT := Hd htri
 have SQ := Hd hsq
 clear h hr f1 hx hl hV htri hsq
 by_cases hin : x ∈ ids G
 ·have D := Hd (zdu (l := l) hin)
  rw [HI.out] at hin
  obtain ⟨r, hr, rfl⟩ := List.mem_map.1 hin
  have K1 := Hd (k1 r hr rfl)
  clear k1 k2 hin hr c1
  unfold YG at K1
  unfold yW at K1
  go_enter Tryz.func50, Tryz.ntmps50
  go_wp2_with fail
  generalize hq : w.heap.size = q at *
  generalize w.alloc (.cells (zj r.id).toArray 41) = w1 at *
  refine zv [false, false, false, false, false, false, false] (fun w' => w'.cell? ⟨p, 0, none⟩ = some (.map (some m)) ∧ w'.rangeAt q 0 (zj r.id) ∧ (∀ M, xW w m M → xW w' m M)) (by kernel_rfl) (by kernel_rfl) ?_ (fun K hK => ?_)
  ·exact ⟨(Fr.refl No _).drew.cell c0 id, zb RB.out (Fr.refl No _).drew id, KM.out _ (Fr.refl No _).drew⟩
  repeat (first | ((first | with_reducible refine zx ?_ | ((with_reducible refine zu ?_ ?_); (focus rfl))); apply Exists.intro; refine ⟨?_, ?_⟩; (focus (first | exact zD (ty := 41) rfl (fun w h => h.2.1) uK rK (by rw [HX.out]; exact zr) | exact fun w' h => zN (t := 197) rfl rfl rfl (K1.out w' h.2.2) | (intro w' hS; obtain ⟨s1, s2, s3⟩ := hS; go_simp; (try with_reducible rfl); done))); try simp only [Act.put, pA, pB, pC]) | ((first | ((with_reducible refine zg (c := false) ?_ ?_ ?_); (focus rfl); (focus rfl)) | ((with_reducible refine zg (c := true) ?_ ?_ ?_); (focus rfl); (focus rfl)) | ((with_reducible refine zt ?_ ?_); (focus rfl))); try simp only [Act.put, pA, pB, pC]))
  refine zM (hK.out _ _ ?_)
  go_wp2_with fail
  go_ret
  exact zbv.no HC.out F1.out.drew D.out (by decide)
 ·have XI := Hd hin
  rw [HI.out] at hin
  have K1 := Hd (k2 hin)
  have hsq2 : sq ≤ 900 := Nat.le_trans SQ.out hN
  clear k1 k2 hin
  unfold yW at K1
  go_enter Tryz.func50, Tryz.ntmps50
  go_wp2_with fail
  have HBX := Hd (show w.heap.size < (w.alloc (.cells (zj x).toArray 41)).heap.size by simp)
  generalize hbx : w.heap.size = bx at *
  generalize w.alloc (.cells (zj x).toArray 41) = w1 at *
  refine zv [false, false, false, false, false, false, false] (fun w' => w'.cell? ⟨p, 0, none⟩ = some (.map (some m)) ∧ w'.rangeAt bx 0 (zj x) ∧ (∀ M, xW w m M → xW w' m M)) (by kernel_rfl) (by kernel_rfl) ?_ (fun K hK => ?_)
  ·exact ⟨(Fr.refl No _).drew.cell c0 id, zb RB.out (Fr.refl No _).drew id, KM.out _ (Fr.refl No _).drew⟩
  repeat (first | ((first | with_reducible refine zx ?_ | ((with_reducible refine zu ?_ ?_); (focus rfl))); apply Exists.intro; refine ⟨?_, ?_⟩; (focus (first | exact zD (ty := 41) rfl (fun w h => h.2.1) uK rK (by rw [HX.out]; exact zr) | exact fun w' h => zN (t := 197) rfl rfl rfl (K1.out w' h.2.2) | (intro w' hS; obtain ⟨s1, s2, s3⟩ := hS; go_simp; (try with_reducible rfl); done))); try simp only [Act.put, pA, pB, pC]) | ((first | ((with_reducible refine zg (c := false) ?_ ?_ ?_); (focus rfl); (focus rfl)) | ((with_reducible refine zg (c := true) ?_ ?_ ?_); (focus rfl); (focus rfl)) | ((with_reducible refine zt ?_ ?_); (focus rfl))); try simp only [Act.put, pA, pB, pC]))
  refine zM (hK.out _ _ ?_)
  have F2 := Hd (F1.out.drew)
  have RB2 := Hd (zb RB.out (Fr.refl No _).drew id)
  have c12 := (Fr.refl No w1).drew.cell c1 id
  have HB2 := Hd (show bx < w1.drew.heap.size from HBX.out)
  clear c0 c1 RB F1 KM HBX K1
  generalize w1.drew = w2 at *
  have hob := yn w2 (.cells #[.int .i64 ((sq : Int) + 1), .slice none 0 0, .slice none 0 0] 201)
  have FN := Hd ((Fr.refl No w2).alloc (.cells #[.int .i64 ((sq : Int) + 1), .slice none 0 0, .slice none 0 0] 201))
  have ST0 := Hd (show zeY w (w2.alloc (.cells #[.int .i64 ((sq : Int) + 1), .slice none 0 0, .slice none 0 0] 201)) G sq w2.heap.size bx x l 0 (.slice none 0 0) from ⟨Nat.zero_le _, by simp, hob, World.ownsRow_nil _ _ _ _, F2.out.trans0 FN.out, zb RB2.out FN.out id⟩)
  clear hob
  go_wp2_with fail
  generalize hnb : w2.heap.size = nb at *
  generalize w2.alloc (.cells #[.int .i64 ((sq : Int) + 1), .slice none 0 0, .slice none 0 0] 201) = w3 at *
  clear c12
  go_loopw [30] (fun iv wr => ∃ (n : Nat) (nv : Value), iv = .int .i64 n ∧ zeY w wr G sq nb bx x l n nv) (fun iv _ => l.length - (intOf iv).toNat)
  case atStart => exact ⟨0, _, rfl, ST0.out⟩
  case round =>
   obtain ⟨n, nv, rfl, hst⟩ := hrel
   have hle := hst.le
   by_cases h : n < l.length
   ·have i1 : (n : Int) < (l.length : Int) := by omega
    obtain ⟨q, hq⟩ : ∃ q, l[n]? = some q := ⟨_, List.getElem?_eq_getElem h⟩
    have QT := Hd (Ze hq)
    have QOK := Hd (HL.out.1 q (List.mem_of_getElem? hq))
    have QM := Hd (List.mem_of_getElem? hq)
    have HQ := Hd (zE QOK.out)
    obtain ⟨bq, oq, cq, hvq, hrq, -⟩ := (HL.out.keep hst.fr).at_ hq
    cases hvq
    have R1 := Hd hrq
    have FA := Hd ((Fr.refl No wr).alloc (.cells (zj q).toArray 41))
    have RN := Hd (zC wr (zj q) 41)
    have STa := Hd (hst.keep FA.out)
    have NVL := Hd (fun j e => (hst.row.lt j e).2)
    have HBw := Hd (show bx < wr.heap.size by have := xf hst.blk; have := HB2.out; omega)
    clear hst hq hrq
    go_wp2_with (first | (refine zd rfl (zf (ty := 41) rfl rfl R1.out uK rK (by rw [HQ.out]; exact zr)) ?_) | (refine zq rfl (zm (w := wr) (cs := zj q) (ty := 41) rfl rfl rfl (by rw [HQ.out]; rfl) (by rw [HQ.out]; exact zr) zV) ?_))
    generalize hq4 : wr.heap.size = q4 at *
    generalize wr.alloc (.cells (zj q).toArray 41) = w4 at *
    have c0 := STa.out.fr.cell (Xe HR.out.obj).1 id
    have KM := Hd (fun (w' : World) (f : Fr No w4 w') => HR.out.keepM (STa.out.fr.trans0 f))
    obtain ⟨k1, k2⟩ := HR.out.run_look QOK.out false rfl
    by_cases hqi : q ∈ ids G
    ·have QI := Hd hqi
     have hqi2 := hqi
     rw [HI.out] at hqi2
     obtain ⟨r, hr, hrq⟩ := List.mem_map.1 hqi2
     have K1 := Hd (k1 r hr hrq)
     clear k1 k2 hqi hqi2 hr hrq
     unfold YG at K1
     unfold yW at K1
     refine zv [false, false, false, false, false, false, false] (fun w' => w'.cell? ⟨p, 0, none⟩ = some (.map (some m)) ∧ w'.rangeAt q4 0 (zj q) ∧ (∀ M, xW w m M → xW w' m M)) (by kernel_rfl) (by kernel_rfl) ?_ (fun K hK => ?_)
     ·exact ⟨(Fr.refl No _).drew.cell c0 id, zb RN.out (Fr.refl No _).drew id, KM.out _ (Fr.refl No _).drew⟩
     repeat (first | ((first | with_reducible refine zx ?_ | ((with_reducible refine zu ?_ ?_); (focus rfl))); apply Exists.intro; refine ⟨?_, ?_⟩; (focus (first | exact zD (ty := 41) rfl (fun w h => h.2.1) uK rK (by rw [HQ.out]; exact zr) | exact fun w' h => zN (t := 197) rfl rfl rfl (K1.out w' h.2.2) | (intro w' hS; obtain ⟨s1, s2, s3⟩ := hS; go_simp; (try with_reducible rfl); done))); try simp only [Act.put, pA, pB, pC]) | ((first | ((with_reducible refine zg (c := false) ?_ ?_ ?_); (focus rfl); (focus rfl)) | ((with_reducible refine zg (c := true) ?_ ?_ ?_); (focus rfl); (focus rfl)) | ((with_reducible refine zt ?_ ?_); (focus rfl))); try simp only [Act.put, pA, pB, pC]))
     refine zM (hK.out _ _ ?_)
     have STb := Hd (STa.out.keep (Fr.refl No _).drew)
     have RNb := Hd (zb RN.out (Fr.refl No _).drew id)
     have SUB := Hd (show ∀ y ∈ l.take (n + 1), y ∈ ids G from fun y hy => by
      rw [QT.out] at hy
      rcases List.mem_append.1 hy with hy | hy
      ·exact STa.out.sub y hy
      ·rw [List.mem_singleton.1 hy]; exact QI.out)
     have DLN := Hd (show (dedup (l.take n)).length ≤ 500 by have := zaX (l.take n); simp only [List.length_take] at this; omega)
     have DOK := Hd (show ∀ y ∈ dedup (l.take n), zQ y from fun y hy => HL.out.1 y (List.mem_of_mem_take (vT.1 hy)))
     clear c0 KM K1 STa RN
     generalize w4.drew = w5 at *
     go_wp2_with fail
     have cn := (Zl STb.out.blk).2.1
     have DS := Hd (zdi (l.take n) q)
     rw [← QT.out] at DS
     by_cases hqd : q ∈ dedup (l.take n)
     ·have QD := Hd (show decide (q ∈ dedup (l.take n)) = true from decide_eq_true hqd)
      rw [if_pos hqd] at DS
      clear hqd
      refine zv [false, false, false, false, false, true, false] (fun w' => w'.cell? ⟨nb, 1, none⟩ = some nv ∧ w'.rangeAt q4 0 (zj q)) (by kernel_rfl) (by kernel_rfl) ?_ (fun K hK => ?_)
      ·exact ⟨(Fr.refl No _).drew.cell cn id, zb RNb.out (Fr.refl No _).drew id⟩
      repeat (first | ((first | with_reducible refine zx ?_ | ((with_reducible refine zu ?_ ?_); (focus rfl))); apply Exists.intro; refine ⟨?_, ?_⟩; (focus (first | exact zD (ty := 41) rfl (fun w h => h.2) uK rK (by rw [HQ.out]; exact zr) | (intro w' hS; obtain ⟨s1, s2⟩ := hS; go_simp; (try with_reducible rfl); done))); try simp only [Act.put, pA, pB, pC]) | ((first | ((with_reducible refine zg (c := false) ?_ ?_ ?_); (focus rfl); (focus rfl)) | ((with_reducible refine zg (c := true) ?_ ?_ ?_); (focus rfl); (focus rfl)) | ((with_reducible refine zt ?_ ?_); (focus rfl))); try simp only [Act.put, pA, pB, pC]))
      (first | with_reducible refine zU (fun K' hK' => ?_) | ((with_reducible refine zK ?_ (fun K' hK' => ?_)); (focus rfl)))
      go_simp
      refine (Zi _ (yV.own (zl STb.out.row (Fr.refl No w5).drew (fun _ _ => id)) DOK.out) (by have := DLN.out; omega) q QOK.out).mono ?_
      rintro e w6 ⟨rfl, f6⟩
      rw [QD.out]
      have F6 := Hd ((Fr.refl No w5).drew.trans0 f6)
      refine hK'.out _ _ ?_ (fun hS => ?_)
      ·exact ⟨F6.out.cell cn id, zb RNb.out F6.out id⟩
      try simp only [Act.put, pA, pB, pC]
      repeat (first | ((first | with_reducible refine zx ?_ | ((with_reducible refine zu ?_ ?_); (focus rfl))); apply Exists.intro; refine ⟨fun w' hS => ?_, ?_⟩; (focus (obtain ⟨s1, s2⟩ := hS; go_simp; (try with_reducible rfl); done)); try simp only [Act.put, pA, pB, pC]) | ((first | ((with_reducible refine zg (c := false) ?_ ?_ ?_); (focus rfl); (focus rfl)) | ((with_reducible refine zg (c := true) ?_ ?_ ?_); (focus rfl); (focus rfl)) | ((with_reducible refine zt ?_ ?_); (focus rfl))); try simp only [Act.put, pA, pB, pC]))
      refine zM (hK.out _ _ ?_)
      go_wp2_with fail
      go_roundw
      case rel => exact ⟨n + 1, nv, by simp, by omega, SUB.out, (STb.out.keep F6.out).blk, by rw [DS.out]; exact (STb.out.keep F6.out).row, (STb.out.keep F6.out).fr, (STb.out.keep F6.out).rx⟩
      case measure => show l.length - (n + 1) < l.length - n; omega
     ·have QD := Hd (show decide (q ∈ dedup (l.take n)) = false from decide_eq_false hqd)
      rw [if_neg hqd] at DS
      clear hqd
      refine zv [false, false, false, false, false, true, false] (fun w' => w'.cell? ⟨nb, 1, none⟩ = some nv ∧ w'.rangeAt q4 0 (zj q)) (by kernel_rfl) (by kernel_rfl) ?_ (fun K hK => ?_)
      ·exact ⟨(Fr.refl No _).drew.cell cn id, zb RNb.out (Fr.refl No _).drew id⟩
      repeat (first | ((first | with_reducible refine zx ?_ | ((with_reducible refine zu ?_ ?_); (focus rfl))); apply Exists.intro; refine ⟨?_, ?_⟩; (focus (first | exact zD (ty := 41) rfl (fun w h => h.2) uK rK (by rw [HQ.out]; exact zr) | (intro w' hS; obtain ⟨s1, s2⟩ := hS; go_simp; (try with_reducible rfl); done))); try simp only [Act.put, pA, pB, pC]) | ((first | ((with_reducible refine zg (c := false) ?_ ?_ ?_); (focus rfl); (focus rfl)) | ((with_reducible refine zg (c := true) ?_ ?_ ?_); (focus rfl); (focus rfl)) | ((with_reducible refine zt ?_ ?_); (focus rfl))); try simp only [Act.put, pA, pB, pC]))
      (first | with_reducible refine zU (fun K' hK' => ?_) | ((with_reducible refine zK ?_ (fun K' hK' => ?_)); (focus rfl)))
      go_simp
      refine (Zi _ (yV.own (zl STb.out.row (Fr.refl No w5).drew (fun _ _ => id)) DOK.out) (by have := DLN.out; omega) q QOK.out).mono ?_
      rintro e w6 ⟨rfl, f6⟩
      rw [QD.out]
      have F6 := Hd ((Fr.refl No w5).drew.trans0 f6)
      refine hK'.out _ _ ?_ (fun hS => ?_)
      ·exact ⟨F6.out.cell cn id, zb RNb.out F6.out id⟩
      try simp only [Act.put, pA, pB, pC]
      repeat (first | ((first | with_reducible refine zx ?_ | ((with_reducible refine zu ?_ ?_); (focus rfl))); apply Exists.intro; refine ⟨fun w' hS => ?_, ?_⟩; (focus (obtain ⟨s1, s2⟩ := hS; go_simp; (try with_reducible rfl); done)); try simp only [Act.put, pA, pB, pC]) | ((first | ((with_reducible refine zg (c := false) ?_ ?_ ?_); (focus rfl); (focus rfl)) | ((with_reducible refine zg (c := true) ?_ ?_ ?_); (focus rfl); (focus rfl)) | ((with_reducible refine zt ?_ ?_); (focus rfl))); try simp only [Act.put, pA, pB, pC]))
      refine zM (hK.out _ _ ?_)
      have STc := Hd (STb.out.keep F6.out)
      have RNc := Hd (zb RNb.out F6.out id)
      have Q6 := Hd (show q4 < w6.heap.size from by
       have := RNc.out 0 ((zj q)[0]'(by rw [HQ.out]; decide)) (List.getElem?_eq_getElem _)
       simp only [World.cell?] at this
       refine Nat.lt_of_not_le fun hle => ?_
       rw [Array.getElem?_eq_none (by omega)] at this
       cases this)
      clear f6 F6 STb RNb cn
      go_wp2_with fail
      have cn := (Zl STc.out.blk).2.1
      have NBn := Hd (Qg STc.out.row STc.out.blk)
      obtain ⟨v7, w7, hap, ho7, f7, -, hn7⟩ := xj (P := Tryz.prog) w6.drew nb 38 38 41 32 32 _ xB xI rfl (by decide) (zl STc.out.row (Fr.refl No w6).drew (fun _ _ => id)) (zj q) HQ.out zV (by have := DLN.out; omega) (by have := DLN.out; unfold maxLen; omega) (by have := xf STc.out.blk; exact Nat.le_of_lt this)
      obtain ⟨a7, c7, hv7⟩ := ho7.slice.arg.form
      subst hv7
      have HAP := Hd hap
      have F7 := Hd (show Fr (fun j => nv.ownBlock = some j) w6 w7 from ((Fr.refl No w6).drew.of0 (W := fun j => nv.ownBlock = some j)).trans f7 (fun _ _ h => h))
      have O7 := Hd (show w7.ownsRow nb 41 32 (.slice a7 ((dedup (l.take n)).length + 1) c7) (dedup (l.take (n + 1))).length ((dedup (l.take (n + 1))).flatMap zj) by rw [DS.out, List.length_append, List.flatMap_append]; simpa using ho7)
      have B7 := F7.out.obj STc.out.blk (fun e => NBn.out _ e rfl)
      have NB7 := Hd (show ∀ j, (Value.slice a7 ((dedup (l.take n)).length + 1) c7).ownBlock = some j → j ≠ nb from fun j e e2 => (hn7 j e).elim (fun h => NBn.out j h e2) (fun h => by have := xf STc.out.blk; have e3 : w6.drew.heap.size = w6.heap.size := rfl; omega))
      obtain ⟨-, z1, -, -, z2, -⟩ := Zl B7
      have KS := Hd (fun (w' : World) (f : Fr No w6 w') => (⟨f.cell cn id, zb RNc.out f id⟩ : w'.cell? ⟨nb, 1, none⟩ = some nv ∧ w'.rangeAt q4 0 (zj q)))
      have K7 := Hd (show w7.cell? ⟨nb, 1, none⟩ = some nv ∧ w7.rangeAt q4 0 (zj q) from ⟨z1, zb RNc.out F7.out (fun e => by have := NVL.out _ e; omega)⟩)
      clear hap ho7 f7 hn7
      generalize hdl : (dedup (l.take n)).length + 1 = dl at *
      refine yJ [false, false, false, false, false, false, true, true, false, false, true] (fun w' => w'.cell? ⟨nb, 1, none⟩ = some nv ∧ w'.rangeAt q4 0 (zj q)) (by kernel_rfl) (by kernel_rfl) 10 (by kernel_rfl) (by kernel_rfl) ?_ (fun K hK => ?_)
      ·exact KS.out _ (Fr.refl No _).drew
      repeat (first | ((first | with_reducible refine yG ?_ | ((with_reducible refine yp ?_ ?_); (focus rfl))); apply Exists.intro; refine ⟨?_, ?_⟩; (focus (first | exact zD (ty := 41) rfl (fun w h => h.2) uK rK (by rw [HQ.out]; exact zr) | (intro w' hS; obtain ⟨s1, s2⟩ := hS; go_simp; (try with_reducible rfl); done))); try simp only [Act.put, pA, pB, pC]) | ((first | ((with_reducible refine zX (c := false) ?_ ?_ ?_); (focus rfl); (focus rfl)) | ((with_reducible refine zX (c := true) ?_ ?_ ?_); (focus rfl); (focus rfl)) | ((with_reducible refine yq ?_ ?_); (focus rfl))); try simp only [Act.put, pA, pB, pC]))
      (first | with_reducible refine yK (fun K' hK' => ?_) | ((with_reducible refine yx ?_ (fun K' hK' => ?_)); (focus rfl)))
      refine yB (zZ (t := 38) rfl rfl xB qs rfl (by decide) (by decide) HQ.out) ?_
      refine hK'.out _ _ (fun _ => ?_) (fun hS => ?_)
      ·exact KS.out _ ((Fr.refl No w6).drew.alloc _)
      try simp only [Act.put, pA, pB, pC]
      (first | with_reducible refine yK (fun K' hK' => ?_) | ((with_reducible refine yx ?_ (fun K' hK' => ?_)); (focus rfl)))
      refine xU rfl rfl rfl HAP.out ?_
      refine hK'.out _ _ (fun _ => ?_) (fun hS => ?_)
      ·exact K7.out
      try simp only [Act.put, pA, pB, pC]
      repeat (first | ((first | with_reducible refine yG ?_ | ((with_reducible refine yp ?_ ?_); (focus rfl))); apply Exists.intro; refine ⟨?_, ?_⟩; (focus (first | (intro w' hS; obtain ⟨s1, s2⟩ := hS; go_simp; (try with_reducible rfl); done))); try simp only [Act.put, pA, pB, pC]) | ((first | ((with_reducible refine zX (c := false) ?_ ?_ ?_); (focus rfl); (focus rfl)) | ((with_reducible refine zX (c := true) ?_ ?_ ?_); (focus rfl); (focus rfl)) | ((with_reducible refine yq ?_ ?_); (focus rfl))); try simp only [Act.put, pA, pB, pC]))
      (first | with_reducible refine yK (fun K' hK' => ?_) | ((with_reducible refine yx ?_ (fun K' hK' => ?_)); (focus rfl)))
      go_simp
      refine hK'.out _ _ (fun h => absurd rfl h) (fun hS => ?_)
      refine qy (hK.out _ _ ?_)
      have f8 : Fr (fun j => j = nb) w7 (w7.setCell ⟨nb, 1, none⟩ (.slice a7 dl c7)) := (Fr.refl (fun j => j = nb) w7).setCell ⟨nb, 1, none⟩ (.inr rfl) _
      have F8 := Hd (show Fr (fun j => nb ≤ j) w6 (w7.setCell ⟨nb, 1, none⟩ (.slice a7 dl c7)) from (F7.out.mono (fun j e => (STc.out.row.lt j e).1)).trans f8 (fun j _ e => by omega))
      have ST8 := Hd (show zeY w (w7.setCell ⟨nb, 1, none⟩ (.slice a7 dl c7)) G sq nb bx x l (n + 1) (.slice a7 dl c7) from ⟨h, SUB.out, by
       have := heap_setCell_same w7 nb 1 _ _ (.slice a7 dl c7) B7
       simpa using this, zl O7.out f8 NB7.out, STc.out.fr.trans F8.out (fun j hj e => by have := HB2.out; omega), zb STc.out.rx F8.out (fun e => by have := HB2.out; omega)⟩)
      clear f8 B7 z1 z2 cn
      go_wp2_with fail
      go_roundw
      case rel => exact ⟨n + 1, _, by simp, ST8.out⟩
      case measure => show l.length - (n + 1) < l.length - n; omega
    ·have K1 := Hd (k2 (by rw [← HI.out]; exact hqi))
     have E9 := Hd (zew XI.out ⟨q, QM.out, hqi⟩)
     clear k1 k2 hqi
     unfold yW at K1
     refine zv [false, false, false, false, false, false, false] (fun w' => w'.cell? ⟨p, 0, none⟩ = some (.map (some m)) ∧ w'.rangeAt q4 0 (zj q) ∧ (∀ M, xW w m M → xW w' m M)) (by kernel_rfl) (by kernel_rfl) ?_ (fun K hK => ?_)
     ·exact ⟨(Fr.refl No _).drew.cell c0 id, zb RN.out (Fr.refl No _).drew id, KM.out _ (Fr.refl No _).drew⟩
     repeat (first | ((first | with_reducible refine zx ?_ | ((with_reducible refine zu ?_ ?_); (focus rfl))); apply Exists.intro; refine ⟨?_, ?_⟩; (focus (first | exact zD (ty := 41) rfl (fun w h => h.2.1) uK rK (by rw [HQ.out]; exact zr) | exact fun w' h => zN (t := 197) rfl rfl rfl (K1.out w' h.2.2) | (intro w' hS; obtain ⟨s1, s2, s3⟩ := hS; go_simp; (try with_reducible rfl); done))); try simp only [Act.put, pA, pB, pC]) | ((first | ((with_reducible refine zg (c := false) ?_ ?_ ?_); (focus rfl); (focus rfl)) | ((with_reducible refine zg (c := true) ?_ ?_ ?_); (focus rfl); (focus rfl)) | ((with_reducible refine zt ?_ ?_); (focus rfl))); try simp only [Act.put, pA, pB, pC]))
     refine zM (hK.out _ _ ?_)
     go_wp2_with fail
     go_ret
     exact zbv.no HC.out STa.out.fr.drew E9.out (by decide)
   ·have i1 : ¬ (n : Int) < (l.length : Int) := by omega
    have hnl : n = l.length := by omega
    subst hnl
    have hsub := hst.sub
    have hrow := hst.row
    rw [List.take_length] at hsub hrow
    obtain ⟨na, nc, hnv⟩ := hrow.slice.arg.form
    subst hnv
    have DOK := Hd (show ∀ y ∈ dedup l, zQ y from fun y hy => HL.out.1 y (vT.1 hy))
    have DLN := Hd (show (dedup l).length ≤ 500 from Nat.le_trans (zaX l) hl2)
    have DND := Hd (ZW l)
    have UE := Hd (show zbM true G (dedup l) = upS G l from zif fun y => vT)
    have SUB := Hd hsub
    have STa := Hd hst
    have cn := (Zl hst.blk).2.1
    have HW := Hd (fun (wz : World) (f : Fr No wr wz) => zdz (HC.out.fr0 (STa.out.fr.trans0 f)) (by omega) (yV.own (zl hrow f (fun _ _ => id)) DOK.out) (by have := DLN.out; omega) true)
    have ROW := Hd hrow
    have UND := Hd (show (upS G l).Nodup from HC.out.gok.nd.sublist (qJ l))
    clear hst hsub hrow
    by_cases hU : (upS G l).length < 6
    ·have E0 := Hd (zep XI.out SUB.out hU)
     go_wp2_with (first | (go_at_call 93; refine (HW.out _ (Fr.refl No wr)).mono ?_; rintro e w5 ⟨b, M, rfl, hm, hs, hb, f5⟩; rw [UE.out] at hs; have hml : M.length = (upS G l).length := (by rw [(keys_perm hm.nodup hs UND.out).length_eq, List.length_map]); have j6 : ¬ (6 : Int) ≤ (M.length : Int) := (by omega); have HM := Hd hm; have F5 := Hd f5; have cn5 := f5.cell cn id; clear hm hs hml f5) | (refine zd rfl (jq rfl rfl (HM.out.lenRun qO _)) ?_))
     have STb := Hd (STa.out.keep F5.out)
     have ROWb := Hd (zl ROW.out F5.out (fun _ _ => id))
     clear STa ROW HM F5 cn HW j6 cn5
     have HWL := Hd (show ∀ j ∈ yu p m L, j < w.heap.size from HR.out.hi)
     have WB := Hd (show w.heap.size ≤ bx ∧ bx ≠ nb ∧ (Value.slice na (dedup l).length nc).ownBlock ≠ some bx from ⟨by omega, by have := HB2.out; omega, fun e => by have := (ROWb.out.lt bx e).1; have := HB2.out; omega⟩)
     have WN := Hd (show w.heap.size ≤ nb by have := HB2.out; omega)
     have SB0 := Hd (show zc0 w0 w w5 p m sq nb bx x L L ((vZ G).map (Vp x ((dedup l).take 0))) (.slice na (dedup l).length nc) (dedup l) from ⟨HR.out.fr0 STb.out.fr, by
      rw [HT.out]
      conv => lhs; rw [← List.map_id (vZ G)]
      exact List.map_congr_left fun t _ => by simp [Vp], fun j hj => .inl hj, STb.out.blk, ROWb.out, STb.out.fr.of0, STb.out.rx⟩)
     have DI := Hd (show ∀ y ∈ dedup l, y ∈ ids G from fun y hy => SUB.out y (vT.1 hy))
     have TN := Hd (show ((vZ G).map (·.1)).Nodup by rw [jI]; exact HC.out.gok.nd)
     have TKL := Hd (show ∀ t ∈ vZ G, t.2.2.length ≤ 1000 from fun t ht => by
      obtain ⟨n, hn, rfl⟩ := List.mem_map.1 ht
      have h2 := Va (G := G) n.id
      have := HC.out.len
      exact Nat.le_trans h2 (by omega))
     have G3 := Hd (zhB HC.out.gok XI.out SUB.out)
     clear STb ROWb
     generalize hDD : dedup l = D at *
     go_loopw [72] (fun iv wr => ∃ (n : Nat) (L' : List ym), iv = .int .i64 n ∧ n ≤ D.length ∧ zc0 w0 w wr p m sq nb bx x L L' ((vZ G).map (Vp x (D.take n))) (.slice na D.length nc) D) (fun iv _ => D.length - (intOf iv).toNat)
     case atStart => exact ⟨0, L, rfl, Nat.zero_le _, SB0.out⟩
     case round =>
      obtain ⟨n, L', rfl, hn, hst⟩ := hrel
      by_cases h : n < D.length
      ·have i1 : (n : Int) < (D.length : Int) := by omega
       obtain ⟨q, hq⟩ : ∃ q, D[n]? = some q := ⟨_, List.getElem?_eq_getElem h⟩
       have QM := Hd (List.mem_of_getElem? hq)
       obtain ⟨A, r, B, rfl, hrid, t, ht, htq, htf⟩ := Y6 (f := Vp x (D.take n)) (fun _ => rfl) hst.tri (q := q) (by rw [jI]; exact DI.out q QM.out)
       obtain ⟨bq, oq, cq, hvq, hrq, -⟩ := (yV.own hst.row DOK.out).at_ hq
       cases hvq
       have QOK := Hd (DOK.out q QM.out)
       have HQ := Hd (zE QOK.out)
       have R1 := Hd hrq
       have FA := Hd ((Fr.refl No wr).alloc (.cells (zj q).toArray 41))
       have RN := Hd (zC wr (zj q) 41)
       have STa := Hd (hst.keep FA.out)
       have QT := Hd (Ze hq)
       have QN := Hd (Yu DND.out hq)
       have DIS := Hd (fun j (hj : r.cv.ownBlock = some j) => hst.gr.dis (A := A) (B := B) (j := j) (.inr hj))
       have HBw := Hd (show bx < wr.heap.size by have := xf hst.blk; have := HB2.out; omega)
       have OBX := Hd (show ∀ j, r.cv.ownBlock = some j → j ≠ bx from fun j hj => by
        have h1 : j ∈ yu p m (A ++ r :: B) := by rw [xg]; have h2 : j ∈ r.blks := qf.2 (.inr (.inr hj)); simp [h2]
        rcases hst.sub j h1 with h3 | h3
        ·have := HWL.out j h3; omega
        ·exact h3.2.2.2)
       have LEN := Hd (show r.ks.length ≤ 1000 by
        have h1 := TKL.out t ht
        have e1 := congrArg (fun z : Tri => z.2.2) htf
        simp only [Vp, ym.t3] at e1
        rw [htq, if_neg QN.out] at e1
        rw [← e1]
        exact h1)
       have hdln := DLN.out
       clear hst hq hrq htf ht htq
       subst hrid
       go_wp2_with (first | (refine zd rfl (zf (ty := 41) rfl rfl R1.out uK rK (by rw [HQ.out]; exact zr)) ?_) | (refine zq rfl (zm (w := wr) (cs := zj r.id) (ty := 41) rfl rfl rfl (by rw [HQ.out]; rfl) (by rw [HQ.out]; exact zr) zV) ?_))
       generalize hq4 : wr.heap.size = q4 at *
       generalize wr.alloc (.cells (zj r.id).toArray 41) = w4 at *
       have RM := Hd (show r ∈ A ++ r :: B by simp)
       have ND := Hd (STa.out.gr.node r RM.out)
       have ROK := Hd (show zQ r.id ∧ (∀ y ∈ r.ps, zQ y) ∧ ∀ y ∈ r.ks, zQ y from STa.out.gr.ok r RM.out)
       have LK := Hd (STa.out.gr.lookR RM.out)
       have KP := Hd (fun (w' : World) (f : Fr (fun j => r.cv.ownBlock = some j) w4 w') => (⟨f.cell (Xe STa.out.gr.obj).1 (fun e => (DIS.out _ e).1 rfl), zb RN.out f (fun e => by have := (DIS.out _ e).2.2.2; omega), fun M hM => hM.keep f (fun e => (DIS.out _ e).2.1 rfl), f.cell (Zl ND.out.blk).2.2.1 (fun e => (DIS.out _ e).2.2.1 rfl), zb STa.out.rx f (fun e => OBX.out _ e rfl)⟩ : w'.cell? ⟨p, 0, none⟩ = some (.map (some m)) ∧ w'.rangeAt q4 0 (zj r.id) ∧ (∀ M, xW w4 m M → xW w' m M) ∧ w'.cell? ⟨r.b, 2, none⟩ = some r.cv ∧ w'.rangeAt bx 0 (zj x)))
       obtain ⟨v7, w7, hap, ho7, f7, -, hn7⟩ := xj (P := Tryz.prog) w4.drew w0.heap.size 38 38 41 32 32 _ xB xI rfl (by decide) (zl ND.out.crow (Fr.refl No w4).drew (fun _ _ => id)) (zj x) HX.out zV (by have := LEN.out; omega) (by have := LEN.out; unfold maxLen; omega) (by have := STa.out.gr.fr.size; exact this)
       obtain ⟨a7, c7, hv7⟩ := ho7.slice.arg.form
       generalize hdl : r.ks.length + 1 = dl at hv7 hap ho7
       subst hv7
       have HAP := Hd hap
       have F7 := Hd (show Fr (fun j => r.cv.ownBlock = some j) w4 w7 from ((Fr.refl No w4).drew.of0 (W := fun j => r.cv.ownBlock = some j)).trans f7 (fun _ _ h => h))
       have O7 := Hd (show w7.ownsRow w0.heap.size 41 32 (.slice a7 dl c7) (r.ks ++ [x]).length ((r.ks ++ [x]).flatMap zj) by rw [List.length_append, List.flatMap_append, show [x].length = 1 from rfl, hdl]; simpa using ho7)
       have N7 := Hd (show ∀ j, (Value.slice a7 dl c7).ownBlock = some j → r.cv.ownBlock = some j ∨ w4.heap.size ≤ j from hn7)
       have FZ := Hd (show w7.cell? ⟨r.b, 2, none⟩ = some r.cv ∧ w7.frozen? ⟨r.b, 2, none⟩ = false from ⟨(Zl (F7.out.obj ND.out.blk (fun e => (DIS.out _ e).2.2.1 rfl))).2.2.1, (Zl (F7.out.obj ND.out.blk (fun e => (DIS.out _ e).2.2.1 rfl))).2.2.2.2.2⟩)
       clear hap ho7 f7 hn7
       refine yJ [false, false, false, false, false, false, false, false, false, false, false, false, false, false, false, false, true, true, false, false, true] (fun w' => w'.cell? ⟨p, 0, none⟩ = some (.map (some m)) ∧ w'.rangeAt q4 0 (zj r.id) ∧ (∀ M, xW w4 m M → xW w' m M) ∧ w'.cell? ⟨r.b, 2, none⟩ = some r.cv ∧ w'.rangeAt bx 0 (zj x)) (by kernel_rfl) (by kernel_rfl) 20 (by kernel_rfl) (by kernel_rfl) ?_ (fun K hK => ?_)
       ·exact KP.out _ (Fr.refl No _).drew.of0
       repeat (first | ((first | with_reducible refine yG ?_ | ((with_reducible refine yp ?_ ?_); (focus rfl))); apply Exists.intro; refine ⟨?_, ?_⟩; (focus (first | exact zD (ty := 41) rfl (fun w h => h.2.1) uK rK (by rw [HQ.out]; exact zr) | exact zD (ty := 41) rfl (fun w h => h.2.2.2.2) uK rK (by rw [HX.out]; exact zr) | exact fun w' h => zN (t := 197) rfl rfl rfl (LK.out w' h.2.2.1) | (intro w' hS; obtain ⟨s1, s2, s3, s4, s5⟩ := hS; go_simp; (try with_reducible rfl); done))); try simp only [Act.put, pA, pB, pC]) | ((first | ((with_reducible refine zX (c := false) ?_ ?_ ?_); (focus rfl); (focus rfl)) | ((with_reducible refine zX (c := true) ?_ ?_ ?_); (focus rfl); (focus rfl)) | ((with_reducible refine yq ?_ ?_); (focus rfl))); try simp only [Act.put, pA, pB, pC]))
       (first | with_reducible refine yK (fun K' hK' => ?_) | ((with_reducible refine yx ?_ (fun K' hK' => ?_)); (focus rfl)))
       refine yB (zZ (t := 38) rfl rfl xB qs rfl (by decide) (by decide) HX.out) ?_
       refine hK'.out _ _ (fun _ => ?_) (fun hS => ?_)
       ·exact KP.out _ ((Fr.refl No w4).drew.alloc _).of0
       try simp only [Act.put, pA, pB, pC]
       repeat (first | ((first | with_reducible refine yG ?_ | ((with_reducible refine yp ?_ ?_); (focus rfl))); apply Exists.intro; refine ⟨?_, ?_⟩; (focus (first | (intro w' hS; obtain ⟨s1, s2, s3, s4, s5⟩ := hS; go_simp; (try with_reducible rfl); done))); try simp only [Act.put, pA, pB, pC]) | ((first | ((with_reducible refine zX (c := false) ?_ ?_ ?_); (focus rfl); (focus rfl)) | ((with_reducible refine zX (c := true) ?_ ?_ ?_); (focus rfl); (focus rfl)) | ((with_reducible refine yq ?_ ?_); (focus rfl))); try simp only [Act.put, pA, pB, pC]))
       (first | with_reducible refine yK (fun K' hK' => ?_) | ((with_reducible refine yx ?_ (fun K' hK' => ?_)); (focus rfl)))
       refine xU rfl rfl rfl HAP.out ?_
       refine hK'.out _ _ (fun _ => ?_) (fun hS => ?_)
       ·exact KP.out _ F7.out
       try simp only [Act.put, pA, pB, pC]
       repeat (first | ((first | with_reducible refine yG ?_ | ((with_reducible refine yp ?_ ?_); (focus rfl))); apply Exists.intro; refine ⟨?_, ?_⟩; (focus (first | exact zD (ty := 41) rfl (fun w h => h.2.1) uK rK (by rw [HQ.out]; exact zr) | exact fun w' h => zN (t := 197) rfl rfl rfl (LK.out w' h.2.2.1) | (intro w' hS; obtain ⟨s1, s2, s3, s4, s5⟩ := hS; go_simp; (try with_reducible rfl); done))); try simp only [Act.put, pA, pB, pC]) | ((first | ((with_reducible refine zX (c := false) ?_ ?_ ?_); (focus rfl); (focus rfl)) | ((with_reducible refine zX (c := true) ?_ ?_ ?_); (focus rfl); (focus rfl)) | ((with_reducible refine yq ?_ ?_); (focus rfl))); try simp only [Act.put, pA, pB, pC]))
       obtain ⟨z1, z2⟩ := FZ.out
       (first | with_reducible refine yK (fun K' hK' => ?_) | ((with_reducible refine yx ?_ (fun K' hK' => ?_)); (focus rfl)))
       go_simp
       refine hK'.out _ _ (fun h => absurd rfl h) (fun hS => ?_)
       refine qy (hK.out _ _ ?_)
       obtain ⟨g8, f8⟩ := STa.out.gr.setc F7.out O7.out N7.out (fun y hy => (List.mem_append.1 hy).elim (ROK.out.2.2 y) (fun e => by rw [List.mem_singleton.1 e]; exact XOK.out))
       have ST8 := Hd (STa.out.step g8 f8 (fun j hj => by
        rw [qf] at hj ⊢
        rcases hj with h1 | h1 | h1
        ·exact .inl (.inl h1)
        ·exact .inl (.inr (.inl h1))
        ·exact (N7.out j h1).imp (fun e => .inr (.inr e)) id) (step_map (f := Vp x (D.take n)) (g := Vp x (D.take (n + 1))) TN.out (fun _ => rfl) STa.out.tri rfl (fun t ht e1 e2 => by
        simp only [ym.t3, Vp] at e2 ⊢
        rw [e1, if_neg QN.out] at e2
        rw [e1, QT.out, if_pos (by simp)]
        injection e2 with e2 e3
        injection e3 with e3 e4
        rw [e3, e4]) (fun t ht e1 => by
        simp only [Vp, QT.out, List.mem_append, List.mem_singleton, e1, or_false])) HWL.out (Nat.lt_of_lt_of_le HBw.out (by have := FA.out.size; omega)) WB.out WN.out)
       clear g8 f8 z1 z2
       go_wp2_with fail
       go_roundw
       case rel => exact ⟨n + 1, _, by simp, by omega, ST8.out⟩
       case measure => show D.length - (n + 1) < D.length - n; omega
      ·have i1 : ¬ (n : Int) < (D.length : Int) := by omega
       have hnl : n = D.length := by omega
       subst hnl
       have htr := hst.tri
       rw [List.take_length] at htr
       have c1 := (Xe hst.gr.obj).2.1
       have fz := (Xe hst.gr.obj).2.2.2
       have hcnt := hst.gr.count (s := sq + 1) (by omega)
       rw [show ((sq + 1 : Nat) : Int) = (sq : Int) + 1 by omega] at hcnt
       have hpg : p ∈ yu p m L' := by simp [yu]
       have hmg : m ∈ yu p m L' := by simp [yu]
       have hout : ∀ j ∈ yu p m L', j ≠ nb ∧ j ≠ bx ∧ (Value.slice na D.length nc).ownBlock ≠ some j := fun j hj => by
        rcases hst.sub j hj with h1 | h1
        ·have := HWL.out j h1
         refine ⟨by have := WN.out; omega, by omega, fun e => ?_⟩
         have := (hst.row.lt j e).1
         have := WN.out
         omega
        ·exact ⟨h1.2.1, h1.2.2.2, h1.2.2.1⟩
       have fc : Fr (fun j => j = p) wr (wr.setCell ⟨p, 1, none⟩ (.int .i64 ((sq : Int) + 1))) := (Fr.refl (fun j => j = p) wr).setCell ⟨p, 1, none⟩ (.inr rfl) _
       have SUBJ := Hd hst.sub
       have OUTJ := Hd hout
       have TRI := Hd htr
       have TOP := Hd hst.gr.top
       have G6 := Hd hcnt
       have BLK6 := Hd (fc.obj hst.blk (fun e => (hout p hpg).1 e.symm))
       have ROW6 := Hd (zl hst.row fc (fun j e e2 => (hout p hpg).2.2 (by rw [← e2]; exact e)))
       have RX6 := Hd (zb hst.rx fc (fun e => (hout p hpg).2.1 e.symm))
       have SGP := Hd (show ∀ j, w0.heap.size ≤ j ∨ True from fun _ => .inr trivial)
       have FR6 := Hd (show Fr (fun j => j ∈ yu p m L) w (wr.setCell ⟨p, 1, none⟩ (.int .i64 ((sq : Int) + 1))) from hst.fr.trans fc (fun i _ e => by subst e; simp [yu]))
       clear hst hcnt htr hout fc hpg hmg SGP
       go_wp2_with fail
       generalize wr.setCell ⟨p, 1, none⟩ (.int .i64 ((sq : Int) + 1)) = w6 at *
       clear c1 fz
       have c0 := (Xe G6.out.obj).1
       have LID := Hd (show L'.map (·.id) = ids G by
        have h1 := congrArg (List.map Prod.fst) TRI.out
        rw [List.map_map, List.map_map] at h1
        refine h1.trans ?_
        rw [← jI]
        rfl)
       obtain ⟨M, hM, hMs⟩ := G6.out.map
       have hMl : M.length ≤ 1000 := by
        have h1 := xM (m := ids G) hM.nodup (fun y hy => by
         obtain ⟨⟨k, b'⟩, hx', rfl⟩ := List.mem_map.1 hy
         obtain ⟨r, hr, e, -⟩ := (hMs k b').1 hx'
         rw [← LID.out, ← e]
         exact List.mem_map.2 ⟨r, hr, rfl⟩)
        have h2 := HC.out.len
        simp only [ids, List.length_map] at h1
        omega
       obtain ⟨w8, M', hup, hM8, hupd, htu, -⟩ := (hM.keep (Fr.refl No w6).drew id).upd xy.keyed jN (fun _ _ => yS) (yd XOK.out) (by unfold maxLen; omega) nb
       have f8 : Fr (fun j => j = m) w6 w8 := ((Fr.refl No w6).drew.of0 (W := fun j => j = m)).trans htu.fr (fun _ _ h => h)
       have HW0 := HR.out.fr.size
       have NBV := Qg ROW6.out BLK6.out
       have hbl : (ym.mk x (sq + 1) D [] nb (.slice na D.length nc) (.slice none 0 0)).blks.Nodup := zbE (fun e => NBV nb e rfl) (fun e => by cases e) (fun j _ e => by cases e)
       have hap : ∀ j ∈ (ym.mk x (sq + 1) D [] nb (.slice na D.length nc) (.slice none 0 0)).blks, j ∉ yu p m L' ∧ w.heap.size ≤ j := fun j hj => by
        rw [qf] at hj
        rcases hj with hj | hj | hj
        ·have hj : j = nb := hj
         exact ⟨fun e => (OUTJ.out j e).1 hj, by have := WN.out; omega⟩
        ·exact ⟨fun e => (OUTJ.out j e).2.2 hj, by have := (ROW6.out.lt j hj).1; have := WN.out; omega⟩
        ·cases hj
       have HAP := Hd hap
       have G8 := Hd (G6.out.ins (r := ⟨x, sq + 1, D, [], nb, .slice na D.length nc, .slice none 0 0⟩) hMs hM8 hupd f8 ⟨by rw [show ((sq + 1 : Nat) : Int) = (sq : Int) + 1 by omega]; exact BLK6.out, Yc ROW6.out (by have := WN.out; omega), World.ownsRow_nil _ _ _ _⟩ (by rw [LID.out]; exact XI.out) hbl (fun j hj => ⟨(hap j hj).1, by have := (hap j hj).2; omega⟩) (fun y hy => by have := TOP.out y hy; show y.seq < sq + 1; omega) (Nat.le_refl _) ⟨XOK.out, DOK.out, by simp⟩)
       have F8 := Hd (show Fr V w w8 by
        rw [HV.out]
        exact FR6.out.trans f8 (fun i _ e => by subst e; simp [yu]))
       have T8 := Hd (show (L' ++ [(⟨x, sq + 1, D, [], nb, .slice na D.length nc, .slice none 0 0⟩ : ym)]).map ym.t3 = vZ (Yz G x l) by rw [List.map_append, TRI.out, G3.out]; rfl)
       have VJ := Hd (show ∀ j, j ∈ yu p m (L' ++ [(⟨x, sq + 1, D, [], nb, .slice na D.length nc, .slice none 0 0⟩ : ym)]) → V j ∨ w.heap.size ≤ j from fun j hj => by
        have e : yu p m (L' ++ [(⟨x, sq + 1, D, [], nb, .slice na D.length nc, .slice none 0 0⟩ : ym)]) = yu p m L' ++ (ym.mk x (sq + 1) D [] nb (.slice na D.length nc) (.slice none 0 0)).blks := by simp [yu]
        rw [e] at hj
        rcases List.mem_append.1 hj with hj | hj
        ·rcases SUBJ.out j hj with h1 | h1
         ·exact .inl (by rw [HV.out]; exact h1)
         ·exact .inr h1.1
        ·exact .inr (HAP.out j hj).2)
       have HUP := Hd hup
       clear hM hMs hMl hup hM8 hupd htu f8 NBV hbl hap
       unfold yW YG at HUP
       refine yJ [false, false, false, false, false, false, true] (fun w' => w'.cell? ⟨p, 0, none⟩ = some (.map (some m)) ∧ w'.rangeAt bx 0 (zj x)) (by kernel_rfl) (by kernel_rfl) 6 (by kernel_rfl) (by kernel_rfl) ?_ (fun K hK => ?_)
       ·exact ⟨(Fr.refl No _).drew.cell c0 id, zb RX6.out (Fr.refl No _).drew id⟩
       repeat (first | ((first | with_reducible refine yG ?_ | ((with_reducible refine yp ?_ ?_); (focus rfl))); apply Exists.intro; refine ⟨?_, ?_⟩; (focus (first | exact zD (ty := 41) rfl (fun w h => h.2) uK rK (by rw [HX.out]; exact zr) | (intro w' hS; obtain ⟨s1, s2⟩ := hS; go_simp; (try with_reducible rfl); done))); try simp only [Act.put, pA, pB, pC]) | ((first | ((with_reducible refine zX (c := false) ?_ ?_ ?_); (focus rfl); (focus rfl)) | ((with_reducible refine zX (c := true) ?_ ?_ ?_); (focus rfl); (focus rfl)) | ((with_reducible refine yq ?_ ?_); (focus rfl))); try simp only [Act.put, pA, pB, pC]))
       (first | with_reducible refine yK (fun K' hK' => ?_) | ((with_reducible refine yx ?_ (fun K' hK' => ?_)); (focus rfl)))
       refine xb (y5 rfl rfl rfl rfl HUP.out) ?_
       refine hK'.out _ _ (fun h => absurd rfl h) (fun hS => ?_)
       refine qy (hK.out _ _ ?_)
       go_wp2_with fail
       go_ret
       refine ⟨by rw [E0.out]; rfl, _, ?_, F8.out, VJ.out⟩
       rw [if_pos E0.out]
       exact GC.of_tri G8.out T8.out (by have := SQ.out; omega) (zel HC.out.gok XI.out SUB.out) (by have := HC.out.len; unfold Yz; simp; omega)
    ·have E16 := Hd (zgL XI.out SUB.out hU)
     go_wp2_with (first | (go_at_call 93; refine (HW.out _ (Fr.refl No wr)).mono ?_; rintro e w5 ⟨b, M, rfl, hm, hs, hb, f5⟩; rw [UE.out] at hs; have hml : M.length = (upS G l).length := (by rw [(keys_perm hm.nodup hs UND.out).length_eq, List.length_map]); have j6 : (6 : Int) ≤ (M.length : Int) := (by omega); have HM := Hd hm; have F5 := Hd f5; clear hm hs hml f5) | (refine zd rfl (jq rfl rfl (HM.out.lenRun qO _)) ?_))
     go_ret
     exact zbv.no HC.out (STa.out.fr.trans0 F5.out) E16.out (by decide)
end
end Go.Proofs.YtdkkjchclkjleaaGreatDoor
