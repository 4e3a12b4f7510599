/- coin: a set's memory; New. -/
import Derived.Outline
import Derived.Lib.Bytealg
import Derived.Sort.Grow
import Derived.Laws.Externs
import Derived.Shelf.SlSortCmp.WholeK
import Derived.Test.YtdkkjchclkjleaaGreatDoorProg
import Derived.Shelf.SlSortCmp.NoneTotal
import Derived.Test.YtdkkjchclkjleaaGreatDoorSG9
import Derived.Test.YtdkkjchclkjleaaGreatDoorSG3
import Derived.Test.YtdkkjchclkjleaaGreatDoorSG1
import Derived.Test.YtdkkjchclkjleaaGreatDoorSG4
set_option linter.unusedVariables false
set_option linter.unusedSimpArgs false
set_option linter.unnecessarySimpa false
set_option linter.all false
namespace Go.Proofs.YtdkkjchclkjleaaGreatDoor
open Go Go.RowKit Go.Maps Go.MapKept
theorem Vc {α : Type} : ∀ {A B : List α}, A.Nodup → (∀ x ∈ A, x ∈ B) → A.length ≤ B.length ∧ (A.length = B.length → A.Perm B)
 | [], B, _, _ => ⟨Nat.zero_le _, fun h => by rw [List.eq_nil_of_length_eq_zero h.symm]⟩
 | a :: A, B, hn, hs => by
  obtain ⟨B1, B2, rfl⟩ := List.append_of_mem (hs a (by simp))
  obtain ⟨h1, h2⟩ := List.nodup_cons.1 hn
  obtain ⟨i1, i2⟩ := Vc (A := A) (B := B1 ++ B2) h2 (fun x hx => by
   have := hs x (by simp [hx])
   simp only [List.mem_append, List.mem_cons] at this ⊢
   rcases this with h | rfl | h
   ·exact .inl h
   ·exact absurd hx h1
   ·exact .inr h)
  simp only [List.length_append, List.length_cons] at *
  refine ⟨by omega, fun h => ?_⟩
  exact (List.Perm.cons a (i2 (by omega))).trans List.perm_middle.symm
theorem zaM {α : Type} {A B : List α} (hA : A.Nodup) (h : ∀ x, x ∈ A ↔ x ∈ B) : A.length = B.length ↔ B.Nodup := by
 constructor
 ·intro e
  exact ((Vc hA (fun x hx => (h x).1 hx)).2 e).nodup_iff.1 hA
 ·intro hB
  exact Nat.le_antisymm (Vc hA (fun x hx => (h x).1 hx)).1 (Vc hB (fun x hx => (h x).2 hx)).1
abbrev VF (w : World) (m : Nat) (M : List (zF × yF)) : Prop := yl Tryz.prog 95 jW ze9 w m M
structure CS (w0 w : World) (p : Nat) (V : Nat → Prop) (S : List zy) : Prop where
 ex : ∃ m M, w.heap[p]? = some (.cells #[.map (some m)] 235 (0, 0)) ∧ VF w m M ∧ (∀ k v, (k, v) ∈ M ↔ (⟨k, v⟩ : zy) ∈ S) ∧ p ≠ m ∧ V = fun j => j = p ∨ j = m
 srt : q8 S
 ok : ∀ c ∈ S, c.ok
 lo : ∀ j, V j → w0.heap.size ≤ j
 fr : Fr No w0 w
section
variable {w0 w : World} {p : Nat} {V : Nat → Prop} {S : List zy}
theorem CS.hi (h : CS w0 w p V S) : ∀ j, V j → j < w.heap.size := by
 obtain ⟨m, M, hb, hm, -, -, rfl⟩ := h.ex
 rintro j (rfl | rfl)
 ·exact xf hb
 ·exact hm.lt
theorem CS.frV {w' : World} (h : CS w0 w p V S) {U : Nat → Prop} (f : Fr U w w') (hU : ∀ j, V j → ¬ U j) (h0 : ∀ j, U j → w0.heap.size ≤ j) : CS w0 w' p V S := by
 obtain ⟨m, M, hb, hm, hs, hne, rfl⟩ := h.ex
 exact { h with
  ex := ⟨m, M, f.obj hb (hU p (.inl rfl)), hm.keep f (hU m (.inr rfl)), hs, hne, rfl⟩
  fr := h.fr.trans f (fun i hi e => by have := h0 i e; omega) }
theorem CS.fr0 {w' : World} (h : CS w0 w p V S) (f : Fr No w w') : CS w0 w' p V S := h.frV f (fun _ _ => id) (fun _ h => h.elim)
theorem CS.base {wb : World} (h : CS w0 w p V S) (f : Fr No wb w0) : CS wb w p V S := { h with lo := fun j hj => Nat.le_trans f.size (h.lo j hj), fr := f.trans0 h.fr }
omit w0 w p V S in
theorem zdF (w : World) : (Instr.makeMap 233 none).run Tryz.prog w = .ok (.map (some w.heap.size)) (w.alloc (.map #[] 0)) := by kernel_rfl
omit w0 w p V S in
theorem zhS (w : World) : ∃ w1, w1 = (w.alloc (.map #[] 0)).alloc (.cells #[.map (some w.heap.size)] 235) ∧ Fr No w w1 ∧ VF w1 w.heap.size [] ∧ w1.heap[w.heap.size + 1]? = some (.cells #[.map (some w.heap.size)] 235 (0, 0)) := by
 refine ⟨_, rfl, ((Fr.refl No w).alloc _).alloc _, (yl.made w).keep (W := No) ((Fr.refl _ _).alloc _) id, ?_⟩
 exact yL (w.alloc (.map #[] 0)) (.cells #[.map (some w.heap.size)] 235) (n := w.heap.size + 1) (by simp)
omit w0 w p V S in
def zjl (w : World) (l : List zy) (e : Ending) (w' : World) : Prop := ∃ M, e = .returned (if (l.map (·.at_)).Nodup then .tuple #[.pointer (some ⟨w.heap.size + 1, 0, none⟩), .int .i64 0] else .tuple #[.pointer none, .int .i64 12]) ∧ VF w' w.heap.size M ∧ w'.heap[w.heap.size + 1]? = some (.cells #[.map (some w.heap.size)] 235 (0, 0)) ∧ Fr No w w' ∧ ((l.map (·.at_)).Nodup → ∀ k v, (k, v) ∈ M ↔ (⟨k, v⟩ : zy) ∈ l)
omit w0 w p V S in
set_option maxRecDepth 20000 in
set_option maxHeartbeats 4000000 in
theorem zil (w : World) {v : Value} {l : List zy} (hl : Je w v l) (hN : l.length ≤ 100000) :
  Calls Tryz.prog 69 #[v] w (zjl w l) := by
 obtain ⟨dC, uC, rC⟩ := zgs
 obtain ⟨dP, uP, rP⟩ := xr
 obtain ⟨dO, uO, rO⟩ := vA
 obtain ⟨va, vc, rfl⟩ := hl.2.form
 have HL := Hd hl
 obtain ⟨w1, hw1, f1, hm1, hb1⟩ := zhS w
 have F1 := Hd f1
 have HM1 := Hd hm1
 have HB1 := Hd hb1
 have SZ := Hd (Nat.lt_of_lt_of_le (xf hb1) (Nat.le_refl _))
 have m1 := zdF
 clear hl f1 hm1 hb1
 go_enter Tryz.func69, Tryz.ntmps69
 go_wp2_with fail
 rw [← hw1]
 clear hw1 m1
 generalize hq : w.heap.size = q at *
 go_loopw [12] (fun iv wr => ∃ (n : Nat) (M : List (zF × yF)), iv = .int .i64 n ∧ n ≤ l.length ∧ VF wr q M ∧ wr.heap[q + 1]? = some (.cells #[.map (some q)] 235 (0, 0)) ∧ (∀ k v, (k, v) ∈ M → (⟨k, v⟩ : zy) ∈ l.take n) ∧ (∀ c ∈ l.take n, ∃ v, (c.at_, v) ∈ M) ∧ M.length ≤ n ∧ Fr No w wr) (fun iv _ => l.length - (intOf iv).toNat)
 case atStart => exact ⟨0, [], rfl, Nat.zero_le _, HM1.out, HB1.out, by simp, by simp, Nat.le_refl _, F1.out⟩
 case round =>
  obtain ⟨n, M, rfl, hn, hm, hb, h1, h2, hMl, fr⟩ := hrel
  have HM := Hd hm
  have HB := Hd hb
  have FR := Hd fr
  have H1 := Hd h1
  have H2 := Hd h2
  clear h1 h2 fr hm
  by_cases h : n < l.length
  ·have i1 : (n : Int) < (l.length : Int) := by omega
   obtain ⟨c, hx⟩ : ∃ c, l[n]? = some c := ⟨_, List.getElem?_eq_getElem h⟩
   obtain ⟨b, off, cap, hv, hr, -⟩ := (HL.out.keep FR.out).at_ hx
   cases hv
   have COK := Hd (HL.out.1 c (List.mem_of_getElem? hx))
   have CL := Hd (Qa COK.out)
   have PL := Hd (yb COK.out.1)
   have OL := Hd (yD COK.out.2)
   have R1 := Hd hr
   have nb := zC wr (qE c) 214
   have RP := Hd (zhX nb)
   have RO := Hd (show (wr.alloc (.cells (qE c).toArray 214)).rangeAt wr.heap.size 33 (zG c.out) by have := zgS COK.out nb; rwa [Nat.zero_add] at this)
   have zc := zgk
   have hTN : l.take (n + 1) = l.take n ++ [c] := by rw [List.take_add_one, hx]; rfl
   have fA := (Fr.refl No wr).alloc (.cells (qE c).toArray 214)
   have FA := Hd (FR.out.trans0 fA)
   have hbA := fA.obj hb id
   have cA : (wr.alloc (.cells (qE c).toArray 214)).cell? ⟨q + 1, 0, none⟩ = some (.map (some q)) := (ze8 hbA).1
   have CA := Hd cA
   have HBA := Hd hbA
   have hne : q < wr.heap.size := HM.out.lt
   obtain ⟨w3, M', hr3, hM3, hU, hT, hl3⟩ := ((HM.out.keep fA id).keep (Fr.refl No _).drew id).upd JK.keyed zat (fun _ _ => vO) (qI COK.out.1) (by unfold maxLen; omega) c.out
   have fT := hT.fr
   have HR := Hd hr3
   have HM3 := Hd hM3
   have HB3 := Hd (fT.obj (show (wr.alloc (.cells (qE c).toArray 214)).drew.heap[q + 1]? = _ from hbA) (fun e => by omega))
   have S3 := Hd (show w3.cell? ⟨q + 1, 0, none⟩ = some (.map (some q)) ∧ w3.rangeAt wr.heap.size 0 (zB c.at_) ∧ w3.rangeAt wr.heap.size 33 (zG c.out) from ⟨(ze8 HB3.out).1, zb (zb RP.out (Fr.refl No _).drew id) fT (fun e => by omega), zb (zb RO.out (Fr.refl No _).drew id) fT (fun e => by omega)⟩)
   have F3 := Hd (FA.out.drew.trans fT (fun i hi e => by omega))
   have HU := Hd hU
   have HL3 := Hd hl3
   clear hr nb cA hr3 hM3 hU hT hl3 fT fA hb hbA
   go_wp2_with (first | (refine zd rfl (zf (ty := 214) rfl rfl R1.out uC rC (by rw [CL.out]; exact Vz)) ?_) | (refine zq rfl (zm (w := wr) (ty := 214) rfl rfl rfl (by rw [CL.out]; rfl) (by rw [CL.out]; exact Vz) zbe) ?_))
   refine zv [false, false, false, false, false, false, false, false, true] (fun w' => w'.cell? ⟨q + 1, 0, none⟩ = some (.map (some q)) ∧ w'.rangeAt wr.heap.size 0 (zB c.at_) ∧ w'.rangeAt wr.heap.size 33 (zG c.out)) (by kernel_rfl) (by kernel_rfl) ?_ (fun K hK => ?_)
   ·exact ⟨CA.out, zb RP.out (Fr.refl No _).drew id, zb RO.out (Fr.refl No _).drew id⟩
   repeat (first | ((first | with_reducible refine zx ?_ | ((with_reducible refine zu ?_ ?_); (focus rfl))); apply Exists.intro; refine ⟨?_, ?_⟩; (focus (first | exact zD (ty := 95) rfl (fun w h => h.2.1) uP rP (by rw [PL.out]; exact zL) | exact zD (ty := 103) rfl (fun w h => h.2.2) uO rO (by rw [OL.out]; exact zY) | (intro w' hS; obtain ⟨s1, s2, s3⟩ := hS; go_simp; (try with_reducible rfl); done))); try simp only [Act.put, pA, pB, pC]) | ((first | ((with_reducible refine zg (c := false) ?_ ?_ ?_); (focus rfl); (focus rfl)) | ((with_reducible refine zg (c := true) ?_ ?_ ?_); (focus rfl); (focus rfl)) | ((with_reducible refine zt ?_ ?_); (focus rfl))); try simp only [Act.put, pA, pB, pC]))
   (first | with_reducible refine zU (fun K' hK' => ?_) | ((with_reducible refine zK ?_ (fun K' hK' => ?_)); (focus rfl)))
   refine xb (y5 rfl rfl rfl rfl HR.out) ?_
   refine hK'.out _ _ ?_ (fun hS => ?_)
   ·exact S3.out
   refine zM (hK.out _ _ ?_)
   go_wp2
   go_roundw
   case rel =>
    refine ⟨n + 1, M', by simp, by omega, HM3.out, HB3.out, ?_, ?_, by have := HL3.out; omega, F3.out⟩
    ·intro k v hkv
     rw [hTN]
     rcases (HU.out k v).1 hkv with ⟨rfl, rfl⟩ | ⟨_, h⟩
     ·simp
     ·exact List.mem_append.2 (.inl (H1.out k v h))
    ·intro c' hc'
     rw [hTN] at hc'
     by_cases e : c'.at_ = c.at_
     ·exact ⟨c.out, by rw [e]; exact (HU.out _ _).2 (.inl ⟨rfl, rfl⟩)⟩
     ·rcases List.mem_append.1 hc' with h | h
      ·obtain ⟨v, hv⟩ := H2.out c' h
       exact ⟨v, (HU.out _ _).2 (.inr ⟨e, hv⟩)⟩
      ·rw [List.mem_singleton.1 h] at e; exact absurd rfl e
   case measure => show l.length - (n + 1) < l.length - n; omega
  ·have i1 : ¬ (n : Int) < (l.length : Int) := by omega
   have hT : l.take n = l := by rw [show n = l.length by omega, List.take_length]
   have H1' := Hd (show ∀ k v, (k, v) ∈ M → (⟨k, v⟩ : zy) ∈ l by have := H1.out; rwa [hT] at this)
   have H2' := Hd (show ∀ c ∈ l, ∃ v, (c.at_, v) ∈ M by have := H2.out; rwa [hT] at this)
   have hset : ∀ x, x ∈ M.map (·.1) ↔ x ∈ l.map (·.at_) := by
    intro x
    constructor
    ·intro h
     obtain ⟨y, hy, rfl⟩ := List.mem_map.1 h
     exact List.mem_map.2 ⟨_, H1'.out y.1 y.2 hy, rfl⟩
    ·intro h
     obtain ⟨c, hc, rfl⟩ := List.mem_map.1 h
     obtain ⟨v, hv⟩ := H2'.out c hc
     exact List.mem_map.2 ⟨_, hv, rfl⟩
   have hlen := zaM HM.out.nodup hset
   rw [List.length_map, List.length_map] at hlen
   have c0 : wr.cell? ⟨q + 1, 0, none⟩ = some (.map (some q)) := (ze8 hb).1
   have LR := Hd (fun ty => HM.out.lenRun zat ty)
   clear hT hset HM1 HB1 F1 hb
   by_cases hnd : (l.map (·.at_)).Nodup
   ·have j1 : (M.length : Int) = (l.length : Int) := by have := hlen.2 hnd; omega
    have ND := Hd hnd
    clear hlen hnd
    go_wp2_with (refine zd rfl (jq rfl rfl (LR.out _)) ?_)
    go_ret2
    refine ⟨M, by rw [if_pos ND.out, hq]; rfl, by rw [hq]; exact HM.out, by rw [hq]; exact HB.out, FR.out, fun _ k v => ⟨H1'.out k v, fun h => ?_⟩⟩
    obtain ⟨v', hv'⟩ := H2'.out _ h
    have h' := H1'.out _ _ hv'
    have : ∀ {L : List zy}, (L.map (·.at_)).Nodup → ∀ a ∈ L, ∀ b ∈ L, a.at_ = b.at_ → a = b := by
     intro L
     induction L with
     | nil => intro _ a ha; cases ha
     | cons x L ih =>
      intro hn a ha b hb e
      obtain ⟨n1, n2⟩ := List.nodup_cons.1 hn
      rcases List.mem_cons.1 ha with rfl | ha' <;> rcases List.mem_cons.1 hb with rfl | hb'
      ·rfl
      ·exact absurd (List.mem_map.2 ⟨b, hb', e.symm⟩) n1
      ·exact absurd (List.mem_map.2 ⟨a, ha', e⟩) n1
      ·exact ih n2 a ha' b hb' e
    have := this ND.out _ h' _ h rfl
    injection this with _ e
    rw [← e]
    exact hv'
   ·have j1 : ¬ (M.length : Int) = (l.length : Int) := fun e => hnd (hlen.1 (by omega))
    have ND := Hd hnd
    clear hlen hnd
    go_wp2_with (refine zd rfl (jq rfl rfl (LR.out _)) ?_)
    go_ret2
    exact ⟨M, by rw [if_neg ND.out]; rfl, by rw [hq]; exact HM.out, by rw [hq]; exact HB.out, FR.out, fun h => absurd h ND.out⟩
end
end Go.Proofs.YtdkkjchclkjleaaGreatDoor

/- coin: New, Len, Find. -/
namespace Go.Proofs.YtdkkjchclkjleaaGreatDoor
open Go Go.RowKit Go.Maps Go.MapKept
theorem yw : (zG yR).toArray.size = 33 := by rw [List.size_toArray, yD JE]
theorem zkc (w0 w : World) (f : Fr No w0 w) {v : Value} {l : List zy} (hl : Je w v l) (hN : l.length ≤ 100000) (hnd : (l.map (·.at_)).Nodup) :
  Calls Tryz.prog 69 #[v] w fun e w' => ∃ p, e = .returned (.tuple #[.pointer (some ⟨p, 0, none⟩), .int .i64 0]) ∧ ∃ V, CS w0 w' p V (vX [] l) ∧ Fr No w w' ∧ (∀ k, V k → w.heap.size ≤ k) := by
 refine (zil w hl hN).mono ?_
 rintro e w' ⟨M, rfl, hm, hb, fr, hs⟩
 refine ⟨w.heap.size + 1, by rw [if_pos hnd], fun j => j = w.heap.size + 1 ∨ j = w.heap.size, ⟨⟨_, M, hb, hm, fun k v => ?_, by omega, rfl⟩, Jr List.Pairwise.nil hnd (fun _ _ => rfl), fun c hc => ?_, ?_, f.trans0 fr⟩, fr, ?_⟩
 ·rw [hs hnd, qN]; simp
 ·rcases qN.1 hc with h | h
  ·cases h
  ·exact hl.1 c h
 ·have := f.size; rintro j (rfl | rfl) <;> omega
 ·rintro j (rfl | rfl) <;> omega
theorem zfX {S : List zy} (h : q8 S) {q : zF} {v : yF} : Zx S q = some v ↔ (⟨q, v⟩ : zy) ∈ S := by
 constructor
 ·intro e
  cases hh : xV S q with
  | false => rw [zdZ hh] at e; cases e
  | true =>
   obtain ⟨c, hc, rfl⟩ := jS.1 hh
   rw [Zf h hc] at e
   injection e with e
   rw [← e]
   exact hc
 ·intro hm
  exact Zf (c := ⟨q, v⟩) h hm
def yr (S : List zy) (q : zF) : yF := (Zx S q).getD yR
theorem jT {S : List zy} (ok : ∀ c ∈ S, c.ok) (q : zF) : (yr S q).ok := by
 unfold yr Zx
 cases e : S.find? fun c => decide (c.at_ = q) with
 | none => exact JE
 | some c => exact (ok c (List.mem_of_find?_eq_some e)).2
section
variable {w0 w : World} {p : Nat} {V : Nat → Prop} {S : List zy}
set_option maxRecDepth 20000 in
theorem zib {m : Nat} {M : List (zF × yF)} (hs : ∀ k v, (k, v) ∈ M ↔ (⟨k, v⟩ : zy) ∈ S) (srt : q8 S) {q : zF} (hq : q.ok) (hm : VF w m M) :
  (Instr.lookup 233 (.map (some m)) (jW q) true).run Tryz.prog w = .ok (.tuple #[.agg (zG (yr S q)).toArray, .bool (xV S q)]) w := by
 have h := hm.look JK.keyed zat (fun _ _ => vO) ziH (qI hq) true (r := Zx S q) (fun v => by rw [hs, zfX srt])
 rw [h, zbU]
 have : ((Zx S q).map ze9).getD (ze9 yR) = ze9 (yr S q) := by
  unfold yr
  cases Zx S q <;> rfl
 simp only [if_true, this]
 rfl
set_option maxRecDepth 20000 in
set_option maxHeartbeats 2000000 in
theorem zjd (h : CS w0 w p V S) {q : zF} (hq : q.ok) : Calls Tryz.prog 157 #[.pointer (some ⟨p, 0, none⟩), .agg (zB q).toArray] w fun e w' => e = .returned (.tuple #[.agg (zG (yr S q)).toArray, .bool (xV S q)]) ∧ Fr No w w' := by
 obtain ⟨dP, uP, rP⟩ := xr
 obtain ⟨dO, uO, rO⟩ := vA
 obtain ⟨m, M, hb, hm, hs, hne, rfl⟩ := h.ex
 have LOOK := Hd (fun w' (h' : VF w' m M) => zib (w := w') hs h.srt hq h')
 have XOK := Hd (jT h.ok q)
 have OL := Hd (yD XOK.out)
 have PL := Hd (yb hq)
 have zo := qT
 have f1 : Fr No w ((w.alloc (.cells (zB q).toArray 95)).alloc (.cells (zG yR).toArray 103)) := ((Fr.refl No w).alloc _).alloc _
 have c0 := (ze8 (f1.obj hb id)).1
 have RB := Hd (zb (zC w (zB q) 95) ((Fr.refl No _).alloc (.cells (zG yR).toArray 103)) id)
 have HM := Hd (hm.keep f1 id)
 have HRC := Hd (yL (w.alloc (.cells (zB q).toArray 95)) (.cells (zG yR).toArray 103) (n := w.heap.size + 1) (by simp))
 have F1 := Hd f1
 have HSZ := Hd (show ((w.alloc (.cells (zB q).toArray 95)).alloc (.cells (zG yR).toArray 103)).heap.size = w.heap.size + 2 by simp)
 generalize xV S q = hb' at *
 generalize yr S q = X at *
 clear h hb hm hs hne f1
 go_enter Tryz.func157, Tryz.ntmps157
 go_wp2_with fail
 generalize hq1 : w.heap.size = n at *
 generalize (w.alloc (.cells (zB q).toArray 95)).alloc (.cells (zG yR).toArray 103) = wz at *
 refine zv [false, false, false, false, false, false, false, false, false, true, true, false] (fun w' => w'.cell? ⟨p, 0, none⟩ = some (.map (some m)) ∧ w'.rangeAt n 0 (zB q) ∧ VF w' m M) (by kernel_rfl) (by kernel_rfl) ?_ (fun K hK => ?_)
 ·exact ⟨c0, zb RB.out (Fr.refl No _).drew id, HM.out.keep (Fr.refl No _).drew id⟩
 repeat (first | ((first | with_reducible refine zx ?_ | ((with_reducible refine zu ?_ ?_); (focus rfl))); apply Exists.intro; refine ⟨?_, ?_⟩; (focus (first | exact zD (ty := 95) rfl (fun w h => h.2.1) uP rP (by rw [PL.out]; exact zL) | exact fun w' h => zN (t := 233) rfl rfl rfl (LOOK.out w' h.2.2) | (intro w' hS; obtain ⟨s1, s2, s3⟩ := hS; go_simp; (try with_reducible rfl); done))); try simp only [Act.put, pA, pB, pC]) | ((first | ((with_reducible refine zg (c := false) ?_ ?_ ?_); (focus rfl); (focus rfl)) | ((with_reducible refine zg (c := true) ?_ ?_ ?_); (focus rfl); (focus rfl)) | ((with_reducible refine zt ?_ ?_); (focus rfl))); try simp only [Act.put, pA, pB, pC]))
 (first | with_reducible refine zU (fun K' hK' => ?_) | ((with_reducible refine zK ?_ (fun K' hK' => ?_)); (focus rfl)))
 refine yB (yZ rfl (qT _)) ?_
 refine hK'.out _ _ ?_ (fun hS => ?_)
 ·exact ⟨(((Fr.refl No wz).drew).alloc _).cell c0 id, zb RB.out (((Fr.refl No wz).drew).alloc _) id, HM.out.keep (((Fr.refl No wz).drew).alloc _) id⟩
 try simp only [Act.put, pA, pB, pC]
 (first | with_reducible refine zU (fun K' hK' => ?_) | ((with_reducible refine zK ?_ (fun K' hK' => ?_)); (focus rfl)))
 refine xb (zm (w := wz.drew) (ty := 103) (cs := zG X) rfl rfl rfl (by rw [OL.out]; rfl) (by rw [OL.out]; exact zY) ye) ?_
 refine hK'.out _ _ ?_ (fun hS => ?_)
 ·exact ⟨(((Fr.refl No wz).drew).alloc _).cell c0 id, zb RB.out (((Fr.refl No wz).drew).alloc _) id, HM.out.keep (((Fr.refl No wz).drew).alloc _) id⟩
 try simp only [Act.put]
 repeat (first | ((first | with_reducible refine zx ?_ | ((with_reducible refine zu ?_ ?_); (focus rfl))); apply Exists.intro; refine ⟨?_, ?_⟩; (focus (first | (intro w' hS; obtain _ := hS; go_simp; (try with_reducible rfl); done))); try simp only [Act.put, pA, pB, pC]) | ((first | ((with_reducible refine zg (c := false) ?_ ?_ ?_); (focus rfl); (focus rfl)) | ((with_reducible refine zg (c := true) ?_ ?_ ?_); (focus rfl); (focus rfl)) | ((with_reducible refine zt ?_ ?_); (focus rfl))); try simp only [Act.put, pA, pB, pC]))
 refine zM (hK.out _ _ ?_)
 have RO := Hd (show (wz.alloc (.cells (zG X).toArray 103)).drew.rangeAt wz.heap.size 0 (zG X) from zC wz (zG X) 103)
 have HRC2 := Hd (((Fr.refl No wz).alloc (.cells (zG X).toArray 103)).drew.obj HRC.out id)
 have F2 := Hd ((F1.out.alloc (.cells (zG X).toArray 103)).drew)
 clear c0 RB HM LOOK HRC
 go_wp2_with (first | (refine zd rfl (zf (ty := 103) rfl rfl RO.out uO rO (by rw [OL.out]; exact zY)) ?_) | (refine zq rfl (z6 (ty := 103) rfl rfl rfl (by rw [OL.out]; exact yg HRC2.out (Nat.le_of_eq yw.symm)) (by rw [OL.out]; exact zY) ye) ?_))
 refine bodyPost_ret (yO (P := Tryz.prog) (fn := Tryz.f157) rfl _ rfl (yY HRC2.out (by rw [OL.out]; exact yw)) uO rO (by rw [OL.out]; exact zY) rfl) rfl ⟨rfl, ?_⟩
 exact F2.out.trans (zJ _ _ _ _) (fun i hi e => by omega)
end
end Go.Proofs.YtdkkjchclkjleaaGreatDoor

/- Going through a map, by keys and values of one's own. -/
namespace Go
open Go.MapKept Go.RowKit Go.Maps
section
variable {P : Program} {kt et t : TypeId} {w : World} {r b : Nat} {κ ι : Type} {kV : κ → Value} {vV : ι → Value} {M R : List (κ × ι)}
def vN (P : Program) (kt : TypeId) (kV : κ → Value) (vV : ι → Value) (w : World) (r b : Nat) (M R : List (κ × ι)) : Prop :=
 vF P kt w r b (M.map fun x => (kV x.1, vV x.2)) (R.map fun x => (kV x.1, vV x.2))
theorem vN.lt (h : vN P kt kV vV w r b M R) : r < w.heap.size := vF.lt h
theorem vN.keep {w' : World} {W : Nat → Prop} (h : vN P kt kV vV w r b M R) (f : Fr W w w') (h1 : ¬ W b) (h2 : ¬ W r) : vN P kt kV vV w' r b M R := vF.keep h f h1 h2
theorem yl.rangeI (ht : P.underlying t = some (.map kt et)) (h : yl P kt kV vV w b M) :
  ∃ clk, (Instr.range t (.map (some b))).run P w = .ok (.pointer (some ⟨w.heap.size, 0, none⟩)) (w.alloc (.mapIter (some b) clk #[] clk)) ∧ vN P kt kV vV (w.alloc (.mapIter (some b) clk #[] clk)) w.heap.size b M M := yP.range ht h
theorem vN.stop (h : vN P kt kV vV w r b M []) (ty : TypeId) : (Instr.next (.pointer (some ⟨r, 0, none⟩)) false ty).run P w = .ok (.tuple #[.bool false]) w := vF.nextNone h ty
theorem vN.step (h : vN P kt kV vV w r b M R) (hne : R ≠ []) (ty : TypeId) :
  ∃ A x B w', R = A ++ x :: B ∧ (Instr.next (.pointer (some ⟨r, 0, none⟩)) false ty).run P w = .ok (.tuple #[.bool true, kV x.1, vV x.2]) w' ∧ vN P kt kV vV w' r b M (A ++ B) ∧ Fr (· = r) w w' ∧
   (Instr.entry (.pointer (some ⟨r, 0, none⟩))).run P w' = .ok (.tuple #[kV x.1, vV x.2]) w' := by
 obtain ⟨R1, p, R2, w2, hR, hnx, hI2, f2, hent⟩ := vF.nextSome h (by simpa using hne) ty
 obtain ⟨A, B, hAB, hA, hB⟩ := List.map_eq_append_iff.1 hR
 cases B with
 | nil => simp at hB
 | cons x B =>
  simp only [List.map_cons, List.cons.injEq] at hB
  obtain ⟨rfl, hB⟩ := hB
  subst hA
  subst hB
  exact ⟨A, x, B, w2, hAB, hnx, by unfold vN; rw [List.map_append]; exact hI2, f2, hent w2 rfl rfl⟩
end
end Go

/- append of a slice that may be nil. -/
namespace Go
open Go.RowKit Go.Maps Go.MapKept
theorem append_nil {P : Program} (w : World) (t ty e : TypeId) (ht : P.underlying t = some (.slice e)) (i : TypeInfo) (hi : P.info? e = some i) (base : Option Addr) (n cap : Nat) (hle : n ≤ cap) :
  (Builtin.append_ #[t, t] ty #[.slice base n cap, .slice none 0 0]).run P w = .ok (.slice base n cap) w := by
 cases base <;> simp [Builtin.append_, run_underlying ht, sizeOf, typeInfo, hi, hle, storeCells, loadCells, Builtin.lenOf, Builtin.firstCells]
theorem XU {P : Program} (w : World) (base : Nat) (t ty e : TypeId) (size bytes : Nat) (z : Value) (ht : P.underlying t = some (.slice e)) (hinfo : (P.info? e).map (fun i => (i.zero, i.size, i.bytes)) = some (some z, size, bytes)) (hzs : z.cells.size = size) (hsz : 0 < size)
  (v : Value) (n : Nat) (xs : List Value) (hown : w.ownsRow base e size v n xs) (x : Value) (m : Nat) (news : List Value) (hx : qH w x m news) (hl : news.length = m * size) (h1 : ∀ u ∈ news, u.oneCell' = true)
  (hbytes : (n + m) * bytes ≤ 140737488355328) (h63 : n + m ≤ maxLen) (hbase : base ≤ w.heap.size) :
  ∃ v' w', (Builtin.append_ #[t, t] ty #[v, x]).run P w = .ok v' w' ∧ w'.ownsRow base e size v' (n + m) (xs ++ news) ∧ Fr (fun j => v.ownBlock = some j) w w' ∧ (∀ k, v'.ownBlock = some k → v.ownBlock = some k ∨ w.heap.size ≤ k) := by
 by_cases hnil : x = .slice none 0 0
 ·subst hnil
  have hm : m = 0 ∧ news = [] := by
   rcases hx with ⟨_, h1, h2⟩ | ⟨b, o, c, h, _⟩
   ·exact ⟨h1, h2⟩
   ·cases h
  obtain ⟨rfl, rfl⟩ := hm
  obtain ⟨i, hi, _⟩ := info_parts hinfo
  have hf : ∃ a c, v = .slice a n c ∧ n ≤ c := by
   rcases hown.2 with ⟨rfl, rfl⟩ | ⟨g, cap, cur, rfl, _, _, h, _⟩
   ·exact ⟨none, 0, rfl, Nat.le_refl _⟩
   ·exact ⟨_, _, rfl, h⟩
  obtain ⟨a, c, rfl, hle⟩ := hf
  refine ⟨_, w, append_nil w t ty e ht i hi a n c hle, by simpa using hown, Fr.refl _ _, fun k h => .inl h⟩
 ·obtain ⟨v', w', h1', h2, h3, _, h5⟩ := jw (P := P) w base t ty e size bytes z ht hinfo hzs hsz v n xs hown x m news hx.arg hl h1 hbytes h63 hbase hnil
  exact ⟨v', w', h1', h2, (Fr.refl _ w).grown h3 (fun k e => .inr e), h5⟩
end Go

/- Hashes in memory; slices of hashes; bytes appended. -/
namespace Go.Proofs.YtdkkjchclkjleaaGreatDoor
open Go Go.RowKit Go.Maps Go.MapKept
abbrev zi := List Int
def zj (h : zi) : List Value := h.map zP
def yW (h : zi) : Value := .agg (zj h).toArray
theorem zE {h : zi} (k : zQ h) : (zj h).length = 32 := by simp [zj, k.1]
theorem zV {h : zi} : ∀ v ∈ zj h, v.oneCell' = true := by
 intro v hv
 obtain ⟨y, _, rfl⟩ := List.mem_map.1 hv
 rfl
theorem XX {a b : zi} (h : zj a = zj b) : a = b := XM h
theorem yS {a b : zi} (h : yW a = yW b) : a = b := by
 unfold yW at h
 injection h with h
 exact XX (by simpa using congrArg Array.toList h)
theorem ziC : Tryz.prog.underlying 41 = some (.array 32 5) := by kernel_rfl
theorem yd {h : zi} (k : zQ h) : ∃ l, keyOf Tryz.prog 41 (yW h) = some l :=
 zcD ziC (by kernel_rfl) (by kernel_rfl) (by kernel_rfl) (by kernel_rfl) (of_decide_eq_true (by kernel_rfl)) h k.1 (fun x hx => ziR (k.2 x hx))
theorem xy : EqN Tryz.prog 41 := ⟨Keyed.of_law (deep_law_laid Z0 (m := 2) (by decide) (of_decide_eq_true (by kernel_rfl)) (by kernel_rfl) (by kernel_rfl)), ⟨2, by decide, by kernel_rfl⟩, by kernel_rfl, by kernel_rfl⟩
theorem yj : ∃ d, Tryz.prog.underlying 41 = some d ∧ d.isRow = true := jf (by kernel_rfl)
theorem zr : (Tryz.prog.info? 41).map (·.size) = some 32 := by kernel_rfl
def yN : zi := List.replicate 32 0
theorem xQ : zQ yN := ⟨rfl, fun x hx => by have : x = 0 := List.eq_of_mem_replicate hx; omega⟩
theorem xB : Tryz.prog.underlying 38 = some (.slice 41) := by kernel_rfl
theorem xI : (Tryz.prog.info? 41).map (fun i => (i.zero, i.size, i.bytes)) = some (some (.agg (zj yN).toArray), 32, 32) := by kernel_rfl
theorem qs : (Tryz.prog.info? 41).map (fun i => (i.zero, i.size)) = some (some (.agg (zj yN).toArray), 32) := by kernel_rfl
theorem y6 (w : World) : (zeroValue 41).run Tryz.prog w = .ok (.agg (zj yN).toArray) w := by kernel_rfl
def yV (w : World) (v : Value) (l : List zi) : Prop := (∀ c ∈ l, zQ c) ∧ xq w v l.length (l.flatMap zj)
theorem yV.keep {w w' : World} {v : Value} {l : List zi} (h : yV w v l) (f : Fr No w w') : yV w' v l := ⟨h.1, h.2.keep f⟩
theorem yV.at_ {w : World} {v : Value} {l : List zi} (h : yV w v l) {i : Nat} {c : zi} (hx : l[i]? = some c) : ∃ b off cap, v = .slice (some ⟨b, off, none⟩) l.length cap ∧ w.rangeAt b (off + i * 32) (zj c) ∧ b < w.heap.size :=
 h.2.elem (by decide) (fun x hx => zE (h.1 x hx)) hx
theorem Jj {l : List zi} (ok : ∀ c ∈ l, zQ c) : (l.flatMap zj).length = l.length * 32 := xL zj 32 l (fun x hx => zE (ok x hx))
theorem Jf {l : List zi} : ∀ u ∈ l.flatMap zj, u.oneCell' = true := fun u hu => by
 obtain ⟨x, _, hx⟩ := List.mem_flatMap.1 hu
 exact zV u hx
theorem yV.own {w : World} {B : Nat} {v : Value} {l : List zi} (h : w.ownsRow B 41 32 v l.length (l.flatMap zj)) (ok : ∀ c ∈ l, zQ c) : yV w v l := ⟨ok, h.slice.arg⟩
theorem xq.cap {w : World} {a : Option Addr} {n c : Nat} {cs : List Value} (h : xq w (.slice a n c) n cs) : n ≤ c := by
 rcases h with (⟨e, rfl, -⟩ | ⟨b, off, cap, e, h1, -⟩) | ⟨a', cap, e, rfl, -⟩
 ·exact Nat.zero_le _
 ·injection e with _ _ e3; subst e3; exact h1
 ·exact Nat.zero_le _
theorem Xq : Tryz.prog.underlying 106 = some (.slice 5) := by kernel_rfl
theorem XG : (Tryz.prog.info? 5).map (fun i => (i.zero, i.size, i.bytes)) = some (some (.int .u8 0), 1, 1) := by kernel_rfl
def vm (w : World) (B : Nat) (v : Value) (l : List Int) : Prop := w.ownsRow B 5 1 v l.length (l.map zP)
theorem zbl {l : List Int} : ∀ u ∈ l.map zP, u.oneCell' = true := fun u hu => by
 obtain ⟨x, _, rfl⟩ := List.mem_map.1 hu
 rfl
theorem vm.nil (w : World) (B : Nat) : vm w B (.slice none 0 0) [] := World.ownsRow_nil w B _ 1
theorem vm.form {w : World} {B : Nat} {v : Value} {l : List Int} (h : vm w B v l) : ∃ a c, v = .slice a l.length c := h.slice.arg.form
theorem vm.keep0 {w w' : World} {B : Nat} {v : Value} {l : List Int} (h : vm w B v l) (f : Fr No w w') : vm w' B v l := zl h f (fun _ _ => id)
def Zq (w : World) (v v' : Value) : Prop := ∀ k, v'.ownBlock = some k → v.ownBlock = some k ∨ w.heap.size ≤ k
theorem Jb (w : World) {B : Nat} {v x : Value} {l m : List Int} (ho : vm w B v l) (hx : xq w x m.length (m.map zP)) (hn : l.length + m.length ≤ 1000000) (hB : B ≤ w.heap.size) (ty : TypeId) :
  ∃ v' w', (Builtin.append_ #[106, 106] ty #[v, x]).run Tryz.prog w = .ok v' w' ∧ vm w' B v' (l ++ m) ∧ Fr (fun j => v.ownBlock = some j) w w' ∧ Zq w v v' := by
 have e1 : (l ++ m).length = l.length + m.length := List.length_append
 by_cases hnil : x = .slice none 0 0
 ·obtain ⟨a, c, h⟩ := hx.form
  rw [hnil] at h
  injection h with h1 h2 h3
  have hm : m = [] := List.eq_nil_of_length_eq_zero h2.symm
  subst hm
  obtain ⟨v', w', a1, a2, a3, a4⟩ := XU (P := Tryz.prog) w B 106 ty 5 1 1 _ Xq XG rfl (by decide) v l.length (l.map zP) ho x 0 [] (.inl ⟨hnil, rfl, rfl⟩) rfl (by simp) (by simp at hn ⊢; omega) (by unfold maxLen; simp at hn; omega) hB
  exact ⟨v', w', a1, by unfold vm; simpa using a2, a3, a4⟩
 ·obtain ⟨v', w', a1, a2, a3, -, a4⟩ := jw (P := Tryz.prog) w B 106 ty 5 1 1 _ Xq XG rfl (by decide) v l.length (l.map zP) ho x m.length (m.map zP) hx (by simp) zbl (by omega) (by unfold maxLen; omega) hB hnil
  refine ⟨v', w', a1, ?_, (Fr.refl _ w).grown a3 (fun k e => .inr e), a4⟩
  unfold vm
  rw [List.length_append, List.map_append]
  exact a2
theorem JF (w : World) {B : Nat} {v : Value} {l : List Int} {x : Int} (ho : vm w B v l) (hn : l.length + 1 ≤ 1000000) (hB : B ≤ w.heap.size) (ty : TypeId) :
  ∃ v' w', (Builtin.append_ #[106, 106] ty #[v, .slice (some ⟨w.heap.size, 0, none⟩) 1 1]).run Tryz.prog (w.alloc (.cells #[zP x] 5)) = .ok v' w' ∧ vm w' B v' (l ++ [x]) ∧ Fr (fun j => v.ownBlock = some j) w w' ∧ Zq w v v' := by
 have hb := yn w (.cells #[zP x] 5)
 obtain ⟨v', w', a1, a2, a3, a4⟩ := Jb (w.alloc (.cells #[zP x] 5)) (ho.keep0 ((Fr.refl No w).alloc _)) (x := .slice (some ⟨w.heap.size, 0, none⟩) 1 1) (m := [x]) (.inl (.inr ⟨w.heap.size, 0, 1, rfl, Nat.le_refl _, by unfold maxLen; omega, fun j u hj => by
   have := ya hb j u hj
   exact this, by simp⟩)) hn (by simp; omega) ty
 exact ⟨v', w', a1, a2, ((Fr.refl _ w).alloc _).trans a3 (fun i hi e => e), fun k hk => (a4 k hk).imp id (fun h => by simp at h; omega)⟩
end Go.Proofs.YtdkkjchclkjleaaGreatDoor

/- pappusref07.SameCoins; pappusref09: SameOuts, Below, Ats. -/
namespace Go.Proofs.YtdkkjchclkjleaaGreatDoor
open Go Go.RowKit Go.Maps Go.MapKept
def xz (w : World) (v : Value) (l : List yF) : Prop := (∀ c ∈ l, c.ok) ∧ xq w v l.length (l.flatMap zG)
theorem xz.keep {w w' : World} {v : Value} {l : List yF} (h : xz w v l) (f : Fr No w w') : xz w' v l := ⟨h.1, h.2.keep f⟩
theorem xz.at_ {w : World} {v : Value} {l : List yF} (h : xz w v l) {i : Nat} {c : yF} (hx : l[i]? = some c) : ∃ b off cap, v = .slice (some ⟨b, off, none⟩) l.length cap ∧ w.rangeAt b (off + i * 33) (zG c) ∧ b < w.heap.size :=
 h.2.elem (by decide) (fun x hx => yD (h.1 x hx)) hx
end Go.Proofs.YtdkkjchclkjleaaGreatDoor

/- internal/bytealg.Compare of two byte rows. -/
namespace Go
open Go.RowKit Go.Sort
def JQ (w w' : World) : Prop := ∃ q os, w' = grow (w.drewN q) os
theorem JQ.refl (w : World) : JQ w w := ⟨0, #[], by simp [grow]; rfl⟩
theorem JQ.drew {w w' : World} (h : JQ w w') : JQ w w'.drew := by
 obtain ⟨q, os, rfl⟩ := h
 exact ⟨q + 1, os, rfl⟩
theorem JQ.alloc {w w' : World} (h : JQ w w') (o : Obj) : JQ w (w'.alloc o) := by
 obtain ⟨q, os, rfl⟩ := h
 exact ⟨q, os ++ #[o], by rw [alloc_eq_grow, grow_grow]⟩
def u8 (x : Int) : UInt8 := x.toNat.toUInt8
end Go

/- coin: All sorts its coins. -/
namespace Go.Proofs.YtdkkjchclkjleaaGreatDoor
open Go Go.RowKit Go.Maps Go.MapKept Go.Sort
theorem zfM : xO.ok := ⟨⟨rfl, fun x hx => by have : x = 0 := List.eq_of_mem_replicate hx; omega⟩, by decide, by decide⟩
abbrev zjP : Type := { c : zy // c.ok }
instance : Inhabited zjP := ⟨⟨zhj, zfM, JE⟩⟩
end Go.Proofs.YtdkkjchclkjleaaGreatDoor
