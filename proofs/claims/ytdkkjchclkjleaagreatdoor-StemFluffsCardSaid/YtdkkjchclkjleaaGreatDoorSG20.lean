/- kin: a graph's memory. -/
import Derived.Test.YtdkkjchclkjleaaGreatDoorSG18
import Derived.Test.YtdkkjchclkjleaaGreatDoorSG3
set_option linter.unusedVariables false
set_option linter.unusedSimpArgs false
set_option linter.unnecessarySimpa false
set_option linter.all false
namespace Go.Proofs.YtdkkjchclkjleaaGreatDoor
open Go Go.RowKit Go.Maps Go.MapKept
theorem zcy {α β : Type} : ∀ {M : List (α × β)} {k : α} {v v' : β}, (M.map (·.1)).Nodup → (k, v) ∈ M → (k, v') ∈ M → v = v'
 | [], _, _, _, _, h, _ => by cases h
 | x :: r, k, v, v', hn, h1, h2 => by
  simp only [List.map_cons, List.nodup_cons] at hn
  rcases List.mem_cons.1 h1 with e1 | h1 <;> rcases List.mem_cons.1 h2 with e2 | h2
  ·rw [← e1] at e2; injection e2 with _ e; exact e.symm
  ·exact absurd (List.mem_map.2 ⟨_, h2, rfl⟩) (by rw [← e1] at hn; exact hn.1)
  ·exact absurd (List.mem_map.2 ⟨_, h1, rfl⟩) (by rw [← e2] at hn; exact hn.1)
  ·exact zcy hn.2 h1 h2
theorem zeu {X Y Y' Z : List Nat} {big : Nat} (h : (X ++ (Y ++ Z)).Nodup) (hb : ∀ j ∈ X ++ (Y ++ Z), j < big) (hY : Y'.Nodup) (hs : ∀ j ∈ Y', j ∈ Y ∨ big ≤ j) : (X ++ (Y' ++ Z)).Nodup := by
 obtain ⟨h1, h2, h3⟩ := List.nodup_append.1 h
 obtain ⟨h4, h5, h6⟩ := List.nodup_append.1 h2
 refine List.nodup_append.2 ⟨h1, List.nodup_append.2 ⟨hY, h5, fun a ha b hb' e => ?_⟩, fun a ha b hb' e => ?_⟩
 ·rcases hs a ha with h | h
  ·exact h6 a h b hb' e
  ·have := hb b (by simp [hb']); omega
 ·rcases List.mem_append.1 hb' with hb' | hb'
  ·rcases hs b hb' with h | h
   ·exact h3 a ha b (by simp [h]) e
   ·have := hb a (by simp [ha]); omega
  ·exact h3 a ha b (by simp [hb']) e
structure ym where
 id : zi
 seq : Nat
 ps : List zi
 ks : List zi
 b : Nat
 pv : Value
 cv : Value
def ym.blks (r : ym) : List Nat := r.b :: (r.pv.ownBlock.toList ++ r.cv.ownBlock.toList)
def YG (b : Nat) : Value := .pointer (some ⟨b, 0, none⟩)
abbrev xW (w : World) (m : Nat) (M : List (zi × Nat)) := yl Tryz.prog 41 yW YG w m M
structure Ye (w : World) (B : Nat) (r : ym) : Prop where
 blk : w.heap[r.b]? = some (.cells #[.int .i64 (r.seq : Int), r.pv, r.cv] 201 (0, 0))
 prow : w.ownsRow B 41 32 r.pv r.ps.length (r.ps.flatMap zj)
 crow : w.ownsRow B 41 32 r.cv r.ks.length (r.ks.flatMap zj)
def yu (p m : Nat) (L : List ym) : List Nat := p :: m :: L.flatMap ym.blks
def ym.ok (r : ym) : Prop := zQ r.id ∧ (∀ x ∈ r.ps, zQ x) ∧ ∀ x ∈ r.ks, zQ x
structure GR (w0 w : World) (p m sq : Nat) (L : List ym) : Prop where
 obj : w.heap[p]? = some (.cells #[.map (some m), .int .i64 (sq : Int)] 199 (0, 0))
 map : ∃ M, xW w m M ∧ ∀ k b, (k, b) ∈ M ↔ ∃ r ∈ L, r.id = k ∧ r.b = b
 node : ∀ r ∈ L, Ye w w0.heap.size r
 apart : (yu p m L).Nodup
 lo : ∀ j ∈ yu p m L, w0.heap.size ≤ j
 ok : ∀ r ∈ L, r.ok
 idn : (L.map (·.id)).Nodup
 seqs : L.Pairwise (fun a b => a.seq < b.seq)
 top : ∀ r ∈ L, r.seq ≤ sq
 fr : Fr No w0 w
theorem Ye.hi {w : World} {B : Nat} {r : ym} (h : Ye w B r) : ∀ j ∈ r.blks, j < w.heap.size := by
 intro j hj
 unfold ym.blks at hj
 simp only [List.mem_cons, List.mem_append, Option.mem_toList] at hj
 rcases hj with rfl | hj | hj
 ·exact xf h.blk
 ·exact (h.prow.lt j hj).2
 ·exact (h.crow.lt j hj).2
theorem Ye.keep {w w' : World} {B : Nat} {r : ym} (h : Ye w B r) {W : Nat → Prop} (f : Fr W w w') (hW : ∀ j ∈ r.blks, ¬ W j) : Ye w' B r := by
 unfold ym.blks at hW
 simp only [List.mem_cons, List.mem_append, Option.mem_toList] at hW
 exact ⟨f.obj h.blk (hW _ (.inl rfl)), zl h.prow f (fun b e => hW b (.inr (.inl e))), zl h.crow f (fun b e => hW b (.inr (.inr e)))⟩
section
variable {w0 w w' : World} {p m sq : Nat} {L : List ym}
theorem GR.hi (h : GR w0 w p m sq L) : ∀ j ∈ yu p m L, j < w.heap.size := by
 intro j hj
 unfold yu at hj
 simp only [List.mem_cons, List.mem_flatMap] at hj
 rcases hj with rfl | rfl | ⟨r, hr, hj⟩
 ·exact xf h.obj
 ·obtain ⟨M, hM, -⟩ := h.map; exact hM.lt
 ·exact (h.node r hr).hi j hj
theorem GR.frV (h : GR w0 w p m sq L) {U : Nat → Prop} (f : Fr U w w') (hU : ∀ j ∈ yu p m L, ¬ U j) (h0 : ∀ j, U j → w0.heap.size ≤ j) : GR w0 w' p m sq L := by
 have hp : ¬ U p := hU p (by simp [yu])
 have hm : ¬ U m := hU m (by simp [yu])
 have hr : ∀ r ∈ L, ∀ j ∈ r.blks, ¬ U j := fun r hr j hj => hU j (by simp only [yu, List.mem_cons, List.mem_flatMap]; exact .inr (.inr ⟨r, hr, hj⟩))
 exact { h with
  obj := f.obj h.obj hp
  map := by obtain ⟨M, hM, hs⟩ := h.map; exact ⟨M, hM.keep f hm, hs⟩
  node := fun r h1 => (h.node r h1).keep f (hr r h1)
  fr := h.fr.trans f (fun i hi e => by have := h0 i e; omega) }
theorem GR.fr0 (h : GR w0 w p m sq L) (f : Fr No w w') : GR w0 w' p m sq L := h.frV f (fun _ _ => id) (fun _ h => h.elim)
theorem GR.base {wb : World} (h : GR w0 w p m sq L) (f : Fr No wb w0) : GR wb w p m sq L :=
 {h with
  node := fun r hr => by
   obtain ⟨h1, h2, h3⟩ := h.node r hr
   refine ⟨h1, ⟨h2.1, h2.2.imp id ?_⟩, ⟨h3.1, h3.2.imp id ?_⟩⟩
   ·rintro ⟨g, c, cur, a1, a2, a3⟩; exact ⟨g, c, cur, a1, Nat.le_trans f.size a2, a3⟩
   ·rintro ⟨g, c, cur, a1, a2, a3⟩; exact ⟨g, c, cur, a1, Nat.le_trans f.size a2, a3⟩
  lo := fun j hj => Nat.le_trans f.size (h.lo j hj), fr := f.trans0 h.fr }
theorem GR.look (h : GR w0 w p m sq L) {M : List (zi × Nat)} (hs : ∀ k b, (k, b) ∈ M ↔ ∃ r ∈ L, r.id = k ∧ r.b = b) {r : ym} (hr : r ∈ L) (b : Nat) : (r.id, b) ∈ M ↔ b = r.b := by
 rw [hs]
 constructor
 ·rintro ⟨r', hr', e1, rfl⟩
  have hn := h.idn
  have : r' = r := by
   have h1 : ((L.map fun x => (x.id, x)).map (·.1)).Nodup := by rw [List.map_map]; exact hn
   exact zcy h1 (k := r.id) (List.mem_map.2 ⟨r', hr', by rw [e1]⟩) (List.mem_map.2 ⟨r, hr, rfl⟩)
  rw [this]
 ·rintro rfl; exact ⟨r, hr, rfl, rfl⟩
theorem GR.run_look (h : GR w0 w p m sq L) {x : zi} (hx : zQ x) (c : Bool) (hc : c = false) :
  (∀ r ∈ L, r.id = x → ∀ w', (∀ M, xW w m M → xW w' m M) → (Instr.lookup 197 (.map (some m)) (yW x) c).run Tryz.prog w' = .ok (YG r.b) w') ∧
  (x ∉ L.map (·.id) → ∀ w', (∀ M, xW w m M → xW w' m M) → (Instr.lookup 197 (.map (some m)) (yW x) c).run Tryz.prog w' = .ok (.pointer none) w') := by
 subst hc
 obtain ⟨M, hM, hs⟩ := h.map
 refine ⟨fun r hr e w' hk => ?_, fun hn w' hk => ?_⟩
 ·subst e
  have := (hk M hM).look xy.keyed jN (fun _ _ => yS) zda (yd hx) false (r := some r.b) (fun v => by
   rw [h.look hs hr]; exact ⟨fun e => (Option.some.inj e).symm, fun e => by rw [e]⟩)
  simpa using this
 ·have := (hk M hM).look xy.keyed jN (fun _ _ => yS) zda (yd hx) false (r := none) (fun v => by
   rw [hs]
   exact ⟨fun e => (by cases e), fun ⟨r, hr, e, _⟩ => absurd (List.mem_map.2 ⟨r, hr, e⟩) hn⟩)
  simpa using this
theorem xg (A B : List ym) (r : ym) : yu p m (A ++ r :: B) = (p :: m :: A.flatMap ym.blks) ++ (r.blks ++ B.flatMap ym.blks) := by simp [yu]
theorem GR.turn {A B : List ym} {r r' : ym} (h : GR w0 w p m sq (A ++ r :: B)) {W : Nat → Prop} (f : Fr W w w') (hW : ∀ j, W j → j ∈ r.blks) (hn : Ye w' w0.heap.size r') (hi : r'.id = r.id) (hb : r'.b = r.b) (hq : r'.seq = r.seq) (hs : ∀ j ∈ r'.blks, j ∈ r.blks ∨ w.heap.size ≤ j) (hd : r'.blks.Nodup) (ok : r'.ok) :
  GR w0 w' p m sq (A ++ r' :: B) := by
 have hap := h.apart
 have hhi := h.hi
 rw [xg] at hap hhi
 obtain ⟨n1, n2, n3⟩ := List.nodup_append.1 hap
 obtain ⟨n4, n5, n6⟩ := List.nodup_append.1 n2
 have hX : ∀ j ∈ p :: m :: A.flatMap ym.blks, ¬ W j := fun j hj e => n3 j hj j (by simp [hW j e]) rfl
 have hZ : ∀ j ∈ B.flatMap ym.blks, ¬ W j := fun j hj e => n6 j (hW j e) j hj rfl
 have hidn : ((A ++ r' :: B).map (·.id)) = ((A ++ r :: B).map (·.id)) := by simp [hi]
 have hall : ∀ {P : ym → Prop}, (∀ x ∈ A ++ r :: B, P x) → P r' → ∀ x ∈ A ++ r' :: B, P x := by
  intro P h1 h2 x hx
  rcases List.mem_append.1 hx with hx | hx
  ·exact h1 x (by simp [hx])
  ·rcases List.mem_cons.1 hx with rfl | hx
   ·exact h2
   ·exact h1 x (by simp [hx])
 refine ⟨f.obj h.obj (hX p (by simp)), ?_, fun x hx => ?_, ?_, fun j hj => ?_, hall h.ok ok, by rw [hidn]; exact h.idn, ?_, hall h.top (by rw [hq]; exact h.top r (by simp)), ?_⟩
 ·obtain ⟨M, hM, hs'⟩ := h.map
  refine ⟨M, hM.keep f (hX m (by simp)), fun k b => ?_⟩
  rw [hs']
  constructor
  ·rintro ⟨x, hx, h1, h2⟩
   rcases List.mem_append.1 hx with hx | hx
   ·exact ⟨x, by simp [hx], h1, h2⟩
   ·rcases List.mem_cons.1 hx with rfl | hx
    ·exact ⟨r', by simp, by rw [hi, h1], by rw [hb, h2]⟩
    ·exact ⟨x, by simp [hx], h1, h2⟩
  ·rintro ⟨x, hx, h1, h2⟩
   rcases List.mem_append.1 hx with hx | hx
   ·exact ⟨x, by simp [hx], h1, h2⟩
   ·rcases List.mem_cons.1 hx with rfl | hx
    ·exact ⟨r, by simp, by rw [← hi, h1], by rw [← hb, h2]⟩
    ·exact ⟨x, by simp [hx], h1, h2⟩
 ·rcases List.mem_append.1 hx with hx | hx
  ·exact (h.node x (by simp [hx])).keep f (fun j hj => hX j (by simp only [List.mem_cons, List.mem_flatMap]; exact .inr (.inr ⟨x, hx, hj⟩)))
  ·rcases List.mem_cons.1 hx with rfl | hx
   ·exact hn
   ·exact (h.node x (by simp [hx])).keep f (fun j hj => hZ j (List.mem_flatMap.2 ⟨x, hx, hj⟩))
 ·rw [xg]
  exact zeu hap hhi hd hs
 ·rw [xg] at hj
  have hlo := h.lo
  rw [xg] at hlo
  simp only [List.mem_append] at hj hlo
  rcases hj with hj | hj | hj
  ·exact hlo j (.inl hj)
  ·rcases hs j hj with h1 | h1
   ·exact hlo j (.inr (.inl h1))
   ·have := h.fr.size; omega
  ·exact hlo j (.inr (.inr hj))
 ·have := h.seqs
  rw [List.pairwise_append, List.pairwise_cons] at this ⊢
  rw [hq]
  refine ⟨this.1, this.2.1, fun a ha b hb => ?_⟩
  rcases List.mem_cons.1 hb with rfl | hb
  ·rw [hq]; exact this.2.2 a ha r (by simp)
  ·exact this.2.2 a ha b (by simp [hb])
 ·refine h.fr.trans f (fun i hi' e => ?_)
  have := h.lo i (by rw [xg]; simp [hW i e])
  omega
theorem GR.del {A B : List ym} {r : ym} {M M' : List (zi × Nat)} (h : GR w0 w p m sq (A ++ r :: B)) (hs : ∀ k b, (k, b) ∈ M ↔ ∃ x ∈ A ++ r :: B, x.id = k ∧ x.b = b) (hM : xW w' m M') (hD : Del M r.id M') (f : Fr (· = m) w w') : GR w0 w' p m sq (A ++ B) := by
 have hap := h.apart
 rw [xg] at hap
 have hsub : (yu p m (A ++ B)).Sublist ((p :: m :: A.flatMap ym.blks) ++ (r.blks ++ B.flatMap ym.blks)) := by
  have e : yu p m (A ++ B) = (p :: m :: A.flatMap ym.blks) ++ B.flatMap ym.blks := by simp [yu]
  rw [e]
  exact List.Sublist.append (List.Sublist.refl _) (List.sublist_append_right _ _)
 have hLs : (A ++ B).Sublist (A ++ r :: B) := List.Sublist.append (List.Sublist.refl _) (List.sublist_cons_self _ _)
 obtain ⟨n1, n2⟩ := List.nodup_cons.1 (show (p :: m :: ((A.flatMap ym.blks) ++ (r.blks ++ B.flatMap ym.blks))).Nodup from hap)
 obtain ⟨n3, n4⟩ := List.nodup_cons.1 n2
 refine ⟨f.obj h.obj (fun e => n1 (by simp [e])), ⟨M', hM, fun k b => ?_⟩, fun x hx => (h.node x (hLs.subset hx)).keep f (fun j hj e => n3 ?_), hap.sublist hsub, fun j hj => h.lo j (by rw [xg]; exact hsub.subset hj), fun x hx => h.ok x (hLs.subset hx), h.idn.sublist (hLs.map _), h.seqs.sublist hLs, fun x hx => h.top x (hLs.subset hx), h.fr.trans f (fun i hi e => ?_)⟩
 ·rw [hD, hs]
  have hid := h.idn
  rw [List.map_append, List.map_cons] at hid
  obtain ⟨i1, i2, i3⟩ := List.nodup_append.1 hid
  obtain ⟨i4, i5⟩ := List.nodup_cons.1 i2
  constructor
  ·rintro ⟨h1, x, hx, rfl, h3⟩
   rcases List.mem_append.1 hx with hx | hx
   ·exact ⟨x, by simp [hx], rfl, h3⟩
   ·rcases List.mem_cons.1 hx with rfl | hx
    ·exact absurd rfl h1
    ·exact ⟨x, by simp [hx], rfl, h3⟩
  ·rintro ⟨x, hx, rfl, h3⟩
   refine ⟨fun e => ?_, x, hLs.subset hx, rfl, h3⟩
   rcases List.mem_append.1 hx with hx | hx
   ·exact i3 _ (List.mem_map.2 ⟨x, hx, rfl⟩) r.id (by simp) e
   ·exact i4 (by rw [← e]; exact List.mem_map.2 ⟨x, hx, rfl⟩)
 ·subst e
  rcases List.mem_append.1 hx with hx | hx
  ·exact List.mem_append.2 (.inl (List.mem_flatMap.2 ⟨x, hx, hj⟩))
  ·exact List.mem_append.2 (.inr (List.mem_append.2 (.inr (List.mem_flatMap.2 ⟨x, hx, hj⟩))))
 ·subst e
  have := h.lo i (by simp [yu])
  omega
theorem GR.ins {r : ym} {M M' : List (zi × Nat)} (h : GR w0 w p m sq L) (hs : ∀ k b, (k, b) ∈ M ↔ ∃ x ∈ L, x.id = k ∧ x.b = b) (hM : xW w' m M') (hU : Upd M r.id r.b M') (f : Fr (· = m) w w') (hn : Ye w w0.heap.size r) (hid : r.id ∉ L.map (·.id)) (hd : r.blks.Nodup) (hap : ∀ j ∈ r.blks, j ∉ yu p m L ∧ w0.heap.size ≤ j) (hq : ∀ x ∈ L, x.seq < r.seq) (hsq : r.seq ≤ sq) (ok : r.ok) : GR w0 w' p m sq (L ++ [r]) := by
 have e : yu p m (L ++ [r]) = yu p m L ++ r.blks := by simp [yu]
 have hpm : p ≠ m := fun e => (List.nodup_cons.1 h.apart).1 (by simp [e])
 have hm2 : ∀ x ∈ L, ∀ j ∈ x.blks, ¬ j = m := fun x hx j hj e => (List.nodup_cons.1 (List.nodup_cons.1 h.apart).2).1 (by rw [← e]; exact List.mem_flatMap.2 ⟨x, hx, hj⟩)
 have hall : ∀ {P : ym → Prop}, (∀ x ∈ L, P x) → P r → ∀ x ∈ L ++ [r], P x := by
  intro P h1 h2 x hx
  rcases List.mem_append.1 hx with hx | hx
  ·exact h1 x hx
  ·rw [List.mem_singleton.1 hx]; exact h2
 refine ⟨f.obj h.obj (fun e => hpm e), ⟨M', hM, fun k b => ?_⟩, hall (fun x hx => (h.node x hx).keep f (hm2 x hx)) (hn.keep f fun j hj e => (hap j hj).1 (by rw [e]; simp [yu])), ?_, fun j hj => ?_, hall h.ok ok, ?_, ?_, hall h.top hsq, h.fr.trans f (fun i hi e => ?_)⟩
 ·rw [hU, hs]
  constructor
  ·rintro (⟨rfl, rfl⟩ | ⟨h1, x, hx, h2, h3⟩)
   ·exact ⟨r, by simp, rfl, rfl⟩
   ·exact ⟨x, by simp [hx], h2, h3⟩
  ·rintro ⟨x, hx, rfl, rfl⟩
   rcases List.mem_append.1 hx with hx | hx
   ·exact .inr ⟨fun e => hid (by rw [← e]; exact List.mem_map.2 ⟨x, hx, rfl⟩), x, hx, rfl, rfl⟩
   ·rw [List.mem_singleton.1 hx]; exact .inl ⟨rfl, rfl⟩
 ·rw [e]
  exact List.nodup_append.2 ⟨h.apart, hd, fun a ha b hb e => (hap b hb).1 (by rw [← e]; exact ha)⟩
 ·rw [e] at hj
  rcases List.mem_append.1 hj with hj | hj
  ·exact h.lo j hj
  ·exact (hap j hj).2
 ·rw [List.map_append]
  exact List.nodup_append.2 ⟨h.idn, by simp, fun a ha b hb e => hid (by
   simp only [List.map_cons, List.map_nil, List.mem_singleton] at hb
   rw [← hb, ← e]; exact ha)⟩
 ·exact List.pairwise_append.2 ⟨h.seqs, by simp, fun a ha b hb => by rw [List.mem_singleton.1 hb]; exact hq a ha⟩
 ·subst e
  have := h.lo i (by simp [yu])
  omega
theorem GR.count (h : GR w0 w p m sq L) {s : Nat} (hs : sq ≤ s) : GR w0 (w.setCell ⟨p, 1, none⟩ (.int .i64 (s : Int))) p m s L := by
 have f : Fr (· = p) w (w.setCell ⟨p, 1, none⟩ (.int .i64 (s : Int))) := (Fr.refl (· = p) w).setCell ⟨p, 1, none⟩ (.inr rfl) _
 obtain ⟨n1, n2⟩ := List.nodup_cons.1 h.apart
 refine ⟨?_, ?_, fun r hr => (h.node r hr).keep f (fun j hj e => n1 (by rw [← e]; simp only [List.mem_cons, List.mem_flatMap]; exact .inr ⟨r, hr, hj⟩)), h.apart, h.lo, h.ok, h.idn, h.seqs, fun r hr => Nat.le_trans (h.top r hr) hs, h.fr.trans f (fun i hi e => ?_)⟩
 ·have := heap_setCell_same w p 1 _ _ (.int .i64 (s : Int)) h.obj
  simpa using this
 ·obtain ⟨M, hM, hs'⟩ := h.map
  exact ⟨M, hM.keep f (fun e => n1 (by simp [e])), hs'⟩
 ·subst e
  have := h.lo i (by simp [yu])
  omega
end
structure GC (w0 w : World) (p : Nat) (V : Nat → Prop) (G : List yE) (N : Nat) : Prop where
 ex : ∃ m sq L, GR w0 w p m sq L ∧ V = (fun j => j ∈ yu p m L) ∧ L.map (fun r => (⟨r.id, r.ps⟩ : yE)) = G ∧ (∀ r ∈ L, r.ks = kid G r.id) ∧ sq ≤ N
 gok : GOk G
 len : G.length ≤ N
section
variable {w0 w w' : World} {p N : Nat} {V : Nat → Prop} {G : List yE}
theorem GC.fr (h : GC w0 w p V G N) : Fr No w0 w := by obtain ⟨m, sq, L, hr, -⟩ := h.ex; exact hr.fr
theorem GC.lo (h : GC w0 w p V G N) : ∀ j, V j → w0.heap.size ≤ j := by obtain ⟨m, sq, L, hr, rfl, -⟩ := h.ex; exact hr.lo
theorem GC.hi (h : GC w0 w p V G N) : ∀ j, V j → j < w.heap.size := by obtain ⟨m, sq, L, hr, rfl, -⟩ := h.ex; exact hr.hi
theorem GC.frV (h : GC w0 w p V G N) {U : Nat → Prop} (f : Fr U w w') (hU : ∀ j, V j → ¬ U j) (h0 : ∀ j, U j → w0.heap.size ≤ j) : GC w0 w' p V G N := by
 obtain ⟨m, sq, L, hr, rfl, h1, h2, h3⟩ := h.ex
 exact ⟨⟨m, sq, L, hr.frV f hU h0, rfl, h1, h2, h3⟩, h.gok, h.len⟩
theorem GC.fr0 (h : GC w0 w p V G N) (f : Fr No w w') : GC w0 w' p V G N := h.frV f (fun _ _ => id) (fun _ h => h.elim)
theorem GC.base {wb : World} (h : GC w0 w p V G N) (f : Fr No wb w0) : GC wb w p V G N := by
 obtain ⟨m, sq, L, hr, hv, h1, h2, h3⟩ := h.ex
 exact ⟨⟨m, sq, L, hr.base f, hv, h1, h2, h3⟩, h.gok, h.len⟩
theorem GC.mono (h : GC w0 w p V G N) {N' : Nat} (hN : N ≤ N') : GC w0 w p V G N' := by
 obtain ⟨m, sq, L, hr, hv, h1, h2, h3⟩ := h.ex
 exact ⟨⟨m, sq, L, hr, hv, h1, h2, Nat.le_trans h3 hN⟩, h.gok, Nat.le_trans h.len hN⟩
theorem GC.okId (h : GC w0 w p V G N) : ∀ x ∈ ids G, zQ x := by
 obtain ⟨m, sq, L, hr, hv, rfl, h2, h3⟩ := h.ex
 intro x hx
 obtain ⟨n, hn, rfl⟩ := List.mem_map.1 hx
 obtain ⟨r, hr', rfl⟩ := List.mem_map.1 hn
 exact (hr.ok r hr').1
end
end Go.Proofs.YtdkkjchclkjleaaGreatDoor

/- kin: New, Has. -/
namespace Go.Proofs.YtdkkjchclkjleaaGreatDoor
open Go Go.RowKit Go.Maps Go.MapKept
theorem zin : GOk [] := ⟨by simp [ids], by simp, fun A n B e => by simp at e⟩
theorem zeN (w : World) : (Instr.makeMap 197 none).run Tryz.prog w = .ok (.map (some w.heap.size)) (w.alloc (.map #[] 0)) := by kernel_rfl
theorem X9 (w : World) : (Instr.makeMap 120 none).run Tryz.prog w = .ok (.map (some w.heap.size)) (w.alloc (.map #[] 0)) := by kernel_rfl
theorem zj0 (w0 w : World) (f : Fr No w0 w) : Calls Tryz.prog 125 #[] w fun e w' => ∃ p, e = .returned (.pointer (some ⟨p, 0, none⟩)) ∧ ∃ V, GC w0 w' p V [] 0 ∧ Fr No w w' ∧ ∀ j, V j → w.heap.size ≤ j := by
 have b0 := yn w (.map #[] 0)
 have b1 := JD b0 (.cells #[.map (some w.heap.size), .int .i64 0] 199)
 have b2 := yn (w.alloc (.map #[] 0)) (.cells #[.map (some w.heap.size), .int .i64 0] 199)
 have HF := Hd (((Fr.refl No w).alloc (.map #[] 0)).alloc (.cells #[.map (some w.heap.size), .int .i64 0] 199))
 have hm : xW ((w.alloc (.map #[] 0)).alloc (.cells #[.map (some w.heap.size), .int .i64 0] 199)) w.heap.size [] := (yl.made w).keep ((Fr.refl No _).alloc _) id
 have HGC := Hd (show GC w0 ((w.alloc (.map #[] 0)).alloc (.cells #[.map (some w.heap.size), .int .i64 0] 199)) (w.heap.size + 1) (fun j => j ∈ yu (w.heap.size + 1) w.heap.size []) [] 0 from by
  refine ⟨⟨w.heap.size, 0, [], ⟨by simpa using b2, ⟨[], hm, by simp⟩, by simp, by simp [yu], fun j hj => ?_, by simp, by simp, by simp, by simp, f.trans0 HF.out⟩, rfl, rfl, by simp, Nat.le_refl _⟩, zin, Nat.zero_le _⟩
  have := f.size
  simp [yu] at hj
  omega)
 have HV := Hd (show ∀ j, j ∈ yu (w.heap.size + 1) w.heap.size [] → w.heap.size ≤ j from fun j hj => by simp [yu] at hj; omega)
 clear b0 b1 b2 hm
 have m1 := zeN
 go_enter Tryz.func125, Tryz.ntmps125
 go_wp2_with fail
 go_ret
 exact ⟨w.heap.size + 1, by simp, _, HGC.out, HF.out, HV.out⟩
section
variable {w0 w : World} {p N : Nat} {V : Nat → Prop} {G : List yE}
theorem GR.keepM {m sq : Nat} {L : List ym} (_ : GR w0 w p m sq L) {w' : World} (f : Fr No w w') : ∀ M, xW w m M → xW w' m M := fun _ hM => hM.keep f id
end
end Go.Proofs.YtdkkjchclkjleaaGreatDoor
