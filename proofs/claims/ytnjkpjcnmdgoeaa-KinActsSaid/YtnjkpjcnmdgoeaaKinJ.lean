/- kin: a node's lists turned. -/
import Derived.Test.YtnjkpjcnmdgoeaaKinI
namespace Go.Proofs.Ytnjkpjcnmdgoeaa
open Go Go.RowKit Go.Maps Go.MapKept

abbrev Tri := HashD × List HashD × List HashD
def RecD.t3 (r : RecD) : Tri := (r.id, r.ps, r.ks)
def triG (G : List NodeD) : List Tri := G.map fun n => (n.id, n.ps, kid G n.id)
theorem triG_ids (G : List NodeD) : (triG G).map (·.1) = ids G := by simp [triG, ids, Function.comp]
theorem step_map {T : List Tri} (hn : (T.map (·.1)).Nodup) {f g : Tri → Tri} (hf : ∀ t, (f t).1 = t.1) {q : HashD} {A B : List RecD} {r r' : RecD} (hL : (A ++ r :: B).map RecD.t3 = T.map f) (hr : r.id = q) (hg : ∀ t ∈ T, t.1 = q → f t = r.t3 → g t = r'.t3) (hg2 : ∀ t ∈ T, t.1 ≠ q → g t = f t) : (A ++ r' :: B).map RecD.t3 = T.map g := by
  rw [List.map_append, List.map_cons] at hL ⊢
  obtain ⟨TA, T2, rfl, hA, h2⟩ := List.map_eq_append_iff.1 hL.symm
  obtain ⟨t, TB, rfl, ht, hB⟩ := List.map_eq_cons_iff.1 h2
  have hq : t.1 = q := by rw [← hf t, ht]; exact hr
  rw [List.map_append, List.map_cons] at hn
  obtain ⟨n1, n2, n3⟩ := List.nodup_append.1 hn
  obtain ⟨n4, n5⟩ := List.nodup_cons.1 n2
  rw [List.map_append, List.map_cons, ← hA, ← hB]
  congr 1
  · refine List.map_congr_left fun s hs => (hg2 s (by simp [hs]) fun e => ?_).symm
    exact n3 s.1 (List.mem_map.2 ⟨s, hs, rfl⟩) t.1 (by simp) (by rw [e, hq])
  · congr 1
    · exact (hg t (by simp) hq ht).symm
    · refine List.map_congr_left fun s hs => (hg2 s (by simp [hs]) fun e => ?_).symm
      exact n4 (by rw [hq, ← e]; exact List.mem_map.2 ⟨s, hs, rfl⟩)
theorem find_rec {T : List Tri} {f : Tri → Tri} (hf : ∀ t, (f t).1 = t.1) {L : List RecD} (hL : L.map RecD.t3 = T.map f) {q : HashD} (hq : q ∈ T.map (·.1)) : ∃ A r B, L = A ++ r :: B ∧ r.id = q ∧ ∃ t ∈ T, t.1 = q ∧ f t = r.t3 := by
  obtain ⟨t, ht, rfl⟩ := List.mem_map.1 hq
  have h1 : f t ∈ L.map RecD.t3 := by rw [hL]; exact List.mem_map.2 ⟨t, ht, rfl⟩
  obtain ⟨r, hr, e⟩ := List.mem_map.1 h1
  obtain ⟨A, B, rfl⟩ := List.append_of_mem hr
  refine ⟨A, r, B, rfl, ?_, t, ht, rfl, e.symm⟩
  have := congrArg Prod.fst e
  rw [hf] at this
  exact this
theorem tri_uniq {T : List Tri} (hn : (T.map (·.1)).Nodup) {s t : Tri} (hs : s ∈ T) (ht : t ∈ T) (e : s.1 = t.1) : s = t := by
  have := pair_fst (M := T) hn (k := s.1) (v := s.2) (v' := t.2) hs (by rw [e]; exact ht)
  exact Prod.ext e this
section
variable {w0 w : World} {p m sq : Nat} {A B : List RecD} {r : RecD}
theorem GR.blks_nodup (h : GR w0 w p m sq (A ++ r :: B)) : r.blks.Nodup := by
  have := h.apart
  rw [gblks_mid] at this
  exact (List.nodup_append.1 (List.nodup_append.1 this).2.1).1
theorem mem_blks {j : Nat} : j ∈ r.blks ↔ j = r.b ∨ r.pv.ownBlock = some j ∨ r.cv.ownBlock = some j := by
  unfold RecD.blks
  simp only [List.mem_cons, List.mem_append, Option.mem_toList]
theorem blks_apart (h : r.blks.Nodup) : (r.pv.ownBlock ≠ some r.b) ∧ (r.cv.ownBlock ≠ some r.b) ∧ ∀ j, r.pv.ownBlock = some j → r.cv.ownBlock ≠ some j := by
  unfold RecD.blks at h
  obtain ⟨h1, h2⟩ := List.nodup_cons.1 h
  obtain ⟨h3, h4, h5⟩ := List.nodup_append.1 h2
  refine ⟨fun e => h1 (by simp [e]), fun e => h1 (by simp [e]), fun j e1 e2 => h5 j (by simp [e1]) j (by simp [e2]) rfl⟩
theorem blks_mk {b : Nat} {pv cv : Value} (h1 : pv.ownBlock ≠ some b) (h2 : cv.ownBlock ≠ some b) (h3 : ∀ j, pv.ownBlock = some j → cv.ownBlock ≠ some j) : (b :: (pv.ownBlock.toList ++ cv.ownBlock.toList)).Nodup := by
  refine List.nodup_cons.2 ⟨fun h => ?_, List.nodup_append.2 ⟨?_, ?_, fun a ha c hc e => ?_⟩⟩
  · simp only [List.mem_append, Option.mem_toList] at h
    exact h.elim h1 h2
  · cases pv.ownBlock <;> simp
  · cases cv.ownBlock <;> simp
  · rw [Option.mem_toList] at ha hc
    exact h3 a ha (by rw [e]; exact hc)
theorem GR.setc (h : GR w0 w p m sq (A ++ r :: B)) {w1 : World} {v' : Value} {ks' : List HashD} (f : Fr (fun j => r.cv.ownBlock = some j) w w1) (ho : w1.ownsRow w0.heap.size 30 32 v' ks'.length (ks'.flatMap hashC)) (hn : ∀ j, v'.ownBlock = some j → r.cv.ownBlock = some j ∨ w.heap.size ≤ j) (ok : ∀ x ∈ ks', hashOk x) :
    GR w0 (w1.setCell ⟨r.b, 2, none⟩ v') p m sq (A ++ { r with ks := ks', cv := v' } :: B) ∧ Fr (fun j => j ∈ r.blks) w (w1.setCell ⟨r.b, 2, none⟩ v') := by
  have hnd := h.blks_nodup
  obtain ⟨a1, a2, a3⟩ := blks_apart hnd
  have hN := h.node r (by simp)
  have hbl := obj_lt hN.blk
  have f2 : Fr (fun j => j ∈ r.blks) w (w1.setCell ⟨r.b, 2, none⟩ v') := (f.mono (fun j e => mem_blks.2 (.inr (.inr e)))).setCell ⟨r.b, 2, none⟩ (.inr (mem_blks.2 (.inl rfl))) v'
  have f3 : Fr (fun j => j = r.b) w1 (w1.setCell ⟨r.b, 2, none⟩ v') := (Fr.refl (fun j => j = r.b) w1).setCell ⟨r.b, 2, none⟩ (.inr rfl) v'
  have hv : v'.ownBlock ≠ some r.b := fun e => (hn _ e).elim a2 (fun e => by omega)
  have hpl := fun j e => (hN.prow.lt j e).2
  refine ⟨h.turn f2 (fun _ h => h) ⟨?_, ?_, ?_⟩ rfl rfl rfl (fun j hj => ?_) ?_ ⟨(h.ok r (by simp)).1, (h.ok r (by simp)).2.1, ok⟩, f2⟩
  · have := heap_setCell_same w1 r.b 2 _ _ v' (f.obj hN.blk a2)
    simpa using this
  · exact ownsRow_keep (ownsRow_keep hN.prow f (fun j e => a3 j e)) f3 (fun j e e2 => a1 (by rw [e, e2]))
  · exact ownsRow_keep ho f3 (fun j e e2 => hv (by rw [e, e2]))
  · rw [mem_blks] at hj ⊢
    rcases hj with hj | hj | hj
    · exact .inl (.inl hj)
    · exact .inl (.inr (.inl hj))
    · exact (hn j hj).imp (fun e => .inr (.inr e)) id
  · refine blks_mk a1 hv fun j e e2 => ?_
    rcases hn j e2 with h1 | h1
    · exact a3 j e h1
    · have := hpl j e; omega
theorem GR.setp (h : GR w0 w p m sq (A ++ r :: B)) {w1 : World} {v' : Value} {ps' : List HashD} (f : Fr (fun j => r.pv.ownBlock = some j) w w1) (ho : w1.ownsRow w0.heap.size 30 32 v' ps'.length (ps'.flatMap hashC)) (hn : ∀ j, v'.ownBlock = some j → r.pv.ownBlock = some j ∨ w.heap.size ≤ j) (ok : ∀ x ∈ ps', hashOk x) :
    GR w0 (w1.setCell ⟨r.b, 1, none⟩ v') p m sq (A ++ { r with ps := ps', pv := v' } :: B) ∧ Fr (fun j => j ∈ r.blks) w (w1.setCell ⟨r.b, 1, none⟩ v') := by
  have hnd := h.blks_nodup
  obtain ⟨a1, a2, a3⟩ := blks_apart hnd
  have hN := h.node r (by simp)
  have hbl := obj_lt hN.blk
  have f2 : Fr (fun j => j ∈ r.blks) w (w1.setCell ⟨r.b, 1, none⟩ v') := (f.mono (fun j e => mem_blks.2 (.inr (.inl e)))).setCell ⟨r.b, 1, none⟩ (.inr (mem_blks.2 (.inl rfl))) v'
  have f3 : Fr (fun j => j = r.b) w1 (w1.setCell ⟨r.b, 1, none⟩ v') := (Fr.refl (fun j => j = r.b) w1).setCell ⟨r.b, 1, none⟩ (.inr rfl) v'
  have hv : v'.ownBlock ≠ some r.b := fun e => (hn _ e).elim a1 (fun e => by omega)
  have hcl := fun j e => (hN.crow.lt j e).2
  refine ⟨h.turn f2 (fun _ h => h) ⟨?_, ?_, ?_⟩ rfl rfl rfl (fun j hj => ?_) ?_ ⟨(h.ok r (by simp)).1, ok, (h.ok r (by simp)).2.2⟩, f2⟩
  · have := heap_setCell_same w1 r.b 1 _ _ v' (f.obj hN.blk a1)
    simpa using this
  · exact ownsRow_keep ho f3 (fun j e e2 => hv (by rw [e, e2]))
  · exact ownsRow_keep (ownsRow_keep hN.crow f (fun j e e3 => a3 j e3 e)) f3 (fun j e e2 => a2 (by rw [e, e2]))
  · rw [mem_blks] at hj ⊢
    rcases hj with hj | hj | hj
    · exact .inl (.inl hj)
    · exact (hn j hj).imp (fun e => .inr (.inl e)) id
    · exact .inl (.inr (.inr hj))
  · refine blks_mk hv a2 fun j e e2 => ?_
    rcases hn j e with h1 | h1
    · exact a3 j h1 e2
    · have := hcl j e2; omega
end
theorem GC.tri {w0 w : World} {p N : Nat} {V : Nat → Prop} {G : List NodeD} (h : GC w0 w p V G N) : ∃ m sq L, GR w0 w p m sq L ∧ V = (fun j => j ∈ gblks p m L) ∧ L.map RecD.t3 = triG G ∧ sq ≤ N := by
  obtain ⟨m, sq, L, hr, hv, hG, hks, hsq⟩ := h.ex
  refine ⟨m, sq, L, hr, hv, ?_, hsq⟩
  rw [triG]
  conv => rhs; rw [← hG]
  rw [List.map_map]
  refine List.map_congr_left fun r hr' => ?_
  simp only [RecD.t3, Function.comp, hks r hr', hG]
theorem GC.of_tri {w0 w : World} {p m sq N : Nat} {G : List NodeD} {L : List RecD} (hr : GR w0 w p m sq L) (hG : L.map RecD.t3 = triG G) (hsq : sq ≤ N) (ok : GOk G) (hl : G.length ≤ N) : GC w0 w p (fun j => j ∈ gblks p m L) G N := by
  refine ⟨⟨m, sq, L, hr, rfl, ?_, fun r hr' => ?_, hsq⟩, ok, hl⟩
  · have := congrArg (List.map fun t : Tri => (⟨t.1, t.2.1⟩ : NodeD)) hG
    rw [List.map_map, triG, List.map_map] at this
    refine this.trans ?_
    conv => rhs; rw [← List.map_id G]
    rfl
  · have h1 : r.t3 ∈ triG G := by rw [← hG]; exact List.mem_map.2 ⟨r, hr', rfl⟩
    obtain ⟨n, hn, e⟩ := List.mem_map.1 h1
    unfold RecD.t3 at e
    injection e with e1 e2
    injection e2 with e2 e3
    rw [← e3, e1]
end Go.Proofs.Ytnjkpjcnmdgoeaa
