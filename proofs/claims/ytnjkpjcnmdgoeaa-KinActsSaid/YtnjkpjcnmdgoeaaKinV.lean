/- pappuslaw12: calls whose answer is known, ids appended. -/
import Derived.Test.YtnjkpjcnmdgoeaaKinN
import Derived.Test.YtnjkpjcnmdgoeaaAppN
namespace Go.Proofs.Ytnjkpjcnmdgoeaa
open Go Go.RowKit Go.Maps Go.MapKept

theorem has_b {w : World} {v : Value} {ks : List HashD} (hl : IdsIs w v ks) (hN : ks.length ≤ 100000) {k : HashD} (hk : hashOk k) {b : Bool} (hb : b = true ↔ k ∈ ks) :
    Calls Try.prog 15 #[v, .agg (hashC k).toArray] w fun e w' => e = .returned (.bool b) ∧ Fr No w w' :=
  (hasId_any w hl hN k hk).mono fun e w' ⟨b', e1, h1, f⟩ => ⟨by rw [e1, Bool.eq_iff_iff.2 (h1.trans hb.symm)], f⟩
theorem same_b {w : World} {u v : Value} {ks ls : List HashD} (hu : IdsIs w u ks) (hv : IdsIs w v ls) (hN : ks.length ≤ 100000) (hN2 : ls.length ≤ 100000) {b : Bool} (hb : b = true ↔ ks = ls) :
    Calls Try.prog 18 #[u, v] w fun e w' => e = .returned (.bool b) ∧ Fr No w w' :=
  (sameIds_any w hu hv hN hN2).mono fun e w' ⟨b', e1, h1, f⟩ => ⟨by rw [e1, Bool.eq_iff_iff.2 (h1.trans hb.symm)], f⟩
theorem has_g {w0 w : World} {p N : Nat} {V : Nat → Prop} {G : List NodeD} (h : GC w0 w p V G N) {x : HashD} (hx : hashOk x) {b : Bool} (hb : b = true ↔ x ∈ ids G) :
    Calls Try.prog 28 #[.pointer (some ⟨p, 0, none⟩), .agg (hashC x).toArray] w fun e w' => e = .returned (.bool b) ∧ Fr No w w' :=
  (has_K h hx).mono fun e w' ⟨e1, f⟩ => ⟨by rw [e1, Bool.eq_iff_iff.2 (decide_eq_true_iff.trans hb.symm)], f⟩
/-- Ids behind a row of one's own. -/
theorem append_ids (w : World) {B : Nat} {v x : Value} {S T : List HashD} (ho : w.ownsRow B 30 32 v S.length (S.flatMap hashC)) (hx : IdsIs w x T) (hn : S.length + T.length ≤ 1000) (hB : B ≤ w.heap.size) :
    ∃ v' w', (Builtin.append_ #[27, 27] 27 #[v, x]).run Try.prog w = .ok v' w' ∧ w'.ownsRow B 30 32 v' (S ++ T).length ((S ++ T).flatMap hashC) ∧ Fr (fun j => v.ownBlock = some j) w w' := by
  by_cases hnil : x = .slice none 0 0
  · obtain ⟨a, c, h⟩ := hx.2.form
    rw [hnil] at h
    injection h with h1 h2 h3
    have hT : T = [] := List.eq_nil_of_length_eq_zero h2.symm
    subst hT
    obtain ⟨v', w', a1, a2, a3, -⟩ := append_sl (P := Try.prog) w B 27 27 30 32 32 _ undIds infoHashZ rfl (by decide) v S.length (S.flatMap hashC) ho x 0 [] (.inl ⟨hnil, rfl, rfl⟩) rfl (by simp) (by simp at hn ⊢; omega) (by unfold maxLen; simp at hn; omega) hB
    exact ⟨v', w', a1, by simpa using a2, a3⟩
  · obtain ⟨v', w', a1, a2, a3, -, -⟩ := append_own (P := Try.prog) w B 27 27 30 32 32 _ undIds infoHashZ rfl (by decide) v S.length (S.flatMap hashC) ho x T.length (T.flatMap hashC) hx.2 (ids_flat_len hx.1) ids_flat_one (by omega) (by unfold maxLen; omega) hB hnil
    refine ⟨v', w', a1, ?_, (Fr.refl _ w).grown a3 (fun k e => .inr e)⟩
    rw [List.length_append, List.flatMap_append]
    exact a2
theorem own_fr {b w w' : World} {B n k : Nat} {e : TypeId} {v : Value} {xs : List Value} (f : Fr No b w) (ho : w.ownsRow B e k v n xs) (hB : b.heap.size ≤ B) (f2 : Fr (fun j => v.ownBlock = some j) w w') : Fr No b w' :=
  f.trans f2 (fun i hi h => by have := (ho.lt i h).1; omega)
/-- A row that was empty before. -/
theorem own_made (w : World) : (w.alloc (.cells #[] 30)).ownsRow w.heap.size 30 32 (.slice (some ⟨w.heap.size, 0, none⟩) 0 0) ([] : List HashD).length (([] : List HashD).flatMap hashC) := World.ownsRow_made w #[] 0 (Nat.le_refl _) (Nat.zero_le _) rfl
end Go.Proofs.Ytnjkpjcnmdgoeaa
