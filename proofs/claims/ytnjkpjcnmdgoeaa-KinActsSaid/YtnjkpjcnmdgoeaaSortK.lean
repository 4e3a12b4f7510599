/- A row of one's own, sorted: what the shelf's world says of it. -/
import Derived.Test.YtnjkpjcnmdgoeaaAgg
import Derived.Shelf.GgSortFunc.InsertionK
namespace Go
open Go.RowKit Go.Maps Go.MapKept Go.Sort Go.Proofs

theorem Fr.growW {W : Nat → Prop} {a b : World} (h : Fr W a b) (os : Array Obj) : Fr W a (grow b os) :=
  ⟨h.os, h.tape, h.output, by rw [size_grow]; have := h.size; omega, fun i hi hn => by rw [heap_grow_old b os (Nat.lt_of_lt_of_le hi h.size)]; exact h.block i hi hn⟩
theorem ownsRow_grow {w : World} {B n k : Nat} {T : TypeId} {v : Value} {xs : List Value} (h : w.ownsRow B T k v n xs) (os : Array Obj) : (grow w os).ownsRow B T k v n xs :=
  ownsRow_keep h ((Fr.refl No w).growW os) (fun _ _ => id)
theorem own_setAll {w : World} {B n k : Nat} {T : TypeId} {g cap : Nat} {xs cs : List Value} (h : w.ownsRow B T k (.slice (some ⟨g, 0, none⟩) n cap) n xs) (hc : cs.length = n * k) :
    (w.setCells g 0 cs).ownsRow B T k (.slice (some ⟨g, 0, none⟩) n cap) n cs := by
  rcases h.2 with ⟨e, _⟩ | ⟨g', cap', cur, e, hb, hg, hn, hm, hs, ht⟩
  · cases e
  · injection e with e1 e2 e3
    injection e1 with e1
    injection e1 with e4 e5
    subst e4 e3
    have hck : n * k ≤ cap * k := Nat.mul_le_mul_right _ hn
    have hsz : cur.toList.length = cap * k := by rw [Array.length_toList, hs]
    refine ⟨hc, .inr ⟨g, cap, (setM cur.toList 0 cs).toArray, rfl, hb, setCells_heap g T cs 0 w cur hg, hn, hm, ?_, ?_⟩⟩
    · rw [List.size_toArray, setM_len, Array.length_toList, hs]
    · rw [setM_take _ _ _ _ (by rw [hc]; omega) (by omega), ht]
      have := setM_mid cs [] xs [] (by rw [h.1, hc])
      simpa using this

theorem own_setAt {w : World} {B n k : Nat} {T : TypeId} {g cap : Nat} {xs cs : List Value} (h : w.ownsRow B T k (.slice (some ⟨g, 0, none⟩) n cap) n xs) (o : Nat) (hc : o + cs.length ≤ n * k) :
    (w.setCells g o cs).ownsRow B T k (.slice (some ⟨g, 0, none⟩) n cap) n (setM xs o cs) := by
  rcases h.2 with ⟨e, _⟩ | ⟨g', cap', cur, e, hb, hg, hn, hm, hs, ht⟩
  · cases e
  · injection e with e1 e2 e3
    injection e1 with e1
    injection e1 with e4 e5
    subst e4 e3
    have hck : n * k ≤ cap * k := Nat.mul_le_mul_right _ hn
    have hsz : cur.toList.length = cap * k := by rw [Array.length_toList, hs]
    refine ⟨by rw [setM_len, h.1], .inr ⟨g, cap, (setM cur.toList o cs).toArray, rfl, hb, setCells_heap g T cs o w cur hg, hn, hm, ?_, ?_⟩⟩
    · rw [List.size_toArray, setM_len, Array.length_toList, hs]
    · rw [setM_take _ _ _ _ hc (by omega), ht]
theorem setM_pre (xs cs : List Value) (o : Nat) (h : o + cs.length ≤ xs.length) : (setM xs o cs).take (o + cs.length) = xs.take o ++ cs := by
  have e : xs = xs.take o ++ (xs.drop o).take cs.length ++ (xs.drop o).drop cs.length := by
    rw [List.append_assoc, List.take_append_drop, List.take_append_drop]
  have ho : (xs.take o).length = o := by rw [List.length_take]; omega
  have h1 := setM_mid cs (xs.take o) ((xs.drop o).take cs.length) ((xs.drop o).drop cs.length) (by rw [List.length_take, List.length_drop]; omega)
  rw [ho, ← e] at h1
  rw [h1, List.take_append_of_le_length (by rw [List.length_append, ho]; omega)]
  exact List.take_of_length_le (by rw [List.length_append, ho]; omega)

section
variable {α : Type} [Inhabited α] (enc : α → List Value) (k : Nat) (hk : ∀ x, (enc x).length = k)
include hk
theorem flatK_flat (L : List α) : (flatK enc k L.toArray).toList = L.flatMap enc := by
  apply List.ext_getElem?
  intro t
  have hl : (L.flatMap enc).length = L.length * k := flatR_len enc k L (fun x _ => hk x)
  by_cases ht : t < L.length * k
  · have k0 : 0 < k := by rcases Nat.eq_zero_or_pos k with h | h; · subst h; simp at ht
                          · exact h
    have hq : t / k < L.length := Nat.div_lt_of_lt_mul (by rw [Nat.mul_comm]; exact ht)
    have hr : t % k < k := Nat.mod_lt _ k0
    have h1 := get_flatK enc k L.toArray t (by simpa using ht)
    have h2 := flatR_at enc k L (fun x _ => hk x) (t / k) L[t / k] (List.getElem?_eq_getElem hq) (t % k) hr
    rw [Nat.div_add_mod' t k] at h2
    rw [h2]
    have hs : t < (flatK enc k L.toArray).size := by simpa using ht
    rw [getElem!_pos _ t hs] at h1
    rw [Array.getElem?_toList, Array.getElem?_eq_getElem hs, h1]
    have h3 : L.toArray[t / k]! = L[t / k] := by rw [getElem!_pos L.toArray (t / k) (by simpa using hq)]; simp
    rw [h3]
    have h4 : t % k < (enc L[t / k]).length := by rw [hk]; exact hr
    rw [getElem!_pos (enc L[t / k]) (t % k) h4, List.getElem?_eq_getElem h4]
  · rw [List.getElem?_eq_none (by simp; omega), List.getElem?_eq_none (by omega)]
theorem holds_own {w : World} {B : Nat} {T : TypeId} {g cap : Nat} {L : List α} (h : w.ownsRow B T k (.slice (some ⟨g, 0, none⟩) L.length cap) L.length (L.flatMap enc)) : HoldsK enc k w g 0 L.toArray := by
  rcases h.2 with ⟨e, _⟩ | ⟨g', cap', cur, e, hb, hg, hn, hm, hs, ht⟩
  · cases e
  · injection e with e1 e2 e3
    injection e1 with e1
    injection e1 with e4 e5
    subst e4 e3
    intro j hj
    have hj' : j < L.length * k := by simpa using hj
    have hck : L.length * k ≤ cap * k := Nat.mul_le_mul_right _ hn
    have hlt : j < cur.size := by omega
    have h1 : (flatK enc k L.toArray)[j]! = cur[j] := by
      rw [getElem!_pos _ j hj]
      have h2 := flatK_flat enc k hk L
      have h3 : (flatK enc k L.toArray).toList[j]? = some cur[j] := by
        rw [h2, ← ht, List.getElem?_take_of_lt hj', Array.getElem?_toList, Array.getElem?_eq_getElem hlt]
      rw [Array.getElem?_toList, Array.getElem?_eq_getElem hj] at h3
      exact Option.some.inj h3
    rw [Nat.zero_add, h1]
    refine ⟨?_, ?_⟩
    · simp only [World.cell?, hg]
      exact Array.getElem?_eq_getElem hlt
    · simp only [World.frozen?, hg]
      simp
theorem sorted_world {w : World} {g : Nat} {d d' : Array α} (h : HoldsK enc k w g 0 d) (hs : d'.size = d.size) (m : Nat) (os : Array Obj) :
    sortWorldK enc k w g 0 m d' os = grow ((Go.Sort.ahead w m).setCells g 0 (d'.toList.flatMap enc)) os := by
  unfold sortWorldK putRowK
  have h0 : putRow id (Go.Sort.ahead w m) g 0 (flatK enc k d) = Go.Sort.ahead w m := putRow_self id _ g 0 _ h
  have hl : ((d'.toList).flatMap enc).length = d.size * k := by rw [flatR_len enc k _ (fun x _ => hk x), Array.length_toList, hs]
  have h1 := setCells_putRow (Go.Sort.ahead w m) g 0 (d'.toList.flatMap enc) 0 (flatK enc k d) (by rw [size_flatK, hl]; omega)
  rw [Nat.add_zero, h0] at h1
  rw [h1]
  congr 2
  refine ext_get! (by simp [hs]) fun t ht => ?_
  have ht' : t < d'.size * k := by simpa using ht
  rw [get_setMany _ _ _ t (by simpa [hs] using ht'), if_pos ⟨Nat.zero_le _, by rw [hl, ← hs]; omega⟩, Nat.sub_zero]
  have h2 := flatK_flat enc k hk d'.toList
  rw [Array.toArray_toList] at h2
  rw [← h2]
  rw [getElem!_pos _ t ht, getElem!_pos _ t (by simpa using ht), Array.getElem_toList]
theorem sorted_own {w : World} {B : Nat} {T : TypeId} {g cap : Nat} {L : List α} {d' : Array α} (h : w.ownsRow B T k (.slice (some ⟨g, 0, none⟩) L.length cap) L.length (L.flatMap enc)) (hs : d'.size = L.length) (m : Nat) (os : Array Obj) :
    (sortWorldK enc k w g 0 m d' os).ownsRow B T k (.slice (some ⟨g, 0, none⟩) L.length cap) L.length (d'.toList.flatMap enc) ∧ Fr (fun j => j = g) w (sortWorldK enc k w g 0 m d' os) := by
  rw [sorted_world enc k hk (holds_own enc k hk h) (by simpa using hs) m os]
  have h1 : (Go.Sort.ahead w m).ownsRow B T k (.slice (some ⟨g, 0, none⟩) L.length cap) L.length (L.flatMap enc) := h
  exact ⟨ownsRow_grow (own_setAll h1 (by rw [flatR_len enc k _ (fun x _ => hk x), Array.length_toList, hs])) os, ((Fr.drewN (Fr.refl _ w) m).trans (setCells_fr g _ 0 (Go.Sort.ahead w m)) (fun _ _ h => h)).growW os⟩
end

theorem sorted_perm {α β : Type} [Inhabited α] (f : α → β) {lt : α → α → Bool} {r : β → β → Bool} (hr : ∀ x y, lt x y = r (f x) (f y)) {d d' : Array α} {S : List β} (hp : PermIn 0 d.size d d') (hs : SortedIn lt 0 d.size d') (hS : S.Perm (d.toList.map f)) (h1 : S.Pairwise (fun a b => r b a = false)) (hT : ∀ a ∈ S, ∀ b ∈ S, r a b = false → r b a = false → a = b) : d'.toList.map f = S := by
  obtain ⟨hsz, _, hperm⟩ := hp
  have e1 : d'.extract 0 d.size = d' := by rw [← hsz]; exact Array.extract_size
  rw [e1, Array.extract_size] at hperm
  have hp2 : (d'.toList.map f).Perm S := (hperm.map f).trans hS.symm
  refine List.Perm.eq_of_pairwise (le := fun x y => r y x = false) ?_ ?_ h1 hp2
  · intro a b ha hb h2 h3
    exact hT a (hp2.mem_iff.1 ha) b hb h3 h2
  · rw [List.pairwise_map, List.pairwise_iff_getElem]
    intro i j hi hj hij
    have h4 := hs i j (Nat.zero_le _) hij (by rw [← hsz]; simpa using hj)
    rw [getElem!_pos _ i (by simpa using hi), getElem!_pos _ j (by simpa using hj), hr] at h4
    simpa using h4
theorem lift_list {α : Type} {q : α → Prop} : ∀ (H : List α), (∀ h ∈ H, q h) → ∃ L : List { h : α // q h }, L.map Subtype.val = H
  | [], _ => ⟨[], rfl⟩
  | h :: H, ok => by
    obtain ⟨L, hL⟩ := lift_list H (fun x hx => ok x (List.mem_cons_of_mem _ hx))
    exact ⟨⟨h, ok h (List.mem_cons_self ..)⟩ :: L, by rw [List.map_cons, hL]⟩
end Go
