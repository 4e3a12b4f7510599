/- m[k]++ and the like: an entry read, fetched and stored. -/
import Derived.Shelf.GgSortFunc.InsertionK
import Derived.Test.YtmpamcnlineceaaDoorMG5
import Derived.Test.YtmpamcnlineceaaDoorMG4
set_option linter.unusedVariables false
set_option linter.unusedSimpArgs false
namespace Go
open Go.RowKit Go.Maps Go.MapKept
section
variable {P : Program} {kt et t : TypeId} {w : World} {b : Nat} {L : List (Value × Value)}
theorem MapAt.entry_hitM (K : Keyed P kt) (ht : P.underlying t = some (.map kt et)) {L1 L2 : List (Value × Value)} {key v0 : Value} (h : MapAt P kt w b (L1 ++ (key, v0) :: L2)) (hk : ∃ l, keyOf P kt key = some l) :
    ∃ w' s, (Instr.mapEntry t (.map (some b)) key).run P w = .ok (.tuple #[v0, .int .i64 s]) w' ∧ Entry P kt w' b L1 key L2 s ∧ Turned b w w' ∧ MapAt P kt w' b (L1 ++ (key, v0) :: L2) := by
  obtain ⟨es, clk, hb, hs, hm, hL, hks⟩ := h
  obtain ⟨l, hl⟩ := hk
  obtain ⟨e, h1, h2, h3, h4⟩ := find_parts K w hs hks hl hL
  have hmod : es.modify L1.length (fun e => { e with key := key }) = es := by
    apply Array.ext_getElem?
    intro j
    rw [Array.getElem?_modify]
    split
    · rename_i hj; subst hj; rw [h2]; simp [← h3]
    · rfl
  have hrun : (Instr.mapEntry t (.map (some b)) key).run P w = .ok (.tuple #[v0, .int .i64 (e.born : Int)]) { w with heap := w.heap.setIfInBounds b (.map es clk) } := by
    simp [Instr.mapEntry, run_underlying ht, MapKept.run_getObj_map hb, K.check w false hl, h1, h2, h3, h4, K.stays w hl, MapKept.run_setObj_map _ hb, Result.andThen, goInt, hmod]
  exact ⟨_, _, hrun, ⟨es, clk, e, heap_set_same hb, hs, hm, ⟨v0, hL⟩, hks, h2, rfl⟩, turned_set _ _ _, ⟨es, clk, heap_set_same hb, hs, hm, hL, hks⟩⟩

theorem MapAt.entry_missM (K : Keyed P kt) (ht : P.underlying t = some (.map kt et)) {z : Value} (hz : ∀ w, (zeroValue et).run P w = .ok z w) (h : MapAt P kt w b L) {key : Value} (hk : ∃ l, keyOf P kt key = some l) (hno : ∀ p ∈ L, p.1 ≠ key) (hroom : L.length < maxLen) :
    ∃ w' s, (Instr.mapEntry t (.map (some b)) key).run P w = .ok (.tuple #[z, .int .i64 s]) w' ∧ Entry P kt w' b L key [] s ∧ Turned b w w' ∧ MapAt P kt w' b (L ++ [(key, z)]) := by
  obtain ⟨es, clk, hb, hs, hm, rfl, hks⟩ := h
  obtain ⟨l, hl⟩ := hk
  rcases K.find w hl es.toList hks with ⟨h1, h2⟩ | ⟨j, e, h1, h2, h3⟩
  · have hrun : (Instr.mapEntry t (.map (some b)) key).run P w = .ok (.tuple #[z, .int .i64 (clk : Int)]) { w with heap := w.heap.setIfInBounds b (.map (es.push { key, val := z, born := clk }) (clk + 1)) } := by
      simp [Instr.mapEntry, run_underlying ht, MapKept.run_getObj_map hb, K.check w false hl, h1, hz, MapKept.run_setObj_map _ hb, Result.andThen, goInt]
    have a1 : (es.push { key, val := z, born := clk }).size ≤ maxLen := by simp [kv] at hroom ⊢; omega
    have a2 : ∀ e ∈ (es.push { key, val := z, born := clk }).toList, ∃ l, keyOf P kt e.key = some l := by
      intro e he
      simp only [Array.toList_push, List.mem_append, List.mem_singleton] at he
      rcases he with he | rfl
      · exact hks e he
      · exact ⟨l, hl⟩
    refine ⟨_, _, hrun, ⟨_, _, ⟨key, z, clk⟩, heap_set_same hb, stamped_push hs h2, a1, ⟨z, by simp [kv]⟩, a2, ?_, rfl⟩, turned_set _ _ _, ⟨_, _, heap_set_same hb, stamped_push hs h2, a1, by simp [kv], a2⟩⟩
    simp [kv]
  · exact absurd h3 (hno _ (kv_mem (List.mem_of_getElem? h2)))
end
section
variable {P : Program} {kt et t : TypeId} {w : World} {b : Nat} {κ ι : Type} {kV : κ → Value} {vV : ι → Value} {M : List (κ × ι)}
theorem MapIs.bump (h : MapIs P kt kV vV w b M) (K : Keyed P kt) (ht : P.underlying t = some (.map kt et)) (inj : ∀ a b, kV a = kV b → a = b) {z : ι} (hz : ∀ w, (zeroValue et).run P w = .ok (vV z) w) {k : κ} (hk : ∃ l, keyOf P kt (kV k) = some l) (room : M.length < maxLen) :
    ∃ (v0 : ι) (w1 : World) (s : Int) (M1 : List (κ × ι)), (v0 = z ∨ (k, v0) ∈ M) ∧ (Instr.mapEntry t (.map (some b)) (kV k)).run P w = .ok (.tuple #[vV v0, .int .i64 s]) w1 ∧ Turned b w w1 ∧ MapIs P kt kV vV w1 b M1 ∧
      (∀ w', MapIs P kt kV vV w' b M → (Instr.lookup t (.map (some b)) (kV k) false).run P w' = .ok (vV v0) w') ∧
      (∀ w', MapIs P kt kV vV w' b M1 → (Instr.lookup t (.map (some b)) (kV k) false).run P w' = .ok (vV v0) w') ∧
      (∀ (v : ι) (w2 : World) (W : Nat → Prop), Fr W w1 w2 → ¬ W b → ∃ w3 M', (Instr.entryStore t (.map (some b)) (.int .i64 s) (vV v)).run P w2 = .ok () w3 ∧ MapIs P kt kV vV w3 b M' ∧ Upd M k v M' ∧ Turned b w2 w3 ∧ M'.length ≤ M.length + 1) := by
  by_cases hin : ∃ v0, (k, v0) ∈ M
  · obtain ⟨v0, hm⟩ := hin
    obtain ⟨A, B, rfl⟩ := List.append_of_mem hm
    have h0 := h
    unfold MapIs at h
    rw [List.map_append, List.map_cons] at h
    obtain ⟨w1, s, hr, hE, hT, hM⟩ := MapAt.entry_hitM K ht h hk
    have hM1 : MapIs P kt kV vV w1 b (A ++ (k, v0) :: B) := by unfold MapIs; rw [List.map_append, List.map_cons]; exact hM
    have hlk : ∀ w', MapIs P kt kV vV w' b (A ++ (k, v0) :: B) → (Instr.lookup t (.map (some b)) (kV k) false).run P w' = .ok (vV v0) w' := fun w' h' => (h'.hit K ht inj hz hk hm).2
    refine ⟨v0, w1, s, _, .inr hm, hr, hT, hM1, hlk, hlk, fun v w2 W f hW => ?_⟩
    obtain ⟨w3, hst, hM3, hT3⟩ := (hE.keep f hW).store t (vV v)
    have hM3' : MapIs P kt kV vV w3 b (A ++ (k, v) :: B) := by unfold MapIs; rw [List.map_append, List.map_cons]; exact hM3
    refine ⟨w3, _, hst, hM3', ?_, hT3, by simp⟩
    have hnd := h0.nodup
    rw [List.map_append, List.map_cons] at hnd
    obtain ⟨n1, n2, n3⟩ := List.nodup_append.1 hnd
    obtain ⟨n4, n5⟩ := List.nodup_cons.1 n2
    have hn1 : ∀ x, (k, x) ∉ A := fun x hx => n3 k (List.mem_map.2 ⟨_, hx, rfl⟩) k (by simp) rfl
    have hn2 : ∀ x, (k, x) ∉ B := fun x hx => n4 (List.mem_map.2 ⟨_, hx, rfl⟩)
    intro k' v'
    simp only [List.mem_append, List.mem_cons, Prod.mk.injEq]
    constructor
    · rintro (h1 | h1 | h1)
      · exact .inr ⟨fun e => hn1 _ (e ▸ h1), .inl h1⟩
      · exact .inl h1
      · exact .inr ⟨fun e => hn2 _ (e ▸ h1), .inr (.inr h1)⟩
    · rintro (h1 | ⟨h1, h2 | h2 | h2⟩)
      · exact .inr (.inl h1)
      · exact .inl h2
      · exact absurd h2.1 h1
      · exact .inr (.inr h2)
  · have hno : ∀ v, (k, v) ∉ M := fun v hv => hin ⟨v, hv⟩
    obtain ⟨w1, s, hr, hE, hT, hM⟩ := MapAt.entry_missM K ht hz h hk (fun p hp e => by
      obtain ⟨x, hx, rfl⟩ := List.mem_map.1 hp
      exact hin ⟨x.2, by rw [← inj _ _ e]; exact hx⟩) (by simpa using room)
    have hM1 : MapIs P kt kV vV w1 b (M ++ [(k, z)]) := by unfold MapIs; rw [List.map_append]; exact hM
    refine ⟨z, w1, s, _, .inl rfl, hr, hT, hM1, fun w' h' => (h'.miss K ht inj hz hk hno).2, fun w' h' => (h'.hit K ht inj hz hk (v := z) (by simp)).2, fun v w2 W f hW => ?_⟩
    obtain ⟨w3, hst, hM3, hT3⟩ := (hE.keep f hW).store t (vV v)
    have hM3' : MapIs P kt kV vV w3 b (M ++ [(k, v)]) := by unfold MapIs; rw [List.map_append]; exact hM3
    refine ⟨w3, _, hst, hM3', ?_, hT3, by simp⟩
    intro k' v'
    simp only [List.mem_append, List.mem_singleton, Prod.mk.injEq]
    constructor
    · rintro (h1 | h1)
      · exact .inr ⟨fun e => hin ⟨v', e ▸ h1⟩, h1⟩
      · exact .inl h1
    · rintro (h1 | ⟨_, h2⟩)
      · exact .inr h1
      · exact .inl h2
variable {o : Oper} {w' : World} {ev : Operand → Value} {m k x : Operand} {mv kv' xv v : Value}
theorem exec_mapEntry (ho : o.op = .mapEntry t m k) (hm : ev m = mv) (hk : ev k = kv') (hr : (Instr.mapEntry t mv kv').run P w = .ok v w') : (execOp ev o).run P w = .ok (.value v) w' := by
  simp only [execOp, ho, hm, hk, Sem.run_bind, hr, Result.andThen_ok, Sem.run_pure]
theorem exec_entryStore {i : Operand} {iv : Value} (ho : o.op = .entryStore t m i x) (hm : ev m = mv) (hi : ev i = iv) (hx : ev x = xv) (hr : (Instr.entryStore t mv iv xv).run P w = .ok () w') : (execOp ev o).run P w = .ok .skip w' := by
  simp only [execOp, ho, hm, hi, hx, Sem.run_bind, hr, Result.andThen_ok, Sem.run_pure]
end
end Go

/- A row of one's own, sorted: what the shelf's world says of it. -/
namespace Go
open Go.RowKit Go.Maps Go.MapKept Go.Sort Go.Proofs

theorem Fr.growW {W : Nat → Prop} {a b : World} (h : Fr W a b) (os : Array Obj) : Fr W a (grow b os) :=
  ⟨h.os, h.tape, h.output, by rw [size_grow]; have := h.size; omega, fun i hi hn => by rw [heap_grow_old b os (Nat.lt_of_lt_of_le hi h.size)]; exact h.block i hi hn⟩
theorem ownsRow_grow {w : World} {B n k : Nat} {T : TypeId} {v : Value} {xs : List Value} (h : w.ownsRow B T k v n xs) (os : Array Obj) : (grow w os).ownsRow B T k v n xs :=
  ownsRow_keep h ((Fr.refl No w).growW os) (fun _ _ => id)
theorem own_setAll {w : World} {B n k : Nat} {T : TypeId} {g cap : Nat} {xs cs : List Value} (h : w.ownsRow B T k (.slice (some ⟨g, 0, none⟩) n cap) n xs) (hc : cs.length = n * k) :
    (w.setCells g 0 cs).ownsRow B T k (.slice (some ⟨g, 0, none⟩) n cap) n cs := by
  rcases h.2 with ⟨e, _⟩ | ⟨g', cap', cur, e, hb, hg, hn, hm, hs, ht⟩
  · cases e
  · injection e with e1 e2 e3
    injection e1 with e1
    injection e1 with e4 e5
    subst e4 e3
    have hck : n * k ≤ cap * k := Nat.mul_le_mul_right _ hn
    have hsz : cur.toList.length = cap * k := by rw [Array.length_toList, hs]
    refine ⟨hc, .inr ⟨g, cap, (setM cur.toList 0 cs).toArray, rfl, hb, setCells_heap g T cs 0 w cur hg, hn, hm, ?_, ?_⟩⟩
    · rw [List.size_toArray, setM_len, Array.length_toList, hs]
    · rw [setM_take _ _ _ _ (by rw [hc]; omega) (by omega), ht]
      have := setM_mid cs [] xs [] (by rw [h.1, hc])
      simpa using this

theorem own_setAt {w : World} {B n k : Nat} {T : TypeId} {g cap : Nat} {xs cs : List Value} (h : w.ownsRow B T k (.slice (some ⟨g, 0, none⟩) n cap) n xs) (o : Nat) (hc : o + cs.length ≤ n * k) :
    (w.setCells g o cs).ownsRow B T k (.slice (some ⟨g, 0, none⟩) n cap) n (setM xs o cs) := by
  rcases h.2 with ⟨e, _⟩ | ⟨g', cap', cur, e, hb, hg, hn, hm, hs, ht⟩
  · cases e
  · injection e with e1 e2 e3
    injection e1 with e1
    injection e1 with e4 e5
    subst e4 e3
    have hck : n * k ≤ cap * k := Nat.mul_le_mul_right _ hn
    have hsz : cur.toList.length = cap * k := by rw [Array.length_toList, hs]
    refine ⟨by rw [setM_len, h.1], .inr ⟨g, cap, (setM cur.toList o cs).toArray, rfl, hb, setCells_heap g T cs o w cur hg, hn, hm, ?_, ?_⟩⟩
    · rw [List.size_toArray, setM_len, Array.length_toList, hs]
    · rw [setM_take _ _ _ _ hc (by omega), ht]
theorem setM_pre (xs cs : List Value) (o : Nat) (h : o + cs.length ≤ xs.length) : (setM xs o cs).take (o + cs.length) = xs.take o ++ cs := by
  have e : xs = xs.take o ++ (xs.drop o).take cs.length ++ (xs.drop o).drop cs.length := by
    rw [List.append_assoc, List.take_append_drop, List.take_append_drop]
  have ho : (xs.take o).length = o := by rw [List.length_take]; omega
  have h1 := setM_mid cs (xs.take o) ((xs.drop o).take cs.length) ((xs.drop o).drop cs.length) (by rw [List.length_take, List.length_drop]; omega)
  rw [ho, ← e] at h1
  rw [h1, List.take_append_of_le_length (by rw [List.length_append, ho]; omega)]
  exact List.take_of_length_le (by rw [List.length_append, ho]; omega)

section
variable {α : Type} [Inhabited α] (enc : α → List Value) (k : Nat) (hk : ∀ x, (enc x).length = k)
include hk
theorem flatK_flat (L : List α) : (flatK enc k L.toArray).toList = L.flatMap enc := by
  apply List.ext_getElem?
  intro t
  have hl : (L.flatMap enc).length = L.length * k := flatR_len enc k L (fun x _ => hk x)
  by_cases ht : t < L.length * k
  · have k0 : 0 < k := by rcases Nat.eq_zero_or_pos k with h | h; · subst h; simp at ht
                          · exact h
    have hq : t / k < L.length := Nat.div_lt_of_lt_mul (by rw [Nat.mul_comm]; exact ht)
    have hr : t % k < k := Nat.mod_lt _ k0
    have h1 := get_flatK enc k L.toArray t (by simpa using ht)
    have h2 := flatR_at enc k L (fun x _ => hk x) (t / k) L[t / k] (List.getElem?_eq_getElem hq) (t % k) hr
    rw [Nat.div_add_mod' t k] at h2
    rw [h2]
    have hs : t < (flatK enc k L.toArray).size := by simpa using ht
    rw [getElem!_pos _ t hs] at h1
    rw [Array.getElem?_toList, Array.getElem?_eq_getElem hs, h1]
    have h3 : L.toArray[t / k]! = L[t / k] := by rw [getElem!_pos L.toArray (t / k) (by simpa using hq)]; simp
    rw [h3]
    have h4 : t % k < (enc L[t / k]).length := by rw [hk]; exact hr
    rw [getElem!_pos (enc L[t / k]) (t % k) h4, List.getElem?_eq_getElem h4]
  · rw [List.getElem?_eq_none (by simp; omega), List.getElem?_eq_none (by omega)]
theorem holds_own {w : World} {B : Nat} {T : TypeId} {g cap : Nat} {L : List α} (h : w.ownsRow B T k (.slice (some ⟨g, 0, none⟩) L.length cap) L.length (L.flatMap enc)) : HoldsK enc k w g 0 L.toArray := by
  rcases h.2 with ⟨e, _⟩ | ⟨g', cap', cur, e, hb, hg, hn, hm, hs, ht⟩
  · cases e
  · injection e with e1 e2 e3
    injection e1 with e1
    injection e1 with e4 e5
    subst e4 e3
    intro j hj
    have hj' : j < L.length * k := by simpa using hj
    have hck : L.length * k ≤ cap * k := Nat.mul_le_mul_right _ hn
    have hlt : j < cur.size := by omega
    have h1 : (flatK enc k L.toArray)[j]! = cur[j] := by
      rw [getElem!_pos _ j hj]
      have h2 := flatK_flat enc k hk L
      have h3 : (flatK enc k L.toArray).toList[j]? = some cur[j] := by
        rw [h2, ← ht, List.getElem?_take_of_lt hj', Array.getElem?_toList, Array.getElem?_eq_getElem hlt]
      rw [Array.getElem?_toList, Array.getElem?_eq_getElem hj] at h3
      exact Option.some.inj h3
    rw [Nat.zero_add, h1]
    refine ⟨?_, ?_⟩
    · simp only [World.cell?, hg]
      exact Array.getElem?_eq_getElem hlt
    · simp only [World.frozen?, hg]
      simp
theorem sorted_world {w : World} {g : Nat} {d d' : Array α} (h : HoldsK enc k w g 0 d) (hs : d'.size = d.size) (m : Nat) (os : Array Obj) :
    sortWorldK enc k w g 0 m d' os = grow ((Go.Sort.ahead w m).setCells g 0 (d'.toList.flatMap enc)) os := by
  unfold sortWorldK putRowK
  have h0 : putRow id (Go.Sort.ahead w m) g 0 (flatK enc k d) = Go.Sort.ahead w m := putRow_self id _ g 0 _ h
  have hl : ((d'.toList).flatMap enc).length = d.size * k := by rw [flatR_len enc k _ (fun x _ => hk x), Array.length_toList, hs]
  have h1 := setCells_putRow (Go.Sort.ahead w m) g 0 (d'.toList.flatMap enc) 0 (flatK enc k d) (by rw [size_flatK, hl]; omega)
  rw [Nat.add_zero, h0] at h1
  rw [h1]
  congr 2
  refine ext_get! (by simp [hs]) fun t ht => ?_
  have ht' : t < d'.size * k := by simpa using ht
  rw [get_setMany _ _ _ t (by simpa [hs] using ht'), if_pos ⟨Nat.zero_le _, by rw [hl, ← hs]; omega⟩, Nat.sub_zero]
  have h2 := flatK_flat enc k hk d'.toList
  rw [Array.toArray_toList] at h2
  rw [← h2]
  rw [getElem!_pos _ t ht, getElem!_pos _ t (by simpa using ht), Array.getElem_toList]
theorem sorted_own {w : World} {B : Nat} {T : TypeId} {g cap : Nat} {L : List α} {d' : Array α} (h : w.ownsRow B T k (.slice (some ⟨g, 0, none⟩) L.length cap) L.length (L.flatMap enc)) (hs : d'.size = L.length) (m : Nat) (os : Array Obj) :
    (sortWorldK enc k w g 0 m d' os).ownsRow B T k (.slice (some ⟨g, 0, none⟩) L.length cap) L.length (d'.toList.flatMap enc) ∧ Fr (fun j => j = g) w (sortWorldK enc k w g 0 m d' os) := by
  rw [sorted_world enc k hk (holds_own enc k hk h) (by simpa using hs) m os]
  have h1 : (Go.Sort.ahead w m).ownsRow B T k (.slice (some ⟨g, 0, none⟩) L.length cap) L.length (L.flatMap enc) := h
  exact ⟨ownsRow_grow (own_setAll h1 (by rw [flatR_len enc k _ (fun x _ => hk x), Array.length_toList, hs])) os, ((Fr.drewN (Fr.refl _ w) m).trans (setCells_fr g _ 0 (Go.Sort.ahead w m)) (fun _ _ h => h)).growW os⟩
end

theorem sorted_perm {α β : Type} [Inhabited α] (f : α → β) {lt : α → α → Bool} {r : β → β → Bool} (hr : ∀ x y, lt x y = r (f x) (f y)) {d d' : Array α} {S : List β} (hp : PermIn 0 d.size d d') (hs : SortedIn lt 0 d.size d') (hS : S.Perm (d.toList.map f)) (h1 : S.Pairwise (fun a b => r b a = false)) (hT : ∀ a ∈ S, ∀ b ∈ S, r a b = false → r b a = false → a = b) : d'.toList.map f = S := by
  obtain ⟨hsz, _, hperm⟩ := hp
  have e1 : d'.extract 0 d.size = d' := by rw [← hsz]; exact Array.extract_size
  rw [e1, Array.extract_size] at hperm
  have hp2 : (d'.toList.map f).Perm S := (hperm.map f).trans hS.symm
  refine List.Perm.eq_of_pairwise (le := fun x y => r y x = false) ?_ ?_ h1 hp2
  · intro a b ha hb h2 h3
    exact hT a (hp2.mem_iff.1 ha) b hb h3 h2
  · rw [List.pairwise_map, List.pairwise_iff_getElem]
    intro i j hi hj hij
    have h4 := hs i j (Nat.zero_le _) hij (by rw [← hsz]; simpa using hj)
    rw [getElem!_pos _ i (by simpa using hi), getElem!_pos _ j (by simpa using hj), hr] at h4
    simpa using h4
theorem lift_list {α : Type} {q : α → Prop} : ∀ (H : List α), (∀ h ∈ H, q h) → ∃ L : List { h : α // q h }, L.map Subtype.val = H
  | [], _ => ⟨[], rfl⟩
  | h :: H, ok => by
    obtain ⟨L, hL⟩ := lift_list H (fun x hx => ok x (List.mem_cons_of_mem _ hx))
    exact ⟨⟨h, ok h (List.mem_cons_self ..)⟩ :: L, by rw [List.map_cons, hL]⟩
end Go
