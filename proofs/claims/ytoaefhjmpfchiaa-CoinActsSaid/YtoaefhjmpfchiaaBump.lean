/- m[k]++ and the like: an entry read, fetched and stored. -/
import Derived.Test.YtoaefhjmpfchiaaBuild
namespace Go
open Go.RowKit Go.Maps Go.MapKept
section
variable {P : Program} {kt et t : TypeId} {w : World} {b : Nat} {L : List (Value × Value)}
theorem MapAt.entry_hitM (K : Keyed P kt) (ht : P.underlying t = some (.map kt et)) {L1 L2 : List (Value × Value)} {key v0 : Value} (h : MapAt P kt w b (L1 ++ (key, v0) :: L2)) (hk : ∃ l, keyOf P kt key = some l) :
    ∃ w' s, (Instr.mapEntry t (.map (some b)) key).run P w = .ok (.tuple #[v0, .int .i64 s]) w' ∧ Entry P kt w' b L1 key L2 s ∧ Turned b w w' ∧ MapAt P kt w' b (L1 ++ (key, v0) :: L2) := by
  obtain ⟨es, clk, hb, hs, hm, hL, hks⟩ := h
  obtain ⟨l, hl⟩ := hk
  obtain ⟨e, h1, h2, h3, h4⟩ := find_parts K w hs hks hl hL
  have hmod : es.modify L1.length (fun e => { e with key := key }) = es := by
    apply Array.ext_getElem?
    intro j
    rw [Array.getElem?_modify]
    split
    · rename_i hj; subst hj; rw [h2]; simp [← h3]
    · rfl
  have hrun : (Instr.mapEntry t (.map (some b)) key).run P w = .ok (.tuple #[v0, .int .i64 (e.born : Int)]) { w with heap := w.heap.setIfInBounds b (.map es clk) } := by
    simp [Instr.mapEntry, run_underlying ht, MapKept.run_getObj_map hb, K.check w false hl, h1, h2, h3, h4, K.stays w hl, MapKept.run_setObj_map _ hb, Result.andThen, goInt, hmod]
  exact ⟨_, _, hrun, ⟨es, clk, e, heap_set_same hb, hs, hm, ⟨v0, hL⟩, hks, h2, rfl⟩, turned_set _ _ _, ⟨es, clk, heap_set_same hb, hs, hm, hL, hks⟩⟩

theorem MapAt.entry_missM (K : Keyed P kt) (ht : P.underlying t = some (.map kt et)) {z : Value} (hz : ∀ w, (zeroValue et).run P w = .ok z w) (h : MapAt P kt w b L) {key : Value} (hk : ∃ l, keyOf P kt key = some l) (hno : ∀ p ∈ L, p.1 ≠ key) (hroom : L.length < maxLen) :
    ∃ w' s, (Instr.mapEntry t (.map (some b)) key).run P w = .ok (.tuple #[z, .int .i64 s]) w' ∧ Entry P kt w' b L key [] s ∧ Turned b w w' ∧ MapAt P kt w' b (L ++ [(key, z)]) := by
  obtain ⟨es, clk, hb, hs, hm, rfl, hks⟩ := h
  obtain ⟨l, hl⟩ := hk
  rcases K.find w hl es.toList hks with ⟨h1, h2⟩ | ⟨j, e, h1, h2, h3⟩
  · have hrun : (Instr.mapEntry t (.map (some b)) key).run P w = .ok (.tuple #[z, .int .i64 (clk : Int)]) { w with heap := w.heap.setIfInBounds b (.map (es.push { key, val := z, born := clk }) (clk + 1)) } := by
      simp [Instr.mapEntry, run_underlying ht, MapKept.run_getObj_map hb, K.check w false hl, h1, hz, MapKept.run_setObj_map _ hb, Result.andThen, goInt]
    have a1 : (es.push { key, val := z, born := clk }).size ≤ maxLen := by simp [kv] at hroom ⊢; omega
    have a2 : ∀ e ∈ (es.push { key, val := z, born := clk }).toList, ∃ l, keyOf P kt e.key = some l := by
      intro e he
      simp only [Array.toList_push, List.mem_append, List.mem_singleton] at he
      rcases he with he | rfl
      · exact hks e he
      · exact ⟨l, hl⟩
    refine ⟨_, _, hrun, ⟨_, _, ⟨key, z, clk⟩, heap_set_same hb, stamped_push hs h2, a1, ⟨z, by simp [kv]⟩, a2, ?_, rfl⟩, turned_set _ _ _, ⟨_, _, heap_set_same hb, stamped_push hs h2, a1, by simp [kv], a2⟩⟩
    simp [kv]
  · exact absurd h3 (hno _ (kv_mem (List.mem_of_getElem? h2)))
end
section
variable {P : Program} {kt et t : TypeId} {w : World} {b : Nat} {κ ι : Type} {kV : κ → Value} {vV : ι → Value} {M : List (κ × ι)}
theorem MapIs.bump (h : MapIs P kt kV vV w b M) (K : Keyed P kt) (ht : P.underlying t = some (.map kt et)) (inj : ∀ a b, kV a = kV b → a = b) {z : ι} (hz : ∀ w, (zeroValue et).run P w = .ok (vV z) w) {k : κ} (hk : ∃ l, keyOf P kt (kV k) = some l) (room : M.length < maxLen) :
    ∃ (v0 : ι) (w1 : World) (s : Int) (M1 : List (κ × ι)), (v0 = z ∨ (k, v0) ∈ M) ∧ (Instr.mapEntry t (.map (some b)) (kV k)).run P w = .ok (.tuple #[vV v0, .int .i64 s]) w1 ∧ Turned b w w1 ∧ MapIs P kt kV vV w1 b M1 ∧
      (∀ w', MapIs P kt kV vV w' b M → (Instr.lookup t (.map (some b)) (kV k) false).run P w' = .ok (vV v0) w') ∧
      (∀ w', MapIs P kt kV vV w' b M1 → (Instr.lookup t (.map (some b)) (kV k) false).run P w' = .ok (vV v0) w') ∧
      (∀ (v : ι) (w2 : World) (W : Nat → Prop), Fr W w1 w2 → ¬ W b → ∃ w3 M', (Instr.entryStore t (.map (some b)) (.int .i64 s) (vV v)).run P w2 = .ok () w3 ∧ MapIs P kt kV vV w3 b M' ∧ Upd M k v M' ∧ Turned b w2 w3 ∧ M'.length ≤ M.length + 1) := by
  by_cases hin : ∃ v0, (k, v0) ∈ M
  · obtain ⟨v0, hm⟩ := hin
    obtain ⟨A, B, rfl⟩ := List.append_of_mem hm
    have h0 := h
    unfold MapIs at h
    rw [List.map_append, List.map_cons] at h
    obtain ⟨w1, s, hr, hE, hT, hM⟩ := MapAt.entry_hitM K ht h hk
    have hM1 : MapIs P kt kV vV w1 b (A ++ (k, v0) :: B) := by unfold MapIs; rw [List.map_append, List.map_cons]; exact hM
    have hlk : ∀ w', MapIs P kt kV vV w' b (A ++ (k, v0) :: B) → (Instr.lookup t (.map (some b)) (kV k) false).run P w' = .ok (vV v0) w' := fun w' h' => (h'.hit K ht inj hz hk hm).2
    refine ⟨v0, w1, s, _, .inr hm, hr, hT, hM1, hlk, hlk, fun v w2 W f hW => ?_⟩
    obtain ⟨w3, hst, hM3, hT3⟩ := (hE.keep f hW).store t (vV v)
    have hM3' : MapIs P kt kV vV w3 b (A ++ (k, v) :: B) := by unfold MapIs; rw [List.map_append, List.map_cons]; exact hM3
    refine ⟨w3, _, hst, hM3', ?_, hT3, by simp⟩
    have hnd := h0.nodup
    rw [List.map_append, List.map_cons] at hnd
    obtain ⟨n1, n2, n3⟩ := List.nodup_append.1 hnd
    obtain ⟨n4, n5⟩ := List.nodup_cons.1 n2
    have hn1 : ∀ x, (k, x) ∉ A := fun x hx => n3 k (List.mem_map.2 ⟨_, hx, rfl⟩) k (by simp) rfl
    have hn2 : ∀ x, (k, x) ∉ B := fun x hx => n4 (List.mem_map.2 ⟨_, hx, rfl⟩)
    intro k' v'
    simp only [List.mem_append, List.mem_cons, Prod.mk.injEq]
    constructor
    · rintro (h1 | h1 | h1)
      · exact .inr ⟨fun e => hn1 _ (e ▸ h1), .inl h1⟩
      · exact .inl h1
      · exact .inr ⟨fun e => hn2 _ (e ▸ h1), .inr (.inr h1)⟩
    · rintro (h1 | ⟨h1, h2 | h2 | h2⟩)
      · exact .inr (.inl h1)
      · exact .inl h2
      · exact absurd h2.1 h1
      · exact .inr (.inr h2)
  · have hno : ∀ v, (k, v) ∉ M := fun v hv => hin ⟨v, hv⟩
    obtain ⟨w1, s, hr, hE, hT, hM⟩ := MapAt.entry_missM K ht hz h hk (fun p hp e => by
      obtain ⟨x, hx, rfl⟩ := List.mem_map.1 hp
      exact hin ⟨x.2, by rw [← inj _ _ e]; exact hx⟩) (by simpa using room)
    have hM1 : MapIs P kt kV vV w1 b (M ++ [(k, z)]) := by unfold MapIs; rw [List.map_append]; exact hM
    refine ⟨z, w1, s, _, .inl rfl, hr, hT, hM1, fun w' h' => (h'.miss K ht inj hz hk hno).2, fun w' h' => (h'.hit K ht inj hz hk (v := z) (by simp)).2, fun v w2 W f hW => ?_⟩
    obtain ⟨w3, hst, hM3, hT3⟩ := (hE.keep f hW).store t (vV v)
    have hM3' : MapIs P kt kV vV w3 b (M ++ [(k, v)]) := by unfold MapIs; rw [List.map_append]; exact hM3
    refine ⟨w3, _, hst, hM3', ?_, hT3, by simp⟩
    intro k' v'
    simp only [List.mem_append, List.mem_singleton, Prod.mk.injEq]
    constructor
    · rintro (h1 | h1)
      · exact .inr ⟨fun e => hin ⟨v', e ▸ h1⟩, h1⟩
      · exact .inl h1
    · rintro (h1 | ⟨_, h2⟩)
      · exact .inr h1
      · exact .inl h2
variable {o : Oper} {w' : World} {ev : Operand → Value} {m k x : Operand} {mv kv' xv v : Value}
theorem exec_mapEntry (ho : o.op = .mapEntry t m k) (hm : ev m = mv) (hk : ev k = kv') (hr : (Instr.mapEntry t mv kv').run P w = .ok v w') : (execOp ev o).run P w = .ok (.value v) w' := by
  simp only [execOp, ho, hm, hk, Sem.run_bind, hr, Result.andThen_ok, Sem.run_pure]
theorem exec_entryStore {i : Operand} {iv : Value} (ho : o.op = .entryStore t m i x) (hm : ev m = mv) (hi : ev i = iv) (hx : ev x = xv) (hr : (Instr.entryStore t mv iv xv).run P w = .ok () w') : (execOp ev o).run P w = .ok .skip w' := by
  simp only [execOp, ho, hm, hi, hx, Sem.run_bind, hr, Result.andThen_ok, Sem.run_pure]
end
end Go
