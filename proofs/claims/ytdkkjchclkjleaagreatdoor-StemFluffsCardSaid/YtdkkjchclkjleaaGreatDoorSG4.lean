/- m[k]++ and the like: an entry read, fetched and stored. -/
import Derived.Shelf.GgSortFunc.InsertionK
import Derived.Test.YtdkkjchclkjleaaGreatDoorSG3
import Derived.Test.YtdkkjchclkjleaaGreatDoorSG2
set_option linter.unusedVariables false
set_option linter.unusedSimpArgs false
set_option linter.unnecessarySimpa false
set_option linter.all false
namespace Go
open Go.RowKit Go.Maps Go.MapKept
section
variable {P : Program} {kt et t : TypeId} {w : World} {b : Nat} {L : List (Value × Value)}
theorem yP.entry_hitM (K : Keyed P kt) (ht : P.underlying t = some (.map kt et)) {L1 L2 : List (Value × Value)} {key v0 : Value} (h : yP P kt w b (L1 ++ (key, v0) :: L2)) (hk : ∃ l, keyOf P kt key = some l) :
  ∃ w' s, (Instr.mapEntry t (.map (some b)) key).run P w = .ok (.tuple #[v0, .int .i64 s]) w' ∧ Entry P kt w' b L1 key L2 s ∧ ji b w w' ∧ yP P kt w' b (L1 ++ (key, v0) :: L2) := by
 obtain ⟨es, clk, hb, hs, hm, hL, hks⟩ := h
 obtain ⟨l, hl⟩ := hk
 obtain ⟨e, h1, h2, h3, h4⟩ := YY K w hs hks hl hL
 have hmod : es.modify L1.length (fun e => { e with key := key }) = es := by
  apply Array.ext_getElem?
  intro j
  rw [Array.getElem?_modify]
  split
  ·rename_i hj; subst hj; rw [h2]; simp [← h3]
  ·rfl
 have hrun : (Instr.mapEntry t (.map (some b)) key).run P w = .ok (.tuple #[v0, .int .i64 (e.born : Int)]) { w with heap := w.heap.setIfInBounds b (.map es clk) } := by
  simp [Instr.mapEntry, run_underlying ht, MapKept.run_getObj_map hb, K.check w false hl, h1, h2, h3, h4, K.stays w hl, MapKept.run_setObj_map _ hb, Result.andThen, goInt, hmod]
 exact ⟨_, _, hrun, ⟨es, clk, e, xC hb, hs, hm, ⟨v0, hL⟩, hks, h2, rfl⟩, vR _ _ _, ⟨es, clk, xC hb, hs, hm, hL, hks⟩⟩
theorem yP.entry_missM (K : Keyed P kt) (ht : P.underlying t = some (.map kt et)) {z : Value} (hz : ∀ w, (zeroValue et).run P w = .ok z w) (h : yP P kt w b L) {key : Value} (hk : ∃ l, keyOf P kt key = some l) (hno : ∀ p ∈ L, p.1 ≠ key) (hroom : L.length < maxLen) :
  ∃ w' s, (Instr.mapEntry t (.map (some b)) key).run P w = .ok (.tuple #[z, .int .i64 s]) w' ∧ Entry P kt w' b L key [] s ∧ ji b w w' ∧ yP P kt w' b (L ++ [(key, z)]) := by
 obtain ⟨es, clk, hb, hs, hm, rfl, hks⟩ := h
 obtain ⟨l, hl⟩ := hk
 rcases K.find w hl es.toList hks with ⟨h1, h2⟩ | ⟨j, e, h1, h2, h3⟩
 ·have hrun : (Instr.mapEntry t (.map (some b)) key).run P w = .ok (.tuple #[z, .int .i64 (clk : Int)]) { w with heap := w.heap.setIfInBounds b (.map (es.push { key, val := z, born := clk }) (clk + 1)) } := by
   simp [Instr.mapEntry, run_underlying ht, MapKept.run_getObj_map hb, K.check w false hl, h1, hz, MapKept.run_setObj_map _ hb, Result.andThen, goInt]
  have a1 : (es.push { key, val := z, born := clk }).size ≤ maxLen := by simp [kv] at hroom ⊢; omega
  have a2 : ∀ e ∈ (es.push { key, val := z, born := clk }).toList, ∃ l, keyOf P kt e.key = some l := by
   intro e he
   simp only [Array.toList_push, List.mem_append, List.mem_singleton] at he
   rcases he with he | rfl
   ·exact hks e he
   ·exact ⟨l, hl⟩
  refine ⟨_, _, hrun, ⟨_, _, ⟨key, z, clk⟩, xC hb, stamped_push hs h2, a1, ⟨z, by simp [kv]⟩, a2, ?_, rfl⟩, vR _ _ _, ⟨_, _, xC hb, stamped_push hs h2, a1, by simp [kv], a2⟩⟩
  simp [kv]
 ·exact absurd h3 (hno _ (zby (List.mem_of_getElem? h2)))
end
section
variable {P : Program} {kt et t : TypeId} {w : World} {b : Nat} {κ ι : Type} {kV : κ → Value} {vV : ι → Value} {M : List (κ × ι)}
theorem yl.bump (h : yl P kt kV vV w b M) (K : Keyed P kt) (ht : P.underlying t = some (.map kt et)) (inj : ∀ a b, kV a = kV b → a = b) {z : ι} (hz : ∀ w, (zeroValue et).run P w = .ok (vV z) w) {k : κ} (hk : ∃ l, keyOf P kt (kV k) = some l) (room : M.length < maxLen) :
  ∃ (v0 : ι) (w1 : World) (s : Int) (M1 : List (κ × ι)), (v0 = z ∨ (k, v0) ∈ M) ∧ (Instr.mapEntry t (.map (some b)) (kV k)).run P w = .ok (.tuple #[vV v0, .int .i64 s]) w1 ∧ ji b w w1 ∧ yl P kt kV vV w1 b M1 ∧
   (∀ w', yl P kt kV vV w' b M → (Instr.lookup t (.map (some b)) (kV k) false).run P w' = .ok (vV v0) w') ∧
   (∀ w', yl P kt kV vV w' b M1 → (Instr.lookup t (.map (some b)) (kV k) false).run P w' = .ok (vV v0) w') ∧
   (∀ (v : ι) (w2 : World) (W : Nat → Prop), Fr W w1 w2 → ¬ W b → ∃ w3 M', (Instr.entryStore t (.map (some b)) (.int .i64 s) (vV v)).run P w2 = .ok () w3 ∧ yl P kt kV vV w3 b M' ∧ Upd M k v M' ∧ ji b w2 w3 ∧ M'.length ≤ M.length + 1) := by
 by_cases hin : ∃ v0, (k, v0) ∈ M
 ·obtain ⟨v0, hm⟩ := hin
  obtain ⟨A, B, rfl⟩ := List.append_of_mem hm
  have h0 := h
  unfold yl at h
  rw [List.map_append, List.map_cons] at h
  obtain ⟨w1, s, hr, hE, hT, hM⟩ := yP.entry_hitM K ht h hk
  have hM1 : yl P kt kV vV w1 b (A ++ (k, v0) :: B) := by unfold yl; rw [List.map_append, List.map_cons]; exact hM
  have hlk : ∀ w', yl P kt kV vV w' b (A ++ (k, v0) :: B) → (Instr.lookup t (.map (some b)) (kV k) false).run P w' = .ok (vV v0) w' := fun w' h' => (h'.hit K ht inj hz hk hm).2
  refine ⟨v0, w1, s, _, .inr hm, hr, hT, hM1, hlk, hlk, fun v w2 W f hW => ?_⟩
  obtain ⟨w3, hst, hM3, hT3⟩ := (hE.keep f hW).store t (vV v)
  have hM3' : yl P kt kV vV w3 b (A ++ (k, v) :: B) := by unfold yl; rw [List.map_append, List.map_cons]; exact hM3
  refine ⟨w3, _, hst, hM3', ?_, hT3, by simp⟩
  have hnd := h0.nodup
  rw [List.map_append, List.map_cons] at hnd
  obtain ⟨n1, n2, n3⟩ := List.nodup_append.1 hnd
  obtain ⟨n4, n5⟩ := List.nodup_cons.1 n2
  have hn1 : ∀ x, (k, x) ∉ A := fun x hx => n3 k (List.mem_map.2 ⟨_, hx, rfl⟩) k (by simp) rfl
  have hn2 : ∀ x, (k, x) ∉ B := fun x hx => n4 (List.mem_map.2 ⟨_, hx, rfl⟩)
  intro k' v'
  simp only [List.mem_append, List.mem_cons, Prod.mk.injEq]
  constructor
  ·rintro (h1 | h1 | h1)
   ·exact .inr ⟨fun e => hn1 _ (e ▸ h1), .inl h1⟩
   ·exact .inl h1
   ·exact .inr ⟨fun e => hn2 _ (e ▸ h1), .inr (.inr h1)⟩
  ·rintro (h1 | ⟨h1, h2 | h2 | h2⟩)
   ·exact .inr (.inl h1)
   ·exact .inl h2
   ·exact absurd h2.1 h1
   ·exact .inr (.inr h2)
 ·have hno : ∀ v, (k, v) ∉ M := fun v hv => hin ⟨v, hv⟩
  obtain ⟨w1, s, hr, hE, hT, hM⟩ := yP.entry_missM K ht hz h hk (fun p hp e => by
   obtain ⟨x, hx, rfl⟩ := List.mem_map.1 hp
   exact hin ⟨x.2, by rw [← inj _ _ e]; exact hx⟩) (by simpa using room)
  have hM1 : yl P kt kV vV w1 b (M ++ [(k, z)]) := by unfold yl; rw [List.map_append]; exact hM
  refine ⟨z, w1, s, _, .inl rfl, hr, hT, hM1, fun w' h' => (h'.miss K ht inj hz hk hno).2, fun w' h' => (h'.hit K ht inj hz hk (v := z) (by simp)).2, fun v w2 W f hW => ?_⟩
  obtain ⟨w3, hst, hM3, hT3⟩ := (hE.keep f hW).store t (vV v)
  have hM3' : yl P kt kV vV w3 b (M ++ [(k, v)]) := by unfold yl; rw [List.map_append]; exact hM3
  refine ⟨w3, _, hst, hM3', ?_, hT3, by simp⟩
  intro k' v'
  simp only [List.mem_append, List.mem_singleton, Prod.mk.injEq]
  constructor
  ·rintro (h1 | h1)
   ·exact .inr ⟨fun e => hin ⟨v', e ▸ h1⟩, h1⟩
   ·exact .inl h1
  ·rintro (h1 | ⟨_, h2⟩)
   ·exact .inr h1
   ·exact .inl h2
variable {o : Oper} {w' : World} {ev : Operand → Value} {m k x : Operand} {mv kv' xv v : Value}
theorem zaz (ho : o.op = .mapEntry t m k) (hm : ev m = mv) (hk : ev k = kv') (hr : (Instr.mapEntry t mv kv').run P w = .ok v w') : (execOp ev o).run P w = .ok (.value v) w' := by
 simp only [execOp, ho, hm, hk, Sem.run_bind, hr, Result.andThen_ok, Sem.run_pure]
theorem QG {i : Operand} {iv : Value} (ho : o.op = .entryStore t m i x) (hm : ev m = mv) (hi : ev i = iv) (hx : ev x = xv) (hr : (Instr.entryStore t mv iv xv).run P w = .ok () w') : (execOp ev o).run P w = .ok .skip w' := by
 simp only [execOp, ho, hm, hi, hx, Sem.run_bind, hr, Result.andThen_ok, Sem.run_pure]
end
end Go

/- A row of one's own, sorted: what the shelf's world says of it. -/
namespace Go
open Go.RowKit Go.Maps Go.MapKept Go.Sort Go.Proofs
theorem Fr.growW {W : Nat → Prop} {a b : World} (h : Fr W a b) (os : Array Obj) : Fr W a (grow b os) :=
 ⟨h.os, h.tape, h.output, by rw [size_grow]; have := h.size; omega, fun i hi hn => by rw [heap_grow_old b os (Nat.lt_of_lt_of_le hi h.size)]; exact h.block i hi hn⟩
theorem zb3 {w : World} {B n k : Nat} {T : TypeId} {v : Value} {xs : List Value} (h : w.ownsRow B T k v n xs) (os : Array Obj) : (grow w os).ownsRow B T k v n xs :=
 zl h ((Fr.refl No w).growW os) (fun _ _ => id)
theorem zdH {w : World} {B n k : Nat} {T : TypeId} {g cap : Nat} {xs cs : List Value} (h : w.ownsRow B T k (.slice (some ⟨g, 0, none⟩) n cap) n xs) (hc : cs.length = n * k) :
  (w.setCells g 0 cs).ownsRow B T k (.slice (some ⟨g, 0, none⟩) n cap) n cs := by
 rcases h.2 with ⟨e, _⟩ | ⟨g', cap', cur, e, hb, hg, hn, hm, hs, ht⟩
 ·cases e
 ·injection e with e1 e2 e3
  injection e1 with e1
  injection e1 with e4 e5
  subst e4 e3
  have hck : n * k ≤ cap * k := Nat.mul_le_mul_right _ hn
  have hsz : cur.toList.length = cap * k := by rw [Array.length_toList, hs]
  refine ⟨hc, .inr ⟨g, cap, (qQ cur.toList 0 cs).toArray, rfl, hb, y7 g T cs 0 w cur hg, hn, hm, ?_, ?_⟩⟩
  ·rw [List.size_toArray, ZS, Array.length_toList, hs]
  ·rw [Yi _ _ _ _ (by rw [hc]; omega) (by omega), ht]
   have := qS cs [] xs [] (by rw [h.1, hc])
   simpa using this
theorem vz {w : World} {B n k : Nat} {T : TypeId} {g cap : Nat} {xs cs : List Value} (h : w.ownsRow B T k (.slice (some ⟨g, 0, none⟩) n cap) n xs) (o : Nat) (hc : o + cs.length ≤ n * k) :
  (w.setCells g o cs).ownsRow B T k (.slice (some ⟨g, 0, none⟩) n cap) n (qQ xs o cs) := by
 rcases h.2 with ⟨e, _⟩ | ⟨g', cap', cur, e, hb, hg, hn, hm, hs, ht⟩
 ·cases e
 ·injection e with e1 e2 e3
  injection e1 with e1
  injection e1 with e4 e5
  subst e4 e3
  have hck : n * k ≤ cap * k := Nat.mul_le_mul_right _ hn
  have hsz : cur.toList.length = cap * k := by rw [Array.length_toList, hs]
  refine ⟨by rw [ZS, h.1], .inr ⟨g, cap, (qQ cur.toList o cs).toArray, rfl, hb, y7 g T cs o w cur hg, hn, hm, ?_, ?_⟩⟩
  ·rw [List.size_toArray, ZS, Array.length_toList, hs]
  ·rw [Yi _ _ _ _ hc (by omega), ht]
theorem VH (xs cs : List Value) (o : Nat) (h : o + cs.length ≤ xs.length) : (qQ xs o cs).take (o + cs.length) = xs.take o ++ cs := by
 have e : xs = xs.take o ++ (xs.drop o).take cs.length ++ (xs.drop o).drop cs.length := by
  rw [List.append_assoc, List.take_append_drop, List.take_append_drop]
 have ho : (xs.take o).length = o := by rw [List.length_take]; omega
 have h1 := qS cs (xs.take o) ((xs.drop o).take cs.length) ((xs.drop o).drop cs.length) (by rw [List.length_take, List.length_drop]; omega)
 rw [ho, ← e] at h1
 rw [h1, List.take_append_of_le_length (by rw [List.length_append, ho]; omega)]
 exact List.take_of_length_le (by rw [List.length_append, ho]; omega)
section
variable {α : Type} [Inhabited α] (enc : α → List Value) (k : Nat) (hk : ∀ x, (enc x).length = k)
include hk
theorem VZ (L : List α) : (flatK enc k L.toArray).toList = L.flatMap enc := by
 apply List.ext_getElem?
 intro t
 have hl : (L.flatMap enc).length = L.length * k := xL enc k L (fun x _ => hk x)
 by_cases ht : t < L.length * k
 ·have k0 : 0 < k := by rcases Nat.eq_zero_or_pos k with h | h; (subst h; simp at ht); exact h
  have hq : t / k < L.length := Nat.div_lt_of_lt_mul (by rw [Nat.mul_comm]; exact ht)
  have hr : t % k < k := Nat.mod_lt _ k0
  have h1 := get_flatK enc k L.toArray t (by simpa using ht)
  have h2 := Ju enc k L (fun x _ => hk x) (t / k) L[t / k] (List.getElem?_eq_getElem hq) (t % k) hr
  rw [Nat.div_add_mod' t k] at h2
  rw [h2]
  have hs : t < (flatK enc k L.toArray).size := by simpa using ht
  rw [getElem!_pos _ t hs] at h1
  rw [Array.getElem?_toList, Array.getElem?_eq_getElem hs, h1]
  have h3 : L.toArray[t / k]! = L[t / k] := by rw [getElem!_pos L.toArray (t / k) (by simpa using hq)]; simp
  rw [h3]
  have h4 : t % k < (enc L[t / k]).length := by rw [hk]; exact hr
  rw [getElem!_pos (enc L[t / k]) (t % k) h4, List.getElem?_eq_getElem h4]
 ·rw [List.getElem?_eq_none (by simp; omega), List.getElem?_eq_none (by omega)]
theorem zaO {w : World} {B : Nat} {T : TypeId} {g cap : Nat} {L : List α} (h : w.ownsRow B T k (.slice (some ⟨g, 0, none⟩) L.length cap) L.length (L.flatMap enc)) : HoldsK enc k w g 0 L.toArray := by
 rcases h.2 with ⟨e, _⟩ | ⟨g', cap', cur, e, hb, hg, hn, hm, hs, ht⟩
 ·cases e
 ·injection e with e1 e2 e3
  injection e1 with e1
  injection e1 with e4 e5
  subst e4 e3
  intro j hj
  have hj' : j < L.length * k := by simpa using hj
  have hck : L.length * k ≤ cap * k := Nat.mul_le_mul_right _ hn
  have hlt : j < cur.size := by omega
  have h1 : (flatK enc k L.toArray)[j]! = cur[j] := by
   rw [getElem!_pos _ j hj]
   have h2 := VZ enc k hk L
   have h3 : (flatK enc k L.toArray).toList[j]? = some cur[j] := by
    rw [h2, ← ht, List.getElem?_take_of_lt hj', Array.getElem?_toList, Array.getElem?_eq_getElem hlt]
   rw [Array.getElem?_toList, Array.getElem?_eq_getElem hj] at h3
   exact Option.some.inj h3
  rw [Nat.zero_add, h1]
  refine ⟨?_, ?_⟩
  ·simp only [World.cell?, hg]
   exact Array.getElem?_eq_getElem hlt
  ·simp only [World.frozen?, hg]
   simp
theorem zbF {w : World} {g : Nat} {d d' : Array α} (h : HoldsK enc k w g 0 d) (hs : d'.size = d.size) (m : Nat) (os : Array Obj) :
  sortWorldK enc k w g 0 m d' os = grow ((Go.Sort.ahead w m).setCells g 0 (d'.toList.flatMap enc)) os := by
 unfold sortWorldK putRowK
 have h0 : putRow id (Go.Sort.ahead w m) g 0 (flatK enc k d) = Go.Sort.ahead w m := putRow_self id _ g 0 _ h
 have hl : ((d'.toList).flatMap enc).length = d.size * k := by rw [xL enc k _ (fun x _ => hk x), Array.length_toList, hs]
 have h1 := setCells_putRow (Go.Sort.ahead w m) g 0 (d'.toList.flatMap enc) 0 (flatK enc k d) (by rw [size_flatK, hl]; omega)
 rw [Nat.add_zero, h0] at h1
 rw [h1]
 congr 2
 refine ext_get! (by simp [hs]) fun t ht => ?_
 have ht' : t < d'.size * k := by simpa using ht
 rw [get_setMany _ _ _ t (by simpa [hs] using ht'), if_pos ⟨Nat.zero_le _, by rw [hl, ← hs]; omega⟩, Nat.sub_zero]
 have h2 := VZ enc k hk d'.toList
 rw [Array.toArray_toList] at h2
 rw [← h2]
 rw [getElem!_pos _ t ht, getElem!_pos _ t (by simpa using ht), Array.getElem_toList]
theorem Vo {w : World} {B : Nat} {T : TypeId} {g cap : Nat} {L : List α} {d' : Array α} (h : w.ownsRow B T k (.slice (some ⟨g, 0, none⟩) L.length cap) L.length (L.flatMap enc)) (hs : d'.size = L.length) (m : Nat) (os : Array Obj) :
  (sortWorldK enc k w g 0 m d' os).ownsRow B T k (.slice (some ⟨g, 0, none⟩) L.length cap) L.length (d'.toList.flatMap enc) ∧ Fr (fun j => j = g) w (sortWorldK enc k w g 0 m d' os) := by
 rw [zbF enc k hk (zaO enc k hk h) (by simpa using hs) m os]
 have h1 : (Go.Sort.ahead w m).ownsRow B T k (.slice (some ⟨g, 0, none⟩) L.length cap) L.length (L.flatMap enc) := h
 exact ⟨zb3 (zdH h1 (by rw [xL enc k _ (fun x _ => hk x), Array.length_toList, hs])) os, ((Fr.drewN (Fr.refl _ w) m).trans (zJ g _ 0 (Go.Sort.ahead w m)) (fun _ _ h => h)).growW os⟩
end
theorem sorted_perm {α β : Type} [Inhabited α] (f : α → β) {lt : α → α → Bool} {r : β → β → Bool} (hr : ∀ x y, lt x y = r (f x) (f y)) {d d' : Array α} {S : List β} (hp : PermIn 0 d.size d d') (hs : SortedIn lt 0 d.size d') (hS : S.Perm (d.toList.map f)) (h1 : S.Pairwise (fun a b => r b a = false)) (hT : ∀ a ∈ S, ∀ b ∈ S, r a b = false → r b a = false → a = b) : d'.toList.map f = S := by
 obtain ⟨hsz, _, hperm⟩ := hp
 have e1 : d'.extract 0 d.size = d' := by rw [← hsz]; exact Array.extract_size
 rw [e1, Array.extract_size] at hperm
 have hp2 : (d'.toList.map f).Perm S := (hperm.map f).trans hS.symm
 refine List.Perm.eq_of_pairwise (le := fun x y => r y x = false) ?_ ?_ h1 hp2
 ·intro a b ha hb h2 h3
  exact hT a (hp2.mem_iff.1 ha) b hb h3 h2
 ·rw [List.pairwise_map, List.pairwise_iff_getElem]
  intro i j hi hj hij
  have h4 := hs i j (Nat.zero_le _) hij (by rw [← hsz]; simpa using hj)
  rw [getElem!_pos _ i (by simpa using hi), getElem!_pos _ j (by simpa using hj), hr] at h4
  simpa using h4
theorem zbj {α : Type} {q : α → Prop} : ∀ (H : List α), (∀ h ∈ H, q h) → ∃ L : List { h : α // q h }, L.map Subtype.val = H
 | [], _ => ⟨[], rfl⟩
 | h :: H, ok => by
  obtain ⟨L, hL⟩ := zbj H (fun x hx => ok x (List.mem_cons_of_mem _ hx))
  exact ⟨⟨h, ok h (List.mem_cons_self ..)⟩ :: L, by rw [List.map_cons, hL]⟩
end Go

/- A region whose order of evaluation is open, walked as a tree: reads as soon as they may come up; where only operations that change the world may come up, each of them is tried. -/
namespace Go
section
variable {P : Program} {ops : Array Oper} {S : World → Prop}
def Xp (ops : Array Oper) (L : List Nat) (i : Nat) : Bool := L.all fun k => !Region.waitsFor .any ops i k
def Zy (P : Program) (ops : Array Oper) (eff : List Nat) (S : World → Prop) (Q : Act → World → Prop) : Nat → List Nat → Act → World → Prop
 | 0, _, a, w => Q a w
 | n + 1, L, a, w =>
  (∃ i o v, i ∈ L ∧ Xp ops L i = true ∧ ops[i]? = some o ∧ YieldsIf P ops S o v a ∧ Zy P ops eff S Q n (L.erase i) (a.put o.dst v) w) ∨
  (∀ j ∈ L, Xp ops L j = true → ∃ o, ops[j]? = some o ∧ Region.wanted o (yielded ops a.tmps) = true ∧ o.wp P a w (fun a' w' => S w' ∧ Zy P ops eff S Q n (L.erase j) a' w') NoQ)
def zdD (ops : Array Oper) : Bool :=
 Region.noSelect ops && J6 ops &&
 ((List.range ops.size).all fun i => (List.range ops.size).all fun j => decide (j < i) || !Region.waitsFor .any ops i j) &&
 ((List.range ops.size).all fun j => (ops[j]?).any fun o => o.after.all fun e => !Region.binds .any e || decide (e.on < ops.size))
theorem zdW {eff : List Nat} (hok : zdD ops = true) {Q : Exit → Act → World → Prop} (hQ : ∀ c a d v w, Q (.panic c) (Act.put a d v) w → Q (.panic c) a w) :
  ∀ (n : Nat) (listed : Array Bool) (a : Act) (w : World), listed.size = ops.size → (unl ops listed).length = n → S w →
   Zy P ops eff S (Q .normal) n (unl ops listed) a w → wpAnyH P .any ops Q S n listed a w := by
 simp only [zdD, Bool.and_eq_true] at hok
 obtain ⟨⟨⟨hns, hap⟩, hord⟩, hin⟩ := hok
 have hsel := Region.noSelect_spec hns
 have hon : ∀ (i : Nat) (oi : Oper), ops[i]? = some oi → ∀ e ∈ oi.after, Region.binds .any e = true → e.on < ops.size := fun i oi hoi e he hb => by
  have h2 := List.all_eq_true.1 hin i (List.mem_range.2 (Array.getElem?_eq_some_iff.1 hoi).1)
  rw [hoi] at h2
  have h3 := Array.all_eq_true'.1 h2 e he
  simpa only [hb, Bool.not_true, Bool.false_or, decide_eq_true_eq] using h3
 have hlow : ∀ i j, i < ops.size → Region.waitsFor .any ops i j = true → j < i := fun i j hi hw => by
  obtain ⟨oi, hoi, e, he, hb, hon'⟩ := Region.waitsFor_spec hw
  have h4 := List.all_eq_true.1 (List.all_eq_true.1 hord i (List.mem_range.2 hi)) j (List.mem_range.2 (hon' ▸ hon i oi hoi e he hb))
  simpa [hw] using h4
 intro n
 induction n with
 | zero =>
  intro listed a w hsz hlen hS H
  have hnil : unl ops listed = [] := List.eq_nil_of_length_eq_zero hlen
  refine ⟨?_, H⟩
  by_cases hr : Region.ready .any ops listed = []
  ·exact hr
  ·obtain ⟨j, hj⟩ := List.exists_mem_of_ne_nil _ hr
   obtain ⟨h0, o, ho, _⟩ := mem_ready.1 hj
   have : j ∈ unl ops listed := List.mem_filter.2 ⟨List.mem_range.2 (Array.getElem?_eq_some_iff.1 ho).1, by rw [h0]; rfl⟩
   rw [hnil] at this
   cases this
 | succ n ih =>
  intro listed a w hsz hlen hS H
  have memU : ∀ {j}, j ∈ unl ops listed ↔ j < ops.size ∧ listed.getD j true = false := fun {j} => by
   unfold unl
   rw [List.mem_filter, List.mem_range]
   simp
  have rdy : ∀ {j}, j ∈ Region.ready .any ops listed → j ∈ unl ops listed := fun {j} hj => by
   obtain ⟨h0, o, ho, _⟩ := mem_ready.1 hj
   exact memU.2 ⟨(Array.getElem?_eq_some_iff.1 ho).1, h0⟩
  have next : ∀ j, j ∈ unl ops listed → ∀ a' w', S w' → Zy P ops eff S (Q .normal) n ((unl ops listed).erase j) a' w' → wpAnyH P .any ops Q S n (listed.setIfInBounds j true) a' w' := fun j hj a' w' hS' hl => by
   refine ih _ a' w' (by simp [hsz]) ?_ hS' (by rw [Yn hsz]; exact hl)
   rw [Yn hsz, List.length_erase_of_mem hj, hlen]
   rfl
  have waitsReady : ∀ j, j ∈ Region.ready .any ops listed → ∀ k, k ∈ unl ops listed → Region.waitsFor .any ops j k = false := fun j hj k hk => by
   obtain ⟨_, oj, hoj, hall⟩ := mem_ready.1 hj
   refine qD hoj fun e he hb hek => ?_
   have h1 := hall e he hb
   rw [hek] at h1
   have h2 := (memU.1 hk).2
   have hk' : k < listed.size := by rw [hsz]; exact (memU.1 hk).1
   simp [hk'] at h1 h2
   rw [h1] at h2
   cases h2
  have toReady : ∀ i, i ∈ unl ops listed → Xp ops (unl ops listed) i = true → i ∈ Region.ready .any ops listed := fun i hi hav => by
   have hi' := memU.1 hi
   obtain ⟨oi, hoi⟩ : ∃ o, ops[i]? = some o := ⟨_, Array.getElem?_eq_getElem hi'.1⟩
   refine mem_ready.2 ⟨hi'.2, oi, hoi, fun e he hb => ?_⟩
   have h1 := hon i oi hoi e he hb
   cases hl : listed.getD e.on true with
   | true =>
    have : e.on < listed.size := by rw [hsz]; exact h1
    simp [this] at hl ⊢
    exact hl
   | false =>
    have h2 := List.all_eq_true.1 hav e.on (memU.2 ⟨h1, hl⟩)
    have h3 : Region.waitsFor .any ops i e.on = true := by
     unfold Region.waitsFor
     rw [hoi]
     exact Array.any_eq_true'.2 ⟨e, he, by simp [hb]⟩
    rw [h3] at h2
    cases h2
  have toAvail : ∀ j, j ∈ Region.ready .any ops listed → Xp ops (unl ops listed) j = true := fun j hj =>
   List.all_eq_true.2 fun k hk => by rw [waitsReady j hj k hk]; rfl
  rcases H with ⟨i, oi, v, hi, hav, hoi, hy, hl⟩ | H
  ·have hir := toReady i hi hav
   refine wpAnyH_first hoi hsel (fun c a w => hQ c a oi.dst v w) n listed a w (fun j oj hoj hji hun hno => ?_) hir hy hS (next i hi _ _ hS hl)
   have hjU := memU.2 ⟨(Array.getElem?_eq_some_iff.1 hoj).1, hun⟩
   exact qp hap hoi hoj (fun e => hji e.symm) (qD hoj hno) (waitsReady i hir j hjU)
  ·have hne : Region.ready .any ops listed ≠ [] := by
    obtain ⟨i, L, hiL⟩ : ∃ i L, unl ops listed = i :: L := by
     cases hu : unl ops listed with
     | nil => rw [hu] at hlen; cases hlen
     | cons i L => exact ⟨i, L, rfl⟩
    have hpw := zbI (ops := ops) listed
    have hiU : i ∈ unl ops listed := by rw [hiL]; simp
    have hmin : ∀ k, k ∈ unl ops listed → i ≤ k := fun k hk => by
     rw [hiL] at hk hpw
     rcases List.mem_cons.1 hk with rfl | hk
     ·exact Nat.le_refl _
     ·exact Nat.le_of_lt ((List.pairwise_cons.1 hpw).1 k hk)
    have := toReady i hiU (List.all_eq_true.2 fun k hk => by
     cases hw : Region.waitsFor .any ops i k with
     | false => rfl
     | true => have h1 := hlow i k (memU.1 hiU).1 hw; have h2 := hmin k hk; omega)
    exact fun h0 => by rw [h0] at this; cases this
   refine ⟨fun h0 => absurd h0 hne, fun j hj => ?_⟩
   obtain ⟨oj, hoj, hwj, hwp⟩ := H j (rdy hj) (toAvail j hj)
   unfold wpOp
   rw [hoj]
   simp only [hwj, if_true]
   refine .inl ?_
   have H' := Oper.wp_mono (K' := fun a' w' => S w' ∧ wpAnyH P .any ops Q S n (listed.setIfInBounds j true) a' w') (fun a' w' ⟨hS', hl⟩ => ⟨hS', next j (rdy hj) a' w' hS' hl⟩) hwp
   unfold Oper.wp at H' ⊢
   generalize (execOp a.eval oj).run P w = r at *
   cases r with
   | ok m w' =>
    cases m <;> simp only [Oper.upon] at H' ⊢ <;> first
     | exact H'
     | exact Calls.mono H' (fun e w'' he => by
       cases e with
       | returned u => exact he
       | panicked c => exact he.elim
       | outgrown => obtain ⟨_, _, hf⟩ := he; exact hf.elim)
   | halt x w' => cases x <;> simp only [Oper.upon] at H' ⊢ <;> exact H'.elim
theorem ZZ {id : Nat} {a : Act} {w : World} {Q : Exit → Act → World → Prop} {l : List Oper} (n : Nat) (L : List Nat) (S : World → Prop) (hm : P.follows .mixedOrders = true) (hok : zdD l.toArray = true) (hn : l.length = n) (hL : List.range n = L)
  (hS : S w.drew)
  (h : ∀ K : Act → World → Prop, Shut (∀ a w, Q .normal a w → K a w) → Zy P l.toArray [] S K n L a w.drew) : (Code.region id l.toArray true).wp P Q a w := by
 refine wp_region_noPanic (wp_region_held (S := S) hm ?_)
 have hu : unl l.toArray (Array.replicate l.toArray.size false) = List.range l.toArray.size := by
  unfold unl
  rw [List.filter_eq_self]
  intro i hi
  have := List.mem_range.1 hi
  simp at this
  simp [this]
 have hsz : l.toArray.size = n := by simpa using hn
 refine zdW (eff := []) hok (fun _ _ _ _ _ h => h) _ _ a _ (by simp) (by rw [hu]; simp) hS (by rw [hu, hsz, hL]; exact h _ (fun _ _ h => h))
section
variable {K : Act → World → Prop} {a : Act} {w : World} {n : Nat} {L : List Nat} {o : Oper}
theorem JU (h : K a w) : Zy P ops [] S K 0 L a w := h
theorem xZ (i : Nat) (hm : (L.contains i && Xp ops L i) = true) (ho : ops.toList[i]? = some o) (hw : Region.wanted o (yielded ops a.tmps) = true) (h : ∃ v, (∀ w, S w → (execOp a.eval o).run P w = .ok (.value v) w) ∧ Zy P ops [] S K n (L.erase i) (a.put o.dst v) w) : Zy P ops [] S K (n + 1) L a w := by
 simp only [Bool.and_eq_true, List.contains_iff_mem] at hm
 obtain ⟨v, hy, h⟩ := h
 exact .inl ⟨i, o, v, hm.1, hm.2, by simpa using ho, .inl ⟨hw, hy⟩, h⟩
theorem x8 (i : Nat) (hm : (L.contains i && Xp ops L i) = true) (ho : ops.toList[i]? = some o) (hw : Region.wanted o (yielded ops a.tmps) = false) (h : Zy P ops [] S K n (L.erase i) (a.put o.dst undef) w) : Zy P ops [] S K (n + 1) L a w := by
 simp only [Bool.and_eq_true, List.contains_iff_mem] at hm
 exact .inl ⟨i, o, undef, hm.1, hm.2, by simpa using ho, .inr ⟨hw, rfl⟩, h⟩
theorem zec (js : List Nat) (hj : L.filter (Xp ops L) = js) (h : ∀ j ∈ js, ∃ o, ops[j]? = some o ∧ Region.wanted o (yielded ops a.tmps) = true ∧ ∀ K', Shut (∀ a' w', S w' → (S w' → Zy P ops [] S K n (L.erase j) a' w') → K' a' w') → o.wp P a w K' NoQ) : Zy P ops [] S K (n + 1) L a w := by
 refine .inr fun j hjL hav => ?_
 obtain ⟨o, ho, hw, hwp⟩ := h j (by rw [← hj]; exact List.mem_filter.2 ⟨hjL, hav⟩)
 exact ⟨o, ho, hw, hwp _ (fun _ _ h1 h2 => ⟨h1, h2 h1⟩)⟩
theorem qi (j : Nat) (hj : L.filter (Xp ops L) = [j]) (ho : ops.toList[j]? = some o) (hw : Region.wanted o (yielded ops a.tmps) = true) (h : ∀ K', Shut (∀ a' w', S w' → (S w' → Zy P ops [] S K n (L.erase j) a' w') → K' a' w') → o.wp P a w K' NoQ) : Zy P ops [] S K (n + 1) L a w :=
 zec [j] hj (fun j' hj' => by
  have := List.mem_singleton.1 hj'
  subst this
  exact ⟨o, by simpa using ho, hw, h⟩)
theorem Xa (j k : Nat) {o2 : Oper} (hj : L.filter (Xp ops L) = [j, k]) (ho : ops.toList[j]? = some o) (hw : Region.wanted o (yielded ops a.tmps) = true) (ho2 : ops.toList[k]? = some o2) (hw2 : Region.wanted o2 (yielded ops a.tmps) = true)
  (h : ∀ K', Shut (∀ a' w', S w' → (S w' → Zy P ops [] S K n (L.erase j) a' w') → K' a' w') → o.wp P a w K' NoQ)
  (h2 : ∀ K', Shut (∀ a' w', S w' → (S w' → Zy P ops [] S K n (L.erase k) a' w') → K' a' w') → o2.wp P a w K' NoQ) : Zy P ops [] S K (n + 1) L a w :=
 zec [j, k] hj (fun j' hj' => by
  rcases List.mem_cons.1 hj' with rfl | hj'
  ·exact ⟨o, by simpa using ho, hw, h⟩
  ·have := List.mem_singleton.1 hj'
   subst this
   exact ⟨o2, by simpa using ho2, hw2, h2⟩)
end
end
attribute [irreducible] Zy
end Go
