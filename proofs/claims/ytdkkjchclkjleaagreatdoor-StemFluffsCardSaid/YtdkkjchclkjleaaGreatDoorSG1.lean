/- Frames, slices that are read, and maps as lists of keys and values. -/
import Derived.WalkKit
import Derived.Maps.Own
import Derived.DeepKeys4
import Derived.Deep.Draws
import Derived.Lib.SliceRun
set_option linter.unusedVariables false
set_option linter.unusedSimpArgs false
set_option linter.unnecessarySimpa false
set_option linter.all false
namespace Go
open Go.MapKept Go.RowKit Go.Maps
structure Fr (W : Nat → Prop) (w w' : World) : Prop where
 os : w'.os = w.os
 tape : w'.tape = w.tape
 output : w'.output = w.output
 size : w.heap.size ≤ w'.heap.size
 block : ∀ k, k < w.heap.size → ¬ W k → w'.heap[k]? = w.heap[k]?
abbrev No : Nat → Prop := fun _ => False
theorem Fr.refl (W : Nat → Prop) (w : World) : Fr W w w := ⟨rfl, rfl, rfl, Nat.le_refl _, fun _ _ _ => rfl⟩
theorem Fr.trans {W V : Nat → Prop} {a b c : World} (h : Fr W a b) (k : Fr V b c) (hV : ∀ i, i < a.heap.size → V i → W i) : Fr W a c :=
 ⟨k.os.trans h.os, k.tape.trans h.tape, k.output.trans h.output, Nat.le_trans h.size k.size, fun i hi hn => (k.block i (Nat.lt_of_lt_of_le hi h.size) (fun hv => hn (hV i hi hv))).trans (h.block i hi hn)⟩
theorem Fr.trans0 {W : Nat → Prop} {a b c : World} (h : Fr W a b) (k : Fr No b c) : Fr W a c := h.trans k (fun _ _ h => h.elim)
theorem Fr.mono {W V : Nat → Prop} {a b : World} (h : Fr W a b) (hV : ∀ i, W i → V i) : Fr V a b :=
 ⟨h.os, h.tape, h.output, h.size, fun i hi hn => h.block i hi (fun hw => hn (hV i hw))⟩
theorem Fr.of0 {W : Nat → Prop} {a b : World} (h : Fr No a b) : Fr W a b := h.mono (fun _ h => h.elim)
theorem Fr.drew {W : Nat → Prop} {a b : World} (h : Fr W a b) : Fr W a b.drew := ⟨h.os, h.tape, h.output, h.size, h.block⟩
theorem Fr.drewN {W : Nat → Prop} {a b : World} (h : Fr W a b) (n : Nat) : Fr W a (b.drewN n) := ⟨h.os, h.tape, h.output, h.size, h.block⟩
theorem Fr.alloc {W : Nat → Prop} {a b : World} (h : Fr W a b) (o : Obj) : Fr W a (b.alloc o) :=
 ⟨h.os, h.tape, h.output, by simp; have := h.size; omega, fun i hi hn => by rw [Below.heap_alloc _ _ _ (Nat.lt_of_lt_of_le hi h.size)]; exact h.block i hi hn⟩
theorem Fr.setCell {W : Nat → Prop} {a b : World} (h : Fr W a b) (p : Addr) (hp : a.heap.size ≤ p.block ∨ W p.block) (u : Value) : Fr W a (b.setCell p u) :=
 ⟨h.os, h.tape, h.output, by simp [World.setCell]; exact h.size, fun i hi hn => by
  rw [Below.heap_setCell _ _ _ _ (by rintro rfl; rcases hp with hp | hp; omega; exact hn hp)]; exact h.block i hi hn⟩
theorem Fr.grown {W : Nat → Prop} {a b c : World} {row : Option Nat} (h : Fr W a b) (hg : b.grownBy c row) (hr : ∀ k, row = some k → a.heap.size ≤ k ∨ W k) : Fr W a c :=
 ⟨hg.os.trans h.os, hg.tape.trans h.tape, hg.output.trans h.output, Nat.le_trans h.size hg.size, fun i hi hn => by
  rw [hg.block i (Nat.lt_of_lt_of_le hi h.size) (fun e => by rcases hr i e.symm with h1 | h1; omega; exact hn h1)]; exact h.block i hi hn⟩
theorem Fr.cell {W : Nat → Prop} {w w' : World} (h : Fr W w w') {a : Addr} {v : Value} (hc : w.cell? a = some v) (hn : ¬ W a.block) : w'.cell? a = some v :=
 (World.cell?_of_block (h.block a.block (World.block_lt_of_cell? w a hc) hn)).trans hc
theorem Fr.obj {W : Nat → Prop} {w w' : World} (h : Fr W w w') {b : Nat} {o : Obj} (hc : w.heap[b]? = some o) (hn : ¬ W b) : w'.heap[b]? = some o :=
 (h.block b (Array.getElem?_eq_some_iff.1 hc).1 hn).trans hc
theorem xf {w : World} {b : Nat} {o : Obj} (h : w.heap[b]? = some o) : b < w.heap.size := (Array.getElem?_eq_some_iff.1 h).1
def qH (w : World) (v : Value) (n : Nat) (cs : List Value) : Prop :=
 (v = .slice none 0 0 ∧ n = 0 ∧ cs = []) ∨
 ∃ b off cap, v = .slice (some ⟨b, off, none⟩) n cap ∧ n ≤ cap ∧ cap ≤ maxLen ∧ (∀ j u, cs[j]? = some u → w.cell? ⟨b, off + j, none⟩ = some u) ∧ b < w.heap.size
theorem qH.keep {w w' : World} {v : Value} {n : Nat} {cs : List Value} (h : qH w v n cs) {W : Nat → Prop} (f : Fr W w w') (hb : ∀ b, v.ownBlock = some b → ¬ W b) : qH w' v n cs := by
 rcases h with h | ⟨b, off, cap, rfl, h1, h2, h3, h4⟩
 ·exact .inl h
 ·exact .inr ⟨b, off, cap, rfl, h1, h2, fun j u hj => f.cell (h3 j u hj) (hb b rfl), Nat.lt_of_lt_of_le h4 f.size⟩
theorem qH.lt {w : World} {v : Value} {n : Nat} {cs : List Value} (h : qH w v n cs) {b : Nat} (hb : v.ownBlock = some b) : b < w.heap.size := by
 rcases h with ⟨rfl, _⟩ | ⟨b', off, cap, rfl, h1, h2, h3, h4⟩
 ·cases hb
 ·simp [Value.ownBlock] at hb; subst hb; exact h4
theorem World.ownsRow.slice {w : World} {base : Nat} {e : TypeId} {size : Nat} {v : Value} {n : Nat} {xs : List Value} (h : w.ownsRow base e size v n xs) : qH w v n xs := by
 have hc := fun g hg => h.cells (g := g) hg
 rcases h.2 with ⟨rfl, rfl⟩ | ⟨g, cap, cur, rfl, hb, hg, hn, hm, hs, ht⟩
 ·exact .inl ⟨rfl, rfl, List.eq_nil_of_length_eq_zero (by simpa using h.1)⟩
 ·refine .inr ⟨g, 0, cap, rfl, hn, hm, fun j u hj => ?_, xf hg⟩
  have := hc g rfl j u hj
  have hadd : (⟨g, 0, none⟩ : Addr).add j = ⟨g, j, none⟩ := by unfold Addr.add; split <;> simp_all
  rw [hadd] at this
  simpa using this
def xq (w : World) (v : Value) (n : Nat) (cs : List Value) : Prop :=
 qH w v n cs ∨ ∃ a cap, v = .slice (some a) 0 cap ∧ n = 0 ∧ cs = [] ∧ cap ≤ maxLen
theorem qH.arg {w : World} {v : Value} {n : Nat} {cs : List Value} (h : qH w v n cs) : xq w v n cs := .inl h
theorem xq.keep {w w' : World} {v : Value} {n : Nat} {cs : List Value} (h : xq w v n cs) (f : Fr No w w') : xq w' v n cs := h.imp (fun h => h.keep f (fun _ _ => id)) id
theorem qH.len {w : World} {v : Value} {n : Nat} {cs : List Value} (h : qH w v n cs) : n ≤ maxLen := by
 rcases h with ⟨_, rfl, _⟩ | ⟨_, _, _, _, h1, h2, _⟩
 ·exact Nat.zero_le _
 ·exact Nat.le_trans h1 h2
theorem xq.len {w : World} {v : Value} {n : Nat} {cs : List Value} (h : xq w v n cs) : n ≤ maxLen := by
 rcases h with h | ⟨_, _, _, rfl, _⟩
 ·exact h.len
 ·exact Nat.zero_le _
theorem xq.form {w : World} {v : Value} {n : Nat} {cs : List Value} (h : xq w v n cs) : ∃ a c, v = .slice a n c := by
 rcases h with (⟨rfl, rfl, _⟩ | ⟨_, _, _, rfl, _⟩) | ⟨_, _, rfl, rfl, _⟩
 ·exact ⟨none, 0, rfl⟩
 ·exact ⟨_, _, rfl⟩
 ·exact ⟨_, _, rfl⟩
def zP (x : Int) : Value := .int .u8 x
def kv (es : Array MapEntry) : List (Value × Value) := es.toList.map fun e => (e.key, e.val)
def yP (P : Program) (kt : TypeId) (w : World) (b : Nat) (L : List (Value × Value)) : Prop :=
 ∃ es clk, w.heap[b]? = some (.map es clk) ∧ Stamped es clk ∧ es.size ≤ maxLen ∧ kv es = L ∧ ∀ e ∈ es.toList, ∃ l, keyOf P kt e.key = some l
section
variable {P : Program} {kt et t : TypeId} {w : World} {b : Nat} {L : List (Value × Value)}
theorem yP.lt (h : yP P kt w b L) : b < w.heap.size := by obtain ⟨es, clk, hb, _⟩ := h; exact xf hb
theorem yP.keep {w' : World} {W : Nat → Prop} (h : yP P kt w b L) (f : Fr W w w') (hn : ¬ W b) : yP P kt w' b L := by
 obtain ⟨es, clk, hb, r⟩ := h
 exact ⟨es, clk, f.obj hb hn, r⟩
theorem yP.of_heap {w' : World} (h : yP P kt w b L) (e : w'.heap[b]? = w.heap[b]?) : yP P kt w' b L := by
 obtain ⟨es, clk, hb, r⟩ := h
 exact ⟨es, clk, e.trans hb, r⟩
theorem yP.made (w : World) : yP P kt (w.alloc (.map #[] 0)) w.heap.size [] :=
 ⟨#[], 0, (MapKept.heap_alloc w _).1, stamped_empty 0, by simp, rfl, by simp⟩
theorem yP.nodup (h : yP P kt w b L) : (L.map (·.1)).Nodup := by
 obtain ⟨es, clk, hb, hs, hm, rfl, hk⟩ := h
 simpa [kv, Function.comp_def] using hs.2.2
theorem zby {es : Array MapEntry} {e : MapEntry} (h : e ∈ es.toList) : (e.key, e.val) ∈ kv es := List.mem_map.2 ⟨e, h, rfl⟩
inductive zet (L : List (Value × Value)) (key : Value) : Option Value → Prop where
 | hit {v : Value} (h : (key, v) ∈ L) : zet L key (some v)
 | miss (h : ∀ p ∈ L, p.1 ≠ key) : zet L key none
theorem yP.lookup (K : Keyed P kt) (ht : P.underlying t = some (.map kt et)) {z : Value} (hz : ∀ w, (zeroValue et).run P w = .ok z w) (h : yP P kt w b L) {key : Value} (hk : ∃ l, keyOf P kt key = some l) (c : Bool) {r : Option Value} (hr : zet L key r) :
  (Instr.lookup t (.map (some b)) key c).run P w = .ok (if c then .tuple #[r.getD z, .bool r.isSome] else r.getD z) w := by
 obtain ⟨es, clk, hb, hs, hm, rfl, hks⟩ := h
 obtain ⟨l, hl⟩ := hk
 rcases K.find w hl es.toList hks with ⟨h1, h2⟩ | ⟨j, e, h1, h2, h3⟩
 ·cases hr with
  | hit hv =>
   obtain ⟨e, he, hee⟩ := List.mem_map.1 hv
   exact absurd (congrArg Prod.fst hee) (h2 e he)
  | miss _ => simp [Instr.lookup, run_underlying ht, MapKept.run_getObj_map hb, K.check w _ hl, h1, hz, Result.andThen]
 ·have hm0 : e ∈ es.toList := List.mem_of_getElem? h2
  cases hr with
  | miss hno => exact absurd h3 (hno _ (zby hm0))
  | hit hv =>
   rename_i v
   obtain ⟨e', he', hee⟩ := List.mem_map.1 hv
   have hkk : e'.key = e.key := (congrArg Prod.fst hee).trans h3.symm
   have : e' = e := by
    have hnd := hs.2.2
    obtain ⟨i', hi'⟩ := List.mem_iff_getElem?.1 he'
    have e1 : (es.toList.map (·.key))[i']? = some e.key := by rw [List.getElem?_map, hi']; simp [hkk]
    have e2 : (es.toList.map (·.key))[j]? = some e.key := by rw [List.getElem?_map, h2]; rfl
    have hlt : i' < (es.toList.map (·.key)).length := by
     rcases Nat.lt_or_ge i' (es.toList.map (·.key)).length with h' | h'
     ·exact h'
     ·rw [List.getElem?_eq_none h'] at e1; cases e1
    have : i' = j := (List.getElem?_inj hlt hnd).1 (e1.trans e2.symm)
    rw [this] at hi'
    rw [h2] at hi'
    exact (Option.some.inj hi').symm
   have hv' : v = e.val := by rw [← this]; exact (congrArg Prod.snd hee).symm
   simp [Instr.lookup, run_underlying ht, MapKept.run_getObj_map hb, K.check w _ hl, h1, Result.andThen, hv']
structure ji (b : Nat) (w w' : World) : Prop where
 os : w'.os = w.os
 tape : w'.tape = w.tape
 output : w'.output = w.output
 size : w'.heap.size = w.heap.size
 block : ∀ k, k ≠ b → w'.heap[k]? = w.heap[k]?
theorem ji.fr {w' : World} (h : ji b w w') : Fr (· = b) w w' := ⟨h.os, h.tape, h.output, by rw [h.size]; exact Nat.le_refl _, fun k _ hn => h.block k hn⟩
theorem vR (w : World) (b : Nat) (o : Obj) : ji b w { w with heap := w.heap.setIfInBounds b o } :=
 ⟨rfl, rfl, rfl, by simp, fun k hk => by simp [Array.getElem?_setIfInBounds_ne (Ne.symm hk)]⟩
theorem xC {w : World} {b : Nat} {o o' : Obj} (hb : w.heap[b]? = some o) : ({ w with heap := w.heap.setIfInBounds b o' } : World).heap[b]? = some o' := (heap_set hb).1
theorem YY (K : Keyed P kt) (w : World) {es : Array MapEntry} {clk : Nat} (hs : Stamped es clk) (hks : ∀ e ∈ es.toList, ∃ l, keyOf P kt e.key = some l) {key : Value} {l : Lit} (hl : keyOf P kt key = some l) {L1 L2 : List (Value × Value)} {v0 : Value} (hL : kv es = L1 ++ (key, v0) :: L2) :
  ∃ e, (Instr.findKey kt key es.toList).run P w = .ok (some (L1.length, e.val)) w ∧ es[L1.length]? = some e ∧ e.key = key ∧ e.val = v0 := by
 rcases K.find w hl es.toList hks with ⟨h1, h2⟩ | ⟨j, e, h1, h2, h3⟩
 ·have hm : (key, v0) ∈ kv es := by rw [hL]; simp
  obtain ⟨e, he, hee⟩ := List.mem_map.1 hm
  exact absurd (congrArg Prod.fst hee) (h2 e he)
 ·have e1 : ((kv es).map (·.1))[j]? = some key := by
   have h2' : es.toList[j]? = some e := h2
   rw [List.getElem?_map, kv, List.getElem?_map, h2']; simp [h3]
  have e2 : ((kv es).map (·.1))[L1.length]? = some key := by rw [hL]; simp
  have hnd : ((kv es).map (·.1)).Nodup := by simpa [kv, Function.comp_def] using hs.2.2
  have hlt : j < ((kv es).map (·.1)).length := by
   rcases Nat.lt_or_ge j ((kv es).map (·.1)).length with h' | h'
   ·exact h'
   ·rw [List.getElem?_eq_none h'] at e1; cases e1
  have hj : j = L1.length := (List.getElem?_inj hlt hnd).1 (e1.trans e2.symm)
  subst hj
  have h2' : es.toList[L1.length]? = some e := h2
  have e3 : (kv es)[L1.length]? = some (key, v0) := by rw [hL]; simp
  rw [kv, List.getElem?_map, h2'] at e3
  have e4 := Option.some.inj e3
  exact ⟨e, h1, by simpa using h2', h3, congrArg Prod.snd e4⟩
theorem zaR {es : Array MapEntry} {i : Nat} {e : MapEntry} (he : es[i]? = some e) (f : MapEntry → MapEntry) {L1 L2 : List (Value × Value)} {p : Value × Value} (hL : kv es = L1 ++ p :: L2) (hi : i = L1.length) :
  kv (es.modify i f) = L1 ++ ((f e).key, (f e).val) :: L2 := by
 subst hi
 apply List.ext_getElem?
 intro j
 have hj := congrArg (fun l => l[j]?) hL
 simp only [kv, List.getElem?_map, Array.getElem?_toList, Array.getElem?_modify] at hj ⊢
 by_cases hji : L1.length = j
 ·subst hji
  simp [he]
 ·rw [if_neg hji, hj]
  rcases Nat.lt_or_ge j L1.length with h' | h'
  ·rw [List.getElem?_append_left h', List.getElem?_append_left h']
  ·rw [List.getElem?_append_right h', List.getElem?_append_right h']
   obtain ⟨m, hm⟩ : ∃ m, j - L1.length = m + 1 := ⟨j - L1.length - 1, by omega⟩
   rw [hm]
   simp
theorem yP.update_hit (K : Keyed P kt) (ht : P.underlying t = some (.map kt et)) {L1 L2 : List (Value × Value)} {key v0 : Value} (h : yP P kt w b (L1 ++ (key, v0) :: L2)) (hk : ∃ l, keyOf P kt key = some l) (v : Value) :
  ∃ w', (Instr.mapUpdate t (.map (some b)) key v).run P w = .ok () w' ∧ yP P kt w' b (L1 ++ (key, v) :: L2) ∧ ji b w w' := by
 obtain ⟨es, clk, hb, hs, hm, hL, hks⟩ := h
 obtain ⟨l, hl⟩ := hk
 obtain ⟨e, h1, h2, h3, h4⟩ := YY K w hs hks hl hL
 have hrun : (Instr.mapUpdate t (.map (some b)) key v).run P w = .ok () { w with heap := w.heap.setIfInBounds b (.map (es.modify L1.length fun e => { e with key := key, val := v }) clk) } := by
  simp [Instr.mapUpdate, run_underlying ht, MapKept.run_getObj_map hb, K.check w false hl, h1, h2, h3, K.stays w hl, MapKept.run_setObj_map _ hb, Result.andThen]
 refine ⟨_, hrun, ⟨_, clk, xC hb, stamped_modify hs _ _ (fun _ _ => rfl) (fun e' _ he' => ?_), by simpa using hm, ?_, ?_⟩, vR _ _ _⟩
 ·rw [h2] at he'; cases he'; exact h3.symm
 ·rw [zaR h2 _ hL rfl]
 ·intro e' he'
  obtain ⟨j, hj⟩ := List.mem_iff_getElem?.1 he'
  rw [Array.getElem?_toList, Array.getElem?_modify] at hj
  split at hj
  ·rename_i hij
   subst hij
   rw [h2] at hj
   cases hj
   exact ⟨l, hl⟩
  ·exact hks e' (List.mem_of_getElem? (by simpa using hj))
theorem yP.update_miss (K : Keyed P kt) (ht : P.underlying t = some (.map kt et)) (h : yP P kt w b L) {key : Value} (hk : ∃ l, keyOf P kt key = some l) (hno : ∀ p ∈ L, p.1 ≠ key) (hroom : L.length < maxLen) (v : Value) :
  ∃ w', (Instr.mapUpdate t (.map (some b)) key v).run P w = .ok () w' ∧ yP P kt w' b (L ++ [(key, v)]) ∧ ji b w w' := by
 obtain ⟨es, clk, hb, hs, hm, rfl, hks⟩ := h
 obtain ⟨l, hl⟩ := hk
 rcases K.find w hl es.toList hks with ⟨h1, h2⟩ | ⟨j, e, h1, h2, h3⟩
 ·have hrun : (Instr.mapUpdate t (.map (some b)) key v).run P w = .ok () { w with heap := w.heap.setIfInBounds b (.map (es.push { key, val := v, born := clk }) (clk + 1)) } := by
   simp [Instr.mapUpdate, run_underlying ht, MapKept.run_getObj_map hb, K.check w false hl, h1, MapKept.run_setObj_map _ hb, Result.andThen]
  refine ⟨_, hrun, ⟨_, _, xC hb, stamped_push hs h2, ?_, by simp [kv], ?_⟩, vR _ _ _⟩
  ·simp [kv] at hroom ⊢; omega
  ·intro e he
   simp only [Array.toList_push, List.mem_append, List.mem_singleton] at he
   rcases he with he | rfl
   ·exact hks e he
   ·exact ⟨l, hl⟩
 ·exact absurd h3 (hno _ (zby (List.mem_of_getElem? h2)))
theorem YK {α β : Type} (f : α → β) : ∀ (l : List α) (i : Nat), (l.eraseIdx i).map f = (l.map f).eraseIdx i
 | [], _ => rfl
 | _ :: _, 0 => rfl
 | x :: l, i + 1 => by simp [YK f l i]
theorem zdb {es : Array MapEntry} {L1 L2 : List (Value × Value)} {p : Value × Value} (hL : kv es = L1 ++ p :: L2) : kv (es.eraseIdxIfInBounds L1.length) = L1 ++ L2 := by
 have hlt : L1.length < es.size := by
  have := congrArg List.length hL
  simp [kv] at this
  omega
 unfold kv Array.eraseIdxIfInBounds
 rw [dif_pos hlt, Array.toList_eraseIdx]
 rw [YK]
 show (kv es).eraseIdx L1.length = _
 rw [hL, List.eraseIdx_append_of_length_le (Nat.le_refl _)]
 simp
theorem yP.delete_hit (K : Keyed P kt) (ht : P.underlying t = some (.map kt et)) {L1 L2 : List (Value × Value)} {key v0 : Value} (h : yP P kt w b (L1 ++ (key, v0) :: L2)) (hk : ∃ l, keyOf P kt key = some l) (ty : TypeId) (x : TypeId) :
  ∃ w', (Builtin.delete_ #[t, x] ty #[.map (some b), key]).run P w = .ok (.tuple #[]) w' ∧ yP P kt w' b (L1 ++ L2) ∧ ji b w w' := by
 obtain ⟨es, clk, hb, hs, hm, hL, hks⟩ := h
 obtain ⟨l, hl⟩ := hk
 obtain ⟨e, h1, h2, h3, h4⟩ := YY K w hs hks hl hL
 have hrun : (Builtin.delete_ #[t, x] ty #[.map (some b), key]).run P w = .ok (.tuple #[]) { w with heap := w.heap.setIfInBounds b (.map (es.eraseIdxIfInBounds L1.length) clk) } := by
  simp [Builtin.delete_, run_underlying ht, MapKept.run_getObj_map hb, K.check w _ hl, h1, MapKept.run_setObj_map _ hb, Result.andThen]
 refine ⟨_, hrun, ⟨_, clk, xC hb, stamped_erase hs _, ?_, zdb hL, ?_⟩, vR _ _ _⟩
 ·have h1 := congrArg List.length (zdb hL)
  have h0 := congrArg List.length hL
  simp only [kv, List.length_map, Array.length_toList, List.length_append, List.length_cons] at h1 h0
  omega
 ·intro e' he'
  have hsub : (es.eraseIdxIfInBounds L1.length).toList.Sublist es.toList := by
   unfold Array.eraseIdxIfInBounds
   split
   ·rw [Array.toList_eraseIdx]; exact List.eraseIdx_sublist ..
   ·exact List.Sublist.refl _
  exact hks e' (hsub.subset he')
theorem yP.delete_miss (K : Keyed P kt) (ht : P.underlying t = some (.map kt et)) (h : yP P kt w b L) {key : Value} (hk : ∃ l, keyOf P kt key = some l) (hno : ∀ p ∈ L, p.1 ≠ key) (ty : TypeId) (x : TypeId) :
  ∃ w', (Builtin.delete_ #[t, x] ty #[.map (some b), key]).run P w = .ok (.tuple #[]) w' ∧ yP P kt w' b L ∧ ji b w w' := by
 obtain ⟨es, clk, hb, hs, hm, rfl, hks⟩ := h
 obtain ⟨l, hl⟩ := hk
 rcases K.find w hl es.toList hks with ⟨h1, h2⟩ | ⟨j, e, h1, h2, h3⟩
 ·have hrun : (Builtin.delete_ #[t, x] ty #[.map (some b), key]).run P w = .ok (.tuple #[]) { w with heap := w.heap.setIfInBounds b (.map es clk) } := by
   simp [Builtin.delete_, run_underlying ht, MapKept.run_getObj_map hb, K.check w _ hl, h1, MapKept.run_setObj_map _ hb, Result.andThen]
  exact ⟨_, hrun, ⟨es, clk, xC hb, hs, hm, rfl, hks⟩, vR _ _ _⟩
 ·exact absurd h3 (hno _ (zby (List.mem_of_getElem? h2)))
def Entry (P : Program) (kt : TypeId) (w : World) (b : Nat) (L1 : List (Value × Value)) (key : Value) (L2 : List (Value × Value)) (stamp : Int) : Prop :=
 ∃ es clk e, w.heap[b]? = some (.map es clk) ∧ Stamped es clk ∧ es.size ≤ maxLen ∧ (∃ v, kv es = L1 ++ (key, v) :: L2) ∧ (∀ e ∈ es.toList, ∃ l, keyOf P kt e.key = some l) ∧ es[L1.length]? = some e ∧ stamp = (e.born : Int)
theorem Entry.keep {w' : World} {W : Nat → Prop} {L1 L2 : List (Value × Value)} {key : Value} {s : Int} (h : Entry P kt w b L1 key L2 s) (f : Fr W w w') (hn : ¬ W b) : Entry P kt w' b L1 key L2 s := by
 obtain ⟨es, clk, e, hb, r⟩ := h
 exact ⟨es, clk, e, f.obj hb hn, r⟩
theorem Entry.store {L1 L2 : List (Value × Value)} {key : Value} {s : Int} (h : Entry P kt w b L1 key L2 s) (t : TypeId) (v : Value) :
  ∃ w', (Instr.entryStore t (.map (some b)) (.int .i64 s) v).run P w = .ok () w' ∧ yP P kt w' b (L1 ++ (key, v) :: L2) ∧ ji b w w' := by
 obtain ⟨es, clk, e, hb, hs, hm, ⟨v0, hL⟩, hks, he, rfl⟩ := h
 have hlt : L1.length < es.size := (Array.getElem?_eq_some_iff.1 he).1
 have hfind : es.findIdx? (fun x => (x.born : Int) == (e.born : Int)) = some L1.length := by
  rw [Array.findIdx?_eq_some_iff_getElem]
  have he' : es.toList[L1.length]? = some e := by simpa using he
  refine ⟨hlt, ?_, fun j hj => ?_⟩
  ·have : es[L1.length] = e := by rw [Array.getElem?_eq_getElem hlt] at he; exact Option.some.inj he
   rw [this]; simp
  ·have hjl : j < es.size := Nat.lt_trans hj hlt
   have hne : es[j].born ≠ e.born := fun heq => by
    have e1 : (es.toList.map (·.born))[j]? = some e.born := by rw [List.getElem?_map, List.getElem?_eq_getElem (by simpa using hjl)]; simp [heq]
    have e2 : (es.toList.map (·.born))[L1.length]? = some e.born := by rw [List.getElem?_map, he']; rfl
    have := (List.getElem?_inj (by simpa using hjl) hs.2.1).1 (e1.trans e2.symm)
    omega
   simp only [beq_iff_eq]; omega
 have hkey : e.key = key := by
  have e3 : (kv es)[L1.length]? = some (key, v0) := by rw [hL]; simp
  have he' : es.toList[L1.length]? = some e := by simpa using he
  rw [kv, List.getElem?_map, he'] at e3
  exact congrArg Prod.fst (Option.some.inj e3)
 have hrun : (Instr.entryStore t (.map (some b)) (.int .i64 (e.born : Int)) v).run P w = .ok () { w with heap := w.heap.setIfInBounds b (.map (es.modify L1.length fun e => { e with val := v }) clk) } := by
  simp [Instr.entryStore, MapKept.run_getObj_map hb, asInt, asIntOf, hfind, MapKept.run_setObj_map _ hb, Result.andThen]
 refine ⟨_, hrun, ⟨_, clk, xC hb, stamped_modify hs _ _ (fun _ _ => rfl) (fun _ _ _ => rfl), by simpa using hm, ?_, ?_⟩, vR _ _ _⟩
 ·rw [zaR he _ hL rfl]; simp [hkey]
 ·intro e' he'
  obtain ⟨j, hj⟩ := List.mem_iff_getElem?.1 he'
  rw [Array.getElem?_toList, Array.getElem?_modify] at hj
  split at hj
  ·rename_i hij
   subst hij
   rw [he] at hj
   cases hj
   exact hks e (List.mem_of_getElem? (by simpa using he))
  ·exact hks e' (List.mem_of_getElem? (by simpa using hj))
theorem yP.lenRun (ht : P.underlying t = some (.map kt et)) (h : yP P kt w b L) (ty : TypeId) : (Builtin.len_ #[t] ty #[.map (some b)]).run P w = .ok (.int .i64 (L.length : Int)) w := by
 obtain ⟨es, clk, hb, hs, hm, rfl, hks⟩ := h
 simp [Builtin.len_, run_underlying ht, MapKept.run_getObj_map hb, Result.andThen, goInt, kv]
end
section
variable {P : Program}
theorem mapM_some {α β : Type} {f : α → Option β} : ∀ {l : List α}, (∀ x ∈ l, ∃ y, f x = some y) → ∃ ys, l.mapM f = some ys
 | [], _ => ⟨[], rfl⟩
 | x :: l, h => by
  obtain ⟨y, hy⟩ := h x (by simp)
  obtain ⟨ys, hys⟩ := mapM_some (l := l) (fun z hz => h z (by simp [hz]))
  exact ⟨y :: ys, by simp [List.mapM_cons, hy, hys]⟩
theorem Jv {t : TypeId} {q : IntKind} (hu : P.underlying t = some (.int q)) (d : Nat) {n : Int} (hw : (Lit.int q n).wf = true) : P.keyLits (d + 1) t [.int q n] = some [.int q n] := by
 simp [Program.keyLits, hu, hw]
theorem Xn {t e : TypeId} {q : IntKind} {n : Nat} (hu : P.underlying t = some (.array n e)) (hc : P.cellsOf t = n) (he : P.cellsOf e = 1) (hue : P.underlying e = some (.int q)) (d : Nat) (xs : List Int) (hl : xs.length = n)
  (hw : ∀ x ∈ xs, (Lit.int q x).wf = true) : ∃ l, P.keyLits (d + 2) t (xs.map (Value.int q)) = some l := by
 unfold Program.keyLits
 simp only [hu, hc, he, List.length_map, hl, if_true]
 obtain ⟨ys, hys⟩ : ∃ ys, (List.range n).mapM (fun i => P.keyLits (d + 1) e (((xs.map (Value.int q)).drop (i * 1)).take 1)) = some ys := by
  refine mapM_some fun i hi => ?_
  have hi' : i < xs.length := by rw [hl]; exact List.mem_range.1 hi
  refine ⟨[.int q xs[i]], ?_⟩
  rw [Nat.mul_one, ← List.map_drop, ← List.map_take, List.drop_eq_getElem_cons hi']
  exact Jv hue d (hw _ (List.getElem_mem hi'))
 exact ⟨ys.flatten, by rw [hys]; rfl⟩
def xS (P : Program) (k : TypeId) : List (TypeId × Nat × Bool) :=
 match P.underlying k with
 | some (.struct fs) => fs.toList.map fun f => (f.type, f.offset, f.name != "_")
 | _ => []
theorem Ji {k : TypeId} {sh : List (TypeId × Nat × Bool)} (hsh : xS P k = sh) (hne : sh ≠ []) (hb : sh.all (·.2.2) = true) (hkt : P.keyType k = true) {cs : List Value} (hc : P.cellsOf k = cs.length)
  (hf : ∀ x ∈ sh, ∃ l, P.keyLits P.types.size x.1 ((cs.drop x.2.1).take (P.cellsOf x.1)) = some l) : ∃ l, keyOf P k (.agg cs.toArray) = some l := by
 unfold xS at hsh
 split at hsh
 ·rename_i fs hu
  subst hsh
  obtain ⟨ys, hys⟩ : ∃ ys, fs.toList.mapM (fun f => P.keyLits P.types.size f.type ((cs.drop f.offset).take (P.cellsOf f.type))) = some ys :=
   mapM_some fun f hm => hf (f.type, f.offset, f.name != "_") (List.mem_map.2 ⟨f, hm, rfl⟩)
  have hall : fs.all (·.name != "_") = true := by
   rw [← Array.all_toList]
   rw [List.all_map] at hb
   exact hb
  refine ⟨.string (keyBytes ys.flatten), ?_⟩
  unfold keyOf
  rw [hu]
  simp only [hkt, Value.formed, hu, List.size_toArray, hc, beq_self_eq_true, Bool.and_self, if_true, Value.cells]
  unfold Program.keyLits
  simp only [hu, hc, hall, and_self, if_true, hys]
  rfl
 ·exact absurd hsh.symm hne
theorem zcD {k e : TypeId} {q : IntKind} {n : Nat} (hu : P.underlying k = some (.array n e)) (hkt : P.keyType k = true) (hc : P.cellsOf k = n) (he : P.cellsOf e = 1) (hue : P.underlying e = some (.int q)) (hsz : 1 ≤ P.types.size) (xs : List Int) (hl : xs.length = n)
  (hw : ∀ x ∈ xs, (Lit.int q x).wf = true) : ∃ l, keyOf P k (.agg (xs.map (Value.int q)).toArray) = some l := by
 obtain ⟨d, hd⟩ : ∃ d, P.types.size = d + 1 := ⟨P.types.size - 1, by omega⟩
 obtain ⟨l, h⟩ := Xn hu hc he hue d xs hl hw
 refine ⟨.string (keyBytes l), ?_⟩
 unfold keyOf
 rw [hu]
 simp only [hkt, Value.formed, hu, List.size_toArray, hc, List.length_map, hl, beq_self_eq_true, Bool.and_self, if_true, Value.cells, hd, h]
 rfl
end
theorem ze8 {w : World} {b : Nat} {x : Value} {T : TypeId} (h : w.heap[b]? = some (.cells #[x] T (0, 0))) : w.cell? ⟨b, 0, none⟩ = some x ∧ w.frozen? ⟨b, 0, none⟩ = false := by simp [World.cell?, World.frozen?, h]
theorem Xe {w : World} {b : Nat} {x y : Value} {T : TypeId} (h : w.heap[b]? = some (.cells #[x, y] T (0, 0))) :
  w.cell? ⟨b, 0, none⟩ = some x ∧ w.cell? ⟨b, 1, none⟩ = some y ∧ w.frozen? ⟨b, 0, none⟩ = false ∧ w.frozen? ⟨b, 1, none⟩ = false := by simp [World.cell?, World.frozen?, h]
theorem Zl {w : World} {b : Nat} {x y z : Value} {T : TypeId} (h : w.heap[b]? = some (.cells #[x, y, z] T (0, 0))) :
  w.cell? ⟨b, 0, none⟩ = some x ∧ w.cell? ⟨b, 1, none⟩ = some y ∧ w.cell? ⟨b, 2, none⟩ = some z ∧ w.frozen? ⟨b, 0, none⟩ = false ∧ w.frozen? ⟨b, 1, none⟩ = false ∧ w.frozen? ⟨b, 2, none⟩ = false := by simp [World.cell?, World.frozen?, h]
theorem yn (w : World) (o : Obj) : (w.alloc o).heap[w.heap.size]? = some o := (MapKept.heap_alloc w o).1
theorem yL (w : World) (o : Obj) {n : Nat} (h : n = w.heap.size) : (w.alloc o).heap[n]? = some o := by subst h; exact yn w o
theorem JD {w : World} {b : Nat} {o : Obj} (h : w.heap[b]? = some o) (o' : Obj) : (w.alloc o').heap[b]? = some o := (Below.heap_alloc w o' b (xf h)).trans h
section
variable {P : Program} {o : Oper} {a : Act} {w w' : World}
theorem xU {K : Act → World → Prop} {Q : Exit → Act → World → Prop} {s x : Operand} {ts : Array TypeId} {sv xv v : Value}
  (hop : o.op = .call { callee := .builtin .append, args := #[s, x], argTypes := ts }) (hs : a.eval s = sv) (hx : a.eval x = xv)
  (hrun : (Builtin.append_ ts o.type #[sv, xv]).run P w = .ok v w') (h : K (a.put o.dst v) w') : o.wp P a w K Q := by
 unfold Oper.wp
 have he : (execOp a.eval o).run P w = .ok (.value v) w' := by
  simp [execOp, hop, resolve, hs, hx, invoke, builtin, hrun, Result.andThen]
 rw [he]
 exact h
theorem zbB {K : Act → World → Prop} {Q : Exit → Act → World → Prop} {s : Operand} {ts : Array TypeId} {sv v : Value}
  (hop : o.op = .call { callee := .builtin .clear, args := #[s], argTypes := ts }) (hs : a.eval s = sv)
  (hrun : (Builtin.clear_ ts o.type #[sv]).run P w = .ok v w') (h : K (a.put o.dst v) w') : o.wp P a w K Q := by
 unfold Oper.wp
 have he : (execOp a.eval o).run P w = .ok (.value v) w' := by
  simp [execOp, hop, resolve, hs, invoke, builtin, hrun, Result.andThen]
 rw [he]
 exact h
variable {ops : Array Oper} {rest : List Oper}
theorem zW {Q : Exit → Act → World → Prop} {s x : Operand} {ts : Array TypeId} {sv xv v : Value} (hg : o.guard = none)
  (hop : o.op = .call { callee := .builtin .append, args := #[s, x], argTypes := ts }) (hs : a.eval s = sv) (hx : a.eval x = xv)
  (hrun : (Builtin.append_ ts o.type #[sv, xv]).run P w = .ok v w') (h : wpList P ops Q rest (a.put o.dst v) w') : wpList P ops Q (o :: rest) a w := by
 refine wpList_plain hg fun K' hK' => ?_
 exact xU hop hs hx hrun (hK' _ _ h)
theorem jv {Q : Exit → Act → World → Prop} {s : Operand} {ts : Array TypeId} {sv v : Value} (hg : o.guard = none)
  (hop : o.op = .call { callee := .builtin .clear, args := #[s], argTypes := ts }) (hs : a.eval s = sv)
  (hrun : (Builtin.clear_ ts o.type #[sv]).run P w = .ok v w') (h : wpList P ops Q rest (a.put o.dst v) w') : wpList P ops Q (o :: rest) a w := by
 refine wpList_plain hg fun K' hK' => ?_
 exact zbB hop hs hrun (hK' _ _ h)
end
end Go

/- append onto a row of one's own. -/
namespace Go
open Go.RowKit Go.Maps Go.MapKept
theorem Fr.of_grown {W : Nat → Prop} {w w' : World} {row : Option Nat} (hg : w.grownBy w' row) (hr : ∀ k, row = some k → w.heap.size ≤ k ∨ W k) : Fr W w w' := (Fr.refl W w).grown hg hr
theorem J5 (b off j : Nat) : (⟨b, off, none⟩ : Addr).add j = ⟨b, off + j, none⟩ := by unfold Addr.add; split <;> simp_all
theorem XR {P : Program} (w : World) (base : Nat) (t ty e : TypeId) (size bytes : Nat) (z : Value) (ht : P.underlying t = some (.slice e)) (i : TypeInfo) (hi : P.info? e = some i) (hz : i.zero = some z) (hs : i.size = size) (hb : i.bytes = bytes) (hzs : z.cells.size = size) (hsz : 0 < size)
  (v : Value) (n : Nat) (xs : List Value) (hown : w.ownsRow base e size v n xs) (ad : Addr) (m cap : Nat) (news : List Value) (hnews : ∀ j u, news[j]? = some u → w.cell? (ad.add j) = some u) (hl : news.length = m * size) (h1 : ∀ u ∈ news, u.oneCell' = true)
  (hbytes : (n + m) * bytes ≤ 140737488355328) (h63 : n + m ≤ maxLen) (hbase : base ≤ w.heap.size) :
  ∃ v' w', (Builtin.append_ #[t, t] ty #[v, .slice (some ad) m cap]).run P w = .ok v' w' ∧ w'.ownsRow base e size v' (n + m) (xs ++ news) ∧ w.grownBy w' v.ownBlock ∧ (v' = .slice none 0 0 ↔ v = .slice none 0 0 ∧ m = 0) ∧ (∀ k, v'.ownBlock = some k → v.ownBlock = some k ∨ w.heap.size ≤ k) := by
 obtain ⟨v', w', hrun, r1, r2, r3⟩ := run_append_own (P := P) w base t ty e i z size bytes ht hi hz hs hb hzs hsz v n xs hown ad m cap news hl hnews h1 h63 hbytes hbase
 refine ⟨v', w', hrun, r1, r2, r3, ?_⟩
 rcases hown.2 with ⟨rfl, rfl⟩ | ⟨g, gc, cur, rfl, hbg, hg, hnc, hcm, hcs, htake⟩
 ·have hxs : xs = [] := List.eq_nil_of_length_eq_zero (by simpa using hown.1)
  subst hxs
  obtain ⟨v2, w2, hrun2, q1, _, _⟩ := run_append_own (P := P) w w.heap.size t ty e i z size bytes ht hi hz hs hb hzs hsz (.slice none 0 0) 0 [] (World.ownsRow_nil _ _ _ _) ad m cap news hl hnews h1 h63 hbytes (Nat.le_refl _)
  have e1 := hrun.symm.trans hrun2
  injection e1 with e2 e3
  subst e2
  exact fun k hk => .inr (q1.lt k hk).1
 ·by_cases hroom : n + m ≤ gc
  ·have hfit : n * i.size + news.length ≤ cur.size := by rw [hl, hcs, hs, ← Nat.add_mul]; exact Nat.mul_le_mul_right _ hroom
   have hr := run_append_room (P := P) w t ty e i ht hi g n gc cur hg ad m cap news (by rw [hs]; exact hl) hnews h1 hroom hfit
   have e1 := hrun.symm.trans hr
   injection e1 with e2 e3
   subst e2
   exact fun k hk => .inl hk
  ·have holds : ∀ j u, xs[j]? = some u → w.cell? ((⟨g, 0, none⟩ : Addr).add j) = some u := hown.cells (g := g) rfl
   have hr := run_append_grow (P := P) w t ty e i z ht hi hz ⟨g, 0, none⟩ n gc xs (by rw [hs]; exact hown.1) holds ad m cap news (by rw [hs]; exact hl) hnews (by omega) (by simp only [maxLen] at h63; omega) (growslice_fits (by omega) (by rw [hb]; exact hbytes))
   have e1 := hrun.symm.trans hr
   injection e1 with e2 e3
   subst e2
   intro k hk
   simp [Value.ownBlock] at hk
   exact .inr (by omega)
theorem jw {P : Program} (w : World) (base : Nat) (t ty e : TypeId) (size bytes : Nat) (z : Value) (ht : P.underlying t = some (.slice e)) (hinfo : (P.info? e).map (fun i => (i.zero, i.size, i.bytes)) = some (some z, size, bytes)) (hzs : z.cells.size = size) (hsz : 0 < size)
  (v : Value) (n : Nat) (xs : List Value) (hown : w.ownsRow base e size v n xs) (x : Value) (m : Nat) (news : List Value) (hx : xq w x m news) (hl : news.length = m * size) (h1 : ∀ u ∈ news, u.oneCell' = true)
  (hbytes : (n + m) * bytes ≤ 140737488355328) (h63 : n + m ≤ maxLen) (hbase : base ≤ w.heap.size) (hnil : x ≠ .slice none 0 0) :
  ∃ v' w', (Builtin.append_ #[t, t] ty #[v, x]).run P w = .ok v' w' ∧ w'.ownsRow base e size v' (n + m) (xs ++ news) ∧ w.grownBy w' v.ownBlock ∧ (v' = .slice none 0 0 ↔ v = .slice none 0 0 ∧ m = 0) ∧ (∀ k, v'.ownBlock = some k → v.ownBlock = some k ∨ w.heap.size ≤ k) := by
 obtain ⟨i, hi, hz, hs, hb⟩ := info_parts hinfo
 rcases hx with (⟨rfl, _⟩ | ⟨b, off, cap, rfl, h2, h3, h4, h5⟩) | ⟨a0, cap, rfl, rfl, rfl, h3⟩
 ·exact absurd rfl hnil
 ·exact XR w base t ty e size bytes z ht i hi hz hs hb hzs hsz v n xs hown ⟨b, off, none⟩ m cap news (fun j u hj => by rw [J5]; exact h4 j u hj) hl h1 hbytes h63 hbase
 ·exact XR w base t ty e size bytes z ht i hi hz hs hb hzs hsz v n xs hown a0 0 cap [] (fun j u hj => by simp at hj) hl h1 hbytes h63 hbase
theorem xj {P : Program} (w : World) (B : Nat) (t ty e : TypeId) (size bytes : Nat) (z : Value) (ht : P.underlying t = some (.slice e)) (hinfo : (P.info? e).map (fun i => (i.zero, i.size, i.bytes)) = some (some z, size, bytes)) (hzs : z.cells.size = size) (hsz : 0 < size)
  {v : Value} {n : Nat} {xs : List Value} (hown : w.ownsRow B e size v n xs) (news : List Value) (hl : news.length = size) (h1 : ∀ u ∈ news, u.oneCell' = true)
  (hbytes : (n + 1) * bytes ≤ 140737488355328) (h63 : n + 1 ≤ maxLen) (hbase : B ≤ w.heap.size) :
  ∃ v' w', (Builtin.append_ #[t, t] ty #[v, .slice (some ⟨w.heap.size, 0, none⟩) 1 1]).run P (w.alloc (.cells news.toArray e)) = .ok v' w' ∧ w'.ownsRow B e size v' (n + 1) (xs ++ news) ∧ Fr (fun j => v.ownBlock = some j) w w' ∧
   (v' ≠ .slice none 0 0) ∧ (∀ k, v'.ownBlock = some k → v.ownBlock = some k ∨ w.heap.size ≤ k) := by
 have hx : qH (w.alloc (.cells news.toArray e)) (.slice (some ⟨w.heap.size, 0, none⟩) 1 1) 1 news :=
  .inr ⟨w.heap.size, 0, 1, rfl, Nat.le_refl _, by unfold maxLen; omega, fun j u hj => by
   have hb := yn w (.cells news.toArray e)
   simp only [World.cell?, hb]
   simpa using hj, by simp⟩
 obtain ⟨v', w', happ, ho, hg, hn, hfr⟩ := jw (P := P) (w.alloc (.cells news.toArray e)) B t ty e size bytes z ht hinfo hzs hsz v n xs (hown.alloc _) _ 1 news hx.arg (by omega) h1 hbytes h63 (by simp; omega) (by simp)
 refine ⟨v', w', happ, ho, ((Fr.refl _ w).alloc _).grown hg (fun k e => .inr e), fun e => by simpa using (hn.1 e).2, fun k hk => (hfr k hk).imp id (fun e => by simp at e; omega)⟩
end Go
