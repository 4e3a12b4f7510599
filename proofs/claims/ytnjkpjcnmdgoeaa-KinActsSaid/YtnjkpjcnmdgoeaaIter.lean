/- Going through a map. -/
import Derived.Test.YtnjkpjcnmdgoeaaMem
import Derived.Maps.RangeRun
namespace Go
open Go.MapKept Go.RowKit Go.Maps

/-- Iterator r goes through map b (keys and values L); R are those that it has not met. -/
def IterAt (P : Program) (kt : TypeId) (w : World) (r b : Nat) (L R : List (Value × Value)) : Prop :=
  ∃ es clk seen, w.heap[b]? = some (.map es clk) ∧ Stamped es clk ∧ es.size ≤ maxLen ∧ kv es = L ∧ (∀ e ∈ es.toList, ∃ l, keyOf P kt e.key = some l) ∧ r ≠ b ∧
    w.heap[r]? = some (.mapIter (some b) clk seen clk) ∧ (es.toList.filter fun e => !seen.contains e.born).map (fun e => (e.key, e.val)) = R

section
variable {P : Program} {kt et t : TypeId} {w : World} {r b : Nat} {L R : List (Value × Value)}

theorem IterAt.map (h : IterAt P kt w r b L R) : MapAt P kt w b L := by
  obtain ⟨es, clk, seen, h1, h2, h3, h4, h5, _⟩ := h
  exact ⟨es, clk, h1, h2, h3, h4, h5⟩
theorem IterAt.lt (h : IterAt P kt w r b L R) : r < w.heap.size := by
  obtain ⟨es, clk, seen, h1, h2, h3, h4, h5, h6, h7, _⟩ := h
  exact obj_lt h7
theorem IterAt.keep {w' : World} {W : Nat → Prop} (h : IterAt P kt w r b L R) (f : Fr W w w') (h1 : ¬ W b) (h2 : ¬ W r) : IterAt P kt w' r b L R := by
  obtain ⟨es, clk, seen, a1, a2, a3, a4, a5, a6, a7, a8⟩ := h
  exact ⟨es, clk, seen, f.obj a1 h1, a2, a3, a4, a5, a6, f.obj a7 h2, a8⟩

theorem MapAt.range (ht : P.underlying t = some (.map kt et)) (h : MapAt P kt w b L) :
    ∃ clk, (Instr.range t (.map (some b))).run P w = .ok (.pointer (some ⟨w.heap.size, 0, none⟩)) (w.alloc (.mapIter (some b) clk #[] clk)) ∧ IterAt P kt (w.alloc (.mapIter (some b) clk #[] clk)) w.heap.size b L L := by
  have hlt := h.lt
  obtain ⟨es, clk, hb, hs, hm, rfl, hk⟩ := h
  refine ⟨clk, ?_, es, clk, #[], old_obj hb _, hs, hm, rfl, hk, by omega, new_obj w _, ?_⟩
  · simp [Instr.range, run_underlying ht, MapKept.run_getObj_map hb, Result.andThen, newObj, Sem.run]
  · rw [List.filter_eq_self.2 (by simp)]; rfl

theorem IterAt.nextNone (h : IterAt P kt w r b L []) (ty : TypeId) : (Instr.next (.pointer (some ⟨r, 0, none⟩)) false ty).run P w = .ok (.tuple #[.bool false]) w := by
  obtain ⟨es, clk, seen, hb, hs, hm, hL, hk, hne, hr, hR⟩ := h
  rcases run_next_at (P := P) w ty r b clk clk seen es clk hr hb hs.1 (Nat.le_refl _) with ⟨_, h⟩ | ⟨e, he, _⟩
  · exact h
  · have he' : e ∈ es.toList.filter fun e => !seen.contains e.born := by simpa [leftOf] using he
    have : (e.key, e.val) ∈ (es.toList.filter fun e => !seen.contains e.born).map (fun e => (e.key, e.val)) := List.mem_map.2 ⟨e, he', rfl⟩
    rw [hR] at this
    cases this

theorem IterAt.nextSome (h : IterAt P kt w r b L R) (hne : R ≠ []) (ty : TypeId) :
    ∃ R1 p R2 w', R = R1 ++ p :: R2 ∧ (Instr.next (.pointer (some ⟨r, 0, none⟩)) false ty).run P w = .ok (.tuple #[.bool true, p.1, p.2]) w' ∧ IterAt P kt w' r b L (R1 ++ R2) ∧ Fr (· = r) w w' ∧
      ∀ w'', w''.heap[r]? = w'.heap[r]? → w''.heap[b]? = w'.heap[b]? → (Instr.entry (.pointer (some ⟨r, 0, none⟩))).run P w'' = .ok (.tuple #[p.1, p.2]) w'' := by
  obtain ⟨es, clk, seen, hb, hs, hm, hL, hk, hrb, hr, hR⟩ := h
  rcases run_next_at (P := P) w ty r b clk clk seen es clk hr hb hs.1 (Nat.le_refl _) with ⟨h0, _⟩ | ⟨e, he, w1, hw1, hrun⟩
  · have h1 : (leftOf es seen).toList = [] := by simpa using h0
    have h2 : es.toList.filter (fun e => !seen.contains e.born) = [] := by simpa [leftOf] using h1
    rw [h2] at hR
    exact absurd hR.symm hne
  · have he' : e ∈ es.toList.filter fun e => !seen.contains e.born := by simpa [leftOf] using he
    have hmem : e ∈ es.toList := (List.mem_filter.1 he').1
    obtain ⟨A, B, hAB⟩ := List.append_of_mem he'
    have hnd : ((A ++ e :: B).map (·.born)).Nodup := by rw [← hAB]; exact hs.2.1.sublist (List.filter_sublist.map _)
    simp only [List.map_append, List.map_cons] at hnd
    obtain ⟨n1, n2, n3⟩ := List.nodup_append.1 hnd
    obtain ⟨n4, n5⟩ := List.nodup_cons.1 n2
    have hb1 : w1.heap = w.heap := by rcases hw1 with rfl | rfl <;> rfl
    have f1 : Fr (· = r) w w1 := by
      rcases hw1 with rfl | rfl
      · exact Fr.refl _ _
      · exact (Fr.refl _ _).drew
    have hrlt := obj_lt hr
    have g1 : (ChangeMaps.setBlock w1 r (.mapIter (some b) clk (seen.push e.born) clk)).heap[r]? = some (.mapIter (some b) clk (seen.push e.born) clk) := by
      simp [ChangeMaps.setBlock, hb1, hrlt]
    have g2 : (ChangeMaps.setBlock w1 r (.mapIter (some b) clk (seen.push e.born) clk)).heap[b]? = some (.map es clk) := by
      simp only [ChangeMaps.setBlock, hb1]
      rw [Array.getElem?_setIfInBounds_ne hrb]
      exact hb
    refine ⟨A.map (fun e => (e.key, e.val)), (e.key, e.val), B.map (fun e => (e.key, e.val)), _, by rw [← hR, hAB]; simp, hrun, ⟨es, clk, seen.push e.born, g2, hs, hm, hL, hk, hrb, g1, ?_⟩, ?_, ?_⟩
    · have e1 : (es.toList.filter fun x => !(seen.push e.born).contains x.born) = (es.toList.filter fun x => !seen.contains x.born).filter fun x => decide (x.born ≠ e.born) := by
        rw [List.filter_filter]
        apply List.filter_congr
        intro x _
        by_cases hx : x.born = e.born <;> simp [hx]
      rw [e1, hAB, List.filter_append, List.filter_cons, if_neg (by simp), List.filter_eq_self.2, List.filter_eq_self.2, List.map_append]
      · intro x hx; simp only [decide_eq_true_eq]; exact fun h => n4 (h ▸ List.mem_map.2 ⟨x, hx, rfl⟩)
      · intro x hx; simp only [decide_eq_true_eq]; exact fun h => n3 x.born (List.mem_map.2 ⟨x, hx, rfl⟩) e.born (by simp) h
    · refine f1.trans ⟨rfl, rfl, rfl, by simp [ChangeMaps.setBlock], fun k _ hk => ?_⟩ (fun _ _ h => h)
      simp only [ChangeMaps.setBlock]
      rw [Array.getElem?_setIfInBounds_ne (Ne.symm hk)]
    · intro w'' h1 h2
      exact run_entry_at w'' r b clk seen es clk e (h1.trans g1) (h2.trans g2) hmem hs.2.1
end

section
variable {P : Program} {o : Oper} {a : Act} {w w' : World} {ops : Array Oper} {rest : List Oper}
theorem wpList_range_run {Q : Exit → Act → World → Prop} {x : Operand} {t : TypeId} {xv v : Value} (hg : o.guard = none) (hop : o.op = .range t x) (hx : a.eval x = xv)
    (hrun : (Instr.range t xv).run P w = .ok v w') (h : wpList P ops Q rest (a.put o.dst v) w') : wpList P ops Q (o :: rest) a w := by
  refine wpList_plain hg fun K' hK' => ?_
  unfold Oper.wp
  have he : (execOp a.eval o).run P w = .ok (.value v) w' := by simp [execOp, hop, hx, hrun, Result.andThen]
  rw [he]
  exact hK' _ _ h
theorem wpList_next_run {Q : Exit → Act → World → Prop} {x : Operand} {s : Bool} {xv v : Value} (hg : o.guard = none) (hop : o.op = .next x s) (hx : a.eval x = xv)
    (hrun : (Instr.next xv s o.type).run P w = .ok v w') (h : wpList P ops Q rest (a.put o.dst v) w') : wpList P ops Q (o :: rest) a w := by
  refine wpList_plain hg fun K' hK' => ?_
  unfold Oper.wp
  have he : (execOp a.eval o).run P w = .ok (.value v) w' := by simp [execOp, hop, hx, hrun, Result.andThen]
  rw [he]
  exact hK' _ _ h
theorem wpList_entry_run {Q : Exit → Act → World → Prop} {x : Operand} {xv v : Value} (hg : o.guard = none) (hop : o.op = .entry x) (hx : a.eval x = xv)
    (hrun : (Instr.entry xv).run P w = .ok v w') (h : wpList P ops Q rest (a.put o.dst v) w') : wpList P ops Q (o :: rest) a w := by
  refine wpList_plain hg fun K' hK' => ?_
  unfold Oper.wp
  have he : (execOp a.eval o).run P w = .ok (.value v) w' := by simp [execOp, hop, hx, hrun, Result.andThen]
  rw [he]
  exact hK' _ _ h
end
end Go
