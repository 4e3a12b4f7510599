/- Points, outputs and coins in memory. -/
import Derived.Test.YtmpamcnlineceaaDoorProg
import Derived.Lib.Hide
import Derived.Maps.RangeRun
import Derived.Test.YtmpamcnlineceaaDoorMG13
import Derived.Test.YtmpamcnlineceaaDoorMG1
set_option linter.unusedVariables false
set_option linter.unusedSimpArgs false
namespace Go.Proofs.YtmpamcnlineceaaDoor
open Go Go.RowKit Go.Maps Go.MapKept

theorem laidOutC : laidOutB Tryd.prog = true := by kernel_rfl
theorem wfC_8 {x : Int} (h : 0 ≤ x ∧ x ≤ 255) : (Lit.int .u8 x).wf = true := by
  simp [Lit.wf, IntKind.min, IntKind.max, IntKind.signed, IntKind.bits]
  omega
theorem wfC_32 {x : Int} (h : 0 ≤ x ∧ x ≤ 4294967295) : (Lit.int .u32 x).wf = true := by
  simp [Lit.wf, IntKind.min, IntKind.max, IntKind.signed, IntKind.bits]
  omega
theorem wfC_64 {x : Int} (h : 0 ≤ x ∧ x ≤ 18446744073709551615) : (Lit.int .u64 x).wf = true := by
  simp [Lit.wf, IntKind.min, IntKind.max, IntKind.signed, IntKind.bits]
  omega
theorem byteC_inj : ∀ {a b : List Int}, a.map byteV = b.map byteV → a = b
  | [], [], _ => rfl
  | [], _ :: _, h => by simp at h
  | _ :: _, [], h => by simp at h
  | x :: a, y :: b, h => by
    simp only [List.map_cons, List.cons.injEq, byteV, Value.int.injEq, true_and] at h
    rw [h.1, byteC_inj h.2]
theorem litsHash {l : List Int} (h : hashOk l) (d : Nat) : ∃ ls, Tryd.prog.keyLits (d + 2) 45 (l.map byteV) = some ls :=
  keyLitsArray (show Tryd.prog.underlying 45 = some (.array 32 5) by kernel_rfl) (by kernel_rfl) (by kernel_rfl) (by kernel_rfl) d l h.1 (fun x hx => wfC_8 (h.2 x hx))

/-! ### points -/
def pointC (p : PointD) : List Value := p.tx.map byteV ++ [.int .u32 p.n]
def pointV (p : PointD) : Value := .agg (pointC p).toArray
theorem pointC_len {p : PointD} (h : p.ok) : (pointC p).length = 33 := by simp [pointC, h.1.1]
theorem pointC_32 {p : PointD} (h : p.ok) : (pointC p)[32]? = some (.int .u32 p.n) := by
  unfold pointC
  rw [List.getElem?_append_right (by simp [h.1.1]), List.length_map, h.1.1]; rfl
theorem pointC_one {p : PointD} : ∀ v ∈ pointC p, v.oneCell' = true := by
  intro v hv
  unfold pointC at hv
  simp only [List.mem_append, List.mem_map, List.mem_singleton] at hv
  rcases hv with ⟨y, _, rfl⟩ | rfl <;> rfl
theorem pointC_inj {a b : PointD} (h : pointC a = pointC b) : a = b := by
  obtain ⟨x, l⟩ := a
  obtain ⟨y, m⟩ := b
  simp only [pointC] at h
  obtain ⟨h1, h2⟩ := List.append_inj' h rfl
  simp only [List.cons.injEq, Value.int.injEq, true_and, and_true] at h2
  rw [byteC_inj h1, h2]
theorem pointV_inj {a b : PointD} (h : pointV a = pointV b) : a = b := by
  unfold pointV at h
  injection h with h
  exact pointC_inj (by simpa using congrArg Array.toList h)
theorem shapePoint : structShape Tryd.prog 47 = [(45, 0, true), (38, 32, true)] := by kernel_rfl
theorem point_lits {p : PointD} (h : p.ok) (d : Nat) : ∀ x ∈ structShape Tryd.prog 47, ∃ l, Tryd.prog.keyLits (d + 2) x.1 (((pointC p).drop x.2.1).take (Tryd.prog.cellsOf x.1)) = some l := by
  rw [shapePoint]
  intro x hx
  simp only [List.mem_cons, List.not_mem_nil, or_false] at hx
  rcases hx with rfl | rfl
  · have e : ((pointC p).drop 0).take (Tryd.prog.cellsOf 45) = p.tx.map byteV := by
      rw [show Tryd.prog.cellsOf 45 = 32 by kernel_rfl]
      unfold pointC
      rw [List.drop_zero, List.take_append_of_le_length (by simp [h.1.1]), List.take_of_length_le (by simp [h.1.1])]
    simp only [e]
    exact litsHash h.1 d
  · have e : ((pointC p).drop 32).take (Tryd.prog.cellsOf 38) = [.int .u32 p.n] := by
      rw [show Tryd.prog.cellsOf 38 = 1 by kernel_rfl]
      unfold pointC
      rw [List.drop_append_of_le_length (by simp [h.1.1]), List.drop_of_length_le (by simp [h.1.1])]; rfl
    simp only [e]
    exact ⟨_, keyLitsInt (by kernel_rfl) _ (wfC_32 h.2)⟩
theorem keyOfPoint {p : PointD} (h : p.ok) : ∃ l, keyOf Tryd.prog 47 (pointV p) = some l := by
  have hN : Tryd.prog.types.size = Tryd.prog.types.size - 2 + 2 := by kernel_rfl
  refine keyOf_struct shapePoint (by simp) (by decide) (by kernel_rfl) (cs := pointC p) (by rw [pointC_len h]; kernel_rfl) ?_
  rw [hN, ← shapePoint]
  exact point_lits h _
theorem eqPoint : EqN Tryd.prog 47 := ⟨Keyed.of_law (deep_law_laid laidOutC (m := 3) (by decide) (of_decide_eq_true (by kernel_rfl)) (by kernel_rfl) (by kernel_rfl)), ⟨3, by decide, by kernel_rfl⟩, by kernel_rfl, by kernel_rfl⟩
theorem descPoint : ∃ d, Tryd.prog.underlying 47 = some d ∧ d.isRow = true := row_of (by kernel_rfl)
theorem infoPoint : (Tryd.prog.info? 47).map (·.size) = some 33 := by kernel_rfl
def point0 : PointD := ⟨List.replicate 32 0, 0⟩
theorem undPoints : Tryd.prog.underlying 75 = some (.slice 47) := by kernel_rfl
theorem infoPointZ : (Tryd.prog.info? 47).map (fun i => (i.zero, i.size, i.bytes)) = some (some (.agg (pointC point0).toArray), 33, 36) := by kernel_rfl
theorem infoPointZ2 : (Tryd.prog.info? 47).map (fun i => (i.zero, i.size)) = some (some (.agg (pointC point0).toArray), 33) := by kernel_rfl

/-! ### outputs -/
def outC (x : OutD) : List Value := .int .u64 x.value :: x.lock.map byteV
def outV (x : OutD) : Value := .agg (outC x).toArray
theorem outC_len {x : OutD} (h : x.ok) : (outC x).length = 33 := by simp [outC, h.2.1]
theorem outC_0 (x : OutD) : (outC x)[0]? = some (.int .u64 x.value) := rfl
theorem outC_one {x : OutD} : ∀ v ∈ outC x, v.oneCell' = true := by
  intro v hv
  unfold outC at hv
  simp only [List.mem_cons, List.mem_map] at hv
  rcases hv with rfl | ⟨y, _, rfl⟩ <;> rfl
theorem outC_inj {a b : OutD} (h : outC a = outC b) : a = b := by
  obtain ⟨x, l⟩ := a
  obtain ⟨y, m⟩ := b
  simp only [outC, List.cons.injEq, Value.int.injEq, true_and] at h
  rw [h.1, byteC_inj h.2]
theorem outV_inj {a b : OutD} (h : outV a = outV b) : a = b := by
  unfold outV at h
  injection h with h
  exact outC_inj (by simpa using congrArg Array.toList h)
theorem shapeOut : structShape Tryd.prog 55 = [(24, 0, true), (45, 1, true)] := by kernel_rfl
theorem out_lits {o : OutD} (h : o.ok) (d : Nat) : ∀ x ∈ structShape Tryd.prog 55, ∃ l, Tryd.prog.keyLits (d + 2) x.1 (((outC o).drop x.2.1).take (Tryd.prog.cellsOf x.1)) = some l := by
  rw [shapeOut]
  intro x hx
  simp only [List.mem_cons, List.not_mem_nil, or_false] at hx
  rcases hx with rfl | rfl
  · have e : ((outC o).drop 0).take (Tryd.prog.cellsOf 24) = [.int .u64 o.value] := by
      rw [show Tryd.prog.cellsOf 24 = 1 by kernel_rfl]; rfl
    simp only [e]
    exact ⟨_, keyLitsInt (by kernel_rfl) _ (wfC_64 h.1)⟩
  · have e : ((outC o).drop 1).take (Tryd.prog.cellsOf 45) = o.lock.map byteV := by
      rw [show Tryd.prog.cellsOf 45 = 32 by kernel_rfl]
      show (o.lock.map byteV).take 32 = o.lock.map byteV
      rw [List.take_of_length_le (by simp [h.2.1])]
    simp only [e]
    exact litsHash h.2 d
theorem keyOfOut {o : OutD} (h : o.ok) : ∃ l, keyOf Tryd.prog 55 (outV o) = some l := by
  have hN : Tryd.prog.types.size = Tryd.prog.types.size - 2 + 2 := by kernel_rfl
  refine keyOf_struct shapeOut (by simp) (by decide) (by kernel_rfl) (cs := outC o) (by rw [outC_len h]; kernel_rfl) ?_
  rw [hN, ← shapeOut]
  exact out_lits h _
theorem eqOut : EqN Tryd.prog 55 := ⟨Keyed.of_law (deep_law_laid laidOutC (m := 3) (by decide) (of_decide_eq_true (by kernel_rfl)) (by kernel_rfl) (by kernel_rfl)), ⟨3, by decide, by kernel_rfl⟩, by kernel_rfl, by kernel_rfl⟩
theorem descOut : ∃ d, Tryd.prog.underlying 55 = some d ∧ d.isRow = true := row_of (by kernel_rfl)
theorem infoOut : (Tryd.prog.info? 55).map (·.size) = some 33 := by kernel_rfl
def out0 : OutD := ⟨0, List.replicate 32 0⟩
theorem out0_ok : out0.ok := ⟨by decide, rfl, fun x hx => by have : x = 0 := List.eq_of_mem_replicate hx; omega⟩
theorem zeroOut (w : World) : (zeroValue 55).run Tryd.prog w = .ok (outV out0) w := by kernel_rfl
theorem undOuts : Tryd.prog.underlying 22 = some (.slice 55) := by kernel_rfl
theorem infoOutZ : (Tryd.prog.info? 55).map (fun i => (i.zero, i.size, i.bytes)) = some (some (.agg (outC out0).toArray), 33, 40) := by kernel_rfl
theorem infoOutZ2 : (Tryd.prog.info? 55).map (fun i => (i.zero, i.size)) = some (some (.agg (outC out0).toArray), 33) := by kernel_rfl

/-! ### coins -/
def coinC (c : CoinD) : List Value := pointC c.at_ ++ outC c.out
def coinV (c : CoinD) : Value := .agg (coinC c).toArray
theorem coinC_len {c : CoinD} (h : c.ok) : (coinC c).length = 66 := by simp [coinC, pointC_len h.1, outC_len h.2]
theorem coinC_one {c : CoinD} : ∀ v ∈ coinC c, v.oneCell' = true := by
  intro v hv
  rcases List.mem_append.1 hv with h | h
  · exact pointC_one v h
  · exact outC_one v h
theorem coinC_inj {a b : CoinD} (ha : a.ok) (hb : b.ok) (h : coinC a = coinC b) : a = b := by
  unfold coinC at h
  obtain ⟨h1, h2⟩ := List.append_inj h (by rw [pointC_len ha.1, pointC_len hb.1])
  cases a; cases b
  simp only [CoinD.mk.injEq] at *
  exact ⟨pointC_inj h1, outC_inj h2⟩
theorem coin_at {w : World} {b o : Nat} {c : CoinD} (h : w.rangeAt b o (coinC c)) : w.rangeAt b o (pointC c.at_) := fun j v hj => h j v (by
  unfold coinC
  rw [List.getElem?_append_left (List.getElem?_eq_some_iff.1 hj).1]
  exact hj)
theorem coin_out {w : World} {b o : Nat} {c : CoinD} (hc : c.ok) (h : w.rangeAt b o (coinC c)) : w.rangeAt b (o + 33) (outC c.out) := fun j v hj => by
  have := h (33 + j) v (by
    unfold coinC
    rw [List.getElem?_append_right (by rw [pointC_len hc.1]; omega), pointC_len hc.1]
    rw [show 33 + j - 33 = j by omega]
    exact hj)
  rw [Nat.add_assoc]
  exact this
theorem shapeCoin : structShape Tryd.prog 57 = [(47, 0, true), (55, 33, true)] := by kernel_rfl
theorem keyOfCoin {c : CoinD} (h : c.ok) : ∃ l, keyOf Tryd.prog 57 (coinV c) = some l := by
  have hN : Tryd.prog.types.size = Tryd.prog.types.size - 3 + 2 + 1 := by kernel_rfl
  refine keyOf_struct shapeCoin (by simp) (by decide) (by kernel_rfl) (cs := coinC c) (by rw [coinC_len h]; kernel_rfl) ?_
  rw [hN]
  intro x hx
  simp only [List.mem_cons, List.not_mem_nil, or_false] at hx
  rcases hx with rfl | rfl
  · have e : ((coinC c).drop 0).take (Tryd.prog.cellsOf 47) = pointC c.at_ := by
      rw [show Tryd.prog.cellsOf 47 = 33 by kernel_rfl]
      unfold coinC
      rw [List.drop_zero, List.take_append_of_le_length (by rw [pointC_len h.1]; omega), List.take_of_length_le (by rw [pointC_len h.1]; omega)]
    simp only [e]
    exact keyLitsStruct rfl (by rw [shapePoint]; simp) (by rw [shapePoint]; decide) (by rw [pointC_len h.1]; kernel_rfl) _ (point_lits h.1 _)
  · have e : ((coinC c).drop 33).take (Tryd.prog.cellsOf 55) = outC c.out := by
      rw [show Tryd.prog.cellsOf 55 = 33 by kernel_rfl]
      unfold coinC
      rw [List.drop_append_of_le_length (by rw [pointC_len h.1]; omega), List.drop_of_length_le (by rw [pointC_len h.1]; omega), List.nil_append, List.take_of_length_le (by rw [outC_len h.2]; omega)]
    simp only [e]
    exact keyLitsStruct rfl (by rw [shapeOut]; simp) (by rw [shapeOut]; decide) (by rw [outC_len h.2]; kernel_rfl) _ (out_lits h.2 _)
theorem eqCoin : EqN Tryd.prog 57 := ⟨Keyed.of_law (deep_law_laid laidOutC (m := 4) (by decide) (of_decide_eq_true (by kernel_rfl)) (by kernel_rfl) (by kernel_rfl)), ⟨4, by decide, by kernel_rfl⟩, by kernel_rfl, by kernel_rfl⟩
theorem descCoin : ∃ d, Tryd.prog.underlying 57 = some d ∧ d.isRow = true := row_of (by kernel_rfl)
theorem infoCoin : (Tryd.prog.info? 57).map (·.size) = some 66 := by kernel_rfl
def coin0 : CoinD := ⟨point0, out0⟩
theorem zeroCoin (w : World) : (zeroValue 57).run Tryd.prog w = .ok (.agg (coinC coin0).toArray) w := by kernel_rfl
theorem zeroPoint (w : World) : (zeroValue 47).run Tryd.prog w = .ok (.agg (pointC point0).toArray) w := by kernel_rfl
theorem zeroOutC (w : World) : (zeroValue 55).run Tryd.prog w = .ok (.agg (outC out0).toArray) w := by kernel_rfl
theorem undCoins : Tryd.prog.underlying 51 = some (.slice 57) := by kernel_rfl
theorem infoCoinZ : (Tryd.prog.info? 57).map (fun i => (i.zero, i.size, i.bytes)) = some (some (.agg (coinC coin0).toArray), 66, 80) := by kernel_rfl
theorem infoCoinZ2 : (Tryd.prog.info? 57).map (fun i => (i.zero, i.size)) = some (some (.agg (coinC coin0).toArray), 66) := by kernel_rfl
/-- A slice of coins; of points. -/
def CoinsIs (w : World) (v : Value) (l : List CoinD) : Prop := (∀ c ∈ l, c.ok) ∧ ArgIs w v l.length (l.flatMap coinC)
theorem CoinsIs.keep {w w' : World} {v : Value} {l : List CoinD} (h : CoinsIs w v l) (f : Fr No w w') : CoinsIs w' v l := ⟨h.1, h.2.keep f⟩
theorem CoinsIs.at_ {w : World} {v : Value} {l : List CoinD} (h : CoinsIs w v l) {i : Nat} {c : CoinD} (hx : l[i]? = some c) : ∃ b off cap, v = .slice (some ⟨b, off, none⟩) l.length cap ∧ w.rangeAt b (off + i * 66) (coinC c) ∧ b < w.heap.size :=
  h.2.elem (by decide) (fun x hx => coinC_len (h.1 x hx)) hx
def PointsIs (w : World) (v : Value) (l : List PointD) : Prop := (∀ p ∈ l, p.ok) ∧ ArgIs w v l.length (l.flatMap pointC)
theorem PointsIs.keep {w w' : World} {v : Value} {l : List PointD} (h : PointsIs w v l) (f : Fr No w w') : PointsIs w' v l := ⟨h.1, h.2.keep f⟩
theorem PointsIs.at_ {w : World} {v : Value} {l : List PointD} (h : PointsIs w v l) {i : Nat} {p : PointD} (hx : l[i]? = some p) : ∃ b off cap, v = .slice (some ⟨b, off, none⟩) l.length cap ∧ w.rangeAt b (off + i * 33) (pointC p) ∧ b < w.heap.size :=
  h.2.elem (by decide) (fun x hx => pointC_len (h.1 x hx)) hx
theorem undAtMap : Tryd.prog.underlying 121 = some (.map 47 55) := by kernel_rfl
theorem undSeenMap : Tryd.prog.underlying 133 = some (.map 47 3) := by kernel_rfl
theorem zeroSeen (w : World) : (zeroValue 3).run Tryd.prog w = .ok (.int .i64 0) w := by kernel_rfl
end Go.Proofs.YtmpamcnlineceaaDoor

/- Going through a map. -/
namespace Go
open Go.MapKept Go.RowKit Go.Maps

/-- Iterator r goes through map b (keys and values L); R are those that it has not met. -/
def IterAt (P : Program) (kt : TypeId) (w : World) (r b : Nat) (L R : List (Value × Value)) : Prop :=
  ∃ es clk seen, w.heap[b]? = some (.map es clk) ∧ Stamped es clk ∧ es.size ≤ maxLen ∧ kv es = L ∧ (∀ e ∈ es.toList, ∃ l, keyOf P kt e.key = some l) ∧ r ≠ b ∧
    w.heap[r]? = some (.mapIter (some b) clk seen clk) ∧ (es.toList.filter fun e => !seen.contains e.born).map (fun e => (e.key, e.val)) = R

section
variable {P : Program} {kt et t : TypeId} {w : World} {r b : Nat} {L R : List (Value × Value)}

theorem IterAt.map (h : IterAt P kt w r b L R) : MapAt P kt w b L := by
  obtain ⟨es, clk, seen, h1, h2, h3, h4, h5, _⟩ := h
  exact ⟨es, clk, h1, h2, h3, h4, h5⟩
theorem IterAt.lt (h : IterAt P kt w r b L R) : r < w.heap.size := by
  obtain ⟨es, clk, seen, h1, h2, h3, h4, h5, h6, h7, _⟩ := h
  exact obj_lt h7
theorem IterAt.keep {w' : World} {W : Nat → Prop} (h : IterAt P kt w r b L R) (f : Fr W w w') (h1 : ¬ W b) (h2 : ¬ W r) : IterAt P kt w' r b L R := by
  obtain ⟨es, clk, seen, a1, a2, a3, a4, a5, a6, a7, a8⟩ := h
  exact ⟨es, clk, seen, f.obj a1 h1, a2, a3, a4, a5, a6, f.obj a7 h2, a8⟩

theorem MapAt.range (ht : P.underlying t = some (.map kt et)) (h : MapAt P kt w b L) :
    ∃ clk, (Instr.range t (.map (some b))).run P w = .ok (.pointer (some ⟨w.heap.size, 0, none⟩)) (w.alloc (.mapIter (some b) clk #[] clk)) ∧ IterAt P kt (w.alloc (.mapIter (some b) clk #[] clk)) w.heap.size b L L := by
  have hlt := h.lt
  obtain ⟨es, clk, hb, hs, hm, rfl, hk⟩ := h
  refine ⟨clk, ?_, es, clk, #[], old_obj hb _, hs, hm, rfl, hk, by omega, new_obj w _, ?_⟩
  · simp [Instr.range, run_underlying ht, MapKept.run_getObj_map hb, Result.andThen, newObj, Sem.run]
  · rw [List.filter_eq_self.2 (by simp)]; rfl

theorem IterAt.nextNone (h : IterAt P kt w r b L []) (ty : TypeId) : (Instr.next (.pointer (some ⟨r, 0, none⟩)) false ty).run P w = .ok (.tuple #[.bool false]) w := by
  obtain ⟨es, clk, seen, hb, hs, hm, hL, hk, hne, hr, hR⟩ := h
  rcases run_next_at (P := P) w ty r b clk clk seen es clk hr hb hs.1 (Nat.le_refl _) with ⟨_, h⟩ | ⟨e, he, _⟩
  · exact h
  · have he' : e ∈ es.toList.filter fun e => !seen.contains e.born := by simpa [leftOf] using he
    have : (e.key, e.val) ∈ (es.toList.filter fun e => !seen.contains e.born).map (fun e => (e.key, e.val)) := List.mem_map.2 ⟨e, he', rfl⟩
    rw [hR] at this
    cases this

theorem IterAt.nextSome (h : IterAt P kt w r b L R) (hne : R ≠ []) (ty : TypeId) :
    ∃ R1 p R2 w', R = R1 ++ p :: R2 ∧ (Instr.next (.pointer (some ⟨r, 0, none⟩)) false ty).run P w = .ok (.tuple #[.bool true, p.1, p.2]) w' ∧ IterAt P kt w' r b L (R1 ++ R2) ∧ Fr (· = r) w w' ∧
      ∀ w'', w''.heap[r]? = w'.heap[r]? → w''.heap[b]? = w'.heap[b]? → (Instr.entry (.pointer (some ⟨r, 0, none⟩))).run P w'' = .ok (.tuple #[p.1, p.2]) w'' := by
  obtain ⟨es, clk, seen, hb, hs, hm, hL, hk, hrb, hr, hR⟩ := h
  rcases run_next_at (P := P) w ty r b clk clk seen es clk hr hb hs.1 (Nat.le_refl _) with ⟨h0, _⟩ | ⟨e, he, w1, hw1, hrun⟩
  · have h1 : (leftOf es seen).toList = [] := by simpa using h0
    have h2 : es.toList.filter (fun e => !seen.contains e.born) = [] := by simpa [leftOf] using h1
    rw [h2] at hR
    exact absurd hR.symm hne
  · have he' : e ∈ es.toList.filter fun e => !seen.contains e.born := by simpa [leftOf] using he
    have hmem : e ∈ es.toList := (List.mem_filter.1 he').1
    obtain ⟨A, B, hAB⟩ := List.append_of_mem he'
    have hnd : ((A ++ e :: B).map (·.born)).Nodup := by rw [← hAB]; exact hs.2.1.sublist (List.filter_sublist.map _)
    simp only [List.map_append, List.map_cons] at hnd
    obtain ⟨n1, n2, n3⟩ := List.nodup_append.1 hnd
    obtain ⟨n4, n5⟩ := List.nodup_cons.1 n2
    have hb1 : w1.heap = w.heap := by rcases hw1 with rfl | rfl <;> rfl
    have f1 : Fr (· = r) w w1 := by
      rcases hw1 with rfl | rfl
      · exact Fr.refl _ _
      · exact (Fr.refl _ _).drew
    have hrlt := obj_lt hr
    have g1 : (ChangeMaps.setBlock w1 r (.mapIter (some b) clk (seen.push e.born) clk)).heap[r]? = some (.mapIter (some b) clk (seen.push e.born) clk) := by
      simp [ChangeMaps.setBlock, hb1, hrlt]
    have g2 : (ChangeMaps.setBlock w1 r (.mapIter (some b) clk (seen.push e.born) clk)).heap[b]? = some (.map es clk) := by
      simp only [ChangeMaps.setBlock, hb1]
      rw [Array.getElem?_setIfInBounds_ne hrb]
      exact hb
    refine ⟨A.map (fun e => (e.key, e.val)), (e.key, e.val), B.map (fun e => (e.key, e.val)), _, by rw [← hR, hAB]; simp, hrun, ⟨es, clk, seen.push e.born, g2, hs, hm, hL, hk, hrb, g1, ?_⟩, ?_, ?_⟩
    · have e1 : (es.toList.filter fun x => !(seen.push e.born).contains x.born) = (es.toList.filter fun x => !seen.contains x.born).filter fun x => decide (x.born ≠ e.born) := by
        rw [List.filter_filter]
        apply List.filter_congr
        intro x _
        by_cases hx : x.born = e.born <;> simp [hx]
      rw [e1, hAB, List.filter_append, List.filter_cons, if_neg (by simp), List.filter_eq_self.2, List.filter_eq_self.2, List.map_append]
      · intro x hx; simp only [decide_eq_true_eq]; exact fun h => n4 (h ▸ List.mem_map.2 ⟨x, hx, rfl⟩)
      · intro x hx; simp only [decide_eq_true_eq]; exact fun h => n3 x.born (List.mem_map.2 ⟨x, hx, rfl⟩) e.born (by simp) h
    · refine f1.trans ⟨rfl, rfl, rfl, by simp [ChangeMaps.setBlock], fun k _ hk => ?_⟩ (fun _ _ h => h)
      simp only [ChangeMaps.setBlock]
      rw [Array.getElem?_setIfInBounds_ne (Ne.symm hk)]
    · intro w'' h1 h2
      exact run_entry_at w'' r b clk seen es clk e (h1.trans g1) (h2.trans g2) hmem hs.2.1
end

section
variable {P : Program} {o : Oper} {a : Act} {w w' : World} {ops : Array Oper} {rest : List Oper}
theorem wpList_range_run {Q : Exit → Act → World → Prop} {x : Operand} {t : TypeId} {xv v : Value} (hg : o.guard = none) (hop : o.op = .range t x) (hx : a.eval x = xv)
    (hrun : (Instr.range t xv).run P w = .ok v w') (h : wpList P ops Q rest (a.put o.dst v) w') : wpList P ops Q (o :: rest) a w := by
  refine wpList_plain hg fun K' hK' => ?_
  unfold Oper.wp
  have he : (execOp a.eval o).run P w = .ok (.value v) w' := by simp [execOp, hop, hx, hrun, Result.andThen]
  rw [he]
  exact hK' _ _ h
theorem wpList_next_run {Q : Exit → Act → World → Prop} {x : Operand} {s : Bool} {xv v : Value} (hg : o.guard = none) (hop : o.op = .next x s) (hx : a.eval x = xv)
    (hrun : (Instr.next xv s o.type).run P w = .ok v w') (h : wpList P ops Q rest (a.put o.dst v) w') : wpList P ops Q (o :: rest) a w := by
  refine wpList_plain hg fun K' hK' => ?_
  unfold Oper.wp
  have he : (execOp a.eval o).run P w = .ok (.value v) w' := by simp [execOp, hop, hx, hrun, Result.andThen]
  rw [he]
  exact hK' _ _ h
theorem wpList_entry_run {Q : Exit → Act → World → Prop} {x : Operand} {xv v : Value} (hg : o.guard = none) (hop : o.op = .entry x) (hx : a.eval x = xv)
    (hrun : (Instr.entry xv).run P w = .ok v w') (h : wpList P ops Q rest (a.put o.dst v) w') : wpList P ops Q (o :: rest) a w := by
  refine wpList_plain hg fun K' hK' => ?_
  unfold Oper.wp
  have he : (execOp a.eval o).run P w = .ok (.value v) w' := by simp [execOp, hop, hx, hrun, Result.andThen]
  rw [he]
  exact hK' _ _ h
end
end Go
