/- Points, outputs and coins in memory. -/
import Derived.Test.YtoaefhjmpfchiaaProg
import Derived.Test.YtoaefhjmpfchiaaEqN
import Derived.Test.YtoaefhjmpfchiaaCoiP
import Derived.Lib.Hide
namespace Go.Proofs.Ytoaefhjmpfchiaa
open Go Go.RowKit Go.Maps Go.MapKept

theorem laidOutC : laidOutB Try.prog = true := by kernel_rfl
theorem wfC_8 {x : Int} (h : 0 ≤ x ∧ x ≤ 255) : (Lit.int .u8 x).wf = true := by
  simp [Lit.wf, IntKind.min, IntKind.max, IntKind.signed, IntKind.bits]
  omega
theorem wfC_32 {x : Int} (h : 0 ≤ x ∧ x ≤ 4294967295) : (Lit.int .u32 x).wf = true := by
  simp [Lit.wf, IntKind.min, IntKind.max, IntKind.signed, IntKind.bits]
  omega
theorem wfC_64 {x : Int} (h : 0 ≤ x ∧ x ≤ 18446744073709551615) : (Lit.int .u64 x).wf = true := by
  simp [Lit.wf, IntKind.min, IntKind.max, IntKind.signed, IntKind.bits]
  omega
theorem byteC_inj : ∀ {a b : List Int}, a.map byteV = b.map byteV → a = b
  | [], [], _ => rfl
  | [], _ :: _, h => by simp at h
  | _ :: _, [], h => by simp at h
  | x :: a, y :: b, h => by
    simp only [List.map_cons, List.cons.injEq, byteV, Value.int.injEq, true_and] at h
    rw [h.1, byteC_inj h.2]
theorem litsHash {l : List Int} (h : hashOk l) (d : Nat) : ∃ ls, Try.prog.keyLits (d + 2) 24 (l.map byteV) = some ls :=
  keyLitsArray (show Try.prog.underlying 24 = some (.array 32 5) by kernel_rfl) (by kernel_rfl) (by kernel_rfl) (by kernel_rfl) d l h.1 (fun x hx => wfC_8 (h.2 x hx))

/-! ### points -/
def pointC (p : PointD) : List Value := p.tx.map byteV ++ [.int .u32 p.n]
def pointV (p : PointD) : Value := .agg (pointC p).toArray
theorem pointC_len {p : PointD} (h : p.ok) : (pointC p).length = 33 := by simp [pointC, h.1.1]
theorem pointC_32 {p : PointD} (h : p.ok) : (pointC p)[32]? = some (.int .u32 p.n) := by
  unfold pointC
  rw [List.getElem?_append_right (by simp [h.1.1]), List.length_map, h.1.1]; rfl
theorem pointC_one {p : PointD} : ∀ v ∈ pointC p, v.oneCell' = true := by
  intro v hv
  unfold pointC at hv
  simp only [List.mem_append, List.mem_map, List.mem_singleton] at hv
  rcases hv with ⟨y, _, rfl⟩ | rfl <;> rfl
theorem pointC_inj {a b : PointD} (h : pointC a = pointC b) : a = b := by
  obtain ⟨x, l⟩ := a
  obtain ⟨y, m⟩ := b
  simp only [pointC] at h
  obtain ⟨h1, h2⟩ := List.append_inj' h rfl
  simp only [List.cons.injEq, Value.int.injEq, true_and, and_true] at h2
  rw [byteC_inj h1, h2]
theorem pointV_inj {a b : PointD} (h : pointV a = pointV b) : a = b := by
  unfold pointV at h
  injection h with h
  exact pointC_inj (by simpa using congrArg Array.toList h)
theorem shapePoint : structShape Try.prog 27 = [(24, 0, true), (25, 32, true)] := by kernel_rfl
theorem point_lits {p : PointD} (h : p.ok) (d : Nat) : ∀ x ∈ structShape Try.prog 27, ∃ l, Try.prog.keyLits (d + 2) x.1 (((pointC p).drop x.2.1).take (Try.prog.cellsOf x.1)) = some l := by
  rw [shapePoint]
  intro x hx
  simp only [List.mem_cons, List.not_mem_nil, or_false] at hx
  rcases hx with rfl | rfl
  · have e : ((pointC p).drop 0).take (Try.prog.cellsOf 24) = p.tx.map byteV := by
      rw [show Try.prog.cellsOf 24 = 32 by kernel_rfl]
      unfold pointC
      rw [List.drop_zero, List.take_append_of_le_length (by simp [h.1.1]), List.take_of_length_le (by simp [h.1.1])]
    simp only [e]
    exact litsHash h.1 d
  · have e : ((pointC p).drop 32).take (Try.prog.cellsOf 25) = [.int .u32 p.n] := by
      rw [show Try.prog.cellsOf 25 = 1 by kernel_rfl]
      unfold pointC
      rw [List.drop_append_of_le_length (by simp [h.1.1]), List.drop_of_length_le (by simp [h.1.1])]; rfl
    simp only [e]
    exact ⟨_, keyLitsInt (by kernel_rfl) _ (wfC_32 h.2)⟩
theorem keyOfPoint {p : PointD} (h : p.ok) : ∃ l, keyOf Try.prog 27 (pointV p) = some l := by
  have hN : Try.prog.types.size = Try.prog.types.size - 2 + 2 := by kernel_rfl
  refine keyOf_struct shapePoint (by simp) (by decide) (by kernel_rfl) (cs := pointC p) (by rw [pointC_len h]; kernel_rfl) ?_
  rw [hN, ← shapePoint]
  exact point_lits h _
theorem eqPoint : EqN Try.prog 27 := ⟨Keyed.of_law (deep_law_laid laidOutC (m := 3) (by decide) (of_decide_eq_true (by kernel_rfl)) (by kernel_rfl) (by kernel_rfl)), ⟨3, by decide, by kernel_rfl⟩, by kernel_rfl, by kernel_rfl⟩
theorem descPoint : ∃ d, Try.prog.underlying 27 = some d ∧ d.isRow = true := row_of (by kernel_rfl)
theorem infoPoint : (Try.prog.info? 27).map (·.size) = some 33 := by kernel_rfl
def point0 : PointD := ⟨List.replicate 32 0, 0⟩
theorem undPoints : Try.prog.underlying 52 = some (.slice 27) := by kernel_rfl
theorem infoPointZ : (Try.prog.info? 27).map (fun i => (i.zero, i.size, i.bytes)) = some (some (.agg (pointC point0).toArray), 33, 36) := by kernel_rfl
theorem infoPointZ2 : (Try.prog.info? 27).map (fun i => (i.zero, i.size)) = some (some (.agg (pointC point0).toArray), 33) := by kernel_rfl

/-! ### outputs -/
def outC (x : OutD) : List Value := .int .u64 x.value :: x.lock.map byteV
def outV (x : OutD) : Value := .agg (outC x).toArray
theorem outC_len {x : OutD} (h : x.ok) : (outC x).length = 33 := by simp [outC, h.2.1]
theorem outC_0 (x : OutD) : (outC x)[0]? = some (.int .u64 x.value) := rfl
theorem outC_one {x : OutD} : ∀ v ∈ outC x, v.oneCell' = true := by
  intro v hv
  unfold outC at hv
  simp only [List.mem_cons, List.mem_map] at hv
  rcases hv with rfl | ⟨y, _, rfl⟩ <;> rfl
theorem outC_inj {a b : OutD} (h : outC a = outC b) : a = b := by
  obtain ⟨x, l⟩ := a
  obtain ⟨y, m⟩ := b
  simp only [outC, List.cons.injEq, Value.int.injEq, true_and] at h
  rw [h.1, byteC_inj h.2]
theorem outV_inj {a b : OutD} (h : outV a = outV b) : a = b := by
  unfold outV at h
  injection h with h
  exact outC_inj (by simpa using congrArg Array.toList h)
theorem shapeOut : structShape Try.prog 36 = [(34, 0, true), (24, 1, true)] := by kernel_rfl
theorem out_lits {o : OutD} (h : o.ok) (d : Nat) : ∀ x ∈ structShape Try.prog 36, ∃ l, Try.prog.keyLits (d + 2) x.1 (((outC o).drop x.2.1).take (Try.prog.cellsOf x.1)) = some l := by
  rw [shapeOut]
  intro x hx
  simp only [List.mem_cons, List.not_mem_nil, or_false] at hx
  rcases hx with rfl | rfl
  · have e : ((outC o).drop 0).take (Try.prog.cellsOf 34) = [.int .u64 o.value] := by
      rw [show Try.prog.cellsOf 34 = 1 by kernel_rfl]; rfl
    simp only [e]
    exact ⟨_, keyLitsInt (by kernel_rfl) _ (wfC_64 h.1)⟩
  · have e : ((outC o).drop 1).take (Try.prog.cellsOf 24) = o.lock.map byteV := by
      rw [show Try.prog.cellsOf 24 = 32 by kernel_rfl]
      show (o.lock.map byteV).take 32 = o.lock.map byteV
      rw [List.take_of_length_le (by simp [h.2.1])]
    simp only [e]
    exact litsHash h.2 d
theorem keyOfOut {o : OutD} (h : o.ok) : ∃ l, keyOf Try.prog 36 (outV o) = some l := by
  have hN : Try.prog.types.size = Try.prog.types.size - 2 + 2 := by kernel_rfl
  refine keyOf_struct shapeOut (by simp) (by decide) (by kernel_rfl) (cs := outC o) (by rw [outC_len h]; kernel_rfl) ?_
  rw [hN, ← shapeOut]
  exact out_lits h _
theorem eqOut : EqN Try.prog 36 := ⟨Keyed.of_law (deep_law_laid laidOutC (m := 3) (by decide) (of_decide_eq_true (by kernel_rfl)) (by kernel_rfl) (by kernel_rfl)), ⟨3, by decide, by kernel_rfl⟩, by kernel_rfl, by kernel_rfl⟩
theorem descOut : ∃ d, Try.prog.underlying 36 = some d ∧ d.isRow = true := row_of (by kernel_rfl)
theorem infoOut : (Try.prog.info? 36).map (·.size) = some 33 := by kernel_rfl
def out0 : OutD := ⟨0, List.replicate 32 0⟩
theorem out0_ok : out0.ok := ⟨by decide, rfl, fun x hx => by have : x = 0 := List.eq_of_mem_replicate hx; omega⟩
theorem zeroOut (w : World) : (zeroValue 36).run Try.prog w = .ok (outV out0) w := by kernel_rfl
theorem undOuts : Try.prog.underlying 56 = some (.slice 36) := by kernel_rfl
theorem infoOutZ : (Try.prog.info? 36).map (fun i => (i.zero, i.size, i.bytes)) = some (some (.agg (outC out0).toArray), 33, 40) := by kernel_rfl
theorem infoOutZ2 : (Try.prog.info? 36).map (fun i => (i.zero, i.size)) = some (some (.agg (outC out0).toArray), 33) := by kernel_rfl

/-! ### coins -/
def coinC (c : CoinD) : List Value := pointC c.at_ ++ outC c.out
def coinV (c : CoinD) : Value := .agg (coinC c).toArray
theorem coinC_len {c : CoinD} (h : c.ok) : (coinC c).length = 66 := by simp [coinC, pointC_len h.1, outC_len h.2]
theorem coinC_one {c : CoinD} : ∀ v ∈ coinC c, v.oneCell' = true := by
  intro v hv
  rcases List.mem_append.1 hv with h | h
  · exact pointC_one v h
  · exact outC_one v h
theorem coinC_inj {a b : CoinD} (ha : a.ok) (hb : b.ok) (h : coinC a = coinC b) : a = b := by
  unfold coinC at h
  obtain ⟨h1, h2⟩ := List.append_inj h (by rw [pointC_len ha.1, pointC_len hb.1])
  cases a; cases b
  simp only [CoinD.mk.injEq] at *
  exact ⟨pointC_inj h1, outC_inj h2⟩
theorem coin_at {w : World} {b o : Nat} {c : CoinD} (h : w.rangeAt b o (coinC c)) : w.rangeAt b o (pointC c.at_) := fun j v hj => h j v (by
  unfold coinC
  rw [List.getElem?_append_left (List.getElem?_eq_some_iff.1 hj).1]
  exact hj)
theorem coin_out {w : World} {b o : Nat} {c : CoinD} (hc : c.ok) (h : w.rangeAt b o (coinC c)) : w.rangeAt b (o + 33) (outC c.out) := fun j v hj => by
  have := h (33 + j) v (by
    unfold coinC
    rw [List.getElem?_append_right (by rw [pointC_len hc.1]; omega), pointC_len hc.1]
    rw [show 33 + j - 33 = j by omega]
    exact hj)
  rw [Nat.add_assoc]
  exact this
theorem shapeCoin : structShape Try.prog 38 = [(27, 0, true), (36, 33, true)] := by kernel_rfl
theorem keyOfCoin {c : CoinD} (h : c.ok) : ∃ l, keyOf Try.prog 38 (coinV c) = some l := by
  have hN : Try.prog.types.size = Try.prog.types.size - 3 + 2 + 1 := by kernel_rfl
  refine keyOf_struct shapeCoin (by simp) (by decide) (by kernel_rfl) (cs := coinC c) (by rw [coinC_len h]; kernel_rfl) ?_
  rw [hN]
  intro x hx
  simp only [List.mem_cons, List.not_mem_nil, or_false] at hx
  rcases hx with rfl | rfl
  · have e : ((coinC c).drop 0).take (Try.prog.cellsOf 27) = pointC c.at_ := by
      rw [show Try.prog.cellsOf 27 = 33 by kernel_rfl]
      unfold coinC
      rw [List.drop_zero, List.take_append_of_le_length (by rw [pointC_len h.1]; omega), List.take_of_length_le (by rw [pointC_len h.1]; omega)]
    simp only [e]
    exact keyLitsStruct rfl (by rw [shapePoint]; simp) (by rw [shapePoint]; decide) (by rw [pointC_len h.1]; kernel_rfl) _ (point_lits h.1 _)
  · have e : ((coinC c).drop 33).take (Try.prog.cellsOf 36) = outC c.out := by
      rw [show Try.prog.cellsOf 36 = 33 by kernel_rfl]
      unfold coinC
      rw [List.drop_append_of_le_length (by rw [pointC_len h.1]; omega), List.drop_of_length_le (by rw [pointC_len h.1]; omega), List.nil_append, List.take_of_length_le (by rw [outC_len h.2]; omega)]
    simp only [e]
    exact keyLitsStruct rfl (by rw [shapeOut]; simp) (by rw [shapeOut]; decide) (by rw [outC_len h.2]; kernel_rfl) _ (out_lits h.2 _)
theorem eqCoin : EqN Try.prog 38 := ⟨Keyed.of_law (deep_law_laid laidOutC (m := 4) (by decide) (of_decide_eq_true (by kernel_rfl)) (by kernel_rfl) (by kernel_rfl)), ⟨4, by decide, by kernel_rfl⟩, by kernel_rfl, by kernel_rfl⟩
theorem descCoin : ∃ d, Try.prog.underlying 38 = some d ∧ d.isRow = true := row_of (by kernel_rfl)
theorem infoCoin : (Try.prog.info? 38).map (·.size) = some 66 := by kernel_rfl
def coin0 : CoinD := ⟨point0, out0⟩
theorem zeroCoin (w : World) : (zeroValue 38).run Try.prog w = .ok (.agg (coinC coin0).toArray) w := by kernel_rfl
theorem zeroPoint (w : World) : (zeroValue 27).run Try.prog w = .ok (.agg (pointC point0).toArray) w := by kernel_rfl
theorem zeroOutC (w : World) : (zeroValue 36).run Try.prog w = .ok (.agg (outC out0).toArray) w := by kernel_rfl
theorem undCoins : Try.prog.underlying 22 = some (.slice 38) := by kernel_rfl
theorem infoCoinZ : (Try.prog.info? 38).map (fun i => (i.zero, i.size, i.bytes)) = some (some (.agg (coinC coin0).toArray), 66, 80) := by kernel_rfl
theorem infoCoinZ2 : (Try.prog.info? 38).map (fun i => (i.zero, i.size)) = some (some (.agg (coinC coin0).toArray), 66) := by kernel_rfl
/-- A slice of coins; of points. -/
def CoinsIs (w : World) (v : Value) (l : List CoinD) : Prop := (∀ c ∈ l, c.ok) ∧ ArgIs w v l.length (l.flatMap coinC)
theorem CoinsIs.keep {w w' : World} {v : Value} {l : List CoinD} (h : CoinsIs w v l) (f : Fr No w w') : CoinsIs w' v l := ⟨h.1, h.2.keep f⟩
theorem CoinsIs.at_ {w : World} {v : Value} {l : List CoinD} (h : CoinsIs w v l) {i : Nat} {c : CoinD} (hx : l[i]? = some c) : ∃ b off cap, v = .slice (some ⟨b, off, none⟩) l.length cap ∧ w.rangeAt b (off + i * 66) (coinC c) ∧ b < w.heap.size :=
  h.2.elem (by decide) (fun x hx => coinC_len (h.1 x hx)) hx
def PointsIs (w : World) (v : Value) (l : List PointD) : Prop := (∀ p ∈ l, p.ok) ∧ ArgIs w v l.length (l.flatMap pointC)
theorem PointsIs.keep {w w' : World} {v : Value} {l : List PointD} (h : PointsIs w v l) (f : Fr No w w') : PointsIs w' v l := ⟨h.1, h.2.keep f⟩
theorem PointsIs.at_ {w : World} {v : Value} {l : List PointD} (h : PointsIs w v l) {i : Nat} {p : PointD} (hx : l[i]? = some p) : ∃ b off cap, v = .slice (some ⟨b, off, none⟩) l.length cap ∧ w.rangeAt b (off + i * 33) (pointC p) ∧ b < w.heap.size :=
  h.2.elem (by decide) (fun x hx => pointC_len (h.1 x hx)) hx
theorem undAtMap : Try.prog.underlying 67 = some (.map 27 36) := by kernel_rfl
theorem undSeenMap : Try.prog.underlying 75 = some (.map 27 3) := by kernel_rfl
theorem zeroSeen (w : World) : (zeroValue 3).run Try.prog w = .ok (.int .i64 0) w := by kernel_rfl
end Go.Proofs.Ytoaefhjmpfchiaa
