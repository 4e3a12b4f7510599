/- Coins, points opened. -/
import Derived.Test.YtoaefhjmpfchiaaOpen
import Derived.Test.YtoaefhjmpfchiaaCoiA
namespace Go.Proofs.Ytoaefhjmpfchiaa
open Go Go.RowKit Go.ChangeShapes Go.WideShapes Go.Deep

section
variable {H : Type} {enc : TypeId × Value → H} {w : World} {base : Nat} {spare : Nat → Bool} {held : Bool}
theorem wfC_u32 {n : Int} (h : (Lit.int .u32 n).wf = true) : 0 ≤ n ∧ n ≤ 4294967295 := by
  simp [Lit.wf, IntKind.min, IntKind.max, IntKind.signed, IntKind.bits] at h
  omega
theorem wfC_u64 {n : Int} (h : (Lit.int .u64 n).wf = true) : 0 ≤ n ∧ n ≤ 18446744073709551615 := by
  simp [Lit.wf, IntKind.min, IntKind.max, IntKind.signed, IntKind.bits] at h
  omega
theorem trodC_hash {fuel : Nat} {cs : List Value} {x : DataW H × List MemPlace} (h : DataW.trod enc Try.prog w base spare held fuel 24 cs = some x) : ∃ l : List Int, hashOk l ∧ cs = l.map byteV := by
  have cH : Try.prog.cellsOf 24 = 32 := by kernel_rfl
  have cB : Try.prog.cellsOf 5 = 1 := by kernel_rfl
  obtain ⟨l, hll, hlb, e1⟩ := trod_bytes Try.underlying24 cH cB Try.underlying5 h
  exact ⟨l, ⟨hll, hlb⟩, e1⟩
set_option maxRecDepth 20000 in
theorem trodC_point {fuel : Nat} {cs : List Value} {x : DataW H × List MemPlace} (h : DataW.trod enc Try.prog w base spare held fuel 27 cs = some x) : ∃ p : PointD, p.ok ∧ cs = pointC p := by
  have cH : Try.prog.cellsOf 24 = 32 := by kernel_rfl
  have cP : Try.prog.cellsOf 27 = 33 := by kernel_rfl
  have cU : Try.prog.cellsOf 25 = 1 := by kernel_rfl
  obtain ⟨ys, n, _, _, hl, hyl, hf⟩ := DataW.trod_struct Try.underlying27 h
  have g0 : DataW.trod enc Try.prog w base spare held n 24 ((cs.drop 0).take (Try.prog.cellsOf 24)) = ys[0]? := hf 0 _ rfl
  have g1 : DataW.trod enc Try.prog w base spare held n 25 ((cs.drop 32).take (Try.prog.cellsOf 25)) = ys[1]? := hf 1 _ rfl
  rw [cH] at g0
  rw [cU] at g1
  rw [cP] at hl
  have hys : ys.length = 2 := hyl
  rw [List.getElem?_eq_getElem (by omega)] at g0 g1
  obtain ⟨l, hlo, e0⟩ := trodC_hash g0
  obtain ⟨s, e1, _, w1⟩ := DataW.trod_int Try.underlying25 g1
  refine ⟨⟨l, s⟩, ⟨hlo, wfC_u32 w1⟩, ?_⟩
  rw [List.drop_zero] at e0
  have e2 : cs.drop 32 = [.int .u32 s] := by rw [← e1, List.take_of_length_le (by rw [List.length_drop]; omega)]
  show cs = l.map byteV ++ [.int .u32 s]
  rw [← e0, ← e2, List.take_append_drop]
set_option maxRecDepth 20000 in
theorem trodC_out {fuel : Nat} {cs : List Value} {x : DataW H × List MemPlace} (h : DataW.trod enc Try.prog w base spare held fuel 36 cs = some x) : ∃ o : OutD, o.ok ∧ cs = outC o := by
  have cH : Try.prog.cellsOf 24 = 32 := by kernel_rfl
  have cP : Try.prog.cellsOf 36 = 33 := by kernel_rfl
  have cU : Try.prog.cellsOf 34 = 1 := by kernel_rfl
  obtain ⟨ys, n, _, _, hl, hyl, hf⟩ := DataW.trod_struct Try.underlying36 h
  have g0 : DataW.trod enc Try.prog w base spare held n 34 ((cs.drop 0).take (Try.prog.cellsOf 34)) = ys[0]? := hf 0 _ rfl
  have g1 : DataW.trod enc Try.prog w base spare held n 24 ((cs.drop 1).take (Try.prog.cellsOf 24)) = ys[1]? := hf 1 _ rfl
  rw [cU] at g0
  rw [cH] at g1
  rw [cP] at hl
  have hys : ys.length = 2 := hyl
  rw [List.getElem?_eq_getElem (by omega)] at g0 g1
  obtain ⟨s, e0, _, w0⟩ := DataW.trod_int Try.underlying34 g0
  obtain ⟨l, hlo, e1⟩ := trodC_hash g1
  refine ⟨⟨s, l⟩, ⟨wfC_u64 w0, hlo⟩, ?_⟩
  rw [List.drop_zero] at e0
  have e2 : cs.drop 1 = l.map byteV := by rw [← e1, List.take_of_length_le (by rw [List.length_drop]; omega)]
  show cs = [.int .u64 s] ++ l.map byteV
  rw [← e0, ← e2, List.take_append_drop]
set_option maxRecDepth 20000 in
theorem trodC_coin {fuel : Nat} {cs : List Value} {x : DataW H × List MemPlace} (h : DataW.trod enc Try.prog w base spare held fuel 38 cs = some x) : ∃ c : CoinD, c.ok ∧ cs = coinC c := by
  have cP : Try.prog.cellsOf 27 = 33 := by kernel_rfl
  have cO : Try.prog.cellsOf 36 = 33 := by kernel_rfl
  have cC : Try.prog.cellsOf 38 = 66 := by kernel_rfl
  obtain ⟨ys, n, _, _, hl, hyl, hf⟩ := DataW.trod_struct Try.underlying38 h
  have g0 : DataW.trod enc Try.prog w base spare held n 27 ((cs.drop 0).take (Try.prog.cellsOf 27)) = ys[0]? := hf 0 _ rfl
  have g1 : DataW.trod enc Try.prog w base spare held n 36 ((cs.drop 33).take (Try.prog.cellsOf 36)) = ys[1]? := hf 1 _ rfl
  rw [cP] at g0
  rw [cO] at g1
  rw [cC] at hl
  have hys : ys.length = 2 := hyl
  rw [List.getElem?_eq_getElem (by omega)] at g0 g1
  obtain ⟨p, hp, e0⟩ := trodC_point g0
  obtain ⟨o, ho, e1⟩ := trodC_out g1
  refine ⟨⟨p, o⟩, ⟨hp, ho⟩, ?_⟩
  rw [List.drop_zero] at e0
  have e2 : cs.drop 33 = outC o := by rw [← e1, List.take_of_length_le (by rw [List.length_drop]; omega)]
  show cs = pointC p ++ outC o
  rw [← e0, ← e2, List.take_append_drop]
set_option maxRecDepth 20000 in
theorem open_coins {fuel : Nat} {v : Value} {x : DataW H × List MemPlace} (h : DataW.trod enc Try.prog w base spare held fuel 22 [v] = some x) : ∃ L, CoinsIs w v L :=
  open_flat Try.underlying22 (k := 66) (by kernel_rfl) (by decide) (fun a => coinC_len) (fun _ _ _ h => trodC_coin h) h
set_option maxRecDepth 20000 in
theorem open_point {r : Reach} {b0 : Nat} {v : Value} {d : DataW H} {p : List MemPlace} (hv : Value.okWide Try.prog w r b0 27 v) (h : DataW.Trod enc Try.prog w base spare held 27 v d p) :
    ∃ k : PointD, k.ok ∧ v = .agg (pointC k).toArray := by
  obtain ⟨cs, rfl, hsz⟩ := okWide_struct Try.underlying27 hv
  obtain ⟨fuel, hf⟩ := h
  obtain ⟨k, hk, e⟩ := trodC_point hf
  refine ⟨k, hk, ?_⟩
  have e2 : cs.toList = pointC k := e
  rw [← e2]
set_option maxRecDepth 20000 in
theorem open_coin {r : Reach} {b0 : Nat} {v : Value} {d : DataW H} {p : List MemPlace} (hv : Value.okWide Try.prog w r b0 38 v) (h : DataW.Trod enc Try.prog w base spare held 38 v d p) :
    ∃ k : CoinD, k.ok ∧ v = .agg (coinC k).toArray := by
  obtain ⟨cs, rfl, hsz⟩ := okWide_struct Try.underlying38 hv
  obtain ⟨fuel, hf⟩ := h
  obtain ⟨k, hk, e⟩ := trodC_coin hf
  refine ⟨k, hk, ?_⟩
  have e2 : cs.toList = coinC k := e
  rw [← e2]
end
end Go.Proofs.Ytoaefhjmpfchiaa
