/- pappuslaw16: acts and a key opened. -/
import Derived.Test.YthmaekkjpginoaaDoorOpen
import Derived.Test.YthmaekkjpginoaaDoorEmbK
namespace Go.Proofs.YthmaekkjpginoaaDoor
open Go Go.RowKit Go.ChangeShapes Go.WideShapes Go.Deep

section
variable {H : Type} {enc : TypeId × Value → H} {w : World} {base : Nat} {spare : Nat → Bool} {held : Bool}
theorem take1 {cs : List Value} {i : Nat} {v : Value} (h : (cs.drop i).take 1 = [v]) : ∃ r, cs.drop i = v :: r := by
  cases hd : cs.drop i with
  | nil => rw [hd] at h; cases h
  | cons a r => rw [hd] at h; simp at h; exact ⟨r, by rw [h]⟩
theorem wf_in {n : Int} (h : (Lit.int .i64 n).wf = true) : inI64 n := by
  simp [Lit.wf, IntKind.min, IntKind.max, IntKind.signed, IntKind.bits] at h
  unfold inI64
  omega
theorem wf_u64 {n : Int} (h : (Lit.int .u64 n).wf = true) : 0 ≤ n ∧ n ≤ 18446744073709551615 := by
  simp [Lit.wf, IntKind.min, IntKind.max, IntKind.signed, IntKind.bits] at h
  omega
set_option maxRecDepth 20000 in
theorem trod_key {fuel : Nat} {cs : List Value} {x : DataW H × List MemPlace} (h : DataW.trod enc Tryd.prog w base spare held fuel 39 cs = some x) : ∃ k : KeyD, k.ok ∧ cs = keyC k := by
  have c3 : Tryd.prog.cellsOf 3 = 1 := by kernel_rfl
  have cH : Tryd.prog.cellsOf 34 = 32 := by kernel_rfl
  have cK : Tryd.prog.cellsOf 39 = 33 := by kernel_rfl
  have cB : Tryd.prog.cellsOf 5 = 1 := by kernel_rfl
  obtain ⟨ys, n, _, _, hl, hyl, hf⟩ := DataW.trod_struct Tryd.underlying39 h
  have g0 : DataW.trod enc Tryd.prog w base spare held n 3 ((cs.drop 0).take (Tryd.prog.cellsOf 3)) = ys[0]? := hf 0 _ rfl
  have g1 : DataW.trod enc Tryd.prog w base spare held n 34 ((cs.drop 1).take (Tryd.prog.cellsOf 34)) = ys[1]? := hf 1 _ rfl
  rw [c3] at g0
  rw [cH] at g1
  rw [cK] at hl
  have hys : ys.length = 2 := hyl
  rw [List.getElem?_eq_getElem (by omega)] at g0 g1
  obtain ⟨s, e0, _, w0⟩ := DataW.trod_int Tryd.underlying3 g0
  obtain ⟨l, hll, hlb, e1⟩ := trod_bytes Tryd.underlying34 cH cB Tryd.underlying5 g1
  refine ⟨⟨s, l⟩, ⟨wf_in w0, hll, hlb⟩, ?_⟩
  obtain ⟨r, hr⟩ := take1 e0
  rw [List.drop_zero] at hr
  subst hr
  have hr2 : r.length = 32 := by simpa using hl
  have e2 : r.take 32 = l.map (Value.int .u8) := e1
  rw [List.take_of_length_le (by omega)] at e2
  rw [e2]
  rfl
set_option maxRecDepth 20000 in
theorem trod_act {fuel : Nat} {cs : List Value} {x : DataW H × List MemPlace} (h : DataW.trod enc Tryd.prog w base spare held fuel 55 cs = some x) : ∃ a : ActD, a.ok ∧ cs = actC a := by
  have c3 : Tryd.prog.cellsOf 3 = 1 := by kernel_rfl
  have cK : Tryd.prog.cellsOf 39 = 33 := by kernel_rfl
  have cU : Tryd.prog.cellsOf 24 = 1 := by kernel_rfl
  have cA : Tryd.prog.cellsOf 55 = 35 := by kernel_rfl
  obtain ⟨ys, n, _, _, hl, hyl, hf⟩ := DataW.trod_struct Tryd.underlying55 h
  have g0 : DataW.trod enc Tryd.prog w base spare held n 3 ((cs.drop 0).take (Tryd.prog.cellsOf 3)) = ys[0]? := hf 0 _ rfl
  have g1 : DataW.trod enc Tryd.prog w base spare held n 39 ((cs.drop 1).take (Tryd.prog.cellsOf 39)) = ys[1]? := hf 1 _ rfl
  have g2 : DataW.trod enc Tryd.prog w base spare held n 24 ((cs.drop 34).take (Tryd.prog.cellsOf 24)) = ys[2]? := hf 2 _ rfl
  rw [c3] at g0
  rw [cK] at g1
  rw [cU] at g2
  rw [cA] at hl
  have hys : ys.length = 3 := hyl
  rw [List.getElem?_eq_getElem (by omega)] at g0 g1 g2
  obtain ⟨s, e0, _, w0⟩ := DataW.trod_int Tryd.underlying3 g0
  obtain ⟨k, hk, e1⟩ := trod_key g1
  obtain ⟨t, e2, _, w2⟩ := DataW.trod_int Tryd.underlying24 g2
  refine ⟨⟨s, k, t⟩, ⟨wf_in w0, hk, wf_u64 w2⟩, ?_⟩
  obtain ⟨r, hr⟩ := take1 e0
  rw [List.drop_zero] at hr
  subst hr
  have hr2 : r.length = 34 := by simpa using hl
  have e3 : r.take 33 = keyC k := e1
  have e4 : (r.drop 33).take 1 = [.int .u64 t] := e2
  have e5 : r.drop 33 = [.int .u64 t] := by rw [← e4, List.take_of_length_le (by rw [List.length_drop]; omega)]
  show _ :: r = _ :: (keyC k ++ _)
  rw [← e3, ← e5, List.take_append_drop]
set_option maxRecDepth 20000 in
theorem open_actsE {fuel : Nat} {v : Value} {x : DataW H × List MemPlace} (h : DataW.trod enc Tryd.prog w base spare held fuel 28 [v] = some x) : ∃ L, ActsIs w v L :=
  open_flat Tryd.underlying28 (k := 35) (by kernel_rfl) (by decide) (fun a => actC_len) (fun _ _ _ h => trod_act h) h
set_option maxRecDepth 20000 in
theorem open_keyE {r : Reach} {b0 : Nat} {v : Value} {d : DataW H} {p : List MemPlace} (hv : Value.okWide Tryd.prog w r b0 39 v) (h : DataW.Trod enc Tryd.prog w base spare held 39 v d p) :
    ∃ k : KeyD, k.ok ∧ v = .agg (keyC k).toArray := by
  obtain ⟨cs, rfl, hsz⟩ := okWide_struct Tryd.underlying39 hv
  obtain ⟨fuel, hf⟩ := h
  obtain ⟨k, hk, e⟩ := trod_key hf
  refine ⟨k, hk, ?_⟩
  have e2 : cs.toList = keyC k := e
  rw [← e2]
end
end Go.Proofs.YthmaekkjpginoaaDoor
