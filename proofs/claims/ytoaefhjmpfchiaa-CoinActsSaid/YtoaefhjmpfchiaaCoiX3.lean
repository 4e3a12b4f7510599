/- Coin's acts opened. -/
import Derived.Test.YtoaefhjmpfchiaaOpenR
import Derived.Test.YtoaefhjmpfchiaaCoiX
import Derived.Test.YtoaefhjmpfchiaaCoiR6
namespace Go.Proofs.Ytoaefhjmpfchiaa
open Go Go.RowKit Go.ChangeShapes Go.WideShapes Go.Deep
section
variable {H : Type} {enc : TypeId × Value → H} {w : World} {base : Nat} {spare : Nat → Bool} {held : Bool}
set_option maxRecDepth 20000 in
theorem open_pointsC {fuel : Nat} {v : Value} {x : DataW H × List MemPlace} (h : DataW.trod enc Try.prog w base spare held fuel 52 [v] = some x) : ∃ L, PointsIs w v L :=
  open_flat Try.underlying52 (k := 33) (by kernel_rfl) (by decide) (fun a => pointC_len) (fun _ _ _ h => trodC_point h) h
def ActQ (w : World) (d : ActC) (cs : List Value) : Prop := ∃ v1 v2, cs = [.int .i64 d.kind, v1, v2] ∧ CoinsIs w v1 d.cs ∧ PointsIs w v2 d.ps
set_option maxRecDepth 20000 in
theorem trodC_act {fuel : Nat} {cs : List Value} {x : DataW H × List MemPlace} (h : DataW.trod enc Try.prog w base spare held fuel 54 cs = some x) : ∃ d, ActQ w d cs := by
  have c1 : Try.prog.cellsOf 3 = 1 := by kernel_rfl
  have c2 : Try.prog.cellsOf 22 = 1 := by kernel_rfl
  have c3 : Try.prog.cellsOf 52 = 1 := by kernel_rfl
  have cA : Try.prog.cellsOf 54 = 3 := by kernel_rfl
  obtain ⟨ys, n, _, _, hl, hyl, hf⟩ := DataW.trod_struct Try.underlying54 h
  have g0 : DataW.trod enc Try.prog w base spare held n 3 ((cs.drop 0).take (Try.prog.cellsOf 3)) = ys[0]? := hf 0 _ rfl
  have g1 : DataW.trod enc Try.prog w base spare held n 22 ((cs.drop 1).take (Try.prog.cellsOf 22)) = ys[1]? := hf 1 _ rfl
  have g2 : DataW.trod enc Try.prog w base spare held n 52 ((cs.drop 2).take (Try.prog.cellsOf 52)) = ys[2]? := hf 2 _ rfl
  rw [c1] at g0
  rw [c2] at g1
  rw [c3] at g2
  rw [cA] at hl
  have hys : ys.length = 3 := hyl
  rw [List.getElem?_eq_getElem (by omega)] at g0 g1 g2
  match cs, hl with
  | [v0, v1, v2], _ =>
    obtain ⟨k, e0, _⟩ := DataW.trod_int Try.underlying3 g0
    obtain ⟨a, ha⟩ := open_coins g1
    obtain ⟨b, hb⟩ := open_pointsC g2
    simp only [List.drop_zero, List.take_succ_cons, List.take_zero, List.cons.injEq, and_true] at e0
    subst e0
    exact ⟨⟨k, a, b⟩, v1, v2, rfl, ha, hb⟩
set_option maxRecDepth 20000 in
theorem open_cacts {fuel : Nat} {v : Value} {x : DataW H × List MemPlace} (h : DataW.trod enc Try.prog w base spare held fuel 47 [v] = some x) : ∃ L, CActsIs w v L := by
  obtain ⟨L, va, vc, e, hl, hp⟩ := open_rows (q := ActQ w) Try.underlying47 (k := 3) (by kernel_rfl) (by decide) (fun a cs ⟨_, _, e, _⟩ => by rw [e]; rfl) (fun _ _ _ h => trodC_act h) h
  refine ⟨L, va, vc, e, hl, fun i d hd => ?_⟩
  obtain ⟨b, off, cs, e1, hr, v1, v2, rfl, h1, h2⟩ := hp i d hd
  obtain ⟨xa, xc, rfl⟩ := h1.2.form
  obtain ⟨ya, yc, rfl⟩ := h2.2.form
  exact ⟨b, off, xa, xc, ya, yc, e1, hr 0 _ rfl, hr 1 _ rfl, hr 2 _ rfl, h1, h2⟩
end
end Go.Proofs.Ytoaefhjmpfchiaa
