/- pappuslaw12: what came in, opened. -/
import Derived.Test.YtnjkpjcnmdgoeaaOpenR
import Derived.Test.YtnjkpjcnmdgoeaaKinW
namespace Go.Proofs.Ytnjkpjcnmdgoeaa
open Go Go.RowKit Go.ChangeShapes Go.WideShapes Go.Deep
section
variable {H : Type} {enc : TypeId × Value → H} {w : World} {base : Nat} {spare : Nat → Bool} {held : Bool}
theorem trodK_hash {fuel : Nat} {cs : List Value} {x : DataW H × List MemPlace} (h : DataW.trod enc Try.prog w base spare held fuel 30 cs = some x) : ∃ l : HashD, hashOk l ∧ cs = hashC l := by
  have cH : Try.prog.cellsOf 30 = 32 := by kernel_rfl
  have cB : Try.prog.cellsOf 5 = 1 := by kernel_rfl
  obtain ⟨l, hll, hlb, e1⟩ := trod_bytes Try.underlying30 cH cB Try.underlying5 h
  exact ⟨l, ⟨hll, hlb⟩, e1⟩
set_option maxRecDepth 20000 in
theorem open_ids {fuel : Nat} {v : Value} {x : DataW H × List MemPlace} (h : DataW.trod enc Try.prog w base spare held fuel 27 [v] = some x) : ∃ L, IdsIs w v L :=
  open_flat Try.underlying27 (k := 32) (by kernel_rfl) (by decide) (fun a => hashC_len) (fun _ _ _ h => trodK_hash h) h
theorem okWide_array' {P : Program} {r : Reach} {b0 : Nat} {t e : TypeId} {n : Nat} {v : Value} (ht : P.underlying t = some (.array n e)) (h : Value.okWide P w r b0 t v) : ∃ cs, v = .agg cs ∧ cs.size = P.cellsOf t := by
  simp only [Value.okWide, ht] at h
  obtain ⟨cs, h1, h2, _⟩ := h
  exact ⟨cs, h1, h2⟩
theorem open_hash {r : Reach} {b0 : Nat} {v : Value} {d : DataW H} {p : List MemPlace} (hv : Value.okWide Try.prog w r b0 30 v) (h : DataW.Trod enc Try.prog w base spare held 30 v d p) :
    ∃ k : HashD, hashOk k ∧ v = .agg (hashC k).toArray := by
  obtain ⟨cs, rfl, hsz⟩ := okWide_array' Try.underlying30 hv
  obtain ⟨fuel, hf⟩ := h
  obtain ⟨k, hk, e⟩ := trodK_hash hf
  refine ⟨k, hk, ?_⟩
  have e2 : cs.toList = hashC k := e
  rw [← e2]
set_option maxRecDepth 20000 in
theorem trodK_act {fuel : Nat} {cs : List Value} {x : DataW H × List MemPlace} (h : DataW.trod enc Try.prog w base spare held fuel 45 cs = some x) : ∃ d, KActQ w d cs := by
  have c1 : Try.prog.cellsOf 3 = 1 := by kernel_rfl
  have c2 : Try.prog.cellsOf 30 = 32 := by kernel_rfl
  have c3 : Try.prog.cellsOf 27 = 1 := by kernel_rfl
  have cA : Try.prog.cellsOf 45 = 34 := by kernel_rfl
  obtain ⟨ys, n, _, _, hl, hyl, hf⟩ := DataW.trod_struct Try.underlying45 h
  have g0 : DataW.trod enc Try.prog w base spare held n 3 ((cs.drop 0).take (Try.prog.cellsOf 3)) = ys[0]? := hf 0 _ rfl
  have g1 : DataW.trod enc Try.prog w base spare held n 30 ((cs.drop 1).take (Try.prog.cellsOf 30)) = ys[1]? := hf 1 _ rfl
  have g2 : DataW.trod enc Try.prog w base spare held n 27 ((cs.drop 33).take (Try.prog.cellsOf 27)) = ys[2]? := hf 2 _ rfl
  rw [c1] at g0
  rw [c2] at g1
  rw [c3] at g2
  rw [cA] at hl
  have hys : ys.length = 3 := hyl
  rw [List.getElem?_eq_getElem (by omega)] at g0 g1 g2
  obtain ⟨k, e0, _⟩ := DataW.trod_int Try.underlying3 g0
  obtain ⟨h1, ok1, e1⟩ := trodK_hash g1
  have e2 : ∃ u, cs.drop 33 = [u] := by
    have : (cs.drop 33).length = 1 := by rw [List.length_drop]; omega
    exact List.length_eq_one_iff.1 this
  obtain ⟨u, e2⟩ := e2
  rw [e2, List.take_of_length_le (by simp)] at g2
  obtain ⟨l, hl2⟩ := open_ids g2
  obtain ⟨xa, xc, rfl⟩ := hl2.2.form
  refine ⟨⟨k, h1, l⟩, xa, xc, ?_, ok1, hl2⟩
  show cs = .int .i64 k :: (hashC h1 ++ [.slice xa l.length xc])
  rw [← e1, ← e2]
  have h3 : (cs.drop 1).take 32 ++ cs.drop 33 = cs.drop 1 := by
    have := List.take_append_drop 32 (cs.drop 1)
    rw [List.drop_drop] at this
    exact this
  rw [h3]
  match cs, hl with
  | v0 :: r, _ =>
    simp only [List.drop_zero, List.take_succ_cons, List.take_zero, List.cons.injEq, and_true] at e0
    subst e0
    rfl
set_option maxRecDepth 20000 in
theorem open_kacts {fuel : Nat} {v : Value} {x : DataW H × List MemPlace} (h : DataW.trod enc Try.prog w base spare held fuel 22 [v] = some x) : ∃ L, KActsIs w v L := by
  obtain ⟨L, va, vc, e, hl, hp⟩ := open_rows (q := KActQ w) Try.underlying22 (k := 34) (by kernel_rfl) (by decide) (fun a cs ⟨_, _, e, ok, _⟩ => by rw [e]; exact kactC_len ok) (fun _ _ _ h => trodK_act h) h
  exact ⟨L, va, vc, e, hl, hp⟩
end
end Go.Proofs.Ytnjkpjcnmdgoeaa
