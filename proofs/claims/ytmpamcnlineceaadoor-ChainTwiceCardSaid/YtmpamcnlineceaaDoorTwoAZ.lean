/- pappuslaw11: Two opened; inputs appended to a row. -/
import Derived.Test.YtmpamcnlineceaaDoorMG43
import Derived.Test.YtmpamcnlineceaaDoorMG37
import Derived.Test.YtmpamcnlineceaaDoorMG36
set_option linter.unusedVariables false
set_option linter.unusedSimpArgs false
set_option linter.unnecessarySimpa false
set_option linter.all false
namespace Go.Proofs.YtmpamcnlineceaaDoor
open Go Go.RowKit Go.ChangeShapes Go.WideShapes Go.Deep Go.Maps Go.MapKept

structure TwoD where
  first : List OutD
  l : List Act11
  t : TxD
  u : TxD
def TwoQ (w : World) (q : TwoD) (cs : List Value) : Prop :=
  ∃ fa fc la lc ja jc ka kc ma mc na nc, cs = [.slice fa q.first.length fc, .slice la q.l.length lc, .int .u32 q.t.ver, .slice ja q.t.ins.length jc, .slice ka q.t.outs.length kc, .int .u32 q.u.ver, .slice ma q.u.ins.length mc, .slice na q.u.outs.length nc] ∧
    OutsIs w (.slice fa q.first.length fc) q.first ∧ Acts11Is w (.slice la q.l.length lc) q.l ∧ TxQ w q.t [.int .u32 q.t.ver, .slice ja q.t.ins.length jc, .slice ka q.t.outs.length kc] ∧ TxQ w q.u [.int .u32 q.u.ver, .slice ma q.u.ins.length mc, .slice na q.u.outs.length nc]
section
variable {H : Type} {enc : TypeId × Value → H} {w : World} {base : Nat} {spare : Nat → Bool} {held : Bool}
set_option maxRecDepth 20000 in
theorem trod_two {fuel : Nat} {cs : List Value} {x : DataW H × List MemPlace} (h : DataW.trod enc Tryd.prog w base spare held fuel 43 cs = some x) : ∃ d, TwoQ w d cs := by
  have c1 : Tryd.prog.cellsOf 22 = 1 := by kernel_rfl
  have c2 : Tryd.prog.cellsOf 23 = 1 := by kernel_rfl
  have c3 : Tryd.prog.cellsOf 41 = 3 := by kernel_rfl
  have cA : Tryd.prog.cellsOf 43 = 8 := by kernel_rfl
  obtain ⟨ys, n, _, _, hl, hyl, hf⟩ := DataW.trod_struct Tryd.underlying43 h
  have g0 : DataW.trod enc Tryd.prog w base spare held n 22 ((cs.drop 0).take (Tryd.prog.cellsOf 22)) = ys[0]? := hf 0 _ rfl
  have g1 : DataW.trod enc Tryd.prog w base spare held n 23 ((cs.drop 1).take (Tryd.prog.cellsOf 23)) = ys[1]? := hf 1 _ rfl
  have g2 : DataW.trod enc Tryd.prog w base spare held n 41 ((cs.drop 2).take (Tryd.prog.cellsOf 41)) = ys[2]? := hf 2 _ rfl
  have g3 : DataW.trod enc Tryd.prog w base spare held n 41 ((cs.drop 5).take (Tryd.prog.cellsOf 41)) = ys[3]? := hf 3 _ rfl
  rw [c1] at g0
  rw [c2] at g1
  rw [c3] at g2 g3
  rw [cA] at hl
  have hys : ys.length = 4 := hyl
  rw [List.getElem?_eq_getElem (by omega)] at g0 g1 g2 g3
  match cs, hl with
  | [a, b, c, d, e, f, g, i], _ =>
    simp only [List.drop_zero, List.drop_succ_cons, List.take_succ_cons, List.take_zero] at g0 g1 g2 g3
    obtain ⟨O, hO⟩ := open_outs g0
    obtain ⟨L, hL⟩ := open_acts11 g1
    obtain ⟨T, hT⟩ := trod_tx g2
    obtain ⟨U, hU⟩ := trod_tx g3
    obtain ⟨fa, fc, rfl⟩ := hO.2.form
    obtain ⟨la, lc, rfl⟩ := hL.form
    obtain ⟨ja, jc, ka, kc, e1⟩ := hT.form
    obtain ⟨ma, mc, na, nc, e2⟩ := hU.form
    simp only [List.cons.injEq, and_true] at e1 e2
    obtain ⟨rfl, rfl, rfl⟩ := e1
    obtain ⟨rfl, rfl, rfl⟩ := e2
    exact ⟨⟨O, L, T, U⟩, fa, fc, la, lc, ja, jc, ka, kc, ma, mc, na, nc, rfl, hO, hL, hT, hU⟩
set_option maxRecDepth 20000 in
theorem open_two {r : Reach} {b0 : Nat} {v : Value} {d : DataW H} {p : List MemPlace} (hv : Value.okWide Tryd.prog w r b0 43 v) (h : DataW.Trod enc Tryd.prog w base spare held 43 v d p) :
    ∃ (k : TwoD) (cs : List Value), TwoQ w k cs ∧ v = .agg cs.toArray := by
  obtain ⟨cs, rfl, hsz⟩ := okWide_struct Tryd.underlying43 hv
  obtain ⟨fuel, hf⟩ := h
  obtain ⟨k, hk⟩ := trod_two hf
  exact ⟨k, cs.toList, hk, by simp⟩
end
theorem slice_eq' {a b : Option Addr} {n m c d : Nat} (h : Value.slice a n c = .slice b m d) : a = b ∧ n = m ∧ c = d := by
  injection h with h1 h2 h3
  exact ⟨h1, h2, h3⟩
theorem append_nilc {P : Program} (w : World) (t ty e : TypeId) (ht : P.underlying t = some (.slice e)) (i : TypeInfo) (hi : P.info? e = some i) (base : Option Addr) (n cap c : Nat) (hle : n ≤ cap) :
    (Builtin.append_ #[t, t] ty #[.slice base n cap, .slice none 0 c]).run P w = .ok (.slice base n cap) w := by
  cases base <;> simp [Builtin.append_, run_underlying ht, sizeOf, typeInfo, hi, hle, storeCells, loadCells, Builtin.lenOf, Builtin.firstCells]
/-- The cells of a row, one behind the other. -/
theorem rows_flat {α : Type} {k : Nat} {q : World → α → List Value → Prop} {V : Nat → Prop} {w : World} {va : Option Addr} {n vc : Nat} {L : List α} (hk0 : 0 < k) (hk : ∀ w d cs, q w d cs → cs.length = k) (h : Kept V w (fun w => RowsIs k q w (.slice va n vc) L)) : ∃ css : List (List Value), css.length = L.length ∧ ∀ (i : Nat) (d : α) (cs : List Value), L[i]? = some d → css[i]? = some cs → ∃ b off, va = some ⟨b, off, none⟩ ∧ Kept V w (fun w => w.rangeAt b (off + i * k) cs ∧ q w d cs) := by
  have key : ∀ i : Fin L.length, ∃ cs, ∃ b off, va = some ⟨b, off, none⟩ ∧ Kept V w (fun w => w.rangeAt b (off + i.1 * k) cs ∧ q w L[i.1] cs) := fun i => by
    obtain ⟨b, off, cap, cs, e, -, -, a3⟩ := rows_at hk0 hk h (List.getElem?_eq_getElem i.2)
    exact ⟨cs, b, off, (slice_eq' e).1, a3⟩
  refine ⟨List.ofFn (fun i => Classical.choose (key i)), by simp, fun i d cs hd hc => ?_⟩
  have hi : i < L.length := (List.getElem?_eq_some_iff.1 hd).1
  have hc' : cs = Classical.choose (key ⟨i, hi⟩) := by
    rw [List.getElem?_ofFn, dif_pos hi] at hc
    exact (Option.some.inj hc).symm
  have hd' : L[i] = d := (List.getElem?_eq_some_iff.1 hd).2
  have := Classical.choose_spec (key ⟨i, hi⟩)
  rw [← hc'] at this
  dsimp only at this
  rw [hd'] at this
  exact this
theorem InQ.len {w : World} {x : InD} {cs : List Value} (h : InQ w x cs) : cs.length = 34 := by
  obtain ⟨ka, kc, rfl, hp, -⟩ := h
  exact inC_len hp _
theorem append_ins (w : World) {B : Nat} {v x : Value} {n : Nat} {xs : List Value} {L : List InD} (hv : w.ownsRow B 50 34 v n xs) {V : Nat → Prop} (hx : Kept V w (fun w => InsIs w x L)) (hn : n + L.length ≤ 100000) (hB : B ≤ w.heap.size) :
    ∃ (css : List (List Value)) (v' : Value) (w' : World), (Builtin.append_ #[39, 39] 39 #[v, x]).run Tryd.prog w = .ok v' w' ∧ css.length = L.length ∧ (∀ (i : Nat) (d : InD) (cs : List Value), L[i]? = some d → css[i]? = some cs → Kept V w (fun w => InQ w d cs)) ∧ (∀ cs ∈ css, cs.length = 34) ∧
      w'.ownsRow B 50 34 v' (n + L.length) (xs ++ css.flatMap id) ∧ Fr (fun j => v.ownBlock = some j) w w' ∧ GrowTo w v v' := by
  obtain ⟨va, vc, rfl⟩ := hx.now.form
  obtain ⟨css, hcl, hcs⟩ := rows_flat (by decide) (fun _ _ _ h => h.len) hx
  have hck : ∀ cs ∈ css, cs.length = 34 ∧ ∀ u ∈ cs, u.oneCell' = true := fun cs hc => by
    obtain ⟨i, hi⟩ := List.mem_iff_getElem?.1 hc
    have hlt : i < L.length := by rw [← hcl]; exact (List.getElem?_eq_some_iff.1 hi).1
    obtain ⟨_, _, _, hkp⟩ := hcs i L[i] cs (List.getElem?_eq_getElem hlt) hi
    obtain ⟨-, ka, kc, rfl, hp, _⟩ := hkp.now
    exact ⟨inC_len hp _, inC_one⟩
  obtain ⟨i, hi, hz, hs, hb⟩ := info_parts infoInZ
  have hfl : (css.flatMap id).length = L.length * 34 := by rw [flatR_len id 34 css (fun cs hc => (hck cs hc).1), hcl]
  cases hva : va with
  | none =>
    have hL : L = [] := by
      cases L with
      | nil => rfl
      | cons d L =>
        have h0 : 0 < css.length := by rw [hcl]; simp
        obtain ⟨b, off, e, _⟩ := hcs 0 d css[0] rfl (List.getElem?_eq_getElem h0)
        rw [hva] at e
        cases e
    subst hL
    have hc0 : css = [] := List.eq_nil_of_length_eq_zero hcl
    subst hc0
    obtain ⟨a, c, e, hle⟩ : ∃ a c, v = .slice a n c ∧ n ≤ c := by
      rcases hv.2 with ⟨rfl, rfl⟩ | ⟨g, cap, cur, rfl, _, _, h, _⟩
      · exact ⟨none, 0, rfl, Nat.le_refl _⟩
      · exact ⟨_, _, rfl, h⟩
    subst e
    refine ⟨[], _, w, append_nilc w _ _ _ undIns i hi a n c vc hle, rfl, (fun i d cs h => by simp at h), (fun _ h => by cases h), ?_, Fr.refl _ _, fun k h => .inl h⟩
    simpa using hv
  | some ad =>
    rw [hva] at hcs
    have hcells : ∀ j u, (css.flatMap id)[j]? = some u → w.cell? (ad.add j) = some u := fun j u hj => by
      have hjl : j < L.length * 34 := by rw [← hfl]; exact (List.getElem?_eq_some_iff.1 hj).1
      have hd : j / 34 < L.length := by omega
      obtain ⟨b, off, e, hkp⟩ := hcs (j / 34) L[j / 34] css[j / 34] (List.getElem?_eq_getElem hd) (List.getElem?_eq_getElem (by rw [hcl]; exact hd))
      have hr := hkp.now.1
      obtain rfl := Option.some.inj e
      have h1 := flatR_at id 34 css (fun cs hc => (hck cs hc).1) (j / 34) css[j / 34] (List.getElem?_eq_getElem (by rw [hcl]; exact hd)) (j % 34) (by omega)
      rw [show j / 34 * 34 + j % 34 = j by omega] at h1
      have h2 := hr (j % 34) u (by rw [← hj, h1]; rfl)
      rw [addr_add]
      rw [show off + j / 34 * 34 + j % 34 = off + j by omega] at h2
      exact h2
    obtain ⟨v', w', a1, a2, a3, a4, a5⟩ := append_at (P := Tryd.prog) w B 39 39 50 34 64 _ undIns i hi hz hs hb rfl (by decide) v n xs hv ad L.length vc (css.flatMap id) hcells hfl (fun u hu => by
      obtain ⟨cs, hc, hu⟩ := List.mem_flatMap.1 hu
      exact (hck cs hc).2 u hu) (by omega) (by unfold maxLen; omega) hB
    exact ⟨css, v', w', a1, hcl, fun i d cs h1 h2 => (hcs i d cs h1 h2).elim fun b h => h.elim fun off h => fun w' f => (h.2 w' f).2, fun cs hc => (hck cs hc).1, a2, (Fr.refl _ w).grown a3 (fun k e => .inr e), a5⟩
end Go.Proofs.YtmpamcnlineceaaDoor
