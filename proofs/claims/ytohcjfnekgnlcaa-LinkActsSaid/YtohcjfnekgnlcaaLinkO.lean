/- Arguments opened: acts, an act, rows of bytes. -/
import Derived.Test.YtohcjfnekgnlcaaLinkU
import Derived.Test.YtohcjfnekgnlcaaPost
import Derived.Lib.SmallJoins
namespace Go.Proofs.Ytohcjfnekgnlcaa
open Go Go.RowKit Go.Joins Go.ChangeShapes Go.WideShapes Go.Deep

section
variable {H : Type} {enc : TypeId × Value → H} {P : Program} {w : World} {base : Nat} {spare : Nat → Bool} {held : Bool}
theorem open_slice_fields {t e : TypeId} {fs : Array Field} {fuel : Nat} {cs : List Value} {x : DataW H × List MemPlace} (ht : P.underlying t = some (.slice e)) (he : P.underlying e = some (.struct fs))
    (hone : oneCellFields P fs = true) (hC : P.cellsOf e = fs.size) (h : DataW.trod enc P w base spare held fuel t cs = some x) :
    (cs = [.slice none 0 0] ∧ x = (.nil, [])) ∨
    ∃ (a : Addr) (len cap m : Nat) (D : Nat → DataW H) (Pl : Nat → List MemPlace), cs = [.slice (some a) len cap] ∧ base ≤ a.block ∧ len ≤ cap ∧ cap ≤ maxLen ∧ m = (if spare a.block then cap else len) ∧
      x = (.slice ((List.range len).map D) ((List.range (m - len)).map fun j => D (len + j)), MemPlace.row a (m * fs.size) ++ (List.range m).flatMap Pl) ∧
      ∀ i, i < m → ∃ (ys : List (DataW H × List MemPlace)) (n : Nat), D i = .agg (ys.map (·.1)) ∧ Pl i = ys.flatMap (·.2) ∧ ys.length = fs.size ∧
        ∀ (j : Nat) (f : Field), fs[j]? = some f → ∃ (v : Value) (y : DataW H × List MemPlace), w.cell? (a.add (i * fs.size + j)) = some v ∧ ys[j]? = some y ∧ DataW.trod enc P w base spare held n f.type [v] = some y := by
  rcases open_slice ht h with h0 | ⟨a, len, cap, m, n, D, Pl, hcs, hb, hl, hm, hmm, hx, hi⟩
  · exact .inl h0
  · refine .inr ⟨a, len, cap, m, D, Pl, hcs, hb, hl, hm, hmm, by rw [hC] at hx; exact hx, fun i him => ?_⟩
    obtain ⟨cs', hc, ht'⟩ := hi i him
    rw [hC] at hc
    obtain ⟨ys, n', hn', hy, hlen, hyl, hf⟩ := DataW.trod_struct he ht'
    obtain ⟨_, hcl, hat⟩ := World.cells?_some hc
    simp only [Prod.mk.injEq] at hy
    refine ⟨ys, n', hy.1, hy.2, hyl, fun j f hj => ?_⟩
    obtain ⟨ho, hk⟩ := hone_of hone j f hj
    have hjl : j < fs.size := (Array.getElem?_eq_some_iff.1 hj).1
    have hcell := hat j hjl
    have hv : cs'[j]? = some (cs'[j]'(by omega)) := List.getElem?_eq_getElem (by omega)
    have h1 := hf j f hj
    rw [ho, hk] at h1
    have hone' : (cs'.drop j).take 1 = [cs'[j]'(by omega)] := by
      rw [List.drop_eq_getElem_cons (by omega)]
      rfl
    rw [hone'] at h1
    have hys : ys[j]? = some (ys[j]'(by omega)) := List.getElem?_eq_getElem (by omega)
    refine ⟨_, _, ?_, hys, h1.trans hys⟩
    rw [← Go.Deep.add_add, hcell, hv]
end

section
variable {H : Type} {enc : TypeId × Value → H} {P : Program} {w : World} {base : Nat} {spare : Nat → Bool} {held : Bool}
theorem open_agg6 {r : Reach} {b0 : Nat} {t : TypeId} {f0 f1 f2 f3 f4 f5 : Field} {v : Value} {d : DataW H} {p : List MemPlace} (hs : P.underlying t = some (.struct #[f0, f1, f2, f3, f4, f5])) (hone : oneCellFields P #[f0, f1, f2, f3, f4, f5] = true) (hC : P.cellsOf t = 6)
    (hv : Value.okWide P w r b0 t v) (h : DataW.Trod enc P w base spare held t v d p) :
    ∃ (v0 v1 v2 v3 v4 v5 : Value) (y0 y1 y2 y3 y4 y5 : DataW H × List MemPlace) (n : Nat), v = .agg #[v0, v1, v2, v3, v4, v5] ∧ d = .agg [y0.1, y1.1, y2.1, y3.1, y4.1, y5.1] ∧ p = y0.2 ++ (y1.2 ++ (y2.2 ++ (y3.2 ++ (y4.2 ++ y5.2)))) ∧
      DataW.trod enc P w base spare held n f0.type [v0] = some y0 ∧ DataW.trod enc P w base spare held n f1.type [v1] = some y1 ∧ DataW.trod enc P w base spare held n f2.type [v2] = some y2 ∧ DataW.trod enc P w base spare held n f3.type [v3] = some y3 ∧ DataW.trod enc P w base spare held n f4.type [v4] = some y4 ∧ DataW.trod enc P w base spare held n f5.type [v5] = some y5 := by
  obtain ⟨cs, rfl, hsz⟩ := okWide_struct hs hv
  obtain ⟨l⟩ := cs
  match l, hsz.trans hC with
  | [c0, c1, c2, c3, c4, c5], _ =>
    obtain ⟨fuel, hf⟩ := h
    obtain ⟨xs, n, _, hx, _, hlen, hg⟩ := DataW.trod_struct hs hf
    obtain ⟨o0, k0⟩ := hone_of hone 0 f0 rfl
    obtain ⟨o1, k1⟩ := hone_of hone 1 f1 rfl
    obtain ⟨o2, k2⟩ := hone_of hone 2 f2 rfl
    obtain ⟨o3, k3⟩ := hone_of hone 3 f3 rfl
    obtain ⟨o4, k4⟩ := hone_of hone 4 f4 rfl
    obtain ⟨o5, k5⟩ := hone_of hone 5 f5 rfl
    match xs, hlen with
    | [y0, y1, y2, y3, y4, y5], _ =>
      simp only [Prod.mk.injEq] at hx
      exact ⟨c0, c1, c2, c3, c4, c5, y0, y1, y2, y3, y4, y5, n, rfl, by simpa using hx.1, by simpa using hx.2, by simpa [Value.cells, o0, k0] using hg 0 f0 rfl, by simpa [Value.cells, o1, k1] using hg 1 f1 rfl, by simpa [Value.cells, o2, k2] using hg 2 f2 rfl, by simpa [Value.cells, o3, k3] using hg 3 f3 rfl, by simpa [Value.cells, o4, k4] using hg 4 f4 rfl, by simpa [Value.cells, o5, k5] using hg 5 f5 rfl⟩
end

section
variable {H : Type} {enc : TypeId × Value → H} {P : Program} {w : World} {base : Nat} {spare : Nat → Bool} {held : Bool}
theorem add_plain {b o k : Nat} : (⟨b, o, none⟩ : Addr).add k = ⟨b, o + k, none⟩ := by
  unfold Addr.add
  split
  · subst_vars; rfl
  · rfl

theorem choose_list {α : Type} {n : Nat} {p : Nat → α → Prop} (h : ∀ i, i < n → ∃ a, p i a) : ∃ L : List α, L.length = n ∧ ∀ i a, L[i]? = some a → p i a := by
  induction n with
  | zero => exact ⟨[], rfl, fun i a h => by simp at h⟩
  | succ n ih =>
    obtain ⟨L, hL, hp⟩ := ih (fun i hi => h i (by omega))
    obtain ⟨a, ha⟩ := h n (by omega)
    refine ⟨L ++ [a], by simp [hL], fun i x hx => ?_⟩
    by_cases hi : i < n
    · rw [List.getElem?_append_left (by omega)] at hx; exact hp i x hx
    · have : i = n := by have := (List.getElem?_eq_some_iff.1 hx).1; simp at this; omega
      subst this
      rw [List.getElem?_append_right (by omega)] at hx
      simp [hL] at hx
      exact hx ▸ ha

theorem open_acts {t e u : TypeId} {f0 f1 f2 f3 f4 f5 : Field} {fuel : Nat} {v : Value} {x : DataW H × List MemPlace} (ht : P.underlying t = some (.slice e)) (he : P.underlying e = some (.struct #[f0, f1, f2, f3, f4, f5]))
    (hone : oneCellFields P #[f0, f1, f2, f3, f4, f5] = true) (hC : P.cellsOf e = 6) (h0 : P.underlying f0.type = some (.int .i64)) (h1 : P.underlying f1.type = some (.int .i64)) (h2 : P.underlying f2.type = some (.int .i64))
    (h3 : P.underlying f3.type = some (.int .i64)) (h4 : P.underlying f4.type = some (.int .i64)) (h5 : P.underlying f5.type = some (.slice u)) (hu : P.underlying u = some (.int .u8)) (hcu : P.cellsOf u = 1)
    (h : DataW.trod enc P w base spare held fuel t [v] = some x) : ∃ L, ActsIs w v L := by
  rcases open_slice_fields ht he hone hC h with ⟨e0, _⟩ | ⟨a, len, cap, m, D, Pl, hcs, hb, hl, hm, hmm, hx, hi⟩
  · simp only [List.cons.injEq, and_true] at e0
    exact ⟨[], none, 0, e0, Nat.zero_le _, fun i d hd => by simp at hd⟩
  · simp only [List.cons.injEq, and_true] at hcs
    have hlm : len ≤ m := by rw [hmm]; split <;> omega
    by_cases hl0 : len = 0
    · subst hl0
      exact ⟨[], some a, cap, hcs, Nat.zero_le _, fun i d hd => by simp at hd⟩
    have hs : a.spot = none ∧ a.block < w.heap.size := by
      obtain ⟨ys, n, _, _, _, hf⟩ := hi 0 (by omega)
      obtain ⟨v0, y0, c0, _, t0⟩ := hf 0 f0 rfl
      have c := cell_none c0
      exact ⟨by simpa [Addr.add] using congrArg Addr.spot c.1, by simpa [Addr.add] using c.2⟩
    obtain ⟨ab, ao, asp⟩ := a
    obtain ⟨rfl, hbl⟩ := hs
    obtain ⟨L, hL, hp⟩ := choose_list (n := len) (p := fun i (d : ActD) => ∃ b off ba bc, (some ⟨ab, ao, none⟩ : Option Addr) = some ⟨b, off, none⟩ ∧
      w.cell? ⟨b, off + i * 6, none⟩ = some (.int .i64 d.kind) ∧ w.cell? ⟨b, off + i * 6 + 1, none⟩ = some (.int .i64 d.a) ∧ w.cell? ⟨b, off + i * 6 + 2, none⟩ = some (.int .i64 d.b) ∧
      w.cell? ⟨b, off + i * 6 + 3, none⟩ = some (.int .i64 d.lane) ∧ w.cell? ⟨b, off + i * 6 + 4, none⟩ = some (.int .i64 d.pick) ∧ w.cell? ⟨b, off + i * 6 + 5, none⟩ = some (.slice ba d.bytes.length bc) ∧
      ArgIs w (.slice ba d.bytes.length bc) d.bytes.length (d.bytes.map byteV) ∧ b < w.heap.size) (fun i hil => by
      obtain ⟨ys, n, _, _, _, hf⟩ := hi i (by omega)
      obtain ⟨v0, y0, c0, _, t0⟩ := hf 0 f0 rfl
      obtain ⟨v1, y1, c1, _, t1⟩ := hf 1 f1 rfl
      obtain ⟨v2, y2, c2, _, t2⟩ := hf 2 f2 rfl
      obtain ⟨v3, y3, c3, _, t3⟩ := hf 3 f3 rfl
      obtain ⟨v4, y4, c4, _, t4⟩ := hf 4 f4 rfl
      obtain ⟨v5, y5, c5, _, t5⟩ := hf 5 f5 rfl
      obtain ⟨n0, e0, _⟩ := DataW.trod_int h0 t0
      obtain ⟨n1, e1, _⟩ := DataW.trod_int h1 t1
      obtain ⟨n2, e2, _⟩ := DataW.trod_int h2 t2
      obtain ⟨n3, e3, _⟩ := DataW.trod_int h3 t3
      obtain ⟨n4, e4, _⟩ := DataW.trod_int h4 t4
      obtain ⟨bs, hbs⟩ := open_bytes h5 hu hcu t5
      obtain ⟨ba, bc, rfl⟩ := hbs.form
      simp only [List.cons.injEq, and_true] at e0 e1 e2 e3 e4
      subst e0 e1 e2 e3 e4
      rw [add_plain] at c0 c1 c2 c3 c4 c5
      exact ⟨⟨n0, n1, n2, n3, n4, bs⟩, ab, ao, ba, bc, rfl, c0, c1, c2, c3, c4, c5, hbs, hbl⟩)
    exact ⟨L, some ⟨ab, ao, none⟩, cap, by rw [hL]; exact hcs, by omega, hp⟩

/-- v is a slice of slices of bytes. -/
def BlobsIs (w : World) (v : Value) (L : List (List Int)) : Prop :=
  ∃ va vc, v = .slice va L.length vc ∧ L.length ≤ maxLen ∧ ∀ (i : Nat) (bs : List Int), L[i]? = some bs → ∃ b off ba bc, va = some ⟨b, off, none⟩ ∧
    w.cell? ⟨b, off + i, none⟩ = some (.slice ba bs.length bc) ∧ ArgIs w (.slice ba bs.length bc) bs.length (bs.map byteV) ∧ b < w.heap.size

theorem BlobsIs.keep {w w' : World} {v : Value} {L : List (List Int)} (h : BlobsIs w v L) {W : Nat → Prop} (f : Fr W w w') (hW : ∀ j, j < w.heap.size → ¬ W j) : BlobsIs w' v L := by
  obtain ⟨va, vc, e, hl, h⟩ := h
  refine ⟨va, vc, e, hl, fun i d hi => ?_⟩
  obtain ⟨b, off, ba, bc, h0, h1, h7, h8⟩ := h i d hi
  have hb := hW b h8
  exact ⟨b, off, ba, bc, h0, f.cell h1 hb, h7.below f hW, Nat.lt_of_lt_of_le h8 f.size⟩

theorem open_blobs {t e u : TypeId} {fuel : Nat} {v : Value} {x : DataW H × List MemPlace} (ht : P.underlying t = some (.slice e)) (he : P.underlying e = some (.slice u)) (hC : P.cellsOf e = 1) (hu : P.underlying u = some (.int .u8)) (hcu : P.cellsOf u = 1)
    (h : DataW.trod enc P w base spare held fuel t [v] = some x) : ∃ L, BlobsIs w v L := by
  rcases open_slice1 ht hC h with ⟨e0, _⟩ | ⟨a, len, cap, m, n, V, D, Pl, hcs, hb, hl, hm, hmm, hx, hi⟩
  · simp only [List.cons.injEq, and_true] at e0
    exact ⟨[], none, 0, e0, Nat.zero_le _, fun i d hd => by simp at hd⟩
  · simp only [List.cons.injEq, and_true] at hcs
    have hlm : len ≤ m := by rw [hmm]; split <;> omega
    by_cases hl0 : len = 0
    · subst hl0
      exact ⟨[], some a, cap, hcs, Nat.zero_le _, fun i d hd => by simp at hd⟩
    have hs : a.spot = none ∧ a.block < w.heap.size := by
      have c := cell_none (hi 0 (by omega)).1
      exact ⟨by simpa [Addr.add] using congrArg Addr.spot c.1, by simpa [Addr.add] using c.2⟩
    obtain ⟨ab, ao, asp⟩ := a
    obtain ⟨rfl, hbl⟩ := hs
    obtain ⟨L, hL, hp⟩ := choose_list (n := len) (p := fun i (bs : List Int) => ∃ b off ba bc, (some ⟨ab, ao, none⟩ : Option Addr) = some ⟨b, off, none⟩ ∧
      w.cell? ⟨b, off + i, none⟩ = some (.slice ba bs.length bc) ∧ ArgIs w (.slice ba bs.length bc) bs.length (bs.map byteV) ∧ b < w.heap.size) (fun i hil => by
      obtain ⟨c0, t0⟩ := hi i (by omega)
      obtain ⟨bs, hbs⟩ := open_bytes he hu hcu t0
      obtain ⟨ba, bc, hV⟩ := hbs.form
      rw [hV] at hbs c0
      rw [add_plain] at c0
      exact ⟨bs, ab, ao, ba, bc, rfl, c0, hbs, hbl⟩)
    exact ⟨L, some ⟨ab, ao, none⟩, cap, by rw [hL]; exact hcs, by omega, hp⟩

theorem open_act {r : Reach} {b0 : Nat} {t u : TypeId} {f0 f1 f2 f3 f4 f5 : Field} {v : Value} {d : DataW H} {p : List MemPlace} (he : P.underlying t = some (.struct #[f0, f1, f2, f3, f4, f5]))
    (hone : oneCellFields P #[f0, f1, f2, f3, f4, f5] = true) (hC : P.cellsOf t = 6) (h0 : P.underlying f0.type = some (.int .i64)) (h1 : P.underlying f1.type = some (.int .i64)) (h2 : P.underlying f2.type = some (.int .i64))
    (h3 : P.underlying f3.type = some (.int .i64)) (h4 : P.underlying f4.type = some (.int .i64)) (h5 : P.underlying f5.type = some (.slice u)) (hu : P.underlying u = some (.int .u8)) (hcu : P.cellsOf u = 1)
    (hv : Value.okWide P w r b0 t v) (h : DataW.Trod enc P w base spare held t v d p) : ∃ (D : ActD) (bv : Value), v = actV D bv ∧ ArgIs w bv D.bytes.length (D.bytes.map byteV) := by
  obtain ⟨v0, v1, v2, v3, v4, v5, y0, y1, y2, y3, y4, y5, n, rfl, -, -, t0, t1, t2, t3, t4, t5⟩ := open_agg6 he hone hC hv h
  obtain ⟨n0, e0, _⟩ := DataW.trod_int h0 t0
  obtain ⟨n1, e1, _⟩ := DataW.trod_int h1 t1
  obtain ⟨n2, e2, _⟩ := DataW.trod_int h2 t2
  obtain ⟨n3, e3, _⟩ := DataW.trod_int h3 t3
  obtain ⟨n4, e4, _⟩ := DataW.trod_int h4 t4
  obtain ⟨bs, hbs⟩ := open_bytes h5 hu hcu t5
  simp only [List.cons.injEq, and_true] at e0 e1 e2 e3 e4
  subst e0 e1 e2 e3 e4
  exact ⟨⟨n0, n1, n2, n3, n4, bs⟩, v5, rfl, hbs⟩
end
end Go.Proofs.Ytohcjfnekgnlcaa
