/- Apart opened. -/
import Derived.Test.YtohcjfnekgnlcaaLinkO
namespace Go.Proofs.Ytohcjfnekgnlcaa
open Go Go.RowKit Go.Joins Go.ChangeShapes Go.WideShapes Go.Deep

section
variable {H : Type} {enc : TypeId × Value → H} {P : Program} {w : World} {base : Nat} {spare : Nat → Bool} {held : Bool}
theorem bytes_len {t e : TypeId} {fuel : Nat} {a : Option Addr} {n c : Nat} {x : DataW H × List MemPlace} (ht : P.underlying t = some (.slice e)) (hc : P.cellsOf e = 1) (h : DataW.trod enc P w base spare held fuel t [.slice a n c] = some x) :
    n = 0 ∨ ∃ es sp, x.1 = .slice es sp ∧ es.length = n := by
  rcases open_slice1 ht hc h with ⟨h0, _⟩ | ⟨a, len, cap, m, n', V, D, Pl, hcs, hb, hl, hm, hmm, hx, hi⟩
  · simp only [List.cons.injEq, and_true, Value.slice.injEq] at h0
    exact .inl h0.2.1
  · simp only [List.cons.injEq, and_true, Value.slice.injEq] at hcs
    exact .inr ⟨_, _, by rw [hx], by simp [hcs.2.1]⟩
end

section
variable {H : Type} {enc : TypeId × Value → H} {w : World} {base : Nat} {spare : Nat → Bool} {held : Bool}
theorem open_apart {r : Reach} {b0 : Nat} {v : Value} {d : DataW H} {p : List MemPlace} (hv : Value.okWide Try.prog w r b0 45 v) (h : DataW.Trod enc Try.prog w base spare held 45 v d p) :
    ∃ (L : List ActD) (s : Value) (D : ActD) (bv : Value) (x y : Nat), v = .agg #[s, .int .i64 D.kind, .int .i64 D.a, .int .i64 D.b, .int .i64 D.lane, .int .i64 D.pick, bv, .int .u8 x, .int .u8 y] ∧
      ActsIs w s L ∧ ArgIs w bv D.bytes.length (D.bytes.map byteV) ∧ (x ≤ 255 ∧ y ≤ 255) ∧ ∀ B, (DataW.weightsEach Try.prog [45] [d]).all (· ≤ B) = true → D.bytes.length ≤ B := by
  have k34 : Try.prog.cellsOf 34 = 1 := by kernel_rfl
  have k40 : Try.prog.cellsOf 40 = 6 := by kernel_rfl
  have k5 : Try.prog.cellsOf 5 = 1 := by kernel_rfl
  have k3 : Try.prog.cellsOf 3 = 1 := by kernel_rfl
  have k28 : Try.prog.cellsOf 28 = 1 := by kernel_rfl
  have k45 : Try.prog.cellsOf 45 = 9 := by kernel_rfl
  obtain ⟨cs, rfl, hsz⟩ := okWide_struct Try.underlying45 hv
  obtain ⟨l⟩ := cs
  rw [k45] at hsz
  match l, hsz with
  | [c0, c1, c2, c3, c4, c5, c6, c7, c8], _ =>
    obtain ⟨fuel, hf⟩ := h
    obtain ⟨xs, n, _, hd, _, hlen, hg⟩ := DataW.trod_struct Try.underlying45 hf
    match xs, hlen with
    | [y0, y1, y2, y3], _ =>
      have g0 := hg 0 _ rfl
      have g1 := hg 1 _ rfl
      have g2 := hg 2 _ rfl
      have g3 := hg 3 _ rfl
      simp [k34, k40, k5, Value.cells] at g0 g1 g2 g3
      obtain ⟨L, hL⟩ := open_acts Try.underlying34 Try.underlying40 (by kernel_rfl) k40 Try.underlying3 Try.underlying3 Try.underlying3 Try.underlying3 Try.underlying3 Try.underlying28 Try.underlying5 k5 g0
      obtain ⟨n7, e7, _, w7⟩ := DataW.trod_int Try.underlying5 g2
      obtain ⟨n8, e8, _, w8⟩ := DataW.trod_int Try.underlying5 g3
      obtain ⟨zs, n', _, hd', _, hlen', hg'⟩ := DataW.trod_struct Try.underlying40 g1
      match zs, hlen' with
      | [z0, z1, z2, z3, z4, z5], _ =>
        have q0 := hg' 0 _ rfl
        have q1 := hg' 1 _ rfl
        have q2 := hg' 2 _ rfl
        have q3 := hg' 3 _ rfl
        have q4 := hg' 4 _ rfl
        have q5 := hg' 5 _ rfl
        simp [k3, k28] at q0 q1 q2 q3 q4 q5
        obtain ⟨n1, e1, _⟩ := DataW.trod_int Try.underlying3 q0
        obtain ⟨n2, e2, _⟩ := DataW.trod_int Try.underlying3 q1
        obtain ⟨n3, e3, _⟩ := DataW.trod_int Try.underlying3 q2
        obtain ⟨n4, e4, _⟩ := DataW.trod_int Try.underlying3 q3
        obtain ⟨n5, e5, _⟩ := DataW.trod_int Try.underlying3 q4
        obtain ⟨bs, hbs⟩ := open_bytes Try.underlying28 Try.underlying5 k5 q5
        simp only [List.cons.injEq, and_true] at e1 e2 e3 e4 e5 e7 e8
        subst e1 e2 e3 e4 e5 e7 e8
        have m1 : IntKind.u8.min = 0 := rfl
        have m2 : IntKind.u8.max = 255 := rfl
        simp [Lit.wf, m1, m2] at w7 w8
        obtain ⟨a7, rfl⟩ := Int.eq_ofNat_of_zero_le w7.1
        obtain ⟨a8, rfl⟩ := Int.eq_ofNat_of_zero_le w8.1
        refine ⟨L, c0, ⟨n1, n2, n3, n4, n5, bs⟩, c6, a7, a8, rfl, hL, hbs, ⟨by omega, by omega⟩, fun B hB => ?_⟩
        obtain ⟨ba, bc, rfl⟩ := hbs.form
        simp only [Prod.mk.injEq] at hd hd'
        have hd1 := hd.1
        have hd2 : y1.1 = .agg ([z0, z1, z2, z3, z4, z5].map (·.1)) := by rw [hd']
        have kb : Try.prog.bytesOf 5 = 1 := by kernel_rfl
        rcases bytes_len Try.underlying28 k5 q5 with h0 | ⟨es, sp, h1, h2⟩
        · show bs.length ≤ B
          omega
        · subst hd1
          simp [DataW.weightsEach, DataW.weights, Try.underlying45, Try.underlying40, Try.underlying28, hd2, h1, kb] at hB
          show bs.length ≤ B
          omega
end
end Go.Proofs.Ytohcjfnekgnlcaa
