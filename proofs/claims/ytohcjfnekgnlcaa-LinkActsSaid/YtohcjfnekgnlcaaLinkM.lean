/- What a Links object is in memory. -/
import Derived.Test.YtohcjfnekgnlcaaProg
import Derived.Test.YtohcjfnekgnlcaaMem
import Derived.Lib.Hide
namespace Go.Proofs.Ytohcjfnekgnlcaa
open Go Go.RowKit Go.Maps Go.MapKept

/-- A lane: its slice, and each message's slice and bytes. -/
structure LG where
  v : Value
  ms : List (Value × List Int)

/-- A Links object: its blocks, the open pairs, the lanes. -/
structure LkG where
  bl : Nat
  bo : Nat
  bn : Nat
  op : List (Int × Int)
  ln : List ((Int × Int × Int) × LG)

def pairV (p : Int × Int) : Value := .agg #[.int .i64 p.1, .int .i64 p.2]
def wayV (k : Int × Int × Int) : Value := .agg #[.int .i64 k.1, .int .i64 k.2.1, .int .i64 k.2.2]


/-- The blocks that may be written. -/
def LkG.W (g : LkG) (k : Nat) : Prop := k = g.bl ∨ k = g.bo ∨ k = g.bn ∨ ∃ x ∈ g.ln, x.2.v.ownBlock = some k
/-- The messages' blocks: never written. -/
def LkG.C (g : LkG) (k : Nat) : Prop := ∃ x ∈ g.ln, ∃ m ∈ x.2.ms, m.1.ownBlock = some k

def lo (x y : Int) : Int := if x ≤ y then x else y
def hi (x y : Int) : Int := if x ≤ y then y else x
def vld (x y : Int) : Prop := 0 ≤ x ∧ x < 64 ∧ 0 ≤ y ∧ y < 64 ∧ x ≠ y
def okWay (op : List (Int × Int)) (k : Int × Int × Int) : Prop := vld k.1 k.2.1 ∧ (k.2.2 = 0 ∨ k.2.2 = 1) ∧ (lo k.1 k.2.1, hi k.1 k.2.1) ∈ op

structure LinksAt (w : World) (g : LkG) : Prop where
  hb : w.heap[g.bl]? = some (.cells #[.map (some g.bo), .map (some g.bn)] 62 (0, 0))
  ho : MapAt Try.prog 69 w g.bo (g.op.map fun p => (pairV p, .int .i64 1))
  hn : MapAt Try.prog 64 w g.bn (g.ln.map fun x => (wayV x.1, x.2.v))
  hl : ∀ x ∈ g.ln, w.ownsRow 0 28 1 x.2.v x.2.ms.length (x.2.ms.map (·.1))
  hm : ∀ x ∈ g.ln, ∀ m ∈ x.2.ms, SliceIs w m.1 m.2.length (m.2.map byteV)
  n1 : g.bl ≠ g.bo
  n2 : g.bl ≠ g.bn
  n3 : g.bo ≠ g.bn
  nl : ∀ x ∈ g.ln, ∀ k, x.2.v.ownBlock = some k → k ≠ g.bl ∧ k ≠ g.bo ∧ k ≠ g.bn
  ll : ∀ x ∈ g.ln, ∀ y ∈ g.ln, ∀ k, x.2.v.ownBlock = some k → y.2.v.ownBlock = some k → x.1 = y.1
  mc : ∀ k, g.C k → ¬ g.W k
  vo : ∀ p ∈ g.op, 0 ≤ p.1 ∧ p.1 < p.2 ∧ p.2 < 64
  vl : ∀ x ∈ g.ln, okWay g.op x.1
  le : ∀ x ∈ g.ln, x.2.ms.length ≤ 64

theorem LinksAt.wlt {w : World} {g : LkG} (h : LinksAt w g) : ∀ k, g.W k → k < w.heap.size := by
  rintro k (rfl | rfl | rfl | ⟨x, hx, hk⟩)
  · exact obj_lt h.hb
  · exact h.ho.lt
  · exact h.hn.lt
  · exact ((h.hl x hx).lt k hk).2
theorem LinksAt.clt {w : World} {g : LkG} (h : LinksAt w g) : ∀ k, g.C k → k < w.heap.size := by
  rintro k ⟨x, hx, m, hm, hk⟩
  exact (h.hm x hx m hm).lt hk

theorem ownsRow_keep {w w' : World} {base : Nat} {e : TypeId} {size : Nat} {v : Value} {n : Nat} {xs : List Value} (h : w.ownsRow base e size v n xs) {W : Nat → Prop} (f : Fr W w w') (hb : ∀ b, v.ownBlock = some b → ¬ W b) : w'.ownsRow base e size v n xs := by
  refine ⟨h.1, ?_⟩
  rcases h.2 with hn | ⟨g, cap, cur, rfl, hbg, hg, rest⟩
  · exact .inl hn
  · exact .inr ⟨g, cap, cur, rfl, hbg, f.obj hg (hb g rfl), rest⟩

/-- What others do leaves it as it is. -/
theorem LinksAt.keep {w w' : World} {g : LkG} (h : LinksAt w g) {V : Nat → Prop} (f : Fr V w w') (hW : ∀ k, g.W k → ¬ V k) (hC : ∀ k, g.C k → ¬ V k) : LinksAt w' g :=
  { h with
    hb := f.obj h.hb (hW _ (.inl rfl))
    ho := h.ho.keep f (hW _ (.inr (.inl rfl)))
    hn := h.hn.keep f (hW _ (.inr (.inr (.inl rfl))))
    hl := fun x hx => ownsRow_keep (h.hl x hx) f (fun _ hb => hW _ (.inr (.inr (.inr ⟨x, hx, hb⟩))))
    hm := fun x hx m hm => (h.hm x hx m hm).keep f (fun _ hb => hC _ ⟨x, hx, m, hm, hb⟩) }
theorem LinksAt.keep0 {w w' : World} {g : LkG} (h : LinksAt w g) (f : Fr No w w') : LinksAt w' g := h.keep f (fun _ _ => id) (fun _ _ => id)

theorem LinksAt.cell0 {w : World} {g : LkG} (h : LinksAt w g) : w.cell? ⟨g.bl, 0, none⟩ = some (.map (some g.bo)) := by simp [World.cell?, h.hb]
theorem LinksAt.cell1 {w : World} {g : LkG} (h : LinksAt w g) : w.cell? ⟨g.bl, 1, none⟩ = some (.map (some g.bn)) := by simp [World.cell?, h.hb]

/-! ### the keys' laws -/
theorem laidOut : laidOutB Try.prog = true := by kernel_rfl
theorem keyedPair : Keyed Try.prog 69 := Keyed.of_law (deep_law_laid laidOut (m := 2) (by decide) (of_decide_eq_true (by kernel_rfl)) (by kernel_rfl) (by kernel_rfl))
theorem keyedWay : Keyed Try.prog 64 := Keyed.of_law (deep_law_laid laidOut (m := 2) (by decide) (of_decide_eq_true (by kernel_rfl)) (by kernel_rfl) (by kernel_rfl))
theorem undPairMap : Try.prog.underlying 59 = some (.map 69 3) := by kernel_rfl
theorem undWayMap : Try.prog.underlying 60 = some (.map 64 35) := by kernel_rfl
theorem zeroInt (w : World) : (zeroValue 3).run Try.prog w = .ok (.int .i64 0) w := by kernel_rfl
theorem zeroRows (w : World) : (zeroValue 35).run Try.prog w = .ok (.slice none 0 0) w := by kernel_rfl

def inI64 (x : Int) : Prop := -9223372036854775808 ≤ x ∧ x ≤ 9223372036854775807
theorem wf_i64 {x : Int} (h : inI64 x) : (Lit.int .i64 x).wf = true := by
  unfold inI64 at h
  simp [Lit.wf, IntKind.min, IntKind.max, IntKind.signed, IntKind.bits]
  omega
theorem undInt : Try.prog.underlying 3 = some (.int .i64) := by kernel_rfl
theorem cellsInt : Try.prog.cellsOf 3 = 1 := by kernel_rfl
theorem typesN : Try.prog.types.size = Try.prog.types.size - 1 + 1 := by kernel_rfl
theorem shapePair : structShape Try.prog 69 = [(3, 0, true), (3, 1, true)] := by kernel_rfl
theorem shapeWay : structShape Try.prog 64 = [(3, 0, true), (3, 1, true), (3, 2, true)] := by kernel_rfl
theorem keyPair {p : Int × Int} (h1 : inI64 p.1) (h2 : inI64 p.2) : ∃ l, keyOf Try.prog 69 (pairV p) = some l := by
  refine keyOf_struct (cs := [.int .i64 p.1, .int .i64 p.2]) shapePair (by simp) (by decide) (by kernel_rfl) (by kernel_rfl) ?_
  intro x hx
  rw [typesN]
  simp only [List.mem_cons, List.not_mem_nil, or_false] at hx
  rcases hx with rfl | rfl
  · exact ⟨_, by rw [cellsInt]; exact keyLitsInt undInt _ (wf_i64 h1)⟩
  · exact ⟨_, by rw [cellsInt]; exact keyLitsInt undInt _ (wf_i64 h2)⟩
theorem keyWay {p : Int × Int × Int} (h1 : inI64 p.1) (h2 : inI64 p.2.1) (h3 : inI64 p.2.2) : ∃ l, keyOf Try.prog 64 (wayV p) = some l := by
  refine keyOf_struct (cs := [.int .i64 p.1, .int .i64 p.2.1, .int .i64 p.2.2]) shapeWay (by simp) (by decide) (by kernel_rfl) (by kernel_rfl) ?_
  intro x hx
  rw [typesN]
  simp only [List.mem_cons, List.not_mem_nil, or_false] at hx
  rcases hx with rfl | rfl | rfl
  · exact ⟨_, by rw [cellsInt]; exact keyLitsInt undInt _ (wf_i64 h1)⟩
  · exact ⟨_, by rw [cellsInt]; exact keyLitsInt undInt _ (wf_i64 h2)⟩
  · exact ⟨_, by rw [cellsInt]; exact keyLitsInt undInt _ (wf_i64 h3)⟩
theorem pairV_inj {p q : Int × Int} (h : pairV p = pairV q) : p = q := by
  obtain ⟨a, b⟩ := p; obtain ⟨c, d⟩ := q
  simp [pairV] at h
  simp [h]
theorem wayV_inj {p q : Int × Int × Int} (h : wayV p = wayV q) : p = q := by
  obtain ⟨a, b, c⟩ := p; obtain ⟨d, e, f⟩ := q
  simp [wayV] at h
  simp [h]

end Go.Proofs.Ytohcjfnekgnlcaa
