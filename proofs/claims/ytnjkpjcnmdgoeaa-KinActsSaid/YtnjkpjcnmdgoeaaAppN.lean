/- append of a slice that may be nil. -/
import Derived.Test.YtnjkpjcnmdgoeaaGrow
namespace Go
open Go.RowKit Go.Maps Go.MapKept

theorem append_nil {P : Program} (w : World) (t ty e : TypeId) (ht : P.underlying t = some (.slice e)) (i : TypeInfo) (hi : P.info? e = some i) (base : Option Addr) (n cap : Nat) (hle : n ≤ cap) :
    (Builtin.append_ #[t, t] ty #[.slice base n cap, .slice none 0 0]).run P w = .ok (.slice base n cap) w := by
  cases base <;> simp [Builtin.append_, run_underlying ht, sizeOf, typeInfo, hi, hle, storeCells, loadCells, Builtin.lenOf, Builtin.firstCells]

theorem append_sl {P : Program} (w : World) (base : Nat) (t ty e : TypeId) (size bytes : Nat) (z : Value) (ht : P.underlying t = some (.slice e)) (hinfo : (P.info? e).map (fun i => (i.zero, i.size, i.bytes)) = some (some z, size, bytes)) (hzs : z.cells.size = size) (hsz : 0 < size)
    (v : Value) (n : Nat) (xs : List Value) (hown : w.ownsRow base e size v n xs) (x : Value) (m : Nat) (news : List Value) (hx : SliceIs w x m news) (hl : news.length = m * size) (h1 : ∀ u ∈ news, u.oneCell' = true)
    (hbytes : (n + m) * bytes ≤ 140737488355328) (h63 : n + m ≤ maxLen) (hbase : base ≤ w.heap.size) :
    ∃ v' w', (Builtin.append_ #[t, t] ty #[v, x]).run P w = .ok v' w' ∧ w'.ownsRow base e size v' (n + m) (xs ++ news) ∧ Fr (fun j => v.ownBlock = some j) w w' ∧ (∀ k, v'.ownBlock = some k → v.ownBlock = some k ∨ w.heap.size ≤ k) := by
  by_cases hnil : x = .slice none 0 0
  · subst hnil
    have hm : m = 0 ∧ news = [] := by
      rcases hx with ⟨_, h1, h2⟩ | ⟨b, o, c, h, _⟩
      · exact ⟨h1, h2⟩
      · cases h
    obtain ⟨rfl, rfl⟩ := hm
    obtain ⟨i, hi, _⟩ := info_parts hinfo
    have hf : ∃ a c, v = .slice a n c ∧ n ≤ c := by
      rcases hown.2 with ⟨rfl, rfl⟩ | ⟨g, cap, cur, rfl, _, _, h, _⟩
      · exact ⟨none, 0, rfl, Nat.le_refl _⟩
      · exact ⟨_, _, rfl, h⟩
    obtain ⟨a, c, rfl, hle⟩ := hf
    refine ⟨_, w, append_nil w t ty e ht i hi a n c hle, by simpa using hown, Fr.refl _ _, fun k h => .inl h⟩
  · obtain ⟨v', w', h1', h2, h3, _, h5⟩ := append_own (P := P) w base t ty e size bytes z ht hinfo hzs hsz v n xs hown x m news hx.arg hl h1 hbytes h63 hbase hnil
    exact ⟨v', w', h1', h2, (Fr.refl _ w).grown h3 (fun k e => .inr e), h5⟩
end Go
