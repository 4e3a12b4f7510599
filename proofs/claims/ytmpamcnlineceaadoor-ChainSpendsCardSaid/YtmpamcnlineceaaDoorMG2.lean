/- append onto a row of one's own. -/
import Derived.Lib.SliceRun
import Derived.Test.YtmpamcnlineceaaDoorMG1
set_option linter.unusedVariables false
set_option linter.unusedSimpArgs false
namespace Go
open Go.RowKit Go.Maps Go.MapKept

theorem Fr.of_grown {W : Nat → Prop} {w w' : World} {row : Option Nat} (hg : w.grownBy w' row) (hr : ∀ k, row = some k → w.heap.size ≤ k ∨ W k) : Fr W w w' := (Fr.refl W w).grown hg hr

theorem addr_add (b off j : Nat) : (⟨b, off, none⟩ : Addr).add j = ⟨b, off + j, none⟩ := by unfold Addr.add; split <;> simp_all

theorem append_at {P : Program} (w : World) (base : Nat) (t ty e : TypeId) (size bytes : Nat) (z : Value) (ht : P.underlying t = some (.slice e)) (i : TypeInfo) (hi : P.info? e = some i) (hz : i.zero = some z) (hs : i.size = size) (hb : i.bytes = bytes) (hzs : z.cells.size = size) (hsz : 0 < size)
    (v : Value) (n : Nat) (xs : List Value) (hown : w.ownsRow base e size v n xs) (ad : Addr) (m cap : Nat) (news : List Value) (hnews : ∀ j u, news[j]? = some u → w.cell? (ad.add j) = some u) (hl : news.length = m * size) (h1 : ∀ u ∈ news, u.oneCell' = true)
    (hbytes : (n + m) * bytes ≤ 140737488355328) (h63 : n + m ≤ maxLen) (hbase : base ≤ w.heap.size) :
    ∃ v' w', (Builtin.append_ #[t, t] ty #[v, .slice (some ad) m cap]).run P w = .ok v' w' ∧ w'.ownsRow base e size v' (n + m) (xs ++ news) ∧ w.grownBy w' v.ownBlock ∧ (v' = .slice none 0 0 ↔ v = .slice none 0 0 ∧ m = 0) ∧ (∀ k, v'.ownBlock = some k → v.ownBlock = some k ∨ w.heap.size ≤ k) := by
  obtain ⟨v', w', hrun, r1, r2, r3⟩ := run_append_own (P := P) w base t ty e i z size bytes ht hi hz hs hb hzs hsz v n xs hown ad m cap news hl hnews h1 h63 hbytes hbase
  refine ⟨v', w', hrun, r1, r2, r3, ?_⟩
  rcases hown.2 with ⟨rfl, rfl⟩ | ⟨g, gc, cur, rfl, hbg, hg, hnc, hcm, hcs, htake⟩
  · have hxs : xs = [] := List.eq_nil_of_length_eq_zero (by simpa using hown.1)
    subst hxs
    obtain ⟨v2, w2, hrun2, q1, _, _⟩ := run_append_own (P := P) w w.heap.size t ty e i z size bytes ht hi hz hs hb hzs hsz (.slice none 0 0) 0 [] (World.ownsRow_nil _ _ _ _) ad m cap news hl hnews h1 h63 hbytes (Nat.le_refl _)
    have e1 := hrun.symm.trans hrun2
    injection e1 with e2 e3
    subst e2
    exact fun k hk => .inr (q1.lt k hk).1
  · by_cases hroom : n + m ≤ gc
    · have hfit : n * i.size + news.length ≤ cur.size := by rw [hl, hcs, hs, ← Nat.add_mul]; exact Nat.mul_le_mul_right _ hroom
      have hr := run_append_room (P := P) w t ty e i ht hi g n gc cur hg ad m cap news (by rw [hs]; exact hl) hnews h1 hroom hfit
      have e1 := hrun.symm.trans hr
      injection e1 with e2 e3
      subst e2
      exact fun k hk => .inl hk
    · have holds : ∀ j u, xs[j]? = some u → w.cell? ((⟨g, 0, none⟩ : Addr).add j) = some u := hown.cells (g := g) rfl
      have hr := run_append_grow (P := P) w t ty e i z ht hi hz ⟨g, 0, none⟩ n gc xs (by rw [hs]; exact hown.1) holds ad m cap news (by rw [hs]; exact hl) hnews (by omega) (by simp only [maxLen] at h63; omega) (growslice_fits (by omega) (by rw [hb]; exact hbytes))
      have e1 := hrun.symm.trans hr
      injection e1 with e2 e3
      subst e2
      intro k hk
      simp [Value.ownBlock] at hk
      exact .inr (by omega)

/-- append onto a row of one's own, of whatever is read. -/
theorem append_own {P : Program} (w : World) (base : Nat) (t ty e : TypeId) (size bytes : Nat) (z : Value) (ht : P.underlying t = some (.slice e)) (hinfo : (P.info? e).map (fun i => (i.zero, i.size, i.bytes)) = some (some z, size, bytes)) (hzs : z.cells.size = size) (hsz : 0 < size)
    (v : Value) (n : Nat) (xs : List Value) (hown : w.ownsRow base e size v n xs) (x : Value) (m : Nat) (news : List Value) (hx : ArgIs w x m news) (hl : news.length = m * size) (h1 : ∀ u ∈ news, u.oneCell' = true)
    (hbytes : (n + m) * bytes ≤ 140737488355328) (h63 : n + m ≤ maxLen) (hbase : base ≤ w.heap.size) (hnil : x ≠ .slice none 0 0) :
    ∃ v' w', (Builtin.append_ #[t, t] ty #[v, x]).run P w = .ok v' w' ∧ w'.ownsRow base e size v' (n + m) (xs ++ news) ∧ w.grownBy w' v.ownBlock ∧ (v' = .slice none 0 0 ↔ v = .slice none 0 0 ∧ m = 0) ∧ (∀ k, v'.ownBlock = some k → v.ownBlock = some k ∨ w.heap.size ≤ k) := by
  obtain ⟨i, hi, hz, hs, hb⟩ := info_parts hinfo
  rcases hx with (⟨rfl, _⟩ | ⟨b, off, cap, rfl, h2, h3, h4, h5⟩) | ⟨a0, cap, rfl, rfl, rfl, h3⟩
  · exact absurd rfl hnil
  · exact append_at w base t ty e size bytes z ht i hi hz hs hb hzs hsz v n xs hown ⟨b, off, none⟩ m cap news (fun j u hj => by rw [addr_add]; exact h4 j u hj) hl h1 hbytes h63 hbase
  · exact append_at w base t ty e size bytes z ht i hi hz hs hb hzs hsz v n xs hown a0 0 cap [] (fun j u hj => by simp at hj) hl h1 hbytes h63 hbase

/-- append of one element, out of a block of its own that the call has made. -/
theorem append_blk {P : Program} (w : World) (B : Nat) (t ty e : TypeId) (size bytes : Nat) (z : Value) (ht : P.underlying t = some (.slice e)) (hinfo : (P.info? e).map (fun i => (i.zero, i.size, i.bytes)) = some (some z, size, bytes)) (hzs : z.cells.size = size) (hsz : 0 < size)
    {v : Value} {n : Nat} {xs : List Value} (hown : w.ownsRow B e size v n xs) (news : List Value) (hl : news.length = size) (h1 : ∀ u ∈ news, u.oneCell' = true)
    (hbytes : (n + 1) * bytes ≤ 140737488355328) (h63 : n + 1 ≤ maxLen) (hbase : B ≤ w.heap.size) :
    ∃ v' w', (Builtin.append_ #[t, t] ty #[v, .slice (some ⟨w.heap.size, 0, none⟩) 1 1]).run P (w.alloc (.cells news.toArray e)) = .ok v' w' ∧ w'.ownsRow B e size v' (n + 1) (xs ++ news) ∧ Fr (fun j => v.ownBlock = some j) w w' ∧
      (v' ≠ .slice none 0 0) ∧ (∀ k, v'.ownBlock = some k → v.ownBlock = some k ∨ w.heap.size ≤ k) := by
  have hx : SliceIs (w.alloc (.cells news.toArray e)) (.slice (some ⟨w.heap.size, 0, none⟩) 1 1) 1 news :=
    .inr ⟨w.heap.size, 0, 1, rfl, Nat.le_refl _, by unfold maxLen; omega, fun j u hj => by
      have hb := new_obj w (.cells news.toArray e)
      simp only [World.cell?, hb]
      simpa using hj, by simp⟩
  obtain ⟨v', w', happ, ho, hg, hn, hfr⟩ := append_own (P := P) (w.alloc (.cells news.toArray e)) B t ty e size bytes z ht hinfo hzs hsz v n xs (hown.alloc _) _ 1 news hx.arg (by omega) h1 hbytes h63 (by simp; omega) (by simp)
  refine ⟨v', w', happ, ho, ((Fr.refl _ w).alloc _).grown hg (fun k e => .inr e), fun e => by simpa using (hn.1 e).2, fun k hk => (hfr k hk).imp id (fun e => by simp at e; omega)⟩
end Go
