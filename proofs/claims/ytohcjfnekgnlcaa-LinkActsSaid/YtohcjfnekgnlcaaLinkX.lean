/- What the laws on links share: the grown object, what holds of whatever it holds. -/
import Derived.Test.YtohcjfnekgnlcaaLinkV
import Derived.Test.YtohcjfnekgnlcaaLinkO
namespace Go.Proofs.Ytohcjfnekgnlcaa
open Go Go.RowKit Go.Maps Go.MapKept

section
variable {w0 w w' : World} {p : Nat} {g : LkG} {m : LM} {N : Nat}
theorem St.frV (h : St w0 w p g m N) {V : Nat → Prop} (f : Fr V w w') (hW : ∀ k, g.W k → ¬ V k) (hC : ∀ k, g.C k → ¬ V k) (h0 : ∀ k, V k → w0.heap.size ≤ k) : St w0 w' p g m N :=
  { h with at_ := h.at_.keep f hW hC, fr := h.fr.trans f (fun i hi e => by have := h0 i e; omega) }

theorem grown_st (w0 w : World) (f : Fr No w0 w) (v : Value) (L : List ActD) (h : ActsIs w v L) (hg : greatB L = false) :
    Calls Try.prog 18 #[v] w fun e w' => ∃ p g, e = .returned (.pointer (some ⟨p, 0, none⟩)) ∧ St w0 w' p g (runM emptyM L) 300 ∧ Fr No w w' ∧ (∀ k, g.W k → w.heap.size ≤ k) ∧ (∀ k, g.C k → w.heap.size ≤ k) := by
  refine (grown_any w v L h hg).mono ?_
  have hgb : L.length ≤ 300 ∧ weigh L ≤ 20000 := by simpa [greatB] using hg
  rintro e w' ⟨g, rfl, h1, h2, h3, h4, h5, h6, h7⟩
  exact ⟨g.bl, g, rfl, ⟨rfl, h1, h2, fun k hk => Nat.le_trans f.size (h3 k hk), fun k hk => Nat.le_trans f.size (h4 k hk), f.trans0 h5, by omega, by omega⟩, h5, h3, h4⟩

theorem St.lane_ok (h : St w0 w p g m N) (k : Int × Int × Int) : m.lane k = [] ∨ okWay m.op k := by
  have e1 : g.lane = m.lane := congrArg LM.lane h.lm
  have e2 : g.op = m.op := congrArg LM.op h.lm
  rw [← e1, ← e2]
  by_cases hx : ∃ x ∈ g.ln, x.1 = k
  · obtain ⟨x, hx, rfl⟩ := hx
    exact .inr (h.at_.vl x hx)
  · exact .inl (laneOf_miss fun x hx' e => hx ⟨x, hx', e⟩)
theorem laneOf_mem {ln : List ((Int × Int × Int) × LG)} {k : Int × Int × Int} : laneOf ln k = [] ∨ ∃ x ∈ ln, x.1 = k ∧ laneOf ln k = x.2.ms.map (·.2) := by
  induction ln with
  | nil => exact .inl rfl
  | cons x l ih =>
    rw [laneOf_cons]
    by_cases e : x.1 = k
    · rw [if_pos e]; exact .inr ⟨x, by simp, e, rfl⟩
    · rw [if_neg e]
      exact ih.imp id fun ⟨y, hy, h⟩ => ⟨y, by simp [hy], h⟩
theorem St.lane_le (h : St w0 w p g m N) (k : Int × Int × Int) : (m.lane k).length ≤ 64 := by
  have e1 : g.lane = m.lane := congrArg LM.lane h.lm
  rw [← e1]
  rcases laneOf_mem (ln := g.ln) (k := k) with e | ⟨x, hx, _, e⟩
  · show (laneOf g.ln k).length ≤ 64
    rw [e]; exact Nat.zero_le _
  · show (laneOf g.ln k).length ≤ 64
    rw [e, List.length_map]; exact h.at_.le x hx
theorem St.vo (h : St w0 w p g m N) : ∀ q ∈ m.op, 0 ≤ q.1 ∧ q.1 < q.2 ∧ q.2 < 64 := by
  have e2 : g.op = m.op := congrArg LM.op h.lm
  rw [← e2]; exact h.at_.vo
end

/-- No message longer than B. -/
def LMb (B : Nat) (m : LM) : Prop := ∀ k, ∀ bs ∈ m.lane k, bs.length ≤ B
theorem LMb.openM {B : Nat} {m : LM} (h : LMb B m) (a b : Int) : LMb B (openM m a b).1 := by
  unfold Proofs.Ytohcjfnekgnlcaa.openM; split
  · split <;> exact h
  · exact h
theorem LMb.closeM {B : Nat} {m : LM} (h : LMb B m) (a b : Int) : LMb B (closeM m a b).1 := by
  unfold Proofs.Ytohcjfnekgnlcaa.closeM
  split
  · split
    · intro k bs hb
      simp only at hb
      split at hb
      · cases hb
      · split at hb
        · cases hb
        · split at hb
          · cases hb
          · split at hb
            · cases hb
            · exact h k bs hb
    · exact h
  · exact h
theorem LMb.pushM {B : Nat} {m : LM} (h : LMb B m) (k : Int × Int × Int) (bs : List Int) (hb : bs.length ≤ B) : LMb B (pushM m k bs).1 := by
  unfold Proofs.Ytohcjfnekgnlcaa.pushM
  split
  · split
    · intro k' x hx
      simp only at hx
      split at hx
      · rcases List.mem_append.1 hx with e | e
        · exact h k x e
        · simp at e; subst e; exact hb
      · exact h k' x hx
    · exact h
  · exact h
theorem LMb.takeM {B : Nat} {m : LM} (h : LMb B m) (k : Int × Int × Int) (q : Int) : LMb B (takeM m k q).1 ∧ (takeM m k q).2.1.length ≤ B := by
  unfold Proofs.Ytohcjfnekgnlcaa.takeM
  split
  · split
    · rename_i hq
      refine ⟨fun k' x hx => ?_, ?_⟩
      · simp only at hx
        split at hx
        · exact h k x (List.mem_of_mem_eraseIdx hx)
        · exact h k' x hx
      · have hl : q.toNat < (m.lane k).length := by omega
        simp only [List.getD_eq_getElem?_getD, List.getElem?_eq_getElem hl, Option.getD_some]
        exact h k _ (List.getElem_mem hl)
    · exact ⟨h, Nat.zero_le _⟩
  · exact ⟨h, Nat.zero_le _⟩
theorem LMb.doM {B : Nat} {m : LM} (h : LMb B m) (d : ActD) (hd : d.bytes.length ≤ B) : LMb B (doM m d).1 := by
  unfold Proofs.Ytohcjfnekgnlcaa.doM
  split
  · exact h.openM _ _
  · split
    · exact h.closeM _ _
    · split
      · exact h.pushM _ _ hd
      · split
        · exact (h.takeM _ _).1
        · exact h
theorem LMb.run {B : Nat} : ∀ (L : List ActD) {m : LM}, LMb B m → (∀ d ∈ L, d.bytes.length ≤ B) → LMb B (runM m L)
  | [], _, h, _ => h
  | d :: L, m, h, hL => by
    show LMb B (runM (Proofs.Ytohcjfnekgnlcaa.doM m d).1 L)
    exact LMb.run L (h.doM d (hL d (by simp))) fun d' hd' => hL d' (by simp [hd'])
theorem LMb.grown {L : List ActD} (hg : greatB L = false) : LMb 20000 (runM emptyM L) := by
  have hgb : L.length ≤ 300 ∧ weigh L ≤ 20000 := by simpa [greatB] using hg
  exact LMb.run L (fun k bs hb => by cases hb) fun d hd => weigh_mem hd hgb.2

/-- append([]byte{}, x...) -/
theorem copy_run (w : World) (v : Value) (bs : List Int) (h : ArgIs w v bs.length (bs.map byteV)) (hl : bs.length ≤ 140737488355328) :
    ∃ gb cap w', (Builtin.append_ #[28, 28] 28 #[.slice (some ⟨w.heap.size, 0, none⟩) 0 0, v]).run Try.prog (w.alloc (.cells #[] 5)) = .ok (.slice (some ⟨gb, 0, none⟩) bs.length cap) w' ∧
      w'.ownsRow w.heap.size 5 1 (.slice (some ⟨gb, 0, none⟩) bs.length cap) bs.length (bs.map byteV) ∧ Fr No w w' := by
  have hown := World.ownsRow_made (e := 5) (size := 1) w #[] 0 (Nat.le_refl w.heap.size) (by unfold maxLen; omega) rfl
  obtain ⟨i, hi, hz, hs, hb⟩ := info_parts infoByte
  by_cases hnil : v = .slice none 0 0
  · subst hnil
    have h1 : bs.length = 0 := by
      obtain ⟨a, c, e⟩ := h.form
      injection e with e1 e2 e3
      exact e2.symm
    have hbs : bs = [] := List.eq_nil_of_length_eq_zero h1
    subst hbs
    exact ⟨w.heap.size, 0, _, run_append_owned_none (P := Try.prog) _ w.heap.size 28 28 5 i 1 undBytes hi _ _ _ hown, hown, (Fr.refl No w).alloc _⟩
  · obtain ⟨v', w', hrun, hown', hg, hn, -⟩ := append_own (P := Try.prog) (w.alloc (.cells #[] 5)) w.heap.size 28 28 5 1 1 (.int .u8 0) undBytes infoByte rfl (by decide)
      (.slice (some ⟨w.heap.size, 0, none⟩) 0 0) 0 [] hown _ _ _ (h.keep ((Fr.refl No w).alloc _)) (by simp) (by intro u hu; obtain ⟨x, _, rfl⟩ := List.mem_map.1 hu; rfl) (by omega) (by unfold maxLen; omega) (by simp) hnil
    rw [Nat.zero_add, List.nil_append] at hown'
    have hfr : Fr No w w' := ((Fr.refl No w).alloc _).grown hg (by simp [Value.ownBlock])
    rcases hown'.2 with ⟨rfl, _⟩ | ⟨gb, cap, cur, rfl, _⟩
    · exact absurd (hn.1 rfl).1 (by simp)
    · exact ⟨gb, cap, w', hrun, hown', hfr⟩

/-- LinkOrder's start: the link (3, 4), its lane empty. -/
theorem order_start {m : LM} (h : m.lane (3, 4, 0) = [] ∨ okWay m.op (3, 4, 0)) : ∃ m1 r1 m2, closeM m 3 4 = (m1, r1) ∧ openM m1 4 3 = (m2, 0) ∧ okWay m2.op (3, 4, 0) ∧ m2.lane (3, 4, 0) = [] := by
  have hv : vld 3 4 := by unfold vld; simp
  have hv' : vld 4 3 := by unfold vld; simp
  have hlo : lo 4 3 = 3 ∧ hi 4 3 = 4 ∧ lo 3 4 = 3 ∧ hi 3 4 = 4 := by simp [lo, hi]
  by_cases hin : ((3 : Int), (4 : Int)) ∈ m.op
  · have hc : closeM m 3 4 = (⟨opDrop m.op (3, 4), fun k => if k = (4, 3, 1) then [] else if k = (3, 4, 1) then [] else if k = (4, 3, 0) then [] else if k = (3, 4, 0) then [] else m.lane k⟩, 0) := by
      unfold closeM
      rw [if_pos hv, hlo.2.2.1, hlo.2.2.2, if_pos hin]
    refine ⟨_, _, ⟨opDrop m.op (3, 4) ++ [(3, 4)], fun k => if k = (4, 3, 1) then [] else if k = (3, 4, 1) then [] else if k = (4, 3, 0) then [] else if k = (3, 4, 0) then [] else m.lane k⟩, hc, ?_, ⟨hv, .inl rfl, by simp [lo, hi]⟩, by simp⟩
    unfold openM
    rw [if_pos hv', hlo.1, hlo.2.1, if_neg (by simp [opDrop])]
  · have hl : m.lane (3, 4, 0) = [] := h.elim id fun h => absurd (by simpa [lo, hi] using h.2.2) hin
    have hc : closeM m 3 4 = (m, 9) := by
      unfold closeM
      rw [if_pos hv, hlo.2.2.1, hlo.2.2.2, if_neg hin]
    refine ⟨_, _, ⟨m.op ++ [(3, 4)], m.lane⟩, hc, ?_, ⟨hv, .inl rfl, by simp [lo, hi]⟩, hl⟩
    unfold openM
    rw [if_pos hv', hlo.1, hlo.2.1, if_neg hin]

theorem push_to {m : LM} {k : Int × Int × Int} (hk : okWay m.op k) (bs : List Int) (hl : (m.lane k).length < 64) : ∃ m', pushM m k bs = (m', 0) ∧ okWay m'.op k ∧ m'.lane k = m.lane k ++ [bs] := by
  unfold pushM
  rw [if_pos hk, if_pos hl]
  exact ⟨_, rfl, hk, by simp⟩
theorem take_first {m : LM} {k : Int × Int × Int} (hk : okWay m.op k) (bs : List Int) (l : List (List Int)) (hl : m.lane k = bs :: l) : ∃ m', takeM m k 0 = (m', bs, 0) ∧ okWay m'.op k ∧ m'.lane k = l := by
  unfold takeM
  rw [if_pos hk, if_pos (by rw [hl]; simp)]
  exact ⟨⟨m.op, fun k' => if k' = k then l else m.lane k'⟩, by rw [hl]; rfl, hk, by simp⟩
theorem take_no {m : LM} {k : Int × Int × Int} (hk : okWay m.op k) (hl : m.lane k = []) : takeM m k 0 = (m, [], 9) := by
  unfold takeM
  rw [if_pos hk, if_neg (by rw [hl]; simp)]
end Go.Proofs.Ytohcjfnekgnlcaa
