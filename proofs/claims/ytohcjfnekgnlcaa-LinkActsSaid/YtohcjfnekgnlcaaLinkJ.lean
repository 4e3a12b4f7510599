/- link: Lane. -/
import Derived.Test.YtohcjfnekgnlcaaLinkI
namespace Go.Proofs.Ytohcjfnekgnlcaa
open Go Go.RowKit Go.Maps Go.MapKept

/-- v is a slice of slices of bytes, all of whose blocks meet Q. -/
def RowsIs (w : World) (v : Value) (L : List (List Int)) (Q : Nat → Prop) : Prop :=
  ∃ cs : List Value, SliceIs w v L.length cs ∧ cs.length = L.length ∧ (∀ j, v.ownBlock = some j → Q j) ∧
    ∀ (i : Nat) (bs : List Int), L[i]? = some bs → ∃ c, cs[i]? = some c ∧ SliceIs w c bs.length (bs.map byteV) ∧ ∀ j, c.ownBlock = some j → Q j

theorem RowsIs.keep {w w' : World} {v : Value} {L : List (List Int)} {Q W : Nat → Prop} (h : RowsIs w v L Q) (f : Fr W w w') (hq : ∀ j, Q j → j < w.heap.size → ¬ W j) : RowsIs w' v L Q := by
  obtain ⟨cs, h1, h2, h3, h4⟩ := h
  refine ⟨cs, h1.keep f (fun j hj => hq j (h3 j hj) (h1.lt hj)), h2, h3, fun i bs hi => ?_⟩
  obtain ⟨c, c1, c2, c3⟩ := h4 i bs hi
  exact ⟨c, c1, c2.keep f (fun j hj => hq j (c3 j hj) (c2.lt hj)), c3⟩
theorem RowsIs.mono {w : World} {v : Value} {L : List (List Int)} {Q Q' : Nat → Prop} (h : RowsIs w v L Q) (hq : ∀ j, Q j → Q' j) : RowsIs w v L Q' := by
  obtain ⟨cs, h1, h2, h3, h4⟩ := h
  refine ⟨cs, h1, h2, fun j hj => hq j (h3 j hj), fun i bs hi => ?_⟩
  obtain ⟨c, c1, c2, c3⟩ := h4 i bs hi
  exact ⟨c, c1, c2, fun j hj => hq j (c3 j hj)⟩

/-- A row of one's own, of copies. -/
def RowsOwn (w : World) (B : Nat) (v : Value) (L : List (List Int)) : Prop :=
  ∃ cs : List Value, w.ownsRow B 28 1 v L.length cs ∧ (∀ (i : Nat) (bs : List Int), L[i]? = some bs → ∃ c, cs[i]? = some c ∧ SliceIs w c bs.length (bs.map byteV) ∧ (∀ j, c.ownBlock = some j → B ≤ j ∧ v.ownBlock ≠ some j) ∧ c.oneCell' = true)

theorem RowsOwn.rows {w : World} {B : Nat} {v : Value} {L : List (List Int)} (h : RowsOwn w B v L) : RowsIs w v L (fun j => B ≤ j) := by
  obtain ⟨cs, h1, h2⟩ := h
  refine ⟨cs, h1.slice, by rw [h1.1, Nat.mul_one], fun j hj => (h1.lt j hj).1, fun i bs hi => ?_⟩
  obtain ⟨c, c1, c2, c3, _⟩ := h2 i bs hi
  exact ⟨c, c1, c2, fun j hj => (c3 j hj).1⟩

theorem RowsOwn.nil (w : World) (B : Nat) : RowsOwn w B (.slice none 0 0) [] := ⟨[], World.ownsRow_nil _ _ _ _, by simp⟩
theorem RowsOwn.keep {w w' : World} {B : Nat} {v : Value} {L : List (List Int)} (h : RowsOwn w B v L) (f : Fr No w w') : RowsOwn w' B v L := by
  obtain ⟨cs, h1, h2⟩ := h
  refine ⟨cs, ownsRow_keep h1 f (fun _ _ => id), fun i bs hi => ?_⟩
  obtain ⟨c, c1, c2, c3, c4⟩ := h2 i bs hi
  exact ⟨c, c1, c2.keep f (fun _ _ => id), c3, c4⟩

/-- One copy more. -/
theorem RowsOwn.snoc {w w2 : World} {B : Nat} {v : Value} {L : List (List Int)} (h : RowsOwn w B v L) (hB : B ≤ w.heap.size) (f2 : Fr No w w2) {ma : Option Addr} {mc : Nat} {bs : List Int} (hm : w2.ownsRow w.heap.size 5 1 (.slice ma bs.length mc) bs.length (bs.map byteV)) (hL : L.length ≤ 1000000) :
    ∃ v' w4, (Builtin.append_ #[35, 35] 35 #[v, .slice (some ⟨w2.heap.size, 0, none⟩) 1 1]).run Try.prog (w2.alloc (.cells #[.slice ma bs.length mc] 28)) = .ok v' w4 ∧ RowsOwn w4 B v' (L ++ [bs]) ∧ Fr (fun j => B ≤ j) w w4 := by
  have f3 : Fr No w (w2.alloc (.cells #[.slice ma bs.length mc] 28)) := f2.alloc _
  obtain ⟨cs, h1, h2⟩ := h.keep f3
  have hv := (Classical.choose_spec h).1
  have hx : SliceIs (w2.alloc (.cells #[.slice ma bs.length mc] 28)) (.slice (some ⟨w2.heap.size, 0, none⟩) 1 1) 1 [.slice ma bs.length mc] :=
    .inr ⟨w2.heap.size, 0, 1, rfl, Nat.le_refl _, by unfold maxLen; omega, fun j u hj => by
      rcases j with _ | j
      · simp at hj; subst hj; exact (blk1 (new_obj w2 _)).1
      · simp at hj, by simp⟩
  obtain ⟨v', w4, happ, ho, hg, -, hfr⟩ := append_own (P := Try.prog) _ B 35 35 28 1 24 (.slice none 0 0) undRows infoBytes rfl (by decide) _ _ _ h1 _ 1 [.slice ma bs.length mc] hx.arg rfl (by intro u hu; simp at hu; subst hu; rfl) (by omega) (by unfold maxLen; omega) (by have := f3.size; omega) (by simp)
  have F4 : Fr (fun j => v.ownBlock = some j) (w2.alloc (.cells #[.slice ma bs.length mc] 28)) w4 := Fr.of_grown hg (fun j e => .inr e)
  have hvlt : ∀ j, v.ownBlock = some j → B ≤ j ∧ j < w.heap.size := fun j hj => hv.lt j hj
  refine ⟨v', w4, happ, ⟨cs ++ [.slice ma bs.length mc], by simpa using ho, fun i bs' hi => ?_⟩, ?_⟩
  · have hcl : cs.length = L.length := by rw [h1.1, Nat.mul_one]
    have fresh : ∀ j, j < (w2.alloc (.cells #[.slice ma bs.length mc] 28)).heap.size → v.ownBlock ≠ some j → v'.ownBlock ≠ some j := fun j hj hn e => by
      rcases hfr j e with e' | e'
      · exact hn e'
      · omega
    rcases Nat.lt_or_ge i L.length with hlt | hge
    · rw [List.getElem?_append_left hlt] at hi
      obtain ⟨c, c1, c2, c3, c4⟩ := h2 i bs' hi
      refine ⟨c, by rw [List.getElem?_append_left (by omega)]; exact c1, c2.keep F4 (fun j hj => (c3 j hj).2), fun j hj => ⟨(c3 j hj).1, fresh j (c2.lt hj) (c3 j hj).2⟩, c4⟩
    · rw [List.getElem?_append_right hge] at hi
      have hi0 : i - L.length = 0 := by
        rcases Nat.eq_zero_or_pos (i - L.length) with e | e
        · exact e
        · rw [List.getElem?_eq_none (by simp; omega)] at hi; cases hi
      rw [hi0] at hi
      simp at hi
      subst hi
      have hms : SliceIs (w2.alloc (.cells #[.slice ma bs.length mc] 28)) (.slice ma bs.length mc) bs.length (bs.map byteV) := hm.slice.keep ((Fr.refl No _).alloc _) (fun _ _ => id)
      have hno : ∀ j, (Value.slice ma bs.length mc).ownBlock = some j → w.heap.size ≤ j ∧ v.ownBlock ≠ some j := fun j hj => by
        have := (hm.lt j hj).1
        exact ⟨this, fun e => by have := (hvlt j e).2; omega⟩
      refine ⟨_, by rw [List.getElem?_append_right (by omega), show i - cs.length = 0 by omega]; rfl, hms.keep F4 (fun j hj => (hno j hj).2), fun j hj => ⟨by have := (hno j hj).1; omega, fresh j (hms.lt hj) (hno j hj).2⟩, rfl⟩
  · exact (f3.of0).trans F4 (fun j _ e => (hvlt j e).1)

def LaneOk (w : World) (L : List (List Int)) (e : Ending) (w' : World) : Prop := ∃ v, e = .returned v ∧ RowsIs w' v L (fun j => w.heap.size ≤ j) ∧ Fr No w w'

set_option maxHeartbeats 2000000 in
theorem lane_ok (w : World) (g : LkG) (h : LinksAt w g) (a b k : Int) (hk : okWay g.op (a, b, k)) (hb : ∀ bs ∈ g.lane (a, b, k), bs.length ≤ 140737488355328) :
    Calls Try.prog 20 #[.pointer (some ⟨g.bl, 0, none⟩), .int .i64 a, .int .i64 b, .int .i64 k] w (LaneOk w (g.lane (a, b, k))) := by
  obtain ⟨L1, L2, v0, ms0, hs⟩ := slot_ex g (a, b, k)
  have hlane := hs.lane h.nodup
  rw [hlane] at hb ⊢
  obtain ⟨r, hr1, hr2⟩ := hs.finds
  have hlk : ∀ w', MapAt Try.prog 64 w' g.bn (lnV g.ln) → (Instr.lookup 60 (.map (some g.bn)) (.agg #[.int .i64 a, .int .i64 b, .int .i64 k]) false).run Try.prog w' = .ok v0 w' :=
    fun w' hm => by rw [← hr2]; exact hm.lookup keyedWay undWayMap zeroRows (keyWayOk hk) false hr1
  obtain ⟨va, vc, hva⟩ := row_form (hs.row h).1
  subst hva
  have hmsg : ∀ m ∈ ms0, SliceIs w m.1 m.2.length (m.2.map byteV) := fun m hm => by
    rcases hs with e | ⟨_, _, _, e, _⟩
    · exact h.hm ((a, b, k), ⟨.slice va ms0.length vc, ms0⟩) (by rw [e]; simp) m hm
    · subst e; cases hm
  have hrow := (hs.row h).1
  have hl64 := (hs.row h).2
  go_enter Try.func20, Try.ntmps20
  go_wp2_with fail
  refine (find_ok _ g h _ _ _ hk.1 hk.2.1 hk.2.2).mono ?_
  rintro e w1 ⟨rfl, f1⟩
  have h1 := h.keep0 f1
  have c1 := h1.cell1
  have m1 := h1.hn
  have hne : g.bn < w1.heap.size := m1.lt
  have hnl : g.bl < w1.heap.size := h1.wlt _ (.inl rfl)
  unfold wayV
  simp only []
  clear h hr1 hr2 hlane hs
  go_wp2_with fail
  refine wp_region_lexL [false, false, false, false, false, false, false, false] (fun w' => w'.cell? ⟨g.bl, 1, none⟩ = some (.map (some g.bn)) ∧ w'.cell? ⟨w1.heap.size, 0, none⟩ = some (.int .i64 a) ∧ w'.cell? ⟨w1.heap.size, 1, none⟩ = some (.int .i64 b) ∧ w'.cell? ⟨w1.heap.size, 2, none⟩ = some (.int .i64 k) ∧ MapAt Try.prog 64 w' g.bn (lnV g.ln)) (by kernel_rfl) (by kernel_rfl) ?_ (fun K hK => ?_)
  · exact ⟨((Fr.refl No _).alloc _).drew.cell c1 id, by go_simp, by go_simp, by go_simp, m1.keep (((Fr.refl No _).alloc _).drew) id⟩
  repeat (first | ((first | with_reducible refine lexL_read ?_ | ((with_reducible refine lexL_readG ?_ ?_); (focus rfl))); apply Exists.intro; refine ⟨fun w' hS => ?_, ?_⟩; (focus (obtain ⟨s1, s2, s3, s4, s5⟩ := hS; go_simp; (try with_reducible rfl); done)); try simp only [Act.put, List.setIfInBounds_toArray, List.set_cons_zero, List.set_cons_succ]) | ((first | ((with_reducible refine lexL_skip (c := false) ?_ ?_ ?_); (focus rfl); (focus rfl)) | ((with_reducible refine lexL_skip (c := true) ?_ ?_ ?_); (focus rfl); (focus rfl)) | ((with_reducible refine lexL_skipU ?_ ?_); (focus rfl))); try simp only [Act.put, List.setIfInBounds_toArray, List.set_cons_zero, List.set_cons_succ]))
  refine lexL_nil (hK.out _ _ ?_)
  go_wp2
  have F0 : Fr No w1 ((w1.alloc (.cells #[.int .i64 a, .int .i64 b, .int .i64 k] 64)).drew) := by (repeat (first | with_reducible exact Fr.refl _ _ | with_reducible assumption | with_reducible refine Fr.drew ?_ | with_reducible refine Fr.drewN ?_ _ | with_reducible refine Fr.alloc ?_ _ | with_reducible refine Fr.setCell ?_ _ (.inl (by simp <;> omega)) _))
  have hrow1 := ownsRow_keep (ownsRow_keep hrow f1 (fun _ _ => id)) F0 (fun _ _ => id)
  have hmsg1 : ∀ m ∈ ms0, SliceIs _ m.1 m.2.length (m.2.map byteV) := fun m hm => ((hmsg m hm).keep f1 (fun _ _ => id)).keep F0 (fun _ _ => id)
  have f01 := f1.trans0 F0
  generalize ((w1.alloc (.cells #[.int .i64 a, .int .i64 b, .int .i64 k] 64)).drew) = W at F0 hrow1 hmsg1 f01 ⊢
  clear F0 c1 m1 hne hnl h1 hlk hrow hmsg
  have hWs := f01.size
  go_loopw [11, 31] (fun out i wr => ∃ n : Nat, n ≤ ms0.length ∧ i = .int .i64 n ∧ RowsOwn wr W.heap.size out ((ms0.map (·.2)).take n) ∧ Fr No W wr) (fun _ i _ => ms0.length - (intOf i).toNat)
  case atStart => exact ⟨0, Nat.zero_le _, rfl, RowsOwn.nil _ _, Fr.refl _ _⟩
  case round =>
    obtain ⟨n, hn, rfl, hro, hfr⟩ := hrel
    by_cases hlt : n < ms0.length
    · obtain ⟨gk, hva⟩ : ∃ gk, va = some ⟨gk, 0, none⟩ := by
        rcases hrow1.2 with ⟨_, e⟩ | ⟨gk, cap, cur, e, _⟩
        · omega
        · exact ⟨gk, by cases e; rfl⟩
      subst hva
      obtain ⟨⟨mv, bs⟩, hmp⟩ : ∃ m, ms0[n]? = some m := ⟨_, List.getElem?_eq_getElem hlt⟩
      have hmem : (mv, bs) ∈ ms0 := List.mem_of_getElem? hmp
      have hcell : wr.cell? ⟨gk, n, none⟩ = some mv := by
        have := (ownsRow_keep hrow1 hfr (fun _ _ => id)).cells (g := gk) rfl n mv (by simp [hmp])
        rwa [addr_add, Nat.zero_add] at this
      have hms := (hmsg1 _ hmem).keep hfr (fun _ _ => id)
      have hbl := hb bs (List.mem_map.2 ⟨_, hmem, rfl⟩)
      simp only [] at hms
      have htk : (ms0.map (·.2)).take (n + 1) = (ms0.map (·.2)).take n ++ [bs] := by rw [List.take_add_one]; simp [hmp]
      have HT := Lib.hid htk
      clear htk hmp
      have i1 : (n : Int) < (ms0.length : Int) := by omega
      go_wp2_with fail
      refine (clone_any _ mv bs hms.arg hbl).mono ?_
      rintro e w2 ⟨cv, rfl, hcv, f2⟩
      obtain ⟨ma, mc, rfl⟩ := row_form hcv
      obtain ⟨v', w4, happ, hro', f4⟩ := hro.snoc hfr.size f2 hcv (by simp; omega)
      rw [← HT.out] at hro'
      clear hcv hms hcell
      go_wp2_with (at_builtin; refine wpList_append_run rfl rfl rfl rfl happ ?_)
      go_roundw
      case rel => exact ⟨n + 1, by omega, by go_num, hro', hfr.trans f4 (fun i hi e => by omega)⟩
      case measure => simp [intOf]; omega
    · have : n = ms0.length := by omega
      subst this
      have FIN : LaneOk w (ms0.map (·.2)) (.returned u11) wr := by
        rw [List.take_of_length_le (by simp)] at hro
        exact ⟨_, rfl, hro.rows.mono (fun j hj => by omega), f01.trans0 hfr⟩
      have HFIN := Lib.hid FIN
      clear FIN hro
      go_wp2
      go_ret
      exact HFIN.out
end Go.Proofs.Ytohcjfnekgnlcaa
