/- A Links object of the law's own, call by call; alive. -/
import Derived.Test.YtohcjfnekgnlcaaLinkU
namespace Go.Proofs.Ytohcjfnekgnlcaa
open Go Go.RowKit Go.Maps Go.MapKept

/-- An object that was made behind w0, as it stands in w; what it holds; how many links and lanes at most. -/
structure St (w0 w : World) (p : Nat) (g : LkG) (m : LM) (N : Nat) : Prop where
  bl : g.bl = p
  at_ : LinksAt w g
  lm : g.lm = m
  W : ∀ k, g.W k → w0.heap.size ≤ k
  C : ∀ k, g.C k → w0.heap.size ≤ k
  fr : Fr No w0 w
  n1 : g.op.length ≤ N
  n2 : g.ln.length ≤ N

theorem St.fr0 {w0 w w' : World} {p : Nat} {g : LkG} {m : LM} {N : Nat} (h : St w0 w p g m N) (f : Fr No w w') : St w0 w' p g m N :=
  { h with at_ := h.at_.keep0 f, fr := h.fr.trans0 f }
theorem St.step {w0 w w' : World} {p : Nat} {g g' : LkG} {m m' : LM} {N : Nat} (h : St w0 w p g m N) (hw : Went w g w' g' m') : St w0 w' p g' m' (N + 1) where
  bl := hw.mv.bl.trans h.bl
  at_ := hw.at_
  lm := hw.lm
  W k hk := (hw.mv.W k hk).elim (h.W k) (fun e => Nat.le_trans h.fr.size e)
  C k hk := (hw.mv.C k hk).elim (h.C k) (fun e => Nat.le_trans h.fr.size e)
  fr := h.fr.trans hw.fr (fun i hi e => by have := h.W i e; omega)
  n1 := Nat.le_trans hw.n1 (Nat.succ_le_succ h.n1)
  n2 := Nat.le_trans hw.n2 (Nat.succ_le_succ h.n2)
theorem St.mono {w0 w : World} {p : Nat} {g : LkG} {m : LM} {N N' : Nat} (h : St w0 w p g m N) (hN : N ≤ N') : St w0 w p g m N' := { h with n1 := Nat.le_trans h.n1 hN, n2 := Nat.le_trans h.n2 hN }

/-- A slice that no call of the object turns. -/
def Out (w : World) (g : LkG) (v : Value) (bs : List Int) : Prop := SliceIs w v bs.length (bs.map byteV) ∧ ∀ j, v.ownBlock = some j → ¬ g.W j
theorem Out.fr0 {w w' : World} {g : LkG} {v : Value} {bs : List Int} (h : Out w g v bs) (f : Fr No w w') : Out w' g v bs := ⟨h.1.keep f (fun _ _ => id), h.2⟩
theorem Out.step {w w' : World} {g g' : LkG} {v : Value} {bs : List Int} {m' : LM} (h : Out w g v bs) (hw : Went w g w' g' m') : Out w' g' v bs :=
  ⟨h.1.keep hw.fr h.2, fun j hj e => (hw.mv.W j e).elim (h.2 j hj) (fun e' => by have := h.1.lt hj; omega)⟩
/-- Slices of the object's kin and strangers. -/
structure Step (w : World) (g : LkG) (w' : World) (g' : LkG) : Prop where
  bl : g'.bl = g.bl
  out : ∀ v bs, Out w g v bs → Out w' g' v bs
  W : ∀ k, g'.W k → g.W k ∨ w.heap.size ≤ k
  C : ∀ k, g'.C k → g.C k ∨ w.heap.size ≤ k
  fr : Fr g.W w w'
theorem Went.step {w w' : World} {g g' : LkG} {m' : LM} (hw : Went w g w' g' m') : Step w g w' g' := ⟨hw.mv.bl, fun _ _ h => h.step hw, hw.mv.W, hw.mv.C, hw.fr⟩

section
variable {w0 w : World} {p : Nat} {g : LkG} {m : LM} {N : Nat}

theorem new_st (w0 w : World) (f : Fr No w0 w) : Calls Try.prog 11 #[] w fun e w' => ∃ p g, e = .returned (.pointer (some ⟨p, 0, none⟩)) ∧ St w0 w' p g emptyM 0 ∧ Fr No w w' ∧ (∀ k, g.W k → w.heap.size ≤ k) ∧ (∀ k, g.C k → w.heap.size ≤ k) := by
  refine (new_any w).mono ?_
  rintro e w' ⟨rfl, h, f'⟩
  refine ⟨w.heap.size + 2, LkG.new w.heap.size, rfl, ⟨rfl, h, new_lm _, fun k hk => Nat.le_trans f.size (new_W hk), fun k hk => (new_C hk).elim, f.trans0 f', Nat.le_refl _, Nat.le_refl _⟩, f', fun k hk => new_W hk, fun k hk => (new_C hk).elim⟩

theorem open_st (h : St w0 w p g m N) (hN : N ≤ 1000000) (a b : Int) {m' : LM} {r : Int} (E : openM m a b = (m', r)) :
    Calls Try.prog 13 #[.pointer (some ⟨p, 0, none⟩), .int .i64 a, .int .i64 b] w fun e w' => e = .returned (.int .i64 r) ∧ ∃ g', St w0 w' p g' m' (N + 1) ∧ Step w g w' g' := by
  obtain rfl := h.bl
  have hc := open_any w g h.at_ (by have := h.n1; unfold maxLen; omega) a b
  rw [h.lm, E] at hc
  refine hc.mono ?_
  rintro e w' ⟨rfl, g', hw⟩
  exact ⟨rfl, g', h.step hw, hw.step⟩
theorem close_st (h : St w0 w p g m N) (a b : Int) {m' : LM} {r : Int} (E : closeM m a b = (m', r)) :
    Calls Try.prog 19 #[.pointer (some ⟨p, 0, none⟩), .int .i64 a, .int .i64 b] w fun e w' => e = .returned (.int .i64 r) ∧ ∃ g', St w0 w' p g' m' (N + 1) ∧ Step w g w' g' := by
  obtain rfl := h.bl
  have hc := close_any w g h.at_ a b
  rw [h.lm, E] at hc
  refine hc.mono ?_
  rintro e w' ⟨rfl, g', hw⟩
  exact ⟨rfl, g', h.step hw, hw.step⟩
theorem push_st (h : St w0 w p g m N) (hN : N ≤ 1000000) (a b k : Int) (v : Value) (bs : List Int) (hv : ArgIs w v bs.length (bs.map byteV)) (hl : bs.length ≤ 140737488355328) {m' : LM} {r : Int} (E : pushM m (a, b, k) bs = (m', r)) :
    Calls Try.prog 12 #[.pointer (some ⟨p, 0, none⟩), .int .i64 a, .int .i64 b, .int .i64 k, v] w fun e w' => e = .returned (.int .i64 r) ∧ ∃ g', St w0 w' p g' m' (N + 1) ∧ Step w g w' g' := by
  obtain rfl := h.bl
  have hc := push_any w g h.at_ (by have := h.n2; unfold maxLen; omega) a b k v bs hv hl
  rw [h.lm, E] at hc
  refine hc.mono ?_
  rintro e w' ⟨rfl, g', hw⟩
  exact ⟨rfl, g', h.step hw, hw.step⟩
theorem take_st (h : St w0 w p g m N) (a b k q : Int) {m' : LM} {bs : List Int} {r : Int} (E : takeM m (a, b, k) q = (m', bs, r)) :
    Calls Try.prog 15 #[.pointer (some ⟨p, 0, none⟩), .int .i64 a, .int .i64 b, .int .i64 k, .int .i64 q] w fun e w' => ∃ v, e = .returned (.tuple #[v, .int .i64 r]) ∧ ∃ g', St w0 w' p g' m' (N + 1) ∧ Step w g w' g' ∧ Out w' g' v bs := by
  obtain rfl := h.bl
  have hc := take_any w g h.at_ a b k q
  rw [h.lm, E] at hc
  refine hc.mono ?_
  rintro e w' ⟨v, rfl, hv1, hv2, g', hw⟩
  refine ⟨v, rfl, g', h.step hw, hw.step, hv1, fun j hj e => ?_⟩
  have hc := hv2 j hj
  rcases hw.mv.W j e with e' | e'
  · exact h.at_.mc j hc e'
  · have := h.at_.clt j hc; omega
theorem has_st (h : St w0 w p g m N) (a b : Int) : Calls Try.prog 23 #[.pointer (some ⟨p, 0, none⟩), .int .i64 a, .int .i64 b] w fun e w' => e = .returned (.bool (hasB m.op a b)) ∧ Fr No w w' := by
  obtain rfl := h.bl
  have hc := has_any w g h.at_ a b
  rwa [show g.op = m.op from congrArg LM.op h.lm] at hc
theorem ends_st (h : St w0 w p g m N) (a : Int) : Calls Try.prog 24 #[.pointer (some ⟨p, 0, none⟩), .int .i64 a] w (EndsOk w (endsOf m.op a 64)) := by
  obtain rfl := h.bl
  have hc := ends_any w g h.at_ a
  rwa [show g.op = m.op from congrArg LM.op h.lm] at hc
theorem lane_st (h : St w0 w p g m N) (a b k : Int) (hb : ∀ bs ∈ m.lane (a, b, k), bs.length ≤ 140737488355328) : Calls Try.prog 20 #[.pointer (some ⟨p, 0, none⟩), .int .i64 a, .int .i64 b, .int .i64 k] w (LaneOk w (m.lane (a, b, k))) := by
  have e : g.lane = m.lane := congrArg LM.lane h.lm
  obtain rfl := h.bl
  have hc := lane_any w g h.at_ a b k (by rw [e]; exact hb)
  rwa [e] at hc
theorem len_st (h : St w0 w p g m N) (hN : N ≤ 100000) (kd : Int) : Calls Try.prog 14 #[.pointer (some ⟨p, 0, none⟩), .int .i64 kd] w fun e w' => e = .returned (.int .i64 (cnt g.ln kd)) ∧ Fr No w w' := by
  obtain rfl := h.bl
  exact len_any w g h.at_ kd (Nat.le_trans h.n2 hN)
end

/-! ### alive -/
def mA : LM := ⟨[(1, 2)], fun _ => []⟩
def mB (L : List (List Int)) : LM := ⟨[(1, 2)], fun k => if k = (1, 2, 1) then L else []⟩
theorem al1 : openM emptyM 2 1 = (mA, 0) := by simp [openM, emptyM, mA, vld, lo, hi]
theorem alOk : okWay [(1, 2)] (1, 2, 1) := by simp [okWay, vld, lo, hi]
theorem al2 : pushM mA (1, 2, 1) [7] = (mB [[7]], 0) := by
  unfold pushM
  rw [if_pos (show okWay mA.op (1, 2, 1) from alOk), if_pos (by simp [mA])]
  rfl
theorem al3 (L : List (List Int)) (bs : List Int) (h : L.length < 64) : pushM (mB L) (1, 2, 1) bs = (mB (L ++ [bs]), 0) := by
  unfold pushM
  rw [if_pos (show okWay (mB L).op (1, 2, 1) from alOk), if_pos (by simpa [mB] using h)]
  congr 1
  unfold mB
  congr 1
  funext k
  by_cases e : k = (1, 2, 1) <;> simp [e]
theorem al4 (L : List (List Int)) (p : Nat) (h : p < L.length) : takeM (mB L) (1, 2, 1) p = (mB (L.eraseIdx p), L.getD p [], 0) := by
  unfold takeM
  rw [if_pos (show okWay (mB L).op (1, 2, 1) from alOk), if_pos (by simp [mB]; omega)]
  have e1 : (⟨(mB L).op, fun k' => if k' = (1, 2, 1) then ((mB L).lane (1, 2, 1)).eraseIdx (p : Int).toNat else (mB L).lane k'⟩ : LM) = mB (L.eraseIdx p) := by
    unfold mB
    congr 1
    funext k
    by_cases e : k = (1, 2, 1) <;> simp [e]
  rw [e1]
  simp [mB]
theorem al5 (L : List (List Int)) (p : Nat) (h : ¬ p < L.length) : takeM (mB L) (1, 2, 1) p = (mB L, [], 9) := by
  unfold takeM
  rw [if_pos (show okWay (mB L).op (1, 2, 1) from alOk), if_neg (by simp [mB]; omega)]

/-- A new block of bytes. -/
theorem new_bytes (w : World) (xs : List Int) (hx : xs.length ≤ maxLen) : SliceIs (w.alloc (.cells (xs.map byteV).toArray 5)) (.slice (some ⟨w.heap.size, 0, none⟩) xs.length xs.length) xs.length (xs.map byteV) :=
  .inr ⟨w.heap.size, 0, xs.length, rfl, Nat.le_refl _, hx, fun j u hj => by
    have hb := new_obj w (.cells (xs.map byteV).toArray 5)
    simp only [World.cell?, hb]
    simpa using hj, by simp⟩

set_option maxHeartbeats 4000000 in
theorem alive_any (w : World) : Calls Try.prog 10 #[] w fun e w' => e = .returned (.bool true) ∧ Fr No w w' := by
  go_enter Try.func10, Try.ntmps10
  go_wp2_with fail
  refine (new_st w _ (Fr.refl _ _)).mono ?_
  rintro e w1 ⟨p, g, rfl, st, -⟩
  go_wp2_with fail
  refine (open_st st (by omega) 2 1 al1).mono ?_
  rintro e w2 ⟨rfl, g2, st2, sp2⟩
  go_wp2_with fail
  refine (push_st (st2.fr0 ((Fr.refl _ _).alloc _)) (by omega) 1 2 1 _ [7] (new_bytes w2 [7] (by unfold maxLen; simp)).arg (by simp) al2).mono ?_
  rintro e w3 ⟨rfl, g3, st3, sp3⟩
  go_wp2_with fail
  refine (push_st (st3.fr0 ((Fr.refl _ _).alloc _)) (by omega) 1 2 1 _ [8] (new_bytes w3 [8] (by unfold maxLen; simp)).arg (by simp) (al3 [[7]] [8] (by simp))).mono ?_
  rintro e w4 ⟨rfl, g4, st4, sp4⟩
  go_wp2_with fail
  refine (take_st st4 1 2 1 1 (al4 [[7], [8]] 1 (by simp))).mono ?_
  rintro e w5 ⟨v5, rfl, g5, st5, sp5, o5⟩
  go_wp2_with fail
  refine (take_st st5 1 2 1 1 (al5 [[7]] 1 (by simp))).mono ?_
  rintro e w6 ⟨v6, rfl, g6, st6, sp6, o6⟩
  have o5' := sp6.out _ _ o5
  go_wp2_with fail
  refine (take_st st6 1 2 1 0 (al4 [[7]] 0 (by simp))).mono ?_
  rintro e w7 ⟨v7, rfl, g7, st7, sp7, o7⟩
  have o5' := sp7.out _ _ o5'
  clear o5 o6 sp2 sp3 sp4 sp5 sp6 sp7 st st2 st3 st4 st5 st6
  go_wp2_with fail
  refine (same_any _ _ _ [8] [8] (o5'.fr0 ((Fr.refl _ _).alloc _)).1.arg (new_bytes w7 [8] (by unfold maxLen; simp)).arg (by unfold maxLen; simp)).mono ?_
  rintro e w8 ⟨rfl, f8⟩
  have o7 := o7.fr0 (((Fr.refl No _).alloc _).trans0 f8)
  go_wp2_with fail
  refine (same_any _ _ _ [7] [7] (o7.fr0 ((Fr.refl _ _).alloc _)).1.arg (new_bytes w8 [7] (by unfold maxLen; simp)).arg (by unfold maxLen; simp)).mono ?_
  rintro e w9 ⟨rfl, f9⟩
  have st9 := (st7.fr0 (((Fr.refl No _).alloc _).trans0 f8)).fr0 (((Fr.refl No _).alloc _).trans0 f9)
  clear o5' o7
  go_wp2_with fail
  refine (has_st st9 1 2).mono ?_
  rintro e w10 ⟨rfl, f10⟩
  have hh : hasB (mB ([[7]].eraseIdx 0)).op 1 2 = true := by decide
  rw [hh]
  have f := st9.fr.trans0 f10
  clear st7 st9
  go_wp2
  go_ret
  exact ⟨rfl, f⟩
end Go.Proofs.Ytohcjfnekgnlcaa
