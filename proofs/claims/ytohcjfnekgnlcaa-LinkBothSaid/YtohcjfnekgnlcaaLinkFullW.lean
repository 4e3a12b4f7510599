/- LinkFull: the walk. -/
import Derived.Test.YtohcjfnekgnlcaaLinkV
namespace Go.Proofs.Ytohcjfnekgnlcaa
open Go Go.RowKit Go.Maps Go.MapKept

theorem cnt_single {ln : List ((Int × Int × Int) × LG)} (hnd : (ln.map (·.1)).Nodup) (key : Int × Int × Int) (h : ∀ k, k ≠ key → laneOf ln k = []) (kd : Int) : cnt ln kd = if key.2.2 = kd then (laneOf ln key).length else 0 := by
  induction ln with
  | nil => simp [cnt, laneOf]
  | cons x l ih =>
    simp only [List.map_cons, List.nodup_cons] at hnd
    have e1 : cnt (x :: l) kd = (if x.1.2.2 = kd then x.2.ms.length else 0) + cnt l kd := by simp [cnt]
    have hx0 : laneOf l x.1 = [] := laneOf_miss fun y hy e => hnd.1 (e ▸ List.mem_map.2 ⟨y, hy, rfl⟩)
    have hl : ∀ k, k ≠ key → laneOf l k = [] := fun k hk => by
      by_cases e : x.1 = k
      · subst e; exact hx0
      · have := h k hk; rwa [laneOf_cons, if_neg e] at this
    rw [e1, ih hnd.2 hl, laneOf_cons]
    by_cases e : x.1 = key
    · subst e
      rw [if_pos rfl, hx0]
      split <;> simp
    · rw [if_neg e]
      have hm := h x.1 e
      rw [laneOf_cons, if_pos rfl] at hm
      have : x.2.ms.length = 0 := by simpa using congrArg List.length hm
      rw [this]
      split <;> simp

theorem St.cnt1 {w0 w : World} {p : Nat} {g : LkG} {m : LM} {N : Nat} (h : St w0 w p g m N) (key : Int × Int × Int) (hm : ∀ k, k ≠ key → m.lane k = []) (kd : Int) : cnt g.ln kd = if key.2.2 = kd then (m.lane key).length else 0 := by
  have e : g.lane = m.lane := congrArg LM.lane h.lm
  have := cnt_single h.at_.nodup key (fun k hk => by have := hm k hk; rw [← e] at this; exact this) kd
  rw [this, ← e]
  rfl

def mF (k : Int) (L : List (List Int)) : LM := ⟨[(0, 63)], fun k' => if k' = (0, 63, k) then L else []⟩
theorem fOk {k : Int} (hk : k = 0 ∨ k = 1) : okWay [(0, 63)] (0, 63, k) := by refine ⟨by unfold vld; simp, hk, by simp [lo, hi]⟩
theorem fOk' {k : Int} (hk : k = 0 ∨ k = 1) : okWay [(0, 63)] (63, 0, k) := by refine ⟨by unfold vld; simp, hk, by simp [lo, hi]⟩
theorem pF1 {k : Int} (hk : k = 0 ∨ k = 1) : pushM emptyM (0, 63, k) [] = (emptyM, 9) := by
  unfold pushM
  rw [if_neg (fun h => by simpa [emptyM] using h.2.2)]
  unfold errOp
  rw [if_pos ⟨by unfold vld; simp, hk⟩, if_neg (by simp [emptyM])]
theorem pF2 (k : Int) : openM emptyM 0 63 = (mF k [], 0) := by
  unfold openM
  rw [if_pos (by unfold vld; simp), if_neg (by simp [emptyM])]
  simp [mF, emptyM, lo, hi]
theorem pF3 {k : Int} (hk : k = 0 ∨ k = 1) (L : List (List Int)) (bs : List Int) (h : L.length < 64) : pushM (mF k L) (0, 63, k) bs = (mF k (L ++ [bs]), 0) := by
  unfold pushM
  rw [if_pos (show okWay (mF k L).op (0, 63, k) from fOk hk), if_pos (by simpa [mF] using h)]
  congr 1
  unfold mF
  congr 1
  funext k'
  by_cases e : k' = (0, 63, k) <;> simp [e]
theorem pF4 {k : Int} (hk : k = 0 ∨ k = 1) (L : List (List Int)) (bs : List Int) (h : ¬ L.length < 64) : pushM (mF k L) (0, 63, k) bs = (mF k L, 18) := by
  unfold pushM
  rw [if_pos (show okWay (mF k L).op (0, 63, k) from fOk hk), if_neg (by simpa [mF] using h)]
theorem pF5 {k : Int} (hk : k = 0 ∨ k = 1) (L : List (List Int)) (p : Nat) (h : p < L.length) : takeM (mF k L) (0, 63, k) p = (mF k (L.eraseIdx p), L.getD p [], 0) := by
  unfold takeM
  rw [if_pos (show okWay (mF k L).op (0, 63, k) from fOk hk), if_pos (by simp [mF]; omega)]
  have e1 : (⟨(mF k L).op, fun k' => if k' = (0, 63, k) then ((mF k L).lane (0, 63, k)).eraseIdx (p : Int).toNat else (mF k L).lane k'⟩ : LM) = mF k (L.eraseIdx p) := by
    unfold mF
    congr 1
    funext k'
    by_cases e : k' = (0, 63, k) <;> simp [e]
  rw [e1]
  simp [mF]
theorem pF6 {k : Int} (hk : k = 0 ∨ k = 1) (L : List (List Int)) : ∃ m', pushM (mF k L) (63, 0, k) [] = (m', 0) := by
  unfold pushM
  rw [if_pos (show okWay (mF k L).op (63, 0, k) from fOk' hk), if_pos (by simp [mF])]
  exact ⟨_, rfl⟩

def fL (i : Nat) : List (List Int) := (List.range (min i 64)).map fun (j : Nat) => [(j : Int)]
theorem fL_len (i : Nat) : (fL i).length = min i 64 := by simp [fL]
theorem fL_succ {i : Nat} (h : i < 64) : fL (i + 1) = fL i ++ [[(i : Int)]] := by
  unfold fL
  rw [Nat.min_eq_left (by omega), Nat.min_eq_left (by omega), List.range_succ, List.map_append]
  rfl
theorem fL_full {i : Nat} (h : 64 ≤ i) : fL (i + 1) = fL i := by unfold fL; rw [Nat.min_eq_right (by omega), Nat.min_eq_right h]
theorem nilBytes (w : World) : SliceIs w (.slice none 0 0) ([] : List Int).length (([] : List Int).map byteV) := .inl ⟨rfl, rfl, rfl⟩
theorem mF_other {k : Int} {L : List (List Int)} : ∀ k', k' ≠ (0, 63, k) → (mF k L).lane k' = [] := fun k' h => by simp [mF, h]

theorem pFs {k : Int} (hk : k = 0 ∨ k = 1) (i : Nat) (h : i < 64) : pushM (mF k (fL i)) (0, 63, k) [(i : Int)] = (mF k (fL (i + 1)), 0) := by
  rw [fL_succ h]; exact pF3 hk _ _ (by rw [fL_len]; omega)
theorem pFt {k : Int} (hk : k = 0 ∨ k = 1) (i : Nat) (h : 64 ≤ i) : pushM (mF k (fL i)) (0, 63, k) [(i : Int)] = (mF k (fL (i + 1)), 18) := by
  rw [fL_full h]; exact pF4 hk _ _ (by rw [fL_len]; omega)
theorem St.cntF {w0 w : World} {p : Nat} {g : LkG} {k : Int} {i N : Nat} (h : St w0 w p g (mF k (fL i)) N) : cnt g.ln k = ((min i 64 : Nat) : Int) := by
  rw [h.cnt1 (0, 63, k) mF_other k]
  simp [mF, fL_len]
theorem St.cntG {w0 w : World} {p : Nat} {g : LkG} {k : Int} {L : List (List Int)} {N : Nat} (h : St w0 w p g (mF k L) N) (kd : Int) (e : k ≠ kd) : cnt g.ln kd = 0 := by
  rw [h.cnt1 (0, 63, k) mF_other kd]
  simp [e]
theorem fL_take5 {n : Nat} (h : 64 ≤ n) : (fL n).getD 5 [] = [5] := by
  unfold fL; rw [Nat.min_eq_right h]; rfl

set_option maxHeartbeats 4000000 in
theorem full_any (n : Nat) (hn : n ≤ 255) (b : Bool) (w : World) : Calls Try.prog 3 #[.int .u8 n, .bool b] w fun e w' => e = .returned (.bool true) ∧ Fr No w w' := by
  cases b
  case false =>
    go_enter Try.func3, Try.ntmps3
    go_wp2_with fail
    refine (alive_any w).mono ?_
    rintro e w1 ⟨rfl, f1⟩
    go_wp2_with fail
    refine (new_st w _ f1).mono ?_
    rintro e w2 ⟨p, g, rfl, st, -⟩
    go_wp2_with fail
    refine (push_st st (by omega) 0 63 0 _ [] (nilBytes _).arg (by simp) (pF1 (.inl rfl))).mono ?_
    rintro e w3 ⟨rfl, g3, st3, -⟩
    go_wp2_with fail
    refine (open_st st3 (by omega) 0 63 (pF2 0)).mono ?_
    rintro e w4 ⟨rfl, g4, st4, -⟩
    clear st st3 f1
    go_wp2_with fail
    go_loopw [26] (fun i wr => ∃ (m : Nat) (g : LkG), m ≤ n ∧ i = .int .i64 m ∧ St w wr p g (mF 0 (fL m)) (m + 2)) (fun i _ => n - (intOf i).toNat)
    case atStart => exact ⟨0, g4, Nat.zero_le _, rfl, st4⟩
    case round =>
      obtain ⟨m, g5, hm, rfl, st5⟩ := hrel
      clear st4
      by_cases hlt : m < n
      · have i1 : (m : Int) < (n : Int) := by omega
        have i2 : IntKind.u8.wrap (m : Int) = (m : Int) := IntWalk.u8_in _ (by omega)
        have i3 : IntKind.i64.wrap ((m : Int) + 1) = (m : Int) + 1 := IntWalk.i64_in _ (by omega)
        by_cases h64 : m < 64
        · have i4 : decide ((64 : Int) ≤ (m : Int)) = false := decide_eq_false (by omega)
          have i5 : decide ((64 : Int) < (m : Int) + 1) = false := decide_eq_false (by omega)
          have i6 : (m : Int) + 1 ≤ 64 := by omega
          go_wp2_with fail
          refine (push_st (st5.fr0 ((Fr.refl _ _).alloc _)) (by omega) 0 63 0 _ [(m : Int)] (new_bytes wr [(m : Int)] (by unfold maxLen; simp)).arg (by simp) (pFs (.inl rfl) m h64)).mono ?_
          rintro e w6 ⟨rfl, g6, st6, -⟩
          go_wp2_with fail
          refine (len_st st6 (by omega) 0).mono ?_
          rintro e w7 ⟨rfl, f7⟩
          rw [st6.cntF, Nat.min_eq_left (by omega)]
          have st7 := st6.fr0 f7
          clear st6 st5
          go_wp2
          go_roundw
          case rel => exact ⟨m + 1, g6, by omega, by go_num, st7.mono (by omega)⟩
          case measure => simp [intOf]; omega
        · have i4 : decide ((64 : Int) ≤ (m : Int)) = true := decide_eq_true (by omega)
          have i6 : (64 : Int) ≤ (m : Int) + 1 := by omega
          go_wp2_with fail
          refine (push_st (st5.fr0 ((Fr.refl _ _).alloc _)) (by omega) 0 63 0 _ [(m : Int)] (new_bytes wr [(m : Int)] (by unfold maxLen; simp)).arg (by simp) (pFt (.inl rfl) m (by omega))).mono ?_
          rintro e w6 ⟨rfl, g6, st6, -⟩
          go_wp2_with fail
          refine (len_st st6 (by omega) 0).mono ?_
          rintro e w7 ⟨rfl, f7⟩
          rw [st6.cntF, Nat.min_eq_right (by omega)]
          have st7 := st6.fr0 f7
          clear st6 st5
          go_wp2
          go_roundw
          case rel => exact ⟨m + 1, g6, by omega, by go_num, st7.mono (by omega)⟩
          case measure => simp [intOf]; omega
      · have e : m = n := by omega
        subst e
        by_cases h64 : m < 64
        · have i4 : decide ((m : Int) < 64) = true := decide_eq_true (by omega)
          go_wp2_with fail
          refine (len_st st5 (by omega) 1).mono ?_
          rintro e w7 ⟨rfl, f7⟩
          rw [st5.cntG 1 (by decide)]
          have st7 := st5.fr0 f7
          clear st5
          go_wp2
          go_ret
          exact ⟨rfl, st7.fr⟩
        · have i4 : decide ((m : Int) < 64) = false := decide_eq_false (by omega)
          go_wp2_with fail
          refine (take_st st5 0 63 0 5 (pF5 (.inl rfl) (fL m) 5 (by rw [fL_len]; omega))).mono ?_
          rintro e w6 ⟨v, rfl, g6, st6, sp6, o6⟩
          rw [fL_take5 (by omega)] at o6
          clear st5 sp6
          go_wp2_with fail
          refine (same_any _ _ _ [5] [5] (o6.fr0 ((Fr.refl _ _).alloc _)).1.arg (new_bytes w6 [5] (by unfold maxLen; simp)).arg (by unfold maxLen; simp)).mono ?_
          rintro e w7 ⟨rfl, f7⟩
          have st7 := st6.fr0 (((Fr.refl No _).alloc _).trans0 f7)
          clear st6 o6
          go_wp2_with fail
          refine (push_st st7 (by omega) 0 63 0 _ [] (nilBytes _).arg (by simp) (pF3 (.inl rfl) _ [] (by rw [List.length_eraseIdx, fL_len]; split <;> omega))).mono ?_
          rintro e w8 ⟨rfl, g8, st8, -⟩
          obtain ⟨m', hm'⟩ := pF6 (.inl rfl) ((fL m).eraseIdx 5 ++ [[]])
          go_wp2_with fail
          refine (push_st st8 (by omega) 63 0 0 _ [] (nilBytes _).arg (by simp) hm').mono ?_
          rintro e w9 ⟨rfl, g9, st9, -⟩
          clear st8 st7
          go_wp2
          go_ret
          exact ⟨rfl, st9.fr⟩
  case true =>
    go_enter Try.func3, Try.ntmps3
    go_wp2_with fail
    refine (alive_any w).mono ?_
    rintro e w1 ⟨rfl, f1⟩
    go_wp2_with fail
    refine (new_st w _ f1).mono ?_
    rintro e w2 ⟨p, g, rfl, st, -⟩
    go_wp2_with fail
    refine (push_st st (by omega) 0 63 1 _ [] (nilBytes _).arg (by simp) (pF1 (.inr rfl))).mono ?_
    rintro e w3 ⟨rfl, g3, st3, -⟩
    go_wp2_with fail
    refine (open_st st3 (by omega) 0 63 (pF2 1)).mono ?_
    rintro e w4 ⟨rfl, g4, st4, -⟩
    clear st st3 f1
    go_wp2_with fail
    go_loopw [26] (fun i wr => ∃ (m : Nat) (g : LkG), m ≤ n ∧ i = .int .i64 m ∧ St w wr p g (mF 1 (fL m)) (m + 2)) (fun i _ => n - (intOf i).toNat)
    case atStart => exact ⟨0, g4, Nat.zero_le _, rfl, st4⟩
    case round =>
      obtain ⟨m, g5, hm, rfl, st5⟩ := hrel
      clear st4
      by_cases hlt : m < n
      · have i1 : (m : Int) < (n : Int) := by omega
        have i2 : IntKind.u8.wrap (m : Int) = (m : Int) := IntWalk.u8_in _ (by omega)
        have i3 : IntKind.i64.wrap ((m : Int) + 1) = (m : Int) + 1 := IntWalk.i64_in _ (by omega)
        by_cases h64 : m < 64
        · have i4 : decide ((64 : Int) ≤ (m : Int)) = false := decide_eq_false (by omega)
          have i5 : decide ((64 : Int) < (m : Int) + 1) = false := decide_eq_false (by omega)
          have i6 : (m : Int) + 1 ≤ 64 := by omega
          go_wp2_with fail
          refine (push_st (st5.fr0 ((Fr.refl _ _).alloc _)) (by omega) 0 63 1 _ [(m : Int)] (new_bytes wr [(m : Int)] (by unfold maxLen; simp)).arg (by simp) (pFs (.inr rfl) m h64)).mono ?_
          rintro e w6 ⟨rfl, g6, st6, -⟩
          go_wp2_with fail
          refine (len_st st6 (by omega) 1).mono ?_
          rintro e w7 ⟨rfl, f7⟩
          rw [st6.cntF, Nat.min_eq_left (by omega)]
          have st7 := st6.fr0 f7
          clear st6 st5
          go_wp2
          go_roundw
          case rel => exact ⟨m + 1, g6, by omega, by go_num, st7.mono (by omega)⟩
          case measure => simp [intOf]; omega
        · have i4 : decide ((64 : Int) ≤ (m : Int)) = true := decide_eq_true (by omega)
          have i6 : (64 : Int) ≤ (m : Int) + 1 := by omega
          go_wp2_with fail
          refine (push_st (st5.fr0 ((Fr.refl _ _).alloc _)) (by omega) 0 63 1 _ [(m : Int)] (new_bytes wr [(m : Int)] (by unfold maxLen; simp)).arg (by simp) (pFt (.inr rfl) m (by omega))).mono ?_
          rintro e w6 ⟨rfl, g6, st6, -⟩
          go_wp2_with fail
          refine (len_st st6 (by omega) 1).mono ?_
          rintro e w7 ⟨rfl, f7⟩
          rw [st6.cntF, Nat.min_eq_right (by omega)]
          have st7 := st6.fr0 f7
          clear st6 st5
          go_wp2
          go_roundw
          case rel => exact ⟨m + 1, g6, by omega, by go_num, st7.mono (by omega)⟩
          case measure => simp [intOf]; omega
      · have e : m = n := by omega
        subst e
        by_cases h64 : m < 64
        · have i4 : decide ((m : Int) < 64) = true := decide_eq_true (by omega)
          go_wp2_with fail
          refine (len_st st5 (by omega) 0).mono ?_
          rintro e w7 ⟨rfl, f7⟩
          rw [st5.cntG 0 (by decide)]
          have st7 := st5.fr0 f7
          clear st5
          go_wp2
          go_ret
          exact ⟨rfl, st7.fr⟩
        · have i4 : decide ((m : Int) < 64) = false := decide_eq_false (by omega)
          go_wp2_with fail
          refine (take_st st5 0 63 1 5 (pF5 (.inr rfl) (fL m) 5 (by rw [fL_len]; omega))).mono ?_
          rintro e w6 ⟨v, rfl, g6, st6, sp6, o6⟩
          rw [fL_take5 (by omega)] at o6
          clear st5 sp6
          go_wp2_with fail
          refine (same_any _ _ _ [5] [5] (o6.fr0 ((Fr.refl _ _).alloc _)).1.arg (new_bytes w6 [5] (by unfold maxLen; simp)).arg (by unfold maxLen; simp)).mono ?_
          rintro e w7 ⟨rfl, f7⟩
          have st7 := st6.fr0 (((Fr.refl No _).alloc _).trans0 f7)
          clear st6 o6
          go_wp2_with fail
          refine (push_st st7 (by omega) 0 63 1 _ [] (nilBytes _).arg (by simp) (pF3 (.inr rfl) _ [] (by rw [List.length_eraseIdx, fL_len]; split <;> omega))).mono ?_
          rintro e w8 ⟨rfl, g8, st8, -⟩
          obtain ⟨m', hm'⟩ := pF6 (.inr rfl) ((fL m).eraseIdx 5 ++ [[]])
          go_wp2_with fail
          refine (push_st st8 (by omega) 63 0 1 _ [] (nilBytes _).arg (by simp) hm').mono ?_
          rintro e w9 ⟨rfl, g9, st9, -⟩
          clear st8 st7
          go_wp2
          go_ret
          exact ⟨rfl, st9.fr⟩
end Go.Proofs.Ytohcjfnekgnlcaa
