/- CoinCopies: the walk. -/
import Derived.Test.YtoaefhjmpfchiaaCoiBackW
import Derived.Test.YtoaefhjmpfchiaaCoiC
namespace Go.Proofs.Ytoaefhjmpfchiaa
open Go Go.RowKit Go.Maps Go.MapKept

theorem single_nodup (c : CoinD) : ([c].map (·.at_)).Nodup := by simp
set_option maxRecDepth 20000 in
set_option maxHeartbeats 8000000 in
theorem copies_any (w : World) {u : Value} {l : List CoinD} (hl : CoinsIs w u l) {c : CoinD} (hc : c.ok) :
    Calls Try.prog 9 #[u, .agg (coinC c).toArray] w fun e w' => e = .returned (.bool true) ∧ Fr No w w' := by
  obtain ⟨dC, uC, rC⟩ := descCoin
  obtain ⟨ua, uc, rfl⟩ := hl.2.form
  have zc := zeroCoin
  have HL := Lib.hid hl
  have COK := Lib.hid hc
  have CL := Lib.hid (coinC_len hc)
  have RQ0 := Lib.hid (range_new w (coinC c) 38)
  have F0 := Lib.hid ((Fr.refl No w).alloc (.cells (coinC c).toArray 38))
  clear hl hc
  go_enter Try.func9, Try.ntmps9
  go_wp2_with fail
  have HSW := Lib.hid (show w.heap.size < (w.alloc (.cells (coinC c).toArray 38)).heap.size by simp)
  generalize hq0 : w.heap.size = q0 at *
  generalize w.alloc (.cells (coinC c).toArray 38) = w0 at *
  refine (aliveC_any w0).mono ?_
  rintro e w1 ⟨rfl, f1⟩
  have F1 := Lib.hid (F0.out.trans0 f1)
  have G1 := Lib.hid f1
  clear f1
  by_cases hN : l.length ≤ 300
  · have J1 := Lib.hid (show decide (300 < l.length) = false from decide_eq_false (by omega))
    by_cases hnd : (l.map (·.at_)).Nodup
    · have ND := Lib.hid hnd
      go_wp2_with (first | (go_at_call 11; refine (many_any _ ua l.length uc).mono ?_; rintro e w2 ⟨rfl, e2⟩; rw [e2, J1.out]; clear e2) | (go_at_call 12; refine (new_C w w1 F1.out (HL.out.keep F1.out) (by omega) ND.out).mono ?_; rintro e w3 ⟨p, rfl, V, c3, f3, -⟩; have C3 := Lib.hid c3; have G3 := Lib.hid (G1.out.trans0 f3); clear c3 f3) | (go_at_call 26; fail))
      clear hnd
      have SL := Lib.hid (show (putC [] l).length = l.length by rw [putC_len]; simp)
      have SRT := Lib.hid C3.out.srt
      obtain ⟨b1, b2, -⟩ := back_take (S := []) (l := l) List.Pairwise.nil ND.out (fun _ _ => rfl)
      have B1 := Lib.hid b1
      have B2 := Lib.hid b2
      clear b1 b2
      have hlen := len_coins
      have hw : IntKind.i64.wrap ((l.length : Int) + 1) = (l.length : Int) + 1 := by rw [IntWalk.i64_in _ (by omega)]
      have j9 : ¬ (l.length : Int) = (l.length : Int) + 1 := by omega
      have j10 : ((l.length : Int) == (l.length : Int) + 1) = false := by simpa using j9
      cases hh : hasC (putC [] l) c.at_ with
      | true =>
        obtain ⟨e0, e1⟩ := putE_10 (S := putC [] l) (l := [c]) (single_nodup c) (by simp) hh
        have PE := Lib.hid e0
        have PN := Lib.hid (show (putS (putC [] l) [c]).length = l.length by rw [e1, SL.out])
        clear e0 e1 hh
        have M0 := Lib.hid True.intro
        have M1 := Lib.hid True.intro
        have M2 := Lib.hid True.intro
        have M3 := Lib.hid True.intro
        have M4 := Lib.hid True.intro
        have M5 := Lib.hid True.intro
        have M6 := Lib.hid True.intro
        have M7 := Lib.hid True.intro
        have M8 := Lib.hid True.intro
        have M9 := Lib.hid True.intro
        have M10 := Lib.hid True.intro
        have M11 := Lib.hid True.intro
        have M12 := Lib.hid True.intro
        have M13 := Lib.hid True.intro
        have M14 := Lib.hid True.intro
        go_wp2_with (first | (have mk := M0.out; go_at_call 26; refine (copy_C C3.out).mono ?_; rintro e w4 ⟨p4, rfl, V4, c4, f4, hV4⟩; have C4t := Lib.hid c4; have C4s := Lib.hid (C3.out.fr0 f4); have G4 := Lib.hid (G3.out.trans0 f4); have DIS := Lib.hid (show ∀ j, V j → ¬ V4 j from fun j h1 h2 => by have := C3.out.hi j h1; have := hV4 j h2; omega); have SZ4 := Lib.hid f4.size; clear c4 f4 hV4; clear mk M0) | (have mk := M1.out; go_at_call 15; refine (all_C C4s.out (by rw [SL.out]; omega)).mono ?_; rintro e w5 ⟨v5, rfl, o5, f5⟩; rw [SL.out] at o5; have O5 := Lib.hid o5; have C5t := Lib.hid (C4t.out.fr0 f5); have C5s := Lib.hid (C4s.out.fr0 f5); have Z5 := Lib.hid (Nat.le_trans SZ4.out f5.size); have G5 := Lib.hid (G4.out.trans0 f5); obtain ⟨a5, k5, rfl⟩ := o5.slice.arg.form; clear o5 f5; clear mk M1) | (have mk := M2.out; go_at_call 15; refine (all_C C5t.out (by rw [SL.out]; omega)).mono ?_; rintro e w6 ⟨v6, rfl, o6, f6⟩; have O6 := Lib.hid o6; have O56 := Lib.hid (ownsRow_keep O5.out f6 (fun _ _ => id)); have C6t := Lib.hid (C5t.out.fr0 f6); have C6s := Lib.hid (C5s.out.fr0 f6); have Z6 := Lib.hid (Nat.le_trans Z5.out f6.size); have G6 := Lib.hid (G5.out.trans0 f6); clear o6 f6; clear mk M2) | (have mk := M3.out; go_at_call 18; refine (sameCoins_any _ (ownCoins O6.out C3.out.ok) (ownCoins (by rw [SL.out]; exact O56.out) C3.out.ok) (by rw [SL.out]; omega) (by rw [SL.out]; omega)).mono ?_; rintro e w7 ⟨bb, rfl, hbb, f7⟩; obtain rfl : bb = true := hbb.2 rfl; have O57 := Lib.hid (ownsRow_keep O56.out f7 (fun _ _ => id)); have C7t := Lib.hid ((C6t.out.fr0 f7).fr0 ((Fr.refl No w7).alloc (.cells (coinC c).toArray 38))); have C7s := Lib.hid ((C6s.out.fr0 f7).fr0 ((Fr.refl No w7).alloc (.cells (coinC c).toArray 38))); have Z7 := Lib.hid (Nat.le_trans Z6.out f7.size); have RQ7 := Lib.hid (range_keep RQ0.out (G6.out.trans0 f7) id); clear hbb f7; clear mk M3) | (have mk := M4.out; refine wpList_value rfl (exec_load (ty := 38) rfl rfl RQ7.out uC rC (by rw [CL.out]; exact infoCoin)) ?_; clear mk M4) | (have mk := M5.out; refine wpList_value rfl (exec_buildSliceA (t := 22) rfl rfl undCoins infoCoinZ2 rfl (by decide) (by decide) CL.out) ?_; clear mk M5) | (have mk := M6.out; go_at_call 14; refine (put_C C7t.out (coins_new1 w7 COK.out) (by rw [SL.out]; show 1 + l.length ≤ _; omega)).mono ?_; rintro e w8 ⟨rfl, c8, f8⟩; rw [PE.out]; have C8t := Lib.hid c8; have Z8 := Lib.hid (Nat.le_trans Z7.out (Nat.le_trans (show w7.heap.size ≤ (w7.alloc (.cells (coinC c).toArray 38)).heap.size by simp) f8.size)); have C8s := Lib.hid (C7s.out.frV f8 DIS.out C7t.out.lo); have O8 := Lib.hid (ownsRow_keep (ownsRow_keep O57.out ((Fr.refl No w7).alloc (.cells (coinC c).toArray 38)) (fun _ _ => id)) f8 (fun j e h => by have := (O5.out.lt j e).1; have := C4t.out.hi j h; omega)); clear c8 f8; clear mk M6) | (have mk := M7.out; go_at_call 15; refine (all_C C8s.out (by rw [SL.out]; omega)).mono ?_; rintro e w9 ⟨v9, rfl, o9, f9⟩; have O9 := Lib.hid o9; have O89 := Lib.hid (ownsRow_keep O8.out f9 (fun _ _ => id)); have C9t := Lib.hid (C8t.out.fr0 f9); have Z9 := Lib.hid (Nat.le_trans Z8.out f9.size); have C9s := Lib.hid (C8s.out.fr0 f9); clear o9 f9; clear mk M7) | (have mk := M8.out; go_at_call 18; refine (sameCoins_any _ (ownCoins O9.out C3.out.ok) (ownCoins (by rw [SL.out]; exact O89.out) C3.out.ok) (by rw [SL.out]; omega) (by rw [SL.out]; omega)).mono ?_; rintro e w10 ⟨bb, rfl, hbb, f10⟩; obtain rfl : bb = true := hbb.2 rfl; have C10t := Lib.hid (C9t.out.fr0 f10); have Z10 := Lib.hid (Nat.le_trans Z9.out f10.size); have C10s := Lib.hid (C9s.out.fr0 f10); clear hbb f10; clear mk M8) | (have mk := M9.out; go_at_call 15; refine (all_C C10t.out (by rw [PN.out]; omega)).mono ?_; rintro e w11 ⟨v11, rfl, o11, f11⟩; rw [PN.out] at o11; have O11 := Lib.hid o11; have C11t := Lib.hid (C10t.out.fr0 f11); have C11s := Lib.hid (C10s.out.fr0 f11); obtain ⟨a11, k11, rfl⟩ := o11.slice.arg.form; clear o11 f11; clear mk M9) | (have mk := M10.out; go_at_call 25; refine (ats_any _ (HL.out.keep C11s.out.fr) (by omega)).mono ?_; rintro e w12 ⟨v12, rfl, o12, f12⟩; have O1112 := Lib.hid (ownsRow_keep O11.out f12 (fun _ _ => id)); have C12t := Lib.hid (C11t.out.fr0 f12); have C12s := Lib.hid (C11s.out.fr0 f12); have P12 := Lib.hid (ownPoints (S := l.map (·.at_)) (by rw [List.length_map]; exact o12) (fun p hp => by obtain ⟨c, hc, rfl⟩ := List.mem_map.1 hp; exact (HL.out.1 c hc).1)); clear o12 f12; clear mk M10) | (have mk := M11.out; go_at_call 21; refine (take_C C12s.out P12.out (by rw [List.length_map, SL.out]; omega)).mono ?_; rintro e w13 ⟨x13, rfl, -, c13, f13⟩; rw [B1.out]; rw [B2.out] at c13; have C13s := Lib.hid c13; have C13t := Lib.hid (C12t.out.frV f13 (fun j h1 h2 => DIS.out j h2 h1) C3.out.lo); have O13 := Lib.hid (ownsRow_keep O1112.out f13 (fun j e h => by have := (O11.out.lt j e).1; have := C3.out.hi j h; have := Z10.out; omega)); clear c13 f13; clear mk M11) | (have mk := M12.out; go_at_call 17; refine (len_C C13s.out).mono ?_; rintro e w14 ⟨rfl, f14⟩; have C14t := Lib.hid (C13t.out.fr0 f14); have O14 := Lib.hid (ownsRow_keep O13.out f14 (fun _ _ => id)); clear f14; clear mk M12) | (have mk := M13.out; go_at_call 15; refine (all_C C14t.out (by rw [PN.out]; omega)).mono ?_; rintro e w15 ⟨v15, rfl, o15, f15⟩; have O15 := Lib.hid o15; have O1415 := Lib.hid (ownsRow_keep O14.out f15 (fun _ _ => id)); have C15t := Lib.hid (C14t.out.fr0 f15); clear o15 f15; clear mk M13) | (have mk := M14.out; go_at_call 18; refine (sameCoins_any _ (ownCoins O15.out C15t.out.ok) (ownCoins (by rw [PN.out]; exact O1415.out) C15t.out.ok) (by rw [PN.out]; omega) (by rw [PN.out]; omega)).mono ?_; rintro e w16 ⟨bb, rfl, hbb, f16⟩; obtain rfl : bb = true := hbb.2 rfl; clear mk M14))
        go_ret
        exact ⟨by first | rfl | (simp only [j10]; rfl), C15t.out.fr.trans0 f16⟩
      | false =>
        obtain ⟨e0, e1⟩ := putE_0 (S := putC [] l) (l := [c]) (single_nodup c) (by simpa using hh)
        have PE := Lib.hid e0
        have PN := Lib.hid (show (putS (putC [] l) [c]).length = l.length + 1 by rw [e1, putC_len, SL.out]; rfl)
        clear e0 e1 hh
        have M0 := Lib.hid True.intro
        have M1 := Lib.hid True.intro
        have M2 := Lib.hid True.intro
        have M3 := Lib.hid True.intro
        have M4 := Lib.hid True.intro
        have M5 := Lib.hid True.intro
        have M6 := Lib.hid True.intro
        have M7 := Lib.hid True.intro
        have M8 := Lib.hid True.intro
        have M9 := Lib.hid True.intro
        have M10 := Lib.hid True.intro
        have M11 := Lib.hid True.intro
        have M12 := Lib.hid True.intro
        have M13 := Lib.hid True.intro
        have M14 := Lib.hid True.intro
        go_wp2_with (first | (have mk := M0.out; go_at_call 26; refine (copy_C C3.out).mono ?_; rintro e w4 ⟨p4, rfl, V4, c4, f4, hV4⟩; have C4t := Lib.hid c4; have C4s := Lib.hid (C3.out.fr0 f4); have G4 := Lib.hid (G3.out.trans0 f4); have DIS := Lib.hid (show ∀ j, V j → ¬ V4 j from fun j h1 h2 => by have := C3.out.hi j h1; have := hV4 j h2; omega); have SZ4 := Lib.hid f4.size; clear c4 f4 hV4; clear mk M0) | (have mk := M1.out; go_at_call 15; refine (all_C C4s.out (by rw [SL.out]; omega)).mono ?_; rintro e w5 ⟨v5, rfl, o5, f5⟩; rw [SL.out] at o5; have O5 := Lib.hid o5; have C5t := Lib.hid (C4t.out.fr0 f5); have C5s := Lib.hid (C4s.out.fr0 f5); have Z5 := Lib.hid (Nat.le_trans SZ4.out f5.size); have G5 := Lib.hid (G4.out.trans0 f5); obtain ⟨a5, k5, rfl⟩ := o5.slice.arg.form; clear o5 f5; clear mk M1) | (have mk := M2.out; go_at_call 15; refine (all_C C5t.out (by rw [SL.out]; omega)).mono ?_; rintro e w6 ⟨v6, rfl, o6, f6⟩; have O6 := Lib.hid o6; have O56 := Lib.hid (ownsRow_keep O5.out f6 (fun _ _ => id)); have C6t := Lib.hid (C5t.out.fr0 f6); have C6s := Lib.hid (C5s.out.fr0 f6); have Z6 := Lib.hid (Nat.le_trans Z5.out f6.size); have G6 := Lib.hid (G5.out.trans0 f6); clear o6 f6; clear mk M2) | (have mk := M3.out; go_at_call 18; refine (sameCoins_any _ (ownCoins O6.out C3.out.ok) (ownCoins (by rw [SL.out]; exact O56.out) C3.out.ok) (by rw [SL.out]; omega) (by rw [SL.out]; omega)).mono ?_; rintro e w7 ⟨bb, rfl, hbb, f7⟩; obtain rfl : bb = true := hbb.2 rfl; have O57 := Lib.hid (ownsRow_keep O56.out f7 (fun _ _ => id)); have C7t := Lib.hid ((C6t.out.fr0 f7).fr0 ((Fr.refl No w7).alloc (.cells (coinC c).toArray 38))); have C7s := Lib.hid ((C6s.out.fr0 f7).fr0 ((Fr.refl No w7).alloc (.cells (coinC c).toArray 38))); have Z7 := Lib.hid (Nat.le_trans Z6.out f7.size); have RQ7 := Lib.hid (range_keep RQ0.out (G6.out.trans0 f7) id); clear hbb f7; clear mk M3) | (have mk := M4.out; refine wpList_value rfl (exec_load (ty := 38) rfl rfl RQ7.out uC rC (by rw [CL.out]; exact infoCoin)) ?_; clear mk M4) | (have mk := M5.out; refine wpList_value rfl (exec_buildSliceA (t := 22) rfl rfl undCoins infoCoinZ2 rfl (by decide) (by decide) CL.out) ?_; clear mk M5) | (have mk := M6.out; go_at_call 14; refine (put_C C7t.out (coins_new1 w7 COK.out) (by rw [SL.out]; show 1 + l.length ≤ _; omega)).mono ?_; rintro e w8 ⟨rfl, c8, f8⟩; rw [PE.out]; have C8t := Lib.hid c8; have Z8 := Lib.hid (Nat.le_trans Z7.out (Nat.le_trans (show w7.heap.size ≤ (w7.alloc (.cells (coinC c).toArray 38)).heap.size by simp) f8.size)); have C8s := Lib.hid (C7s.out.frV f8 DIS.out C7t.out.lo); have O8 := Lib.hid (ownsRow_keep (ownsRow_keep O57.out ((Fr.refl No w7).alloc (.cells (coinC c).toArray 38)) (fun _ _ => id)) f8 (fun j e h => by have := (O5.out.lt j e).1; have := C4t.out.hi j h; omega)); clear c8 f8; clear mk M6) | (have mk := M7.out; go_at_call 15; refine (all_C C8s.out (by rw [SL.out]; omega)).mono ?_; rintro e w9 ⟨v9, rfl, o9, f9⟩; have O9 := Lib.hid o9; have O89 := Lib.hid (ownsRow_keep O8.out f9 (fun _ _ => id)); have C9t := Lib.hid (C8t.out.fr0 f9); have Z9 := Lib.hid (Nat.le_trans Z8.out f9.size); have C9s := Lib.hid (C8s.out.fr0 f9); clear o9 f9; clear mk M7) | (have mk := M8.out; go_at_call 18; refine (sameCoins_any _ (ownCoins O9.out C3.out.ok) (ownCoins (by rw [SL.out]; exact O89.out) C3.out.ok) (by rw [SL.out]; omega) (by rw [SL.out]; omega)).mono ?_; rintro e w10 ⟨bb, rfl, hbb, f10⟩; obtain rfl : bb = true := hbb.2 rfl; have C10t := Lib.hid (C9t.out.fr0 f10); have Z10 := Lib.hid (Nat.le_trans Z9.out f10.size); have C10s := Lib.hid (C9s.out.fr0 f10); clear hbb f10; clear mk M8) | (have mk := M9.out; go_at_call 15; refine (all_C C10t.out (by rw [PN.out]; omega)).mono ?_; rintro e w11 ⟨v11, rfl, o11, f11⟩; rw [PN.out] at o11; have O11 := Lib.hid o11; have C11t := Lib.hid (C10t.out.fr0 f11); have C11s := Lib.hid (C10s.out.fr0 f11); obtain ⟨a11, k11, rfl⟩ := o11.slice.arg.form; clear o11 f11; clear mk M9) | (have mk := M10.out; go_at_call 25; refine (ats_any _ (HL.out.keep C11s.out.fr) (by omega)).mono ?_; rintro e w12 ⟨v12, rfl, o12, f12⟩; have O1112 := Lib.hid (ownsRow_keep O11.out f12 (fun _ _ => id)); have C12t := Lib.hid (C11t.out.fr0 f12); have C12s := Lib.hid (C11s.out.fr0 f12); have P12 := Lib.hid (ownPoints (S := l.map (·.at_)) (by rw [List.length_map]; exact o12) (fun p hp => by obtain ⟨c, hc, rfl⟩ := List.mem_map.1 hp; exact (HL.out.1 c hc).1)); clear o12 f12; clear mk M10) | (have mk := M11.out; go_at_call 21; refine (take_C C12s.out P12.out (by rw [List.length_map, SL.out]; omega)).mono ?_; rintro e w13 ⟨x13, rfl, -, c13, f13⟩; rw [B1.out]; rw [B2.out] at c13; have C13s := Lib.hid c13; have C13t := Lib.hid (C12t.out.frV f13 (fun j h1 h2 => DIS.out j h2 h1) C3.out.lo); have O13 := Lib.hid (ownsRow_keep O1112.out f13 (fun j e h => by have := (O11.out.lt j e).1; have := C3.out.hi j h; have := Z10.out; omega)); clear c13 f13; clear mk M11) | (have mk := M12.out; go_at_call 17; refine (len_C C13s.out).mono ?_; rintro e w14 ⟨rfl, f14⟩; have C14t := Lib.hid (C13t.out.fr0 f14); have O14 := Lib.hid (ownsRow_keep O13.out f14 (fun _ _ => id)); clear f14; clear mk M12) | (have mk := M13.out; go_at_call 15; refine (all_C C14t.out (by rw [PN.out]; omega)).mono ?_; rintro e w15 ⟨v15, rfl, o15, f15⟩; have O15 := Lib.hid o15; have O1415 := Lib.hid (ownsRow_keep O14.out f15 (fun _ _ => id)); have C15t := Lib.hid (C14t.out.fr0 f15); clear o15 f15; clear mk M13) | (have mk := M14.out; go_at_call 18; refine (sameCoins_any _ (ownCoins O15.out C15t.out.ok) (ownCoins (by rw [PN.out]; exact O1415.out) C15t.out.ok) (by rw [PN.out]; omega) (by rw [PN.out]; omega)).mono ?_; rintro e w16 ⟨bb, rfl, hbb, f16⟩; obtain rfl : bb = true := hbb.2 rfl; clear mk M14))
        go_ret
        exact ⟨by first | rfl | (simp only [j10]; rfl), C15t.out.fr.trans0 f16⟩
    · go_wp2_with (first | (go_at_call 11; refine (many_any _ ua l.length uc).mono ?_; rintro e w2 ⟨rfl, e2⟩; rw [e2, J1.out]; clear e2) | (go_at_call 12; refine (new_twice w1 (HL.out.keep F1.out) (by omega) hnd).mono ?_; rintro e w3 ⟨rfl, f3⟩; have F3 := Lib.hid (F1.out.trans0 f3); clear f3))
      go_ret
      exact ⟨by rfl, F3.out⟩
  · have j1 : decide (300 < l.length) = true := decide_eq_true (by omega)
    go_wp2_with (go_at_call 11; refine (many_any _ ua l.length uc).mono ?_; rintro e w2 ⟨rfl, e2⟩; rw [e2, j1]; clear e2)
    go_ret
    exact ⟨by rfl, F1.out⟩
end Go.Proofs.Ytoaefhjmpfchiaa
