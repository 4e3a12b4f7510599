/- CoinBack: the walk. -/
import Derived.Test.YtoaefhjmpfchiaaCoiFindsW
import Derived.Test.YtoaefhjmpfchiaaCoiT
import Derived.Test.YtoaefhjmpfchiaaCoiD
namespace Go.Proofs.Ytoaefhjmpfchiaa
open Go Go.RowKit Go.Maps Go.MapKept

theorem ownCoins {w : World} {B : Nat} {v : Value} {S : List CoinD} (h : w.ownsRow B 38 66 v S.length (S.flatMap coinC)) (ok : ∀ c ∈ S, c.ok) : CoinsIs w v S := ⟨ok, h.slice.arg⟩
theorem ownPoints {w : World} {B : Nat} {v : Value} {S : List PointD} (h : w.ownsRow B 27 33 v S.length (S.flatMap pointC)) (ok : ∀ c ∈ S, c.ok) : PointsIs w v S := ⟨ok, h.slice.arg⟩
theorem putE_split {S l : List CoinD} (h : putE S l = 0) : (l.map (·.at_)).Nodup ∧ (∀ c ∈ l, hasC S c.at_ = false) ∧ putS S l = putC S l := by
  have h0 := h
  unfold putE at h
  split at h
  · rename_i h1
    split at h
    · cases h
    · rename_i h2
      refine ⟨h1, fun c hc => ?_, by unfold putS; rw [if_pos h0]⟩
      rw [Bool.not_eq_true, List.any_eq_false] at h2
      simpa using h2 c hc
  · cases h
theorem putC_len (S l : List CoinD) : (putC S l).length = S.length + l.length := by rw [(putC_perm l S).length_eq, List.length_append]
/-- What was put in, and is taken. -/
theorem back_take {S l : List CoinD} (hs : SrtC S) (h1 : (l.map (·.at_)).Nodup) (h2 : ∀ c ∈ l, hasC S c.at_ = false) :
    takeE (putC S l) (l.map (·.at_)) = 0 ∧ takeS (putC S l) (l.map (·.at_)) = S ∧ takeO (putC S l) (l.map (·.at_)) = l.map (·.out) := by
  have hsp := putC_srt hs h1 h2
  have e0 : takeE (putC S l) (l.map (·.at_)) = 0 := by
    unfold takeE
    rw [if_pos h1, if_pos]
    rw [List.all_eq_true]
    intro p hp
    obtain ⟨c, hc, rfl⟩ := List.mem_map.1 hp
    exact hasC_iff.2 ⟨c, mem_putC.2 (.inr hc), rfl⟩
  refine ⟨e0, ?_, ?_⟩
  · unfold takeS
    rw [if_pos e0]
    refine SrtC.same (takeC_srt hsp) hs (fun x => ?_)
    rw [mem_takeC, mem_putC]
    constructor
    · rintro ⟨h | h, hn⟩
      · exact h
      · exact absurd (List.mem_map.2 ⟨x, h, rfl⟩) hn
    · intro h
      refine ⟨.inl h, fun hm => ?_⟩
      obtain ⟨c, hc, e⟩ := List.mem_map.1 hm
      exact hasC_not.1 (h2 c hc) x h e.symm
  · unfold takeO
    rw [if_pos e0, List.map_map]
    apply List.map_congr_left
    intro c hc
    show outOf (putC S l) c.at_ = c.out
    unfold outOf
    rw [findC_some hsp (mem_putC.2 (.inr hc))]; rfl
theorem len_coins (a : Option Addr) (n c : Nat) (w : World) : (Builtin.len_ #[22] 3 #[.slice a n c]).run Try.prog w = .ok (.int .i64 n) w := by
  simp [Builtin.len_, run_underlying undCoins]
  rfl
theorem len_outs (a : Option Addr) (n c : Nat) (w : World) : (Builtin.len_ #[56] 3 #[.slice a n c]).run Try.prog w = .ok (.int .i64 n) w := by
  simp [Builtin.len_, run_underlying undOuts]
  rfl
set_option maxRecDepth 20000 in
set_option maxHeartbeats 4000000 in
theorem back_any (w : World) {u v : Value} {l more : List CoinD} (hl : CoinsIs w u l) (hm : CoinsIs w v more) :
    Calls Try.prog 6 #[u, v] w fun e w' => e = .returned (.bool true) ∧ Fr No w w' := by
  obtain ⟨dC, uC, rC⟩ := descCoin
  obtain ⟨dO, uO, rO⟩ := descOut
  obtain ⟨ua, uc, rfl⟩ := hl.2.form
  obtain ⟨va, vc, rfl⟩ := hm.2.form
  have zc := zeroCoin
  have HL := Lib.hid hl
  have HM := Lib.hid hm
  clear hl hm
  go_enter Try.func6, Try.ntmps6
  go_wp2_with fail
  refine (aliveC_any w).mono ?_
  rintro e w1 ⟨rfl, f1⟩
  have F1 := Lib.hid f1
  clear f1
  by_cases hN : l.length ≤ 300
  · have j1 : decide (300 < l.length) = false := decide_eq_false (by omega)
    by_cases hN2 : more.length ≤ 300
    · have j2 : decide (300 < more.length) = false := decide_eq_false (by omega)
      have J1 := Lib.hid j1
      have J2 := Lib.hid j2
      have M0 := Lib.hid True.intro
      clear j1 j2
      by_cases hnd : (l.map (·.at_)).Nodup
      · have hlen := len_coins
        go_wp2_with (first | (have mk := M0.out; go_at_call 11; refine (many_any _ ua l.length uc).mono ?_; rintro e w2 ⟨rfl, e2⟩; rw [e2, J1.out]; clear e2 mk M0) | (go_at_call 11; refine (many_any _ va more.length vc).mono ?_; rintro e w2 ⟨rfl, e2⟩; rw [e2, J2.out]; clear e2) | (go_at_call 12; refine (new_C w w1 F1.out (HL.out.keep F1.out) (by omega) hnd).mono ?_; rintro e w3 ⟨p, rfl, V, c3, f3, -⟩; have C3 := Lib.hid c3; clear c3 f3))
        have SL := Lib.hid (show (putC [] l).length = l.length by rw [putC_len]; simp)
        have SRT := Lib.hid C3.out.srt
        cases hE : decide (putE (putC [] l) more = 0) with
        | false =>
          have hE' := of_decide_eq_false hE
          have j3 : ¬ putE (putC [] l) more = 0 := hE'
          have ES := Lib.hid (show putS (putC [] l) more = putC [] l by unfold putS; rw [if_neg hE'])
          clear hE hE'
          go_wp2_with (first | (go_at_call 14; refine (put_C C3.out (HM.out.keep C3.out.fr) (by rw [SL.out]; omega)).mono ?_; rintro e w4 ⟨rfl, c4, f4⟩; rw [ES.out] at c4) | (go_at_call 17; refine (len_C c4).mono ?_; rintro e w5 ⟨rfl, f5⟩; rw [SL.out]))
          go_ret
          exact ⟨by simp, (c4.fr0 f5).fr⟩
        | true =>
          obtain ⟨m1, m2, m3⟩ := putE_split (of_decide_eq_true hE)
          have j3 : putE (putC [] l) more = 0 := of_decide_eq_true hE
          obtain ⟨b1, b2, b3⟩ := back_take SRT.out m1 m2
          have SL2 := Lib.hid (show (putC (putC [] l) more).length = l.length + more.length by rw [putC_len, SL.out])
          have MS := Lib.hid m3
          have B1 := Lib.hid b1
          have B2 := Lib.hid b2
          have B3 := Lib.hid b3
          have J3 := Lib.hid j3
          have hw : IntKind.i64.wrap ((l.length : Int) + (more.length : Int)) = ((l.length + more.length : Nat) : Int) := by rw [IntWalk.i64_in _ (by omega)]; omega
          have hlo := len_outs
          clear hE m1 m2 m3 b1 b2 b3 j3
          go_wp2_with (first | (go_at_call 14; refine (put_C C3.out (HM.out.keep C3.out.fr) (by rw [SL.out]; omega)).mono ?_; rintro e w4 ⟨rfl, c4, f4⟩; rw [MS.out] at c4; rw [J3.out]; have C4 := Lib.hid c4; clear c4 f4) | (go_at_call 17; refine (len_C C4.out).mono ?_; rintro e w5 ⟨rfl, f5⟩; rw [SL2.out]; have C5 := Lib.hid (C4.out.fr0 f5); clear f5) | (go_at_call 25; refine (ats_any _ (HM.out.keep C5.out.fr) (by omega)).mono ?_; rintro e w6 ⟨v6, rfl, o6, f6⟩; have C6 := Lib.hid (C5.out.fr0 f6); have P6 := Lib.hid (ownPoints (S := more.map (·.at_)) (by rw [List.length_map]; exact o6) (fun p hp => by obtain ⟨c, hc, rfl⟩ := List.mem_map.1 hp; exact (HM.out.1 c hc).1)); clear o6 f6) | (go_at_call 21; refine (take_C C6.out P6.out (by rw [List.length_map, SL2.out]; omega)).mono ?_; rintro e w7 ⟨x7, rfl, o7, c7, f7⟩; rw [B1.out]; rw [B2.out] at c7; rw [B3.out, List.length_map] at o7; have C7 := Lib.hid c7; have O7 := Lib.hid o7; obtain ⟨xa, xc, rfl⟩ := o7.slice.arg.form; clear c7 o7 f7))
          clear C4 C5 C6 P6
          go_loopw [69] (fun iv wr => ∃ n : Nat, iv = .int .i64 n ∧ n ≤ more.length ∧ Fr No w7 wr) (fun iv _ => more.length - (intOf iv).toNat)
          case atStart => exact ⟨0, rfl, Nat.zero_le _, Fr.refl _ _⟩
          case round =>
            obtain ⟨n, rfl, hn, fr⟩ := hrel
            have FR := Lib.hid fr
            clear fr
            by_cases h : n < more.length
            · have i1 : (n : Int) < (more.length : Int) := by omega
              obtain ⟨c, hx⟩ : ∃ x, more[n]? = some x := ⟨_, List.getElem?_eq_getElem h⟩
              obtain ⟨b, off, cap, hv, hr, -⟩ := (HM.out.keep (C7.out.fr.trans0 FR.out)).at_ hx
              cases hv
              have hxo : (more.map (·.out))[n]? = some c.out := by rw [List.getElem?_map, hx]; rfl
              obtain ⟨gx, cx, hvx, hrx, -⟩ := own_elem (by decide) (fun o ho => by obtain ⟨z, hz, rfl⟩ := List.mem_map.1 ho; exact outC_len (HM.out.1 z hz).2) (ownsRow_keep O7.out FR.out (fun _ _ => id)) hxo
              cases hvx
              have COK := Lib.hid (HM.out.1 c (List.mem_of_getElem? hx))
              have CL := Lib.hid (coinC_len COK.out)
              have OL := Lib.hid (outC_len COK.out.2)
              have R1 := Lib.hid hr
              have nb := range_new wr (coinC c) 38
              have RO := Lib.hid (show (wr.alloc (.cells (coinC c).toArray 38)).rangeAt wr.heap.size 33 (outC c.out) by have := coin_out COK.out nb; rwa [Nat.zero_add] at this)
              have RX := Lib.hid (range_keep hrx ((Fr.refl No wr).alloc (.cells (coinC c).toArray 38)) id)
              have FA := Lib.hid (FR.out.alloc (.cells (coinC c).toArray 38))
              clear hr hrx hx hxo nb
              go_wp2_with (first | (refine wpList_value rfl (exec_load (ty := 38) rfl rfl R1.out uC rC (by rw [CL.out]; exact infoCoin)) ?_) | (refine wpList_done rfl (exec_store_new (w := wr) (cs := coinC c) (ty := 38) rfl rfl rfl (by rw [CL.out]; rfl) (by rw [CL.out]; exact infoCoin) coinC_one) ?_))
              refine wp_region_lexL [false, false, false, false, false, false, false] (fun W => W.rangeAt gx (n * 33) (outC c.out) ∧ W.rangeAt wr.heap.size 33 (outC c.out)) (by kernel_rfl) (by kernel_rfl) ?_ (fun K hK => ?_)
              · exact ⟨range_keep RX.out (Fr.refl No _).drew id, range_keep RO.out (Fr.refl No _).drew id⟩
              repeat (first | ((first | with_reducible refine lexL_read ?_ | ((with_reducible refine lexL_readG ?_ ?_); (focus rfl))); apply Exists.intro; refine ⟨?_, ?_⟩; (focus (first | exact lex_load (ty := 36) rfl (fun w h => h.1) uO rO (by rw [OL.out]; exact infoOut) | exact lex_load (ty := 36) rfl (fun w h => h.2) uO rO (by rw [OL.out]; exact infoOut) | exact fun w' h => eqOut.exec_neq (u := (outC c.out).toArray) (v := (outC c.out).toArray) rfl rfl rfl (keyOfOut COK.out.2) (keyOfOut COK.out.2) true ⟨fun _ => rfl, fun _ => rfl⟩ w' | (intro w' hS; obtain _ := hS; go_simp; (try with_reducible rfl); done))); try simp only [Act.put, List.setIfInBounds_toArray, List.set_cons_zero, List.set_cons_succ]) | ((first | ((with_reducible refine lexL_skip (c := false) ?_ ?_ ?_); (focus rfl); (focus rfl)) | ((with_reducible refine lexL_skip (c := true) ?_ ?_ ?_); (focus rfl); (focus rfl)) | ((with_reducible refine lexL_skipU ?_ ?_); (focus rfl))); try simp only [Act.put, List.setIfInBounds_toArray, List.set_cons_zero, List.set_cons_succ]))
              refine lexL_nil (hK.out _ _ ?_)
              have FD := Lib.hid (FA.out.drew)
              go_wp2
              go_roundw
              case rel => exact ⟨n + 1, by simp, by omega, FD.out⟩
              case measure => show more.length - (n + 1) < more.length - n; omega
            · have i1 : ¬ (n : Int) < (more.length : Int) := by omega
              have C8 := Lib.hid (C7.out.fr0 FR.out)
              clear C7 O7
              go_wp2_with (first | (go_at_call 12; refine (new_C w wr C8.out.fr (HL.out.keep C8.out.fr) (by omega) hnd).mono ?_; rintro e w9 ⟨p9, rfl, V9, c9, f9, -⟩; have C9 := Lib.hid c9; have C9s := Lib.hid (C8.out.fr0 f9); clear c9 f9) | (go_at_call 15; first | (refine (all_C C10t.out (by rw [SL.out]; omega)).mono ?_; rintro e w11 ⟨v11, rfl, o11, f11⟩; have U11 := Lib.hid (U10.out.keep f11); have V11 := Lib.hid (ownCoins o11 C9.out.ok); have C11 := Lib.hid (C10t.out.fr0 f11); clear o11 f11) | (refine (all_C C9s.out (by rw [SL.out]; omega)).mono ?_; rintro e w10 ⟨v10, rfl, o10, f10⟩; have U10 := Lib.hid (ownCoins o10 C9.out.ok); have C10t := Lib.hid (C9.out.fr0 f10); clear o10 f10)) | (go_at_call 18; refine (sameCoins_any _ U11.out V11.out (by rw [SL.out]; omega) (by rw [SL.out]; omega)).mono ?_; rintro e w12 ⟨bb, rfl, hbb, f12⟩; obtain rfl : bb = true := hbb.2 rfl))
              go_ret
              exact ⟨by rfl, C11.out.fr.trans0 f12⟩
      · go_wp2_with (first | (have mk := M0.out; go_at_call 11; refine (many_any _ ua l.length uc).mono ?_; rintro e w2 ⟨rfl, e2⟩; rw [e2, J1.out]; clear e2 mk M0) | (go_at_call 11; refine (many_any _ va more.length vc).mono ?_; rintro e w2 ⟨rfl, e2⟩; rw [e2, J2.out]; clear e2) | (go_at_call 12; refine (new_twice w1 (HL.out.keep F1.out) (by omega) hnd).mono ?_; rintro e w3 ⟨rfl, f3⟩; have F3 := Lib.hid (F1.out.trans0 f3); clear f3))
        go_ret
        exact ⟨by rfl, F3.out⟩
    · have j2 : decide (300 < more.length) = true := decide_eq_true (by omega)
      have J1 := Lib.hid j1
      have J2 := Lib.hid j2
      have M0 := Lib.hid True.intro
      clear j1 j2
      go_wp2_with (first | (have mk := M0.out; go_at_call 11; refine (many_any _ ua l.length uc).mono ?_; rintro e w2 ⟨rfl, e2⟩; rw [e2, J1.out]; clear e2 mk M0) | (go_at_call 11; refine (many_any _ va more.length vc).mono ?_; rintro e w2 ⟨rfl, e2⟩; rw [e2, J2.out]; clear e2))
      go_ret
      exact ⟨by rfl, F1.out⟩
  · have j1 : decide (300 < l.length) = true := decide_eq_true (by omega)
    go_wp2_with (go_at_call 11; refine (many_any _ ua l.length uc).mono ?_; rintro e w2 ⟨rfl, e2⟩; rw [e2, j1]; clear e2)
    go_ret
    exact ⟨by rfl, F1.out⟩
end Go.Proofs.Ytoaefhjmpfchiaa
