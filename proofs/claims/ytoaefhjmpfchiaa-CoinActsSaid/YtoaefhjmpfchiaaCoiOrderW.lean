/- CoinOrder: the walk. -/
import Derived.Test.YtoaefhjmpfchiaaCoiBackW
namespace Go.Proofs.Ytoaefhjmpfchiaa
open Go Go.RowKit Go.Maps Go.MapKept

theorem coins_nil (w : World) : CoinsIs w (.slice none 0 0) [] := ⟨by simp, .inl (.inl ⟨rfl, rfl, rfl⟩)⟩
theorem putC_snoc {S l : List CoinD} {c : CoinD} {n : Nat} (h : l[n]? = some c) : putC S (l.take (n + 1)) = putC (putC S (l.take n)) [c] := by
  unfold putC
  rw [List.take_add_one, h, List.foldl_append]; rfl
theorem step_put {l : List CoinD} {n : Nat} {c : CoinD} (hnd : (l.map (·.at_)).Nodup) (h : l[n]? = some c) : putE (putC [] (l.take n)) [c] = 0 ∧ putS (putC [] (l.take n)) [c] = putC [] (l.take (n + 1)) := by
  have hno : ∀ x ∈ [c], hasC (putC [] (l.take n)) x.at_ = false := by
    intro x hx
    rw [List.mem_singleton.1 hx, hasC_not]
    intro y hy e
    have hy' : y ∈ l.take n := by rcases mem_putC.1 hy with h | h; cases h; exact h
    obtain ⟨hl, he⟩ := List.getElem?_eq_some_iff.1 h
    have e2 : l = l.take n ++ l[n] :: l.drop (n + 1) := by simp
    rw [e2, List.map_append, List.map_cons, he] at hnd
    exact (List.nodup_append.1 hnd).2.2 _ (List.mem_map.2 ⟨y, hy', rfl⟩) _ (List.mem_cons_self ..) e
  obtain ⟨e0, e1⟩ := putE_0 (S := putC [] (l.take n)) (l := [c]) (by simp) hno
  exact ⟨e0, by rw [e1, putC_snoc h]⟩
theorem putC_rev {l : List CoinD} (hnd : (l.map (·.at_)).Nodup) : putC [] l.reverse = putC [] l := by
  refine SrtC.same (putC_srt List.Pairwise.nil (by rw [List.map_reverse]; exact (List.reverse_perm _).nodup_iff.2 hnd) (fun _ _ => rfl)) (putC_srt List.Pairwise.nil hnd (fun _ _ => rfl)) (fun x => ?_)
  rw [mem_putC, mem_putC]; simp
set_option maxRecDepth 20000 in
set_option maxHeartbeats 4000000 in
theorem orderLaw_any (w : World) {u : Value} {l : List CoinD} (hl : CoinsIs w u l) :
    Calls Try.prog 4 #[u] w fun e w' => e = .returned (.bool true) ∧ Fr No w w' := by
  obtain ⟨dC, uC, rC⟩ := descCoin
  obtain ⟨dP, uP, rP⟩ := descPoint
  obtain ⟨ua, uc, rfl⟩ := hl.2.form
  have HL := Lib.hid hl
  clear hl
  go_enter Try.func4, Try.ntmps4
  go_wp2_with fail
  refine (aliveC_any w).mono ?_
  rintro e w1 ⟨rfl, f1⟩
  have F1 := Lib.hid f1
  clear f1
  by_cases hN : l.length ≤ 300
  · have J1 := Lib.hid (show decide (300 < l.length) = false from decide_eq_false (by omega))
    have M0 := Lib.hid True.intro
    by_cases hnd : (l.map (·.at_)).Nodup
    · have ND := Lib.hid hnd
      clear hnd
      have hlen := len_coins
      go_wp2_with (first | (go_at_call 11; refine (many_any _ ua l.length uc).mono ?_; rintro e w2 ⟨rfl, e2⟩; rw [e2, J1.out]; clear e2) | (have mk := M0.out; go_at_call 12; refine (new_C w w1 F1.out (HL.out.keep F1.out) (by omega) ND.out).mono ?_; rintro e w3 ⟨p, rfl, V, c3, f3, -⟩; have C3 := Lib.hid c3; have G3 := Lib.hid (F1.out.trans0 f3); clear c3 f3 mk M0) | (go_at_call 12; refine (new_C w w3 G3.out (coins_nil w3) (by decide) (by simp)).mono ?_; rintro e w4 ⟨q, rfl, U, c4, f4, hU⟩; have D4 := Lib.hid (show CS w w4 q U [] from c4); have C4 := Lib.hid (C3.out.fr0 f4); have DIS := Lib.hid (show ∀ j, V j → ¬ U j from fun j h1 h2 => by have := C3.out.hi j h1; have := hU j h2; omega); clear c4 f4 hU))
      have RND := Lib.hid (show (l.reverse.map (·.at_)).Nodup by rw [List.map_reverse]; exact (List.reverse_perm _).nodup_iff.2 ND.out)
      have SL := Lib.hid (show (putC [] l).length = l.length by rw [putC_len]; simp)
      go_loopw [37] (fun iv wr => ∃ n : Nat, iv = .int .i64 n ∧ n ≤ l.length ∧ CS w wr p V (putC [] l) ∧ CS w wr q U (putC [] (l.reverse.take n))) (fun iv _ => l.length - (intOf iv).toNat)
      case atStart => exact ⟨0, rfl, Nat.zero_le _, C4.out, D4.out⟩
      case round =>
        obtain ⟨n, rfl, hn, hc, hd⟩ := hrel
        have CC := Lib.hid hc
        have DD := Lib.hid hd
        clear hc hd
        by_cases h : n < l.length
        · have i1 : (n : Int) < (l.length : Int) := by omega
          obtain ⟨m, hm⟩ : ∃ m, m = l.length - 1 - n := ⟨_, rfl⟩
          have hml : m < l.length := by omega
          obtain ⟨c, hx⟩ : ∃ x, l[m]? = some x := ⟨_, List.getElem?_eq_getElem hml⟩
          have hxr : l.reverse[n]? = some c := by rw [List.getElem?_reverse h, ← hm]; exact hx
          obtain ⟨b, off, cap, hv, hr, -⟩ := (HL.out.keep CC.out.fr).at_ hx
          cases hv
          have COK := Lib.hid (HL.out.1 c (List.mem_of_getElem? hx))
          have CL := Lib.hid (coinC_len COK.out)
          have R1 := Lib.hid hr
          obtain ⟨e0, e1⟩ := step_put RND.out hxr
          have E0 := Lib.hid e0
          have E1 := Lib.hid e1
          have TL := Lib.hid (show (putC [] (l.reverse.take n)).length ≤ 300 by rw [putC_len, List.length_take]; simp; omega)
          have i2 : (m : Int) < (l.length : Int) := by omega
          have e3 : IntKind.i64.wrap ((l.length : Int) - 1) = (l.length : Int) - 1 := IntWalk.i64_in _ (by omega)
          have e4 : IntKind.i64.wrap ((l.length : Int) - 1 - (n : Int)) = (m : Int) := by rw [IntWalk.i64_in _ (by omega)]; omega
          clear hr hx hxr e0 e1 hm
          go_wp2_with (first | (refine wpList_value rfl (exec_load (ty := 38) rfl rfl R1.out uC rC (by rw [CL.out]; exact infoCoin)) ?_) | (refine wpList_value rfl (exec_buildSliceA (t := 22) rfl rfl undCoins infoCoinZ2 rfl (by decide) (by decide) CL.out) ?_) | (go_at_call 14; refine (put_C (DD.out.fr0 ((Fr.refl No wr).alloc (.cells (coinC c).toArray 38))) (coins_new1 wr COK.out) (by have := TL.out; show 1 + _ ≤ _; omega)).mono ?_; rintro e w6 ⟨rfl, d6, f6⟩; rw [E0.out]; rw [E1.out] at d6; have D6 := Lib.hid d6; have C6 := Lib.hid ((CC.out.fr0 ((Fr.refl No wr).alloc (.cells (coinC c).toArray 38))).frV f6 DIS.out DD.out.lo); clear d6 f6))
          go_roundw
          case rel => exact ⟨n + 1, by simp, by omega, C6.out, D6.out⟩
          case measure => show l.length - (n + 1) < l.length - n; omega
        · have i1 : ¬ (n : Int) < (l.length : Int) := by omega
          have hT : l.reverse.take n = l.reverse := List.take_of_length_le (by rw [List.length_reverse]; omega)
          have D7 := Lib.hid (show CS w wr q U (putC [] l) by have := DD.out; rw [hT, putC_rev ND.out] at this; exact this)
          have SRT := Lib.hid CC.out.srt
          clear hT DD
          go_wp2_with (go_at_call 15; refine (all_C CC.out (by rw [SL.out]; omega)).mono ?_; rintro e w8 ⟨v8, rfl, o8, f8⟩; rw [SL.out] at o8; have O8 := Lib.hid o8; have C8 := Lib.hid (CC.out.fr0 f8); have D8 := Lib.hid (D7.out.fr0 f8); obtain ⟨a8, k8, rfl⟩ := o8.slice.arg.form; clear o8 f8)
          clear CC D7
          go_loopw [9] (fun iv wr => ∃ m : Nat, iv = .int .i64 m ∧ 1 ≤ m ∧ (m ≤ l.length ∨ m = 1) ∧ Fr No w8 wr) (fun iv _ => l.length - (intOf iv).toNat)
          case atStart => exact ⟨1, rfl, Nat.le_refl _, .inr rfl, Fr.refl _ _⟩
          case round =>
            obtain ⟨m, rfl, hm1, hm, fr⟩ := hrel
            have FR := Lib.hid fr
            clear fr
            by_cases h2 : m < l.length
            · have i2 : (m : Int) < (l.length : Int) := by omega
              obtain ⟨k, hk⟩ : ∃ k, k = m - 1 := ⟨_, rfl⟩
              have i3 : (k : Int) < (l.length : Int) := by omega
              have e3 : IntKind.i64.wrap ((m : Int) - 1) = (k : Int) := by rw [IntWalk.i64_in _ (by omega)]; omega
              obtain ⟨y, hy⟩ : ∃ x, (putC [] l)[m]? = some x := ⟨_, List.getElem?_eq_getElem (by rw [SL.out]; exact h2)⟩
              obtain ⟨x, hx⟩ : ∃ x, (putC [] l)[k]? = some x := ⟨_, List.getElem?_eq_getElem (by rw [SL.out]; omega)⟩
              have hlt : ptLt x.at_ y.at_ = true := by
                obtain ⟨h3, h4⟩ := List.getElem?_eq_some_iff.1 hx
                obtain ⟨h5, h6⟩ := List.getElem?_eq_some_iff.1 hy
                have := (List.pairwise_iff_getElem.1 SRT.out) k m h3 h5 (by omega)
                rwa [h4, h6] at this
              have OKS := C8.out.ok
              obtain ⟨gx, cx, hvx, hrx, -⟩ := own_elem (by decide) (fun z hz => coinC_len (OKS z hz)) (ownsRow_keep O8.out FR.out (fun _ _ => id)) hx
              cases hvx
              obtain ⟨gy, cy, hvy, hry, -⟩ := own_elem (by decide) (fun z hz => coinC_len (OKS z hz)) (ownsRow_keep O8.out FR.out (fun _ _ => id)) hy
              cases hvy
              have XOK := Lib.hid (OKS x (List.mem_of_getElem? hx))
              have YOK := Lib.hid (OKS y (List.mem_of_getElem? hy))
              have PX := Lib.hid (pointC_len XOK.out.1)
              have PY := Lib.hid (pointC_len YOK.out.1)
              have RX := Lib.hid (coin_at hrx)
              have RY := Lib.hid (coin_at hry)
              have LT := Lib.hid hlt
              clear hrx hry hx hy hlt OKS hk
              go_wp2_with fail
              refine wp_region_lexL [false, false, false, false, false, false, false, false, false, false, false, true, false] (fun W => W.rangeAt gx (k * 66) (pointC x.at_) ∧ W.rangeAt gx (m * 66) (pointC y.at_)) (by kernel_rfl) (by kernel_rfl) ?_ (fun K hK => ?_)
              · exact ⟨range_keep RX.out (Fr.refl No _).drew id, range_keep RY.out (Fr.refl No _).drew id⟩
              repeat (first | ((first | with_reducible refine lexL_read ?_ | ((with_reducible refine lexL_readG ?_ ?_); (focus rfl))); apply Exists.intro; refine ⟨?_, ?_⟩; (focus (first | exact lex_load (ty := 27) rfl (fun w h => h.1) uP rP (by rw [PX.out]; exact infoPoint) | exact lex_load (ty := 27) rfl (fun w h => h.2) uP rP (by rw [PY.out]; exact infoPoint) | (intro w' hS; obtain _ := hS; go_simp; (try with_reducible rfl); done))); try simp only [Act.put, List.setIfInBounds_toArray, List.set_cons_zero, List.set_cons_succ]) | ((first | ((with_reducible refine lexL_skip (c := false) ?_ ?_ ?_); (focus rfl); (focus rfl)) | ((with_reducible refine lexL_skip (c := true) ?_ ?_ ?_); (focus rfl); (focus rfl)) | ((with_reducible refine lexL_skipU ?_ ?_); (focus rfl))); try simp only [Act.put, List.setIfInBounds_toArray, List.set_cons_zero, List.set_cons_succ]))
              (first | with_reducible refine lexL_eff (fun K' hK' => ?_) | ((with_reducible refine lexL_effG ?_ (fun K' hK' => ?_)); (focus rfl)))
              go_simp
              refine (below_any _ XOK.out.1 YOK.out.1).mono ?_
              rintro e w9 ⟨rfl, f9⟩
              rw [LT.out]
              have F9 := Lib.hid ((FR.out.drew).trans0 f9)
              have S9 := Lib.hid (show w9.rangeAt gx (k * 66) (pointC x.at_) ∧ w9.rangeAt gx (m * 66) (pointC y.at_) from ⟨range_keep RX.out ((Fr.refl No wr).drew.trans0 f9) id, range_keep RY.out ((Fr.refl No wr).drew.trans0 f9) id⟩)
              clear f9
              refine hK'.out _ _ ?_ (fun hS => ?_)
              · exact S9.out
              try simp only [Act.put, List.setIfInBounds_toArray, List.set_cons_zero, List.set_cons_succ]
              repeat (first | ((first | with_reducible refine lexL_read ?_ | ((with_reducible refine lexL_readG ?_ ?_); (focus rfl))); apply Exists.intro; refine ⟨?_, ?_⟩; (focus (first | (intro w' hS; obtain _ := hS; go_simp; (try with_reducible rfl); done))); try simp only [Act.put, List.setIfInBounds_toArray, List.set_cons_zero, List.set_cons_succ]) | ((first | ((with_reducible refine lexL_skip (c := false) ?_ ?_ ?_); (focus rfl); (focus rfl)) | ((with_reducible refine lexL_skip (c := true) ?_ ?_ ?_); (focus rfl); (focus rfl)) | ((with_reducible refine lexL_skipU ?_ ?_); (focus rfl))); try simp only [Act.put, List.setIfInBounds_toArray, List.set_cons_zero, List.set_cons_succ]))
              refine lexL_nil (hK.out _ _ ?_)
              clear e3
              go_wp2
              go_roundw
              case rel => exact ⟨m + 1, by simp, by omega, by omega, F9.out⟩
              case measure => show l.length - (m + 1) < l.length - m; omega
            · have i2 : ¬ (m : Int) < (l.length : Int) := by omega
              have C9 := Lib.hid (C8.out.fr0 FR.out)
              have D9 := Lib.hid (D8.out.fr0 FR.out)
              have O9 := Lib.hid (ownsRow_keep O8.out FR.out (fun _ _ => id))
              clear C8 D8 O8
              go_wp2_with (first | (go_at_call 17; refine (len_C C9.out).mono ?_; rintro e w10 ⟨rfl, f10⟩; rw [SL.out]; have D10 := Lib.hid (D9.out.fr0 f10); have O10 := Lib.hid (ownsRow_keep O9.out f10 (fun _ _ => id)); clear f10) | (go_at_call 15; refine (all_C D10.out (by rw [SL.out]; omega)).mono ?_; rintro e w11 ⟨v11, rfl, o11, f11⟩; have U11 := Lib.hid (ownCoins o11 D10.out.ok); have V11 := Lib.hid (ownCoins (S := putC [] l) (by rw [SL.out]; exact ownsRow_keep O10.out f11 (fun _ _ => id)) D10.out.ok); have D11 := Lib.hid (D10.out.fr0 f11); clear o11 f11) | (go_at_call 18; refine (sameCoins_any _ V11.out U11.out (by rw [SL.out]; omega) (by rw [SL.out]; omega)).mono ?_; rintro e w12 ⟨bb, rfl, hbb, f12⟩; obtain rfl : bb = true := hbb.2 rfl))
              go_ret
              exact ⟨by rfl, D11.out.fr.trans0 f12⟩
    · go_wp2_with (first | (go_at_call 11; refine (many_any _ ua l.length uc).mono ?_; rintro e w2 ⟨rfl, e2⟩; rw [e2, J1.out]; clear e2) | (have mk := M0.out; go_at_call 12; refine (new_twice w1 (HL.out.keep F1.out) (by omega) hnd).mono ?_; rintro e w3 ⟨rfl, f3⟩; have G3 := Lib.hid (F1.out.trans0 f3); clear f3 mk M0) | (go_at_call 12; refine (new_C w w3 G3.out (coins_nil w3) (by decide) (by simp)).mono ?_; rintro e w4 ⟨q, rfl, U, c4, f4, hU⟩))
      go_ret
      exact ⟨by rfl, c4.fr⟩
  · have j1 : decide (300 < l.length) = true := decide_eq_true (by omega)
    go_wp2_with (go_at_call 11; refine (many_any _ ua l.length uc).mono ?_; rintro e w2 ⟨rfl, e2⟩; rw [e2, j1]; clear e2)
    go_ret
    exact ⟨by rfl, F1.out⟩
end Go.Proofs.Ytoaefhjmpfchiaa
