/- CoinActs: the walk. -/
import Derived.Test.YtoaefhjmpfchiaaCoiR5
import Derived.Test.YtoaefhjmpfchiaaCoiR6
import Derived.Deep.CutBlock
namespace Go.Proofs.Ytoaefhjmpfchiaa
open Go Go.RowKit Go.Maps Go.MapKept

theorem putS_len (S l : List CoinD) : (putS S l).length ≤ S.length + l.length := by
  unfold putS
  split
  · rw [putC_len]; omega
  · omega
theorem takeS_len (S : List CoinD) (ps : List PointD) : (takeS S ps).length ≤ S.length := by
  unfold takeS
  split
  · exact List.length_filter_le _ _
  · exact Nat.le_refl _
theorem takeO_len (S : List CoinD) (ps : List PointD) : (takeO S ps).length ≤ ps.length := by
  unfold takeO
  split
  · simp
  · simp
theorem takeO_ok {S : List CoinD} (h : ∀ c ∈ S, c.ok) (ps : List PointD) : ∀ o ∈ takeO S ps, o.ok := by
  unfold takeO
  split
  · intro o ho
    obtain ⟨q, -, rfl⟩ := List.mem_map.1 ho
    exact outOf_ok h q
  · simp
theorem cw_cs {L : List ActC} {n : Nat} {d : ActC} (h : L[n]? = some d) (hg : cgreat L = false) : cweigh (L.take n) + d.cs.length ≤ cweigh (L.take (n + 1)) ∧ cweigh (L.take (n + 1)) ≤ 500 ∧ d.ps.length ≤ 500 ∧ d.cs.length ≤ 500 := by
  unfold cgreat at hg
  simp only [Bool.or_eq_false_iff, decide_eq_false_iff_not] at hg
  have h1 := cweigh_take h
  have h2 := cweigh_le L (n + 1)
  unfold cwt at h1
  omega
set_option maxRecDepth 20000 in
set_option maxHeartbeats 8000000 in
theorem cacts_any (w : World) {v : Value} {L : List ActC} (ha : CActsIs w v L) : Calls Try.prog 5 #[v] w fun e w' => e = .returned (.bool true) ∧ Fr No w w' := by
  obtain ⟨dP, uP, rP⟩ := descPoint
  obtain ⟨dO, uO, rO⟩ := descOut
  have zp := zeroPoint
  have zo := zeroOutC
  have HA := Lib.hid ha
  obtain ⟨va, vc, rfl, hlm, -⟩ := id ha
  clear ha
  go_enter Try.func5, Try.ntmps5
  go_wp2_with fail
  refine (aliveC_any w).mono ?_
  rintro e w1 ⟨rfl, f1⟩
  have F1 := Lib.hid f1
  clear f1
  cases hg : cgreat L with
  | true =>
    have HG := Lib.hid hg
    clear hg
    go_wp2_with (go_at_call 19; refine (cgreat_any w1 _ L (HA.out.keep F1.out)).mono ?_; rintro e w2 ⟨rfl, f2⟩; rw [HG.out]; have F2 := Lib.hid (F1.out.trans0 f2); clear f2)
    go_ret
    exact ⟨by rfl, F2.out⟩
  | false =>
    have HG := Lib.hid hg
    have hL : L.length ≤ 60 := by
      unfold cgreat at hg
      simp only [Bool.or_eq_false_iff, decide_eq_false_iff_not] at hg
      omega
    clear hg
    go_wp2_with (first | (go_at_call 19; refine (cgreat_any w1 _ L (HA.out.keep F1.out)).mono ?_; rintro e w2 ⟨rfl, f2⟩; rw [HG.out]; have F2 := Lib.hid (F1.out.trans0 f2); clear f2) | (go_at_call 12; refine (new_C w w2 F2.out (coins_nil w2) (by decide) (by simp)).mono ?_; rintro e w3 ⟨p0, rfl, V0, c3, f3, -⟩; have C3 := Lib.hid (show CS w w3 p0 V0 [] from c3); have F3 := Lib.hid (F2.out.trans0 f3); clear c3 f3))
    have R4 := Lib.hid (rcnew F3.out)
    have C4 := Lib.hid (C3.out.fr0 ((Fr.refl No w3).alloc (.cells #[.slice none 0 0] 51)))
    have D4 := Lib.hid (show ∀ j, V0 j → ¬ (j = w3.heap.size ∨ (Value.slice none 0 0).ownBlock = some j) from fun j h1 h2 => by
      have := C3.out.hi j h1
      rcases h2 with rfl | h2
      · omega
      · cases h2)
    go_loopg [3, 5, 39] L.length (fun g sv mv iv wr => ∃ (n p : Nat) (V : Nat → Prop) (q : Nat) (U : Nat → Prop) (S : List CoinD), iv = .int .i64 n ∧ n ≤ L.length ∧ g = L.length - n ∧ sv = .pointer (some ⟨p, 0, none⟩) ∧ mv = .pointer (some ⟨q, 0, none⟩) ∧ CS w wr p V S ∧ RC w wr q U S ∧ (∀ j, V j → ¬ U j) ∧ S.length ≤ cweigh (L.take n))
    case atStart => exact ⟨0, p0, V0, w3.heap.size, _, [], rfl, Nat.zero_le _, rfl, rfl, rfl, C4.out, R4.out, D4.out, Nat.zero_le _⟩
    case round =>
      obtain ⟨n, p, V, q, U, S, rfl, hn, hgk, rfl, rfl, hc, hr, hd, hl⟩ := hrel
      have CC := Lib.hid hc
      have RR := Lib.hid hr
      have DD := Lib.hid hd
      have LL := Lib.hid hl
      clear hc hr hd hl
      by_cases h : n < L.length
      · have i1 : (n : Int) < (L.length : Int) := by omega
        obtain ⟨d, hx⟩ : ∃ x, L[n]? = some x := ⟨_, List.getElem?_eq_getElem h⟩
        have CW := Lib.hid (cw_cs hx HG.out)
        obtain ⟨b, off, xa, xc, ya, yc, cap, hv, b0, b1, b2, hcs, hps⟩ := HA.out.at_ hx
        cases hv
        have d0 := CC.out.fr.cell b0 id
        have d1 := CC.out.fr.cell b1 id
        have d2 := CC.out.fr.cell b2 id
        have HC := Lib.hid hcs
        have HP := Lib.hid hps
        obtain ⟨kd, hkd⟩ : ∃ k, k = d.kind := ⟨_, rfl⟩
        rw [← hkd] at d0
        have A1 := Lib.hid (show (wr.alloc (.cells #[.int .i64 kd, .slice xa d.cs.length xc, .slice ya d.ps.length yc] 54)).cell? ⟨wr.heap.size, 1, none⟩ = some (.slice xa d.cs.length xc) by simp)
        have A2 := Lib.hid (show (wr.alloc (.cells #[.int .i64 kd, .slice xa d.cs.length xc, .slice ya d.ps.length yc] 54)).cell? ⟨wr.heap.size, 2, none⟩ = some (.slice ya d.ps.length yc) by simp)
        have FA := Lib.hid ((Fr.refl No wr).alloc (.cells #[.int .i64 kd, .slice xa d.cs.length xc, .slice ya d.ps.length yc] 54))
        have NV := Lib.hid (show ¬ V wr.heap.size from fun e => by have := CC.out.hi _ e; omega)
        have NU := Lib.hid (show ¬ U wr.heap.size from fun e => by have := RR.out.hi _ e; omega)
        have hcase : kd = 0 ∨ (¬ kd = 0 ∧ kd = 1) ∨ (¬ kd = 0 ∧ ¬ kd = 1 ∧ kd = 2) ∨ (¬ kd = 0 ∧ ¬ kd = 1 ∧ ¬ kd = 2) := by omega
        clear hx hcs hps b0 b1 b2 hkd
        go_upto_block 2 with fail
        generalize hz0 : wr.heap.size = z0 at *
        generalize wr.alloc (.cells #[.int .i64 kd, .slice xa d.cs.length xc, .slice ya d.ps.length yc] 54) = w2 at *
        clear d0 d1 d2
        have a1 := A1.out
        have a2 := A2.out
        go_cut [3, 5, 39] from 40 to 154 (fun sv mv iv wc => iv = .int .i64 n ∧ ∃ (p' : Nat) (V' : Nat → Prop) (q' : Nat) (U' : Nat → Prop) (S' : List CoinD), sv = .pointer (some ⟨p', 0, none⟩) ∧ mv = .pointer (some ⟨q', 0, none⟩) ∧ CS w wc p' V' S' ∧ RC w wc q' U' S' ∧ (∀ j, V' j → ¬ U' j) ∧ S'.length ≤ cweigh (L.take (n + 1)))
        case rest =>
          obtain ⟨rfl, p', V', q', U', S', rfl, rfl, cz, rz0, dz, ls⟩ := hcut
          have CZ := Lib.hid cz
          have RZ := Lib.hid rz0
          have DZ := Lib.hid dz
          have LS := Lib.hid ls
          clear cz rz0 dz ls
          go_wp2_with fail
          have LZ := Lib.hid (show (S').length ≤ 100000 by have := LS.out; have := CW.out.2.1; omega)
          obtain ⟨rz, bz, sz, -, -⟩ := RZ.out.ex
          obtain ⟨za, zk, rfl⟩ := sz.arg.form
          have BZ := Lib.hid (blk1 bz).1
          have SZ := Lib.hid sz
          clear bz sz
          refine wp_region_lexL [false, true, false, false, false, false, true, false, false, false, true, false, false, false, false, false, false, false] (fun w' => w'.cell? ⟨q', 0, none⟩ = some (.slice za (S').length zk)) (by kernel_rfl) (by kernel_rfl) ?_ (fun K hK => ?_)
          · exact (Fr.refl No _).drew.cell BZ.out id
          repeat (first | ((first | with_reducible refine lexL_read ?_ | ((with_reducible refine lexL_readG ?_ ?_); (focus rfl))); apply Exists.intro; refine ⟨fun w' hS => ?_, ?_⟩; (focus (obtain s1 := hS; go_simp; (try with_reducible rfl); done)); try simp only [Act.put, List.setIfInBounds_toArray, List.set_cons_zero, List.set_cons_succ]) | ((first | ((with_reducible refine lexL_skip (c := false) ?_ ?_ ?_); (focus rfl); (focus rfl)) | ((with_reducible refine lexL_skip (c := true) ?_ ?_ ?_); (focus rfl); (focus rfl)) | ((with_reducible refine lexL_skipU ?_ ?_); (focus rfl))); try simp only [Act.put, List.setIfInBounds_toArray, List.set_cons_zero, List.set_cons_succ]))
          (first | with_reducible refine lexL_eff (fun K' hK' => ?_) | ((with_reducible refine lexL_effG ?_ (fun K' hK' => ?_)); (focus rfl)))
          go_simp
          refine (all_C (CZ.out.fr0 (Fr.refl No _).drew) LZ.out).mono ?_
          rintro e w21 ⟨v21, rfl, o21, f21⟩
          have F21 := Lib.hid ((Fr.refl No _).drew.trans0 f21)
          have O21 := Lib.hid (ownCoins o21 CZ.out.ok)
          clear o21 f21
          refine hK'.out _ _ ?_ (fun hS => ?_)
          · exact F21.out.cell BZ.out id
          try simp only [Act.put, List.setIfInBounds_toArray, List.set_cons_zero, List.set_cons_succ]
          repeat (first | ((first | with_reducible refine lexL_read ?_ | ((with_reducible refine lexL_readG ?_ ?_); (focus rfl))); apply Exists.intro; refine ⟨fun w' hS => ?_, ?_⟩; (focus (obtain s1 := hS; go_simp; (try with_reducible rfl); done)); try simp only [Act.put, List.setIfInBounds_toArray, List.set_cons_zero, List.set_cons_succ]) | ((first | ((with_reducible refine lexL_skip (c := false) ?_ ?_ ?_); (focus rfl); (focus rfl)) | ((with_reducible refine lexL_skip (c := true) ?_ ?_ ?_); (focus rfl); (focus rfl)) | ((with_reducible refine lexL_skipU ?_ ?_); (focus rfl))); try simp only [Act.put, List.setIfInBounds_toArray, List.set_cons_zero, List.set_cons_succ]))
          (first | with_reducible refine lexL_eff (fun K' hK' => ?_) | ((with_reducible refine lexL_effG ?_ (fun K' hK' => ?_)); (focus rfl)))
          go_simp
          refine (sameCoins_any _ O21.out ⟨CZ.out.ok, (SZ.out.keep F21.out (fun _ _ => id)).arg⟩ LZ.out LZ.out).mono ?_
          rintro e w22 ⟨bb, rfl, hbb, f22⟩
          obtain rfl : bb = true := hbb.2 rfl
          have F22 := Lib.hid (F21.out.trans0 f22)
          clear hbb f22
          refine hK'.out _ _ ?_ (fun hS => ?_)
          · exact F22.out.cell BZ.out id
          try simp only [Act.put, List.setIfInBounds_toArray, List.set_cons_zero, List.set_cons_succ]
          repeat (first | ((first | with_reducible refine lexL_read ?_ | ((with_reducible refine lexL_readG ?_ ?_); (focus rfl))); apply Exists.intro; refine ⟨fun w' hS => ?_, ?_⟩; (focus (obtain s1 := hS; go_simp; (try with_reducible rfl); done)); try simp only [Act.put, List.setIfInBounds_toArray, List.set_cons_zero, List.set_cons_succ]) | ((first | ((with_reducible refine lexL_skip (c := false) ?_ ?_ ?_); (focus rfl); (focus rfl)) | ((with_reducible refine lexL_skip (c := true) ?_ ?_ ?_); (focus rfl); (focus rfl)) | ((with_reducible refine lexL_skipU ?_ ?_); (focus rfl))); try simp only [Act.put, List.setIfInBounds_toArray, List.set_cons_zero, List.set_cons_succ]))
          (first | with_reducible refine lexL_eff (fun K' hK' => ?_) | ((with_reducible refine lexL_effG ?_ (fun K' hK' => ?_)); (focus rfl)))
          go_simp
          refine (len_C (CZ.out.fr0 F22.out)).mono ?_
          rintro e w23 ⟨rfl, f23⟩
          have F23 := Lib.hid (F22.out.trans0 f23)
          clear f23
          refine hK'.out _ _ ?_ (fun hS => ?_)
          · exact F23.out.cell BZ.out id
          try simp only [Act.put, List.setIfInBounds_toArray, List.set_cons_zero, List.set_cons_succ]
          repeat (first | ((first | with_reducible refine lexL_read ?_ | ((with_reducible refine lexL_readG ?_ ?_); (focus rfl))); apply Exists.intro; refine ⟨?_, ?_⟩; (focus (first | exact fun w' h => exec_len rfl rfl (len_coins _ _ _ w') | (intro w' hS; obtain s1 := hS; go_simp; (try with_reducible rfl); done))); try simp only [Act.put, List.setIfInBounds_toArray, List.set_cons_zero, List.set_cons_succ]) | ((first | ((with_reducible refine lexL_skip (c := false) ?_ ?_ ?_); (focus rfl); (focus rfl)) | ((with_reducible refine lexL_skip (c := true) ?_ ?_ ?_); (focus rfl); (focus rfl)) | ((with_reducible refine lexL_skipU ?_ ?_); (focus rfl))); try simp only [Act.put, List.setIfInBounds_toArray, List.set_cons_zero, List.set_cons_succ]))
          refine lexL_nil (hK.out _ _ ?_)
          go_wp2
          go_roundg (L.length - (n + 1))
          case measure => omega
          case rel => exact ⟨n + 1, p', V', q', U', S', by simp, by omega, rfl, rfl, rfl, CZ.out.fr0 F23.out, RZ.out.fr0 F23.out, DZ.out, LS.out⟩
        case first =>
          rcases hcase with rfl | ⟨-, rfl⟩ | ⟨-, -, rfl⟩ | ⟨q0, q1, q2⟩
          · go_wp2_with fail
            have C2 := Lib.hid ((CC.out.fr0 FA.out).fr0 (Fr.refl No _).drew)
            have R2 := Lib.hid ((RR.out.fr0 FA.out).fr0 (Fr.refl No _).drew)
            refine wp_region_lexL [false, false, false, true, false, false, false, true, false] (fun w' => w'.cell? ⟨z0, 1, none⟩ = some (.slice xa d.cs.length xc)) (by kernel_rfl) (by kernel_rfl) ?_ (fun K hK => ?_)
            · exact (Fr.refl No _).drew.cell A1.out id
            repeat (first | ((first | with_reducible refine lexL_read ?_ | ((with_reducible refine lexL_readG ?_ ?_); (focus rfl))); apply Exists.intro; refine ⟨fun w' hS => ?_, ?_⟩; (focus (obtain s1 := hS; go_simp; (try with_reducible rfl); done)); try simp only [Act.put, List.setIfInBounds_toArray, List.set_cons_zero, List.set_cons_succ]) | ((first | ((with_reducible refine lexL_skip (c := false) ?_ ?_ ?_); (focus rfl); (focus rfl)) | ((with_reducible refine lexL_skip (c := true) ?_ ?_ ?_); (focus rfl); (focus rfl)) | ((with_reducible refine lexL_skipU ?_ ?_); (focus rfl))); try simp only [Act.put, List.setIfInBounds_toArray, List.set_cons_zero, List.set_cons_succ]))
            (first | with_reducible refine lexL_eff (fun K' hK' => ?_) | ((with_reducible refine lexL_effG ?_ (fun K' hK' => ?_)); (focus rfl)))
            go_simp
            refine (put_C C2.out (HC.out.keep C2.out.fr) (by have := CW.out; have := LL.out; omega)).mono ?_
            rintro e w5 ⟨rfl, c5, f5⟩
            have C5 := Lib.hid c5
            have R5 := Lib.hid (R2.out.frV f5 (fun j h1 h2 => DD.out j h2 h1) C2.out.lo)
            have F5 := Lib.hid f5
            have A5 := Lib.hid (f5.cell ((Fr.refl No _).drew.cell A1.out id) NV.out)
            clear c5 f5
            refine hK'.out _ _ ?_ (fun hS => ?_)
            · exact A5.out
            try simp only [Act.put, List.setIfInBounds_toArray, List.set_cons_zero, List.set_cons_succ]
            repeat (first | ((first | with_reducible refine lexL_read ?_ | ((with_reducible refine lexL_readG ?_ ?_); (focus rfl))); apply Exists.intro; refine ⟨fun w' hS => ?_, ?_⟩; (focus (obtain s1 := hS; go_simp; (try with_reducible rfl); done)); try simp only [Act.put, List.setIfInBounds_toArray, List.set_cons_zero, List.set_cons_succ]) | ((first | ((with_reducible refine lexL_skip (c := false) ?_ ?_ ?_); (focus rfl); (focus rfl)) | ((with_reducible refine lexL_skip (c := true) ?_ ?_ ?_); (focus rfl); (focus rfl)) | ((with_reducible refine lexL_skipU ?_ ?_); (focus rfl))); try simp only [Act.put, List.setIfInBounds_toArray, List.set_cons_zero, List.set_cons_succ]))
            (first | with_reducible refine lexL_eff (fun K' hK' => ?_) | ((with_reducible refine lexL_effG ?_ (fun K' hK' => ?_)); (focus rfl)))
            go_simp
            refine (rput_C R5.out HC.out (by have := CW.out; have := LL.out; omega)).mono ?_
            rintro e w6 ⟨rfl, U6, r6, h6, f6⟩
            have RZ := Lib.hid r6
            have CZ := Lib.hid (C5.out.frV f6 DD.out R5.out.lo)
            have DZ := Lib.hid (show ∀ j, V j → ¬ U6 j from fun j h1 h2 => by
              rcases h6 j h2 with h | h
              · exact DD.out j h1 h
              · have := C5.out.hi j h1; omega)
            have A6 := Lib.hid (f6.cell A5.out NU.out)
            have LS := Lib.hid (show (putS S d.cs).length ≤ cweigh (L.take (n + 1)) by have := CW.out; have := LL.out; have := putS_len S d.cs; omega)
            clear r6 h6 f6
            refine hK'.out _ _ ?_ (fun hS => ?_)
            · exact A6.out
            try simp only [Act.put, List.setIfInBounds_toArray, List.set_cons_zero, List.set_cons_succ]
            repeat (first | ((first | with_reducible refine lexL_read ?_ | ((with_reducible refine lexL_readG ?_ ?_); (focus rfl))); apply Exists.intro; refine ⟨fun w' hS => ?_, ?_⟩; (focus (obtain s1 := hS; go_simp; (try with_reducible rfl); done)); try simp only [Act.put, List.setIfInBounds_toArray, List.set_cons_zero, List.set_cons_succ]) | ((first | ((with_reducible refine lexL_skip (c := false) ?_ ?_ ?_); (focus rfl); (focus rfl)) | ((with_reducible refine lexL_skip (c := true) ?_ ?_ ?_); (focus rfl); (focus rfl)) | ((with_reducible refine lexL_skipU ?_ ?_); (focus rfl))); try simp only [Act.put, List.setIfInBounds_toArray, List.set_cons_zero, List.set_cons_succ]))
            refine lexL_nil (hK.out _ _ ?_)
            go_wp2_with fail
            go_meet
            case rel => exact ⟨rfl, p, V, q, U6, (putS S d.cs), rfl, rfl, CZ.out, RZ.out, DZ.out, LS.out⟩
          · have P2 := Lib.hid (HP.out.keep (CC.out.fr.trans0 FA.out))
            have C2 := Lib.hid (CC.out.fr0 FA.out)
            have R2 := Lib.hid (RR.out.fr0 FA.out)
            have LB := Lib.hid (show d.ps.length + S.length ≤ 100000 by have := CW.out; have := LL.out; omega)
            have LS := Lib.hid (show (takeS S d.ps).length ≤ cweigh (L.take (n + 1)) by have := CW.out; have := LL.out; have := takeS_len S d.ps; omega)
            have OB := Lib.hid (show (takeO S d.ps).length ≤ 100000 by have := CW.out; have := takeO_len S d.ps; omega)
            go_wp2_with (first | (go_at_call 21; refine (take_C C2.out P2.out LB.out).mono ?_; rintro e w5 ⟨x5, rfl, o5, c5, f5⟩; have C5 := Lib.hid c5; have R5 := Lib.hid (R2.out.frV f5 (fun j h1 h2 => DD.out j h2 h1) C2.out.lo); have a5 := f5.cell A2.out NV.out; have O5 := Lib.hid o5; clear o5 c5 f5) | (go_at_call 22; refine (rtake_C R5.out CC.out.srt HP.out LB.out).mono ?_; rintro e w6 ⟨x6, rfl, o6, U6, r6, h6, f6⟩; have R6 := Lib.hid r6; have C6 := Lib.hid (C5.out.frV f6 DD.out R5.out.lo); have DZ := Lib.hid (show ∀ j, V j → ¬ U6 j from fun j h1 h2 => (h6 j h2).elim (fun h => DD.out j h1 h) (fun h => by have := C5.out.hi j h1; omega)); have O6 := Lib.hid (show OutsIs w6 x6 (takeO S d.ps) from ⟨takeO_ok CC.out.ok _, o6.slice.arg⟩); have O56 := Lib.hid (show OutsIs w6 x5 (takeO S d.ps) from ⟨takeO_ok CC.out.ok _, (ownsRow_keep O5.out f6 (fun j e hU => by have := (O5.out.lt j e).1; have := RR.out.hi j hU; have := FA.out.size; omega)).slice.arg⟩); clear r6 h6 f6 o6) | (go_at_call 23; refine (sameOuts_any _ O56.out O6.out OB.out OB.out).mono ?_; rintro e w7 ⟨bb, rfl, hbb, f7⟩; obtain rfl : bb = true := hbb.2 rfl; have CZ := Lib.hid (C6.out.fr0 f7); have RZ := Lib.hid (R6.out.fr0 f7); clear hbb f7))
            go_meet
            case rel => exact ⟨rfl, p, V, q, U6, (takeS S d.ps), rfl, rfl, CZ.out, RZ.out, DZ.out, LS.out⟩
          · go_wp2_with fail
            have C2 := Lib.hid (CC.out.fr0 FA.out)
            have R2 := Lib.hid (RR.out.fr0 FA.out)
            have P2 := Lib.hid (HP.out.keep C2.out.fr)
            have SB := Lib.hid (show S.length ≤ 100000 by have := CW.out; have := LL.out; omega)
            have LS := Lib.hid (show S.length ≤ cweigh (L.take (n + 1)) by have := CW.out; have := LL.out; omega)
            have hpl : d.ps.length ≤ 500 := CW.out.2.2.1
            have DZ := Lib.hid DD.out
            go_loopw [111] (fun jv wr2 => ∃ m : Nat, jv = .int .i64 m ∧ m ≤ d.ps.length ∧ Fr No w2 wr2) (fun jv _ => d.ps.length - (intOf jv).toNat)
            case atStart => exact ⟨0, rfl, Nat.zero_le _, Fr.refl _ _⟩
            case round =>
              obtain ⟨m, rfl, hm, fr⟩ := hrel
              have FR := Lib.hid fr
              clear fr
              by_cases h2 : m < d.ps.length
              · have i2 : (m : Int) < (d.ps.length : Int) := by omega
                obtain ⟨k, hx⟩ : ∃ x, d.ps[m]? = some x := ⟨_, List.getElem?_eq_getElem h2⟩
                obtain ⟨b2, off2, cap2, hv2, hr2, -⟩ := (P2.out.keep FR.out).at_ hx
                cases hv2
                have KOK := Lib.hid (P2.out.1 k (List.mem_of_getElem? hx))
                have PL := Lib.hid (pointC_len KOK.out)
                have XO := Lib.hid (outOf_ok CC.out.ok k)
                have OL := Lib.hid (outC_len XO.out)
                have Q1 := Lib.hid hr2
                have RP := Lib.hid (range_new wr (pointC k) 27)
                have FB := Lib.hid (FR.out.alloc (.cells (pointC k).toArray 27))
                clear hx hr2
                go_wp2_with (first | (refine wpList_value rfl (exec_load (ty := 27) rfl rfl RP5.out uP rP (by rw [PL.out]; exact infoPoint)) ?_) | (refine wpList_value rfl (exec_load (ty := 27) rfl rfl RP.out uP rP (by rw [PL.out]; exact infoPoint)) ?_) | (refine wpList_value rfl (exec_load (ty := 27) rfl rfl Q1.out uP rP (by rw [PL.out]; exact infoPoint)) ?_) | (refine wpList_done rfl (exec_store_new (w := wr) (cs := pointC k) (ty := 27) rfl rfl rfl (by rw [PL.out]; rfl) (by rw [PL.out]; exact infoPoint) pointC_one) ?_) | (go_at_call 13; refine (find_C (C2.out.fr0 FB.out) KOK.out).mono ?_; rintro e w5 ⟨rfl, f5⟩; have F5 := Lib.hid ((FB.out.trans0 f5).alloc (.cells (outC (outOf S k)).toArray 36)); have RP5 := Lib.hid (range_keep (range_keep RP.out f5 id) ((Fr.refl No w5).alloc (.cells (outC (outOf S k)).toArray 36)) id); have RO5 := Lib.hid (range_new w5 (outC (outOf S k)) 36); clear f5) | (refine wpList_done rfl (exec_store_new (w := w6) (cs := outC (outOf S k)) (ty := 36) rfl rfl rfl (by rw [OL.out]; rfl) (by rw [OL.out]; exact infoOut) outC_one) ?_) | (refine wpList_done rfl (exec_store_new (w := w5) (cs := outC (outOf S k)) (ty := 36) rfl rfl rfl (by rw [OL.out]; rfl) (by rw [OL.out]; exact infoOut) outC_one) ?_) | (go_at_call 24; refine (rfind_C (R2.out.fr0 F5.out) SB.out KOK.out).mono ?_; rintro e w6 ⟨rfl, f6⟩; have F6 := Lib.hid ((F5.out.trans0 f6).alloc (.cells (outC (outOf S k)).toArray 36)); have RO6 := Lib.hid (range_keep (range_keep RO5.out f6 id) ((Fr.refl No w6).alloc (.cells (outC (outOf S k)).toArray 36)) id); have RN6 := Lib.hid (range_new w6 (outC (outOf S k)) 36); clear f6) | (refine wpList_value rfl (exec_load (ty := 36) rfl rfl RO6.out uO rO (by rw [OL.out]; exact infoOut)) ?_) | (refine wpList_value rfl (exec_load (ty := 36) rfl rfl RN6.out uO rO (by rw [OL.out]; exact infoOut)) ?_) | (refine wpList_value rfl (eqOut.exec_neq rfl rfl rfl (keyOfOut XO.out) (keyOfOut XO.out) true ⟨fun _ => rfl, fun _ => rfl⟩ _) ?_))
                go_roundw
                case rel => exact ⟨m + 1, by simp, by omega, F6.out⟩
                case measure => show d.ps.length - (m + 1) < d.ps.length - m; omega
              · have i2 : ¬ (m : Int) < (d.ps.length : Int) := by omega
                have CZ := Lib.hid (C2.out.fr0 FR.out)
                have RZ := Lib.hid (R2.out.fr0 FR.out)
                go_wp2_with fail
                go_meet
                case rel => exact ⟨rfl, p, V, q, U, S, rfl, rfl, CZ.out, RZ.out, DZ.out, LS.out⟩
          · have a1s := ((Fr.refl No w2).alloc (.cells #[.slice none 0 0] 51)).cell A1.out id
            go_wp2_with fail
            have RN := Lib.hid (rcnew (CC.out.fr.trans0 FA.out))
            have F3 := Lib.hid ((Fr.refl No w2).alloc (.cells #[.slice none 0 0] 51))
            have Z3 := Lib.hid (show w2.heap.size < (w2.alloc (.cells #[.slice none 0 0] 51)).heap.size by simp)
            generalize hz1 : w2.heap.size = z1 at *
            generalize w2.alloc (.cells #[.slice none 0 0] 51) = w3 at *
            have C3 := Lib.hid ((CC.out.fr0 FA.out).fr0 F3.out)
            have R3 := Lib.hid ((RR.out.fr0 FA.out).fr0 F3.out)
            have CB := Lib.hid (show d.cs.length ≤ 100000 by have := CW.out; omega)
            by_cases hnd : (d.cs.map (·.at_)).Nodup
            · obtain ⟨e0, e1⟩ := putE_0 (S := []) hnd (fun _ _ => rfl)
              have E0 := Lib.hid e0
              have E1 := Lib.hid e1
              refine (new_C w w3 C3.out.fr (HC.out.keep C3.out.fr) CB.out hnd).mono ?_
              rintro e w4 ⟨p4, rfl, V4, c4, f4, hV4⟩
              have C4 := Lib.hid c4
              have N4 := Lib.hid (RN.out.fr0 f4)
              have HV4 := Lib.hid hV4
              have a4 := f4.cell (F3.out.cell A1.out id) id
              have LS := Lib.hid (show (putC [] d.cs).length ≤ cweigh (L.take (n + 1)) by have := CW.out; rw [putC_len]; simp only [List.length_nil]; omega)
              clear c4 f4 hV4 e0 e1 hnd
              go_wp2_with (go_at_call 20; refine (rput_C N4.out HC.out (by have := CB.out; have := CW.out; simp only [List.length_nil]; omega)).mono ?_; rintro e w5 ⟨rfl, U5, r5, h5, f5⟩; rw [E0.out]; rw [E1.out] at r5; have RZ := Lib.hid r5; have DN := Lib.hid (show ∀ j, V4 j → ¬ (j = z1 ∨ (Value.slice none 0 0).ownBlock = some j) from fun j h1 h2 => by have := HV4.out j h1; have := Z3.out; rcases h2 with rfl | h2; omega; cases h2); have CZ := Lib.hid (C4.out.frV f5 DN.out N4.out.lo); have DZ := Lib.hid (show ∀ j, V4 j → ¬ U5 j from fun j h1 h2 => (h5 j h2).elim (fun h => DN.out j h1 h) (fun h => by have := C4.out.hi j h1; omega)); clear r5 h5 f5)
              go_meet
              case rel => exact ⟨rfl, p4, V4, z1, U5, (putC [] d.cs), rfl, rfl, CZ.out, RZ.out, DZ.out, LS.out⟩
            · obtain ⟨e0, e1⟩ := putE_12 (S := []) hnd
              have E0 := Lib.hid e0
              have E1 := Lib.hid e1
              refine (new_twice w3 (HC.out.keep C3.out.fr) CB.out hnd).mono ?_
              rintro e w4 ⟨rfl, f4⟩
              have N4 := Lib.hid (RN.out.fr0 f4)
              have C4 := Lib.hid (C3.out.fr0 f4)
              have R4 := Lib.hid (R3.out.fr0 f4)
              have a4 := f4.cell (F3.out.cell A1.out id) id
              have LS := Lib.hid (show S.length ≤ cweigh (L.take (n + 1)) by have := CW.out; have := LL.out; omega)
              clear f4 e0 e1 hnd
              go_wp2_with (go_at_call 20; refine (rput_C N4.out HC.out (by have := CB.out; have := CW.out; simp only [List.length_nil]; omega)).mono ?_; rintro e w5 ⟨rfl, U5, r5, h5, f5⟩; rw [E0.out]; have DN := Lib.hid (show ∀ j, (V j ∨ U j) → ¬ (j = z1 ∨ (Value.slice none 0 0).ownBlock = some j) from fun j h1 h2 => by have h3 : j < z0 := (h1.elim (fun h => by rw [← hz0]; exact CC.out.hi j h) (fun h => by rw [← hz0]; exact RR.out.hi j h)); have h4 := FA.out.size; rcases h2 with rfl | h2; omega; cases h2); have CZ := Lib.hid (C4.out.frV f5 (fun j h => DN.out j (.inl h)) N4.out.lo); have RZ := Lib.hid (R4.out.frV f5 (fun j h => DN.out j (.inr h)) N4.out.lo); have DZ := Lib.hid DD.out; clear r5 h5 f5)
              go_meet
              case rel => exact ⟨rfl, p, V, q, U, S, rfl, rfl, CZ.out, RZ.out, DZ.out, LS.out⟩
      · have i1 : ¬ (n : Int) < (L.length : Int) := by omega
        go_wp2
        go_ret
        exact ⟨by rfl, CC.out.fr⟩
end Go.Proofs.Ytoaefhjmpfchiaa
