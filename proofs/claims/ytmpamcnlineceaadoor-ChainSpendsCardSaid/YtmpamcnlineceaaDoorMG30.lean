/- chain: do, of a block without transactions. -/
import Derived.Test.YtmpamcnlineceaaDoorMG29
set_option linter.unusedVariables false
set_option linter.unusedSimpArgs false
set_option linter.unnecessarySimpa false
set_option linter.all false
namespace Go.Proofs.YtmpamcnlineceaaDoor
open Go Go.RowKit Go.Maps Go.MapKept

def chg0C (mv : Value) : List Value := [.slice none 0 0, mv]
theorem lex_load2 : True := trivial
/-- The row of one change. -/
theorem kept_chg1 {w : World} {B : Nat} {v mv : Value} {m : List PointD} {a : Option Addr} {c : Nat} (hmv : mv = .slice a m.length c) (h : w.ownsRow B 115 2 v 1 [.slice none 0 0, mv]) {V : Nat → Prop} (hV : ∀ j, v.ownBlock = some j → ¬ V j) (hm : Kept V w (fun w => PointsIs w mv m)) : Kept V w (fun w => ChgsIs w v [⟨[], m⟩]) := fun w' f => by
  subst hmv
  refine RowsIs.own (B := B) (ty := 115) (css := [[.slice none 0 0, .slice a m.length c]]) (by decide) (by simpa using ownsRow_keep h f hV) rfl (by simp) (by unfold maxLen; simp) (fun i d cs hi hc => ?_)
  cases i with
  | succ i => simp at hi
  | zero =>
    simp at hi hc
    subst hi
    subst hc
    exact ⟨none, 0, a, c, rfl, ⟨(fun x hx => by cases hx), .inl (.inl ⟨rfl, rfl, rfl⟩)⟩, hm w' f⟩
def DoOk (w0 w : World) (p s mi : Nat) (U : Nat → Prop) (bv : Value) (css : List (List Value)) (D : ChD) (dq : Nat) (b : BlkD) (E : Int) (S : List CoinD) (M : List (HashD × Int)) (d : DoneD) (e : Ending) (w' : World) : Prop :=
  e = .returned (.int .i64 E) ∧ ChAt w0 w' p s U mi bv css ⟨S, D.bs, M⟩ ∧ Fr (fun j => chV p U mi bv j ∨ j = dq) w w' ∧ d.blk = b ∧
    ∃ cs, w'.heap[dq]? = some (.cells cs.toArray 97 (0, 0)) ∧ Kept (fun j => chV p U mi bv j ∨ j = dq) w' (fun w => DoneQ w d cs)
def Do0Post (w0 w : World) (p s mi : Nat) (U : Nat → Prop) (bv : Value) (css : List (List Value)) (D : ChD) (dq : Nat) (b : BlkD) (e : Ending) (w' : World) : Prop := DoOk w0 w p s mi U bv css D dq b (if putE D.S (payD b) = 0 then 0 else 10) (putS D.S (payD b)) D.M ⟨b, [], if putE D.S (payD b) = 0 then [⟨[], (payD b).map (·.at_)⟩] else []⟩ e w'
set_option maxRecDepth 20000 in
set_option maxHeartbeats 4000000 in
theorem do0_any {w0 w : World} (hg : ShaW w0) {p s mi : Nat} {U : Nat → Prop} {bv : Value} {css : List (List Value)} {D : ChD} (h : ChAt w0 w p s U mi bv css D) {dq : Nat} {b : BlkD} {bcs : List Value}
    (hq : w.heap[dq]? = some (.cells (bcs ++ [Value.slice none 0 0, Value.slice none 0 0]).toArray 97 (0, 0))) (hnq : ¬ chV p U mi bv dq) (hlq : w0.heap.size ≤ dq)
    (hb : Kept (fun j => chV p U mi bv j ∨ j = dq) w (fun w => BlkQ w b bcs)) (h0 : b.txs = []) (hok : blkOk b = true) (hN : D.S.length ≤ 90000)
    (hkd : ∀ (i : Nat) (d : DoneD) (cs : List Value), D.bs[i]? = some d → css[i]? = some cs → Kept (fun j => chV p U mi bv j ∨ j = dq) w (fun w => DoneQ w d cs)) :
    Calls Tryd.prog 33 #[.pointer (some ⟨p, 0, none⟩), .pointer (some ⟨dq, 0, none⟩)] w
      (Do0Post w0 w p s mi U bv css D dq b) := by
  obtain ⟨pa, pc, ta, tc, rfl⟩ := hb.now.form
  have p8 : b.pay.length ≤ 8 := by
    have := hok
    simp only [blkOk, Bool.and_eq_true, decide_eq_true_eq] at this
    exact this.1
  have HB := Lib.hid (show Kept (fun j => chV p U mi bv j ∨ j = dq) w (fun w => BlkQ w b [.int .u64 b.tag, .slice pa b.pay.length pc, .slice ta 0 tc]) by rw [h0] at hb; exact hb)
  rw [h0] at hq
  have HQ := Lib.hid (show w.heap[dq]? = some (.cells #[.int .u64 b.tag, .slice pa b.pay.length pc, .slice ta 0 tc, .slice none 0 0, .slice none 0 0] 97 (0, 0)) from hq)
  obtain ⟨dB, uB, rB⟩ := descBlk
  obtain ⟨dH, uH, rH⟩ := descHash
  obtain ⟨dC, uC, rC⟩ := descCoin
  obtain ⟨dP, uP, rP⟩ := descPoint
  obtain ⟨dG, uG, rG⟩ := descChg
  have zH := zeroHash
  have zG := zeroChg
  have zC := zeroCoin
  have HC := Lib.hid h
  have G0 := Lib.hid hg
  have GE := Lib.hid (blk_good hok)
  have HH := Lib.hid (blkH_ok b)
  have HHL := Lib.hid (hashC_len HH.out)
  have NQ := Lib.hid hnq
  have LQ := Lib.hid hlq
  have c2 := (rangeAt5 (range_obj hq)).2.2.1
  have i0 : ¬ (0 : Int) < 0 := by omega
  have RB := Lib.hid (show w.rangeAt dq 0 [.int .u64 b.tag, .slice pa b.pay.length pc, .slice ta 0 tc] from fun j v hj => by
    refine range_obj HQ.out j v ?_
    match j, hj with
    | 0, hj => exact hj
    | 1, hj => exact hj
    | 2, hj => exact hj)
  have GW := Lib.hid (G0.out.keep0 h.fr)
  have ID := Lib.hid (blkid_any GW.out HB.out.now)
  rw [GE.out.1] at ID
  have PDL := Lib.hid (payD_len b)
  have POK := Lib.hid (show ∀ c ∈ payD b, c.ok from payC_ok HH.out (by obtain ⟨_, _, _, _, _, _, ho, _⟩ := HB.out.now; exact ho.1) (by omega))
  have PND := Lib.hid (show ((payD b).map (·.at_)).Nodup from payC_nodup _ _)
  have PE := Lib.hid (show payD b = payC (blkH b) b.pay from rfl)
  have HP10 := Lib.hid (show putE D.S (payD b) ≠ 0 → ∀ e w', DoOk w0 w p s mi U bv css D dq b 10 (putS D.S (payD b)) D.M ⟨b, [], []⟩ e w' → Do0Post w0 w p s mi U bv css D dq b e w' from fun h e w' hh => by unfold Do0Post; rw [if_neg h, if_neg h]; exact hh)
  have HP0 := Lib.hid (show putE D.S (payD b) = 0 → ∀ e w', DoOk w0 w p s mi U bv css D dq b 0 (putS D.S (payD b)) D.M ⟨b, [], [⟨[], (payD b).map (·.at_)⟩]⟩ e w' → Do0Post w0 w p s mi U bv css D dq b e w' from fun h e w' hh => by unfold Do0Post; rw [if_pos h, if_pos h]; exact hh)
  have HK := Lib.hid hkd
  clear h hg hq hnq hlq hb hok h0 hkd
  go_enter Tryd.func33, Tryd.ntmps33
  go_wp2_with fail
  go_loopw [25] (fun iv wr => iv = .int .i64 0 ∧ wr = w) (fun _ _ => 0)
  case atStart => exact ⟨rfl, rfl⟩
  case round =>
    obtain ⟨rfl, hw⟩ := hrel
    rw [hw]
    clear c2
    have K0 := Lib.hid True.intro
    have K1 := Lib.hid True.intro
    have K2 := Lib.hid True.intro
    go_wp2_with (first | ((with_reducible refine at_list ?_); have mk := K0.out; refine wpList_value rfl (exec_load (ty := 27) rfl rfl RB.out uB rB infoBlk) ?_; go_frame; clear mk K0) | (have mk := K1.out; go_at_call 25; refine ID.out.mono ?_; rintro e w2 ⟨rfl, f2⟩; have F2 := Lib.hid f2; clear f2; go_frame; clear mk K1) | ((with_reducible refine at_store ?_); have mk := K2.out; refine wpList_done rfl (exec_store_new (w := w2) (ty := 45) (cs := hashC (blkH b)) rfl rfl rfl (by rw [HHL.out]; rfl) (by rw [HHL.out]; exact infoHash) hashC_one) ?_; have F3 := Lib.hid (F2.out.trans0 ((Fr.refl No w2).alloc (.cells (hashC (blkH b)).toArray 45))); have B3 := Lib.hid (new_obj w2 (.cells (hashC (blkH b)).toArray 45)); generalize w2.alloc (.cells (hashC (blkH b)).toArray 45) = w3 at *; generalize hq3 : w2.heap.size = q3 at *; go_frame; clear mk K2))
    have FD := Lib.hid (F3.out.trans0 (Fr.refl No w3).drew)
    have HQd := Lib.hid (FD.out.obj HQ.out id)
    have HBd := Lib.hid (HB.out.same FD.out.of0)
    have C1d := Lib.hid (rangeAt5 (range_obj HQd.out)).2.1
    have RHd := Lib.hid (range_keep (range_obj B3.out) (Fr.refl No w3).drew id)
    refine wp_region_lexL [false, false, false, false, false, false, true, false] (fun w' => w'.cell? ⟨dq, 1, none⟩ = some (.slice pa b.pay.length pc) ∧ w'.rangeAt q3 0 (hashC (blkH b))) (by kernel_rfl) (by kernel_rfl) ?_ (fun K hK => ?_)
    · exact ⟨C1d.out, RHd.out⟩
    generalize w3.drew = w4 at *
    repeat (first | ((first | with_reducible refine lexL_read ?_ | ((with_reducible refine lexL_readG ?_ ?_); (focus rfl))); apply Exists.intro; refine ⟨?_, ?_⟩; (focus (first | exact lex_load (ty := 45) rfl (fun w h => h.2) uH rH (by rw [HHL.out]; exact infoHash) | (intro w' hS; obtain ⟨s1, s2⟩ := hS; go_simp; (try with_reducible rfl); done))); try simp only [Act.put, List.setIfInBounds_toArray, List.set_cons_zero, List.set_cons_succ]) | ((first | ((with_reducible refine lexL_skip (c := false) ?_ ?_ ?_); (focus rfl); (focus rfl)) | ((with_reducible refine lexL_skip (c := true) ?_ ?_ ?_); (focus rfl); (focus rfl)) | ((with_reducible refine lexL_skipU ?_ ?_); (focus rfl))); try simp only [Act.put, List.setIfInBounds_toArray, List.set_cons_zero, List.set_cons_succ]))
    (first | with_reducible refine lexL_eff (fun K' hK' => ?_) | ((with_reducible refine lexL_effG ?_ (fun K' hK' => ?_)); (focus rfl)))
    go_simp
    have HO4 := Lib.hid (show OutsIs w4 (.slice pa b.pay.length pc) b.pay by
      obtain ⟨pa', pc', ta', tc', e, _, ho, _⟩ := HBd.out.now
      simp only [blkC, List.cons.injEq, and_true] at e
      obtain ⟨-, e1, -⟩ := e
      injection e1 with e11 _ e13
      subst e11; subst e13
      exact ho)
    refine (payments_any w4 HH.out HO4.out (by omega)).mono ?_
    rintro e w5 ⟨pv, rfl, o5, f5⟩
    rw [← PE.out] at o5
    have F5 := Lib.hid (FD.out.trans0 f5)
    have HQ5 := Lib.hid (f5.obj HQd.out id)
    have HB5 := Lib.hid (HBd.out.same f5.of0)
    have HC5 := Lib.hid (HC.out.fr0 F5.out)
    have O5 := Lib.hid o5
    have B35 := Lib.hid (range_keep RHd.out f5 id)
    obtain ⟨va, vc, hpv⟩ := o5.slice.arg.form
    subst hpv
    clear o5 f5
    refine hK'.out _ _ ?_ (fun hS => ?_)
    · exact ⟨(rangeAt5 (range_obj HQ5.out)).2.1, B35.out⟩
    try simp only [Act.put, List.setIfInBounds_toArray, List.set_cons_zero, List.set_cons_succ]
    repeat (first | ((first | with_reducible refine lexL_read ?_ | ((with_reducible refine lexL_readG ?_ ?_); (focus rfl))); apply Exists.intro; refine ⟨?_, ?_⟩; (focus (first | (intro w' hS; obtain ⟨s1, s2⟩ := hS; go_simp; (try with_reducible rfl); done))); try simp only [Act.put, List.setIfInBounds_toArray, List.set_cons_zero, List.set_cons_succ]) | ((first | ((with_reducible refine lexL_skip (c := false) ?_ ?_ ?_); (focus rfl); (focus rfl)) | ((with_reducible refine lexL_skip (c := true) ?_ ?_ ?_); (focus rfl); (focus rfl)) | ((with_reducible refine lexL_skipU ?_ ?_); (focus rfl))); try simp only [Act.put, List.setIfInBounds_toArray, List.set_cons_zero, List.set_cons_succ]))
    refine lexL_nil (hK.out _ _ ?_)
    have P5 := HC5.out.cells.1
    have CI := Lib.hid (show CoinsIs w5 (.slice va b.pay.length vc) (payD b) from ⟨POK.out, by rw [PDL.out]; exact O5.out.slice.arg⟩)
    have PUTC := Lib.hid (put_C HC5.out.set CI.out (by rw [PDL.out]; omega))
    have UV := Lib.hid (show ∀ j, U j → chV p U mi bv j from fun j hj => .inr (.inl hj))
    by_cases hE : putE D.S (payD b) = 0
    rotate_left
    · have E10 := Lib.hid (show putE D.S (payD b) = 10 by
        unfold putE at hE ⊢
        rw [if_pos PND.out] at hE ⊢
        split <;> simp_all)
      rw [E10.out] at PUTC
      replace HP10 := Lib.hid (HP10.out hE)
      clear hE HP0
      go_wp2_with (go_at_call 48; refine PUTC.out.mono ?_; rintro e w6 ⟨rfl, cs6, f6⟩; have HC6 := Lib.hid (HC5.out.setS cs6 f6); have F6 := Lib.hid (show Fr (fun j => chV p U mi bv j ∨ j = dq) w w6 from F5.out.of0.trans (f6.mono (fun j hj => .inl (UV.out j hj))) (fun _ _ h => h)); have HB6 := Lib.hid (HB5.out.same (f6.mono (fun j hj => .inl (UV.out j hj)))); have HQ6 := Lib.hid (f6.obj HQ5.out (fun hj => NQ.out (UV.out _ hj))); clear cs6 f6)
      go_ret
      refine HP10.out _ _ ⟨rfl, HC6.out, F6.out, rfl, _, HQ6.out, fun w' f => ⟨[.int .u64 b.tag, .slice pa b.pay.length pc, .slice ta 0 tc], none, 0, none, 0, rfl, HB6.out w' f, ⟨(fun x hx => by cases hx), .inl (.inl ⟨rfl, rfl, rfl⟩)⟩, RowsIs.nil⟩⟩
    · rw [hE] at PUTC
      replace HP0 := Lib.hid (HP0.out hE)
      clear hE HP10
      have H4 := Lib.hid (show ∀ j, chV p U mi bv j → j < w4.heap.size from (HC.out.fr0 FD.out).hi)
      have DQ4 := Lib.hid (show dq < w4.heap.size from obj_lt HQd.out)
      go_wp2_with (first | (go_at_call 48; refine PUTC.out.mono ?_; rintro e w6 ⟨rfl, cs6, f6⟩; have HC6 := Lib.hid (HC5.out.setS cs6 f6); have F6 := Lib.hid (show Fr (fun j => chV p U mi bv j ∨ j = dq) w w6 from F5.out.of0.trans (f6.mono (fun j hj => .inl (UV.out j hj))) (fun _ _ h => h)); have HB6 := Lib.hid (HB5.out.same (f6.mono (fun j hj => .inl (UV.out j hj)))); have HQ6 := Lib.hid (f6.obj HQ5.out (fun hj => NQ.out (UV.out _ hj))); have O6 := Lib.hid (ownsRow_keep O5.out f6 (fun j hj hu => by have := (O5.out.lt j hj).1; have := H4.out _ (UV.out _ hu); omega)); clear cs6 f6))
      have FA := Lib.hid ((Fr.refl No w6).alloc (.cells #[.slice none 0 0, .slice none 0 0] 115))
      have BA := Lib.hid (new_obj w6 (.cells #[.slice none 0 0, .slice none 0 0] 115))
      have QA := Lib.hid (show (w6.alloc (.cells #[.slice none 0 0, .slice none 0 0] 115)).heap.size = w6.heap.size + 1 by simp)
      generalize w6.alloc (.cells #[.slice none 0 0, .slice none 0 0] 115) = w7 at *
      generalize hq16 : w6.heap.size = q16 at *
      have HC7 := Lib.hid (HC6.out.fr0 FA.out)
      have HB7 := Lib.hid (HB6.out.same FA.out.of0)
      have HQ7 := Lib.hid (FA.out.obj HQ6.out id)
      have O7 := Lib.hid (ownsRow_keep O6.out FA.out (fun _ _ => id))
      have F7 := Lib.hid (F6.out.trans0 FA.out)
      have OL := Lib.hid (show ∀ j, (Value.slice va b.pay.length vc).ownBlock = some j → j < q16 from fun j hj => by rw [← hq16]; exact (O6.out.lt j hj).2)
      go_loopw [112] (fun iv wr => ∃ (n : Nat) (mv : Value), iv = .int .i64 n ∧ n ≤ b.pay.length ∧ wr.heap[q16]? = some (.cells #[.slice none 0 0, mv] 115 (0, 0)) ∧ wr.ownsRow w7.heap.size 47 33 mv n ((((payD b).map (·.at_)).take n).flatMap pointC) ∧ Fr (fun j => j = q16) w7 wr) (fun iv _ => b.pay.length - (intOf iv).toNat)
      case atStart => exact ⟨0, .slice none 0 0, rfl, Nat.zero_le _, BA.out, World.ownsRow_nil _ _ _ 33, Fr.refl _ _⟩
      case round =>
        obtain ⟨n, mv, rfl, hn, hbq, hor, fr⟩ := hrel
        have FR := Lib.hid fr
        have BQ := Lib.hid hbq
        have OR := Lib.hid hor
        obtain ⟨ma, mc, hmv⟩ := hor.slice.arg.form
        have FZ := Lib.hid (fun i => u32_unfrozen (i := i) hbq)
        clear fr hbq hor
        by_cases hlt : n < b.pay.length
        · have i1 : (n : Int) < (b.pay.length : Int) := by omega
          obtain ⟨c, hx⟩ : ∃ x, (payD b)[n]? = some x := ⟨_, List.getElem?_eq_getElem (by rw [PDL.out]; exact hlt)⟩
          have COK := Lib.hid (POK.out c (List.mem_of_getElem? hx))
          have CL := Lib.hid (coinC_len COK.out)
          have PL := Lib.hid (pointC_len COK.out.1)
          obtain ⟨g, cap, hv, hr, -⟩ := own_elem (f := coinC) (k := 66) (L := payD b) (by decide) (fun x hx => coinC_len (POK.out x hx)) (show wr.ownsRow w4.heap.size 57 66 (.slice va b.pay.length vc) b.pay.length ((payD b).flatMap coinC) from ownsRow_keep O7.out FR.out (fun j hj e => by have := OL.out j hj; omega)) hx
          cases hv
          have R1 := Lib.hid hr
          have FB := Lib.hid ((Fr.refl No wr).alloc (.cells (coinC c).toArray 57))
          have RP := Lib.hid (coin_at (range_new wr (coinC c) 57))
          have HPX := Lib.hid (show ((payD b).map (·.at_))[n]? = some c.at_ by simp [hx])
          have TF := Lib.hid (take_flat pointC HPX.out)
          have BQA := Lib.hid (FB.out.obj BQ.out id)
          obtain ⟨v5, w5', a1, a2, a3, a4, a5⟩ := append_blk (P := Tryd.prog) (wr.alloc (.cells (coinC c).toArray 57)) w7.heap.size 75 75 47 33 36 _ undPoints infoPointZ (by show (pointC point0).toArray.size = 33; rfl) (by decide) (ownsRow_keep OR.out FB.out (fun _ _ => id)) (pointC c.at_) PL.out pointC_one (by omega) (by unfold maxLen; omega) (Nat.le_trans FR.out.size FB.out.size)
          have A1 := Lib.hid a1
          have O5' := Lib.hid (show w5'.ownsRow w7.heap.size 47 33 v5 (n + 1) ((((payD b).map (·.at_)).take (n + 1)).flatMap pointC) by rw [TF.out]; exact a2)
          have NQ5 := Lib.hid (show ∀ j, mv.ownBlock = some j → j ≠ q16 from fun j hj e => by have := (OR.out.lt j hj).1; have := QA.out; omega)
          have BQ5 := Lib.hid (a3.obj BQA.out (fun e => NQ5.out _ e rfl))
          have F5' := Lib.hid (show Fr (fun j => j = q16) w7 w5' from (FR.out.trans0 FB.out).trans a3 (fun j hj e => by have := (OR.out.lt j e).1; omega))
          have NV5 := Lib.hid (show ∀ j, v5.ownBlock = some j → j ≠ q16 from fun j hj e => (a5 j hj).elim (fun h => NQ5.out j h e) (fun h => by have := FR.out.size; have := FB.out.size; have := QA.out; omega))
          have cA : (wr.alloc (.cells (coinC c).toArray 57)).cell? ⟨q16, 1, none⟩ = some (.slice ma n mc) := by have := range_obj BQA.out 1 _ rfl; rw [hmv] at this; simpa using this
          have cB : w5'.cell? ⟨q16, 1, none⟩ = some (.slice ma n mc) := by have := range_obj BQ5.out 1 _ rfl; rw [hmv] at this; simpa using this
          have fB := u32_unfrozen (i := 1) BQ5.out
          clear hr a1 a2 a3 a4 a5
          obtain ⟨va5, vc5, hv5⟩ := O5'.out.slice.arg.form
          subst hv5
          subst hmv
          have HS5 := Lib.hid (heap_setCell_same w5' q16 1 _ _ (.slice va5 (n + 1) vc5) BQ5.out)
          have FS5 := Lib.hid (show Fr (fun j => j = q16) w7 (w5'.setCell ⟨q16, 1, none⟩ (.slice va5 (n + 1) vc5)) from F5'.out.setCell _ (.inr rfl) _)
          have OS5 := Lib.hid (ownsRow_keep O5'.out (show Fr (fun j => j = q16) w5' (w5'.setCell ⟨q16, 1, none⟩ (.slice va5 (n + 1) vc5)) from (Fr.refl (fun j => j = q16) w5').setCell ⟨q16, 1, none⟩ (.inr rfl) _) (fun j hj e => NV5.out j hj e))
          have K0 := Lib.hid True.intro
          have K1 := Lib.hid True.intro
          have K2 := Lib.hid True.intro
          have K3 := Lib.hid True.intro
          have K4 := Lib.hid True.intro
          go_wp2_with (first | ((with_reducible refine at_list ?_); have mk := K0.out; refine wpList_value rfl (exec_load (ty := 57) rfl rfl R1.out uC rC (by rw [CL.out]; exact infoCoin)) ?_; go_frame; clear mk K0) | ((with_reducible refine at_store ?_); have mk := K1.out; refine wpList_done rfl (exec_store_new (w := wr) (ty := 57) (cs := coinC c) rfl rfl rfl (by rw [CL.out]; rfl) (by rw [CL.out]; exact infoCoin) coinC_one) ?_; generalize wr.alloc (.cells (coinC c).toArray 57) = wA at *; go_frame; clear mk K1) | ((with_reducible refine at_list ?_); have mk := K2.out; refine wpList_value rfl (exec_load (ty := 47) rfl rfl RP.out uP rP (by rw [PL.out]; exact infoPoint)) ?_; go_frame; clear mk K2) | ((with_reducible refine at_list ?_); have mk := K3.out; refine wpList_value rfl (exec_buildSliceA (t := 75) rfl rfl undPoints infoPointZ2 rfl (by decide) (by decide) PL.out) ?_; go_frame; clear mk K3) | ((with_reducible refine at_list ?_); have mk := K4.out; at_builtin; refine wpList_append_run rfl rfl rfl rfl A1.out ?_; go_frame; clear mk K4))
          go_roundw
          case rel => exact ⟨n + 1, _, by go_num, by omega, HS5.out, OS5.out, FS5.out⟩
          case measure => simp [intOf]; omega
        · have hne : n = b.pay.length := by omega
          have i1 : ¬ (n : Int) < (b.pay.length : Int) := by omega
          have HRL := Lib.hid (show wr.ownsRow w7.heap.size 47 33 mv ((payD b).map (·.at_)).length (((payD b).map (·.at_)).flatMap pointC) by
            have := OR.out
            rw [hne, List.take_of_length_le (by rw [List.length_map, PDL.out]; exact Nat.le_refl _)] at this
            rw [List.length_map, PDL.out]
            exact this)
          have F69 := Lib.hid (show Fr No w6 wr from FA.out.trans FR.out (fun j hj e => by omega))
          have FD9 := Lib.hid (F69.out.trans0 (Fr.refl No wr).drew)
          have FV := Lib.hid (F6.out.trans0 FD9.out)
          have HC9 := Lib.hid (HC6.out.fr0 FD9.out)
          have HB9 := Lib.hid (HB6.out.same FD9.out.of0)
          have HQ9 := Lib.hid (FD9.out.obj HQ6.out id)
          have BQ9 := Lib.hid ((Fr.refl No wr).drew.obj BQ.out id)
          have HR9 := Lib.hid (ownsRow_keep HRL.out (Fr.refl No wr).drew (fun _ _ => id))
          have QL := Lib.hid (show dq < q16 by have := obj_lt HQ6.out; omega)
          have S9 := Lib.hid (show w7.heap.size ≤ wr.drew.heap.size from FR.out.size)
          have GR := Lib.hid (range_obj BQ9.out)
          have c4 := (rangeAt5 (range_obj HQ9.out)).2.2.2.2
          go_wp2_with fail
          clear c4
          refine wp_region_lexM [false, false, false, false, false, false, true, true, false, false, true] (fun w' => w'.cell? ⟨dq, 4, none⟩ = some (.slice none 0 0) ∧ w'.rangeAt q16 0 [.slice none 0 0, mv]) (by kernel_rfl) (by kernel_rfl) 10 (by kernel_rfl) (by kernel_rfl) ?_ (fun K hK => ?_)
          · exact ⟨(rangeAt5 (range_obj HQ9.out)).2.2.2.2, GR.out⟩
          generalize wr.drew = z at *
          obtain ⟨v5, w5', a1, a2, a3, a4, a5⟩ := append_blk (P := Tryd.prog) z z.heap.size 95 95 115 2 48 _ undChgs infoChgZ rfl (by decide) (World.ownsRow_nil z z.heap.size _ 2) [.slice none 0 0, mv] rfl (fun u hu => by subst hmv; simp only [List.mem_cons, List.not_mem_nil, or_false] at hu; rcases hu with rfl | rfl <;> rfl) (by omega) (by unfold maxLen; omega) (Nat.le_refl _)
          have A1 := Lib.hid a1
          rw [List.nil_append] at a2
          have O5' := Lib.hid a2
          obtain ⟨va5, vc5, hv5⟩ := a2.slice.arg.form
          subst hv5
          have F5' := Lib.hid (show Fr No z w5' from a3.mono (fun j e => by cases e))
          have NV5 := Lib.hid (show ∀ j, (Value.slice va5 1 vc5).ownBlock = some j → z.heap.size ≤ j from fun j hj => (O5'.out.lt j hj).1)
          clear a1 a2 a3 a4 a5
          have HQ5' := Lib.hid (F5'.out.obj HQ9.out id)
          have fz := u32_unfrozen (i := 4) HQ5'.out
          have R5' := Lib.hid (show w5'.cell? ⟨dq, 4, none⟩ = some (.slice none 0 0) ∧ w5'.rangeAt q16 0 [.slice none 0 0, mv] from ⟨(rangeAt5 (range_obj HQ5'.out)).2.2.2.2, range_keep GR.out F5'.out id⟩)
          have KS := Lib.hid (show ∀ w', Fr No z w' → w'.cell? ⟨dq, 4, none⟩ = some (.slice none 0 0) ∧ w'.rangeAt q16 0 [.slice none 0 0, mv] from fun w' f => ⟨(rangeAt5 (range_obj (f.obj HQ9.out id))).2.2.2.2, range_keep GR.out f id⟩)
          have fs : Fr (fun j => j = dq) w5' (w5'.setCell ⟨dq, 4, none⟩ (.slice va5 1 vc5)) := (Fr.refl (fun j => j = dq) w5').setCell ⟨dq, 4, none⟩ (.inr rfl) _
          have FS := Lib.hid fs
          have FAll := Lib.hid (show Fr (fun j => chV p U mi bv j ∨ j = dq) w (w5'.setCell ⟨dq, 4, none⟩ (.slice va5 1 vc5)) from (FV.out.trans0 F5'.out).trans fs (fun j _ hj => .inr hj))
          have HBf := Lib.hid ((HB9.out.same F5'.out.of0).same (fs.mono (fun j hj => .inr hj)))
          have HCf := Lib.hid ((HC9.out.fr0 F5'.out).frV fs (fun j hj e => NQ.out (e ▸ hj)) (fun j e => by have := LQ.out; omega) (fun i d cs h1 h2 w' f => HK.out i d cs h1 h2 w' (FAll.out.trans (f.mono (fun j hj => .inl hj)) (fun _ _ h => h))))
          have HQf := Lib.hid (heap_setCell_same w5' dq 4 _ _ (.slice va5 1 vc5) HQ5'.out)
          have KCf := Lib.hid (show Kept (fun j => chV p U mi bv j ∨ j = dq) (w5'.setCell ⟨dq, 4, none⟩ (.slice va5 1 vc5)) (fun w => ChgsIs w (.slice va5 1 vc5) [⟨[], (payD b).map (·.at_)⟩]) from by
            obtain ⟨ma', mc', hm'⟩ := HRL.out.slice.arg.form
            refine kept_chg1 (mv := mv) hm' (ownsRow_keep O5'.out fs (fun j hj e => by have := NV5.out j hj; have := S9.out; have := QA.out; have := QL.out; omega)) (fun j hj hv => by
              have h1 := NV5.out j hj
              have h2 := S9.out
              rcases hv with hv | hv
              · have := HC9.out.hi _ hv; omega
              · have := QL.out; have := QA.out; omega) ?_
            refine kept_points (ownsRow_keep (ownsRow_keep HR9.out F5'.out (fun _ _ => id)) fs (fun j hj e => by have := (HRL.out.lt j hj).1; have := QA.out; have := QL.out; omega)) (fun x hx => by
              obtain ⟨y, hy, rfl⟩ := List.mem_map.1 hx
              exact (POK.out y hy).1) (fun j hj hv => by
              have h1 := (HRL.out.lt j hj).1
              rcases hv with hv | hv
              · have := HC6.out.hi _ hv; have := QA.out; omega
              · have := QL.out; have := QA.out; omega))
          repeat (first | ((first | with_reducible refine lexM_read ?_ | ((with_reducible refine lexM_readG ?_ ?_); (focus rfl))); apply Exists.intro; refine ⟨?_, ?_⟩; (focus (first | exact lex_load (ty := 115) rfl (fun w h => h.2) uG rG infoChg | (intro w' hS; obtain ⟨s1, s2⟩ := hS; go_simp; (try with_reducible rfl); done))); try simp only [Act.put, List.setIfInBounds_toArray, List.set_cons_zero, List.set_cons_succ]) | ((first | ((with_reducible refine lexM_skip (c := false) ?_ ?_ ?_); (focus rfl); (focus rfl)) | ((with_reducible refine lexM_skip (c := true) ?_ ?_ ?_); (focus rfl); (focus rfl)) | ((with_reducible refine lexM_skipU ?_ ?_); (focus rfl))); try simp only [Act.put, List.setIfInBounds_toArray, List.set_cons_zero, List.set_cons_succ]))
          (first | with_reducible refine lexM_eff (fun K' hK' => ?_) | ((with_reducible refine lexM_effG ?_ (fun K' hK' => ?_)); (focus rfl)))
          refine wp_value (exec_buildSliceA (t := 95) rfl rfl undChgs infoChgZ2 rfl (by decide) (by decide) rfl) ?_
          refine hK'.out _ _ (fun _ => ?_) (fun hS => ?_)
          · exact KS.out _ ((Fr.refl No z).alloc _)
          try simp only [Act.put, List.setIfInBounds_toArray, List.set_cons_zero, List.set_cons_succ]
          (first | with_reducible refine lexM_eff (fun K' hK' => ?_) | ((with_reducible refine lexM_effG ?_ (fun K' hK' => ?_)); (focus rfl)))
          refine wp_append_run rfl rfl rfl A1.out ?_
          refine hK'.out _ _ (fun _ => ?_) (fun hS => ?_)
          · exact R5'.out
          try simp only [Act.put, List.setIfInBounds_toArray, List.set_cons_zero, List.set_cons_succ]
          repeat (first | ((first | with_reducible refine lexM_read ?_ | ((with_reducible refine lexM_readG ?_ ?_); (focus rfl))); apply Exists.intro; refine ⟨?_, ?_⟩; (focus (first | (intro w' hS; obtain ⟨s1, s2⟩ := hS; go_simp; (try with_reducible rfl); done))); try simp only [Act.put, List.setIfInBounds_toArray, List.set_cons_zero, List.set_cons_succ]) | ((first | ((with_reducible refine lexM_skip (c := false) ?_ ?_ ?_); (focus rfl); (focus rfl)) | ((with_reducible refine lexM_skip (c := true) ?_ ?_ ?_); (focus rfl); (focus rfl)) | ((with_reducible refine lexM_skipU ?_ ?_); (focus rfl))); try simp only [Act.put, List.setIfInBounds_toArray, List.set_cons_zero, List.set_cons_succ]))
          (first | with_reducible refine lexM_eff (fun K' hK' => ?_) | ((with_reducible refine lexM_effG ?_ (fun K' hK' => ?_)); (focus rfl)))
          go_simp
          refine hK'.out _ _ (fun h => absurd rfl h) (fun hS => ?_)
          refine lexM_nil (hK.out _ _ ?_)
          go_wp2_with fail
          go_ret
          refine HP0.out _ _ ⟨rfl, HCf.out, FAll.out, rfl, _, HQf.out, fun w' f => ⟨[.int .u64 b.tag, .slice pa b.pay.length pc, .slice ta 0 tc], none, 0, va5, vc5, rfl, HBf.out w' f, ⟨(fun x hx => by cases hx), .inl (.inl ⟨rfl, rfl, rfl⟩)⟩, KCf.out w' f⟩⟩
end Go.Proofs.YtmpamcnlineceaaDoor
