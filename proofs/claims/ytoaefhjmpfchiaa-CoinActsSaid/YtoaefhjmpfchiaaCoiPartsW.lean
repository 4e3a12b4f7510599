/- CoinParts: the walk. -/
import Derived.Test.YtoaefhjmpfchiaaCoiOrderW
namespace Go.Proofs.Ytoaefhjmpfchiaa
open Go Go.RowKit Go.Maps Go.MapKept

def pick (l : List CoinD) (b : List Bool) (n : Nat) : List CoinD := (List.range n).filterMap fun i => if b[i]? = some true then l[i]? else none
theorem pick_succ {l : List CoinD} {b : List Bool} {n : Nat} {c : CoinD} (h : l[n]? = some c) : pick l b (n + 1) = pick l b n ++ (if b[n]? = some true then [c] else []) := by
  unfold pick
  rw [List.range_succ, List.filterMap_append]
  congr 1
  by_cases hb : b[n]? = some true <;> simp [hb, h]
theorem pick_sub {l : List CoinD} {b : List Bool} : ∀ {n : Nat}, n ≤ l.length → (pick l b n).Sublist (l.take n)
  | 0, _ => by simp [pick]
  | n + 1, h => by
    obtain ⟨c, hx⟩ : ∃ x, l[n]? = some x := ⟨_, List.getElem?_eq_getElem (by omega)⟩
    rw [pick_succ hx, List.take_add_one, hx]
    refine List.Sublist.append (pick_sub (by omega)) ?_
    split
    · exact List.Sublist.refl _
    · exact List.nil_sublist _
theorem nd_take {l : List CoinD} (hnd : (l.map (·.at_)).Nodup) {n : Nat} {c : CoinD} (h : l[n]? = some c) : c.at_ ∉ (l.take n).map (·.at_) := by
  intro hm
  obtain ⟨hl, he⟩ := List.getElem?_eq_some_iff.1 h
  have e2 : l = l.take n ++ l[n] :: l.drop (n + 1) := by simp
  rw [e2, List.map_append, List.map_cons, he] at hnd
  exact (List.nodup_append.1 hnd).2.2 _ hm _ (List.mem_cons_self ..) rfl
theorem takeC_snoc2 {S : List CoinD} {ps : List PointD} {x : PointD} : takeC (takeC S ps) [x] = takeC S (ps ++ [x]) := by
  unfold takeC
  rw [List.filter_filter]
  apply List.filter_congr
  intro c _
  simp [Bool.and_comm]
/-- One taken. -/
theorem take_one {T : List CoinD} (hs : SrtC T) {c : CoinD} (hc : c ∈ T) : takeE T [c.at_] = 0 ∧ takeO T [c.at_] = [c.out] ∧ takeS T [c.at_] = takeC T [c.at_] := by
  have e0 : takeE T [c.at_] = 0 := by
    unfold takeE
    rw [if_pos (by simp), if_pos]
    simp only [List.all_cons, List.all_nil, Bool.and_true]
    exact hasC_iff.2 ⟨c, hc, rfl⟩
  refine ⟨e0, ?_, by unfold takeS; rw [if_pos e0]⟩
  unfold takeO
  rw [if_pos e0]
  simp [outOf, findC_some hs hc]
theorem take_sub {S P : List CoinD} (hnd : (P.map (·.at_)).Nodup) (hsub : ∀ c ∈ P, c ∈ S) : takeE S (P.map (·.at_)) = 0 ∧ takeS S (P.map (·.at_)) = takeC S (P.map (·.at_)) := by
  have e0 : takeE S (P.map (·.at_)) = 0 := by
    unfold takeE
    rw [if_pos hnd, if_pos]
    rw [List.all_eq_true]
    intro p hp
    obtain ⟨c, hc, rfl⟩ := List.mem_map.1 hp
    exact hasC_iff.2 ⟨c, hsub c hc, rfl⟩
  exact ⟨e0, by unfold takeS; rw [if_pos e0]⟩
theorem points_new1 (w : World) {c : PointD} (hc : c.ok) : PointsIs (w.alloc (.cells (pointC c).toArray 27)) (.slice (some ⟨w.heap.size, 0, none⟩) 1 1) [c] := by
  refine ⟨by simpa using hc, .inl (.inr ⟨w.heap.size, 0, 1, rfl, Nat.le_refl _, by unfold maxLen; omega, fun j u hj => ?_, by simp⟩)⟩
  rw [List.flatMap_cons, List.flatMap_nil, List.append_nil] at hj
  exact range_new w (pointC c) 27 j u hj
def boolC (b : Bool) : List Value := [.bool b]
def BoolsIs (w : World) (v : Value) (l : List Bool) : Prop := ArgIs w v l.length (l.flatMap boolC)
theorem BoolsIs.keep {w w' : World} {v : Value} {l : List Bool} (h : BoolsIs w v l) (f : Fr No w w') : BoolsIs w' v l := ArgIs.keep h f
theorem BoolsIs.at_ {w : World} {v : Value} {l : List Bool} (h : BoolsIs w v l) {i : Nat} {x : Bool} (hx : l[i]? = some x) : ∃ b off cap, v = .slice (some ⟨b, off, none⟩) l.length cap ∧ w.cell? ⟨b, off + i, none⟩ = some (.bool x) := by
  obtain ⟨b, off, cap, hv, hr, -⟩ := ArgIs.elem (f := boolC) (k := 1) (by decide) (fun _ _ => rfl) h hx
  refine ⟨b, off, cap, hv, ?_⟩
  have := hr 0 _ rfl
  simpa using this
theorem bools_len (a : Option Addr) (n c : Nat) (w : World) : (Builtin.len_ #[63] 3 #[.slice a n c]).run Try.prog w = .ok (.int .i64 n) w := by
  simp [Builtin.len_, run_underlying Try.underlying63]
  rfl
set_option maxRecDepth 20000 in
set_option maxHeartbeats 8000000 in
theorem parts_any (w : World) {u v : Value} {l : List CoinD} (hl : CoinsIs w u l) {bs : List Bool} (hb : BoolsIs w v bs) :
    Calls Try.prog 8 #[u, v] w fun e w' => e = .returned (.bool true) ∧ Fr No w w' := by
  obtain ⟨dC, uC, rC⟩ := descCoin
  obtain ⟨dP, uP, rP⟩ := descPoint
  obtain ⟨dO, uO, rO⟩ := descOut
  obtain ⟨ua, uc, rfl⟩ := hl.2.form
  obtain ⟨va, vc, rfl⟩ := ArgIs.form hb
  have zc := zeroCoin
  have HL := Lib.hid hl
  have HBS := Lib.hid hb
  clear hl hb
  have hlen := len_coins
  have hblen := bools_len
  go_enter Try.func8, Try.ntmps8
  go_wp2_with fail
  refine (aliveC_any w).mono ?_
  rintro e w1 ⟨rfl, f1⟩
  have F1 := Lib.hid f1
  clear f1
  by_cases hN : l.length ≤ 300
  · have J1 := Lib.hid (show decide (300 < l.length) = false from decide_eq_false (by omega))
    by_cases hB : bs.length ≤ 300
    · have j2 : ¬ (300 : Int) < (bs.length : Int) := by omega
      have M0 := Lib.hid True.intro
      go_wp2_with (first | (go_at_call 11; refine (many_any _ ua l.length uc).mono ?_; rintro e w2 ⟨rfl, e2⟩; rw [e2, J1.out]; clear e2) | (have mk := M0.out; go_at_call 12; refine (new_C w w1 F1.out (coins_nil w1) (by decide) (by simp)).mono ?_; rintro e w3 ⟨p, rfl, V, c3, f3, -⟩; have C3 := Lib.hid (show CS w w3 p V [] from c3); have G3 := Lib.hid (F1.out.trans0 f3); clear c3 f3 mk M0) | (go_at_call 12; refine (new_C w w3 G3.out (coins_nil w3) (by decide) (by simp)).mono ?_; rintro e w4 ⟨q, rfl, U, c4, f4, hU⟩; have D4 := Lib.hid (show CS w w4 q U [] from c4); have C4 := Lib.hid (C3.out.fr0 f4); have DIS := Lib.hid (show ∀ j, V j → ¬ U j from fun j h1 h2 => by have := C3.out.hi j h1; have := hU j h2; omega); clear c4 f4 hU))
      by_cases hnd : (l.map (·.at_)).Nodup
      · have ND := Lib.hid hnd
        obtain ⟨e0, e1⟩ := putE_0 (S := []) (l := l) hnd (fun _ _ => rfl)
        have E0 := Lib.hid e0
        have E1 := Lib.hid e1
        clear hnd e0 e1
        go_wp2_with (go_at_call 14; refine (put_C C4.out (HL.out.keep C4.out.fr) (by show l.length + 0 ≤ _; omega)).mono ?_; rintro e w5 ⟨rfl, c5, f5⟩; rw [E0.out]; rw [E1.out] at c5; have C5 := Lib.hid c5; have D5 := Lib.hid (D4.out.frV f5 (fun j h1 h2 => DIS.out j h2 h1) C4.out.lo); clear c5 f5)
        have SL := Lib.hid (show (putC [] l).length = l.length by rw [putC_len]; simp)
        go_loopw [50] (fun iv wr => ∃ n : Nat, iv = .int .i64 n ∧ n ≤ l.length ∧ CS w wr p V (putC [] l) ∧ CS w wr q U (putC [] (l.take n))) (fun iv _ => l.length - (intOf iv).toNat)
        case atStart => exact ⟨0, rfl, Nat.zero_le _, C5.out, D5.out⟩
        case round =>
          obtain ⟨n, rfl, hn, hc, hd⟩ := hrel
          have CC := Lib.hid hc
          have DD := Lib.hid hd
          clear hc hd
          by_cases h : n < l.length
          · have i1 : (n : Int) < (l.length : Int) := by omega
            obtain ⟨c, hx⟩ : ∃ x, l[n]? = some x := ⟨_, List.getElem?_eq_getElem h⟩
            obtain ⟨b, off, cap, hv, hr, -⟩ := (HL.out.keep CC.out.fr).at_ hx
            cases hv
            have COK := Lib.hid (HL.out.1 c (List.mem_of_getElem? hx))
            have CL := Lib.hid (coinC_len COK.out)
            have PL := Lib.hid (pointC_len COK.out.1)
            have OL := Lib.hid (outC_len COK.out.2)
            have R1 := Lib.hid hr
            have nb := range_new wr (coinC c) 38
            have RC := Lib.hid nb
            have RP := Lib.hid (coin_at nb)
            have RO := Lib.hid (show (wr.alloc (.cells (coinC c).toArray 38)).rangeAt wr.heap.size 33 (outC c.out) by have := coin_out COK.out nb; rwa [Nat.zero_add] at this)
            have FA := Lib.hid ((Fr.refl No wr).alloc (.cells (coinC c).toArray 38))
            have CN1 := Lib.hid (show CoinsIs ((wr.alloc (.cells (coinC c).toArray 38)).alloc (.cells (coinC c).toArray 38)) (.slice (some ⟨wr.heap.size + 1, 0, none⟩) 1 1) [c] by
              have := coins_new1 (wr.alloc (.cells (coinC c).toArray 38)) COK.out
              rwa [show (wr.alloc (.cells (coinC c).toArray 38)).heap.size = wr.heap.size + 1 by simp] at this)
            have FB := Lib.hid (FA.out.alloc (.cells (coinC c).toArray 38))
            obtain ⟨e0, e1⟩ := step_put ND.out hx
            have E0 := Lib.hid e0
            have E1 := Lib.hid e1
            have TL := Lib.hid (show (putC [] (l.take n)).length ≤ 300 by rw [putC_len, List.length_take]; simp; omega)
            clear hr hx nb e0 e1
            go_wp2_with (first | (refine wpList_value rfl (exec_load (ty := 38) rfl rfl RC.out uC rC (by rw [CL.out]; exact infoCoin)) ?_) | (refine wpList_value rfl (exec_load (ty := 38) rfl rfl R1.out uC rC (by rw [CL.out]; exact infoCoin)) ?_) | (refine wpList_done rfl (exec_store_new (w := wr) (cs := coinC c) (ty := 38) rfl rfl rfl (by rw [CL.out]; rfl) (by rw [CL.out]; exact infoCoin) coinC_one) ?_) | (refine wpList_value rfl (exec_buildSliceA (t := 22) rfl rfl undCoins infoCoinZ2 rfl (by decide) (by decide) CL.out) ?_) | (go_at_call 14; refine (put_C (DD.out.fr0 FB.out) CN1.out (by have := TL.out; show 1 + _ ≤ _; omega)).mono ?_; rintro e w6 ⟨rfl, d6, f6⟩; rw [E0.out]; rw [E1.out] at d6; have D6 := Lib.hid d6; have C6 := Lib.hid ((CC.out.fr0 FB.out).frV f6 DIS.out DD.out.lo); clear d6 f6))
            go_roundw
            case rel => exact ⟨n + 1, by simp, by omega, C6.out, D6.out⟩
            case measure => show l.length - (n + 1) < l.length - n; omega
          · have i1 : ¬ (n : Int) < (l.length : Int) := by omega
            have hT : l.take n = l := by rw [show n = l.length by omega, List.take_length]
            have DZ := Lib.hid (show CS w wr q U (putC [] l) by have := DD.out; rwa [hT] at this)
            clear DD hT
            obtain ⟨B, hB0⟩ : ∃ B, B = wr.heap.size := ⟨_, rfl⟩
            have VB := Lib.hid (show ∀ j, V j → j < B from fun j h => by rw [hB0]; exact CC.out.hi j h)
            have UB := Lib.hid (show ∀ j, U j → j < B from fun j h => by rw [hB0]; exact DZ.out.hi j h)
            have BW := Lib.hid (show w.heap.size ≤ B from by rw [hB0]; exact CC.out.fr.size)
            have SRT := Lib.hid CC.out.srt
            have hlo := len_outs
            go_wp2_with fail
            go_loopw [11, 62] (fun sv iv wr2 => ∃ n : Nat, iv = .int .i64 n ∧ n ≤ l.length ∧ CS w wr2 p V (putC [] l) ∧ CS w wr2 q U (takeC (putC [] l) ((pick l bs n).map (·.at_))) ∧ wr2.ownsRow B 27 33 sv (pick l bs n).length (((pick l bs n).map (·.at_)).flatMap pointC) ∧ B ≤ wr2.heap.size) (fun _ iv _ => l.length - (intOf iv).toNat)
            case atStart => exact ⟨0, rfl, Nat.zero_le _, CC.out, by show CS w wr q U (takeC (putC [] l) []); rw [takeC_nil]; exact DZ.out, World.ownsRow_nil _ _ _ _, by rw [hB0]; exact Nat.le_refl _⟩
            case round =>
              clear CC DZ hB0
              obtain ⟨n, rfl, hn, hc, hd, ho, hbw⟩ := hrel
              have CC := Lib.hid hc
              have DD := Lib.hid hd
              have HO := Lib.hid ho
              have HBW := Lib.hid hbw
              obtain ⟨sa, sc, rfl⟩ := ho.slice.arg.form
              have hsub := pick_sub (l := l) (b := bs) hn
              have hpl : (pick l bs n).length ≤ 300 := by have := hsub.length_le; rw [List.length_take] at this; omega
              clear hc hd ho hbw
              by_cases h : n < l.length
              · have i1 : (n : Int) < (l.length : Int) := by omega
                obtain ⟨c, hx⟩ : ∃ x, l[n]? = some x := ⟨_, List.getElem?_eq_getElem h⟩
                obtain ⟨b, off, cap, hv, hr, -⟩ := (HL.out.keep CC.out.fr).at_ hx
                cases hv
                have COK := Lib.hid (HL.out.1 c (List.mem_of_getElem? hx))
                have CL := Lib.hid (coinC_len COK.out)
                have PL := Lib.hid (pointC_len COK.out.1)
                have OL := Lib.hid (outC_len COK.out.2)
                have R1 := Lib.hid hr
                have nb := range_new wr (coinC c) 38
                have RC := Lib.hid nb
                have RP := Lib.hid (coin_at nb)
                have RO := Lib.hid (show (wr.alloc (.cells (coinC c).toArray 38)).rangeAt wr.heap.size 33 (outC c.out) by have := coin_out COK.out nb; rwa [Nat.zero_add] at this)
                have FA := Lib.hid ((Fr.refl No wr).alloc (.cells (coinC c).toArray 38))
                have CN1 := Lib.hid (show CoinsIs ((wr.alloc (.cells (coinC c).toArray 38)).alloc (.cells (coinC c).toArray 38)) (.slice (some ⟨wr.heap.size + 1, 0, none⟩) 1 1) [c] by
                  have := coins_new1 (wr.alloc (.cells (coinC c).toArray 38)) COK.out
                  rwa [show (wr.alloc (.cells (coinC c).toArray 38)).heap.size = wr.heap.size + 1 by simp] at this)
                have FB := Lib.hid (FA.out.alloc (.cells (coinC c).toArray 38))
                have PS := Lib.hid (pick_succ (b := bs) hx)
                have hnt := nd_take ND.out hx
                have hcT : c ∈ takeC (putC [] l) ((pick l bs n).map (·.at_)) := mem_takeC.2 ⟨putC_mem.2 (List.mem_of_getElem? hx), fun hm => hnt ((hsub.map (·.at_)).subset hm)⟩
                obtain ⟨t0, t1, t2⟩ := take_one (takeC_srt SRT.out) hcT
                have T0 := Lib.hid t0
                have T1 := Lib.hid t1
                have T2 := Lib.hid (show takeS (takeC (putC [] l) ((pick l bs n).map (·.at_))) [c.at_] = takeC (putC [] l) ((pick l bs n ++ [c]).map (·.at_)) by rw [t2, takeC_snoc2, List.map_append]; rfl)
                have TL := Lib.hid (show (takeC (putC [] l) ((pick l bs n).map (·.at_))).length ≤ 300 by have := List.length_filter_le (fun c : CoinD => !decide (c.at_ ∈ (pick l bs n).map (·.at_))) (putC [] l); unfold takeC; have := SL.out; omega)
                have CA := Lib.hid (CC.out.fr0 FA.out)
                have DA := Lib.hid (DD.out.fr0 FA.out)
                have HOA := Lib.hid (HO.out.alloc (.cells (coinC c).toArray 38))
                clear hr hx nb t0 t1 t2 hnt hcT hsub
                by_cases hbl : n < bs.length
                · have i2 : (n : Int) < (bs.length : Int) := by omega
                  obtain ⟨bb, hbx⟩ : ∃ x, bs[n]? = some x := ⟨_, List.getElem?_eq_getElem hbl⟩
                  obtain ⟨b2, off2, cap2, hv2, hcell⟩ := (HBS.out.keep (CC.out.fr.trans0 FA.out)).at_ hbx
                  cases hv2
                  cases bb with
                  | false =>
                    have PN := Lib.hid (show pick l bs (n + 1) = pick l bs n by rw [PS.out, hbx]; simp)
                    clear hbx
                    go_wp2_with (first | (refine wpList_value rfl (exec_load (ty := 38) rfl rfl R1.out uC rC (by rw [CL.out]; exact infoCoin)) ?_) | (refine wpList_done rfl (exec_store_new (w := wr) (cs := coinC c) (ty := 38) rfl rfl rfl (by rw [CL.out]; rfl) (by rw [CL.out]; exact infoCoin) coinC_one) ?_))
                    go_roundw
                    case rel => exact ⟨n + 1, by simp, by omega, CA.out, by rw [PN.out]; exact DA.out, by rw [PN.out]; exact HOA.out, Nat.le_trans HBW.out FA.out.size⟩
                    case measure => show l.length - (n + 1) < l.length - n; omega
                  | true =>
                    have PN := Lib.hid (show pick l bs (n + 1) = pick l bs n ++ [c] by rw [PS.out, hbx]; simp)
                    clear hbx
                    have hlt : ∀ j, (Value.slice sa (pick l bs n).length sc).ownBlock = some j → B ≤ j ∧ j < wr.heap.size := fun j e => HO.out.lt j e
                    obtain ⟨v5, w5, hap, ho5, f5, -, -⟩ := append_blk (P := Try.prog) _ B 52 52 27 33 36 _ undPoints infoPointZ rfl (by decide) HOA.out (pointC c.at_) PL.out pointC_one (by omega) (by unfold maxLen; omega) (Nat.le_trans HBW.out FA.out.size)
                    have C5 := Lib.hid (CA.out.frV f5 (fun j h1 h2 => by have := VB.out j h1; have := (hlt j h2).1; omega) (fun j h2 => by have := (hlt j h2).1; have := BW.out; omega))
                    have D5 := Lib.hid (DA.out.frV f5 (fun j h1 h2 => by have := UB.out j h1; have := (hlt j h2).1; omega) (fun j h2 => by have := (hlt j h2).1; have := BW.out; omega))
                    have RP5 := Lib.hid (range_keep RP.out f5 (fun e => by have := (hlt _ e).2; omega))
                    have RO5 := Lib.hid (range_keep RO.out f5 (fun e => by have := (hlt _ e).2; omega))
                    have HO5 := Lib.hid (show w5.ownsRow B 27 33 v5 (pick l bs n ++ [c]).length (((pick l bs n ++ [c]).map (·.at_)).flatMap pointC) by simpa using ho5)
                    have Z5 := Lib.hid (show wr.heap.size < w5.heap.size from Nat.lt_of_lt_of_le (by simp) f5.size)
                    obtain ⟨a5, k5, rfl⟩ := ho5.slice.arg.form
                    have HAP := Lib.hid hap
                    clear hap ho5 f5 hlt
                    go_wp2_with (first | (refine wpList_value rfl (exec_load (ty := 38) rfl rfl R1.out uC rC (by rw [CL.out]; exact infoCoin)) ?_) | (refine wpList_done rfl (exec_store_new (w := wr) (cs := coinC c) (ty := 38) rfl rfl rfl (by rw [CL.out]; rfl) (by rw [CL.out]; exact infoCoin) coinC_one) ?_) | (refine wpList_value rfl (exec_load (ty := 27) rfl rfl RP.out uP rP (by rw [PL.out]; exact infoPoint)) ?_) | (refine wpList_value rfl (exec_load (ty := 27) rfl rfl RP5.out uP rP (by rw [PL.out]; exact infoPoint)) ?_) | (refine wpList_value rfl (exec_buildSliceA (t := 52) rfl rfl undPoints infoPointZ2 rfl (by decide) (by decide) PL.out) ?_) | (at_builtin; refine wpList_append_run rfl rfl rfl rfl HAP.out ?_; clear RP) | (go_at_call 21; refine (take_C (D5.out.fr0 ((Fr.refl No w5).alloc (.cells (pointC c.at_).toArray 27))) (points_new1 w5 COK.out.1) (by have := TL.out; show 1 + _ ≤ _; omega)).mono ?_; rintro e w6 ⟨x6, rfl, o6, d6, f6⟩; rw [T0.out]; rw [T1.out] at o6; rw [T2.out] at d6; have D6 := Lib.hid d6; have O6 := Lib.hid o6; have C6 := Lib.hid ((C5.out.fr0 ((Fr.refl No w5).alloc (.cells (pointC c.at_).toArray 27))).frV f6 DIS.out D5.out.lo); have HO6 := Lib.hid (ownsRow_keep (HO5.out.alloc (.cells (pointC c.at_).toArray 27)) f6 (fun j e h => by have := (HO5.out.lt j e).1; have := UB.out j h; omega)); have RO6 := Lib.hid (range_keep (range_keep RO5.out ((Fr.refl No w5).alloc (.cells (pointC c.at_).toArray 27)) id) f6 (fun h => by have := UB.out _ h; have := HBW.out; omega)); have Z6 := Lib.hid (show B ≤ w6.heap.size from Nat.le_trans HBW.out (Nat.le_trans (Nat.le_of_lt Z5.out) (Nat.le_trans ((Fr.refl No w5).alloc (.cells (pointC c.at_).toArray 27)).size f6.size))); clear d6 f6; obtain ⟨gx, cx, rfl, hrx, -⟩ := own_elem (f := outC) (i := 0) (x := c.out) (L := [c.out]) (by decide) (fun o ho => (by rw [List.mem_singleton.1 ho]; exact OL.out)) o6 rfl; rw [Nat.zero_mul] at hrx; have RX6 := Lib.hid hrx; clear o6 hrx))
                    refine wp_region_lexL [false, false, false, false, false, false, false, false, false, false, false, false, false, false, false] (fun W => W.rangeAt gx 0 (outC c.out) ∧ W.rangeAt wr.heap.size 33 (outC c.out)) (by kernel_rfl) (by kernel_rfl) ?_ (fun K hK => ?_)
                    · exact ⟨range_keep RX6.out (Fr.refl No _).drew id, range_keep RO6.out (Fr.refl No _).drew id⟩
                    repeat (first | ((first | with_reducible refine lexL_read ?_ | ((with_reducible refine lexL_readG ?_ ?_); (focus rfl))); apply Exists.intro; refine ⟨?_, ?_⟩; (focus (first | exact lex_load (ty := 36) rfl (fun w h => h.1) uO rO (by rw [OL.out]; exact infoOut) | exact lex_load (ty := 36) rfl (fun w h => h.2) uO rO (by rw [OL.out]; exact infoOut) | exact fun w' h => eqOut.exec_neq (u := (outC c.out).toArray) (v := (outC c.out).toArray) rfl rfl rfl (keyOfOut COK.out.2) (keyOfOut COK.out.2) true ⟨fun _ => rfl, fun _ => rfl⟩ w' | (intro w' hS; obtain _ := hS; go_simp; (try with_reducible rfl); done))); try simp only [Act.put, List.setIfInBounds_toArray, List.set_cons_zero, List.set_cons_succ]) | ((first | ((with_reducible refine lexL_skip (c := false) ?_ ?_ ?_); (focus rfl); (focus rfl)) | ((with_reducible refine lexL_skip (c := true) ?_ ?_ ?_); (focus rfl); (focus rfl)) | ((with_reducible refine lexL_skipU ?_ ?_); (focus rfl))); try simp only [Act.put, List.setIfInBounds_toArray, List.set_cons_zero, List.set_cons_succ]))
                    refine lexL_nil (hK.out _ _ ?_)
                    go_wp2
                    go_roundw
                    case rel => exact ⟨n + 1, by simp, by omega, C6.out.fr0 (Fr.refl No _).drew, by rw [PN.out]; exact D6.out.fr0 (Fr.refl No _).drew, by rw [PN.out]; exact ownsRow_keep HO6.out (Fr.refl No _).drew (fun _ _ => id), Z6.out⟩
                    case measure => show l.length - (n + 1) < l.length - n; omega
                · have i2 : ¬ (n : Int) < (bs.length : Int) := by omega
                  have PN := Lib.hid (show pick l bs (n + 1) = pick l bs n by rw [PS.out, List.getElem?_eq_none (by omega)]; simp)
                  go_wp2_with (first | (refine wpList_value rfl (exec_load (ty := 38) rfl rfl R1.out uC rC (by rw [CL.out]; exact infoCoin)) ?_) | (refine wpList_done rfl (exec_store_new (w := wr) (cs := coinC c) (ty := 38) rfl rfl rfl (by rw [CL.out]; rfl) (by rw [CL.out]; exact infoCoin) coinC_one) ?_))
                  go_roundw
                  case rel => exact ⟨n + 1, by simp, by omega, CA.out, by rw [PN.out]; exact DA.out, by rw [PN.out]; exact HOA.out, Nat.le_trans HBW.out FA.out.size⟩
                  case measure => show l.length - (n + 1) < l.length - n; omega
              · have i1 : ¬ (n : Int) < (l.length : Int) := by omega
                have hpn : ((pick l bs n).map (·.at_)).Nodup := (hsub.map (·.at_)).nodup (by rw [show n = l.length by omega, List.take_length]; exact ND.out)
                have hpm : ∀ c ∈ pick l bs n, c ∈ putC [] l := fun c hc => putC_mem.2 ((List.take_sublist _ _).subset (hsub.subset hc))
                obtain ⟨t0, t1⟩ := take_sub hpn hpm
                have T0 := Lib.hid t0
                have T1 := Lib.hid t1
                have P1 := Lib.hid (ownPoints (S := (pick l bs n).map (·.at_)) (by rw [List.length_map]; exact HO.out) (fun p hp => by obtain ⟨c, hc, rfl⟩ := List.mem_map.1 hp; exact (CC.out.ok c (hpm c hc)).1))
                have TL := Lib.hid (show (takeC (putC [] l) ((pick l bs n).map (·.at_))).length ≤ 300 by have := List.length_filter_le (fun c : CoinD => !decide (c.at_ ∈ (pick l bs n).map (·.at_))) (putC [] l); unfold takeC; have := SL.out; omega)
                clear hpn hpm t0 t1 hsub
                go_wp2_with (first | (go_at_call 21; refine (take_C CC.out P1.out (by rw [List.length_map, SL.out]; omega)).mono ?_; rintro e w7 ⟨x7, rfl, -, c7, f7⟩; rw [T0.out]; rw [T1.out] at c7; have C7 := Lib.hid c7; have D7 := Lib.hid (DD.out.frV f7 (fun j h1 h2 => DIS.out j h2 h1) CC.out.lo); clear c7 f7) | (go_at_call 15; first | (refine (all_C D8.out (by have := TL.out; omega)).mono ?_; rintro e w9 ⟨v9, rfl, o9, f9⟩; have U9 := Lib.hid (U8.out.keep f9); have V9 := Lib.hid (ownCoins o9 D8.out.ok); have D9 := Lib.hid (D8.out.fr0 f9); clear o9 f9) | (refine (all_C C7.out (by have := TL.out; omega)).mono ?_; rintro e w8 ⟨v8, rfl, o8, f8⟩; have U8 := Lib.hid (ownCoins o8 C7.out.ok); have D8 := Lib.hid (D7.out.fr0 f8); clear o8 f8)) | (go_at_call 18; refine (sameCoins_any _ U9.out V9.out (by have := TL.out; omega) (by have := TL.out; omega)).mono ?_; rintro e w10 ⟨bb, rfl, hbb, f10⟩; obtain rfl : bb = true := hbb.2 rfl))
                go_ret
                exact ⟨by rfl, D9.out.fr.trans0 f10⟩
      · obtain ⟨e0, e1⟩ := putE_12 (S := []) (l := l) hnd
        have E0 := Lib.hid e0
        have E1 := Lib.hid e1
        clear hnd e0 e1
        go_wp2_with (first | (go_at_call 14; refine (put_C C4.out (HL.out.keep C4.out.fr) (by show l.length + 0 ≤ _; omega)).mono ?_; rintro e w5 ⟨rfl, c5, f5⟩; rw [E0.out]; rw [E1.out] at c5; have C5 := Lib.hid c5; clear c5 f5) | (go_at_call 17; refine (len_C C5.out).mono ?_; rintro e w6 ⟨rfl, f6⟩))
        go_ret
        exact ⟨by rfl, (C5.out.fr0 f6).fr⟩
    · have j2 : (300 : Int) < (bs.length : Int) := by omega
      go_wp2_with (go_at_call 11; refine (many_any _ ua l.length uc).mono ?_; rintro e w2 ⟨rfl, e2⟩; rw [e2, J1.out]; clear e2)
      go_ret
      exact ⟨by rfl, F1.out⟩
  · have j1 : decide (300 < l.length) = true := decide_eq_true (by omega)
    go_wp2_with (go_at_call 11; refine (many_any _ ua l.length uc).mono ?_; rintro e w2 ⟨rfl, e2⟩; rw [e2, j1]; clear e2)
    go_ret
    exact ⟨by rfl, F1.out⟩
end Go.Proofs.Ytoaefhjmpfchiaa
