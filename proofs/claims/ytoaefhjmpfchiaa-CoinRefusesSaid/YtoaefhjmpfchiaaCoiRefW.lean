/- CoinRefuses: the walk. -/
import Derived.Test.YtoaefhjmpfchiaaCoiBackW
import Derived.Test.YtoaefhjmpfchiaaTwoRows
import Derived.Test.YtoaefhjmpfchiaaCoiR2
import Derived.Deep.Cut
namespace Go.Proofs.Ytoaefhjmpfchiaa
open Go Go.RowKit Go.Maps Go.MapKept

theorem own_ne {w : World} {B k n : Nat} {e : TypeId} {v : Value} {xs : List Value} (h : w.ownsRow B e k v n xs) (hn : n ≠ 0) : v ≠ .slice none 0 0 := by
  rcases h.2 with ⟨-, h0⟩ | ⟨g, cap, cur, rfl, -⟩
  · exact absurd h0 hn
  · intro e; cases e
theorem pts_one (S : List PointD) : ∀ u ∈ S.flatMap pointC, u.oneCell' = true := by
  intro u hu
  obtain ⟨p, -, hp⟩ := List.mem_flatMap.1 hu
  exact pointC_one u hp
theorem coins_new3 (w : World) {c d e : CoinD} (hc : c.ok) (hd : d.ok) (he : e.ok) : CoinsIs (w.alloc (.cells (coinC c ++ (coinC d ++ coinC e)).toArray 38)) (.slice (some ⟨w.heap.size, 0, none⟩) 3 3) [c, d, e] := by
  refine ⟨fun x hx => ?_, .inl (.inr ⟨w.heap.size, 0, 3, rfl, Nat.le_refl _, by unfold maxLen; omega, fun j u hj => ?_, by simp⟩)⟩
  · simp at hx; rcases hx with rfl | rfl | rfl <;> assumption
  rw [List.flatMap_cons, List.flatMap_cons, List.flatMap_cons, List.flatMap_nil, List.append_nil] at hj
  exact range_new w (coinC c ++ (coinC d ++ coinC e)) 38 j u hj
def refQ (l : List CoinD) (k : Nat) (c : CoinD) : List PointD := (l.map (·.at_)).take (k + 1) ++ ([c.at_] ++ (l.map (·.at_)).drop (k + 1))
theorem refQ_perm (l : List CoinD) (k : Nat) (c : CoinD) : (refQ l k c).Perm (c.at_ :: l.map (·.at_)) := by
  unfold refQ
  conv => rhs; rw [← List.take_append_drop (k + 1) (l.map (·.at_))]
  exact List.perm_middle
theorem refQ_len (l : List CoinD) (k : Nat) (c : CoinD) : (refQ l k c).length = l.length + 1 := by rw [(refQ_perm l k c).length_eq]; simp
theorem ref_there {l : List CoinD} {c : CoinD} (k : Nat) (h : hasC (putC [] l) c.at_ = true) : takeE (putC [] l) (refQ l k c) = 12 ∧ takeO (putC [] l) (refQ l k c) = [] ∧ takeS (putC [] l) (refQ l k c) = putC [] l := by
  have hn : ¬ (refQ l k c).Nodup := by
    intro hnd
    have := (refQ_perm l k c).nodup_iff.1 hnd
    obtain ⟨x, hx, he⟩ := hasC_iff.1 h
    rcases mem_putC.1 hx with h' | h'
    · cases h'
    · exact (List.nodup_cons.1 this).1 (List.mem_map.2 ⟨x, h', he⟩)
  have e : takeE (putC [] l) (refQ l k c) = 12 := by unfold takeE; rw [if_neg hn]
  refine ⟨e, ?_, ?_⟩
  · unfold takeO; rw [if_neg (by rw [e]; decide)]
  · unfold takeS; rw [if_neg (by rw [e]; decide)]
theorem ref_none {l : List CoinD} {c : CoinD} (k : Nat) (hnd : (l.map (·.at_)).Nodup) (h : hasC (putC [] l) c.at_ = false) : takeE (putC [] l) (refQ l k c) = 9 ∧ takeO (putC [] l) (refQ l k c) = [] ∧ takeS (putC [] l) (refQ l k c) = putC [] l := by
  have hn : (refQ l k c).Nodup := by
    refine (refQ_perm l k c).nodup_iff.2 (List.nodup_cons.2 ⟨fun hm => ?_, hnd⟩)
    obtain ⟨x, hx, he⟩ := List.mem_map.1 hm
    exact hasC_not.1 h x (mem_putC.2 (.inr hx)) he
  have e : takeE (putC [] l) (refQ l k c) = 9 := by
    unfold takeE
    rw [if_pos hn, if_neg]
    intro ha
    have := List.all_eq_true.1 ha c.at_ (by unfold refQ; simp)
    rw [h] at this
    cases this
  refine ⟨e, ?_, ?_⟩
  · unfold takeO; rw [if_neg (by rw [e]; decide)]
  · unfold takeS; rw [if_neg (by rw [e]; decide)]
theorem elPoint : ElT Try.prog 52 27 33 36 (.agg (pointC point0).toArray) := ⟨undPoints, infoPointZ, by kernel_rfl, by decide, by decide⟩
theorem pts_split (S : List PointD) (q : Nat) : S.flatMap pointC = (S.take q).flatMap pointC ++ (S.drop q).flatMap pointC := by
  rw [← List.flatMap_append, List.take_append_drop]
theorem pts_head {w : World} {b o cap : Nat} {S : List PointD} (h : PointsIs w (.slice (some ⟨b, o, none⟩) S.length cap) S) {k : Nat} (hk : k < S.length) :
    (∀ w', (Instr.slice 52 (.slice (some ⟨b, o, none⟩) S.length cap) none (some (.int .i64 ((k : Int) + 1))) none).run Try.prog w' = .ok (.slice (some ⟨b, o, none⟩) (k + 1) cap) w') ∧ ArgIs w (.slice (some ⟨b, o, none⟩) (k + 1) cap) (k + 1) ((S.take (k + 1)).flatMap pointC) := by
  have hcap := ArgIs.cap h.2
  refine ⟨fun w' => ?_, ?_⟩
  · have := cut_points ⟨b, o, none⟩ S.length cap (k + 1) (by omega) w'
    simpa using this
  · rcases h.2 with (⟨e, -, -⟩ | ⟨b', off', cap', e, h1, h2, h3, h4⟩) | ⟨a', cap', e, e2, -⟩
    · cases e
    · injection e with e1 e2 e3
      injection e1 with e1
      injection e1 with e1 e4
      subst e1 e3 e4
      refine .inl (.inr ⟨b, o, cap, rfl, by omega, h2, fun j u hj => h3 j u ?_, h4⟩)
      rw [pts_split S (k + 1), List.getElem?_append_left (List.getElem?_eq_some_iff.1 hj).1]
      exact hj
    · omega
theorem pts_tail {w : World} {b o cap : Nat} {S : List PointD} (h : PointsIs w (.slice (some ⟨b, o, none⟩) S.length cap) S) {k : Nat} (hk : k < S.length) :
    ∃ ad, (∀ w', (Instr.slice 52 (.slice (some ⟨b, o, none⟩) S.length cap) (some (.int .i64 ((k : Int) + 1))) none none).run Try.prog w' = .ok (.slice (some ad) (S.length - (k + 1)) (cap - (k + 1))) w') ∧ ArgIs w (.slice (some ad) (S.length - (k + 1)) (cap - (k + 1))) (S.length - (k + 1)) ((S.drop (k + 1)).flatMap pointC) := by
  have hcap := ArgIs.cap h.2
  refine ⟨if cap = k + 1 then ⟨b, o, none⟩ else ⟨b, o + (k + 1) * 33, none⟩, fun w' => ?_, ?_⟩
  · rw [run_slice_l w' 52 (some ⟨b, o, none⟩) S.length cap undPoints' .i64 ((k : Int) + 1) (by omega) (by omega), sizePointE]
    have e : ((k : Int) + 1).toNat = k + 1 := by omega
    simp only [Result.andThen, sliced, e]
    by_cases hc : cap = k + 1
    · simp [hc]
    · rw [if_neg hc, if_neg hc]
      simp [addr_add]
  · rcases h.2 with (⟨e, -, -⟩ | ⟨b', off', cap', e, h1, h2, h3, h4⟩) | ⟨a', cap', e, e2, -⟩
    · cases e
    · injection e with e1 e2 e3
      injection e1 with e1
      injection e1 with e1 e4
      subst e1 e3 e4
      by_cases hc : cap = k + 1
      · have hn : S.length - (k + 1) = 0 := by omega
        have hd : S.drop (k + 1) = [] := List.drop_eq_nil_of_le (by omega)
        rw [hn, hd]
        exact .inr ⟨_, _, rfl, rfl, rfl, by omega⟩
      · rw [if_neg hc]
        refine .inl (.inr ⟨b, o + (k + 1) * 33, cap - (k + 1), rfl, by omega, by omega, fun j u hj => ?_, h4⟩)
        have hl : ((S.take (k + 1)).flatMap pointC).length = (k + 1) * 33 := by
          rw [flatR_len pointC 33 _ (fun a ha => pointC_len (h.1 a (List.mem_of_mem_take ha))), List.length_take]
          congr 1
          omega
        have := h3 ((k + 1) * 33 + j) u (by
          rw [pts_split S (k + 1), List.getElem?_append_right (by omega), hl]
          simpa using hj)
        rw [Nat.add_assoc]
        exact this
    · omega
set_option maxRecDepth 20000 in
set_option maxHeartbeats 8000000 in
theorem refuses_any (w : World) {u : Value} {l : List CoinD} (hl : CoinsIs w u l) {c : CoinD} (hc : c.ok) (a : Nat) (ha : a ≤ 255) :
    Calls Try.prog 7 #[u, .agg (coinC c).toArray, .int .u8 a] w fun e w' => e = .returned (.bool true) ∧ Fr No w w' := by
  obtain ⟨dC, uC, rC⟩ := descCoin
  obtain ⟨dP, uP, rP⟩ := descPoint
  obtain ⟨ua, uc, rfl⟩ := hl.2.form
  have zc := zeroCoin
  have zo := zeroOutC
  have HL := Lib.hid hl
  have COK := Lib.hid hc
  have CL := Lib.hid (coinC_len hc)
  have PL := Lib.hid (pointC_len hc.1)
  have RQ0 := Lib.hid (range_new w (coinC c) 38)
  have F0 := Lib.hid ((Fr.refl No w).alloc (.cells (coinC c).toArray 38))
  clear hl hc
  go_enter Try.func7, Try.ntmps7
  go_wp2_with fail
  have HSW := Lib.hid (show w.heap.size < (w.alloc (.cells (coinC c).toArray 38)).heap.size by simp)
  generalize hq0 : w.heap.size = q0 at *
  generalize w.alloc (.cells (coinC c).toArray 38) = w0 at *
  refine (aliveC_any w0).mono ?_
  rintro e w1 ⟨rfl, f1⟩
  have F1 := Lib.hid (F0.out.trans0 f1)
  have G1 := Lib.hid f1
  clear f1
  by_cases hN : l.length ≤ 300
  · have J1 := Lib.hid (show decide (300 < l.length) = false from decide_eq_false (by omega))
    have hlen := len_coins
    by_cases h0 : l.length = 0
    · have j0 : (l.length : Int) = 0 := by omega
      clear h0
      go_wp2_with (go_at_call 11; refine (many_any _ ua l.length uc).mono ?_; rintro e w2 ⟨rfl, e2⟩; rw [e2, J1.out]; clear e2)
      go_ret
      exact ⟨by rfl, F1.out⟩
    · have j0 : ¬ (l.length : Int) = 0 := by omega
      by_cases hnd : (l.map (·.at_)).Nodup
      · have ND := Lib.hid hnd
        have SL := Lib.hid (show (putC [] l).length = l.length by rw [putC_len]; simp)
        go_wp2_with (first | (go_at_call 11; refine (many_any _ ua l.length uc).mono ?_; rintro e w2 ⟨rfl, e2⟩; rw [e2, J1.out]; clear e2) | (go_at_call 12; refine (new_C w w1 F1.out (HL.out.keep F1.out) (by omega) ND.out).mono ?_; rintro e w3 ⟨p, rfl, V, c3, f3, hV⟩; have C3 := Lib.hid c3; have G3 := Lib.hid (G1.out.trans0 f3); have HV := Lib.hid hV; clear c3 f3 hV) | (go_at_call 15; refine (all_C C3.out (by rw [SL.out]; omega)).mono ?_; rintro e w4 ⟨v4, rfl, o4, f4⟩; have O4 := Lib.hid o4; have C4 := Lib.hid (C3.out.fr0 f4); have G4 := Lib.hid (G3.out.trans0 f4); clear o4 f4) | (go_at_call 25; refine (ats_any _ (HL.out.keep C4.out.fr) (by omega)).mono ?_; rintro e w5 ⟨v5, rfl, o5, f5⟩; have O5 := Lib.hid o5; have O45 := Lib.hid (ownsRow_keep O4.out f5 (fun _ _ => id)); have C5 := Lib.hid (C4.out.fr0 f5); have G5 := Lib.hid (G4.out.trans0 f5); have RQ5 := Lib.hid (range_keep RQ0.out (G4.out.trans0 f5) id); have RP5 := Lib.hid (coin_at RQ5.out); clear o5 f5) | (refine wpList_value rfl (exec_load (ty := 27) rfl rfl RP5.out uP rP (by rw [PL.out]; exact infoPoint)) ?_))
        refine (find_C C5.out COK.out.1).mono ?_
        rintro e w6 ⟨rfl, f6⟩
        have XO := Lib.hid (outOf_ok C5.out.ok c.at_)
        have OL := Lib.hid (outC_len XO.out)
        have F6 := Lib.hid (f6.alloc (.cells (outC (outOf (putC [] l) c.at_)).toArray 36))
        rw [show ((a : Int) % (l.length : Int)) = ((a % l.length : Nat) : Int) by simp]
        have hkl : a % l.length < l.length := Nat.mod_lt _ (by omega)
        generalize a % l.length = k at *
        have i1 : (k : Int) < (l.length : Int) := by omega
        obtain ⟨x, hx⟩ : ∃ x, l[k]? = some x := ⟨_, List.getElem?_eq_getElem hkl⟩
        obtain ⟨ub, uo, ucap, hv, hr, hub⟩ := HL.out.at_ hx
        cases hv
        have HX := Lib.hid (List.mem_of_getElem? hx)
        have XOK := Lib.hid (HL.out.1 x HX.out)
        have XL := Lib.hid (coinC_len XOK.out)
        have RX := Lib.hid hr
        have PTS := Lib.hid (ownPoints (S := l.map (·.at_)) (by rw [List.length_map]; exact O5.out) (fun p hp => by obtain ⟨c, hc, rfl⟩ := List.mem_map.1 hp; exact (HL.out.1 c hc).1))
        have NQ := Lib.hid (show ¬ V q0 from fun h => by have := HV.out q0 h; have := HSW.out; have := G1.out.size; omega)
        have OV := Lib.hid (show ∀ j, v4.ownBlock = some j → ¬ V j from fun j e h => by have := (O4.out.lt j e).1; have := C3.out.hi j h; omega)
        obtain ⟨pb, po, pc, rfl⟩ : ∃ b o cp, v5 = .slice (some ⟨b, o, none⟩) l.length cp := by
          rcases O5.out.2 with ⟨-, h⟩ | ⟨g, cap, cur, rfl, -⟩
          · omega
          · exact ⟨g, 0, cap, rfl⟩
        have UBL := Lib.hid hub
        clear hx hr hub f6
        have PT := Lib.hid (show PointsIs w5 (.slice (some ⟨pb, po, none⟩) (l.map (·.at_)).length pc) (l.map (·.at_)) by rw [List.length_map]; exact PTS.out)
        obtain ⟨h1, h2⟩ := pts_head PT.out (k := k) (by rw [List.length_map]; omega)
        obtain ⟨ad, h3, h4⟩ := pts_tail PT.out (k := k) (by rw [List.length_map]; omega)
        rw [List.length_map] at h1 h3 h4
        have AH := Lib.hid h2
        have AT := Lib.hid h4
        have LH := Lib.hid (show (((l.map (·.at_)).take (k + 1)).flatMap pointC).length = (k + 1) * 33 by
          rw [flatR_len pointC 33 _ (fun a ha => pointC_len (PT.out.1 a (List.mem_of_mem_take ha))), List.length_take, List.length_map]
          congr 1
          omega)
        have LT := Lib.hid (show (((l.map (·.at_)).drop (k + 1)).flatMap pointC).length = (l.length - (k + 1)) * 33 by
          rw [flatR_len pointC 33 _ (fun a ha => pointC_len (PT.out.1 a (List.mem_of_mem_drop ha))), List.length_drop, List.length_map])
        have QOK := Lib.hid (show ∀ q ∈ refQ l k c, q.ok from fun q hq => by
          rcases List.mem_cons.1 ((refQ_perm l k c).mem_iff.1 hq) with rfl | h
          · exact COK.out.1
          · exact PT.out.1 q h)
        have PQ := Lib.hid (fun (wj : World) (vj : Value) (B : Nat) (h : wj.ownsRow B 27 33 vj (0 + (k + 1) + (1 + (l.length - (k + 1)))) ([] ++ ((l.map (·.at_)).take (k + 1)).flatMap pointC ++ (pointC c.at_ ++ ((l.map (·.at_)).drop (k + 1)).flatMap pointC))) => (⟨QOK.out, by
          have e1 : (refQ l k c).length = 0 + (k + 1) + (1 + (l.length - (k + 1))) := by rw [refQ_len]; omega
          have e2 : (refQ l k c).flatMap pointC = [] ++ ((l.map (·.at_)).take (k + 1)).flatMap pointC ++ (pointC c.at_ ++ ((l.map (·.at_)).drop (k + 1)).flatMap pointC) := by
            unfold refQ
            simp [List.flatMap_append]
          rw [e1, e2]
          exact h.slice.arg⟩ : PointsIs wj vj (refQ l k c)))
        have hw : IntKind.i64.wrap ((k : Int) + 1) = (k : Int) + 1 := by rw [IntWalk.i64_in _ (by omega)]
        clear h2 h4
        cases hh : hasC (putC [] l) c.at_ with
        | true =>
          obtain ⟨e0, e1, e2⟩ := ref_there k hh
          have E0 := Lib.hid e0
          have E1 := Lib.hid e1
          have E2 := Lib.hid e2
          have HH := Lib.hid hh
          clear e0 e1 e2 hh
          go_wp2_with (refine wpList_done rfl (exec_store_new (w := w6) (cs := outC (outOf (putC [] l) c.at_)) (ty := 36) rfl rfl rfl (by rw [OL.out]; rfl) (by rw [OL.out]; exact infoOut) outC_one) ?_)
          generalize w6.alloc (.cells (outC (outOf (putC [] l) c.at_)).toArray 36) = W at *
          have CW0 := Lib.hid (C5.out.fr0 F6.out.drew)
          have GW := Lib.hid F6.out.drew
          have AB0 := Lib.hid (AB.start (e := 27) (k := 33) W.drew)
          have RK := Lib.hid (fun (w' : World) (f : Fr No W.drew w') => range_keep RQ5.out (F6.out.drew.trans0 f) id)
          go_cut [15, 16] from 50 (fun xv fv wc => fv = .int .i64 12 ∧ (∃ a' c', xv = .slice a' 0 c') ∧ CS w wc p V (putC [] l) ∧ Fr V W.drew wc)
          case first =>
            refine wp_region_lexT 22 [0, 1, 2, 3, 4, 5, 6, 7, 8, 9, 10, 11, 12, 13, 14, 15, 16, 17, 18, 19, 20, 21] (fun w' => w'.rangeAt q0 0 (coinC c)) (by kernel_rfl) (by kernel_rfl) (by kernel_rfl) (by kernel_rfl) ?_ (fun K hK => ?_)
            · exact RK.out _ (Fr.refl No _)
            (((first | (refine lexT_rd 0 (by kernel_rfl) rfl rfl ?_; apply Exists.intro; refine ⟨?_, ?_⟩; (focus (first | exact lex_load (ty := 27) rfl (fun w h => coin_at h) uP rP (by rw [PL.out]; exact infoPoint) | (intro w' hS; obtain s1 := hS; go_simp; (try with_reducible rfl); done)))) | (refine lexT_sk 0 (by kernel_rfl) rfl rfl ?_)); try simp only [Act.put, List.setIfInBounds_toArray, List.set_cons_zero, List.set_cons_succ]); ((first | (refine lexT_rd 2 (by kernel_rfl) rfl rfl ?_; apply Exists.intro; refine ⟨?_, ?_⟩; (focus (first | exact lex_load (ty := 27) rfl (fun w h => coin_at h) uP rP (by rw [PL.out]; exact infoPoint) | (intro w' hS; obtain s1 := hS; go_simp; (try with_reducible rfl); done)))) | (refine lexT_sk 2 (by kernel_rfl) rfl rfl ?_)); try simp only [Act.put, List.setIfInBounds_toArray, List.set_cons_zero, List.set_cons_succ]); ((first | (refine lexT_rd 3 (by kernel_rfl) rfl rfl ?_; apply Exists.intro; refine ⟨?_, ?_⟩; (focus (first | exact lex_load (ty := 27) rfl (fun w h => coin_at h) uP rP (by rw [PL.out]; exact infoPoint) | (intro w' hS; obtain s1 := hS; go_simp; (try with_reducible rfl); done)))) | (refine lexT_sk 3 (by kernel_rfl) rfl rfl ?_)); try simp only [Act.put, List.setIfInBounds_toArray, List.set_cons_zero, List.set_cons_succ]); ((first | (refine lexT_rd 4 (by kernel_rfl) rfl rfl ?_; apply Exists.intro; refine ⟨?_, ?_⟩; (focus (first | exact lex_load (ty := 27) rfl (fun w h => coin_at h) uP rP (by rw [PL.out]; exact infoPoint) | (intro w' hS; obtain s1 := hS; go_simp; (try with_reducible rfl); done)))) | (refine lexT_sk 4 (by kernel_rfl) rfl rfl ?_)); try simp only [Act.put, List.setIfInBounds_toArray, List.set_cons_zero, List.set_cons_succ]); ((first | (refine lexT_rd 5 (by kernel_rfl) rfl rfl ?_; apply Exists.intro; refine ⟨?_, ?_⟩; (focus (first | exact lex_load (ty := 27) rfl (fun w h => coin_at h) uP rP (by rw [PL.out]; exact infoPoint) | (intro w' hS; obtain s1 := hS; go_simp; (try with_reducible rfl); done)))) | (refine lexT_sk 5 (by kernel_rfl) rfl rfl ?_)); try simp only [Act.put, List.setIfInBounds_toArray, List.set_cons_zero, List.set_cons_succ]); ((first | (refine lexT_rd 7 (by kernel_rfl) rfl rfl ?_; apply Exists.intro; refine ⟨?_, ?_⟩; (focus (first | exact lex_load (ty := 27) rfl (fun w h => coin_at h) uP rP (by rw [PL.out]; exact infoPoint) | (intro w' hS; obtain s1 := hS; go_simp; (try with_reducible rfl); done)))) | (refine lexT_sk 7 (by kernel_rfl) rfl rfl ?_)); try simp only [Act.put, List.setIfInBounds_toArray, List.set_cons_zero, List.set_cons_succ]); ((first | (refine lexT_rd 8 (by kernel_rfl) rfl rfl ?_; apply Exists.intro; refine ⟨?_, ?_⟩; (focus (first | exact lex_load (ty := 27) rfl (fun w h => coin_at h) uP rP (by rw [PL.out]; exact infoPoint) | (intro w' hS; obtain s1 := hS; go_simp; (try with_reducible rfl); done)))) | (refine lexT_sk 8 (by kernel_rfl) rfl rfl ?_)); try simp only [Act.put, List.setIfInBounds_toArray, List.set_cons_zero, List.set_cons_succ]); ((first | (refine lexT_rd 10 (by kernel_rfl) rfl rfl ?_; apply Exists.intro; refine ⟨?_, ?_⟩; (focus (first | exact lex_load (ty := 27) rfl (fun w h => coin_at h) uP rP (by rw [PL.out]; exact infoPoint) | (intro w' hS; obtain s1 := hS; go_simp; (try with_reducible rfl); done)))) | (refine lexT_sk 10 (by kernel_rfl) rfl rfl ?_)); try simp only [Act.put, List.setIfInBounds_toArray, List.set_cons_zero, List.set_cons_succ]); ((first | (refine lexT_rd 11 (by kernel_rfl) rfl rfl ?_; apply Exists.intro; refine ⟨?_, ?_⟩; (focus (first | exact lex_load (ty := 27) rfl (fun w h => coin_at h) uP rP (by rw [PL.out]; exact infoPoint) | (intro w' hS; obtain s1 := hS; go_simp; (try with_reducible rfl); done)))) | (refine lexT_sk 11 (by kernel_rfl) rfl rfl ?_)); try simp only [Act.put, List.setIfInBounds_toArray, List.set_cons_zero, List.set_cons_succ]); ((first | (refine lexT_rd 12 (by kernel_rfl) rfl rfl ?_; apply Exists.intro; refine ⟨?_, ?_⟩; (focus (first | exact lex_load (ty := 27) rfl (fun w h => coin_at h) uP rP (by rw [PL.out]; exact infoPoint) | (intro w' hS; obtain s1 := hS; go_simp; (try with_reducible rfl); done)))) | (refine lexT_sk 12 (by kernel_rfl) rfl rfl ?_)); try simp only [Act.put, List.setIfInBounds_toArray, List.set_cons_zero, List.set_cons_succ]); ((first | (refine lexT_rd 13 (by kernel_rfl) rfl rfl ?_; apply Exists.intro; refine ⟨?_, ?_⟩; (focus (first | exact lex_load (ty := 27) rfl (fun w h => coin_at h) uP rP (by rw [PL.out]; exact infoPoint) | (intro w' hS; obtain s1 := hS; go_simp; (try with_reducible rfl); done)))) | (refine lexT_sk 13 (by kernel_rfl) rfl rfl ?_)); try simp only [Act.put, List.setIfInBounds_toArray, List.set_cons_zero, List.set_cons_succ]))
            refine lexT_ef2 1 9 (by kernel_rfl) rfl rfl rfl rfl (fun K' hK' => ?_) (fun K' hK' => ?_)
            · skip
              obtain ⟨va1, w1, run, ab⟩ := AB0.out.new0 elPoint
              have AB1 := Lib.hid ab
              refine wp_value (exec_bldS (vs := []) rfl rfl run) ?_
              clear run ab
              refine hK'.out _ _ ?_ (fun hS => ?_)
              · exact RK.out _ AB1.out.fr
              try simp only [Act.put, List.setIfInBounds_toArray, List.set_cons_zero, List.set_cons_succ]
              refine lexT_ef2 6 9 (by kernel_rfl) rfl rfl rfl rfl (fun K' hK' => ?_) (fun K' hK' => ?_)
              · skip
                obtain ⟨va2, w2, run, ab⟩ := AB1.out.app elPoint (AH.out.keep (GW.out.trans0 AB1.out.fr)) LH.out (pts_one _) (by omega) (by unfold maxLen; omega) (by intro e; cases e) _
                have AB2 := Lib.hid ab
                refine wp_value (exec_append rfl rfl rfl run) ?_
                clear run ab
                refine hK'.out _ _ ?_ (fun hS => ?_)
                · exact RK.out _ AB2.out.fr
                try simp only [Act.put, List.setIfInBounds_toArray, List.set_cons_zero, List.set_cons_succ]
                refine lexT_ef1 9 (by kernel_rfl) rfl rfl (fun K' hK' => ?_)
                obtain ⟨vb3, w3, run, ab⟩ := AB2.out.swap.new1 elPoint (by decide) PL.out
                have AB3 := Lib.hid ab.swap
                refine wp_value (exec_bldS (vs := [(0, .agg (pointC c.at_).toArray)]) rfl rfl run) ?_
                clear run ab
                refine hK'.out _ _ ?_ (fun hS => ?_)
                · exact RK.out _ AB3.out.fr
                try simp only [Act.put, List.setIfInBounds_toArray, List.set_cons_zero, List.set_cons_succ]
                refine lexT_ef1 14 (by kernel_rfl) rfl rfl (fun K' hK' => ?_)
                obtain ⟨vb4, w4, run, ab⟩ := AB3.out.swap.app elPoint (AT.out.keep (GW.out.trans0 AB3.out.fr)) LT.out (pts_one _) (by omega) (by unfold maxLen; omega) (by intro e; cases e) _
                have AB4 := Lib.hid ab.swap
                refine wp_value (exec_append rfl rfl rfl run) ?_
                clear run ab
                refine hK'.out _ _ ?_ (fun hS => ?_)
                · exact RK.out _ AB4.out.fr
                try simp only [Act.put, List.setIfInBounds_toArray, List.set_cons_zero, List.set_cons_succ]
                refine lexT_ef1 15 (by kernel_rfl) rfl rfl (fun K' hK' => ?_)
                obtain ⟨vj, wj, run, oj, fj⟩ := AB4.out.join elPoint (by rw [List.length_append, PL.out, LT.out]; omega) (fun u hu => (List.mem_append.1 hu).elim (pointC_one u) (pts_one _ u)) (by omega) (by unfold maxLen; omega) (own_ne (AB4.out.b1 _ _ _ rfl) (by omega)) _
                have PJ := Lib.hid (PQ.out _ _ _ oj)
                have FJ := Lib.hid fj
                refine wp_value (exec_append rfl rfl rfl run) ?_
                clear run oj fj
                refine hK'.out _ _ ?_ (fun hS => ?_)
                · exact RK.out _ FJ.out
                try simp only [Act.put, List.setIfInBounds_toArray, List.set_cons_zero, List.set_cons_succ]
                refine lexT_ef1 16 (by kernel_rfl) rfl rfl (fun K' hK' => ?_)
                go_simp
                refine (take_C (CW0.out.fr0 FJ.out) PJ.out (by rw [refQ_len, SL.out]; omega)).mono ?_
                rintro e wt ⟨xt, rfl, ot, ct, ft⟩
                rw [E0.out]
                rw [E1.out] at ot
                rw [E2.out] at ct
                obtain ⟨xa, xc, rfl⟩ := ot.slice.arg.form
                have CT := Lib.hid ct
                have FT := Lib.hid ((FJ.out.of0).trans ft (fun _ _ h => h))
                have FT1 := Lib.hid (range_keep (RK.out _ FJ.out) ft NQ.out)
                clear ot ct ft
                refine hK'.out _ _ ?_ (fun hS => ?_)
                · exact FT1.out
                try simp only [Act.put, List.setIfInBounds_toArray, List.set_cons_zero, List.set_cons_succ]
                (((first | (refine lexT_rd 17 (by kernel_rfl) rfl rfl ?_; apply Exists.intro; refine ⟨?_, ?_⟩; (focus (first | (intro w' hS; obtain s1 := hS; go_simp; (try with_reducible rfl); done)))) | (refine lexT_sk 17 (by kernel_rfl) rfl rfl ?_)); try simp only [Act.put, List.setIfInBounds_toArray, List.set_cons_zero, List.set_cons_succ]); ((first | (refine lexT_rd 18 (by kernel_rfl) rfl rfl ?_; apply Exists.intro; refine ⟨?_, ?_⟩; (focus (first | (intro w' hS; obtain s1 := hS; go_simp; (try with_reducible rfl); done)))) | (refine lexT_sk 18 (by kernel_rfl) rfl rfl ?_)); try simp only [Act.put, List.setIfInBounds_toArray, List.set_cons_zero, List.set_cons_succ]); ((first | (refine lexT_rd 19 (by kernel_rfl) rfl rfl ?_; apply Exists.intro; refine ⟨?_, ?_⟩; (focus (first | (intro w' hS; obtain s1 := hS; go_simp; (try with_reducible rfl); done)))) | (refine lexT_sk 19 (by kernel_rfl) rfl rfl ?_)); try simp only [Act.put, List.setIfInBounds_toArray, List.set_cons_zero, List.set_cons_succ]); ((first | (refine lexT_rd 20 (by kernel_rfl) rfl rfl ?_; apply Exists.intro; refine ⟨?_, ?_⟩; (focus (first | (intro w' hS; obtain s1 := hS; go_simp; (try with_reducible rfl); done)))) | (refine lexT_sk 20 (by kernel_rfl) rfl rfl ?_)); try simp only [Act.put, List.setIfInBounds_toArray, List.set_cons_zero, List.set_cons_succ]); ((first | (refine lexT_rd 21 (by kernel_rfl) rfl rfl ?_; apply Exists.intro; refine ⟨?_, ?_⟩; (focus (first | (intro w' hS; obtain s1 := hS; go_simp; (try with_reducible rfl); done)))) | (refine lexT_sk 21 (by kernel_rfl) rfl rfl ?_)); try simp only [Act.put, List.setIfInBounds_toArray, List.set_cons_zero, List.set_cons_succ]))
                refine lexT_nil (hK.out _ _ ?_)
                go_wp2_with fail
                go_meet
                case rel => exact ⟨rfl, ⟨xa, xc, rfl⟩, CT.out, FT.out⟩
              · skip
                obtain ⟨vb2, w2, run, ab⟩ := AB1.out.swap.new1 elPoint (by decide) PL.out
                have AB2 := Lib.hid ab.swap
                refine wp_value (exec_bldS (vs := [(0, .agg (pointC c.at_).toArray)]) rfl rfl run) ?_
                clear run ab
                refine hK'.out _ _ ?_ (fun hS => ?_)
                · exact RK.out _ AB2.out.fr
                try simp only [Act.put, List.setIfInBounds_toArray, List.set_cons_zero, List.set_cons_succ]
                refine lexT_ef1 6 (by kernel_rfl) rfl rfl (fun K' hK' => ?_)
                obtain ⟨va3, w3, run, ab⟩ := AB2.out.app elPoint (AH.out.keep (GW.out.trans0 AB2.out.fr)) LH.out (pts_one _) (by omega) (by unfold maxLen; omega) (by intro e; cases e) _
                have AB3 := Lib.hid ab
                refine wp_value (exec_append rfl rfl rfl run) ?_
                clear run ab
                refine hK'.out _ _ ?_ (fun hS => ?_)
                · exact RK.out _ AB3.out.fr
                try simp only [Act.put, List.setIfInBounds_toArray, List.set_cons_zero, List.set_cons_succ]
                refine lexT_ef1 14 (by kernel_rfl) rfl rfl (fun K' hK' => ?_)
                obtain ⟨vb4, w4, run, ab⟩ := AB3.out.swap.app elPoint (AT.out.keep (GW.out.trans0 AB3.out.fr)) LT.out (pts_one _) (by omega) (by unfold maxLen; omega) (by intro e; cases e) _
                have AB4 := Lib.hid ab.swap
                refine wp_value (exec_append rfl rfl rfl run) ?_
                clear run ab
                refine hK'.out _ _ ?_ (fun hS => ?_)
                · exact RK.out _ AB4.out.fr
                try simp only [Act.put, List.setIfInBounds_toArray, List.set_cons_zero, List.set_cons_succ]
                refine lexT_ef1 15 (by kernel_rfl) rfl rfl (fun K' hK' => ?_)
                obtain ⟨vj, wj, run, oj, fj⟩ := AB4.out.join elPoint (by rw [List.length_append, PL.out, LT.out]; omega) (fun u hu => (List.mem_append.1 hu).elim (pointC_one u) (pts_one _ u)) (by omega) (by unfold maxLen; omega) (own_ne (AB4.out.b1 _ _ _ rfl) (by omega)) _
                have PJ := Lib.hid (PQ.out _ _ _ oj)
                have FJ := Lib.hid fj
                refine wp_value (exec_append rfl rfl rfl run) ?_
                clear run oj fj
                refine hK'.out _ _ ?_ (fun hS => ?_)
                · exact RK.out _ FJ.out
                try simp only [Act.put, List.setIfInBounds_toArray, List.set_cons_zero, List.set_cons_succ]
                refine lexT_ef1 16 (by kernel_rfl) rfl rfl (fun K' hK' => ?_)
                go_simp
                refine (take_C (CW0.out.fr0 FJ.out) PJ.out (by rw [refQ_len, SL.out]; omega)).mono ?_
                rintro e wt ⟨xt, rfl, ot, ct, ft⟩
                rw [E0.out]
                rw [E1.out] at ot
                rw [E2.out] at ct
                obtain ⟨xa, xc, rfl⟩ := ot.slice.arg.form
                have CT := Lib.hid ct
                have FT := Lib.hid ((FJ.out.of0).trans ft (fun _ _ h => h))
                have FT1 := Lib.hid (range_keep (RK.out _ FJ.out) ft NQ.out)
                clear ot ct ft
                refine hK'.out _ _ ?_ (fun hS => ?_)
                · exact FT1.out
                try simp only [Act.put, List.setIfInBounds_toArray, List.set_cons_zero, List.set_cons_succ]
                (((first | (refine lexT_rd 17 (by kernel_rfl) rfl rfl ?_; apply Exists.intro; refine ⟨?_, ?_⟩; (focus (first | (intro w' hS; obtain s1 := hS; go_simp; (try with_reducible rfl); done)))) | (refine lexT_sk 17 (by kernel_rfl) rfl rfl ?_)); try simp only [Act.put, List.setIfInBounds_toArray, List.set_cons_zero, List.set_cons_succ]); ((first | (refine lexT_rd 18 (by kernel_rfl) rfl rfl ?_; apply Exists.intro; refine ⟨?_, ?_⟩; (focus (first | (intro w' hS; obtain s1 := hS; go_simp; (try with_reducible rfl); done)))) | (refine lexT_sk 18 (by kernel_rfl) rfl rfl ?_)); try simp only [Act.put, List.setIfInBounds_toArray, List.set_cons_zero, List.set_cons_succ]); ((first | (refine lexT_rd 19 (by kernel_rfl) rfl rfl ?_; apply Exists.intro; refine ⟨?_, ?_⟩; (focus (first | (intro w' hS; obtain s1 := hS; go_simp; (try with_reducible rfl); done)))) | (refine lexT_sk 19 (by kernel_rfl) rfl rfl ?_)); try simp only [Act.put, List.setIfInBounds_toArray, List.set_cons_zero, List.set_cons_succ]); ((first | (refine lexT_rd 20 (by kernel_rfl) rfl rfl ?_; apply Exists.intro; refine ⟨?_, ?_⟩; (focus (first | (intro w' hS; obtain s1 := hS; go_simp; (try with_reducible rfl); done)))) | (refine lexT_sk 20 (by kernel_rfl) rfl rfl ?_)); try simp only [Act.put, List.setIfInBounds_toArray, List.set_cons_zero, List.set_cons_succ]); ((first | (refine lexT_rd 21 (by kernel_rfl) rfl rfl ?_; apply Exists.intro; refine ⟨?_, ?_⟩; (focus (first | (intro w' hS; obtain s1 := hS; go_simp; (try with_reducible rfl); done)))) | (refine lexT_sk 21 (by kernel_rfl) rfl rfl ?_)); try simp only [Act.put, List.setIfInBounds_toArray, List.set_cons_zero, List.set_cons_succ]))
                refine lexT_nil (hK.out _ _ ?_)
                go_wp2_with fail
                go_meet
                case rel => exact ⟨rfl, ⟨xa, xc, rfl⟩, CT.out, FT.out⟩
            · skip
              obtain ⟨vb1, w1, run, ab⟩ := AB0.out.swap.new1 elPoint (by decide) PL.out
              have AB1 := Lib.hid ab.swap
              refine wp_value (exec_bldS (vs := [(0, .agg (pointC c.at_).toArray)]) rfl rfl run) ?_
              clear run ab
              refine hK'.out _ _ ?_ (fun hS => ?_)
              · exact RK.out _ AB1.out.fr
              try simp only [Act.put, List.setIfInBounds_toArray, List.set_cons_zero, List.set_cons_succ]
              refine lexT_ef1 1 (by kernel_rfl) rfl rfl (fun K' hK' => ?_)
              obtain ⟨va2, w2, run, ab⟩ := AB1.out.new0 elPoint
              have AB2 := Lib.hid ab
              refine wp_value (exec_bldS (vs := []) rfl rfl run) ?_
              clear run ab
              refine hK'.out _ _ ?_ (fun hS => ?_)
              · exact RK.out _ AB2.out.fr
              try simp only [Act.put, List.setIfInBounds_toArray, List.set_cons_zero, List.set_cons_succ]
              refine lexT_ef1 6 (by kernel_rfl) rfl rfl (fun K' hK' => ?_)
              obtain ⟨va3, w3, run, ab⟩ := AB2.out.app elPoint (AH.out.keep (GW.out.trans0 AB2.out.fr)) LH.out (pts_one _) (by omega) (by unfold maxLen; omega) (by intro e; cases e) _
              have AB3 := Lib.hid ab
              refine wp_value (exec_append rfl rfl rfl run) ?_
              clear run ab
              refine hK'.out _ _ ?_ (fun hS => ?_)
              · exact RK.out _ AB3.out.fr
              try simp only [Act.put, List.setIfInBounds_toArray, List.set_cons_zero, List.set_cons_succ]
              refine lexT_ef1 14 (by kernel_rfl) rfl rfl (fun K' hK' => ?_)
              obtain ⟨vb4, w4, run, ab⟩ := AB3.out.swap.app elPoint (AT.out.keep (GW.out.trans0 AB3.out.fr)) LT.out (pts_one _) (by omega) (by unfold maxLen; omega) (by intro e; cases e) _
              have AB4 := Lib.hid ab.swap
              refine wp_value (exec_append rfl rfl rfl run) ?_
              clear run ab
              refine hK'.out _ _ ?_ (fun hS => ?_)
              · exact RK.out _ AB4.out.fr
              try simp only [Act.put, List.setIfInBounds_toArray, List.set_cons_zero, List.set_cons_succ]
              refine lexT_ef1 15 (by kernel_rfl) rfl rfl (fun K' hK' => ?_)
              obtain ⟨vj, wj, run, oj, fj⟩ := AB4.out.join elPoint (by rw [List.length_append, PL.out, LT.out]; omega) (fun u hu => (List.mem_append.1 hu).elim (pointC_one u) (pts_one _ u)) (by omega) (by unfold maxLen; omega) (own_ne (AB4.out.b1 _ _ _ rfl) (by omega)) _
              have PJ := Lib.hid (PQ.out _ _ _ oj)
              have FJ := Lib.hid fj
              refine wp_value (exec_append rfl rfl rfl run) ?_
              clear run oj fj
              refine hK'.out _ _ ?_ (fun hS => ?_)
              · exact RK.out _ FJ.out
              try simp only [Act.put, List.setIfInBounds_toArray, List.set_cons_zero, List.set_cons_succ]
              refine lexT_ef1 16 (by kernel_rfl) rfl rfl (fun K' hK' => ?_)
              go_simp
              refine (take_C (CW0.out.fr0 FJ.out) PJ.out (by rw [refQ_len, SL.out]; omega)).mono ?_
              rintro e wt ⟨xt, rfl, ot, ct, ft⟩
              rw [E0.out]
              rw [E1.out] at ot
              rw [E2.out] at ct
              obtain ⟨xa, xc, rfl⟩ := ot.slice.arg.form
              have CT := Lib.hid ct
              have FT := Lib.hid ((FJ.out.of0).trans ft (fun _ _ h => h))
              have FT1 := Lib.hid (range_keep (RK.out _ FJ.out) ft NQ.out)
              clear ot ct ft
              refine hK'.out _ _ ?_ (fun hS => ?_)
              · exact FT1.out
              try simp only [Act.put, List.setIfInBounds_toArray, List.set_cons_zero, List.set_cons_succ]
              (((first | (refine lexT_rd 17 (by kernel_rfl) rfl rfl ?_; apply Exists.intro; refine ⟨?_, ?_⟩; (focus (first | (intro w' hS; obtain s1 := hS; go_simp; (try with_reducible rfl); done)))) | (refine lexT_sk 17 (by kernel_rfl) rfl rfl ?_)); try simp only [Act.put, List.setIfInBounds_toArray, List.set_cons_zero, List.set_cons_succ]); ((first | (refine lexT_rd 18 (by kernel_rfl) rfl rfl ?_; apply Exists.intro; refine ⟨?_, ?_⟩; (focus (first | (intro w' hS; obtain s1 := hS; go_simp; (try with_reducible rfl); done)))) | (refine lexT_sk 18 (by kernel_rfl) rfl rfl ?_)); try simp only [Act.put, List.setIfInBounds_toArray, List.set_cons_zero, List.set_cons_succ]); ((first | (refine lexT_rd 19 (by kernel_rfl) rfl rfl ?_; apply Exists.intro; refine ⟨?_, ?_⟩; (focus (first | (intro w' hS; obtain s1 := hS; go_simp; (try with_reducible rfl); done)))) | (refine lexT_sk 19 (by kernel_rfl) rfl rfl ?_)); try simp only [Act.put, List.setIfInBounds_toArray, List.set_cons_zero, List.set_cons_succ]); ((first | (refine lexT_rd 20 (by kernel_rfl) rfl rfl ?_; apply Exists.intro; refine ⟨?_, ?_⟩; (focus (first | (intro w' hS; obtain s1 := hS; go_simp; (try with_reducible rfl); done)))) | (refine lexT_sk 20 (by kernel_rfl) rfl rfl ?_)); try simp only [Act.put, List.setIfInBounds_toArray, List.set_cons_zero, List.set_cons_succ]); ((first | (refine lexT_rd 21 (by kernel_rfl) rfl rfl ?_; apply Exists.intro; refine ⟨?_, ?_⟩; (focus (first | (intro w' hS; obtain s1 := hS; go_simp; (try with_reducible rfl); done)))) | (refine lexT_sk 21 (by kernel_rfl) rfl rfl ?_)); try simp only [Act.put, List.setIfInBounds_toArray, List.set_cons_zero, List.set_cons_succ]))
              refine lexT_nil (hK.out _ _ ?_)
              go_wp2_with fail
              go_meet
              case rel => exact ⟨rfl, ⟨xa, xc, rfl⟩, CT.out, FT.out⟩
          case rest =>
            obtain ⟨rfl, ⟨a', c', rfl⟩, ct, ft⟩ := hcut
            have CT := Lib.hid ct
            have RC := Lib.hid (range_keep (RK.out _ (Fr.refl _ _)) ft NQ.out)
            have OW := Lib.hid (ownsRow_keep (ownsRow_keep O45.out GW.out (fun _ _ => id)) ft OV.out)
            have hlo := len_outs
            have BND := Lib.hid (show (putC [] l).length ≤ 100000 by rw [SL.out]; omega)
            clear ct ft h1 h3 hw
            obtain ⟨p0, p1⟩ := putE_10 (S := putC [] l) (l := [c]) (by simp) (by simp) HH.out
            have P0 := Lib.hid p0
            have P1 := Lib.hid p1
            clear p0 p1
            have M0 := Lib.hid True.intro
            have M1 := Lib.hid True.intro
            have M2 := Lib.hid True.intro
            have M3 := Lib.hid True.intro
            have M4 := Lib.hid True.intro
            have M5 := Lib.hid True.intro
            have M6 := Lib.hid True.intro
            go_wp2_with (first | (have mk := M0.out; go_at_call 15; refine (all_C CT.out BND.out).mono ?_; rintro e w8 ⟨v8, rfl, o8, f8⟩; have U8 := Lib.hid (ownCoins o8 CT.out.ok); have O8 := Lib.hid (ownsRow_keep OW.out f8 (fun _ _ => id)); have C8 := Lib.hid (CT.out.fr0 f8); have RC8 := Lib.hid (range_keep RC.out f8 id); clear o8 f8 mk M0) | (have mk := M1.out; go_at_call 18; refine (sameCoins_any _ U8.out (ownCoins O8.out C8.out.ok) BND.out BND.out).mono ?_; rintro e w9 ⟨bb, rfl, hbb, f9⟩; obtain rfl : bb = true := hbb.2 rfl; have C9 := Lib.hid (C8.out.fr0 f9); have O9 := Lib.hid (ownsRow_keep O8.out f9 (fun _ _ => id)); have RC9 := Lib.hid (range_keep RC8.out f9 id); clear hbb f9 mk M1) | (have mk := M2.out; refine wpList_value rfl (exec_load (ty := 38) rfl rfl RC9.out uC rC (by rw [CL.out]; exact infoCoin)) ?_; clear mk M2) | (have mk := M3.out; refine wpList_value rfl (exec_buildSliceA (t := 22) rfl rfl undCoins infoCoinZ2 rfl (by decide) (by decide) CL.out) ?_; clear mk M3) | (have mk := M4.out; go_at_call 14; refine (put_C (C9.out.fr0 ((Fr.refl No w9).alloc (.cells (coinC c).toArray 38))) (coins_new1 w9 COK.out) (by rw [SL.out]; show 1 + l.length ≤ _; omega)).mono ?_; rintro e w10 ⟨rfl, c10, f10⟩; rw [P0.out]; rw [P1.out] at c10; have C10 := Lib.hid c10; have O10 := Lib.hid (ownsRow_keep (ownsRow_keep O9.out ((Fr.refl No w9).alloc (.cells (coinC c).toArray 38)) (fun _ _ => id)) f10 OV.out); clear c10 f10 mk M4) | (have mk := M5.out; go_at_call 15; refine (all_C C10.out BND.out).mono ?_; rintro e w11 ⟨v11, rfl, o11, f11⟩; have U11 := Lib.hid (ownCoins o11 C10.out.ok); have O11 := Lib.hid (ownsRow_keep O10.out f11 (fun _ _ => id)); have C11 := Lib.hid (C10.out.fr0 f11); clear o11 f11 mk M5) | (have mk := M6.out; go_at_call 18; refine (sameCoins_any _ U11.out (ownCoins O11.out C11.out.ok) BND.out BND.out).mono ?_; rintro e w12 ⟨bb, rfl, hbb, f12⟩; obtain rfl : bb = true := hbb.2 rfl; have C12 := Lib.hid (C11.out.fr0 f12); clear hbb f12 mk M6))
            go_ret
            exact ⟨by rfl, C12.out.fr⟩
        | false =>
          obtain ⟨e0, e1, e2⟩ := ref_none k ND.out hh
          have E0 := Lib.hid e0
          have E1 := Lib.hid e1
          have E2 := Lib.hid e2
          have HH := Lib.hid hh
          clear e0 e1 e2 hh
          go_wp2_with (refine wpList_done rfl (exec_store_new (w := w6) (cs := outC (outOf (putC [] l) c.at_)) (ty := 36) rfl rfl rfl (by rw [OL.out]; rfl) (by rw [OL.out]; exact infoOut) outC_one) ?_)
          generalize w6.alloc (.cells (outC (outOf (putC [] l) c.at_)).toArray 36) = W at *
          have CW0 := Lib.hid (C5.out.fr0 F6.out.drew)
          have GW := Lib.hid F6.out.drew
          have AB0 := Lib.hid (AB.start (e := 27) (k := 33) W.drew)
          have RK := Lib.hid (fun (w' : World) (f : Fr No W.drew w') => range_keep RQ5.out (F6.out.drew.trans0 f) id)
          go_cut [15, 16] from 50 (fun xv fv wc => fv = .int .i64 9 ∧ (∃ a' c', xv = .slice a' 0 c') ∧ CS w wc p V (putC [] l) ∧ Fr V W.drew wc)
          case first =>
            refine wp_region_lexT 22 [0, 1, 2, 3, 4, 5, 6, 7, 8, 9, 10, 11, 12, 13, 14, 15, 16, 17, 18, 19, 20, 21] (fun w' => w'.rangeAt q0 0 (coinC c)) (by kernel_rfl) (by kernel_rfl) (by kernel_rfl) (by kernel_rfl) ?_ (fun K hK => ?_)
            · exact RK.out _ (Fr.refl No _)
            (((first | (refine lexT_rd 0 (by kernel_rfl) rfl rfl ?_; apply Exists.intro; refine ⟨?_, ?_⟩; (focus (first | exact lex_load (ty := 27) rfl (fun w h => coin_at h) uP rP (by rw [PL.out]; exact infoPoint) | (intro w' hS; obtain s1 := hS; go_simp; (try with_reducible rfl); done)))) | (refine lexT_sk 0 (by kernel_rfl) rfl rfl ?_)); try simp only [Act.put, List.setIfInBounds_toArray, List.set_cons_zero, List.set_cons_succ]); ((first | (refine lexT_rd 2 (by kernel_rfl) rfl rfl ?_; apply Exists.intro; refine ⟨?_, ?_⟩; (focus (first | exact lex_load (ty := 27) rfl (fun w h => coin_at h) uP rP (by rw [PL.out]; exact infoPoint) | (intro w' hS; obtain s1 := hS; go_simp; (try with_reducible rfl); done)))) | (refine lexT_sk 2 (by kernel_rfl) rfl rfl ?_)); try simp only [Act.put, List.setIfInBounds_toArray, List.set_cons_zero, List.set_cons_succ]); ((first | (refine lexT_rd 3 (by kernel_rfl) rfl rfl ?_; apply Exists.intro; refine ⟨?_, ?_⟩; (focus (first | exact lex_load (ty := 27) rfl (fun w h => coin_at h) uP rP (by rw [PL.out]; exact infoPoint) | (intro w' hS; obtain s1 := hS; go_simp; (try with_reducible rfl); done)))) | (refine lexT_sk 3 (by kernel_rfl) rfl rfl ?_)); try simp only [Act.put, List.setIfInBounds_toArray, List.set_cons_zero, List.set_cons_succ]); ((first | (refine lexT_rd 4 (by kernel_rfl) rfl rfl ?_; apply Exists.intro; refine ⟨?_, ?_⟩; (focus (first | exact lex_load (ty := 27) rfl (fun w h => coin_at h) uP rP (by rw [PL.out]; exact infoPoint) | (intro w' hS; obtain s1 := hS; go_simp; (try with_reducible rfl); done)))) | (refine lexT_sk 4 (by kernel_rfl) rfl rfl ?_)); try simp only [Act.put, List.setIfInBounds_toArray, List.set_cons_zero, List.set_cons_succ]); ((first | (refine lexT_rd 5 (by kernel_rfl) rfl rfl ?_; apply Exists.intro; refine ⟨?_, ?_⟩; (focus (first | exact lex_load (ty := 27) rfl (fun w h => coin_at h) uP rP (by rw [PL.out]; exact infoPoint) | (intro w' hS; obtain s1 := hS; go_simp; (try with_reducible rfl); done)))) | (refine lexT_sk 5 (by kernel_rfl) rfl rfl ?_)); try simp only [Act.put, List.setIfInBounds_toArray, List.set_cons_zero, List.set_cons_succ]); ((first | (refine lexT_rd 7 (by kernel_rfl) rfl rfl ?_; apply Exists.intro; refine ⟨?_, ?_⟩; (focus (first | exact lex_load (ty := 27) rfl (fun w h => coin_at h) uP rP (by rw [PL.out]; exact infoPoint) | (intro w' hS; obtain s1 := hS; go_simp; (try with_reducible rfl); done)))) | (refine lexT_sk 7 (by kernel_rfl) rfl rfl ?_)); try simp only [Act.put, List.setIfInBounds_toArray, List.set_cons_zero, List.set_cons_succ]); ((first | (refine lexT_rd 8 (by kernel_rfl) rfl rfl ?_; apply Exists.intro; refine ⟨?_, ?_⟩; (focus (first | exact lex_load (ty := 27) rfl (fun w h => coin_at h) uP rP (by rw [PL.out]; exact infoPoint) | (intro w' hS; obtain s1 := hS; go_simp; (try with_reducible rfl); done)))) | (refine lexT_sk 8 (by kernel_rfl) rfl rfl ?_)); try simp only [Act.put, List.setIfInBounds_toArray, List.set_cons_zero, List.set_cons_succ]); ((first | (refine lexT_rd 10 (by kernel_rfl) rfl rfl ?_; apply Exists.intro; refine ⟨?_, ?_⟩; (focus (first | exact lex_load (ty := 27) rfl (fun w h => coin_at h) uP rP (by rw [PL.out]; exact infoPoint) | (intro w' hS; obtain s1 := hS; go_simp; (try with_reducible rfl); done)))) | (refine lexT_sk 10 (by kernel_rfl) rfl rfl ?_)); try simp only [Act.put, List.setIfInBounds_toArray, List.set_cons_zero, List.set_cons_succ]); ((first | (refine lexT_rd 11 (by kernel_rfl) rfl rfl ?_; apply Exists.intro; refine ⟨?_, ?_⟩; (focus (first | exact lex_load (ty := 27) rfl (fun w h => coin_at h) uP rP (by rw [PL.out]; exact infoPoint) | (intro w' hS; obtain s1 := hS; go_simp; (try with_reducible rfl); done)))) | (refine lexT_sk 11 (by kernel_rfl) rfl rfl ?_)); try simp only [Act.put, List.setIfInBounds_toArray, List.set_cons_zero, List.set_cons_succ]); ((first | (refine lexT_rd 12 (by kernel_rfl) rfl rfl ?_; apply Exists.intro; refine ⟨?_, ?_⟩; (focus (first | exact lex_load (ty := 27) rfl (fun w h => coin_at h) uP rP (by rw [PL.out]; exact infoPoint) | (intro w' hS; obtain s1 := hS; go_simp; (try with_reducible rfl); done)))) | (refine lexT_sk 12 (by kernel_rfl) rfl rfl ?_)); try simp only [Act.put, List.setIfInBounds_toArray, List.set_cons_zero, List.set_cons_succ]); ((first | (refine lexT_rd 13 (by kernel_rfl) rfl rfl ?_; apply Exists.intro; refine ⟨?_, ?_⟩; (focus (first | exact lex_load (ty := 27) rfl (fun w h => coin_at h) uP rP (by rw [PL.out]; exact infoPoint) | (intro w' hS; obtain s1 := hS; go_simp; (try with_reducible rfl); done)))) | (refine lexT_sk 13 (by kernel_rfl) rfl rfl ?_)); try simp only [Act.put, List.setIfInBounds_toArray, List.set_cons_zero, List.set_cons_succ]))
            refine lexT_ef2 1 9 (by kernel_rfl) rfl rfl rfl rfl (fun K' hK' => ?_) (fun K' hK' => ?_)
            · skip
              obtain ⟨va1, w1, run, ab⟩ := AB0.out.new0 elPoint
              have AB1 := Lib.hid ab
              refine wp_value (exec_bldS (vs := []) rfl rfl run) ?_
              clear run ab
              refine hK'.out _ _ ?_ (fun hS => ?_)
              · exact RK.out _ AB1.out.fr
              try simp only [Act.put, List.setIfInBounds_toArray, List.set_cons_zero, List.set_cons_succ]
              refine lexT_ef2 6 9 (by kernel_rfl) rfl rfl rfl rfl (fun K' hK' => ?_) (fun K' hK' => ?_)
              · skip
                obtain ⟨va2, w2, run, ab⟩ := AB1.out.app elPoint (AH.out.keep (GW.out.trans0 AB1.out.fr)) LH.out (pts_one _) (by omega) (by unfold maxLen; omega) (by intro e; cases e) _
                have AB2 := Lib.hid ab
                refine wp_value (exec_append rfl rfl rfl run) ?_
                clear run ab
                refine hK'.out _ _ ?_ (fun hS => ?_)
                · exact RK.out _ AB2.out.fr
                try simp only [Act.put, List.setIfInBounds_toArray, List.set_cons_zero, List.set_cons_succ]
                refine lexT_ef1 9 (by kernel_rfl) rfl rfl (fun K' hK' => ?_)
                obtain ⟨vb3, w3, run, ab⟩ := AB2.out.swap.new1 elPoint (by decide) PL.out
                have AB3 := Lib.hid ab.swap
                refine wp_value (exec_bldS (vs := [(0, .agg (pointC c.at_).toArray)]) rfl rfl run) ?_
                clear run ab
                refine hK'.out _ _ ?_ (fun hS => ?_)
                · exact RK.out _ AB3.out.fr
                try simp only [Act.put, List.setIfInBounds_toArray, List.set_cons_zero, List.set_cons_succ]
                refine lexT_ef1 14 (by kernel_rfl) rfl rfl (fun K' hK' => ?_)
                obtain ⟨vb4, w4, run, ab⟩ := AB3.out.swap.app elPoint (AT.out.keep (GW.out.trans0 AB3.out.fr)) LT.out (pts_one _) (by omega) (by unfold maxLen; omega) (by intro e; cases e) _
                have AB4 := Lib.hid ab.swap
                refine wp_value (exec_append rfl rfl rfl run) ?_
                clear run ab
                refine hK'.out _ _ ?_ (fun hS => ?_)
                · exact RK.out _ AB4.out.fr
                try simp only [Act.put, List.setIfInBounds_toArray, List.set_cons_zero, List.set_cons_succ]
                refine lexT_ef1 15 (by kernel_rfl) rfl rfl (fun K' hK' => ?_)
                obtain ⟨vj, wj, run, oj, fj⟩ := AB4.out.join elPoint (by rw [List.length_append, PL.out, LT.out]; omega) (fun u hu => (List.mem_append.1 hu).elim (pointC_one u) (pts_one _ u)) (by omega) (by unfold maxLen; omega) (own_ne (AB4.out.b1 _ _ _ rfl) (by omega)) _
                have PJ := Lib.hid (PQ.out _ _ _ oj)
                have FJ := Lib.hid fj
                refine wp_value (exec_append rfl rfl rfl run) ?_
                clear run oj fj
                refine hK'.out _ _ ?_ (fun hS => ?_)
                · exact RK.out _ FJ.out
                try simp only [Act.put, List.setIfInBounds_toArray, List.set_cons_zero, List.set_cons_succ]
                refine lexT_ef1 16 (by kernel_rfl) rfl rfl (fun K' hK' => ?_)
                go_simp
                refine (take_C (CW0.out.fr0 FJ.out) PJ.out (by rw [refQ_len, SL.out]; omega)).mono ?_
                rintro e wt ⟨xt, rfl, ot, ct, ft⟩
                rw [E0.out]
                rw [E1.out] at ot
                rw [E2.out] at ct
                obtain ⟨xa, xc, rfl⟩ := ot.slice.arg.form
                have CT := Lib.hid ct
                have FT := Lib.hid ((FJ.out.of0).trans ft (fun _ _ h => h))
                have FT1 := Lib.hid (range_keep (RK.out _ FJ.out) ft NQ.out)
                clear ot ct ft
                refine hK'.out _ _ ?_ (fun hS => ?_)
                · exact FT1.out
                try simp only [Act.put, List.setIfInBounds_toArray, List.set_cons_zero, List.set_cons_succ]
                (((first | (refine lexT_rd 17 (by kernel_rfl) rfl rfl ?_; apply Exists.intro; refine ⟨?_, ?_⟩; (focus (first | (intro w' hS; obtain s1 := hS; go_simp; (try with_reducible rfl); done)))) | (refine lexT_sk 17 (by kernel_rfl) rfl rfl ?_)); try simp only [Act.put, List.setIfInBounds_toArray, List.set_cons_zero, List.set_cons_succ]); ((first | (refine lexT_rd 18 (by kernel_rfl) rfl rfl ?_; apply Exists.intro; refine ⟨?_, ?_⟩; (focus (first | (intro w' hS; obtain s1 := hS; go_simp; (try with_reducible rfl); done)))) | (refine lexT_sk 18 (by kernel_rfl) rfl rfl ?_)); try simp only [Act.put, List.setIfInBounds_toArray, List.set_cons_zero, List.set_cons_succ]); ((first | (refine lexT_rd 19 (by kernel_rfl) rfl rfl ?_; apply Exists.intro; refine ⟨?_, ?_⟩; (focus (first | (intro w' hS; obtain s1 := hS; go_simp; (try with_reducible rfl); done)))) | (refine lexT_sk 19 (by kernel_rfl) rfl rfl ?_)); try simp only [Act.put, List.setIfInBounds_toArray, List.set_cons_zero, List.set_cons_succ]); ((first | (refine lexT_rd 20 (by kernel_rfl) rfl rfl ?_; apply Exists.intro; refine ⟨?_, ?_⟩; (focus (first | (intro w' hS; obtain s1 := hS; go_simp; (try with_reducible rfl); done)))) | (refine lexT_sk 20 (by kernel_rfl) rfl rfl ?_)); try simp only [Act.put, List.setIfInBounds_toArray, List.set_cons_zero, List.set_cons_succ]); ((first | (refine lexT_rd 21 (by kernel_rfl) rfl rfl ?_; apply Exists.intro; refine ⟨?_, ?_⟩; (focus (first | (intro w' hS; obtain s1 := hS; go_simp; (try with_reducible rfl); done)))) | (refine lexT_sk 21 (by kernel_rfl) rfl rfl ?_)); try simp only [Act.put, List.setIfInBounds_toArray, List.set_cons_zero, List.set_cons_succ]))
                refine lexT_nil (hK.out _ _ ?_)
                go_wp2_with fail
                go_meet
                case rel => exact ⟨rfl, ⟨xa, xc, rfl⟩, CT.out, FT.out⟩
              · skip
                obtain ⟨vb2, w2, run, ab⟩ := AB1.out.swap.new1 elPoint (by decide) PL.out
                have AB2 := Lib.hid ab.swap
                refine wp_value (exec_bldS (vs := [(0, .agg (pointC c.at_).toArray)]) rfl rfl run) ?_
                clear run ab
                refine hK'.out _ _ ?_ (fun hS => ?_)
                · exact RK.out _ AB2.out.fr
                try simp only [Act.put, List.setIfInBounds_toArray, List.set_cons_zero, List.set_cons_succ]
                refine lexT_ef1 6 (by kernel_rfl) rfl rfl (fun K' hK' => ?_)
                obtain ⟨va3, w3, run, ab⟩ := AB2.out.app elPoint (AH.out.keep (GW.out.trans0 AB2.out.fr)) LH.out (pts_one _) (by omega) (by unfold maxLen; omega) (by intro e; cases e) _
                have AB3 := Lib.hid ab
                refine wp_value (exec_append rfl rfl rfl run) ?_
                clear run ab
                refine hK'.out _ _ ?_ (fun hS => ?_)
                · exact RK.out _ AB3.out.fr
                try simp only [Act.put, List.setIfInBounds_toArray, List.set_cons_zero, List.set_cons_succ]
                refine lexT_ef1 14 (by kernel_rfl) rfl rfl (fun K' hK' => ?_)
                obtain ⟨vb4, w4, run, ab⟩ := AB3.out.swap.app elPoint (AT.out.keep (GW.out.trans0 AB3.out.fr)) LT.out (pts_one _) (by omega) (by unfold maxLen; omega) (by intro e; cases e) _
                have AB4 := Lib.hid ab.swap
                refine wp_value (exec_append rfl rfl rfl run) ?_
                clear run ab
                refine hK'.out _ _ ?_ (fun hS => ?_)
                · exact RK.out _ AB4.out.fr
                try simp only [Act.put, List.setIfInBounds_toArray, List.set_cons_zero, List.set_cons_succ]
                refine lexT_ef1 15 (by kernel_rfl) rfl rfl (fun K' hK' => ?_)
                obtain ⟨vj, wj, run, oj, fj⟩ := AB4.out.join elPoint (by rw [List.length_append, PL.out, LT.out]; omega) (fun u hu => (List.mem_append.1 hu).elim (pointC_one u) (pts_one _ u)) (by omega) (by unfold maxLen; omega) (own_ne (AB4.out.b1 _ _ _ rfl) (by omega)) _
                have PJ := Lib.hid (PQ.out _ _ _ oj)
                have FJ := Lib.hid fj
                refine wp_value (exec_append rfl rfl rfl run) ?_
                clear run oj fj
                refine hK'.out _ _ ?_ (fun hS => ?_)
                · exact RK.out _ FJ.out
                try simp only [Act.put, List.setIfInBounds_toArray, List.set_cons_zero, List.set_cons_succ]
                refine lexT_ef1 16 (by kernel_rfl) rfl rfl (fun K' hK' => ?_)
                go_simp
                refine (take_C (CW0.out.fr0 FJ.out) PJ.out (by rw [refQ_len, SL.out]; omega)).mono ?_
                rintro e wt ⟨xt, rfl, ot, ct, ft⟩
                rw [E0.out]
                rw [E1.out] at ot
                rw [E2.out] at ct
                obtain ⟨xa, xc, rfl⟩ := ot.slice.arg.form
                have CT := Lib.hid ct
                have FT := Lib.hid ((FJ.out.of0).trans ft (fun _ _ h => h))
                have FT1 := Lib.hid (range_keep (RK.out _ FJ.out) ft NQ.out)
                clear ot ct ft
                refine hK'.out _ _ ?_ (fun hS => ?_)
                · exact FT1.out
                try simp only [Act.put, List.setIfInBounds_toArray, List.set_cons_zero, List.set_cons_succ]
                (((first | (refine lexT_rd 17 (by kernel_rfl) rfl rfl ?_; apply Exists.intro; refine ⟨?_, ?_⟩; (focus (first | (intro w' hS; obtain s1 := hS; go_simp; (try with_reducible rfl); done)))) | (refine lexT_sk 17 (by kernel_rfl) rfl rfl ?_)); try simp only [Act.put, List.setIfInBounds_toArray, List.set_cons_zero, List.set_cons_succ]); ((first | (refine lexT_rd 18 (by kernel_rfl) rfl rfl ?_; apply Exists.intro; refine ⟨?_, ?_⟩; (focus (first | (intro w' hS; obtain s1 := hS; go_simp; (try with_reducible rfl); done)))) | (refine lexT_sk 18 (by kernel_rfl) rfl rfl ?_)); try simp only [Act.put, List.setIfInBounds_toArray, List.set_cons_zero, List.set_cons_succ]); ((first | (refine lexT_rd 19 (by kernel_rfl) rfl rfl ?_; apply Exists.intro; refine ⟨?_, ?_⟩; (focus (first | (intro w' hS; obtain s1 := hS; go_simp; (try with_reducible rfl); done)))) | (refine lexT_sk 19 (by kernel_rfl) rfl rfl ?_)); try simp only [Act.put, List.setIfInBounds_toArray, List.set_cons_zero, List.set_cons_succ]); ((first | (refine lexT_rd 20 (by kernel_rfl) rfl rfl ?_; apply Exists.intro; refine ⟨?_, ?_⟩; (focus (first | (intro w' hS; obtain s1 := hS; go_simp; (try with_reducible rfl); done)))) | (refine lexT_sk 20 (by kernel_rfl) rfl rfl ?_)); try simp only [Act.put, List.setIfInBounds_toArray, List.set_cons_zero, List.set_cons_succ]); ((first | (refine lexT_rd 21 (by kernel_rfl) rfl rfl ?_; apply Exists.intro; refine ⟨?_, ?_⟩; (focus (first | (intro w' hS; obtain s1 := hS; go_simp; (try with_reducible rfl); done)))) | (refine lexT_sk 21 (by kernel_rfl) rfl rfl ?_)); try simp only [Act.put, List.setIfInBounds_toArray, List.set_cons_zero, List.set_cons_succ]))
                refine lexT_nil (hK.out _ _ ?_)
                go_wp2_with fail
                go_meet
                case rel => exact ⟨rfl, ⟨xa, xc, rfl⟩, CT.out, FT.out⟩
            · skip
              obtain ⟨vb1, w1, run, ab⟩ := AB0.out.swap.new1 elPoint (by decide) PL.out
              have AB1 := Lib.hid ab.swap
              refine wp_value (exec_bldS (vs := [(0, .agg (pointC c.at_).toArray)]) rfl rfl run) ?_
              clear run ab
              refine hK'.out _ _ ?_ (fun hS => ?_)
              · exact RK.out _ AB1.out.fr
              try simp only [Act.put, List.setIfInBounds_toArray, List.set_cons_zero, List.set_cons_succ]
              refine lexT_ef1 1 (by kernel_rfl) rfl rfl (fun K' hK' => ?_)
              obtain ⟨va2, w2, run, ab⟩ := AB1.out.new0 elPoint
              have AB2 := Lib.hid ab
              refine wp_value (exec_bldS (vs := []) rfl rfl run) ?_
              clear run ab
              refine hK'.out _ _ ?_ (fun hS => ?_)
              · exact RK.out _ AB2.out.fr
              try simp only [Act.put, List.setIfInBounds_toArray, List.set_cons_zero, List.set_cons_succ]
              refine lexT_ef1 6 (by kernel_rfl) rfl rfl (fun K' hK' => ?_)
              obtain ⟨va3, w3, run, ab⟩ := AB2.out.app elPoint (AH.out.keep (GW.out.trans0 AB2.out.fr)) LH.out (pts_one _) (by omega) (by unfold maxLen; omega) (by intro e; cases e) _
              have AB3 := Lib.hid ab
              refine wp_value (exec_append rfl rfl rfl run) ?_
              clear run ab
              refine hK'.out _ _ ?_ (fun hS => ?_)
              · exact RK.out _ AB3.out.fr
              try simp only [Act.put, List.setIfInBounds_toArray, List.set_cons_zero, List.set_cons_succ]
              refine lexT_ef1 14 (by kernel_rfl) rfl rfl (fun K' hK' => ?_)
              obtain ⟨vb4, w4, run, ab⟩ := AB3.out.swap.app elPoint (AT.out.keep (GW.out.trans0 AB3.out.fr)) LT.out (pts_one _) (by omega) (by unfold maxLen; omega) (by intro e; cases e) _
              have AB4 := Lib.hid ab.swap
              refine wp_value (exec_append rfl rfl rfl run) ?_
              clear run ab
              refine hK'.out _ _ ?_ (fun hS => ?_)
              · exact RK.out _ AB4.out.fr
              try simp only [Act.put, List.setIfInBounds_toArray, List.set_cons_zero, List.set_cons_succ]
              refine lexT_ef1 15 (by kernel_rfl) rfl rfl (fun K' hK' => ?_)
              obtain ⟨vj, wj, run, oj, fj⟩ := AB4.out.join elPoint (by rw [List.length_append, PL.out, LT.out]; omega) (fun u hu => (List.mem_append.1 hu).elim (pointC_one u) (pts_one _ u)) (by omega) (by unfold maxLen; omega) (own_ne (AB4.out.b1 _ _ _ rfl) (by omega)) _
              have PJ := Lib.hid (PQ.out _ _ _ oj)
              have FJ := Lib.hid fj
              refine wp_value (exec_append rfl rfl rfl run) ?_
              clear run oj fj
              refine hK'.out _ _ ?_ (fun hS => ?_)
              · exact RK.out _ FJ.out
              try simp only [Act.put, List.setIfInBounds_toArray, List.set_cons_zero, List.set_cons_succ]
              refine lexT_ef1 16 (by kernel_rfl) rfl rfl (fun K' hK' => ?_)
              go_simp
              refine (take_C (CW0.out.fr0 FJ.out) PJ.out (by rw [refQ_len, SL.out]; omega)).mono ?_
              rintro e wt ⟨xt, rfl, ot, ct, ft⟩
              rw [E0.out]
              rw [E1.out] at ot
              rw [E2.out] at ct
              obtain ⟨xa, xc, rfl⟩ := ot.slice.arg.form
              have CT := Lib.hid ct
              have FT := Lib.hid ((FJ.out.of0).trans ft (fun _ _ h => h))
              have FT1 := Lib.hid (range_keep (RK.out _ FJ.out) ft NQ.out)
              clear ot ct ft
              refine hK'.out _ _ ?_ (fun hS => ?_)
              · exact FT1.out
              try simp only [Act.put, List.setIfInBounds_toArray, List.set_cons_zero, List.set_cons_succ]
              (((first | (refine lexT_rd 17 (by kernel_rfl) rfl rfl ?_; apply Exists.intro; refine ⟨?_, ?_⟩; (focus (first | (intro w' hS; obtain s1 := hS; go_simp; (try with_reducible rfl); done)))) | (refine lexT_sk 17 (by kernel_rfl) rfl rfl ?_)); try simp only [Act.put, List.setIfInBounds_toArray, List.set_cons_zero, List.set_cons_succ]); ((first | (refine lexT_rd 18 (by kernel_rfl) rfl rfl ?_; apply Exists.intro; refine ⟨?_, ?_⟩; (focus (first | (intro w' hS; obtain s1 := hS; go_simp; (try with_reducible rfl); done)))) | (refine lexT_sk 18 (by kernel_rfl) rfl rfl ?_)); try simp only [Act.put, List.setIfInBounds_toArray, List.set_cons_zero, List.set_cons_succ]); ((first | (refine lexT_rd 19 (by kernel_rfl) rfl rfl ?_; apply Exists.intro; refine ⟨?_, ?_⟩; (focus (first | (intro w' hS; obtain s1 := hS; go_simp; (try with_reducible rfl); done)))) | (refine lexT_sk 19 (by kernel_rfl) rfl rfl ?_)); try simp only [Act.put, List.setIfInBounds_toArray, List.set_cons_zero, List.set_cons_succ]); ((first | (refine lexT_rd 20 (by kernel_rfl) rfl rfl ?_; apply Exists.intro; refine ⟨?_, ?_⟩; (focus (first | (intro w' hS; obtain s1 := hS; go_simp; (try with_reducible rfl); done)))) | (refine lexT_sk 20 (by kernel_rfl) rfl rfl ?_)); try simp only [Act.put, List.setIfInBounds_toArray, List.set_cons_zero, List.set_cons_succ]); ((first | (refine lexT_rd 21 (by kernel_rfl) rfl rfl ?_; apply Exists.intro; refine ⟨?_, ?_⟩; (focus (first | (intro w' hS; obtain s1 := hS; go_simp; (try with_reducible rfl); done)))) | (refine lexT_sk 21 (by kernel_rfl) rfl rfl ?_)); try simp only [Act.put, List.setIfInBounds_toArray, List.set_cons_zero, List.set_cons_succ]))
              refine lexT_nil (hK.out _ _ ?_)
              go_wp2_with fail
              go_meet
              case rel => exact ⟨rfl, ⟨xa, xc, rfl⟩, CT.out, FT.out⟩
          case rest =>
            obtain ⟨rfl, ⟨a', c', rfl⟩, ct, ft⟩ := hcut
            have CT := Lib.hid ct
            have RC := Lib.hid (range_keep (RK.out _ (Fr.refl _ _)) ft NQ.out)
            have OW := Lib.hid (ownsRow_keep (ownsRow_keep O45.out GW.out (fun _ _ => id)) ft OV.out)
            have hlo := len_outs
            have BND := Lib.hid (show (putC [] l).length ≤ 100000 by rw [SL.out]; omega)
            clear ct ft h1 h3 hw
            have XC := Lib.hid (show hasC (putC [] l) x.at_ = true from hasC_iff.2 ⟨x, mem_putC.2 (.inr HX.out), rfl⟩)
            have XN := Lib.hid (show c.at_ ≠ x.at_ from fun e => by have := HH.out; rw [e, XC.out] at this; cases this)
            obtain ⟨p0, p1⟩ := putE_10 (S := putC [] l) (l := [c, x]) (by simpa using XN.out) (by simp) XC.out
            have P0 := Lib.hid p0
            have P1 := Lib.hid p1
            obtain ⟨p2, p3⟩ := putE_12 (S := putC [] l) (l := [c, c, x]) (by simp)
            have P2 := Lib.hid p2
            have P3 := Lib.hid p3
            clear p0 p1 p2 p3
            have M0 := Lib.hid True.intro
            have M1 := Lib.hid True.intro
            go_wp2_with (first | (have mk := M0.out; go_at_call 15; refine (all_C CT.out BND.out).mono ?_; rintro e w8 ⟨v8, rfl, o8, f8⟩; have U8 := Lib.hid (ownCoins o8 CT.out.ok); have O8 := Lib.hid (ownsRow_keep OW.out f8 (fun _ _ => id)); have C8 := Lib.hid (CT.out.fr0 f8); have RC8 := Lib.hid (range_keep RC.out f8 id); clear o8 f8 mk M0) | (have mk := M1.out; go_at_call 18; refine (sameCoins_any _ U8.out (ownCoins O8.out C8.out.ok) BND.out BND.out).mono ?_; rintro e w9 ⟨bb, rfl, hbb, f9⟩; obtain rfl : bb = true := hbb.2 rfl; have C9 := Lib.hid (C8.out.fr0 f9); have O9 := Lib.hid (ownsRow_keep O8.out f9 (fun _ _ => id)); have RC9 := Lib.hid (range_keep RC8.out f9 id); clear hbb f9 mk M1))
            have RX9 := Lib.hid (range_keep RX.out C9.out.fr id)
            have NX := Lib.hid (show ¬ V ub from fun h => by have := HV.out ub h; have := UBL.out; have := HSW.out; have := G1.out.size; omega)
            have KK := Lib.hid (fun (w' : World) (f : Fr V w9 w') => (⟨range_keep RC9.out f NQ.out, range_keep RX9.out f NX.out⟩ : w'.rangeAt q0 0 (coinC c) ∧ w'.rangeAt ub (uo + k * 66) (coinC x)))
            refine wp_region_lexL [false, false, false, false, false, false, true, true, false, false, false, false, false, false, false, false, false, true, true, false, false, false, false, true, false, true, false, false] (fun w' => w'.rangeAt q0 0 (coinC c) ∧ w'.rangeAt ub (uo + k * 66) (coinC x)) (by kernel_rfl) (by kernel_rfl) ?_ (fun K hK => ?_)
            · exact KK.out _ (Fr.refl _ _).drew
            repeat (first | ((first | with_reducible refine lexL_read ?_ | ((with_reducible refine lexL_readG ?_ ?_); (focus rfl))); apply Exists.intro; refine ⟨?_, ?_⟩; (focus (first | exact lex_load (ty := 38) rfl (fun w h => h.1) uC rC (by rw [CL.out]; exact infoCoin) | exact lex_load (ty := 38) rfl (fun w h => h.2) uC rC (by rw [XL.out]; exact infoCoin) | (intro w' hS; obtain _ := hS; go_simp; (try with_reducible rfl); done))); try simp only [Act.put, List.setIfInBounds_toArray, List.set_cons_zero, List.set_cons_succ]) | ((first | ((with_reducible refine lexL_skip (c := false) ?_ ?_ ?_); (focus rfl); (focus rfl)) | ((with_reducible refine lexL_skip (c := true) ?_ ?_ ?_); (focus rfl); (focus rfl)) | ((with_reducible refine lexL_skipU ?_ ?_); (focus rfl))); try simp only [Act.put, List.setIfInBounds_toArray, List.set_cons_zero, List.set_cons_succ]))
            (first | with_reducible refine lexL_eff (fun K' hK' => ?_) | ((with_reducible refine lexL_effG ?_ (fun K' hK' => ?_)); (focus rfl)))
            refine wp_value (exec_buildSlice2 (t := 22) rfl rfl rfl undCoins infoCoinZ2 rfl (by decide) (by decide) CL.out XL.out) ?_
            have F10 := Lib.hid ((Fr.refl No w9).drew.alloc (.cells (coinC c ++ coinC x).toArray 38))
            refine hK'.out _ _ ?_ (fun hS => ?_)
            · exact KK.out _ F10.out.of0
            try simp only [Act.put, List.setIfInBounds_toArray, List.set_cons_zero, List.set_cons_succ]
            repeat (first | ((first | with_reducible refine lexL_read ?_ | ((with_reducible refine lexL_readG ?_ ?_); (focus rfl))); apply Exists.intro; refine ⟨?_, ?_⟩; (focus (first | (intro w' hS; obtain _ := hS; go_simp; (try with_reducible rfl); done))); try simp only [Act.put, List.setIfInBounds_toArray, List.set_cons_zero, List.set_cons_succ]) | ((first | ((with_reducible refine lexL_skip (c := false) ?_ ?_ ?_); (focus rfl); (focus rfl)) | ((with_reducible refine lexL_skip (c := true) ?_ ?_ ?_); (focus rfl); (focus rfl)) | ((with_reducible refine lexL_skipU ?_ ?_); (focus rfl))); try simp only [Act.put, List.setIfInBounds_toArray, List.set_cons_zero, List.set_cons_succ]))
            (first | with_reducible refine lexL_eff (fun K' hK' => ?_) | ((with_reducible refine lexL_effG ?_ (fun K' hK' => ?_)); (focus rfl)))
            go_simp
            refine (put_C (C9.out.fr0 F10.out) (coins_new2 w9.drew COK.out XOK.out) (by rw [SL.out]; show 2 + l.length ≤ _; omega)).mono ?_
            rintro e w11 ⟨rfl, c11, f11⟩
            rw [P0.out]
            rw [P1.out] at c11
            have C11 := Lib.hid c11
            have F11 := Lib.hid (F10.out.of0.trans f11 (fun _ _ h => h))
            clear c11 f11
            refine hK'.out _ _ ?_ (fun hS => ?_)
            · exact KK.out _ F11.out
            try simp only [Act.put, List.setIfInBounds_toArray, List.set_cons_zero, List.set_cons_succ]
            repeat (first | ((first | with_reducible refine lexL_read ?_ | ((with_reducible refine lexL_readG ?_ ?_); (focus rfl))); apply Exists.intro; refine ⟨?_, ?_⟩; (focus (first | exact lex_load (ty := 38) rfl (fun w h => h.1) uC rC (by rw [CL.out]; exact infoCoin) | exact lex_load (ty := 38) rfl (fun w h => h.2) uC rC (by rw [XL.out]; exact infoCoin) | (intro w' hS; obtain _ := hS; go_simp; (try with_reducible rfl); done))); try simp only [Act.put, List.setIfInBounds_toArray, List.set_cons_zero, List.set_cons_succ]) | ((first | ((with_reducible refine lexL_skip (c := false) ?_ ?_ ?_); (focus rfl); (focus rfl)) | ((with_reducible refine lexL_skip (c := true) ?_ ?_ ?_); (focus rfl); (focus rfl)) | ((with_reducible refine lexL_skipU ?_ ?_); (focus rfl))); try simp only [Act.put, List.setIfInBounds_toArray, List.set_cons_zero, List.set_cons_succ]))
            (first | with_reducible refine lexL_eff (fun K' hK' => ?_) | ((with_reducible refine lexL_effG ?_ (fun K' hK' => ?_)); (focus rfl)))
            refine wp_value (exec_buildSlice3 (t := 22) rfl rfl rfl rfl undCoins infoCoinZ2 rfl (by decide) (by decide) CL.out CL.out XL.out) ?_
            have F12 := Lib.hid ((Fr.refl No w11).alloc (.cells (coinC c ++ coinC c ++ coinC x).toArray 38))
            have G12 := Lib.hid (F11.out.trans0 F12.out)
            refine hK'.out _ _ ?_ (fun hS => ?_)
            · exact KK.out _ G12.out
            have F12r := Lib.hid (show Fr No w11 (w11.alloc (.cells (coinC c ++ (coinC c ++ coinC x)).toArray 38)) from (Fr.refl No w11).alloc _)
            have G12r := Lib.hid (F11.out.trans0 F12r.out)
            try simp only [Act.put, List.setIfInBounds_toArray, List.set_cons_zero, List.set_cons_succ]
            repeat (first | ((first | with_reducible refine lexL_read ?_ | ((with_reducible refine lexL_readG ?_ ?_); (focus rfl))); apply Exists.intro; refine ⟨?_, ?_⟩; (focus (first | (intro w' hS; obtain _ := hS; go_simp; (try with_reducible rfl); done))); try simp only [Act.put, List.setIfInBounds_toArray, List.set_cons_zero, List.set_cons_succ]) | ((first | ((with_reducible refine lexL_skip (c := false) ?_ ?_ ?_); (focus rfl); (focus rfl)) | ((with_reducible refine lexL_skip (c := true) ?_ ?_ ?_); (focus rfl); (focus rfl)) | ((with_reducible refine lexL_skipU ?_ ?_); (focus rfl))); try simp only [Act.put, List.setIfInBounds_toArray, List.set_cons_zero, List.set_cons_succ]))
            (first | with_reducible refine lexL_eff (fun K' hK' => ?_) | ((with_reducible refine lexL_effG ?_ (fun K' hK' => ?_)); (focus rfl)))
            go_simp
            refine (put_C (C11.out.fr0 F12r.out) (coins_new3 w11 COK.out COK.out XOK.out) (by rw [SL.out]; show 3 + l.length ≤ _; omega)).mono ?_
            rintro e w13 ⟨rfl, c13, f13⟩
            rw [P2.out]
            rw [P3.out] at c13
            have C13 := Lib.hid c13
            have F13 := Lib.hid (G12r.out.trans f13 (fun _ _ h => h))
            clear c13 f13
            refine hK'.out _ _ ?_ (fun hS => ?_)
            · exact KK.out _ F13.out
            try simp only [Act.put, List.setIfInBounds_toArray, List.set_cons_zero, List.set_cons_succ]
            repeat (first | ((first | with_reducible refine lexL_read ?_ | ((with_reducible refine lexL_readG ?_ ?_); (focus rfl))); apply Exists.intro; refine ⟨?_, ?_⟩; (focus (first | (intro w' hS; obtain _ := hS; go_simp; (try with_reducible rfl); done))); try simp only [Act.put, List.setIfInBounds_toArray, List.set_cons_zero, List.set_cons_succ]) | ((first | ((with_reducible refine lexL_skip (c := false) ?_ ?_ ?_); (focus rfl); (focus rfl)) | ((with_reducible refine lexL_skip (c := true) ?_ ?_ ?_); (focus rfl); (focus rfl)) | ((with_reducible refine lexL_skipU ?_ ?_); (focus rfl))); try simp only [Act.put, List.setIfInBounds_toArray, List.set_cons_zero, List.set_cons_succ]))
            (first | with_reducible refine lexL_eff (fun K' hK' => ?_) | ((with_reducible refine lexL_effG ?_ (fun K' hK' => ?_)); (focus rfl)))
            go_simp
            refine (all_C C13.out BND.out).mono ?_
            rintro e w14 ⟨v14, rfl, o14, f14⟩
            have U14 := Lib.hid (ownCoins o14 C13.out.ok)
            have F14 := Lib.hid (F13.out.trans0 f14)
            have O14 := Lib.hid (ownsRow_keep O9.out F14.out OV.out)
            have C14 := Lib.hid (C13.out.fr0 f14)
            clear o14 f14
            refine hK'.out _ _ ?_ (fun hS => ?_)
            · exact KK.out _ F14.out
            try simp only [Act.put, List.setIfInBounds_toArray, List.set_cons_zero, List.set_cons_succ]
            repeat (first | ((first | with_reducible refine lexL_read ?_ | ((with_reducible refine lexL_readG ?_ ?_); (focus rfl))); apply Exists.intro; refine ⟨?_, ?_⟩; (focus (first | (intro w' hS; obtain _ := hS; go_simp; (try with_reducible rfl); done))); try simp only [Act.put, List.setIfInBounds_toArray, List.set_cons_zero, List.set_cons_succ]) | ((first | ((with_reducible refine lexL_skip (c := false) ?_ ?_ ?_); (focus rfl); (focus rfl)) | ((with_reducible refine lexL_skip (c := true) ?_ ?_ ?_); (focus rfl); (focus rfl)) | ((with_reducible refine lexL_skipU ?_ ?_); (focus rfl))); try simp only [Act.put, List.setIfInBounds_toArray, List.set_cons_zero, List.set_cons_succ]))
            (first | with_reducible refine lexL_eff (fun K' hK' => ?_) | ((with_reducible refine lexL_effG ?_ (fun K' hK' => ?_)); (focus rfl)))
            go_simp
            refine (sameCoins_any _ U14.out (ownCoins O14.out C14.out.ok) BND.out BND.out).mono ?_
            rintro e w15 ⟨bb, rfl, hbb, f15⟩
            obtain rfl : bb = true := hbb.2 rfl
            have F15 := Lib.hid (F14.out.trans0 f15)
            have C15 := Lib.hid (C14.out.fr0 f15)
            clear hbb f15
            refine hK'.out _ _ ?_ (fun hS => ?_)
            · exact KK.out _ F15.out
            try simp only [Act.put, List.setIfInBounds_toArray, List.set_cons_zero, List.set_cons_succ]
            repeat (first | ((first | with_reducible refine lexL_read ?_ | ((with_reducible refine lexL_readG ?_ ?_); (focus rfl))); apply Exists.intro; refine ⟨?_, ?_⟩; (focus (first | (intro w' hS; obtain _ := hS; go_simp; (try with_reducible rfl); done))); try simp only [Act.put, List.setIfInBounds_toArray, List.set_cons_zero, List.set_cons_succ]) | ((first | ((with_reducible refine lexL_skip (c := false) ?_ ?_ ?_); (focus rfl); (focus rfl)) | ((with_reducible refine lexL_skip (c := true) ?_ ?_ ?_); (focus rfl); (focus rfl)) | ((with_reducible refine lexL_skipU ?_ ?_); (focus rfl))); try simp only [Act.put, List.setIfInBounds_toArray, List.set_cons_zero, List.set_cons_succ]))
            refine lexL_nil (hK.out _ _ ?_)
            go_wp2
            go_ret
            exact ⟨by rfl, C15.out.fr⟩
      · go_wp2_with (first | (go_at_call 11; refine (many_any _ ua l.length uc).mono ?_; rintro e w2 ⟨rfl, e2⟩; rw [e2, J1.out]; clear e2) | (go_at_call 12; refine (new_twice w1 (HL.out.keep F1.out) (by omega) hnd).mono ?_; rintro e w3 ⟨rfl, f3⟩; have F3 := Lib.hid (F1.out.trans0 f3); clear f3))
        go_ret
        exact ⟨by rfl, F3.out⟩
  · have j1 : decide (300 < l.length) = true := decide_eq_true (by omega)
    go_wp2_with (go_at_call 11; refine (many_any _ ua l.length uc).mono ?_; rintro e w2 ⟨rfl, e2⟩; rw [e2, j1]; clear e2)
    go_ret
    exact ⟨by rfl, F1.out⟩
end Go.Proofs.Ytoaefhjmpfchiaa
