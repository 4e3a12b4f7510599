/- coin: order. -/
import Derived.Test.YtoaefhjmpfchiaaCoiN
import Derived.Test.YtoaefhjmpfchiaaBytesC
import Derived.Laws.Externs
namespace Go.Proofs.Ytoaefhjmpfchiaa
open Go Go.RowKit Go.Maps Go.MapKept

theorem bcmp_any (w : World) {b1 o1 c1 b2 o2 c2 : Nat} {la lb : List Int} (h1 : w.rangeAt b1 o1 (la.map byteV)) (h2 : w.rangeAt b2 o2 (lb.map byteV)) (ha : ∀ x ∈ la, 0 ≤ x ∧ x ≤ 255) (hb : ∀ x ∈ lb, 0 ≤ x ∧ x ≤ 255) :
    Calls Try.prog 35 #[.slice (some ⟨b1, o1, none⟩) la.length c1, .slice (some ⟨b2, o2, none⟩) lb.length c2] w fun e w' => e = .returned (.int .i64 (cmpI la lb)) ∧ w' = w := by
  go_enter Try.func35, Try.ntmps35
  go_wp2
  rw [run_callFunc_extern Try.func48 (by kernel_rfl) (by kernel_rfl) (by kernel_rfl) (e := Extern.BytealgCompare.compare) (by kernel_rfl), run_compareSl h1 h2 ha hb]
  simp only [Result.andThen]
  rw [Oper.upon_value]
  go_wp2
  go_ret
  exact ⟨rfl, rfl⟩
theorem ncmp_any (w : World) (x y : Int) : Calls Try.prog 36 #[.int .u32 x, .int .u32 y] w fun e w' => e = .returned (.int .i64 (cmpN x y)) ∧ w' = w := by
  have HC := Lib.hid (show (x < y ∧ cmpN x y = -1) ∨ (¬ x < y ∧ y < x ∧ cmpN x y = 1) ∨ (¬ x < y ∧ ¬ y < x ∧ cmpN x y = 0) by
    unfold cmpN
    by_cases h1 : x < y
    · exact .inl ⟨h1, if_pos h1⟩
    · by_cases h2 : y < x
      · exact .inr (.inl ⟨h1, h2, by rw [if_neg h1, if_pos h2]⟩)
      · exact .inr (.inr ⟨h1, h2, by rw [if_neg h1, if_neg h2]⟩))
  rcases HC.out with ⟨h1, h⟩ | ⟨h1, h2, h⟩ | ⟨h1, h2, h⟩
  all_goals
    have H := Lib.hid h
    clear h HC
    go_enter Try.func36, Try.ntmps36
    go_wp2
    go_ret
    exact ⟨by rw [H.out]; rfl, rfl⟩
theorem tx_at {w : World} {b o : Nat} {c : CoinD} (h : w.rangeAt b o (coinC c)) : w.rangeAt b o (c.at_.tx.map byteV) := fun j v hj => h j v (by
  unfold coinC pointC
  rw [List.append_assoc, List.getElem?_append_left (List.getElem?_eq_some_iff.1 hj).1]
  exact hj)
theorem n_at {w : World} {b : Nat} {c : CoinD} (hc : c.ok) (h : w.rangeAt b 0 (coinC c)) : w.cell? ⟨b, 32, none⟩ = some (.int .u32 c.at_.n) := by
  have := coin_at h 32 _ (pointC_32 hc.1)
  simpa using this
set_option maxRecDepth 20000 in
set_option maxHeartbeats 2000000 in
theorem order_any (w : World) (a b : CoinD) (ha : a.ok) (hb : b.ok) :
    Calls Try.prog 29 #[.agg (coinC a).toArray, .agg (coinC b).toArray] w fun e w' => e = .returned (.int .i64 (cmpPt a.at_ b.at_)) ∧ GrewBy w w' := by
  have ra : ((w.alloc (.cells (coinC a).toArray 38)).alloc (.cells (coinC b).toArray 38)).drew.rangeAt w.heap.size 0 (coinC a) := range_keep (range_new w (coinC a) 38) ((Fr.refl No _).alloc _).drew id
  have rb : ((w.alloc (.cells (coinC a).toArray 38)).alloc (.cells (coinC b).toArray 38)).drew.rangeAt (w.heap.size + 1) 0 (coinC b) := by
    have := range_new (w.alloc (.cells (coinC a).toArray 38)) (coinC b) 38
    simpa using range_keep this (Fr.refl No _).drew id
  have GW := Lib.hid (((GrewBy.refl w).alloc (.cells (coinC a).toArray 38)).alloc (.cells (coinC b).toArray 38)).drew
  have ca := n_at ha ra
  have cb := n_at hb rb
  have RA := Lib.hid (tx_at ra)
  have RB := Lib.hid (tx_at rb)
  have LA := Lib.hid ha.1.1.1
  have LB := Lib.hid hb.1.1.1
  have OA := Lib.hid ha.1.1.2
  have OB := Lib.hid hb.1.1.2
  have HE := Lib.hid (show cmpPt a.at_ b.at_ = if cmpI a.at_.tx b.at_.tx = 0 then cmpN a.at_.n b.at_.n else cmpI a.at_.tx b.at_.tx from rfl)
  have CA := Lib.hid ca
  have CB := Lib.hid cb
  have bc := bcmp_any _ (c1 := 32) (c2 := 32) RA.out RB.out OA.out OB.out
  rw [LA.out, LB.out] at bc
  have BC := Lib.hid bc
  clear ra rb ha hb ca cb bc
  generalize cmpI a.at_.tx b.at_.tx = c at *
  generalize cmpPt a.at_ b.at_ = r at *
  go_enter Try.func29, Try.ntmps29
  go_wp2_with fail
  refine wp_region_lexL [false, false, false, false, false, false, true, false] (fun w' => True) (by kernel_rfl) (by kernel_rfl) ?_ (fun K hK => ?_)
  · trivial
  repeat (first | ((first | with_reducible refine lexL_read ?_ | ((with_reducible refine lexL_readG ?_ ?_); (focus rfl))); apply Exists.intro; refine ⟨?_, ?_⟩; (focus (first | (intro w' hS; obtain _ := hS; go_simp; (try with_reducible rfl); done))); try simp only [Act.put, List.setIfInBounds_toArray, List.set_cons_zero, List.set_cons_succ]) | ((first | ((with_reducible refine lexL_skip (c := false) ?_ ?_ ?_); (focus rfl); (focus rfl)) | ((with_reducible refine lexL_skip (c := true) ?_ ?_ ?_); (focus rfl); (focus rfl)) | ((with_reducible refine lexL_skipU ?_ ?_); (focus rfl))); try simp only [Act.put, List.setIfInBounds_toArray, List.set_cons_zero, List.set_cons_succ]))
  (first | with_reducible refine lexL_eff (fun K' hK' => ?_) | ((with_reducible refine lexL_effG ?_ (fun K' hK' => ?_)); (focus rfl)))
  go_simp
  refine BC.out.mono ?_
  rintro e w2 ⟨rfl, rfl⟩
  refine hK'.out _ _ ?_ (fun hS => ?_)
  · trivial
  try simp only [Act.put, List.setIfInBounds_toArray, List.set_cons_zero, List.set_cons_succ]
  repeat (first | ((first | with_reducible refine lexL_read ?_ | ((with_reducible refine lexL_readG ?_ ?_); (focus rfl))); apply Exists.intro; refine ⟨?_, ?_⟩; (focus (first | (intro w' hS; obtain _ := hS; go_simp; (try with_reducible rfl); done))); try simp only [Act.put, List.setIfInBounds_toArray, List.set_cons_zero, List.set_cons_succ]) | ((first | ((with_reducible refine lexL_skip (c := false) ?_ ?_ ?_); (focus rfl); (focus rfl)) | ((with_reducible refine lexL_skip (c := true) ?_ ?_ ?_); (focus rfl); (focus rfl)) | ((with_reducible refine lexL_skipU ?_ ?_); (focus rfl))); try simp only [Act.put, List.setIfInBounds_toArray, List.set_cons_zero, List.set_cons_succ]))
  refine lexL_nil (hK.out _ _ ?_)
  by_cases h0 : c = 0
  · subst h0
    have HE2 := Lib.hid (show r = cmpN a.at_.n b.at_.n from HE.out)
    have c1 := CA.out
    have c2 := CB.out
    clear HE
    go_wp2_with (go_at_call 36; refine (ncmp_any _ a.at_.n b.at_.n).mono ?_; rintro e w3 ⟨rfl, rfl⟩)
    go_ret
    exact ⟨by rw [HE2.out]; rfl, GW.out⟩
  · have HE2 := Lib.hid (show r = c by rw [HE.out, if_neg h0])
    clear HE
    go_wp2
    go_ret
    exact ⟨by rw [HE2.out]; rfl, GW.out⟩
end Go.Proofs.Ytoaefhjmpfchiaa
