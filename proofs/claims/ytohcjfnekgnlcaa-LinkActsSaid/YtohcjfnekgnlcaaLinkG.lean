/- slices.Delete of one message. -/
import Derived.Test.YtohcjfnekgnlcaaLinkF
namespace Go.Proofs.Ytohcjfnekgnlcaa
open Go Go.RowKit Go.Maps Go.MapKept

theorem eraseIdx_parts {α : Type} : ∀ (l : List α) (p : Nat), l.take p ++ l.drop (p + 1) = l.eraseIdx p
  | [], p => by simp
  | x :: l, 0 => by simp
  | x :: l, p + 1 => by simp [eraseIdx_parts l p]

theorem addr_add0 (a : Addr) : a.add 0 = a := by unfold Addr.add; split <;> simp_all
theorem clear_one {P : Program} {t e ty : TypeId} {z u : Value} {w : World} {a : Addr} {c : Nat} (ht : P.underlying t = some (.slice e)) (hz : (zeroValue e).run P w = .ok z w) (h1 : z.cells = #[z]) (ho : z.oneCell' = true)
    (hc : w.cell? a = some u) (hf : w.frozen? a = false) :
    ∀ m, m = 1 → (Builtin.clear_ #[t] ty #[.slice (some a) m c]).run P w = .ok (.tuple #[]) (w.setCell a z) := by
  rintro m rfl
  have e1 : (Builtin.zeroCells #[z] 1).toList = [z] := by
    have e0 : Array.range 1 = #[0] := by decide
    simp [Builtin.zeroCells, e0]
  cases z <;> simp [Value.oneCell'] at ho <;> simp [Builtin.clear_, run_underlying ht, hz, Result.andThen, h1, e1, storeCells, addr_add0, store, Sem.run, hc, hf]

theorem zeroBytes (w : World) : (zeroValue 28).run Try.prog w = .ok (.slice none 0 0) w := by kernel_rfl

/-- The row behind the removal. -/
theorem delete_row {w w1 w2 : World} {gk vc n p : Nat} {xs news : List Value} {cur : Array Value} {T : TypeId} (hp : p < n) (hg : w.heap[gk]? = some (.cells cur T (0, 0))) (hnc : n ≤ vc) (hcm : vc ≤ maxLen) (hcs : cur.size = vc) (htake : cur.toList.take n = xs)
    (hnews : news = xs.drop (p + 1)) (hw1 : w1 = w.setRow gk (cur.toList.take p ++ news ++ cur.toList.drop (p + news.length)).toArray) (z : Value) (hw2 : w2 = w1.setCell ⟨gk, n - 1, none⟩ z) :
    w2.ownsRow 0 T 1 (.slice (some ⟨gk, 0, none⟩) (n - 1) vc) (n - 1) (xs.eraseIdx p) ∧ Fr (· = gk) w w2 ∧ (∃ u, w1.cell? ⟨gk, n - 1, none⟩ = some u) ∧ w1.frozen? ⟨gk, n - 1, none⟩ = false := by
  have hxl : xs.length = n := by rw [← htake]; simp; omega
  have hnl : news.length = n - (p + 1) := by rw [hnews]; simp [hxl]
  have hb1 := setRow_heap w gk cur (cur.toList.take p ++ news ++ cur.toList.drop (p + news.length)).toArray T (0, 0) hg
  rw [← hw1] at hb1
  have hsz : (cur.toList.take p ++ news ++ cur.toList.drop (p + news.length)).length = vc := by simp; omega
  have hb2 : w2.heap[gk]? = some (.cells ((cur.toList.take p ++ news ++ cur.toList.drop (p + news.length)).toArray.setIfInBounds (n - 1) z) T (0, 0)) := by
    rw [hw2]
    simp only [World.setCell, Array.getElem?_modify, if_true, hb1]
    rfl
  refine ⟨⟨by rw [List.length_eraseIdx, hxl, if_pos hp]; omega, .inr ⟨gk, vc, _, rfl, Nat.zero_le _, hb2, by omega, hcm, ?_, ?_⟩⟩, ?_, ?_, ?_⟩
  · simp; simp at hsz; omega
  · rw [Nat.mul_one, ← eraseIdx_parts, ← hnews]
    have e1 : xs.take p = cur.toList.take p := by rw [← htake, List.take_take, Nat.min_eq_left (by omega)]
    rw [e1]
    have e2 : ((cur.toList.take p ++ news ++ cur.toList.drop (p + news.length)).toArray.setIfInBounds (n - 1) z).toList = (cur.toList.take p ++ news ++ cur.toList.drop (p + news.length)).set (n - 1) z := by simp
    rw [e2, List.take_set_of_le (Nat.le_refl _)]
    exact List.take_left' (by simp; omega)
  · refine ⟨by rw [hw2, hw1]; rfl, by rw [hw2, hw1]; rfl, by rw [hw2, hw1]; rfl, by rw [hw2, hw1]; simp [World.setCell, World.setRow], fun k _ hk => ?_⟩
    rw [hw2, Below.heap_setCell _ _ _ _ hk, hw1, setRow_other _ _ _ _ hk]
  · have : n - 1 < (cur.toList.take p ++ news ++ cur.toList.drop (p + news.length)).length := by rw [hsz]; omega
    exact ⟨_, by simp only [World.cell?, hb1]; simp only [Option.isSome_none, Bool.false_eq_true, if_false, List.getElem?_toArray]; exact List.getElem?_eq_getElem this⟩
  · simp [World.frozen?, hb1]

set_option maxHeartbeats 2000000 in
theorem delete_any (w : World) (gk vc n p : Nat) (xs : List Value) (hrow : w.ownsRow 0 28 1 (.slice (some ⟨gk, 0, none⟩) n vc) n xs) (hp : p < n) (hn : n ≤ 64) (hones : ∀ u ∈ xs, u.oneCell' = true) :
    Calls Try.prog 34 #[.slice (some ⟨gk, 0, none⟩) n vc, .int .i64 p, .int .i64 (p + 1)] w fun e w' =>
      e = .returned (.slice (some ⟨gk, 0, none⟩) (n - 1) vc) ∧ w'.ownsRow 0 28 1 (.slice (some ⟨gk, 0, none⟩) (n - 1) vc) (n - 1) (xs.eraseIdx p) ∧ Fr (· = gk) w w' := by
  obtain ⟨hlen, hcase⟩ := hrow
  rcases hcase with ⟨e, _⟩ | ⟨g', cap, cur, e, _, hg, hnc, hcm, hcs, htake⟩
  · cases e
  · cases e
    rw [Nat.mul_one] at hcs htake hlen
    have h1 : p ≤ vc := by omega
    have h2 : p + 1 ≤ n := by omega
    have i1 : (0 : Int) ≤ (p : Int) + 1 := by omega
    have i2 : (p : Int) + 1 ≤ (n : Int) := by omega
    have h3 : ¬ vc = n - 1 := by omega
    have i3 : (0 : Int) ≤ ((n - 1 : Nat) : Int) := by omega
    have i4 : ((n - 1 : Nat) : Int) ≤ (n : Int) := by omega
    have i5 : (n : Int) ≤ (vc : Int) := by omega
    have n1 : n - 1 ≤ n := by omega
    obtain ⟨i, hi, hz, hs, hb⟩ := info_parts infoBytes
    obtain ⟨w1, hw1⟩ : ∃ w1, w1 = w.drew.setRow gk (cur.toList.take p ++ xs.drop (p + 1) ++ cur.toList.drop (p + (xs.drop (p + 1)).length)).toArray := ⟨_, rfl⟩
    have hcells : ∀ j u, (xs.drop (p + 1))[j]? = some u → w.drew.cell? ((⟨gk, p + 1, none⟩ : Addr).add j) = some u := fun j u hj => by
      rw [addr_add]
      rw [List.getElem?_drop] at hj
      rw [← htake, List.getElem?_take] at hj
      split at hj
      · show w.cell? _ = _
        simp only [World.cell?, hg]
        simpa using hj
      · cases hj
    have hone : ∀ u ∈ xs.drop (p + 1), u.oneCell' = true := fun u hu => hones u (List.mem_of_mem_drop hu)
    obtain ⟨w2, hw2⟩ : ∃ w2, w2 = w1.setCell ⟨gk, n - 1, none⟩ (.slice none 0 0) := ⟨_, rfl⟩
    obtain ⟨r1, r2, ⟨u, r3⟩, r4⟩ := delete_row (w := w.drew) (T := 28) hp hg hnc hcm hcs htake rfl hw1 (.slice none 0 0) hw2
    have hclr := fun (ty : TypeId) (c : Nat) => clear_one (P := Try.prog) (t := 35) (ty := ty) (c := c) undRows (zeroBytes w1) rfl rfl r3 r4 (n - (n - 1)) (by omega)
    rw [← hw2] at hclr
    have HFIN := Lib.hid (show _ ∧ _ from ⟨r1, (Fr.refl (· = gk) w).drew.trans r2 (fun _ _ h => h)⟩)
    clear hones r1 r2 hw2
    by_cases hce : vc = p + 1
    · obtain rfl : n = p + 1 := by omega
      subst hce
      have happ' := run_append_room (P := Try.prog) w.drew 35 35 28 i undRows hi gk p (p + 1) cur hg ⟨gk, 0, none⟩ 0 0 [] (by simp) (fun j u hj => by simp at hj) (by simp) (by omega) (by rw [hs, hcs]; simp)
      have hxl : xs.drop (p + 1) = [] := List.drop_eq_nil_of_le (by omega)
      rw [hxl] at hw1
      have happ : (Builtin.append_ #[35, 35] 35 #[.slice (some ⟨gk, 0, none⟩) p (p + 1), .slice (some ⟨gk, 0, none⟩) 0 0]).run Try.prog w.drew = .ok (.slice (some ⟨gk, 0, none⟩) p (p + 1)) w1 := by
        rw [hs, Nat.mul_one] at happ'
        rw [hw1]
        exact happ'
      have hclr' : ∀ (ty : TypeId) (c : Nat), (Builtin.clear_ #[35] ty #[.slice (some ⟨gk, p, none⟩) 1 c]).run Try.prog w1 = .ok (.tuple #[]) w2 := fun ty c => by
        have := hclr ty c
        rwa [show p + 1 - (p + 1 - 1) = 1 by omega] at this
      have h5 : ¬ (p + 1 = p) := by omega
      have i6 : (0 : Int) ≤ (p : Int) := by omega
      have i7 : (p : Int) ≤ (p : Int) + 1 := by omega
      have h6 : p + 1 - p = 1 := by omega
      clear hone hw1 hcells hclr happ' hxl i3 i4 i5 n1 h3 hcs htake hlen hn h2 i2 hcm hnc r3 r4
      go_enter Try.func34, Try.ntmps34
      go_wp2
      refine wp_region_lexL [false, false, false, false, false, false, true, false] (fun w' => True) (by kernel_rfl) (by kernel_rfl) ?_ (fun K hK => ?_)
      · trivial
      repeat (first | ((first | with_reducible refine lexL_read ?_ | ((with_reducible refine lexL_readG ?_ ?_); (focus rfl))); apply Exists.intro; refine ⟨fun w' hS => ?_, ?_⟩; (focus (obtain _ := hS; go_simp; (try with_reducible rfl); done)); try simp only [Act.put, List.setIfInBounds_toArray, List.set_cons_zero, List.set_cons_succ]) | ((first | ((with_reducible refine lexL_skip (c := false) ?_ ?_ ?_); (focus rfl); (focus rfl)) | ((with_reducible refine lexL_skip (c := true) ?_ ?_ ?_); (focus rfl); (focus rfl)) | ((with_reducible refine lexL_skipU ?_ ?_); (focus rfl))); try simp only [Act.put, List.setIfInBounds_toArray, List.set_cons_zero, List.set_cons_succ]))
      (first | with_reducible refine lexL_eff (fun K' hK' => ?_) | ((with_reducible refine lexL_effG ?_ (fun K' hK' => ?_)); (focus rfl)))
      refine wp_append_run rfl rfl rfl happ ?_
      refine hK'.out _ _ ?_ (fun hS => ?_)
      · trivial
      try simp only [Act.put, List.setIfInBounds_toArray, List.set_cons_zero, List.set_cons_succ]
      repeat (first | ((first | with_reducible refine lexL_read ?_ | ((with_reducible refine lexL_readG ?_ ?_); (focus rfl))); apply Exists.intro; refine ⟨fun w' hS => ?_, ?_⟩; (focus (obtain _ := hS; go_simp; (try with_reducible rfl); done)); try simp only [Act.put, List.setIfInBounds_toArray, List.set_cons_zero, List.set_cons_succ]) | ((first | ((with_reducible refine lexL_skip (c := false) ?_ ?_ ?_); (focus rfl); (focus rfl)) | ((with_reducible refine lexL_skip (c := true) ?_ ?_ ?_); (focus rfl); (focus rfl)) | ((with_reducible refine lexL_skipU ?_ ?_); (focus rfl))); try simp only [Act.put, List.setIfInBounds_toArray, List.set_cons_zero, List.set_cons_succ]))
      refine lexL_nil (hK.out _ _ ?_)
      go_wp2_with (refine wpList_clear_run rfl rfl rfl (hclr' _ _) ?_)
      go_ret
      exact ⟨rfl, HFIN.out⟩
    · have happ := run_append_room (P := Try.prog) w.drew 35 35 28 i undRows hi gk p vc cur hg ⟨gk, p + 1, none⟩ (n - (p + 1)) (vc - (p + 1)) (xs.drop (p + 1)) (by rw [hs]; simp; omega) hcells hone (by omega) (by rw [hs, hcs]; simp; omega)
      rw [show p + (n - (p + 1)) = n - 1 by omega, hs, Nat.mul_one, ← hw1] at happ
      clear hone hw1 hcells
      go_enter Try.func34, Try.ntmps34
      go_wp2
      refine wp_region_lexL [false, false, false, false, false, false, true, false] (fun w' => True) (by kernel_rfl) (by kernel_rfl) ?_ (fun K hK => ?_)
      · trivial
      repeat (first | ((first | with_reducible refine lexL_read ?_ | ((with_reducible refine lexL_readG ?_ ?_); (focus rfl))); apply Exists.intro; refine ⟨fun w' hS => ?_, ?_⟩; (focus (obtain _ := hS; go_simp; (try with_reducible rfl); done)); try simp only [Act.put, List.setIfInBounds_toArray, List.set_cons_zero, List.set_cons_succ]) | ((first | ((with_reducible refine lexL_skip (c := false) ?_ ?_ ?_); (focus rfl); (focus rfl)) | ((with_reducible refine lexL_skip (c := true) ?_ ?_ ?_); (focus rfl); (focus rfl)) | ((with_reducible refine lexL_skipU ?_ ?_); (focus rfl))); try simp only [Act.put, List.setIfInBounds_toArray, List.set_cons_zero, List.set_cons_succ]))
      (first | with_reducible refine lexL_eff (fun K' hK' => ?_) | ((with_reducible refine lexL_effG ?_ (fun K' hK' => ?_)); (focus rfl)))
      refine wp_append_run rfl rfl rfl happ ?_
      refine hK'.out _ _ ?_ (fun hS => ?_)
      · trivial
      try simp only [Act.put, List.setIfInBounds_toArray, List.set_cons_zero, List.set_cons_succ]
      repeat (first | ((first | with_reducible refine lexL_read ?_ | ((with_reducible refine lexL_readG ?_ ?_); (focus rfl))); apply Exists.intro; refine ⟨fun w' hS => ?_, ?_⟩; (focus (obtain _ := hS; go_simp; (try with_reducible rfl); done)); try simp only [Act.put, List.setIfInBounds_toArray, List.set_cons_zero, List.set_cons_succ]) | ((first | ((with_reducible refine lexL_skip (c := false) ?_ ?_ ?_); (focus rfl); (focus rfl)) | ((with_reducible refine lexL_skip (c := true) ?_ ?_ ?_); (focus rfl); (focus rfl)) | ((with_reducible refine lexL_skipU ?_ ?_); (focus rfl))); try simp only [Act.put, List.setIfInBounds_toArray, List.set_cons_zero, List.set_cons_succ]))
      refine lexL_nil (hK.out _ _ ?_)
      go_wp2_with (refine wpList_clear_run rfl rfl rfl (hclr _ _) ?_)
      go_ret
      exact ⟨rfl, HFIN.out⟩
end Go.Proofs.Ytohcjfnekgnlcaa
