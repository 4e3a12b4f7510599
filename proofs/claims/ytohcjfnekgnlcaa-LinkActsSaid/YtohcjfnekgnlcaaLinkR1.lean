/- The document's links: end, fit, lane; SameInts; Ends. -/
import Derived.Test.YtohcjfnekgnlcaaLinkR
namespace Go.Proofs.Ytohcjfnekgnlcaa
open Go Go.RowKit Go.Maps Go.MapKept

theorem endR_any (w : World) (a : Int) : Calls Try.prog 42 #[.int .i64 a] w fun e w' => e = .returned (.bool (decide (0 ≤ a) && decide (a < 64))) ∧ w' = w := by
  cases h1 : decide (0 ≤ a) with
  | false =>
    go_enter Try.func42, Try.ntmps42
    go_wp2
    go_ret
    exact ⟨rfl, rfl⟩
  | true =>
    cases h2 : decide (a < 64) with
    | false =>
      go_enter Try.func42, Try.ntmps42
      go_wp2
      go_ret
      exact ⟨rfl, rfl⟩
    | true =>
      go_enter Try.func42, Try.ntmps42
      go_wp2
      go_ret
      exact ⟨rfl, rfl⟩

def fitB (a b : Int) : Bool := (decide (0 ≤ a) && decide (a < 64)) && (decide (0 ≤ b) && decide (b < 64)) && (a != b)
theorem fitB_vld {a b : Int} : fitB a b = true ↔ vld a b := by
  unfold fitB vld
  simp
  omega
theorem fitR_any (w : World) (a b : Int) : Calls Try.prog 40 #[.int .i64 a, .int .i64 b] w fun e w' => e = .returned (.bool (fitB a b)) ∧ w' = w := by
  have h1 := endR_any w a
  have h2 := endR_any w b
  unfold fitB
  cases e1 : (decide (0 ≤ a) && decide (a < 64)) with
  | false =>
    rw [e1] at h1
    have H1 := Lib.hid h1
    clear h1 h2 e1
    go_enter Try.func40, Try.ntmps40
    go_wp2_with fail
    refine H1.out.mono ?_
    rintro e w1 ⟨rfl, rfl⟩
    go_wp2
    go_ret
    exact ⟨by simp, rfl⟩
  | true =>
    rw [e1] at h1
    cases e2 : (decide (0 ≤ b) && decide (b < 64)) with
    | false =>
      rw [e2] at h2
      have H1 := Lib.hid h1
      have H2 := Lib.hid h2
      clear h1 h2 e1 e2
      go_enter Try.func40, Try.ntmps40
      go_wp2_with fail
      refine H1.out.mono ?_
      rintro e w1 ⟨rfl, rfl⟩
      go_wp2_with fail
      refine H2.out.mono ?_
      rintro e w2 ⟨rfl, rfl⟩
      go_wp2
      go_ret
      exact ⟨by simp, rfl⟩
    | true =>
      rw [e2] at h2
      have H1 := Lib.hid h1
      have H2 := Lib.hid h2
      clear h1 h2 e1 e2
      cases e3 : (a != b) with
      | false =>
        go_enter Try.func40, Try.ntmps40
        go_wp2_with fail
        refine H1.out.mono ?_
        rintro e w1 ⟨rfl, rfl⟩
        go_wp2_with fail
        refine H2.out.mono ?_
        rintro e w2 ⟨rfl, rfl⟩
        go_wp2
        go_ret
        exact ⟨rfl, rfl⟩
      | true =>
        go_enter Try.func40, Try.ntmps40
        go_wp2_with fail
        refine H1.out.mono ?_
        rintro e w1 ⟨rfl, rfl⟩
        go_wp2_with fail
        refine H2.out.mono ?_
        rintro e w2 ⟨rfl, rfl⟩
        go_wp2
        go_ret
        exact ⟨rfl, rfl⟩

theorem laneR_any (w : World) (k : Int) : Calls Try.prog 41 #[.int .i64 k] w fun e w' => e = .returned (.bool ((k == 0) || (k == 1))) ∧ w' = w := by
  cases h1 : (k == 0) with
  | true =>
    go_enter Try.func41, Try.ntmps41
    go_wp2
    go_ret
    exact ⟨rfl, rfl⟩
  | false =>
    cases h2 : (k == 1) with
    | false =>
      go_enter Try.func41, Try.ntmps41
      go_wp2
      go_ret
      exact ⟨rfl, rfl⟩
    | true =>
      go_enter Try.func41, Try.ntmps41
      go_wp2
      go_ret
      exact ⟨rfl, rfl⟩

set_option maxHeartbeats 1000000 in
theorem sameInts_any (w : World) (a b : Value) (x y : List Int) (ha : ArgIs w a x.length (x.map intV)) (hb : ArgIs w b y.length (y.map intV)) (hxl : x.length ≤ maxLen) :
    Calls Try.prog 29 #[a, b] w (SameOk w x y) := by
  unfold maxLen at hxl
  obtain ⟨aa, ac, rfl⟩ := ha.form
  obtain ⟨ba, bc, rfl⟩ := hb.form
  by_cases hl : x.length = y.length
  · have hlb : ((x.length : Int) != (y.length : Int)) = false := by simp [hl]
    have HL := Lib.hid hl
    clear hl
    go_enter Try.func29, Try.ntmps29
    go_wp2
    go_loopw [13] (fun i wr => ∃ n : Nat, n ≤ x.length ∧ i = .int .i64 n ∧ x.take n = y.take n ∧ Fr No w wr) (fun i _ => x.length - (intOf i).toNat)
    case atStart => exact ⟨0, Nat.zero_le _, rfl, rfl, Fr.refl _ _⟩
    case round =>
      obtain ⟨n, hn, rfl, htk, hfr⟩ := hrel
      by_cases hlt : n < x.length
      · have hlt2 : n < y.length := by have := HL.out; omega
        rcases ha with (⟨_, e, _⟩ | ⟨b1, o1, c1, e1, h2, h3, h4, h5⟩) | ⟨_, _, _, e, _⟩
        · omega
        rotate_left
        · omega
        rcases hb with (⟨_, e, _⟩ | ⟨b2, o2, c2, e2, g2, g3, g4, g5⟩) | ⟨_, _, _, e, _⟩
        · omega
        rotate_left
        · omega
        cases e1
        cases e2
        have q1 := hfr.cell (h4 n (intV x[n]) (by rw [List.getElem?_map, List.getElem?_eq_getElem hlt]; rfl)) id
        have q2 := hfr.cell (g4 n (intV y[n]) (by rw [List.getElem?_map, List.getElem?_eq_getElem hlt2]; rfl)) id
        unfold intV at q1 q2
        have HT := Lib.hid htk
        have i1 : (n : Int) < (x.length : Int) := by omega
        have i2 : (n : Int) < (y.length : Int) := by omega
        clear htk h2 h3 h4 h5 g2 g3 g4 g5
        by_cases hx : x[n] = y[n]
        · have hxb : (x[n] != y[n]) = false := by simp [hx]
          have HX := Lib.hid hx
          clear hx
          go_wp2
          refine wp_region_lexL [false, false, false, false, false, false, false, false, false] (fun w' => w'.cell? ⟨b1, o1 + n, none⟩ = some (.int .i64 x[n]) ∧ w'.cell? ⟨b2, o2 + n, none⟩ = some (.int .i64 y[n])) (by kernel_rfl) (by kernel_rfl) ?_ (fun K hK => ?_)
          · exact ⟨q1, q2⟩
          repeat (first | ((first | with_reducible refine lexL_read ?_ | ((with_reducible refine lexL_readG ?_ ?_); (focus rfl))); apply Exists.intro; refine ⟨fun w' hS => ?_, ?_⟩; (focus (obtain ⟨s1, s2⟩ := hS; go_simp; (try with_reducible rfl); done)); try simp only [Act.put, List.setIfInBounds_toArray, List.set_cons_zero, List.set_cons_succ]) | ((first | ((with_reducible refine lexL_skip (c := false) ?_ ?_ ?_); (focus rfl); (focus rfl)) | ((with_reducible refine lexL_skip (c := true) ?_ ?_ ?_); (focus rfl); (focus rfl)) | ((with_reducible refine lexL_skipU ?_ ?_); (focus rfl))); try simp only [Act.put, List.setIfInBounds_toArray, List.set_cons_zero, List.set_cons_succ]))
          refine lexL_nil (hK.out _ _ ?_)
          go_wp2
          go_roundw
          case rel => exact ⟨n + 1, by omega, by go_num, take_eq_succ HT.out (by simp [HX.out, hlt, hlt2]), by (repeat (first | with_reducible exact Fr.refl _ _ | with_reducible assumption | with_reducible refine Fr.drew ?_ | with_reducible refine Fr.drewN ?_ _ | with_reducible refine Fr.alloc ?_ _ | with_reducible refine Fr.setCell ?_ _ (.inl (by simp <;> omega)) _))⟩
          case measure => simp [intOf]; omega
        · have hxb : (x[n] != y[n]) = true := by simp [hx]
          have hne : decide (x = y) = false := by
            simp only [decide_eq_false_iff_not]
            intro e; subst e; exact hx rfl
          have FIN : ∀ w', Fr No w w' → SameOk w x y (.returned (.bool false)) w' := fun w' f => ⟨by rw [hne], f⟩
          have HF := Lib.hid FIN
          clear FIN hne hx
          go_wp2
          refine wp_region_lexL [false, false, false, false, false, false, false, false, false] (fun w' => w'.cell? ⟨b1, o1 + n, none⟩ = some (.int .i64 x[n]) ∧ w'.cell? ⟨b2, o2 + n, none⟩ = some (.int .i64 y[n])) (by kernel_rfl) (by kernel_rfl) ?_ (fun K hK => ?_)
          · exact ⟨q1, q2⟩
          repeat (first | ((first | with_reducible refine lexL_read ?_ | ((with_reducible refine lexL_readG ?_ ?_); (focus rfl))); apply Exists.intro; refine ⟨fun w' hS => ?_, ?_⟩; (focus (obtain ⟨s1, s2⟩ := hS; go_simp; (try with_reducible rfl); done)); try simp only [Act.put, List.setIfInBounds_toArray, List.set_cons_zero, List.set_cons_succ]) | ((first | ((with_reducible refine lexL_skip (c := false) ?_ ?_ ?_); (focus rfl); (focus rfl)) | ((with_reducible refine lexL_skip (c := true) ?_ ?_ ?_); (focus rfl); (focus rfl)) | ((with_reducible refine lexL_skipU ?_ ?_); (focus rfl))); try simp only [Act.put, List.setIfInBounds_toArray, List.set_cons_zero, List.set_cons_succ]))
          refine lexL_nil (hK.out _ _ ?_)
          go_wp2
          go_ret
          exact HF.out _ (by (repeat (first | with_reducible exact Fr.refl _ _ | with_reducible assumption | with_reducible refine Fr.drew ?_ | with_reducible refine Fr.drewN ?_ _ | with_reducible refine Fr.alloc ?_ _ | with_reducible refine Fr.setCell ?_ _ (.inl (by simp <;> omega)) _)))
      · have hnx : n = x.length := by omega
        have he : decide (x = y) = true := by
          have h2 := HL.out
          rw [hnx, List.take_length, h2, List.take_length] at htk
          simp [htk]
        have FIN : SameOk w x y (.returned (.bool true)) wr := ⟨by rw [he], hfr⟩
        have HF := Lib.hid FIN
        clear FIN he htk hnx
        go_wp2
        go_ret
        exact HF.out
  · have hlb : ((x.length : Int) != (y.length : Int)) = true := by simp; omega
    have hne : decide (x = y) = false := by
      simp only [decide_eq_false_iff_not]
      intro e; subst e; exact hl rfl
    have FIN : ∀ w', Fr No w w' → SameOk w x y (.returned (.bool false)) w' := fun w' f => ⟨by rw [hne], f⟩
    have HF := Lib.hid FIN
    clear FIN hne hl ha hb
    go_enter Try.func29, Try.ntmps29
    go_wp2
    go_ret
    exact HF.out _ (by (repeat (first | with_reducible exact Fr.refl _ _ | with_reducible assumption | with_reducible refine Fr.drew ?_ | with_reducible refine Fr.drewN ?_ _ | with_reducible refine Fr.alloc ?_ _ | with_reducible refine Fr.setCell ?_ _ (.inl (by simp <;> omega)) _)))

set_option maxHeartbeats 2000000 in
theorem endsR_any (w : World) (g : RfG) (h : RfAt w g) (hvo : ∀ q ∈ g.ps, 0 ≤ q.1 ∧ q.1 < q.2 ∧ q.2 < 64) (a : Int) :
    Calls Try.prog 30 #[.pointer (some ⟨g.bl, 0, none⟩), .int .i64 a] w (EndsOk w (endsOf g.ps a 64)) := by
  go_enter Try.func30, Try.ntmps30
  go_wp2_with fail
  go_loopw [5, 7] (fun out i wr => ∃ n : Nat, n ≤ 64 ∧ i = .int .i64 n ∧ wr.ownsRow w.heap.size 3 1 out (endsOf g.ps a n).length ((endsOf g.ps a n).map intV) ∧ Fr No w wr) (fun _ i _ => 64 - (intOf i).toNat)
  case atStart => exact ⟨0, Nat.zero_le _, rfl, World.ownsRow_nil _ _ _ _, Fr.refl _ _⟩
  case round =>
    obtain ⟨n, hn, rfl, hro, hfr⟩ := hrel
    by_cases hlt : n < 64
    · have hl := endsOf_length g.ps a n
      have hs := endsOf_succ g.ps a n
      have hc := hasR_any wr g (h.keep hfr) a n
      have HR := Lib.hid hro
      clear hro
      cases hne : (a != (n : Int)) with
      | false =>
        have hB : hasB g.ps a n = false := hasB_no1 (fun hv => by unfold vld at hv; simp at hne; omega)
        rw [hB] at hs
        have HS := Lib.hid hs
        clear hs hB hc
        go_wp2
        go_roundw
        case rel => exact ⟨n + 1, by omega, by go_num, by rw [HS.out]; simpa using HR.out, hfr⟩
        case measure => simp [intOf]; omega
      | true =>
        have hB : decide ((lo a n, hi a n) ∈ g.ps) = hasB g.ps a n := by
          have hne' : a ≠ n := by simpa using hne
          by_cases hin : (lo a n, hi a n) ∈ g.ps
          · have hv := hvo _ hin
            have : vld a n := by
              unfold vld
              simp only [lo, hi] at hv
              split at hv <;> omega
            rw [hasB_yes this hin]
            simp [hin]
          · rw [hasB_no2 hin]
            simp [hin]
        rw [hB] at hc
        have HC := Lib.hid hc
        clear hc hB
        cases hB : hasB g.ps a n with
        | false =>
          rw [hB] at hs HC
          have HS := Lib.hid hs
          clear hs hB
          go_wp2_with fail
          refine HC.out.mono ?_
          rintro e w2 ⟨rfl, f2⟩
          go_wp2
          go_roundw
          case rel => exact ⟨n + 1, by omega, by go_num, by rw [HS.out]; simpa using ownsRow_keep HR.out f2 (fun _ _ => id), hfr.trans0 f2⟩
          case measure => simp [intOf]; omega
        | true =>
          rw [hB] at hs HC
          have HS := Lib.hid hs
          clear hs hB
          go_wp2_with fail
          refine HC.out.mono ?_
          rintro e w2 ⟨rfl, f2⟩
          have hro2 := ownsRow_keep HR.out f2 (fun _ _ => id)
          obtain ⟨v', w4, happ, hro', f4, -, -⟩ := append_blk (P := Try.prog) w2 w.heap.size 49 49 3 1 8 (.int .i64 0) undInts infoInt rfl (by decide) hro2 [.int .i64 n] rfl (by simp; rfl) (by omega) (by unfold maxLen; omega) (hfr.trans0 f2).size
          clear hro2
          go_wp2_with (at_builtin; refine wpList_append_run rfl rfl rfl rfl happ ?_)
          go_roundw
          case rel =>
            refine ⟨n + 1, by omega, by go_num, ?_, (hfr.trans0 f2).trans f4 (fun i hi e => ?_)⟩
            · rw [HS.out]; simpa using (show w4.ownsRow w.heap.size 3 1 v' _ (_ ++ [intV n]) from hro')
            · have := (HR.out.lt i e).1; omega
          case measure => simp [intOf]; omega
    · have : n = 64 := by omega
      subst this
      have HFIN := Lib.hid (show EndsOk w (endsOf g.ps a 64) (.returned u5) wr from ⟨_, rfl, hro, hfr⟩)
      clear hro
      go_wp2
      go_ret
      exact HFIN.out
end Go.Proofs.Ytohcjfnekgnlcaa
