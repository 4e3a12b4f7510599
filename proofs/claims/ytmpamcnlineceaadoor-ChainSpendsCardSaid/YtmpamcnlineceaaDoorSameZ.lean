/- pappusref02: Same, SameAll. -/
import Derived.Test.YtmpamcnlineceaaDoorProg
import Derived.Lib.Hide
import Derived.Test.YtmpamcnlineceaaDoorMG3
import Derived.Test.YtmpamcnlineceaaDoorMG1
set_option linter.unusedVariables false
set_option linter.unusedSimpArgs false
set_option linter.unnecessarySimpa false
set_option linter.all false
namespace Go.Proofs.YtmpamcnlineceaaDoor
open Go Go.RowKit Go.Maps



theorem take_eq_succ {α : Type} {x y : List α} {k : Nat} (h : x.take k = y.take k) (e : x[k]? = y[k]?) : x.take (k + 1) = y.take (k + 1) := by rw [List.take_add_one, List.take_add_one, h, e]

def SameOk (w : World) (x y : List Int) (e : Ending) (w' : World) : Prop := e = .returned (.bool (decide (x = y))) ∧ Fr No w w'

set_option maxHeartbeats 1000000 in
theorem same_any (w : World) (a b : Value) (x y : List Int) (ha : ArgIs w a x.length (x.map byteV)) (hb : ArgIs w b y.length (y.map byteV)) (hxl : x.length ≤ maxLen) :
    Calls Tryd.prog 54 #[a, b] w (SameOk w x y) := by
  unfold maxLen at hxl
  obtain ⟨aa, ac, rfl⟩ := ha.form
  obtain ⟨ba, bc, rfl⟩ := hb.form
  by_cases hl : x.length = y.length
  · have hlb : ((x.length : Int) != (y.length : Int)) = false := by simp [hl]
    have HL := Lib.hid hl
    clear hl
    go_enter Tryd.func54, Tryd.ntmps54
    go_wp2
    go_loopw [13] (fun i wr => ∃ n : Nat, n ≤ x.length ∧ i = .int .i64 n ∧ x.take n = y.take n ∧ Fr No w wr) (fun i _ => x.length - (intOf i).toNat)
    case atStart => exact ⟨0, Nat.zero_le _, rfl, rfl, Fr.refl _ _⟩
    case round =>
      obtain ⟨n, hn, rfl, htk, hfr⟩ := hrel
      by_cases hlt : n < x.length
      · have hlt2 : n < y.length := by have := HL.out; omega
        rcases ha with (⟨_, e, _⟩ | ⟨b1, o1, c1, e1, h2, h3, h4, h5⟩) | ⟨_, _, _, e, _⟩
        · omega
        rotate_left
        · omega
        rcases hb with (⟨_, e, _⟩ | ⟨b2, o2, c2, e2, g2, g3, g4, g5⟩) | ⟨_, _, _, e, _⟩
        · omega
        rotate_left
        · omega
        cases e1
        cases e2
        have q1 := hfr.cell (h4 n (byteV x[n]) (by rw [List.getElem?_map, List.getElem?_eq_getElem hlt]; rfl)) id
        have q2 := hfr.cell (g4 n (byteV y[n]) (by rw [List.getElem?_map, List.getElem?_eq_getElem hlt2]; rfl)) id
        unfold byteV at q1 q2
        have HT := Lib.hid htk
        have i1 : (n : Int) < (x.length : Int) := by omega
        have i2 : (n : Int) < (y.length : Int) := by omega
        clear htk h2 h3 h4 h5 g2 g3 g4 g5
        by_cases hx : x[n] = y[n]
        · have hxb : (x[n] != y[n]) = false := by simp [hx]
          have HX := Lib.hid hx
          clear hx
          go_wp2
          refine wp_region_lexL [false, false, false, false, false, false, false, false, false] (fun w' => w'.cell? ⟨b1, o1 + n, none⟩ = some (.int .u8 x[n]) ∧ w'.cell? ⟨b2, o2 + n, none⟩ = some (.int .u8 y[n])) (by kernel_rfl) (by kernel_rfl) ?_ (fun K hK => ?_)
          · exact ⟨q1, q2⟩
          repeat (first | ((first | with_reducible refine lexL_read ?_ | ((with_reducible refine lexL_readG ?_ ?_); (focus rfl))); apply Exists.intro; refine ⟨fun w' hS => ?_, ?_⟩; (focus (obtain ⟨s1, s2⟩ := hS; go_simp; (try with_reducible rfl); done)); try simp only [Act.put, List.setIfInBounds_toArray, List.set_cons_zero, List.set_cons_succ]) | ((first | ((with_reducible refine lexL_skip (c := false) ?_ ?_ ?_); (focus rfl); (focus rfl)) | ((with_reducible refine lexL_skip (c := true) ?_ ?_ ?_); (focus rfl); (focus rfl)) | ((with_reducible refine lexL_skipU ?_ ?_); (focus rfl))); try simp only [Act.put, List.setIfInBounds_toArray, List.set_cons_zero, List.set_cons_succ]))
          refine lexL_nil (hK.out _ _ ?_)
          go_wp2
          go_roundw
          case rel => exact ⟨n + 1, by omega, by go_num, take_eq_succ HT.out (by simp [HX.out, hlt, hlt2]), by (repeat (first | with_reducible exact Fr.refl _ _ | with_reducible assumption | with_reducible refine Fr.drew ?_ | with_reducible refine Fr.drewN ?_ _ | with_reducible refine Fr.alloc ?_ _ | with_reducible refine Fr.setCell ?_ _ (.inl (by simp <;> omega)) _))⟩
          case measure => simp [intOf]; omega
        · have hxb : (x[n] != y[n]) = true := by simp [hx]
          have hne : decide (x = y) = false := by
            simp only [decide_eq_false_iff_not]
            intro e; subst e; exact hx rfl
          have FIN : ∀ w', Fr No w w' → SameOk w x y (.returned (.bool false)) w' := fun w' f => ⟨by rw [hne], f⟩
          have HF := Lib.hid FIN
          clear FIN hne hx
          go_wp2
          refine wp_region_lexL [false, false, false, false, false, false, false, false, false] (fun w' => w'.cell? ⟨b1, o1 + n, none⟩ = some (.int .u8 x[n]) ∧ w'.cell? ⟨b2, o2 + n, none⟩ = some (.int .u8 y[n])) (by kernel_rfl) (by kernel_rfl) ?_ (fun K hK => ?_)
          · exact ⟨q1, q2⟩
          repeat (first | ((first | with_reducible refine lexL_read ?_ | ((with_reducible refine lexL_readG ?_ ?_); (focus rfl))); apply Exists.intro; refine ⟨fun w' hS => ?_, ?_⟩; (focus (obtain ⟨s1, s2⟩ := hS; go_simp; (try with_reducible rfl); done)); try simp only [Act.put, List.setIfInBounds_toArray, List.set_cons_zero, List.set_cons_succ]) | ((first | ((with_reducible refine lexL_skip (c := false) ?_ ?_ ?_); (focus rfl); (focus rfl)) | ((with_reducible refine lexL_skip (c := true) ?_ ?_ ?_); (focus rfl); (focus rfl)) | ((with_reducible refine lexL_skipU ?_ ?_); (focus rfl))); try simp only [Act.put, List.setIfInBounds_toArray, List.set_cons_zero, List.set_cons_succ]))
          refine lexL_nil (hK.out _ _ ?_)
          go_wp2
          go_ret
          exact HF.out _ (by (repeat (first | with_reducible exact Fr.refl _ _ | with_reducible assumption | with_reducible refine Fr.drew ?_ | with_reducible refine Fr.drewN ?_ _ | with_reducible refine Fr.alloc ?_ _ | with_reducible refine Fr.setCell ?_ _ (.inl (by simp <;> omega)) _)))
      · have hnx : n = x.length := by omega
        have he : decide (x = y) = true := by
          have h2 := HL.out
          rw [hnx, List.take_length, h2, List.take_length] at htk
          simp [htk]
        have FIN : SameOk w x y (.returned (.bool true)) wr := ⟨by rw [he], hfr⟩
        have HF := Lib.hid FIN
        clear FIN he htk hnx
        go_wp2
        go_ret
        exact HF.out
  · have hlb : ((x.length : Int) != (y.length : Int)) = true := by simp; omega
    have hne : decide (x = y) = false := by
      simp only [decide_eq_false_iff_not]
      intro e; subst e; exact hl rfl
    have FIN : ∀ w', Fr No w w' → SameOk w x y (.returned (.bool false)) w' := fun w' f => ⟨by rw [hne], f⟩
    have HF := Lib.hid FIN
    clear FIN hne hl ha hb
    go_enter Tryd.func54, Tryd.ntmps54
    go_wp2
    go_ret
    exact HF.out _ (by (repeat (first | with_reducible exact Fr.refl _ _ | with_reducible assumption | with_reducible refine Fr.drew ?_ | with_reducible refine Fr.drewN ?_ _ | with_reducible refine Fr.alloc ?_ _ | with_reducible refine Fr.setCell ?_ _ (.inl (by simp <;> omega)) _)))
end Go.Proofs.YtmpamcnlineceaaDoor
