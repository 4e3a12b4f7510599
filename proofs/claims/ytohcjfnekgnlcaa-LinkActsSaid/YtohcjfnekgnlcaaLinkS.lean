/- SameAll. -/
import Derived.Test.YtohcjfnekgnlcaaLinkJ
import Derived.Test.YtohcjfnekgnlcaaSame
namespace Go.Proofs.Ytohcjfnekgnlcaa
open Go Go.RowKit Go.Maps

def SameAllOk (w : World) (x y : List (List Int)) (e : Ending) (w' : World) : Prop := e = .returned (.bool (decide (x = y))) ∧ Fr No w w'

set_option maxHeartbeats 1000000 in
theorem sameAll_any (w : World) (a b : Value) (x y : List (List Int)) (Q1 Q2 : Nat → Prop) (ha : RowsIs w a x Q1) (hb : RowsIs w b y Q2) :
    Calls Try.prog 35 #[a, b] w (SameAllOk w x y) := by
  obtain ⟨cx, ha, hcx, _, hax⟩ := ha
  obtain ⟨cy, hb, hcy, _, hay⟩ := hb
  have hxl := SliceIs.len ha
  unfold maxLen at hxl
  obtain ⟨aa, ac, rfl⟩ : ∃ aa ac, a = .slice aa x.length ac := by
    rcases ha with ⟨rfl, e, _⟩ | ⟨_, _, _, rfl, _⟩
    · exact ⟨none, 0, by rw [e]⟩
    · exact ⟨_, _, rfl⟩
  obtain ⟨ba, bc, rfl⟩ : ∃ ba bc, b = .slice ba y.length bc := by
    rcases hb with ⟨rfl, e, _⟩ | ⟨_, _, _, rfl, _⟩
    · exact ⟨none, 0, by rw [e]⟩
    · exact ⟨_, _, rfl⟩
  by_cases hl : x.length = y.length
  · have hlb : ((x.length : Int) != (y.length : Int)) = false := by simp [hl]
    have HL := Lib.hid hl
    clear hl
    go_enter Try.func35, Try.ntmps35
    go_wp2
    go_loopw [13] (fun i wr => ∃ n : Nat, n ≤ x.length ∧ i = .int .i64 n ∧ x.take n = y.take n ∧ Fr No w wr) (fun i _ => x.length - (intOf i).toNat)
    case atStart => exact ⟨0, Nat.zero_le _, rfl, rfl, Fr.refl _ _⟩
    case round =>
      obtain ⟨n, hn, rfl, htk, hfr⟩ := hrel
      by_cases hlt : n < x.length
      · have hlt2 : n < y.length := by have := HL.out; omega
        rcases ha with ⟨_, e, _⟩ | ⟨b1, o1, c1, e1, h2, h3, h4, h5⟩
        · omega
        rcases hb with ⟨_, e, _⟩ | ⟨b2, o2, c2, e2, g2, g3, g4, g5⟩
        · omega
        cases e1
        cases e2
        obtain ⟨u1, hu1, hs1, _⟩ := hax n x[n] (List.getElem?_eq_getElem hlt)
        obtain ⟨u2, hu2, hs2, _⟩ := hay n y[n] (List.getElem?_eq_getElem hlt2)
        have q1 := hfr.cell (h4 n u1 hu1) id
        have q2 := hfr.cell (g4 n u2 hu2) id
        have hs1' := hs1.keep hfr (fun _ _ => id)
        have hs2' := hs2.keep hfr (fun _ _ => id)
        have hsl := SliceIs.len hs1
        have HT := Lib.hid htk
        have i1 : (n : Int) < (x.length : Int) := by omega
        have i2 : (n : Int) < (y.length : Int) := by omega
        clear htk h2 h3 h4 h5 g2 g3 g4 g5 hax hay hu1 hu2 hs1 hs2
        have hsame := fun (w' : World) (f : Fr No wr w') => same_any w' u1 u2 x[n] y[n] (hs1'.keep f (fun _ _ => id)).arg (hs2'.keep f (fun _ _ => id)).arg hsl
        have HS := Lib.hid hsame
        clear hsame
        cases hx : decide (x[n] = y[n])
        · have hne : decide (x = y) = false := by
            simp only [decide_eq_false_iff_not] at hx ⊢
            intro e; subst e; exact hx rfl
          have FIN : ∀ w', Fr No w w' → SameAllOk w x y (.returned (.bool false)) w' := fun w' f => ⟨by rw [hne], f⟩
          have HF := Lib.hid FIN
          have HX := Lib.hid hx
          clear FIN hne hx hs1' hs2'
          go_wp2
          refine wp_region_lexL [false, false, false, false, false, false, false, false, true, false] (fun w' => w'.cell? ⟨b1, o1 + n, none⟩ = some u1 ∧ w'.cell? ⟨b2, o2 + n, none⟩ = some u2) (by kernel_rfl) (by kernel_rfl) ?_ (fun K hK => ?_)
          · exact ⟨q1, q2⟩
          repeat (first | ((first | with_reducible refine lexL_read ?_ | ((with_reducible refine lexL_readG ?_ ?_); (focus rfl))); apply Exists.intro; refine ⟨fun w' hS => ?_, ?_⟩; (focus (obtain ⟨s1, s2⟩ := hS; go_simp; (try with_reducible rfl); done)); try simp only [Act.put, List.setIfInBounds_toArray, List.set_cons_zero, List.set_cons_succ]) | ((first | ((with_reducible refine lexL_skip (c := false) ?_ ?_ ?_); (focus rfl); (focus rfl)) | ((with_reducible refine lexL_skip (c := true) ?_ ?_ ?_); (focus rfl); (focus rfl)) | ((with_reducible refine lexL_skipU ?_ ?_); (focus rfl))); try simp only [Act.put, List.setIfInBounds_toArray, List.set_cons_zero, List.set_cons_succ]))
          (first | with_reducible refine lexL_eff (fun K' hK' => ?_) | ((with_reducible refine lexL_effG ?_ (fun K' hK' => ?_)); (focus rfl)))
          go_simp
          refine (HS.out _ (Fr.refl _ _).drew).mono ?_
          rintro e w2 ⟨rfl, f2⟩
          rw [HX.out]
          refine hK'.out _ _ ?_ (fun hS => ?_)
          · exact ⟨f2.cell q1 id, f2.cell q2 id⟩
          try simp only [Act.put, List.setIfInBounds_toArray, List.set_cons_zero, List.set_cons_succ]
          repeat (first | ((first | with_reducible refine lexL_read ?_ | ((with_reducible refine lexL_readG ?_ ?_); (focus rfl))); apply Exists.intro; refine ⟨fun w' hS => ?_, ?_⟩; (focus (obtain ⟨s1, s2⟩ := hS; go_simp; (try with_reducible rfl); done)); try simp only [Act.put, List.setIfInBounds_toArray, List.set_cons_zero, List.set_cons_succ]) | ((first | ((with_reducible refine lexL_skip (c := false) ?_ ?_ ?_); (focus rfl); (focus rfl)) | ((with_reducible refine lexL_skip (c := true) ?_ ?_ ?_); (focus rfl); (focus rfl)) | ((with_reducible refine lexL_skipU ?_ ?_); (focus rfl))); try simp only [Act.put, List.setIfInBounds_toArray, List.set_cons_zero, List.set_cons_succ]))
          refine lexL_nil (hK.out _ _ ?_)
          go_wp2
          go_ret
          exact HF.out _ (hfr.drew.trans0 f2)
        · have HX := Lib.hid hx
          clear hx hs1' hs2'
          go_wp2
          refine wp_region_lexL [false, false, false, false, false, false, false, false, true, false] (fun w' => w'.cell? ⟨b1, o1 + n, none⟩ = some u1 ∧ w'.cell? ⟨b2, o2 + n, none⟩ = some u2) (by kernel_rfl) (by kernel_rfl) ?_ (fun K hK => ?_)
          · exact ⟨q1, q2⟩
          repeat (first | ((first | with_reducible refine lexL_read ?_ | ((with_reducible refine lexL_readG ?_ ?_); (focus rfl))); apply Exists.intro; refine ⟨fun w' hS => ?_, ?_⟩; (focus (obtain ⟨s1, s2⟩ := hS; go_simp; (try with_reducible rfl); done)); try simp only [Act.put, List.setIfInBounds_toArray, List.set_cons_zero, List.set_cons_succ]) | ((first | ((with_reducible refine lexL_skip (c := false) ?_ ?_ ?_); (focus rfl); (focus rfl)) | ((with_reducible refine lexL_skip (c := true) ?_ ?_ ?_); (focus rfl); (focus rfl)) | ((with_reducible refine lexL_skipU ?_ ?_); (focus rfl))); try simp only [Act.put, List.setIfInBounds_toArray, List.set_cons_zero, List.set_cons_succ]))
          (first | with_reducible refine lexL_eff (fun K' hK' => ?_) | ((with_reducible refine lexL_effG ?_ (fun K' hK' => ?_)); (focus rfl)))
          go_simp
          refine (HS.out _ (Fr.refl _ _).drew).mono ?_
          rintro e w2 ⟨rfl, f2⟩
          rw [HX.out]
          refine hK'.out _ _ ?_ (fun hS => ?_)
          · exact ⟨f2.cell q1 id, f2.cell q2 id⟩
          try simp only [Act.put, List.setIfInBounds_toArray, List.set_cons_zero, List.set_cons_succ]
          repeat (first | ((first | with_reducible refine lexL_read ?_ | ((with_reducible refine lexL_readG ?_ ?_); (focus rfl))); apply Exists.intro; refine ⟨fun w' hS => ?_, ?_⟩; (focus (obtain ⟨s1, s2⟩ := hS; go_simp; (try with_reducible rfl); done)); try simp only [Act.put, List.setIfInBounds_toArray, List.set_cons_zero, List.set_cons_succ]) | ((first | ((with_reducible refine lexL_skip (c := false) ?_ ?_ ?_); (focus rfl); (focus rfl)) | ((with_reducible refine lexL_skip (c := true) ?_ ?_ ?_); (focus rfl); (focus rfl)) | ((with_reducible refine lexL_skipU ?_ ?_); (focus rfl))); try simp only [Act.put, List.setIfInBounds_toArray, List.set_cons_zero, List.set_cons_succ]))
          refine lexL_nil (hK.out _ _ ?_)
          go_wp2
          go_roundw
          case rel => exact ⟨n + 1, by omega, by go_num, take_eq_succ HT.out (by have := HX.out; simp at this; simp [this, hlt, hlt2]), hfr.drew.trans0 f2⟩
          case measure => simp [intOf]; omega
      · have hnx : n = x.length := by omega
        have he : decide (x = y) = true := by
          have h2 := HL.out
          rw [hnx, List.take_length, h2, List.take_length] at htk
          simp [htk]
        have FIN : SameAllOk w x y (.returned (.bool true)) wr := ⟨by rw [he], hfr⟩
        have HF := Lib.hid FIN
        clear FIN he htk hnx
        go_wp2
        go_ret
        exact HF.out
  · have hlb : ((x.length : Int) != (y.length : Int)) = true := by simp; omega
    have hne : decide (x = y) = false := by
      simp only [decide_eq_false_iff_not]
      intro e; subst e; exact hl rfl
    have FIN : ∀ w', Fr No w w' → SameAllOk w x y (.returned (.bool false)) w' := fun w' f => ⟨by rw [hne], f⟩
    have HF := Lib.hid FIN
    clear FIN hne hl ha hb
    go_enter Try.func35, Try.ntmps35
    go_wp2
    go_ret
    exact HF.out _ (by (repeat (first | with_reducible exact Fr.refl _ _ | with_reducible assumption | with_reducible refine Fr.drew ?_ | with_reducible refine Fr.drewN ?_ _ | with_reducible refine Fr.alloc ?_ _ | with_reducible refine Fr.setCell ?_ _ (.inl (by simp <;> omega)) _)))

set_option maxHeartbeats 1000000 in
theorem sameAll24_any (w : World) (a b : Value) (x y : List (List Int)) (Q1 Q2 : Nat → Prop) (ha : RowsIs w a x Q1) (hb : RowsIs w b y Q2) :
    Calls Try.prog 21 #[a, b] w (SameAllOk w x y) := by
  have hc := sameAll_any w a b x y Q1 Q2 ha hb
  have HC := Lib.hid hc
  clear hc ha hb
  go_enter Try.func21, Try.ntmps21
  go_wp2_with fail
  refine HC.out.mono ?_
  rintro e w1 ⟨rfl, f1⟩
  have HF := Lib.hid (show SameAllOk w x y (.returned (.bool (decide (x = y)))) w1 from ⟨rfl, f1⟩)
  go_wp2
  go_ret
  exact HF.out
end Go.Proofs.Ytohcjfnekgnlcaa
