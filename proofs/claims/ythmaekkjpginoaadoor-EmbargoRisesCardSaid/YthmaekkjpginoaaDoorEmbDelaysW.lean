/- EmbargoDelays, EmbargoRises: the walks. -/
import Derived.Test.YthmaekkjpginoaaDoorEmbV
namespace Go.Proofs.YthmaekkjpginoaaDoor
open Go Go.RowKit Go.Maps Go.MapKept Go.Sort

theorem delays_any (w : World) (hT : TabAt w) (d : Nat) (hd : d ≤ 65535) : Calls Tryd.prog 3 #[.int .u16 d] w fun e w' => e = .returned (.bool true) ∧ Fr No w w' := by
  have HT := Lib.hid hT
  clear hT
  go_enter Tryd.func3, Tryd.ntmps3
  go_wp2_with fail
  refine (alive_any w HT.out).mono ?_
  rintro e w1 ⟨rfl, f1⟩
  go_wp2_with fail
  refine (delay_any w1 (HT.out.keep f1 id) d hd).mono ?_
  rintro e w2 ⟨rfl, f2⟩
  go_wp2_with fail
  refine (delayR_any w2 d hd).mono ?_
  rintro e w3 ⟨rfl, f3⟩
  have FIN := Lib.hid ((f1.trans0 f2).trans0 f3)
  clear f1 f2 f3
  generalize delayN d = D
  go_wp2
  go_ret
  exact ⟨by simp, FIN.out⟩

theorem delay_mono : ∀ a b : Nat, a ≤ b → b ≤ 65535 → delayN a ≤ delayN b := by
  intro a b hab hb
  have tabm : ∀ k, k < 33 → ∀ j, j < 33 → k ≤ j → tabL.getD k 0 ≤ tabL.getD j 0 := by decide
  have s1 := tab_step (a / 2048) (by omega)
  have s2 := tab_step (b / 2048) (by omega)
  unfold delayN
  have step : ∀ x y r : Nat, r < 2048 → x ≤ y → x + (y - x) * r / 2048 ≤ y := by
    intro x y r hr hxy
    have : (y - x) * r / 2048 ≤ y - x := Nat.div_le_of_le_mul (by rw [Nat.mul_comm]; exact Nat.mul_le_mul_right _ (by omega))
    omega
  by_cases he : a / 2048 = b / 2048
  · rw [he]
    have : (tabL.getD (b / 2048 + 1) 0 - tabL.getD (b / 2048) 0) * (a % 2048) / 2048 ≤ (tabL.getD (b / 2048 + 1) 0 - tabL.getD (b / 2048) 0) * (b % 2048) / 2048 := Nat.div_le_div_right (Nat.mul_le_mul_left _ (by omega))
    omega
  · have h1 := step _ _ (a % 2048) (by omega) s1.1
    have h2 := tabm (a / 2048 + 1) (by omega) (b / 2048) (by omega) (by omega)
    omega
theorem delay_max (d : Nat) (hd : d ≤ 65535) : delayN d ≤ 110 := by
  have s2 := tab_step (d / 2048) (by omega)
  unfold delayN
  have : (tabL.getD (d / 2048 + 1) 0 - tabL.getD (d / 2048) 0) * (d % 2048) / 2048 ≤ tabL.getD (d / 2048 + 1) 0 - tabL.getD (d / 2048) 0 := Nat.div_le_of_le_mul (by rw [Nat.mul_comm]; exact Nat.mul_le_mul_right _ (by omega))
  omega
theorem delay_min (d : Nat) : 10 ≤ delayN d := by unfold delayN; omega

theorem rises_any (w : World) (hT : TabAt w) (a b : Nat) (ha : a ≤ 65535) (hb : b ≤ 65535) : Calls Tryd.prog 4 #[.int .u16 a, .int .u16 b] w fun e w' => e = .returned (.bool true) ∧ Fr No w w' := by
  have HT := Lib.hid hT
  clear hT
  rcases Nat.lt_trichotomy a b with hab | hab | hab
  · have i1 : (a : Int) < (b : Int) := by omega
    have i2 : (a : Int) ≤ (b : Int) := by omega
    go_enter Tryd.func4, Tryd.ntmps4
    go_wp2_with fail
    refine (alive_any w HT.out).mono ?_
    rintro e w1 ⟨rfl, f1⟩
    go_wp2_with fail
    refine (delay_any w1 (HT.out.keep f1 id) a (by omega)).mono ?_
    rintro e w2 ⟨rfl, f2⟩
    go_wp2_with fail
    refine (delay_any w2 (HT.out.keep (f1.trans0 f2) id) b (by omega)).mono ?_
    rintro e w3 ⟨rfl, f3⟩
    have FIN := Lib.hid ((f1.trans0 f2).trans0 f3)
    have m1 := delay_mono a b (by omega) (by omega)
    have m2 := delay_max b (by omega)
    have m3 := delay_min a
    clear f1 f2 f3
    generalize delayN a = X at *
    try generalize delayN b = Y at *
    have q1 : (10 : Int) ≤ (X : Int) := by omega
    have q2 : (X : Int) ≤ (Y : Int) := by omega
    have q3 : (Y : Int) ≤ 110 := by omega
    have q7 : ¬ (110 : Int) < (Y : Int) := by omega
    have q4 : decide (10 ≤ X) = true := decide_eq_true m3
    have q5 : decide (X ≤ Y) = true := decide_eq_true m1
    have q6 : decide (Y ≤ 110) = true := decide_eq_true m2
    go_wp2
    go_ret
    exact ⟨by simp [m1, m2, m3, q1, q2, q3], FIN.out⟩
  · subst hab
    go_enter Tryd.func4, Tryd.ntmps4
    go_wp2_with fail
    refine (alive_any w HT.out).mono ?_
    rintro e w1 ⟨rfl, f1⟩
    go_wp2_with fail
    refine (delay_any w1 (HT.out.keep f1 id) a (by omega)).mono ?_
    rintro e w2 ⟨rfl, f2⟩
    go_wp2_with fail
    refine (delay_any w2 (HT.out.keep (f1.trans0 f2) id) a (by omega)).mono ?_
    rintro e w3 ⟨rfl, f3⟩
    have FIN := Lib.hid ((f1.trans0 f2).trans0 f3)
    have m1 := delay_mono a a (by omega) (by omega)
    have m2 := delay_max a (by omega)
    have m3 := delay_min a
    clear f1 f2 f3
    generalize delayN a = X at *
    try generalize delayN a = Y at *
    have q1 : (10 : Int) ≤ (X : Int) := by omega
    have q2 : (X : Int) ≤ (X : Int) := by omega
    have q3 : (X : Int) ≤ 110 := by omega
    have q7 : ¬ (110 : Int) < (X : Int) := by omega
    have q4 : decide (10 ≤ X) = true := decide_eq_true m3
    have q5 : decide (X ≤ X) = true := decide_eq_true m1
    have q6 : decide (X ≤ 110) = true := decide_eq_true m2
    go_wp2
    go_ret
    exact ⟨by simp [m1, m2, m3, q1, q2, q3], FIN.out⟩
  · have i1 : (b : Int) < (a : Int) := by omega
    have i2 : (b : Int) ≤ (a : Int) := by omega
    have i3 : ¬ (a : Int) ≤ (b : Int) := by omega
    go_enter Tryd.func4, Tryd.ntmps4
    go_wp2_with fail
    refine (alive_any w HT.out).mono ?_
    rintro e w1 ⟨rfl, f1⟩
    go_wp2_with fail
    refine (delay_any w1 (HT.out.keep f1 id) b (by omega)).mono ?_
    rintro e w2 ⟨rfl, f2⟩
    go_wp2_with fail
    refine (delay_any w2 (HT.out.keep (f1.trans0 f2) id) a (by omega)).mono ?_
    rintro e w3 ⟨rfl, f3⟩
    have FIN := Lib.hid ((f1.trans0 f2).trans0 f3)
    have m1 := delay_mono b a (by omega) (by omega)
    have m2 := delay_max a (by omega)
    have m3 := delay_min b
    clear f1 f2 f3
    generalize delayN b = X at *
    try generalize delayN a = Y at *
    have q1 : (10 : Int) ≤ (X : Int) := by omega
    have q2 : (X : Int) ≤ (Y : Int) := by omega
    have q3 : (Y : Int) ≤ 110 := by omega
    have q7 : ¬ (110 : Int) < (Y : Int) := by omega
    have q4 : decide (10 ≤ X) = true := decide_eq_true m3
    have q5 : decide (X ≤ Y) = true := decide_eq_true m1
    have q6 : decide (Y ≤ 110) = true := decide_eq_true m2
    go_wp2
    go_ret
    exact ⟨by simp [m1, m2, m3, q1, q2, q3], FIN.out⟩
end Go.Proofs.YthmaekkjpginoaaDoor
