/- Numbers: products of 64 bits, Need, Floor, Cmp, weights. -/
import Derived.Shelf.Bits.Mul64
import Derived.Shelf.Spec.BitsCarry
import Derived.Laws.Externs
import Derived.Test.YtdkkjchclkjleaaGreatDoorSG25
import Derived.Test.YtdkkjchclkjleaaGreatDoorSG7
import Derived.Test.YtdkkjchclkjleaaGreatDoorSG3
set_option linter.unusedVariables false
set_option linter.unusedSimpArgs false
set_option linter.unnecessarySimpa false
set_option linter.all false
namespace Go.Proofs.YtdkkjchclkjleaaGreatDoor
open Go Go.RowKit Go.Maps Go.MapKept Go.Lib
set_option maxHeartbeats 1000000 in
theorem X2 (x y : Nat) (hx : x < 18446744073709551616) (hy : y < 18446744073709551616) (w : World) :
  Calls Tryz.prog 159 #[.int .u64 x, .int .u64 y] w fun e w' => e = .returned (.tuple #[.int .u64 ((x * y / 18446744073709551616 : Nat) : Int), .int .u64 ((x * y % 18446744073709551616 : Nat) : Int)]) ∧ w' = w := by
 obtain ⟨bd, bt, bw, hhi⟩ := Lib.mul64_hi x y hx hy
 have ba := Lib.half_mul_le (a := x / 4294967296) (b := y / 4294967296) (by omega) (by omega)
 have bb := Lib.half_mul_le (a := x / 4294967296) (b := y % 4294967296) (by omega) (by omega)
 have bc := Lib.half_mul_le (a := x % 4294967296) (b := y / 4294967296) (by omega) (by omega)
 have ba' : x / 4294967296 * (y / 4294967296) < 18446744073709551616 := by omega
 have bb' : x / 4294967296 * (y % 4294967296) < 18446744073709551616 := by omega
 have bc' : x % 4294967296 * (y / 4294967296) < 18446744073709551616 := by omega
 have bh1 : x / 4294967296 * (y / 4294967296) + (x / 4294967296 * (y % 4294967296) + x % 4294967296 * (y % 4294967296) / 4294967296) / 4294967296 < 18446744073709551616 := by omega
 have bh : x / 4294967296 * (y / 4294967296) + (x / 4294967296 * (y % 4294967296) + x % 4294967296 * (y % 4294967296) / 4294967296) / 4294967296 + ((x / 4294967296 * (y % 4294967296) + x % 4294967296 * (y % 4294967296) / 4294967296) % 4294967296 + x % 4294967296 * (y / 4294967296)) / 4294967296 < 18446744073709551616 := by
  have : x * y / 18446744073709551616 < 18446744073709551616 := by
   have := Nat.mul_le_mul (Nat.le_of_lt hx) (Nat.le_of_lt hy)
   have h2 : x * y < 18446744073709551616 * 18446744073709551616 := Nat.mul_lt_mul'' hx hy
   omega
  omega
 go_enter Tryz.func159, Tryz.ntmps159
 go_wp2
 simp only [Mul64.maskN x hx, Mul64.maskN y hy, Mul64.divN, Mul64.mulN, Mul64.addN, Mul64.wrapN _ bd, Mul64.wrapN _ bb', Mul64.wrapN _ bt, Mul64.maskN _ bt, Mul64.wrapN _ bc', Mul64.wrapN _ bw, Mul64.wrapN _ ba', Mul64.wrapN _ bh1, Mul64.wrapN _ bh, Mul64.wrapM (x * y)]
 rw [hhi]
 go_ret2
 exact ⟨rfl, rfl⟩
theorem zfc (lo : Nat) (hl : lo < 18446744073709551616) (w : World) :
  Calls Tryz.prog 160 #[.int .u64 0, .int .u64 lo, .int .u64 1000] w fun e w' => e = .returned (.tuple #[.int .u64 ((lo / 1000 : Nat) : Int), .int .u64 ((lo % 1000 : Nat) : Int)]) ∧ Fr No w w' := by
 go_enter Tryz.func160, Tryz.ntmps160
 go_wp2
 refine zv [false, false, false, false, false, false, false, false] (fun _ => True) (by kernel_rfl) (by kernel_rfl) ?_ (fun K hK => ?_)
 ·trivial
 repeat (first | ((first | with_reducible refine zx ?_ | ((with_reducible refine zu ?_ ?_); (focus rfl))); apply Exists.intro; refine ⟨?_, ?_⟩; (focus (first | (intro w' hS; obtain _ := hS; go_simp; (try with_reducible rfl); done))); try simp only [Act.put, pA, pB, pC]) | ((first | ((with_reducible refine zg (c := false) ?_ ?_ ?_); (focus rfl); (focus rfl)) | ((with_reducible refine zg (c := true) ?_ ?_ ?_); (focus rfl); (focus rfl)) | ((with_reducible refine zt ?_ ?_); (focus rfl))); try simp only [Act.put, pA, pB, pC]))
 refine zM (hK.out _ _ ?_)
 have H1 := Hd (show IntKind.u64.wrap ((lo : Int) / 1000) = ((lo / 1000 : Nat) : Int) by rw [IntKind.wrap_u64]; omega)
 have H2 := Hd (show ((lo : Int).tmod 1000) = ((lo % 1000 : Nat) : Int) from rfl)
 go_wp2_with fail
 rw [H1.out, H2.out]
 go_ret2
 exact ⟨rfl, (Fr.refl No w).drew⟩
theorem zgV (n : Nat) (hn : n ≤ 1000000000000) (w : World) :
  Calls Tryz.prog 129 #[.int .u64 n, .int .u64 100] w fun e w' => e = .returned (.tuple #[.int .u64 (((n * 100 + 999) / 1000 : Nat) : Int), .int .i64 0]) ∧ Fr No w w' := by
 have M := Hd (X2 n 100 (by omega) (by omega) w)
 rw [show n * 100 / 18446744073709551616 = 0 by omega, show n * 100 % 18446744073709551616 = n * 100 by omega] at M
 have D := Hd (zfc (n * 100) (by omega) w)
 by_cases hr : n * 100 % 1000 = 0
 ·have E := Hd (show (n * 100 + 999) / 1000 = n * 100 / 1000 by omega)
  have hz : (((n * 100 % 1000 : Nat) : Int) == 0) = true := by rw [hr]; rfl
  generalize n * 100 / 1000 = q at *
  generalize n * 100 % 1000 = r at *
  clear hr
  go_enter Tryz.func129, Tryz.ntmps129
  have K0 := tru
  have K1 := tru
  go_wp2_with (first | (clear K0; go_at_call 159; refine M.out.mono ?_; rintro e w1 ⟨rfl, h1⟩; subst h1; go_frame) | (clear K1; go_at_call 160; refine D.out.mono ?_; rintro e w2 ⟨rfl, f2⟩; go_frame))
  go_ret2
  exact ⟨by rw [E.out]; rfl, f2⟩
 ·have E := Hd (show (n * 100 + 999) / 1000 = n * 100 / 1000 + 1 by omega)
  have hz : (((n * 100 % 1000 : Nat) : Int) == 0) = false := by rw [beq_eq_false_iff_ne]; omega
  have hq : ((((n * 100 / 1000 : Nat) : Int)) == 18446744073709551615) = false := by rw [beq_eq_false_iff_ne]; omega
  have hq2 : n * 100 / 1000 ≤ 1000000000000 := by omega
  generalize n * 100 / 1000 = q at *
  generalize n * 100 % 1000 = r at *
  clear hr
  go_enter Tryz.func129, Tryz.ntmps129
  have K0 := tru
  have K1 := tru
  go_wp2_with (first | (clear K0; go_at_call 159; refine M.out.mono ?_; rintro e w1 ⟨rfl, h1⟩; subst h1; go_frame) | (clear K1; go_at_call 160; refine D.out.mono ?_; rintro e w2 ⟨rfl, f2⟩; go_frame))
  go_ret2
  exact ⟨by rw [E.out]; rfl, f2⟩
theorem zaG (s : Nat) (hs : s ≤ 1000000000000) (w : World) :
  Calls Tryz.prog 79 #[.int .i64 s] w fun e w' => e = .returned (.int .u64 (vo s)) ∧ Fr No w w' := by
 have N := Hd (zgV s hs w)
 have E := Hd (show vo (s : Int) = ((s : Int) * 100 + 999) / 1000 by unfold vo; omega)
 have hm : max (s : Int) 0 = (s : Int) := by omega
 go_enter Tryz.func79, Tryz.ntmps79
 have K0 := tru
 go_wp2_with (first | (clear K0; go_at_call 129; refine N.out.mono ?_; rintro e w2 ⟨rfl, f2⟩; go_frame))
 go_ret
 exact ⟨by rw [E.out]; rfl, f2⟩
def zhe (x y : Nat) : Int := if x < y then -1 else if x = y then 0 else 1
theorem or_zero (x y : Nat) (hx : x < 18446744073709551616) (hy : y < 18446744073709551616) : (bits .or .u64 (x : Int) (y : Int) == 0) = (x == 0 && y == 0) := by
 rw [bits_or_u64_nat x y hx hy]
 rw [Bool.eq_iff_iff]
 simp only [beq_iff_eq, Bool.and_eq_true]
 constructor
 ·intro h
  have h2 : x ||| y = 0 := by omega
  exact Nat.or_eq_zero_iff.1 h2
 ·rintro ⟨rfl, rfl⟩
  rfl
set_option maxRecDepth 20000 in
set_option maxHeartbeats 1000000 in
theorem zh4 (a b c d : Nat) (ha : a < 18446744073709551616) (hb : b < 18446744073709551616) (hc : c < 18446744073709551616) (hd : d < 18446744073709551616) (w : World) :
  Calls Tryz.prog 161 #[.int .u64 a, .int .u64 b, .int .u64 c, .int .u64 d] w fun e w' => e = .returned (.int .i64 (zhe (a * b) (c * d))) ∧ w' = w := by
 have M1 := Hd (X2 a b ha hb w)
 have M2 := Hd (X2 c d hc hd w)
 have hx : a * b < 18446744073709551616 * 18446744073709551616 := Nat.mul_lt_mul'' ha hb
 have hy : c * d < 18446744073709551616 * 18446744073709551616 := Nat.mul_lt_mul'' hc hd
 generalize a * b = X at *
 generalize c * d = Y at *
 obtain ⟨h, hh⟩ : ∃ h, h = X / 18446744073709551616 := ⟨_, rfl⟩
 obtain ⟨l, hl⟩ : ∃ l, l = X % 18446744073709551616 := ⟨_, rfl⟩
 obtain ⟨i, hi⟩ : ∃ i, i = Y / 18446744073709551616 := ⟨_, rfl⟩
 obtain ⟨m, hm⟩ : ∃ m, m = Y % 18446744073709551616 := ⟨_, rfl⟩
 rw [← hh, ← hl] at M1
 rw [← hi, ← hm] at M2
 have B1 : h < 18446744073709551616 := by omega
 have B2 : l < 18446744073709551616 := by omega
 have B3 : i < 18446744073709551616 := by omega
 have B4 : m < 18446744073709551616 := by omega
 obtain ⟨u, hu⟩ : ∃ u, u = (if l < m + 0 then 1 else 0 : Nat) := ⟨_, rfl⟩
 have BU : u ≤ 1 := by rw [hu]; split <;> omega
 have S1 := Hd (run_sub64 (P := Tryz.prog) l m 0 (by omega) w)
 have S2 := Hd (run_sub64 (P := Tryz.prog) h i u BU w)
 rw [← hu] at S1
 obtain ⟨x, hx1⟩ : ∃ x, x = (l + 18446744073709551616 - m - 0) % 18446744073709551616 := ⟨_, rfl⟩
 obtain ⟨y, hy1⟩ : ∃ y, y = (h + 18446744073709551616 - i - u) % 18446744073709551616 := ⟨_, rfl⟩
 obtain ⟨v, hv⟩ : ∃ v, v = (if h < i + u then 1 else 0 : Nat) := ⟨_, rfl⟩
 rw [← hx1] at S1
 rw [← hy1, ← hv] at S2
 have O1 := Hd (or_zero y x (by omega) (by omega))
 have E := Hd (show zhe X Y = if v ≠ 0 then -1 else if y = 0 ∧ x = 0 then 0 else 1 by
  unfold zhe
  by_cases h1 : X < Y
  ·have v1 : v = 1 := by rw [hv, hu]; split <;> split <;> omega
   rw [if_pos h1, v1]
   rfl
  ·have v0 : v = 0 := by rw [hv, hu]; split <;> split <;> omega
   rw [if_neg h1, v0]
   by_cases h2 : X = Y
   ·have y0 : y = 0 := by subst h2; rw [hy1, hu]; split <;> omega
    have x0 : x = 0 := by subst h2; rw [hx1]; omega
    rw [if_pos h2, y0, x0]
    rfl
   ·rw [if_neg h2]
    have : ¬ (y = 0 ∧ x = 0) := by
     rintro ⟨e1, e2⟩
     rw [hx1] at e2
     rw [hy1, hu] at e1
     split at e1 <;> omega
    simp [this])
 have BV : v ≤ 1 := by rw [hv]; split <;> omega
 clear hv hu hx1 hy1 hh hl hi hm hx hy ha hb hc hd B1 B2 B3 B4 BU
 rw [show ((0 : Nat) : Int) = 0 from rfl] at S1
 have hz : (v == 0) = true ∨ v = 1 := by rcases Nat.lt_or_ge v 1 with h | h; exact .inl (by simp; omega); exact .inr (by omega)
 go_enter Tryz.func161, Tryz.ntmps161
 go_wp2_with (first | (go_at_call 159; have mk := M1.out; refine M1.out.mono ?_; rintro e w1 ⟨rfl, h1⟩; subst h1; clear mk M1) | (go_at_call 159; refine M2.out.mono ?_; rintro e w1 ⟨rfl, h1⟩; subst h1; clear M2))
 rw [run_callFunc_extern Tryz.func185 (by kernel_rfl) (by kernel_rfl) (by kernel_rfl) (e := sub64Entry) (by kernel_rfl), S1.out]
 simp only [Result.andThen]
 rw [Oper.upon_value]
 go_wp2
 rw [run_callFunc_extern Tryz.func185 (by kernel_rfl) (by kernel_rfl) (by kernel_rfl) (e := sub64Entry) (by kernel_rfl), S2.out]
 simp only [Result.andThen]
 rw [Oper.upon_value]
 clear S1 S2
 rcases hz with hz | hz
 ·have v0 : v = 0 := by simpa using hz
  subst v0
  rw [if_neg (by simp)] at E
  by_cases hxy : y = 0 ∧ x = 0
  ·rw [if_pos hxy] at E
   rw [hxy.1, hxy.2] at O1 ⊢
   have O2 := O1.out
   rw [show ((0 : Nat) : Int) = 0 from rfl] at O2
   clear O1
   go_wp2
   go_ret
   exact ⟨by rw [E.out]; rfl, rfl⟩
  ·rw [if_neg hxy] at E
   have O2 := O1.out
   rw [show (y == 0 && x == 0) = false by simp only [Bool.and_eq_false_imp, beq_iff_eq]; intro h; simp; intro h2; exact hxy ⟨h, h2⟩] at O2
   clear O1
   go_wp2
   go_ret
   exact ⟨by rw [E.out]; rfl, rfl⟩
 ·subst hz
  rw [if_pos (by simp)] at E
  go_wp2
  go_ret
  exact ⟨by rw [E.out]; rfl, rfl⟩
def y9 (x : Int × Int) : List Value := [.int .u64 x.1, .int .i64 x.2]
def WOk (x : Int × Int) : Prop := (0 ≤ x.1 ∧ x.1 ≤ 18446744073709551615) ∧ 0 ≤ x.2 ∧ x.2 ≤ 1000000000000
theorem Xz : ∃ d, Tryz.prog.underlying 127 = some d ∧ d.isRow = true := jf (by kernel_rfl)
theorem xK : (Tryz.prog.info? 127).map (·.size) = some 2 := by kernel_rfl
theorem Xg {x : Int × Int} : ∀ u ∈ y9 x, u.oneCell' = true := by
 intro u hu
 simp only [y9, List.mem_cons, List.not_mem_nil, or_false] at hu
 rcases hu with rfl | rfl <;> rfl
theorem zaF (f : Int) (s : Nat) (hs : s ≤ 1000000000000) (w : World) :
  Calls Tryz.prog 162 #[.agg #[.int .u64 f, .int .i64 s]] w fun e w' => e = .returned (.int .u64 ((max s 1 : Nat) : Int)) ∧ Fr No w w' := by
 by_cases h : 1 ≤ s
 ·have m : max s 1 = s := by omega
  have m2 : max (s : Int) 1 = s := by omega
  have i1 : ¬ (s : Int) < 1 := by omega
  rw [m]
  have F1 := Hd ((Fr.refl No w).alloc (.cells #[.int .u64 f, .int .i64 s] 127))
  go_enter Tryz.func162, Tryz.ntmps162
  go_wp2_with fail
  go_ret
  exact ⟨rfl, F1.out⟩
 ·have s0 : s = 0 := by omega
  subst s0
  have F1 := Hd ((Fr.refl No w).alloc (.cells #[.int .u64 f, .int .i64 ((0 : Nat) : Int)] 127))
  go_enter Tryz.func162, Tryz.ntmps162
  go_wp2_with fail
  go_ret
  exact ⟨rfl, F1.out⟩
theorem zjA (a b s r : Nat) : zhe (a * max r 1) (b * max s 1) = Y0 ((a : Int), (s : Int)) ((b : Int), (r : Int)) := by
 unfold zhe Y0
 have e1 : (a : Int) * max (r : Int) 1 = ((a * max r 1 : Nat) : Int) := by rw [Int.natCast_mul]; congr 1; omega
 have e2 : (b : Int) * max (s : Int) 1 = ((b * max s 1 : Nat) : Int) := by rw [Int.natCast_mul]; congr 1; omega
 simp only
 rw [e1, e2]
 generalize a * max r 1 = X
 generalize b * max s 1 = Y
 by_cases h1 : X < Y
 ·have c1 : (X : Int) < (Y : Int) := by omega
  rw [if_pos h1, if_pos c1]
 ·have c1 : ¬ (X : Int) < (Y : Int) := by omega
  rw [if_neg h1, if_neg c1]
  by_cases h2 : X = Y
  ·have c2 : (X : Int) = (Y : Int) := by omega
   rw [if_pos h2, if_pos c2]
  ·have c2 : ¬ (X : Int) = (Y : Int) := by omega
   rw [if_neg h2, if_neg c2]
set_option maxRecDepth 20000 in
set_option maxHeartbeats 1000000 in
theorem Ql {x y : Int × Int} (hx : WOk x) (hy : WOk y) (w : World) :
  Calls Tryz.prog 130 #[.agg (y9 x).toArray, .agg (y9 y).toArray] w fun e w' => e = .returned (.int .i64 (Y0 x y)) ∧ Fr No w w' := by
 obtain ⟨dW, uW, rW⟩ := Xz
 obtain ⟨x1, x2⟩ := x
 obtain ⟨y1, y2⟩ := y
 obtain ⟨⟨a1, a2⟩, a3, a4⟩ := hx
 obtain ⟨⟨b1, b2⟩, b3, b4⟩ := hy
 dsimp only at a1 a2 a3 a4 b1 b2 b3 b4
 obtain ⟨a, rfl⟩ := Int.eq_ofNat_of_zero_le a1
 obtain ⟨s, rfl⟩ := Int.eq_ofNat_of_zero_le a3
 obtain ⟨b, rfl⟩ := Int.eq_ofNat_of_zero_le b1
 obtain ⟨r, rfl⟩ := Int.eq_ofNat_of_zero_le b3
 have E := Hd (zjA a b s r)
 have F1 := Hd (((Fr.refl No w).alloc (.cells (y9 ((a : Int), (s : Int))).toArray 127)).alloc (.cells (y9 ((b : Int), (r : Int))).toArray 127))
 have R1 := Hd (zb (zC w (y9 ((a : Int), (s : Int))) 127) ((Fr.refl No _).alloc (.cells (y9 ((b : Int), (r : Int))).toArray 127)) id)
 have R2 := Hd (show ((w.alloc (.cells (y9 ((a : Int), (s : Int))).toArray 127)).alloc (.cells (y9 ((b : Int), (r : Int))).toArray 127)).rangeAt (w.heap.size + 1) 0 (y9 ((b : Int), (r : Int))) by
  have := zC (w.alloc (.cells (y9 ((a : Int), (s : Int))).toArray 127)) (y9 ((b : Int), (r : Int))) 127
  simpa using this)
 have Z1 := Hd (fun w => zaF b r (by omega) w)
 have Z2 := Hd (fun w => zaF a s (by omega) w)
 have CM := Hd (fun w => zh4 a (max r 1) b (max s 1) (by omega) (by omega) (by omega) (by omega) w)
 clear a1 a2 a3 a4 b1 b2 b3 b4
 unfold y9 at *
 generalize max r 1 = mr at *
 generalize max s 1 = ms at *
 go_enter Tryz.func130, Tryz.ntmps130
 go_wp2_with fail
 generalize hq1 : w.heap.size = n at *
 generalize (w.alloc (.cells #[.int .u64 (a : Int), .int .i64 (s : Int)] 127)).alloc (.cells #[.int .u64 (b : Int), .int .i64 (r : Int)] 127) = wz at *
 have FZ := Hd ((Fr.refl No wz).drew)
 refine zv [false, false, false, true, false, false, false, true, true, false] (fun w' => w'.cell? ⟨n, 0, none⟩ = some (.int .u64 (a : Int)) ∧ w'.rangeAt n 0 [.int .u64 (a : Int), .int .i64 (s : Int)] ∧ w'.cell? ⟨n + 1, 0, none⟩ = some (.int .u64 (b : Int)) ∧ w'.rangeAt (n + 1) 0 [.int .u64 (b : Int), .int .i64 (r : Int)]) (by kernel_rfl) (by kernel_rfl) ?_ (fun K hK => ?_)
 ·exact ⟨zb R1.out FZ.out id 0 _ rfl, zb R1.out FZ.out id, zb R2.out FZ.out id 0 _ rfl, zb R2.out FZ.out id⟩
 repeat (first | ((first | with_reducible refine zx ?_ | ((with_reducible refine zu ?_ ?_); (focus rfl))); apply Exists.intro; refine ⟨?_, ?_⟩; (focus (first | exact zD (ty := 127) rfl (fun w h => h.2.2.2) uW rW xK | (intro w' hS; obtain ⟨s1, s2, s3, s4⟩ := hS; go_simp; (try with_reducible rfl); done))); try simp only [Act.put, pA, pB, pC]) | ((first | ((with_reducible refine zg (c := false) ?_ ?_ ?_); (focus rfl); (focus rfl)) | ((with_reducible refine zg (c := true) ?_ ?_ ?_); (focus rfl); (focus rfl)) | ((with_reducible refine zt ?_ ?_); (focus rfl))); try simp only [Act.put, pA, pB, pC]))
 (first | with_reducible refine zU (fun K' hK' => ?_) | ((with_reducible refine zK ?_ (fun K' hK' => ?_)); (focus rfl)))
 go_simp
 refine (Z1.out _).mono ?_
 rintro e w3 ⟨rfl, f3⟩
 have F3 := Hd (FZ.out.trans0 f3)
 refine hK'.out _ _ ?_ (fun hS => ?_)
 ·exact ⟨zb R1.out F3.out id 0 _ rfl, zb R1.out F3.out id, zb R2.out F3.out id 0 _ rfl, zb R2.out F3.out id⟩
 try simp only [Act.put, pA, pB, pC]
 repeat (first | ((first | with_reducible refine zx ?_ | ((with_reducible refine zu ?_ ?_); (focus rfl))); apply Exists.intro; refine ⟨?_, ?_⟩; (focus (first | exact zD (ty := 127) rfl (fun w h => h.2.1) uW rW xK | (intro w' hS; obtain ⟨s1, s2, s3, s4⟩ := hS; go_simp; (try with_reducible rfl); done))); try simp only [Act.put, pA, pB, pC]) | ((first | ((with_reducible refine zg (c := false) ?_ ?_ ?_); (focus rfl); (focus rfl)) | ((with_reducible refine zg (c := true) ?_ ?_ ?_); (focus rfl); (focus rfl)) | ((with_reducible refine zt ?_ ?_); (focus rfl))); try simp only [Act.put, pA, pB, pC]))
 (first | with_reducible refine zU (fun K' hK' => ?_) | ((with_reducible refine zK ?_ (fun K' hK' => ?_)); (focus rfl)))
 go_simp
 refine (Z2.out _).mono ?_
 rintro e w4 ⟨rfl, f4⟩
 have F4 := Hd (F3.out.trans0 f4)
 refine hK'.out _ _ ?_ (fun hS => ?_)
 ·exact ⟨zb R1.out F4.out id 0 _ rfl, zb R1.out F4.out id, zb R2.out F4.out id 0 _ rfl, zb R2.out F4.out id⟩
 try simp only [Act.put, pA, pB, pC]
 repeat (first | ((first | with_reducible refine zx ?_ | ((with_reducible refine zu ?_ ?_); (focus rfl))); apply Exists.intro; refine ⟨?_, ?_⟩; (focus (first | (intro w' hS; obtain ⟨s1, s2, s3, s4⟩ := hS; go_simp; (try with_reducible rfl); done))); try simp only [Act.put, pA, pB, pC]) | ((first | ((with_reducible refine zg (c := false) ?_ ?_ ?_); (focus rfl); (focus rfl)) | ((with_reducible refine zg (c := true) ?_ ?_ ?_); (focus rfl); (focus rfl)) | ((with_reducible refine zt ?_ ?_); (focus rfl))); try simp only [Act.put, pA, pB, pC]))
 (first | with_reducible refine zU (fun K' hK' => ?_) | ((with_reducible refine zK ?_ (fun K' hK' => ?_)); (focus rfl)))
 go_simp
 refine (CM.out _).mono ?_
 rintro e w5 ⟨rfl, h5⟩
 subst h5
 refine hK'.out _ _ ?_ (fun hS => ?_)
 ·exact ⟨zb R1.out F4.out id 0 _ rfl, zb R1.out F4.out id, zb R2.out F4.out id 0 _ rfl, zb R2.out F4.out id⟩
 try simp only [Act.put, pA, pB, pC]
 repeat (first | ((first | with_reducible refine zx ?_ | ((with_reducible refine zu ?_ ?_); (focus rfl))); apply Exists.intro; refine ⟨?_, ?_⟩; (focus (first | (intro w' hS; obtain ⟨s1, s2, s3, s4⟩ := hS; go_simp; (try with_reducible rfl); done))); try simp only [Act.put, pA, pB, pC]) | ((first | ((with_reducible refine zg (c := false) ?_ ?_ ?_); (focus rfl); (focus rfl)) | ((with_reducible refine zg (c := true) ?_ ?_ ?_); (focus rfl); (focus rfl)) | ((with_reducible refine zt ?_ ?_); (focus rfl))); try simp only [Act.put, pA, pB, pC]))
 refine zM (hK.out _ _ ?_)
 go_wp2_with fail
 go_ret
 exact ⟨by rw [← E.out]; rfl, F1.out.trans0 F4.out⟩
end Go.Proofs.YtdkkjchclkjleaaGreatDoor

/- fee: Less, Worst; calc: Later; tx: Size. -/
namespace Go.Proofs.YtdkkjchclkjleaaGreatDoor
open Go Go.RowKit Go.Maps Go.MapKept Go.Lib
set_option maxRecDepth 20000 in
theorem zf8 {x y : Int × Int} (hx : WOk x) (hy : WOk y) (w : World) :
  Calls Tryz.prog 90 #[.agg (y9 x).toArray, .agg (y9 y).toArray] w fun e w' => e = .returned (.bool (decide (Y0 x y < 0))) ∧ Fr No w w' := by
 obtain ⟨dW, uW, rW⟩ := Xz
 have C := Hd (fun w => Ql hx hy w)
 have F1 := Hd (((Fr.refl No w).alloc (.cells (y9 x).toArray 127)).alloc (.cells (y9 y).toArray 127))
 have R1 := Hd (zb (zC w (y9 x) 127) ((Fr.refl No _).alloc (.cells (y9 y).toArray 127)) id)
 have R2 := Hd (show ((w.alloc (.cells (y9 x).toArray 127)).alloc (.cells (y9 y).toArray 127)).rangeAt (w.heap.size + 1) 0 (y9 y) by
  have := zC (w.alloc (.cells (y9 x).toArray 127)) (y9 y) 127
  simpa using this)
 generalize Y0 x y = c at *
 generalize hX : y9 x = X at *
 generalize hY : y9 y = Y at *
 have LX := Hd (show X.length = 2 by rw [← hX]; rfl)
 have LY := Hd (show Y.length = 2 by rw [← hY]; rfl)
 clear hX hY hx hy
 go_enter Tryz.func90, Tryz.ntmps90
 have K0 := tru
 have K1 := tru
 have K2 := tru
 go_wp2_with (first | ((with_reducible refine zn ?_); have mk := K0.out; with_reducible refine yk 5 ?_; refine zd rfl (zf (ty := 127) rfl rfl R1.out uW rW (by rw [LX.out]; exact xK)) ?_; go_frame) | ((with_reducible refine zn ?_); have mk := K1.out; with_reducible refine yk 6 ?_; refine zd rfl (zf (ty := 127) rfl rfl R2.out uW rW (by rw [LY.out]; exact xK)) ?_; go_frame) | (clear K2; go_at_call 130; refine (C.out _).mono ?_; rintro e w2 ⟨rfl, f2⟩; go_frame))
 go_ret
 exact ⟨rfl, F1.out.trans0 f2⟩
def YP (w : World) (v : Value) (l : List (Int × Int)) : Prop := (∀ x ∈ l, WOk x) ∧ xq w v l.length (l.flatMap y9)
theorem YP.keep {w w' : World} {v : Value} {l : List (Int × Int)} (h : YP w v l) (f : Fr No w w') : YP w' v l := ⟨h.1, h.2.keep f⟩
theorem YP.at_ {w : World} {v : Value} {l : List (Int × Int)} (h : YP w v l) {i : Nat} {c : Int × Int} (hx : l[i]? = some c) : ∃ b off cap, v = .slice (some ⟨b, off, none⟩) l.length cap ∧ w.rangeAt b (off + i * 2) (y9 c) ∧ b < w.heap.size :=
 h.2.elem (k := 2) (by decide) (fun _ _ => rfl) hx
def jX (l : List (Int × Int)) (n : Nat) : Int := match jV l n with
 | none => -1
 | some k => k
set_option maxRecDepth 20000 in
set_option maxHeartbeats 2000000 in
theorem zfI (w : World) {v : Value} {l : List (Int × Int)} (hl : YP w v l) (hN : l.length ≤ 100000) :
  Calls Tryz.prog 89 #[v] w fun e w' => e = .returned (.int .i64 (jX l l.length)) ∧ Fr No w w' := by
 obtain ⟨dW, uW, rW⟩ := Xz
 obtain ⟨va, vc, rfl⟩ := hl.2.form
 have HL := Hd hl
 clear hl
 go_enter Tryz.func89, Tryz.ntmps89
 go_wp2_with fail
 go_loopw [3, 8] (fun av iv wr => ∃ n : Nat, iv = .int .i64 n ∧ n ≤ l.length ∧ av = .int .i64 (jX l n) ∧ Fr No w wr) (fun _ iv _ => l.length - (intOf iv).toNat)
 case atStart => exact ⟨0, rfl, Nat.zero_le _, rfl, Fr.refl _ _⟩
 case round =>
  obtain ⟨n, rfl, hn, rfl, fr⟩ := hrel
  have FR := Hd fr
  clear fr
  by_cases hlt : n < l.length
  ·have i1 : (n : Int) < (l.length : Int) := by omega
   obtain ⟨x, hx⟩ : ∃ x, l[n]? = some x := ⟨_, List.getElem?_eq_getElem hlt⟩
   obtain ⟨b, off, cap, e, hr, -⟩ := (HL.out.keep FR.out).at_ hx
   cases e
   have XOK := Hd (HL.out.1 x (List.mem_of_getElem? hx))
   have R1 := Hd hr
   have RN := Hd (zC wr (y9 x) 127)
   have F1 := Hd (FR.out.alloc (.cells (y9 x).toArray 127))
   cases hw : jV l n with
   | none =>
    have WN := Hd (show jX l n = -1 ∧ jX l (n + 1) = n by unfold jX; simp only [jV, hw]; exact ⟨trivial, trivial⟩)
    rw [WN.out.1]
    clear hr hx hw
    have K0 := tru
    have K1 := tru
    go_wp2_with (first | ((with_reducible refine zn ?_); have mk := K0.out; refine zd rfl (zf (ty := 127) rfl rfl R1.out uW rW (show _ = some (y9 x).length from xK)) ?_; go_frame) | ((with_reducible refine zA ?_); have mk := K1.out; refine zq rfl (zm (w := wr) (cs := y9 x) (ty := 127) rfl rfl rfl rfl (show _ = some (y9 x).length from xK) Xg) ?_; go_frame))
    refine zv [false, false, false, false, false, false, true, false, false, false, false] (fun w' => w'.rangeAt wr.heap.size 0 (y9 x)) (by kernel_rfl) (by kernel_rfl) ?_ (fun K hK => ?_)
    ·exact zb RN.out (Fr.refl No _).drew id
    repeat (first | ((first | with_reducible refine zx ?_ | ((with_reducible refine zu ?_ ?_); (focus rfl))); apply Exists.intro; refine ⟨?_, ?_⟩; (focus (first | (intro w' hS; obtain s1 := hS; go_simp; (try with_reducible rfl); done))); try simp only [Act.put, pA, pB, pC]) | ((first | ((with_reducible refine zg (c := false) ?_ ?_ ?_); (focus rfl); (focus rfl)) | ((with_reducible refine zg (c := true) ?_ ?_ ?_); (focus rfl); (focus rfl)) | ((with_reducible refine zt ?_ ?_); (focus rfl))); try simp only [Act.put, pA, pB, pC]))
    refine zM (hK.out _ _ ?_)
    go_wp2_with fail
    go_roundw
    case rel => exact ⟨n + 1, by simp, by omega, by rw [WN.out.2], F1.out.drew⟩
    case measure => simp [intOf]; omega
   | some k =>
    have hk := XJ l n k hw
    obtain ⟨y, hy⟩ : ∃ y, l[k]? = some y := ⟨_, List.getElem?_eq_getElem (by omega)⟩
    obtain ⟨b2, off2, cap2, e2, hr2, -⟩ := (HL.out.keep FR.out).at_ hy
    injection e2 with e2 e3 e4
    injection e2 with e2
    injection e2 with e5 e6 e7
    subst e5
    subst e6
    have YOK := Hd (HL.out.1 y (List.mem_of_getElem? hy))
    have R2 := Hd (zb hr2 ((Fr.refl No wr).alloc (.cells (y9 x).toArray 127)) id)
    have C := Hd (fun w => Ql XOK.out YOK.out w)
    have WN := Hd (show jX l n = k ∧ jX l (n + 1) = if Y0 x y < 0 then (n : Int) else (k : Int) by
     unfold jX
     simp only [jV, hw, hx, hy, Option.getD_some]
     refine ⟨trivial, ?_⟩
     by_cases hc : Y0 x y < 0
     ·simp [hc]
     ·simp [hc])
    rw [WN.out.1]
    have i2 : ¬ (k : Int) < 0 := by omega
    have i3 : (k : Int) < (l.length : Int) := by omega
    clear hr hr2 hx hy hw e4
    generalize hc : Y0 x y = c at *
    by_cases hc0 : c < 0
    ·rw [if_pos hc0] at WN
     have K0 := tru
     have K1 := tru
     go_wp2_with (first | ((with_reducible refine zn ?_); have mk := K0.out; refine zd rfl (zf (ty := 127) rfl rfl R1.out uW rW (show _ = some (y9 x).length from xK)) ?_; go_frame) | ((with_reducible refine zA ?_); have mk := K1.out; refine zq rfl (zm (w := wr) (cs := y9 x) (ty := 127) rfl rfl rfl rfl (show _ = some (y9 x).length from xK) Xg) ?_; go_frame))
     refine zv [false, false, false, false, false, false, false, false, true, false, false] (fun w' => w'.rangeAt wr.heap.size 0 (y9 x) ∧ w'.rangeAt b (off + k * 2) (y9 y)) (by kernel_rfl) (by kernel_rfl) ?_ (fun K hK => ?_)
     ·exact ⟨zb RN.out (Fr.refl No _).drew id, zb R2.out (Fr.refl No _).drew id⟩
     repeat (first | ((first | with_reducible refine zx ?_ | ((with_reducible refine zu ?_ ?_); (focus rfl))); apply Exists.intro; refine ⟨?_, ?_⟩; (focus (first | exact zD (ty := 127) rfl (fun w h => h.1) uW rW (show _ = some (y9 x).length from xK) | exact zD (ty := 127) rfl (fun w h => h.2) uW rW (show _ = some (y9 y).length from xK) | (intro w' hS; obtain ⟨s1, s2⟩ := hS; go_simp; (try with_reducible rfl); done))); try simp only [Act.put, pA, pB, pC]) | ((first | ((with_reducible refine zg (c := false) ?_ ?_ ?_); (focus rfl); (focus rfl)) | ((with_reducible refine zg (c := true) ?_ ?_ ?_); (focus rfl); (focus rfl)) | ((with_reducible refine zt ?_ ?_); (focus rfl))); try simp only [Act.put, pA, pB, pC]))
     (first | with_reducible refine zU (fun K' hK' => ?_) | ((with_reducible refine zK ?_ (fun K' hK' => ?_)); (focus rfl)))
     go_simp
     refine (C.out _).mono ?_
     rintro e w3 ⟨rfl, f3⟩
     have F3 := Hd ((Fr.refl No _).drew.trans0 f3)
     refine hK'.out _ _ ?_ (fun hS => ?_)
     ·exact ⟨zb RN.out F3.out id, zb R2.out F3.out id⟩
     try simp only [Act.put, pA, pB, pC]
     repeat (first | ((first | with_reducible refine zx ?_ | ((with_reducible refine zu ?_ ?_); (focus rfl))); apply Exists.intro; refine ⟨?_, ?_⟩; (focus (first | (intro w' hS; obtain ⟨s1, s2⟩ := hS; go_simp; (try with_reducible rfl); done))); try simp only [Act.put, pA, pB, pC]) | ((first | ((with_reducible refine zg (c := false) ?_ ?_ ?_); (focus rfl); (focus rfl)) | ((with_reducible refine zg (c := true) ?_ ?_ ?_); (focus rfl); (focus rfl)) | ((with_reducible refine zt ?_ ?_); (focus rfl))); try simp only [Act.put, pA, pB, pC]))
     refine zM (hK.out _ _ ?_)
     go_wp2_with fail
     go_roundw
     case rel => exact ⟨n + 1, by simp, by omega, by rw [WN.out.2], F1.out.trans0 F3.out⟩
     case measure => simp [intOf]; omega
    ·rw [if_neg hc0] at WN
     have K0 := tru
     have K1 := tru
     go_wp2_with (first | ((with_reducible refine zn ?_); have mk := K0.out; refine zd rfl (zf (ty := 127) rfl rfl R1.out uW rW (show _ = some (y9 x).length from xK)) ?_; go_frame) | ((with_reducible refine zA ?_); have mk := K1.out; refine zq rfl (zm (w := wr) (cs := y9 x) (ty := 127) rfl rfl rfl rfl (show _ = some (y9 x).length from xK) Xg) ?_; go_frame))
     refine zv [false, false, false, false, false, false, false, false, true, false, false] (fun w' => w'.rangeAt wr.heap.size 0 (y9 x) ∧ w'.rangeAt b (off + k * 2) (y9 y)) (by kernel_rfl) (by kernel_rfl) ?_ (fun K hK => ?_)
     ·exact ⟨zb RN.out (Fr.refl No _).drew id, zb R2.out (Fr.refl No _).drew id⟩
     repeat (first | ((first | with_reducible refine zx ?_ | ((with_reducible refine zu ?_ ?_); (focus rfl))); apply Exists.intro; refine ⟨?_, ?_⟩; (focus (first | exact zD (ty := 127) rfl (fun w h => h.1) uW rW (show _ = some (y9 x).length from xK) | exact zD (ty := 127) rfl (fun w h => h.2) uW rW (show _ = some (y9 y).length from xK) | (intro w' hS; obtain ⟨s1, s2⟩ := hS; go_simp; (try with_reducible rfl); done))); try simp only [Act.put, pA, pB, pC]) | ((first | ((with_reducible refine zg (c := false) ?_ ?_ ?_); (focus rfl); (focus rfl)) | ((with_reducible refine zg (c := true) ?_ ?_ ?_); (focus rfl); (focus rfl)) | ((with_reducible refine zt ?_ ?_); (focus rfl))); try simp only [Act.put, pA, pB, pC]))
     (first | with_reducible refine zU (fun K' hK' => ?_) | ((with_reducible refine zK ?_ (fun K' hK' => ?_)); (focus rfl)))
     go_simp
     refine (C.out _).mono ?_
     rintro e w3 ⟨rfl, f3⟩
     have F3 := Hd ((Fr.refl No _).drew.trans0 f3)
     refine hK'.out _ _ ?_ (fun hS => ?_)
     ·exact ⟨zb RN.out F3.out id, zb R2.out F3.out id⟩
     try simp only [Act.put, pA, pB, pC]
     repeat (first | ((first | with_reducible refine zx ?_ | ((with_reducible refine zu ?_ ?_); (focus rfl))); apply Exists.intro; refine ⟨?_, ?_⟩; (focus (first | (intro w' hS; obtain ⟨s1, s2⟩ := hS; go_simp; (try with_reducible rfl); done))); try simp only [Act.put, pA, pB, pC]) | ((first | ((with_reducible refine zg (c := false) ?_ ?_ ?_); (focus rfl); (focus rfl)) | ((with_reducible refine zg (c := true) ?_ ?_ ?_); (focus rfl); (focus rfl)) | ((with_reducible refine zt ?_ ?_); (focus rfl))); try simp only [Act.put, pA, pB, pC]))
     refine zM (hK.out _ _ ?_)
     go_wp2_with fail
     go_roundw
     case rel => exact ⟨n + 1, by simp, by omega, by rw [WN.out.2], F1.out.trans0 F3.out⟩
     case measure => simp [intOf]; omega
  ·have hne : n = l.length := by omega
   have i1 : ¬ (n : Int) < (l.length : Int) := by omega
   subst hne
   go_wp2_with fail
   go_ret
   exact ⟨rfl, FR.out⟩
def JH (l : List InD) : Int := (l.map fun x => (x.key.length : Int)).sum
theorem zdR {l : List InD} {n : Nat} {x : InD} (h : l[n]? = some x) : JH (l.take (n + 1)) = JH (l.take n) + (x.key.length : Int) := by
 rw [List.take_add_one, h]
 simp [JH]
theorem zdd {l : List InD} (h : ∀ x ∈ l, x.key.length ≤ 64) : 0 ≤ JH l ∧ JH l ≤ 64 * (l.length : Int) := by
 induction l with
 | nil => simp [JH]
 | cons x r ih =>
  have h1 := ih (fun y hy => h y (.tail _ hy))
  have h2 := h x (.head _)
  have e : JH (x :: r) = (x.key.length : Int) + JH r := by simp [JH]
  rw [e, List.length_cons]
  omega
set_option maxRecDepth 20000 in
set_option maxHeartbeats 4000000 in
theorem Y7 (w : World) {t : TxD} {cs : List Value} (ht : TxQ w t cs) (hfm : qP t = true) :
  Calls Tryz.prog 78 #[.agg cs.toArray] w fun e w' => e = .returned (.tuple #[.int .i64 (xX t), .int .i64 0]) ∧ Fr No w w' := by
 have HT := Hd ht
 obtain ⟨ia, ic, oa, oc, rfl, hv, hi, ho⟩ := ht
 obtain ⟨dI, uI, rI⟩ := YV
 obtain ⟨dT, uT, rT⟩ := vw
 have zI := Zj
 obtain ⟨hk, hil, hol⟩ := yX.1 hfm
 have F1 := Hd ((Fr.refl No w).alloc (.cells #[.int .u32 t.ver, .slice ia t.ins.length ic, .slice oa t.outs.length oc] 34))
 obtain ⟨-, c1, c2, r0⟩ := qZ w t.ver (.slice ia t.ins.length ic) (.slice oa t.outs.length oc)
 have C1 := Hd c1
 have C2 := Hd c2
 have R0 := Hd r0
 have HI := Hd (hi.keep0 F1.out)
 have hf := zal (w.alloc (.cells #[.int .u32 t.ver, .slice ia t.ins.length ic, .slice oa t.outs.length oc] 34)) (HT.out.keep F1.out)
 rw [hfm] at hf
 have HF := Hd hf
 have KL := Hd (fun n => zdd (l := t.ins.take n) (fun x hx => hk x (List.mem_of_mem_take hx)))
 have HS := Hd (show xX t = 6 + 37 * (t.ins.length : Int) + 40 * (t.outs.length : Int) + JH t.ins from rfl)
 clear hi ho hv c1 c2 r0 hk hf hfm
 show Calls Tryz.prog 78 #[.agg #[.int .u32 t.ver, .slice ia t.ins.length ic, .slice oa t.outs.length oc]] w _
 go_enter Tryz.func78, Tryz.ntmps78
 generalize hw1 : w.alloc (.cells #[.int .u32 t.ver, .slice ia t.ins.length ic, .slice oa t.outs.length oc] 34) = w1 at *
 obtain ⟨B, hB⟩ : ∃ B : Int, B = 6 + 37 * (t.ins.length : Int) + 40 * (t.outs.length : Int) := ⟨_, rfl⟩
 have e1 : (37 : Int) * (t.ins.length : Int) = 37 * (t.ins.length : Int) := rfl
 go_wp2_with (first | (refine zd rfl (zf (ty := 34) rfl rfl R0.out uT rT zR) ?_) | (go_at_call 66; refine HF.out.mono ?_; rintro e w2 ⟨rfl, f2⟩; have F2 := Hd f2; clear f2; have d1 := F2.out.cell C1.out id; have d2 := F2.out.cell C2.out id))
 clear e1
 rw [← hB]
 rw [← hB] at HS
 have HB := Hd (show 6 ≤ B ∧ B ≤ 622 by omega)
 have hb0 := HB.out
 clear hB
 go_loopw [4, 23] (fun nv iv wr => ∃ n : Nat, iv = .int .i64 n ∧ n ≤ t.ins.length ∧ nv = .int .i64 (B + JH (t.ins.take n)) ∧ Fr No w1 wr) (fun _ iv _ => t.ins.length - (intOf iv).toNat)
 case atStart => exact ⟨0, rfl, Nat.zero_le _, by simp [JH], F2.out⟩
 case round =>
  obtain ⟨n, rfl, hn, rfl, fr⟩ := hrel
  have FR := Hd fr
  have KN := KL.out n
  rw [List.length_take] at KN
  clear fr
  by_cases hlt : n < t.ins.length
  ·have i1 : (n : Int) < (t.ins.length : Int) := by omega
   obtain ⟨x, hx⟩ : ∃ x, t.ins[n]? = some x := ⟨_, List.getElem?_eq_getElem hlt⟩
   obtain ⟨b, off, cap, cs, hv, hr, ka, kc, rfl, pok, hkey⟩ := (HI.out.keep0 FR.out).at_ hx
   cases hv
   have R1 := Hd hr
   have IL := Hd (vi pok (.slice ka x.key.length kc))
   have c33 := (Y4 wr (kv := .slice ka x.key.length kc) pok).2
   have FA := Hd (FR.out.alloc (.cells (inC x.from_ (.slice ka x.key.length kc)).toArray 108))
   have SN := Hd (zdR hx)
   have K2 := KL.out (n + 1)
   rw [SN.out, List.length_take] at K2
   clear hr hkey pok hx
   generalize JH (t.ins.take n) = T at *
   go_wp2_with (first | (refine zd rfl (zf (ty := 108) rfl rfl R1.out uI rI (by rw [IL.out]; exact q9)) ?_) | (refine zq rfl (zm (w := wr) (ty := 108) (cs := inC x.from_ (.slice ka x.key.length kc)) rfl rfl rfl (by rw [IL.out]; rfl) (by rw [IL.out]; exact q9) jF) ?_; generalize wr.alloc (.cells (inC x.from_ (.slice ka x.key.length kc)).toArray 108) = wA at *))
   go_roundw
   case rel => exact ⟨n + 1, by go_num, by omega, by rw [SN.out]; go_num, FA.out⟩
   case measure => simp [intOf]; omega
  ·have hne : n = t.ins.length := by omega
   have i1 : ¬ (n : Int) < (t.ins.length : Int) := by omega
   have E := HS
   subst hne
   go_wp2_with fail
   go_ret2
   exact ⟨by rw [E.out]; rfl, F1.out.trans0 FR.out⟩
end Go.Proofs.YtdkkjchclkjleaaGreatDoor
