/- Sums of 256 bits, plain, as the program reckons them; a number's bits turned (printed by gen_sha.py). -/
import Derived.Test.YtdkkjchclkjleaaGreatDoorProg
import Derived.Lib.Hide
import Derived.Deep.Cut
import Derived.Maps.RangeWalk
import Derived.Tactics2
import Derived.Laws.IdiomCopy
import Derived.Test.YtdkkjchclkjleaaGreatDoorSG3
import Derived.Test.YtdkkjchclkjleaaGreatDoorSG4
import Derived.Test.YtdkkjchclkjleaaGreatDoorSG5
set_option linter.unusedVariables false
set_option linter.unusedSimpArgs false
set_option linter.unnecessarySimpa false
set_option linter.all false
namespace Go.Proofs.YtdkkjchclkjleaaGreatDoor
open Go Go.RowKit Go.Maps Go.MapKept
def zfm : List Int := [1116352408, 1899447441, 3049323471, 3921009573, 961987163, 1508970993, 2453635748, 2870763221, 3624381080, 310598401, 607225278, 1426881987, 1925078388, 2162078206, 2614888103, 3248222580, 3835390401, 4022224774, 264347078, 604807628, 770255983, 1249150122, 1555081692, 1996064986, 2554220882, 2821834349, 2952996808, 3210313671, 3336571891, 3584528711, 113926993, 338241895, 666307205, 773529912, 1294757372, 1396182291, 1695183700, 1986661051, 2177026350, 2456956037, 2730485921, 2820302411, 3259730800, 3345764771, 3516065817, 3600352804, 4094571909, 275423344, 430227734, 506948616, 659060556, 883997877, 958139571, 1322822218, 1537002063, 1747873779, 1955562222, 2024104815, 2227730452, 2361852424, 2428436474, 2756734187, 3204031479, 3329325298]
def zfv : List Int := [1779033703, 3144134277, 1013904242, 2773480762, 1359893119, 2600822924, 528734635, 1541459225]
def rot (m d x : Int) : Int := bits .or .u32 (x * m % 4294967296) (x / d)
abbrev zjW (x : Int) : Int := rot 1073741824 4 x
abbrev zjm (x : Int) : Int := rot 67108864 64 x
abbrev zjq (x : Int) : Int := rot 33554432 128 x
abbrev zfP (x : Int) : Int := rot 2097152 2048 x
abbrev ziV (x : Int) : Int := rot 524288 8192 x
abbrev zf5 (x : Int) : Int := rot 32768 131072 x
abbrev zgj (x : Int) : Int := rot 16384 262144 x
abbrev zgt (x : Int) : Int := rot 8192 524288 x
abbrev ziM (x : Int) : Int := rot 1024 4194304 x
abbrev zhr (x : Int) : Int := rot 128 33554432 x
def zcK (x y u c : Int) : Int := IntKind.u32.wrap (c + IntKind.u32.wrap (IntKind.u32.wrap (bits .xor .u32 (bits .xor .u32 (zf5 x) (zgt x)) (x / 1024) + u) + bits .xor .u32 (bits .xor .u32 (zjq y) (zgj y)) (y / 8)))
def Zv (W : List Int) (t : Nat) : List Int := if t < 16 then W else W.set (t % 16) (zcK (W.getD ((t - 2) % 16) 0) (W.getD ((t - 15) % 16) 0) (W.getD ((t - 7) % 16) 0) (W.getD (t % 16) 0))
theorem zez (W : List Int) (t : Nat) : (Zv W t).length = W.length := by unfold Zv; split <;> simp
def Zg (x : Int) : Value := .int .u32 x
theorem Yk {n : Int} (h0 : 0 ≤ n) (h1 : n < 9223372036854775808) : bits .and .i64 n 15 = n % 16 := bits_mask .i64 63 (by decide) (fun n h0 h1 => IntWalk.i64_in _ (by omega)) 4 (by decide) n h0 (by omega)
structure zcV where
 a : Int
 b : Int
 c : Int
 d : Int
 e : Int
 f : Int
 g : Int
 h : Int
 W : List Int
def ziA (s : zcV) (t : Nat) : Int := IntKind.u32.wrap ((s.h + bits .xor .u32 (bits .xor .u32 (zjm s.e) (zfP s.e)) (zhr s.e)) % 4294967296 + IntKind.u32.wrap (IntKind.u32.wrap (bits .xor .u32 s.g (bits .and .u32 s.e (bits .xor .u32 s.f s.g)) + zfm.getD t 0) + (Zv s.W t).getD (t % 16) 0))
def zj9 (s : zcV) : Int := (bits .xor .u32 (bits .xor .u32 (zjW s.a) (ziV s.a)) (ziM s.a) + bits .or .u32 (bits .and .u32 s.a s.b) (bits .and .u32 s.c (bits .or .u32 s.a s.b))) % 4294967296
def QJ (s : zcV) (t : Nat) : zcV := ⟨(ziA s t + zj9 s) % 4294967296, s.a, s.b, s.c, (s.d + ziA s t) % 4294967296, s.e, s.f, s.g, Zv s.W t⟩
def xE (s : zcV) : Nat → zcV
 | 0 => s
 | n + 1 => QJ (xE s n) n
def vy (B : List Int) : Nat → List Int
 | 0 => List.replicate 16 0
 | i + 1 => (vy B i).set (i / 4) (bits .or .u32 ((vy B i).getD (i / 4) 0 * 256 % 4294967296) (B.getD i 0 % 4294967296))
theorem ZJ (B : List Int) : ∀ i, (vy B i).length = 16
 | 0 => by simp [vy]
 | i + 1 => by simp [vy, ZJ B i]
theorem VY {s : zcV} (h : s.W.length = 16) : ∀ n, (xE s n).W.length = 16
 | 0 => h
 | n + 1 => by simp [xE, QJ, zez, VY h n]
def qM (S B : List Int) : List Int :=
 let r := xE ⟨S.getD 0 0, S.getD 1 0, S.getD 2 0, S.getD 3 0, S.getD 4 0, S.getD 5 0, S.getD 6 0, S.getD 7 0, vy B 64⟩ 64
 [(S.getD 0 0 + r.a) % 4294967296, (S.getD 1 0 + r.b) % 4294967296, (S.getD 2 0 + r.c) % 4294967296, (S.getD 3 0 + r.d) % 4294967296, (S.getD 4 0 + r.e) % 4294967296, (S.getD 5 0 + r.f) % 4294967296, (S.getD 6 0 + r.g) % 4294967296, (S.getD 7 0 + r.h) % 4294967296]
theorem zjy (w : World) (x : Int) : Calls Tryz.prog 201 #[.int .u32 x, .int .i64 (-2)] w fun e w' => e = .returned (.int .u32 (zjW x)) ∧ w = w' := by
 have e1 : bits .and .u64 (IntKind.u64.wrap (-2)) 31 = 30 := by decide +kernel
 go_enter Tryz.func201, Tryz.ntmps201
 go_wp2
 go_ret
 exact ⟨rfl, rfl⟩
theorem zjB (w : World) (x : Int) : Calls Tryz.prog 201 #[.int .u32 x, .int .i64 (-6)] w fun e w' => e = .returned (.int .u32 (zjm x)) ∧ w = w' := by
 have e1 : bits .and .u64 (IntKind.u64.wrap (-6)) 31 = 26 := by decide +kernel
 go_enter Tryz.func201, Tryz.ntmps201
 go_wp2
 go_ret
 exact ⟨rfl, rfl⟩
theorem zjc (w : World) (x : Int) : Calls Tryz.prog 201 #[.int .u32 x, .int .i64 (-7)] w fun e w' => e = .returned (.int .u32 (zjq x)) ∧ w = w' := by
 have e1 : bits .and .u64 (IntKind.u64.wrap (-7)) 31 = 25 := by decide +kernel
 go_enter Tryz.func201, Tryz.ntmps201
 go_wp2
 go_ret
 exact ⟨rfl, rfl⟩
theorem zhM (w : World) (x : Int) : Calls Tryz.prog 201 #[.int .u32 x, .int .i64 (-11)] w fun e w' => e = .returned (.int .u32 (zfP x)) ∧ w = w' := by
 have e1 : bits .and .u64 (IntKind.u64.wrap (-11)) 31 = 21 := by decide +kernel
 go_enter Tryz.func201, Tryz.ntmps201
 go_wp2
 go_ret
 exact ⟨rfl, rfl⟩
theorem zhI (w : World) (x : Int) : Calls Tryz.prog 201 #[.int .u32 x, .int .i64 (-13)] w fun e w' => e = .returned (.int .u32 (ziV x)) ∧ w = w' := by
 have e1 : bits .and .u64 (IntKind.u64.wrap (-13)) 31 = 19 := by decide +kernel
 go_enter Tryz.func201, Tryz.ntmps201
 go_wp2
 go_ret
 exact ⟨rfl, rfl⟩
theorem zhT (w : World) (x : Int) : Calls Tryz.prog 201 #[.int .u32 x, .int .i64 (-17)] w fun e w' => e = .returned (.int .u32 (zf5 x)) ∧ w = w' := by
 have e1 : bits .and .u64 (IntKind.u64.wrap (-17)) 31 = 15 := by decide +kernel
 go_enter Tryz.func201, Tryz.ntmps201
 go_wp2
 go_ret
 exact ⟨rfl, rfl⟩
theorem ziI (w : World) (x : Int) : Calls Tryz.prog 201 #[.int .u32 x, .int .i64 (-18)] w fun e w' => e = .returned (.int .u32 (zgj x)) ∧ w = w' := by
 have e1 : bits .and .u64 (IntKind.u64.wrap (-18)) 31 = 14 := by decide +kernel
 go_enter Tryz.func201, Tryz.ntmps201
 go_wp2
 go_ret
 exact ⟨rfl, rfl⟩
theorem zij (w : World) (x : Int) : Calls Tryz.prog 201 #[.int .u32 x, .int .i64 (-19)] w fun e w' => e = .returned (.int .u32 (zgt x)) ∧ w = w' := by
 have e1 : bits .and .u64 (IntKind.u64.wrap (-19)) 31 = 13 := by decide +kernel
 go_enter Tryz.func201, Tryz.ntmps201
 go_wp2
 go_ret
 exact ⟨rfl, rfl⟩
theorem ziB (w : World) (x : Int) : Calls Tryz.prog 201 #[.int .u32 x, .int .i64 (-22)] w fun e w' => e = .returned (.int .u32 (ziM x)) ∧ w = w' := by
 have e1 : bits .and .u64 (IntKind.u64.wrap (-22)) 31 = 10 := by decide +kernel
 go_enter Tryz.func201, Tryz.ntmps201
 go_wp2
 go_ret
 exact ⟨rfl, rfl⟩
theorem zir (w : World) (x : Int) : Calls Tryz.prog 201 #[.int .u32 x, .int .i64 (-25)] w fun e w' => e = .returned (.int .u32 (zhr x)) ∧ w = w' := by
 have e1 : bits .and .u64 (IntKind.u64.wrap (-25)) 31 = 7 := by decide +kernel
 go_enter Tryz.func201, Tryz.ntmps201
 go_wp2
 go_ret
 exact ⟨rfl, rfl⟩
end Go.Proofs.YtdkkjchclkjleaaGreatDoor

/- sha: a schedule's next number. -/
namespace Go.Proofs.YtdkkjchclkjleaaGreatDoor
open Go Go.RowKit Go.Maps Go.MapKept
def jK (W : List Int) : Array Value := (W.map Zg).toArray
theorem zce (W : List Int) (k : Nat) (v : Int) : (jK W).setIfInBounds k (.int .u32 v) = jK (W.set k v) := by
 unfold jK
 rw [List.setIfInBounds_toArray, List.map_set]
 rfl
theorem Jt {w : World} {q k : Nat} {W : List Int} {T : TypeId} {f : Nat × Nat} (h : w.heap[q]? = some (.cells (jK W) T f)) (hk : k < W.length) : w.cell? ⟨q, k, none⟩ = some (.int .u32 (W.getD k 0)) := by
 simp only [World.cell?, h, jK]
 simp [hk, Zg]
theorem yI {w : World} {b i : Nat} {c : Array Value} {T : TypeId} (h : w.heap[b]? = some (.cells c T (0, 0))) : w.frozen? ⟨b, i, none⟩ = false := by simp [World.frozen?, h]
set_option maxRecDepth 20000 in
set_option maxHeartbeats 4000000 in
theorem zhk {w : World} {q : Nat} {W : List Int} (hW : W.length = 16) (hb : w.heap[q]? = some (.cells (jK W) 315 (0, 0))) {t : Nat} (ht : t < 64) :
  Calls Tryz.prog 202 #[.pointer (some ⟨q, 0, none⟩), .int .i64 t] w fun e w' => e = .returned (.int .u32 ((Zv W t).getD (t % 16) 0)) ∧ w'.heap[q]? = some (.cells (jK (Zv W t)) 315 (0, 0)) ∧ Fr (fun j => j = q) w w' := by
 have HB := Hd hb
 obtain ⟨k, hk⟩ : ∃ k, k = t % 16 := ⟨_, rfl⟩
 have hk16 : k < 16 := by omega
 have e1 : bits .and .i64 (t : Int) 15 = (k : Int) := by rw [Yk (by omega) (by omega), hk]; omega
 have ck := Jt (k := k) hb (by omega)
 have hkn : (k : Int).toNat = k := by omega
 have hki : (k : Int) < 16 := by omega
 have hk0 : (0 : Int) ≤ (k : Int) := by omega
 have hk1 : ¬ (k : Int) < 0 := by omega
 by_cases h16 : t < 16
 ·have j1 : decide ((16 : Int) ≤ (t : Int)) = false := by simp; omega
  have j2 : (t : Int) < 16 := by omega
  have WW := Hd (show Zv W t = W by unfold Zv; rw [if_pos h16])
  rw [← hk, WW.out]
  generalize W.getD k 0 = c at *
  clear hb hk WW
  go_enter Tryz.func202, Tryz.ntmps202
  go_wp2
  go_ret
  exact ⟨by rfl, HB.out, Fr.refl _ _⟩
 ·have j1 : decide ((16 : Int) ≤ (t : Int)) = true := by simp; omega
  have j2 : ¬ (t : Int) < 16 := by omega
  obtain ⟨k2, hk2⟩ : ∃ k, k = (t - 2) % 16 := ⟨_, rfl⟩
  obtain ⟨k15, hk15⟩ : ∃ k, k = (t - 15) % 16 := ⟨_, rfl⟩
  obtain ⟨k7, hk7⟩ : ∃ k, k = (t - 7) % 16 := ⟨_, rfl⟩
  have w2e : IntKind.i64.wrap ((t : Int) - 2) = (t : Int) - 2 := IntWalk.i64_in _ (by omega)
  have w15e : IntKind.i64.wrap ((t : Int) - 15) = (t : Int) - 15 := IntWalk.i64_in _ (by omega)
  have w7e : IntKind.i64.wrap ((t : Int) - 7) = (t : Int) - 7 := IntWalk.i64_in _ (by omega)
  have e2 : bits .and .i64 ((t : Int) - 2) 15 = (k2 : Int) := by rw [Yk (by omega) (by omega), hk2]; omega
  have e15 : bits .and .i64 ((t : Int) - 15) 15 = (k15 : Int) := by rw [Yk (by omega) (by omega), hk15]; omega
  have e7 : bits .and .i64 ((t : Int) - 7) 15 = (k7 : Int) := by rw [Yk (by omega) (by omega), hk7]; omega
  have l2 : k2 < 16 := by omega
  have l15 : k15 < 16 := by omega
  have l7 : k7 < 16 := by omega
  have i2 : (k2 : Int) < 16 := by omega
  have i15 : (k15 : Int) < 16 := by omega
  have i7 : (k7 : Int) < 16 := by omega
  have o2 : (0 : Int) ≤ (k2 : Int) := by omega
  have o15 : (0 : Int) ≤ (k15 : Int) := by omega
  have o7 : (0 : Int) ≤ (k7 : Int) := by omega
  have n2 : (k2 : Int).toNat = k2 := by omega
  have n15 : (k15 : Int).toNat = k15 := by omega
  have n7 : (k7 : Int).toNat = k7 := by omega
  have C2 := Hd (Jt (k := k2) hb (by omega))
  have C15 := Hd (Jt (k := k15) hb (by omega))
  have C7 := Hd (Jt (k := k7) hb (by omega))
  have CK := Hd ck
  have WW := Hd (show Zv W t = W.set k (zcK (W.getD k2 0) (W.getD k15 0) (W.getD k7 0) (W.getD k 0)) by unfold Zv; rw [if_neg h16, hk, hk2, hk15, hk7])
  have SG := Hd (show (W.set k (zcK (W.getD k2 0) (W.getD k15 0) (W.getD k7 0) (W.getD k 0))).getD k 0 = zcK (W.getD k2 0) (W.getD k15 0) (W.getD k7 0) (W.getD k 0) by
   have : k < W.length := by omega
   simp [this])
  rw [← hk]
  generalize W.getD k2 0 = x at *
  generalize W.getD k15 0 = y at *
  generalize W.getD k7 0 = u at *
  generalize W.getD k 0 = c at *
  clear ck hk hk2 hk15 hk7
  go_enter Tryz.func202, Tryz.ntmps202
  go_wp2
  refine zv [false, false, false, false, false, false, false, false, false, false, false, false, false, false, false, false] (fun w' => w'.cell? ⟨q, k2, none⟩ = some (.int .u32 x) ∧ w'.cell? ⟨q, k15, none⟩ = some (.int .u32 y)) (by kernel_rfl) (by kernel_rfl) ?_ (fun K hK => ?_)
  ·exact ⟨(Fr.refl No w).drew.cell C2.out id, (Fr.refl No w).drew.cell C15.out id⟩
  repeat (first | ((first | with_reducible refine zx ?_ | ((with_reducible refine zu ?_ ?_); (focus rfl))); apply Exists.intro; refine ⟨fun w' hS => ?_, ?_⟩; (focus (obtain ⟨s1, s2⟩ := hS; go_simp; (try with_reducible rfl); done)); try simp only [Act.put, pA, pB, pC]) | ((first | ((with_reducible refine zg (c := false) ?_ ?_ ?_); (focus rfl); (focus rfl)) | ((with_reducible refine zg (c := true) ?_ ?_ ?_); (focus rfl); (focus rfl)) | ((with_reducible refine zt ?_ ?_); (focus rfl))); try simp only [Act.put, pA, pB, pC]))
  refine zM (hK.out _ _ ?_)
  have F1 := Hd (Fr.refl No w).drew
  generalize w.drew = w1 at *
  have M0 := tru
  have M1 := tru
  have M2 := tru
  have M3 := tru
  go_upto_region 5 with (first | (have mk := M0.out; go_at_call 201; refine (zhT _ _).mono ?_; rintro e w2 ⟨rfl, rfl⟩; clear mk M0) | (have mk := M1.out; go_at_call 201; refine (zij _ _).mono ?_; rintro e w2 ⟨rfl, rfl⟩; clear mk M1) | (have mk := M2.out; go_at_call 201; refine (zjc _ _).mono ?_; rintro e w2 ⟨rfl, rfl⟩; clear mk M2) | (have mk := M3.out; go_at_call 201; refine (ziI _ _).mono ?_; rintro e w2 ⟨rfl, rfl⟩; clear mk M3))
  have HB1 := Hd ((F1.out.trans0 (Fr.refl No w1).drew).obj HB.out id)
  have FK := yI (i := k) HB1.out
  have CK1 := (F1.out.trans0 (Fr.refl No w1).drew).cell CK.out id
  refine yJ [false, false, false, false, false, false, false, false, false, false, false, false, false, false, false, false, false, false, false, false, true] (fun w' => w'.cell? ⟨q, k, none⟩ = some (.int .u32 c) ∧ w'.cell? ⟨q, k7, none⟩ = some (.int .u32 u)) (by kernel_rfl) (by kernel_rfl) 20 (by kernel_rfl) (by kernel_rfl) ?_ (fun K hK => ?_)
  ·exact ⟨CK1, (F1.out.trans0 (Fr.refl No w1).drew).cell C7.out id⟩
  repeat (first | ((first | with_reducible refine yG ?_ | ((with_reducible refine yp ?_ ?_); (focus rfl))); apply Exists.intro; refine ⟨?_, ?_⟩; (focus (first | (intro w' hS; obtain ⟨s1, s2⟩ := hS; go_simp; (try with_reducible rfl); done))); try simp only [Act.put, pA, pB, pC]) | ((first | ((with_reducible refine zX (c := false) ?_ ?_ ?_); (focus rfl); (focus rfl)) | ((with_reducible refine zX (c := true) ?_ ?_ ?_); (focus rfl); (focus rfl)) | ((with_reducible refine yq ?_ ?_); (focus rfl))); try simp only [Act.put, pA, pB, pC]))
  (first | with_reducible refine yK (fun K' hK' => ?_) | ((with_reducible refine yx ?_ (fun K' hK' => ?_)); (focus rfl)))
  go_simp
  refine hK'.out _ _ (fun h => absurd rfl h) (fun hS => ?_)
  refine qy (hK.out _ _ ?_)
  generalize hv : IntKind.u32.wrap (c + IntKind.u32.wrap (IntKind.u32.wrap (bits .xor .u32 (bits .xor .u32 (zf5 x) (zgt x)) (x / 1024) + u) + bits .xor .u32 (bits .xor .u32 (zjq y) (zgj y)) (y / 8))) = v at *
  have hv2 : zcK x y u c = v := hv
  rw [hv2] at WW SG
  have HB2 := Hd (show (w1.setCell ⟨q, k, none⟩ (.int .u32 v)).heap[q]? = some (.cells (jK (W.set k v)) 315 (0, 0)) by
   have := heap_setCell_same w1 q k _ _ (.int .u32 v) HB1.out
   rw [zce] at this
   exact this)
  have c9 : (w1.setCell ⟨q, k, none⟩ (.int .u32 v)).drew.cell? ⟨q, k, none⟩ = some (.int .u32 v) := by
   have := Jt (k := k) HB2.out (by simp; omega)
   rw [SG.out] at this
   exact this
  have FZ := Hd (show Fr (fun j => j = q) w (w1.setCell ⟨q, k, none⟩ (.int .u32 v)).drew from ((F1.out.of0 (W := fun j => j = q)).setCell ⟨q, k, none⟩ (.inr rfl) _).drew)
  have HB3 := Hd (show (w1.setCell ⟨q, k, none⟩ (.int .u32 v)).drew.heap[q]? = some (.cells (jK (W.set k v)) 315 (0, 0)) from HB2.out)
  clear hv hv2 HB2
  generalize (w1.setCell ⟨q, k, none⟩ (.int .u32 v)).drew = w9 at *
  go_wp2
  go_ret
  exact ⟨by rw [WW.out, SG.out]; rfl, by rw [WW.out]; exact HB3.out, FZ.out⟩
end Go.Proofs.YtdkkjchclkjleaaGreatDoor

/- Quick looks at the goal, ahead of an arm of a walk: each fails at once where the next operation is another one. -/
namespace Go
section
variable {P : Program} {ops : Array Oper} {Q : Exit → Act → World → Prop} {a : Act} {w : World} {rest : List Oper} {o : Oper}
theorem yk (d : Tmp) {op : Op} {t : TypeId} {pos : String} {after : Array Edge} {guard : Option (Nat × Bool)} (h : wpList P ops Q ({ dst := some d, op := op, type := t, pos := pos, after := after, guard := guard } :: rest) a w) : wpList P ops Q ({ dst := some d, op := op, type := t, pos := pos, after := after, guard := guard } :: rest) a w := h
theorem zA {op : Op} {t : TypeId} {pos : String} {after : Array Edge} {guard : Option (Nat × Bool)} (h : wpList P ops Q ({ dst := none, op := op, type := t, pos := pos, after := after, guard := guard } :: rest) a w) : wpList P ops Q ({ dst := none, op := op, type := t, pos := pos, after := after, guard := guard } :: rest) a w := h
theorem zn (h : wpList P ops Q (o :: rest) a w) : wpList P ops Q (o :: rest) a w := h
end
end Go

/- sha: a block taken into a state. -/
namespace Go.Proofs.YtdkkjchclkjleaaGreatDoor
open Go Go.RowKit Go.Maps Go.MapKept
structure j7 (w : World) : Prop where
 k : ∀ (j : Nat) (x : Int), zfm[j]? = some x → w.cell? ⟨3, j, none⟩ = some (.int .u32 x)
 i : ∀ (j : Nat) (x : Int), zfv[j]? = some x → w.cell? ⟨0, j, none⟩ = some (.int .u32 x)
theorem j7.keep {w w' : World} (h : j7 w) {W : Nat → Prop} (f : Fr W w w') (h0 : ¬ W 0) (h2 : ¬ W 3) : j7 w' := ⟨fun j x e => f.cell (h.k j x e) h2, fun j x e => f.cell (h.i j x e) h0⟩
theorem zik {w : World} (h : j7 w) {t : Nat} (ht : t < 64) : w.cell? ⟨3, t, none⟩ = some (.int .u32 (zfm.getD t 0)) := h.k t _ (by
 have : t < zfm.length := ht
 rw [List.getD_eq_getElem?_getD, List.getElem?_eq_getElem this]
 rfl)
theorem zid (w : World) (o1 o2 o3 o4 : Obj) : ((((w.alloc o1).alloc o2).alloc o3).alloc o4).heap[w.heap.size]? = some o1 ∧ ((((w.alloc o1).alloc o2).alloc o3).alloc o4).heap[w.heap.size + 1]? = some o2 ∧ ((((w.alloc o1).alloc o2).alloc o3).alloc o4).heap[w.heap.size + 1 + 1]? = some o3 ∧ ((((w.alloc o1).alloc o2).alloc o3).alloc o4).heap[w.heap.size + 1 + 1 + 1]? = some o4 ∧ Fr No w ((((w.alloc o1).alloc o2).alloc o3).alloc o4) :=
 ⟨JD (JD (JD (yn w o1) o2) o3) o4, JD (JD (yL (w.alloc o1) o2 (by simp)) o3) o4, JD (yL ((w.alloc o1).alloc o2) o3 (by simp)) o4, yL (((w.alloc o1).alloc o2).alloc o3) o4 (by simp), (((((Fr.refl No w).alloc o1).alloc o2).alloc o3).alloc o4)⟩
theorem qn {w : World} {b : Nat} {cs : List Value} {T : TypeId} {fz : Nat × Nat} (h : w.heap[b]? = some (.cells cs.toArray T fz)) : w.rangeAt b 0 cs := fun j v hj => by
 simp only [World.cell?, h]
 simpa using hj
theorem zgr : (Tryz.prog.info? 268).map (·.size) = some 64 := by kernel_rfl
theorem zgv : ∃ d, Tryz.prog.underlying 268 = some d ∧ d.isRow = true := jf (by kernel_rfl)
theorem zhH {B : List Int} (hB : B.length = 64) {i : Nat} (hi : i < 64) (w : World) : (Instr.index 268 (.agg (B.map zP).toArray) (.int .i64 i)).run Tryz.prog w = .ok (.int .u8 (B.getD i 0)) w := by
 have hn : (0 ≤ (i : Int) ∧ (i : Int) < ((64 : Nat) : Int)) := by omega
 have i8 : (sizeOf 5).run Tryz.prog w = .ok 1 w := by kernel_rfl
 simp [Instr.index, run_underlying Tryz.underlying268, asIntOf, hn, i8, part, go_sem]
 have hl : i < B.length := by omega
 rw [List.getElem?_eq_getElem hl]
 simp [hi, zP]
set_option maxRecDepth 20000 in
set_option maxHeartbeats 4000000 in
theorem zeT {w : World} (hg : j7 w) (hw2 : 3 < w.heap.size) {S B : List Int} (hS : S.length = 8) (hB : B.length = 64) :
  Calls Tryz.prog 183 #[.agg (jK S), .agg (B.map zP).toArray] w fun e w' => e = .returned (.agg (jK (qM S B))) ∧ Fr No w w' := by
 have z8 : ∀ w, (zeroValue 267).run Tryz.prog w = .ok (.agg (jK [0, 0, 0, 0, 0, 0, 0, 0])) w := fun w => by kernel_rfl
 have z16 : ∀ w, (zeroValue 315).run Tryz.prog w = .ok (.agg (jK [0, 0, 0, 0, 0, 0, 0, 0, 0, 0, 0, 0, 0, 0, 0, 0])) w := fun w => by kernel_rfl
 obtain ⟨d64, y64, r64⟩ := zgv
 obtain ⟨b1, b2, b3, b4, f4⟩ := zid w (.cells (jK S) 267) (.cells (B.map zP).toArray 268) (.cells (jK [0, 0, 0, 0, 0, 0, 0, 0]) 267) (.cells (jK [0, 0, 0, 0, 0, 0, 0, 0, 0, 0, 0, 0, 0, 0, 0, 0]) 315)
 have B1 := Hd b1
 have R2 := Hd (qn b2)
 have B3 := Hd b3
 have B4 := Hd b4
 have F4 := Hd f4
 have HG := Hd hg
 have HW := Hd hw2
 have BL := Hd (show (B.map zP).length = 64 by simp [hB])
 have HS := Hd hS
 have HBL := Hd hB
 clear hg b1 b2 b3 b4 f4 hw2 hS hB
 go_enter Tryz.func183, Tryz.ntmps183
 go_wp2_with ((with_reducible refine yk 19 ?_); refine zd rfl (zf (ty := 268) rfl rfl R2.out y64 r64 (by rw [BL.out]; exact zgr)) ?_; generalize (((w.alloc (.cells (jK S) 267)).alloc (.cells (B.map zP).toArray 268)).alloc (.cells (jK [0, 0, 0, 0, 0, 0, 0, 0]) 267)).alloc (.cells (jK [0, 0, 0, 0, 0, 0, 0, 0, 0, 0, 0, 0, 0, 0, 0, 0]) 315) = w4 at *)
 go_loopw [20] (fun iv wr => ∃ i : Nat, iv = .int .i64 i ∧ i ≤ 64 ∧ wr.heap[w.heap.size + 1 + 1 + 1]? = some (.cells (jK (vy B i)) 315 (0, 0)) ∧ Fr (fun j => j = w.heap.size + 1 + 1 + 1) w4 wr) (fun iv _ => 64 - (intOf iv).toNat)
 case atStart => exact ⟨0, rfl, by omega, B4.out, Fr.refl _ _⟩
 case round =>
  obtain ⟨i, rfl, hi, hb, fr⟩ := hrel
  have FR := Hd fr
  have HB := Hd hb
  clear fr hb
  by_cases h : i < 64
  ·have i1 : (i : Int) < 64 := by omega
   have hx := zhH HBL.out h
   obtain ⟨k, hk⟩ : ∃ k, k = i / 4 := ⟨_, rfl⟩
   have k16 : k < 16 := by omega
   have ki : (k : Int) < 16 := by omega
   have k0 : (0 : Int) ≤ (k : Int) := by omega
   have kn : (k : Int).toNat = k := by omega
   have kd : (i : Int) / 4 = (k : Int) := by omega
   have ck := Jt (k := k) HB.out (by rw [ZJ]; exact k16)
   have fz := yI (i := k) HB.out
   have FS := Hd (show vy B (i + 1) = (vy B i).set k (bits .or .u32 ((vy B i).getD k 0 * 256 % 4294967296) (B.getD i 0 % 4294967296)) by rw [vy, ← hk])
   have HS2 := Hd (fun v => heap_setCell_same wr (w.heap.size + 1 + 1 + 1) k _ _ (.int .u32 v) HB.out)
   generalize (vy B i).getD k 0 = c at *
   generalize B.getD i 0 = y at *
   clear hk
   go_wp2
   go_roundw
   case rel => exact ⟨i + 1, by simp, by omega, by rw [FS.out, ← zce]; exact HS2.out _, FR.out.setCell _ (.inr rfl) _⟩
   case measure => show 64 - (i + 1) < 64 - i; omega
  ·have i1 : ¬ (i : Int) < 64 := by omega
   obtain rfl : i = 64 := by omega
   have hs1 := FR.out.obj B1.out (by omega)
   have hs3 := FR.out.obj B3.out (by omega)
   have sc : ∀ k, k < 8 → wr.cell? ⟨w.heap.size, k, none⟩ = some (.int .u32 (S.getD k 0)) := fun k hk => Jt hs1 (by rw [HS.out]; exact hk)
   generalize hS0 : S.getD 0 0 = s0 at *
   generalize hS1 : S.getD 1 0 = s1 at *
   generalize hS2 : S.getD 2 0 = s2 at *
   generalize hS3 : S.getD 3 0 = s3 at *
   generalize hS4 : S.getD 4 0 = s4 at *
   generalize hS5 : S.getD 5 0 = s5 at *
   generalize hS6 : S.getD 6 0 = s6 at *
   generalize hS7 : S.getD 7 0 = s7 at *
   have CS := Hd (show ∀ W', Fr No wr W' → W'.cell? ⟨w.heap.size, 0, none⟩ = some (.int .u32 s0) ∧ W'.cell? ⟨w.heap.size, 1, none⟩ = some (.int .u32 s1) ∧ W'.cell? ⟨w.heap.size, 2, none⟩ = some (.int .u32 s2) ∧ W'.cell? ⟨w.heap.size, 3, none⟩ = some (.int .u32 s3) ∧ W'.cell? ⟨w.heap.size, 4, none⟩ = some (.int .u32 s4) ∧ W'.cell? ⟨w.heap.size, 5, none⟩ = some (.int .u32 s5) ∧ W'.cell? ⟨w.heap.size, 6, none⟩ = some (.int .u32 s6) ∧ W'.cell? ⟨w.heap.size, 7, none⟩ = some (.int .u32 s7) from fun W' f => by
    have hc := fun k hk => f.cell (sc k hk) id
    have c0 := hc 0 (by omega)
    have c1 := hc 1 (by omega)
    have c2 := hc 2 (by omega)
    have c3 := hc 3 (by omega)
    have c4 := hc 4 (by omega)
    have c5 := hc 5 (by omega)
    have c6 := hc 6 (by omega)
    have c7 := hc 7 (by omega)
    simp only [hS0, hS1, hS2, hS3, hS4, hS5, hS6, hS7] at *
    exact ⟨c0, c1, c2, c3, c4, c5, c6, c7⟩)
   have HB3 := Hd hs3
   have HW4 := Hd HB.out
   clear hs1 hs3 sc
   go_upto_region 7 with fail
   refine zv [false, false, false, false, false, false, false, false, false, false, false, false, false, false, false, false, false, false, false, false, false, false, false, false] (fun W => W.cell? ⟨w.heap.size, 0, none⟩ = some (.int .u32 s0) ∧ W.cell? ⟨w.heap.size, 1, none⟩ = some (.int .u32 s1) ∧ W.cell? ⟨w.heap.size, 2, none⟩ = some (.int .u32 s2) ∧ W.cell? ⟨w.heap.size, 3, none⟩ = some (.int .u32 s3) ∧ W.cell? ⟨w.heap.size, 4, none⟩ = some (.int .u32 s4) ∧ W.cell? ⟨w.heap.size, 5, none⟩ = some (.int .u32 s5) ∧ W.cell? ⟨w.heap.size, 6, none⟩ = some (.int .u32 s6) ∧ W.cell? ⟨w.heap.size, 7, none⟩ = some (.int .u32 s7)) (by kernel_rfl) (by kernel_rfl) ?_ (fun K hK => ?_)
   ·exact CS.out _ (Fr.refl No _).drew
   repeat (first | ((first | with_reducible refine zx ?_ | ((with_reducible refine zu ?_ ?_); (focus rfl))); apply Exists.intro; refine ⟨fun w' hS => ?_, ?_⟩; (focus (obtain ⟨c0, c1, c2, c3, c4, c5, c6, c7⟩ := hS; go_simp; (try with_reducible rfl); done)); try simp only [Act.put, pA, pB, pC]) | ((first | ((with_reducible refine zg (c := false) ?_ ?_ ?_); (focus rfl); (focus rfl)) | ((with_reducible refine zg (c := true) ?_ ?_ ?_); (focus rfl); (focus rfl)) | ((with_reducible refine zt ?_ ?_); (focus rfl))); try simp only [Act.put, pA, pB, pC]))
   refine zM (hK.out _ _ ?_)
   have FB := Hd (Fr.refl No wr).drew
   generalize wr.drew = wb at *
   have wfl := ZJ B 64
   generalize hWF : vy B 64 = WF at *
   have HWF := Hd hWF
   clear hWF
   obtain ⟨st, hst⟩ : ∃ st : zcV, st = ⟨s0, s1, s2, s3, s4, s5, s6, s7, WF⟩ := ⟨_, rfl⟩
   have ST := Hd hst
   have SL := Hd (show st.W.length = 16 by rw [hst]; exact wfl)
   clear hst wfl
   go_wp2
   go_loopw [8, 9, 10, 11, 12, 13, 14, 15, 52] (fun va vb vc vd ve vf vg vh iv wi => ∃ t : Nat, iv = .int .i64 t ∧ t ≤ 64 ∧ va = .int .u32 (xE st t).a ∧ vb = .int .u32 (xE st t).b ∧ vc = .int .u32 (xE st t).c ∧ vd = .int .u32 (xE st t).d ∧ ve = .int .u32 (xE st t).e ∧ vf = .int .u32 (xE st t).f ∧ vg = .int .u32 (xE st t).g ∧ vh = .int .u32 (xE st t).h ∧ wi.heap[w.heap.size + 1 + 1 + 1]? = some (.cells (jK (xE st t).W) 315 (0, 0)) ∧ Fr (fun j => j = w.heap.size + 1 + 1 + 1) wb wi) (fun _ _ _ _ _ _ _ _ iv _ => 64 - (intOf iv).toNat)
   case atStart => exact ⟨0, rfl, by omega, by rw [ST.out]; rfl, by rw [ST.out]; rfl, by rw [ST.out]; rfl, by rw [ST.out]; rfl, by rw [ST.out]; rfl, by rw [ST.out]; rfl, by rw [ST.out]; rfl, by rw [ST.out]; rfl, by rw [ST.out]; exact FB.out.obj HW4.out id, Fr.refl _ _⟩
   case round =>
    obtain ⟨t, rfl, ht, rfl, rfl, rfl, rfl, rfl, rfl, rfl, rfl, hb, fr⟩ := hrel
    have FI := Hd fr
    have HBt := Hd hb
    have WL := Hd (VY SL.out t)
    clear fr hb
    by_cases h : t < 64
    ·have i1 : (t : Int) < 64 := by omega
     have i0 : (0 : Int) ≤ (t : Int) := by omega
     have tn : (t : Int).toNat = t := by omega
     have SN := Hd (show xE st (t + 1) = QJ (xE st t) t from rfl)
     generalize xE st t = s at *
     obtain ⟨a, b, c, d, e, f, g, hh, W⟩ := s
     generalize hkt : zfm.getD t 0 = kt at *
     generalize hwt : (Zv W t).getD (t % 16) 0 = wt at *
     have hk := zik HG.out h
     rw [hkt] at hk
     have hw2 := HW.out
     have CK := Hd (show ∀ W', Fr (fun j => j = w.heap.size + 1 + 1 + 1) wb W' → W'.cell? ⟨3, t, none⟩ = some (.int .u32 kt) from fun W' f => by
      have c1 := F4.out.cell hk id
      have c2 := FR.out.cell c1 (show ¬ (3 : Nat) = _ by omega)
      exact f.cell (FB.out.cell c2 id) (show ¬ (3 : Nat) = _ by omega))
     clear hk hw2
     have M0 := tru
     have M1 := tru
     have M2 := tru
     have M3 := tru
     have M4 := tru
     have M5 := tru
     go_upto_region 12 with (first | (have mk := M0.out; go_at_call 201; refine (zjB _ _).mono ?_; rintro e w2 ⟨rfl, rfl⟩; clear mk M0) | (have mk := M1.out; go_at_call 201; refine (zhM _ _).mono ?_; rintro e w2 ⟨rfl, rfl⟩; clear mk M1) | (have mk := M2.out; go_at_call 201; refine (zir _ _).mono ?_; rintro e w2 ⟨rfl, rfl⟩; clear mk M2))
     have fd := (Fr.refl No wr).drew
     refine zv [false, false, false, false, false, false, false, false, false, false, false, false, false, true, false, false, false] (fun W' => W'.cell? ⟨3, t, none⟩ = some (.int .u32 kt)) (by kernel_rfl) (by kernel_rfl) ?_ (fun K hK => ?_)
     ·exact CK.out _ (FI.out.trans0 fd)
     repeat (first | ((first | with_reducible refine zx ?_ | ((with_reducible refine zu ?_ ?_); (focus rfl))); apply Exists.intro; refine ⟨fun w' hS => ?_, ?_⟩; (focus (obtain _ := hS; go_simp; (try with_reducible rfl); done)); try simp only [Act.put, pA, pB, pC]) | ((first | ((with_reducible refine zg (c := false) ?_ ?_ ?_); (focus rfl); (focus rfl)) | ((with_reducible refine zg (c := true) ?_ ?_ ?_); (focus rfl); (focus rfl)) | ((with_reducible refine zt ?_ ?_); (focus rfl))); try simp only [Act.put, pA, pB, pC]))
     (first | with_reducible refine zU (fun K' hK' => ?_) | ((with_reducible refine zK ?_ (fun K' hK' => ?_)); (focus rfl)))
     go_simp
     refine (zhk WL.out (fd.obj HBt.out id) h).mono ?_
     rintro e' w6 ⟨rfl, hb6, f6⟩
     rw [hwt]
     have F6 := Hd ((FI.out.trans0 fd).trans f6 (fun _ _ h => h))
     have HB6 := Hd hb6
     clear hb6 f6 fd
     refine hK'.out _ _ ?_ (fun hS => ?_)
     ·exact CK.out _ F6.out
     try simp only [Act.put, pA, pB, pC]
     repeat (first | ((first | with_reducible refine zx ?_ | ((with_reducible refine zu ?_ ?_); (focus rfl))); apply Exists.intro; refine ⟨fun w' hS => ?_, ?_⟩; (focus (obtain _ := hS; go_simp; (try with_reducible rfl); done)); try simp only [Act.put, pA, pB, pC]) | ((first | ((with_reducible refine zg (c := false) ?_ ?_ ?_); (focus rfl); (focus rfl)) | ((with_reducible refine zg (c := true) ?_ ?_ ?_); (focus rfl); (focus rfl)) | ((with_reducible refine zt ?_ ?_); (focus rfl))); try simp only [Act.put, pA, pB, pC]))
     refine zM (hK.out _ _ ?_)
     generalize hP : IntKind.u32.wrap ((hh + bits .xor .u32 (bits .xor .u32 (zjm e) (zfP e)) (zhr e)) % 4294967296 + IntKind.u32.wrap (IntKind.u32.wrap (bits .xor .u32 g (bits .and .u32 e (bits .xor .u32 f g)) + kt) + wt)) = P at *
     have SP := Hd (show ziA ⟨a, b, c, d, e, f, g, hh, W⟩ t = P by unfold ziA; simp only []; rw [hkt, hwt]; exact hP)
     clear hP hkt hwt
     go_wp2_with (first | (have mk := M3.out; go_at_call 201; refine (zjy _ _).mono ?_; rintro e w2 ⟨rfl, rfl⟩; clear mk M3) | (have mk := M4.out; go_at_call 201; refine (zhI _ _).mono ?_; rintro e w2 ⟨rfl, rfl⟩; clear mk M4) | (have mk := M5.out; go_at_call 201; refine (ziB _ _).mono ?_; rintro e w2 ⟨rfl, rfl⟩; clear mk M5))
     have SQ := Hd (show xE st (t + 1) = ⟨(P + zj9 ⟨a, b, c, d, e, f, g, hh, W⟩) % 4294967296, a, b, c, (d + P) % 4294967296, e, f, g, Zv W t⟩ by rw [SN.out]; unfold QJ; rw [SP.out])
     go_roundw
     case rel => exact ⟨t + 1, by simp, by omega, by rw [SQ.out]; rfl, by rw [SQ.out], by rw [SQ.out], by rw [SQ.out], by rw [SQ.out], by rw [SQ.out], by rw [SQ.out], by rw [SQ.out], by rw [SQ.out]; exact HB6.out, F6.out⟩
     case measure => show 64 - (t + 1) < 64 - t; omega
    ·have i1 : ¬ (t : Int) < 64 := by omega
     obtain rfl : t = 64 := by omega
     have SB := Hd (show qM S B = [(s0 + (xE st 64).a) % 4294967296, (s1 + (xE st 64).b) % 4294967296, (s2 + (xE st 64).c) % 4294967296, (s3 + (xE st 64).d) % 4294967296, (s4 + (xE st 64).e) % 4294967296, (s5 + (xE st 64).f) % 4294967296, (s6 + (xE st 64).g) % 4294967296, (s7 + (xE st 64).h) % 4294967296] by
      unfold qM
      simp only [hS0, hS1, hS2, hS3, hS4, hS5, hS6, hS7, HWF.out, ← ST.out])
     generalize xE st 64 = ra at *
     obtain ⟨k0, k1, k2, k3, k4, k5, k6, k7⟩ := CS.out _ FB.out
     have q0 := FI.out.cell k0 (show ¬ w.heap.size = _ by omega)
     have q1 := FI.out.cell k1 (show ¬ w.heap.size = _ by omega)
     have q2 := FI.out.cell k2 (show ¬ w.heap.size = _ by omega)
     have q3 := FI.out.cell k3 (show ¬ w.heap.size = _ by omega)
     have q4 := FI.out.cell k4 (show ¬ w.heap.size = _ by omega)
     have q5 := FI.out.cell k5 (show ¬ w.heap.size = _ by omega)
     have q6 := FI.out.cell k6 (show ¬ w.heap.size = _ by omega)
     have q7 := FI.out.cell k7 (show ¬ w.heap.size = _ by omega)
     have HR := Hd (FI.out.obj (FB.out.obj HB3.out id) (show ¬ w.heap.size + 1 + 1 = _ by omega))
     have FF := Hd (show Fr No w wr from (F4.out.trans (FR.out.trans (FB.out.of0 (W := fun j => j = w.heap.size + 1 + 1 + 1)) (fun _ _ h => h)) (fun i hi e => by omega)).trans FI.out (fun i hi e => by omega))
     have bl : ∀ (x0 x1 x2 x3 x4 x5 x6 x7 : Int) (w : World), (Instr.build 267 #[(0, .int .u32 x0), (1, .int .u32 x1), (2, .int .u32 x2), (3, .int .u32 x3), (4, .int .u32 x4), (5, .int .u32 x5), (6, .int .u32 x6), (7, .int .u32 x7)]).run Tryz.prog w = .ok (.agg [.int .u32 x0, .int .u32 x1, .int .u32 x2, .int .u32 x3, .int .u32 x4, .int .u32 x5, .int .u32 x6, .int .u32 x7].toArray) w := by
      intros
      kernel_rfl
     clear k0 hS0 k1 hS1 k2 hS2 k3 hS3 k4 hS4 k5 hS5 k6 hS6 k7 hS7
     go_wp2_with (first | ((with_reducible refine yk 144 ?_); refine zd rfl (yA (t := 267) rfl rfl (bl _ _ _ _ _ _ _ _ _)) ?_) | ((with_reducible refine zA ?_); refine zq rfl (z6 (ty := 267) (b := w.heap.size + 1 + 1) (off := 0) (cs := [(.int .u32 ((s0 + ra.a) % 4294967296) : Value), (.int .u32 ((s1 + ra.b) % 4294967296) : Value), (.int .u32 ((s2 + ra.c) % 4294967296) : Value), (.int .u32 ((s3 + ra.d) % 4294967296) : Value), (.int .u32 ((s4 + ra.e) % 4294967296) : Value), (.int .u32 ((s5 + ra.f) % 4294967296) : Value), (.int .u32 ((s6 + ra.g) % 4294967296) : Value), (.int .u32 ((s7 + ra.h) % 4294967296) : Value)]) rfl rfl rfl (yg HR.out (by simp [jK])) (by kernel_rfl) (by intro u hu; simp only [List.mem_cons, List.not_mem_nil, or_false] at hu; rcases hu with rfl | rfl | rfl | rfl | rfl | rfl | rfl | rfl <;> rfl)) ?_))
     have HE := Hd (show (wr.setCells (w.heap.size + 1 + 1) 0 [(.int .u32 ((s0 + ra.a) % 4294967296) : Value), (.int .u32 ((s1 + ra.b) % 4294967296) : Value), (.int .u32 ((s2 + ra.c) % 4294967296) : Value), (.int .u32 ((s3 + ra.d) % 4294967296) : Value), (.int .u32 ((s4 + ra.e) % 4294967296) : Value), (.int .u32 ((s5 + ra.f) % 4294967296) : Value), (.int .u32 ((s6 + ra.g) % 4294967296) : Value), (.int .u32 ((s7 + ra.h) % 4294967296) : Value)]).heap[w.heap.size + 1 + 1]? = some (.cells (jK (qM S B)) 267 (0, 0)) by
      have := y7 (w.heap.size + 1 + 1) 267 [(.int .u32 ((s0 + ra.a) % 4294967296) : Value), (.int .u32 ((s1 + ra.b) % 4294967296) : Value), (.int .u32 ((s2 + ra.c) % 4294967296) : Value), (.int .u32 ((s3 + ra.d) % 4294967296) : Value), (.int .u32 ((s4 + ra.e) % 4294967296) : Value), (.int .u32 ((s5 + ra.f) % 4294967296) : Value), (.int .u32 ((s6 + ra.g) % 4294967296) : Value), (.int .u32 ((s7 + ra.h) % 4294967296) : Value)] 0 wr _ HR.out
      rw [this, SB.out]
      simp [jK, qQ, Zg])
     exact bodyPost_ret (v := .agg (jK (qM S B))) (results_cell_row (P := Tryz.prog) (fn := Tryz.f183) rfl _ _ (w.heap.size + 1 + 1) 267 (jK (qM S B)) (0, 0) _ rfl HE.out Tryz.underlying267 rfl (by kernel_rfl)) rfl ⟨rfl, FF.out.trans (zJ _ _ _ _) (fun i hi e => by omega)⟩
end Go.Proofs.YtdkkjchclkjleaaGreatDoor

/- sha: bytes taken into a hasher. -/
namespace Go.Proofs.YtdkkjchclkjleaaGreatDoor
open Go Go.RowKit Go.Maps Go.MapKept
structure vE where
 st : List Int
 op : List Int
 n : Nat
def xF (h : vE) (x : Int) : vE := ⟨if (h.n + 1) % 64 = 0 then qM h.st (h.op.set (h.n % 64) x) else h.st, h.op.set (h.n % 64) x, h.n + 1⟩
def Zs (xs : List Int) : Nat → List Int → List Int
 | _, [] => xs
 | o, c :: cs => Zs (xs.set o c) (o + 1) cs
theorem Zc : ∀ (cs xs : List Int) (o : Nat), (Zs xs o cs).length = xs.length
 | [], _, _ => rfl
 | c :: cs, xs, o => by rw [Zs, Zc cs, List.length_set]
theorem zde : ∀ (cs xs : List Int) (o : Nat) (A C : List Value), o + cs.length ≤ xs.length → qQ (A ++ xs.map zP ++ C) (A.length + o) (cs.map zP) = A ++ (Zs xs o cs).map zP ++ C
 | [], _, _, _, _, _ => by simp [qQ, Zs]
 | c :: cs, xs, o, A, C, h => by
  simp only [List.length_cons] at h
  rw [List.map_cons, qQ, Zs]
  have := zde cs (xs.set o c) (o + 1) A C (by rw [List.length_set]; omega)
  rw [List.map_set] at this
  rw [← this]
  congr 1
  rw [List.append_assoc, List.set_append_right _ _ (by omega), List.append_assoc]
  congr 1
  rw [show A.length + o - A.length = o by omega, List.set_append_left _ _ (by rw [List.length_map]; omega)]
def zfu (h : vE) (c : List Int) : vE := ⟨if (h.n + c.length) % 64 = 0 then qM h.st (Zs h.op (h.n % 64) c) else h.st, Zs h.op (h.n % 64) c, h.n + c.length⟩
theorem VX : ∀ (c : List Int) (h : vE), c ≠ [] → h.n % 64 + c.length ≤ 64 → c.foldl xF h = zfu h c
 | [], _, hn, _ => absurd rfl hn
 | [x], h, _, _ => by simp [xF, zfu, Zs]
 | x :: y :: r, h, _, hl => by
  simp only [List.length_cons] at hl
  have h1 : (h.n + 1) % 64 = h.n % 64 + 1 := by omega
  rw [List.foldl_cons, VX (y :: r) (xF h x) (by simp) (by simp only [xF, List.length_cons]; omega)]
  have e1 : (xF h x).n = h.n + 1 := rfl
  have e2 : (xF h x).op = h.op.set (h.n % 64) x := rfl
  have e3 : (xF h x).st = h.st := by unfold xF; simp only []; rw [if_neg (by omega)]
  unfold zfu
  rw [e1, e2, e3, h1, show h.n + 1 + (y :: r).length = h.n + (x :: y :: r).length by simp only [List.length_cons]; omega]
  rfl
def yv (h : vE) : List Value := h.st.map Zg ++ h.op.map zP ++ [.int .u64 h.n]
structure qF (h : vE) : Prop where
 st : h.st.length = 8
 op : h.op.length = 64
theorem Xo (S B : List Int) : (qM S B).length = 8 := rfl
theorem qF.add {h : vE} (ok : qF h) (x : Int) : qF (xF h x) := ⟨by unfold xF; simp only []; split; exact Xo _ _; exact ok.st, by simp [xF, ok.op]⟩
theorem qF.adds : ∀ {l : List Int} {h : vE}, qF h → qF (l.foldl xF h)
 | [], _, ok => ok
 | x :: r, _, ok => qF.adds (l := r) (ok.add x)
theorem Yx : ∀ (l : List Int) (h : vE), (l.foldl xF h).n = h.n + l.length
 | [], _ => rfl
 | x :: r, h => by
  rw [List.foldl_cons, Yx r]
  simp only [xF, List.length_cons]
  omega
theorem zcd {h : vE} (ok : qF h) : (yv h).length = 73 := by simp [yv, ok.st, ok.op]
theorem qB {w : World} {p : Nat} {h : vE} {T : TypeId} (ok : qF h) (hb : w.heap[p]? = some (.cells (yv h).toArray T (0, 0))) :
  w.rangeAt p 0 (h.st.map Zg) ∧ w.rangeAt p 8 (h.op.map zP) ∧ w.cell? ⟨p, 72, none⟩ = some (.int .u64 h.n) := by
 have r := qn hb
 refine ⟨fun j v hj => r j v ?_, fun j v hj => ?_, ?_⟩
 ·have := (List.getElem?_eq_some_iff.1 hj).1
  rw [yv, List.append_assoc, List.getElem?_append_left this]; exact hj
 ·have hj1 := (List.getElem?_eq_some_iff.1 hj).1
  have := r (8 + j) v (by
   rw [yv, List.append_assoc, List.getElem?_append_right (by simp [ok.st]), List.getElem?_append_left (by simp [ok.st] at hj1 ⊢; omega)]
   simpa [ok.st] using hj)
  rwa [Nat.zero_add] at this
 ·have := r 72 (.int .u64 h.n) (by
   rw [yv, List.getElem?_append_right (by simp [ok.st, ok.op])]
   simp [ok.st, ok.op])
  simpa using this
end Go.Proofs.YtdkkjchclkjleaaGreatDoor
