/- sha: Hasher.Sum. -/
import Derived.Test.YtdkkjchclkjleaaGreatDoorSG7
set_option linter.unusedVariables false
set_option linter.unusedSimpArgs false
set_option linter.unnecessarySimpa false
set_option linter.all false
namespace Go.Proofs.YtdkkjchclkjleaaGreatDoor
open Go Go.RowKit Go.Maps Go.MapKept
theorem zas : (Tryz.prog.info? 270).map (·.size) = some 73 := by kernel_rfl
theorem zdQ : ∃ d, Tryz.prog.underlying 270 = some d ∧ d.isRow = true := jf (by kernel_rfl)
theorem zcB {h : vE} : ∀ u ∈ yv h, u.oneCell' = true := fun u hu => by
 simp only [yv, List.mem_append, List.mem_map, List.mem_singleton] at hu
 rcases hu with (⟨x, -, rfl⟩ | ⟨x, -, rfl⟩) | rfl <;> rfl
theorem Vm (w : World) {p : Nat} (x : Int) (hp : p ≠ w.heap.size) : vK (w.alloc (.cells #[.int .u8 x] 5)) p (.slice (some ⟨w.heap.size, 0, none⟩) 1 1) [x] :=
 .inr ⟨w.heap.size, 0, 1, rfl, fun e => hp e.symm, zC w [Value.int .u8 x] 5, Nat.le_refl _⟩
def xd : Array Value := ((List.replicate 32 (0 : Int)).map zP).toArray
def zgl : Array Value := (yv ⟨List.replicate 8 0, List.replicate 64 0, 0⟩).toArray
theorem zcx : zgl.size = 73 := by kernel_rfl
def zb8 : Array Value := ((List.replicate 8 (0 : Int)).map zP).toArray
def szL (n i : Nat) : List Int := (V4 n).take i ++ List.replicate (8 - i) 0
def zcZ (w : World) (p N : Nat) : Nat := match w.cell? ⟨p, 72, none⟩ with
 | some (.int _ n) => N - n.toNat
 | _ => 0
theorem xP : (Tryz.prog.info? 41).map (·.size) = some 32 := by kernel_rfl
theorem Vl : ∃ d, Tryz.prog.underlying 41 = some d ∧ d.isRow = true := jf (by kernel_rfl)
set_option maxRecDepth 20000 in
set_option maxHeartbeats 8000000 in
theorem zf2 {w : World} (hg : j7 w) (hw2 : 3 < w.heap.size) {p : Nat} {h : vE} (ok : qF h) (hb : w.heap[p]? = some (.cells (yv h).toArray 270 (0, 0))) (hp : p ≠ 0 ∧ p ≠ 3) (hn : h.n ≤ 1000000000000) :
  Calls Tryz.prog 124 #[.pointer (some ⟨p, 0, none⟩)] w fun e w' => e = .returned (.tuple #[.agg ((zbX h).map zP).toArray, .int .i64 0]) ∧ Fr No w w' := by
 have HG := Hd hg
 have HW := Hd hw2
 have HP := Hd hp
 have OK := Hd ok
 have HB := Hd hb
 obtain ⟨dH, yH, rH⟩ := zdQ
 have zH : ∀ w, (zeroValue 270).run Tryz.prog w = .ok (.agg zgl) w := fun w => by kernel_rfl
 have z32 : ∀ w, (zeroValue 41).run Tryz.prog w = .ok (.agg xd) w := fun w => by kernel_rfl
 have RH := Hd (show ∀ W, Fr No w W → W.rangeAt p 0 (yv h) from fun W f => qn (f.obj hb id))
 have HL := Hd (zcd ok)
 clear hg hw2 hp ok hb
 go_enter Tryz.func124, Tryz.ntmps124
 have F1 := Hd (show Fr No w (w.alloc (.cells xd 41)) from (Fr.refl No w).alloc _)
 have B1 := Hd (yn w (.cells xd 41))
 have Q1 := Hd (show w.heap.size < (w.alloc (.cells xd 41)).heap.size by simp)
 go_wp2_with (first | ((with_reducible refine yk 16 ?_); refine zd rfl (zf (ty := 270) rfl rfl (RH.out _ F1.out) yH rH (by rw [HL.out]; exact zas)) ?_; generalize w.alloc (.cells xd 41) = w1 at *; generalize hq2 : w.heap.size = q2 at *) | ((with_reducible refine zA ?_); refine zq rfl (zm (w := w1) (ty := 270) (cs := yv h) rfl rfl rfl (by rw [HL.out]; exact zcx) (by rw [HL.out]; exact zas) zcB) ?_; have B2 := Hd (yn w1 (.cells (yv h).toArray 270)); have F2 := Hd (show Fr No w1 (w1.alloc (.cells (yv h).toArray 270)) from (Fr.refl No w1).alloc _); have Q2 := Hd (show w1.heap.size < (w1.alloc (.cells (yv h).toArray 270)).heap.size by simp); generalize w1.alloc (.cells (yv h).toArray 270) = w2 at *; generalize hpe : w1.heap.size = pe at *) | (go_at_call 156; refine (QY (p := pe) (((HG.out.keep F1.out id id).keep F2.out id id).keep ((Fr.refl No w2).alloc (.cells #[.int .u8 128] 5)) id id) (by have := Q1.out; have := Q2.out; have := HW.out; simp; omega) OK.out (((Fr.refl No w2).alloc (.cells #[.int .u8 128] 5)).obj B2.out id) ⟨by have := Q1.out; have := HW.out; omega, by have := Q1.out; have := HW.out; omega⟩ (Vm w2 128 (by have := Q2.out; omega)) (by simp; omega)).mono ?_; rintro e w3 ⟨rfl, hb3, f3⟩; have B3 := Hd hb3; have F3 := Hd (show Fr (fun j => j = pe) w2 w3 from (((Fr.refl No w2).alloc (.cells #[.int .u8 128] 5)).of0 (W := fun j => j = pe)).trans f3 (fun _ _ h => h)); clear hb3 f3))
 have HG3 := Hd (show j7 w3 from ((HG.out.keep F1.out id id).keep F2.out id id).keep F3.out (by have := Q1.out; have := HW.out; omega) (by have := Q1.out; have := HW.out; omega))
 have P3 := Hd (show pe ≠ 0 ∧ pe ≠ 3 ∧ 3 < w3.heap.size ∧ pe < w3.heap.size from ⟨by have := Q1.out; have := HW.out; omega, by have := Q1.out; have := HW.out; omega, by have := Q1.out; have := HW.out; have := Q2.out; have := F3.out.size; omega, by have := Q2.out; have := F3.out.size; omega⟩)
 have OK1 := Hd (OK.out.adds (l := [128]))
 have N1 := Hd (show (([128] : List Int).foldl xF h).n = h.n + 1 from rfl)
 have H1 := Hd (show ([128] : List Int).foldl xF h = xF h 128 from rfl)
 generalize ([128] : List Int).foldl xF h = h1 at *
 have pl : Xi h1.n < 64 := by unfold Xi; omega
 have n1 : h1.n ≤ 1000000000001 := by rw [N1.out]; omega
 go_loopw [19] (fun _ wr => ∃ z : Nat, z ≤ Xi h1.n ∧ wr.heap[pe]? = some (.cells (yv ((List.replicate z 0).foldl xF h1)).toArray 270 (0, 0)) ∧ Fr (fun j => j = pe) w3 wr) (fun _ wr => zcZ wr pe (h1.n + Xi h1.n))
 case atStart => exact ⟨0, Nat.zero_le _, B3.out, Fr.refl _ _⟩
 case round =>
  obtain ⟨z, hz, hbz, fz⟩ := hrel
  have FZ := Hd fz
  have BZ := Hd hbz
  have OKz := Hd (OK1.out.adds (l := List.replicate z 0))
  have NZ := Hd (show ((List.replicate z 0).foldl xF h1).n = h1.n + z by rw [Yx, List.length_replicate])
  have SZ := Hd (show (List.replicate (z + 1) 0).foldl xF h1 = ([0] : List Int).foldl xF ((List.replicate z 0).foldl xF h1) by rw [List.replicate_succ', List.foldl_append])
  have HX := Hd (show (List.replicate z 0).foldl xF h1 = (List.replicate z 0).foldl xF h1 from rfl)
  generalize hgh : (List.replicate z 0).foldl xF h1 = hh at *
  clear HX
  have HX := Hd hgh
  clear hgh
  obtain ⟨-, -, c72⟩ := qB OKz.out hbz
  have LM := Hd (show zcZ wr pe (h1.n + Xi h1.n) = h1.n + Xi h1.n - (h1.n + z) by unfold zcZ; rw [c72, NZ.out]; simp only []; omega)
  clear fz hbz
  obtain ⟨m, hm⟩ : ∃ m, m = hh.n % 64 := ⟨_, rfl⟩
  have e1 : bits .and .u64 (hh.n : Int) 63 = (m : Int) := by have := NZ.out; rw [XN (by omega) (by omega), hm]; omega
  by_cases hzp : z = Xi h1.n
  ·have m56 : m = 56 := by rw [hm, NZ.out, hzp]; exact zgg _
   subst m56
   have j1 : (((56 : Nat) : Int) == 56) = true := rfl
   have z8 : ∀ w, (zeroValue 272).run Tryz.prog w = .ok (.agg zb8) w := fun w => by kernel_rfl
   have F4 := Hd (show Fr No wr (wr.alloc (.cells zb8 272)) from (Fr.refl No wr).alloc _)
   have B4 := Hd (yn wr (.cells zb8 272))
   have Q4 := Hd (show pe < wr.heap.size by have := P3.out.2.2.2; have := FZ.out.size; omega)
   have PP := Hd (show p < w.heap.size ∧ p ≠ pe from ⟨xf HB.out, by have := xf HB.out; have := Q1.out; omega⟩)
   have C72 := Hd (show (wr.alloc (.cells zb8 272)).cell? ⟨p, 72, none⟩ = some (.int .u64 h.n) from F4.out.cell (FZ.out.cell (F3.out.cell (F2.out.cell (F1.out.cell (qB OK.out HB.out).2.2 id) id) PP.out.2) PP.out.2) id)
   clear hm
   go_wp2
   generalize wr.alloc (.cells zb8 272) = w4 at *
   generalize hq4 : wr.heap.size = q4 at *
   go_loopw [25] (fun iv wi => ∃ i : Nat, iv = .int .i64 i ∧ i ≤ 8 ∧ wi.heap[q4]? = some (.cells ((szL h.n i).map zP).toArray 272 (0, 0)) ∧ Fr (fun j => j = q4) w4 wi) (fun iv _ => 8 - (intOf iv).toNat)
   case atStart => exact ⟨0, rfl, by omega, B4.out, Fr.refl _ _⟩
   case round =>
    obtain ⟨i, rfl, hi, hbi, fi⟩ := hrel
    have FI := Hd fi
    have BI := Hd hbi
    have PQ := Hd (show p ≠ q4 by have := PP.out.1; have := Q1.out; have := Q4.out; have := Q2.out; omega)
    have c7 := fi.cell C72.out PQ.out
    have fzi := fun i => yI (i := i) hbi
    have cI := qn hbi
    clear fi hbi
    by_cases h8 : i < 8
    ·rcases (show i = 0 ∨ i = 1 ∨ i = 2 ∨ i = 3 ∨ i = 4 ∨ i = 5 ∨ i = 6 ∨ i = 7 by omega) with rfl | rfl | rfl | rfl | rfl | rfl | rfl | rfl
     ·have ck := cI 0 (.int .u8 0) rfl
      simp only [Nat.zero_add] at ck
      clear cI
      have SE := Hd (show ∀ v : Int, v = ((h.n : Int) * 8 % 18446744073709551616) / 72057594037927936 % 256 → some (Obj.cells (((szL h.n 0).map zP).toArray.setIfInBounds 0 (.int .u8 v)) 272 (0, 0)) = some (Obj.cells ((szL h.n 1).map zP).toArray 272 (0, 0)) from fun v e => by subst e; rfl)
      go_wp2
      go_roundw
      case rel => exact ⟨1, rfl, by omega, (heap_setCell_same wr q4 0 _ _ _ BI.out).trans (SE.out _ (by omega)), FI.out.setCell _ (.inr rfl) _⟩
      case measure => simp [intOf]
     ·have ck := cI 1 (.int .u8 0) rfl
      simp only [Nat.zero_add] at ck
      clear cI
      have SE := Hd (show ∀ v : Int, v = ((h.n : Int) * 8 % 18446744073709551616) / 281474976710656 % 256 → some (Obj.cells (((szL h.n 1).map zP).toArray.setIfInBounds 1 (.int .u8 v)) 272 (0, 0)) = some (Obj.cells ((szL h.n 2).map zP).toArray 272 (0, 0)) from fun v e => by subst e; rfl)
      go_wp2
      go_roundw
      case rel => exact ⟨2, rfl, by omega, (heap_setCell_same wr q4 1 _ _ _ BI.out).trans (SE.out _ (by omega)), FI.out.setCell _ (.inr rfl) _⟩
      case measure => simp [intOf]
     ·have ck := cI 2 (.int .u8 0) rfl
      simp only [Nat.zero_add] at ck
      clear cI
      have SE := Hd (show ∀ v : Int, v = ((h.n : Int) * 8 % 18446744073709551616) / 1099511627776 % 256 → some (Obj.cells (((szL h.n 2).map zP).toArray.setIfInBounds 2 (.int .u8 v)) 272 (0, 0)) = some (Obj.cells ((szL h.n 3).map zP).toArray 272 (0, 0)) from fun v e => by subst e; rfl)
      go_wp2
      go_roundw
      case rel => exact ⟨3, rfl, by omega, (heap_setCell_same wr q4 2 _ _ _ BI.out).trans (SE.out _ (by omega)), FI.out.setCell _ (.inr rfl) _⟩
      case measure => simp [intOf]
     ·have ck := cI 3 (.int .u8 0) rfl
      simp only [Nat.zero_add] at ck
      clear cI
      have SE := Hd (show ∀ v : Int, v = ((h.n : Int) * 8 % 18446744073709551616) / 4294967296 % 256 → some (Obj.cells (((szL h.n 3).map zP).toArray.setIfInBounds 3 (.int .u8 v)) 272 (0, 0)) = some (Obj.cells ((szL h.n 4).map zP).toArray 272 (0, 0)) from fun v e => by subst e; rfl)
      go_wp2
      go_roundw
      case rel => exact ⟨4, rfl, by omega, (heap_setCell_same wr q4 3 _ _ _ BI.out).trans (SE.out _ (by omega)), FI.out.setCell _ (.inr rfl) _⟩
      case measure => simp [intOf]
     ·have ck := cI 4 (.int .u8 0) rfl
      simp only [Nat.zero_add] at ck
      clear cI
      have SE := Hd (show ∀ v : Int, v = ((h.n : Int) * 8 % 18446744073709551616) / 16777216 % 256 → some (Obj.cells (((szL h.n 4).map zP).toArray.setIfInBounds 4 (.int .u8 v)) 272 (0, 0)) = some (Obj.cells ((szL h.n 5).map zP).toArray 272 (0, 0)) from fun v e => by subst e; rfl)
      go_wp2
      go_roundw
      case rel => exact ⟨5, rfl, by omega, (heap_setCell_same wr q4 4 _ _ _ BI.out).trans (SE.out _ (by omega)), FI.out.setCell _ (.inr rfl) _⟩
      case measure => simp [intOf]
     ·have ck := cI 5 (.int .u8 0) rfl
      simp only [Nat.zero_add] at ck
      clear cI
      have SE := Hd (show ∀ v : Int, v = ((h.n : Int) * 8 % 18446744073709551616) / 65536 % 256 → some (Obj.cells (((szL h.n 5).map zP).toArray.setIfInBounds 5 (.int .u8 v)) 272 (0, 0)) = some (Obj.cells ((szL h.n 6).map zP).toArray 272 (0, 0)) from fun v e => by subst e; rfl)
      go_wp2
      go_roundw
      case rel => exact ⟨6, rfl, by omega, (heap_setCell_same wr q4 5 _ _ _ BI.out).trans (SE.out _ (by omega)), FI.out.setCell _ (.inr rfl) _⟩
      case measure => simp [intOf]
     ·have ck := cI 6 (.int .u8 0) rfl
      simp only [Nat.zero_add] at ck
      clear cI
      have SE := Hd (show ∀ v : Int, v = ((h.n : Int) * 8 % 18446744073709551616) / 256 % 256 → some (Obj.cells (((szL h.n 6).map zP).toArray.setIfInBounds 6 (.int .u8 v)) 272 (0, 0)) = some (Obj.cells ((szL h.n 7).map zP).toArray 272 (0, 0)) from fun v e => by subst e; rfl)
      go_wp2
      go_roundw
      case rel => exact ⟨7, rfl, by omega, (heap_setCell_same wr q4 6 _ _ _ BI.out).trans (SE.out _ (by omega)), FI.out.setCell _ (.inr rfl) _⟩
      case measure => simp [intOf]
     ·have ck := cI 7 (.int .u8 0) rfl
      simp only [Nat.zero_add] at ck
      clear cI
      have SE := Hd (show ∀ v : Int, v = (h.n : Int) * 8 % 18446744073709551616 % 256 → some (Obj.cells (((szL h.n 7).map zP).toArray.setIfInBounds 7 (.int .u8 v)) 272 (0, 0)) = some (Obj.cells ((szL h.n 8).map zP).toArray 272 (0, 0)) from fun v e => by subst e; rfl)
      go_wp2
      go_roundw
      case rel => exact ⟨8, rfl, by omega, (heap_setCell_same wr q4 7 _ _ _ BI.out).trans (SE.out _ (by omega)), FI.out.setCell _ (.inr rfl) _⟩
      case measure => simp [intOf]
    ·obtain rfl : i = 8 := by omega
     have i1 : ¬ ((8 : Nat) : Int) < 8 := by omega
     have sl : ∀ w, (Instr.sliceAt 272 (.pointer (some ⟨q4, 0, none⟩)) none none none).run Tryz.prog w = .ok (.slice (some ⟨q4, 0, none⟩) 8 8) w := fun w => by kernel_rfl
     have BY := Hd (show vK wr pe (.slice (some ⟨q4, 0, none⟩) 8 8) (V4 h.n) from .inr ⟨q4, 0, 8, rfl, by have := Q4.out; omega, cI, Nat.le_refl _⟩)
     have PDe := Hd (show (V4 h.n).foldl xF hh = JS h by rw [← HX.out, hzp, N1.out, H1.out]; rfl)
     have OKp := Hd (OKz.out.adds (l := V4 h.n))
     have NP := Hd (show hh.n + (V4 h.n).length ≤ 4611686018427387904 by have := NZ.out; have : (V4 h.n).length = 8 := rfl; omega)
     have FA := Hd (show Fr (fun j => j = pe ∨ j = q4) w3 wr from ((FZ.out.mono (fun _ h => .inl h)).trans (F4.out.of0 (W := fun j => j = pe ∨ j = q4)) (fun _ _ h => h)).trans FI.out (fun _ _ h => .inr h))
     have HG4 := Hd (show j7 wr from HG3.out.keep FA.out (by have := Q1.out; have := HW.out; have := Q4.out; have := P3.out; omega) (by have := Q1.out; have := HW.out; have := Q4.out; have := P3.out; omega))
     have S4 := Hd (show 3 < wr.heap.size by have := P3.out.2.2.1; have := FA.out.size; omega)
     have BP := Hd (show wr.heap[pe]? = some (.cells (yv hh).toArray 270 (0, 0)) from FI.out.obj (F4.out.obj BZ.out id) (by have := Q4.out; omega))
     clear c7 fzi cI BI
     have OKP := Hd (show qF (JS h) by rw [← PDe.out]; exact OKp.out)
     have L8 := Hd (show ((JS h).st.map Zg).length = 8 by rw [List.length_map]; exact OKP.out.1)
     obtain ⟨d8, y8, r8⟩ := zfR
     go_wp2_with (first | ((with_reducible refine yk 45 ?_); refine zd rfl (zf (ty := 267) rfl rfl (qB OKP.out (F6.out.obj B5.out id)).1 y8 r8 (by rw [L8.out]; exact zf7)) ?_; generalize w5.alloc (.cells xd 41) = w6 at *; generalize hq6 : w5.heap.size = q6 at *) | (go_at_call 156; refine (QY (p := pe) HG4.out S4.out OKz.out BP.out ⟨P3.out.1, P3.out.2.1⟩ BY.out NP.out).mono ?_; rintro e w5 ⟨rfl, hb5, f5⟩; rw [PDe.out] at hb5; have B5 := Hd hb5; have F5 := Hd (show Fr (fun j => j = pe ∨ j = q4) w3 w5 from FA.out.trans (f5.mono (fun _ h => .inl h)) (fun _ _ h => h)); have F6 := Hd (show Fr No w5 (w5.alloc (.cells xd 41)) from (Fr.refl No w5).alloc _); have B6 := Hd (yn w5 (.cells xd 41)); have Q6 := Hd (show w5.heap.size < (w5.alloc (.cells xd 41)).heap.size by simp); clear hb5 f5))
     have ST8 := Hd OKP.out.1
     have BL := Hd (show ((JS h).st.flatMap YC).length = 32 by rw [zav, ST8.out])
     have FG := Hd (flat_get (JS h).st)
     have O6 := Hd (show w6.heap[q6]? = some (.cells ((J0 ((JS h).st.flatMap YC) (4 * 0)).map zP).toArray 41 (0, 0)) from B6.out)
     have SD := Hd (show zbX h = (JS h).st.flatMap YC from rfl)
     clear sl BY
     generalize hST : (JS h).st = S at *
     generalize hFB : S.flatMap YC = FB at *
     go_loopw [46] (fun iv wi => ∃ i : Nat, iv = .int .i64 i ∧ i ≤ 8 ∧ wi.heap[q6]? = some (.cells ((J0 FB (4 * i)).map zP).toArray 41 (0, 0)) ∧ Fr (fun j => j = q6) w6 wi) (fun iv _ => 8 - (intOf iv).toNat)
     case atStart => exact ⟨0, rfl, by omega, O6.out, Fr.refl _ _⟩
     case round =>
      obtain ⟨i, rfl, hi, hbo, fo⟩ := hrel
      have FO := Hd fo
      have BO := Hd hbo
      clear fo hbo
      by_cases h8 : i < 8
      ·have hx := ziy ST8.out h8
       have i1 : ((i : Nat) : Int) < 8 := by omega
       have WG := Hd (fun k hk => FG.out i k hk (by rw [ST8.out]; exact h8))
       generalize S.getD i 0 = x at *
       go_wp2
       go_loopw [50] (fun iv wk => ∃ k : Nat, iv = .int .i64 k ∧ k ≤ 4 ∧ wk.heap[q6]? = some (.cells ((J0 FB (4 * i + k)).map zP).toArray 41 (0, 0)) ∧ Fr (fun j => j = q6) w6 wk) (fun iv _ => 4 - (intOf iv).toNat)
       case atStart => exact ⟨0, rfl, by omega, BO.out, FO.out⟩
       case round =>
        obtain ⟨k, rfl, hk, hbk, fk⟩ := hrel
        have FK := Hd fk
        have BK := Hd hbk
        clear fk hbk
        by_cases k4 : k < 4
        ·rcases (show k = 0 ∨ k = 1 ∨ k = 2 ∨ k = 3 by omega) with rfl | rfl | rfl | rfl
         ·obtain ⟨j, hj⟩ : ∃ j, j = 4 * i + 0 := ⟨_, rfl⟩
          have j32 : ((j : Nat) : Int) < 32 := by omega
          have j0 : (0 : Int) ≤ (j : Int) := by omega
          have jn : (j : Int).toNat = j := by omega
          have je : 4 * (i : Int) + 0 = (j : Int) := by omega
          obtain ⟨y, hy⟩ := Q0 BL.out (m := 4 * i + 0) (by omega)
          have ck := qn BK.out _ _ hy
          simp only [Nat.zero_add, ← hj] at ck
          clear hy
          have fz := yI (i := j) BK.out
          have SE := Hd (show ∀ v : Int, v = x / 16777216 % 256 → some (Obj.cells (((J0 FB (4 * i + 0)).map zP).toArray.setIfInBounds j (.int .u8 v)) 41 (0, 0)) = some (Obj.cells ((J0 FB (4 * i + 1)).map zP).toArray 41 (0, 0)) from fun v e => by
           rw [hj, List.setIfInBounds_toArray, ← show zP v = .int .u8 v from rfl, ← List.map_set, show v = FB.getD (4 * i + 0) 0 from (e.trans (WG.out 0 (by omega)).symm), Xu BL.out (by omega)])
          have HS2 := Hd (fun v => heap_setCell_same wr q6 j _ _ (.int .u8 v) BK.out)
          clear hj
          go_wp2
          go_roundw
          case rel => exact ⟨1, rfl, by omega, (HS2.out _).trans (SE.out _ (by omega)), FK.out.setCell _ (.inr rfl) _⟩
          case measure => simp [intOf]
         ·obtain ⟨j, hj⟩ : ∃ j, j = 4 * i + 1 := ⟨_, rfl⟩
          have j32 : ((j : Nat) : Int) < 32 := by omega
          have j0 : (0 : Int) ≤ (j : Int) := by omega
          have jn : (j : Int).toNat = j := by omega
          have je : 4 * (i : Int) + 1 = (j : Int) := by omega
          obtain ⟨y, hy⟩ := Q0 BL.out (m := 4 * i + 1) (by omega)
          have ck := qn BK.out _ _ hy
          simp only [Nat.zero_add, ← hj] at ck
          clear hy
          have fz := yI (i := j) BK.out
          have SE := Hd (show ∀ v : Int, v = x / 65536 % 256 → some (Obj.cells (((J0 FB (4 * i + 1)).map zP).toArray.setIfInBounds j (.int .u8 v)) 41 (0, 0)) = some (Obj.cells ((J0 FB (4 * i + 2)).map zP).toArray 41 (0, 0)) from fun v e => by
           rw [hj, List.setIfInBounds_toArray, ← show zP v = .int .u8 v from rfl, ← List.map_set, show v = FB.getD (4 * i + 1) 0 from (e.trans (WG.out 1 (by omega)).symm), Xu BL.out (by omega)])
          have HS2 := Hd (fun v => heap_setCell_same wr q6 j _ _ (.int .u8 v) BK.out)
          clear hj
          go_wp2
          go_roundw
          case rel => exact ⟨2, rfl, by omega, (HS2.out _).trans (SE.out _ (by omega)), FK.out.setCell _ (.inr rfl) _⟩
          case measure => simp [intOf]
         ·obtain ⟨j, hj⟩ : ∃ j, j = 4 * i + 2 := ⟨_, rfl⟩
          have j32 : ((j : Nat) : Int) < 32 := by omega
          have j0 : (0 : Int) ≤ (j : Int) := by omega
          have jn : (j : Int).toNat = j := by omega
          have je : 4 * (i : Int) + 2 = (j : Int) := by omega
          obtain ⟨y, hy⟩ := Q0 BL.out (m := 4 * i + 2) (by omega)
          have ck := qn BK.out _ _ hy
          simp only [Nat.zero_add, ← hj] at ck
          clear hy
          have fz := yI (i := j) BK.out
          have SE := Hd (show ∀ v : Int, v = x / 256 % 256 → some (Obj.cells (((J0 FB (4 * i + 2)).map zP).toArray.setIfInBounds j (.int .u8 v)) 41 (0, 0)) = some (Obj.cells ((J0 FB (4 * i + 3)).map zP).toArray 41 (0, 0)) from fun v e => by
           rw [hj, List.setIfInBounds_toArray, ← show zP v = .int .u8 v from rfl, ← List.map_set, show v = FB.getD (4 * i + 2) 0 from (e.trans (WG.out 2 (by omega)).symm), Xu BL.out (by omega)])
          have HS2 := Hd (fun v => heap_setCell_same wr q6 j _ _ (.int .u8 v) BK.out)
          clear hj
          go_wp2
          go_roundw
          case rel => exact ⟨3, rfl, by omega, (HS2.out _).trans (SE.out _ (by omega)), FK.out.setCell _ (.inr rfl) _⟩
          case measure => simp [intOf]
         ·obtain ⟨j, hj⟩ : ∃ j, j = 4 * i + 3 := ⟨_, rfl⟩
          have j32 : ((j : Nat) : Int) < 32 := by omega
          have j0 : (0 : Int) ≤ (j : Int) := by omega
          have jn : (j : Int).toNat = j := by omega
          have je : 4 * (i : Int) + 3 = (j : Int) := by omega
          obtain ⟨y, hy⟩ := Q0 BL.out (m := 4 * i + 3) (by omega)
          have ck := qn BK.out _ _ hy
          simp only [Nat.zero_add, ← hj] at ck
          clear hy
          have fz := yI (i := j) BK.out
          have SE := Hd (show ∀ v : Int, v = x % 256 → some (Obj.cells (((J0 FB (4 * i + 3)).map zP).toArray.setIfInBounds j (.int .u8 v)) 41 (0, 0)) = some (Obj.cells ((J0 FB (4 * i + 4)).map zP).toArray 41 (0, 0)) from fun v e => by
           rw [hj, List.setIfInBounds_toArray, ← show zP v = .int .u8 v from rfl, ← List.map_set, show v = FB.getD (4 * i + 3) 0 from (e.trans (WG.out 3 (by omega)).symm), Xu BL.out (by omega)])
          have HS2 := Hd (fun v => heap_setCell_same wr q6 j _ _ (.int .u8 v) BK.out)
          clear hj
          go_wp2
          go_roundw
          case rel => exact ⟨4, rfl, by omega, (HS2.out _).trans (SE.out _ (by omega)), FK.out.setCell _ (.inr rfl) _⟩
          case measure => simp [intOf]
        ·obtain rfl : k = 4 := by omega
         have k1 : ¬ ((4 : Nat) : Int) < 4 := by omega
         have ee : 4 * i + 4 = 4 * (i + 1) := by omega
         rw [ee] at BK
         go_wp2
         go_roundw
         case rel => exact ⟨i + 1, by simp, by omega, BK.out, FK.out⟩
         case measure => show 8 - (i + 1) < 8 - i; omega
      ·obtain rfl : i = 8 := by omega
       have i1 : ¬ ((8 : Nat) : Int) < 8 := by omega
       have HQ2 := Hd (show w5.heap[q2]? = some (.cells xd 41 (0, 0)) from F5.out.obj (F3.out.obj (F2.out.obj B1.out id) (by have := Q1.out; omega)) (by have := Q1.out; have := Q4.out; omega))
       have HQ3 := Hd (show wr.heap[q2]? = some (.cells xd 41 (0, 0)) from FO.out.obj (F6.out.obj HQ2.out id) (by have := Q1.out; have := Q4.out; have := F5.out.size; have := P3.out.2.2.2; omega))
       rw [show 4 * 8 = 32 from rfl, zfT BL.out] at BO
       have FL := Hd (show (FB.map zP).length = 32 by rw [List.length_map]; exact BL.out)
       obtain ⟨dh, yh, rh⟩ := Vl
       go_wp2_with (first | ((with_reducible refine yk 67 ?_); refine zd rfl (zf (ty := 41) rfl rfl (qn BO.out) yh rh (by rw [FL.out]; exact xP)) ?_) | (refine zq rfl (z6 (ty := 41) (b := q2) (off := 0) (cs := FB.map zP) rfl rfl rfl (by rw [FL.out]; exact yg HQ3.out (Nat.le_refl 32)) (by rw [FL.out]; exact xP) (fun v hv => by obtain ⟨x, -, rfl⟩ := List.mem_map.1 hv; rfl)) ?_))
       have FN := Hd (show Fr No w wr from (((((F1.out.trans0 F2.out).trans F3.out (fun i h e => (show False by have := Q1.out; omega))).trans F5.out (fun i h e => (show False by have := Q1.out; have := Q4.out; omega))).trans0 F6.out).trans FO.out (fun i h e => (show False by have := Q1.out; have := Q4.out; have := F5.out.size; have := P3.out.2.2.2; omega))))
       refine bodyPost_ret (yO (P := Tryz.prog) (fn := Tryz.f124) rfl _ rfl (yY HQ3.out (by rw [FL.out]; rfl)) yh rh (by rw [FL.out]; exact xP) rfl) rfl ⟨by rw [SD.out]; rfl, FN.out.trans (zJ q2 _ 0 wr) (fun i h e => (show False by omega))⟩
  ·have j1 : ((m : Int) == 56) = false := by
    rw [beq_eq_false_iff_ne]
    have := zic (n := h1.n) (z := z) (by omega)
    rw [← NZ.out, ← hm] at this
    omega
   clear hm
   have G0 := Hd (HG3.out.keep FZ.out (fun e => P3.out.1 e.symm) (fun e => P3.out.2.1 e.symm))
   go_wp2_with (go_at_call 156; refine (QY (p := pe) (G0.out.keep ((Fr.refl No wr).alloc (.cells #[.int .u8 0] 5)) id id) (by have := P3.out.2.2.1; have := FZ.out.size; simp; omega) OKz.out (((Fr.refl No wr).alloc (.cells #[.int .u8 0] 5)).obj BZ.out id) ⟨P3.out.1, P3.out.2.1⟩ (Vm wr 0 (by have := P3.out.2.2.2; have := FZ.out.size; omega)) (by have := NZ.out; simp; omega)).mono ?_; rintro e w5 ⟨rfl, hb5, f5⟩; rw [← SZ.out] at hb5; have B5 := Hd hb5; have F5 := Hd (show Fr (fun j => j = pe) w3 w5 from FZ.out.trans ((((Fr.refl No wr).alloc (.cells #[.int .u8 0] 5)).of0 (W := fun j => j = pe)).trans f5 (fun _ _ h => h)) (fun _ _ h => h)); clear hb5 f5)
   go_roundw
   case rel => exact ⟨z + 1, by omega, B5.out, F5.out⟩
   case measure =>
    rw [LM.out]
    have c5 := (qB (OK1.out.adds (l := List.replicate (z + 1) 0)) B5.out).2.2
    have : zcZ w5 pe (h1.n + Xi h1.n) = h1.n + Xi h1.n - (h1.n + (z + 1)) := by
     unfold zcZ
     rw [c5, Yx, List.length_replicate]
     simp only []
     omega
    rw [this]
    omega
end Go.Proofs.YtdkkjchclkjleaaGreatDoor
