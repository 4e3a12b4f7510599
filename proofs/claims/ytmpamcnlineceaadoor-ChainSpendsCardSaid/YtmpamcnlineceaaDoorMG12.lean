/- sha: Hasher.Sum. -/
import Derived.Test.YtmpamcnlineceaaDoorMG11
set_option linter.unusedVariables false
set_option linter.unusedSimpArgs false
namespace Go.Proofs.YtmpamcnlineceaaDoor
open Go Go.RowKit Go.Maps Go.MapKept

theorem infoHasher : (Tryd.prog.info? 143).map (·.size) = some 73 := by kernel_rfl
theorem descHasher : ∃ d, Tryd.prog.underlying 143 = some d ∧ d.isRow = true := row_of (by kernel_rfl)
theorem hasherC_one {h : HashS} : ∀ u ∈ hasherC h, u.oneCell' = true := fun u hu => by
  simp only [hasherC, List.mem_append, List.mem_map, List.mem_singleton] at hu
  rcases hu with (⟨x, -, rfl⟩ | ⟨x, -, rfl⟩) | rfl <;> rfl
theorem bytes_new1 (w : World) {p : Nat} (x : Int) (hp : p ≠ w.heap.size) : BytesAt (w.alloc (.cells #[.int .u8 x] 5)) p (.slice (some ⟨w.heap.size, 0, none⟩) 1 1) [x] :=
  .inr ⟨w.heap.size, 0, 1, rfl, fun e => hp e.symm, range_new w [Value.int .u8 x] 5, Nat.le_refl _⟩
theorem und_bytes : Tryd.prog.underlying 48 = some (.slice 5) := Tryd.underlying48
def zero32 : Array Value := ((List.replicate 32 (0 : Int)).map byteV).toArray
def zero73 : Array Value := (hasherC ⟨List.replicate 8 0, List.replicate 64 0, 0⟩).toArray
theorem zero73_size : zero73.size = 73 := by kernel_rfl
def zero8 : Array Value := ((List.replicate 8 (0 : Int)).map byteV).toArray
def szL (n i : Nat) : List Int := (sizeB n).take i ++ List.replicate (8 - i) 0
def leftN (w : World) (p N : Nat) : Nat := match w.cell? ⟨p, 72, none⟩ with
  | some (.int _ n) => N - n.toNat
  | _ => 0
theorem infoHash32 : (Tryd.prog.info? 45).map (·.size) = some 32 := by kernel_rfl
theorem descHash32 : ∃ d, Tryd.prog.underlying 45 = some d ∧ d.isRow = true := row_of (by kernel_rfl)
set_option maxRecDepth 20000 in
set_option maxHeartbeats 8000000 in
theorem sumM_any {w : World} (hg : ShaAt w) (hw2 : 2 < w.heap.size) {p : Nat} {h : HashS} (ok : HashOk h) (hb : w.heap[p]? = some (.cells (hasherC h).toArray 143 (0, 0))) (hp : p ≠ 0 ∧ p ≠ 2) (hn : h.n ≤ 1000000000000) :
    Calls Tryd.prog 57 #[.pointer (some ⟨p, 0, none⟩)] w fun e w' => e = .returned (.tuple #[.agg ((sumS h).map byteV).toArray, .int .i64 0]) ∧ Fr No w w' := by
  have HG := Lib.hid hg
  have HW := Lib.hid hw2
  have HP := Lib.hid hp
  have OK := Lib.hid ok
  have HB := Lib.hid hb
  obtain ⟨dH, yH, rH⟩ := descHasher
  have zH : ∀ w, (zeroValue 143).run Tryd.prog w = .ok (.agg zero73) w := fun w => by kernel_rfl
  have z32 : ∀ w, (zeroValue 45).run Tryd.prog w = .ok (.agg zero32) w := fun w => by kernel_rfl
  have RH := Lib.hid (show ∀ W, Fr No w W → W.rangeAt p 0 (hasherC h) from fun W f => range_objS (f.obj hb id))
  have HL := Lib.hid (hasherC_len ok)
  clear hg hw2 hp ok hb
  go_enter Tryd.func57, Tryd.ntmps57
  have F1 := Lib.hid (show Fr No w (w.alloc (.cells zero32 45)) from (Fr.refl No w).alloc _)
  have B1 := Lib.hid (new_obj w (.cells zero32 45))
  have Q1 := Lib.hid (show w.heap.size < (w.alloc (.cells zero32 45)).heap.size by simp)
  go_wp2_with (first | ((with_reducible refine at_dst 16 ?_); refine wpList_value rfl (exec_load (ty := 143) rfl rfl (RH.out _ F1.out) yH rH (by rw [HL.out]; exact infoHasher)) ?_; generalize w.alloc (.cells zero32 45) = w1 at *; generalize hq2 : w.heap.size = q2 at *) | ((with_reducible refine at_store ?_); refine wpList_done rfl (exec_store_new (w := w1) (ty := 143) (cs := hasherC h) rfl rfl rfl (by rw [HL.out]; exact zero73_size) (by rw [HL.out]; exact infoHasher) hasherC_one) ?_; have B2 := Lib.hid (new_obj w1 (.cells (hasherC h).toArray 143)); have F2 := Lib.hid (show Fr No w1 (w1.alloc (.cells (hasherC h).toArray 143)) from (Fr.refl No w1).alloc _); have Q2 := Lib.hid (show w1.heap.size < (w1.alloc (.cells (hasherC h).toArray 143)).heap.size by simp); generalize w1.alloc (.cells (hasherC h).toArray 143) = w2 at *; generalize hpe : w1.heap.size = pe at *) | (go_at_call 64; refine (add_any (p := pe) (((HG.out.keep F1.out id id).keep F2.out id id).keep ((Fr.refl No w2).alloc (.cells #[.int .u8 128] 5)) id id) (by have := Q1.out; have := Q2.out; have := HW.out; simp; omega) OK.out (((Fr.refl No w2).alloc (.cells #[.int .u8 128] 5)).obj B2.out id) ⟨by have := Q1.out; have := HW.out; omega, by have := Q1.out; have := HW.out; omega⟩ (bytes_new1 w2 128 (by have := Q2.out; omega)) (by simp; omega)).mono ?_; rintro e w3 ⟨rfl, hb3, f3⟩; have B3 := Lib.hid hb3; have F3 := Lib.hid (show Fr (fun j => j = pe) w2 w3 from (((Fr.refl No w2).alloc (.cells #[.int .u8 128] 5)).of0 (W := fun j => j = pe)).trans f3 (fun _ _ h => h)); clear hb3 f3))
  have HG3 := Lib.hid (show ShaAt w3 from ((HG.out.keep F1.out id id).keep F2.out id id).keep F3.out (by have := Q1.out; have := HW.out; omega) (by have := Q1.out; have := HW.out; omega))
  have P3 := Lib.hid (show pe ≠ 0 ∧ pe ≠ 2 ∧ 2 < w3.heap.size ∧ pe < w3.heap.size from ⟨by have := Q1.out; have := HW.out; omega, by have := Q1.out; have := HW.out; omega, by have := Q1.out; have := HW.out; have := Q2.out; have := F3.out.size; omega, by have := Q2.out; have := F3.out.size; omega⟩)
  have OK1 := Lib.hid (OK.out.adds (l := [128]))
  have N1 := Lib.hid (show (([128] : List Int).foldl addB h).n = h.n + 1 from rfl)
  have H1 := Lib.hid (show ([128] : List Int).foldl addB h = addB h 128 from rfl)
  generalize ([128] : List Int).foldl addB h = h1 at *
  have pl : padN h1.n < 64 := by unfold padN; omega
  have n1 : h1.n ≤ 1000000000001 := by rw [N1.out]; omega
  go_loopw [19] (fun _ wr => ∃ z : Nat, z ≤ padN h1.n ∧ wr.heap[pe]? = some (.cells (hasherC ((List.replicate z 0).foldl addB h1)).toArray 143 (0, 0)) ∧ Fr (fun j => j = pe) w3 wr) (fun _ wr => leftN wr pe (h1.n + padN h1.n))
  case atStart => exact ⟨0, Nat.zero_le _, B3.out, Fr.refl _ _⟩
  case round =>
    obtain ⟨z, hz, hbz, fz⟩ := hrel
    have FZ := Lib.hid fz
    have BZ := Lib.hid hbz
    have OKz := Lib.hid (OK1.out.adds (l := List.replicate z 0))
    have NZ := Lib.hid (show ((List.replicate z 0).foldl addB h1).n = h1.n + z by rw [addsB_n, List.length_replicate])
    have SZ := Lib.hid (show (List.replicate (z + 1) 0).foldl addB h1 = ([0] : List Int).foldl addB ((List.replicate z 0).foldl addB h1) by rw [List.replicate_succ', List.foldl_append])
    have HX := Lib.hid (show (List.replicate z 0).foldl addB h1 = (List.replicate z 0).foldl addB h1 from rfl)
    generalize hgh : (List.replicate z 0).foldl addB h1 = hh at *
    clear HX
    have HX := Lib.hid hgh
    clear hgh
    obtain ⟨-, -, c72⟩ := hasher_at OKz.out hbz
    have LM := Lib.hid (show leftN wr pe (h1.n + padN h1.n) = h1.n + padN h1.n - (h1.n + z) by unfold leftN; rw [c72, NZ.out]; simp only []; omega)
    clear fz hbz
    obtain ⟨m, hm⟩ : ∃ m, m = hh.n % 64 := ⟨_, rfl⟩
    have e1 : bits .and .u64 (hh.n : Int) 63 = (m : Int) := by have := NZ.out; rw [u64_and63 (by omega) (by omega), hm]; omega
    by_cases hzp : z = padN h1.n
    · have m56 : m = 56 := by rw [hm, NZ.out, hzp]; exact padN_end _
      subst m56
      have j1 : (((56 : Nat) : Int) == 56) = true := rfl
      have z8 : ∀ w, (zeroValue 145).run Tryd.prog w = .ok (.agg zero8) w := fun w => by kernel_rfl
      have F4 := Lib.hid (show Fr No wr (wr.alloc (.cells zero8 145)) from (Fr.refl No wr).alloc _)
      have B4 := Lib.hid (new_obj wr (.cells zero8 145))
      have Q4 := Lib.hid (show pe < wr.heap.size by have := P3.out.2.2.2; have := FZ.out.size; omega)
      have PP := Lib.hid (show p < w.heap.size ∧ p ≠ pe from ⟨obj_lt HB.out, by have := obj_lt HB.out; have := Q1.out; omega⟩)
      have C72 := Lib.hid (show (wr.alloc (.cells zero8 145)).cell? ⟨p, 72, none⟩ = some (.int .u64 h.n) from F4.out.cell (FZ.out.cell (F3.out.cell (F2.out.cell (F1.out.cell (hasher_at OK.out HB.out).2.2 id) id) PP.out.2) PP.out.2) id)
      clear hm
      go_wp2
      generalize wr.alloc (.cells zero8 145) = w4 at *
      generalize hq4 : wr.heap.size = q4 at *
      go_loopw [25] (fun iv wi => ∃ i : Nat, iv = .int .i64 i ∧ i ≤ 8 ∧ wi.heap[q4]? = some (.cells ((szL h.n i).map byteV).toArray 145 (0, 0)) ∧ Fr (fun j => j = q4) w4 wi) (fun iv _ => 8 - (intOf iv).toNat)
      case atStart => exact ⟨0, rfl, by omega, B4.out, Fr.refl _ _⟩
      case round =>
        obtain ⟨i, rfl, hi, hbi, fi⟩ := hrel
        have FI := Lib.hid fi
        have BI := Lib.hid hbi
        have PQ := Lib.hid (show p ≠ q4 by have := PP.out.1; have := Q1.out; have := Q4.out; have := Q2.out; omega)
        have c7 := fi.cell C72.out PQ.out
        have fzi := fun i => u32_unfrozen (i := i) hbi
        have cI := range_objS hbi
        clear fi hbi
        by_cases h8 : i < 8
        · rcases (show i = 0 ∨ i = 1 ∨ i = 2 ∨ i = 3 ∨ i = 4 ∨ i = 5 ∨ i = 6 ∨ i = 7 by omega) with rfl | rfl | rfl | rfl | rfl | rfl | rfl | rfl
          · have ck := cI 0 (.int .u8 0) rfl
            simp only [Nat.zero_add] at ck
            clear cI
            have SE := Lib.hid (show ∀ v : Int, v = ((h.n : Int) * 8 % 18446744073709551616) / 72057594037927936 % 256 → some (Obj.cells (((szL h.n 0).map byteV).toArray.setIfInBounds 0 (.int .u8 v)) 145 (0, 0)) = some (Obj.cells ((szL h.n 1).map byteV).toArray 145 (0, 0)) from fun v e => by subst e; rfl)
            go_wp2
            go_roundw
            case rel => exact ⟨1, rfl, by omega, (heap_setCell_same wr q4 0 _ _ _ BI.out).trans (SE.out _ (by omega)), FI.out.setCell _ (.inr rfl) _⟩
            case measure => simp [intOf]
          · have ck := cI 1 (.int .u8 0) rfl
            simp only [Nat.zero_add] at ck
            clear cI
            have SE := Lib.hid (show ∀ v : Int, v = ((h.n : Int) * 8 % 18446744073709551616) / 281474976710656 % 256 → some (Obj.cells (((szL h.n 1).map byteV).toArray.setIfInBounds 1 (.int .u8 v)) 145 (0, 0)) = some (Obj.cells ((szL h.n 2).map byteV).toArray 145 (0, 0)) from fun v e => by subst e; rfl)
            go_wp2
            go_roundw
            case rel => exact ⟨2, rfl, by omega, (heap_setCell_same wr q4 1 _ _ _ BI.out).trans (SE.out _ (by omega)), FI.out.setCell _ (.inr rfl) _⟩
            case measure => simp [intOf]
          · have ck := cI 2 (.int .u8 0) rfl
            simp only [Nat.zero_add] at ck
            clear cI
            have SE := Lib.hid (show ∀ v : Int, v = ((h.n : Int) * 8 % 18446744073709551616) / 1099511627776 % 256 → some (Obj.cells (((szL h.n 2).map byteV).toArray.setIfInBounds 2 (.int .u8 v)) 145 (0, 0)) = some (Obj.cells ((szL h.n 3).map byteV).toArray 145 (0, 0)) from fun v e => by subst e; rfl)
            go_wp2
            go_roundw
            case rel => exact ⟨3, rfl, by omega, (heap_setCell_same wr q4 2 _ _ _ BI.out).trans (SE.out _ (by omega)), FI.out.setCell _ (.inr rfl) _⟩
            case measure => simp [intOf]
          · have ck := cI 3 (.int .u8 0) rfl
            simp only [Nat.zero_add] at ck
            clear cI
            have SE := Lib.hid (show ∀ v : Int, v = ((h.n : Int) * 8 % 18446744073709551616) / 4294967296 % 256 → some (Obj.cells (((szL h.n 3).map byteV).toArray.setIfInBounds 3 (.int .u8 v)) 145 (0, 0)) = some (Obj.cells ((szL h.n 4).map byteV).toArray 145 (0, 0)) from fun v e => by subst e; rfl)
            go_wp2
            go_roundw
            case rel => exact ⟨4, rfl, by omega, (heap_setCell_same wr q4 3 _ _ _ BI.out).trans (SE.out _ (by omega)), FI.out.setCell _ (.inr rfl) _⟩
            case measure => simp [intOf]
          · have ck := cI 4 (.int .u8 0) rfl
            simp only [Nat.zero_add] at ck
            clear cI
            have SE := Lib.hid (show ∀ v : Int, v = ((h.n : Int) * 8 % 18446744073709551616) / 16777216 % 256 → some (Obj.cells (((szL h.n 4).map byteV).toArray.setIfInBounds 4 (.int .u8 v)) 145 (0, 0)) = some (Obj.cells ((szL h.n 5).map byteV).toArray 145 (0, 0)) from fun v e => by subst e; rfl)
            go_wp2
            go_roundw
            case rel => exact ⟨5, rfl, by omega, (heap_setCell_same wr q4 4 _ _ _ BI.out).trans (SE.out _ (by omega)), FI.out.setCell _ (.inr rfl) _⟩
            case measure => simp [intOf]
          · have ck := cI 5 (.int .u8 0) rfl
            simp only [Nat.zero_add] at ck
            clear cI
            have SE := Lib.hid (show ∀ v : Int, v = ((h.n : Int) * 8 % 18446744073709551616) / 65536 % 256 → some (Obj.cells (((szL h.n 5).map byteV).toArray.setIfInBounds 5 (.int .u8 v)) 145 (0, 0)) = some (Obj.cells ((szL h.n 6).map byteV).toArray 145 (0, 0)) from fun v e => by subst e; rfl)
            go_wp2
            go_roundw
            case rel => exact ⟨6, rfl, by omega, (heap_setCell_same wr q4 5 _ _ _ BI.out).trans (SE.out _ (by omega)), FI.out.setCell _ (.inr rfl) _⟩
            case measure => simp [intOf]
          · have ck := cI 6 (.int .u8 0) rfl
            simp only [Nat.zero_add] at ck
            clear cI
            have SE := Lib.hid (show ∀ v : Int, v = ((h.n : Int) * 8 % 18446744073709551616) / 256 % 256 → some (Obj.cells (((szL h.n 6).map byteV).toArray.setIfInBounds 6 (.int .u8 v)) 145 (0, 0)) = some (Obj.cells ((szL h.n 7).map byteV).toArray 145 (0, 0)) from fun v e => by subst e; rfl)
            go_wp2
            go_roundw
            case rel => exact ⟨7, rfl, by omega, (heap_setCell_same wr q4 6 _ _ _ BI.out).trans (SE.out _ (by omega)), FI.out.setCell _ (.inr rfl) _⟩
            case measure => simp [intOf]
          · have ck := cI 7 (.int .u8 0) rfl
            simp only [Nat.zero_add] at ck
            clear cI
            have SE := Lib.hid (show ∀ v : Int, v = (h.n : Int) * 8 % 18446744073709551616 % 256 → some (Obj.cells (((szL h.n 7).map byteV).toArray.setIfInBounds 7 (.int .u8 v)) 145 (0, 0)) = some (Obj.cells ((szL h.n 8).map byteV).toArray 145 (0, 0)) from fun v e => by subst e; rfl)
            go_wp2
            go_roundw
            case rel => exact ⟨8, rfl, by omega, (heap_setCell_same wr q4 7 _ _ _ BI.out).trans (SE.out _ (by omega)), FI.out.setCell _ (.inr rfl) _⟩
            case measure => simp [intOf]
        · obtain rfl : i = 8 := by omega
          have i1 : ¬ ((8 : Nat) : Int) < 8 := by omega
          have sl : ∀ w, (Instr.sliceAt 145 (.pointer (some ⟨q4, 0, none⟩)) none none none).run Tryd.prog w = .ok (.slice (some ⟨q4, 0, none⟩) 8 8) w := fun w => by kernel_rfl
          have BY := Lib.hid (show BytesAt wr pe (.slice (some ⟨q4, 0, none⟩) 8 8) (sizeB h.n) from .inr ⟨q4, 0, 8, rfl, by have := Q4.out; omega, cI, Nat.le_refl _⟩)
          have PDe := Lib.hid (show (sizeB h.n).foldl addB hh = padded h by rw [← HX.out, hzp, N1.out, H1.out]; rfl)
          have OKp := Lib.hid (OKz.out.adds (l := sizeB h.n))
          have NP := Lib.hid (show hh.n + (sizeB h.n).length ≤ 4611686018427387904 by have := NZ.out; have : (sizeB h.n).length = 8 := rfl; omega)
          have FA := Lib.hid (show Fr (fun j => j = pe ∨ j = q4) w3 wr from ((FZ.out.mono (fun _ h => .inl h)).trans (F4.out.of0 (W := fun j => j = pe ∨ j = q4)) (fun _ _ h => h)).trans FI.out (fun _ _ h => .inr h))
          have HG4 := Lib.hid (show ShaAt wr from HG3.out.keep FA.out (by have := Q1.out; have := HW.out; have := Q4.out; have := P3.out; omega) (by have := Q1.out; have := HW.out; have := Q4.out; have := P3.out; omega))
          have S4 := Lib.hid (show 2 < wr.heap.size by have := P3.out.2.2.1; have := FA.out.size; omega)
          have BP := Lib.hid (show wr.heap[pe]? = some (.cells (hasherC hh).toArray 143 (0, 0)) from FI.out.obj (F4.out.obj BZ.out id) (by have := Q4.out; omega))
          clear c7 fzi cI BI
          have OKP := Lib.hid (show HashOk (padded h) by rw [← PDe.out]; exact OKp.out)
          have L8 := Lib.hid (show ((padded h).st.map u32V).length = 8 by rw [List.length_map]; exact OKP.out.1)
          obtain ⟨d8, y8, r8⟩ := desc8
          go_wp2_with (first | ((with_reducible refine at_dst 45 ?_); refine wpList_value rfl (exec_load (ty := 140) rfl rfl (hasher_at OKP.out (F6.out.obj B5.out id)).1 y8 r8 (by rw [L8.out]; exact info8)) ?_; generalize w5.alloc (.cells zero32 45) = w6 at *; generalize hq6 : w5.heap.size = q6 at *) | (go_at_call 64; refine (add_any (p := pe) HG4.out S4.out OKz.out BP.out ⟨P3.out.1, P3.out.2.1⟩ BY.out NP.out).mono ?_; rintro e w5 ⟨rfl, hb5, f5⟩; rw [PDe.out] at hb5; have B5 := Lib.hid hb5; have F5 := Lib.hid (show Fr (fun j => j = pe ∨ j = q4) w3 w5 from FA.out.trans (f5.mono (fun _ h => .inl h)) (fun _ _ h => h)); have F6 := Lib.hid (show Fr No w5 (w5.alloc (.cells zero32 45)) from (Fr.refl No w5).alloc _); have B6 := Lib.hid (new_obj w5 (.cells zero32 45)); have Q6 := Lib.hid (show w5.heap.size < (w5.alloc (.cells zero32 45)).heap.size by simp); clear hb5 f5))
          have ST8 := Lib.hid OKP.out.1
          have BL := Lib.hid (show ((padded h).st.flatMap wordB).length = 32 by rw [flat_len, ST8.out])
          have FG := Lib.hid (flat_get (padded h).st)
          have O6 := Lib.hid (show w6.heap[q6]? = some (.cells ((outL ((padded h).st.flatMap wordB) (4 * 0)).map byteV).toArray 45 (0, 0)) from B6.out)
          have SD := Lib.hid (show sumS h = (padded h).st.flatMap wordB from rfl)
          clear sl BY
          generalize hST : (padded h).st = S at *
          generalize hFB : S.flatMap wordB = FB at *
          go_loopw [46] (fun iv wi => ∃ i : Nat, iv = .int .i64 i ∧ i ≤ 8 ∧ wi.heap[q6]? = some (.cells ((outL FB (4 * i)).map byteV).toArray 45 (0, 0)) ∧ Fr (fun j => j = q6) w6 wi) (fun iv _ => 8 - (intOf iv).toNat)
          case atStart => exact ⟨0, rfl, by omega, O6.out, Fr.refl _ _⟩
          case round =>
            obtain ⟨i, rfl, hi, hbo, fo⟩ := hrel
            have FO := Lib.hid fo
            have BO := Lib.hid hbo
            clear fo hbo
            by_cases h8 : i < 8
            · have hx := index8w ST8.out h8
              have i1 : ((i : Nat) : Int) < 8 := by omega
              have WG := Lib.hid (fun k hk => FG.out i k hk (by rw [ST8.out]; exact h8))
              generalize S.getD i 0 = x at *
              go_wp2
              go_loopw [50] (fun iv wk => ∃ k : Nat, iv = .int .i64 k ∧ k ≤ 4 ∧ wk.heap[q6]? = some (.cells ((outL FB (4 * i + k)).map byteV).toArray 45 (0, 0)) ∧ Fr (fun j => j = q6) w6 wk) (fun iv _ => 4 - (intOf iv).toNat)
              case atStart => exact ⟨0, rfl, by omega, BO.out, FO.out⟩
              case round =>
                obtain ⟨k, rfl, hk, hbk, fk⟩ := hrel
                have FK := Lib.hid fk
                have BK := Lib.hid hbk
                clear fk hbk
                by_cases k4 : k < 4
                · rcases (show k = 0 ∨ k = 1 ∨ k = 2 ∨ k = 3 by omega) with rfl | rfl | rfl | rfl
                  · obtain ⟨j, hj⟩ : ∃ j, j = 4 * i + 0 := ⟨_, rfl⟩
                    have j32 : ((j : Nat) : Int) < 32 := by omega
                    have j0 : (0 : Int) ≤ (j : Int) := by omega
                    have jn : (j : Int).toNat = j := by omega
                    have je : 4 * (i : Int) + 0 = (j : Int) := by omega
                    obtain ⟨y, hy⟩ := outL_at BL.out (m := 4 * i + 0) (by omega)
                    have ck := range_objS BK.out _ _ hy
                    simp only [Nat.zero_add, ← hj] at ck
                    clear hy
                    have fz := u32_unfrozen (i := j) BK.out
                    have SE := Lib.hid (show ∀ v : Int, v = x / 16777216 % 256 → some (Obj.cells (((outL FB (4 * i + 0)).map byteV).toArray.setIfInBounds j (.int .u8 v)) 45 (0, 0)) = some (Obj.cells ((outL FB (4 * i + 1)).map byteV).toArray 45 (0, 0)) from fun v e => by
                      rw [hj, List.setIfInBounds_toArray, ← show byteV v = .int .u8 v from rfl, ← List.map_set, show v = FB.getD (4 * i + 0) 0 from (e.trans (WG.out 0 (by omega)).symm), outL_set BL.out (by omega)])
                    have HS2 := Lib.hid (fun v => heap_setCell_same wr q6 j _ _ (.int .u8 v) BK.out)
                    clear hj
                    go_wp2
                    go_roundw
                    case rel => exact ⟨1, rfl, by omega, (HS2.out _).trans (SE.out _ (by omega)), FK.out.setCell _ (.inr rfl) _⟩
                    case measure => simp [intOf]
                  · obtain ⟨j, hj⟩ : ∃ j, j = 4 * i + 1 := ⟨_, rfl⟩
                    have j32 : ((j : Nat) : Int) < 32 := by omega
                    have j0 : (0 : Int) ≤ (j : Int) := by omega
                    have jn : (j : Int).toNat = j := by omega
                    have je : 4 * (i : Int) + 1 = (j : Int) := by omega
                    obtain ⟨y, hy⟩ := outL_at BL.out (m := 4 * i + 1) (by omega)
                    have ck := range_objS BK.out _ _ hy
                    simp only [Nat.zero_add, ← hj] at ck
                    clear hy
                    have fz := u32_unfrozen (i := j) BK.out
                    have SE := Lib.hid (show ∀ v : Int, v = x / 65536 % 256 → some (Obj.cells (((outL FB (4 * i + 1)).map byteV).toArray.setIfInBounds j (.int .u8 v)) 45 (0, 0)) = some (Obj.cells ((outL FB (4 * i + 2)).map byteV).toArray 45 (0, 0)) from fun v e => by
                      rw [hj, List.setIfInBounds_toArray, ← show byteV v = .int .u8 v from rfl, ← List.map_set, show v = FB.getD (4 * i + 1) 0 from (e.trans (WG.out 1 (by omega)).symm), outL_set BL.out (by omega)])
                    have HS2 := Lib.hid (fun v => heap_setCell_same wr q6 j _ _ (.int .u8 v) BK.out)
                    clear hj
                    go_wp2
                    go_roundw
                    case rel => exact ⟨2, rfl, by omega, (HS2.out _).trans (SE.out _ (by omega)), FK.out.setCell _ (.inr rfl) _⟩
                    case measure => simp [intOf]
                  · obtain ⟨j, hj⟩ : ∃ j, j = 4 * i + 2 := ⟨_, rfl⟩
                    have j32 : ((j : Nat) : Int) < 32 := by omega
                    have j0 : (0 : Int) ≤ (j : Int) := by omega
                    have jn : (j : Int).toNat = j := by omega
                    have je : 4 * (i : Int) + 2 = (j : Int) := by omega
                    obtain ⟨y, hy⟩ := outL_at BL.out (m := 4 * i + 2) (by omega)
                    have ck := range_objS BK.out _ _ hy
                    simp only [Nat.zero_add, ← hj] at ck
                    clear hy
                    have fz := u32_unfrozen (i := j) BK.out
                    have SE := Lib.hid (show ∀ v : Int, v = x / 256 % 256 → some (Obj.cells (((outL FB (4 * i + 2)).map byteV).toArray.setIfInBounds j (.int .u8 v)) 45 (0, 0)) = some (Obj.cells ((outL FB (4 * i + 3)).map byteV).toArray 45 (0, 0)) from fun v e => by
                      rw [hj, List.setIfInBounds_toArray, ← show byteV v = .int .u8 v from rfl, ← List.map_set, show v = FB.getD (4 * i + 2) 0 from (e.trans (WG.out 2 (by omega)).symm), outL_set BL.out (by omega)])
                    have HS2 := Lib.hid (fun v => heap_setCell_same wr q6 j _ _ (.int .u8 v) BK.out)
                    clear hj
                    go_wp2
                    go_roundw
                    case rel => exact ⟨3, rfl, by omega, (HS2.out _).trans (SE.out _ (by omega)), FK.out.setCell _ (.inr rfl) _⟩
                    case measure => simp [intOf]
                  · obtain ⟨j, hj⟩ : ∃ j, j = 4 * i + 3 := ⟨_, rfl⟩
                    have j32 : ((j : Nat) : Int) < 32 := by omega
                    have j0 : (0 : Int) ≤ (j : Int) := by omega
                    have jn : (j : Int).toNat = j := by omega
                    have je : 4 * (i : Int) + 3 = (j : Int) := by omega
                    obtain ⟨y, hy⟩ := outL_at BL.out (m := 4 * i + 3) (by omega)
                    have ck := range_objS BK.out _ _ hy
                    simp only [Nat.zero_add, ← hj] at ck
                    clear hy
                    have fz := u32_unfrozen (i := j) BK.out
                    have SE := Lib.hid (show ∀ v : Int, v = x % 256 → some (Obj.cells (((outL FB (4 * i + 3)).map byteV).toArray.setIfInBounds j (.int .u8 v)) 45 (0, 0)) = some (Obj.cells ((outL FB (4 * i + 4)).map byteV).toArray 45 (0, 0)) from fun v e => by
                      rw [hj, List.setIfInBounds_toArray, ← show byteV v = .int .u8 v from rfl, ← List.map_set, show v = FB.getD (4 * i + 3) 0 from (e.trans (WG.out 3 (by omega)).symm), outL_set BL.out (by omega)])
                    have HS2 := Lib.hid (fun v => heap_setCell_same wr q6 j _ _ (.int .u8 v) BK.out)
                    clear hj
                    go_wp2
                    go_roundw
                    case rel => exact ⟨4, rfl, by omega, (HS2.out _).trans (SE.out _ (by omega)), FK.out.setCell _ (.inr rfl) _⟩
                    case measure => simp [intOf]
                · obtain rfl : k = 4 := by omega
                  have k1 : ¬ ((4 : Nat) : Int) < 4 := by omega
                  have ee : 4 * i + 4 = 4 * (i + 1) := by omega
                  rw [ee] at BK
                  go_wp2
                  go_roundw
                  case rel => exact ⟨i + 1, by simp, by omega, BK.out, FK.out⟩
                  case measure => show 8 - (i + 1) < 8 - i; omega
            · obtain rfl : i = 8 := by omega
              have i1 : ¬ ((8 : Nat) : Int) < 8 := by omega
              have HQ2 := Lib.hid (show w5.heap[q2]? = some (.cells zero32 45 (0, 0)) from F5.out.obj (F3.out.obj (F2.out.obj B1.out id) (by have := Q1.out; omega)) (by have := Q1.out; have := Q4.out; omega))
              have HQ3 := Lib.hid (show wr.heap[q2]? = some (.cells zero32 45 (0, 0)) from FO.out.obj (F6.out.obj HQ2.out id) (by have := Q1.out; have := Q4.out; have := F5.out.size; have := P3.out.2.2.2; omega))
              rw [show 4 * 8 = 32 from rfl, outL_all BL.out] at BO
              have FL := Lib.hid (show (FB.map byteV).length = 32 by rw [List.length_map]; exact BL.out)
              obtain ⟨dh, yh, rh⟩ := descHash32
              go_wp2_with (first | ((with_reducible refine at_dst 67 ?_); refine wpList_value rfl (exec_load (ty := 45) rfl rfl (range_objS BO.out) yh rh (by rw [FL.out]; exact infoHash32)) ?_) | (refine wpList_done rfl (exec_store (ty := 45) (b := q2) (off := 0) (cs := FB.map byteV) rfl rfl rfl (by rw [FL.out]; exact there_obj HQ3.out (Nat.le_refl 32)) (by rw [FL.out]; exact infoHash32) (fun v hv => by obtain ⟨x, -, rfl⟩ := List.mem_map.1 hv; rfl)) ?_))
              have FN := Lib.hid (show Fr No w wr from (((((F1.out.trans0 F2.out).trans F3.out (fun i h e => (show False by have := Q1.out; omega))).trans F5.out (fun i h e => (show False by have := Q1.out; have := Q4.out; omega))).trans0 F6.out).trans FO.out (fun i h e => (show False by have := Q1.out; have := Q4.out; have := F5.out.size; have := P3.out.2.2.2; omega))))
              refine bodyPost_ret (results_row_tmp (P := Tryd.prog) (fn := Tryd.f57) rfl _ rfl (range_set HQ3.out (by rw [FL.out]; rfl)) yh rh (by rw [FL.out]; exact infoHash32) rfl) rfl ⟨by rw [SD.out]; rfl, FN.out.trans (setCells_fr q2 _ 0 wr) (fun i h e => (show False by omega))⟩
    · have j1 : ((m : Int) == 56) = false := by
        rw [beq_eq_false_iff_ne]
        have := padN_lt (n := h1.n) (z := z) (by omega)
        rw [← NZ.out, ← hm] at this
        omega
      clear hm
      have G0 := Lib.hid (HG3.out.keep FZ.out (fun e => P3.out.1 e.symm) (fun e => P3.out.2.1 e.symm))
      go_wp2_with (go_at_call 64; refine (add_any (p := pe) (G0.out.keep ((Fr.refl No wr).alloc (.cells #[.int .u8 0] 5)) id id) (by have := P3.out.2.2.1; have := FZ.out.size; simp; omega) OKz.out (((Fr.refl No wr).alloc (.cells #[.int .u8 0] 5)).obj BZ.out id) ⟨P3.out.1, P3.out.2.1⟩ (bytes_new1 wr 0 (by have := P3.out.2.2.2; have := FZ.out.size; omega)) (by have := NZ.out; simp; omega)).mono ?_; rintro e w5 ⟨rfl, hb5, f5⟩; rw [← SZ.out] at hb5; have B5 := Lib.hid hb5; have F5 := Lib.hid (show Fr (fun j => j = pe) w3 w5 from FZ.out.trans ((((Fr.refl No wr).alloc (.cells #[.int .u8 0] 5)).of0 (W := fun j => j = pe)).trans f5 (fun _ _ h => h)) (fun _ _ h => h)); clear hb5 f5)
      go_roundw
      case rel => exact ⟨z + 1, by omega, B5.out, F5.out⟩
      case measure =>
        rw [LM.out]
        have c5 := (hasher_at (OK1.out.adds (l := List.replicate (z + 1) 0)) B5.out).2.2
        have : leftN w5 pe (h1.n + padN h1.n) = h1.n + padN h1.n - (h1.n + (z + 1)) := by
          unfold leftN
          rw [c5, addsB_n, List.length_replicate]
          simp only []
          omega
        rw [this]
        omega
end Go.Proofs.YtmpamcnlineceaaDoor
