/- octet: Put of eight bytes. -/
import Derived.Test.YtmpamcnlineceaaDoorMG24
set_option linter.unusedVariables false
set_option linter.unusedSimpArgs false
set_option linter.unnecessarySimpa false
set_option linter.all false
namespace Go.Proofs.YtmpamcnlineceaaDoor
open Go Go.RowKit Go.Maps Go.MapKept

def putL (x : Int) (n : Nat) : List Int := (leB 8 x).take n ++ List.replicate (8 - n) 0
theorem own_heap {w : World} {B g n : Nat} {T : TypeId} {xs : List Value} (h : w.ownsRow B T 1 (.slice (some ⟨g, 0, none⟩) n n) n xs) : w.heap[g]? = some (.cells xs.toArray T (0, 0)) := by
  rcases h.2 with ⟨e, _⟩ | ⟨g', cap, cur, e, h1, h2, h3, h4, h5, h6⟩
  · cases e
  · injection e with e1 e2 e3
    injection e1 with e1
    injection e1 with e1
    subst e1
    subst e3
    rw [List.take_of_length_le (by rw [Array.length_toList, h5]; exact Nat.le_refl _)] at h6
    rw [h2, ← h6]
theorem made8 (x : Int) : (madeCells (Value.int .u8 0).cells (8 * 1)).toList = (putL x 0).map byteV := by
  have h0 : putL x 0 = List.replicate 8 0 := by simp [putL]
  have h1 : (madeCells (Value.int .u8 0).cells (8 * 1)).toList = (List.replicate 8 (0 : Int)).map byteV := by kernel_rfl
  rw [h0, h1]
theorem heap_own {w : World} {B g : Nat} {l : List Int} (h : w.heap[g]? = some (.cells (l.map byteV).toArray 5 (0, 0))) (hB : B ≤ g) (hl : l.length ≤ 1000000) : BRow w B (.slice (some ⟨g, 0, none⟩) l.length l.length) l :=
  ⟨by simp, .inr ⟨g, l.length, (l.map byteV).toArray, rfl, hB, h, Nat.le_refl _, by unfold maxLen; omega, by simp, by rw [List.take_of_length_le (by simp)]⟩⟩
set_option maxRecDepth 20000 in
set_option maxHeartbeats 1000000 in
theorem width8 (w : World) : Calls Tryd.prog 42 #[.int .i64 8] w fun e w' => e = .returned (.bool true) ∧ w' = w := by
  go_enter Tryd.func42, Tryd.ntmps42
  go_wp2
  go_ret
  exact ⟨rfl, rfl⟩
set_option maxRecDepth 20000 in
set_option maxHeartbeats 2000000 in
theorem put8_any (w : World) {x : Int} (hx : 0 ≤ x ∧ x ≤ 18446744073709551615) :
    Calls Tryd.prog 28 #[.int .u64 x, .int .i64 8] w fun e w' => e = .returned (.tuple #[.slice (some ⟨w.heap.size, 0, none⟩) 8 8, .int .i64 0]) ∧ BRow w' w.heap.size (.slice (some ⟨w.heap.size, 0, none⟩) 8 8) (leB 8 x) ∧ Fr No w w' := by
  obtain ⟨iK, hiK, hz, hsz, hby⟩ := info_parts infoByteZ
  obtain ⟨w2, hmk, ho2, hg2⟩ := run_makeSlice_full (P := Tryd.prog) (w := w) w.heap.size 48 5 iK _ 1 undBytes hiK hz hsz .i64 .i64 8 (by omega) (by rw [hby]; omega) (by unfold maxLen; omega) (Nat.le_refl _)
  have F2 := Lib.hid (show Fr No w w2 from Fr.of_grown hg2 (fun k e => by cases e))
  have H2 := Lib.hid (show w2.heap[w.heap.size]? = some (.cells ((putL x 0).map byteV).toArray 5 (0, 0)) from made8 x ▸ own_heap ho2)
  have hmk' : (Instr.makeSlice 48 (.int .i64 8) (.int .i64 8)).run Tryd.prog w = .ok (.slice (some ⟨w.heap.size, 0, none⟩) 8 8) w2 := hmk
  have x0 := hx.1
  have x1 := hx.2
  clear hiK hz hsz hby ho2 hg2 hx
  go_enter Tryd.func28, Tryd.ntmps28
  go_wp2_with (go_at_call 42; refine (width8 _).mono ?_; rintro e w3 ⟨rfl, e3⟩; rw [e3])
  clear hmk hmk'
  generalize hq : w.heap.size = g at *
  go_loopw [25] (fun iv wr => ∃ (n : Nat), iv = .int .i64 n ∧ n ≤ 8 ∧ wr.heap[g]? = some (.cells ((putL x n).map byteV).toArray 5 (0, 0)) ∧ Fr No w wr) (fun iv _ => 8 - (intOf iv).toNat)
  case atStart => exact ⟨0, rfl, by omega, H2.out, F2.out⟩
  case round =>
    obtain ⟨n, rfl, hn, hb, fr⟩ := hrel
    have FR := Lib.hid fr
    have HB := Lib.hid hb
    have fz := fun i => u32_unfrozen (i := i) hb
    clear fr hb
    by_cases hlt : n < 8
    · have FN := Lib.hid (fun v => show Fr No w (wr.setCell ⟨g, n, none⟩ v) from FR.out.setCell _ (.inl (by show w.heap.size ≤ g; omega)) _)
      have HN := Lib.hid (fun v => heap_setCell_same wr g n _ _ v HB.out)
      have RG := range_obj HB.out
      have h8 : n = 0 ∨ n = 1 ∨ n = 2 ∨ n = 3 ∨ n = 4 ∨ n = 5 ∨ n = 6 ∨ n = 7 := by omega
      rcases h8 with rfl | rfl | rfl | rfl | rfl | rfl | rfl | rfl
      · have ck := RG 0 (.int .u8 0) rfl
        simp only [Nat.zero_add] at ck
        clear RG
        have SE := Lib.hid (show ∀ v : Int, v = x % 256 → some (Obj.cells (((putL x 0).map byteV).toArray.setIfInBounds 0 (.int .u8 v)) 5 (0, 0)) = some (Obj.cells ((putL x 1).map byteV).toArray 5 (0, 0)) from fun v e => by
          have e2 : v = x % 256 := by omega
          subst e2
          rfl)
        go_wp2
        go_roundw
        case rel => exact ⟨1, rfl, by omega, (HN.out _).trans (SE.out _ (by omega)), FN.out _⟩
        case measure => simp [intOf]
      · have ck := RG 1 (.int .u8 0) rfl
        simp only [Nat.zero_add] at ck
        clear RG
        have SE := Lib.hid (show ∀ v : Int, v = x / 256 % 256 → some (Obj.cells (((putL x 1).map byteV).toArray.setIfInBounds 1 (.int .u8 v)) 5 (0, 0)) = some (Obj.cells ((putL x 2).map byteV).toArray 5 (0, 0)) from fun v e => by
          have e2 : v = (x / 256) % 256 := by omega
          subst e2
          rfl)
        go_wp2
        go_roundw
        case rel => exact ⟨2, rfl, by omega, (HN.out _).trans (SE.out _ (by omega)), FN.out _⟩
        case measure => simp [intOf]
      · have ck := RG 2 (.int .u8 0) rfl
        simp only [Nat.zero_add] at ck
        clear RG
        have SE := Lib.hid (show ∀ v : Int, v = x / 65536 % 256 → some (Obj.cells (((putL x 2).map byteV).toArray.setIfInBounds 2 (.int .u8 v)) 5 (0, 0)) = some (Obj.cells ((putL x 3).map byteV).toArray 5 (0, 0)) from fun v e => by
          have e2 : v = ((x / 256) / 256) % 256 := by omega
          subst e2
          rfl)
        go_wp2
        go_roundw
        case rel => exact ⟨3, rfl, by omega, (HN.out _).trans (SE.out _ (by omega)), FN.out _⟩
        case measure => simp [intOf]
      · have ck := RG 3 (.int .u8 0) rfl
        simp only [Nat.zero_add] at ck
        clear RG
        have SE := Lib.hid (show ∀ v : Int, v = x / 16777216 % 256 → some (Obj.cells (((putL x 3).map byteV).toArray.setIfInBounds 3 (.int .u8 v)) 5 (0, 0)) = some (Obj.cells ((putL x 4).map byteV).toArray 5 (0, 0)) from fun v e => by
          have e2 : v = (((x / 256) / 256) / 256) % 256 := by omega
          subst e2
          rfl)
        go_wp2
        go_roundw
        case rel => exact ⟨4, rfl, by omega, (HN.out _).trans (SE.out _ (by omega)), FN.out _⟩
        case measure => simp [intOf]
      · have ck := RG 4 (.int .u8 0) rfl
        simp only [Nat.zero_add] at ck
        clear RG
        have SE := Lib.hid (show ∀ v : Int, v = x / 4294967296 % 256 → some (Obj.cells (((putL x 4).map byteV).toArray.setIfInBounds 4 (.int .u8 v)) 5 (0, 0)) = some (Obj.cells ((putL x 5).map byteV).toArray 5 (0, 0)) from fun v e => by
          have e2 : v = ((((x / 256) / 256) / 256) / 256) % 256 := by omega
          subst e2
          rfl)
        go_wp2
        go_roundw
        case rel => exact ⟨5, rfl, by omega, (HN.out _).trans (SE.out _ (by omega)), FN.out _⟩
        case measure => simp [intOf]
      · have ck := RG 5 (.int .u8 0) rfl
        simp only [Nat.zero_add] at ck
        clear RG
        have SE := Lib.hid (show ∀ v : Int, v = x / 1099511627776 % 256 → some (Obj.cells (((putL x 5).map byteV).toArray.setIfInBounds 5 (.int .u8 v)) 5 (0, 0)) = some (Obj.cells ((putL x 6).map byteV).toArray 5 (0, 0)) from fun v e => by
          have e2 : v = (((((x / 256) / 256) / 256) / 256) / 256) % 256 := by omega
          subst e2
          rfl)
        go_wp2
        go_roundw
        case rel => exact ⟨6, rfl, by omega, (HN.out _).trans (SE.out _ (by omega)), FN.out _⟩
        case measure => simp [intOf]
      · have ck := RG 6 (.int .u8 0) rfl
        simp only [Nat.zero_add] at ck
        clear RG
        have SE := Lib.hid (show ∀ v : Int, v = x / 281474976710656 % 256 → some (Obj.cells (((putL x 6).map byteV).toArray.setIfInBounds 6 (.int .u8 v)) 5 (0, 0)) = some (Obj.cells ((putL x 7).map byteV).toArray 5 (0, 0)) from fun v e => by
          have e2 : v = ((((((x / 256) / 256) / 256) / 256) / 256) / 256) % 256 := by omega
          subst e2
          rfl)
        go_wp2
        go_roundw
        case rel => exact ⟨7, rfl, by omega, (HN.out _).trans (SE.out _ (by omega)), FN.out _⟩
        case measure => simp [intOf]
      · have ck := RG 7 (.int .u8 0) rfl
        simp only [Nat.zero_add] at ck
        clear RG
        have SE := Lib.hid (show ∀ v : Int, v = x / 72057594037927936 % 256 → some (Obj.cells (((putL x 7).map byteV).toArray.setIfInBounds 7 (.int .u8 v)) 5 (0, 0)) = some (Obj.cells ((putL x 8).map byteV).toArray 5 (0, 0)) from fun v e => by
          have e2 : v = (((((((x / 256) / 256) / 256) / 256) / 256) / 256) / 256) % 256 := by omega
          subst e2
          rfl)
        go_wp2
        go_roundw
        case rel => exact ⟨8, rfl, by omega, (HN.out _).trans (SE.out _ (by omega)), FN.out _⟩
        case measure => simp [intOf]
    · have hne : n = 8 := by omega
      subst hne
      have HF := Lib.hid (show BRow wr g (.slice (some ⟨g, 0, none⟩) 8 8) (leB 8 x) from heap_own HB.out (Nat.le_refl _) (by rw [leB_len]; decide))
      go_wp2
      go_ret2
      subst hq
      exact ⟨rfl, HF.out, FR.out⟩
end Go.Proofs.YtmpamcnlineceaaDoor
