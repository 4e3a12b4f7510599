/- sha: the sum's bytes, one by one. -/
import Derived.Test.YtmpamcnlineceaaDoorMG10
set_option linter.unusedVariables false
set_option linter.unusedSimpArgs false
namespace Go.Proofs.YtmpamcnlineceaaDoor
open Go Go.RowKit Go.Maps Go.MapKept

def outL (B : List Int) (m : Nat) : List Int := B.take m ++ List.replicate (32 - m) 0
theorem outL_len {B : List Int} (hB : B.length = 32) {m : Nat} (hm : m ≤ 32) : (outL B m).length = 32 := by simp [outL]; omega
theorem outL_set {B : List Int} (hB : B.length = 32) {m : Nat} (hm : m < 32) : (outL B m).set m (B.getD m 0) = outL B (m + 1) := by
  unfold outL
  have e1 : 32 - m = (32 - (m + 1)) + 1 := by omega
  have hl : (B.take m).length = m := by simp; omega
  rw [e1, List.replicate_succ, List.set_append_right _ _ (by omega), hl, Nat.sub_self, List.set_cons_zero, List.take_add_one, List.append_assoc]
  simp [List.getD_eq_getElem?_getD, List.getElem?_eq_getElem (show m < B.length by omega)]
theorem flat_len : ∀ (S : List Int), (S.flatMap wordB).length = 4 * S.length
  | [] => rfl
  | x :: S => by
    rw [List.flatMap_cons, List.length_append, flat_len S, List.length_cons]
    have : (wordB x).length = 4 := rfl
    omega
theorem flat_get : ∀ (S : List Int) (i k : Nat), k < 4 → i < S.length → (S.flatMap wordB).getD (4 * i + k) 0 = (wordB (S.getD i 0)).getD k 0
  | [], _, _, _, h => absurd h (by simp)
  | x :: S, 0, k, hk, _ => by
    rcases (show k = 0 ∨ k = 1 ∨ k = 2 ∨ k = 3 by omega) with rfl | rfl | rfl | rfl <;> rfl
  | x :: S, i + 1, k, hk, h => by
    have ih := flat_get S i k hk (by simpa using h)
    have e : 4 * (i + 1) + k = (4 * i + k) + 4 := by omega
    rw [List.flatMap_cons, e]
    exact ih
theorem outL_all {B : List Int} (hB : B.length = 32) : outL B 32 = B := by
  unfold outL
  rw [List.take_of_length_le (by omega)]
  simp
theorem outL_none (B : List Int) : outL B 0 = List.replicate 32 0 := rfl
theorem outL_at {B : List Int} (hB : B.length = 32) {m : Nat} (hm : m < 32) : ∃ x, ((outL B m).map byteV)[m]? = some (.int .u8 x) :=
  ⟨(outL B m)[m]'(by rw [outL_len hB (by omega)]; exact hm), by rw [List.getElem?_map, List.getElem?_eq_getElem (by rw [outL_len hB (by omega)]; exact hm)]; rfl⟩
theorem index8w {S : List Int} (hS : S.length = 8) {i : Nat} (hi : i < 8) (w : World) : (Instr.index 140 (.agg (S.map u32V).toArray) (.int .i64 i)).run Tryd.prog w = .ok (.int .u32 (S.getD i 0)) w := by
  have hn : (0 ≤ (i : Int) ∧ (i : Int) < ((8 : Nat) : Int)) := by omega
  have i8 : (sizeOf 38).run Tryd.prog w = .ok 1 w := by kernel_rfl
  simp [Instr.index, run_underlying Tryd.underlying140, asIntOf, hn, i8, part, go_sem]
  have hl : i < S.length := by omega
  rw [List.getElem?_eq_getElem hl]
  simp [hi, u32V]
end Go.Proofs.YtmpamcnlineceaaDoor
