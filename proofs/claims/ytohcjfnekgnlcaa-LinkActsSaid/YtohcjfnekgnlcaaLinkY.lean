/- More of what the laws on links share. -/
import Derived.Test.YtohcjfnekgnlcaaLinkX
namespace Go.Proofs.Ytohcjfnekgnlcaa
open Go Go.RowKit Go.Maps Go.MapKept

theorem slice_at {w : World} {va : Option Addr} {n vc : Nat} {cs : List Value} (h : SliceIs w (.slice va n vc) n cs) {j : Nat} {u : Value} (hj : cs[j]? = some u) : ∃ b off, va = some ⟨b, off, none⟩ ∧ w.cell? ⟨b, off + j, none⟩ = some u ∧ b < w.heap.size := by
  rcases h with ⟨_, _, rfl⟩ | ⟨b, off, cap, e, _, _, hc, hb⟩
  · simp at hj
  · injection e with e1 e2 e3
    exact ⟨b, off, e1, hc j u hj, hb⟩
theorem RowsIs.form {w : World} {v : Value} {L : List (List Int)} {Q : Nat → Prop} (h : RowsIs w v L Q) : ∃ a c, v = .slice a L.length c := by
  obtain ⟨cs, h1, _⟩ := h
  exact h1.arg.form

theorem vld_symm {a b : Int} (h : vld a b) : vld b a := by unfold vld at h ⊢; omega
theorem lo_symm (a b : Int) : lo a b = lo b a := by unfold lo; split <;> split <;> omega
theorem hi_symm (a b : Int) : hi a b = hi b a := by unfold hi; split <;> split <;> omega
theorem hasB_symm (op : List (Int × Int)) (a b : Int) : hasB op a b = hasB op b a := by
  have e : (0 ≤ a ∧ a < 64 ∧ 0 ≤ b ∧ b < 64 ∧ a ≠ b) ↔ (0 ≤ b ∧ b < 64 ∧ 0 ≤ a ∧ a < 64 ∧ b ≠ a) := by constructor <;> intro h <;> omega
  unfold hasB
  rw [lo_symm a b, hi_symm a b]
  simp only [e]
theorem mem_ends {op : List (Int × Int)} {a x : Int} : x ∈ endsOf op a 64 ↔ hasB op a x = true := by
  unfold endsOf
  rw [List.mem_filter]
  constructor
  · exact fun h => h.2
  · intro h
    have hv := (hasB_vld h).1
    unfold vld at hv
    refine ⟨List.mem_map.2 ⟨x.toNat, List.mem_range.2 (by omega), by omega⟩, h⟩

theorem both_out {m : LM} {a b : Int} (h : hasB m.op a b = false) : closeM m a b = (m, 2) ∨ (closeM m a b = (m, 9) ∧ ∃ m', openM m b a = (m', 0) ∧ hasB m'.op a b = true) := by
  by_cases hv : vld a b
  · right
    have hn : (lo a b, hi a b) ∉ m.op := fun hin => by rw [hasB_yes hv hin] at h; cases h
    refine ⟨by unfold closeM; rw [if_pos hv, if_neg hn], ⟨m.op ++ [(lo a b, hi a b)], m.lane⟩, ?_, hasB_yes hv (by simp)⟩
    unfold openM
    rw [if_pos (vld_symm hv), lo_symm b a, hi_symm b a, if_neg hn]
  · left
    unfold closeM; rw [if_neg hv]

theorem both_in {m : LM} {a b : Int} (h : hasB m.op a b = true) : openM m a b = (m, 10) ∧ ∃ m1 m2, closeM m b a = (m1, 0) ∧ hasB m1.op a b = false ∧ pushM m1 (a, b, 0) [] = (m1, 9) ∧ openM m1 a b = (m2, 0) ∧ (∀ k, k = 0 ∨ k = 1 → m2.lane (a, b, k) = [] ∧ m2.lane (b, a, k) = []) := by
  obtain ⟨hv, hin⟩ := hasB_vld h
  have hn : (lo a b, hi a b) ∉ opDrop m.op (lo a b, hi a b) := by simp [opDrop]
  refine ⟨by unfold openM; rw [if_pos hv, if_pos hin], ⟨opDrop m.op (lo a b, hi a b), fun k => if k = (a, b, 1) then [] else if k = (b, a, 1) then [] else if k = (a, b, 0) then [] else if k = (b, a, 0) then [] else m.lane k⟩,
    ⟨opDrop m.op (lo a b, hi a b) ++ [(lo a b, hi a b)], fun k => if k = (a, b, 1) then [] else if k = (b, a, 1) then [] else if k = (a, b, 0) then [] else if k = (b, a, 0) then [] else m.lane k⟩, ?_, hasB_no2 hn, ?_, ?_, ?_⟩
  · unfold closeM
    rw [if_pos (vld_symm hv), lo_symm b a, hi_symm b a, if_pos hin]
  · unfold pushM
    rw [if_neg (fun h => hn h.2.2)]
    unfold errOp
    rw [if_pos ⟨hv, .inl rfl⟩, if_neg hn]
  · unfold openM
    rw [if_pos hv, if_neg hn]
  · rintro k (rfl | rfl) <;> simp
end Go.Proofs.Ytohcjfnekgnlcaa
