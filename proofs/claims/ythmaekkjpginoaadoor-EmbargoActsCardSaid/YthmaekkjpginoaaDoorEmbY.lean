/- embargo: Delay; the document's Delay. -/
import Derived.Test.YthmaekkjpginoaaDoorEmbM
import Derived.Maps.RangeWalk
import Derived.IntWalk
namespace Go.Proofs.YthmaekkjpginoaaDoor
open Go Go.RowKit Go.Maps Go.MapKept

def tabL : List Nat := [0, 1, 2, 2, 3, 4, 5, 5, 6, 7, 8, 9, 10, 11, 12, 13, 14, 16, 17, 19, 20, 22, 24, 27, 29, 32, 35, 39, 44, 51, 61, 83, 100]
/-- The table's variable. -/
def TabAt (w : World) : Prop := 0 < w.heap.size ∧ ∀ (j : Nat) (x : Nat), tabL[j]? = some x → w.cell? ⟨0, j, none⟩ = some (.int .u8 x)
theorem TabAt.keep {w w' : World} (h : TabAt w) {V : Nat → Prop} (f : Fr V w w') (hV : ¬ V 0) : TabAt w' := ⟨Nat.lt_of_lt_of_le h.1 f.size, fun j x hj => f.cell (h.2 j x hj) hV⟩
def delayN (d : Nat) : Nat := 10 + (tabL.getD (d / 2048) 0 + ((tabL.getD (d / 2048 + 1) 0 - tabL.getD (d / 2048) 0) * (d % 2048)) / 2048)
theorem tab_step : ∀ k, k < 32 → tabL.getD k 0 ≤ tabL.getD (k + 1) 0 ∧ tabL.getD (k + 1) 0 ≤ 100 := by decide
theorem tab_at : ∀ k, k < 33 → tabL[k]? = some (tabL.getD k 0) := by decide

theorem and_2047 (d : Nat) (hd : d ≤ 65535) : bits .and .u16 (d : Int) 2047 = ((d % 2048 : Nat) : Int) := by
  have e : d &&& 2047 = d % 2048 := Nat.and_two_pow_sub_one_eq_mod d 11
  have hd2 : ((d : Int) % 65536).toNat = d := by omega
  have e2 : (BitVec.ofNat 16 d &&& 2047#16).toNat = d % 2048 := by
    rw [BitVec.toNat_and, BitVec.toNat_ofNat, Nat.mod_eq_of_lt (show d < 2 ^ 16 by omega)]
    exact e
  have e3 : (BitVec.ofInt 16 (d : Int)) = BitVec.ofNat 16 d := by simp
  simp only [bits, IntKind.bits, IntKind.wrap, IntKind.signed]
  have e4 : (BitVec.ofInt 16 2047) = 2047#16 := rfl
  have e5 : ((BitVec.ofInt 16 (d : Int)) &&& (BitVec.ofInt 16 2047)).toNat = d % 2048 := by rw [e3, e4]; exact e2
  show ((((BitVec.ofInt 16 (d : Int)) &&& (BitVec.ofInt 16 2047)).toNat : Nat) : Int) % 2 ^ 16 = _
  rw [e5]
  omega
set_option maxRecDepth 20000 in
set_option maxHeartbeats 1000000 in
theorem delay_any (w : World) (hT : TabAt w) (d : Nat) (hd : d ≤ 65535) :
    Calls Tryd.prog 11 #[.int .u16 d] w fun e w' => e = .returned (.int .u64 (delayN d)) ∧ Fr No w w' := by
  have h1 := tab_step (d / 2048) (by omega)
  have h2 := hT.2 _ _ (tab_at (d / 2048) (by omega))
  have h3 := hT.2 _ _ (tab_at (d / 2048 + 1) (by omega))
  unfold delayN
  have hr : d % 2048 < 2048 := by omega
  obtain ⟨k, hk⟩ : ∃ k, d / 2048 = k := ⟨_, rfl⟩
  obtain ⟨k2, hk2⟩ : ∃ k2, k + 1 = k2 := ⟨_, rfl⟩
  have hkl : k < 32 := by omega
  have ek : (d : Int) / 2048 = (k : Int) := by omega
  have ek2 : IntKind.u16.wrap ((k : Int) + 1) = (k2 : Int) := by simp [IntKind.wrap, IntKind.bits, IntKind.signed]; omega
  rw [hk] at h1 h2 h3 ⊢
  rw [hk2] at h1 h3 ⊢
  have i1 : (k : Int) < 33 := by omega
  have i2 : (k2 : Int) < 33 := by omega
  generalize tabL.getD k 0 = lo at *
  generalize tabL.getD k2 0 = hi at *
  have eb := and_2047 d hd
  obtain ⟨m, hm⟩ : ∃ m, d % 2048 = m := ⟨_, rfl⟩
  rw [hm] at eb hr ⊢
  have l1 : ((hi : Int) - lo) * m ≤ 100 * 2047 := by
    have : (((hi - lo) * m : Nat) : Int) = ((hi : Int) - lo) * m := by
      rw [Int.natCast_mul, Int.natCast_sub h1.1]
    rw [← this]
    have : (hi - lo) * m ≤ 100 * 2047 := Nat.mul_le_mul (by omega) (by omega)
    omega
  have l0 : 0 ≤ ((hi : Int) - lo) * m := Int.mul_nonneg (by omega) (by omega)
  have ev : (10 : Int) + (lo + (hi - lo) * (m : Int) / 2048) = ((10 + (lo + (hi - lo) * m / 2048) : Nat) : Int) := by
    have : (((hi - lo) * m : Nat) : Int) = ((hi : Int) - lo) * m := by
      rw [Int.natCast_mul, Int.natCast_sub h1.1]
    rw [← this]
    omega
  have EV := Lib.hid ev
  have EB := Lib.hid eb
  clear ev hm eb
  have EK := Lib.hid ek
  have EK2 := Lib.hid ek2
  have HT := Lib.hid hT
  clear hk hk2 ek ek2 hT
  go_enter Tryd.func11, Tryd.ntmps11
  go_wp2
  rw [EK.out]
  have ek2 := EK2.out
  refine wp_region_lexL [false, false, false, false, false, false, false, false, false, false, false] (fun w' => w'.cell? ⟨0, k, none⟩ = some (.int .u8 lo) ∧ w'.cell? ⟨0, k2, none⟩ = some (.int .u8 hi)) (by kernel_rfl) (by kernel_rfl) ?_ (fun K hK => ?_)
  · exact ⟨h2, h3⟩
  repeat (first | ((first | with_reducible refine lexL_read ?_ | ((with_reducible refine lexL_readG ?_ ?_); (focus rfl))); apply Exists.intro; refine ⟨fun w' hS => ?_, ?_⟩; (focus (obtain ⟨s1, s2⟩ := hS; go_simp; (try with_reducible rfl); done)); try simp only [Act.put, List.setIfInBounds_toArray, List.set_cons_zero, List.set_cons_succ]) | ((first | ((with_reducible refine lexL_skip (c := false) ?_ ?_ ?_); (focus rfl); (focus rfl)) | ((with_reducible refine lexL_skip (c := true) ?_ ?_ ?_); (focus rfl); (focus rfl)) | ((with_reducible refine lexL_skipU ?_ ?_); (focus rfl))); try simp only [Act.put, List.setIfInBounds_toArray, List.set_cons_zero, List.set_cons_succ]))
  refine lexL_nil (hK.out _ _ ?_)
  clear ek2
  have eb := EB.out
  go_wp2
  go_ret
  refine ⟨?_, by (repeat (first | with_reducible exact Fr.refl _ _ | with_reducible assumption | with_reducible refine Fr.drew ?_ | with_reducible refine Fr.drewN ?_ _ | with_reducible refine Fr.alloc ?_ _ | with_reducible refine Fr.setCell ?_ _ (.inl (by simp <;> omega)) _))⟩
  exact congrArg (fun x => Ending.returned (.int .u64 x)) EV.out
end Go.Proofs.YthmaekkjpginoaaDoor
