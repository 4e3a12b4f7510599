/- pappuslaw16.has. -/
import Derived.Test.YthmaekkjpginoaaDoorEmbO
namespace Go.Proofs.YthmaekkjpginoaaDoor
open Go Go.RowKit Go.Maps Go.MapKept

/-- A slice of keys, wherever it lies. -/
def KeysIs (w : World) (v : Value) (ks : List KeyD) : Prop :=
  (∀ k ∈ ks, k.ok) ∧ ((ks = [] ∧ ∃ a c, v = .slice a 0 c) ∨ ∃ b off c, v = .slice (some ⟨b, off, none⟩) ks.length c ∧ b < w.heap.size ∧ ∀ i k, ks[i]? = some k → w.rangeAt b (off + i * 33) (keyC k))
theorem KeysIs.keep {w w' : World} {v : Value} {ks : List KeyD} (h : KeysIs w v ks) (f : Fr No w w') : KeysIs w' v ks :=
  ⟨h.1, h.2.imp id fun ⟨b, off, c, hv, hb, hr⟩ => ⟨b, off, c, hv, Nat.lt_of_lt_of_le hb f.size, fun i k hk => range_keep (hr i k hk) f id⟩⟩
theorem KeysIs.form {w : World} {v : Value} {ks : List KeyD} (h : KeysIs w v ks) : ∃ a c, v = .slice a ks.length c := by
  rcases h.2 with ⟨rfl, a, c, rfl⟩ | ⟨b, off, c, rfl, -⟩
  · exact ⟨a, c, rfl⟩
  · exact ⟨_, _, rfl⟩
theorem KeysIs.at_ {w : World} {v : Value} {ks : List KeyD} (h : KeysIs w v ks) {i : Nat} {k : KeyD} (hk : ks[i]? = some k) : ∃ b off c, v = .slice (some ⟨b, off, none⟩) ks.length c ∧ w.rangeAt b (off + i * 33) (keyC k) ∧ b < w.heap.size := by
  rcases h.2 with ⟨rfl, -⟩ | ⟨b, off, c, rfl, hb, hr⟩
  · simp at hk
  · exact ⟨b, off, c, rfl, hr i k hk, hb⟩

set_option maxRecDepth 20000 in
set_option maxHeartbeats 2000000 in
theorem has_any (w : World) {v : Value} {ks : List KeyD} (hl : KeysIs w v ks) (hN : ks.length ≤ 100000) (k : KeyD) (hk : k.ok) :
    Calls Tryd.prog 18 #[v, .agg (keyC k).toArray] w fun e w' => ∃ b, e = .returned (.bool b) ∧ (b = true ↔ k ∈ ks) ∧ Fr No w w' := by
  obtain ⟨dK, uK, rK⟩ := descKey
  obtain ⟨va, vc, rfl⟩ := hl.form
  have HL := Lib.hid hl
  have HK := Lib.hid (keyC_len hk)
  have RB := Lib.hid (range_new w (keyC k) 36)
  have F0 := Lib.hid (show Fr No w (w.alloc (.cells (keyC k).toArray 36)) by (repeat (first | with_reducible exact Fr.refl _ _ | with_reducible assumption | with_reducible refine Fr.drew ?_ | with_reducible refine Fr.drewN ?_ _ | with_reducible refine Fr.alloc ?_ _ | with_reducible refine Fr.setCell ?_ _ (.inl (by simp <;> omega)) _)))
  have S0 := Lib.hid (show w.heap.size < (w.alloc (.cells (keyC k).toArray 36)).heap.size by simp)
  clear hl
  go_enter Tryd.func18, Tryd.ntmps18
  go_wp2
  generalize w.alloc (.cells (keyC k).toArray 36) = w1 at *
  go_loopw [9] (fun iv wr => ∃ n : Nat, iv = .int .i64 n ∧ n ≤ ks.length ∧ k ∉ ks.take n ∧ Fr No w1 wr) (fun iv _ => ks.length - (intOf iv).toNat)
  case atStart => exact ⟨0, rfl, Nat.zero_le _, by simp, Fr.refl _ _⟩
  case round =>
    obtain ⟨n, rfl, hn, hni, fr⟩ := hrel
    have FR := Lib.hid fr
    have NI := Lib.hid hni
    clear fr hni
    by_cases h : n < ks.length
    · have i1 : (n : Int) < (ks.length : Int) := by omega
      obtain ⟨x, hx⟩ : ∃ x, ks[n]? = some x := ⟨_, List.getElem?_eq_getElem h⟩
      obtain ⟨b, off, c, hv, hr, hb⟩ := (HL.out.keep (F0.out.trans0 FR.out)).at_ hx
      cases hv
      have HX := Lib.hid (keyC_len (HL.out.1 x (List.mem_of_getElem? hx)))
      have R1 := Lib.hid hr
      have RB2 := Lib.hid (range_keep RB.out FR.out id)
      have OX := Lib.hid (HL.out.1 x (List.mem_of_getElem? hx))
      have RN := Lib.hid (range_new wr (keyC x) 36)
      have RB3 := Lib.hid (range_keep RB2.out ((Fr.refl No wr).alloc (.cells (keyC x).toArray 36)) id)
      have FA := Lib.hid (show Fr No wr (wr.alloc (.cells (keyC x).toArray 36)) by (repeat (first | with_reducible exact Fr.refl _ _ | with_reducible assumption | with_reducible refine Fr.drew ?_ | with_reducible refine Fr.drewN ?_ _ | with_reducible refine Fr.alloc ?_ _ | with_reducible refine Fr.setCell ?_ _ (.inl (by simp <;> omega)) _)))
      clear hr hb
      by_cases hxk : x = k
      · subst hxk
        have HM := Lib.hid (show x ∈ ks from List.mem_of_getElem? hx)
        clear hx
        go_wp2_with (first | (refine wpList_value rfl (exec_load (ty := 36) rfl rfl R1.out uK rK (by rw [HX.out]; exact infoKey)) ?_) | (refine wpList_done rfl (exec_store_new (w := wr) (ty := 36) rfl rfl rfl (by rw [HX.out]; rfl) (by rw [HX.out]; exact infoKey) keyC_one) ?_) | (refine wpList_value rfl (exec_load (ty := 36) rfl rfl RN.out uK rK (by rw [HX.out]; exact infoKey)) ?_) | (refine wpList_value rfl (exec_load (ty := 36) rfl rfl RB3.out uK rK (by rw [HX.out]; exact infoKey)) ?_) | (refine wpList_value rfl (eqKey.exec_eql rfl rfl rfl (keyOfKey OX.out) (keyOfKey OX.out) true (by simp) _) ?_))
        go_ret
        exact ⟨true, rfl, by simp [HM.out], (F0.out.trans0 FR.out).trans0 FA.out⟩
      · have NE := Lib.hid (show ¬ (keyC x).toArray = (keyC k).toArray from fun e => hxk (keyV_inj (congrArg Value.agg e)))
        have NI2 := Lib.hid (show k ∉ ks.take (n + 1) by
          rw [List.take_add_one, hx]
          simp only [Option.toList_some, List.mem_append, List.mem_singleton]
          exact fun e => e.elim NI.out (fun e => hxk e.symm))
        clear hx
        go_wp2_with (first | (refine wpList_value rfl (exec_load (ty := 36) rfl rfl R1.out uK rK (by rw [HX.out]; exact infoKey)) ?_) | (refine wpList_done rfl (exec_store_new (w := wr) (ty := 36) rfl rfl rfl (by rw [HX.out]; rfl) (by rw [HX.out]; exact infoKey) keyC_one) ?_) | (refine wpList_value rfl (exec_load (ty := 36) rfl rfl RN.out uK rK (by rw [HX.out]; exact infoKey)) ?_) | (refine wpList_value rfl (exec_load (ty := 36) rfl rfl RB3.out uK rK (by rw [HK.out]; exact infoKey)) ?_) | (refine wpList_value rfl (eqKey.exec_eql rfl rfl rfl (keyOfKey OX.out) (keyOfKey hk) false ⟨fun e => (by cases e), fun e => absurd e NE.out⟩ _) ?_))
        go_roundw
        case rel => exact ⟨n + 1, by simp, by omega, NI2.out, FR.out.trans0 FA.out⟩
        case measure => show ks.length - (n + 1) < ks.length - n; omega
    · have i1 : ¬ (n : Int) < (ks.length : Int) := by omega
      have i2 : n = ks.length := by omega
      have FIN : k ∉ ks := by have := NI.out; rw [i2, List.take_length] at this; exact this
      have HF := Lib.hid FIN
      clear FIN i2
      go_wp2
      go_ret
      exact .inl ⟨rfl, HF.out, F0.out.trans0 FR.out⟩
end Go.Proofs.YthmaekkjpginoaaDoor
