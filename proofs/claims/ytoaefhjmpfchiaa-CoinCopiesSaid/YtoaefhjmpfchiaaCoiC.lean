/- maps.Clone; coin: Copy. -/
import Derived.Test.YtoaefhjmpfchiaaCoiV
import Derived.Shelf.SlMaps.Clone
namespace Go.Proofs.Ytoaefhjmpfchiaa
open Go Go.RowKit Go.Maps Go.MapKept

set_option maxRecDepth 20000 in
set_option maxHeartbeats 2000000 in
theorem cloneM_any (w : World) {b : Nat} {M : List (PointD × OutD)} (hm : AtMap w b M) :
    Calls Try.prog 32 #[.map (some b)] w fun e w' => e = .returned (.map (some w.heap.size)) ∧ AtMap w' w.heap.size M ∧ Fr No w w' := by
  obtain ⟨es, clock, hb, hs, hl, hkv, hks⟩ := hm
  have hq := fun w => run_eql_map_nil_sl (P := Try.prog) w 67 _ _ (some b) undAtMap
  have FIN := Lib.hid (show AtMap (w.alloc (.map es clock)) w.heap.size M from ⟨es, clock, new_obj w _, hs, hl, hkv, hks⟩)
  have FF := Lib.hid ((Fr.refl No w).alloc (.map es clock))
  clear hs hl hkv hks
  go_enter Try.func32, Try.ntmps32
  go_wp2
  rw [run_callFunc_extern Try.func37 (by kernel_rfl) (by kernel_rfl) (by kernel_rfl) (e := Extern.MapsClone.clone) (by kernel_rfl), run_maps_clone_sl w 67 hb]
  simp only [Result.andThen]
  rw [Oper.upon_value]
  go_wp2
  rw [run_typeAssert_map_sl _ 67 _ _ _ _ undAtMap]
  simp only [Result.andThen]
  rw [Oper.upon_value]
  go_wp2
  go_ret
  exact ⟨rfl, FIN.out, FF.out⟩
section
variable {w0 w : World} {p : Nat} {V : Nat → Prop} {S : List CoinD}
set_option maxRecDepth 20000 in
set_option maxHeartbeats 2000000 in
theorem copy_C (h : CS w0 w p V S) : Calls Try.prog 26 #[.pointer (some ⟨p, 0, none⟩)] w fun e w' => ∃ p', e = .returned (.pointer (some ⟨p', 0, none⟩)) ∧ ∃ V', CS w0 w' p' V' S ∧ Fr No w w' ∧ (∀ k, V' k → w.heap.size ≤ k) := by
  obtain ⟨m, M, hb, hm, hs, hne, hVe⟩ := h.ex
  have c0 := (blk1 hb).1
  have HM := Lib.hid hm
  have HS := Lib.hid hs
  have HC := Lib.hid h
  clear h hb hm hs hne hVe
  go_enter Try.func26, Try.ntmps26
  go_wp2_with fail
  refine (cloneM_any w HM.out).mono ?_
  rintro e w1 ⟨rfl, hm1, f1⟩
  have f2 := f1.alloc (.cells #[.map (some w.heap.size)] 69)
  have HSZ := Lib.hid f1.size
  have HLT := Lib.hid hm1.lt
  have FIN := Lib.hid (show CS w0 (w1.alloc (.cells #[.map (some w.heap.size)] 69)) w1.heap.size (fun j => j = w1.heap.size ∨ j = w.heap.size) S from
    ⟨⟨_, M, new_obj w1 _, hm1.keep ((Fr.refl No w1).alloc _) id, HS.out, by have := HLT.out; omega, rfl⟩, HC.out.srt, HC.out.ok, by have := HC.out.fr.size; have := HSZ.out; rintro j (rfl | rfl) <;> omega, HC.out.fr.trans0 f2⟩)
  have F2 := Lib.hid f2
  clear hm1 f1 f2
  go_wp2
  go_ret
  exact ⟨_, rfl, _, FIN.out, F2.out, by have := HSZ.out; rintro j (rfl | rfl) <;> omega⟩
end
end Go.Proofs.Ytoaefhjmpfchiaa
