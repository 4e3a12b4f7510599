/- pappuslaw16.Of. -/
import Derived.Test.YthmaekkjpginoaaDoorEmbI
namespace Go.Proofs.YthmaekkjpginoaaDoor
open Go Go.RowKit Go.Maps Go.MapKept

theorem descHash : ∃ d, Tryd.prog.underlying 34 = some d ∧ d.isRow = true := row_of (by kernel_rfl)
theorem infoHash : (Tryd.prog.info? 34).map (·.size) = some 32 := by kernel_rfl
theorem placesKey : buildPlaces Tryd.prog 36 = some (33, [(0, 1), (1, 32)]) := by kernel_rfl
theorem fill_key {k : KeyD} (hk : k.ok) : FillOk (([(0, 1), (1, 32)] : List (Nat × Nat)).toArray[·]?) 0 [(0, .int .i64 k.src), (1, .agg (k.id.map byteV).toArray)] := by
  have h : (Value.agg (k.id.map byteV).toArray).cells.size = 32 := by show (k.id.map byteV).toArray.size = 32; simpa using hk.2.1
  have h1 : ∀ q x, (Value.int q x).cells.size = 1 := fun _ _ => rfl
  simp only [FillOk, h, h1]
  exact ⟨rfl, rfl, trivial⟩
theorem parts_key (k : KeyD) : partsC [(0, .int .i64 k.src), (1, .agg (k.id.map byteV).toArray)] = keyC k := by
  have h : (Value.agg (k.id.map byteV).toArray).cells.toList = k.id.map byteV := by show (k.id.map byteV).toArray.toList = _; simp
  have h1 : ∀ q x, (Value.int q x).cells.toList = [.int q x] := fun _ _ => rfl
  simp [partsC, keyC, h, h1]
set_option maxRecDepth 20000 in
set_option maxHeartbeats 1000000 in
theorem of_any (w : World) (k : KeyD) (hk : k.ok) : Calls Tryd.prog 17 #[.agg (keyC k).toArray] w fun e w' => e = .returned (.agg (keyC k).toArray) ∧ Fr No w w' := by
  obtain ⟨dH, uH, rH⟩ := descHash
  have HL := Lib.hid (keyC_len hk)
  have HI := Lib.hid hk.2.1
  have rb := fun (Z : Obj) => range_keep (range_new w (keyC k) 39) ((Fr.refl No _).alloc Z) id
  have c0 : ∀ Z : Obj, ((w.alloc (.cells (keyC k).toArray 39)).alloc Z).cell? ⟨w.heap.size, 0, none⟩ = some (.int .i64 k.src) := fun Z => by have := rb Z 0 _ rfl; simpa using this
  have RH := Lib.hid (fun (Z : Obj) => show World.rangeAt ((w.alloc (.cells (keyC k).toArray 39)).alloc Z) w.heap.size 1 (k.id.map byteV) from fun j v hj => by have := rb Z (j + 1) v (by simpa [keyC] using hj); rw [Nat.zero_add] at this; rw [Nat.add_comm]; exact this)
  have c1 := c0 (.cells #[Value.int IntKind.i64 0, Value.int IntKind.u8 0, Value.int IntKind.u8 0, Value.int IntKind.u8 0, Value.int IntKind.u8 0, Value.int IntKind.u8 0, Value.int IntKind.u8 0, Value.int IntKind.u8 0, Value.int IntKind.u8 0, Value.int IntKind.u8 0, Value.int IntKind.u8 0, Value.int IntKind.u8 0, Value.int IntKind.u8 0, Value.int IntKind.u8 0, Value.int IntKind.u8 0, Value.int IntKind.u8 0, Value.int IntKind.u8 0, Value.int IntKind.u8 0, Value.int IntKind.u8 0, Value.int IntKind.u8 0, Value.int IntKind.u8 0, Value.int IntKind.u8 0, Value.int IntKind.u8 0, Value.int IntKind.u8 0, Value.int IntKind.u8 0, Value.int IntKind.u8 0, Value.int IntKind.u8 0, Value.int IntKind.u8 0, Value.int IntKind.u8 0, Value.int IntKind.u8 0, Value.int IntKind.u8 0, Value.int IntKind.u8 0, Value.int IntKind.u8 0] 36)
  clear rb c0
  go_enter Tryd.func17, Tryd.ntmps17
  go_wp2_with (first | (refine wpList_value rfl (exec_load (ty := 34) rfl rfl (RH.out _) uH rH (by rw [List.length_map, HI.out]; exact infoHash)) ?_) | (refine wpList_value rfl (exec_build (t := 36) rfl rfl placesKey (fill_key hk) (parts_key k) HL.out) ?_) | (refine wpList_done rfl (exec_store_new (w := w.alloc (.cells (keyC k).toArray 39)) (ty := 36) (cs := keyC k) rfl (by show Value.pointer (some ⟨w.heap.size + 1, 0, none⟩) = _; simp) rfl (by rw [HL.out]; rfl) (by rw [HL.out]; exact infoKey) keyC_one) ?_))
  exact bodyPost_ret (v := .agg (keyC k).toArray) (results_cell_row (P := Tryd.prog) (fn := Tryd.f17) rfl _ _ (w.heap.size + 1) 36 (keyC k).toArray (0, 0) _ rfl (new_obj' (w.alloc (.cells (keyC k).toArray 39)) (.cells (keyC k).toArray 36) (n := w.heap.size + 1) (by simp)) Tryd.underlying36 rfl (by rw [List.size_toArray, HL.out]; exact infoKey)) rfl ⟨rfl, by (repeat (first | with_reducible exact Fr.refl _ _ | with_reducible assumption | with_reducible refine Fr.drew ?_ | with_reducible refine Fr.drewN ?_ _ | with_reducible refine Fr.alloc ?_ _ | with_reducible refine Fr.setCell ?_ _ (.inl (by simp <;> omega)) _))⟩
end Go.Proofs.YthmaekkjpginoaaDoor
