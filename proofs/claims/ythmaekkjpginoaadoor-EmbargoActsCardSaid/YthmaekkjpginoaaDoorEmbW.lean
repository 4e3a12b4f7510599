/- pappusref16: the document's clock, its memory; Till. -/
import Derived.Test.YthmaekkjpginoaaDoorEmbJ
import Derived.Test.YthmaekkjpginoaaDoorEmbR
import Derived.Test.YthmaekkjpginoaaDoorEmbK
namespace Go.Proofs.YthmaekkjpginoaaDoor
open Go Go.RowKit Go.Maps Go.MapKept Go.Sort

def rkC (x : KT) : List Value := keyC x.1 ++ [.int .u64 x.2]
theorem rkC_len {x : KT} (h : x.1.ok) : (rkC x).length = 34 := by simp [rkC, keyC_len h]
theorem rkC_33 {x : KT} (h : x.1.ok) : (rkC x)[33]? = some (.int .u64 x.2) := by
  unfold rkC
  rw [List.getElem?_append_right (by rw [keyC_len h]; omega), keyC_len h]; rfl
theorem rkC_one {x : KT} : ∀ v ∈ rkC x, v.oneCell' = true := by
  intro v hv
  unfold rkC keyC at hv
  simp only [List.cons_append, List.mem_cons, List.mem_append, List.mem_map, List.not_mem_nil, or_false] at hv
  rcases hv with rfl | ⟨y, _, rfl⟩ | rfl <;> rfl
theorem rk_key {w : World} {b o : Nat} {x : KT} (h : w.rangeAt b o (rkC x)) : w.rangeAt b o (keyC x.1) := fun j v hj => h j v (by
  unfold rkC
  rw [List.getElem?_append_left (List.getElem?_eq_some_iff.1 hj).1]
  exact hj)
theorem undRHelds : Tryd.prog.underlying 51 = some (.slice 64) := by kernel_rfl
theorem descRHeld : ∃ d, Tryd.prog.underlying 64 = some d ∧ d.isRow = true := row_of (by kernel_rfl)
theorem infoRHeld : (Tryd.prog.info? 64).map (·.size) = some 34 := by kernel_rfl
theorem infoRHeldZ : (Tryd.prog.info? 64).map (fun i => (i.zero, i.size, i.bytes)) = some (some (.agg (rkC (key0, 0)).toArray), 34, 48) := by kernel_rfl
theorem infoRHeldZ2 : (Tryd.prog.info? 64).map (fun i => (i.zero, i.size)) = some (some (.agg (rkC (key0, 0)).toArray), 34) := by kernel_rfl
theorem undRKeys : Tryd.prog.underlying 59 = some (.slice 39) := by kernel_rfl
theorem infoRKeyZ : (Tryd.prog.info? 39).map (fun i => (i.zero, i.size, i.bytes)) = some (some (.agg (keyC key0).toArray), 33, 40) := by kernel_rfl
theorem infoRKeyZ2 : (Tryd.prog.info? 39).map (fun i => (i.zero, i.size)) = some (some (.agg (keyC key0).toArray), 33) := by kernel_rfl
theorem keyOfRKey {k : KeyD} (h : k.ok) : ∃ l, keyOf Tryd.prog 39 (keyV k) = some l := by
  have shape : structShape Tryd.prog 39 = [(3, 0, true), (34, 1, true)] := by kernel_rfl
  have hN : Tryd.prog.types.size = Tryd.prog.types.size - 2 + 2 := by kernel_rfl
  have hA : Tryd.prog.underlying 34 = some (.array 32 5) := by kernel_rfl
  refine keyOf_struct shape (by simp) (by decide) (by kernel_rfl) (cs := keyC k) (by rw [keyC_len h]; kernel_rfl) ?_
  intro x hx
  rw [hN]
  simp only [List.mem_cons, List.not_mem_nil, or_false] at hx
  rcases hx with rfl | rfl
  · have e : ((keyC k).drop 0).take (Tryd.prog.cellsOf 3) = [.int .i64 k.src] := by
      rw [show Tryd.prog.cellsOf 3 = 1 by kernel_rfl]; rfl
    exact ⟨_, by rw [e]; exact keyLitsInt (by kernel_rfl) _ (wf_i64 h.1)⟩
  · have e : ((keyC k).drop 1).take (Tryd.prog.cellsOf 34) = k.id.map (Value.int .u8) := by
      rw [show Tryd.prog.cellsOf 34 = 32 by kernel_rfl]
      show (k.id.map byteV).take 32 = k.id.map byteV
      rw [List.take_of_length_le (by simp [h.2.1])]
    simp only [e]
    exact keyLitsArray hA (by kernel_rfl) (by kernel_rfl) (by kernel_rfl) _ _ h.2.1 (fun x hx => wf_u8 (h.2.2 x hx))
theorem eqRKey : EqTy Tryd.prog 39 := ⟨Keyed.of_law (deep_law_laid laidOut (m := 3) (by decide) (of_decide_eq_true (by kernel_rfl)) (by kernel_rfl) (by kernel_rfl)), by kernel_rfl, by kernel_rfl, by kernel_rfl⟩

/-- The document's clock at p, made behind w0, as it stands in w; its blocks are U. -/
structure RT (w0 w : World) (p : Nat) (U : Nat → Prop) (T : List KT) : Prop where
  ex : ∃ rv, w.heap[p]? = some (.cells #[rv] 53 (0, 0)) ∧ SliceIs w rv T.length (T.flatMap rkC) ∧ U = (fun j => j = p ∨ rv.ownBlock = some j) ∧ rv.ownBlock ≠ some p
  lo : ∀ j, U j → w0.heap.size ≤ j
  fr : Fr No w0 w
  ok : ∀ x ∈ T, x.1.ok
section
variable {w0 w : World} {p : Nat} {U : Nat → Prop} {T : List KT}
theorem RT.hi (h : RT w0 w p U T) : ∀ j, U j → j < w.heap.size := by
  obtain ⟨rv, hb, hs, rfl, -⟩ := h.ex
  rintro j (rfl | hj)
  · exact obj_lt hb
  · exact hs.lt hj
theorem RT.frV {w' : World} (h : RT w0 w p U T) {V : Nat → Prop} (f : Fr V w w') (hV : ∀ j, U j → ¬ V j) (h0 : ∀ j, V j → w0.heap.size ≤ j) : RT w0 w' p U T := by
  obtain ⟨rv, hb, hs, rfl, hn⟩ := h.ex
  exact { h with
    ex := ⟨rv, f.obj hb (hV p (.inl rfl)), hs.keep f (fun b hb => hV b (.inr hb)), rfl, hn⟩
    fr := h.fr.trans f (fun i hi e => by have := h0 i e; omega) }
theorem RT.fr0 {w' : World} (h : RT w0 w p U T) (f : Fr No w w') : RT w0 w' p U T := h.frV f (fun _ _ => id) (fun _ h => h.elim)
theorem RT.len (h : RT w0 w p U T) : ∀ x ∈ T, (rkC x).length = 34 := fun x hx => rkC_len (h.ok x hx)

theorem till_step {T : List KT} {n : Nat} {x : KT} {k : KeyD} (hx : T[n]? = some x) (hno : ∀ y ∈ T.take n, y.1 ≠ k) (he : x.1 = k) : tillT T k = x.2 ∧ hasT T k = true := by
  have e : T = T.take n ++ x :: T.drop (n + 1) := by
    obtain ⟨hl, rfl⟩ := List.getElem?_eq_some_iff.1 hx
    simp
  constructor
  · unfold tillT
    rw [e, List.find?_append, List.find?_eq_none.2 (fun y hy => by simpa using hno y hy), Option.none_or, List.find?_cons, decide_eq_true he]
    rfl
  · unfold hasT
    rw [List.any_eq_true]
    exact ⟨x, List.mem_of_getElem? hx, decide_eq_true he⟩
set_option maxRecDepth 20000 in
set_option maxHeartbeats 4000000 in
theorem rtill_T (h : RT w0 w p U T) (hN : T.length ≤ 1000) (k : KeyD) (hk : k.ok) :
    Calls Tryd.prog 26 #[.pointer (some ⟨p, 0, none⟩), .agg (keyC k).toArray] w fun e w' => e = .returned (.tuple #[.int .u64 (tillT T k), .bool (hasT T k)]) ∧ Fr No w w' := by
  obtain ⟨rv, hb, hs, rfl, hne⟩ := h.ex
  obtain ⟨dH, uH, rH⟩ := descRHeld
  obtain ⟨dR, uR, rR⟩ := descRKey
  obtain ⟨ra, rc, rfl⟩ := hs.arg.form
  have OKT := Lib.hid h.ok
  have HKL := Lib.hid (keyC_len hk)
  have RB := Lib.hid (range_new w (keyC k) 39)
  have F0 := Lib.hid ((Fr.refl No w).alloc (.cells (keyC k).toArray 39))
  have SZ0 := Lib.hid (show w.heap.size < (w.alloc (.cells (keyC k).toArray 39)).heap.size by simp)
  have HS := Lib.hid hs
  have c0 : (w.alloc (.cells (keyC k).toArray 39)).cell? ⟨p, 0, none⟩ = some (.slice ra T.length rc) := by
    have := old_obj hb (.cells (keyC k).toArray 39)
    simp [World.cell?, this]
  clear h hb hs hne
  go_enter Tryd.func26, Tryd.ntmps26
  go_wp2_with fail
  generalize w.alloc (.cells (keyC k).toArray 39) = w1 at *
  go_loopw [13] (fun iv wr => ∃ n : Nat, iv = .int .i64 n ∧ n ≤ T.length ∧ (∀ y ∈ T.take n, y.1 ≠ k) ∧ Fr No w1 wr) (fun iv _ => T.length - (intOf iv).toNat)
  case atStart => exact ⟨0, rfl, Nat.zero_le _, by simp, Fr.refl _ _⟩
  case round =>
    obtain ⟨n, rfl, hn, hni, fr⟩ := hrel
    have FR := Lib.hid fr
    have NI := Lib.hid hni
    clear fr hni
    by_cases h : n < T.length
    · have i1 : (n : Int) < (T.length : Int) := by omega
      obtain ⟨x, hx⟩ : ∃ x, T[n]? = some x := ⟨_, List.getElem?_eq_getElem h⟩
      obtain ⟨b, off, cap, hv, hr, -⟩ := (HS.out.keep (F0.out.trans0 FR.out) (fun _ _ => id)).elem (by decide) (fun y hy => rkC_len (OKT.out y hy)) hx
      cases hv
      have XOK := Lib.hid (OKT.out x (List.mem_of_getElem? hx))
      have XL := Lib.hid (rkC_len XOK.out)
      have XK := Lib.hid (keyC_len XOK.out)
      have R1 := Lib.hid hr
      have nb := range_new wr (rkC x) 64
      have k33 : (wr.alloc (.cells (rkC x).toArray 64)).cell? ⟨wr.heap.size, 33, none⟩ = some (.int .u64 x.2) := by have := nb 33 _ (rkC_33 XOK.out); simpa using this
      have RN := Lib.hid (rk_key nb)
      have RB3 := Lib.hid (range_keep RB.out (FR.out.alloc (.cells (rkC x).toArray 64)) id)
      have FA := Lib.hid ((F0.out.trans0 FR.out).alloc (.cells (rkC x).toArray 64))
      have FB := Lib.hid (FR.out.alloc (.cells (rkC x).toArray 64))
      clear hr nb
      by_cases hxk : x.1 = k
      · obtain ⟨q1, q2⟩ := till_step hx NI.out hxk
        have Q1 := Lib.hid q1
        have Q2 := Lib.hid q2
        subst hxk
        clear q1 q2 hx
        go_wp2_with (first | (refine wpList_value rfl (exec_load (ty := 64) rfl rfl R1.out uH rH (by rw [XL.out]; exact infoRHeld)) ?_) | (refine wpList_done rfl (exec_store_new (w := wr) (ty := 64) rfl rfl rfl (by rw [XL.out]; rfl) (by rw [XL.out]; exact infoRHeld) rkC_one) ?_) | (refine wpList_value rfl (exec_load (ty := 39) rfl rfl RN.out uR rR (by rw [XK.out]; exact infoRKey)) ?_) | (refine wpList_value rfl (exec_load (ty := 39) rfl rfl RB3.out uR rR (by rw [XK.out]; exact infoRKey)) ?_) | (refine wpList_value rfl (eqRKey.exec_eql rfl rfl rfl (keyOfRKey XOK.out) (keyOfRKey XOK.out) true (by simp) _) ?_))
        go_ret2
        exact ⟨by rw [Q1.out, Q2.out]; rfl, FA.out⟩
      · have NE := Lib.hid (show ¬ (keyC x.1).toArray = (keyC k).toArray from fun e => hxk (keyV_inj (congrArg Value.agg e)))
        have NI2 := Lib.hid (show ∀ y ∈ T.take (n + 1), y.1 ≠ k by
          rw [List.take_add_one, hx]
          simp only [Option.toList_some, List.mem_append, List.mem_singleton]
          rintro y (hy | rfl)
          · exact NI.out y hy
          · exact hxk)
        clear hx
        go_wp2_with (first | (refine wpList_value rfl (exec_load (ty := 64) rfl rfl R1.out uH rH (by rw [XL.out]; exact infoRHeld)) ?_) | (refine wpList_done rfl (exec_store_new (w := wr) (ty := 64) rfl rfl rfl (by rw [XL.out]; rfl) (by rw [XL.out]; exact infoRHeld) rkC_one) ?_) | (refine wpList_value rfl (exec_load (ty := 39) rfl rfl RN.out uR rR (by rw [XK.out]; exact infoRKey)) ?_) | (refine wpList_value rfl (exec_load (ty := 39) rfl rfl RB3.out uR rR (by rw [HKL.out]; exact infoRKey)) ?_) | (refine wpList_value rfl (eqRKey.exec_eql rfl rfl rfl (keyOfRKey XOK.out) (keyOfRKey hk) false ⟨fun e => (by cases e), fun e => absurd e NE.out⟩ _) ?_))
        go_roundw
        case rel => exact ⟨n + 1, by simp, by omega, NI2.out, FB.out⟩
        case measure => show T.length - (n + 1) < T.length - n; omega
    · have i1 : ¬ (n : Int) < (T.length : Int) := by omega
      have i2 : n = T.length := by omega
      have FIN : hasT T k = false := by
        have := NI.out
        rw [i2, List.take_length] at this
        unfold hasT
        rw [List.any_eq_false]
        exact fun x hx => by simpa using this x hx
      have HF := Lib.hid FIN
      have HF2 := Lib.hid (tillT_none FIN)
      clear FIN i2
      go_wp2
      go_ret2
      exact ⟨by rw [HF.out, HF2.out]; rfl, F0.out.trans0 FR.out⟩
end
end Go.Proofs.YthmaekkjpginoaaDoor
