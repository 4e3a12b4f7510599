/- pappusref09: the document's set, its memory; Find. -/
import Derived.Test.YtoaefhjmpfchiaaCoiBackW
import Derived.Test.YtoaefhjmpfchiaaCoiB2
namespace Go.Proofs.Ytoaefhjmpfchiaa
open Go Go.RowKit Go.Maps Go.MapKept Go.Sort

/-- The document's set at p, made behind w0, as it stands in w; its blocks are U. -/
structure RC (w0 w : World) (p : Nat) (U : Nat → Prop) (S : List CoinD) : Prop where
  ex : ∃ rv, w.heap[p]? = some (.cells #[rv] 51 (0, 0)) ∧ SliceIs w rv S.length (S.flatMap coinC) ∧ U = (fun j => j = p ∨ rv.ownBlock = some j) ∧ rv.ownBlock ≠ some p
  lo : ∀ j, U j → w0.heap.size ≤ j
  fr : Fr No w0 w
  ok : ∀ x ∈ S, x.ok
section
variable {w0 w : World} {p : Nat} {U : Nat → Prop} {S : List CoinD}
theorem RC.hi (h : RC w0 w p U S) : ∀ j, U j → j < w.heap.size := by
  obtain ⟨rv, hb, hs, rfl, -⟩ := h.ex
  rintro j (rfl | hj)
  · exact obj_lt hb
  · exact hs.lt hj
theorem RC.frV {w' : World} (h : RC w0 w p U S) {V : Nat → Prop} (f : Fr V w w') (hV : ∀ j, U j → ¬ V j) (h0 : ∀ j, V j → w0.heap.size ≤ j) : RC w0 w' p U S := by
  obtain ⟨rv, hb, hs, rfl, hn⟩ := h.ex
  exact { h with
    ex := ⟨rv, f.obj hb (hV p (.inl rfl)), hs.keep f (fun b hb => hV b (.inr hb)), rfl, hn⟩
    fr := h.fr.trans f (fun i hi e => by have := h0 i e; omega) }
theorem RC.fr0 {w' : World} (h : RC w0 w p U S) (f : Fr No w w') : RC w0 w' p U S := h.frV f (fun _ _ => id) (fun _ h => h.elim)
/-- s.L = l. -/
theorem RC.turn {w1 : World} (h : RC w0 w p U S) (f : Fr No w w1) {l : Value} {S' : List CoinD} (ho : w1.ownsRow w.heap.size 38 66 l S'.length (S'.flatMap coinC)) (ok : ∀ x ∈ S', x.ok) :
    RC w0 (w1.setCell ⟨p, 0, none⟩ l) p (fun j => j = p ∨ l.ownBlock = some j) S' ∧ Fr U w (w1.setCell ⟨p, 0, none⟩ l) ∧ (∀ j, (j = p ∨ l.ownBlock = some j) → U j ∨ w.heap.size ≤ j) := by
  have hlo := h.lo
  obtain ⟨rv, hb, hs, rfl, hne⟩ := h.ex
  have hp : p < w.heap.size := obj_lt hb
  have hlb : ∀ b, l.ownBlock = some b → w.heap.size ≤ b := fun b hb => (ho.lt b hb).1
  have hset := setCells_heap p 51 [l] 0 w1 #[rv] (f.obj hb id)
  have fs : Fr (fun j => j = p) w1 (w1.setCell ⟨p, 0, none⟩ l) := Fr.setCell (W := fun j => j = p) (Fr.refl _ w1) ⟨p, 0, none⟩ (.inr rfl) _
  refine ⟨{ ex := ⟨l, hset, ho.slice.keep fs (fun b hb e => by have := hlb b hb; omega), rfl, fun e => by have := hlb p e; omega⟩, lo := ?_, fr := ?_, ok := ok }, (f.of0.trans fs (fun _ _ e => .inl e)), ?_⟩
  · rintro j (rfl | hj)
    · exact hlo _ (.inl rfl)
    · exact Nat.le_trans h.fr.size (hlb j hj)
  · exact (h.fr.trans0 f).trans fs (fun i hi e => by subst e; have := hlo i (.inl rfl); omega)
  · rintro j (rfl | hj)
    · exact .inl (.inl rfl)
    · exact .inr (hlb j hj)
/-- &Set{}. -/
theorem rcnew (f : Fr No w0 w) : RC w0 (w.alloc (.cells #[.slice none 0 0] 51)) w.heap.size (fun j => j = w.heap.size ∨ (Value.slice none 0 0).ownBlock = some j) [] where
  ex := ⟨_, new_obj w (.cells #[.slice none 0 0] 51), .inl ⟨rfl, rfl, rfl⟩, rfl, by simp [Value.ownBlock]⟩
  lo := by
    rintro j (rfl | hj)
    · exact f.size
    · cases hj
  fr := f.alloc _
  ok := by simp
omit w0 w p U S in
theorem find_step {S : List CoinD} {n : Nat} {x : CoinD} {k : PointD} (hx : S[n]? = some x) (hno : ∀ y ∈ S.take n, y.at_ ≠ k) (he : x.at_ = k) : outOf S k = x.out ∧ hasC S k = true := by
  have e : S = S.take n ++ x :: S.drop (n + 1) := by
    obtain ⟨hl, rfl⟩ := List.getElem?_eq_some_iff.1 hx
    simp
  constructor
  · unfold outOf findC
    rw [e, List.find?_append, List.find?_eq_none.2 (fun y hy => by simpa using hno y hy), Option.none_or, List.find?_cons, decide_eq_true he]
    rfl
  · exact hasC_iff.2 ⟨x, List.mem_of_getElem? hx, he⟩
set_option maxRecDepth 20000 in
set_option maxHeartbeats 4000000 in
theorem rfind_C (h : RC w0 w p U S) (hN : S.length ≤ 100000) {q : PointD} (hq : q.ok) :
    Calls Try.prog 24 #[.pointer (some ⟨p, 0, none⟩), .agg (pointC q).toArray] w fun e w' => e = .returned (.tuple #[.agg (outC (outOf S q)).toArray, .bool (hasC S q)]) ∧ Fr No w w' := by
  obtain ⟨rv, hb, hs, rfl, hne⟩ := h.ex
  obtain ⟨dC, uC, rC⟩ := descCoin
  obtain ⟨dP, uP, rP⟩ := descPoint
  obtain ⟨dO, uO, rO⟩ := descOut
  obtain ⟨ra, rc, rfl⟩ := hs.arg.form
  have zc := zeroCoin
  have zo := zeroOutC
  have OKS := Lib.hid h.ok
  have HQ := Lib.hid hq
  have QL := Lib.hid (pointC_len hq)
  have HS := Lib.hid hs
  have OL0 := Lib.hid (outC_len out0_ok)
  have f1 : Fr No w ((w.alloc (.cells (pointC q).toArray 27)).alloc (.cells (outC out0).toArray 36)) := ((Fr.refl No w).alloc _).alloc _
  have c0 : ((w.alloc (.cells (pointC q).toArray 27)).alloc (.cells (outC out0).toArray 36)).cell? ⟨p, 0, none⟩ = some (.slice ra S.length rc) := (blk1 (f1.obj hb id)).1
  have RB := Lib.hid (range_keep (range_new w (pointC q) 27) ((Fr.refl No _).alloc (.cells (outC out0).toArray 36)) id)
  have HRC := Lib.hid (new_obj' (w.alloc (.cells (pointC q).toArray 27)) (.cells (outC out0).toArray 36) (n := w.heap.size + 1) (by simp))
  have F1 := Lib.hid f1
  clear h hb hs hne f1 hq
  go_enter Try.func24, Try.ntmps24
  go_wp2_with fail
  generalize hq1 : w.heap.size = n0 at *
  generalize (w.alloc (.cells (pointC q).toArray 27)).alloc (.cells (outC out0).toArray 36) = w1 at *
  clear c0
  go_loopw [13] (fun iv wr => ∃ n : Nat, iv = .int .i64 n ∧ n ≤ S.length ∧ (∀ y ∈ S.take n, y.at_ ≠ q) ∧ Fr No w1 wr) (fun iv _ => S.length - (intOf iv).toNat)
  case atStart => exact ⟨0, rfl, Nat.zero_le _, by simp, Fr.refl _ _⟩
  case round =>
    obtain ⟨n, rfl, hn, hni, fr⟩ := hrel
    have FR := Lib.hid fr
    have NI := Lib.hid hni
    clear fr hni
    by_cases h : n < S.length
    · have i1 : (n : Int) < (S.length : Int) := by omega
      obtain ⟨c, hx⟩ : ∃ x, S[n]? = some x := ⟨_, List.getElem?_eq_getElem h⟩
      obtain ⟨b, off, cap, hv, hr, -⟩ := (HS.out.keep (F1.out.trans0 FR.out) (fun _ _ => id)).elem (by decide) (fun y hy => coinC_len (OKS.out y hy)) hx
      cases hv
      have COK := Lib.hid (OKS.out c (List.mem_of_getElem? hx))
      have CL := Lib.hid (coinC_len COK.out)
      have PL := Lib.hid (pointC_len COK.out.1)
      have OL := Lib.hid (outC_len COK.out.2)
      have R1 := Lib.hid hr
      have nb := range_new wr (coinC c) 38
      have RP := Lib.hid (coin_at nb)
      have RO := Lib.hid (show (wr.alloc (.cells (coinC c).toArray 38)).rangeAt wr.heap.size 33 (outC c.out) by have := coin_out COK.out nb; rwa [Nat.zero_add] at this)
      have FB := Lib.hid (FR.out.alloc (.cells (coinC c).toArray 38))
      have RQ := Lib.hid (range_keep RB.out FB.out id)
      have HRC2 := Lib.hid (FB.out.obj HRC.out id)
      clear hr nb
      by_cases hxk : c.at_ = q
      · obtain ⟨q1, q2⟩ := find_step hx NI.out hxk
        have Q1 := Lib.hid q1
        have Q2 := Lib.hid q2
        subst hxk
        clear q1 q2 hx
        go_wp2_with (first | (refine wpList_value rfl (exec_load (ty := 27) rfl rfl RP.out uP rP (by rw [PL.out]; exact infoPoint)) ?_) | (refine wpList_value rfl (exec_load (ty := 38) rfl rfl R1.out uC rC (by rw [CL.out]; exact infoCoin)) ?_) | (refine wpList_done rfl (exec_store_new (w := wr) (cs := coinC c) (ty := 38) rfl rfl rfl (by rw [CL.out]; rfl) (by rw [CL.out]; exact infoCoin) coinC_one) ?_) | (refine wpList_value rfl (exec_load (ty := 27) rfl rfl RQ.out uP rP (by rw [PL.out]; exact infoPoint)) ?_) | (refine wpList_value rfl (eqPoint.exec_eql rfl rfl rfl (keyOfPoint COK.out.1) (keyOfPoint COK.out.1) true ⟨fun _ => rfl, fun _ => rfl⟩ _) ?_) | (refine wpList_value rfl (exec_load (ty := 36) rfl rfl RO.out uO rO (by rw [OL.out]; exact infoOut)) ?_) | (refine wpList_done rfl (exec_store (ty := 36) (cs := outC c.out) rfl rfl rfl (by rw [OL.out]; exact there_obj HRC2.out (Nat.le_of_eq out0_size.symm)) (by rw [OL.out]; exact infoOut) outC_one) ?_))
        refine bodyPost_ret (results_row_tmp (P := Try.prog) (fn := Try.f24) rfl _ rfl (range_set HRC2.out (by rw [OL.out]; exact out0_size)) uO rO (by rw [OL.out]; exact infoOut) rfl) rfl ⟨by rw [Q1.out, Q2.out]; rfl, ?_⟩
        exact (F1.out.trans0 FB.out).trans (setCells_fr _ _ _ _) (fun i hi e => by omega)
      · have NE := Lib.hid (show ¬ (pointC c.at_).toArray = (pointC q).toArray from fun e => hxk (pointV_inj (congrArg Value.agg e)))
        have NI2 := Lib.hid (show ∀ y ∈ S.take (n + 1), y.at_ ≠ q by
          rw [List.take_add_one, hx]
          simp only [Option.toList_some, List.mem_append, List.mem_singleton]
          rintro y (hy | rfl)
          · exact NI.out y hy
          · exact hxk)
        clear hx
        go_wp2_with (first | (refine wpList_value rfl (exec_load (ty := 27) rfl rfl RP.out uP rP (by rw [PL.out]; exact infoPoint)) ?_) | (refine wpList_value rfl (exec_load (ty := 38) rfl rfl R1.out uC rC (by rw [CL.out]; exact infoCoin)) ?_) | (refine wpList_done rfl (exec_store_new (w := wr) (cs := coinC c) (ty := 38) rfl rfl rfl (by rw [CL.out]; rfl) (by rw [CL.out]; exact infoCoin) coinC_one) ?_) | (refine wpList_value rfl (exec_load (ty := 27) rfl rfl RQ.out uP rP (by rw [QL.out]; exact infoPoint)) ?_) | (refine wpList_value rfl (eqPoint.exec_eql rfl rfl rfl (keyOfPoint COK.out.1) (keyOfPoint HQ.out) false ⟨fun e => (by cases e), fun e => absurd e NE.out⟩ _) ?_))
        go_roundw
        case rel => exact ⟨n + 1, by simp, by omega, NI2.out, FB.out⟩
        case measure => show S.length - (n + 1) < S.length - n; omega
    · have i1 : ¬ (n : Int) < (S.length : Int) := by omega
      have FIN : hasC S q = false := by
        have := NI.out
        rw [show n = S.length by omega, List.take_length] at this
        exact hasC_not.2 this
      have HF := Lib.hid FIN
      have HF2 := Lib.hid (show outOf S q = out0 by unfold outOf; rw [findC_none FIN]; rfl)
      have bo : ∀ w, (Instr.build 36 #[]).run Try.prog w = .ok (.agg (outC out0).toArray) w := fun w => by kernel_rfl
      have HRC2 := Lib.hid (FR.out.obj HRC.out id)
      clear FIN
      go_wp2_with (first | (refine wpList_value rfl (exec_bld (t := 36) rfl rfl (bo _)) ?_) | (refine wpList_done rfl (exec_store (ty := 36) (cs := outC out0) rfl rfl rfl (by rw [OL0.out]; exact there_obj HRC2.out (Nat.le_of_eq out0_size.symm)) (by rw [OL0.out]; exact infoOut) outC_one) ?_))
      refine bodyPost_ret (results_row_tmp (P := Try.prog) (fn := Try.f24) rfl _ rfl (range_set HRC2.out (by rw [OL0.out]; exact out0_size)) uO rO (by rw [OL0.out]; exact infoOut) rfl) rfl ⟨by rw [HF.out, HF2.out]; rfl, ?_⟩
      exact (F1.out.trans0 FR.out).trans (setCells_fr _ _ _ _) (fun i hi e => by omega)
end
end Go.Proofs.Ytoaefhjmpfchiaa
