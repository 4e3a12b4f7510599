/- slices.DeleteFunc over ids. -/
import Derived.Test.YtnjkpjcnmdgoeaaKinC
import Derived.Test.YtnjkpjcnmdgoeaaSortK
import Derived.Test.YtnjkpjcnmdgoeaaRowB
import Derived.Lib.SliceRun
namespace Go
open Go.RowKit Go.Maps Go.MapKept
theorem run_clear_many {P : Program} (w : World) (t e ty : TypeId) (zs : List Value) (ht : P.underlying t = some (.slice e)) (hv : ∀ w, (zeroValue e).run P w = .ok (.agg zs.toArray) w) (h1 : ∀ v ∈ zs, v.oneCell' = true) (hz : 0 < zs.length) (b o n c : Nat) (hn : 0 < n)
    (hc : w.there b o (n * zs.length)) : ∃ cs : List Value, cs.length = n * zs.length ∧
    (Builtin.clear_ #[t] ty #[.slice (some ⟨b, o, none⟩) n c]).run P w = .ok (.tuple #[]) (w.setCells b o cs) := by
  have hl : (Builtin.zeroCells zs.toArray n).toList.length = n * zs.length := by simp [Builtin.zeroCells]
  have h2 : ∀ v ∈ (Builtin.zeroCells zs.toArray n).toList, v.oneCell' = true := by
    intro v hv'
    simp only [Builtin.zeroCells, Array.toList_map, List.mem_map, Array.toList_range, List.mem_range] at hv'
    obtain ⟨i, -, rfl⟩ := hv'
    have hm : i % zs.length < zs.length := Nat.mod_lt _ hz
    have e1 : zs.toArray[i % zs.toArray.size]! = zs[i % zs.length] := by
      simp only [List.size_toArray]
      rw [getElem!_pos _ _ (by simpa using hm)]
      simp
    rw [e1]
    exact h1 _ (List.getElem_mem _)
  refine ⟨(Builtin.zeroCells zs.toArray n).toList, hl, ?_⟩
  have hst := run_storeCells_cells (P := P) b o (Builtin.zeroCells zs.toArray n).toList 0 w (by rw [hl]; simpa using fun j hj => (hc j hj).1) (by rw [hl]; simpa using fun j hj => (hc j hj).2) h2
  simp only [Nat.add_zero] at hst
  obtain ⟨m, rfl⟩ : ∃ m, n = m + 1 := ⟨n - 1, by omega⟩
  simp [Builtin.clear_, run_underlying ht, hv, Value.cells, hst]
theorem setM_takeL : ∀ (cs xs : List Value) (o o' : Nat), o' ≤ o → (setM xs o cs).take o' = xs.take o'
  | [], _, _, _, _ => rfl
  | v :: r, xs, o, o', h => by
    simp only [setM]
    rw [setM_takeL r _ (o + 1) o' (by omega)]
    apply List.ext_getElem?
    intro i
    rw [List.getElem?_take, List.getElem?_take]
    split
    · rw [List.getElem?_set_ne (by omega)]
    · rfl
theorem own_takeK {w : World} {B g cap n m k : Nat} {e : TypeId} {xs : List Value} (h : w.ownsRow B e k (.slice (some ⟨g, 0, none⟩) n cap) n xs) (hm : m ≤ n) : w.ownsRow B e k (.slice (some ⟨g, 0, none⟩) m cap) m (xs.take (m * k)) := by
  have hmk : m * k ≤ n * k := Nat.mul_le_mul_right _ hm
  refine ⟨by rw [List.length_take, h.1]; omega, ?_⟩
  rcases h.2 with ⟨e1, _⟩ | ⟨g', cap', cur, e1, hb, hg, hn, hcm, hcs, ht⟩
  · cases e1
  · injection e1 with e2 e3 e4
    injection e2 with e2
    injection e2 with e5
    subst e5 e4
    exact .inr ⟨g, cap, cur, rfl, hb, hg, by omega, hcm, hcs, by rw [← ht, List.take_take, Nat.min_eq_left hmk]⟩
end Go
namespace Go.Proofs.Ytnjkpjcnmdgoeaa
open Go Go.RowKit Go.Maps Go.MapKept
/-- What the loop has done by m: the kept ones in front, the rest untouched. -/
structure Cutting (k : HashD) (l R : List HashD) (n m : Nat) : Prop where
  len : R.length = l.length
  pre : R.take n = (l.take m).filter fun x => decide (x ≠ k)
  suf : R.drop m = l.drop m
  lt : n < m
  le : m ≤ l.length
theorem Cutting.start {k : HashD} {l : List HashD} {n : Nat} (h : l[n]? = some k) (hn : k ∉ l.take n) : Cutting k l l n (n + 1) := by
  have hlt := (List.getElem?_eq_some_iff.1 h).1
  refine ⟨rfl, ?_, rfl, by omega, hlt⟩
  rw [List.take_add_one, h, List.filter_append]
  simp only [Option.toList_some]
  rw [List.filter_eq_self.2 (fun x hx => by simp; rintro rfl; exact hn hx)]
  simp
theorem Cutting.skip {k : HashD} {l R : List HashD} {n m : Nat} (h : Cutting k l R n m) (hm : l[m]? = some k) : Cutting k l R n (m + 1) := by
  have hlt := (List.getElem?_eq_some_iff.1 hm).1
  refine ⟨h.len, ?_, ?_, by have := h.lt; omega, hlt⟩
  · rw [List.take_add_one, hm, List.filter_append, h.pre]
    simp
  · rw [← List.drop_drop, h.suf, List.drop_drop]
theorem Cutting.keep {k x : HashD} {l R : List HashD} {n m : Nat} (h : Cutting k l R n m) (hm : l[m]? = some x) (hx : x ≠ k) : Cutting k l (R.set n x) (n + 1) (m + 1) := by
  have hlt := (List.getElem?_eq_some_iff.1 hm).1
  have h1 := h.lt
  have h2 := h.len
  refine ⟨by rw [List.length_set, h2], ?_, ?_, by omega, hlt⟩
  · rw [List.take_add_one (l := l), hm, List.filter_append, ← h.pre, List.take_add_one, List.getElem?_set_self (by omega)]
    have e : (R.set n x).take n = R.take n := by
      apply List.ext_getElem?
      intro i
      rw [List.getElem?_take, List.getElem?_take]
      split
      · rw [List.getElem?_set_ne (by omega)]
      · rfl
    rw [e]
    simp [hx]
  · rw [List.drop_set_of_lt (by omega), ← List.drop_drop, h.suf, List.drop_drop]
theorem Cutting.at_ {k x : HashD} {l R : List HashD} {n m : Nat} (h : Cutting k l R n m) (hm : l[m]? = some x) : R[m]? = some x := by
  have h1 : (R.drop m)[0]? = (l.drop m)[0]? := by rw [h.suf]
  simpa [hm] using h1
theorem Cutting.done {k : HashD} {l R : List HashD} {n : Nat} (h : Cutting k l R n l.length) : R.take n = l.filter fun x => decide (x ≠ k) := by rw [h.pre, List.take_length]
def DelOk (B : Nat) (w : World) (v : Value) (k : HashD) (l : List HashD) (v' : Value) (w' : World) : Prop :=
  w'.ownsRow B 30 32 v' (l.filter fun x => decide (x ≠ k)).length ((l.filter fun x => decide (x ≠ k)).flatMap hashC) ∧ Fr (fun j => v.ownBlock = some j) w w' ∧ (∀ j, v'.ownBlock = some j → v.ownBlock = some j)
theorem filter_none {k : HashD} {l : List HashD} (h : k ∉ l) : l.filter (fun x => decide (x ≠ k)) = l := List.filter_eq_self.2 fun x hx => by simp; rintro rfl; exact h hx
set_option maxRecDepth 20000 in
set_option maxHeartbeats 4000000 in
theorem deleteFunc_any {w : World} {B : Nat} {v : Value} {l : List HashD} (hl : w.ownsRow B 30 32 v l.length (l.flatMap hashC)) (ok : ∀ x ∈ l, hashOk x) (hN : l.length ≤ 100000) {q : Nat} {k : HashD} (hr : w.rangeAt q 0 (hashC k)) (hk : hashOk k) (hq : ∀ j, v.ownBlock = some j → j ≠ q) (_ : q < w.heap.size) :
    Calls Try.prog 40 #[v, sameV q] w fun e w' => ∃ v', e = .returned v' ∧ DelOk B w v k l v' w' := by
  obtain ⟨dK, uK, rK⟩ := descHash
  have zh := zeroHash
  have HI := Lib.hid (indexFunc_any w (IdsIs.own hl ok) hN hr hk)
  by_cases hin : k ∈ l
  · obtain ⟨va, vc, e⟩ := hl.slice.arg.form
    subst e
    obtain ⟨i, hi⟩ : ∃ i, l[i]? = some k ∧ k ∉ l.take i := by
      clear hl ok hN HI hr hk hq
      induction l with
      | nil => cases hin
      | cons y r ih =>
        by_cases e : y = k
        · exact ⟨0, by simp [e], by simp⟩
        · have hin' : k ∈ r := by
            rcases List.mem_cons.1 hin with h | h
            · exact absurd h.symm e
            · exact h
          obtain ⟨i, h1, h2⟩ := ih hin'
          exact ⟨i + 1, by simpa using h1, by simp; exact ⟨fun e' => e e'.symm, h2⟩⟩
    have EI := Lib.hid (idxI_at hi.1 hi.2)
    have ST := Lib.hid (Cutting.start hi.1 hi.2)
    have hil := (List.getElem?_eq_some_iff.1 hi.1).1
    obtain ⟨g, rfl⟩ : ∃ g, va = some ⟨g, 0, none⟩ := by
      rcases hl.2 with ⟨e, _⟩ | ⟨g, c, cur, e, _⟩
      · injection e with e1 e2; omega
      · injection e with e1; exact ⟨g, e1⟩
    have j1 : ¬ (i : Int) = -1 := by omega
    have HL := Lib.hid hl
    have RQ := Lib.hid hr
    have KOK := Lib.hid hk
    have OK := Lib.hid ok
    have NQ := Lib.hid (show ¬ q = g from fun e => hq g rfl e.symm)
    clear hl ok hr hk hq hi hin
    unfold sameV
    unfold sameV at HI
    go_enter Try.func40, Try.ntmps40
    go_wp2_with (go_at_call 44; refine HI.out.mono ?_; rintro e w1 ⟨rfl, f1⟩; rw [EI.out]; have F1 := Lib.hid f1; clear f1)
    rw [show ((i : Int) == -1) = false from by simp]
    clear j1
    go_loopw [5, 6] (fun nv mv wr => ∃ (n m : Nat) (R : List HashD), nv = .int .i64 n ∧ mv = .int .i64 m ∧ Cutting k l R n m ∧ wr.ownsRow B 30 32 (.slice (some ⟨g, 0, none⟩) l.length vc) l.length (R.flatMap hashC) ∧ (∀ x ∈ R, hashOk x) ∧ Fr (· = g) w wr) (fun _ mv _ => l.length - (intOf mv).toNat)
    case atStart => exact ⟨i, i + 1, l, rfl, by simp, ST.out, ownsRow_keep HL.out F1.out (fun _ _ => id), OK.out, F1.out.of0⟩
    case round =>
      obtain ⟨n, m, R, rfl, rfl, hc, ho, hok, fr⟩ := hrel
      have CU := Lib.hid hc
      have HO := Lib.hid ho
      have ROK := Lib.hid hok
      have FR := Lib.hid fr
      have hle := hc.le
      have hlt := hc.lt
      have RL := Lib.hid hc.len
      clear hc ho hok fr
      by_cases h : m < l.length
      · have i1 : (m : Int) < (l.length : Int) := by omega
        have i2 : (n : Int) < (l.length : Int) := by omega
        obtain ⟨x, hx⟩ : ∃ x, l[m]? = some x := ⟨_, List.getElem?_eq_getElem h⟩
        have hxR := CU.out.at_ hx
        have HO2 := Lib.hid (show wr.ownsRow B 30 32 (.slice (some ⟨g, 0, none⟩) R.length vc) R.length (R.flatMap hashC) by rw [RL.out]; exact HO.out)
        obtain ⟨b2, off2, cap2, hv, hrx, hb⟩ := (IdsIs.own HO2.out ROK.out).at_ hxR
        cases hv
        have OX := Lib.hid (OK.out x (List.mem_of_getElem? hx))
        have HX := Lib.hid (hashC_len OX.out)
        have R1 := Lib.hid (show wr.rangeAt g (m * 32) (hashC x) by simpa using hrx)
        have FA := Lib.hid ((Fr.refl No wr).alloc (.cells (hashC x).toArray 30))
        have RN := Lib.hid (range_new wr (hashC x) 30)
        have RQ2 := Lib.hid (range_keep (range_keep RQ.out FR.out NQ.out) FA.out id)
        have ZG := Lib.hid hb
        clear hrx hb hxR
        by_cases hxk : x = k
        · have D1 := Lib.hid (show decide (x = k) = true from decide_eq_true hxk)
          have CU2 := Lib.hid (CU.out.skip (hxk ▸ hx))
          clear hx hxk
          go_wp2_with (first | (refine wpList_value rfl (exec_load (ty := 30) rfl rfl R1.out uK rK (by rw [HX.out]; exact infoHash)) ?_) | (refine wpList_done rfl (exec_store_new (w := wr) (cs := hashC x) (ty := 30) rfl rfl rfl (by rw [HX.out]; rfl) (by rw [HX.out]; exact infoHash) hashC_one) ?_) | (refine wpList_value rfl (exec_load (ty := 30) rfl rfl RN.out uK rK (by rw [HX.out]; exact infoHash)) ?_) | (go_at_call 39; refine (same_any _ RQ2.out KOK.out OX.out).mono ?_; rintro e w2 ⟨rfl, f2⟩; rw [D1.out]; have F2 := Lib.hid (FA.out.trans0 f2); clear f2))
          go_roundw
          case rel => exact ⟨n, m + 1, R, rfl, by simp, CU2.out, ownsRow_keep HO.out F2.out (fun _ _ => id), ROK.out, FR.out.trans0 F2.out⟩
          case measure => show l.length - (m + 1) < l.length - m; omega
        · have D1 := Lib.hid (show decide (x = k) = false from decide_eq_false hxk)
          have CU2 := Lib.hid (CU.out.keep hx hxk)
          clear hx hxk
          go_wp2_with (first | (refine wpList_value rfl (exec_load (ty := 30) rfl rfl RN2.out uK rK (by rw [HX.out]; exact infoHash)) ?_) | (refine wpList_done rfl (exec_store (ty := 30) rfl rfl rfl (by rw [HX.out]; exact TH.out) (by rw [HX.out]; exact infoHash) hashC_one) ?_) | (refine wpList_value rfl (exec_load (ty := 30) rfl rfl R1.out uK rK (by rw [HX.out]; exact infoHash)) ?_) | (refine wpList_done rfl (exec_store_new (w := wr) (cs := hashC x) (ty := 30) rfl rfl rfl (by rw [HX.out]; rfl) (by rw [HX.out]; exact infoHash) hashC_one) ?_) | (refine wpList_value rfl (exec_load (ty := 30) rfl rfl RN.out uK rK (by rw [HX.out]; exact infoHash)) ?_) | (go_at_call 39; refine (same_any _ RQ2.out KOK.out OX.out).mono ?_; rintro e w2 ⟨rfl, f2⟩; rw [D1.out]; have F2 := Lib.hid (FA.out.trans0 f2); have RN2 := Lib.hid (range_keep RN.out f2 id); have HO3 := Lib.hid (ownsRow_keep HO2.out F2.out (fun _ _ => id)); have TH := Lib.hid (own_there HO3.out (show n < R.length by rw [RL.out]; omega)); clear f2))
          have HO4 := Lib.hid (own_set (f := hashC) (fun y hy => hashC_len (ROK.out y hy)) HO3.out (show n < R.length by rw [RL.out]; omega) x HX.out)
          have HO5 := Lib.hid (show (w2.setCells g (n * 32) (hashC x)).ownsRow B 30 32 (.slice (some ⟨g, 0, none⟩) l.length vc) l.length ((R.set n x).flatMap hashC) by have := HO4.out; rw [RL.out] at this; exact this)
          go_roundw
          case rel => exact ⟨n + 1, m + 1, R.set n x, by simp, by simp, CU2.out, HO5.out, fun y hy => (List.mem_or_eq_of_mem_set hy).elim (ROK.out y) (fun e => e ▸ OX.out), (FR.out.trans0 F2.out).trans (setCells_fr g (hashC x) (n * 32) w2) (fun _ _ h => h)⟩
          case measure => show l.length - (m + 1) < l.length - m; omega
      · have i1 : ¬ (m : Int) < (l.length : Int) := by omega
        have hml : m = l.length := by omega
        subst hml
        have DN := Lib.hid CU.out.done
        have HLF := Lib.hid (show (R.flatMap hashC).length = l.length * 32 from HO.out.1)
        have LN := Lib.hid (show (l.filter fun x => decide (x ≠ k)).length = n by rw [← DN.out, List.length_take, RL.out]; omega)
        obtain ⟨cs, hcs, hclr⟩ := run_clear_many (P := Try.prog) wr 27 30 0 (hashC hash0) undIds zeroHash hashC_one (by rw [hashC_len hash0_ok]; decide) g (n * 32) (l.length - n) (vc - n) (by omega) (fun j hj => by
          rw [hashC_len hash0_ok] at hj
          refine ⟨?_, HO.out.frozenAt _⟩
          rw [HO.out.cellAt (n * 32 + j) (by omega), List.getElem?_eq_getElem (by rw [HLF.out]; omega)]
          rfl)
        rw [hashC_len hash0_ok] at hcs
        have HS := Lib.hid (own_setAt HO.out (n * 32) (cs := cs) (by rw [hcs]; omega))
        have HT := Lib.hid (own_takeK HS.out (m := n) (by omega))
        have HF := Lib.hid (show (setM (R.flatMap hashC) (n * 32) cs).take (n * 32) = (l.filter fun x => decide (x ≠ k)).flatMap hashC by
          rw [setM_takeL _ _ _ _ (Nat.le_refl _), ← DN.out]
          conv => lhs; rw [← List.take_append_drop n R]
          rw [List.flatMap_append, List.take_append_of_le_length, List.take_of_length_le]
          · rw [flatR_len hashC 32 _ (fun a ha => hashC_len (ROK.out a (List.mem_of_mem_take ha))), List.length_take, RL.out]; omega
          · rw [flatR_len hashC 32 _ (fun a ha => hashC_len (ROK.out a (List.mem_of_mem_take ha))), List.length_take, RL.out]; omega)
        have FZ := Lib.hid (FR.out.trans (setCells_fr g cs (n * 32) wr) (fun _ _ h => h))
        have CLR := Lib.hid hclr
        have hcap : l.length ≤ vc := ArgIs.cap HO.out.slice.arg
        have jc : ¬ vc = n := by omega
        have jc2 : ¬ n = vc := by omega
        clear hclr hcs
        go_wp2_with (refine wpList_clear_run rfl rfl rfl CLR.out ?_)
        go_ret
        refine ⟨.slice (some ⟨g, 0, none⟩) n vc, by rfl, ?_, FZ.out.mono (fun j hj => by rw [hj]; rfl), fun _ h => h⟩
        rw [LN.out, ← HF.out]
        exact HT.out
  · have EI := Lib.hid (idxI_none hin)
    have FN := Lib.hid (filter_none hin)
    obtain ⟨va, vc, e⟩ := hl.slice.arg.form
    subst e
    have HL := Lib.hid hl
    clear hl ok hr hk hq hin
    unfold sameV
    unfold sameV at HI
    go_enter Try.func40, Try.ntmps40
    go_wp2_with (go_at_call 44; refine HI.out.mono ?_; rintro e w1 ⟨rfl, f1⟩; rw [EI.out]; have F1 := Lib.hid f1; clear f1)
    go_ret
    exact ⟨_, by rfl, by rw [FN.out]; exact ownsRow_keep HL.out F1.out (fun _ _ => id), F1.out.of0, fun _ h => h⟩
end Go.Proofs.Ytnjkpjcnmdgoeaa
