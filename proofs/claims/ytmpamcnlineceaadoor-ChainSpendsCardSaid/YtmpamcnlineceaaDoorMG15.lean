/- coin: a set's memory; New. -/
import Derived.Outline
import Derived.Test.YtmpamcnlineceaaDoorMG14
import Derived.Test.YtmpamcnlineceaaDoorMG5
import Derived.Test.YtmpamcnlineceaaDoorMG4
set_option linter.unusedVariables false
set_option linter.unusedSimpArgs false
namespace Go.Proofs.YtmpamcnlineceaaDoor
open Go Go.RowKit Go.Maps Go.MapKept

theorem sub_len {α : Type} : ∀ {A B : List α}, A.Nodup → (∀ x ∈ A, x ∈ B) → A.length ≤ B.length ∧ (A.length = B.length → A.Perm B)
  | [], B, _, _ => ⟨Nat.zero_le _, fun h => by rw [List.eq_nil_of_length_eq_zero h.symm]⟩
  | a :: A, B, hn, hs => by
    obtain ⟨B1, B2, rfl⟩ := List.append_of_mem (hs a (by simp))
    obtain ⟨h1, h2⟩ := List.nodup_cons.1 hn
    obtain ⟨i1, i2⟩ := sub_len (A := A) (B := B1 ++ B2) h2 (fun x hx => by
      have := hs x (by simp [hx])
      simp only [List.mem_append, List.mem_cons] at this ⊢
      rcases this with h | rfl | h
      · exact .inl h
      · exact absurd hx h1
      · exact .inr h)
    simp only [List.length_append, List.length_cons] at *
    refine ⟨by omega, fun h => ?_⟩
    exact (List.Perm.cons a (i2 (by omega))).trans List.perm_middle.symm
theorem len_nodup {α : Type} {A B : List α} (hA : A.Nodup) (h : ∀ x, x ∈ A ↔ x ∈ B) : A.length = B.length ↔ B.Nodup := by
  constructor
  · intro e
    exact ((sub_len hA (fun x hx => (h x).1 hx)).2 e).nodup_iff.1 hA
  · intro hB
    exact Nat.le_antisymm (sub_len hA (fun x hx => (h x).1 hx)).1 (sub_len hB (fun x hx => (h x).2 hx)).1

abbrev AtMap (w : World) (m : Nat) (M : List (PointD × OutD)) : Prop := MapIs Tryd.prog 47 pointV outV w m M
/-- The set at p, made behind w0, as it stands in w; its blocks are V; S its coins. -/
structure CS (w0 w : World) (p : Nat) (V : Nat → Prop) (S : List CoinD) : Prop where
  ex : ∃ m M, w.heap[p]? = some (.cells #[.map (some m)] 123 (0, 0)) ∧ AtMap w m M ∧ (∀ k v, (k, v) ∈ M ↔ (⟨k, v⟩ : CoinD) ∈ S) ∧ p ≠ m ∧ V = fun j => j = p ∨ j = m
  srt : SrtC S
  ok : ∀ c ∈ S, c.ok
  lo : ∀ j, V j → w0.heap.size ≤ j
  fr : Fr No w0 w
section
variable {w0 w : World} {p : Nat} {V : Nat → Prop} {S : List CoinD}
theorem CS.hi (h : CS w0 w p V S) : ∀ j, V j → j < w.heap.size := by
  obtain ⟨m, M, hb, hm, -, -, rfl⟩ := h.ex
  rintro j (rfl | rfl)
  · exact obj_lt hb
  · exact hm.lt
theorem CS.frV {w' : World} (h : CS w0 w p V S) {U : Nat → Prop} (f : Fr U w w') (hU : ∀ j, V j → ¬ U j) (h0 : ∀ j, U j → w0.heap.size ≤ j) : CS w0 w' p V S := by
  obtain ⟨m, M, hb, hm, hs, hne, rfl⟩ := h.ex
  exact { h with
    ex := ⟨m, M, f.obj hb (hU p (.inl rfl)), hm.keep f (hU m (.inr rfl)), hs, hne, rfl⟩
    fr := h.fr.trans f (fun i hi e => by have := h0 i e; omega) }
theorem CS.fr0 {w' : World} (h : CS w0 w p V S) (f : Fr No w w') : CS w0 w' p V S := h.frV f (fun _ _ => id) (fun _ h => h.elim)
theorem CS.base {wb : World} (h : CS w0 w p V S) (f : Fr No wb w0) : CS wb w p V S := { h with lo := fun j hj => Nat.le_trans f.size (h.lo j hj), fr := f.trans0 h.fr }
omit w0 w p V S in
theorem pairs_len {w : World} {m : Nat} {M : List (PointD × OutD)} {S : List CoinD} (hm : AtMap w m M) (hs : ∀ k v, (k, v) ∈ M ↔ (⟨k, v⟩ : CoinD) ∈ S) (srt : SrtC S) : M.length = S.length := by
  have h1 : (M.map fun x => (⟨x.1, x.2⟩ : CoinD)).Nodup := by
    have := hm.nodup
    unfold List.Nodup at *
    rw [List.pairwise_map] at *
    exact this.imp (fun h e => h (by injection e))
  have h2 : S.Nodup := by
    have := srt.nodup
    unfold List.Nodup at *
    rw [List.pairwise_map] at this
    exact this.imp (fun h e => h (by rw [e]))
  have h3 := (List.perm_ext_iff_of_nodup h1 h2).2 (fun x => by
    rw [← show (⟨x.at_, x.out⟩ : CoinD) = x from rfl, ← hs]
    constructor
    · intro h
      obtain ⟨y, hy, e⟩ := List.mem_map.1 h
      injection e with e1 e2
      rw [← e1, ← e2]
      exact hy
    · intro h
      exact List.mem_map.2 ⟨_, h, rfl⟩)
  rw [← h3.length_eq, List.length_map]

omit w0 w p V S in
theorem run_makeAt (w : World) : (Instr.makeMap 121 none).run Tryd.prog w = .ok (.map (some w.heap.size)) (w.alloc (.map #[] 0)) := by kernel_rfl

omit w0 w p V S in
theorem new_pre (w : World) : ∃ w1, w1 = (w.alloc (.map #[] 0)).alloc (.cells #[.map (some w.heap.size)] 123) ∧ Fr No w w1 ∧ AtMap w1 w.heap.size [] ∧ w1.heap[w.heap.size + 1]? = some (.cells #[.map (some w.heap.size)] 123 (0, 0)) := by
  refine ⟨_, rfl, ((Fr.refl No w).alloc _).alloc _, (MapIs.made w).keep (W := No) ((Fr.refl _ _).alloc _) id, ?_⟩
  exact new_obj' (w.alloc (.map #[] 0)) (.cells #[.map (some w.heap.size)] 123) (n := w.heap.size + 1) (by simp)

omit w0 w p V S in
def NewRaw (w : World) (l : List CoinD) (e : Ending) (w' : World) : Prop := ∃ M, e = .returned (if (l.map (·.at_)).Nodup then .tuple #[.pointer (some ⟨w.heap.size + 1, 0, none⟩), .int .i64 0] else .tuple #[.pointer none, .int .i64 12]) ∧ AtMap w' w.heap.size M ∧ w'.heap[w.heap.size + 1]? = some (.cells #[.map (some w.heap.size)] 123 (0, 0)) ∧ Fr No w w' ∧ ((l.map (·.at_)).Nodup → ∀ k v, (k, v) ∈ M ↔ (⟨k, v⟩ : CoinD) ∈ l)
omit w0 w p V S in
set_option maxRecDepth 20000 in
set_option maxHeartbeats 4000000 in
theorem new_raw (w : World) {v : Value} {l : List CoinD} (hl : CoinsIs w v l) (hN : l.length ≤ 100000) :
    Calls Tryd.prog 35 #[v] w (NewRaw w l) := by
  obtain ⟨dC, uC, rC⟩ := descCoin
  obtain ⟨dP, uP, rP⟩ := descPoint
  obtain ⟨dO, uO, rO⟩ := descOut
  obtain ⟨va, vc, rfl⟩ := hl.2.form
  have HL := Lib.hid hl
  obtain ⟨w1, hw1, f1, hm1, hb1⟩ := new_pre w
  have F1 := Lib.hid f1
  have HM1 := Lib.hid hm1
  have HB1 := Lib.hid hb1
  have SZ := Lib.hid (Nat.lt_of_lt_of_le (obj_lt hb1) (Nat.le_refl _))
  have m1 := run_makeAt
  clear hl f1 hm1 hb1
  go_enter Tryd.func35, Tryd.ntmps35
  go_wp2_with fail
  rw [← hw1]
  clear hw1 m1
  generalize hq : w.heap.size = q at *
  go_loopw [12] (fun iv wr => ∃ (n : Nat) (M : List (PointD × OutD)), iv = .int .i64 n ∧ n ≤ l.length ∧ AtMap wr q M ∧ wr.heap[q + 1]? = some (.cells #[.map (some q)] 123 (0, 0)) ∧ (∀ k v, (k, v) ∈ M → (⟨k, v⟩ : CoinD) ∈ l.take n) ∧ (∀ c ∈ l.take n, ∃ v, (c.at_, v) ∈ M) ∧ M.length ≤ n ∧ Fr No w wr) (fun iv _ => l.length - (intOf iv).toNat)
  case atStart => exact ⟨0, [], rfl, Nat.zero_le _, HM1.out, HB1.out, by simp, by simp, Nat.le_refl _, F1.out⟩
  case round =>
    obtain ⟨n, M, rfl, hn, hm, hb, h1, h2, hMl, fr⟩ := hrel
    have HM := Lib.hid hm
    have HB := Lib.hid hb
    have FR := Lib.hid fr
    have H1 := Lib.hid h1
    have H2 := Lib.hid h2
    clear h1 h2 fr hm
    by_cases h : n < l.length
    · have i1 : (n : Int) < (l.length : Int) := by omega
      obtain ⟨c, hx⟩ : ∃ c, l[n]? = some c := ⟨_, List.getElem?_eq_getElem h⟩
      obtain ⟨b, off, cap, hv, hr, -⟩ := (HL.out.keep FR.out).at_ hx
      cases hv
      have COK := Lib.hid (HL.out.1 c (List.mem_of_getElem? hx))
      have CL := Lib.hid (coinC_len COK.out)
      have PL := Lib.hid (pointC_len COK.out.1)
      have OL := Lib.hid (outC_len COK.out.2)
      have R1 := Lib.hid hr
      have nb := range_new wr (coinC c) 57
      have RP := Lib.hid (coin_at nb)
      have RO := Lib.hid (show (wr.alloc (.cells (coinC c).toArray 57)).rangeAt wr.heap.size 33 (outC c.out) by have := coin_out COK.out nb; rwa [Nat.zero_add] at this)
      have zc := zeroCoin
      have hTN : l.take (n + 1) = l.take n ++ [c] := by rw [List.take_add_one, hx]; rfl
      have fA := (Fr.refl No wr).alloc (.cells (coinC c).toArray 57)
      have FA := Lib.hid (FR.out.trans0 fA)
      have hbA := fA.obj hb id
      have cA : (wr.alloc (.cells (coinC c).toArray 57)).cell? ⟨q + 1, 0, none⟩ = some (.map (some q)) := (blk1 hbA).1
      have CA := Lib.hid cA
      have HBA := Lib.hid hbA
      have hne : q < wr.heap.size := HM.out.lt
      obtain ⟨w3, M', hr3, hM3, hU, hT, hl3⟩ := ((HM.out.keep fA id).keep (Fr.refl No _).drew id).upd eqPoint.keyed undAtMap (fun _ _ => pointV_inj) (keyOfPoint COK.out.1) (by unfold maxLen; omega) c.out
      have fT := hT.fr
      have HR := Lib.hid hr3
      have HM3 := Lib.hid hM3
      have HB3 := Lib.hid (fT.obj (show (wr.alloc (.cells (coinC c).toArray 57)).drew.heap[q + 1]? = _ from hbA) (fun e => by omega))
      have S3 := Lib.hid (show w3.cell? ⟨q + 1, 0, none⟩ = some (.map (some q)) ∧ w3.rangeAt wr.heap.size 0 (pointC c.at_) ∧ w3.rangeAt wr.heap.size 33 (outC c.out) from ⟨(blk1 HB3.out).1, range_keep (range_keep RP.out (Fr.refl No _).drew id) fT (fun e => by omega), range_keep (range_keep RO.out (Fr.refl No _).drew id) fT (fun e => by omega)⟩)
      have F3 := Lib.hid (FA.out.drew.trans fT (fun i hi e => by omega))
      have HU := Lib.hid hU
      have HL3 := Lib.hid hl3
      clear hr nb cA hr3 hM3 hU hT hl3 fT fA hb hbA
      go_wp2_with (first | (refine wpList_value rfl (exec_load (ty := 57) rfl rfl R1.out uC rC (by rw [CL.out]; exact infoCoin)) ?_) | (refine wpList_done rfl (exec_store_new (w := wr) (ty := 57) rfl rfl rfl (by rw [CL.out]; rfl) (by rw [CL.out]; exact infoCoin) coinC_one) ?_))
      refine wp_region_lexL [false, false, false, false, false, false, false, false, true] (fun w' => w'.cell? ⟨q + 1, 0, none⟩ = some (.map (some q)) ∧ w'.rangeAt wr.heap.size 0 (pointC c.at_) ∧ w'.rangeAt wr.heap.size 33 (outC c.out)) (by kernel_rfl) (by kernel_rfl) ?_ (fun K hK => ?_)
      · exact ⟨CA.out, range_keep RP.out (Fr.refl No _).drew id, range_keep RO.out (Fr.refl No _).drew id⟩
      repeat (first | ((first | with_reducible refine lexL_read ?_ | ((with_reducible refine lexL_readG ?_ ?_); (focus rfl))); apply Exists.intro; refine ⟨?_, ?_⟩; (focus (first | exact lex_load (ty := 47) rfl (fun w h => h.2.1) uP rP (by rw [PL.out]; exact infoPoint) | exact lex_load (ty := 55) rfl (fun w h => h.2.2) uO rO (by rw [OL.out]; exact infoOut) | (intro w' hS; obtain ⟨s1, s2, s3⟩ := hS; go_simp; (try with_reducible rfl); done))); try simp only [Act.put, List.setIfInBounds_toArray, List.set_cons_zero, List.set_cons_succ]) | ((first | ((with_reducible refine lexL_skip (c := false) ?_ ?_ ?_); (focus rfl); (focus rfl)) | ((with_reducible refine lexL_skip (c := true) ?_ ?_ ?_); (focus rfl); (focus rfl)) | ((with_reducible refine lexL_skipU ?_ ?_); (focus rfl))); try simp only [Act.put, List.setIfInBounds_toArray, List.set_cons_zero, List.set_cons_succ]))
      (first | with_reducible refine lexL_eff (fun K' hK' => ?_) | ((with_reducible refine lexL_effG ?_ (fun K' hK' => ?_)); (focus rfl)))
      refine wp_done (exec_mapUpdate rfl rfl rfl rfl HR.out) ?_
      refine hK'.out _ _ ?_ (fun hS => ?_)
      · exact S3.out
      refine lexL_nil (hK.out _ _ ?_)
      go_wp2
      go_roundw
      case rel =>
        refine ⟨n + 1, M', by simp, by omega, HM3.out, HB3.out, ?_, ?_, by have := HL3.out; omega, F3.out⟩
        · intro k v hkv
          rw [hTN]
          rcases (HU.out k v).1 hkv with ⟨rfl, rfl⟩ | ⟨_, h⟩
          · simp
          · exact List.mem_append.2 (.inl (H1.out k v h))
        · intro c' hc'
          rw [hTN] at hc'
          by_cases e : c'.at_ = c.at_
          · exact ⟨c.out, by rw [e]; exact (HU.out _ _).2 (.inl ⟨rfl, rfl⟩)⟩
          · rcases List.mem_append.1 hc' with h | h
            · obtain ⟨v, hv⟩ := H2.out c' h
              exact ⟨v, (HU.out _ _).2 (.inr ⟨e, hv⟩)⟩
            · rw [List.mem_singleton.1 h] at e; exact absurd rfl e
      case measure => show l.length - (n + 1) < l.length - n; omega
    · have i1 : ¬ (n : Int) < (l.length : Int) := by omega
      have hT : l.take n = l := by rw [show n = l.length by omega, List.take_length]
      have H1' := Lib.hid (show ∀ k v, (k, v) ∈ M → (⟨k, v⟩ : CoinD) ∈ l by have := H1.out; rwa [hT] at this)
      have H2' := Lib.hid (show ∀ c ∈ l, ∃ v, (c.at_, v) ∈ M by have := H2.out; rwa [hT] at this)
      have hset : ∀ x, x ∈ M.map (·.1) ↔ x ∈ l.map (·.at_) := by
        intro x
        constructor
        · intro h
          obtain ⟨y, hy, rfl⟩ := List.mem_map.1 h
          exact List.mem_map.2 ⟨_, H1'.out y.1 y.2 hy, rfl⟩
        · intro h
          obtain ⟨c, hc, rfl⟩ := List.mem_map.1 h
          obtain ⟨v, hv⟩ := H2'.out c hc
          exact List.mem_map.2 ⟨_, hv, rfl⟩
      have hlen := len_nodup HM.out.nodup hset
      rw [List.length_map, List.length_map] at hlen
      have c0 : wr.cell? ⟨q + 1, 0, none⟩ = some (.map (some q)) := (blk1 hb).1
      have LR := Lib.hid (fun ty => HM.out.lenRun undAtMap ty)
      clear hT hset HM1 HB1 F1 hb
      by_cases hnd : (l.map (·.at_)).Nodup
      · have j1 : (M.length : Int) = (l.length : Int) := by have := hlen.2 hnd; omega
        have ND := Lib.hid hnd
        clear hlen hnd
        go_wp2_with (refine wpList_value rfl (exec_len rfl rfl (LR.out _)) ?_)
        go_ret2
        refine ⟨M, by rw [if_pos ND.out, hq]; rfl, by rw [hq]; exact HM.out, by rw [hq]; exact HB.out, FR.out, fun _ k v => ⟨H1'.out k v, fun h => ?_⟩⟩
        obtain ⟨v', hv'⟩ := H2'.out _ h
        have h' := H1'.out _ _ hv'
        have : ∀ {L : List CoinD}, (L.map (·.at_)).Nodup → ∀ a ∈ L, ∀ b ∈ L, a.at_ = b.at_ → a = b := by
          intro L
          induction L with
          | nil => intro _ a ha; cases ha
          | cons x L ih =>
            intro hn a ha b hb e
            obtain ⟨n1, n2⟩ := List.nodup_cons.1 hn
            rcases List.mem_cons.1 ha with rfl | ha' <;> rcases List.mem_cons.1 hb with rfl | hb'
            · rfl
            · exact absurd (List.mem_map.2 ⟨b, hb', e.symm⟩) n1
            · exact absurd (List.mem_map.2 ⟨a, ha', e⟩) n1
            · exact ih n2 a ha' b hb' e
        have := this ND.out _ h' _ h rfl
        injection this with _ e
        rw [← e]
        exact hv'
      · have j1 : ¬ (M.length : Int) = (l.length : Int) := fun e => hnd (hlen.1 (by omega))
        have ND := Lib.hid hnd
        clear hlen hnd
        go_wp2_with (refine wpList_value rfl (exec_len rfl rfl (LR.out _)) ?_)
        go_ret2
        exact ⟨M, by rw [if_neg ND.out]; rfl, by rw [hq]; exact HM.out, by rw [hq]; exact HB.out, FR.out, fun h => absurd h ND.out⟩
end
end Go.Proofs.YtmpamcnlineceaaDoor

/- coin: New, Len, Find. -/
namespace Go.Proofs.YtmpamcnlineceaaDoor
open Go Go.RowKit Go.Maps Go.MapKept

theorem out0_size : (outC out0).toArray.size = 33 := by rw [List.size_toArray, outC_len out0_ok]
theorem hasC_nil (p : PointD) : hasC [] p = false := rfl
theorem new_C (w0 w : World) (f : Fr No w0 w) {v : Value} {l : List CoinD} (hl : CoinsIs w v l) (hN : l.length ≤ 100000) (hnd : (l.map (·.at_)).Nodup) :
    Calls Tryd.prog 35 #[v] w fun e w' => ∃ p, e = .returned (.tuple #[.pointer (some ⟨p, 0, none⟩), .int .i64 0]) ∧ ∃ V, CS w0 w' p V (putC [] l) ∧ Fr No w w' ∧ (∀ k, V k → w.heap.size ≤ k) := by
  refine (new_raw w hl hN).mono ?_
  rintro e w' ⟨M, rfl, hm, hb, fr, hs⟩
  refine ⟨w.heap.size + 1, by rw [if_pos hnd], fun j => j = w.heap.size + 1 ∨ j = w.heap.size, ⟨⟨_, M, hb, hm, fun k v => ?_, by omega, rfl⟩, putC_srt List.Pairwise.nil hnd (fun _ _ => rfl), fun c hc => ?_, ?_, f.trans0 fr⟩, fr, ?_⟩
  · rw [hs hnd, mem_putC]; simp
  · rcases mem_putC.1 hc with h | h
    · cases h
    · exact hl.1 c h
  · have := f.size; rintro j (rfl | rfl) <;> omega
  · rintro j (rfl | rfl) <;> omega
theorem new_twice (w : World) {v : Value} {l : List CoinD} (hl : CoinsIs w v l) (hN : l.length ≤ 100000) (hnd : ¬ (l.map (·.at_)).Nodup) :
    Calls Tryd.prog 35 #[v] w fun e w' => e = .returned (.tuple #[.pointer none, .int .i64 12]) ∧ Fr No w w' := by
  refine (new_raw w hl hN).mono ?_
  rintro e w' ⟨M, rfl, -, -, fr, -⟩
  exact ⟨by rw [if_neg hnd], fr⟩

theorem find_iff {S : List CoinD} (h : SrtC S) {q : PointD} {v : OutD} : findC S q = some v ↔ (⟨q, v⟩ : CoinD) ∈ S := by
  constructor
  · intro e
    cases hh : hasC S q with
    | false => rw [findC_none hh] at e; cases e
    | true =>
      obtain ⟨c, hc, rfl⟩ := hasC_iff.1 hh
      rw [findC_some h hc] at e
      injection e with e
      rw [← e]
      exact hc
  · intro hm
    exact findC_some (c := ⟨q, v⟩) h hm
def outOf (S : List CoinD) (q : PointD) : OutD := (findC S q).getD out0
theorem outOf_ok {S : List CoinD} (ok : ∀ c ∈ S, c.ok) (q : PointD) : (outOf S q).ok := by
  unfold outOf findC
  cases e : S.find? fun c => decide (c.at_ = q) with
  | none => exact out0_ok
  | some c => exact (ok c (List.mem_of_find?_eq_some e)).2
section
variable {w0 w : World} {p : Nat} {V : Nat → Prop} {S : List CoinD}
set_option maxRecDepth 20000 in
theorem look_at {m : Nat} {M : List (PointD × OutD)} (hs : ∀ k v, (k, v) ∈ M ↔ (⟨k, v⟩ : CoinD) ∈ S) (srt : SrtC S) {q : PointD} (hq : q.ok) (hm : AtMap w m M) :
    (Instr.lookup 121 (.map (some m)) (pointV q) true).run Tryd.prog w = .ok (.tuple #[.agg (outC (outOf S q)).toArray, .bool (hasC S q)]) w := by
  have h := hm.look eqPoint.keyed undAtMap (fun _ _ => pointV_inj) zeroOut (keyOfPoint hq) true (r := findC S q) (fun v => by rw [hs, find_iff srt])
  rw [h, findC_isSome]
  have : ((findC S q).map outV).getD (outV out0) = outV (outOf S q) := by
    unfold outOf
    cases findC S q <;> rfl
  simp only [if_true, this]
  rfl
set_option maxRecDepth 20000 in
set_option maxHeartbeats 2000000 in
theorem find_C (h : CS w0 w p V S) {q : PointD} (hq : q.ok) : Calls Tryd.prog 41 #[.pointer (some ⟨p, 0, none⟩), .agg (pointC q).toArray] w fun e w' => e = .returned (.tuple #[.agg (outC (outOf S q)).toArray, .bool (hasC S q)]) ∧ Fr No w w' := by
  obtain ⟨dP, uP, rP⟩ := descPoint
  obtain ⟨dO, uO, rO⟩ := descOut
  obtain ⟨m, M, hb, hm, hs, hne, rfl⟩ := h.ex
  have LOOK := Lib.hid (fun w' (h' : AtMap w' m M) => look_at (w := w') hs h.srt hq h')
  have XOK := Lib.hid (outOf_ok h.ok q)
  have OL := Lib.hid (outC_len XOK.out)
  have PL := Lib.hid (pointC_len hq)
  have zo := zeroOutC
  have f1 : Fr No w ((w.alloc (.cells (pointC q).toArray 47)).alloc (.cells (outC out0).toArray 55)) := ((Fr.refl No w).alloc _).alloc _
  have c0 := (blk1 (f1.obj hb id)).1
  have RB := Lib.hid (range_keep (range_new w (pointC q) 47) ((Fr.refl No _).alloc (.cells (outC out0).toArray 55)) id)
  have HM := Lib.hid (hm.keep f1 id)
  have HRC := Lib.hid (new_obj' (w.alloc (.cells (pointC q).toArray 47)) (.cells (outC out0).toArray 55) (n := w.heap.size + 1) (by simp))
  have F1 := Lib.hid f1
  have HSZ := Lib.hid (show ((w.alloc (.cells (pointC q).toArray 47)).alloc (.cells (outC out0).toArray 55)).heap.size = w.heap.size + 2 by simp)
  generalize hasC S q = hb' at *
  generalize outOf S q = X at *
  clear h hb hm hs hne f1
  go_enter Tryd.func41, Tryd.ntmps41
  go_wp2_with fail
  generalize hq1 : w.heap.size = n at *
  generalize (w.alloc (.cells (pointC q).toArray 47)).alloc (.cells (outC out0).toArray 55) = wz at *
  refine wp_region_lexL [false, false, false, false, false, false, false, false, false, true, true, false] (fun w' => w'.cell? ⟨p, 0, none⟩ = some (.map (some m)) ∧ w'.rangeAt n 0 (pointC q) ∧ AtMap w' m M) (by kernel_rfl) (by kernel_rfl) ?_ (fun K hK => ?_)
  · exact ⟨c0, range_keep RB.out (Fr.refl No _).drew id, HM.out.keep (Fr.refl No _).drew id⟩
  repeat (first | ((first | with_reducible refine lexL_read ?_ | ((with_reducible refine lexL_readG ?_ ?_); (focus rfl))); apply Exists.intro; refine ⟨?_, ?_⟩; (focus (first | exact lex_load (ty := 47) rfl (fun w h => h.2.1) uP rP (by rw [PL.out]; exact infoPoint) | exact fun w' h => exec_lookup (t := 121) rfl rfl rfl (LOOK.out w' h.2.2) | (intro w' hS; obtain ⟨s1, s2, s3⟩ := hS; go_simp; (try with_reducible rfl); done))); try simp only [Act.put, List.setIfInBounds_toArray, List.set_cons_zero, List.set_cons_succ]) | ((first | ((with_reducible refine lexL_skip (c := false) ?_ ?_ ?_); (focus rfl); (focus rfl)) | ((with_reducible refine lexL_skip (c := true) ?_ ?_ ?_); (focus rfl); (focus rfl)) | ((with_reducible refine lexL_skipU ?_ ?_); (focus rfl))); try simp only [Act.put, List.setIfInBounds_toArray, List.set_cons_zero, List.set_cons_succ]))
  (first | with_reducible refine lexL_eff (fun K' hK' => ?_) | ((with_reducible refine lexL_effG ?_ (fun K' hK' => ?_)); (focus rfl)))
  refine wp_value (exec_alloc rfl (zeroOutC _)) ?_
  refine hK'.out _ _ ?_ (fun hS => ?_)
  · exact ⟨(((Fr.refl No wz).drew).alloc _).cell c0 id, range_keep RB.out (((Fr.refl No wz).drew).alloc _) id, HM.out.keep (((Fr.refl No wz).drew).alloc _) id⟩
  try simp only [Act.put, List.setIfInBounds_toArray, List.set_cons_zero, List.set_cons_succ]
  (first | with_reducible refine lexL_eff (fun K' hK' => ?_) | ((with_reducible refine lexL_effG ?_ (fun K' hK' => ?_)); (focus rfl)))
  refine wp_done (exec_store_new (w := wz.drew) (ty := 55) (cs := outC X) rfl rfl rfl (by rw [OL.out]; rfl) (by rw [OL.out]; exact infoOut) outC_one) ?_
  refine hK'.out _ _ ?_ (fun hS => ?_)
  · exact ⟨(((Fr.refl No wz).drew).alloc _).cell c0 id, range_keep RB.out (((Fr.refl No wz).drew).alloc _) id, HM.out.keep (((Fr.refl No wz).drew).alloc _) id⟩
  try simp only [Act.put]
  repeat (first | ((first | with_reducible refine lexL_read ?_ | ((with_reducible refine lexL_readG ?_ ?_); (focus rfl))); apply Exists.intro; refine ⟨?_, ?_⟩; (focus (first | (intro w' hS; obtain _ := hS; go_simp; (try with_reducible rfl); done))); try simp only [Act.put, List.setIfInBounds_toArray, List.set_cons_zero, List.set_cons_succ]) | ((first | ((with_reducible refine lexL_skip (c := false) ?_ ?_ ?_); (focus rfl); (focus rfl)) | ((with_reducible refine lexL_skip (c := true) ?_ ?_ ?_); (focus rfl); (focus rfl)) | ((with_reducible refine lexL_skipU ?_ ?_); (focus rfl))); try simp only [Act.put, List.setIfInBounds_toArray, List.set_cons_zero, List.set_cons_succ]))
  refine lexL_nil (hK.out _ _ ?_)
  have RO := Lib.hid (show (wz.alloc (.cells (outC X).toArray 55)).drew.rangeAt wz.heap.size 0 (outC X) from range_new wz (outC X) 55)
  have HRC2 := Lib.hid (((Fr.refl No wz).alloc (.cells (outC X).toArray 55)).drew.obj HRC.out id)
  have F2 := Lib.hid ((F1.out.alloc (.cells (outC X).toArray 55)).drew)
  clear c0 RB HM LOOK HRC
  go_wp2_with (first | (refine wpList_value rfl (exec_load (ty := 55) rfl rfl RO.out uO rO (by rw [OL.out]; exact infoOut)) ?_) | (refine wpList_done rfl (exec_store (ty := 55) rfl rfl rfl (by rw [OL.out]; exact there_obj HRC2.out (Nat.le_of_eq out0_size.symm)) (by rw [OL.out]; exact infoOut) outC_one) ?_))
  refine bodyPost_ret (results_row_tmp (P := Tryd.prog) (fn := Tryd.f41) rfl _ rfl (range_set HRC2.out (by rw [OL.out]; exact out0_size)) uO rO (by rw [OL.out]; exact infoOut) rfl) rfl ⟨rfl, ?_⟩
  exact F2.out.trans (setCells_fr _ _ _ _) (fun i hi e => by omega)
end
end Go.Proofs.YtmpamcnlineceaaDoor

/- Going through a map, by keys and values of one's own. -/
namespace Go
open Go.MapKept Go.RowKit Go.Maps

section
variable {P : Program} {kt et t : TypeId} {w : World} {r b : Nat} {κ ι : Type} {kV : κ → Value} {vV : ι → Value} {M R : List (κ × ι)}
/-- Iterator r goes through map b; R are those that it has not met. -/
def IterIs (P : Program) (kt : TypeId) (kV : κ → Value) (vV : ι → Value) (w : World) (r b : Nat) (M R : List (κ × ι)) : Prop :=
  IterAt P kt w r b (M.map fun x => (kV x.1, vV x.2)) (R.map fun x => (kV x.1, vV x.2))
theorem IterIs.map (h : IterIs P kt kV vV w r b M R) : MapIs P kt kV vV w b M := IterAt.map h
theorem IterIs.lt (h : IterIs P kt kV vV w r b M R) : r < w.heap.size := IterAt.lt h
theorem IterIs.keep {w' : World} {W : Nat → Prop} (h : IterIs P kt kV vV w r b M R) (f : Fr W w w') (h1 : ¬ W b) (h2 : ¬ W r) : IterIs P kt kV vV w' r b M R := IterAt.keep h f h1 h2
theorem MapIs.rangeI (ht : P.underlying t = some (.map kt et)) (h : MapIs P kt kV vV w b M) :
    ∃ clk, (Instr.range t (.map (some b))).run P w = .ok (.pointer (some ⟨w.heap.size, 0, none⟩)) (w.alloc (.mapIter (some b) clk #[] clk)) ∧ IterIs P kt kV vV (w.alloc (.mapIter (some b) clk #[] clk)) w.heap.size b M M := MapAt.range ht h
theorem IterIs.stop (h : IterIs P kt kV vV w r b M []) (ty : TypeId) : (Instr.next (.pointer (some ⟨r, 0, none⟩)) false ty).run P w = .ok (.tuple #[.bool false]) w := IterAt.nextNone h ty
theorem IterIs.step (h : IterIs P kt kV vV w r b M R) (hne : R ≠ []) (ty : TypeId) :
    ∃ A x B w', R = A ++ x :: B ∧ (Instr.next (.pointer (some ⟨r, 0, none⟩)) false ty).run P w = .ok (.tuple #[.bool true, kV x.1, vV x.2]) w' ∧ IterIs P kt kV vV w' r b M (A ++ B) ∧ Fr (· = r) w w' ∧
      (Instr.entry (.pointer (some ⟨r, 0, none⟩))).run P w' = .ok (.tuple #[kV x.1, vV x.2]) w' := by
  obtain ⟨R1, p, R2, w2, hR, hnx, hI2, f2, hent⟩ := IterAt.nextSome h (by simpa using hne) ty
  obtain ⟨A, B, hAB, hA, hB⟩ := List.map_eq_append_iff.1 hR
  cases B with
  | nil => simp at hB
  | cons x B =>
    simp only [List.map_cons, List.cons.injEq] at hB
    obtain ⟨rfl, hB⟩ := hB
    subst hA
    subst hB
    exact ⟨A, x, B, w2, hAB, hnx, by unfold IterIs; rw [List.map_append]; exact hI2, f2, hent w2 rfl rfl⟩
end
end Go
