/- pappuslaw12: great, grown. -/
import Derived.Test.YtnjkpjcnmdgoeaaKinW
import Derived.Deep.CutBlock
namespace Go.Proofs.Ytnjkpjcnmdgoeaa
open Go Go.RowKit Go.Maps Go.MapKept

theorem infoAct : (Try.prog.info? 45).map (·.size) = some 34 := by kernel_rfl
theorem descAct : ∃ d, Try.prog.underlying 45 = some d ∧ d.isRow = true := row_of (by kernel_rfl)
theorem zeroAct (w : World) : (zeroValue 45).run Try.prog w = .ok (.agg (kactC 0 hash0 (.slice none 0 0)).toArray) w := by kernel_rfl
theorem kact_at {w : World} {b off : Nat} {k : Int} {h : HashD} {v : Value} (r : w.rangeAt b off (kactC k h v)) (ok : hashOk h) :
    w.cell? ⟨b, off, none⟩ = some (.int .i64 k) ∧ w.rangeAt b (off + 1) (hashC h) ∧ w.cell? ⟨b, off + 33, none⟩ = some v := by
  have hl := hashC_len ok
  refine ⟨by have := r 0 _ rfl; simpa using this, fun j u hj => ?_, ?_⟩
  · have hj2 := (List.getElem?_eq_some_iff.1 hj).1
    have := r (j + 1) u (by simp only [kactC, List.getElem?_cons_succ]; rw [List.getElem?_append_left hj2]; exact hj)
    rwa [show off + (j + 1) = off + 1 + j by omega] at this
  · refine r 33 v ?_
    simp only [kactC, List.getElem?_cons_succ]
    rw [List.getElem?_append_right (by omega), hl]
    rfl
/-- A new act. -/
theorem kact_new (w : World) {k : Int} {h : HashD} {v : Value} (ok : hashOk h) :
    (w.alloc (.cells (kactC k h v).toArray 45)).cell? ⟨w.heap.size, 0, none⟩ = some (.int .i64 k) ∧ (w.alloc (.cells (kactC k h v).toArray 45)).rangeAt w.heap.size 1 (hashC h) ∧ (w.alloc (.cells (kactC k h v).toArray 45)).cell? ⟨w.heap.size, 33, none⟩ = some v := by
  have := kact_at (range_new w (kactC k h v) 45) ok
  simpa using this
def KGreatOk (w : World) (L : List KActD) (e : Ending) (w' : World) : Prop := e = .returned (.bool (kgreat L)) ∧ Fr No w w'
set_option maxRecDepth 100000 in
set_option maxHeartbeats 4000000 in
theorem kgreat_any (w : World) {v : Value} {L : List KActD} (h : KActsIs w v L) : Calls Try.prog 11 #[v] w (KGreatOk w L) := by
  have HL := Lib.hid h
  obtain ⟨dA, uA, rA⟩ := descAct
  have zA := zeroAct
  obtain ⟨va, vc, rfl, hl, -⟩ := h
  by_cases h80 : 80 < L.length
  · have e1 : decide ((80 : Int) < (L.length : Int)) = true := by simp; omega
    have HF := Lib.hid (show ∀ w', Fr No w w' → KGreatOk w L (.returned (.bool true)) w' from fun w' f => ⟨by simp [kgreat, h80], f⟩)
    clear h80 hl
    go_enter Try.func11, Try.ntmps11
    go_wp2
    go_ret
    exact HF.out _ (by (repeat (first | with_reducible exact Fr.refl _ _ | with_reducible assumption | with_reducible refine Fr.drew ?_ | with_reducible refine Fr.drewN ?_ _ | with_reducible refine Fr.alloc ?_ _ | with_reducible refine Fr.setCell ?_ _ (.inl (by simp <;> omega)) _)))
  · have e1 : decide ((80 : Int) < (L.length : Int)) = false := by simp; omega
    have hl3 : L.length ≤ 80 := by omega
    clear hl h80
    go_enter Try.func11, Try.ntmps11
    go_wp2
    go_loopw [10] (fun i wr => ∃ n : Nat, n ≤ L.length ∧ i = .int .i64 n ∧ (∀ d ∈ L.take n, d.ps.length ≤ 30) ∧ Fr No w wr) (fun i _ => L.length - (intOf i).toNat)
    case atStart => exact ⟨0, Nat.zero_le _, rfl, by simp, Fr.refl _ _⟩
    case round =>
      obtain ⟨n, hn, rfl, hps, hfr⟩ := hrel
      have FR := Lib.hid hfr
      have HP := Lib.hid hps
      clear hfr hps
      by_cases hlt : n < L.length
      · obtain ⟨d, hx⟩ : ∃ x, L[n]? = some x := ⟨_, List.getElem?_eq_getElem hlt⟩
        obtain ⟨b, off, xa, xc, cap, hv, hr, ok, hi⟩ := (HL.out.keep FR.out).at_ hx
        cases hv
        have i1 : (n : Int) < (L.length : Int) := by omega
        have R1 := Lib.hid hr
        have OK := Lib.hid ok
        have KL := Lib.hid (kactC_len (k := d.kind) (v := .slice xa d.ps.length xc) ok)
        have C33 := (kact_new wr (k := d.kind) (v := .slice xa d.ps.length xc) ok).2.2
        have HX := Lib.hid hx
        have FA := Lib.hid (FR.out.alloc (.cells (kactC d.kind d.id (.slice xa d.ps.length xc)).toArray 45))
        clear hr ok hi hx
        by_cases hp : 30 < d.ps.length
        · have e2 : decide ((30 : Int) < (d.ps.length : Int)) = true := by simp; omega
          have HF := Lib.hid (show ∀ w', Fr No w w' → KGreatOk w L (.returned (.bool true)) w' from fun w' f => ⟨by
            have : L.any (fun d => decide (30 < d.ps.length)) = true := List.any_eq_true.2 ⟨d, List.mem_of_getElem? HX.out, by simpa using hp⟩
            simp [kgreat, this], f⟩)
          clear hp
          go_wp2_with (first | (refine wpList_value rfl (exec_load (ty := 45) rfl rfl R1.out uA rA (by rw [KL.out]; exact infoAct)) ?_) | (refine wpList_done rfl (exec_store_new (w := wr) (ty := 45) (cs := kactC d.kind d.id (.slice xa d.ps.length xc)) rfl rfl rfl (by rw [KL.out]; rfl) (by rw [KL.out]; exact infoAct) kactC_one) ?_; generalize wr.alloc (.cells (kactC d.kind d.id (.slice xa d.ps.length xc)).toArray 45) = w2 at *))
          go_ret
          exact HF.out _ FA.out
        · have e2 : decide ((30 : Int) < (d.ps.length : Int)) = false := by simp; omega
          have HN := Lib.hid (show ∀ e ∈ L.take (n + 1), e.ps.length ≤ 30 from fun e he => by
            rw [List.take_add_one, HX.out] at he
            rcases List.mem_append.1 he with he | he
            · exact HP.out e he
            · simp at he; subst he; omega)
          clear hp
          go_wp2_with (first | (refine wpList_value rfl (exec_load (ty := 45) rfl rfl R1.out uA rA (by rw [KL.out]; exact infoAct)) ?_) | (refine wpList_done rfl (exec_store_new (w := wr) (ty := 45) (cs := kactC d.kind d.id (.slice xa d.ps.length xc)) rfl rfl rfl (by rw [KL.out]; rfl) (by rw [KL.out]; exact infoAct) kactC_one) ?_; generalize wr.alloc (.cells (kactC d.kind d.id (.slice xa d.ps.length xc)).toArray 45) = w2 at *))
          go_roundw
          case rel => exact ⟨n + 1, by omega, by go_num, HN.out, FA.out⟩
          case measure => simp [intOf]; omega
      · have hnx : n = L.length := by omega
        have i1 : ¬ (n : Int) < (L.length : Int) := by omega
        have HF := Lib.hid (show KGreatOk w L (.returned (.bool false)) wr from ⟨by
          have h1 : L.any (fun d => decide (30 < d.ps.length)) = false := by
            rw [List.any_eq_false]
            intro d hd
            have := HP.out d (by rw [hnx, List.take_length]; exact hd)
            simp; omega
          simp [kgreat, h1]; omega, FR.out⟩)
        go_wp2
        go_ret
        exact HF.out
/-- A graph behind acts. -/
def GrownOk (w : World) (L : List KActD) (e : Ending) (w' : World) : Prop := ∃ p V, e = .returned (.pointer (some ⟨p, 0, none⟩)) ∧ GC w w' p V (grownG L) 80 ∧ BOk (grownG L)
theorem bok_act {G : List NodeD} (h : GOk G) (hb : BOk G) (d : KActD) : BOk (actG G d) := by
  unfold actG
  split
  · split
    · rename_i h0 h1
      have h2 : d.id ∉ ids G := fun e => by rw [addE_there e] at h1; exact absurd h1 (by decide)
      have h3 : ∀ p ∈ d.ps, p ∈ ids G := fun p hp => Classical.byContradiction fun e => by rw [addE_none h2 ⟨p, hp, e⟩] at h1; exact absurd h1 (by decide)
      have h4 : (upS G d.ps).length < 6 := Classical.byContradiction fun e => by rw [addE_kin h2 h3 e] at h1; exact absurd h1 (by decide)
      exact hb.add h h2 h3 h4
    · exact hb
  · split
    · exact hb.cut h _
    · split
      · exact hb.cut h _
      · exact hb
theorem bok_nil : BOk [] := fun x hx => by simp [ids] at hx
set_option maxRecDepth 100000 in
set_option maxHeartbeats 8000000 in
theorem grown_any (w : World) {v : Value} {L : List KActD} (h : KActsIs w v L) (hg : kgreat L = false) : Calls Try.prog 12 #[v] w (GrownOk w L) := by
  have HL := Lib.hid h
  obtain ⟨dA, uA, rA⟩ := descAct
  obtain ⟨dK, uK, rK⟩ := descHash
  have zA := zeroAct
  obtain ⟨va, vc, rfl, hl, -⟩ := h
  obtain ⟨hl3, hp3⟩ := kgreat_len hg
  have HP := Lib.hid hp3
  clear hl hp3 hg
  go_enter Try.func12, Try.ntmps12
  go_wp2_with (go_at_call 19; refine (new_K w w (Fr.refl _ _)).mono ?_; rintro e w1 ⟨p, rfl, V, g1, f1, -⟩; have G1 := Lib.hid g1; clear g1 f1)
  go_loopw [9] (fun i wr => ∃ n V', n ≤ L.length ∧ i = .int .i64 (n : Nat) ∧ GC w wr p V' (grownG (L.take n)) n ∧ BOk (grownG (L.take n))) (fun i _ => L.length - (intOf i).toNat)
  case atStart => exact ⟨0, V, Nat.zero_le _, rfl, G1.out, bok_nil⟩
  case round =>
    obtain ⟨n, V', hn, rfl, hgc, hbk⟩ := hrel
    have GC0 := Lib.hid hgc
    have BK := Lib.hid hbk
    clear hgc hbk
    by_cases hlt : n < L.length
    · obtain ⟨d, hx⟩ : ∃ x, L[n]? = some x := ⟨_, List.getElem?_eq_getElem hlt⟩
      obtain ⟨b, off, xa, xc, cap, hv, hr, ok, hi⟩ := (HL.out.keep GC0.out.fr).at_ hx
      cases hv
      have i1 : (n : Int) < (L.length : Int) := by omega
      have R1 := Lib.hid hr
      have OK := Lib.hid ok
      have LH := Lib.hid (hashC_len ok)
      have KL := Lib.hid (kactC_len (k := d.kind) (v := .slice xa d.ps.length xc) ok)
      obtain ⟨c0, r1, c33⟩ := kact_new wr (k := d.kind) (v := .slice xa d.ps.length xc) ok
      have RH := Lib.hid r1
      have fa := (Fr.refl No wr).alloc (.cells (kactC d.kind d.id (.slice xa d.ps.length xc)).toArray 45)
      have G2 := Lib.hid (GC0.out.fr0 fa)
      have HI := Lib.hid (hi.keep fa)
      have GS := Lib.hid (grown_step hx)
      have BN := Lib.hid (show BOk (grownG (L.take (n + 1))) by rw [GS.out]; exact bok_act GC0.out.gok BK.out d)
      have HP1 := Lib.hid (HP.out d (List.mem_of_getElem? hx))
      clear hr ok hi hx r1 fa GC0 BK
      obtain ⟨kd, hkd⟩ : ∃ k, k = d.kind := ⟨_, rfl⟩
      have AG := Lib.hid (show actG (grownG (L.take n)) d = if kd = 0 then (if addE (grownG (L.take n)) d.id d.ps = 0 then addG (grownG (L.take n)) d.id d.ps else grownG (L.take n)) else if kd = 1 then cutL (grownG (L.take n)) (downS (grownG (L.take n)) [d.id]) else if kd = 2 then cutL (grownG (L.take n)) [d.id] else grownG (L.take n) by rw [hkd]; rfl)
      rw [← hkd] at R1 KL c0 RH c33 G2 HI
      clear hkd
      have hcase : kd = 0 ∨ (¬ kd = 0 ∧ kd = 1) ∨ (¬ kd = 0 ∧ ¬ kd = 1 ∧ kd = 2) ∨ (¬ kd = 0 ∧ ¬ kd = 1 ∧ ¬ kd = 2) := by omega
      go_upto_block 2 with (first | (refine wpList_value rfl (exec_load (ty := 45) rfl rfl R1.out uA rA (by rw [KL.out]; exact infoAct)) ?_) | (refine wpList_done rfl (exec_store_new (w := wr) (ty := 45) (cs := kactC kd d.id (.slice xa d.ps.length xc)) rfl rfl rfl (by rw [KL.out]; rfl) (by rw [KL.out]; exact infoAct) kactC_one) ?_; generalize wr.alloc (.cells (kactC kd d.id (.slice xa d.ps.length xc)).toArray 45) = w2 at *; generalize wr.heap.size = q0 at *))
      rcases hcase with rfl | ⟨-, rfl⟩ | ⟨-, -, rfl⟩ | ⟨q0, q1, q2⟩
      · have AZ := Lib.hid (show (if addE (grownG (L.take n)) d.id d.ps = 0 then addG (grownG (L.take n)) d.id d.ps else grownG (L.take n)) = grownG (L.take (n + 1)) by rw [GS.out, AG.out, if_pos rfl])
        clear GS AG
        go_wp2_with (first | (refine wpList_value rfl (exec_load (ty := 30) rfl rfl RH.out uK rK (by rw [LH.out]; exact infoHash)) ?_) | (go_at_call 20; refine (add_K G2.out (by omega) OK.out HI.out (by have := HP1.out; omega)).mono ?_; rintro e w3 ⟨rfl, V3, g3, f3, s3⟩; rw [AZ.out] at g3; have G3 := Lib.hid g3; clear g3 f3 s3))
        go_roundw
        case rel => exact ⟨n + 1, V3, by omega, by go_num, G3.out, BN.out⟩
        case measure => simp [intOf]; omega
      · have AZ := Lib.hid (show cutL (grownG (L.take n)) (downS (grownG (L.take n)) [d.id]) = grownG (L.take (n + 1)) by rw [GS.out, AG.out, if_neg (by decide), if_pos rfl])
        clear GS AG
        go_wp2_with (first | (refine wpList_value rfl (exec_load (ty := 30) rfl rfl RH.out uK rK (by rw [LH.out]; exact infoHash)) ?_) | (go_at_call 17; refine (drop_K G2.out (by omega) OK.out).mono ?_; rintro e w3 ⟨v3, rfl, V3, g3, f3, s3, o3⟩; rw [AZ.out] at g3; have G3 := Lib.hid (g3.mono (Nat.le_succ n)); clear g3 f3 s3 o3))
        go_roundw
        case rel => exact ⟨n + 1, V3, by omega, by go_num, G3.out, BN.out⟩
        case measure => simp [intOf]; omega
      · have AZ := Lib.hid (show cutL (grownG (L.take n)) [d.id] = grownG (L.take (n + 1)) by rw [GS.out, AG.out, if_neg (by decide), if_neg (by decide), if_pos rfl])
        clear GS AG
        go_wp2_with (first | (refine wpList_value rfl (exec_load (ty := 30) rfl rfl RH.out uK rK (by rw [LH.out]; exact infoHash)) ?_) | (go_at_call 23; refine (lift_K G2.out (by omega) OK.out).mono ?_; rintro e w3 ⟨rfl, V3, g3, f3, s3⟩; rw [AZ.out] at g3; have G3 := Lib.hid (g3.mono (Nat.le_succ n)); clear g3 f3 s3))
        go_roundw
        case rel => exact ⟨n + 1, V3, by omega, by go_num, G3.out, BN.out⟩
        case measure => simp [intOf]; omega
      · have G3 := Lib.hid (show GC w w2 p V' (grownG (L.take (n + 1))) (n + 1) by rw [GS.out, AG.out, if_neg q0, if_neg q1, if_neg q2]; exact G2.out.mono (Nat.le_succ n))
        clear GS AG
        have q0' : (kd == (0 : Int)) = false := by simpa using q0
        have q1' : (kd == (1 : Int)) = false := by simpa using q1
        have q2' : (kd == (2 : Int)) = false := by simpa using q2
        clear q0 q1 q2
        go_wp2
        go_roundw
        case rel => exact ⟨n + 1, V', by omega, by go_num, G3.out, BN.out⟩
        case measure => simp [intOf]; omega
    · have hnx : n = L.length := by omega
      have i1 : ¬ (n : Int) < (L.length : Int) := by omega
      have HF := Lib.hid (show GC w wr p V' (grownG L) 80 ∧ BOk (grownG L) by
        have h1 := GC0.out
        have h2 := BK.out
        rw [hnx, List.take_length] at h1 h2
        exact ⟨h1.mono hl3, h2⟩)
      go_wp2
      go_ret
      exact ⟨p, V', rfl, HF.out.1, HF.out.2⟩
end Go.Proofs.Ytnjkpjcnmdgoeaa
