/- The document's graph of kin: Up. -/
import Derived.Test.YtnjkpjcnmdgoeaaKinR3
namespace Go.Proofs.Ytnjkpjcnmdgoeaa
open Go Go.RowKit Go.Maps Go.MapKept
section
variable {w0 w : World} {q : Nat} {U : Nat → Prop} {G : List NodeD}
set_option maxRecDepth 20000 in
set_option maxHeartbeats 4000000 in
theorem up_R (h : RG w0 w q U G) (ok : GOk G) (hG : G.length ≤ 900) {v : Value} {l : List HashD} (hl : IdsIs w v l) (hl2 : l.length ≤ 1000) : Calls Try.prog 25 #[.pointer (some ⟨q, 0, none⟩), v] w fun e w' => ∃ v', e = .returned v' ∧ RowK w w' v' (upS G l) := by
  obtain ⟨dK, uK, rK⟩ := descHash
  obtain ⟨dN, uN, rN⟩ := descRN
  have zn := zeroRN
  obtain ⟨lc, R, la, ha, hs⟩ := h.form
  have A1 := Lib.hid ha
  have c0 := A1.out.obj
  have HS := Lib.hid hs
  have HL := Lib.hid hl
  have OK := Lib.hid ok
  have OKI := Lib.hid (show ∀ c ∈ ids G, hashOk c from fun c hc => by
    rw [← hs.ids] at hc
    obtain ⟨r, hr, rfl⟩ := List.mem_map.1 hc
    exact (ha.rn r hr).ok)
  have lG : R.length = G.length := hs.len
  have UA := Lib.hid (upN_all (G := G) (l := l))
  have UE := Lib.hid (upN_end (G := G) (l := l))
  rw [← lG] at UE
  have WI := Lib.hid (Wanted.init (G := G) (l := l))
  rw [← lG] at WI
  have UN := Lib.hid (fun k => upN_len (G := G) (l := l) k)
  have UK := Lib.hid (show ∀ k, ∀ c ∈ upN G l k, hashOk c from fun k c hc => by
    have h1 := (List.mem_filter.1 hc).2
    exact OKI.out c (up_sub l c (of_decide_eq_true h1)))
  clear h ha hs hl ok
  have hr9 : R.length ≤ 900 := by omega
  go_enter Try.func25, Try.ntmps25
  go_wp2_with (at_builtin; obtain ⟨v1, w1, ap, oo, ff, -⟩ := append_many (w.alloc (.cells #[] 30)) (own_made w) (HL.out.keep ((Fr.refl No w).alloc _)) (by simp; omega) (by simp); refine wpList_append_run rfl rfl rfl rfl ap ?_; have F1 := Lib.hid (own_fr ((Fr.refl No w).alloc (.cells #[] 30)) (own_made w) (Nat.le_refl _) ff); rw [List.nil_append] at oo; have O1 := Lib.hid oo; have c1 := F1.out.cell c0 id; obtain ⟨a1, k1, rfl⟩ := oo.slice.arg.form; clear ap oo ff)
  go_loopw [5, 6, 7] (fun wv ov iv wr => ∃ (i : Nat) (Wn : List HashD), iv = .int .i64 ((i : Int) - 1) ∧ i ≤ R.length ∧ (∀ c ∈ Wn, hashOk c) ∧ Wn.length ≤ 1000 + (R.length - i) * 30 ∧ Wanted G l i Wn ∧ wr.ownsRow w.heap.size 30 32 wv Wn.length (Wn.flatMap hashC) ∧ wr.ownsRow w.heap.size 30 32 ov (upN G l i).length ((upN G l i).flatMap hashC) ∧ (∀ j, wv.ownBlock = some j → ov.ownBlock = some j → False) ∧ Fr No w wr) (fun _ _ iv _ => (intOf iv + 1).toNat)
  case atStart => exact ⟨R.length, l, by go_num, Nat.le_refl _, HL.out.1, by omega, WI.out, O1.out, by rw [UE.out]; exact World.ownsRow_nil _ _ _ _, fun j _ h => by simp [Value.ownBlock] at h, F1.out⟩
  case round =>
    obtain ⟨i, Wn, rfl, hi, hwk, hwl, hwt, hw, ho, hdj, fr⟩ := hrel
    have FR := Lib.hid fr
    have HW := Lib.hid hw
    have HO := Lib.hid ho
    have WK := Lib.hid hwk
    have WT := Lib.hid hwt
    have DJ := Lib.hid hdj
    have WL := Lib.hid (show Wn.length ≤ 1000 + (R.length - i) * 30 ∧ Wn.length ≤ 28000 from ⟨hwl, Nat.le_trans hwl (by have : (R.length - i) * 30 ≤ 900 * 30 := Nat.mul_le_mul_right _ (by omega); omega)⟩)
    have LT := Lib.hid (show (upN G l i).length ≤ 900 by have := UN.out i; omega)
    have HK := Lib.hid (UK.out i)
    obtain ⟨wa, wc, rfl⟩ := hw.slice.arg.form
    obtain ⟨oa, oc, rfl⟩ := ho.slice.arg.form
    clear fr hw ho hwk hwt hdj hwl
    obtain rfl | ⟨k, rfl⟩ : i = 0 ∨ ∃ k, i = k + 1 := by cases i <;> simp
    · rw [UA.out] at HO ⊢
      go_wp2
      go_ret
      exact ⟨_, rfl, HO.out, FR.out⟩
    · rw [show (((k + 1 : Nat) : Int) - 1) = (k : Int) by omega]
      have i1 : (k : Int) < (R.length : Int) := by omega
      have i2 : (0 : Int) ≤ (k : Int) := by omega
      have i3 : ¬ (k : Int) < 0 := by omega
      have kn : (k : Int).toNat = k := by omega
      obtain ⟨r, hr⟩ : ∃ r, R[k]? = some r := ⟨_, List.getElem?_eq_getElem (by omega)⟩
      have A2 := Lib.hid (A1.out.keep FR.out)
      have c2 := A2.out.obj
      obtain ⟨b, off, cap, hv, hrg, -⟩ := nodes_elem A2.out.row A2.out.rn hr
      cases hv
      have RA := Lib.hid (A2.out.rn r (List.mem_of_getElem? hr))
      obtain ⟨nd, hnd, hid, hps⟩ := HS.out.at_ hr
      obtain ⟨pa, pc, hpv⟩ := RA.out.own.slice.arg.form
      have PO := Lib.hid (IdsIs.own RA.out.own RA.out.pok)
      rw [hpv] at hrg PO
      have PL := Lib.hid (show r.ps.length ≤ 30 from RA.out.len)
      have PK := Lib.hid RA.out.pok
      have NL := Lib.hid (nodeC_len (v := .slice pa r.ps.length pc) RA.out.ok)
      have RL := Lib.hid (hashC_len RA.out.ok)
      have ROK := Lib.hid RA.out.ok
      have R1 := Lib.hid hrg
      have fa := (Fr.refl No wr).alloc (.cells (nodeC r.id (.slice pa r.ps.length pc)).toArray 63)
      obtain ⟨r2, c32⟩ := node_at (range_new wr (nodeC r.id (.slice pa r.ps.length pc)) 63) RA.out.ok
      have R2 := Lib.hid r2
      have QW := Lib.hid (show ∀ j, Value.ownBlock (.slice wa Wn.length wc) = some j → j ≠ wr.heap.size from fun j e => by have := (HW.out.lt j e).2; omega)
      have FA := Lib.hid (FR.out.trans0 fa)
      have HO2 := Lib.hid (HO.out.alloc (.cells (nodeC r.id (.slice pa r.ps.length pc)).toArray 63))
      have HW2 := Lib.hid (HW.out.alloc (.cells (nodeC r.id (.slice pa r.ps.length pc)).toArray 63))
      have HL2 := Lib.hid (IdsIs.own HW2.out WK.out)
      have PO2 := Lib.hid (PO.out.keep fa)
      have WA := Lib.hid (show r.id ∈ Wn ↔ nd.id ∈ upS G l by rw [hid]; exact WT.out.at_ OK.out hnd)
      have WJ := Lib.hid (show nd.id ∈ upS G l → Wanted G l k (Wn ++ r.ps) from fun h => WT.out.in_ hnd h hps)
      have WO := Lib.hid (show nd.id ∉ upS G l → Wanted G l k Wn from fun h => WT.out.out hnd h)
      have UI := Lib.hid (show nd.id ∈ upS G l → upN G l k = [r.id] ++ upN G l (k + 1) from fun h => by rw [hid]; exact upN_in hnd h)
      have UO := Lib.hid (show nd.id ∉ upS G l → upN G l k = upN G l (k + 1) from fun h => upN_out hnd h)
      have hk9 : k + 1 ≤ R.length := hi
      clear hrg hpv fa hr A2 RA hnd hid hps r2 PO HO HW hi
      by_cases h1 : r.id ∈ Wn
      · have B1 := Lib.hid (show true = true ↔ r.id ∈ Wn by simp [h1])
        have hu := WA.out.1 h1
        have HT := Lib.hid (UI.out hu)
        have WJ2 := Lib.hid (WJ.out hu)
        have WK2 := Lib.hid (show ∀ c ∈ Wn ++ r.ps, hashOk c from fun c hc => (List.mem_append.1 hc).elim (WK.out c) (PK.out c))
        clear h1 hu WJ WO UI UO WA
        have MA := Lib.hid True.intro
        have MB := Lib.hid True.intro
        go_wp2_with (first | ((with_reducible refine at_dst 28 ?_); refine wpList_vG rfl (exec_load (ty := 63) rfl rfl R1.out uN rN (by rw [NL.out]; exact infoRN)) ?_) | ((with_reducible refine at_store ?_); refine wpList_done rfl (exec_store_new (w := wr) (ty := 63) (cs := (nodeC r.id (.slice pa r.ps.length pc))) rfl rfl rfl (by rw [NL.out]; rfl) (by rw [NL.out]; exact infoRN) nodeC_one) ?_; generalize wr.alloc (.cells (nodeC r.id (.slice pa r.ps.length pc)).toArray 63) = w2 at *; generalize wr.heap.size = q2 at *) | ((with_reducible refine at_dst 31 ?_); refine wpList_vG rfl (exec_load (ty := 30) rfl rfl R2.out uK rK (by rw [RL.out]; exact infoHash)) ?_) | (go_at_call 15; refine (has_b HL2.out (by have := WL.out; omega) ROK.out B1.out).mono ?_; rintro e w3 ⟨rfl, f3⟩; have F3 := Lib.hid (FA.out.trans0 f3); have R3 := Lib.hid (range_keep R2.out f3 id); have C3 := f3.cell c32 id; have PO3 := Lib.hid (PO2.out.keep f3); have HW3 := Lib.hid (ownsRow_keep HW2.out f3 (fun _ _ => id)); have HO3 := Lib.hid (ownsRow_keep HO2.out f3 (fun _ _ => id)); clear f3) | ((with_reducible refine at_dst 38 ?_); refine wpList_vG rfl (exec_load (ty := 30) rfl rfl R4.out uK rK (by rw [RL.out]; exact infoHash)) ?_) | ((with_reducible refine at_dst 39 ?_); refine wpList_vG rfl (exec_buildSliceA (t := 27) rfl rfl undIds infoHashZ2 rfl (by decide) (by decide) RL.out) ?_) | (have m1 := MA.out; (at_builtin; obtain ⟨v4, w4, ap, oo, ff, -⟩ := append_many w3 HW3.out PO3.out (by have := WL.out; have := PL.out; omega) F3.out.size; refine wpList_append_run rfl rfl rfl rfl ap ?_; have F4 := Lib.hid (own_fr F3.out HW3.out (Nat.le_refl _) ff); have R4 := Lib.hid (range_keep R3.out ff (fun h => QW.out _ h rfl)); have HO4 := Lib.hid (ownsRow_keep HO3.out ff (fun j e1 e2 => DJ.out j e2 e1)); have O4 := Lib.hid oo; obtain ⟨a4, c4, rfl⟩ := oo.slice.arg.form; clear ap oo ff HW3 PO3); clear m1 MA) | (have m1 := MB.out; (at_builtin; obtain ⟨v5, w5, ap, oo, ff, nn⟩ := append_many (w4.alloc (.cells (hashC r.id).toArray 30)) (own_one w4 ROK.out) (IdsIs.own (World.ownsRow.alloc HO4.out _) HK.out) (by have := LT.out; simp only [List.length_singleton]; omega) (by simp); refine wpList_append_run rfl rfl rfl rfl ap ?_; have f5 := own_fr ((Fr.refl No w4).alloc (.cells (hashC r.id).toArray 30)) (own_one w4 ROK.out) (Nat.le_refl _) ff; have F5 := Lib.hid (F4.out.trans0 f5); rw [← HT.out] at oo; have O5 := Lib.hid (own_base oo F4.out.size); have O45 := Lib.hid (ownsRow_keep O4.out f5 (fun _ _ => id)); have DJ5 := Lib.hid (show ∀ j, Value.ownBlock (.slice a4 (Wn ++ r.ps).length c4) = some j → v5.ownBlock = some j → False from fun j e1 e2 => by have h1 := (O4.out.lt j e1).2; rcases nn j e2 with h | h; (have : w4.heap.size = j := by simpa [Value.ownBlock] using h); omega; (simp at h; omega)); obtain ⟨a5, c5, rfl⟩ := oo.slice.arg.form; clear ap oo ff f5 nn); clear m1 MB))
        have WL2 := Lib.hid (show (Wn ++ r.ps).length ≤ 1000 + (R.length - k) * 30 by
          have h1 := WL.out.1
          have h2 := PL.out
          have h3 : (R.length - k) * 30 = (R.length - (k + 1)) * 30 + 30 := by rw [show R.length - k = R.length - (k + 1) + 1 by omega, Nat.add_mul]
          rw [List.length_append]
          omega)
        go_roundw
        case rel => exact ⟨k, Wn ++ r.ps, by go_num, by omega, WK2.out, WL2.out, WJ2.out, by rw [← List.length_append]; exact O45.out, O5.out, by rw [← List.length_append]; exact DJ5.out, F5.out⟩
        case measure => simp [intOf]
      · have B1 := Lib.hid (show false = true ↔ r.id ∈ Wn by simp [h1])
        have hu : nd.id ∉ upS G l := fun h => h1 (WA.out.2 h)
        have HT := Lib.hid (UO.out hu)
        have WJ2 := Lib.hid (WO.out hu)
        clear h1 hu WJ WO UI UO WA
        go_wp2_with (first | ((with_reducible refine at_dst 28 ?_); refine wpList_vG rfl (exec_load (ty := 63) rfl rfl R1.out uN rN (by rw [NL.out]; exact infoRN)) ?_) | ((with_reducible refine at_store ?_); refine wpList_done rfl (exec_store_new (w := wr) (ty := 63) (cs := (nodeC r.id (.slice pa r.ps.length pc))) rfl rfl rfl (by rw [NL.out]; rfl) (by rw [NL.out]; exact infoRN) nodeC_one) ?_; generalize wr.alloc (.cells (nodeC r.id (.slice pa r.ps.length pc)).toArray 63) = w2 at *; generalize wr.heap.size = q2 at *) | ((with_reducible refine at_dst 31 ?_); refine wpList_vG rfl (exec_load (ty := 30) rfl rfl R2.out uK rK (by rw [RL.out]; exact infoHash)) ?_) | (go_at_call 15; refine (has_b HL2.out (by have := WL.out; omega) ROK.out B1.out).mono ?_; rintro e w3 ⟨rfl, f3⟩; have F3 := Lib.hid (FA.out.trans0 f3); have R3 := Lib.hid (range_keep R2.out f3 id); have C3 := f3.cell c32 id; have PO3 := Lib.hid (PO2.out.keep f3); have HW3 := Lib.hid (ownsRow_keep HW2.out f3 (fun _ _ => id)); have HO3 := Lib.hid (ownsRow_keep HO2.out f3 (fun _ _ => id)); clear f3))
        have WL2 := Lib.hid (show Wn.length ≤ 1000 + (R.length - k) * 30 from Nat.le_trans WL.out.1 (Nat.add_le_add_left (Nat.mul_le_mul_right _ (by omega)) _))
        go_roundw
        case rel => exact ⟨k, Wn, by go_num, by omega, WK.out, WL2.out, WJ2.out, HW3.out, by rw [HT.out]; exact HO3.out, DJ.out, F3.out⟩
        case measure => simp [intOf]
end
end Go.Proofs.Ytnjkpjcnmdgoeaa
