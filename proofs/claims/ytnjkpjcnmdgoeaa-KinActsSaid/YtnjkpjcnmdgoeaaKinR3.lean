/- The document's graph of kin: Up, Down. -/
import Derived.Test.YtnjkpjcnmdgoeaaKinR1
import Derived.Test.YtnjkpjcnmdgoeaaKinR2
namespace Go.Proofs.Ytnjkpjcnmdgoeaa
open Go Go.RowKit Go.Maps Go.MapKept

/-- A slice literal of one id, as a row of one's own. -/
theorem own_one (w : World) {x : HashD} (hx : hashOk x) : (w.alloc (.cells (hashC x).toArray 30)).ownsRow w.heap.size 30 32 (.slice (some ⟨w.heap.size, 0, none⟩) 1 1) ([x] : List HashD).length (([x] : List HashD).flatMap hashC) :=
  ⟨by simp [hashC_len hx], .inr ⟨w.heap.size, 1, (hashC x).toArray, rfl, Nat.le_refl _, heap_alloc_new w _, Nat.le_refl _, by unfold maxLen; omega, by simp [hashC_len hx], by
    simp only [List.length_singleton, Nat.one_mul, List.flatMap_cons, List.flatMap_nil, List.append_nil]
    exact List.take_of_length_le (by rw [hashC_len hx]; exact Nat.le_refl _)⟩⟩
set_option maxRecDepth 20000 in
set_option maxHeartbeats 4000000 in
theorem some_b {w : World} {u v : Value} {A B : List HashD} (hu : IdsIs w u A) (hv : IdsIs w v B) (hA : A.length ≤ 100000) (hB : B.length ≤ 100000) {b : Bool} (hb : b = true ↔ ∃ x ∈ A, x ∈ B) :
    Calls Try.prog 35 #[u, v] w fun e w' => e = .returned (.bool b) ∧ Fr No w w' := by
  obtain ⟨dK, uK, rK⟩ := descHash
  obtain ⟨ua, uc, rfl⟩ := hu.2.form
  have HU := Lib.hid hu
  have HV := Lib.hid hv
  have HB := Lib.hid hb
  clear hu hv hb
  go_enter Try.func35, Try.ntmps35
  go_wp2
  go_loopw [9] (fun iv wr => ∃ n : Nat, iv = .int .i64 n ∧ n ≤ A.length ∧ (∀ x ∈ A.take n, x ∉ B) ∧ Fr No w wr) (fun iv _ => A.length - (intOf iv).toNat)
  case atStart => exact ⟨0, rfl, Nat.zero_le _, by simp, Fr.refl _ _⟩
  case round =>
    obtain ⟨n, rfl, hn, hni, fr⟩ := hrel
    have FR := Lib.hid fr
    have NI := Lib.hid hni
    clear fr hni
    by_cases h : n < A.length
    · have i1 : (n : Int) < (A.length : Int) := by omega
      obtain ⟨y, hy⟩ : ∃ y, A[n]? = some y := ⟨_, List.getElem?_eq_getElem h⟩
      obtain ⟨g, off, cap, hv, hr, -⟩ := (HU.out.keep FR.out).at_ hy
      cases hv
      have YM := List.mem_of_getElem? hy
      have YOK := Lib.hid (HU.out.1 y YM)
      have YL := Lib.hid (hashC_len YOK.out)
      have R1 := Lib.hid hr
      have RN := Lib.hid (range_new wr (hashC y) 30)
      have FA := Lib.hid (FR.out.alloc (.cells (hashC y).toArray 30))
      have HT := Lib.hid (show A.take (n + 1) = A.take n ++ [y] by rw [List.take_add_one, hy]; rfl)
      clear hy hr
      by_cases hyb : y ∈ B
      · have BB := Lib.hid (show true = true ↔ y ∈ B by simp [hyb])
        have E := Lib.hid (show b = true from HB.out.2 ⟨y, YM, hyb⟩)
        clear hyb YM
        go_wp2_with (first | ((with_reducible refine at_dst 12 ?_); refine wpList_vG rfl (exec_load (ty := 30) rfl rfl R1.out uK rK (by rw [YL.out]; exact infoHash)) ?_) | ((with_reducible refine at_store ?_); refine wpList_done rfl (exec_store_new (w := wr) (ty := 30) (cs := hashC y) rfl rfl rfl (by rw [YL.out]; rfl) (by rw [YL.out]; exact infoHash) hashC_one) ?_; generalize wr.alloc (.cells (hashC y).toArray 30) = w2 at *; generalize wr.heap.size = q2 at *) | ((with_reducible refine at_dst 14 ?_); refine wpList_vG rfl (exec_load (ty := 30) rfl rfl RN.out uK rK (by rw [YL.out]; exact infoHash)) ?_) | (go_at_call 15; refine (has_b (HV.out.keep FA.out) hB YOK.out BB.out).mono ?_; rintro e w3 ⟨rfl, f3⟩; have F3 := Lib.hid (FA.out.trans0 f3); clear f3))
        go_ret
        exact ⟨by rw [E.out]; rfl, F3.out⟩
      · have BB := Lib.hid (show false = true ↔ y ∈ B by simp [hyb])
        have NI2 := Lib.hid (show ∀ x ∈ A.take (n + 1), x ∉ B by
          rw [HT.out]
          intro x hx
          rcases List.mem_append.1 hx with hx | hx
          · exact NI.out x hx
          · rw [List.mem_singleton.1 hx]; exact hyb)
        clear hyb YM
        go_wp2_with (first | ((with_reducible refine at_dst 12 ?_); refine wpList_vG rfl (exec_load (ty := 30) rfl rfl R1.out uK rK (by rw [YL.out]; exact infoHash)) ?_) | ((with_reducible refine at_store ?_); refine wpList_done rfl (exec_store_new (w := wr) (ty := 30) (cs := hashC y) rfl rfl rfl (by rw [YL.out]; rfl) (by rw [YL.out]; exact infoHash) hashC_one) ?_; generalize wr.alloc (.cells (hashC y).toArray 30) = w2 at *; generalize wr.heap.size = q2 at *) | ((with_reducible refine at_dst 14 ?_); refine wpList_vG rfl (exec_load (ty := 30) rfl rfl RN.out uK rK (by rw [YL.out]; exact infoHash)) ?_) | (go_at_call 15; refine (has_b (HV.out.keep FA.out) hB YOK.out BB.out).mono ?_; rintro e w3 ⟨rfl, f3⟩; have F3 := Lib.hid (FA.out.trans0 f3); clear f3))
        go_roundw
        case rel => exact ⟨n + 1, by simp, by omega, NI2.out, F3.out⟩
        case measure => show A.length - (n + 1) < A.length - n; omega
    · have i1 : ¬ (n : Int) < (A.length : Int) := by omega
      have E := Lib.hid (show b = false by
        rw [Bool.eq_false_iff]
        intro h1
        obtain ⟨x, h2, h3⟩ := HB.out.1 h1
        have := NI.out
        rw [show n = A.length by omega, List.take_length] at this
        exact this x h2 h3)
      go_wp2
      go_ret
      exact ⟨by rw [E.out]; rfl, FR.out⟩
section
variable {w0 w : World} {q : Nat} {U : Nat → Prop} {G : List NodeD}
set_option maxRecDepth 20000 in
set_option maxHeartbeats 4000000 in
theorem down_R (h : RG w0 w q U G) (ok : GOk G) (hG : G.length ≤ 900) {v : Value} {l : List HashD} (hl : IdsIs w v l) (hl2 : l.length ≤ 1000) : Calls Try.prog 26 #[.pointer (some ⟨q, 0, none⟩), v] w fun e w' => ∃ v', e = .returned v' ∧ RowK w w' v' (downS G l) := by
  obtain ⟨dK, uK, rK⟩ := descHash
  obtain ⟨dN, uN, rN⟩ := descRN
  have zn := zeroRN
  obtain ⟨lc, R, la, ha, hs⟩ := h.form
  have A1 := Lib.hid ha
  have c0 := A1.out.obj
  have HS := Lib.hid hs
  have HL := Lib.hid hl
  have OK := Lib.hid ok
  have lG : R.length = G.length := hs.len
  have DA := Lib.hid (downN_all (G := G) (l := l))
  rw [← lG] at DA
  have DN := Lib.hid (fun k => downN_len (G := G) (l := l) k)
  clear h ha hs hl ok
  go_enter Try.func26, Try.ntmps26
  go_wp2
  go_loopw [5, 13] (fun rv iv wr => ∃ n : Nat, iv = .int .i64 n ∧ n ≤ R.length ∧ (∀ c ∈ downN G l n, hashOk c) ∧ wr.ownsRow w.heap.size 30 32 rv (downN G l n).length ((downN G l n).flatMap hashC) ∧ Fr No w wr) (fun _ iv _ => R.length - (intOf iv).toNat)
  case atStart => exact ⟨0, rfl, Nat.zero_le _, by simp [downN, ids], World.ownsRow_nil _ _ _ _, Fr.refl _ _⟩
  case round =>
    obtain ⟨n, rfl, hn, hok, ho, fr⟩ := hrel
    have FR := Lib.hid fr
    have HO := Lib.hid ho
    have HK := Lib.hid hok
    obtain ⟨ra, rc, rfl⟩ := ho.slice.arg.form
    have LT := Lib.hid (show (downN G l n).length ≤ 900 by have := DN.out n; omega)
    clear fr ho hok
    by_cases h : n < R.length
    · have i1 : (n : Int) < (R.length : Int) := by omega
      obtain ⟨r, hr⟩ : ∃ r, R[n]? = some r := ⟨_, List.getElem?_eq_getElem h⟩
      have A2 := Lib.hid (A1.out.keep FR.out)
      obtain ⟨b, off, cap, hv, hrg, -⟩ := nodes_elem A2.out.row A2.out.rn hr
      cases hv
      have RA := Lib.hid (A2.out.rn r (List.mem_of_getElem? hr))
      obtain ⟨nd, hnd, hid, hps⟩ := HS.out.at_ hr
      obtain ⟨pa, pc, hpv⟩ := RA.out.own.slice.arg.form
      have PO := Lib.hid (IdsIs.own RA.out.own RA.out.pok)
      rw [hpv] at hrg PO
      have PL := Lib.hid (show r.ps.length ≤ 100000 from Nat.le_trans RA.out.len (by decide))
      have NL := Lib.hid (nodeC_len (v := .slice pa r.ps.length pc) RA.out.ok)
      have RL := Lib.hid (hashC_len RA.out.ok)
      have ROK := Lib.hid RA.out.ok
      have R1 := Lib.hid hrg
      have fa := (Fr.refl No wr).alloc (.cells (nodeC r.id (.slice pa r.ps.length pc)).toArray 63)
      obtain ⟨r2, c32⟩ := node_at (range_new wr (nodeC r.id (.slice pa r.ps.length pc)) 63) RA.out.ok
      have R2 := Lib.hid r2
      have FA := Lib.hid (FR.out.trans0 fa)
      have HO2 := Lib.hid (HO.out.alloc (.cells (nodeC r.id (.slice pa r.ps.length pc)).toArray 63))
      have PO2 := Lib.hid (PO.out.keep fa)
      have DS := Lib.hid (show r.id ∈ downS G l ↔ r.id ∈ l ∨ ∃ p ∈ r.ps, p ∈ downN G l n by
        rw [hid, down_step OK.out hnd]
        simp only [hps])
      have DI := Lib.hid (show r.id ∈ downS G l → downN G l (n + 1) = downN G l n ++ [r.id] from fun h => by rw [hid] at h ⊢; exact downN_in hnd h)
      have DO := Lib.hid (show r.id ∉ downS G l → downN G l (n + 1) = downN G l n from fun h => by rw [hid] at h; exact downN_out hnd h)
      clear hrg hpv fa hr A2 RA hnd hid hps r2 PO
      have HL2 := Lib.hid (HL.out.keep FA.out)
      have HR2 := Lib.hid (IdsIs.own HO2.out HK.out)
      by_cases h1 : r.id ∈ l
      · have B1 := Lib.hid (show true = true ↔ r.id ∈ l by simp [h1])
        have HT := Lib.hid (DI.out (DS.out.2 (.inl h1)))
        have HK2 := Lib.hid (show ∀ c ∈ downN G l (n + 1), hashOk c by rw [HT.out]; intro c hc; rcases List.mem_append.1 hc with hc | hc; exact HK.out c hc; rw [List.mem_singleton.1 hc]; exact ROK.out)
        clear h1
        go_wp2_with (first | ((with_reducible refine at_dst 16 ?_); refine wpList_vG rfl (exec_load (ty := 63) rfl rfl R1.out uN rN (by rw [NL.out]; exact infoRN)) ?_) | ((with_reducible refine at_store ?_); refine wpList_done rfl (exec_store_new (w := wr) (ty := 63) (cs := (nodeC r.id (.slice pa r.ps.length pc))) rfl rfl rfl (by rw [NL.out]; rfl) (by rw [NL.out]; exact infoRN) nodeC_one) ?_; generalize wr.alloc (.cells (nodeC r.id (.slice pa r.ps.length pc)).toArray 63) = w2 at *; generalize wr.heap.size = q2 at *) | ((with_reducible refine at_dst 19 ?_); refine wpList_vG rfl (exec_load (ty := 30) rfl rfl R2.out uK rK (by rw [RL.out]; exact infoHash)) ?_) | (go_at_call 15; refine (has_b HL2.out (by omega) ROK.out B1.out).mono ?_; rintro e w3 ⟨rfl, f3⟩; have F3 := Lib.hid (FA.out.trans0 f3); have R3 := Lib.hid (range_keep R2.out f3 id); have C3 := f3.cell c32 id; have PO3 := Lib.hid (PO2.out.keep f3); have HR3 := Lib.hid (HR2.out.keep f3); have HO3 := Lib.hid (ownsRow_keep HO2.out f3 (fun _ _ => id)); clear f3) | ((with_reducible refine at_dst 29 ?_); refine wpList_vG rfl (exec_load (ty := 30) rfl rfl R3.out uK rK (by rw [RL.out]; exact infoHash)) ?_) | ((with_reducible refine at_dst 30 ?_); refine wpList_vG rfl (exec_buildSliceA (t := 27) rfl rfl undIds infoHashZ2 rfl (by decide) (by decide) RL.out) ?_) | (at_builtin; obtain ⟨v4, w4, ap, oo, ff, -⟩ := append_many (w3.alloc (.cells (hashC r.id).toArray 30)) (World.ownsRow.alloc HO3.out _) (ids_new1 w3 ROK.out) (by have := LT.out; simp only [List.length_singleton]; omega) (by have := F3.out.size; simp; omega); refine wpList_append_run rfl rfl rfl rfl ap ?_; have F4 := Lib.hid (own_fr (F3.out.alloc _) (World.ownsRow.alloc HO3.out _) (Nat.le_refl _) ff); rw [← HT.out] at oo; have O4 := Lib.hid oo; obtain ⟨a4, c4, rfl⟩ := oo.slice.arg.form; clear ap oo ff))
        go_roundw
        case rel => exact ⟨n + 1, by simp, by omega, HK2.out, O4.out, F4.out⟩
        case measure => show R.length - (n + 1) < R.length - n; omega
      · have B1 := Lib.hid (show false = true ↔ r.id ∈ l by simp [h1])
        by_cases h2 : ∃ p ∈ r.ps, p ∈ downN G l n
        · have B2 := Lib.hid h2
          have HT := Lib.hid (DI.out (DS.out.2 (.inr h2)))
          have HK2 := Lib.hid (show ∀ c ∈ downN G l (n + 1), hashOk c by rw [HT.out]; intro c hc; rcases List.mem_append.1 hc with hc | hc; exact HK.out c hc; rw [List.mem_singleton.1 hc]; exact ROK.out)
          clear h1 h2
          go_wp2_with (first | ((with_reducible refine at_dst 16 ?_); refine wpList_vG rfl (exec_load (ty := 63) rfl rfl R1.out uN rN (by rw [NL.out]; exact infoRN)) ?_) | ((with_reducible refine at_store ?_); refine wpList_done rfl (exec_store_new (w := wr) (ty := 63) (cs := (nodeC r.id (.slice pa r.ps.length pc))) rfl rfl rfl (by rw [NL.out]; rfl) (by rw [NL.out]; exact infoRN) nodeC_one) ?_; generalize wr.alloc (.cells (nodeC r.id (.slice pa r.ps.length pc)).toArray 63) = w2 at *; generalize wr.heap.size = q2 at *) | ((with_reducible refine at_dst 19 ?_); refine wpList_vG rfl (exec_load (ty := 30) rfl rfl R2.out uK rK (by rw [RL.out]; exact infoHash)) ?_) | (go_at_call 15; refine (has_b HL2.out (by omega) ROK.out B1.out).mono ?_; rintro e w3 ⟨rfl, f3⟩; have F3 := Lib.hid (FA.out.trans0 f3); have R3 := Lib.hid (range_keep R2.out f3 id); have C3 := f3.cell c32 id; have PO3 := Lib.hid (PO2.out.keep f3); have HR3 := Lib.hid (HR2.out.keep f3); have HO3 := Lib.hid (ownsRow_keep HO2.out f3 (fun _ _ => id)); clear f3) | (go_at_call 35; refine (some_b PO3.out HR3.out PL.out (by have := LT.out; omega) (b := true) ⟨fun _ => B2.out, fun _ => rfl⟩).mono ?_; rintro e w5 ⟨rfl, f5⟩; have F35 := Lib.hid f5; have F5 := Lib.hid (F3.out.trans0 f5); replace R3 := Lib.hid (range_keep R3.out f5 id); clear f5) | ((with_reducible refine at_dst 29 ?_); refine wpList_vG rfl (exec_load (ty := 30) rfl rfl R3.out uK rK (by rw [RL.out]; exact infoHash)) ?_) | ((with_reducible refine at_dst 30 ?_); refine wpList_vG rfl (exec_buildSliceA (t := 27) rfl rfl undIds infoHashZ2 rfl (by decide) (by decide) RL.out) ?_) | (at_builtin; obtain ⟨v4, w4, ap, oo, ff, -⟩ := append_many (w5.alloc (.cells (hashC r.id).toArray 30)) (World.ownsRow.alloc (ownsRow_keep HO3.out F35.out (fun _ _ => id)) _) (ids_new1 w5 ROK.out) (by have := LT.out; simp only [List.length_singleton]; omega) (by have := F5.out.size; simp; omega); refine wpList_append_run rfl rfl rfl rfl ap ?_; have F4 := Lib.hid (own_fr (F5.out.alloc _) (World.ownsRow.alloc (ownsRow_keep HO3.out F35.out (fun _ _ => id)) _) (Nat.le_refl _) ff); rw [← HT.out] at oo; have O4 := Lib.hid oo; obtain ⟨a4, c4, rfl⟩ := oo.slice.arg.form; clear ap oo ff))
          go_roundw
          case rel => exact ⟨n + 1, by simp, by omega, HK2.out, O4.out, F4.out⟩
          case measure => show R.length - (n + 1) < R.length - n; omega
        · have B2 := Lib.hid (show false = true ↔ ∃ p ∈ r.ps, p ∈ downN G l n from ⟨fun e => (by cases e), fun e => absurd e h2⟩)
          have HT := Lib.hid (DO.out (fun e => (DS.out.1 e).elim h1 h2))
          have HK2 := Lib.hid (show ∀ c ∈ downN G l (n + 1), hashOk c by rw [HT.out]; exact HK.out)
          clear h1 h2
          go_wp2_with (first | ((with_reducible refine at_dst 16 ?_); refine wpList_vG rfl (exec_load (ty := 63) rfl rfl R1.out uN rN (by rw [NL.out]; exact infoRN)) ?_) | ((with_reducible refine at_store ?_); refine wpList_done rfl (exec_store_new (w := wr) (ty := 63) (cs := (nodeC r.id (.slice pa r.ps.length pc))) rfl rfl rfl (by rw [NL.out]; rfl) (by rw [NL.out]; exact infoRN) nodeC_one) ?_; generalize wr.alloc (.cells (nodeC r.id (.slice pa r.ps.length pc)).toArray 63) = w2 at *; generalize wr.heap.size = q2 at *) | ((with_reducible refine at_dst 19 ?_); refine wpList_vG rfl (exec_load (ty := 30) rfl rfl R2.out uK rK (by rw [RL.out]; exact infoHash)) ?_) | (go_at_call 15; refine (has_b HL2.out (by omega) ROK.out B1.out).mono ?_; rintro e w3 ⟨rfl, f3⟩; have F3 := Lib.hid (FA.out.trans0 f3); have R3 := Lib.hid (range_keep R2.out f3 id); have C3 := f3.cell c32 id; have PO3 := Lib.hid (PO2.out.keep f3); have HR3 := Lib.hid (HR2.out.keep f3); have HO3 := Lib.hid (ownsRow_keep HO2.out f3 (fun _ _ => id)); clear f3) | (go_at_call 35; refine (some_b PO3.out HR3.out PL.out (by have := LT.out; omega) B2.out).mono ?_; rintro e w5 ⟨rfl, f5⟩; have F35 := Lib.hid f5; have F5 := Lib.hid (F3.out.trans0 f5); replace R3 := Lib.hid (range_keep R3.out f5 id); clear f5))
          have O5 := Lib.hid (ownsRow_keep HO3.out F35.out (fun _ _ => id))
          go_roundw
          case rel => exact ⟨n + 1, by simp, by omega, HK2.out, by rw [HT.out]; exact O5.out, F5.out⟩
          case measure => show R.length - (n + 1) < R.length - n; omega
    · have i1 : ¬ (n : Int) < (R.length : Int) := by omega
      obtain rfl : n = R.length := by omega
      rw [DA.out] at HO ⊢
      go_wp2
      go_ret
      exact ⟨_, rfl, HO.out, FR.out⟩
end
end Go.Proofs.Ytnjkpjcnmdgoeaa
