/- kin: Up, Down, All. -/
import Derived.Test.YtnjkpjcnmdgoeaaKinH
namespace Go.Proofs.Ytnjkpjcnmdgoeaa
open Go Go.RowKit Go.Maps Go.MapKept Go.Sort

theorem own_base {w : World} {B B' k n : Nat} {e : TypeId} {v : Value} {xs : List Value} (h : w.ownsRow B e k v n xs) (hB : B' ≤ B) : w.ownsRow B' e k v n xs :=
  ⟨h.1, h.2.imp id fun ⟨g, cp, cur, a1, a2, a3⟩ => ⟨g, cp, cur, a1, Nat.le_trans hB a2, a3⟩⟩
/-- A row of ids of its own, made behind w. -/
def RowK (w w' : World) (v : Value) (S : List HashD) : Prop := w'.ownsRow w.heap.size 30 32 v S.length (S.flatMap hashC) ∧ Fr No w w'
section
variable {w0 w : World} {p N : Nat} {V : Nat → Prop} {G : List NodeD}
theorem reach_sublist (up : Bool) (l : List HashD) : (reachS up G l).Sublist (ids G) := by
  cases up
  · exact down_sublist l
  · exact up_sublist l
set_option maxRecDepth 20000 in
theorem up_K (h : GC w0 w p V G N) (hN : N ≤ 1000) {v : Value} {l : List HashD} (hl : IdsIs w v l) (hl2 : l.length ≤ 1000) :
    Calls Try.prog 14 #[.pointer (some ⟨p, 0, none⟩), v] w fun e w' => ∃ v', e = .returned v' ∧ RowK w w' v' (upS G l) := by
  have HC := Lib.hid h
  have HL := Lib.hid hl
  clear h hl
  go_enter Try.func14, Try.ntmps14
  go_wp2_with (first | (go_at_call 31; refine (walk_K HC.out hN HL.out hl2 true).mono ?_; rintro e w2 ⟨b, M, rfl, hm, hs, hb, f2⟩; have HM := Lib.hid hm; have HS := Lib.hid hs; have F2 := Lib.hid f2; clear hm hs f2) | (go_at_call 30; refine (sorted_K (HC.out.fr0 F2.out) hN HM.out HS.out (reach_sublist true l)).mono ?_; rintro e w3 ⟨v3, rfl, o3, f3⟩; have O3 := Lib.hid (own_base o3 F2.out.size); have F3 := Lib.hid (F2.out.trans0 f3); clear o3 f3))
  go_ret
  exact ⟨_, rfl, O3.out, F3.out⟩
set_option maxRecDepth 20000 in
theorem down_K (h : GC w0 w p V G N) (hN : N ≤ 1000) {v : Value} {l : List HashD} (hl : IdsIs w v l) (hl2 : l.length ≤ 1000) :
    Calls Try.prog 16 #[.pointer (some ⟨p, 0, none⟩), v] w fun e w' => ∃ v', e = .returned v' ∧ RowK w w' v' (downS G l) := by
  have HC := Lib.hid h
  have HL := Lib.hid hl
  clear h hl
  go_enter Try.func16, Try.ntmps16
  go_wp2_with (first | (go_at_call 31; refine (walk_K HC.out hN HL.out hl2 false).mono ?_; rintro e w2 ⟨b, M, rfl, hm, hs, hb, f2⟩; have HM := Lib.hid hm; have HS := Lib.hid hs; have F2 := Lib.hid f2; clear hm hs f2) | (go_at_call 30; refine (sorted_K (HC.out.fr0 F2.out) hN HM.out HS.out (reach_sublist false l)).mono ?_; rintro e w3 ⟨v3, rfl, o3, f3⟩; have O3 := Lib.hid (own_base o3 F2.out.size); have F3 := Lib.hid (F2.out.trans0 f3); clear o3 f3))
  go_ret
  exact ⟨_, rfl, O3.out, F3.out⟩
set_option maxRecDepth 20000 in
set_option maxHeartbeats 4000000 in
theorem all_K (h : GC w0 w p V G N) (hN : N ≤ 1000) :
    Calls Try.prog 13 #[.pointer (some ⟨p, 0, none⟩)] w fun e w' => ∃ v', e = .returned v' ∧ RowK w w' v' (ids G) := by
  obtain ⟨dK, uK, rK⟩ := descHash
  obtain ⟨m, sq, L, hr, -, hG, -, -⟩ := h.ex
  have hIds : ids G = L.map (·.id) := by rw [← hG]; simp [ids, Function.comp]
  obtain ⟨Mg, hM, hMs⟩ := hr.map
  have f1 : Fr No w (w.alloc (.map #[] 0)) := (Fr.refl No w).alloc _
  have hM1 := hM.keep f1 id
  obtain ⟨clk, hrng, hit⟩ := hM1.rangeI undGraphMap
  have c1 := f1.cell (blk2 hr.obj).1 id
  have hin := (show InMap (w.alloc (.map #[] 0)) w.heap.size [] from MapIs.made w)
  have f2 : Fr No (w.alloc (.map #[] 0)) ((w.alloc (.map #[] 0)).alloc (.mapIter (some m) clk #[] clk)) := (Fr.refl No _).alloc _
  have HI0 := Lib.hid (show IterIs Try.prog 30 hashV nodeV ((w.alloc (.map #[] 0)).alloc (.mapIter (some m) clk #[] clk)) (w.heap.size + 1) m Mg Mg by rw [show w.heap.size + 1 = (w.alloc (.map #[] 0)).heap.size by simp]; exact hit)
  have HM0 := Lib.hid (hin.keep f2 id)
  have F0 := Lib.hid (f1.trans0 f2)
  have m1 := run_makeI
  have KS := Lib.hid (show ∀ k, k ∈ Mg.map (·.1) ↔ k ∈ ids G from fun k => by
    rw [hIds]
    constructor
    · intro hk
      obtain ⟨⟨k', b'⟩, hx, rfl⟩ := List.mem_map.1 hk
      obtain ⟨r, hr', e, -⟩ := (hMs k' b').1 hx
      exact List.mem_map.2 ⟨r, hr', e⟩
    · intro hk
      obtain ⟨r, hr', rfl⟩ := List.mem_map.1 hk
      exact List.mem_map.2 ⟨(r.id, r.b), (hMs _ _).2 ⟨r, hr', rfl, rfl⟩, rfl⟩)
  have LN := Lib.hid (show Mg.length ≤ 1000 by
    have := nodup_len (m := ids G) hM.nodup (fun x hx => (KS.out x).1 hx)
    have h2 := h.len
    simp only [ids, List.length_map] at this
    omega)
  have OKM := Lib.hid (show ∀ x ∈ Mg, hashOk x.1 from fun x hx => h.okId x.1 ((KS.out x.1).1 (List.mem_map.2 ⟨x, hx, rfl⟩)))
  have HC := Lib.hid h
  have MB := Lib.hid hM.lt
  have zh := zeroHash
  clear h hr hG hIds hM hMs hM1 hit hin f1 f2
  go_enter Try.func13, Try.ntmps13
  go_wp2_with (refine wpList_range_run rfl rfl rfl hrng ?_)
  rw [show (w.alloc (.map #[] 0)).heap.size = w.heap.size + 1 by simp]
  generalize (w.alloc (.map #[] 0)).alloc (.mapIter (some m) clk #[] clk) = W at *
  generalize hb : w.heap.size = b at *
  clear hrng m1 c1
  try simp only [Act.put, List.setIfInBounds_toArray, List.set_cons_zero, List.set_cons_succ]
  go_loopg [] Mg.length (fun n wr => ∃ (D R : List (HashD × Nat)) (Mi : List (HashD × Int)), (D ++ R).Perm Mg ∧ R.length = n ∧ IterIs Try.prog 30 hashV nodeV wr (b + 1) m Mg R ∧ InMap wr b Mi ∧ (∀ k c, (k, c) ∈ Mi ↔ c = 1 ∧ k ∈ D.map (·.1)) ∧ Mi.length ≤ D.length ∧ Fr No w wr)
  case atStart => exact ⟨[], Mg, [], List.Perm.refl _, rfl, HI0.out, HM0.out, by simp, Nat.le_refl _, F0.out⟩
  case round =>
    obtain ⟨D, R, Mi, hperm, hm, hI, hin, hmem, hml, hfr⟩ := hrel
    cases R with
    | nil =>
      have hnx := hI.stop
      rw [List.append_nil] at hperm
      have FR := Lib.hid hfr
      have HM := Lib.hid hin
      have HS := Lib.hid (show ∀ k c, (k, c) ∈ Mi ↔ c = 1 ∧ k ∈ ids G from fun k c => by
        rw [hmem, ← KS.out, (hperm.map (·.1)).mem_iff])
      clear hI hperm hm hfr hin hmem hml
      go_wp2_with (first | (refine wpList_next_run rfl rfl rfl (hnx _) ?_) | (go_at_call 30; refine (sorted_K (HC.out.fr0 FR.out) hN HM.out HS.out (List.Sublist.refl _)).mono ?_; rintro e w3 ⟨v3, rfl, o3, f3⟩; have O3 := Lib.hid (own_base o3 FR.out.size); have F3 := Lib.hid (FR.out.trans0 f3); clear o3 f3))
      go_ret
      exact ⟨_, rfl, O3.out, F3.out⟩
    | cons x0 R0 =>
      obtain ⟨A, x, B, w3, hAB, hnx, hI2, f3, hent⟩ := hI.step (by simp) 0
      have hx : x ∈ Mg := hperm.subset (by rw [hAB]; simp)
      have XOK := Lib.hid (OKM.out x hx)
      have HX := Lib.hid (hashC_len XOK.out)
      have hp2 : ((D ++ [x]) ++ (A ++ B)).Perm Mg := by
        refine List.Perm.trans ?_ hperm
        rw [hAB, List.append_assoc]
        exact List.Perm.append_left _ (show (x :: (A ++ B)).Perm (A ++ x :: B) from List.perm_middle.symm)
      have hDl : D.length ≤ 1000 := by have := hp2.length_eq; have := LN.out; simp at this ⊢; simp at *; omega
      have t5 : Fr No w3 (w3.alloc (.cells (hashC x.1).toArray 30)) := (Fr.refl No w3).alloc _
      have hlt := hin.lt
      obtain ⟨w4, Mi', hup, hin4, hupd, htu, hml4⟩ := ((hin.keep f3 (by omega)).keep t5 id).upd eqHash.keyed undInMap (fun _ _ => hashV_inj) (keyOfHash XOK.out) (show Mi.length < maxLen by unfold maxLen; omega) 1
      have f4 : Fr No w w4 := ((hfr.trans f3 (fun i hi e => by omega)).trans0 t5).trans htu.fr (fun i hi e => by omega)
      have HI4 := Lib.hid ((hI2.keep t5 id id).keep htu.fr (by have := MB.out; omega) (by omega))
      have HM4 := Lib.hid hin4
      have HS4 := Lib.hid (show ∀ k c, (k, c) ∈ Mi' ↔ c = 1 ∧ k ∈ (D ++ [x]).map (·.1) from fun k c => by
        rw [hupd, hmem, List.map_append, List.mem_append]
        constructor
        · rintro (⟨rfl, rfl⟩ | ⟨_, h2, h3⟩)
          · exact ⟨rfl, .inr (by simp)⟩
          · exact ⟨h2, .inl h3⟩
        · rintro ⟨rfl, h2⟩
          by_cases e : k = x.1
          · exact .inl ⟨e, rfl⟩
          · exact .inr ⟨e, rfl, h2.elim id (fun h => absurd (by simpa using h) e)⟩)
      have HL4 := Lib.hid (show Mi'.length ≤ (D ++ [x]).length by simp; omega)
      have F4 := Lib.hid f4
      have HP := Lib.hid hp2
      have HR := Lib.hid (show (A ++ B).length < gk by rw [← hm, hAB]; simp)
      have RN := Lib.hid (range_new w3 (hashC x.1) 30)
      clear hI hI2 hfr hx hp2 hDl t5 hAB hperm hm f3 hlt hin hmem hml hin4 hupd htu hml4 f4
      unfold hashV nodeV at hnx hent
      unfold hashV intV at hup
      go_wp2_with (first | refine wpList_next_run rfl rfl rfl hnx ?_ | refine wpList_entry_run rfl rfl rfl hent ?_ | (refine wpList_done rfl (exec_store_new (w := w3) (cs := hashC x.1) (ty := 30) rfl rfl rfl (by rw [HX.out]; rfl) (by rw [HX.out]; exact infoHash) hashC_one) ?_) | (refine wpList_value rfl (exec_load (ty := 30) rfl rfl RN.out uK rK (by rw [HX.out]; exact infoHash)) ?_) | (refine wpList_done rfl (exec_mapUpdate rfl rfl rfl rfl hup) ?_))
      go_roundg (A ++ B).length
      case measure => exact HR.out
      case rel => exact ⟨D ++ [x], A ++ B, Mi', HP.out, rfl, HI4.out, HM4.out, HS4.out, HL4.out, F4.out⟩
end
end Go.Proofs.Ytnjkpjcnmdgoeaa
