/- coin: Take. -/
import Derived.Laws.OwnMore
import Derived.Test.YtmpamcnlineceaaDoorMG16
import Derived.Test.YtmpamcnlineceaaDoorMG17
import Derived.Test.YtmpamcnlineceaaDoorMG7
set_option linter.unusedVariables false
set_option linter.unusedSimpArgs false
namespace Go.Proofs.YtmpamcnlineceaaDoor
open Go Go.RowKit Go.Maps Go.MapKept Go.Sort

def takeE (S : List CoinD) (ps : List PointD) : Int := if ps.Nodup then if ps.all (hasC S) then 0 else 9 else 12
def takeS (S : List CoinD) (ps : List PointD) : List CoinD := if takeE S ps = 0 then takeC S ps else S
def takeO (S : List CoinD) (ps : List PointD) : List OutD := if takeE S ps = 0 then ps.map (outOf S) else []
def missC (S : List CoinD) (ps : List PointD) : Nat := (ps.filter fun p => !hasC S p).length
theorem missC_snoc (S : List CoinD) {ps : List PointD} {n : Nat} {x : PointD} (h : ps[n]? = some x) : missC S (ps.take (n + 1)) = missC S (ps.take n) + if hasC S x = true then 0 else 1 := by
  unfold missC
  rw [List.take_add_one, h]
  simp only [Option.toList_some, List.filter_append, List.length_append]
  cases hx : hasC S x <;> simp [hx]
theorem missC_le (S : List CoinD) (ps : List PointD) : missC S ps ≤ ps.length := List.length_filter_le _ _
theorem missC_all {S : List CoinD} {ps : List PointD} : ps.all (hasC S) = true ↔ missC S ps = 0 := by
  unfold missC
  rw [List.length_eq_zero_iff, List.filter_eq_nil_iff, List.all_eq_true]
  simp
abbrev seenV (c : Int) : Value := .int .i64 c
abbrev AtSeen (w : World) (m : Nat) (M : List (PointD × Int)) : Prop := MapIs Tryd.prog 47 pointV seenV w m M
theorem run_makeSeen (w : World) : (Instr.makeMap 133 none).run Tryd.prog w = .ok (.map (some w.heap.size)) (w.alloc (.map #[] 0)) := by kernel_rfl
theorem takeC_snoc {S : List CoinD} {ps : List PointD} {n : Nat} {x : PointD} (h : ps[n]? = some x) : takeC (takeC S (ps.take n)) [x] = takeC S (ps.take (n + 1)) := by
  unfold takeC
  rw [List.filter_filter, List.take_add_one, h]
  apply List.filter_congr
  intro c _
  simp [Bool.and_comm]
theorem own_mono {w : World} {B B' k n : Nat} {e : TypeId} {v : Value} {xs : List Value} (h : w.ownsRow B e k v n xs) (hB : B' ≤ B) : w.ownsRow B' e k v n xs :=
  ⟨h.1, h.2.imp id fun ⟨g, c, cur, e1, hb, r⟩ => ⟨g, c, cur, e1, Nat.le_trans hB hb, r⟩⟩
theorem takeC_nil (S : List CoinD) : takeC S [] = S := by simp [takeC]

section
variable {w0 w : World} {p : Nat} {V : Nat → Prop} {S : List CoinD}
/-- s.at anew, in its block. -/
theorem CS.setM (h : CS w0 w p V S) {m : Nat} {M' : List (PointD × OutD)} {w' : World} {S' : List CoinD} (hb : w.heap[p]? = some (.cells #[.map (some m)] 123 (0, 0))) (hM : AtMap w' m M') (hs : ∀ k v, (k, v) ∈ M' ↔ (⟨k, v⟩ : CoinD) ∈ S') (srt : SrtC S') (ok : ∀ c ∈ S', c.ok) (f : Fr (fun j => j = m) w w') :
    CS w0 w' p V S' := by
  obtain ⟨m', M2, hb', hm', hs', hne, rfl⟩ := h.ex
  rw [hb] at hb'
  injection hb' with hb'
  injection hb' with e1
  injection e1 with e1
  injection e1 with e1
  injection e1 with e1
  injection e1 with e1
  subst e1
  exact ⟨⟨m, M', f.obj hb hne, hM, hs, hne, rfl⟩, srt, ok, h.lo, h.fr.trans f (fun i hi e => by subst e; have := h.lo i (.inr rfl); omega)⟩
omit w0 w p V S in
theorem map_no_cell {w : World} {m : Nat} {M : List (PointD × OutD)} (h : AtMap w m M) (o : Nat) : w.cell? ⟨m, o, none⟩ = none := by
  obtain ⟨es, clk, hb, -⟩ := h
  simp [World.cell?, hb]
set_option maxRecDepth 20000 in
set_option maxHeartbeats 8000000 in
theorem take_C (h : CS w0 w p V S) {v : Value} {ps : List PointD} (hl : PointsIs w v ps) (hN : ps.length + S.length ≤ 100000) :
    Calls Tryd.prog 49 #[.pointer (some ⟨p, 0, none⟩), v] w fun e w' => ∃ x, e = .returned (.tuple #[x, .int .i64 (takeE S ps)]) ∧ w'.ownsRow w.heap.size 55 33 x (takeO S ps).length ((takeO S ps).flatMap outC) ∧ CS w0 w' p V (takeS S ps) ∧ Fr V w w' := by
  obtain ⟨dP, uP, rP⟩ := descPoint
  obtain ⟨dO, uO, rO⟩ := descOut
  obtain ⟨va, vc, rfl⟩ := hl.2.form
  have HC := Lib.hid h
  have HL := Lib.hid hl
  have zp := zeroPoint
  have zo := zeroOutC
  have ms1 := run_makeSeen w
  obtain ⟨iK, hi, hz, hsz, hby⟩ := info_parts infoOutZ
  obtain ⟨w2, hmk, ho2, hg2⟩ := run_makeSlice_full (P := Tryd.prog) (w := w.alloc (.map #[] 0)) (w.heap.size + 1) 22 55 iK _ 33 undOuts hi hz hsz .i64 .i64 ps.length (by omega) (by rw [hby]; omega) (by unfold maxLen; omega) (by simp)
  have f2 : Fr No w w2 := ((Fr.refl No w).alloc _).trans0 (Fr.of_grown hg2 (fun k e => by cases e))
  have HM0 := Lib.hid (show AtSeen w2 w.heap.size [] from (MapIs.made w).keep (W := No) (Fr.of_grown hg2 (fun k e => by cases e)) id)
  have hsz0 : (w.alloc (.map #[] 0)).heap.size = w.heap.size + 1 := by simp
  rw [hsz0] at hmk ho2
  have HO0 := Lib.hid (own_mono ho2 (Nat.le_succ w.heap.size))
  have F2 := Lib.hid f2
  have SZ2 := Lib.hid (show w.heap.size + 1 < w2.heap.size from (ho2.lt _ rfl).2)
  clear h hl hi hz hsz hby ho2 hg2 f2 hsz0
  go_enter Tryd.func49, Tryd.ntmps49
  go_wp2_with fail
  clear hmk ms1
  generalize hq0 : w.heap.size = b0 at *
  go_loopw [7, 23] (fun kv iv wr => ∃ (n : Nat) (Ms : List (PointD × Int)) (xs : List Value), iv = .int .i64 n ∧ n ≤ ps.length ∧ kv = .int .i64 (missC S (ps.take n)) ∧ AtSeen wr b0 Ms ∧ (∀ k, (∃ c, (k, c) ∈ Ms) ↔ k ∈ ps.take n) ∧ Ms.length ≤ n ∧ wr.ownsRow b0 55 33 (.slice (some ⟨b0 + 1, 0, none⟩) ps.length ps.length) ps.length xs ∧ xs.take (n * 33) = ((ps.take n).map (outOf S)).flatMap outC ∧ Fr No w wr ∧ b0 + 1 < wr.heap.size) (fun _ iv _ => ps.length - (intOf iv).toNat)
  case atStart => exact ⟨0, [], _, rfl, Nat.zero_le _, rfl, HM0.out, by simp, Nat.le_refl _, HO0.out, by simp, F2.out, SZ2.out⟩
  case round =>
    obtain ⟨n, Ms, xs, rfl, hn, rfl, hsm, hks, hml, hor, hxs, fr, hsz⟩ := hrel
    have FR := Lib.hid fr
    have HSM := Lib.hid hsm
    have HKS := Lib.hid hks
    have HOR := Lib.hid hor
    have HXS := Lib.hid hxs
    have HML := Lib.hid hml
    have HSZ := Lib.hid hsz
    have hCr := HC.out.fr0 fr
    obtain ⟨m, M, hb, hm, hs, hne, hVe⟩ := hCr.ex
    have VM := Lib.hid (show V m ∧ V p by rw [hVe]; exact ⟨.inr rfl, .inl rfl⟩)
    have HB := Lib.hid hb
    have HMr := Lib.hid hm
    have HS := Lib.hid hs
    have HNE := Lib.hid hne
    have HCr := Lib.hid hCr
    have HVE := Lib.hid hVe
    clear fr hsm hks hor hxs hml hsz hCr hm hs hne hVe
    by_cases h : n < ps.length
    · have i1 : (n : Int) < (ps.length : Int) := by omega
      obtain ⟨q, hx⟩ : ∃ x, ps[n]? = some x := ⟨_, List.getElem?_eq_getElem h⟩
      obtain ⟨b, off, cap, hv, hr, -⟩ := (HL.out.keep FR.out).at_ hx
      cases hv
      have QOK := Lib.hid (HL.out.1 q (List.mem_of_getElem? hx))
      have PL := Lib.hid (pointC_len QOK.out)
      have XO := Lib.hid (outOf_ok HC.out.ok q)
      have OL := Lib.hid (outC_len XO.out)
      have R1 := Lib.hid hr
      have hcn := missC_snoc S hx
      have hcl := missC_le S (ps.take n)
      rw [List.length_take] at hcl
      have hTN : ps.take (n + 1) = ps.take n ++ [q] := by rw [List.take_add_one, hx]; rfl
      have LOOK := Lib.hid (fun w' (h' : AtMap w' m M) => look_at (w := w') (q := q) HS.out HC.out.srt QOK.out h')
      have fA := (Fr.refl No wr).alloc (.cells (pointC q).toArray 47)
      have c0 : (wr.alloc (.cells (pointC q).toArray 47)).cell? ⟨p, 0, none⟩ = some (.map (some m)) := (blk1 (fA.obj hb id)).1
      have RB := Lib.hid (range_new wr (pointC q) 47)
      have HM := Lib.hid (HMr.out.keep fA id)
      -- behind the look
      have f5 := (fA.alloc (.cells (outC (outOf S q)).toArray 55)).drew
      have F5 := Lib.hid f5
      have RX := Lib.hid (show ((wr.alloc (.cells (pointC q).toArray 47)).alloc (.cells (outC (outOf S q)).toArray 55)).drew.rangeAt (wr.alloc (.cells (pointC q).toArray 47)).heap.size 0 (outC (outOf S q)) from range_new _ _ _)
      have HO5 := Lib.hid (ownsRow_keep HOR.out f5 (fun _ _ => id))
      have TH := Lib.hid (own_there HO5.out h)
      have HO6 := Lib.hid (own_setAt HO5.out (n * 33) (cs := outC (outOf S q)) (by rw [OL.out]; omega))
      have f6 := setCells_fr (b0 + 1) (outC (outOf S q)) (n * 33) ((wr.alloc (.cells (pointC q).toArray 47)).alloc (.cells (outC (outOf S q)).toArray 55)).drew
      have HXN := Lib.hid (show (setM xs (n * 33) (outC (outOf S q))).take ((n + 1) * 33) = ((ps.take (n + 1)).map (outOf S)).flatMap outC by
        have h1 := setM_pre xs (outC (outOf S q)) (n * 33) (by rw [HOR.out.1, OL.out]; omega)
        rw [OL.out] at h1
        rw [hTN, List.map_append, List.flatMap_append, ← HXS.out, show (n + 1) * 33 = n * 33 + 33 by omega, h1]
        simp)
      have hsm6 : AtSeen ((((wr.alloc (.cells (pointC q).toArray 47)).alloc (.cells (outC (outOf S q)).toArray 55)).drew.setCells (b0 + 1) (n * 33) (outC (outOf S q))).drew) b0 Ms := ((HSM.out.keep f5 id).keep f6 (fun e => by omega)).keep (Fr.refl No _).drew id
      have RB6 := Lib.hid (show ((((wr.alloc (.cells (pointC q).toArray 47)).alloc (.cells (outC (outOf S q)).toArray 55)).drew.setCells (b0 + 1) (n * 33) (outC (outOf S q))).drew).rangeAt wr.heap.size 0 (pointC q) from range_keep (range_keep (range_keep RB.out (((Fr.refl No _).alloc _).drew) id) f6 (fun e => by have := HSZ.out; omega)) (Fr.refl No _).drew id)
      obtain ⟨v0, w7, s, M1, hv0, hent, hT7, hM7, hlk0, hlk1, hst⟩ := hsm6.bump eqPoint.keyed undSeenMap (fun _ _ => pointV_inj) (z := 0) zeroSeen (keyOfPoint QOK.out) (by unfold maxLen; have := HML.out; omega)
      obtain ⟨w8, M', hsr, hM8, hU, hT8, hl8⟩ := hst (IntKind.i64.wrap (v0 + 1)) w7 No (Fr.refl _ _) id
      have LK0 := Lib.hid (hlk0 _ hsm6)
      have LK1 := Lib.hid (hlk1 _ hM7)
      have HENT := Lib.hid hent
      have HSR := Lib.hid hsr
      have RB7 := Lib.hid (range_keep RB6.out hT7.fr (fun e => by have := HSZ.out; omega))
      have HM8 := Lib.hid hM8
      have HO8 := Lib.hid (ownsRow_keep (ownsRow_keep (ownsRow_keep HO6.out (Fr.refl No _).drew (fun _ _ => id)) hT7.fr (fun j e e' => by simp [Value.ownBlock] at e; omega)) hT8.fr (fun j e e' => by simp [Value.ownBlock] at e; omega))
      have f68 : Fr No w w8 := ((((FR.out.trans0 f5).trans f6 (fun i hi e => by omega)).drew).trans hT7.fr (fun i hi e => by omega)).trans hT8.fr (fun i hi e => by omega)
      have F8 := Lib.hid f68
      have SZ8 := Lib.hid (show b0 + 1 < w8.heap.size by
        have h1 := f5.size; have h2 := f6.size; have h3 := hT7.fr.size; have h4 := hT8.fr.size; have h5 := HSZ.out
        simp only [World.drew] at h3
        have h6 : ((((wr.alloc (.cells (pointC q).toArray 47)).alloc (.cells (outC (outOf S q)).toArray 55)).drew.setCells (b0 + 1) (n * 33) (outC (outOf S q)))).heap.size ≤ w7.heap.size := h3
        omega)
      have HK8 := Lib.hid (show ∀ k, (∃ c, (k, c) ∈ M') ↔ k ∈ ps.take (n + 1) from fun k => by
        rw [hTN, List.mem_append, List.mem_singleton, ← HKS.out k]
        constructor
        · rintro ⟨c, hc⟩
          rcases (hU k c).1 hc with ⟨rfl, _⟩ | ⟨_, h⟩
          · exact .inr rfl
          · exact .inl ⟨c, h⟩
        · rintro (⟨c, hc⟩ | rfl)
          · by_cases e : k = q
            · subst e; exact ⟨_, (hU _ _).2 (.inl ⟨rfl, rfl⟩)⟩
            · exact ⟨c, (hU _ _).2 (.inr ⟨e, hc⟩)⟩
          · exact ⟨_, (hU _ _).2 (.inl ⟨rfl, rfl⟩)⟩)
      have HL8 := Lib.hid (show M'.length ≤ n + 1 by have := HML.out; omega)
      clear hr hx fA f5 f6 hsm6 hent hT7 hM7 hlk0 hlk1 hst hsr hM8 hU hT8 hl8 hb f68 HO5 HO6 HSM HKS HXS HMr hv0
      have hw : IntKind.i64.wrap ((missC S (ps.take n) : Int) + 1) = ((missC S (ps.take n) + 1 : Nat) : Int) := by rw [IntWalk.i64_in _ (by omega)]; omega
      cases hh : hasC S q
      all_goals
        rw [hh] at LOOK hcn
        simp only [if_true, Bool.false_eq_true, if_false] at hcn
        have HCN := Lib.hid hcn
        clear hh hcn
        generalize hX : outOf S q = X at *
        clear hX
        go_wp2_with (first | (refine wpList_value rfl (exec_load (ty := 47) rfl rfl R1.out uP rP (by rw [PL.out]; exact infoPoint)) ?_) | (refine wpList_done rfl (exec_store_new (w := wr) (ty := 47) rfl rfl rfl (by rw [PL.out]; rfl) (by rw [PL.out]; exact infoPoint) pointC_one) ?_))
        refine wp_region_lexL [false, false, false, false, false, false, false, false, false, true, true, false] (fun w' => w'.cell? ⟨p, 0, none⟩ = some (.map (some m)) ∧ w'.rangeAt wr.heap.size 0 (pointC q) ∧ AtMap w' m M) (by kernel_rfl) (by kernel_rfl) ?_ (fun K hK => ?_)
        · exact ⟨c0, range_keep RB.out (Fr.refl No _).drew id, HM.out.keep (Fr.refl No _).drew id⟩
        repeat (first | ((first | with_reducible refine lexL_read ?_ | ((with_reducible refine lexL_readG ?_ ?_); (focus rfl))); apply Exists.intro; refine ⟨?_, ?_⟩; (focus (first | exact lex_load (ty := 47) rfl (fun w h => h.2.1) uP rP (by rw [PL.out]; exact infoPoint) | exact fun w' h => exec_lookup (t := 121) rfl rfl rfl (LOOK.out w' h.2.2) | (intro w' hS; obtain ⟨s1, s2, s3⟩ := hS; go_simp; (try with_reducible rfl); done))); try simp only [Act.put, List.setIfInBounds_toArray, List.set_cons_zero, List.set_cons_succ]) | ((first | ((with_reducible refine lexL_skip (c := false) ?_ ?_ ?_); (focus rfl); (focus rfl)) | ((with_reducible refine lexL_skip (c := true) ?_ ?_ ?_); (focus rfl); (focus rfl)) | ((with_reducible refine lexL_skipU ?_ ?_); (focus rfl))); try simp only [Act.put, List.setIfInBounds_toArray, List.set_cons_zero, List.set_cons_succ]))
        (first | with_reducible refine lexL_eff (fun K' hK' => ?_) | ((with_reducible refine lexL_effG ?_ (fun K' hK' => ?_)); (focus rfl)))
        refine wp_value (exec_alloc rfl (zeroOutC _)) ?_
        refine hK'.out _ _ ?_ (fun hS => ?_)
        · exact ⟨(((Fr.refl No (wr.alloc (.cells (pointC q).toArray 47))).drew).alloc _).cell c0 id, range_keep RB.out (((Fr.refl No (wr.alloc (.cells (pointC q).toArray 47))).drew).alloc _) id, HM.out.keep (((Fr.refl No (wr.alloc (.cells (pointC q).toArray 47))).drew).alloc _) id⟩
        try simp only [Act.put, List.setIfInBounds_toArray, List.set_cons_zero, List.set_cons_succ]
        (first | with_reducible refine lexL_eff (fun K' hK' => ?_) | ((with_reducible refine lexL_effG ?_ (fun K' hK' => ?_)); (focus rfl)))
        refine wp_done (exec_store_new (w := ((wr.alloc (.cells (pointC q).toArray 47))).drew) (ty := 55) (cs := outC X) rfl rfl rfl (by rw [OL.out]; rfl) (by rw [OL.out]; exact infoOut) outC_one) ?_
        refine hK'.out _ _ ?_ (fun hS => ?_)
        · exact ⟨(((Fr.refl No (wr.alloc (.cells (pointC q).toArray 47))).drew).alloc _).cell c0 id, range_keep RB.out (((Fr.refl No (wr.alloc (.cells (pointC q).toArray 47))).drew).alloc _) id, HM.out.keep (((Fr.refl No (wr.alloc (.cells (pointC q).toArray 47))).drew).alloc _) id⟩
        try simp only [Act.put]
        repeat (first | ((first | with_reducible refine lexL_read ?_ | ((with_reducible refine lexL_readG ?_ ?_); (focus rfl))); apply Exists.intro; refine ⟨?_, ?_⟩; (focus (first | (intro w' hS; obtain _ := hS; go_simp; (try with_reducible rfl); done))); try simp only [Act.put, List.setIfInBounds_toArray, List.set_cons_zero, List.set_cons_succ]) | ((first | ((with_reducible refine lexL_skip (c := false) ?_ ?_ ?_); (focus rfl); (focus rfl)) | ((with_reducible refine lexL_skip (c := true) ?_ ?_ ?_); (focus rfl); (focus rfl)) | ((with_reducible refine lexL_skipU ?_ ?_); (focus rfl))); try simp only [Act.put, List.setIfInBounds_toArray, List.set_cons_zero, List.set_cons_succ]))
        refine lexL_nil (hK.out _ _ ?_)
        clear c0 RB HM LOOK
        go_wp2_with (first | (refine wpList_value rfl (exec_load (ty := 55) rfl rfl RX.out uO rO (by rw [OL.out]; exact infoOut)) ?_) | (refine wpList_done rfl (exec_store (ty := 55) rfl rfl rfl (by rw [OL.out]; exact TH.out) (by rw [OL.out]; exact infoOut) outC_one) ?_))
        refine wp_region_lexM [false, false, false, false, true, false, true] (fun w' => w'.rangeAt wr.heap.size 0 (pointC q) ∧ (Instr.lookup 133 (.map (some b0)) (pointV q) false).run Tryd.prog w' = .ok (.int .i64 v0) w') (by kernel_rfl) (by kernel_rfl) 6 (by kernel_rfl) (by kernel_rfl) ?_ (fun K hK => ?_)
        · exact ⟨RB6.out, LK0.out⟩
        repeat (first | ((first | with_reducible refine lexM_read ?_ | ((with_reducible refine lexM_readG ?_ ?_); (focus rfl))); apply Exists.intro; refine ⟨?_, ?_⟩; (focus (first | exact lex_load (ty := 47) rfl (fun w h => h.1) uP rP (by rw [PL.out]; exact infoPoint) | exact fun w' h => exec_lookup (t := 133) rfl rfl rfl h.2 | (intro w' hS; obtain ⟨s1, s2⟩ := hS; go_simp; (try with_reducible rfl); done))); try simp only [Act.put, List.setIfInBounds_toArray, List.set_cons_zero, List.set_cons_succ]) | ((first | ((with_reducible refine lexM_skip (c := false) ?_ ?_ ?_); (focus rfl); (focus rfl)) | ((with_reducible refine lexM_skip (c := true) ?_ ?_ ?_); (focus rfl); (focus rfl)) | ((with_reducible refine lexM_skipU ?_ ?_); (focus rfl))); try simp only [Act.put, List.setIfInBounds_toArray, List.set_cons_zero, List.set_cons_succ]))
        (first | with_reducible refine lexM_eff (fun K' hK' => ?_) | ((with_reducible refine lexM_effG ?_ (fun K' hK' => ?_)); (focus rfl)))
        refine wp_value (exec_mapEntry rfl rfl rfl HENT.out) ?_
        refine hK'.out _ _ (fun _ => ?_) (fun hS => ?_)
        · exact ⟨RB7.out, LK1.out⟩
        try simp only [Act.put, List.setIfInBounds_toArray, List.set_cons_zero, List.set_cons_succ]
        repeat (first | ((first | with_reducible refine lexM_read ?_ | ((with_reducible refine lexM_readG ?_ ?_); (focus rfl))); apply Exists.intro; refine ⟨?_, ?_⟩; (focus (first | (intro w' hS; obtain ⟨s1, s2⟩ := hS; go_simp; (try with_reducible rfl); done))); try simp only [Act.put, List.setIfInBounds_toArray, List.set_cons_zero, List.set_cons_succ]) | ((first | ((with_reducible refine lexM_skip (c := false) ?_ ?_ ?_); (focus rfl); (focus rfl)) | ((with_reducible refine lexM_skip (c := true) ?_ ?_ ?_); (focus rfl); (focus rfl)) | ((with_reducible refine lexM_skipU ?_ ?_); (focus rfl))); try simp only [Act.put, List.setIfInBounds_toArray, List.set_cons_zero, List.set_cons_succ]))
        (first | with_reducible refine lexM_eff (fun K' hK' => ?_) | ((with_reducible refine lexM_effG ?_ (fun K' hK' => ?_)); (focus rfl)))
        refine wp_done (exec_entryStore rfl rfl rfl rfl HSR.out) ?_
        refine hK'.out _ _ (fun h => absurd rfl h) (fun hS => ?_)
        refine lexM_nil (hK.out _ _ ?_)
        go_wp2
        go_roundw
        case rel => exact ⟨n + 1, M', _, by simp, by omega, by rw [HCN.out]; rfl, HM8.out, HK8.out, HL8.out, HO8.out, HXN.out, F8.out, SZ8.out⟩
        case measure => show ps.length - (n + 1) < ps.length - n; omega
    · have i1 : ¬ (n : Int) < (ps.length : Int) := by omega
      have hT : ps.take n = ps := by rw [show n = ps.length by omega, List.take_length]
      have hset : ∀ x, x ∈ Ms.map (·.1) ↔ x ∈ ps := by
        intro x
        rw [← show ps.take n = ps from hT, ← HKS.out x]
        simp
      have hlen := len_nodup HSM.out.nodup hset
      rw [List.length_map] at hlen
      have LR := Lib.hid (fun ty => HSM.out.lenRun undSeenMap ty)
      have hmc := missC_all (S := S) (ps := ps)
      rw [← hT] at hmc
      have HXT := Lib.hid (show xs = (ps.map (outOf S)).flatMap outC by
        have h1 := HXS.out
        rw [hT, show n = ps.length by omega, List.take_of_length_le (by rw [HOR.out.1]; omega)] at h1
        exact h1)
      have F0 := FR
      clear hset HXS HKS HMr
      by_cases hnd : ps.Nodup
      · have j1 : (Ms.length : Int) = (ps.length : Int) := by have := hlen.2 hnd; omega
        clear hlen
        by_cases hm0 : missC S (ps.take n) = 0
        · have j2 : ¬ (0 : Int) < (missC S (ps.take n) : Int) := by omega
          have E0 := Lib.hid (show takeE S ps = 0 by unfold takeE; rw [if_pos hnd, if_pos (by rw [← hT]; exact hmc.2 hm0)])
          have HLr := Lib.hid (HL.out.keep FR.out)
          have HOx := Lib.hid (show wr.ownsRow b0 55 33 (.slice (some ⟨b0 + 1, 0, none⟩) ps.length ps.length) (takeO S ps).length ((takeO S ps).flatMap outC) by
            unfold takeO
            rw [if_pos E0.out, List.length_map, ← HXT.out]
            exact HOR.out)
          have ES := Lib.hid (show takeS S ps = takeC S ps by unfold takeS; rw [if_pos E0.out])
          obtain ⟨m2, M2, hb2, hm2, hs2, -, -⟩ := HCr.out.ex
          have hmm : m2 = m := by
            rw [hb] at hb2
            injection hb2 with hb2
            injection hb2 with e1
            injection e1 with e1
            injection e1 with e1
            injection e1 with e1
            injection e1 with e1
            exact e1.symm
          subst hmm
          have HM2 := Lib.hid hm2
          have HS2 := Lib.hid hs2
          have HVlt := Lib.hid (show p < b0 ∧ m2 < b0 from ⟨by have := HC.out.hi p VM.out.2; omega, by have := HC.out.hi m2 VM.out.1; omega⟩)
          clear hmc hm0 hT hb2 hm2 hs2 HXT HOR HSM HML
          go_wp2_with (refine wpList_value rfl (exec_len rfl rfl (LR.out _)) ?_)
          clear LR
          go_loopw [61] (fun iv wr2 => ∃ (n2 : Nat) (M3 : List (PointD × OutD)), iv = .int .i64 n2 ∧ n2 ≤ ps.length ∧ AtMap wr2 m2 M3 ∧ (∀ k v, (k, v) ∈ M3 ↔ (⟨k, v⟩ : CoinD) ∈ takeC S (ps.take n2)) ∧ Fr (fun j => j = m2) wr wr2) (fun iv _ => ps.length - (intOf iv).toNat)
          case atStart => exact ⟨0, M2, rfl, Nat.zero_le _, HM2.out, by rw [List.take_zero, takeC_nil]; exact HS2.out, Fr.refl _ _⟩
          case round =>
            obtain ⟨n2, M3, rfl, hn2, hm3, hs3, fr3⟩ := hrel
            have HM3 := Lib.hid hm3
            have HS3 := Lib.hid hs3
            have FR3 := Lib.hid fr3
            clear hm3 hs3 fr3
            by_cases h2 : n2 < ps.length
            · have i2 : (n2 : Int) < (ps.length : Int) := by omega
              obtain ⟨q, hx⟩ : ∃ x, ps[n2]? = some x := ⟨_, List.getElem?_eq_getElem h2⟩
              obtain ⟨b, off, cap, hv, hr, -⟩ := HLr.out.at_ hx
              cases hv
              have QOK := Lib.hid (HL.out.1 q (List.mem_of_getElem? hx))
              have PL := Lib.hid (pointC_len QOK.out)
              have hbm : b ≠ m2 := fun e => by
                subst e
                have h3 := hr 32 _ (pointC_32 QOK.out)
                rw [map_no_cell HM2.out] at h3
                cases h3
              have R1 := Lib.hid (range_keep hr FR3.out hbm)
              have fA := (Fr.refl No wr).alloc (.cells (pointC q).toArray 47)
              have cA : (wr.alloc (.cells (pointC q).toArray 47)).cell? ⟨p, 0, none⟩ = some (.map (some m2)) := (blk1 (fA.obj (FR3.out.obj HB.out HNE.out) id)).1
              have CA := Lib.hid cA
              have RB := Lib.hid (range_new wr (pointC q) 47)
              obtain ⟨w5, M4, hr5, hM5, hD, hT5, -⟩ := ((HM3.out.keep fA id).keep (Fr.refl No _).drew id).del eqPoint.keyed undAtMap (fun _ _ => pointV_inj) (keyOfPoint QOK.out) 0 47
              have HR5 := Lib.hid hr5
              have HM5 := Lib.hid hM5
              have F5 := Lib.hid ((FR3.out.trans0 fA.drew).trans hT5.fr (fun i hi e => e))
              have HS5 := Lib.hid (show ∀ k v, (k, v) ∈ M4 ↔ (⟨k, v⟩ : CoinD) ∈ takeC S (ps.take (n2 + 1)) from fun k v => by
                rw [hD k v, HS3.out, ← takeC_snoc hx, mem_takeC (ps := [q])]
                simp only [List.mem_singleton]
                exact And.comm)
              clear hr hx fA cA hr5 hM5 hD hT5
              go_wp2_with (first | (refine wpList_value rfl (exec_load (ty := 47) rfl rfl R1.out uP rP (by rw [PL.out]; exact infoPoint)) ?_) | (refine wpList_done rfl (exec_store_new (w := wr) (ty := 47) rfl rfl rfl (by rw [PL.out]; rfl) (by rw [PL.out]; exact infoPoint) pointC_one) ?_))
              refine wp_region_lexM [false, false, false, false, false, true] (fun w' => w'.cell? ⟨p, 0, none⟩ = some (.map (some m2)) ∧ w'.rangeAt wr.heap.size 0 (pointC q)) (by kernel_rfl) (by kernel_rfl) 5 (by kernel_rfl) (by kernel_rfl) ?_ (fun K hK => ?_)
              · exact ⟨CA.out, range_keep RB.out (Fr.refl No _).drew id⟩
              repeat (first | ((first | with_reducible refine lexM_read ?_ | ((with_reducible refine lexM_readG ?_ ?_); (focus rfl))); apply Exists.intro; refine ⟨?_, ?_⟩; (focus (first | exact lex_load (ty := 47) rfl (fun w h => h.2) uP rP (by rw [PL.out]; exact infoPoint) | (intro w' hS; obtain ⟨s1, s2⟩ := hS; go_simp; (try with_reducible rfl); done))); try simp only [Act.put, List.setIfInBounds_toArray, List.set_cons_zero, List.set_cons_succ]) | ((first | ((with_reducible refine lexM_skip (c := false) ?_ ?_ ?_); (focus rfl); (focus rfl)) | ((with_reducible refine lexM_skip (c := true) ?_ ?_ ?_); (focus rfl); (focus rfl)) | ((with_reducible refine lexM_skipU ?_ ?_); (focus rfl))); try simp only [Act.put, List.setIfInBounds_toArray, List.set_cons_zero, List.set_cons_succ]))
              (first | with_reducible refine lexM_eff (fun K' hK' => ?_) | ((with_reducible refine lexM_effG ?_ (fun K' hK' => ?_)); (focus rfl)))
              refine wp_value (exec_delete rfl rfl rfl HR5.out) ?_
              refine hK'.out _ _ (fun h => absurd rfl h) (fun hS => ?_)
              refine lexM_nil (hK.out _ _ ?_)
              go_wp2
              go_roundw
              case rel => exact ⟨n2 + 1, M4, by simp, by omega, HM5.out, HS5.out, F5.out⟩
              case measure => show ps.length - (n2 + 1) < ps.length - n2; omega
            · have i2 : ¬ (n2 : Int) < (ps.length : Int) := by omega
              have hT2 : ps.take n2 = ps := by rw [show n2 = ps.length by omega, List.take_length]
              have HS4 := HS3.out
              rw [hT2] at HS4
              have CF := Lib.hid (HCr.out.setM HB.out HM3.out HS4 (takeC_srt HC.out.srt) (fun c hc => HC.out.ok c (mem_takeC.1 hc).1) FR3.out)
              have FF := Lib.hid (show Fr V w wr from F0.out.of0.trans FR3.out (fun i hi e => by subst e; exact VM.out.1))
              have HOF := Lib.hid (ownsRow_keep HOx.out FR3.out (fun j e e' => by have := (HOx.out.lt j e).1; have := HVlt.out.2; omega))
              clear HS4 hT2 HS3 HM3 i2
              go_wp2
              go_ret2
              exact ⟨_, by rw [E0.out]; rfl, by rw [hq0]; exact HOF.out, by rw [ES.out]; exact CF.out, FF.out⟩
        · have j2 : (0 : Int) < (missC S (ps.take n) : Int) := by omega
          have E0 := Lib.hid (show takeE S ps = 9 by unfold takeE; rw [if_pos hnd, if_neg (fun e => hm0 (hmc.1 (by rw [hT]; exact e)))])
          clear hmc hm0 hT
          go_wp2_with (refine wpList_value rfl (exec_len rfl rfl (LR.out _)) ?_)
          go_ret2
          exact ⟨_, by rw [E0.out]; rfl, by unfold takeO; rw [if_neg (by rw [E0.out]; decide)]; exact World.ownsRow_nil _ _ _ _, by unfold takeS; rw [if_neg (by rw [E0.out]; decide)]; exact HCr.out, F0.out.of0⟩
      · have j1 : ¬ (Ms.length : Int) = (ps.length : Int) := fun e => hnd (hlen.1 (by omega))
        have E0 := Lib.hid (show takeE S ps = 12 by unfold takeE; rw [if_neg hnd])
        clear hlen hmc hT
        go_wp2_with (refine wpList_value rfl (exec_len rfl rfl (LR.out _)) ?_)
        go_ret2
        exact ⟨_, by rw [E0.out]; rfl, by unfold takeO; rw [if_neg (by rw [E0.out]; decide)]; exact World.ownsRow_nil _ _ _ _, by unfold takeS; rw [if_neg (by rw [E0.out]; decide)]; exact HCr.out, F0.out.of0⟩
end
end Go.Proofs.YtmpamcnlineceaaDoor
