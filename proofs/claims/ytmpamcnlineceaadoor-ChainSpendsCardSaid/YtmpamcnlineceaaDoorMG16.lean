/- maps.Copy at points and outputs. -/
import Derived.Deep.LoopGhost
import Derived.Test.YtmpamcnlineceaaDoorMG15
set_option linter.unusedVariables false
set_option linter.unusedSimpArgs false
namespace Go.Proofs.YtmpamcnlineceaaDoor
open Go Go.RowKit Go.Maps Go.MapKept

theorem point0_size : (pointC point0).toArray.size = 33 := by rfl
abbrev AtIter (w : World) (r b : Nat) (M R : List (PointD × OutD)) : Prop := IterIs Tryd.prog 47 pointV outV w r b M R
/-- M' is Md, and then D put in. -/
def Laid (Md D M' : List (PointD × OutD)) : Prop := ∀ k v, (k, v) ∈ M' ↔ (k, v) ∈ D ∨ ((k, v) ∈ Md ∧ ∀ u, (k, u) ∉ D)
theorem Laid.step {Md D M' M'' : List (PointD × OutD)} {x : PointD × OutD} (h : Laid Md D M') (hx : ∀ u, (x.1, u) ∉ D) (hU : Upd M' x.1 x.2 M'') : Laid Md (D ++ [x]) M'' := by
  intro k v
  obtain ⟨xk, xv⟩ := x
  rw [hU k v, h k v]
  simp only [List.mem_append, List.mem_singleton, Prod.mk.injEq]
  constructor
  · rintro (⟨rfl, rfl⟩ | ⟨h1, h2 | ⟨h2, h3⟩⟩)
    · exact .inl (.inr ⟨rfl, rfl⟩)
    · exact .inl (.inl h2)
    · exact .inr ⟨h2, fun u => by rintro (h | ⟨h, _⟩); exact h3 u h; exact h1 h⟩
  · rintro ((h1 | ⟨rfl, rfl⟩) | ⟨h1, h2⟩)
    · by_cases e : k = xk
      · subst e; exact absurd h1 (hx v)
      · exact .inr ⟨e, .inl h1⟩
    · exact .inl ⟨rfl, rfl⟩
    · by_cases e : k = xk
      · subst e; exact absurd (.inr ⟨rfl, rfl⟩) (h2 xv)
      · exact .inr ⟨e, .inr ⟨h1, fun u hu => h2 u (.inl hu)⟩⟩

set_option maxRecDepth 20000 in
set_option maxHeartbeats 4000000 in
theorem copyM_any (w : World) {bd bs : Nat} {Md Ms : List (PointD × OutD)} (hd : AtMap w bd Md) (hs : AtMap w bs Ms) (hne : bd ≠ bs) (hN : Md.length + Ms.length ≤ 1000000) (ok : ∀ x ∈ Ms, x.1.ok ∧ x.2.ok) :
    Calls Tryd.prog 59 #[.map (some bd), .map (some bs)] w fun e w' => e = .returned (.tuple #[]) ∧ ∃ M', AtMap w' bd M' ∧ Laid Md Ms M' ∧ Fr (fun j => j = bd) w w' := by
  obtain ⟨dP, uP, rP⟩ := descPoint
  obtain ⟨dO, uO, rO⟩ := descOut
  obtain ⟨clk, hrng, hit⟩ := hs.rangeI undAtMap
  have hnd := hs.nodup
  have hbd := hd.lt
  have HD0 := Lib.hid (hd.keep ((Fr.refl No w).alloc (.mapIter (some bs) clk #[] clk)) id)
  have HI0 := Lib.hid hit
  have F0 := Lib.hid ((Fr.refl No w).alloc (.mapIter (some bs) clk #[] clk))
  have HN := Lib.hid hnd
  have HOK := Lib.hid ok
  have zp := zeroPoint
  have zo := zeroOutC
  clear hd hs hit hnd ok
  go_enter Tryd.func59, Tryd.ntmps59
  go_wp2_with (refine wpList_range_run rfl rfl rfl hrng ?_)
  generalize hq : w.heap.size = r at *
  generalize w.alloc (.mapIter (some bs) clk #[] clk) = W at *
  clear hrng
  try simp only [Act.put, List.setIfInBounds_toArray, List.set_cons_zero, List.set_cons_succ]
  go_loopg [] Ms.length (fun m wr => ∃ (D R M' : List (PointD × OutD)), (D ++ R).Perm Ms ∧ R.length = m ∧ AtIter wr r bs Ms R ∧ AtMap wr bd M' ∧ Laid Md D M' ∧ M'.length ≤ Md.length + D.length ∧ Fr (fun j => j = bd) w wr)
  case atStart => exact ⟨[], Ms, Md, List.Perm.refl _, rfl, HI0.out, HD0.out, fun k v => by simp, by simp, F0.out.of0⟩
  case round =>
    obtain ⟨D, R, M', hperm, hm, hI, hM, hL, hlen, hfr⟩ := hrel
    cases R with
    | nil =>
      have hnx := hI.stop
      have hL2 : Laid Md Ms M' := fun k v => by
        rw [hL k v]
        have : ∀ x, x ∈ D ↔ x ∈ Ms := fun x => by rw [← hperm.mem_iff]; simp
        simp only [this]
      have HL := Lib.hid hL2
      have HM := Lib.hid hM
      have HF := Lib.hid hfr
      clear hI hperm hm hL hL2 hM hfr
      go_wp2_with (refine wpList_next_run rfl rfl rfl (hnx _) ?_)
      go_end0
      exact ⟨rfl, M', HM.out, HL.out, HF.out⟩
    | cons x0 R0 =>
      obtain ⟨A, x, B, w2, hAB, hnx, hI2, f2, hent⟩ := hI.step (by simp) 0
      have hx : x ∈ Ms := hperm.subset (by rw [hAB]; simp)
      have XOK := Lib.hid (HOK.out x hx)
      have PL := Lib.hid (pointC_len XOK.out.1)
      have OL := Lib.hid (outC_len XOK.out.2)
      have hp2 : ((D ++ [x]) ++ (A ++ B)).Perm Ms := by
        refine List.Perm.trans ?_ hperm
        rw [hAB, List.append_assoc]
        exact List.Perm.append_left _ (show (x :: (A ++ B)).Perm (A ++ x :: B) from List.perm_middle.symm)
      have hxD : ∀ u, (x.1, u) ∉ D := by
        intro u hu
        have h1 := (hp2.map (·.1)).nodup_iff.2 HN.out
        rw [List.map_append, List.map_append, List.append_assoc] at h1
        exact (List.nodup_append.1 h1).2.2 x.1 (List.mem_map.2 ⟨_, hu, rfl⟩) x.1 (by simp) rfl
      have hDl : D.length + (A ++ B).length + 1 = Ms.length := by have := hp2.length_eq; simp at this ⊢; omega
      obtain ⟨t1, t2, t3, t4, t5⟩ := two_blocks w2 (T1 := 47) (T2 := 55) (z1 := (pointC point0).toArray) (z2 := (outC out0).toArray) (c1 := pointC x.1) (c2 := outC x.2) (by rw [PL.out]; rfl) (by rw [OL.out]; exact out0_size)
      have hrb : r ≠ bd := by have := hbd; omega
      have hM2 := (hM.keep f2 (fun e => hrb e.symm)).keep t5 id
      obtain ⟨w4, M'', hr4, hM4, hU, hT, hl4⟩ := hM2.upd eqPoint.keyed undAtMap (fun _ _ => pointV_inj) (keyOfPoint XOK.out.1) (by unfold maxLen; simp at hDl; omega) x.2
      have fT := hT.fr
      have HM4 := Lib.hid hM4
      have HI4 := Lib.hid ((hI2.keep t5 id id).keep fT (fun e => hne e.symm) hrb)
      have HL4 := Lib.hid (hL.step hxD hU)
      have HF4 := Lib.hid (((hfr.trans f2 (fun i hi e => by omega)).trans t5.of0 (fun i hi e => e)).trans fT (fun i hi e => e))
      have HLN := Lib.hid (show M''.length ≤ Md.length + (D ++ [x]).length by simp; omega)
      have HP := Lib.hid hp2
      have HR := Lib.hid (show (A ++ B).length < gk by rw [← hm, hAB]; simp)
      have T1 := Lib.hid t1
      have T2 := Lib.hid t2
      have T3 := Lib.hid t3
      have T4 := Lib.hid t4
      have HR4 := Lib.hid hr4
      clear hI hI2 hM hM2 hL hfr hx hp2 hxD hDl t1 t2 t3 t4 t5 hr4 hM4 hU hT hl4 fT hAB hperm hm f2
      unfold pointV outV at hnx hent
      go_wp2_with (first | refine wpList_next_run rfl rfl rfl hnx ?_ | refine wpList_entry_run rfl rfl rfl hent ?_ | (refine wpList_done rfl (exec_store (ty := 47) (b := w2.heap.size) rfl rfl rfl T1.out (by rw [PL.out]; exact infoPoint) pointC_one) ?_) | (refine wpList_done rfl (exec_store (ty := 55) (b := w2.heap.size + 1) rfl (by show Value.pointer (some ⟨_, 0, none⟩) = _; simp) rfl T2.out (by rw [OL.out]; exact infoOut) outC_one) ?_) | (refine wpList_value rfl (exec_load (ty := 47) rfl rfl T3.out uP rP (by rw [PL.out]; exact infoPoint)) ?_) | (refine wpList_value rfl (exec_load (ty := 55) rfl rfl T4.out uO rO (by rw [OL.out]; exact infoOut)) ?_) | (refine wpList_done rfl (exec_mapUpdate rfl rfl rfl rfl HR4.out) ?_))
      go_roundg (A ++ B).length
      case measure => exact HR.out
      case rel => exact ⟨D ++ [x], A ++ B, M'', HP.out, rfl, HI4.out, HM4.out, HL4.out, HLN.out, HF4.out⟩
end Go.Proofs.YtmpamcnlineceaaDoor

/- coin: Put. -/
namespace Go.Proofs.YtmpamcnlineceaaDoor
open Go Go.RowKit Go.Maps Go.MapKept

def putE (S l : List CoinD) : Int := if (l.map (·.at_)).Nodup then if l.any (fun c => hasC S c.at_) then 10 else 0 else 12
def putS (S l : List CoinD) : List CoinD := if putE S l = 0 then putC S l else S
theorem putE_0 {S l : List CoinD} (h1 : (l.map (·.at_)).Nodup) (h2 : ∀ c ∈ l, hasC S c.at_ = false) : putE S l = 0 ∧ putS S l = putC S l := by
  have : putE S l = 0 := by
    unfold putE
    rw [if_pos h1, if_neg (by rw [Bool.not_eq_true, List.any_eq_false]; exact fun c hc => by rw [h2 c hc]; simp)]
  exact ⟨this, by unfold putS; rw [if_pos this]⟩
theorem putE_10 {S l : List CoinD} (h1 : (l.map (·.at_)).Nodup) {c : CoinD} (hc : c ∈ l) (h2 : hasC S c.at_ = true) : putE S l = 10 ∧ putS S l = S := by
  have : putE S l = 10 := by
    unfold putE
    rw [if_pos h1, if_pos (List.any_eq_true.2 ⟨c, hc, h2⟩)]
  exact ⟨this, by unfold putS; rw [this]; rfl⟩
theorem putE_12 {S l : List CoinD} (h1 : ¬ (l.map (·.at_)).Nodup) : putE S l = 12 ∧ putS S l = S := by
  have : putE S l = 12 := by
    unfold putE
    rw [if_neg h1]
  exact ⟨this, by unfold putS; rw [this]; rfl⟩

section
variable {w0 w : World} {p : Nat} {V : Nat → Prop} {S : List CoinD}
/-- s.at's coins, put in as they stand. -/
theorem CS.put (h : CS w0 w p V S) {m : Nat} {M M' : List (PointD × OutD)} {w' : World} (hb : w.heap[p]? = some (.cells #[.map (some m)] 123 (0, 0))) (hs : ∀ k v, (k, v) ∈ M ↔ (⟨k, v⟩ : CoinD) ∈ S) {Ms : List (PointD × OutD)} {l : List CoinD} (hM : AtMap w' m M') (hL : Laid M Ms M') (hl : ∀ k v, (k, v) ∈ Ms ↔ (⟨k, v⟩ : CoinD) ∈ l) (hnd : (l.map (·.at_)).Nodup) (hd : ∀ c ∈ l, hasC S c.at_ = false) (ok : ∀ c ∈ l, c.ok) (f : Fr (fun j => j = m) w w') :
    CS w0 w' p V (putC S l) := by
  obtain ⟨m', M2, hb', hm', hs', hne, rfl⟩ := h.ex
  rw [hb] at hb'
  injection hb' with hb'
  injection hb' with e1
  injection e1 with e1
  injection e1 with e1
  injection e1 with e1
  injection e1 with e1
  subst e1
  refine ⟨⟨m, M', f.obj hb hne, hM, fun k v => ?_, hne, rfl⟩, putC_srt h.srt hnd hd, fun c hc => (mem_putC.1 hc).elim (h.ok c) (ok c), h.lo, h.fr.trans f (fun i hi e => by subst e; have := h.lo i (.inr rfl); omega)⟩
  rw [hL k v, mem_putC, hl, hs]
  constructor
  · rintro (h1 | ⟨h1, _⟩)
    · exact .inr h1
    · exact .inl h1
  · rintro (h1 | h1)
    · refine .inr ⟨h1, fun u hu => ?_⟩
      exact hasC_not.1 (hd _ ((hl k u).1 hu)) _ h1 rfl
    · exact .inl h1
set_option maxRecDepth 20000 in
set_option maxHeartbeats 4000000 in
theorem put_C (h : CS w0 w p V S) {v : Value} {l : List CoinD} (hl : CoinsIs w v l) (hN : l.length + S.length ≤ 100000) :
    Calls Tryd.prog 48 #[.pointer (some ⟨p, 0, none⟩), v] w fun e w' => e = .returned (.int .i64 (putE S l)) ∧ CS w0 w' p V (putS S l) ∧ Fr V w w' := by
  obtain ⟨dP, uP, rP⟩ := descPoint
  obtain ⟨dO, uO, rO⟩ := descOut
  obtain ⟨va, vc, rfl⟩ := hl.2.form
  have HC := Lib.hid h
  have HL := Lib.hid hl
  clear h hl
  by_cases hnd : (l.map (·.at_)).Nodup
  · have ND := Lib.hid hnd
    clear hnd
    go_enter Tryd.func48, Tryd.ntmps48
    go_wp2_with fail
    refine (new_C w w (Fr.refl _ _) HL.out (by omega) ND.out).mono ?_
    rintro e w1 ⟨p1, rfl, V1, c1, f1, hV1⟩
    have C1 := Lib.hid c1
    have F1 := Lib.hid f1
    have HV1 := Lib.hid hV1
    have HC1 := Lib.hid (HC.out.fr0 f1)
    clear c1 f1 hV1
    obtain ⟨m, M, hb, hm, hs, hne, hVe⟩ := HC1.out.ex
    obtain ⟨m1, M1, hb1, hm1, hs1, hne1, hVe1⟩ := C1.out.ex
    obtain ⟨clk, hrng, hit⟩ := hm1.rangeI undAtMap
    have cp1 : w1.cell? ⟨p1, 0, none⟩ = some (.map (some m1)) := (blk1 hb1).1
    have HB := Lib.hid hb
    have HB1 := Lib.hid hb1
    have HM1 := Lib.hid hm
    have HS := Lib.hid hs
    have HS1 := Lib.hid (show ∀ k v, (k, v) ∈ M1 ↔ (⟨k, v⟩ : CoinD) ∈ l from fun k v => by rw [hs1, mem_putC]; simp)
    have HI0 := Lib.hid hit
    have F0 := Lib.hid ((Fr.refl No w1).alloc (.mapIter (some m1) clk #[] clk))
    have HNE := Lib.hid (show m ≠ m1 from fun e => by
      have h1 := HV1.out m1 (by rw [hVe1]; exact .inr rfl)
      have h2 := HC.out.hi m (by rw [hVe]; exact .inr rfl)
      omega)
    have LM := Lib.hid (pairs_len hm hs HC1.out.srt)
    have LM1 := Lib.hid (show M1.length = l.length by rw [pairs_len hm1 hs1 C1.out.srt, (putC_perm l []).length_eq]; rfl)
    have HPM := Lib.hid hne
    have HP1M := Lib.hid (show p1 ≠ m from fun e => by
      have h1 := HV1.out p1 (by rw [hVe1]; exact .inl rfl)
      have h2 := HC.out.hi m (by rw [hVe]; exact .inr rfl)
      omega)
    have VM := Lib.hid (show V m ∧ V p by rw [hVe]; exact ⟨.inr rfl, .inl rfl⟩)
    have zp := zeroPoint
    have zo := zeroOutC
    clear hb hb1 hm hm1 hs hs1 hne hne1 hVe hVe1 hit
    go_wp2_with (refine wpList_range_run rfl rfl rfl hrng ?_)
    have SZ1 := Lib.hid (show w1.heap.size < (w1.alloc (.mapIter (some m1) clk #[] clk)).heap.size by simp)
    generalize hq : w1.heap.size = r at *
    generalize w1.alloc (.mapIter (some m1) clk #[] clk) = W at *
    clear hrng cp1
    try simp only [Act.put, List.setIfInBounds_toArray, List.set_cons_zero, List.set_cons_succ]
    go_loopg [] l.length (fun n wr => ∃ (D R : List (PointD × OutD)), (D ++ R).Perm M1 ∧ R.length = n ∧ AtIter wr r m1 M1 R ∧ (∀ x ∈ D, hasC S x.1 = false) ∧ Fr No w1 wr)
    case atStart => exact ⟨[], M1, List.Perm.refl _, LM1.out, HI0.out, by simp, F0.out⟩
    case round =>
      obtain ⟨D, R, hperm, hm, hI, hD, hfr⟩ := hrel
      cases R with
      | nil =>
        have hnx := hI.stop
        have hd2 : ∀ c ∈ l, hasC S c.at_ = false := fun c hc => hD (c.at_, c.out) (by
          have : (c.at_, c.out) ∈ D ++ [] := hperm.mem_iff.2 ((HS1.out _ _).2 hc)
          simpa using this)
        obtain ⟨e0, e1⟩ := putE_0 ND.out hd2
        have E0 := Lib.hid e0
        have E1 := Lib.hid e1
        have HD2 := Lib.hid hd2
        have FR := Lib.hid hfr
        have HIM := Lib.hid hI.map
        clear hI hperm hm hD hfr e0 e1 hd2
        have b0 := FR.out.obj HB.out id
        have b1 := FR.out.obj HB1.out id
        have c0 : wr.cell? ⟨p, 0, none⟩ = some (.map (some m)) := (blk1 b0).1
        have c1 : wr.cell? ⟨p1, 0, none⟩ = some (.map (some m1)) := (blk1 b1).1
        have hMs := HM1.out.keep FR.out id
        have HCr := Lib.hid (HC1.out.fr0 FR.out)
        have hok1 : ∀ x ∈ M1, x.1.ok ∧ x.2.ok := fun x hx => HL.out.1 _ ((HS1.out x.1 x.2).1 hx)
        have hcp := copyM_any wr.drew (hMs.keep (Fr.refl No _).drew id) (HIM.out.keep (Fr.refl No _).drew id) HNE.out (by rw [LM.out, LM1.out]; omega) hok1
        have HCP := Lib.hid hcp
        clear b1 hMs hok1 hcp
        go_wp2_with (refine wpList_next_run rfl rfl rfl (hnx _) ?_)
        refine wp_region_lexL [false, false, false, false, false, false, false, false, true] (fun w' => w'.cell? ⟨p, 0, none⟩ = some (.map (some m)) ∧ w'.cell? ⟨p1, 0, none⟩ = some (.map (some m1))) (by kernel_rfl) (by kernel_rfl) ?_ (fun K hK => ?_)
        · exact ⟨c0, c1⟩
        repeat (first | ((first | with_reducible refine lexL_read ?_ | ((with_reducible refine lexL_readG ?_ ?_); (focus rfl))); apply Exists.intro; refine ⟨?_, ?_⟩; (focus (first | (intro w' hS; obtain ⟨s1, s2⟩ := hS; go_simp; (try with_reducible rfl); done))); try simp only [Act.put, List.setIfInBounds_toArray, List.set_cons_zero, List.set_cons_succ]) | ((first | ((with_reducible refine lexL_skip (c := false) ?_ ?_ ?_); (focus rfl); (focus rfl)) | ((with_reducible refine lexL_skip (c := true) ?_ ?_ ?_); (focus rfl); (focus rfl)) | ((with_reducible refine lexL_skipU ?_ ?_); (focus rfl))); try simp only [Act.put, List.setIfInBounds_toArray, List.set_cons_zero, List.set_cons_succ]))
        (first | with_reducible refine lexL_eff (fun K' hK' => ?_) | ((with_reducible refine lexL_effG ?_ (fun K' hK' => ?_)); (focus rfl)))
        go_simp
        refine HCP.out.mono ?_
        rintro e w3 ⟨rfl, M', hM3, hL3, f3⟩
        have HC3 := Lib.hid (HCr.out.put b0 HS.out hM3 hL3 HS1.out ND.out HD2.out HL.out.1 ((Fr.refl No wr).drew.of0.trans f3 (fun _ _ h => h)))
        have F3 := Lib.hid (show Fr V w w3 from ((F1.out.trans0 FR.out).of0.trans ((Fr.refl No wr).drew.of0.trans f3 (fun _ _ h => h)) (fun i hi e => by subst e; exact VM.out.1)))
        have S3 := Lib.hid (show w3.cell? ⟨p, 0, none⟩ = some (.map (some m)) ∧ w3.cell? ⟨p1, 0, none⟩ = some (.map (some m1)) from ⟨f3.cell c0 HPM.out, f3.cell c1 HP1M.out⟩)
        clear hM3 hL3 f3 HCr
        refine hK'.out _ _ ?_ (fun hS => ?_)
        · exact S3.out
        try simp only [Act.put, List.setIfInBounds_toArray, List.set_cons_zero, List.set_cons_succ]
        refine lexL_nil (hK.out _ _ ?_)
        go_wp2
        go_ret
        exact ⟨by rw [E0.out]; rfl, by rw [E1.out]; exact HC3.out, F3.out⟩
      | cons x0 R0 =>
        obtain ⟨A, x, B, w2, hAB, hnx, hI2, f2, hent⟩ := hI.step (by simp) 0
        have hx : x ∈ M1 := hperm.subset (by rw [hAB]; simp)
        have hxl := (HS1.out x.1 x.2).1 hx
        have XOK := Lib.hid (HL.out.1 _ hxl)
        have PL := Lib.hid (pointC_len XOK.out.1)
        have XO := Lib.hid (outOf_ok HC.out.ok x.1)
        have OL := Lib.hid (outC_len XO.out)
        have hp2 : ((D ++ [x]) ++ (A ++ B)).Perm M1 := by
          refine List.Perm.trans ?_ hperm
          rw [hAB, List.append_assoc]
          exact List.Perm.append_left _ (show (x :: (A ++ B)).Perm (A ++ x :: B) from List.perm_middle.symm)
        have hfr2 : Fr No w1 w2 := hfr.trans f2 (fun i hi e => by omega)
        have hfrA := hfr2.alloc (.cells (pointC x.1).toArray 47)
        have bA := hfrA.obj HB.out id
        have c0 : (w2.alloc (.cells (pointC x.1).toArray 47)).cell? ⟨p, 0, none⟩ = some (.map (some m)) := (blk1 bA).1
        have RB := Lib.hid (range_new w2 (pointC x.1) 47)
        have HM := Lib.hid (HM1.out.keep hfrA id)
        have HI2 := Lib.hid (hI2.keep (((Fr.refl No w2).alloc (.cells (pointC x.1).toArray 47)).alloc (.cells (outC (outOf S x.1)).toArray 55)).drew id id)
        have FRZ := Lib.hid ((hfrA.alloc (.cells (outC (outOf S x.1)).toArray 55)).drew)
        have LOOK := Lib.hid (fun w' (h' : AtMap w' m M) => look_at (w := w') (q := x.1) HS.out HC.out.srt XOK.out.1 h')
        have HP := Lib.hid hp2
        have HR := Lib.hid (show (A ++ B).length < gk by rw [← hm, hAB]; simp)
        have HXL := Lib.hid hxl
        have HD := Lib.hid hD
        clear hI hI2 hfr hfr2 hfrA bA hx hxl hp2 hAB hperm hm f2 hD
        unfold pointV outV at hnx hent
        cases hh : hasC S x.1 with
        | true =>
          obtain ⟨e0, e1⟩ := putE_10 ND.out HXL.out hh
          have E0 := Lib.hid e0
          have E1 := Lib.hid e1
          rw [hh] at LOOK
          have FZ := Lib.hid (F1.out.trans0 FRZ.out)
          clear hh e0 e1
          generalize hX : outOf S x.1 = X at *
          generalize hQ : x.1 = q at *
          clear hX
          go_wp2_with (first | refine wpList_next_run rfl rfl rfl hnx ?_ | refine wpList_entry_run rfl rfl rfl hent ?_ | (refine wpList_done rfl (exec_store_new (w := w2) (ty := 47) rfl rfl rfl (by rw [PL.out]; rfl) (by rw [PL.out]; exact infoPoint) pointC_one) ?_))
          refine wp_region_lexL [false, false, false, false, false, false, false, false, false, true, true, false] (fun w' => w'.cell? ⟨p, 0, none⟩ = some (.map (some m)) ∧ w'.rangeAt w2.heap.size 0 (pointC q) ∧ AtMap w' m M) (by kernel_rfl) (by kernel_rfl) ?_ (fun K hK => ?_)
          · exact ⟨c0, range_keep RB.out (Fr.refl No _).drew id, HM.out.keep (Fr.refl No _).drew id⟩
          repeat (first | ((first | with_reducible refine lexL_read ?_ | ((with_reducible refine lexL_readG ?_ ?_); (focus rfl))); apply Exists.intro; refine ⟨?_, ?_⟩; (focus (first | exact lex_load (ty := 47) rfl (fun w h => h.2.1) uP rP (by rw [PL.out]; exact infoPoint) | exact fun w' h => exec_lookup (t := 121) rfl rfl rfl (LOOK.out w' h.2.2) | (intro w' hS; obtain ⟨s1, s2, s3⟩ := hS; go_simp; (try with_reducible rfl); done))); try simp only [Act.put, List.setIfInBounds_toArray, List.set_cons_zero, List.set_cons_succ]) | ((first | ((with_reducible refine lexL_skip (c := false) ?_ ?_ ?_); (focus rfl); (focus rfl)) | ((with_reducible refine lexL_skip (c := true) ?_ ?_ ?_); (focus rfl); (focus rfl)) | ((with_reducible refine lexL_skipU ?_ ?_); (focus rfl))); try simp only [Act.put, List.setIfInBounds_toArray, List.set_cons_zero, List.set_cons_succ]))
          (first | with_reducible refine lexL_eff (fun K' hK' => ?_) | ((with_reducible refine lexL_effG ?_ (fun K' hK' => ?_)); (focus rfl)))
          refine wp_value (exec_alloc rfl (zeroOutC _)) ?_
          refine hK'.out _ _ ?_ (fun hS => ?_)
          · exact ⟨(((Fr.refl No (w2.alloc (.cells (pointC q).toArray 47))).drew).alloc _).cell c0 id, range_keep RB.out (((Fr.refl No (w2.alloc (.cells (pointC q).toArray 47))).drew).alloc _) id, HM.out.keep (((Fr.refl No (w2.alloc (.cells (pointC q).toArray 47))).drew).alloc _) id⟩
          try simp only [Act.put, List.setIfInBounds_toArray, List.set_cons_zero, List.set_cons_succ]
          (first | with_reducible refine lexL_eff (fun K' hK' => ?_) | ((with_reducible refine lexL_effG ?_ (fun K' hK' => ?_)); (focus rfl)))
          refine wp_done (exec_store_new (w := ((w2.alloc (.cells (pointC q).toArray 47))).drew) (ty := 55) (cs := outC X) rfl rfl rfl (by rw [OL.out]; rfl) (by rw [OL.out]; exact infoOut) outC_one) ?_
          refine hK'.out _ _ ?_ (fun hS => ?_)
          · exact ⟨(((Fr.refl No (w2.alloc (.cells (pointC q).toArray 47))).drew).alloc _).cell c0 id, range_keep RB.out (((Fr.refl No (w2.alloc (.cells (pointC q).toArray 47))).drew).alloc _) id, HM.out.keep (((Fr.refl No (w2.alloc (.cells (pointC q).toArray 47))).drew).alloc _) id⟩
          try simp only [Act.put]
          repeat (first | ((first | with_reducible refine lexL_read ?_ | ((with_reducible refine lexL_readG ?_ ?_); (focus rfl))); apply Exists.intro; refine ⟨?_, ?_⟩; (focus (first | (intro w' hS; obtain _ := hS; go_simp; (try with_reducible rfl); done))); try simp only [Act.put, List.setIfInBounds_toArray, List.set_cons_zero, List.set_cons_succ]) | ((first | ((with_reducible refine lexL_skip (c := false) ?_ ?_ ?_); (focus rfl); (focus rfl)) | ((with_reducible refine lexL_skip (c := true) ?_ ?_ ?_); (focus rfl); (focus rfl)) | ((with_reducible refine lexL_skipU ?_ ?_); (focus rfl))); try simp only [Act.put, List.setIfInBounds_toArray, List.set_cons_zero, List.set_cons_succ]))
          refine lexL_nil (hK.out _ _ ?_)
          clear c0 RB HM LOOK
          go_wp2
          go_ret
          exact ⟨by rw [E0.out]; rfl, by rw [E1.out]; exact HC.out.fr0 FZ.out, FZ.out.of0⟩
        | false =>
          rw [hh] at LOOK
          have HH := Lib.hid hh
          clear hh
          generalize hX : outOf S x.1 = X at *
          generalize hQ : x.1 = q at *
          clear hX
          go_wp2_with (first | refine wpList_next_run rfl rfl rfl hnx ?_ | refine wpList_entry_run rfl rfl rfl hent ?_ | (refine wpList_done rfl (exec_store_new (w := w2) (ty := 47) rfl rfl rfl (by rw [PL.out]; rfl) (by rw [PL.out]; exact infoPoint) pointC_one) ?_))
          refine wp_region_lexL [false, false, false, false, false, false, false, false, false, true, true, false] (fun w' => w'.cell? ⟨p, 0, none⟩ = some (.map (some m)) ∧ w'.rangeAt w2.heap.size 0 (pointC q) ∧ AtMap w' m M) (by kernel_rfl) (by kernel_rfl) ?_ (fun K hK => ?_)
          · exact ⟨c0, range_keep RB.out (Fr.refl No _).drew id, HM.out.keep (Fr.refl No _).drew id⟩
          repeat (first | ((first | with_reducible refine lexL_read ?_ | ((with_reducible refine lexL_readG ?_ ?_); (focus rfl))); apply Exists.intro; refine ⟨?_, ?_⟩; (focus (first | exact lex_load (ty := 47) rfl (fun w h => h.2.1) uP rP (by rw [PL.out]; exact infoPoint) | exact fun w' h => exec_lookup (t := 121) rfl rfl rfl (LOOK.out w' h.2.2) | (intro w' hS; obtain ⟨s1, s2, s3⟩ := hS; go_simp; (try with_reducible rfl); done))); try simp only [Act.put, List.setIfInBounds_toArray, List.set_cons_zero, List.set_cons_succ]) | ((first | ((with_reducible refine lexL_skip (c := false) ?_ ?_ ?_); (focus rfl); (focus rfl)) | ((with_reducible refine lexL_skip (c := true) ?_ ?_ ?_); (focus rfl); (focus rfl)) | ((with_reducible refine lexL_skipU ?_ ?_); (focus rfl))); try simp only [Act.put, List.setIfInBounds_toArray, List.set_cons_zero, List.set_cons_succ]))
          (first | with_reducible refine lexL_eff (fun K' hK' => ?_) | ((with_reducible refine lexL_effG ?_ (fun K' hK' => ?_)); (focus rfl)))
          refine wp_value (exec_alloc rfl (zeroOutC _)) ?_
          refine hK'.out _ _ ?_ (fun hS => ?_)
          · exact ⟨(((Fr.refl No (w2.alloc (.cells (pointC q).toArray 47))).drew).alloc _).cell c0 id, range_keep RB.out (((Fr.refl No (w2.alloc (.cells (pointC q).toArray 47))).drew).alloc _) id, HM.out.keep (((Fr.refl No (w2.alloc (.cells (pointC q).toArray 47))).drew).alloc _) id⟩
          try simp only [Act.put, List.setIfInBounds_toArray, List.set_cons_zero, List.set_cons_succ]
          (first | with_reducible refine lexL_eff (fun K' hK' => ?_) | ((with_reducible refine lexL_effG ?_ (fun K' hK' => ?_)); (focus rfl)))
          refine wp_done (exec_store_new (w := ((w2.alloc (.cells (pointC q).toArray 47))).drew) (ty := 55) (cs := outC X) rfl rfl rfl (by rw [OL.out]; rfl) (by rw [OL.out]; exact infoOut) outC_one) ?_
          refine hK'.out _ _ ?_ (fun hS => ?_)
          · exact ⟨(((Fr.refl No (w2.alloc (.cells (pointC q).toArray 47))).drew).alloc _).cell c0 id, range_keep RB.out (((Fr.refl No (w2.alloc (.cells (pointC q).toArray 47))).drew).alloc _) id, HM.out.keep (((Fr.refl No (w2.alloc (.cells (pointC q).toArray 47))).drew).alloc _) id⟩
          try simp only [Act.put]
          repeat (first | ((first | with_reducible refine lexL_read ?_ | ((with_reducible refine lexL_readG ?_ ?_); (focus rfl))); apply Exists.intro; refine ⟨?_, ?_⟩; (focus (first | (intro w' hS; obtain _ := hS; go_simp; (try with_reducible rfl); done))); try simp only [Act.put, List.setIfInBounds_toArray, List.set_cons_zero, List.set_cons_succ]) | ((first | ((with_reducible refine lexL_skip (c := false) ?_ ?_ ?_); (focus rfl); (focus rfl)) | ((with_reducible refine lexL_skip (c := true) ?_ ?_ ?_); (focus rfl); (focus rfl)) | ((with_reducible refine lexL_skipU ?_ ?_); (focus rfl))); try simp only [Act.put, List.setIfInBounds_toArray, List.set_cons_zero, List.set_cons_succ]))
          refine lexL_nil (hK.out _ _ ?_)
          clear c0 RB HM LOOK
          go_wp2
          go_roundg (A ++ B).length
          case measure => exact HR.out
          case rel =>
            refine ⟨D ++ [x], A ++ B, HP.out, rfl, HI2.out, ?_, FRZ.out⟩
            intro y hy
            rcases List.mem_append.1 hy with h | h
            · exact HD.out y h
            · rw [List.mem_singleton.1 h, hQ]; exact HH.out
  · have ND := Lib.hid hnd
    obtain ⟨e0, e1⟩ := putE_12 (S := S) hnd
    have E0 := Lib.hid e0
    have E1 := Lib.hid e1
    clear hnd e0 e1
    go_enter Tryd.func48, Tryd.ntmps48
    go_wp2_with fail
    refine (new_twice w HL.out (by omega) ND.out).mono ?_
    rintro e w1 ⟨rfl, f1⟩
    have F1 := Lib.hid f1
    clear f1
    go_wp2
    go_ret
    exact ⟨by rw [E0.out]; rfl, by rw [E1.out]; exact HC.out.fr0 F1.out, F1.out.of0⟩
end
end Go.Proofs.YtmpamcnlineceaaDoor
