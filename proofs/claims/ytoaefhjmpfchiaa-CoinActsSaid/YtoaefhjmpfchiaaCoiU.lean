/- maps.Copy at points and outputs. -/
import Derived.Test.YtoaefhjmpfchiaaCoiN
import Derived.Test.YtoaefhjmpfchiaaIterK
import Derived.Deep.LoopGhost
namespace Go.Proofs.Ytoaefhjmpfchiaa
open Go Go.RowKit Go.Maps Go.MapKept

theorem point0_size : (pointC point0).toArray.size = 33 := by rfl
abbrev AtIter (w : World) (r b : Nat) (M R : List (PointD × OutD)) : Prop := IterIs Try.prog 27 pointV outV w r b M R
/-- M' is Md, and then D put in. -/
def Laid (Md D M' : List (PointD × OutD)) : Prop := ∀ k v, (k, v) ∈ M' ↔ (k, v) ∈ D ∨ ((k, v) ∈ Md ∧ ∀ u, (k, u) ∉ D)
theorem Laid.step {Md D M' M'' : List (PointD × OutD)} {x : PointD × OutD} (h : Laid Md D M') (hx : ∀ u, (x.1, u) ∉ D) (hU : Upd M' x.1 x.2 M'') : Laid Md (D ++ [x]) M'' := by
  intro k v
  obtain ⟨xk, xv⟩ := x
  rw [hU k v, h k v]
  simp only [List.mem_append, List.mem_singleton, Prod.mk.injEq]
  constructor
  · rintro (⟨rfl, rfl⟩ | ⟨h1, h2 | ⟨h2, h3⟩⟩)
    · exact .inl (.inr ⟨rfl, rfl⟩)
    · exact .inl (.inl h2)
    · exact .inr ⟨h2, fun u => by rintro (h | ⟨h, _⟩); exact h3 u h; exact h1 h⟩
  · rintro ((h1 | ⟨rfl, rfl⟩) | ⟨h1, h2⟩)
    · by_cases e : k = xk
      · subst e; exact absurd h1 (hx v)
      · exact .inr ⟨e, .inl h1⟩
    · exact .inl ⟨rfl, rfl⟩
    · by_cases e : k = xk
      · subst e; exact absurd (.inr ⟨rfl, rfl⟩) (h2 xv)
      · exact .inr ⟨e, .inr ⟨h1, fun u hu => h2 u (.inl hu)⟩⟩

set_option maxRecDepth 20000 in
set_option maxHeartbeats 4000000 in
theorem copyM_any (w : World) {bd bs : Nat} {Md Ms : List (PointD × OutD)} (hd : AtMap w bd Md) (hs : AtMap w bs Ms) (hne : bd ≠ bs) (hN : Md.length + Ms.length ≤ 1000000) (ok : ∀ x ∈ Ms, x.1.ok ∧ x.2.ok) :
    Calls Try.prog 27 #[.map (some bd), .map (some bs)] w fun e w' => e = .returned (.tuple #[]) ∧ ∃ M', AtMap w' bd M' ∧ Laid Md Ms M' ∧ Fr (fun j => j = bd) w w' := by
  obtain ⟨dP, uP, rP⟩ := descPoint
  obtain ⟨dO, uO, rO⟩ := descOut
  obtain ⟨clk, hrng, hit⟩ := hs.rangeI undAtMap
  have hnd := hs.nodup
  have hbd := hd.lt
  have HD0 := Lib.hid (hd.keep ((Fr.refl No w).alloc (.mapIter (some bs) clk #[] clk)) id)
  have HI0 := Lib.hid hit
  have F0 := Lib.hid ((Fr.refl No w).alloc (.mapIter (some bs) clk #[] clk))
  have HN := Lib.hid hnd
  have HOK := Lib.hid ok
  have zp := zeroPoint
  have zo := zeroOutC
  clear hd hs hit hnd ok
  go_enter Try.func27, Try.ntmps27
  go_wp2_with (refine wpList_range_run rfl rfl rfl hrng ?_)
  generalize hq : w.heap.size = r at *
  generalize w.alloc (.mapIter (some bs) clk #[] clk) = W at *
  clear hrng
  try simp only [Act.put, List.setIfInBounds_toArray, List.set_cons_zero, List.set_cons_succ]
  go_loopg [] Ms.length (fun m wr => ∃ (D R M' : List (PointD × OutD)), (D ++ R).Perm Ms ∧ R.length = m ∧ AtIter wr r bs Ms R ∧ AtMap wr bd M' ∧ Laid Md D M' ∧ M'.length ≤ Md.length + D.length ∧ Fr (fun j => j = bd) w wr)
  case atStart => exact ⟨[], Ms, Md, List.Perm.refl _, rfl, HI0.out, HD0.out, fun k v => by simp, by simp, F0.out.of0⟩
  case round =>
    obtain ⟨D, R, M', hperm, hm, hI, hM, hL, hlen, hfr⟩ := hrel
    cases R with
    | nil =>
      have hnx := hI.stop
      have hL2 : Laid Md Ms M' := fun k v => by
        rw [hL k v]
        have : ∀ x, x ∈ D ↔ x ∈ Ms := fun x => by rw [← hperm.mem_iff]; simp
        simp only [this]
      have HL := Lib.hid hL2
      have HM := Lib.hid hM
      have HF := Lib.hid hfr
      clear hI hperm hm hL hL2 hM hfr
      go_wp2_with (refine wpList_next_run rfl rfl rfl (hnx _) ?_)
      go_end0
      exact ⟨rfl, M', HM.out, HL.out, HF.out⟩
    | cons x0 R0 =>
      obtain ⟨A, x, B, w2, hAB, hnx, hI2, f2, hent⟩ := hI.step (by simp) 0
      have hx : x ∈ Ms := hperm.subset (by rw [hAB]; simp)
      have XOK := Lib.hid (HOK.out x hx)
      have PL := Lib.hid (pointC_len XOK.out.1)
      have OL := Lib.hid (outC_len XOK.out.2)
      have hp2 : ((D ++ [x]) ++ (A ++ B)).Perm Ms := by
        refine List.Perm.trans ?_ hperm
        rw [hAB, List.append_assoc]
        exact List.Perm.append_left _ (show (x :: (A ++ B)).Perm (A ++ x :: B) from List.perm_middle.symm)
      have hxD : ∀ u, (x.1, u) ∉ D := by
        intro u hu
        have h1 := (hp2.map (·.1)).nodup_iff.2 HN.out
        rw [List.map_append, List.map_append, List.append_assoc] at h1
        exact (List.nodup_append.1 h1).2.2 x.1 (List.mem_map.2 ⟨_, hu, rfl⟩) x.1 (by simp) rfl
      have hDl : D.length + (A ++ B).length + 1 = Ms.length := by have := hp2.length_eq; simp at this ⊢; omega
      obtain ⟨t1, t2, t3, t4, t5⟩ := two_blocks w2 (T1 := 27) (T2 := 36) (z1 := (pointC point0).toArray) (z2 := (outC out0).toArray) (c1 := pointC x.1) (c2 := outC x.2) (by rw [PL.out]; rfl) (by rw [OL.out]; exact out0_size)
      have hrb : r ≠ bd := by have := hbd; omega
      have hM2 := (hM.keep f2 (fun e => hrb e.symm)).keep t5 id
      obtain ⟨w4, M'', hr4, hM4, hU, hT, hl4⟩ := hM2.upd eqPoint.keyed undAtMap (fun _ _ => pointV_inj) (keyOfPoint XOK.out.1) (by unfold maxLen; simp at hDl; omega) x.2
      have fT := hT.fr
      have HM4 := Lib.hid hM4
      have HI4 := Lib.hid ((hI2.keep t5 id id).keep fT (fun e => hne e.symm) hrb)
      have HL4 := Lib.hid (hL.step hxD hU)
      have HF4 := Lib.hid (((hfr.trans f2 (fun i hi e => by omega)).trans t5.of0 (fun i hi e => e)).trans fT (fun i hi e => e))
      have HLN := Lib.hid (show M''.length ≤ Md.length + (D ++ [x]).length by simp; omega)
      have HP := Lib.hid hp2
      have HR := Lib.hid (show (A ++ B).length < gk by rw [← hm, hAB]; simp)
      have T1 := Lib.hid t1
      have T2 := Lib.hid t2
      have T3 := Lib.hid t3
      have T4 := Lib.hid t4
      have HR4 := Lib.hid hr4
      clear hI hI2 hM hM2 hL hfr hx hp2 hxD hDl t1 t2 t3 t4 t5 hr4 hM4 hU hT hl4 fT hAB hperm hm f2
      unfold pointV outV at hnx hent
      go_wp2_with (first | refine wpList_next_run rfl rfl rfl hnx ?_ | refine wpList_entry_run rfl rfl rfl hent ?_ | (refine wpList_done rfl (exec_store (ty := 27) (b := w2.heap.size) rfl rfl rfl T1.out (by rw [PL.out]; exact infoPoint) pointC_one) ?_) | (refine wpList_done rfl (exec_store (ty := 36) (b := w2.heap.size + 1) rfl (by show Value.pointer (some ⟨_, 0, none⟩) = _; simp) rfl T2.out (by rw [OL.out]; exact infoOut) outC_one) ?_) | (refine wpList_value rfl (exec_load (ty := 27) rfl rfl T3.out uP rP (by rw [PL.out]; exact infoPoint)) ?_) | (refine wpList_value rfl (exec_load (ty := 36) rfl rfl T4.out uO rO (by rw [OL.out]; exact infoOut)) ?_) | (refine wpList_done rfl (exec_mapUpdate rfl rfl rfl rfl HR4.out) ?_))
      go_roundg (A ++ B).length
      case measure => exact HR.out
      case rel => exact ⟨D ++ [x], A ++ B, M'', HP.out, rfl, HI4.out, HM4.out, HL4.out, HLN.out, HF4.out⟩
end Go.Proofs.Ytoaefhjmpfchiaa
