/- link: Len. -/
import Derived.Test.YtohcjfnekgnlcaaLinkK
import Derived.Test.YtohcjfnekgnlcaaIter
import Derived.Deep.LoopGhost
namespace Go.Proofs.Ytohcjfnekgnlcaa
open Go Go.RowKit Go.Maps Go.MapKept

/-- How many messages are on lanes of a kind. -/
def cnt (ln : List ((Int × Int × Int) × LG)) (k : Int) : Nat := (ln.map fun x => if x.1.2.2 = k then x.2.ms.length else 0).sum
theorem cnt_perm {l l' : List ((Int × Int × Int) × LG)} (h : l.Perm l') (k : Int) : cnt l k = cnt l' k := (h.map _).sum_nat
theorem cnt_append (l l' : List ((Int × Int × Int) × LG)) (k : Int) : cnt (l ++ l') k = cnt l k + cnt l' k := by simp [cnt]
theorem cnt_le {l : List ((Int × Int × Int) × LG)} {k : Int} (h : ∀ x ∈ l, x.2.ms.length ≤ 64) : cnt l k ≤ 64 * l.length := by
  induction l with
  | nil => simp [cnt]
  | cons x l ih =>
    have := ih (fun y hy => h y (by simp [hy]))
    have h1 := h x (by simp)
    simp only [cnt, List.map_cons, List.sum_cons, List.length_cons] at *
    split <;> omega

set_option maxHeartbeats 2000000 in
theorem len_any (w : World) (g : LkG) (h : LinksAt w g) (kd : Int) (hlen : g.ln.length ≤ 100000) :
    Calls Try.prog 14 #[.pointer (some ⟨g.bl, 0, none⟩), .int .i64 kd] w fun e w' => e = .returned (.int .i64 (cnt g.ln kd)) ∧ Fr No w w' := by
  have c1 := h.cell1
  obtain ⟨clk, hrng, hit⟩ := h.hn.range undWayMap
  have hbn := h.wlt g.bn (.inr (.inr (.inl rfl)))
  go_enter Try.func14, Try.ntmps14
  go_wp2_with (refine wpList_range_run rfl rfl rfl hrng ?_)
  have hle : ∀ x ∈ g.ln, x.2.ms.length ≤ 64 := h.le
  have hform : ∀ x ∈ g.ln, ∃ a c, x.2.v = .slice a x.2.ms.length c := fun x hx => row_form (h.hl x hx)
  have F0 : Fr No w (w.alloc (.mapIter (some g.bn) clk #[] clk)) := by (repeat (first | with_reducible exact Fr.refl _ _ | with_reducible assumption | with_reducible refine Fr.drew ?_ | with_reducible refine Fr.drewN ?_ _ | with_reducible refine Fr.alloc ?_ _ | with_reducible refine Fr.setCell ?_ _ (.inl (by simp <;> omega)) _))
  have hn0 : w.heap.size < (w.alloc (.mapIter (some g.bn) clk #[] clk)).heap.size := by simp
  generalize (w.alloc (.mapIter (some g.bn) clk #[] clk)) = W at hit F0 hn0 ⊢
  clear hrng c1 h
  try simp only [Act.put, List.setIfInBounds_toArray, List.set_cons_zero, List.set_cons_succ]
  go_loopg [5] g.ln.length (fun m nv wr => ∃ D R : List ((Int × Int × Int) × LG), (D ++ R).Perm g.ln ∧ R.length = m ∧ nv = .int .i64 (cnt D kd) ∧ IterAt Try.prog 64 wr w.heap.size g.bn (lnV g.ln) (lnV R) ∧ Fr No w wr ∧ W.heap.size ≤ wr.heap.size)
  case atStart => exact ⟨[], g.ln, List.Perm.refl _, rfl, rfl, hit, F0, Nat.le_refl _⟩
  case round =>
    obtain ⟨D, R, hperm, hm, rfl, hI, hfr, hsz⟩ := hrel
    cases R with
    | nil =>
      have hd : cnt D kd = cnt g.ln kd := by rw [← cnt_perm hperm]; simp
      rw [hd]
      have hnx := hI.nextNone
      clear hI hperm hd hm
      go_wp2_with (refine wpList_next_run rfl rfl rfl (hnx _) ?_)
      go_ret
      exact ⟨rfl, hfr⟩
    | cons x0 R0 =>
      obtain ⟨R1, p, R2, w2, hR, hnx, hI2, f2, hent⟩ := hI.nextSome (by simp [lnV]) 0
      obtain ⟨A, B, hAB, hA, hB⟩ := List.map_eq_append_iff.1 hR
      cases B with
      | nil => simp at hB
      | cons x B =>
        simp only [List.map_cons, List.cons.injEq] at hB
        obtain ⟨rfl, hB⟩ := hB
        subst hA
        subst hB
        have hx : x ∈ g.ln := hperm.subset (by rw [hAB]; simp)
        obtain ⟨va, vc, hv⟩ := hform x hx
        have hml := hle x hx
        rw [hv] at hnx hent
        unfold wayV at hnx hent
        simp only [] at hnx hent
        have hp2 : ((D ++ [x]) ++ (A ++ B)).Perm g.ln := by
          refine List.Perm.trans ?_ hperm
          rw [hAB, List.append_assoc]
          exact List.Perm.append_left _ (show (x :: (A ++ B)).Perm (A ++ x :: B) from List.perm_middle.symm)
        have hcD : cnt (D ++ [x]) kd = cnt D kd + if x.1.2.2 = kd then x.2.ms.length else 0 := by rw [cnt_append]; simp [cnt]
        have hbd : cnt (D ++ [x]) kd ≤ 6400000 := by
          have h1 := cnt_perm hp2 kd
          have h3 := cnt_append (D ++ [x]) (A ++ B) kd
          have h2 := cnt_le (k := kd) hle
          omega
        have hI2' : IterAt Try.prog 64 w2 w.heap.size g.bn (lnV g.ln) (lnV (A ++ B)) := by simpa [lnV] using hI2
        have hHI := Lib.hid hI2'
        have hHP := Lib.hid hp2
        have hHC := Lib.hid hcD
        have hHR := Lib.hid (show (A ++ B).length < gk by rw [← hm, hAB]; simp)
        have f2' := f2
        have hsz2 := f2.size
        have hfr2 : Fr No w w2 := hfr.trans f2 (fun i hi e => by omega)
        clear hI hI2 hI2' hp2 hcD hAB hR hperm hm hx hv
        have hent0 := hent w2 rfl rfl
        clear hent
        by_cases hk : x.1.2.2 = kd
        · rw [if_pos hk] at hHC
          have hkb : (x.1.2.2 == kd) = true := by simpa using hk
          have hbd' : (cnt D kd : Int) + (x.2.ms.length : Int) ≤ 6400000 := by have := hHC.out; omega
          clear hk
          go_wp2_with (first | refine wpList_next_run rfl rfl rfl hnx ?_ | refine wpList_entry_run rfl rfl rfl hent0 ?_)
          go_roundg (A ++ B).length
          case measure => exact hHR.out
          case rel => exact ⟨D ++ [x], A ++ B, hHP.out, rfl, by rw [hHC.out]; simp, hHI.out.keep ((Fr.refl No _).alloc _) id id, by (repeat (first | with_reducible exact Fr.refl _ _ | with_reducible assumption | with_reducible refine Fr.drew ?_ | with_reducible refine Fr.drewN ?_ _ | with_reducible refine Fr.alloc ?_ _ | with_reducible refine Fr.setCell ?_ _ (.inl (by simp <;> omega)) _)), by simp; omega⟩
        · rw [if_neg hk] at hHC
          have hkb : (x.1.2.2 == kd) = false := by simpa using hk
          clear hk
          go_wp2_with (first | refine wpList_next_run rfl rfl rfl hnx ?_ | refine wpList_entry_run rfl rfl rfl hent0 ?_)
          go_roundg (A ++ B).length
          case measure => exact hHR.out
          case rel => exact ⟨D ++ [x], A ++ B, hHP.out, rfl, by rw [hHC.out]; simp, hHI.out.keep ((Fr.refl No _).alloc _) id id, by (repeat (first | with_reducible exact Fr.refl _ _ | with_reducible assumption | with_reducible refine Fr.drew ?_ | with_reducible refine Fr.drewN ?_ _ | with_reducible refine Fr.alloc ?_ _ | with_reducible refine Fr.setCell ?_ _ (.inl (by simp <;> omega)) _)), by simp; omega⟩
end Go.Proofs.Ytohcjfnekgnlcaa
