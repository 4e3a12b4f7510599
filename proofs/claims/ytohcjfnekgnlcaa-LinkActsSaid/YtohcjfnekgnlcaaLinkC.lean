/- link: New, Open, Clone. -/
import Derived.Test.YtohcjfnekgnlcaaLinkB
namespace Go.Proofs.Ytohcjfnekgnlcaa
open Go Go.RowKit Go.Maps Go.MapKept

def LkG.new (n : Nat) : LkG := { bl := n + 2, bo := n, bn := n + 1, op := [], ln := [] }

theorem linksAt_new (w : World) : LinksAt (((w.alloc (.map #[] 0)).alloc (.map #[] 0)).alloc (.cells #[.map (some w.heap.size), .map (some (w.heap.size + 1))] 62)) (LkG.new w.heap.size) := by
  have f1 : Fr No (w.alloc (.map #[] 0)) (((w.alloc (.map #[] 0)).alloc (.map #[] 0)).alloc (.cells #[.map (some w.heap.size), .map (some (w.heap.size + 1))] 62)) := ((Fr.refl _ _).alloc _).alloc _
  have f2 : Fr No ((w.alloc (.map #[] 0)).alloc (.map #[] 0)) (((w.alloc (.map #[] 0)).alloc (.map #[] 0)).alloc (.cells #[.map (some w.heap.size), .map (some (w.heap.size + 1))] 62)) := (Fr.refl _ _).alloc _
  refine { hb := new_obj' _ _ (by simp [LkG.new]), ho := (MapAt.made w).keep f1 id, hn := ?_, hl := by simp [LkG.new], hm := by simp [LkG.new], n1 := by simp [LkG.new], n2 := by simp [LkG.new], n3 := by simp [LkG.new], nl := by simp [LkG.new], ll := by simp [LkG.new], mc := ?_, vo := by simp [LkG.new], vl := by simp [LkG.new], le := by simp [LkG.new] }
  · have := (MapAt.made (P := Try.prog) (kt := 64) (w.alloc (.map #[] 0))).keep f2 id
    simpa [LkG.new] using this
  · rintro k ⟨x, hx, _⟩
    simp [LkG.new] at hx

theorem run_makeMap1 (w : World) : (Instr.makeMap 59 none).run Try.prog w = .ok (.map (some w.heap.size)) (w.alloc (.map #[] 0)) := by kernel_rfl
theorem run_makeMap2 (w : World) : (Instr.makeMap 60 none).run Try.prog w = .ok (.map (some w.heap.size)) (w.alloc (.map #[] 0)) := by kernel_rfl

set_option maxHeartbeats 1000000 in
theorem new_any (w : World) : Calls Try.prog 11 #[] w fun e w' => e = .returned (.pointer (some ⟨w.heap.size + 2, 0, none⟩)) ∧ LinksAt w' (LkG.new w.heap.size) ∧ Fr No w w' := by
  have hL := linksAt_new w
  have HL := Lib.hid hL
  clear hL
  have m1 := run_makeMap1
  have m2 := run_makeMap2
  go_enter Try.func11, Try.ntmps11
  go_wp2
  go_ret
  exact ⟨rfl, HL.out, by (repeat (first | with_reducible exact Fr.refl _ _ | with_reducible assumption | with_reducible refine Fr.drew ?_ | with_reducible refine Fr.drewN ?_ _ | with_reducible refine Fr.alloc ?_ _ | with_reducible refine Fr.setCell ?_ _ (.inl (by simp <;> omega)) _))⟩

/-- The state behind Open. -/
def LkG.opened (g : LkG) (a b : Int) : LkG := { g with op := g.op ++ [(lo a b, hi a b)] }

theorem turned_old {w w' : World} {b : Nat} (h : Turned b w w') {k : Nat} {o : Obj} (ho : w.heap[k]? = some o) (hk : k ≠ b) : w'.heap[k]? = some o := (h.block k hk).trans ho

theorem LinksAt.opened {w w' : World} {g : LkG} (h : LinksAt w g) {a b : Int} (hv : vld a b) (ht : Turned g.bo w w') (hm : MapAt Try.prog 69 w' g.bo ((g.opened a b).op.map fun p => (pairV p, .int .i64 1))) : LinksAt w' (g.opened a b) := by
  have f := ht.fr
  refine
    { hb := f.obj h.hb h.n1
      ho := hm
      hn := h.hn.keep f (fun e => h.n3 e.symm)
      hl := fun x hx => ownsRow_keep (h.hl x hx) f (fun k hk e => (h.nl x hx k hk).2.1 e)
      hm := fun x hx m hm => (h.hm x hx m hm).keep f (fun k hk e => h.mc k ⟨x, hx, m, hm, hk⟩ (e ▸ .inr (.inl rfl)))
      n1 := h.n1
      n2 := h.n2
      n3 := h.n3
      nl := h.nl
      ll := h.ll
      mc := h.mc
      vo := ?_
      vl := ?_
      le := h.le }
  · intro p hp
    rcases List.mem_append.1 hp with hp | hp
    · exact h.vo p hp
    · simp only [List.mem_singleton] at hp; subst hp; exact lohi hv
  · intro x hx
    obtain ⟨v1, v2, v3⟩ := h.vl x hx
    exact ⟨v1, v2, List.mem_append_left _ v3⟩

set_option maxHeartbeats 1000000 in
theorem open_ok (w : World) (g : LkG) (h : LinksAt w g) (hroom : g.op.length < maxLen) (a b : Int) (hv : vld a b) (hin : (lo a b, hi a b) ∉ g.op) :
    Calls Try.prog 13 #[.pointer (some ⟨g.bl, 0, none⟩), .int .i64 a, .int .i64 b] w fun e w' => e = .returned (.int .i64 0) ∧ LinksAt w' (g.opened a b) ∧ Fr g.W w w' := by
  have hlk : ∀ w', MapAt Try.prog 69 w' g.bo (g.op.map fun p => (pairV p, .int .i64 1)) → (Instr.lookup 59 (.map (some g.bo)) (.agg #[.int .i64 (lo a b), .int .i64 (hi a b)]) false).run Try.prog w' = .ok (.int .i64 0) w' :=
    fun w' hm => hm.lookup keyedPair undPairMap zeroInt (keyPair (p := (lo a b, hi a b)) (lo_i64 hv) (hi_i64 hv)) false (op_miss hin)
  go_enter Try.func13, Try.ntmps13
  go_wp2_with (go_at_call 33; refine (of_yes _ _ _ hv).mono ?_; rintro e w1 ⟨rfl, f1⟩)
  have h1 := h.keep0 f1
  have c0 := h1.cell0
  have m0 := h1.ho
  have hne : g.bo < w1.heap.size := m0.lt
  have hnl : g.bl < w1.heap.size := h1.wlt _ (.inl rfl)
  refine wp_region_lexL [false, false, false, false, false, false, false, false] (fun w' => w'.cell? ⟨g.bl, 0, none⟩ = some (.map (some g.bo)) ∧ w'.cell? ⟨w1.heap.size, 0, none⟩ = some (.int .i64 (lo a b)) ∧ w'.cell? ⟨w1.heap.size, 1, none⟩ = some (.int .i64 (hi a b)) ∧ MapAt Try.prog 69 w' g.bo (g.op.map fun p => (pairV p, .int .i64 1))) (by kernel_rfl) (by kernel_rfl) ?_ (fun K hK => ?_)
  · exact ⟨((Fr.refl No _).alloc _).drew.cell c0 id, by go_simp, by go_simp, m0.keep (((Fr.refl No _).alloc _).drew) id⟩
  repeat (first | ((first | with_reducible refine lexL_read ?_ | ((with_reducible refine lexL_readG ?_ ?_); (focus rfl))); apply Exists.intro; refine ⟨fun w' hS => ?_, ?_⟩; (focus (obtain ⟨s1, s2, s3, s4⟩ := hS; go_simp; (try with_reducible rfl); done)); try simp only [Act.put, List.setIfInBounds_toArray, List.set_cons_zero, List.set_cons_succ]) | ((first | ((with_reducible refine lexL_skip (c := false) ?_ ?_ ?_); (focus rfl); (focus rfl)) | ((with_reducible refine lexL_skip (c := true) ?_ ?_ ?_); (focus rfl); (focus rfl)) | ((with_reducible refine lexL_skipU ?_ ?_); (focus rfl))); try simp only [Act.put, List.setIfInBounds_toArray, List.set_cons_zero, List.set_cons_succ]))
  refine lexL_nil (hK.out _ _ ?_)
  go_wp2
  have F0 : Fr No w1 ((w1.alloc (.cells #[.int .i64 (lo a b), .int .i64 (hi a b)] 69)).drew.drew) := by (repeat (first | with_reducible exact Fr.refl _ _ | with_reducible assumption | with_reducible refine Fr.drew ?_ | with_reducible refine Fr.drewN ?_ _ | with_reducible refine Fr.alloc ?_ _ | with_reducible refine Fr.setCell ?_ _ (.inl (by simp <;> omega)) _))
  obtain ⟨w3, hrun, hmap, hturn⟩ := (m0.keep F0 id).update_miss keyedPair undPairMap (keyPair (p := (lo a b, hi a b)) (lo_i64 hv) (hi_i64 hv)) (fun p hp e => by
    obtain ⟨p', hp', rfl⟩ := List.mem_map.1 hp; exact hin (pairV_inj e ▸ hp')) (by simpa using hroom) (.int .i64 1)
  have FIN : LinksAt w3 (g.opened a b) ∧ Fr g.W w w3 := by
    refine ⟨(h1.keep0 F0).opened hv hturn (by simpa [LkG.opened] using hmap), ?_⟩
    exact (f1.of0.trans0 F0).trans hturn.fr (fun i _ e => e ▸ .inr (.inl rfl))
  have HF := Lib.hid FIN
  clear FIN hmap
  unfold pairV at hrun
  simp only [] at hrun
  refine wp_region_lexL [false, false, false, false, false, true] (fun w' => w'.cell? ⟨g.bl, 0, none⟩ = some (.map (some g.bo)) ∧ w'.cell? ⟨w1.heap.size, 0, none⟩ = some (.int .i64 (lo a b)) ∧ w'.cell? ⟨w1.heap.size, 1, none⟩ = some (.int .i64 (hi a b))) (by kernel_rfl) (by kernel_rfl) ?_ (fun K hK => ?_)
  · exact ⟨F0.cell c0 id, by go_simp, by go_simp⟩
  repeat (first | ((first | with_reducible refine lexL_read ?_ | ((with_reducible refine lexL_readG ?_ ?_); (focus rfl))); apply Exists.intro; refine ⟨fun w' hS => ?_, ?_⟩; (focus (obtain ⟨s1, s2, s3⟩ := hS; go_simp; (try with_reducible rfl); done)); try simp only [Act.put, List.setIfInBounds_toArray, List.set_cons_zero, List.set_cons_succ]) | ((first | ((with_reducible refine lexL_skip (c := false) ?_ ?_ ?_); (focus rfl); (focus rfl)) | ((with_reducible refine lexL_skip (c := true) ?_ ?_ ?_); (focus rfl); (focus rfl)) | ((with_reducible refine lexL_skipU ?_ ?_); (focus rfl))); try simp only [Act.put, List.setIfInBounds_toArray, List.set_cons_zero, List.set_cons_succ]))
  (first | with_reducible refine lexL_eff (fun K' hK' => ?_) | ((with_reducible refine lexL_effG ?_ (fun K' hK' => ?_)); (focus rfl)))
  go_simp
  refine hK'.out _ _ ?_ (fun hS => ?_)
  · exact ⟨hturn.fr.cell (F0.cell c0 id) h.n1, hturn.fr.cell (a := ⟨w1.heap.size, 0, none⟩) (by go_simp) (by simp; omega), hturn.fr.cell (a := ⟨w1.heap.size, 1, none⟩) (by go_simp) (by simp; omega)⟩
  refine lexL_nil (hK.out _ _ ?_)
  go_wp2
  go_ret
  exact ⟨rfl, HF.out⟩
set_option maxHeartbeats 1000000 in
theorem open_there (w : World) (g : LkG) (h : LinksAt w g) (a b : Int) (hv : vld a b) (hin : (lo a b, hi a b) ∈ g.op) :
    Calls Try.prog 13 #[.pointer (some ⟨g.bl, 0, none⟩), .int .i64 a, .int .i64 b] w fun e w' => e = .returned (.int .i64 10) ∧ Fr No w w' := by
  have hlk : ∀ w', MapAt Try.prog 69 w' g.bo (g.op.map fun p => (pairV p, .int .i64 1)) → (Instr.lookup 59 (.map (some g.bo)) (.agg #[.int .i64 (lo a b), .int .i64 (hi a b)]) false).run Try.prog w' = .ok (.int .i64 1) w' :=
    fun w' hm => hm.lookup keyedPair undPairMap zeroInt (keyPair (p := (lo a b, hi a b)) (lo_i64 hv) (hi_i64 hv)) false (op_hit hin)
  go_enter Try.func13, Try.ntmps13
  go_wp2_with (go_at_call 33; refine (of_yes _ _ _ hv).mono ?_; rintro e w1 ⟨rfl, f1⟩)
  have h1 := h.keep0 f1
  have c0 := h1.cell0
  have m0 := h1.ho
  have hne : g.bo < w1.heap.size := m0.lt
  have hnl : g.bl < w1.heap.size := h1.wlt _ (.inl rfl)
  refine wp_region_lexL [false, false, false, false, false, false, false, false] (fun w' => w'.cell? ⟨g.bl, 0, none⟩ = some (.map (some g.bo)) ∧ w'.cell? ⟨w1.heap.size, 0, none⟩ = some (.int .i64 (lo a b)) ∧ w'.cell? ⟨w1.heap.size, 1, none⟩ = some (.int .i64 (hi a b)) ∧ MapAt Try.prog 69 w' g.bo (g.op.map fun p => (pairV p, .int .i64 1))) (by kernel_rfl) (by kernel_rfl) ?_ (fun K hK => ?_)
  · exact ⟨((Fr.refl No _).alloc _).drew.cell c0 id, by go_simp, by go_simp, m0.keep (((Fr.refl No _).alloc _).drew) id⟩
  repeat (first | ((first | with_reducible refine lexL_read ?_ | ((with_reducible refine lexL_readG ?_ ?_); (focus rfl))); apply Exists.intro; refine ⟨fun w' hS => ?_, ?_⟩; (focus (obtain ⟨s1, s2, s3, s4⟩ := hS; go_simp; (try with_reducible rfl); done)); try simp only [Act.put, List.setIfInBounds_toArray, List.set_cons_zero, List.set_cons_succ]) | ((first | ((with_reducible refine lexL_skip (c := false) ?_ ?_ ?_); (focus rfl); (focus rfl)) | ((with_reducible refine lexL_skip (c := true) ?_ ?_ ?_); (focus rfl); (focus rfl)) | ((with_reducible refine lexL_skipU ?_ ?_); (focus rfl))); try simp only [Act.put, List.setIfInBounds_toArray, List.set_cons_zero, List.set_cons_succ]))
  refine lexL_nil (hK.out _ _ ?_)
  go_wp2
  go_ret
  exact ⟨rfl, by (repeat (first | with_reducible exact Fr.refl _ _ | with_reducible assumption | with_reducible refine Fr.drew ?_ | with_reducible refine Fr.drewN ?_ _ | with_reducible refine Fr.alloc ?_ _ | with_reducible refine Fr.setCell ?_ _ (.inl (by simp <;> omega)) _))⟩
set_option maxHeartbeats 1000000 in
theorem open_arg (w : World) (bl : Nat) (a b : Int) (hv : ¬ vld a b) :
    Calls Try.prog 13 #[.pointer (some ⟨bl, 0, none⟩), .int .i64 a, .int .i64 b] w fun e w' => e = .returned (.int .i64 2) ∧ Fr No w w' := by
  go_enter Try.func13, Try.ntmps13
  go_wp2_with fail
  refine (of_no _ _ _ hv).mono ?_
  rintro e w1 ⟨p, q, rfl, f1⟩
  go_wp2
  go_ret
  exact ⟨rfl, by (repeat (first | with_reducible exact Fr.refl _ _ | with_reducible assumption | with_reducible refine Fr.drew ?_ | with_reducible refine Fr.drewN ?_ _ | with_reducible refine Fr.alloc ?_ _ | with_reducible refine Fr.setCell ?_ _ (.inl (by simp <;> omega)) _))⟩
end Go.Proofs.Ytohcjfnekgnlcaa
