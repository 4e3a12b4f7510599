/- embargo: All's copy of the heap. -/
import Derived.Test.YthmaekkjpginoaaDoorEmbE
import Derived.Test.YthmaekkjpginoaaDoorEmbF
namespace Go.Proofs.YthmaekkjpginoaaDoor
open Go Go.RowKit Go.Maps Go.MapKept Go.Sort

theorem flat_one {H : List HeldD} : ∀ u ∈ H.flatMap heldC, u.oneCell' = true := fun u hu => by
  obtain ⟨x, _, hx⟩ := List.mem_flatMap.1 hu
  exact heldC_one u hx
theorem flat_len {H : List HeldD} (ok : ∀ h ∈ H, h.ok) : (H.flatMap heldC).length = H.length * 35 := flatR_len heldC 35 H (fun x hx => heldC_len (ok x hx))

set_option maxRecDepth 20000 in
set_option maxHeartbeats 2000000 in
theorem clone_any (w : World) {v : Value} {H : List HeldD} (hh : w.ownsRow 0 78 35 v H.length (H.flatMap heldC)) (ok : ∀ h ∈ H, h.ok) (hN : H.length ≤ 1000) :
    Calls Tryd.prog 30 #[v] w fun e w' => ∃ v', e = .returned v' ∧ w'.ownsRow w.heap.size 78 35 v' H.length (H.flatMap heldC) ∧ Fr No w w' := by
  have q22 : ∀ (w : World) (a : Option Addr) (n c n' c' : Nat), (binOp .eql 73 (.slice a n c) (.slice none n' c')).run Tryd.prog w = .ok (.bool a.isNone) w := fun w a n c n' c' => Lib.run_eql_slice_nil w _ _ a n c n' c' undHelds
  by_cases hnil : v = .slice none 0 0
  · subst hnil
    have hl : H = [] := by
      rcases hh.2 with ⟨_, h⟩ | ⟨g, gc, cur, h, _⟩
      · exact List.eq_nil_of_length_eq_zero h
      · cases h
    subst hl
    clear hh
    go_enter Tryd.func30, Tryd.ntmps30
    go_wp2
    go_ret
    exact ⟨_, rfl, World.ownsRow_nil _ _ _ _, Fr.refl _ _⟩
  · have hx : ArgIs (w.alloc (.cells #[] 78)) v H.length (H.flatMap heldC) := hh.slice.arg.keep ((Fr.refl _ _).alloc _)
    obtain ⟨v', w', happ, ho, hg, -, hfr⟩ := append_own (P := Tryd.prog) (w.alloc (.cells #[] 78)) w.heap.size 73 73 78 35 56 _ undHelds infoHeldZ rfl (by decide) (.slice (some ⟨w.heap.size, 0, none⟩) 0 0) 0 [] (World.ownsRow_made w #[] 0 (Nat.le_refl _) (Nat.zero_le _) rfl) v H.length (H.flatMap heldC) hx (flat_len ok) flat_one (by omega) (by unfold maxLen; omega) (by simp) hnil
    have f1 : Fr No w w' := Fr.grown ((Fr.refl _ w).alloc _) hg (fun k hk => by simp [Value.ownBlock] at hk; exact .inl (by omega))
    have hform : ∃ b off n c, v = .slice (some ⟨b, off, none⟩) n c := by
      rcases hh.2 with ⟨h, _⟩ | ⟨g, gc, cur, h, _⟩
      · exact absurd h hnil
      · exact ⟨_, _, _, _, h⟩
    obtain ⟨b, off, n, c, rfl⟩ := hform
    have HAP := Lib.hid happ
    have HO := Lib.hid ho
    have F1 := Lib.hid f1
    clear hx happ ho hg hfr f1 hh hnil
    go_enter Tryd.func30, Tryd.ntmps30
    go_wp2_with (at_builtin; refine wpList_append_run rfl rfl rfl rfl HAP.out ?_)
    go_ret
    exact ⟨_, rfl, by simpa using HO.out, F1.out⟩
end Go.Proofs.YthmaekkjpginoaaDoor
