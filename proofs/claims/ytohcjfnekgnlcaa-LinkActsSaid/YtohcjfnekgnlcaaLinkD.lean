/- slices.Clone of bytes; the message that is pushed. -/
import Derived.Test.YtohcjfnekgnlcaaLinkC
import Derived.Test.YtohcjfnekgnlcaaGrow
namespace Go.Proofs.Ytohcjfnekgnlcaa
open Go Go.RowKit Go.Maps Go.MapKept

theorem infoByte : (Try.prog.info? 5).map (fun i => (i.zero, i.size, i.bytes)) = some (some (.int .u8 0), 1, 1) := by kernel_rfl
theorem undBytes : Try.prog.underlying 28 = some (.slice 5) := by kernel_rfl

/-- A copy of bytes: new, or nil. -/
def CloneOk (w : World) (bs : List Int) (e : Ending) (w' : World) : Prop :=
  ∃ v, e = .returned v ∧ w'.ownsRow w.heap.size 5 1 v bs.length (bs.map byteV) ∧ Fr No w w'

set_option maxHeartbeats 1000000 in
theorem clone_any (w : World) (v : Value) (bs : List Int) (h : ArgIs w v bs.length (bs.map byteV)) (hl : bs.length ≤ 140737488355328) :
    Calls Try.prog 32 #[v] w (CloneOk w bs) := by
  by_cases hnil : v = .slice none 0 0
  · subst hnil
    have h1 : bs.length = 0 := by
      obtain ⟨a, c, e⟩ := h.form
      injection e with e1 e2 e3
      exact e2.symm
    have hbs : bs = [] := List.eq_nil_of_length_eq_zero h1
    subst hbs
    have FIN := Lib.hid (show CloneOk w [] (.returned (.slice none 0 0)) w from ⟨_, rfl, World.ownsRow_nil _ _ _ _, Fr.refl _ _⟩)
    clear h1 h
    have en := fun (w : World) => Lib.run_eql_slice_nil w 28 5 none 0 0 0 0 undBytes
    go_enter Try.func32, Try.ntmps32
    go_wp2
    go_ret
    exact FIN.out
  · obtain ⟨ad, cap, rfl⟩ : ∃ ad cap, v = .slice (some ad) bs.length cap := by
      obtain ⟨a, c, e⟩ := h.form
      cases a with
      | none =>
        rcases h with (⟨e1, _⟩ | ⟨_, _, _, e1, _⟩) | ⟨_, _, e1, _⟩
        · exact absurd e1 hnil
        · rw [e] at e1; cases e1
        · rw [e] at e1; cases e1
      | some a => exact ⟨a, c, e⟩
    obtain ⟨v', w', hrun, hown, hg, -, -⟩ := append_own (P := Try.prog) (w.alloc (.cells #[] 5)) w.heap.size 28 28 5 1 1 (.int .u8 0) undBytes infoByte rfl (by decide)
      (.slice (some ⟨w.heap.size, 0, none⟩) 0 0) 0 [] (World.ownsRow_made w #[] 0 (Nat.le_refl _) (by unfold maxLen; omega) rfl) _ _ _ (h.keep ((Fr.refl No w).alloc _)) (by simp) (by intro u hu; obtain ⟨x, _, rfl⟩ := List.mem_map.1 hu; rfl) (by omega) (by unfold maxLen; omega) (by simp) (by simp)
    have FIN := Lib.hid (show CloneOk w bs (.returned v') w' from ⟨_, rfl, by simpa using hown, ((Fr.refl No w).alloc _).grown hg (by simp [Value.ownBlock])⟩)
    have en := fun (w : World) => Lib.run_eql_slice_nil w 28 5 (some ad) bs.length cap 0 0 undBytes
    clear h hown hg hl hnil
    go_enter Try.func32, Try.ntmps32
    go_wp2_with (at_builtin; refine wpList_append_run rfl rfl rfl rfl hrun ?_)
    go_ret
    exact FIN.out
end Go.Proofs.Ytohcjfnekgnlcaa
