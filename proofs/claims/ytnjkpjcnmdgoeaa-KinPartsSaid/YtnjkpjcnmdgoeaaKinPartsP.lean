/- KinParts: the row: for every input that the statement's words allow, the law's function returns true and what came in reads as it did. -/
import Derived.Test.YtnjkpjcnmdgoeaaKinPartsW
import Derived.Test.YtnjkpjcnmdgoeaaPost
import Derived.SizedLaws
import Derived.Test.YtnjkpjcnmdgoeaaKinX
import Derived.Test.YtnjkpjcnmdgoeaaLenS
namespace Go.Proofs.Ytnjkpjcnmdgoeaa.kinParts
open Go Go.ChangeShapes Go.WideShapes Go.ChangeAt Go.RowKit

set_option maxRecDepth 100000 in
theorem lifted (os : Os) (started : os.Started) (H : Type) (enc : TypeId × Value → H) :
    ReturnsInHanded {} Try.checked os 6 .any (Rows.kinPartsSpec.pre6 enc Try.prog Try.f6 Rows.kinPartsRow.domain false) (Rows.kinPartsSpec.post enc Try.prog Try.f6 false true false false) := by
  refine returnsInHanded_of_change_sized (C := Try.checked) own started (by kernel_rfl) Try.func6
    (ChangeSpec.witness6 (enc := enc) (C := Try.checked) false ⟨#[], #[.slice none 0 0, .slice none 0 0, .slice none 0 0], []⟩ 8 (by kernel_rfl) (by kernel_rfl) (by kernel_rfl) (by kernel_rfl)) ?_
  intro W base args ds gs before hval0 hW hcnd hsz0 _
  have hval : ∀ (j : Nat) t v, Try.f6.params[j]? = some t → args[j]? = some v → Value.okWide Try.prog W .any base t v := hval0
  have hW' := hW
  obtain ⟨p, q, hA0, hV, rfl, hfz, hnd⟩ := hW
  have hA : DataW.TrodAll enc Try.prog W 0 (fun _ => true) true Try.f6.params.toList args.toList ds p := hA0
  have hsz : (DataW.weightsEach Try.prog (Try.f6.params.toList ++ Rows.kinPartsSpec.plain.varTypes Try.prog) (ds ++ gs)).all (· ≤ reachBytes) = true := hsz0
  rw [Try.params6] at hA hval hsz
  obtain ⟨v0, vs0, d0, ds0, p0, q0, hargs, rfl, rfl, h0, r0⟩ := trodAll_cons hA
  obtain ⟨v1, vs1, d1, ds1, p1, q1, rfl, rfl, rfl, h1, r1⟩ := trodAll_cons r0
  obtain ⟨v2, vs2, d2, ds2, p2, q2, rfl, rfl, rfl, h2, r2⟩ := trodAll_cons r1
  obtain ⟨rfl, rfl, rfl⟩ := trodAll_nil r2
  obtain rfl : args = #[v0, v1, v2] := by cases args; simp_all
  obtain ⟨rfl, rfl⟩ := trodVars_none hV
  obtain ⟨W0, Y0⟩ := weights_at (t := 22) (d := d0) hsz
  obtain ⟨W1, Y1⟩ := weights_at (t := 27) (d := d1) Y0
  obtain ⟨W2, Y2⟩ := weights_at (t := 27) (d := d2) Y1
  obtain ⟨_, _, _, rfl⟩ := okWide_slice Try.underlying22 (hval 0 22 v0 rfl rfl)
  obtain ⟨_, hf0⟩ := h0
  obtain ⟨L0, hL0⟩ := open_kacts hf0
  obtain ⟨_, _, _, rfl⟩ := okWide_slice Try.underlying27 (hval 1 27 v1 rfl rfl)
  obtain ⟨_, hf1⟩ := h1
  obtain ⟨L1, hL1⟩ := open_ids hf1
  have z1 : L1.length ≤ reachBytes := by
    obtain ⟨_, _, e1⟩ := hL1.2.form
    rw [e1] at hf1
    exact slice_len Try.underlying27 (by decide +kernel) hf1 W1
  obtain ⟨_, _, _, rfl⟩ := okWide_slice Try.underlying27 (hval 2 27 v2 rfl rfl)
  obtain ⟨_, hf2⟩ := h2
  obtain ⟨L2, hL2⟩ := open_ids hf2
  have z2 : L2.length ≤ reachBytes := by
    obtain ⟨_, _, e2⟩ := hL2.2.form
    rw [e2] at hf2
    exact slice_len Try.underlying27 (by decide +kernel) hf2 W2
  refine (parts_any W hL0 hL1 hL2 (Nat.le_trans z1 (by decide)) (Nat.le_trans z2 (by decide))).mono fun e W' ⟨he, hg⟩ => ?_
  subst he
  exact ⟨_, rfl, post_still laid (by decide +kernel) rfl hW' hg (fun _ _ _ => (trodAll_cons_mk (shut_bool Try.underlying4 _) trodAll_mk0)) rfl rfl⟩

theorem over : Rows.kinPartsRow.holds Try.pinned (OpenSpec.ofChange Rows.kinPartsSpec) :=
  OpenClaim.holds_of_wide 6 Try.f6 rfl rfl rfl rfl rfl rfl rfl ⟨rfl, rfl, rfl, rfl, rfl⟩ rfl rfl rfl rfl rfl (by kernel_rfl) Try.func6 (by kernel_rfl)
    (of_decide_eq_true (by kernel_rfl)) (by unfold Func.isWrapper; first | (rw [if_pos (by decide +kernel)]; kernel_rfl) | (rw [if_neg (by decide +kernel)]; exact ⟨rfl, rfl⟩))
    (fun os started H enc _ => lifted os started H enc)

theorem proved : Rows.KinPartsSaid :=
  over
#print axioms proved
end Go.Proofs.Ytnjkpjcnmdgoeaa.kinParts
