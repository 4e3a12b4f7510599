/- embargo: All sorts its copy. -/
import Derived.Test.YthmaekkjpginoaaDoorEmbG
import Derived.Test.YthmaekkjpginoaaDoorEmbSh
import Derived.Test.YthmaekkjpginoaaDoorSortK
import Derived.Shelf.SlSortCmp.NoneTotal
namespace Go.Proofs.YthmaekkjpginoaaDoor
open Go Go.RowKit Go.Maps Go.MapKept Go.Sort

abbrev HeldO : Type := { h : HeldD // h.ok }
instance : Inhabited HeldO := ⟨⟨⟨key0, 0, 0⟩, ⟨⟨by unfold inI64; decide, rfl, by decide⟩, by decide, by unfold inI64; decide⟩⟩⟩
def heldE (x : HeldO) : List Value := heldC x.1
def cmpO (x y : HeldO) : Int := cmpF x.1 y.1
theorem lt_cmpO (x y : HeldO) : ltOf cmpO x y = beforeB x.1 y.1 := by
  unfold ltOf cmpO cmpF
  cases h : beforeB x.1 y.1 with
  | true => simp
  | false =>
    rw [if_neg (by simp)]
    split <;> simp
theorem swoO : SWO (ltOf cmpO) where
  irrefl x := by rw [lt_cmpO]; exact swoB.irrefl _
  trans x y z h1 h2 := by rw [lt_cmpO] at *; exact swoB.trans _ _ _ h1 h2
  ntrans x y z h1 h2 := by rw [lt_cmpO] at *; exact swoB.ntrans _ _ _ h1 h2
theorem isAggHeld : ∀ w, (isAgg (Tryd.laysF_ren.t 24)).run Tryd.prog w = .ok true w := fun w => by kernel_rfl
theorem sizeHeldS : ∀ w, (Go.sizeOf (Tryd.laysF_ren.t 24)).run Tryd.prog w = .ok 35 w := fun w => by kernel_rfl
theorem cmpLays (blk off size : Nat) (w : World) : CmpLays Tryd.prog 32 #[] heldE 35 cmpO blk off size w :=
  fun _ _ _ _ x y => (cmp_any _ x.1 y.1 x.2 y.2).mono fun _ _ ⟨he, hg⟩ => ⟨he, hg⟩

theorem sort_any {w : World} {B : Nat} {v : Value} {H S : List HeldD} (hh : w.ownsRow B 78 35 v H.length (H.flatMap heldC)) (ok : ∀ h ∈ H, h.ok) (hp : S.Perm H) (srt : S.Pairwise (fun a b => beforeB a b = true)) (hN : H.length ≤ 1000) :
    Calls Tryd.prog 31 #[v, .func (.func 32) #[] #[]] w fun e w' => e = .returned (.tuple #[]) ∧ w'.ownsRow B 78 35 v H.length (S.flatMap heldC) ∧ Fr (fun j => v.ownBlock = some j) w w' := by
  have h2 := hh.2
  rcases h2 with ⟨rfl, hn⟩ | ⟨g, cap, cur, rfl, hb, hg, -⟩
  · have hH := List.eq_nil_of_length_eq_zero hn
    subst hH
    have hS : S = [] := hp.eq_nil
    subst hS
    refine (AnyF.slices_SortFunc_none Tryd.laysF none 0 (.func (.func 32) #[] #[]) w).mono ?_
    rintro e w' ⟨rfl, rfl⟩
    exact ⟨rfl, hh, Fr.refl _ _⟩
  · obtain ⟨L, rfl⟩ := lift_list H ok
    have hf : (L.map Subtype.val).flatMap heldC = L.flatMap heldE := by rw [List.flatMap_map]; rfl
    rw [hf, List.length_map] at hh
    rw [List.length_map] at hN ⊢
    have eg : ∀ args w, (callFunc 32 args).run Tryd.prog w = .ok (.enter 32 args) w := enters_of Tryd.func32 (by kernel_rfl) rfl
    have hk : ∀ x : HeldO, (heldE x).length = 35 := fun x => heldC_len x.2
    have hcon := AnyQ.slices_SortFunc Tryd.laysF 35 isAggHeld sizeHeldS heldE hk (fun x => heldC_one) cmpO swoO 32 #[] g 0 cap L.toArray w eg (cmpLays _ _ _ _) (holds_own heldE 35 hk hh) (obj_lt hg) (by rw [List.size_toArray]; show L.length < _; omega)
    rw [List.size_toArray] at hcon
    refine hcon.mono ?_
    rintro e w' ⟨rfl, d', n, os, hpi, hso, rfl⟩
    have hd : d'.toList.map Subtype.val = S := sorted_perm Subtype.val (r := beforeB) lt_cmpO (d := L.toArray) (by rw [List.size_toArray]; exact hpi) (by rw [List.size_toArray]; exact hso) hp
      (srt.imp (fun {a b} h => by rw [before_iff] at h; rw [before_not]; omega))
      (fun a ha b hb h1 h2 => by
        have : ∀ {T : List HeldD}, T.Pairwise (fun a b => beforeB a b = true) → ∀ a ∈ T, ∀ b ∈ T, a = b ∨ beforeB a b = true ∨ beforeB b a = true := by
          intro T hT
          induction hT with
          | nil => intro a ha; cases ha
          | cons hx _ ih =>
            intro a ha b hb
            rcases List.mem_cons.1 ha with rfl | ha' <;> rcases List.mem_cons.1 hb with rfl | hb'
            · exact .inl rfl
            · exact .inr (.inl (hx _ hb'))
            · exact .inr (.inr (hx _ ha'))
            · exact ih a ha' b hb'
        rcases this srt a ha b hb with h | h | h
        · exact h
        · rw [h1] at h; cases h
        · rw [h2] at h; cases h)
    have hsz : d'.size = L.length := by have := hpi.1; rw [List.size_toArray] at this; exact this
    obtain ⟨ho, fo⟩ := sorted_own heldE 35 hk hh hsz n os
    have hf2 : d'.toList.flatMap heldE = S.flatMap heldC := by rw [← hd, List.flatMap_map]; rfl
    rw [hf2] at ho
    exact ⟨rfl, ho, fo.mono (fun j hj => by rw [hj]; rfl)⟩
end Go.Proofs.YthmaekkjpginoaaDoor
