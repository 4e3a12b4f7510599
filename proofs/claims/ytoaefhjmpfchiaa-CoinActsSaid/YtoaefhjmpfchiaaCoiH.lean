/- coin: All sorts its coins. -/
import Derived.Test.YtoaefhjmpfchiaaCoiO
import Derived.Test.YtoaefhjmpfchiaaCoiSh
import Derived.Test.YtoaefhjmpfchiaaSortK
import Derived.Shelf.SlSortCmp.NoneTotal
namespace Go.Proofs.Ytoaefhjmpfchiaa
open Go Go.RowKit Go.Maps Go.MapKept Go.Sort

theorem point0_ok : point0.ok := ⟨⟨rfl, fun x hx => by have : x = 0 := List.eq_of_mem_replicate hx; omega⟩, by decide, by decide⟩
abbrev CoinO : Type := { c : CoinD // c.ok }
instance : Inhabited CoinO := ⟨⟨coin0, point0_ok, out0_ok⟩⟩
def coinE (x : CoinO) : List Value := coinC x.1
def cmpCO (x y : CoinO) : Int := cmpPt x.1.at_ y.1.at_
theorem ptLt_ntrans {p q r : PointD} (h1 : ptLt p q = false) (h2 : ptLt q r = false) : ptLt p r = false := by
  cases h : ptLt p r with
  | false => rfl
  | true =>
    cases h3 : ptLt q p with
    | true => rw [ptLt_trans h3 h] at h2; cases h2
    | false =>
      have := ptLt_total h1 h3
      subst this
      rw [h] at h2; cases h2
theorem lt_cmpCO (x y : CoinO) : ltOf cmpCO x y = ptLt x.1.at_ y.1.at_ := by
  unfold ltOf cmpCO ptLt
  rcases cmpPt_vals x.1.at_ y.1.at_ with h | h | h <;> simp [h]
theorem swoCO : SWO (ltOf cmpCO) where
  irrefl x := by rw [lt_cmpCO]; exact ptLt_irrefl _
  trans x y z h1 h2 := by rw [lt_cmpCO] at *; exact ptLt_trans h1 h2
  ntrans x y z h1 h2 := by rw [lt_cmpCO] at *; exact ptLt_ntrans h1 h2
theorem isAggCoin : ∀ w, (isAgg (Try.laysF_ren.t 24)).run Try.prog w = .ok true w := fun w => by kernel_rfl
theorem sizeCoinS : ∀ w, (Go.sizeOf (Try.laysF_ren.t 24)).run Try.prog w = .ok 66 w := fun w => by kernel_rfl
theorem cmpLaysC (blk off size : Nat) (w : World) : CmpLays Try.prog 29 #[] coinE 66 cmpCO blk off size w :=
  fun _ _ _ _ x y => (order_any _ x.1 y.1 x.2 y.2).mono fun _ _ ⟨he, hg⟩ => ⟨he, hg⟩

theorem sortC_any {w : World} {B : Nat} {v : Value} {H S : List CoinD} (hh : w.ownsRow B 38 66 v H.length (H.flatMap coinC)) (ok : ∀ h ∈ H, h.ok) (hp : S.Perm H) (srt : SrtC S) (hN : H.length ≤ 100000) :
    Calls Try.prog 28 #[v, .func (.func 29) #[] #[]] w fun e w' => e = .returned (.tuple #[]) ∧ w'.ownsRow B 38 66 v H.length (S.flatMap coinC) ∧ Fr (fun j => v.ownBlock = some j) w w' := by
  have h2 := hh.2
  rcases h2 with ⟨rfl, hn⟩ | ⟨g, cap, cur, rfl, hb, hg, -⟩
  · have hH := List.eq_nil_of_length_eq_zero hn
    subst hH
    have hS : S = [] := hp.eq_nil
    subst hS
    refine (AnyF.slices_SortFunc_none Try.laysF none 0 (.func (.func 29) #[] #[]) w).mono ?_
    rintro e w' ⟨rfl, rfl⟩
    exact ⟨rfl, hh, Fr.refl _ _⟩
  · obtain ⟨L, rfl⟩ := lift_list H ok
    have hf : (L.map Subtype.val).flatMap coinC = L.flatMap coinE := by rw [List.flatMap_map]; rfl
    rw [hf, List.length_map] at hh
    rw [List.length_map] at hN ⊢
    have eg : ∀ args w, (callFunc 29 args).run Try.prog w = .ok (.enter 29 args) w := enters_of Try.func29 (by kernel_rfl) rfl
    have hk : ∀ x : CoinO, (coinE x).length = 66 := fun x => coinC_len x.2
    have hcon := AnyQ.slices_SortFunc Try.laysF 66 isAggCoin sizeCoinS coinE hk (fun x => coinC_one) cmpCO swoCO 29 #[] g 0 cap L.toArray w eg (cmpLaysC _ _ _ _) (holds_own coinE 66 hk hh) (obj_lt hg) (by rw [List.size_toArray]; show L.length < _; omega)
    rw [List.size_toArray] at hcon
    refine hcon.mono ?_
    rintro e w' ⟨rfl, d', n, os, hpi, hso, rfl⟩
    have hd : d'.toList.map Subtype.val = S := sorted_perm Subtype.val (r := fun a b => ptLt a.at_ b.at_) lt_cmpCO (d := L.toArray) (by rw [List.size_toArray]; exact hpi) (by rw [List.size_toArray]; exact hso) hp
      (by unfold SrtC at srt; exact srt.imp (fun {a b} h => ptLt_asymm h))
      (fun a ha b hb h1 h2 => srt.uniq ha hb (ptLt_total h1 h2))
    have hsz : d'.size = L.length := by have := hpi.1; rw [List.size_toArray] at this; exact this
    obtain ⟨ho, fo⟩ := sorted_own coinE 66 hk hh hsz n os
    have hf2 : d'.toList.flatMap coinE = S.flatMap coinC := by rw [← hd, List.flatMap_map]; rfl
    rw [hf2] at ho
    exact ⟨rfl, ho, fo.mono (fun j hj => by rw [hj]; rfl)⟩
end Go.Proofs.Ytoaefhjmpfchiaa
