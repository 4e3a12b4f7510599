/- internal/bytealg.Compare of two byte rows. -/
import Derived.Test.YtnjkpjcnmdgoeaaCoiP
import Derived.Test.YtnjkpjcnmdgoeaaAgg
import Derived.Lib.Bytealg
import Derived.Sort.Grow
namespace Go
open Go.RowKit Go.Sort

/-- Some draws and new blocks behind w. -/
def GrewBy (w w' : World) : Prop := ∃ q os, w' = grow (w.drewN q) os
theorem GrewBy.refl (w : World) : GrewBy w w := ⟨0, #[], by simp [grow]; rfl⟩
theorem GrewBy.drew {w w' : World} (h : GrewBy w w') : GrewBy w w'.drew := by
  obtain ⟨q, os, rfl⟩ := h
  exact ⟨q + 1, os, rfl⟩
theorem GrewBy.alloc {w w' : World} (h : GrewBy w w') (o : Obj) : GrewBy w (w'.alloc o) := by
  obtain ⟨q, os, rfl⟩ := h
  exact ⟨q, os ++ #[o], by rw [alloc_eq_grow, grow_grow]⟩

def u8 (x : Int) : UInt8 := x.toNat.toUInt8
theorem u8_lt {x y : Int} (hx : 0 ≤ x ∧ x ≤ 255) (hy : 0 ≤ y ∧ y ≤ 255) : u8 x < u8 y ↔ x < y := by
  unfold u8
  rw [UInt8.lt_iff_toNat_lt]
  have e : ∀ z : Int, 0 ≤ z ∧ z ≤ 255 → (z.toNat.toUInt8).toNat = z.toNat := fun z hz => by
    rw [Nat.toUInt8_eq, UInt8.toNat_ofNat']
    exact Nat.mod_eq_of_lt (by omega)
  rw [e x hx, e y hy]
  omega
theorem compare_u8 : ∀ {a b : List Int}, (∀ x ∈ a, 0 ≤ x ∧ x ≤ 255) → (∀ x ∈ b, 0 ≤ x ∧ x ≤ 255) → Lib.compareBytes (a.map u8) (b.map u8) = cmpI a b
  | [], [], _, _ => rfl
  | [], _ :: _, _, _ => rfl
  | _ :: _, [], _, _ => rfl
  | x :: a, y :: b, ha, hb => by
    have h1 := u8_lt (ha x (by simp)) (hb y (by simp))
    have h2 := u8_lt (hb y (by simp)) (ha x (by simp))
    simp only [List.map_cons, Lib.compareBytes, cmpI, h1, h2]
    rw [compare_u8 (fun z hz => ha z (by simp [hz])) (fun z hz => hb z (by simp [hz]))]

theorem run_loadBytes {P : Program} {w : World} {b : Nat} : ∀ (l : List Int) (o : Nat) (acc : ByteArray), w.rangeAt b o (l.map byteV) →
    (Extern.Bytes.loadBytes ⟨b, o, none⟩ l.length acc).run P w = .ok (l.foldl (fun a x => a.push (u8 x)) acc) w
  | [], o, acc, _ => rfl
  | x :: l, o, acc, h => by
    have h0 := h 0 (byteV x) rfl
    rw [Nat.add_zero] at h0
    have h1 : w.rangeAt b (o + 1) (l.map byteV) := fun j v hj => by
      have := h (j + 1) v (by simpa using hj)
      rw [show o + (j + 1) = o + 1 + j by omega] at this
      exact this
    have ih := run_loadBytes (P := P) l (o + 1) (acc.push (u8 x)) h1
    have hadd : (⟨b, o, none⟩ : Addr).add 1 = ⟨b, o + 1, none⟩ := by unfold Addr.add; split <;> simp_all
    show (Sem.run P (do match ← load ⟨b, o, none⟩ with | .int .u8 b' => Extern.Bytes.loadBytes ((⟨b, o, none⟩ : Addr).add 1) l.length (acc.push b'.toNat.toUInt8) | _ => stuck "loadBytes: a byte expected") w) = _
    rw [Sem.run_bind, run_load]
    simp only [h0, byteV, Result.andThen, hadd]
    exact ih
theorem push_list : ∀ (l : List Int) (acc : ByteArray), (l.foldl (fun a x => a.push (u8 x)) acc).data.toList = acc.data.toList ++ l.map u8
  | [], acc => by simp
  | x :: l, acc => by
    rw [List.foldl_cons, push_list l]
    simp
theorem run_compareSl {P : Program} {w : World} {b1 o1 c1 b2 o2 c2 : Nat} {la lb : List Int} (h1 : w.rangeAt b1 o1 (la.map byteV)) (h2 : w.rangeAt b2 o2 (lb.map byteV)) (ha : ∀ x ∈ la, 0 ≤ x ∧ x ≤ 255) (hb : ∀ x ∈ lb, 0 ≤ x ∧ x ≤ 255) :
    (Extern.BytealgCompare.compare #[.slice (some ⟨b1, o1, none⟩) la.length c1, .slice (some ⟨b2, o2, none⟩) lb.length c2]).run P w = .ok (.int .i64 (cmpI la lb)) w := by
  change Sem.run P (do pure (goInt (Extern.BytealgCompare.cmp (← Extern.Bytes.loadBytes ⟨b1, o1, none⟩ la.length .empty) (← Extern.Bytes.loadBytes ⟨b2, o2, none⟩ lb.length .empty)))) w = _
  simp only [Sem.run_bind, run_loadBytes la o1 _ h1, run_loadBytes lb o2 _ h2, Result.andThen, Sem.run_pure]
  rw [Lib.cmp_eq, push_list, push_list]
  have e : (ByteArray.empty).data.toList = [] := rfl
  rw [e, List.nil_append, List.nil_append, compare_u8 ha hb]
  rfl
end Go
