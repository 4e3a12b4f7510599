/- embargo: a clock of the law's own; New, Set. -/
import Derived.Test.YthmaekkjpginoaaDoorEmbD
import Derived.Test.YthmaekkjpginoaaDoorBuild
namespace Go.Proofs.YthmaekkjpginoaaDoor
open Go Go.RowKit Go.Maps Go.MapKept Go.Sort

theorem nodup_sub_len {α : Type} : ∀ {l m : List α}, l.Nodup → (∀ x ∈ l, x ∈ m) → l.length ≤ m.length
  | [], m, _, _ => Nat.zero_le _
  | x :: l, m, hn, hs => by
    obtain ⟨a, b, rfl⟩ := List.append_of_mem (hs x (by simp))
    obtain ⟨h1, h2⟩ := List.nodup_cons.1 hn
    have := nodup_sub_len (m := a ++ b) h2 (fun y hy => by
      have h3 := hs y (by simp [hy])
      simp only [List.mem_append, List.mem_cons] at h3 ⊢
      rcases h3 with h | rfl | h
      · exact .inl h
      · exact absurd hy h1
      · exact .inr h)
    simp at this ⊢
    omega
theorem rep_len {C : List HeldD} {M : List (KeyD × Int)} (h : Rep HeldD.k C M) (hM : (M.map (·.1)).Nodup) : M.length ≤ C.length := by
  have := nodup_sub_len (m := C.map HeldD.k) hM (fun k hk => by
    obtain ⟨⟨k', j⟩, hx, rfl⟩ := List.mem_map.1 hk
    obtain ⟨n, x, _, hx, he⟩ := (h _ _).1 hx
    exact List.mem_map.2 ⟨x, List.mem_of_getElem? hx, he⟩)
  simpa using this

/-- A clock that was made behind w0, as it stands in w; what it holds, in order; how much at most. -/
structure Ck (w0 w : World) (p : Nat) (g : CkG) (S : List HeldD) (N : Nat) : Prop where
  bl : g.bl = p
  at_ : CkAt w g
  heap : HeapOk beforeB g.H
  rep : Rep HeldD.k g.H g.M
  perm : S.Perm g.H
  srt : S.Pairwise (fun a b => beforeB a b = true)
  seq : ∀ h ∈ g.H, h.seq ≤ g.sq
  sq : 0 ≤ g.sq ∧ g.sq ≤ N
  W : ∀ k, g.W k → w0.heap.size ≤ k
  fr : Fr No w0 w
  len : g.H.length ≤ N
theorem Ck.fr0 {w0 w w' : World} {p : Nat} {g : CkG} {S : List HeldD} {N : Nat} (h : Ck w0 w p g S N) (f : Fr No w w') : Ck w0 w' p g S N := { h with at_ := h.at_.keep0 f, fr := h.fr.trans0 f }
theorem Ck.frV {w0 w w' : World} {p : Nat} {g : CkG} {S : List HeldD} {N : Nat} (h : Ck w0 w p g S N) {V : Nat → Prop} (f : Fr V w w') (hW : ∀ k, g.W k → ¬ V k) (h0 : ∀ k, V k → w0.heap.size ≤ k) : Ck w0 w' p g S N :=
  { h with at_ := h.at_.keep f hW, fr := h.fr.trans f (fun i hi e => by have := h0 i e; omega) }
theorem Ck.mlen {w0 w : World} {p : Nat} {g : CkG} {S : List HeldD} {N : Nat} (h : Ck w0 w p g S N) : g.M.length ≤ g.H.length := rep_len h.rep h.at_.hm.nodup
theorem Ck.keys {w0 w : World} {p : Nat} {g : CkG} {S : List HeldD} {N : Nat} (h : Ck w0 w p g S N) : (g.H.map HeldD.k).Nodup := h.rep.nodup h.at_.hm.nodup
theorem Ck.mem {w0 w : World} {p : Nat} {g : CkG} {S : List HeldD} {N : Nat} (h : Ck w0 w p g S N) {x : HeldD} : x ∈ S ↔ x ∈ g.H := h.perm.mem_iff

/-- A step of the clock: what it leaves of all else. -/
structure CStep (w : World) (g : CkG) (w' : World) (g' : CkG) : Prop where
  bl : g'.bl = g.bl
  W : ∀ k, g'.W k → g.W k ∨ w.heap.size ≤ k
  fr : Fr g.W w w'
theorem CStep.refl (w : World) (g : CkG) {w' : World} (f : Fr No w w') : CStep w g w' g := ⟨rfl, fun _ h => .inl h, f.of0⟩
theorem CStep.trans {a b c : World} {g g' g'' : CkG} (h : CStep a g b g') (k : CStep b g' c g'') : CStep a g c g'' :=
  ⟨k.bl.trans h.bl, fun i hi => (k.W i hi).elim (h.W i) (fun e => .inr (Nat.le_trans h.fr.size e)), h.fr.trans k.fr (fun i hi e => (h.W i e).elim id (fun e => by omega))⟩

/-! ### New -/
theorem run_makeMapK (w : World) : (Instr.makeMap 74 none).run Tryd.prog w = .ok (.map (some w.heap.size)) (w.alloc (.map #[] 0)) := by kernel_rfl
def CkG.new (n : Nat) : CkG := ⟨n + 1, n, .slice none 0 0, [], 0, []⟩
theorem new_any (w0 w : World) (f : Fr No w0 w) : Calls Tryd.prog 21 #[] w fun e w' => ∃ p g, e = .returned (.pointer (some ⟨p, 0, none⟩)) ∧ Ck w0 w' p g [] 0 ∧ Fr No w w' ∧ (∀ k, g.W k → w.heap.size ≤ k) := by
  have f1 : Fr No w ((w.alloc (.map #[] 0)).alloc (.cells #[.slice none 0 0, .map (some w.heap.size), .int .i64 0] 76)) := by (repeat (first | with_reducible exact Fr.refl _ _ | with_reducible assumption | with_reducible refine Fr.drew ?_ | with_reducible refine Fr.drewN ?_ _ | with_reducible refine Fr.alloc ?_ _ | with_reducible refine Fr.setCell ?_ _ (.inl (by simp <;> omega)) _))
  have hm : MapIs Tryd.prog 36 keyV intV ((w.alloc (.map #[] 0)).alloc (.cells #[.slice none 0 0, .map (some w.heap.size), .int .i64 0] 76)) w.heap.size [] :=
    (MapIs.made w).keep (W := No) ((Fr.refl _ _).alloc _) id
  have hb := new_obj' (w.alloc (.map #[] 0)) (.cells #[.slice none 0 0, .map (some w.heap.size), .int .i64 0] 76) (n := w.heap.size + 1) (by simp)
  have hW : ∀ k, (CkG.new w.heap.size).W k → w.heap.size ≤ k := by
    rintro k (rfl | rfl | h)
    · show _ ≤ w.heap.size + 1; omega
    · exact Nat.le_refl _
    · cases h
  have hs := f.size
  have FIN : ∃ p g, (Ending.returned (.pointer (some ⟨w.heap.size + 1, 0, none⟩))) = .returned (.pointer (some ⟨p, 0, none⟩)) ∧ Ck w0 ((w.alloc (.map #[] 0)).alloc (.cells #[.slice none 0 0, .map (some w.heap.size), .int .i64 0] 76)) p g [] 0 ∧ Fr No w ((w.alloc (.map #[] 0)).alloc (.cells #[.slice none 0 0, .map (some w.heap.size), .int .i64 0] 76)) ∧ (∀ k, g.W k → w.heap.size ≤ k) :=
    ⟨_, CkG.new w.heap.size, rfl, {
      bl := rfl
      at_ := { hb := hb, hh := World.ownsRow_nil _ _ _ _, hm := hm, ok := fun _ h => (by cases h), n1 := by simp [CkG.new], n2 := by simp [CkG.new, Value.ownBlock], n3 := by simp [CkG.new, Value.ownBlock] }
      heap := fun n x q _ hx _ => by simp [CkG.new] at hx
      rep := fun k j => by simp [CkG.new]
      perm := List.Perm.refl _
      srt := List.Pairwise.nil
      seq := fun _ h => (by cases h)
      sq := ⟨Int.le_refl _, Int.le_refl _⟩
      W := fun k hk => Nat.le_trans hs (hW k hk)
      fr := f.trans0 f1
      len := Nat.le_refl _ }, f1, hW⟩
  have HF := Lib.hid FIN
  clear FIN hm hb hW f1 hs
  have m1 := run_makeMapK
  go_enter Tryd.func21, Tryd.ntmps21
  go_wp2
  go_ret
  exact HF.out

/-! ### Set -/
def insS (S : List HeldD) (x : HeldD) : List HeldD := S.filter (fun y => decide (y.till ≤ x.till)) ++ x :: S.filter (fun y => !decide (y.till ≤ x.till))
theorem insS_perm (S : List HeldD) (x : HeldD) : (insS S x).Perm (x :: S) := by
  unfold insS
  exact List.perm_middle.trans (List.Perm.cons x (List.filter_append_perm _ S))
theorem insS_srt {S : List HeldD} {x : HeldD} (h : S.Pairwise (fun a b => beforeB a b = true)) (hx : ∀ y ∈ S, y.seq < x.seq) : (insS S x).Pairwise (fun a b => beforeB a b = true) := by
  unfold insS
  rw [List.pairwise_append, List.pairwise_cons]
  refine ⟨h.sublist List.filter_sublist, ⟨fun b hb => ?_, h.sublist List.filter_sublist⟩, fun a ha b hb => ?_⟩
  · obtain ⟨h1, h2⟩ := List.mem_filter.1 hb
    rw [before_iff]
    simp at h2
    exact .inl h2
  · obtain ⟨h1, h2⟩ := List.mem_filter.1 ha
    simp at h2
    rw [before_iff]
    rcases List.mem_cons.1 hb with rfl | hb
    · have := hx a h1
      omega
    · obtain ⟨h3, h4⟩ := List.mem_filter.1 hb
      simp at h4
      omega
end Go.Proofs.YthmaekkjpginoaaDoor
