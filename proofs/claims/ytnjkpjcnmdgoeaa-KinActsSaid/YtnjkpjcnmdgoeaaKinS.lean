/- pappuslaw12: the document's example, plain. -/
import Derived.Test.YtnjkpjcnmdgoeaaKinO
import Derived.Test.YtnjkpjcnmdgoeaaTree
namespace Go.Proofs.Ytnjkpjcnmdgoeaa
open Go Go.RowKit Go.Maps Go.MapKept

theorem ids_new2 (w : World) {x y : HashD} (hx : hashOk x) (hy : hashOk y) : IdsIs (w.alloc (.cells (hashC x ++ hashC y).toArray 30)) (.slice (some ⟨w.heap.size, 0, none⟩) 2 2) [x, y] := by
  refine ⟨fun c hc => ?_, .inl (.inr ⟨w.heap.size, 0, 2, rfl, Nat.le_refl _, by unfold maxLen; omega, fun j u hj => ?_, by simp⟩)⟩
  · simp at hc; rcases hc with rfl | rfl <;> assumption
  · rw [List.flatMap_cons, List.flatMap_cons, List.flatMap_nil, List.append_nil] at hj
    exact range_new w (hashC x ++ hashC y) 30 j u hj
theorem ids_new3 (w : World) {x y z : HashD} (hx : hashOk x) (hy : hashOk y) (hz : hashOk z) : IdsIs (w.alloc (.cells (hashC x ++ (hashC y ++ hashC z)).toArray 30)) (.slice (some ⟨w.heap.size, 0, none⟩) 3 3) [x, y, z] := by
  refine ⟨fun c hc => ?_, .inl (.inr ⟨w.heap.size, 0, 3, rfl, Nat.le_refl _, by unfold maxLen; omega, fun j u hj => ?_, by simp⟩)⟩
  · simp at hc; rcases hc with rfl | rfl | rfl <;> assumption
  · rw [List.flatMap_cons, List.flatMap_cons, List.flatMap_cons, List.flatMap_nil, List.append_nil] at hj
    exact range_new w (hashC x ++ (hashC y ++ hashC z)) 30 j u hj
theorem ids_nil (w : World) : IdsIs w (.slice none 0 0) [] := ⟨by simp, .inl (.inl ⟨rfl, rfl, rfl⟩)⟩
def hA : HashD := 1 :: List.replicate 31 0
def hB : HashD := 2 :: List.replicate 31 0
def hC : HashD := 3 :: List.replicate 31 0
def hD : HashD := 4 :: List.replicate 31 0
theorem okA : hashOk hA := ⟨rfl, by decide⟩
theorem okB : hashOk hB := ⟨rfl, by decide⟩
theorem okC : hashOk hC := ⟨rfl, by decide⟩
theorem okD : hashOk hD := ⟨rfl, by decide⟩
theorem bldA (w : World) : (Instr.build 30 #[(0, .int .u8 1)]).run Try.prog w = .ok (.agg (hashC hA).toArray) w := by kernel_rfl
theorem bldB (w : World) : (Instr.build 30 #[(0, .int .u8 2)]).run Try.prog w = .ok (.agg (hashC hB).toArray) w := by kernel_rfl
theorem bldC (w : World) : (Instr.build 30 #[(0, .int .u8 3)]).run Try.prog w = .ok (.agg (hashC hC).toArray) w := by kernel_rfl
theorem bldD (w : World) : (Instr.build 30 #[(0, .int .u8 4)]).run Try.prog w = .ok (.agg (hashC hD).toArray) w := by kernel_rfl
def gA : List NodeD := addG [] hA []
def gB : List NodeD := addG gA hB [hA]
def gC : List NodeD := addG gB hC [hB, hB]
theorem nAB : hA ≠ hB := by decide
theorem nAC : hA ≠ hC := by decide
theorem nBC : hB ≠ hC := by decide
theorem nDA : hD ≠ hA := by decide
theorem nDB : hD ≠ hB := by decide
theorem nDC : hD ≠ hC := by decide
theorem idsA : ids gA = [hA] := rfl
theorem idsB : ids gB = [hA, hB] := rfl
theorem idsC : ids gC = [hA, hB, hC] := rfl
theorem gokA : GOk gA := addG_ok gok_nil (by simp [ids]) (by simp)
theorem inB : hB ∉ ids gA := by rw [idsA]; simp; exact fun e => nAB e.symm
theorem psB : ∀ p ∈ [hA], p ∈ ids gA := by rw [idsA]; simp
theorem gokB : GOk gB := addG_ok gokA inB psB
theorem inC : hC ∉ ids gB := by rw [idsB]; simp; exact ⟨fun e => nAC e.symm, fun e => nBC e.symm⟩
theorem psC : ∀ p ∈ [hB, hB], p ∈ ids gB := by rw [idsB]; simp
theorem gokC : GOk gC := addG_ok gokB inC psC
theorem inD : hD ∉ ids gC := by rw [idsC]; simp; exact ⟨nDA, nDB, nDC⟩
theorem up_nil {G : List NodeD} : upS G [] = [] := by
  refine List.eq_nil_iff_forall_not_mem.2 fun y hy => ?_
  obtain ⟨a, ha, -⟩ := mem_up.1 hy
  cases ha
theorem eA : addE [] hA [] = 0 := addE_ok (by simp [ids]) (by simp) (by rw [up_nil]; decide)
theorem eB : addE gA hB [hA] = 0 := addE_ok inB psB (by have := up_len (G := gA) [hA]; have e : gA.length = 1 := rfl; omega)
theorem eC : addE gB hC [hB, hB] = 0 := addE_ok inC psC (by have := up_len (G := gB) [hB, hB]; have e : gB.length = 2 := rfl; omega)
theorem eC2 : addE gC hC [] = 10 := addE_there (by rw [idsC]; simp)
theorem eD : addE gC hD [hD] = 9 := addE_none inD ⟨hD, by simp, inD⟩
theorem uA : upS gA [hA] = [hA] := by
  have := up_add_new (G := []) gok_nil (x := hA) (ps := []) (by simp [ids]) (by simp)
  rw [up_nil] at this
  exact this
theorem uBA : upS gB [hA] = [hA] := (up_add_old gokA inB psB (by simp; exact fun e => nAB e.symm)).trans uA
theorem uB : upS gB [hB] = [hA, hB] := by
  have := up_add_new gokA inB psB
  rw [uA] at this
  exact this
theorem uCA : upS gC [hA] = [hA] := (up_add_old gokB inC psC (by simp; exact fun e => nAC e.symm)).trans uBA
theorem uCB : upS gC [hB] = [hA, hB] := (up_add_old gokB inC psC (by simp; exact fun e => nBC e.symm)).trans uB
theorem uC : upS gC [hC] = [hA, hB, hC] := by
  have := up_add_new gokB inC psC
  rw [up_same (l := [hB, hB]) (m := [hB]) (by simp), uB] at this
  exact this
theorem dC : downS gC [hB] = [hB, hC] := by
  refine sub_ids gokC.nd (down_sublist _) (by rw [idsC]; exact List.sublist_cons_self _ _) fun y => ?_
  have hm : ∀ z, z ∈ downS gC [hB] ↔ hB ∈ upS gC [z] := fun z => by rw [mem_down, mem_up]; simp
  rw [hm]
  by_cases h1 : y = hA
  · subst h1
    rw [uCA]
    simp
    exact ⟨fun e => absurd e.symm nAB, fun h => h.elim (fun e => absurd e nAB) (fun e => absurd e nAC)⟩
  · by_cases h2 : y = hB
    · subst h2; rw [uCB]; simp
    · by_cases h3 : y = hC
      · subst h3; rw [uC]; simp
      · have h4 : y ∉ ids gC := by rw [idsC]; simp; exact ⟨h1, h2, h3⟩
        simp only [List.mem_cons, h2, h3, List.not_mem_nil, or_self, iff_false]
        intro h5
        obtain ⟨a, ha, hr⟩ := mem_up.1 h5
        rw [List.mem_singleton.1 ha] at hr
        exact h4 hr.left
theorem liftC : cutL gC [hB] = addG gA hC [] := by rfl
theorem gokL : hC ∉ ids gA := by rw [idsA]; simp; exact fun e => nAC e.symm
theorem uL : upS (cutL gC [hB]) [hC] = [hC] := by
  rw [liftC, up_add_new gokA gokL (by simp), up_nil]
  rfl
/-- The example's state: the graph, and the three ids. -/
structure AlvAt (w0 w : World) (p : Nat) (V : Nat → Prop) (G : List NodeD) (N q0 : Nat) : Prop where
  gc : GC w0 w p V G N
  nv : ∀ j, V j → j < q0 ∨ q0 + 1 + 1 < j
  ra : w.rangeAt q0 0 (hashC hA)
  rb : w.rangeAt (q0 + 1) 0 (hashC hB)
  rc : w.rangeAt (q0 + 1 + 1) 0 (hashC hC)
  sz : q0 + 1 + 1 < w.heap.size
section
variable {w0 w w' : World} {p N N' q0 : Nat} {V V' : Nat → Prop} {G G' : List NodeD}
theorem AlvAt.keep (h : AlvAt w0 w p V G N q0) (f : Fr No w w') : AlvAt w0 w' p V G N q0 :=
  ⟨h.gc.fr0 f, h.nv, range_keep h.ra f id, range_keep h.rb f id, range_keep h.rc f id, Nat.lt_of_lt_of_le h.sz f.size⟩
theorem AlvAt.call (h : AlvAt w0 w p V G N q0) (g : GC w0 w' p V' G' N') (f : Fr V w w') (hV : ∀ j, V' j → V j ∨ w.heap.size ≤ j) : AlvAt w0 w' p V' G' N' q0 := by
  have h1 : ¬ V q0 := fun e => by have := h.nv _ e; omega
  have h2 : ¬ V (q0 + 1) := fun e => by have := h.nv _ e; omega
  have h3 : ¬ V (q0 + 1 + 1) := fun e => by have := h.nv _ e; omega
  exact ⟨g, fun j hj => (hV j hj).elim (h.nv j) (fun e => .inr (by have := h.sz; omega)), range_keep h.ra f h1, range_keep h.rb f h2, range_keep h.rc f h3, Nat.lt_of_lt_of_le h.sz f.size⟩
theorem AlvAt.s (h : AlvAt w0 w p V G N q0) : w.rangeAt q0 0 (hashC hA) ∧ w.rangeAt (q0 + 1) 0 (hashC hB) ∧ w.rangeAt (q0 + 1 + 1) 0 (hashC hC) := ⟨h.ra, h.rb, h.rc⟩
end
end Go.Proofs.Ytnjkpjcnmdgoeaa
