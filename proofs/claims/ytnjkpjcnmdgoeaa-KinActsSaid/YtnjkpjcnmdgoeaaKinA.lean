/- Hashes and nodes in memory. -/
import Derived.Test.YtnjkpjcnmdgoeaaProg
import Derived.Test.YtnjkpjcnmdgoeaaEqN
import Derived.Test.YtnjkpjcnmdgoeaaKinP
import Derived.Test.YtnjkpjcnmdgoeaaBuild
import Derived.Test.YtnjkpjcnmdgoeaaIterK
import Derived.Lib.Hide
import Derived.Outline
namespace Go.Proofs.Ytnjkpjcnmdgoeaa
open Go Go.RowKit Go.Maps Go.MapKept

theorem laidOutK : laidOutB Try.prog = true := by kernel_rfl
theorem wfK_8 {x : Int} (h : 0 ≤ x ∧ x ≤ 255) : (Lit.int .u8 x).wf = true := by
  simp [Lit.wf, IntKind.min, IntKind.max, IntKind.signed, IntKind.bits]
  omega
theorem byteK_inj : ∀ {a b : List Int}, a.map byteV = b.map byteV → a = b
  | [], [], _ => rfl
  | [], _ :: _, h => by simp at h
  | _ :: _, [], h => by simp at h
  | x :: a, y :: b, h => by
    simp only [List.map_cons, List.cons.injEq, byteV, Value.int.injEq, true_and] at h
    rw [h.1, byteK_inj h.2]
def hashC (h : HashD) : List Value := h.map byteV
def hashV (h : HashD) : Value := .agg (hashC h).toArray
theorem hashC_len {h : HashD} (k : hashOk h) : (hashC h).length = 32 := by simp [hashC, k.1]
theorem hashC_one {h : HashD} : ∀ v ∈ hashC h, v.oneCell' = true := by
  intro v hv
  obtain ⟨y, _, rfl⟩ := List.mem_map.1 hv
  rfl
theorem hashC_inj {a b : HashD} (h : hashC a = hashC b) : a = b := byteK_inj h
theorem hashV_inj {a b : HashD} (h : hashV a = hashV b) : a = b := by
  unfold hashV at h
  injection h with h
  exact hashC_inj (by simpa using congrArg Array.toList h)
theorem undHash : Try.prog.underlying 30 = some (.array 32 5) := by kernel_rfl
theorem keyOfHash {h : HashD} (k : hashOk h) : ∃ l, keyOf Try.prog 30 (hashV h) = some l :=
  keyOf_array undHash (by kernel_rfl) (by kernel_rfl) (by kernel_rfl) (by kernel_rfl) (of_decide_eq_true (by kernel_rfl)) h k.1 (fun x hx => wfK_8 (k.2 x hx))
theorem eqHash : EqN Try.prog 30 := ⟨Keyed.of_law (deep_law_laid laidOutK (m := 2) (by decide) (of_decide_eq_true (by kernel_rfl)) (by kernel_rfl) (by kernel_rfl)), ⟨2, by decide, by kernel_rfl⟩, by kernel_rfl, by kernel_rfl⟩
theorem descHash : ∃ d, Try.prog.underlying 30 = some d ∧ d.isRow = true := row_of (by kernel_rfl)
theorem infoHash : (Try.prog.info? 30).map (·.size) = some 32 := by kernel_rfl
def hash0 : HashD := List.replicate 32 0
theorem hash0_ok : hashOk hash0 := ⟨rfl, fun x hx => by have : x = 0 := List.eq_of_mem_replicate hx; omega⟩
theorem undIds : Try.prog.underlying 27 = some (.slice 30) := by kernel_rfl
theorem infoHashZ : (Try.prog.info? 30).map (fun i => (i.zero, i.size, i.bytes)) = some (some (.agg (hashC hash0).toArray), 32, 32) := by kernel_rfl
theorem infoHashZ2 : (Try.prog.info? 30).map (fun i => (i.zero, i.size)) = some (some (.agg (hashC hash0).toArray), 32) := by kernel_rfl
theorem zeroHash (w : World) : (zeroValue 30).run Try.prog w = .ok (.agg (hashC hash0).toArray) w := by kernel_rfl
/-- A slice of ids. -/
def IdsIs (w : World) (v : Value) (l : List HashD) : Prop := (∀ c ∈ l, hashOk c) ∧ ArgIs w v l.length (l.flatMap hashC)
theorem IdsIs.keep {w w' : World} {v : Value} {l : List HashD} (h : IdsIs w v l) (f : Fr No w w') : IdsIs w' v l := ⟨h.1, h.2.keep f⟩
theorem IdsIs.at_ {w : World} {v : Value} {l : List HashD} (h : IdsIs w v l) {i : Nat} {c : HashD} (hx : l[i]? = some c) : ∃ b off cap, v = .slice (some ⟨b, off, none⟩) l.length cap ∧ w.rangeAt b (off + i * 32) (hashC c) ∧ b < w.heap.size :=
  h.2.elem (by decide) (fun x hx => hashC_len (h.1 x hx)) hx
theorem ids_flat_len {l : List HashD} (ok : ∀ c ∈ l, hashOk c) : (l.flatMap hashC).length = l.length * 32 := flatR_len hashC 32 l (fun x hx => hashC_len (ok x hx))
theorem ids_flat_one {l : List HashD} : ∀ u ∈ l.flatMap hashC, u.oneCell' = true := fun u hu => by
  obtain ⟨x, _, hx⟩ := List.mem_flatMap.1 hu
  exact hashC_one u hx
theorem IdsIs.own {w : World} {B : Nat} {v : Value} {l : List HashD} (h : w.ownsRow B 30 32 v l.length (l.flatMap hashC)) (ok : ∀ c ∈ l, hashOk c) : IdsIs w v l := ⟨ok, h.slice.arg⟩
theorem undGraphMap : Try.prog.underlying 53 = some (.map 30 59) := by kernel_rfl
theorem undInMap : Try.prog.underlying 52 = some (.map 30 3) := by kernel_rfl
theorem zeroIn (w : World) : (zeroValue 3).run Try.prog w = .ok (.int .i64 0) w := by kernel_rfl
theorem zeroNode (w : World) : (zeroValue 59).run Try.prog w = .ok (.pointer none) w := by kernel_rfl
theorem ArgIs.cap {w : World} {a : Option Addr} {n c : Nat} {cs : List Value} (h : ArgIs w (.slice a n c) n cs) : n ≤ c := by
  rcases h with (⟨e, rfl, -⟩ | ⟨b, off, cap, e, h1, -⟩) | ⟨a', cap, e, rfl, -⟩
  · exact Nat.zero_le _
  · injection e with _ _ e3; subst e3; exact h1
  · exact Nat.zero_le _
end Go.Proofs.Ytnjkpjcnmdgoeaa
