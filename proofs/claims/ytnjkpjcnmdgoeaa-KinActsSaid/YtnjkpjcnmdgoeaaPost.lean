/- From a walk whose world has at most grown by new blocks to a law's row. -/
import Derived.Test.YtnjkpjcnmdgoeaaMem
import Derived.Test.YtnjkpjcnmdgoeaaRows
import Derived.WalkKit
import Derived.ProofKit
import Derived.OpenShut
import Derived.Carry
import Derived.WideKeyArgs
import Derived.Deep.Slices
import Derived.Deep.Fields
import Derived.ChangeSame
namespace Go.Proofs.Ytnjkpjcnmdgoeaa
open Go Go.ChangeShapes Go.WideShapes Go.ChangeAt Go.RowKit Go.Deep

theorem laid : laidOutB Try.prog = true := by kernel_rfl
theorem own : ownKnob Try.prog.godebug = none := by kernel_rfl

section
variable {H : Type} {enc : TypeId × Value → H} {P : Program}
theorem fr_below {w w' : World} (h : Fr No w w') : Below w.heap.size w w' := ⟨h.os, h.tape, h.output, h.size, fun k hk => h.block k hk id⟩

theorem trodAll_still (hl : laidOutB P = true) {W W' : World} (hb : Below W.heap.size W W') {sp : Nat → Bool} : ∀ {ts : List TypeId} {vs : List Value} {ds : List (DataW H)} {ps : List MemPlace},
    (∀ t ∈ ts, P.readableRec t = true ∧ t < P.types.size) → DataW.TrodAll enc P W 0 (fun _ => true) true ts vs ds ps → (∀ p ∈ ps, p.block < W.heap.size) → (∀ p ∈ ps, sp p.block = true) → DataW.TrodAll enc P W' 0 sp true ts vs ds ps
  | [], _, _, _, _, h, _, _ => by
    obtain ⟨rfl, rfl, rfl⟩ := trodAll_nil h
    exact trodAll_mk0
  | t :: ts, _, _, _, hr, h, hlt, hs => by
    obtain ⟨v, vs', d, ds', p, q, rfl, rfl, rfl, h0, h1⟩ := trodAll_cons h
    obtain ⟨r1, r2⟩ := hr t (List.mem_cons_self ..)
    exact trodAll_cons_mk (WideElems.Trod_stays hl r1 r2 h0 (fun x hx => hb.same (hlt x (List.mem_append_left _ hx))) (fun x hx => hs x (List.mem_append_left _ hx)))
      (trodAll_still hl hb (fun t' ht => hr t' (List.mem_cons_of_mem _ ht)) h1 (fun x hx => hlt x (List.mem_append_right _ hx)) (fun x hx => hs x (List.mem_append_right _ hx)))

theorem post_still {f : Func} {s : ChangeSpec} {apart fresh handsOn : Bool} {W W' : World} {args : Array Value} {v : Value} {ds : List (DataW H)} {before : List MemPlace}
    (hl : laidOutB P = true) (hr : ∀ t ∈ f.params.toList, P.readableRec t = true ∧ t < P.types.size) (hv : s.vars = [])
    (hW : DataW.Whole enc P f.params.toList s.vars apart W args.toList ds [] before) (hb : Fr No W W')
    (hres : ∀ (b : Nat) (sp : Nat → Bool) (hd : Bool), DataW.TrodAll enc P W' b sp hd f.resultTypes.toList (v.resultList f.resultTypes.size) (s.fn H (ds ++ [])).results [])
    (hargs : (s.fn H (ds ++ [])).args = ds) (hvs : (s.fn H (ds ++ [])).vars = []) :
    s.post enc P f apart fresh handsOn false W args v W' := by
  have hW' := hW
  obtain ⟨p, q, hA, hV, rfl, hfz, hnd⟩ := hW'
  rw [hv] at hV
  obtain ⟨_, rfl⟩ := trodVars_none hV
  have hold : ∀ x ∈ p, x.block < W.heap.size := fun x hx => by simpa using hW.lt x (List.mem_append_left _ hx)
  refine ⟨ds, [], p ++ [], [], p, [], hW, hres _ _ _, ?_, ?_, World.keptBut_mono (fun x hx => ⟨hx, .inr (by simpa using hx)⟩) ((fr_below hb).frame _), fun h => by cases h⟩
  · rw [hargs]
    exact trodAll_still hl (fr_below hb) hr hA hold (fun x hx => by simpa using hold x hx)
  · rw [hvs, hv]
    exact rfl

theorem cell_none {w : World} {a : Addr} {v : Value} (h : w.cell? a = some v) : a = ⟨a.block, a.off, none⟩ ∧ a.block < w.heap.size := by
  unfold World.cell? at h
  split at h
  · rename_i c x y e
    split at h
    · cases h
    · rename_i hs
      refine ⟨?_, (Array.getElem?_eq_some_iff.1 e).1⟩
      obtain ⟨b, o, s⟩ := a
      cases s <;> simp_all
  · cases h

variable {w : World} {base : Nat} {spare : Nat → Bool} {held : Bool}
theorem open_bytes {t e : TypeId} {fuel : Nat} {v : Value} {x : DataW H × List MemPlace} (ht : P.underlying t = some (.slice e)) (he : P.underlying e = some (.int .u8)) (hc : P.cellsOf e = 1) (h : DataW.trod enc P w base spare held fuel t [v] = some x) :
    ∃ bs : List Int, ArgIs w v bs.length (bs.map byteV) := by
  rcases open_slice1 ht hc h with ⟨h0, _⟩ | ⟨a, len, cap, m, n, V, D, Pl, hcs, hb, hl, hm, hmm, hx, hi⟩
  · simp only [List.cons.injEq, and_true] at h0
    exact ⟨[], .inl (.inl ⟨h0, rfl, rfl⟩)⟩
  · simp only [List.cons.injEq, and_true] at hcs
    have hlm : len ≤ m := by rw [hmm]; split <;> omega
    have hz : ∀ i, i < len → ∃ z : Int, V i = byteV z := fun i hi' => by
      obtain ⟨h1, h2⟩ := hi i (by omega)
      obtain ⟨z, hz, _⟩ := DataW.trod_int he h2
      simp only [List.cons.injEq, and_true] at hz
      exact ⟨z, hz⟩
    by_cases h0 : len = 0
    · subst h0
      exact ⟨[], .inr ⟨a, cap, hcs, rfl, rfl, hm⟩⟩
    · have ha := (cell_none (hi 0 (by omega)).1)
      have ha1 : a = ⟨a.block, a.off, none⟩ := by
        have := congrArg Addr.spot ha.1
        obtain ⟨b, o, s⟩ := a
        simp [Addr.add] at this
        simp [this]
      have hab : a.block < w.heap.size := by simpa [Addr.add] using ha.2
      let zs : List Int := (List.range len).map fun i => if hi' : i < len then Classical.choose (hz i hi') else 0
      have hzl : zs.length = len := by simp [zs]
      refine ⟨zs, .inl (.inr ⟨a.block, a.off, cap, by rw [hzl, hcs, ← ha1], by omega, hm, fun j u hj => ?_, hab⟩)⟩
      have hjl : j < len := by have := (List.getElem?_eq_some_iff.1 hj).1; simpa [hzl] using this
      have hu : u = V j := by
        rw [List.getElem?_map, show zs[j]? = some (Classical.choose (hz j hjl)) by simp [zs, hjl]] at hj
        simp only [Option.map_some, Option.some.injEq] at hj
        rw [← hj]
        exact (Classical.choose_spec (hz j hjl)).symm
      rw [hu, ← (hi j (by omega)).1]
      have e := (congrArg (fun b : Addr => b.add j) ha1).symm
      exact congrArg w.cell? ((show (⟨a.block, a.off + j, none⟩ : Addr) = (⟨a.block, a.off, none⟩ : Addr).add j by simp [Addr.add]).trans e)
end
end Go.Proofs.Ytnjkpjcnmdgoeaa
