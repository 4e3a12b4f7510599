/- From a walk whose world has at most grown by new blocks to a law's row. -/
import Derived.Test.YtdkkjchclkjleaaGreatDoorRows
import Derived.WalkKit
import Derived.ProofKit
import Derived.OpenShut
import Derived.Carry
import Derived.WideKeyArgs
import Derived.Deep.Slices
import Derived.Deep.Fields
import Derived.ChangeSame
import Derived.LaidMore
import Derived.Stop.Joined
import Derived.Test.YtdkkjchclkjleaaGreatDoorSG1
import Derived.Test.YtdkkjchclkjleaaGreatDoorSG11
import Derived.Test.YtdkkjchclkjleaaGreatDoorSG3
import Derived.Test.YtdkkjchclkjleaaGreatDoorSG9
set_option linter.unusedVariables false
set_option linter.unusedSimpArgs false
set_option linter.unnecessarySimpa false
set_option linter.all false
namespace Go.Proofs.YtdkkjchclkjleaaGreatDoor
open Go Go.ChangeShapes Go.WideShapes Go.ChangeAt Go.RowKit Go.Deep
theorem laid : laidOutB Tryz.prog = true := by kernel_rfl
theorem own : ownKnob Tryz.prog.godebug = none := by kernel_rfl
section
variable {H : Type} {enc : TypeId × Value → H} {P : Program}
theorem zc3 {w w' : World} (h : Fr No w w') : Below w.heap.size w w' := ⟨h.os, h.tape, h.output, h.size, fun k hk => h.block k hk id⟩
theorem YH (hl : laidOutB P = true) {W W' : World} (hb : Below W.heap.size W W') {sp : Nat → Bool} : ∀ {ts : List TypeId} {vs : List Value} {ds : List (DataW H)} {ps : List MemPlace},
  (∀ t ∈ ts, P.readableRec t = true ∧ t < P.types.size) → DataW.TrodAll enc P W 0 (fun _ => true) true ts vs ds ps → (∀ p ∈ ps, p.block < W.heap.size) → (∀ p ∈ ps, sp p.block = true) → DataW.TrodAll enc P W' 0 sp true ts vs ds ps
 | [], _, _, _, _, h, _, _ => by
  obtain ⟨rfl, rfl, rfl⟩ := trodAll_nil h
  exact trodAll_mk0
 | t :: ts, _, _, _, hr, h, hlt, hs => by
  obtain ⟨v, vs', d, ds', p, q, rfl, rfl, rfl, h0, h1⟩ := trodAll_cons h
  obtain ⟨r1, r2⟩ := hr t (List.mem_cons_self ..)
  exact trodAll_cons_mk (WideElems.Trod_stays hl r1 r2 h0 (fun x hx => hb.same (hlt x (List.mem_append_left _ hx))) (fun x hx => hs x (List.mem_append_left _ hx)))
   (YH hl hb (fun t' ht => hr t' (List.mem_cons_of_mem _ ht)) h1 (fun x hx => hlt x (List.mem_append_right _ hx)) (fun x hx => hs x (List.mem_append_right _ hx)))
theorem zdq {f : Func} {s : ChangeSpec} {apart fresh handsOn : Bool} {W W' : World} {args : Array Value} {v : Value} {ds : List (DataW H)} {before : List MemPlace}
  (hl : laidOutB P = true) (hr : ∀ t ∈ f.params.toList, P.readableRec t = true ∧ t < P.types.size) (hv : s.vars = [])
  (hW : DataW.Whole enc P f.params.toList s.vars apart W args.toList ds [] before) (hb : Fr No W W')
  (hres : ∀ (b : Nat) (sp : Nat → Bool) (hd : Bool), DataW.TrodAll enc P W' b sp hd f.resultTypes.toList (v.resultList f.resultTypes.size) (s.fn H (ds ++ [])).results [])
  (hargs : (s.fn H (ds ++ [])).args = ds) (hvs : (s.fn H (ds ++ [])).vars = []) :
  s.post enc P f apart fresh handsOn false W args v W' := by
 have hW' := hW
 obtain ⟨p, q, hA, hV, rfl, hfz, hnd⟩ := hW'
 rw [hv] at hV
 obtain ⟨_, rfl⟩ := trodVars_none hV
 have hold : ∀ x ∈ p, x.block < W.heap.size := fun x hx => by simpa using hW.lt x (List.mem_append_left _ hx)
 refine ⟨ds, [], p ++ [], [], p, [], hW, hres _ _ _, ?_, ?_, World.keptBut_mono (fun x hx => ⟨hx, .inr (by simpa using hx)⟩) ((zc3 hb).frame _), fun h => by cases h⟩
 ·rw [hargs]
  exact YH hl (zc3 hb) hr hA hold (fun x hx => by simpa using hold x hx)
 ·rw [hvs, hv]
  exact rfl
theorem XT {w : World} {a : Addr} {v : Value} (h : w.cell? a = some v) : a = ⟨a.block, a.off, none⟩ ∧ a.block < w.heap.size := by
 unfold World.cell? at h
 split at h
 ·rename_i c x y e
  split at h
  ·cases h
  ·rename_i hs
   refine ⟨?_, (Array.getElem?_eq_some_iff.1 e).1⟩
   obtain ⟨b, o, s⟩ := a
   cases s <;> simp_all
 ·cases h
variable {w : World} {base : Nat} {spare : Nat → Bool} {held : Bool}
end
end Go.Proofs.YtdkkjchclkjleaaGreatDoor

/- The sums' two tables as the row's premise lays them; the door's own heap meets the premise. -/
namespace Go.Proofs.YtdkkjchclkjleaaGreatDoor
open Go Go.ChangeShapes Go.WideShapes Go.ChangeAt Go.WideMaps Go.WideElems Go.RowKit
def zcO : List (String × DataW Unit) := [("pappus/sha.constants", Rows.laid_pappus_sha_constants), ("pappus/sha.first", Rows.laid_pappus_sha_first)]
theorem gK : Tryz.prog.globalNamed "pappus/sha.constants" = some 3 := by kernel_rfl
theorem tK : (Tryz.prog.globals[3]?).map (·.type) = some 312 := by kernel_rfl
theorem gI : Tryz.prog.globalNamed "pappus/sha.first" = some 0 := by kernel_rfl
theorem tI : (Tryz.prog.globals[0]?).map (·.type) = some 267 := by kernel_rfl
theorem zg8 (os : Os) (args : Array Value) : laidMetH Tryz.prog zcO ((World.doorLaid Tryz.prog 400 os).forCall (fun _ _ => 0) ⟨#[], args, []⟩).memory :=
 laidMetH_of_parts3 (fuel := 8) (laidMet_of_run' 8 (by kernel_rfl) (by kernel_rfl)) (by kernel_rfl) (by kernel_rfl)
theorem zhc {W : World} {g n : Nat} {T : TypeId} {cs0 : List Value} {f0 : Nat} {tb : List Int} {fz : Nat → Bool} {pl : List MemPlace} {b0 : Nat} {hld : Bool} {enc : TypeId × Value → Unit} (hT : Tryz.prog.underlying T = some (.array n 31)) (hv : ∀ j, W.cell? ⟨g, j, none⟩ = cs0[j]?) (hd : DataW.trod enc Tryz.prog W b0 fz hld f0 T cs0 = some (.agg (tb.map fun x => DataW.lit (.int .u32 x)), pl)) (hn : tb.length = n) :
  ∀ (j : Nat) (x : Int), tb[j]? = some x → W.cell? ⟨g, j, none⟩ = some (.int .u32 x) := by
 obtain ⟨xs, m1, hx0, hx1, hlen, hn3, hel⟩ := DataW.trod_array hT hd
 have c8 : Tryz.prog.cellsOf 31 = 1 := by kernel_rfl
 rw [c8] at hel
 have hT2 : (tb.map fun x => DataW.lit (H := Unit) (.int .u32 x)) = xs.map (·.1) := by
  have e := congrArg Prod.fst hx1
  exact DataW.agg.inj e
 intro j x hj
 have hjl : j < n := by rw [← hn]; exact (List.getElem?_eq_some_iff.1 hj).1
 have e := congrArg (·[j]?) hT2
 simp only [List.getElem?_map, hj, Option.map_some] at e
 cases hy : xs[j]? with
 | none => rw [hy] at e; cases e
 | some y =>
  rw [hy] at e
  have h0 := hel j hjl
  rw [hy] at h0
  obtain ⟨k, e1, e2, _⟩ := DataW.trod_int Tryz.underlying31 h0
  simp only [Option.map_some, Option.some.injEq] at e
  rw [e2] at e
  have hk : x = k := by simpa using e
  subst hk
  have := congrArg (·[0]?) e1
  simp at this
  rw [hv j]
  simpa using this
theorem zjo : Rows.laid_pappus_sha_constants (H := Unit) = .agg (zfm.map fun x => DataW.lit (.int .u32 x)) := by kernel_rfl
theorem zjn : Rows.laid_pappus_sha_first (H := Unit) = .agg (zfv.map fun x => DataW.lit (.int .u32 x)) := by kernel_rfl
theorem zhA {W : World} (h : laidMetH Tryz.prog zcO W) : Jx W := by
 rw [MakeChecks.laidMetH_plain _ _ _ (by kernel_rfl)] at h
 obtain ⟨ps, ⟨g0, t0, cs0, f0, p0, q0, hg0, ht0, hv0, hd0, ⟨g1, t1, cs1, f1, p1, q1, hg1, ht1, hv1, hd1, _, _⟩, _⟩, _, _⟩ := h
 obtain rfl := Option.some.inj (gK.symm.trans hg0)
 obtain rfl := Option.some.inj (tK.symm.trans ht0)
 obtain rfl := Option.some.inj (gI.symm.trans hg1)
 obtain rfl := Option.some.inj (tI.symm.trans ht1)
 rw [zjo] at hd0
 rw [zjn] at hd1
 have K := zhc (g := 3) Tryz.underlying312 (fun j => by rw [Array.getElem?_toList]; exact World.var?_cell hg0 hv0 j) hd0 rfl
 have I := zhc (g := 0) Tryz.underlying267 (fun j => by rw [Array.getElem?_toList]; exact World.var?_cell hg1 hv1 j) hd1 rfl
 exact ⟨⟨K, I⟩, (XT (K 0 _ rfl)).2⟩
end Go.Proofs.YtdkkjchclkjleaaGreatDoor

/- Arguments opened: rows of elements that hold no pointer. -/
namespace Go.Proofs.YtdkkjchclkjleaaGreatDoor
open Go Go.RowKit Go.ChangeShapes Go.WideShapes Go.Deep
theorem Zt {b o k : Nat} : (⟨b, o, none⟩ : Addr).add k = ⟨b, o + k, none⟩ := by
 unfold Addr.add
 split
 ·subst_vars; rfl
 ·rfl
theorem YU {α : Type} {n : Nat} {p : Nat → α → Prop} (h : ∀ i, i < n → ∃ a, p i a) : ∃ L : List α, L.length = n ∧ ∀ i a, L[i]? = some a → p i a := by
 induction n with
 | zero => exact ⟨[], rfl, fun i a h => by simp at h⟩
 | succ n ih =>
  obtain ⟨L, hL, hp⟩ := ih (fun i hi => h i (by omega))
  obtain ⟨a, ha⟩ := h n (by omega)
  refine ⟨L ++ [a], by simp [hL], fun i x hx => ?_⟩
  by_cases hi : i < n
  ·rw [List.getElem?_append_left (by omega)] at hx; exact hp i x hx
  ·have : i = n := by have := (List.getElem?_eq_some_iff.1 hx).1; simp at this; omega
   subst this
   rw [List.getElem?_append_right (by omega)] at hx
   simp [hL] at hx
   exact hx ▸ ha
section
variable {H : Type} {enc : TypeId × Value → H} {P : Program} {w : World} {base : Nat} {spare : Nat → Bool} {held : Bool}
theorem zdr {t e : TypeId} {n fuel : Nat} {cs : List Value} {x : DataW H × List MemPlace} (ht : P.underlying t = some (.array n e)) (hct : P.cellsOf t = n) (hc : P.cellsOf e = 1) (he : P.underlying e = some (.int .u8))
  (h : DataW.trod enc P w base spare held fuel t cs = some x) : ∃ l : List Int, l.length = n ∧ (∀ y ∈ l, 0 ≤ y ∧ y ≤ 255) ∧ cs = l.map (Value.int .u8) := by
 obtain ⟨xs, m, _, _, hl, hxl, hi⟩ := DataW.trod_array ht h
 obtain ⟨l, hll, hp⟩ := YU (n := n) (p := fun i (y : Int) => cs[i]? = some (.int .u8 y) ∧ 0 ≤ y ∧ y ≤ 255) (fun i hin => by
  have h1 := hi i hin
  rw [hc, List.getElem?_eq_getElem (by omega)] at h1
  obtain ⟨y, hy, _, hw⟩ := DataW.trod_int he h1
  have e1 : IntKind.u8.min = 0 := rfl
  have e2 : IntKind.u8.max = 255 := rfl
  simp [Lit.wf, e1, e2] at hw
  refine ⟨y, ?_, hw.1, hw.2⟩
  rw [Nat.mul_one] at hy
  have hcl : i < cs.length := by omega
  rw [List.drop_eq_getElem_cons hcl] at hy
  simp only [List.take_succ_cons, List.take_zero, List.cons.injEq, and_true] at hy
  rw [List.getElem?_eq_getElem hcl, hy])
 refine ⟨l, hll, fun y hy => ?_, ?_⟩
 ·obtain ⟨i, hi⟩ := List.mem_iff_getElem?.1 hy
  exact (hp i y hi).2
 ·apply List.ext_getElem?
  intro i
  by_cases hin : i < n
  ·have h1 : l[i]? = some (l[i]'(by omega)) := List.getElem?_eq_getElem (by omega)
   rw [(hp i _ h1).1, List.getElem?_map, h1]
   rfl
  ·rw [List.getElem?_eq_none (by omega), List.getElem?_eq_none (by simp; omega)]
theorem zaI {t e : TypeId} {k fuel : Nat} {α : Type} {f : α → List Value} {ok : α → Prop} {v : Value} {x : DataW H × List MemPlace} (ht : P.underlying t = some (.slice e)) (hC : P.cellsOf e = k) (k0 : 0 < k) (hk : ∀ a, ok a → (f a).length = k)
  (hel : ∀ (fuel : Nat) (cs : List Value) (x : DataW H × List MemPlace), DataW.trod enc P w base spare held fuel e cs = some x → ∃ a, ok a ∧ cs = f a)
  (h : DataW.trod enc P w base spare held fuel t [v] = some x) : ∃ L : List α, (∀ a ∈ L, ok a) ∧ xq w v L.length (L.flatMap f) := by
 rcases open_slice ht h with ⟨e0, _⟩ | ⟨a, len, cap, m, n, D, Pl, hcs, hb, hl, hm, hmm, hx, hi⟩
 ·simp only [List.cons.injEq, and_true] at e0
  exact ⟨[], (fun a ha => by cases ha), .inl (.inl ⟨e0, rfl, rfl⟩)⟩
 ·simp only [List.cons.injEq, and_true] at hcs
  rw [hC] at hi
  have hlm : len ≤ m := by rw [hmm]; split <;> omega
  by_cases hl0 : len = 0
  ·subst hl0
   exact ⟨[], (fun a ha => by cases ha), .inr ⟨a, cap, hcs, rfl, rfl, hm⟩⟩
  have hs : a.spot = none ∧ a.block < w.heap.size := by
   obtain ⟨cs', hc, ht'⟩ := hi 0 (by omega)
   obtain ⟨y, hy, rfl⟩ := hel _ _ _ ht'
   obtain ⟨_, hcl, hat⟩ := World.cells?_some hc
   have h1 := hat 0 k0
   rw [List.getElem?_eq_getElem (by rw [hk y hy]; exact k0)] at h1
   have c := XT h1
   rw [Nat.zero_mul] at c
   exact ⟨by simpa [Addr.add] using congrArg Addr.spot c.1, by simpa [Addr.add] using c.2⟩
  obtain ⟨ab, ao, asp⟩ := a
  obtain ⟨rfl, hbl⟩ := hs
  obtain ⟨L, hL, hp⟩ := YU (n := len) (p := fun i (y : α) => ok y ∧ w.rangeAt ab (ao + i * k) (f y)) (fun i hil => by
   obtain ⟨cs', hc, ht'⟩ := hi i (by omega)
   obtain ⟨y, hy, rfl⟩ := hel _ _ _ ht'
   obtain ⟨_, hcl, hat⟩ := World.cells?_some hc
   refine ⟨y, hy, fun j u hj => ?_⟩
   have hjl : j < k := by have := (List.getElem?_eq_some_iff.1 hj).1; rw [hk y hy] at this; exact this
   have h1 := hat j hjl
   rw [Zt, Zt] at h1
   rw [h1]
   exact hj)
  have hok : ∀ a ∈ L, ok a := fun a ha => by
   obtain ⟨i, hi⟩ := List.mem_iff_getElem?.1 ha
   exact (hp i a hi).1
  refine ⟨L, hok, .inl (.inr ⟨ab, ao, cap, by rw [hL]; exact hcs, by omega, hm, fun j u hj => ?_, hbl⟩)⟩
  have hjl : j < L.length * k := by
   have := (List.getElem?_eq_some_iff.1 hj).1
   rwa [xL f k L (fun a ha => hk a (hok a ha))] at this
  have hq : j / k < L.length := Nat.div_lt_of_lt_mul (by rw [Nat.mul_comm]; exact hjl)
  have hr : j % k < k := Nat.mod_lt _ k0
  have h2 := Ju f k L (fun a ha => hk a (hok a ha)) (j / k) L[j / k] (List.getElem?_eq_getElem hq) (j % k) hr
  rw [Nat.div_add_mod' j k, hj] at h2
  have h3 := (hp (j / k) _ (List.getElem?_eq_getElem hq)).2 (j % k) u h2.symm
  rw [show ao + j / k * k + j % k = ao + (j / k * k + j % k) by omega, Nat.div_add_mod' j k] at h3
  exact h3
end
end Go.Proofs.YtdkkjchclkjleaaGreatDoor

/- Rows opened whose elements hold slices: each element's cells, and what is said of them. -/
namespace Go.Proofs.YtdkkjchclkjleaaGreatDoor
open Go Go.RowKit Go.ChangeShapes Go.WideShapes Go.Deep
section
variable {H : Type} {enc : TypeId × Value → H} {P : Program} {w : World} {base : Nat} {spare : Nat → Bool} {held : Bool}
theorem zaY {t e : TypeId} {k fuel : Nat} {α : Type} {q : α → List Value → Prop} {v : Value} {x : DataW H × List MemPlace} (ht : P.underlying t = some (.slice e)) (hC : P.cellsOf e = k) (k0 : 0 < k) (hk : ∀ a cs, q a cs → cs.length = k)
  (hel : ∀ (fuel : Nat) (cs : List Value) (x : DataW H × List MemPlace), DataW.trod enc P w base spare held fuel e cs = some x → ∃ a, q a cs)
  (h : DataW.trod enc P w base spare held fuel t [v] = some x) : ∃ (L : List α) (va : Option Addr) (vc : Nat), v = .slice va L.length vc ∧ L.length ≤ maxLen ∧ ∀ (i : Nat) (d : α), L[i]? = some d → ∃ b off cs, va = some ⟨b, off, none⟩ ∧ w.rangeAt b (off + i * k) cs ∧ q d cs := by
 rcases open_slice ht h with ⟨e0, _⟩ | ⟨a, len, cap, m, n, D, Pl, hcs, hb, hl, hm, hmm, hx, hi⟩
 ·simp only [List.cons.injEq, and_true] at e0
  exact ⟨[], none, 0, e0, Nat.zero_le _, fun i d hd => by simp at hd⟩
 ·simp only [List.cons.injEq, and_true] at hcs
  rw [hC] at hi
  have hlm : len ≤ m := by rw [hmm]; split <;> omega
  by_cases hl0 : len = 0
  ·subst hl0
   exact ⟨[], some a, cap, hcs, Nat.zero_le _, fun i d hd => by simp at hd⟩
  have hs : a.spot = none := by
   obtain ⟨cs', hc, ht'⟩ := hi 0 (by omega)
   obtain ⟨y, hy⟩ := hel _ _ _ ht'
   obtain ⟨_, hcl, hat⟩ := World.cells?_some hc
   have h1 := hat 0 k0
   rw [List.getElem?_eq_getElem (by rw [hk y _ hy]; exact k0)] at h1
   have c := XT h1
   rw [Nat.zero_mul] at c
   simpa [Addr.add] using congrArg Addr.spot c.1
  obtain ⟨ab, ao, asp⟩ := a
  obtain rfl : asp = none := hs
  obtain ⟨L, hL, hp⟩ := YU (n := len) (p := fun i (y : α) => ∃ b off cs, (some ⟨ab, ao, none⟩ : Option Addr) = some ⟨b, off, none⟩ ∧ w.rangeAt b (off + i * k) cs ∧ q y cs) (fun i hil => by
   obtain ⟨cs', hc, ht'⟩ := hi i (by omega)
   obtain ⟨y, hy⟩ := hel _ _ _ ht'
   obtain ⟨_, hcl, hat⟩ := World.cells?_some hc
   refine ⟨y, ab, ao, cs', rfl, fun j u hj => ?_, hy⟩
   have hjl : j < k := by have := (List.getElem?_eq_some_iff.1 hj).1; rw [hk y _ hy] at this; exact this
   have h1 := hat j hjl
   rw [hj, Zt, Zt] at h1
   exact h1)
  exact ⟨L, some ⟨ab, ao, none⟩, cap, by rw [hL]; exact hcs, by omega, hp⟩
end
end Go.Proofs.YtdkkjchclkjleaaGreatDoor

/- Coins, points opened. -/
namespace Go.Proofs.YtdkkjchclkjleaaGreatDoor
open Go Go.RowKit Go.ChangeShapes Go.WideShapes Go.Deep
section
variable {H : Type} {enc : TypeId × Value → H} {w : World} {base : Nat} {spare : Nat → Bool} {held : Bool}
theorem zhY {n : Int} (h : (Lit.int .u32 n).wf = true) : 0 ≤ n ∧ n ≤ 4294967295 := by
 simp [Lit.wf, IntKind.min, IntKind.max, IntKind.signed, IntKind.bits] at h
 omega
theorem zh5 {n : Int} (h : (Lit.int .u64 n).wf = true) : 0 ≤ n ∧ n ≤ 18446744073709551615 := by
 simp [Lit.wf, IntKind.min, IntKind.max, IntKind.signed, IntKind.bits] at h
 omega
theorem zae {fuel : Nat} {cs : List Value} {x : DataW H × List MemPlace} (h : DataW.trod enc Tryz.prog w base spare held fuel 41 cs = some x) : ∃ l : List Int, zQ l ∧ cs = l.map zP := by
 have cH : Tryz.prog.cellsOf 41 = 32 := by kernel_rfl
 have cB : Tryz.prog.cellsOf 5 = 1 := by kernel_rfl
 obtain ⟨l, hll, hlb, e1⟩ := zdr Tryz.underlying41 cH cB Tryz.underlying5 h
 exact ⟨l, ⟨hll, hlb⟩, e1⟩
set_option maxRecDepth 20000 in
theorem zcG {fuel : Nat} {cs : List Value} {x : DataW H × List MemPlace} (h : DataW.trod enc Tryz.prog w base spare held fuel 95 cs = some x) : ∃ p : zF, p.ok ∧ cs = zB p := by
 have cH : Tryz.prog.cellsOf 41 = 32 := by kernel_rfl
 have cP : Tryz.prog.cellsOf 95 = 33 := by kernel_rfl
 have cU : Tryz.prog.cellsOf 31 = 1 := by kernel_rfl
 obtain ⟨ys, n, _, _, hl, hyl, hf⟩ := DataW.trod_struct Tryz.underlying95 h
 have g0 : DataW.trod enc Tryz.prog w base spare held n 41 ((cs.drop 0).take (Tryz.prog.cellsOf 41)) = ys[0]? := hf 0 _ rfl
 have g1 : DataW.trod enc Tryz.prog w base spare held n 31 ((cs.drop 32).take (Tryz.prog.cellsOf 31)) = ys[1]? := hf 1 _ rfl
 rw [cH] at g0
 rw [cU] at g1
 rw [cP] at hl
 have hys : ys.length = 2 := hyl
 rw [List.getElem?_eq_getElem (by omega)] at g0 g1
 obtain ⟨l, hlo, e0⟩ := zae g0
 obtain ⟨s, e1, _, w1⟩ := DataW.trod_int Tryz.underlying31 g1
 refine ⟨⟨l, s⟩, ⟨hlo, zhY w1⟩, ?_⟩
 rw [List.drop_zero] at e0
 have e2 : cs.drop 32 = [.int .u32 s] := by rw [← e1, List.take_of_length_le (by rw [List.length_drop]; omega)]
 show cs = l.map zP ++ [.int .u32 s]
 rw [← e0, ← e2, List.take_append_drop]
set_option maxRecDepth 20000 in
theorem zeX {fuel : Nat} {cs : List Value} {x : DataW H × List MemPlace} (h : DataW.trod enc Tryz.prog w base spare held fuel 103 cs = some x) : ∃ o : yF, o.ok ∧ cs = zG o := by
 have cH : Tryz.prog.cellsOf 41 = 32 := by kernel_rfl
 have cP : Tryz.prog.cellsOf 103 = 33 := by kernel_rfl
 have cU : Tryz.prog.cellsOf 48 = 1 := by kernel_rfl
 obtain ⟨ys, n, _, _, hl, hyl, hf⟩ := DataW.trod_struct Tryz.underlying103 h
 have g0 : DataW.trod enc Tryz.prog w base spare held n 48 ((cs.drop 0).take (Tryz.prog.cellsOf 48)) = ys[0]? := hf 0 _ rfl
 have g1 : DataW.trod enc Tryz.prog w base spare held n 41 ((cs.drop 1).take (Tryz.prog.cellsOf 41)) = ys[1]? := hf 1 _ rfl
 rw [cU] at g0
 rw [cH] at g1
 rw [cP] at hl
 have hys : ys.length = 2 := hyl
 rw [List.getElem?_eq_getElem (by omega)] at g0 g1
 obtain ⟨s, e0, _, w0⟩ := DataW.trod_int Tryz.underlying48 g0
 obtain ⟨l, hlo, e1⟩ := zae g1
 refine ⟨⟨s, l⟩, ⟨zh5 w0, hlo⟩, ?_⟩
 rw [List.drop_zero] at e0
 have e2 : cs.drop 1 = l.map zP := by rw [← e1, List.take_of_length_le (by rw [List.length_drop]; omega)]
 show cs = [.int .u64 s] ++ l.map zP
 rw [← e0, ← e2, List.take_append_drop]
end
end Go.Proofs.YtdkkjchclkjleaaGreatDoor

/- pappuslaw11: what came in, opened. -/
namespace Go.Proofs.YtdkkjchclkjleaaGreatDoor
open Go Go.RowKit Go.ChangeShapes Go.WideShapes Go.Deep
section
variable {H : Type} {enc : TypeId × Value → H} {w : World} {base : Nat} {spare : Nat → Bool} {held : Bool}
set_option maxRecDepth 20000 in
theorem zaJ {fuel : Nat} {v : Value} {x : DataW H × List MemPlace} (h : DataW.trod enc Tryz.prog w base spare held fuel 22 [v] = some x) : ∃ L, xz w v L :=
 zaI Tryz.underlying22 (k := 33) (by kernel_rfl) (by decide) (fun a => yD) (fun _ _ _ h => zeX h) h
set_option maxRecDepth 20000 in
theorem zgo {fuel : Nat} {v : Value} {x : DataW H × List MemPlace} (h : DataW.trod enc Tryz.prog w base spare held fuel 106 [v] = some x) : ∃ k, Vs w v k := by
 obtain ⟨L, ok, ha⟩ := zaI (f := fun b : Int => [zP b]) (ok := fun b : Int => 0 ≤ b ∧ b ≤ 255) Tryz.underlying106 (k := 1) (by kernel_rfl) (by decide) (fun a _ => rfl) (fun fuel cs x h => by
  obtain ⟨k, e, _, hw⟩ := DataW.trod_int Tryz.underlying5 h
  have e1 : IntKind.u8.min = 0 := rfl
  have e2 : IntKind.u8.max = 255 := rfl
  simp [Lit.wf, e1, e2] at hw
  exact ⟨k, ⟨hw.1, hw.2⟩, e⟩) h
 refine ⟨L, ok, ?_⟩
 have : L.flatMap (fun b : Int => [zP b]) = L.map zP := by
  clear ha ok
  induction L with
  | nil => rfl
  | cons a l ih => simp [ih]
 rwa [this] at ha
theorem zi4 {cs : List Value} {n k : Nat} (hl : cs.length = n) (hk : k + 1 = n) : ∃ u, cs.drop k = [u] := by
 have : (cs.drop k).length = 1 := by rw [List.length_drop]; omega
 exact List.length_eq_one_iff.1 this
set_option maxRecDepth 20000 in
theorem zhZ {fuel : Nat} {cs : List Value} {x : DataW H × List MemPlace} (h : DataW.trod enc Tryz.prog w base spare held fuel 108 cs = some x) : ∃ d, InQ w d cs := by
 have c1 : Tryz.prog.cellsOf 95 = 33 := by kernel_rfl
 have c2 : Tryz.prog.cellsOf 106 = 1 := by kernel_rfl
 have cA : Tryz.prog.cellsOf 108 = 34 := by kernel_rfl
 obtain ⟨ys, n, _, _, hl, hyl, hf⟩ := DataW.trod_struct Tryz.underlying108 h
 have g0 : DataW.trod enc Tryz.prog w base spare held n 95 ((cs.drop 0).take (Tryz.prog.cellsOf 95)) = ys[0]? := hf 0 _ rfl
 have g1 : DataW.trod enc Tryz.prog w base spare held n 106 ((cs.drop 33).take (Tryz.prog.cellsOf 106)) = ys[1]? := hf 1 _ rfl
 rw [c1] at g0
 rw [c2] at g1
 rw [cA] at hl
 have hys : ys.length = 2 := hyl
 rw [List.getElem?_eq_getElem (by omega)] at g0 g1
 obtain ⟨p, pok, e0⟩ := zcG g0
 obtain ⟨u, e2⟩ := zi4 hl (k := 33) rfl
 rw [e2, List.take_of_length_le (by simp)] at g1
 obtain ⟨k, hk⟩ := zgo g1
 obtain ⟨ka, kc, rfl⟩ := hk.2.form
 refine ⟨⟨p, k⟩, ka, kc, ?_, pok, hk⟩
 show cs = zB p ++ [.slice ka k.length kc]
 rw [← e0, ← e2, List.drop_zero, List.take_append_drop]
set_option maxRecDepth 20000 in
theorem zgi {fuel : Nat} {v : Value} {x : DataW H × List MemPlace} (h : DataW.trod enc Tryz.prog w base spare held fuel 32 [v] = some x) : ∃ L, Xj w v L := by
 obtain ⟨L, va, vc, e, hl, hp⟩ := zaY (q := InQ w) Tryz.underlying32 (k := 34) (by kernel_rfl) (by decide) (fun a cs ⟨_, _, e, ok, _⟩ => by rw [e]; exact vi ok _) (fun _ _ _ h => zhZ h) h
 exact ⟨L, va, vc, e, hl, hp⟩
set_option maxRecDepth 20000 in
theorem zh7 {fuel : Nat} {cs : List Value} {x : DataW H × List MemPlace} (h : DataW.trod enc Tryz.prog w base spare held fuel 34 cs = some x) : ∃ d, TxQ w d cs := by
 have c1 : Tryz.prog.cellsOf 31 = 1 := by kernel_rfl
 have c2 : Tryz.prog.cellsOf 32 = 1 := by kernel_rfl
 have c3 : Tryz.prog.cellsOf 22 = 1 := by kernel_rfl
 have cA : Tryz.prog.cellsOf 34 = 3 := by kernel_rfl
 obtain ⟨ys, n, _, _, hl, hyl, hf⟩ := DataW.trod_struct Tryz.underlying34 h
 have g0 : DataW.trod enc Tryz.prog w base spare held n 31 ((cs.drop 0).take (Tryz.prog.cellsOf 31)) = ys[0]? := hf 0 _ rfl
 have g1 : DataW.trod enc Tryz.prog w base spare held n 32 ((cs.drop 1).take (Tryz.prog.cellsOf 32)) = ys[1]? := hf 1 _ rfl
 have g2 : DataW.trod enc Tryz.prog w base spare held n 22 ((cs.drop 2).take (Tryz.prog.cellsOf 22)) = ys[2]? := hf 2 _ rfl
 rw [c1] at g0
 rw [c2] at g1
 rw [c3] at g2
 rw [cA] at hl
 have hys : ys.length = 3 := hyl
 rw [List.getElem?_eq_getElem (by omega)] at g0 g1 g2
 match cs, hl with
 | [a, b, c], _ =>
  simp only [List.drop_zero, List.drop_succ_cons, List.take_succ_cons, List.take_zero] at g0 g1 g2
  obtain ⟨k, e0, _, hw⟩ := DataW.trod_int Tryz.underlying31 g0
  simp only [List.cons.injEq, and_true] at e0
  subst e0
  obtain ⟨I, hI⟩ := zgi g1
  obtain ⟨O, hO⟩ := zaJ g2
  obtain ⟨ia, ic, rfl⟩ := hI.form
  obtain ⟨oa, oc, rfl⟩ := hO.2.form
  have e1 : IntKind.u32.min = 0 := rfl
  have e2 : IntKind.u32.max = 4294967295 := rfl
  simp [Lit.wf, e1, e2] at hw
  exact ⟨⟨k, I, O⟩, ia, ic, oa, oc, rfl, ⟨hw.1, hw.2⟩, hI, hO⟩
theorem TxQ.len3 {w : World} {t : TxD} {cs : List Value} (h : TxQ w t cs) : cs.length = 3 := by
 obtain ⟨_, _, _, _, rfl, _⟩ := h
 rfl
set_option maxRecDepth 20000 in
theorem zgb {fuel : Nat} {v : Value} {x : DataW H × List MemPlace} (h : DataW.trod enc Tryz.prog w base spare held fuel 23 [v] = some x) : ∃ L, zgT w v L := by
 obtain ⟨L, va, vc, e, hl, hp⟩ := zaY (q := TxQ w) Tryz.underlying23 (k := 3) (by kernel_rfl) (by decide) (fun a cs h => h.len3) (fun _ _ _ h => zh7 h) h
 exact ⟨L, va, vc, e, hl, hp⟩
end
end Go.Proofs.YtdkkjchclkjleaaGreatDoor
