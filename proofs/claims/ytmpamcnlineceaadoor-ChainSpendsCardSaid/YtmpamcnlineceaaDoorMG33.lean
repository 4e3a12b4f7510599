/- pappuslaw11: alive. -/
import Derived.Test.YtmpamcnlineceaaDoorRows
import Derived.WalkKit
import Derived.ProofKit
import Derived.OpenShut
import Derived.Carry
import Derived.WideKeyArgs
import Derived.Deep.Slices
import Derived.Deep.Fields
import Derived.ChangeSame
import Derived.LaidMore
import Derived.Stop.Joined
import Derived.Test.YtmpamcnlineceaaDoorMG32
import Derived.Test.YtmpamcnlineceaaDoorMG1
import Derived.Test.YtmpamcnlineceaaDoorMG21
import Derived.Test.YtmpamcnlineceaaDoorMG4
set_option linter.unusedVariables false
set_option linter.unusedSimpArgs false
set_option linter.unnecessarySimpa false
set_option linter.all false
namespace Go.Proofs.YtmpamcnlineceaaDoor
open Go Go.RowKit Go.Maps Go.MapKept

theorem bldO50 (w : World) : (Instr.build 55 #[(0, .int .u64 50)]).run Tryd.prog w = .ok (.agg (outC out50).toArray) w := by kernel_rfl
theorem bldO3 (w : World) : (Instr.build 55 #[(0, .int .u64 3)]).run Tryd.prog w = .ok (.agg (outC out3).toArray) w := by kernel_rfl
theorem bldP0 (w : World) : (Instr.build 47 #[]).run Tryd.prog w = .ok (.agg (pointC point0).toArray) w := by kernel_rfl
theorem bldB3 (a : Option Addr) (n c : Nat) (w : World) : (Instr.build 27 #[(1, .slice a n c)]).run Tryd.prog w = .ok (.agg [.int .u64 0, .slice a n c, .slice none 0 0].toArray) w := by kernel_rfl
theorem outs_new1 (w : World) {o : OutD} (h : o.ok) : OutsIs (w.alloc (.cells (outC o).toArray 55)) (.slice (some ⟨w.heap.size, 0, none⟩) 1 1) [o] :=
  ⟨fun x hx => by simp at hx; subst hx; exact h, .inl (.inr ⟨w.heap.size, 0, 1, rfl, Nat.le_refl _, by decide, fun j u hj => by
    have := range_new w (outC o) 55 j u (by simpa using hj)
    simpa using this, by simp⟩)⟩
theorem point0_ok' : point0.ok := ⟨⟨rfl, fun x hx => by have : x = 0 := List.eq_of_mem_replicate hx; omega⟩, by decide, by decide⟩
theorem find50 : outOf [coin50] point0 = out50 ∧ hasC [coin50] point0 = true := ⟨rfl, by decide⟩
set_option maxRecDepth 20000 in
set_option maxHeartbeats 4000000 in
theorem aliven_any {w : World} (hg : ShaW w) : Calls Tryd.prog 10 #[] w fun e w' => e = .returned (.bool true) ∧ Fr No w w' := by
  have HG := Lib.hid hg
  have OL := Lib.hid (outC_len out50_ok)
  have OL3 := Lib.hid (outC_len out3_ok)
  have PL := Lib.hid (pointC_len point0_ok')
  have zo := zeroOutC
  have zB := zeroBlk
  have F1 := Lib.hid ((Fr.refl No w).alloc (.cells (outC out50).toArray 55))
  have HN := Lib.hid (newn_any _ (outs_new1 w out50_ok) (by decide))
  rw [aliveS0] at HN
  clear hg
  go_enter Tryd.func10, Tryd.ntmps10
  have K0 := Lib.hid True.intro
  have K1 := Lib.hid True.intro
  have K2 := Lib.hid True.intro
  have K3 := Lib.hid True.intro
  have K4 := Lib.hid True.intro
  have K5 := Lib.hid True.intro
  have K6 := Lib.hid True.intro
  have K7 := Lib.hid True.intro
  have K8 := Lib.hid True.intro
  have K9 := Lib.hid True.intro
  have K10 := Lib.hid True.intro
  have K11 := Lib.hid True.intro
  have K12 := Lib.hid True.intro
  have K13 := Lib.hid True.intro
  go_wp2_with (first | ((with_reducible refine at_dst 8 ?_); have mk := K0.out; refine wpList_value rfl (exec_bld (o := ⟨some 8, _, _, _, _, _⟩) (t := 55) rfl rfl (bldO50 _)) ?_; go_frame; clear mk K0) | ((with_reducible refine at_list ?_); have mk := K1.out; refine wpList_value rfl (exec_buildSliceA (t := 22) rfl rfl undOuts infoOutZ2 (by rw [← out0_size]; rfl) (by decide) (by decide) OL.out) ?_; go_frame; clear mk K1) | (have mk := K2.out; go_at_call 17; generalize w.alloc (.cells (outC out50).toArray 55) = w1 at *; refine HN.out.mono ?_; rintro e w2 ⟨p, rfl, V, hc⟩; have C2 := Lib.hid hc; clear hc; go_frame; clear mk K2) | (have mk := K3.out; go_at_call 20; refine (discn_none C2.out).mono ?_; rintro e w3 ⟨rfl, f3⟩; have C3 := Lib.hid (C2.out.fr0 f3); clear f3; have C4 := Lib.hid (C3.out.fr0 ((Fr.refl No w3).alloc (.cells blkz.toArray 27))); go_frame; clear mk K3) | ((with_reducible refine at_store ?_); have mk := K4.out; refine wpList_done rfl (exec_store_new (w := w3) (ty := 27) (cs := blkz) rfl rfl rfl rfl infoBlk blkz_one) ?_; generalize w3.alloc (.cells blkz.toArray 27) = w4 at *; go_frame; clear mk K4) | ((with_reducible refine at_dst 26 ?_); have mk := K5.out; refine wpList_value rfl (exec_bld (o := ⟨some 26, _, _, _, _, _⟩) (t := 47) rfl rfl (bldP0 _)) ?_; go_frame; clear mk K5) | (have mk := K6.out; go_at_call 27; refine (findn_any C4.out point0_ok').mono ?_; rintro e w5 ⟨rfl, f5⟩; rw [find50.1, find50.2]; have C5 := Lib.hid (C4.out.fr0 f5); clear f5; have C6 := Lib.hid (C5.out.fr0 ((Fr.refl No w5).alloc (.cells (outC out50).toArray 55))); have cx := (out_new w5 out50_ok).1; go_frame; clear mk K6) | ((with_reducible refine at_store ?_); have mk := K7.out; refine wpList_done rfl (exec_store_new (w := w5) (ty := 55) (cs := outC out50) rfl rfl rfl (by rw [OL.out]; rfl) (by rw [OL.out]; exact infoOut) outC_one) ?_; generalize w5.alloc (.cells (outC out50).toArray 55) = w6 at *; have cy : w6.cell? ⟨w5.heap.size, 0, none⟩ = some (.int .u64 50) := cx; go_frame; clear mk K7) | ((with_reducible refine at_dst 42 ?_); have mk := K8.out; refine wpList_vG (o := ⟨some 42, _, _, _, _, _⟩) rfl (exec_bld (t := 55) rfl rfl (bldO3 _)) ?_; have O6 := Lib.hid (outs_new1 w6 out3_ok); have C7 := Lib.hid (C6.out.fr0 ((Fr.refl No w6).alloc (.cells (outC out3).toArray 55))); go_frame; clear mk K8) | ((with_reducible refine at_dst 43 ?_); have mk := K9.out; refine wpList_vG (o := ⟨some 43, _, _, _, _, _⟩) rfl (exec_buildSliceA (t := 22) rfl rfl undOuts infoOutZ2 (by rw [← out0_size]; rfl) (by decide) (by decide) OL3.out) ?_; generalize w6.alloc (.cells (outC out3).toArray 55) = w7 at *; go_frame; clear mk K9) | ((with_reducible refine at_dst 44 ?_); have mk := K10.out; refine wpList_vG (o := ⟨some 44, _, _, _, _, _⟩) rfl (exec_bld (t := 27) rfl rfl (bldB3 _ _ _ _)) ?_; have B7 := Lib.hid (show BlkQ w7 blk3 [.int .u64 0, .slice (some ⟨w6.heap.size, 0, none⟩) 1 1, .slice none 0 0] from ⟨_, 1, none, 0, rfl, by decide, O6.out, RowsIs.nil⟩); go_frame; clear mk K10) | (have mk := K11.out; go_at_call 15; refine (conn0_any HG.out (C7.out.base F1.out) B7.out rfl (by simp) (by simp)).mono ?_; rintro e w8 ⟨rfl, V8, c8⟩; rw [alive_ok]; have C8 := Lib.hid c8; clear c8; go_frame; clear mk K11) | (have mk := K12.out; go_at_call 18; refine (heightn_any C8.out).mono ?_; rintro e w9 ⟨rfl, hw9⟩; rw [hw9, alive_len.2]; go_frame; clear mk K12) | (have mk := K13.out; go_at_call 19; refine (coinsn_any C8.out (by rw [alive_len.1]; decide)).mono ?_; rintro e w10 ⟨v, rfl, o10, f10⟩; rw [alive_len.1] at o10; obtain ⟨va, vc, hv⟩ := o10.slice.arg.form; subst hv; have F10 := Lib.hid f10; clear o10 f10; go_frame; clear mk K13))
  go_ret
  exact ⟨rfl, C8.out.fr.trans0 F10.out⟩
end Go.Proofs.YtmpamcnlineceaaDoor

/- From a walk whose world has at most grown by new blocks to a law's row. -/
namespace Go.Proofs.YtmpamcnlineceaaDoor
open Go Go.ChangeShapes Go.WideShapes Go.ChangeAt Go.RowKit Go.Deep

theorem laid : laidOutB Tryd.prog = true := by kernel_rfl
theorem own : ownKnob Tryd.prog.godebug = none := by kernel_rfl

section
variable {H : Type} {enc : TypeId × Value → H} {P : Program}
theorem fr_below {w w' : World} (h : Fr No w w') : Below w.heap.size w w' := ⟨h.os, h.tape, h.output, h.size, fun k hk => h.block k hk id⟩

theorem trodAll_still (hl : laidOutB P = true) {W W' : World} (hb : Below W.heap.size W W') {sp : Nat → Bool} : ∀ {ts : List TypeId} {vs : List Value} {ds : List (DataW H)} {ps : List MemPlace},
    (∀ t ∈ ts, P.readableRec t = true ∧ t < P.types.size) → DataW.TrodAll enc P W 0 (fun _ => true) true ts vs ds ps → (∀ p ∈ ps, p.block < W.heap.size) → (∀ p ∈ ps, sp p.block = true) → DataW.TrodAll enc P W' 0 sp true ts vs ds ps
  | [], _, _, _, _, h, _, _ => by
    obtain ⟨rfl, rfl, rfl⟩ := trodAll_nil h
    exact trodAll_mk0
  | t :: ts, _, _, _, hr, h, hlt, hs => by
    obtain ⟨v, vs', d, ds', p, q, rfl, rfl, rfl, h0, h1⟩ := trodAll_cons h
    obtain ⟨r1, r2⟩ := hr t (List.mem_cons_self ..)
    exact trodAll_cons_mk (WideElems.Trod_stays hl r1 r2 h0 (fun x hx => hb.same (hlt x (List.mem_append_left _ hx))) (fun x hx => hs x (List.mem_append_left _ hx)))
      (trodAll_still hl hb (fun t' ht => hr t' (List.mem_cons_of_mem _ ht)) h1 (fun x hx => hlt x (List.mem_append_right _ hx)) (fun x hx => hs x (List.mem_append_right _ hx)))

theorem post_still {f : Func} {s : ChangeSpec} {apart fresh handsOn : Bool} {W W' : World} {args : Array Value} {v : Value} {ds : List (DataW H)} {before : List MemPlace}
    (hl : laidOutB P = true) (hr : ∀ t ∈ f.params.toList, P.readableRec t = true ∧ t < P.types.size) (hv : s.vars = [])
    (hW : DataW.Whole enc P f.params.toList s.vars apart W args.toList ds [] before) (hb : Fr No W W')
    (hres : ∀ (b : Nat) (sp : Nat → Bool) (hd : Bool), DataW.TrodAll enc P W' b sp hd f.resultTypes.toList (v.resultList f.resultTypes.size) (s.fn H (ds ++ [])).results [])
    (hargs : (s.fn H (ds ++ [])).args = ds) (hvs : (s.fn H (ds ++ [])).vars = []) :
    s.post enc P f apart fresh handsOn false W args v W' := by
  have hW' := hW
  obtain ⟨p, q, hA, hV, rfl, hfz, hnd⟩ := hW'
  rw [hv] at hV
  obtain ⟨_, rfl⟩ := trodVars_none hV
  have hold : ∀ x ∈ p, x.block < W.heap.size := fun x hx => by simpa using hW.lt x (List.mem_append_left _ hx)
  refine ⟨ds, [], p ++ [], [], p, [], hW, hres _ _ _, ?_, ?_, World.keptBut_mono (fun x hx => ⟨hx, .inr (by simpa using hx)⟩) ((fr_below hb).frame _), fun h => by cases h⟩
  · rw [hargs]
    exact trodAll_still hl (fr_below hb) hr hA hold (fun x hx => by simpa using hold x hx)
  · rw [hvs, hv]
    exact rfl

theorem cell_none {w : World} {a : Addr} {v : Value} (h : w.cell? a = some v) : a = ⟨a.block, a.off, none⟩ ∧ a.block < w.heap.size := by
  unfold World.cell? at h
  split at h
  · rename_i c x y e
    split at h
    · cases h
    · rename_i hs
      refine ⟨?_, (Array.getElem?_eq_some_iff.1 e).1⟩
      obtain ⟨b, o, s⟩ := a
      cases s <;> simp_all
  · cases h

variable {w : World} {base : Nat} {spare : Nat → Bool} {held : Bool}
theorem open_bytes {t e : TypeId} {fuel : Nat} {v : Value} {x : DataW H × List MemPlace} (ht : P.underlying t = some (.slice e)) (he : P.underlying e = some (.int .u8)) (hc : P.cellsOf e = 1) (h : DataW.trod enc P w base spare held fuel t [v] = some x) :
    ∃ bs : List Int, ArgIs w v bs.length (bs.map byteV) := by
  rcases open_slice1 ht hc h with ⟨h0, _⟩ | ⟨a, len, cap, m, n, V, D, Pl, hcs, hb, hl, hm, hmm, hx, hi⟩
  · simp only [List.cons.injEq, and_true] at h0
    exact ⟨[], .inl (.inl ⟨h0, rfl, rfl⟩)⟩
  · simp only [List.cons.injEq, and_true] at hcs
    have hlm : len ≤ m := by rw [hmm]; split <;> omega
    have hz : ∀ i, i < len → ∃ z : Int, V i = byteV z := fun i hi' => by
      obtain ⟨h1, h2⟩ := hi i (by omega)
      obtain ⟨z, hz, _⟩ := DataW.trod_int he h2
      simp only [List.cons.injEq, and_true] at hz
      exact ⟨z, hz⟩
    by_cases h0 : len = 0
    · subst h0
      exact ⟨[], .inr ⟨a, cap, hcs, rfl, rfl, hm⟩⟩
    · have ha := (cell_none (hi 0 (by omega)).1)
      have ha1 : a = ⟨a.block, a.off, none⟩ := by
        have := congrArg Addr.spot ha.1
        obtain ⟨b, o, s⟩ := a
        simp [Addr.add] at this
        simp [this]
      have hab : a.block < w.heap.size := by simpa [Addr.add] using ha.2
      let zs : List Int := (List.range len).map fun i => if hi' : i < len then Classical.choose (hz i hi') else 0
      have hzl : zs.length = len := by simp [zs]
      refine ⟨zs, .inl (.inr ⟨a.block, a.off, cap, by rw [hzl, hcs, ← ha1], by omega, hm, fun j u hj => ?_, hab⟩)⟩
      have hjl : j < len := by have := (List.getElem?_eq_some_iff.1 hj).1; simpa [hzl] using this
      have hu : u = V j := by
        rw [List.getElem?_map, show zs[j]? = some (Classical.choose (hz j hjl)) by simp [zs, hjl]] at hj
        simp only [Option.map_some, Option.some.injEq] at hj
        rw [← hj]
        exact (Classical.choose_spec (hz j hjl)).symm
      rw [hu, ← (hi j (by omega)).1]
      have e := (congrArg (fun b : Addr => b.add j) ha1).symm
      exact congrArg w.cell? ((show (⟨a.block, a.off + j, none⟩ : Addr) = (⟨a.block, a.off, none⟩ : Addr).add j by simp [Addr.add]).trans e)
end
end Go.Proofs.YtmpamcnlineceaaDoor

/- The sums' two tables as the row's premise lays them; the door's own heap meets the premise. -/
namespace Go.Proofs.YtmpamcnlineceaaDoor
open Go Go.ChangeShapes Go.WideShapes Go.ChangeAt Go.WideMaps Go.WideElems Go.RowKit

def laidL : List (String × DataW Unit) := [("pappus/sha.constants", Rows.laid_pappus_sha_constants), ("pappus/sha.first", Rows.laid_pappus_sha_first)]
theorem gK : Tryd.prog.globalNamed "pappus/sha.constants" = some 2 := by kernel_rfl
theorem tK : (Tryd.prog.globals[2]?).map (·.type) = some 166 := by kernel_rfl
theorem gI : Tryd.prog.globalNamed "pappus/sha.first" = some 0 := by kernel_rfl
theorem tI : (Tryd.prog.globals[0]?).map (·.type) = some 140 := by kernel_rfl
theorem door_met (os : Os) (args : Array Value) : laidMetH Tryd.prog laidL ((World.doorLaid Tryd.prog 400 os).forCall (fun _ _ => 0) ⟨#[], args, []⟩).memory :=
  laidMetH_of_parts3 (fuel := 8) (laidMet_of_run' 8 (by kernel_rfl) (by kernel_rfl)) (by kernel_rfl) (by kernel_rfl)
theorem tab_of {W : World} {g n : Nat} {T : TypeId} {cs0 : List Value} {f0 : Nat} {tb : List Int} {fz : Nat → Bool} {pl : List MemPlace} {b0 : Nat} {hld : Bool} {enc : TypeId × Value → Unit} (hT : Tryd.prog.underlying T = some (.array n 38)) (hv : ∀ j, W.cell? ⟨g, j, none⟩ = cs0[j]?) (hd : DataW.trod enc Tryd.prog W b0 fz hld f0 T cs0 = some (.agg (tb.map fun x => DataW.lit (.int .u32 x)), pl)) (hn : tb.length = n) :
    ∀ (j : Nat) (x : Int), tb[j]? = some x → W.cell? ⟨g, j, none⟩ = some (.int .u32 x) := by
  obtain ⟨xs, m1, hx0, hx1, hlen, hn3, hel⟩ := DataW.trod_array hT hd
  have c8 : Tryd.prog.cellsOf 38 = 1 := by kernel_rfl
  rw [c8] at hel
  have hT2 : (tb.map fun x => DataW.lit (H := Unit) (.int .u32 x)) = xs.map (·.1) := by
    have e := congrArg Prod.fst hx1
    exact DataW.agg.inj e
  intro j x hj
  have hjl : j < n := by rw [← hn]; exact (List.getElem?_eq_some_iff.1 hj).1
  have e := congrArg (·[j]?) hT2
  simp only [List.getElem?_map, hj, Option.map_some] at e
  cases hy : xs[j]? with
  | none => rw [hy] at e; cases e
  | some y =>
    rw [hy] at e
    have h0 := hel j hjl
    rw [hy] at h0
    obtain ⟨k, e1, e2, _⟩ := DataW.trod_int Tryd.underlying38 h0
    simp only [Option.map_some, Option.some.injEq] at e
    rw [e2] at e
    have hk : x = k := by simpa using e
    subst hk
    have := congrArg (·[0]?) e1
    simp at this
    rw [hv j]
    simpa using this
theorem laid_K : Rows.laid_pappus_sha_constants (H := Unit) = .agg (shaK.map fun x => DataW.lit (.int .u32 x)) := by kernel_rfl
theorem laid_I : Rows.laid_pappus_sha_first (H := Unit) = .agg (shaI.map fun x => DataW.lit (.int .u32 x)) := by kernel_rfl
theorem of_laid {W : World} (h : laidMetH Tryd.prog laidL W) : ShaW W := by
  rw [MakeChecks.laidMetH_plain _ _ _ (by kernel_rfl)] at h
  obtain ⟨ps, ⟨g0, t0, cs0, f0, p0, q0, hg0, ht0, hv0, hd0, ⟨g1, t1, cs1, f1, p1, q1, hg1, ht1, hv1, hd1, _, _⟩, _⟩, _, _⟩ := h
  obtain rfl := Option.some.inj (gK.symm.trans hg0)
  obtain rfl := Option.some.inj (tK.symm.trans ht0)
  obtain rfl := Option.some.inj (gI.symm.trans hg1)
  obtain rfl := Option.some.inj (tI.symm.trans ht1)
  rw [laid_K] at hd0
  rw [laid_I] at hd1
  have K := tab_of (g := 2) Tryd.underlying166 (fun j => by rw [Array.getElem?_toList]; exact World.var?_cell hg0 hv0 j) hd0 rfl
  have I := tab_of (g := 0) Tryd.underlying140 (fun j => by rw [Array.getElem?_toList]; exact World.var?_cell hg1 hv1 j) hd1 rfl
  exact ⟨⟨K, I⟩, (cell_none (K 0 _ rfl)).2⟩
end Go.Proofs.YtmpamcnlineceaaDoor

/- Arguments opened: rows of elements that hold no pointer. -/
namespace Go.Proofs.YtmpamcnlineceaaDoor
open Go Go.RowKit Go.ChangeShapes Go.WideShapes Go.Deep

theorem addr_plain {b o k : Nat} : (⟨b, o, none⟩ : Addr).add k = ⟨b, o + k, none⟩ := by
  unfold Addr.add
  split
  · subst_vars; rfl
  · rfl
theorem choose_row {α : Type} {n : Nat} {p : Nat → α → Prop} (h : ∀ i, i < n → ∃ a, p i a) : ∃ L : List α, L.length = n ∧ ∀ i a, L[i]? = some a → p i a := by
  induction n with
  | zero => exact ⟨[], rfl, fun i a h => by simp at h⟩
  | succ n ih =>
    obtain ⟨L, hL, hp⟩ := ih (fun i hi => h i (by omega))
    obtain ⟨a, ha⟩ := h n (by omega)
    refine ⟨L ++ [a], by simp [hL], fun i x hx => ?_⟩
    by_cases hi : i < n
    · rw [List.getElem?_append_left (by omega)] at hx; exact hp i x hx
    · have : i = n := by have := (List.getElem?_eq_some_iff.1 hx).1; simp at this; omega
      subst this
      rw [List.getElem?_append_right (by omega)] at hx
      simp [hL] at hx
      exact hx ▸ ha

section
variable {H : Type} {enc : TypeId × Value → H} {P : Program} {w : World} {base : Nat} {spare : Nat → Bool} {held : Bool}
theorem trod_bytes {t e : TypeId} {n fuel : Nat} {cs : List Value} {x : DataW H × List MemPlace} (ht : P.underlying t = some (.array n e)) (hct : P.cellsOf t = n) (hc : P.cellsOf e = 1) (he : P.underlying e = some (.int .u8))
    (h : DataW.trod enc P w base spare held fuel t cs = some x) : ∃ l : List Int, l.length = n ∧ (∀ y ∈ l, 0 ≤ y ∧ y ≤ 255) ∧ cs = l.map (Value.int .u8) := by
  obtain ⟨xs, m, _, _, hl, hxl, hi⟩ := DataW.trod_array ht h
  obtain ⟨l, hll, hp⟩ := choose_row (n := n) (p := fun i (y : Int) => cs[i]? = some (.int .u8 y) ∧ 0 ≤ y ∧ y ≤ 255) (fun i hin => by
    have h1 := hi i hin
    rw [hc, List.getElem?_eq_getElem (by omega)] at h1
    obtain ⟨y, hy, _, hw⟩ := DataW.trod_int he h1
    have e1 : IntKind.u8.min = 0 := rfl
    have e2 : IntKind.u8.max = 255 := rfl
    simp [Lit.wf, e1, e2] at hw
    refine ⟨y, ?_, hw.1, hw.2⟩
    rw [Nat.mul_one] at hy
    have hcl : i < cs.length := by omega
    rw [List.drop_eq_getElem_cons hcl] at hy
    simp only [List.take_succ_cons, List.take_zero, List.cons.injEq, and_true] at hy
    rw [List.getElem?_eq_getElem hcl, hy])
  refine ⟨l, hll, fun y hy => ?_, ?_⟩
  · obtain ⟨i, hi⟩ := List.mem_iff_getElem?.1 hy
    exact (hp i y hi).2
  · apply List.ext_getElem?
    intro i
    by_cases hin : i < n
    · have h1 : l[i]? = some (l[i]'(by omega)) := List.getElem?_eq_getElem (by omega)
      rw [(hp i _ h1).1, List.getElem?_map, h1]
      rfl
    · rw [List.getElem?_eq_none (by omega), List.getElem?_eq_none (by simp; omega)]
theorem open_flat {t e : TypeId} {k fuel : Nat} {α : Type} {f : α → List Value} {ok : α → Prop} {v : Value} {x : DataW H × List MemPlace} (ht : P.underlying t = some (.slice e)) (hC : P.cellsOf e = k) (k0 : 0 < k) (hk : ∀ a, ok a → (f a).length = k)
    (hel : ∀ (fuel : Nat) (cs : List Value) (x : DataW H × List MemPlace), DataW.trod enc P w base spare held fuel e cs = some x → ∃ a, ok a ∧ cs = f a)
    (h : DataW.trod enc P w base spare held fuel t [v] = some x) : ∃ L : List α, (∀ a ∈ L, ok a) ∧ ArgIs w v L.length (L.flatMap f) := by
  rcases open_slice ht h with ⟨e0, _⟩ | ⟨a, len, cap, m, n, D, Pl, hcs, hb, hl, hm, hmm, hx, hi⟩
  · simp only [List.cons.injEq, and_true] at e0
    exact ⟨[], (fun a ha => by cases ha), .inl (.inl ⟨e0, rfl, rfl⟩)⟩
  · simp only [List.cons.injEq, and_true] at hcs
    rw [hC] at hi
    have hlm : len ≤ m := by rw [hmm]; split <;> omega
    by_cases hl0 : len = 0
    · subst hl0
      exact ⟨[], (fun a ha => by cases ha), .inr ⟨a, cap, hcs, rfl, rfl, hm⟩⟩
    have hs : a.spot = none ∧ a.block < w.heap.size := by
      obtain ⟨cs', hc, ht'⟩ := hi 0 (by omega)
      obtain ⟨y, hy, rfl⟩ := hel _ _ _ ht'
      obtain ⟨_, hcl, hat⟩ := World.cells?_some hc
      have h1 := hat 0 k0
      rw [List.getElem?_eq_getElem (by rw [hk y hy]; exact k0)] at h1
      have c := cell_none h1
      rw [Nat.zero_mul] at c
      exact ⟨by simpa [Addr.add] using congrArg Addr.spot c.1, by simpa [Addr.add] using c.2⟩
    obtain ⟨ab, ao, asp⟩ := a
    obtain ⟨rfl, hbl⟩ := hs
    obtain ⟨L, hL, hp⟩ := choose_row (n := len) (p := fun i (y : α) => ok y ∧ w.rangeAt ab (ao + i * k) (f y)) (fun i hil => by
      obtain ⟨cs', hc, ht'⟩ := hi i (by omega)
      obtain ⟨y, hy, rfl⟩ := hel _ _ _ ht'
      obtain ⟨_, hcl, hat⟩ := World.cells?_some hc
      refine ⟨y, hy, fun j u hj => ?_⟩
      have hjl : j < k := by have := (List.getElem?_eq_some_iff.1 hj).1; rw [hk y hy] at this; exact this
      have h1 := hat j hjl
      rw [addr_plain, addr_plain] at h1
      rw [h1]
      exact hj)
    have hok : ∀ a ∈ L, ok a := fun a ha => by
      obtain ⟨i, hi⟩ := List.mem_iff_getElem?.1 ha
      exact (hp i a hi).1
    refine ⟨L, hok, .inl (.inr ⟨ab, ao, cap, by rw [hL]; exact hcs, by omega, hm, fun j u hj => ?_, hbl⟩)⟩
    have hjl : j < L.length * k := by
      have := (List.getElem?_eq_some_iff.1 hj).1
      rwa [flatR_len f k L (fun a ha => hk a (hok a ha))] at this
    have hq : j / k < L.length := Nat.div_lt_of_lt_mul (by rw [Nat.mul_comm]; exact hjl)
    have hr : j % k < k := Nat.mod_lt _ k0
    have h2 := flatR_at f k L (fun a ha => hk a (hok a ha)) (j / k) L[j / k] (List.getElem?_eq_getElem hq) (j % k) hr
    rw [Nat.div_add_mod' j k, hj] at h2
    have h3 := (hp (j / k) _ (List.getElem?_eq_getElem hq)).2 (j % k) u h2.symm
    rw [show ao + j / k * k + j % k = ao + (j / k * k + j % k) by omega, Nat.div_add_mod' j k] at h3
    exact h3
end
end Go.Proofs.YtmpamcnlineceaaDoor

/- Rows opened whose elements hold slices: each element's cells, and what is said of them. -/
namespace Go.Proofs.YtmpamcnlineceaaDoor
open Go Go.RowKit Go.ChangeShapes Go.WideShapes Go.Deep

section
variable {H : Type} {enc : TypeId × Value → H} {P : Program} {w : World} {base : Nat} {spare : Nat → Bool} {held : Bool}
theorem open_rows {t e : TypeId} {k fuel : Nat} {α : Type} {q : α → List Value → Prop} {v : Value} {x : DataW H × List MemPlace} (ht : P.underlying t = some (.slice e)) (hC : P.cellsOf e = k) (k0 : 0 < k) (hk : ∀ a cs, q a cs → cs.length = k)
    (hel : ∀ (fuel : Nat) (cs : List Value) (x : DataW H × List MemPlace), DataW.trod enc P w base spare held fuel e cs = some x → ∃ a, q a cs)
    (h : DataW.trod enc P w base spare held fuel t [v] = some x) : ∃ (L : List α) (va : Option Addr) (vc : Nat), v = .slice va L.length vc ∧ L.length ≤ maxLen ∧ ∀ (i : Nat) (d : α), L[i]? = some d → ∃ b off cs, va = some ⟨b, off, none⟩ ∧ w.rangeAt b (off + i * k) cs ∧ q d cs := by
  rcases open_slice ht h with ⟨e0, _⟩ | ⟨a, len, cap, m, n, D, Pl, hcs, hb, hl, hm, hmm, hx, hi⟩
  · simp only [List.cons.injEq, and_true] at e0
    exact ⟨[], none, 0, e0, Nat.zero_le _, fun i d hd => by simp at hd⟩
  · simp only [List.cons.injEq, and_true] at hcs
    rw [hC] at hi
    have hlm : len ≤ m := by rw [hmm]; split <;> omega
    by_cases hl0 : len = 0
    · subst hl0
      exact ⟨[], some a, cap, hcs, Nat.zero_le _, fun i d hd => by simp at hd⟩
    have hs : a.spot = none := by
      obtain ⟨cs', hc, ht'⟩ := hi 0 (by omega)
      obtain ⟨y, hy⟩ := hel _ _ _ ht'
      obtain ⟨_, hcl, hat⟩ := World.cells?_some hc
      have h1 := hat 0 k0
      rw [List.getElem?_eq_getElem (by rw [hk y _ hy]; exact k0)] at h1
      have c := cell_none h1
      rw [Nat.zero_mul] at c
      simpa [Addr.add] using congrArg Addr.spot c.1
    obtain ⟨ab, ao, asp⟩ := a
    obtain rfl : asp = none := hs
    obtain ⟨L, hL, hp⟩ := choose_row (n := len) (p := fun i (y : α) => ∃ b off cs, (some ⟨ab, ao, none⟩ : Option Addr) = some ⟨b, off, none⟩ ∧ w.rangeAt b (off + i * k) cs ∧ q y cs) (fun i hil => by
      obtain ⟨cs', hc, ht'⟩ := hi i (by omega)
      obtain ⟨y, hy⟩ := hel _ _ _ ht'
      obtain ⟨_, hcl, hat⟩ := World.cells?_some hc
      refine ⟨y, ab, ao, cs', rfl, fun j u hj => ?_, hy⟩
      have hjl : j < k := by have := (List.getElem?_eq_some_iff.1 hj).1; rw [hk y _ hy] at this; exact this
      have h1 := hat j hjl
      rw [hj, addr_plain, addr_plain] at h1
      exact h1)
    exact ⟨L, some ⟨ab, ao, none⟩, cap, by rw [hL]; exact hcs, by omega, hp⟩
end
end Go.Proofs.YtmpamcnlineceaaDoor
