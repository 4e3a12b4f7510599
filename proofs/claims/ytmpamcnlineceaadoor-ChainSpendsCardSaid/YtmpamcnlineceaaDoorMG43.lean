/- chain: Done. -/
import Derived.Test.YtmpamcnlineceaaDoorMG32
import Derived.Test.YtmpamcnlineceaaDoorMG34
import Derived.Test.YtmpamcnlineceaaDoorMG35
import Derived.Test.YtmpamcnlineceaaDoorMG27
set_option linter.unusedVariables false
set_option linter.unusedSimpArgs false
set_option linter.unnecessarySimpa false
set_option linter.all false
namespace Go.Proofs.YtmpamcnlineceaaDoor
open Go Go.RowKit Go.Maps Go.MapKept

set_option maxRecDepth 20000 in
set_option maxHeartbeats 2000000 in
theorem donen_any {w0 w : World} {p : Nat} {V : Nat → Prop} {S : List CoinD} {bs : List DoneD} {ids : List HashD} (h : Cn w0 w p V S bs ids) {x : HashD} (hx : hashOk x) :
    Calls Tryd.prog 23 #[.pointer (some ⟨p, 0, none⟩), .agg (hashC x).toArray] w fun e w' => e = .returned (.bool (decide (x ∈ ids))) ∧ Fr No w w' := by
  obtain ⟨M, ⟨s, U, mi, bv, css, h, -⟩, hid, hpos⟩ := h
  obtain ⟨dH, uH, rH⟩ := descHash
  have HL := Lib.hid (hashC_len hx)
  have f1 : Fr No w (w.alloc (.cells (hashC x).toArray 45)).drew := ((Fr.refl No w).alloc _).drew
  have F1 := Lib.hid f1
  have H1 := h.fr0 f1
  have CK := Lib.hid H1.cells.2.2
  have RB := Lib.hid (range_keep (range_new w (hashC x) 45) (Fr.refl No _).drew id)
  obtain ⟨v, hv⟩ : ∃ v : Int, (Instr.lookup 90 (.map (some mi)) (hashV x) false).run Tryd.prog (w.alloc (.cells (hashC x).toArray 45)).drew = .ok (.int .i64 v) (w.alloc (.cells (hashC x).toArray 45)).drew ∧ decide (0 < v) = decide (x ∈ ids) := by
    by_cases hin : x ∈ ids
    · obtain ⟨v, hm⟩ := (hid x).1 hin
      have := H1.map.look eqHash.keyed undMapIds (fun _ _ => hashV_inj) zeroSeen (keyOfHash hx) false (r := some v) (fun v' => ⟨fun e => by rw [← Option.some.inj e]; exact hm, fun h' => by rw [H1.map.uniq hm h']⟩)
      exact ⟨v, by simpa using this, by simp [hin, hpos x v hm]⟩
    · have := H1.map.look eqHash.keyed undMapIds (fun _ _ => hashV_inj) zeroSeen (keyOfHash hx) false (r := none) (fun v' => ⟨fun e => (by cases e), fun h' => absurd ((hid x).2 ⟨v', h'⟩) hin⟩)
      exact ⟨0, by simpa using this, by simp [hin]⟩
  have LK := Lib.hid hv.1
  have HD := Lib.hid hv.2
  clear h H1 hv hid hpos f1
  go_enter Tryd.func23, Tryd.ntmps23
  go_wp2_with fail
  refine wp_region_lexL [false, false, false, false, false, false, false, false, false, false, false, false] (fun w' => w'.cell? ⟨p, 2, none⟩ = some (.map (some mi)) ∧ w'.rangeAt w.heap.size 0 (hashC x) ∧ (Instr.lookup 90 (.map (some mi)) (hashV x) false).run Tryd.prog w' = .ok (.int .i64 v) w') (by kernel_rfl) (by kernel_rfl) ?_ (fun K hK => ?_)
  · exact ⟨CK.out, RB.out, LK.out⟩
  repeat (first | ((first | with_reducible refine lexL_read ?_ | ((with_reducible refine lexL_readG ?_ ?_); (focus rfl))); apply Exists.intro; refine ⟨?_, ?_⟩; (focus (first | exact lex_load (ty := 45) rfl (fun w h => h.2.1) uH rH (by rw [HL.out]; exact infoHash) | exact fun w' h => exec_lookup (t := 90) rfl rfl rfl h.2.2 | (intro w' hS; obtain ⟨s1, s2, s3⟩ := hS; go_simp; (try with_reducible rfl); done))); try simp only [Act.put, List.setIfInBounds_toArray, List.set_cons_zero, List.set_cons_succ]) | ((first | ((with_reducible refine lexL_skip (c := false) ?_ ?_ ?_); (focus rfl); (focus rfl)) | ((with_reducible refine lexL_skip (c := true) ?_ ?_ ?_); (focus rfl); (focus rfl)) | ((with_reducible refine lexL_skipU ?_ ?_); (focus rfl))); try simp only [Act.put, List.setIfInBounds_toArray, List.set_cons_zero, List.set_cons_succ]))
  refine lexL_nil (hK.out _ _ ?_)
  go_wp2_with fail
  go_ret
  exact ⟨by rw [← HD.out]; rfl, F1.out⟩
end Go.Proofs.YtmpamcnlineceaaDoor

/- pappuslaw11: acts and Two, as they lie and opened. -/
namespace Go.Proofs.YtmpamcnlineceaaDoor
open Go Go.RowKit Go.ChangeShapes Go.WideShapes Go.Deep

structure Act11 where
  kind : Int
  blk : BlkD
def act11C (k : Int) (bcs : List Value) : List Value := .int .i64 k :: bcs
def Act11Q (w : World) (a : Act11) (cs : List Value) : Prop := ∃ bcs, cs = act11C a.kind bcs ∧ BlkQ w a.blk bcs
theorem Act11Q.keep {w w' : World} {x : Act11} {cs : List Value} (h : Act11Q w x cs) (f : Fr No w w') : Act11Q w' x cs := by
  obtain ⟨b, e, h1⟩ := h
  exact ⟨b, e, h1.keep f⟩
theorem Act11Q.len {w : World} {a : Act11} {cs : List Value} (h : Act11Q w a cs) : cs.length = 4 := by
  obtain ⟨bcs, rfl, _, _, _, _, rfl, _⟩ := h
  rfl
abbrev Acts11Is (w : World) (v : Value) (L : List Act11) : Prop := RowsIs 4 Act11Q w v L
theorem Acts11Is.keep0 {w w' : World} {v : Value} {L : List Act11} (h : Acts11Is w v L) (f : Fr No w w') : Acts11Is w' v L := RowsIs.keep (fun _ _ h => h.keep f) h f
section
variable {H : Type} {enc : TypeId × Value → H} {w : World} {base : Nat} {spare : Nat → Bool} {held : Bool}
set_option maxRecDepth 20000 in
theorem trod_act11 {fuel : Nat} {cs : List Value} {x : DataW H × List MemPlace} (h : DataW.trod enc Tryd.prog w base spare held fuel 85 cs = some x) : ∃ d, Act11Q w d cs := by
  have c1 : Tryd.prog.cellsOf 3 = 1 := by kernel_rfl
  have c2 : Tryd.prog.cellsOf 27 = 3 := by kernel_rfl
  have cA : Tryd.prog.cellsOf 85 = 4 := by kernel_rfl
  obtain ⟨ys, n, _, _, hl, hyl, hf⟩ := DataW.trod_struct Tryd.underlying85 h
  have g0 : DataW.trod enc Tryd.prog w base spare held n 3 ((cs.drop 0).take (Tryd.prog.cellsOf 3)) = ys[0]? := hf 0 _ rfl
  have g1 : DataW.trod enc Tryd.prog w base spare held n 27 ((cs.drop 1).take (Tryd.prog.cellsOf 27)) = ys[1]? := hf 1 _ rfl
  rw [c1] at g0
  rw [c2] at g1
  rw [cA] at hl
  have hys : ys.length = 2 := hyl
  rw [List.getElem?_eq_getElem (by omega)] at g0 g1
  match cs, hl with
  | [a, b, c, d], _ =>
    simp only [List.drop_zero, List.drop_succ_cons, List.take_succ_cons, List.take_zero] at g0 g1
    obtain ⟨k, e0, _⟩ := DataW.trod_int Tryd.underlying3 g0
    simp only [List.cons.injEq, and_true] at e0
    subst e0
    obtain ⟨B, hB⟩ := trod_blk g1
    exact ⟨⟨k, B⟩, [b, c, d], rfl, hB⟩
set_option maxRecDepth 20000 in
theorem open_acts11 {fuel : Nat} {v : Value} {x : DataW H × List MemPlace} (h : DataW.trod enc Tryd.prog w base spare held fuel 23 [v] = some x) : ∃ L, Acts11Is w v L := by
  obtain ⟨L, va, vc, e, hl, hp⟩ := open_rows (q := Act11Q w) Tryd.underlying23 (k := 4) (by kernel_rfl) (by decide) (fun a cs h => h.len) (fun _ _ _ h => trod_act11 h) h
  exact ⟨L, va, vc, e, hl, hp⟩
end
end Go.Proofs.YtmpamcnlineceaaDoor

/- pappuslaw11: Great. -/
namespace Go.Proofs.YtmpamcnlineceaaDoor
open Go Go.RowKit Go.Maps Go.MapKept

def great11 (F : List OutD) (L : List Act11) : Bool := decide (300 < F.length) || (decide (40 < L.length) || L.any fun a => heavyB a.blk)
theorem great11_not {F : List OutD} {L : List Act11} (h : great11 F L = false) : F.length ≤ 300 ∧ L.length ≤ 40 ∧ ∀ a ∈ L, heavyB a.blk = false := by
  unfold great11 at h
  simp only [Bool.or_eq_false_iff, decide_eq_false_iff_not, List.any_eq_false] at h
  exact ⟨by omega, by omega, fun a ha => by simpa using h.2.2 a ha⟩
def Great11Ok (w : World) (F : List OutD) (L : List Act11) (e : Ending) (w' : World) : Prop := e = .returned (.int .i64 (if great11 F L = true then 1 else 0)) ∧ Fr No w w'
theorem descAct11 : ∃ d, Tryd.prog.underlying 85 = some d ∧ d.isRow = true := row_of (by kernel_rfl)
theorem infoAct11 : (Tryd.prog.info? 85).map (·.size) = some 4 := by kernel_rfl
theorem zeroAct11 (w : World) : (zeroValue 85).run Tryd.prog w = .ok (.agg [.int .i64 0, .int .u64 0, .slice none 0 0, .slice none 0 0].toArray) w := by kernel_rfl
set_option maxRecDepth 20000 in
set_option maxHeartbeats 4000000 in
theorem great11_any (w : World) {fv lv : Value} {F : List OutD} {L : List Act11} (hf : OutsIs w fv F) (hl : Acts11Is w lv L) :
    Calls Tryd.prog 11 #[fv, lv] w (Great11Ok w F L) := by
  have HL := Lib.hid hl
  obtain ⟨fa, fc, rfl⟩ := hf.2.form
  obtain ⟨va, vc, rfl⟩ := hl.form
  obtain ⟨dA, uA, rA⟩ := descAct11
  obtain ⟨dB, uB, rB⟩ := descBlk
  have zA := zeroAct11
  have T1 := Lib.hid (show great11 F L = true → ∀ w', Fr No w w' → Great11Ok w F L (.returned (.int .i64 1)) w' from fun h w' f => ⟨by rw [h]; rfl, f⟩)
  have T0 := Lib.hid (show great11 F L = false → ∀ w', Fr No w w' → Great11Ok w F L (.returned (.int .i64 0)) w' from fun h w' f => ⟨by rw [h]; rfl, f⟩)
  clear hf hl
  by_cases h1 : 300 < F.length
  · have j1 : decide ((300 : Int) < (F.length : Int)) = true := by simp; omega
    have HP := Lib.hid (T1.out (by simp [great11, h1]))
    clear h1
    go_enter Tryd.func11, Tryd.ntmps11
    go_wp2
    go_ret
    exact HP.out _ (Fr.refl _ _)
  have j1 : decide ((300 : Int) < (F.length : Int)) = false := by simp; omega
  by_cases h2 : 40 < L.length
  · have j2 : decide ((40 : Int) < (L.length : Int)) = true := by simp; omega
    have HP := Lib.hid (T1.out (by simp [great11, h2]))
    clear h1 h2
    go_enter Tryd.func11, Tryd.ntmps11
    go_wp2
    go_ret
    exact HP.out _ (Fr.refl _ _)
  have j2 : decide ((40 : Int) < (L.length : Int)) = false := by simp; omega
  have l40 : L.length ≤ 40 := by omega
  have HZ := Lib.hid (show (∀ a ∈ L, heavyB a.blk = false) → great11 F L = false from fun h => by
    have : (L.any fun a => heavyB a.blk) = false := List.any_eq_false.2 (fun a ha => by rw [h a ha]; decide)
    simp only [great11, this]
    simp
    omega)
  have HO := Lib.hid (show (∃ a ∈ L, heavyB a.blk = true) → great11 F L = true from fun h => by
    have : (L.any fun a => heavyB a.blk) = true := List.any_eq_true.2 h
    simp [great11, this])
  clear h1 h2
  go_enter Tryd.func11, Tryd.ntmps11
  go_wp2
  clear j1 j2
  go_loopw [17] (fun iv wr => ∃ n : Nat, iv = .int .i64 n ∧ n ≤ L.length ∧ (∀ a ∈ L.take n, heavyB a.blk = false) ∧ Fr No w wr) (fun iv _ => L.length - (intOf iv).toNat)
  case atStart => exact ⟨0, rfl, Nat.zero_le _, by simp, Fr.refl _ _⟩
  case round =>
    obtain ⟨n, rfl, hn, hks, fr⟩ := hrel
    have FR := Lib.hid fr
    have HK := Lib.hid hks
    clear fr hks
    by_cases hlt : n < L.length
    · have i1 : (n : Int) < (L.length : Int) := by omega
      obtain ⟨a, hx⟩ : ∃ x, L[n]? = some x := ⟨_, List.getElem?_eq_getElem hlt⟩
      obtain ⟨bb, off, cap, cs, hv, hr, bcs, rfl, hq⟩ := (HL.out.keep0 FR.out).at_ hx
      cases hv
      have R1 := Lib.hid hr
      obtain ⟨pa, pc, ta, tc, rfl⟩ := hq.form
      have FA := Lib.hid ((Fr.refl No wr).alloc (.cells [.int .i64 a.kind, .int .u64 a.blk.tag, .slice pa a.blk.pay.length pc, .slice ta a.blk.txs.length tc].toArray 85))
      have RB := Lib.hid (show (wr.alloc (.cells [.int .i64 a.kind, .int .u64 a.blk.tag, .slice pa a.blk.pay.length pc, .slice ta a.blk.txs.length tc].toArray 85)).rangeAt wr.heap.size 1 [.int .u64 a.blk.tag, .slice pa a.blk.pay.length pc, .slice ta a.blk.txs.length tc] from fun j v hj => by
        have := range_new wr [.int .i64 a.kind, .int .u64 a.blk.tag, .slice pa a.blk.pay.length pc, .slice ta a.blk.txs.length tc] 85 (j + 1) v (by simpa using hj)
        rwa [show 0 + (j + 1) = 1 + j by omega] at this)
      have HV := Lib.hid (heavy_any _ (hq.keep FA.out))
      have FW := Lib.hid (FR.out.trans0 FA.out)
      have HX := Lib.hid hx
      clear hr hq hx
      cases hh : heavyB a.blk with
      | true =>
        have HP := Lib.hid (T1.out (HO.out ⟨a, List.mem_of_getElem? HX.out, hh⟩))
        unfold HeavyOk at HV
        rw [hh] at HV
        clear hh
        have K0 := Lib.hid True.intro
        have K1 := Lib.hid True.intro
        have K2 := Lib.hid True.intro
        have K3 := Lib.hid True.intro
        go_wp2_with (first | ((with_reducible refine at_list ?_); have mk := K0.out; refine wpList_value rfl (exec_load (ty := 85) rfl rfl R1.out uA rA infoAct11) ?_; go_frame; clear mk K0) | ((with_reducible refine at_store ?_); have mk := K1.out; refine wpList_done rfl (exec_store_new (w := wr) (ty := 85) (cs := [.int .i64 a.kind, .int .u64 a.blk.tag, .slice pa a.blk.pay.length pc, .slice ta a.blk.txs.length tc]) rfl rfl rfl rfl infoAct11 (fun u hu => by simp only [List.mem_cons, List.not_mem_nil, or_false] at hu; rcases hu with rfl | rfl | rfl | rfl <;> rfl)) ?_; generalize wr.alloc (.cells [.int .i64 a.kind, .int .u64 a.blk.tag, .slice pa a.blk.pay.length pc, .slice ta a.blk.txs.length tc].toArray 85) = wA at *; go_frame; clear mk K1) | ((with_reducible refine at_list ?_); have mk := K2.out; refine wpList_value rfl (exec_load (ty := 27) rfl rfl RB.out uB rB infoBlk) ?_; go_frame; clear mk K2) | (have mk := K3.out; go_at_call 12; refine HV.out.mono ?_; rintro e w5 ⟨rfl, f5⟩; have F5 := Lib.hid f5; clear f5; go_frame; clear mk K3))
        go_ret
        exact HP.out _ (FW.out.trans0 F5.out)
      | false =>
        have AN := Lib.hid (show ∀ s ∈ L.take (n + 1), heavyB s.blk = false from fun s hs => by
          rw [List.take_add_one, HX.out] at hs
          rcases List.mem_append.1 hs with hs | hs
          · exact HK.out s hs
          · simp at hs; subst hs; exact hh)
        unfold HeavyOk at HV
        rw [hh] at HV
        clear hh
        have K0 := Lib.hid True.intro
        have K1 := Lib.hid True.intro
        have K2 := Lib.hid True.intro
        have K3 := Lib.hid True.intro
        go_wp2_with (first | ((with_reducible refine at_list ?_); have mk := K0.out; refine wpList_value rfl (exec_load (ty := 85) rfl rfl R1.out uA rA infoAct11) ?_; go_frame; clear mk K0) | ((with_reducible refine at_store ?_); have mk := K1.out; refine wpList_done rfl (exec_store_new (w := wr) (ty := 85) (cs := [.int .i64 a.kind, .int .u64 a.blk.tag, .slice pa a.blk.pay.length pc, .slice ta a.blk.txs.length tc]) rfl rfl rfl rfl infoAct11 (fun u hu => by simp only [List.mem_cons, List.not_mem_nil, or_false] at hu; rcases hu with rfl | rfl | rfl | rfl <;> rfl)) ?_; generalize wr.alloc (.cells [.int .i64 a.kind, .int .u64 a.blk.tag, .slice pa a.blk.pay.length pc, .slice ta a.blk.txs.length tc].toArray 85) = wA at *; go_frame; clear mk K1) | ((with_reducible refine at_list ?_); have mk := K2.out; refine wpList_value rfl (exec_load (ty := 27) rfl rfl RB.out uB rB infoBlk) ?_; go_frame; clear mk K2) | (have mk := K3.out; go_at_call 12; refine HV.out.mono ?_; rintro e w5 ⟨rfl, f5⟩; have F5 := Lib.hid f5; clear f5; go_frame; clear mk K3))
        go_roundw
        case rel => exact ⟨n + 1, by go_num, by omega, AN.out, FW.out.trans0 F5.out⟩
        case measure => simp [intOf]; omega
    · have i1 : ¬ (n : Int) < (L.length : Int) := by omega
      have HP := Lib.hid (T0.out (HZ.out (by
        have := HK.out
        rw [show n = L.length by omega, List.take_length] at this
        exact this)))
      go_wp2
      go_ret
      exact HP.out _ FR.out
end Go.Proofs.YtmpamcnlineceaaDoor
