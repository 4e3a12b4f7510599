/- Coins, points opened. -/
import Derived.Test.YtmpamcnlineceaaDoorMG33
import Derived.Test.YtmpamcnlineceaaDoorMG14
import Derived.Test.YtmpamcnlineceaaDoorMG21
set_option linter.unusedVariables false
set_option linter.unusedSimpArgs false
set_option linter.unnecessarySimpa false
set_option linter.all false
namespace Go.Proofs.YtmpamcnlineceaaDoor
open Go Go.RowKit Go.ChangeShapes Go.WideShapes Go.Deep

section
variable {H : Type} {enc : TypeId × Value → H} {w : World} {base : Nat} {spare : Nat → Bool} {held : Bool}
theorem wfC_u32 {n : Int} (h : (Lit.int .u32 n).wf = true) : 0 ≤ n ∧ n ≤ 4294967295 := by
  simp [Lit.wf, IntKind.min, IntKind.max, IntKind.signed, IntKind.bits] at h
  omega
theorem wfC_u64 {n : Int} (h : (Lit.int .u64 n).wf = true) : 0 ≤ n ∧ n ≤ 18446744073709551615 := by
  simp [Lit.wf, IntKind.min, IntKind.max, IntKind.signed, IntKind.bits] at h
  omega
theorem trodC_hash {fuel : Nat} {cs : List Value} {x : DataW H × List MemPlace} (h : DataW.trod enc Tryd.prog w base spare held fuel 45 cs = some x) : ∃ l : List Int, hashOk l ∧ cs = l.map byteV := by
  have cH : Tryd.prog.cellsOf 45 = 32 := by kernel_rfl
  have cB : Tryd.prog.cellsOf 5 = 1 := by kernel_rfl
  obtain ⟨l, hll, hlb, e1⟩ := trod_bytes Tryd.underlying45 cH cB Tryd.underlying5 h
  exact ⟨l, ⟨hll, hlb⟩, e1⟩
set_option maxRecDepth 20000 in
theorem trodC_point {fuel : Nat} {cs : List Value} {x : DataW H × List MemPlace} (h : DataW.trod enc Tryd.prog w base spare held fuel 47 cs = some x) : ∃ p : PointD, p.ok ∧ cs = pointC p := by
  have cH : Tryd.prog.cellsOf 45 = 32 := by kernel_rfl
  have cP : Tryd.prog.cellsOf 47 = 33 := by kernel_rfl
  have cU : Tryd.prog.cellsOf 38 = 1 := by kernel_rfl
  obtain ⟨ys, n, _, _, hl, hyl, hf⟩ := DataW.trod_struct Tryd.underlying47 h
  have g0 : DataW.trod enc Tryd.prog w base spare held n 45 ((cs.drop 0).take (Tryd.prog.cellsOf 45)) = ys[0]? := hf 0 _ rfl
  have g1 : DataW.trod enc Tryd.prog w base spare held n 38 ((cs.drop 32).take (Tryd.prog.cellsOf 38)) = ys[1]? := hf 1 _ rfl
  rw [cH] at g0
  rw [cU] at g1
  rw [cP] at hl
  have hys : ys.length = 2 := hyl
  rw [List.getElem?_eq_getElem (by omega)] at g0 g1
  obtain ⟨l, hlo, e0⟩ := trodC_hash g0
  obtain ⟨s, e1, _, w1⟩ := DataW.trod_int Tryd.underlying38 g1
  refine ⟨⟨l, s⟩, ⟨hlo, wfC_u32 w1⟩, ?_⟩
  rw [List.drop_zero] at e0
  have e2 : cs.drop 32 = [.int .u32 s] := by rw [← e1, List.take_of_length_le (by rw [List.length_drop]; omega)]
  show cs = l.map byteV ++ [.int .u32 s]
  rw [← e0, ← e2, List.take_append_drop]
set_option maxRecDepth 20000 in
theorem trodC_out {fuel : Nat} {cs : List Value} {x : DataW H × List MemPlace} (h : DataW.trod enc Tryd.prog w base spare held fuel 55 cs = some x) : ∃ o : OutD, o.ok ∧ cs = outC o := by
  have cH : Tryd.prog.cellsOf 45 = 32 := by kernel_rfl
  have cP : Tryd.prog.cellsOf 55 = 33 := by kernel_rfl
  have cU : Tryd.prog.cellsOf 24 = 1 := by kernel_rfl
  obtain ⟨ys, n, _, _, hl, hyl, hf⟩ := DataW.trod_struct Tryd.underlying55 h
  have g0 : DataW.trod enc Tryd.prog w base spare held n 24 ((cs.drop 0).take (Tryd.prog.cellsOf 24)) = ys[0]? := hf 0 _ rfl
  have g1 : DataW.trod enc Tryd.prog w base spare held n 45 ((cs.drop 1).take (Tryd.prog.cellsOf 45)) = ys[1]? := hf 1 _ rfl
  rw [cU] at g0
  rw [cH] at g1
  rw [cP] at hl
  have hys : ys.length = 2 := hyl
  rw [List.getElem?_eq_getElem (by omega)] at g0 g1
  obtain ⟨s, e0, _, w0⟩ := DataW.trod_int Tryd.underlying24 g0
  obtain ⟨l, hlo, e1⟩ := trodC_hash g1
  refine ⟨⟨s, l⟩, ⟨wfC_u64 w0, hlo⟩, ?_⟩
  rw [List.drop_zero] at e0
  have e2 : cs.drop 1 = l.map byteV := by rw [← e1, List.take_of_length_le (by rw [List.length_drop]; omega)]
  show cs = [.int .u64 s] ++ l.map byteV
  rw [← e0, ← e2, List.take_append_drop]
set_option maxRecDepth 20000 in
theorem trodC_coin {fuel : Nat} {cs : List Value} {x : DataW H × List MemPlace} (h : DataW.trod enc Tryd.prog w base spare held fuel 57 cs = some x) : ∃ c : CoinD, c.ok ∧ cs = coinC c := by
  have cP : Tryd.prog.cellsOf 47 = 33 := by kernel_rfl
  have cO : Tryd.prog.cellsOf 55 = 33 := by kernel_rfl
  have cC : Tryd.prog.cellsOf 57 = 66 := by kernel_rfl
  obtain ⟨ys, n, _, _, hl, hyl, hf⟩ := DataW.trod_struct Tryd.underlying57 h
  have g0 : DataW.trod enc Tryd.prog w base spare held n 47 ((cs.drop 0).take (Tryd.prog.cellsOf 47)) = ys[0]? := hf 0 _ rfl
  have g1 : DataW.trod enc Tryd.prog w base spare held n 55 ((cs.drop 33).take (Tryd.prog.cellsOf 55)) = ys[1]? := hf 1 _ rfl
  rw [cP] at g0
  rw [cO] at g1
  rw [cC] at hl
  have hys : ys.length = 2 := hyl
  rw [List.getElem?_eq_getElem (by omega)] at g0 g1
  obtain ⟨p, hp, e0⟩ := trodC_point g0
  obtain ⟨o, ho, e1⟩ := trodC_out g1
  refine ⟨⟨p, o⟩, ⟨hp, ho⟩, ?_⟩
  rw [List.drop_zero] at e0
  have e2 : cs.drop 33 = outC o := by rw [← e1, List.take_of_length_le (by rw [List.length_drop]; omega)]
  show cs = pointC p ++ outC o
  rw [← e0, ← e2, List.take_append_drop]
set_option maxRecDepth 20000 in
theorem open_coins {fuel : Nat} {v : Value} {x : DataW H × List MemPlace} (h : DataW.trod enc Tryd.prog w base spare held fuel 51 [v] = some x) : ∃ L, CoinsIs w v L :=
  open_flat Tryd.underlying51 (k := 66) (by kernel_rfl) (by decide) (fun a => coinC_len) (fun _ _ _ h => trodC_coin h) h
set_option maxRecDepth 20000 in
theorem open_point {r : Reach} {b0 : Nat} {v : Value} {d : DataW H} {p : List MemPlace} (hv : Value.okWide Tryd.prog w r b0 47 v) (h : DataW.Trod enc Tryd.prog w base spare held 47 v d p) :
    ∃ k : PointD, k.ok ∧ v = .agg (pointC k).toArray := by
  obtain ⟨cs, rfl, hsz⟩ := okWide_struct Tryd.underlying47 hv
  obtain ⟨fuel, hf⟩ := h
  obtain ⟨k, hk, e⟩ := trodC_point hf
  refine ⟨k, hk, ?_⟩
  have e2 : cs.toList = pointC k := e
  rw [← e2]
set_option maxRecDepth 20000 in
theorem open_coin {r : Reach} {b0 : Nat} {v : Value} {d : DataW H} {p : List MemPlace} (hv : Value.okWide Tryd.prog w r b0 57 v) (h : DataW.Trod enc Tryd.prog w base spare held 57 v d p) :
    ∃ k : CoinD, k.ok ∧ v = .agg (coinC k).toArray := by
  obtain ⟨cs, rfl, hsz⟩ := okWide_struct Tryd.underlying57 hv
  obtain ⟨fuel, hf⟩ := h
  obtain ⟨k, hk, e⟩ := trodC_coin hf
  refine ⟨k, hk, ?_⟩
  have e2 : cs.toList = coinC k := e
  rw [← e2]
end
end Go.Proofs.YtmpamcnlineceaaDoor

/- pappuslaw11: what came in, opened. -/
namespace Go.Proofs.YtmpamcnlineceaaDoor
open Go Go.RowKit Go.ChangeShapes Go.WideShapes Go.Deep
section
variable {H : Type} {enc : TypeId × Value → H} {w : World} {base : Nat} {spare : Nat → Bool} {held : Bool}
set_option maxRecDepth 20000 in
theorem open_outs {fuel : Nat} {v : Value} {x : DataW H × List MemPlace} (h : DataW.trod enc Tryd.prog w base spare held fuel 22 [v] = some x) : ∃ L, OutsIs w v L :=
  open_flat Tryd.underlying22 (k := 33) (by kernel_rfl) (by decide) (fun a => outC_len) (fun _ _ _ h => trodC_out h) h
set_option maxRecDepth 20000 in
theorem open_key {fuel : Nat} {v : Value} {x : DataW H × List MemPlace} (h : DataW.trod enc Tryd.prog w base spare held fuel 48 [v] = some x) : ∃ k, KeyIs w v k := by
  obtain ⟨L, ok, ha⟩ := open_flat (f := fun b : Int => [byteV b]) (ok := fun b : Int => 0 ≤ b ∧ b ≤ 255) Tryd.underlying48 (k := 1) (by kernel_rfl) (by decide) (fun a _ => rfl) (fun fuel cs x h => by
    obtain ⟨k, e, _, hw⟩ := DataW.trod_int Tryd.underlying5 h
    have e1 : IntKind.u8.min = 0 := rfl
    have e2 : IntKind.u8.max = 255 := rfl
    simp [Lit.wf, e1, e2] at hw
    exact ⟨k, ⟨hw.1, hw.2⟩, e⟩) h
  refine ⟨L, ok, ?_⟩
  have : L.flatMap (fun b : Int => [byteV b]) = L.map byteV := by
    clear ha ok
    induction L with
    | nil => rfl
    | cons a l ih => simp [ih]
  rwa [this] at ha
theorem one_of {cs : List Value} {n k : Nat} (hl : cs.length = n) (hk : k + 1 = n) : ∃ u, cs.drop k = [u] := by
  have : (cs.drop k).length = 1 := by rw [List.length_drop]; omega
  exact List.length_eq_one_iff.1 this
set_option maxRecDepth 20000 in
theorem trod_in {fuel : Nat} {cs : List Value} {x : DataW H × List MemPlace} (h : DataW.trod enc Tryd.prog w base spare held fuel 50 cs = some x) : ∃ d, InQ w d cs := by
  have c1 : Tryd.prog.cellsOf 47 = 33 := by kernel_rfl
  have c2 : Tryd.prog.cellsOf 48 = 1 := by kernel_rfl
  have cA : Tryd.prog.cellsOf 50 = 34 := by kernel_rfl
  obtain ⟨ys, n, _, _, hl, hyl, hf⟩ := DataW.trod_struct Tryd.underlying50 h
  have g0 : DataW.trod enc Tryd.prog w base spare held n 47 ((cs.drop 0).take (Tryd.prog.cellsOf 47)) = ys[0]? := hf 0 _ rfl
  have g1 : DataW.trod enc Tryd.prog w base spare held n 48 ((cs.drop 33).take (Tryd.prog.cellsOf 48)) = ys[1]? := hf 1 _ rfl
  rw [c1] at g0
  rw [c2] at g1
  rw [cA] at hl
  have hys : ys.length = 2 := hyl
  rw [List.getElem?_eq_getElem (by omega)] at g0 g1
  obtain ⟨p, pok, e0⟩ := trodC_point g0
  obtain ⟨u, e2⟩ := one_of hl (k := 33) rfl
  rw [e2, List.take_of_length_le (by simp)] at g1
  obtain ⟨k, hk⟩ := open_key g1
  obtain ⟨ka, kc, rfl⟩ := hk.2.form
  refine ⟨⟨p, k⟩, ka, kc, ?_, pok, hk⟩
  show cs = pointC p ++ [.slice ka k.length kc]
  rw [← e0, ← e2, List.drop_zero, List.take_append_drop]
set_option maxRecDepth 20000 in
theorem open_ins {fuel : Nat} {v : Value} {x : DataW H × List MemPlace} (h : DataW.trod enc Tryd.prog w base spare held fuel 39 [v] = some x) : ∃ L, InsIs w v L := by
  obtain ⟨L, va, vc, e, hl, hp⟩ := open_rows (q := InQ w) Tryd.underlying39 (k := 34) (by kernel_rfl) (by decide) (fun a cs ⟨_, _, e, ok, _⟩ => by rw [e]; exact inC_len ok _) (fun _ _ _ h => trod_in h) h
  exact ⟨L, va, vc, e, hl, hp⟩
set_option maxRecDepth 20000 in
theorem trod_tx {fuel : Nat} {cs : List Value} {x : DataW H × List MemPlace} (h : DataW.trod enc Tryd.prog w base spare held fuel 41 cs = some x) : ∃ d, TxQ w d cs := by
  have c1 : Tryd.prog.cellsOf 38 = 1 := by kernel_rfl
  have c2 : Tryd.prog.cellsOf 39 = 1 := by kernel_rfl
  have c3 : Tryd.prog.cellsOf 22 = 1 := by kernel_rfl
  have cA : Tryd.prog.cellsOf 41 = 3 := by kernel_rfl
  obtain ⟨ys, n, _, _, hl, hyl, hf⟩ := DataW.trod_struct Tryd.underlying41 h
  have g0 : DataW.trod enc Tryd.prog w base spare held n 38 ((cs.drop 0).take (Tryd.prog.cellsOf 38)) = ys[0]? := hf 0 _ rfl
  have g1 : DataW.trod enc Tryd.prog w base spare held n 39 ((cs.drop 1).take (Tryd.prog.cellsOf 39)) = ys[1]? := hf 1 _ rfl
  have g2 : DataW.trod enc Tryd.prog w base spare held n 22 ((cs.drop 2).take (Tryd.prog.cellsOf 22)) = ys[2]? := hf 2 _ rfl
  rw [c1] at g0
  rw [c2] at g1
  rw [c3] at g2
  rw [cA] at hl
  have hys : ys.length = 3 := hyl
  rw [List.getElem?_eq_getElem (by omega)] at g0 g1 g2
  match cs, hl with
  | [a, b, c], _ =>
    simp only [List.drop_zero, List.drop_succ_cons, List.take_succ_cons, List.take_zero] at g0 g1 g2
    obtain ⟨k, e0, _, hw⟩ := DataW.trod_int Tryd.underlying38 g0
    simp only [List.cons.injEq, and_true] at e0
    subst e0
    obtain ⟨I, hI⟩ := open_ins g1
    obtain ⟨O, hO⟩ := open_outs g2
    obtain ⟨ia, ic, rfl⟩ := hI.form
    obtain ⟨oa, oc, rfl⟩ := hO.2.form
    have e1 : IntKind.u32.min = 0 := rfl
    have e2 : IntKind.u32.max = 4294967295 := rfl
    simp [Lit.wf, e1, e2] at hw
    exact ⟨⟨k, I, O⟩, ia, ic, oa, oc, rfl, ⟨hw.1, hw.2⟩, hI, hO⟩
theorem TxQ.len3 {w : World} {t : TxD} {cs : List Value} (h : TxQ w t cs) : cs.length = 3 := by
  obtain ⟨_, _, _, _, rfl, _⟩ := h
  rfl
set_option maxRecDepth 20000 in
theorem open_txs {fuel : Nat} {v : Value} {x : DataW H × List MemPlace} (h : DataW.trod enc Tryd.prog w base spare held fuel 25 [v] = some x) : ∃ L, TxsIs w v L := by
  obtain ⟨L, va, vc, e, hl, hp⟩ := open_rows (q := TxQ w) Tryd.underlying25 (k := 3) (by kernel_rfl) (by decide) (fun a cs h => h.len3) (fun _ _ _ h => trod_tx h) h
  exact ⟨L, va, vc, e, hl, hp⟩
set_option maxRecDepth 20000 in
theorem trod_blk {fuel : Nat} {cs : List Value} {x : DataW H × List MemPlace} (h : DataW.trod enc Tryd.prog w base spare held fuel 27 cs = some x) : ∃ d, BlkQ w d cs := by
  have c1 : Tryd.prog.cellsOf 24 = 1 := by kernel_rfl
  have c2 : Tryd.prog.cellsOf 22 = 1 := by kernel_rfl
  have c3 : Tryd.prog.cellsOf 25 = 1 := by kernel_rfl
  have cA : Tryd.prog.cellsOf 27 = 3 := by kernel_rfl
  obtain ⟨ys, n, _, _, hl, hyl, hf⟩ := DataW.trod_struct Tryd.underlying27 h
  have g0 : DataW.trod enc Tryd.prog w base spare held n 24 ((cs.drop 0).take (Tryd.prog.cellsOf 24)) = ys[0]? := hf 0 _ rfl
  have g1 : DataW.trod enc Tryd.prog w base spare held n 22 ((cs.drop 1).take (Tryd.prog.cellsOf 22)) = ys[1]? := hf 1 _ rfl
  have g2 : DataW.trod enc Tryd.prog w base spare held n 25 ((cs.drop 2).take (Tryd.prog.cellsOf 25)) = ys[2]? := hf 2 _ rfl
  rw [c1] at g0
  rw [c2] at g1
  rw [c3] at g2
  rw [cA] at hl
  have hys : ys.length = 3 := hyl
  rw [List.getElem?_eq_getElem (by omega)] at g0 g1 g2
  match cs, hl with
  | [a, b, c], _ =>
    simp only [List.drop_zero, List.drop_succ_cons, List.take_succ_cons, List.take_zero] at g0 g1 g2
    obtain ⟨k, e0, _, hw⟩ := DataW.trod_int Tryd.underlying24 g0
    simp only [List.cons.injEq, and_true] at e0
    subst e0
    obtain ⟨O, hO⟩ := open_outs g1
    obtain ⟨I, hI⟩ := open_txs g2
    obtain ⟨oa, oc, rfl⟩ := hO.2.form
    obtain ⟨ia, ic, rfl⟩ := hI.form
    have e1 : IntKind.u64.min = 0 := rfl
    have e2 : IntKind.u64.max = 18446744073709551615 := rfl
    simp [Lit.wf, e1, e2] at hw
    exact ⟨⟨k, O, I⟩, oa, oc, ia, ic, rfl, ⟨hw.1, hw.2⟩, hO, hI⟩
set_option maxRecDepth 20000 in
theorem open_blk {r : Reach} {b0 : Nat} {v : Value} {d : DataW H} {p : List MemPlace} (hv : Value.okWide Tryd.prog w r b0 27 v) (h : DataW.Trod enc Tryd.prog w base spare held 27 v d p) :
    ∃ (k : BlkD) (cs : List Value), BlkQ w k cs ∧ v = .agg cs.toArray := by
  obtain ⟨cs, rfl, hsz⟩ := okWide_struct Tryd.underlying27 hv
  obtain ⟨fuel, hf⟩ := h
  obtain ⟨k, hk⟩ := trod_blk hf
  exact ⟨k, cs.toList, hk, by simp⟩
end
end Go.Proofs.YtmpamcnlineceaaDoor
