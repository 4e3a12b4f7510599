/- chain: transactions and blocks as they lie. -/
import Derived.Test.YtmpamcnlineceaaDoorMG20
import Derived.Test.YtmpamcnlineceaaDoorMG13
import Derived.Test.YtmpamcnlineceaaDoorMG9
set_option linter.unusedVariables false
set_option linter.unusedSimpArgs false
namespace Go.Proofs.YtmpamcnlineceaaDoor
open Go Go.RowKit Go.Maps Go.MapKept

/-- What holds whatever is done to the blocks in V, and to new ones. -/
def Kept (V : Nat → Prop) (w : World) (Q : World → Prop) : Prop := ∀ w', Fr V w w' → Q w'
theorem Kept.now {V : Nat → Prop} {w : World} {Q : World → Prop} (h : Kept V w Q) : Q w := h w (Fr.refl V w)
theorem Kept.step {V V' : Nat → Prop} {w w' : World} {Q : World → Prop} (h : Kept V w Q) (f : Fr V w w') (hv : ∀ j, j < w.heap.size → V' j → V j) : Kept V' w' Q :=
  fun w2 f2 => h w2 (f.trans f2 hv)
theorem Kept.same {V : Nat → Prop} {w w' : World} {Q : World → Prop} (h : Kept V w Q) (f : Fr V w w') : Kept V w' Q := h.step f (fun _ _ h => h)
theorem Kept.imp {V : Nat → Prop} {w : World} {Q R : World → Prop} (h : Kept V w Q) (hr : ∀ w', Fr V w w' → Q w' → R w') : Kept V w R := fun w' f => hr w' f (h w' f)
theorem Kept.and {V : Nat → Prop} {w : World} {Q R : World → Prop} (h : Kept V w Q) (h' : Kept V w R) : Kept V w (fun w => Q w ∧ R w) := fun w' f => ⟨h w' f, h' w' f⟩

structure InD where
  from_ : PointD
  key : List Int
structure TxD where
  ver : Int
  ins : List InD
  outs : List OutD
structure BlkD where
  tag : Int
  pay : List OutD
  txs : List TxD
/-- Rows of elements of k cells, of each of which q is said. -/
def RowsIs {α : Type} (k : Nat) (q : World → α → List Value → Prop) (w : World) (v : Value) (L : List α) : Prop :=
  ∃ va vc, v = .slice va L.length vc ∧ L.length ≤ maxLen ∧ ∀ (i : Nat) (d : α), L[i]? = some d → ∃ b off cs, va = some ⟨b, off, none⟩ ∧ w.rangeAt b (off + i * k) cs ∧ q w d cs
theorem RowsIs.keep {α : Type} {k : Nat} {q : World → α → List Value → Prop} {w w' : World} {v : Value} {L : List α} (hq : ∀ d cs, q w d cs → q w' d cs) (h : RowsIs k q w v L) (f : Fr No w w') : RowsIs k q w' v L := by
  obtain ⟨va, vc, e, hl, h⟩ := h
  refine ⟨va, vc, e, hl, fun i d hi => ?_⟩
  obtain ⟨b, off, cs, h0, h1, h2⟩ := h i d hi
  exact ⟨b, off, cs, h0, range_keep h1 f id, hq _ _ h2⟩
theorem RowsIs.form {α : Type} {k : Nat} {q : World → α → List Value → Prop} {w : World} {v : Value} {L : List α} (h : RowsIs k q w v L) : ∃ a c, v = .slice a L.length c := by
  obtain ⟨va, vc, e, _⟩ := h
  exact ⟨va, vc, e⟩
theorem RowsIs.at_ {α : Type} {k : Nat} {q : World → α → List Value → Prop} {w : World} {v : Value} {L : List α} (h : RowsIs k q w v L) {i : Nat} {d : α} (hx : L[i]? = some d) : ∃ b off cap cs, v = .slice (some ⟨b, off, none⟩) L.length cap ∧ w.rangeAt b (off + i * k) cs ∧ q w d cs := by
  obtain ⟨va, vc, rfl, -, h⟩ := h
  obtain ⟨b, off, cs, e, h1, h2⟩ := h i d hx
  subst e
  exact ⟨b, off, vc, cs, rfl, h1, h2⟩
theorem RowsIs.len {α : Type} {k : Nat} {q : World → α → List Value → Prop} {w : World} {v : Value} {L : List α} (h : RowsIs k q w v L) : L.length ≤ maxLen := by
  obtain ⟨va, vc, e, h, _⟩ := h
  exact h
theorem RowsIs.nil {α : Type} {k : Nat} {q : World → α → List Value → Prop} {w : World} : RowsIs k q w (.slice none 0 0) ([] : List α) := ⟨none, 0, rfl, Nat.zero_le _, fun i d h => by simp at h⟩
/-- An own row whose elements' cells are known. -/
theorem RowsIs.own {α : Type} {k : Nat} {q : World → α → List Value → Prop} {w : World} {v : Value} {L : List α} {B : Nat} {ty : TypeId} {css : List (List Value)} (hk0 : 0 < k) (h : w.ownsRow B ty k v L.length (css.flatMap id)) (hl : css.length = L.length) (hk : ∀ cs ∈ css, cs.length = k) (hm : L.length ≤ maxLen)
    (hq : ∀ (i : Nat) (d : α) (cs : List Value), L[i]? = some d → css[i]? = some cs → q w d cs) : RowsIs k q w v L := by
  obtain ⟨va, vc, rfl⟩ := h.slice.arg.form
  refine ⟨va, vc, rfl, hm, fun i d hi => ?_⟩
  have hil : i < css.length := by rw [hl]; exact (List.getElem?_eq_some_iff.1 hi).1
  obtain ⟨g, cap, e, hr, -⟩ := own_elem (f := id) hk0 hk h (List.getElem?_eq_getElem hil)
  injection e with e1 e2 e3
  subst e1
  exact ⟨g, 0, css[i], rfl, by rwa [Nat.zero_add], hq i d _ hi (List.getElem?_eq_getElem hil)⟩

/-! ### inputs -/
def KeyIs (w : World) (v : Value) (k : List Int) : Prop := (∀ b ∈ k, 0 ≤ b ∧ b ≤ 255) ∧ ArgIs w v k.length (k.map byteV)
theorem KeyIs.keep {w w' : World} {v : Value} {k : List Int} (h : KeyIs w v k) (f : Fr No w w') : KeyIs w' v k := ⟨h.1, h.2.keep f⟩
def inC (p : PointD) (kv : Value) : List Value := pointC p ++ [kv]
theorem inC_len {p : PointD} (h : p.ok) (kv : Value) : (inC p kv).length = 34 := by simp [inC, pointC_len h]
theorem inC_one {p : PointD} {a : Option Addr} {n c : Nat} : ∀ u ∈ inC p (.slice a n c), u.oneCell' = true := by
  intro u hu
  simp only [inC, List.mem_append, List.mem_singleton] at hu
  rcases hu with hu | rfl
  · exact pointC_one u hu
  · rfl
def InQ (w : World) (x : InD) (cs : List Value) : Prop := ∃ ka kc, cs = inC x.from_ (.slice ka x.key.length kc) ∧ x.from_.ok ∧ KeyIs w (.slice ka x.key.length kc) x.key
theorem InQ.keep {w w' : World} {x : InD} {cs : List Value} (h : InQ w x cs) (f : Fr No w w') : InQ w' x cs := by
  obtain ⟨ka, kc, e, h1, h2⟩ := h
  exact ⟨ka, kc, e, h1, h2.keep f⟩
abbrev InsIs (w : World) (v : Value) (L : List InD) : Prop := RowsIs 34 InQ w v L
theorem InsIs.keep0 {w w' : World} {v : Value} {L : List InD} (h : InsIs w v L) (f : Fr No w w') : InsIs w' v L := RowsIs.keep (fun _ _ h => h.keep f) h f
theorem descIn : ∃ d, Tryd.prog.underlying 50 = some d ∧ d.isRow = true := row_of (by kernel_rfl)
theorem infoIn : (Tryd.prog.info? 50).map (·.size) = some 34 := by kernel_rfl
theorem zeroIn1 (w : World) : (zeroValue 50).run Tryd.prog w = .ok (.agg (inC point0 (.slice none 0 0)).toArray) w := by kernel_rfl
theorem undIns : Tryd.prog.underlying 39 = some (.slice 50) := by kernel_rfl
theorem infoInZ : (Tryd.prog.info? 50).map (fun i => (i.zero, i.size, i.bytes)) = some (some (.agg (inC point0 (.slice none 0 0)).toArray), 34, 64) := by kernel_rfl
/-- The parts of an input's cells. -/
theorem in_at {w : World} {b off : Nat} {p : PointD} {kv : Value} (r : w.rangeAt b off (inC p kv)) (ok : p.ok) : w.rangeAt b off (pointC p) ∧ w.cell? ⟨b, off + 33, none⟩ = some kv := by
  refine ⟨fun j u hj => r j u ?_, ?_⟩
  · unfold inC
    rw [List.getElem?_append_left (List.getElem?_eq_some_iff.1 hj).1]
    exact hj
  · refine r 33 kv ?_
    unfold inC
    rw [List.getElem?_append_right (by rw [pointC_len ok]; exact Nat.le_refl _), pointC_len ok]
    rfl
theorem pt_at {w : World} {b off : Nat} {p : PointD} (r : w.rangeAt b off (pointC p)) (ok : p.ok) : w.rangeAt b off (p.tx.map byteV) ∧ w.cell? ⟨b, off + 32, none⟩ = some (.int .u32 p.n) := by
  refine ⟨fun j u hj => r j u ?_, r 32 _ (pointC_32 ok)⟩
  unfold pointC
  rw [List.getElem?_append_left (List.getElem?_eq_some_iff.1 hj).1]
  exact hj
/-! ### transactions -/
def txC (v : Int) (iv ov : Value) : List Value := [.int .u32 v, iv, ov]
def TxQ (w : World) (t : TxD) (cs : List Value) : Prop := ∃ ia ic oa oc, cs = txC t.ver (.slice ia t.ins.length ic) (.slice oa t.outs.length oc) ∧ (0 ≤ t.ver ∧ t.ver ≤ 4294967295) ∧ InsIs w (.slice ia t.ins.length ic) t.ins ∧ OutsIs w (.slice oa t.outs.length oc) t.outs
theorem TxQ.keep {w w' : World} {x : TxD} {cs : List Value} (h : TxQ w x cs) (f : Fr No w w') : TxQ w' x cs := by
  obtain ⟨ia, ic, oa, oc, e, h1, h2, h3⟩ := h
  exact ⟨ia, ic, oa, oc, e, h1, h2.keep0 f, h3.keep f⟩
abbrev TxsIs (w : World) (v : Value) (L : List TxD) : Prop := RowsIs 3 TxQ w v L
theorem TxsIs.keep0 {w w' : World} {v : Value} {L : List TxD} (h : TxsIs w v L) (f : Fr No w w') : TxsIs w' v L := RowsIs.keep (fun _ _ h => h.keep f) h f
theorem txC_one {t : Int} {a b : Option Addr} {n c m d : Nat} : ∀ u ∈ txC t (.slice a n c) (.slice b m d), u.oneCell' = true := by
  intro u hu
  simp only [txC, List.mem_cons, List.not_mem_nil, or_false] at hu
  rcases hu with rfl | rfl | rfl <;> rfl
theorem descTx : ∃ d, Tryd.prog.underlying 41 = some d ∧ d.isRow = true := row_of (by kernel_rfl)
theorem infoTx : (Tryd.prog.info? 41).map (·.size) = some 3 := by kernel_rfl
theorem undTxs : Tryd.prog.underlying 25 = some (.slice 41) := by kernel_rfl
theorem infoTxZ : (Tryd.prog.info? 41).map (fun i => (i.zero, i.size, i.bytes)) = some (some (.agg (txC 0 (.slice none 0 0) (.slice none 0 0)).toArray), 3, 56) := by kernel_rfl
/-! ### blocks -/
def blkC (t : Int) (pv tv : Value) : List Value := [.int .u64 t, pv, tv]
def BlkQ (w : World) (b : BlkD) (cs : List Value) : Prop := ∃ pa pc ta tc, cs = blkC b.tag (.slice pa b.pay.length pc) (.slice ta b.txs.length tc) ∧ (0 ≤ b.tag ∧ b.tag ≤ 18446744073709551615) ∧ OutsIs w (.slice pa b.pay.length pc) b.pay ∧ TxsIs w (.slice ta b.txs.length tc) b.txs
theorem BlkQ.keep {w w' : World} {x : BlkD} {cs : List Value} (h : BlkQ w x cs) (f : Fr No w w') : BlkQ w' x cs := by
  obtain ⟨ia, ic, oa, oc, e, h1, h2, h3⟩ := h
  exact ⟨ia, ic, oa, oc, e, h1, h2.keep f, h3.keep0 f⟩
theorem descBlk : ∃ d, Tryd.prog.underlying 27 = some d ∧ d.isRow = true := row_of (by kernel_rfl)
theorem infoBlk : (Tryd.prog.info? 27).map (·.size) = some 3 := by kernel_rfl
end Go.Proofs.YtmpamcnlineceaaDoor

/- sha: one piece; Twice; fee.Lock. -/
namespace Go.Proofs.YtmpamcnlineceaaDoor
open Go Go.RowKit Go.Maps Go.MapKept

structure ShaW (w : World) : Prop where
  at_ : ShaAt w
  lt : 2 < w.heap.size
theorem ShaW.keep {w w' : World} (h : ShaW w) {W : Nat → Prop} (f : Fr W w w') (hw : ∀ j, W j → 2 < j) : ShaW w' := ⟨h.at_.keep f (fun h => by have := hw _ h; omega) (fun h => by have := hw _ h; omega), Nat.lt_of_lt_of_le h.lt f.size⟩
theorem ShaW.keep0 {w w' : World} (h : ShaW w) (f : Fr No w w') : ShaW w' := h.keep f (fun _ h => h.elim)
theorem shaSum_ok (l : List Int) : hashOk (shaSum l) := by
  refine ⟨sumS_len hash0S_ok.adds, fun x hx => ?_⟩
  unfold shaSum sumS at hx
  obtain ⟨y, _, hy⟩ := List.mem_flatMap.1 hx
  simp only [wordB, List.mem_cons, List.not_mem_nil, or_false] at hy
  rcases hy with rfl | rfl | rfl | rfl <;> omega
theorem shaTwice_ok (l : List Int) : hashOk (shaTwice l) := shaSum_ok _
theorem bytes_at {w : World} {kv : Value} {k : List Int} (h : ArgIs w kv k.length (k.map byteV)) {p : Nat} (hp : w.heap.size ≤ p) : BytesAt w p kv k := by
  rcases h with (⟨rfl, h1, -⟩ | ⟨b, off, cap, rfl, h1, h2, h3, h4⟩) | ⟨a, cap, rfl, h1, -, -⟩
  · exact .inl ⟨List.eq_nil_of_length_eq_zero h1, none, 0, rfl⟩
  · exact .inr ⟨b, off, cap, rfl, by omega, h3, h1⟩
  · exact .inl ⟨List.eq_nil_of_length_eq_zero h1, some a, cap, rfl⟩
theorem piece_at {w : World} {kv : Value} {k : List Int} (h : ArgIs w kv k.length (k.map byteV)) : ∀ p, (w.alloc (.cells #[kv] 48)).heap.size ≤ p → PiecesAt (w.alloc (.cells #[kv] 48)) p (.slice (some ⟨w.heap.size, 0, none⟩) 1 1) [k] := fun p hp => by
  have hs : (w.alloc (.cells #[kv] 48)).heap.size = w.heap.size + 1 := by simp
  refine ⟨_, _, rfl, fun i l hi => ?_⟩
  cases i with
  | succ i => simp at hi
  | zero =>
    have e : k = l := by simpa using hi
    subst e
    exact ⟨w.heap.size, 0, kv, rfl, by omega, range_obj (new_obj w (.cells #[kv] 48)) 0 _ rfl, bytes_at (h.keep ((Fr.refl No w).alloc _)) hp⟩
theorem descHashC : ∃ d, Tryd.prog.underlying 45 = some d ∧ d.isRow = true := row_of (by kernel_rfl)
set_option maxRecDepth 20000 in
set_option maxHeartbeats 4000000 in
theorem sum1_any {w : World} (hg : ShaW w) {kv : Value} {k : List Int} (h : ArgIs w kv k.length (k.map byteV)) (hn : k.length ≤ 1000000000000) :
    Calls Tryd.prog 43 #[.slice (some ⟨w.heap.size, 0, none⟩) 1 1] (w.alloc (.cells #[kv] 48)) fun e w' => e = .returned (.agg ((shaSum k).map byteV).toArray) ∧ Fr No (w.alloc (.cells #[kv] 48)) w' := by
  have f := (Fr.refl No w).alloc (.cells #[kv] 48)
  have g := hg.keep0 f
  have := sum_any g.at_ g.lt (v := .slice (some ⟨w.heap.size, 0, none⟩) 1 1) (L := [k]) (piece_at h) (by simp) (by simpa using hn)
  simpa using this
set_option maxRecDepth 20000 in
set_option maxHeartbeats 4000000 in
theorem lock_any {w : World} (hg : ShaW w) {kv : Value} {k : List Int} (h : ArgIs w kv k.length (k.map byteV)) (hn : k.length ≤ 1000000000000) :
    Calls Tryd.prog 65 #[kv] w fun e w' => e = .returned (.agg (hashC (shaSum k)).toArray) ∧ Fr No w w' := by
  have z32 : ∀ w, (zeroValue 45).run Tryd.prog w = .ok (.agg zero32) w := fun w => by kernel_rfl
  have F1 := Lib.hid (show Fr No w (w.alloc (.cells zero32 45)) from (Fr.refl No w).alloc _)
  have B1 := Lib.hid (new_obj w (.cells zero32 45))
  have Q1 := Lib.hid (show (w.alloc (.cells zero32 45)).heap.size = w.heap.size + 1 by simp)
  have HS := Lib.hid (sum1_any (hg.keep0 F1.out) (h.keep F1.out) hn)
  have SL := Lib.hid (show ((shaSum k).map byteV).length = 32 by rw [List.length_map]; exact (shaSum_ok k).1)
  obtain ⟨va, vc, rfl⟩ := h.form
  clear hg h
  unfold hashC
  generalize shaSum k = SB at *
  go_enter Tryd.func65, Tryd.ntmps65
  generalize hw1 : w.alloc (.cells zero32 45) = w1 at *
  have F2 := Lib.hid (show Fr No w1 (w1.alloc (.cells #[.slice va k.length vc] 48)) from (Fr.refl No w1).alloc _)
  go_wp2_with (first | (go_at_call 43; refine HS.out.mono ?_; rintro e w4 ⟨rfl, f4⟩; have F4 := Lib.hid f4; clear f4) | ((with_reducible refine at_store ?_); refine wpList_done rfl (exec_store (ty := 45) (b := w.heap.size) (off := 0) (cs := SB.map byteV) rfl rfl rfl (by rw [SL.out]; exact there_obj (F4.out.obj (F2.out.obj B1.out id) id) (Nat.le_refl 32)) (by rw [SL.out]; exact infoHash32) (fun v hv => by obtain ⟨x, -, rfl⟩ := List.mem_map.1 hv; rfl)) ?_))
  have HB := Lib.hid (show w4.heap[w.heap.size]? = some (.cells zero32 45 (0, 0)) from F4.out.obj (F2.out.obj B1.out id) id)
  have HE := setCells_heap w.heap.size 45 (SB.map byteV) 0 w4 zero32 HB.out
  have e := setM_mid (SB.map byteV) [] zero32.toList [] (by rw [SL.out]; rfl)
  simp only [List.nil_append, List.append_nil, List.length_nil] at e
  rw [e] at HE
  exact bodyPost_ret (v := .agg (SB.map byteV).toArray) (results_cell_row (P := Tryd.prog) (fn := Tryd.f65) rfl _ _ w.heap.size 45 (SB.map byteV).toArray (0, 0) _ rfl HE Tryd.underlying45 rfl (by rw [List.size_toArray, SL.out]; exact infoHash32)) rfl ⟨rfl, ((F1.out.trans0 F2.out).trans0 F4.out).trans (setCells_fr _ _ _ _) (fun i hi e => (show False by omega))⟩
set_option maxRecDepth 20000 in
set_option maxHeartbeats 4000000 in
theorem twice_any {w : World} (hg : ShaW w) {v : Value} {L : List (List Int)} (hl : ∀ p, w.heap.size ≤ p → PiecesAt w p v L) (hL : L.length ≤ 1000000) (hn : L.flatten.length ≤ 1000000000000) :
    Calls Tryd.prog 29 #[v] w fun e w' => e = .returned (.agg (hashC (shaTwice L.flatten)).toArray) ∧ Fr No w w' := by
  have z32 : ∀ w, (zeroValue 45).run Tryd.prog w = .ok (.agg zero32) w := fun w => by kernel_rfl
  have F1 := Lib.hid (show Fr No w (w.alloc (.cells zero32 45)) from (Fr.refl No w).alloc _)
  have B1 := Lib.hid (new_obj w (.cells zero32 45))
  have Q1 := Lib.hid (show (w.alloc (.cells zero32 45)).heap.size = w.heap.size + 1 by simp)
  have G1 := Lib.hid (hg.keep0 F1.out)
  have HS := Lib.hid (sum_any G1.out.at_ G1.out.lt (fun p hp => (hl p (Nat.le_trans F1.out.size hp)).keep F1.out.of0) hL hn)
  have S1L := Lib.hid (show ((shaSum L.flatten).map byteV).length = 32 by rw [List.length_map]; exact (shaSum_ok _).1)
  have SL := Lib.hid (show ((shaTwice L.flatten).map byteV).length = 32 by rw [List.length_map]; exact (shaSum_ok _).1)
  have HT := Lib.hid (fun (w : World) (hg : ShaW w) (kv : Value) (h : ArgIs w kv (shaSum L.flatten).length ((shaSum L.flatten).map byteV)) => sum1_any hg h (by rw [(shaSum_ok L.flatten).1]; decide))
  have ST := Lib.hid (show shaSum (shaSum L.flatten) = shaTwice L.flatten from rfl)
  rw [ST.out] at HT
  have S32 := Lib.hid ((shaSum_ok L.flatten).1)
  obtain ⟨va, vc, rfl, -⟩ := hl w.heap.size (Nat.le_refl _)
  clear hg hl ST
  unfold hashC
  generalize shaTwice L.flatten = TB at *
  generalize shaSum L.flatten = SB at *
  go_enter Tryd.func29, Tryd.ntmps29
  generalize hw1 : w.alloc (.cells zero32 45) = w1 at *
  have M0 := Lib.hid True.intro
  have M1 := Lib.hid True.intro
  have M2 := Lib.hid True.intro
  have M3 := Lib.hid True.intro
  go_wp2_with (first | (have mk := M0.out; go_at_call 43; refine HS.out.mono ?_; rintro e w2 ⟨rfl, f2⟩; have F2 := Lib.hid f2; clear f2; go_frame; clear mk M0) | ((with_reducible refine at_store ?_); have mk := M1.out; refine wpList_done rfl (exec_store_new (w := w2) (ty := 45) (cs := SB.map byteV) rfl rfl rfl (by rw [S1L.out]; rfl) (by rw [S1L.out]; exact infoHash32) (fun v hv => by obtain ⟨x, -, rfl⟩ := List.mem_map.1 hv; rfl)) ?_; have B3 := Lib.hid (new_obj w2 (.cells (SB.map byteV).toArray 45)); have F3 := Lib.hid (show Fr No w2 (w2.alloc (.cells (SB.map byteV).toArray 45)) from (Fr.refl No w2).alloc _); have Q3 := Lib.hid (show w2.heap.size < (w2.alloc (.cells (SB.map byteV).toArray 45)).heap.size by simp); generalize w2.alloc (.cells (SB.map byteV).toArray 45) = w3 at *; generalize w2.heap.size = q3 at *; have HU := Lib.hid (HT.out w3 ((G1.out.keep0 F2.out).keep0 F3.out) (.slice (some ⟨q3, 0, none⟩) 32 32) (by rw [S32.out]; exact .inl (.inr ⟨q3, 0, 32, rfl, Nat.le_refl _, by decide, range_obj B3.out, Q3.out⟩))); have F4 := Lib.hid (show Fr No w3 (w3.alloc (.cells #[.slice (some ⟨q3, 0, none⟩) 32 32] 48)) from (Fr.refl No w3).alloc _); go_frame; clear mk M1) | (have mk := M2.out; go_at_call 43; refine HU.out.mono ?_; rintro e w5 ⟨rfl, f5⟩; have F5 := Lib.hid f5; clear f5; have B5 := Lib.hid (F5.out.obj (F4.out.obj (F3.out.obj (F2.out.obj B1.out id) id) id) id); go_frame; clear mk M2) | ((with_reducible refine at_store ?_); have mk := M3.out; refine wpList_done rfl (exec_store (ty := 45) (b := w.heap.size) (off := 0) (cs := TB.map byteV) rfl rfl rfl (by rw [SL.out]; exact there_obj B5.out (Nat.le_refl 32)) (by rw [SL.out]; exact infoHash32) (fun v hv => by obtain ⟨x, -, rfl⟩ := List.mem_map.1 hv; rfl)) ?_; go_frame; clear mk M3))
  have HE := setCells_heap w.heap.size 45 (TB.map byteV) 0 w5 zero32 B5.out
  have e := setM_mid (TB.map byteV) [] zero32.toList [] (by rw [SL.out]; rfl)
  simp only [List.nil_append, List.append_nil, List.length_nil] at e
  rw [e] at HE
  exact bodyPost_ret (v := .agg (TB.map byteV).toArray) (results_cell_row (P := Tryd.prog) (fn := Tryd.f29) rfl _ _ w.heap.size 45 (TB.map byteV).toArray (0, 0) _ rfl HE Tryd.underlying45 rfl (by rw [List.size_toArray, SL.out]; exact infoHash32)) rfl ⟨rfl, ((((F1.out.trans0 F2.out).trans0 F3.out).trans0 F4.out).trans0 F5.out).trans (setCells_fr _ _ _ _) (fun i hi e => (show False by omega))⟩
end Go.Proofs.YtmpamcnlineceaaDoor
