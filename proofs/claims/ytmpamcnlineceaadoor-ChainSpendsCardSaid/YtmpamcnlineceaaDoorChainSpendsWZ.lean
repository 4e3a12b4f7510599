/- pappuslaw11: ChainSpends. -/
import Derived.Test.YtmpamcnlineceaaDoorMG44
import Derived.Test.YtmpamcnlineceaaDoorSameTZ
import Derived.Test.YtmpamcnlineceaaDoorTwoRowsZ
set_option linter.unusedVariables false
set_option linter.unusedSimpArgs false
set_option linter.unnecessarySimpa false
set_option linter.all false
namespace Go.Proofs.YtmpamcnlineceaaDoor
open Go Go.RowKit Go.Maps Go.MapKept

theorem pts_len {l : List PointD} (h : ∀ x ∈ l, x.ok) : (l.flatMap pointC).length = l.length * 33 := flatR_len pointC 33 l (fun x hx => pointC_len (h x hx))
theorem pts_one {l : List PointD} : ∀ u ∈ l.flatMap pointC, u.oneCell' = true := fun u hu => by
  obtain ⟨x, _, hx⟩ := List.mem_flatMap.1 hu
  exact pointC_one u hx
theorem append_pts (w : World) {B : Nat} {v x : Value} {k l : List PointD} (hv : w.ownsRow B 47 33 v k.length (k.flatMap pointC)) (hx : PointsIs w x l) (hn : k.length + l.length ≤ 100000) (hB : B ≤ w.heap.size) (ty : TypeId) :
    ∃ v' w', (Builtin.append_ #[75, 75] ty #[v, x]).run Tryd.prog w = .ok v' w' ∧ w'.ownsRow B 47 33 v' (k ++ l).length ((k ++ l).flatMap pointC) ∧ Fr (fun j => v.ownBlock = some j) w w' ∧ GrowTo w v v' := by
  by_cases hnil : x = .slice none 0 0
  · obtain ⟨a, c, h⟩ := hx.2.form
    rw [hnil] at h
    injection h with h1 h2 h3
    have hm : l = [] := List.eq_nil_of_length_eq_zero h2.symm
    subst hm
    obtain ⟨v', w', a1, a2, a3, a4⟩ := append_sl (P := Tryd.prog) w B 75 ty 47 33 36 _ undPoints infoPointZ (by show (pointC point0).toArray.size = 33; rfl) (by decide) v k.length (k.flatMap pointC) hv x 0 [] (.inl ⟨hnil, rfl, rfl⟩) rfl (by simp) (by simp at hn ⊢; omega) (by unfold maxLen; simp at hn; omega) hB
    exact ⟨v', w', a1, by simpa using a2, a3, a4⟩
  · obtain ⟨v', w', a1, a2, a3, -, a4⟩ := append_own (P := Tryd.prog) w B 75 ty 47 33 36 _ undPoints infoPointZ (by show (pointC point0).toArray.size = 33; rfl) (by decide) v k.length (k.flatMap pointC) hv x l.length (l.flatMap pointC) hx.2 (pts_len hx.1) pts_one (by omega) (by unfold maxLen; omega) hB hnil
    refine ⟨v', w', a1, ?_, (Fr.refl _ w).grown a3 (fun k e => .inr e), a4⟩
    rw [List.flatMap_append, List.length_append]
    exact a2
theorem append_pt (w : World) {B : Nat} {v : Value} {k : List PointD} {p : PointD} (hv : w.ownsRow B 47 33 v k.length (k.flatMap pointC)) (hp : p.ok) (hn : k.length + 1 ≤ 100000) (hB : B ≤ w.heap.size) :
    ∃ v' w', (Builtin.append_ #[75, 75] 75 #[v, .slice (some ⟨w.heap.size, 0, none⟩) 1 1]).run Tryd.prog (w.alloc (.cells (pointC p).toArray 47)) = .ok v' w' ∧ w'.ownsRow B 47 33 v' (k ++ [p]).length ((k ++ [p]).flatMap pointC) ∧ Fr (fun j => v.ownBlock = some j) w w' ∧ GrowTo w v v' := by
  obtain ⟨v', w', a1, a2, a3, -, a5⟩ := append_blk (P := Tryd.prog) w B 75 75 47 33 36 _ undPoints infoPointZ (by show (pointC point0).toArray.size = 33; rfl) (by decide) hv (pointC p) (pointC_len hp) pointC_one (by omega) (by unfold maxLen; omega) hB
  refine ⟨v', w', a1, ?_, a3, a5⟩
  rw [List.flatMap_append, List.length_append]
  simpa using a2
theorem blk_txs' {w : World} {b : BlkD} {pa ta : Option Addr} {pc tc : Nat} (h : BlkQ w b [.int .u64 b.tag, .slice pa b.pay.length pc, .slice ta b.txs.length tc]) : OutsIs w (.slice pa b.pay.length pc) b.pay ∧ TxsIs w (.slice ta b.txs.length tc) b.txs := by
  obtain ⟨pa', pc', ta', tc', e, _, ho, ht⟩ := h
  simp only [blkC, List.cons.injEq, and_true] at e
  obtain ⟨-, e1, e2⟩ := e
  injection e1 with e11 _ e13
  injection e2 with e21 _ e23
  subst e11; subst e13; subst e21; subst e23
  exact ⟨ho, ht⟩
theorem elPoint' : ElT Tryd.prog 75 47 33 36 (.agg (pointC point0).toArray) := ⟨undPoints, infoPointZ, rfl, by decide, by decide⟩
theorem idE0 {t : TxD} (h : formB t = true) : idE t = 0 := by unfold idE; rw [if_pos h]
theorem map_flat1 {α β : Type} (f : α → β) (l : List α) : l.map f = l.flatMap fun x => [f x] := by
  induction l with
  | nil => rfl
  | cons a l ih => simp [ih]
theorem undBools : Tryd.prog.underlying 77 = some (.slice 4) := by kernel_rfl
theorem infoBoolZ : (Tryd.prog.info? 4).map (fun i => (i.zero, i.size, i.bytes)) = some (some (.bool false), 1, 1) := by kernel_rfl
def boolsV (S : List CoinD) (l : List PointD) : List Value := l.map fun q => .bool (hasC S q)
theorem append_bool (w : World) {B : Nat} {v : Value} {S : List CoinD} {l : List PointD} {b : Bool} {q : PointD} (hb : hasC S q = b) (hv : w.ownsRow B 4 1 v l.length (boolsV S l)) (hn : l.length + 1 ≤ 100000) (hB : B ≤ w.heap.size) :
    ∃ v' w', (Builtin.append_ #[77, 77] 77 #[v, .slice (some ⟨w.heap.size, 0, none⟩) 1 1]).run Tryd.prog (w.alloc (.cells #[.bool b] 4)) = .ok v' w' ∧ w'.ownsRow B 4 1 v' (l ++ [q]).length (boolsV S (l ++ [q])) ∧ Fr (fun j => v.ownBlock = some j) w w' ∧ GrowTo w v v' := by
  obtain ⟨v', w', a1, a2, a3, -, a5⟩ := append_blk (P := Tryd.prog) w B 77 77 4 1 1 _ undBools infoBoolZ rfl (by decide) hv [.bool b] rfl (fun u hu => by simp at hu; subst hu; rfl) (by omega) (by unfold maxLen; omega) hB
  refine ⟨v', w', a1, ?_, a3, a5⟩
  unfold boolsV
  rw [List.map_append, List.length_append]
  simpa [hb, boolsV] using a2
/-- Two rows of points joined in a new one. -/
theorem joined (w : World) {B : Nat} {gv mv : Value} {G M : List PointD} (hg : w.ownsRow B 47 33 gv G.length (G.flatMap pointC)) (hm : w.ownsRow B 47 33 mv M.length (M.flatMap pointC)) (gok : ∀ x ∈ G, x.ok) (mok : ∀ x ∈ M, x.ok) (hn : G.length + M.length ≤ 1000) (hB : B ≤ w.heap.size) :
    ∃ v0 w1 v1 w2 v2 w3, (Instr.buildSlice 75 0 #[]).run Tryd.prog w = .ok v0 w1 ∧ (Builtin.append_ #[75, 75] 75 #[v0, gv]).run Tryd.prog w1 = .ok v1 w2 ∧ (Builtin.append_ #[75, 75] 75 #[v1, mv]).run Tryd.prog w2 = .ok v2 w3 ∧ w3.ownsRow w.heap.size 47 33 v2 (G ++ M).length ((G ++ M).flatMap pointC) ∧ Fr No w w3 := by
  obtain ⟨v0, w1, r0, o0, f0, n0⟩ := bld0_own (P := Tryd.prog) (w := w) elPoint' w.heap.size (Nat.le_refl _)
  obtain ⟨v1, w2, r1, o1, f1, n1⟩ := append_pts w1 (k := []) (l := G) (x := gv) (by simpa using o0) ⟨gok, (ownsRow_keep hg f0 (fun _ _ => _root_.id)).slice.arg⟩ (by simp; omega) f0.size 75
  rw [List.nil_append] at o1
  have f02 : Fr No w w2 := f0.trans f1 (fun j hj e => by have := n0 j e; omega)
  obtain ⟨v2, w3, r2, o2, f2, n2⟩ := append_pts w2 (k := G) (l := M) (x := mv) o1 ⟨mok, (ownsRow_keep hm f02 (fun _ _ => _root_.id)).slice.arg⟩ (by omega) f02.size 75
  exact ⟨v0, w1, v1, w2, v2, w3, r0, r1, r2, o2, f02.trans f2 (fun j hj e => by have := (o1.lt j e).1; omega)⟩
theorem spends_iff {K : List HashD} {S : List CoinD} {b : BlkD} (h : (doR K S b).E = 0) {GP MP : List PointD} (hg : GP = b.txs.flatMap ptsD) (hm : MP = (payD b).map (·.at_) ++ b.txs.flatMap fun t => (madeC t).map (·.at_)) (p : PointD) : (hasC (doR K S b).S p = true ↔ 0 < cnt S p + (MP.count p : Int) - (GP.count p : Int)) := by
  have h1 := spends h p
  rw [← hg, ← hm] at h1
  have h2 : hasC (doR K S b).S p = true ↔ 0 < cnt (doR K S b).S p := by
    unfold cnt
    split
    · rename_i h; exact ⟨fun _ => by omega, fun _ => h⟩
    · rename_i h; exact ⟨fun e => absurd e h, fun e => by omega⟩
  rw [h2, h1]
  omega
theorem spend_back0 {S0 S : List CoinD} {bs : List DoneD} {b : BlkD} (h : HOk S0 bs S) (hb : BOk b) (hc : connE (idsOf bs) S bs b = 0) : (doR (idsOf bs) S b).d.blk = b ∧ undoS (doR (idsOf bs) S b).d.chg (doR (idsOf bs) S b).S = S ∧ (∀ t ∈ b.txs, formB t = true ∧ idH t ∈ idsOf (bs ++ [(doR (idsOf bs) S b).d]) ∧ idH t ∉ idsOf bs) ∧ b.pay.length ≤ 8 ∧ b.txs.length ≤ 16 := by
  obtain ⟨h1, h2, h3, h4⟩ := conn0 hc
  obtain ⟨p1, p2, p3⟩ := blkOk_iff h2
  obtain ⟨a1, a2, a3, a4, a5, a6, a7, a8, a9, a10⟩ := doR_ok (K := idsOf bs) h.srt h.ok (fun t ht => (hb.1 t ht).2) hb.2 p2 p1
  obtain ⟨r1, r2, r3, r4⟩ := doR0 h4
  have hids : (doR (idsOf bs) S b).d.ids = b.txs.map idH := by
    rw [r4]
    have := (runT_all b.txs (st0 S) r1).1
    dsimp only
    rw [this]
    rfl
  refine ⟨a5, a4, fun t ht => ⟨p3 t ht, ?_, ?_⟩, p1, p2⟩
  · rw [idsOf_snoc, hids]
    exact List.mem_append.2 (.inr (List.mem_map.2 ⟨t, ht, rfl⟩))
  · exact a9 _ (by rw [hids]; exact List.mem_map.2 ⟨t, ht, rfl⟩)
theorem spend_back {S0 S : List CoinD} {bs : List DoneD} {b : BlkD} (h : HOk S0 bs S) (hb : BOk b) (hc : connE (idsOf bs) S bs b = 0) : (doR (idsOf bs) S b).d.blk = b ∧ undoS (doR (idsOf bs) S b).d.chg (doR (idsOf bs) S b).S = S ∧ (∀ t ∈ b.txs, formB t = true ∧ idH t ∈ idsOf (bs ++ [(doR (idsOf bs) S b).d])) ∧ b.pay.length ≤ 8 ∧ b.txs.length ≤ 16 := by
  obtain ⟨a1, a2, a3, a4, a5⟩ := spend_back0 h hb hc
  exact ⟨a1, a2, fun t ht => ⟨(a3 t ht).1, (a3 t ht).2.1⟩, a4, a5⟩
/-- What a block makes and what it spends. -/
def mtP (t : TxD) : List PointD := (madeC t).map (·.at_)
def mdN (b : BlkD) (n : Nat) : List PointD := (payD b).map (·.at_) ++ (b.txs.take n).flatMap mtP
def gnN (b : BlkD) (n : Nat) : List PointD := (b.txs.take n).flatMap ptsD
def mdK (b : BlkD) (n : Nat) (t : TxD) (k : Nat) : List PointD := mdN b n ++ (mtP t).take k
def mdP (b : BlkD) : List PointD := mdN b b.txs.length
def gnP (b : BlkD) : List PointD := gnN b b.txs.length
def allP (b : BlkD) : List PointD := gnP b ++ mdP b
theorem mtP_len (t : TxD) : (mtP t).length = t.outs.length := by unfold mtP; rw [List.length_map, madeC_len]
theorem mdN_zero (b : BlkD) : mdN b 0 = (payD b).map (·.at_) := by simp [mdN]
theorem gnN_zero (b : BlkD) : gnN b 0 = [] := by simp [gnN]
theorem mdK_zero (b : BlkD) (n : Nat) (t : TxD) : mdK b n t 0 = mdN b n := by simp [mdK]
theorem gnN_succ {b : BlkD} {n : Nat} {t : TxD} (h : b.txs[n]? = some t) : gnN b (n + 1) = gnN b n ++ ptsD t := by
  unfold gnN
  rw [List.take_add_one, h, List.flatMap_append]
  simp
theorem mdN_succ {b : BlkD} {n : Nat} {t : TxD} (h : b.txs[n]? = some t) : mdN b (n + 1) = mdK b n t t.outs.length := by
  have e : (mtP t).take t.outs.length = mtP t := List.take_of_length_le (by rw [mtP_len]; exact Nat.le_refl _)
  unfold mdK mdN
  rw [List.take_add_one, h, List.flatMap_append, ← List.append_assoc, e]
  simp
theorem mdK_succ {b : BlkD} {n : Nat} {t : TxD} {k : Nat} {p : PointD} (h : (mtP t)[k]? = some p) : mdK b n t (k + 1) = mdK b n t k ++ [p] := by
  unfold mdK
  rw [List.take_add_one, h, List.append_assoc]
  rfl
theorem flat8 {α : Type} (f : TxD → List α) : ∀ (l : List TxD), (∀ t ∈ l, (f t).length ≤ 8) → (l.flatMap f).length ≤ 8 * l.length
  | [], _ => Nat.zero_le _
  | t :: l, h => by
    have h1 := flat8 f l (fun u hu => h u (.tail _ hu))
    have h2 := h t (.head _)
    rw [List.flatMap_cons, List.length_append, List.length_cons]
    omega
theorem mdN_len {b : BlkD} (h : ∀ t ∈ b.txs, formB t = true) (hp : b.pay.length ≤ 8) (ht : b.txs.length ≤ 16) (n : Nat) : (mdN b n).length ≤ 136 ∧ (gnN b n).length ≤ 128 := by
  have h1 := flat8 mtP (b.txs.take n) (fun t ht => by rw [mtP_len]; exact (form8 (h t (List.mem_of_mem_take ht))).2)
  have h2 := flat8 ptsD (b.txs.take n) (fun t ht => by rw [ptsD_len]; exact (form8 (h t (List.mem_of_mem_take ht))).1)
  have h3 : (b.txs.take n).length ≤ 16 := by rw [List.length_take]; omega
  unfold mdN gnN
  rw [List.length_append, List.length_map, payD_len]
  omega
set_option maxRecDepth 20000 in
set_option maxHeartbeats 8000000 in
theorem spendsLaw_any {w : World} (hg : ShaW w) {fv lv : Value} {F : List OutD} {L : List Act11} (hf : OutsIs w fv F) (hl : Acts11Is w lv L) {b : BlkD} {cs : List Value} (hb : BlkQ w b cs) :
    Calls Tryd.prog 8 #[fv, lv, .agg cs.toArray] w fun e w' => e = .returned (.bool true) ∧ Fr No w w' := by
  have HG := Lib.hid hg
  have HF := Lib.hid hf
  have HL := Lib.hid hl
  have HB := Lib.hid hb
  obtain ⟨fa, fc, rfl⟩ := hf.2.form
  obtain ⟨la, lc, rfl⟩ := hl.form
  obtain ⟨pa, pc, ta, tc, rfl⟩ := hb.form
  obtain ⟨dB, uB, rB⟩ := descBlk
  have F1 := Lib.hid ((Fr.refl No w).alloc (.cells #[.int .u64 b.tag, .slice pa b.pay.length pc, .slice ta b.txs.length tc] 27))
  obtain ⟨-, -, -, xr⟩ := row3_new w (.int .u64 b.tag) (.slice pa b.pay.length pc) (.slice ta b.txs.length tc) 27
  have KR := Lib.hid (fun (w' : World) (f : Fr No (w.alloc (.cells #[.int .u64 b.tag, .slice pa b.pay.length pc, .slice ta b.txs.length tc] 27)) w') => range_keep xr f _root_.id)
  have AL := Lib.hid (aliven_any (hg.keep0 F1.out))
  have GT := Lib.hid (fun (w' : World) (f : Fr No w w') => great11_any w' (hf.keep f) (hl.keep0 f))
  have HV := Lib.hid (fun (w' : World) (f : Fr No w w') => heavy_any w' (hb.keep f))
  have IDC := Lib.hid (fun (w' : World) (f : Fr No w w') => blkid_any (hg.keep0 f) (hb.keep f))
  have HHL := Lib.hid (hashC_len (blkH_ok b))
  have zH := zeroHash
  clear hg hf hl hb xr
  show Calls Tryd.prog 8 #[.slice fa F.length fc, .slice la L.length lc, .agg #[.int .u64 b.tag, .slice pa b.pay.length pc, .slice ta b.txs.length tc]] w _
  by_cases hgt : great11 F L = true
  · have EG := Lib.hid (show (if great11 F L = true then (1 : Int) else 0) = 1 by rw [if_pos hgt])
    clear hgt
    go_enter Tryd.func8, Tryd.ntmps8
    have K0 := Lib.hid True.intro
    have K1 := Lib.hid True.intro
    go_wp2_with (first | (have mk := K0.out; go_at_call 10; generalize w.alloc (.cells #[.int .u64 b.tag, .slice pa b.pay.length pc, .slice ta b.txs.length tc] 27) = w1 at *; refine AL.out.mono ?_; rintro e w2 ⟨rfl, f2⟩; have F2 := Lib.hid (F1.out.trans0 f2); clear f2; go_frame; clear mk K0) | (have mk := K1.out; go_at_call 11; refine (GT.out w2 F2.out).mono ?_; rintro e w3 ⟨rfl, f3⟩; rw [EG.out]; have F3 := Lib.hid (F2.out.trans0 f3); clear f3; go_frame; clear mk K1))
    go_ret
    exact ⟨rfl, F3.out⟩
  have EG := Lib.hid (show (if great11 F L = true then (1 : Int) else 0) = 0 by rw [if_neg hgt])
  obtain ⟨g1, g2, g3⟩ := great11_not (show great11 F L = false by simpa using hgt)
  clear hgt
  by_cases hhv : heavyB b = true
  · have EH := Lib.hid hhv
    clear hhv
    go_enter Tryd.func8, Tryd.ntmps8
    have K0 := Lib.hid True.intro
    have K1 := Lib.hid True.intro
    have K2 := Lib.hid True.intro
    have K3 := Lib.hid True.intro
    go_wp2_with (first | (have mk := K0.out; go_at_call 10; generalize w.alloc (.cells #[.int .u64 b.tag, .slice pa b.pay.length pc, .slice ta b.txs.length tc] 27) = w1 at *; refine AL.out.mono ?_; rintro e w2 ⟨rfl, f2⟩; have F12 := Lib.hid f2; have F2 := Lib.hid (F1.out.trans0 f2); clear f2; go_frame; clear mk K0) | (have mk := K1.out; go_at_call 11; refine (GT.out w2 F2.out).mono ?_; rintro e w3 ⟨rfl, f3⟩; rw [EG.out]; have F13 := Lib.hid (F12.out.trans0 f3); have F3 := Lib.hid (F2.out.trans0 f3); clear f3; go_frame; clear mk K1) | ((with_reducible refine at_dst 44 ?_); have mk := K2.out; refine wpList_vG (o := ⟨some 44, _, _, _, _, _⟩) rfl (exec_load (ty := 27) rfl rfl (KR.out w3 F13.out) uB rB infoBlk) ?_; go_frame; clear mk K2) | (have mk := K3.out; go_at_call 12; refine (HV.out w3 F3.out).mono ?_; rintro e w4 ⟨rfl, f4⟩; rw [EH.out]; have F4 := Lib.hid (F3.out.trans0 f4); clear f4; go_frame; clear mk K3))
    go_ret
    exact ⟨rfl, F4.out⟩
  have EH := Lib.hid (show heavyB b = false by simpa using hhv)
  clear hhv
  have GW := Lib.hid (fun (w' : World) (f : Fr No w w') => grown_g (HG.out.keep0 f) (HF.out.keep f) (HL.out.keep0 f) g2)
  by_cases h256 : 256 < F.length
  · have H256 := Lib.hid h256
    clear h256
    go_enter Tryd.func8, Tryd.ntmps8
    have K0 := Lib.hid True.intro
    have K1 := Lib.hid True.intro
    have K2 := Lib.hid True.intro
    have K3 := Lib.hid True.intro
    have K4 := Lib.hid True.intro
    have K5 := Lib.hid True.intro
    have K6 := Lib.hid True.intro
    have K7 := Lib.hid True.intro
    go_wp2_with (first | (have mk := K0.out; go_at_call 10; generalize w.alloc (.cells #[.int .u64 b.tag, .slice pa b.pay.length pc, .slice ta b.txs.length tc] 27) = w1 at *; refine AL.out.mono ?_; rintro e w2 ⟨rfl, f2⟩; have F12 := Lib.hid f2; have F2 := Lib.hid (F1.out.trans0 f2); clear f2; go_frame; clear mk K0) | (have mk := K1.out; go_at_call 11; refine (GT.out w2 F2.out).mono ?_; rintro e w3 ⟨rfl, f3⟩; rw [EG.out]; have F13 := Lib.hid (F12.out.trans0 f3); have F3 := Lib.hid (F2.out.trans0 f3); clear f3; go_frame; clear mk K1) | ((with_reducible refine at_dst 44 ?_); have mk := K2.out; refine wpList_vG (o := ⟨some 44, _, _, _, _, _⟩) rfl (exec_load (ty := 27) rfl rfl (KR.out w3 F13.out) uB rB infoBlk) ?_; go_frame; clear mk K2) | (have mk := K3.out; go_at_call 12; refine (HV.out w3 F3.out).mono ?_; rintro e w4 ⟨rfl, f4⟩; rw [EH.out]; have F14 := Lib.hid (F13.out.trans0 f4); have F4 := Lib.hid (F3.out.trans0 f4); clear f4; go_frame; clear mk K3) | (have mk := K4.out; go_at_call 13; refine (GW.out w4 F4.out).mono ?_; intro e w5 hgr; obtain ⟨rfl, rfl⟩ : e = .returned (.pointer none) ∧ w4 = w5 := (by rcases hgr with ⟨_, a, b⟩ | ⟨a, _⟩; exact ⟨a, b.symm⟩; exact absurd H256.out (by omega)); clear hgr; go_frame; clear mk K4) | ((with_reducible refine at_dst 51 ?_); have mk := K5.out; refine wpList_value (o := ⟨some 51, _, _, _, _, _⟩) rfl (exec_load (ty := 27) rfl rfl (KR.out w4 F14.out) uB rB infoBlk) ?_; go_frame; clear mk K5) | (have mk := K6.out; go_at_call 25; refine (IDC.out w4 F4.out).mono ?_; rintro e w6 ⟨rfl, f6⟩; have F6 := Lib.hid ((F4.out.trans0 f6).trans0 ((Fr.refl No w6).alloc (.cells (hashC (blkH b)).toArray 45))); clear f6; go_frame; clear mk K6) | ((with_reducible refine at_store ?_); have mk := K7.out; refine wpList_done rfl (exec_store_new (w := w6) (ty := 45) (cs := hashC (blkH b)) rfl rfl rfl (by rw [HHL.out]; rfl) (by rw [HHL.out]; exact infoHash) hashC_one) ?_; go_frame; clear mk K7))
    go_ret
    exact ⟨rfl, F6.out⟩
  have H256 := Lib.hid (show F.length ≤ 256 by omega)
  clear h256
  obtain ⟨dT, uT, rT⟩ := descTx
  obtain ⟨dH, uH, rH⟩ := descHash
  obtain ⟨dC, uC, rC⟩ := descCoin
  obtain ⟨dP, uP, rP⟩ := descPoint
  obtain ⟨dO, uO, rO⟩ := descOut
  have zT := zeroTx1
  have zC := zeroCoin
  have zP := zeroPoint
  have zO := zeroOutC
  by_cases hok : blkOk b = true
  rotate_left
  · have BE := Lib.hid (show blkE b = 5 by unfold blkE; rw [if_neg hok])
    clear hok
    go_enter Tryd.func8, Tryd.ntmps8
    have K0 := Lib.hid True.intro
    have K1 := Lib.hid True.intro
    have K2 := Lib.hid True.intro
    have K3 := Lib.hid True.intro
    have K4 := Lib.hid True.intro
    have K5 := Lib.hid True.intro
    have K6 := Lib.hid True.intro
    have K7 := Lib.hid True.intro
    go_wp2_with (first | (have mk := K0.out; go_at_call 10; generalize w.alloc (.cells #[.int .u64 b.tag, .slice pa b.pay.length pc, .slice ta b.txs.length tc] 27) = w1 at *; refine AL.out.mono ?_; rintro e w2 ⟨rfl, f2⟩; have F12 := Lib.hid f2; have F2 := Lib.hid (F1.out.trans0 f2); clear f2; go_frame; clear mk K0) | (have mk := K1.out; go_at_call 11; refine (GT.out w2 F2.out).mono ?_; rintro e w3 ⟨rfl, f3⟩; rw [EG.out]; have F13 := Lib.hid (F12.out.trans0 f3); have F3 := Lib.hid (F2.out.trans0 f3); clear f3; go_frame; clear mk K1) | ((with_reducible refine at_dst 44 ?_); have mk := K2.out; refine wpList_vG (o := ⟨some 44, _, _, _, _, _⟩) rfl (exec_load (ty := 27) rfl rfl (KR.out w3 F13.out) uB rB infoBlk) ?_; go_frame; clear mk K2) | (have mk := K3.out; go_at_call 12; refine (HV.out w3 F3.out).mono ?_; rintro e w4 ⟨rfl, f4⟩; rw [EH.out]; have F14 := Lib.hid (F13.out.trans0 f4); have F4 := Lib.hid (F3.out.trans0 f4); clear f4; go_frame; clear mk K3) | (have mk := K4.out; go_at_call 13; refine (GW.out w4 F4.out).mono ?_; intro e w5 hgr; obtain ⟨p, V, S, bs, rfl, hgd, hbs⟩ : ∃ p V S bs, e = .returned (.pointer (some ⟨p, 0, none⟩)) ∧ Gd w4 w5 p V (putC [] (payC hash0 F)) S bs ∧ bs.length ≤ L.length := (by rcases hgr with ⟨a, _⟩ | ⟨_, a⟩; exact absurd H256.out (by omega); exact a); have GD := Lib.hid hgd; have BS := Lib.hid hbs; have F45 := Lib.hid hgd.fr; clear hgr hgd hbs; go_frame; clear mk K4) | ((with_reducible refine at_dst 51 ?_); have mk := K5.out; refine wpList_value (o := ⟨some 51, _, _, _, _, _⟩) rfl (exec_load (ty := 27) rfl rfl (KR.out w5 (F14.out.trans0 F45.out)) uB rB infoBlk) ?_; go_frame; clear mk K5) | (have mk := K6.out; go_at_call 25; refine (IDC.out w5 (F4.out.trans0 F45.out)).mono ?_; rintro e w6 ⟨rfl, f6⟩; rw [BE.out]; have F6 := Lib.hid (f6.trans0 ((Fr.refl No w6).alloc (.cells (hashC (blkH b)).toArray 45))); have B6 := Lib.hid (new_obj w6 (.cells (hashC (blkH b)).toArray 45)); clear f6; go_frame; clear mk K6) | ((with_reducible refine at_store ?_); have mk := K7.out; refine wpList_done rfl (exec_store_new (w := w6) (ty := 45) (cs := hashC (blkH b)) rfl rfl rfl (by rw [HHL.out]; rfl) (by rw [HHL.out]; exact infoHash) hashC_one) ?_; go_frame; clear mk K7))
    go_ret
    exact ⟨rfl, (F4.out.trans0 F45.out).trans0 F6.out⟩
  have BE := Lib.hid (show blkE b = 0 by unfold blkE; rw [if_pos hok])
  obtain ⟨p8, t16, hfm⟩ := blkOk_iff hok
  have HOKB := Lib.hid hok
  have FM := Lib.hid hfm
  have HBO := Lib.hid HB.out.oks
  clear hok hfm
  go_enter Tryd.func8, Tryd.ntmps8
  have K0 := Lib.hid True.intro
  have K1 := Lib.hid True.intro
  have K2 := Lib.hid True.intro
  have K3 := Lib.hid True.intro
  have K4 := Lib.hid True.intro
  have K5 := Lib.hid True.intro
  have K6 := Lib.hid True.intro
  have K7 := Lib.hid True.intro
  go_wp2_with (first | (have mk := K0.out; go_at_call 10; generalize w.alloc (.cells #[.int .u64 b.tag, .slice pa b.pay.length pc, .slice ta b.txs.length tc] 27) = w1 at *; refine AL.out.mono ?_; rintro e w2 ⟨rfl, f2⟩; have F12 := Lib.hid f2; have F2 := Lib.hid (F1.out.trans0 f2); clear f2; go_frame; clear mk K0) | (have mk := K1.out; go_at_call 11; refine (GT.out w2 F2.out).mono ?_; rintro e w3 ⟨rfl, f3⟩; rw [EG.out]; have F13 := Lib.hid (F12.out.trans0 f3); have F3 := Lib.hid (F2.out.trans0 f3); clear f3; go_frame; clear mk K1) | ((with_reducible refine at_dst 44 ?_); have mk := K2.out; refine wpList_vG (o := ⟨some 44, _, _, _, _, _⟩) rfl (exec_load (ty := 27) rfl rfl (KR.out w3 F13.out) uB rB infoBlk) ?_; go_frame; clear mk K2) | (have mk := K3.out; go_at_call 12; refine (HV.out w3 F3.out).mono ?_; rintro e w4 ⟨rfl, f4⟩; rw [EH.out]; have F14 := Lib.hid (F13.out.trans0 f4); have F4 := Lib.hid (F3.out.trans0 f4); clear f4; go_frame; clear mk K3) | (have mk := K4.out; go_at_call 13; refine (GW.out w4 F4.out).mono ?_; intro e w5 hgr; obtain ⟨p, V, S, bs, rfl, hgd, hbs⟩ : ∃ p V S bs, e = .returned (.pointer (some ⟨p, 0, none⟩)) ∧ Gd w4 w5 p V (putC [] (payC hash0 F)) S bs ∧ bs.length ≤ L.length := (by rcases hgr with ⟨a, _⟩ | ⟨_, a⟩; exact absurd H256.out (by omega); exact a); have GD := Lib.hid hgd; have BS := Lib.hid hbs; have F45 := Lib.hid hgd.fr; clear hgr hgd hbs; go_frame; clear mk K4) | ((with_reducible refine at_dst 51 ?_); have mk := K5.out; refine wpList_value (o := ⟨some 51, _, _, _, _, _⟩) rfl (exec_load (ty := 27) rfl rfl (KR.out w5 (F14.out.trans0 F45.out)) uB rB infoBlk) ?_; go_frame; clear mk K5) | (have mk := K6.out; go_at_call 25; refine (IDC.out w5 (F4.out.trans0 F45.out)).mono ?_; rintro e w6 ⟨rfl, f6⟩; rw [BE.out]; have F6 := Lib.hid (f6.trans0 ((Fr.refl No w6).alloc (.cells (hashC (blkH b)).toArray 45))); have B6 := Lib.hid (new_obj w6 (.cells (hashC (blkH b)).toArray 45)); clear f6; go_frame; clear mk K6) | ((with_reducible refine at_store ?_); have mk := K7.out; refine wpList_done rfl (exec_store_new (w := w6) (ty := 45) (cs := hashC (blkH b)) rfl rfl rfl (by rw [HHL.out]; rfl) (by rw [HHL.out]; exact infoHash) hashC_one) ?_; generalize w6.alloc (.cells (hashC (blkH b)).toArray 45) = w7 at *; generalize hq8 : w6.heap.size = q8 at *; have F15 := Lib.hid ((F14.out.trans0 F45.out).trans0 F6.out); have x1 := KR.out w7 ((F14.out.trans0 F45.out).trans0 F6.out) 1 _ rfl; go_frame; clear mk K7))
  clear x1
  have B200 := Lib.hid (show bs.length ≤ 200 by have := BS.out; omega)
  have F7 := Lib.hid ((F4.out.trans0 F45.out).trans0 F6.out)
  have G7 := Lib.hid (GD.out.fr0 F6.out)
  have HOK := Lib.hid GD.out.hok
  have HSL := Lib.hid (GD.out.slen B200.out)
  have VHI := Lib.hid (show ∀ j, V j → j < w7.heap.size from fun j hj => by have := GD.out.hi j hj; have := F6.out.size; omega)
  have VLO := Lib.hid GD.out.lo
  have PDL := Lib.hid (payD_len b)
  have POK := Lib.hid (show ∀ c ∈ payD b, c.ok from payC_ok (blkH_ok b) HBO.out.2 (by omega))
  have MOK := Lib.hid (show ∀ t ∈ b.txs, ∀ c ∈ madeC t, c.ok from fun t ht => madeC_ok (HBO.out.1 t ht).2 (by have := form8 (FM.out t ht); omega))
  have GOK := Lib.hid (show ∀ t ∈ b.txs, ∀ q ∈ ptsD t, q.ok from fun t ht q hq => by
    obtain ⟨x, hx, rfl⟩ := List.mem_map.1 hq
    exact (HBO.out.1 t ht).1 x hx)
  have OPT := Lib.hid (fun (w' : World) (f : Fr No w w') => blk_txs' (HB.out.keep f))
  go_loopw [10, 64] (fun mv iv wr => ∃ n : Nat, iv = .int .i64 n ∧ n ≤ b.pay.length ∧ wr.ownsRow w7.heap.size 47 33 mv (((payD b).map (·.at_)).take n).length ((((payD b).map (·.at_)).take n).flatMap pointC) ∧ Fr No w7 wr) (fun _ iv _ => b.pay.length - (intOf iv).toNat)
  case atStart => exact ⟨0, rfl, Nat.zero_le _, World.ownsRow_nil _ _ _ 33, Fr.refl _ _⟩
  case round =>
    obtain ⟨n, rfl, hn, hm, fr⟩ := hrel
    have FR := Lib.hid fr
    have MR := Lib.hid hm
    have LN := Lib.hid (show (((payD b).map (·.at_)).take n).length = n by rw [List.length_take, List.length_map, PDL.out]; omega)
    obtain ⟨ma, mc, hmv⟩ := hm.slice.arg.form
    rw [LN.out] at hmv
    subst hmv
    clear fr hm
    by_cases hlt : n < b.pay.length
    · have i1 : (n : Int) < (b.pay.length : Int) := by omega
      obtain ⟨x, hx⟩ : ∃ x, b.pay[n]? = some x := ⟨_, List.getElem?_eq_getElem hlt⟩
      have PN := Lib.hid (show (⟨blkH b, (n : Int)⟩ : PointD).ok from ⟨blkH_ok b, by show (0 : Int) ≤ (n : Int); omega, by show (n : Int) ≤ _; omega⟩)
      have PL := Lib.hid (pointC_len PN.out)
      have HPX := Lib.hid (show ((payD b).map (·.at_))[n]? = some (⟨blkH b, (n : Int)⟩ : PointD) by rw [List.getElem?_map, show (payD b)[n]? = _ from payC_at (blkH b) hx]; rfl)
      have e32 : (n : Int) % 4294967296 = (n : Int) := by omega
      have R8 := Lib.hid (show wr.rangeAt q8 0 (hashC (blkH b)) from by have := range_obj (FR.out.obj B6.out _root_.id); simpa using this)
      obtain ⟨v5, w5', a1, a2, a3, a4⟩ := append_pt wr MR.out PN.out (by rw [LN.out]; omega) FR.out.size
      have A1 := Lib.hid a1
      have M5 := Lib.hid (show w5'.ownsRow w7.heap.size 47 33 v5 (((payD b).map (·.at_)).take (n + 1)).length ((((payD b).map (·.at_)).take (n + 1)).flatMap pointC) by rw [List.take_add_one, HPX.out]; exact a2)
      have F5 := Lib.hid (show Fr No w7 w5' from FR.out.trans a3 (fun j hj e => by have := (MR.out.lt j e).1; omega))
      clear hx a1 a2 a3 a4
      have K0 := Lib.hid True.intro
      have K1 := Lib.hid True.intro
      have K2 := Lib.hid True.intro
      have K3 := Lib.hid True.intro
      go_wp2_with (first | ((with_reducible refine at_list ?_); have mk := K0.out; refine wpList_value rfl (exec_load (ty := 45) rfl rfl R8.out uH rH (by rw [HHL.out]; exact infoHash)) ?_; go_frame; clear mk K0) | ((with_reducible refine at_list ?_); have mk := K1.out; refine wpList_value rfl (exec_build (t := 47) (vs := [(0, .agg (hashC (blkH b)).toArray), (1, .int .u32 n)]) rfl (by simp [Act.eval, e32]) placesPt (fill_pt (blkH_ok b) n) (parts_pt (blkH b) n) (by rw [PL.out])) ?_; go_frame; clear mk K1) | ((with_reducible refine at_list ?_); have mk := K2.out; refine wpList_value rfl (exec_buildSliceA (t := 75) rfl rfl undPoints infoPointZ2 rfl (by decide) (by decide) PL.out) ?_; go_frame; clear mk K2) | ((with_reducible refine at_list ?_); have mk := K3.out; at_builtin; refine wpList_append_run rfl rfl rfl rfl A1.out ?_; go_frame; clear mk K3))
      go_roundw
      case rel => exact ⟨n + 1, by go_num, by omega, M5.out, F5.out⟩
      case measure => simp [intOf]; omega
    · have hne : n = b.pay.length := by omega
      subst hne
      clear hlt hn
      have i1 : ¬ (b.pay.length : Int) < (b.pay.length : Int) := by omega
      have M0 := Lib.hid (show wr.ownsRow w7.heap.size 47 33 (.slice ma b.pay.length mc) ((payD b).map (·.at_)).length (((payD b).map (·.at_)).flatMap pointC) by have := MR.out; rw [List.take_of_length_le (by rw [List.length_map, PDL.out]; exact Nat.le_refl _)] at this; exact this)
      have M0' := Lib.hid M0.out
      have x2 := KR.out wr (F15.out.trans0 FR.out) 2 _ rfl
      go_wp2_with fail
      (try simp only [Exit.inBlock, Exit.then])
      clear x2
      have HPM := Lib.hid (fun n => mdN_len FM.out p8 t16 n)
      have FW := Lib.hid (F7.out.trans0 FR.out)
      go_loopw [10, 11, 78] (fun mv gv iv wq => ∃ n : Nat, iv = .int .i64 n ∧ n ≤ b.txs.length ∧ wq.ownsRow w7.heap.size 47 33 mv (mdN b n).length ((mdN b n).flatMap pointC) ∧ wq.ownsRow w7.heap.size 47 33 gv (gnN b n).length ((gnN b n).flatMap pointC) ∧ (∀ j, mv.ownBlock = some j → gv.ownBlock = some j → False) ∧ Fr No w7 wq) (fun _ _ iv _ => b.txs.length - (intOf iv).toNat)
      case atStart => exact ⟨0, rfl, Nat.zero_le _, by rw [mdN_zero]; exact M0'.out, by rw [gnN_zero]; exact World.ownsRow_nil _ _ _ 33, (fun j _ e => by cases e), FR.out⟩
      case round =>
        obtain ⟨n, rfl, hn, hm, hgv, hdis, fr⟩ := hrel
        rename World => wq
        have FQ := Lib.hid fr
        have MQ := Lib.hid hm
        have GQ := Lib.hid hgv
        have DIS := Lib.hid hdis
        have HLN := Lib.hid (HPM.out n)
        obtain ⟨mqa, mqc, hmv⟩ := hm.slice.arg.form
        subst hmv
        obtain ⟨gqa, gqc, hgv'⟩ := hgv.slice.arg.form
        subst hgv'
        clear fr hm hgv hdis
        by_cases hlt : n < b.txs.length
        · have i1 : (n : Int) < (b.txs.length : Int) := by omega
          obtain ⟨t, hx⟩ : ∃ x, b.txs[n]? = some x := ⟨_, List.getElem?_eq_getElem hlt⟩
          have HX := Lib.hid hx
          have TM := Lib.hid (List.mem_of_getElem? hx)
          obtain ⟨bb, off, cap, ts, hvv, hr, hq⟩ := (OPT.out w (Fr.refl No w)).2.at_ hx
          obtain ⟨rfl, -, rfl⟩ := slice_eq hvv
          obtain ⟨ja, jc, ka, kc, rfl⟩ := hq.form
          have T8 := Lib.hid (form8 (FM.out t TM.out))
          have FWQ := Lib.hid (F7.out.trans0 FQ.out)
          have R1 := Lib.hid (range_keep hr FWQ.out _root_.id)
          have FA := Lib.hid ((Fr.refl No wq).alloc (.cells #[.int .u32 t.ver, .slice ja t.ins.length jc, .slice ka t.outs.length kc] 41))
          have RA := Lib.hid (tx_new wq t.ver (.slice ja t.ins.length jc) (.slice ka t.outs.length kc)).2.2.2
          have QT := Lib.hid hq
          have PTS := Lib.hid (fun (w' : World) (f : Fr No w w') => points_any w' (hq.keep f) (by have := T8.out; omega))
          have COI := Lib.hid (fun (w' : World) (f : Fr No w w') => coins_any (HG.out.keep0 f) (hq.keep f))
          have HFT := Lib.hid (FM.out t TM.out)
          have GSU := Lib.hid (gnN_succ HX.out)
          have MSU := Lib.hid (mdN_succ HX.out)
          clear hr hq hvv hx
          have K0 := Lib.hid True.intro
          have K1 := Lib.hid True.intro
          have K2 := Lib.hid True.intro
          have K3 := Lib.hid True.intro
          have K4 := Lib.hid True.intro
          have K5 := Lib.hid True.intro
          have K6 := Lib.hid True.intro
          go_wp2_with (first | ((with_reducible refine at_list ?_); have mk := K0.out; refine wpList_value rfl (exec_load (ty := 41) rfl rfl R1.out uT rT infoTx) ?_; go_frame; clear mk K0) | ((with_reducible refine at_store ?_); have mk := K1.out; refine wpList_done rfl (exec_store_new (w := wq) (ty := 41) (cs := [.int .u32 t.ver, .slice ja t.ins.length jc, .slice ka t.outs.length kc]) rfl rfl rfl rfl infoTx (one3 rfl rfl rfl)) ?_; generalize wq.alloc (.cells #[.int .u32 t.ver, .slice ja t.ins.length jc, .slice ka t.outs.length kc] 41) = wA at *; go_frame; clear mk K1) | ((with_reducible refine at_list ?_); have mk := K2.out; refine wpList_value rfl (exec_load (ty := 41) rfl rfl RA.out uT rT infoTx) ?_; go_frame; clear mk K2) | (have mk := K3.out; go_at_call 26; refine (PTS.out wA (FWQ.out.trans0 FA.out)).mono ?_; rintro e wB ⟨pv, rfl, o4, f4⟩; have FB := Lib.hid (FA.out.trans0 f4); have RB := Lib.hid (range_keep RA.out f4 _root_.id); have PIS := Lib.hid (show PointsIs wB pv (ptsD t) from ⟨GOK.out t TM.out, by rw [ptsD_len]; exact o4.slice.arg⟩); obtain ⟨va4, vc4, hv4⟩ := o4.slice.arg.form; subst hv4; obtain ⟨v5, w5', a1, a2, a3, a4⟩ := append_pts wB (ownsRow_keep GQ.out FB.out (fun _ _ => _root_.id)) PIS.out (by rw [ptsD_len]; have := HLN.out; have := T8.out; omega) (Nat.le_trans FQ.out.size FB.out.size) 75; rw [← GSU.out] at a2; obtain ⟨va5, vc5, hv5⟩ := a2.slice.arg.form; subst hv5; have A1 := Lib.hid a1; have G5 := Lib.hid a2; have F5 := Lib.hid a3; have GT5 := Lib.hid a4; have FQ5 := Lib.hid (show Fr (fun j => (Value.slice gqa (gnN b n).length gqc).ownBlock = some j) wq w5' from FB.out.of0.trans a3 (fun j hj e => e)); have FW5 := Lib.hid (show Fr No w w5' from (FWQ.out.trans0 FB.out).trans a3 (fun j hj e => by have := (GQ.out.lt j e).1; have := F7.out.size; omega)); have R5 := Lib.hid (range_keep RB.out a3 (fun e => by have h1 : wq.heap.size < wq.heap.size := (GQ.out.lt _ e).2; omega)); clear o4 f4 a1 a2 a3 a4; go_frame; clear mk K3) | ((with_reducible refine at_list ?_); have mk := K4.out; at_builtin; refine wpList_append_run rfl rfl rfl rfl A1.out ?_; go_frame; clear mk K4) | ((with_reducible refine at_list ?_); have mk := K5.out; refine wpList_value rfl (exec_load (ty := 41) rfl rfl R5.out uT rT infoTx) ?_; go_frame; clear mk K5) | (have mk := K6.out; go_at_call 16; refine (COI.out w5' FW5.out).mono ?_; rintro e wC ⟨cv, rfl, f6, hm6⟩; rw [if_pos HFT.out] at hm6; obtain ⟨cva, cvc, hcv⟩ := hm6.slice.arg.form; subst hcv; have FC := Lib.hid f6; have CV := Lib.hid hm6; clear f6 hm6; go_frame; clear mk K6))
          rw [idE0 HFT.out]
          have FQC := Lib.hid (FQ5.out.trans0 FC.out)
          have MC := Lib.hid (ownsRow_keep MQ.out FQC.out (fun j hj e => DIS.out j hj e))
          have GC := Lib.hid (ownsRow_keep G5.out FC.out (fun _ _ => _root_.id))
          have DC := Lib.hid (show ∀ j, (Value.slice mqa (mdN b n).length mqc).ownBlock = some j → (Value.slice va5 (gnN b (n + 1)).length vc5).ownBlock = some j → False from fun j h1 h2 => (GT5.out j h2).elim (fun h => DIS.out j h1 h) (fun h => by have := (MQ.out.lt j h1).2; have := FB.out.size; omega))
          have SCC := Lib.hid (show wq.heap.size ≤ wC.heap.size from FQC.out.size)
          have ML := Lib.hid (madeC_len t)
          have t8o := T8.out.2
          go_loopw [10, 93] (fun mv iv wi => ∃ k : Nat, iv = .int .i64 k ∧ k ≤ t.outs.length ∧ wi.ownsRow w7.heap.size 47 33 mv (mdK b n t k).length ((mdK b n t k).flatMap pointC) ∧ (∀ j, mv.ownBlock = some j → (Value.slice mqa (mdN b n).length mqc).ownBlock = some j ∨ wC.heap.size ≤ j) ∧ Fr (fun j => (Value.slice mqa (mdN b n).length mqc).ownBlock = some j) wC wi) (fun _ iv _ => t.outs.length - (intOf iv).toNat)
          case atStart => exact ⟨0, rfl, Nat.zero_le _, by rw [mdK_zero]; exact MC.out, fun j h => .inl h, Fr.refl _ _⟩
          case round =>
            obtain ⟨k, rfl, hk, hm, hgr, fr⟩ := hrel
            rename World => wi
            have FI := Lib.hid fr
            have MI := Lib.hid hm
            have GRW := Lib.hid hgr
            have LK := Lib.hid (show (mdK b n t k).length ≤ 144 by unfold mdK; rw [List.length_append, List.length_take, mtP_len]; have := HLN.out; have := T8.out; omega)
            obtain ⟨mia, mic, hmi⟩ := hm.slice.arg.form
            subst hmi
            clear fr hm hgr
            by_cases hkt : k < t.outs.length
            · have i2 : (k : Int) < (t.outs.length : Int) := by omega
              obtain ⟨c, hc⟩ : ∃ x, (madeC t)[k]? = some x := ⟨_, List.getElem?_eq_getElem (by rw [ML.out]; exact hkt)⟩
              have COK := Lib.hid (MOK.out t TM.out c (List.mem_of_getElem? hc))
              have CL := Lib.hid (coinC_len COK.out)
              have PL := Lib.hid (pointC_len COK.out.1)
              obtain ⟨g, cap, hv, hr, -⟩ := own_elem (f := coinC) (k := 66) (L := madeC t) (by decide) (fun x hx => coinC_len (MOK.out t TM.out x hx)) (ownsRow_keep CV.out FI.out (fun j hj e => by have := (CV.out.lt j hj).1; have := (MQ.out.lt j e).2; have := FQ5.out.size; omega)) hc
              obtain ⟨rfl, -, rfl⟩ := slice_eq hv
              have R2 := Lib.hid hr
              have FJ := Lib.hid ((Fr.refl No wi).alloc (.cells (coinC c).toArray 57))
              have RP := Lib.hid (coin_at (range_new wi (coinC c) 57))
              have KSU := Lib.hid (mdK_succ (b := b) (n := n) (show (mtP t)[k]? = some c.at_ by unfold mtP; simp [hc]))
              obtain ⟨v6, w6', b1, b2, b3, b4⟩ := append_pt (wi.alloc (.cells (coinC c).toArray 57)) (ownsRow_keep MI.out FJ.out (fun _ _ => _root_.id)) COK.out.1 (by have := LK.out; omega) (by have := FI.out.size; have := FJ.out.size; have := SCC.out; have := FQ.out.size; omega)
              rw [← KSU.out] at b2
              have B1 := Lib.hid b1
              have M6 := Lib.hid b2
              have G6 := Lib.hid (show ∀ j, v6.ownBlock = some j → (Value.slice mqa (mdN b n).length mqc).ownBlock = some j ∨ wC.heap.size ≤ j from fun j hj => (b4 j hj).elim (fun h => GRW.out j h) (fun h => .inr (by have := FI.out.size; have := FJ.out.size; omega)))
              have F6' := Lib.hid (show Fr (fun j => (Value.slice mqa (mdN b n).length mqc).ownBlock = some j) wC w6' from (FI.out.trans0 FJ.out).trans b3 (fun j hj e => (GRW.out j e).resolve_right (by omega)))
              clear hr hv hc b1 b2 b3 b4
              have K0 := Lib.hid True.intro
              have K1 := Lib.hid True.intro
              have K2 := Lib.hid True.intro
              have K3 := Lib.hid True.intro
              have K4 := Lib.hid True.intro
              go_wp2_with (first | ((with_reducible refine at_list ?_); have mk := K0.out; refine wpList_value rfl (exec_load (ty := 57) rfl rfl R2.out uC rC (by rw [CL.out]; exact infoCoin)) ?_; go_frame; clear mk K0) | ((with_reducible refine at_store ?_); have mk := K1.out; refine wpList_done rfl (exec_store_new (w := wi) (ty := 57) (cs := coinC c) rfl rfl rfl (by rw [CL.out]; rfl) (by rw [CL.out]; exact infoCoin) coinC_one) ?_; generalize wi.alloc (.cells (coinC c).toArray 57) = wJ at *; go_frame; clear mk K1) | ((with_reducible refine at_list ?_); have mk := K2.out; refine wpList_value rfl (exec_load (ty := 47) rfl rfl RP.out uP rP (by rw [PL.out]; exact infoPoint)) ?_; go_frame; clear mk K2) | ((with_reducible refine at_list ?_); have mk := K3.out; refine wpList_value rfl (exec_buildSliceA (t := 75) rfl rfl undPoints infoPointZ2 rfl (by decide) (by decide) PL.out) ?_; go_frame; clear mk K3) | ((with_reducible refine at_list ?_); have mk := K4.out; at_builtin; refine wpList_append_run rfl rfl rfl rfl B1.out ?_; go_frame; clear mk K4))
              go_roundw
              case rel => exact ⟨k + 1, by go_num, by omega, M6.out, G6.out, F6'.out⟩
              case measure => simp [intOf]; omega
            · have hke : k = t.outs.length := by omega
              have i2 : ¬ (k : Int) < (t.outs.length : Int) := by omega
              have M7 := Lib.hid (show wi.ownsRow w7.heap.size 47 33 (.slice mia (mdK b n t k).length mic) (mdN b (n + 1)).length ((mdN b (n + 1)).flatMap pointC) from by
                have := MI.out
                rw [MSU.out, ← hke]
                exact this)
              have G7' := Lib.hid (ownsRow_keep GC.out FI.out (fun j hj e => DC.out j e hj))
              have D7 := Lib.hid (show ∀ j, (Value.slice mia (mdK b n t k).length mic).ownBlock = some j → (Value.slice va5 (gnN b (n + 1)).length vc5).ownBlock = some j → False from fun j h1 h2 => (GRW.out j h1).elim (fun h => DC.out j h h2) (fun h => by have := (GC.out.lt j h2).2; omega))
              have F77 := Lib.hid (show Fr No w7 wi from (FQ.out.trans FQC.out (fun j hj e => by have := (GQ.out.lt j e).1; omega)).trans FI.out (fun j hj e => by have := (MQ.out.lt j e).1; omega))
              clear hke
              go_wp2_with fail
              go_roundw
              case rel => exact ⟨n + 1, by go_num, by omega, M7.out, G7'.out, D7.out, F77.out⟩
              case measure => simp [intOf]; omega
        · have hne : n = b.txs.length := by omega
          subst hne
          clear hlt hn
          have i1 : ¬ (b.txs.length : Int) < (b.txs.length : Int) := by omega
          have GPO := Lib.hid (show ∀ x ∈ gnN b b.txs.length, x.ok from fun x hx => by
            unfold gnN at hx
            rw [List.take_length] at hx
            obtain ⟨t, ht, hq⟩ := List.mem_flatMap.1 hx
            exact GOK.out t ht x hq)
          have MPO := Lib.hid (show ∀ x ∈ mdN b b.txs.length, x.ok from fun x hx => by
            unfold mdN at hx
            rw [List.take_length] at hx
            rcases List.mem_append.1 hx with hx | hx
            · obtain ⟨c, hc, rfl⟩ := List.mem_map.1 hx
              exact (POK.out c hc).1
            · obtain ⟨t, ht, hq⟩ := List.mem_flatMap.1 hx
              obtain ⟨c, hc, rfl⟩ := List.mem_map.1 hq
              exact (MOK.out t ht c hc).1)
          have EM := Lib.hid (show mdN b b.txs.length = (payD b).map (·.at_) ++ b.txs.flatMap fun t => (madeC t).map (·.at_) by unfold mdN mtP; rw [List.take_length])
          have EG2 := Lib.hid (show gnN b b.txs.length = b.txs.flatMap ptsD by unfold gnN; rw [List.take_length])
          generalize gnN b b.txs.length = GP at *
          generalize mdN b b.txs.length = MP at *
          obtain ⟨N, hN⟩ : ∃ N, N = GP.length + MP.length := ⟨_, rfl⟩
          have eN : (GP.length : Int) + (MP.length : Int) = (N : Int) := by omega
          have N264 := Lib.hid (show N ≤ 264 by have := HLN.out; omega)
          have NL := Lib.hid (show (GP ++ MP).length = N by rw [List.length_append, hN])
          have n264 := N264.out
          obtain ⟨iK, hiK, hz, hsz, hby⟩ := info_parts infoBoolZ
          obtain ⟨w10, hmk, ho10, hg10⟩ := run_makeSlice_owned (P := Tryd.prog) (w := wq) w7.heap.size 77 4 iK _ 1 undBools hiK hz hsz .i64 .i64 N (by omega) (by rw [hby]; omega) (by unfold maxLen; omega) FQ.out.size
          have F10 := Lib.hid (show Fr No wq w10 from Fr.of_grown hg10 (fun k e => by cases e))
          have TR := Lib.hid ho10
          have GQ10 := Lib.hid (ownsRow_keep GQ.out F10.out (fun _ _ => _root_.id))
          have MQ10 := Lib.hid (ownsRow_keep MQ.out F10.out (fun _ _ => _root_.id))
          obtain ⟨v0, w11, v1, w12, v2, w13, r0, r1, r2, o2, f3⟩ := joined w10 GQ10.out MQ10.out GPO.out MPO.out (by omega) (by have := F10.out.size; have := FQ.out.size; omega)
          obtain ⟨ala, alc, hal⟩ := o2.slice.arg.form
          rw [NL.out] at hal
          subst hal
          have RR0 := Lib.hid r0
          have RR1 := Lib.hid r1
          have RR2 := Lib.hid r2
          have ALR := Lib.hid (show w13.ownsRow w10.heap.size 47 33 (.slice ala N alc) N ((GP ++ MP).flatMap pointC) from by have := o2; rw [NL.out] at this; exact this)
          have F13 := Lib.hid f3
          have F7D := Lib.hid ((FQ.out.trans0 F10.out).trans0 f3)
          have T13 := Lib.hid (ownsRow_keep TR.out f3 (fun _ _ => _root_.id))
          have TQL := Lib.hid (show wq.heap.size < w10.heap.size from (TR.out.lt _ rfl).2)
          have AOK := Lib.hid (show ∀ x ∈ GP ++ MP, x.ok from fun x hx => (List.mem_append.1 hx).elim (GPO.out x) (MPO.out x))
          clear hiK hz hsz hby ho10 hg10 r0 r1 r2 o2 f3 hN
          generalize hqt : wq.heap.size = qtr at *
          have K0 := Lib.hid True.intro
          have K1 := Lib.hid True.intro
          have K2 := Lib.hid True.intro
          go_wp2_with (first | ((with_reducible refine at_dst 110 ?_); have mk := K0.out; refine wpList_value (o := ⟨some 110, _, _, _, _, _⟩) rfl (exec_bldS (t := 75) (vs := []) rfl rfl RR0.out) ?_; go_frame; clear mk K0) | ((with_reducible refine at_list ?_); have mk := K1.out; at_builtin; refine wpList_append_run rfl rfl rfl rfl RR1.out ?_; go_frame; clear mk K1) | ((with_reducible refine at_list ?_); have mk := K2.out; at_builtin; refine wpList_append_run rfl rfl rfl rfl RR2.out ?_; go_frame; clear mk K2))
          clear hmk eN
          have FND := Lib.hid (fun (w' : World) (f : Fr No w7 w') (q : PointD) (hq : q.ok) => findn_any (G7.out.fr0 f).cn hq)
          go_loopw [19, 116] (fun tv iv wr => ∃ n : Nat, iv = .int .i64 n ∧ n ≤ N ∧ wr.ownsRow w7.heap.size 4 1 tv ((GP ++ MP).take n).length (boolsV S ((GP ++ MP).take n)) ∧ (∀ j, tv.ownBlock = some j → j = qtr ∨ w13.heap.size ≤ j) ∧ Fr (fun j => j = qtr) w13 wr) (fun _ iv _ => N - (intOf iv).toNat)
          case atStart => exact ⟨0, rfl, Nat.zero_le _, by simpa [boolsV] using T13.out, (fun j hj => .inl (by simp [Value.ownBlock] at hj; exact hj.symm)), Fr.refl _ _⟩
          case round =>
            obtain ⟨n, rfl, hn, ht, hgr, fr⟩ := hrel
            rename World => wr
            have FR2 := Lib.hid fr
            have TRW := Lib.hid ht
            have TGR := Lib.hid hgr
            have LT := Lib.hid (show ((GP ++ MP).take n).length = n by rw [List.length_take, NL.out]; omega)
            obtain ⟨tva, tvc, htv⟩ := ht.slice.arg.form
            rw [LT.out] at htv
            subst htv
            have ALW := Lib.hid (ownsRow_keep ALR.out FR2.out (fun j hj e => by have := (ALR.out.lt j hj).1; have := TQL.out; omega))
            have F7R := Lib.hid (show Fr No w7 wr from F7D.out.trans FR2.out (fun j hj e => by have := FQ.out.size; omega))
            clear fr ht hgr
            by_cases hlt : n < N
            · have i1 : (n : Int) < (N : Int) := by omega
              obtain ⟨q, hx⟩ : ∃ x, (GP ++ MP)[n]? = some x := ⟨_, List.getElem?_eq_getElem (by rw [NL.out]; exact hlt)⟩
              have HX := Lib.hid hx
              have QOK := Lib.hid (AOK.out q (List.mem_of_getElem? hx))
              have PL := Lib.hid (pointC_len QOK.out)
              obtain ⟨g, cap, hv, hr, -⟩ := own_elem (f := pointC) (k := 33) (L := GP ++ MP) (by decide) (fun x hx => pointC_len (AOK.out x hx)) ALW.out hx
              obtain ⟨rfl, -, rfl⟩ := slice_eq hv
              have R1 := Lib.hid hr
              have FA := Lib.hid ((Fr.refl No wr).alloc (.cells (pointC q).toArray 47))
              have RQ := Lib.hid (range_new wr (pointC q) 47)
              have OOK := Lib.hid (outOf_ok HOK.out.ok q)
              have OL := Lib.hid (outC_len OOK.out)
              clear hr hv hx
              generalize hhb : hasC S q = hb at *
              have HHB := Lib.hid hhb
              have K0 := Lib.hid True.intro
              have K1 := Lib.hid True.intro
              have K2 := Lib.hid True.intro
              have K3 := Lib.hid True.intro
              have K4 := Lib.hid True.intro
              have K5 := Lib.hid True.intro
              go_wp2_with (first | ((with_reducible refine at_list ?_); have mk := K0.out; refine wpList_value rfl (exec_load (ty := 47) rfl rfl R1.out uP rP (by rw [PL.out]; exact infoPoint)) ?_; go_frame; clear mk K0) | ((with_reducible refine at_store ?_); have mk := K1.out; refine wpList_done rfl (exec_store_new (w := wr) (ty := 47) (cs := pointC q) rfl rfl rfl (by rw [PL.out]; rfl) (by rw [PL.out]; exact infoPoint) pointC_one) ?_; generalize wr.alloc (.cells (pointC q).toArray 47) = wA at *; go_frame; clear mk K1) | ((with_reducible refine at_dst 122 ?_); have mk := K2.out; refine wpList_value (o := ⟨some 122, _, _, _, _, _⟩) rfl (exec_load (ty := 47) rfl rfl RQ.out uP rP (by rw [PL.out]; exact infoPoint)) ?_; go_frame; clear mk K2) | (have mk := K3.out; go_at_call 27; refine (FND.out wA (F7R.out.trans0 FA.out) q QOK.out).mono ?_; rintro e wB ⟨rfl, f4⟩; rw [HHB.out]; have FB := Lib.hid ((FA.out.trans0 f4).trans0 ((Fr.refl No wB).alloc (.cells (outC (outOf S q)).toArray 55))); clear f4; go_frame; clear mk K3) | ((with_reducible refine at_store ?_); have mk := K4.out; refine wpList_done rfl (exec_store_new (w := wB) (ty := 55) (cs := outC (outOf S q)) rfl rfl rfl (by rw [OL.out]; rfl) (by rw [OL.out]; exact infoOut) outC_one) ?_; generalize wB.alloc (.cells (outC (outOf S q)).toArray 55) = wC at *; obtain ⟨v5, w5', a1, a2, a3, a4⟩ := append_bool wC HHB.out (ownsRow_keep TRW.out FB.out (fun _ _ => _root_.id)) (by rw [LT.out]; omega) (by have := F7R.out.size; have := FB.out.size; omega); have A1 := Lib.hid a1; have A2 := Lib.hid a2; have A3 := Lib.hid a3; have A4 := Lib.hid a4; clear a1 a2 a3 a4; go_frame; clear mk K4) | ((with_reducible refine at_list ?_); have mk := K5.out; at_builtin; refine wpList_append_run rfl rfl rfl rfl A1.out ?_; go_frame; clear mk K5))
              have TK := Lib.hid (show (GP ++ MP).take (n + 1) = (GP ++ MP).take n ++ [q] by rw [List.take_add_one, HX.out]; rfl)
              have T5 := Lib.hid (show w5'.ownsRow w7.heap.size 4 1 v5 ((GP ++ MP).take (n + 1)).length (boolsV S ((GP ++ MP).take (n + 1))) by rw [TK.out]; exact A2.out)
              have TG5 := Lib.hid (show ∀ j, v5.ownBlock = some j → j = qtr ∨ w13.heap.size ≤ j from fun j hj => (A4.out j hj).elim (TGR.out j) (fun h => .inr (by have := FR2.out.size; have := FB.out.size; omega)))
              have F5' := Lib.hid (show Fr (fun j => j = qtr) w13 w5' from (FR2.out.trans0 FB.out).trans A3.out (fun j hj e => (TGR.out j e).resolve_right (by omega)))
              go_roundw
              case rel => exact ⟨n + 1, by go_num, by omega, T5.out, TG5.out, F5'.out⟩
              case measure => simp [intOf]; omega
            · have hne : n = N := by omega
              subst hne
              clear hlt hn
              have i1 : ¬ (n : Int) < (n : Int) := by omega
              have FWR := Lib.hid (F7.out.trans0 F7R.out)
              have G14 := Lib.hid (G7.out.fr0 F7R.out)
              have CON := Lib.hid (conn_g (HG.out.keep0 F4.out) G14.out B200.out (HB.out.keep FWR.out))
              have R5B := Lib.hid (KR.out wr (F15.out.trans0 F7R.out))
              have GQR := Lib.hid (ownsRow_keep (ownsRow_keep GQ10.out F13.out (fun _ _ => _root_.id)) FR2.out (fun j hj e => by have := (GQ.out.lt j hj).2; omega))
              have MQR := Lib.hid (ownsRow_keep (ownsRow_keep MQ10.out F13.out (fun _ _ => _root_.id)) FR2.out (fun j hj e => by have := (MQ.out.lt j hj).2; omega))
              by_cases hz : connE (idsOf bs) S bs b = 0
              rotate_left
              · have j1 : (connE (idsOf bs) S bs b == 0) = false := by simpa using hz
                have j2 : (connE (idsOf bs) S bs b != 0) = true := by simpa using hz
                clear hz
                have K0 := Lib.hid True.intro
                have K1 := Lib.hid True.intro
                go_wp2_with (first | ((with_reducible refine at_dst 132 ?_); have mk := K0.out; refine wpList_value (o := ⟨some 132, _, _, _, _, _⟩) rfl (exec_load (ty := 27) rfl rfl R5B.out uB rB infoBlk) ?_; go_frame; clear mk K0) | (have mk := K1.out; go_at_call 15; refine CON.out.mono ?_; rintro e w15 ⟨rfl, -, V7, -, hg7⟩; have G15 := Lib.hid hg7; clear hg7; go_frame; clear mk K1))
                go_ret
                exact ⟨rfl, F4.out.trans0 G15.out.fr⟩
              obtain ⟨q1, q2, q3, q4, q5⟩ := spend_back HOK.out HBO.out hz
              have Q3 := Lib.hid q3
              have EZ := Lib.hid hz
              have SPI := Lib.hid (fun p => spends_iff (conn0 hz).2.2.2 EG2.out EM.out p)
              have ES := Lib.hid (show connS (idsOf bs) S bs b = (doR (idsOf bs) S b).S by unfold connS; rw [if_pos hz])
              have EB := Lib.hid (show connB (idsOf bs) S bs b = bs ++ [(doR (idsOf bs) S b).d] by unfold connB; rw [if_pos hz])
              have BLS := Lib.hid (show (bs ++ [(doR (idsOf bs) S b).d]).length ≤ 200 by rw [List.length_append]; simp; have := BS.out; omega)
              have NOB := Lib.hid (conn0 hz)
              clear hz q1 q2 q3 q4 q5
              have J19 := Lib.hid (show b.txs.length ≠ 0 → ∀ S' , connE (idsOf (bs ++ [(doR (idsOf bs) S b).d])) S' (bs ++ [(doR (idsOf bs) S b).d]) b = 19 from fun h0 S' => by
                unfold connE
                rw [if_neg (by have := BLS.out; omega), if_pos NOB.out.2.1, NOB.out.2.2.1, if_neg (by decide)]
                cases hb : b.txs with
                | nil => rw [hb] at h0; exact absurd rfl h0
                | cons t l => exact again hb (runT_all b.txs (st0 S) (doR0 NOB.out.2.2.2).1 |>.2 t (by rw [hb]; exact .head _)) (Q3.out t (by rw [hb]; exact .head _)).2)
              generalize (doR (idsOf bs) S b).d = d at *
              generalize (doR (idsOf bs) S b).S = S' at *
              have K0 := Lib.hid True.intro
              have K1 := Lib.hid True.intro
              have K2 := Lib.hid True.intro
              have K3 := Lib.hid True.intro
              have K4 := Lib.hid True.intro
              go_wp2_with (first | ((with_reducible refine at_dst 132 ?_); have mk := K0.out; refine wpList_value (o := ⟨some 132, _, _, _, _, _⟩) rfl (exec_load (ty := 27) rfl rfl R5B.out uB rB infoBlk) ?_; go_frame; clear mk K0) | (have mk := K1.out; go_at_call 15; refine CON.out.mono ?_; rintro e w15 ⟨rfl, f7, V7, hv7, hg7⟩; rw [EZ.out]; rw [ES.out, EB.out] at hg7; have G15 := Lib.hid hg7; have FVR := Lib.hid f7; have GQ15 := Lib.hid (ownsRow_keep GQR.out f7 (fun j hj e => by have := (GQ.out.lt j hj).1; have := VHI.out j e; omega)); have MQ15 := Lib.hid (ownsRow_keep MQR.out f7 (fun j hj e => by have := (MQ.out.lt j hj).1; have := VHI.out j e; omega)); have TR15 := Lib.hid (ownsRow_keep TRW.out f7 (fun j hj e => by have := (TRW.out.lt j hj).1; have := VHI.out j e; omega)); have B715 := Lib.hid (show w7.heap.size ≤ w15.heap.size by have := F7R.out.size; have := f7.size; omega); obtain ⟨v0', w16, v1', w17, v2', w18, r0', r1', r2', o2', f3'⟩ := joined w15 GQ15.out MQ15.out GPO.out MPO.out (by have := HLN.out; omega) B715.out; obtain ⟨bla, blc, hbl⟩ := o2'.slice.arg.form; rw [NL.out] at hbl; subst hbl; have RR0' := Lib.hid r0'; have RR1' := Lib.hid r1'; have RR2' := Lib.hid r2'; have BLR := Lib.hid (show w18.ownsRow w15.heap.size 47 33 (.slice bla n blc) n ((GP ++ MP).flatMap pointC) from (by have := o2'; rw [NL.out] at this; exact this)); have F18 := Lib.hid f3'; clear hg7 f7 hv7 r0' r1' r2' o2' f3'; go_frame; clear mk K1) | ((with_reducible refine at_dst 135 ?_); have mk := K2.out; refine wpList_value (o := ⟨some 135, _, _, _, _, _⟩) rfl (exec_bldS (t := 75) (vs := []) rfl rfl RR0'.out) ?_; go_frame; clear mk K2) | ((with_reducible refine at_list ?_); have mk := K3.out; at_builtin; refine wpList_append_run rfl rfl rfl rfl RR1'.out ?_; go_frame; clear mk K3) | ((with_reducible refine at_list ?_); have mk := K4.out; at_builtin; refine wpList_append_run rfl rfl rfl rfl RR2'.out ?_; go_frame; clear mk K4))
              have G18 := Lib.hid (G15.out.fr0 F18.out)
              have GQ18 := Lib.hid (ownsRow_keep GQ15.out F18.out (fun _ _ => _root_.id))
              have MQ18 := Lib.hid (ownsRow_keep MQ15.out F18.out (fun _ _ => _root_.id))
              have TR18 := Lib.hid (show w18.ownsRow w7.heap.size 4 1 (.slice tva n tvc) n ((GP ++ MP).flatMap fun q => [Value.bool (hasC S q)]) from by
                have := ownsRow_keep TR15.out F18.out (fun _ _ => _root_.id)
                rw [LT.out] at this
                have e : boolsV S ((GP ++ MP).take n) = (GP ++ MP).flatMap fun q => [Value.bool (hasC S q)] := by
                  unfold boolsV
                  rw [List.take_of_length_le (by rw [NL.out]; exact Nat.le_refl _)]
                  exact map_flat1 _ _
                rw [e] at this
                exact this)
              have HLN2 := Lib.hid (show n = GP.length + MP.length by have := NL.out; rw [List.length_append] at this; omega)
              go_loopw [141] (fun iv wr => ∃ m : Nat, iv = .int .i64 m ∧ m ≤ n ∧ Fr No w18 wr) (fun iv _ => n - (intOf iv).toNat)
              case atStart => exact ⟨0, rfl, Nat.zero_le _, Fr.refl _ _⟩
              case round =>
                obtain ⟨m, rfl, hm, fr⟩ := hrel
                rename World => wr5
                have FR5 := Lib.hid fr
                clear fr
                by_cases hlt : m < n
                · have i1 : (m : Int) < (n : Int) := by omega
                  obtain ⟨q, hx⟩ : ∃ x, (GP ++ MP)[m]? = some x := ⟨_, List.getElem?_eq_getElem (by rw [NL.out]; exact hlt)⟩
                  have QOK := Lib.hid (AOK.out q (List.mem_of_getElem? hx))
                  have PL := Lib.hid (pointC_len QOK.out)
                  obtain ⟨g, cap, hv, hr, -⟩ := own_elem (f := pointC) (k := 33) (L := GP ++ MP) (by decide) (fun x hx => pointC_len (AOK.out x hx)) (ownsRow_keep BLR.out FR5.out (fun _ _ => _root_.id)) hx
                  obtain ⟨rfl, -, rfl⟩ := slice_eq hv
                  obtain ⟨gt, capt, hvt, hrt, -⟩ := own_elem (f := fun q => [Value.bool (hasC S q)]) (k := 1) (L := GP ++ MP) (by decide) (fun x hx => rfl) (ownsRow_keep TR18.out FR5.out (fun _ _ => _root_.id)) hx
                  obtain ⟨rfl, -, rfl⟩ := slice_eq hvt
                  have R1 := Lib.hid hr
                  have FRB := Lib.hid ((Fr.refl No wr5).alloc (.cells (pointC q).toArray 47))
                  have RQ := Lib.hid (range_new wr5 (pointC q) 47)
                  have CT := Lib.hid (show (wr5.alloc (.cells (pointC q).toArray 47)).cell? ⟨gt, m, none⟩ = some (.bool (hasC S q)) from FRB.out.cell (by have := hrt 0 _ rfl; simpa using this) _root_.id)
                  have ct := CT.out
                  clear hr hv hx hrt hvt
                  have FRA := Lib.hid (FR5.out.trans0 FRB.out)
                  cases hb : hasC S q with
                  | true =>
                    have CNT := Lib.hid (show cnt S q = 1 by unfold cnt; rw [if_pos hb])
                    rw [hb] at ct
                    clear hb
                    have K0 := Lib.hid True.intro
                    have K1 := Lib.hid True.intro
                    go_wp2_with (first | ((with_reducible refine at_list ?_); have mk := K0.out; refine wpList_value rfl (exec_load (ty := 47) rfl rfl R1.out uP rP (by rw [PL.out]; exact infoPoint)) ?_; go_frame; clear mk K0) | ((with_reducible refine at_store ?_); have mk := K1.out; refine wpList_done rfl (exec_store_new (w := wr5) (ty := 47) (cs := pointC q) rfl rfl rfl (by rw [PL.out]; rfl) (by rw [PL.out]; exact infoPoint) pointC_one) ?_; generalize wr5.alloc (.cells (pointC q).toArray 47) = wA at *; go_frame; clear mk K1))
                    clear ct
                    have mpl : MP.length ≤ 264 := by have := HLN.out; omega
                    have gpl : GP.length ≤ 264 := by have := HLN.out; omega
                    have GB := Lib.hid (show ((GP.count q : Nat) : Int) ≤ 264 from by have := List.count_le_length (a := q) (l := GP); have := HLN.out; omega)
                    have MB := Lib.hid (show ((MP.count q : Nat) : Int) ≤ 264 from by have := List.count_le_length (a := q) (l := MP); have := HLN.out; omega)
                    go_loopw [26, 152] (fun cv iv wi => ∃ k : Nat, iv = .int .i64 k ∧ k ≤ MP.length ∧ cv = .int .i64 (1 + ((MP.take k).count q : Nat)) ∧ Fr No wA wi) (fun _ iv _ => MP.length - (intOf iv).toNat)
                    case atStart => exact ⟨0, rfl, Nat.zero_le _, by simp, Fr.refl _ _⟩
                    case round =>
                      obtain ⟨k, rfl, hk, rfl, fr⟩ := hrel
                      rename World => wi
                      have FI := Lib.hid fr
                      clear fr
                      have kb : (MP.take k).count q ≤ 264 := by have := List.count_le_length (a := q) (l := MP.take k); rw [List.length_take] at this; have := HLN.out; omega
                      by_cases hkt : k < MP.length
                      · have i2 : (k : Int) < (MP.length : Int) := by omega
                        obtain ⟨p2, hx2⟩ : ∃ x, MP[k]? = some x := ⟨_, List.getElem?_eq_getElem hkt⟩
                        have P2OK := Lib.hid (MPO.out p2 (List.mem_of_getElem? hx2))
                        have PL2 := Lib.hid (pointC_len P2OK.out)
                        obtain ⟨g2, cap2, hv2, hr2, -⟩ := own_elem (f := pointC) (k := 33) (L := MP) (by decide) (fun x hx => pointC_len (MPO.out x hx)) (ownsRow_keep MQ18.out (FRA.out.trans0 FI.out) (fun _ _ => _root_.id)) hx2
                        obtain ⟨rfl, -, rfl⟩ := slice_eq hv2
                        have RR2x := Lib.hid hr2
                        have FJ := Lib.hid ((Fr.refl No wi).alloc (.cells (pointC p2).toArray 47))
                        have RP2 := Lib.hid (range_new wi (pointC p2) 47)
                        have RQ2 := Lib.hid (range_keep (range_keep RQ.out FI.out _root_.id) FJ.out _root_.id)
                        have TK := Lib.hid (show MP.take (k + 1) = MP.take k ++ [p2] by rw [List.take_add_one, hx2]; rfl)
                        clear hr2 hv2 hx2
                        by_cases hpq : q = p2
                        · have CN := Lib.hid (show (MP.take (k + 1)).count q = (MP.take k).count q + 1 by rw [TK.out, List.count_append, hpq]; simp)
                          have HE := Lib.hid (show (pointC q).toArray = (pointC p2).toArray by rw [hpq])
                          clear hpq
                          generalize (MP.take k).count q = cm at *
                          have K0 := Lib.hid True.intro
                          have K1 := Lib.hid True.intro
                          have K2 := Lib.hid True.intro
                          have K3 := Lib.hid True.intro
                          have K4 := Lib.hid True.intro
                          go_wp2_with (first | ((with_reducible refine at_list ?_); have mk := K0.out; refine wpList_value rfl (exec_load (ty := 47) rfl rfl RR2x.out uP rP (by rw [PL2.out]; exact infoPoint)) ?_; go_frame; clear mk K0) | ((with_reducible refine at_store ?_); have mk := K1.out; refine wpList_done rfl (exec_store_new (w := wi) (ty := 47) (cs := pointC p2) rfl rfl rfl (by rw [PL2.out]; rfl) (by rw [PL2.out]; exact infoPoint) pointC_one) ?_; generalize wi.alloc (.cells (pointC p2).toArray 47) = wJ at *; go_frame; clear mk K1) | ((with_reducible refine at_dst 156 ?_); have mk := K2.out; refine wpList_value (o := ⟨some 156, _, _, _, _, _⟩) rfl (exec_load (ty := 47) rfl rfl RQ2.out uP rP (by rw [PL.out]; exact infoPoint)) ?_; go_frame; clear mk K2) | ((with_reducible refine at_dst 157 ?_); have mk := K3.out; refine wpList_value (o := ⟨some 157, _, _, _, _, _⟩) rfl (exec_load (ty := 47) rfl rfl RP2.out uP rP (by rw [PL2.out]; exact infoPoint)) ?_; go_frame; clear mk K3) | ((with_reducible refine at_dst 158 ?_); have mk := K4.out; refine wpList_value (o := ⟨some 158, _, _, _, _, _⟩) rfl (eqPoint.exec_eql (u := (pointC q).toArray) (v := (pointC p2).toArray) rfl rfl rfl (keyOfPoint QOK.out) (keyOfPoint P2OK.out) true ⟨fun _ => HE.out, fun _ => rfl⟩ _) ?_; go_frame; clear mk K4))
                          go_roundw
                          case rel => exact ⟨k + 1, by go_num, by omega, by rw [CN.out]; go_num, FI.out.trans0 FJ.out⟩
                          case measure => simp [intOf]; omega
                        · have CN := Lib.hid (show (MP.take (k + 1)).count q = (MP.take k).count q by rw [TK.out, List.count_append, List.count_singleton]; simp [Ne.symm hpq])
                          have HE := Lib.hid (show ¬ (pointC q).toArray = (pointC p2).toArray from fun e => hpq (pointC_inj (by simpa using e)))
                          clear hpq
                          generalize (MP.take k).count q = cm at *
                          have K0 := Lib.hid True.intro
                          have K1 := Lib.hid True.intro
                          have K2 := Lib.hid True.intro
                          have K3 := Lib.hid True.intro
                          have K4 := Lib.hid True.intro
                          go_wp2_with (first | ((with_reducible refine at_list ?_); have mk := K0.out; refine wpList_value rfl (exec_load (ty := 47) rfl rfl RR2x.out uP rP (by rw [PL2.out]; exact infoPoint)) ?_; go_frame; clear mk K0) | ((with_reducible refine at_store ?_); have mk := K1.out; refine wpList_done rfl (exec_store_new (w := wi) (ty := 47) (cs := pointC p2) rfl rfl rfl (by rw [PL2.out]; rfl) (by rw [PL2.out]; exact infoPoint) pointC_one) ?_; generalize wi.alloc (.cells (pointC p2).toArray 47) = wJ at *; go_frame; clear mk K1) | ((with_reducible refine at_dst 156 ?_); have mk := K2.out; refine wpList_value (o := ⟨some 156, _, _, _, _, _⟩) rfl (exec_load (ty := 47) rfl rfl RQ2.out uP rP (by rw [PL.out]; exact infoPoint)) ?_; go_frame; clear mk K2) | ((with_reducible refine at_dst 157 ?_); have mk := K3.out; refine wpList_value (o := ⟨some 157, _, _, _, _, _⟩) rfl (exec_load (ty := 47) rfl rfl RP2.out uP rP (by rw [PL2.out]; exact infoPoint)) ?_; go_frame; clear mk K3) | ((with_reducible refine at_dst 158 ?_); have mk := K4.out; refine wpList_value (o := ⟨some 158, _, _, _, _, _⟩) rfl (eqPoint.exec_eql (u := (pointC q).toArray) (v := (pointC p2).toArray) rfl rfl rfl (keyOfPoint QOK.out) (keyOfPoint P2OK.out) false ⟨fun e => (by cases e), fun e => absurd e HE.out⟩ _) ?_; go_frame; clear mk K4))
                          go_roundw
                          case rel => exact ⟨k + 1, by go_num, by omega, by rw [CN.out], FI.out.trans0 FJ.out⟩
                          case measure => simp [intOf]; omega
                      · have hke : k = MP.length := by omega
                        have i2 : ¬ (k : Int) < (MP.length : Int) := by omega
                        have CME := Lib.hid (show (MP.take k).count q = MP.count q by rw [hke, List.take_length])
                        rw [CME.out]
                        clear hke kb CME
                        generalize hcM : MP.count q = cM at *
                        have mb := MB.out
                        go_wp2_with fail
                        (try simp only [Exit.inBlock, Exit.then])
                        go_loopw [26, 164] (fun cv iv wg => ∃ k : Nat, iv = .int .i64 k ∧ k ≤ GP.length ∧ cv = .int .i64 (1 + (cM : Int) - ((GP.take k).count q : Nat)) ∧ Fr No wA wg) (fun _ iv _ => GP.length - (intOf iv).toNat)
                        case atStart => exact ⟨0, rfl, Nat.zero_le _, by simp, FI.out⟩
                        case round =>
                          obtain ⟨k2, rfl, hk2, rfl, fr⟩ := hrel
                          rename World => wg
                          have FG := Lib.hid fr
                          clear fr
                          have kb2 : (GP.take k2).count q ≤ 264 := by have := List.count_le_length (a := q) (l := GP.take k2); rw [List.length_take] at this; have := HLN.out; omega
                          by_cases hkt2 : k2 < GP.length
                          · have i3 : (k2 : Int) < (GP.length : Int) := by omega
                            obtain ⟨p2, hx2⟩ : ∃ x, GP[k2]? = some x := ⟨_, List.getElem?_eq_getElem hkt2⟩
                            have P2OK := Lib.hid (GPO.out p2 (List.mem_of_getElem? hx2))
                            have PL2 := Lib.hid (pointC_len P2OK.out)
                            obtain ⟨g2, cap2, hv2, hr2, -⟩ := own_elem (f := pointC) (k := 33) (L := GP) (by decide) (fun x hx => pointC_len (GPO.out x hx)) (ownsRow_keep GQ18.out (FRA.out.trans0 FG.out) (fun _ _ => _root_.id)) hx2
                            obtain ⟨rfl, -, rfl⟩ := slice_eq hv2
                            have RR2x := Lib.hid hr2
                            have FJ := Lib.hid ((Fr.refl No wg).alloc (.cells (pointC p2).toArray 47))
                            have RP2 := Lib.hid (range_new wg (pointC p2) 47)
                            have RQ2 := Lib.hid (range_keep (range_keep RQ.out FG.out _root_.id) FJ.out _root_.id)
                            have TK := Lib.hid (show GP.take (k2 + 1) = GP.take k2 ++ [p2] by rw [List.take_add_one, hx2]; rfl)
                            clear hr2 hv2 hx2
                            by_cases hpq : q = p2
                            · have CN := Lib.hid (show (GP.take (k2 + 1)).count q = (GP.take k2).count q + 1 by rw [TK.out, List.count_append, hpq]; simp)
                              have HE := Lib.hid (show (pointC q).toArray = (pointC p2).toArray by rw [hpq])
                              clear hpq
                              generalize (GP.take k2).count q = cg at *
                              have K0 := Lib.hid True.intro
                              have K1 := Lib.hid True.intro
                              have K2 := Lib.hid True.intro
                              have K3 := Lib.hid True.intro
                              have K4 := Lib.hid True.intro
                              go_wp2_with (first | ((with_reducible refine at_list ?_); have mk := K0.out; refine wpList_value rfl (exec_load (ty := 47) rfl rfl RR2x.out uP rP (by rw [PL2.out]; exact infoPoint)) ?_; go_frame; clear mk K0) | ((with_reducible refine at_store ?_); have mk := K1.out; refine wpList_done rfl (exec_store_new (w := wg) (ty := 47) (cs := pointC p2) rfl rfl rfl (by rw [PL2.out]; rfl) (by rw [PL2.out]; exact infoPoint) pointC_one) ?_; generalize wg.alloc (.cells (pointC p2).toArray 47) = wJ at *; go_frame; clear mk K1) | ((with_reducible refine at_dst 168 ?_); have mk := K2.out; refine wpList_value (o := ⟨some 168, _, _, _, _, _⟩) rfl (exec_load (ty := 47) rfl rfl RQ2.out uP rP (by rw [PL.out]; exact infoPoint)) ?_; go_frame; clear mk K2) | ((with_reducible refine at_dst 169 ?_); have mk := K3.out; refine wpList_value (o := ⟨some 169, _, _, _, _, _⟩) rfl (exec_load (ty := 47) rfl rfl RP2.out uP rP (by rw [PL2.out]; exact infoPoint)) ?_; go_frame; clear mk K3) | ((with_reducible refine at_dst 170 ?_); have mk := K4.out; refine wpList_value (o := ⟨some 170, _, _, _, _, _⟩) rfl (eqPoint.exec_eql (u := (pointC q).toArray) (v := (pointC p2).toArray) rfl rfl rfl (keyOfPoint QOK.out) (keyOfPoint P2OK.out) true ⟨fun _ => HE.out, fun _ => rfl⟩ _) ?_; go_frame; clear mk K4))
                              go_roundw
                              case rel => exact ⟨k2 + 1, by go_num, by omega, by rw [CN.out]; go_num, FG.out.trans0 FJ.out⟩
                              case measure => simp [intOf]; omega
                            · have CN := Lib.hid (show (GP.take (k2 + 1)).count q = (GP.take k2).count q by rw [TK.out, List.count_append, List.count_singleton]; simp [Ne.symm hpq])
                              have HE := Lib.hid (show ¬ (pointC q).toArray = (pointC p2).toArray from fun e => hpq (pointC_inj (by simpa using e)))
                              clear hpq
                              generalize (GP.take k2).count q = cg at *
                              have K0 := Lib.hid True.intro
                              have K1 := Lib.hid True.intro
                              have K2 := Lib.hid True.intro
                              have K3 := Lib.hid True.intro
                              have K4 := Lib.hid True.intro
                              go_wp2_with (first | ((with_reducible refine at_list ?_); have mk := K0.out; refine wpList_value rfl (exec_load (ty := 47) rfl rfl RR2x.out uP rP (by rw [PL2.out]; exact infoPoint)) ?_; go_frame; clear mk K0) | ((with_reducible refine at_store ?_); have mk := K1.out; refine wpList_done rfl (exec_store_new (w := wg) (ty := 47) (cs := pointC p2) rfl rfl rfl (by rw [PL2.out]; rfl) (by rw [PL2.out]; exact infoPoint) pointC_one) ?_; generalize wg.alloc (.cells (pointC p2).toArray 47) = wJ at *; go_frame; clear mk K1) | ((with_reducible refine at_dst 168 ?_); have mk := K2.out; refine wpList_value (o := ⟨some 168, _, _, _, _, _⟩) rfl (exec_load (ty := 47) rfl rfl RQ2.out uP rP (by rw [PL.out]; exact infoPoint)) ?_; go_frame; clear mk K2) | ((with_reducible refine at_dst 169 ?_); have mk := K3.out; refine wpList_value (o := ⟨some 169, _, _, _, _, _⟩) rfl (exec_load (ty := 47) rfl rfl RP2.out uP rP (by rw [PL2.out]; exact infoPoint)) ?_; go_frame; clear mk K3) | ((with_reducible refine at_dst 170 ?_); have mk := K4.out; refine wpList_value (o := ⟨some 170, _, _, _, _, _⟩) rfl (eqPoint.exec_eql (u := (pointC q).toArray) (v := (pointC p2).toArray) rfl rfl rfl (keyOfPoint QOK.out) (keyOfPoint P2OK.out) false ⟨fun e => (by cases e), fun e => absurd e HE.out⟩ _) ?_; go_frame; clear mk K4))
                              go_roundw
                              case rel => exact ⟨k2 + 1, by go_num, by omega, by rw [CN.out], FG.out.trans0 FJ.out⟩
                              case measure => simp [intOf]; omega
                          · have hke : k2 = GP.length := by omega
                            have i3 : ¬ (k2 : Int) < (GP.length : Int) := by omega
                            have CGE := Lib.hid (show (GP.take k2).count q = GP.count q by rw [hke, List.take_length])
                            rw [CGE.out]
                            clear hke kb2 CGE
                            have SP := SPI.out q
                            rw [CNT.out, hcM] at SP
                            generalize hcG : GP.count q = cG at *
                            have gb := GB.out
                            have FAG := Lib.hid (FRA.out.trans0 FG.out)
                            have RQ3 := Lib.hid (range_keep RQ.out FG.out _root_.id)
                            have FD2 := Lib.hid (findn_any (G18.out.fr0 FAG.out).cn QOK.out)
                            have OOK := Lib.hid (outOf_ok G18.out.hok.ok q)
                            have OL := Lib.hid (outC_len OOK.out)
                            cases hb2 : hasC S' q with
                            | true =>
                              have HB2 := Lib.hid hb2
                              have jj : 0 < (1 : Int) + (cM : Int) - (cG : Int) := SP.1 hb2
                              have jk : (!decide ((cG : Int) < 1 + (cM : Int))) = false := by simp; omega
                              clear SP hb2 hcG hcM
                              have K0 := Lib.hid True.intro
                              have K1 := Lib.hid True.intro
                              have K2 := Lib.hid True.intro
                              go_wp2_with (first | ((with_reducible refine at_dst 176 ?_); have mk := K0.out; refine wpList_value (o := ⟨some 176, _, _, _, _, _⟩) rfl (exec_load (ty := 47) rfl rfl RQ3.out uP rP (by rw [PL.out]; exact infoPoint)) ?_; go_frame; clear mk K0) | (have mk := K1.out; go_at_call 27; refine FD2.out.mono ?_; rintro e wK ⟨rfl, f9⟩; rw [HB2.out]; have FK := Lib.hid ((FAG.out.trans0 f9).trans0 ((Fr.refl No wK).alloc (.cells (outC (outOf S' q)).toArray 55))); clear f9; go_frame; clear mk K1) | ((with_reducible refine at_store ?_); have mk := K2.out; refine wpList_done rfl (exec_store_new (w := wK) (ty := 55) (cs := outC (outOf S' q)) rfl rfl rfl (by rw [OL.out]; rfl) (by rw [OL.out]; exact infoOut) outC_one) ?_; go_frame; clear mk K2))
                              go_roundw
                              case rel => exact ⟨m + 1, by go_num, by omega, FK.out⟩
                              case measure => simp [intOf]; omega
                            | false =>
                              have HB2 := Lib.hid hb2
                              have jj : ¬ 0 < (1 : Int) + (cM : Int) - (cG : Int) := fun e => by have := SP.2 e; rw [hb2] at this; cases this
                              clear SP hb2 hcG hcM
                              have K0 := Lib.hid True.intro
                              have K1 := Lib.hid True.intro
                              have K2 := Lib.hid True.intro
                              go_wp2_with (first | ((with_reducible refine at_dst 176 ?_); have mk := K0.out; refine wpList_value (o := ⟨some 176, _, _, _, _, _⟩) rfl (exec_load (ty := 47) rfl rfl RQ3.out uP rP (by rw [PL.out]; exact infoPoint)) ?_; go_frame; clear mk K0) | (have mk := K1.out; go_at_call 27; refine FD2.out.mono ?_; rintro e wK ⟨rfl, f9⟩; rw [HB2.out]; have FK := Lib.hid ((FAG.out.trans0 f9).trans0 ((Fr.refl No wK).alloc (.cells (outC (outOf S' q)).toArray 55))); clear f9; go_frame; clear mk K1) | ((with_reducible refine at_store ?_); have mk := K2.out; refine wpList_done rfl (exec_store_new (w := wK) (ty := 55) (cs := outC (outOf S' q)) rfl rfl rfl (by rw [OL.out]; rfl) (by rw [OL.out]; exact infoOut) outC_one) ?_; go_frame; clear mk K2))
                              go_roundw
                              case rel => exact ⟨m + 1, by go_num, by omega, FK.out⟩
                              case measure => simp [intOf]; omega
                  | false =>
                    have CNT := Lib.hid (show cnt S q = 0 by unfold cnt; rw [if_neg (by rw [hb]; decide)])
                    rw [hb] at ct
                    clear hb
                    have K0 := Lib.hid True.intro
                    have K1 := Lib.hid True.intro
                    go_wp2_with (first | ((with_reducible refine at_list ?_); have mk := K0.out; refine wpList_value rfl (exec_load (ty := 47) rfl rfl R1.out uP rP (by rw [PL.out]; exact infoPoint)) ?_; go_frame; clear mk K0) | ((with_reducible refine at_store ?_); have mk := K1.out; refine wpList_done rfl (exec_store_new (w := wr5) (ty := 47) (cs := pointC q) rfl rfl rfl (by rw [PL.out]; rfl) (by rw [PL.out]; exact infoPoint) pointC_one) ?_; generalize wr5.alloc (.cells (pointC q).toArray 47) = wA at *; go_frame; clear mk K1))
                    clear ct
                    have mpl : MP.length ≤ 264 := by have := HLN.out; omega
                    have gpl : GP.length ≤ 264 := by have := HLN.out; omega
                    have GB := Lib.hid (show ((GP.count q : Nat) : Int) ≤ 264 from by have := List.count_le_length (a := q) (l := GP); have := HLN.out; omega)
                    have MB := Lib.hid (show ((MP.count q : Nat) : Int) ≤ 264 from by have := List.count_le_length (a := q) (l := MP); have := HLN.out; omega)
                    go_loopw [26, 152] (fun cv iv wi => ∃ k : Nat, iv = .int .i64 k ∧ k ≤ MP.length ∧ cv = .int .i64 (0 + ((MP.take k).count q : Nat)) ∧ Fr No wA wi) (fun _ iv _ => MP.length - (intOf iv).toNat)
                    case atStart => exact ⟨0, rfl, Nat.zero_le _, by simp, Fr.refl _ _⟩
                    case round =>
                      obtain ⟨k, rfl, hk, rfl, fr⟩ := hrel
                      rename World => wi
                      have FI := Lib.hid fr
                      clear fr
                      have kb : (MP.take k).count q ≤ 264 := by have := List.count_le_length (a := q) (l := MP.take k); rw [List.length_take] at this; have := HLN.out; omega
                      by_cases hkt : k < MP.length
                      · have i2 : (k : Int) < (MP.length : Int) := by omega
                        obtain ⟨p2, hx2⟩ : ∃ x, MP[k]? = some x := ⟨_, List.getElem?_eq_getElem hkt⟩
                        have P2OK := Lib.hid (MPO.out p2 (List.mem_of_getElem? hx2))
                        have PL2 := Lib.hid (pointC_len P2OK.out)
                        obtain ⟨g2, cap2, hv2, hr2, -⟩ := own_elem (f := pointC) (k := 33) (L := MP) (by decide) (fun x hx => pointC_len (MPO.out x hx)) (ownsRow_keep MQ18.out (FRA.out.trans0 FI.out) (fun _ _ => _root_.id)) hx2
                        obtain ⟨rfl, -, rfl⟩ := slice_eq hv2
                        have RR2x := Lib.hid hr2
                        have FJ := Lib.hid ((Fr.refl No wi).alloc (.cells (pointC p2).toArray 47))
                        have RP2 := Lib.hid (range_new wi (pointC p2) 47)
                        have RQ2 := Lib.hid (range_keep (range_keep RQ.out FI.out _root_.id) FJ.out _root_.id)
                        have TK := Lib.hid (show MP.take (k + 1) = MP.take k ++ [p2] by rw [List.take_add_one, hx2]; rfl)
                        clear hr2 hv2 hx2
                        by_cases hpq : q = p2
                        · have CN := Lib.hid (show (MP.take (k + 1)).count q = (MP.take k).count q + 1 by rw [TK.out, List.count_append, hpq]; simp)
                          have HE := Lib.hid (show (pointC q).toArray = (pointC p2).toArray by rw [hpq])
                          clear hpq
                          generalize (MP.take k).count q = cm at *
                          have K0 := Lib.hid True.intro
                          have K1 := Lib.hid True.intro
                          have K2 := Lib.hid True.intro
                          have K3 := Lib.hid True.intro
                          have K4 := Lib.hid True.intro
                          go_wp2_with (first | ((with_reducible refine at_list ?_); have mk := K0.out; refine wpList_value rfl (exec_load (ty := 47) rfl rfl RR2x.out uP rP (by rw [PL2.out]; exact infoPoint)) ?_; go_frame; clear mk K0) | ((with_reducible refine at_store ?_); have mk := K1.out; refine wpList_done rfl (exec_store_new (w := wi) (ty := 47) (cs := pointC p2) rfl rfl rfl (by rw [PL2.out]; rfl) (by rw [PL2.out]; exact infoPoint) pointC_one) ?_; generalize wi.alloc (.cells (pointC p2).toArray 47) = wJ at *; go_frame; clear mk K1) | ((with_reducible refine at_dst 156 ?_); have mk := K2.out; refine wpList_value (o := ⟨some 156, _, _, _, _, _⟩) rfl (exec_load (ty := 47) rfl rfl RQ2.out uP rP (by rw [PL.out]; exact infoPoint)) ?_; go_frame; clear mk K2) | ((with_reducible refine at_dst 157 ?_); have mk := K3.out; refine wpList_value (o := ⟨some 157, _, _, _, _, _⟩) rfl (exec_load (ty := 47) rfl rfl RP2.out uP rP (by rw [PL2.out]; exact infoPoint)) ?_; go_frame; clear mk K3) | ((with_reducible refine at_dst 158 ?_); have mk := K4.out; refine wpList_value (o := ⟨some 158, _, _, _, _, _⟩) rfl (eqPoint.exec_eql (u := (pointC q).toArray) (v := (pointC p2).toArray) rfl rfl rfl (keyOfPoint QOK.out) (keyOfPoint P2OK.out) true ⟨fun _ => HE.out, fun _ => rfl⟩ _) ?_; go_frame; clear mk K4))
                          go_roundw
                          case rel => exact ⟨k + 1, by go_num, by omega, by rw [CN.out]; go_num, FI.out.trans0 FJ.out⟩
                          case measure => simp [intOf]; omega
                        · have CN := Lib.hid (show (MP.take (k + 1)).count q = (MP.take k).count q by rw [TK.out, List.count_append, List.count_singleton]; simp [Ne.symm hpq])
                          have HE := Lib.hid (show ¬ (pointC q).toArray = (pointC p2).toArray from fun e => hpq (pointC_inj (by simpa using e)))
                          clear hpq
                          generalize (MP.take k).count q = cm at *
                          have K0 := Lib.hid True.intro
                          have K1 := Lib.hid True.intro
                          have K2 := Lib.hid True.intro
                          have K3 := Lib.hid True.intro
                          have K4 := Lib.hid True.intro
                          go_wp2_with (first | ((with_reducible refine at_list ?_); have mk := K0.out; refine wpList_value rfl (exec_load (ty := 47) rfl rfl RR2x.out uP rP (by rw [PL2.out]; exact infoPoint)) ?_; go_frame; clear mk K0) | ((with_reducible refine at_store ?_); have mk := K1.out; refine wpList_done rfl (exec_store_new (w := wi) (ty := 47) (cs := pointC p2) rfl rfl rfl (by rw [PL2.out]; rfl) (by rw [PL2.out]; exact infoPoint) pointC_one) ?_; generalize wi.alloc (.cells (pointC p2).toArray 47) = wJ at *; go_frame; clear mk K1) | ((with_reducible refine at_dst 156 ?_); have mk := K2.out; refine wpList_value (o := ⟨some 156, _, _, _, _, _⟩) rfl (exec_load (ty := 47) rfl rfl RQ2.out uP rP (by rw [PL.out]; exact infoPoint)) ?_; go_frame; clear mk K2) | ((with_reducible refine at_dst 157 ?_); have mk := K3.out; refine wpList_value (o := ⟨some 157, _, _, _, _, _⟩) rfl (exec_load (ty := 47) rfl rfl RP2.out uP rP (by rw [PL2.out]; exact infoPoint)) ?_; go_frame; clear mk K3) | ((with_reducible refine at_dst 158 ?_); have mk := K4.out; refine wpList_value (o := ⟨some 158, _, _, _, _, _⟩) rfl (eqPoint.exec_eql (u := (pointC q).toArray) (v := (pointC p2).toArray) rfl rfl rfl (keyOfPoint QOK.out) (keyOfPoint P2OK.out) false ⟨fun e => (by cases e), fun e => absurd e HE.out⟩ _) ?_; go_frame; clear mk K4))
                          go_roundw
                          case rel => exact ⟨k + 1, by go_num, by omega, by rw [CN.out], FI.out.trans0 FJ.out⟩
                          case measure => simp [intOf]; omega
                      · have hke : k = MP.length := by omega
                        have i2 : ¬ (k : Int) < (MP.length : Int) := by omega
                        have CME := Lib.hid (show (MP.take k).count q = MP.count q by rw [hke, List.take_length])
                        rw [CME.out]
                        clear hke kb CME
                        generalize hcM : MP.count q = cM at *
                        have mb := MB.out
                        go_wp2_with fail
                        (try simp only [Exit.inBlock, Exit.then])
                        go_loopw [26, 164] (fun cv iv wg => ∃ k : Nat, iv = .int .i64 k ∧ k ≤ GP.length ∧ cv = .int .i64 (0 + (cM : Int) - ((GP.take k).count q : Nat)) ∧ Fr No wA wg) (fun _ iv _ => GP.length - (intOf iv).toNat)
                        case atStart => exact ⟨0, rfl, Nat.zero_le _, by simp, FI.out⟩
                        case round =>
                          obtain ⟨k2, rfl, hk2, rfl, fr⟩ := hrel
                          rename World => wg
                          have FG := Lib.hid fr
                          clear fr
                          have kb2 : (GP.take k2).count q ≤ 264 := by have := List.count_le_length (a := q) (l := GP.take k2); rw [List.length_take] at this; have := HLN.out; omega
                          by_cases hkt2 : k2 < GP.length
                          · have i3 : (k2 : Int) < (GP.length : Int) := by omega
                            obtain ⟨p2, hx2⟩ : ∃ x, GP[k2]? = some x := ⟨_, List.getElem?_eq_getElem hkt2⟩
                            have P2OK := Lib.hid (GPO.out p2 (List.mem_of_getElem? hx2))
                            have PL2 := Lib.hid (pointC_len P2OK.out)
                            obtain ⟨g2, cap2, hv2, hr2, -⟩ := own_elem (f := pointC) (k := 33) (L := GP) (by decide) (fun x hx => pointC_len (GPO.out x hx)) (ownsRow_keep GQ18.out (FRA.out.trans0 FG.out) (fun _ _ => _root_.id)) hx2
                            obtain ⟨rfl, -, rfl⟩ := slice_eq hv2
                            have RR2x := Lib.hid hr2
                            have FJ := Lib.hid ((Fr.refl No wg).alloc (.cells (pointC p2).toArray 47))
                            have RP2 := Lib.hid (range_new wg (pointC p2) 47)
                            have RQ2 := Lib.hid (range_keep (range_keep RQ.out FG.out _root_.id) FJ.out _root_.id)
                            have TK := Lib.hid (show GP.take (k2 + 1) = GP.take k2 ++ [p2] by rw [List.take_add_one, hx2]; rfl)
                            clear hr2 hv2 hx2
                            by_cases hpq : q = p2
                            · have CN := Lib.hid (show (GP.take (k2 + 1)).count q = (GP.take k2).count q + 1 by rw [TK.out, List.count_append, hpq]; simp)
                              have HE := Lib.hid (show (pointC q).toArray = (pointC p2).toArray by rw [hpq])
                              clear hpq
                              generalize (GP.take k2).count q = cg at *
                              have K0 := Lib.hid True.intro
                              have K1 := Lib.hid True.intro
                              have K2 := Lib.hid True.intro
                              have K3 := Lib.hid True.intro
                              have K4 := Lib.hid True.intro
                              go_wp2_with (first | ((with_reducible refine at_list ?_); have mk := K0.out; refine wpList_value rfl (exec_load (ty := 47) rfl rfl RR2x.out uP rP (by rw [PL2.out]; exact infoPoint)) ?_; go_frame; clear mk K0) | ((with_reducible refine at_store ?_); have mk := K1.out; refine wpList_done rfl (exec_store_new (w := wg) (ty := 47) (cs := pointC p2) rfl rfl rfl (by rw [PL2.out]; rfl) (by rw [PL2.out]; exact infoPoint) pointC_one) ?_; generalize wg.alloc (.cells (pointC p2).toArray 47) = wJ at *; go_frame; clear mk K1) | ((with_reducible refine at_dst 168 ?_); have mk := K2.out; refine wpList_value (o := ⟨some 168, _, _, _, _, _⟩) rfl (exec_load (ty := 47) rfl rfl RQ2.out uP rP (by rw [PL.out]; exact infoPoint)) ?_; go_frame; clear mk K2) | ((with_reducible refine at_dst 169 ?_); have mk := K3.out; refine wpList_value (o := ⟨some 169, _, _, _, _, _⟩) rfl (exec_load (ty := 47) rfl rfl RP2.out uP rP (by rw [PL2.out]; exact infoPoint)) ?_; go_frame; clear mk K3) | ((with_reducible refine at_dst 170 ?_); have mk := K4.out; refine wpList_value (o := ⟨some 170, _, _, _, _, _⟩) rfl (eqPoint.exec_eql (u := (pointC q).toArray) (v := (pointC p2).toArray) rfl rfl rfl (keyOfPoint QOK.out) (keyOfPoint P2OK.out) true ⟨fun _ => HE.out, fun _ => rfl⟩ _) ?_; go_frame; clear mk K4))
                              go_roundw
                              case rel => exact ⟨k2 + 1, by go_num, by omega, by rw [CN.out]; go_num, FG.out.trans0 FJ.out⟩
                              case measure => simp [intOf]; omega
                            · have CN := Lib.hid (show (GP.take (k2 + 1)).count q = (GP.take k2).count q by rw [TK.out, List.count_append, List.count_singleton]; simp [Ne.symm hpq])
                              have HE := Lib.hid (show ¬ (pointC q).toArray = (pointC p2).toArray from fun e => hpq (pointC_inj (by simpa using e)))
                              clear hpq
                              generalize (GP.take k2).count q = cg at *
                              have K0 := Lib.hid True.intro
                              have K1 := Lib.hid True.intro
                              have K2 := Lib.hid True.intro
                              have K3 := Lib.hid True.intro
                              have K4 := Lib.hid True.intro
                              go_wp2_with (first | ((with_reducible refine at_list ?_); have mk := K0.out; refine wpList_value rfl (exec_load (ty := 47) rfl rfl RR2x.out uP rP (by rw [PL2.out]; exact infoPoint)) ?_; go_frame; clear mk K0) | ((with_reducible refine at_store ?_); have mk := K1.out; refine wpList_done rfl (exec_store_new (w := wg) (ty := 47) (cs := pointC p2) rfl rfl rfl (by rw [PL2.out]; rfl) (by rw [PL2.out]; exact infoPoint) pointC_one) ?_; generalize wg.alloc (.cells (pointC p2).toArray 47) = wJ at *; go_frame; clear mk K1) | ((with_reducible refine at_dst 168 ?_); have mk := K2.out; refine wpList_value (o := ⟨some 168, _, _, _, _, _⟩) rfl (exec_load (ty := 47) rfl rfl RQ2.out uP rP (by rw [PL.out]; exact infoPoint)) ?_; go_frame; clear mk K2) | ((with_reducible refine at_dst 169 ?_); have mk := K3.out; refine wpList_value (o := ⟨some 169, _, _, _, _, _⟩) rfl (exec_load (ty := 47) rfl rfl RP2.out uP rP (by rw [PL2.out]; exact infoPoint)) ?_; go_frame; clear mk K3) | ((with_reducible refine at_dst 170 ?_); have mk := K4.out; refine wpList_value (o := ⟨some 170, _, _, _, _, _⟩) rfl (eqPoint.exec_eql (u := (pointC q).toArray) (v := (pointC p2).toArray) rfl rfl rfl (keyOfPoint QOK.out) (keyOfPoint P2OK.out) false ⟨fun e => (by cases e), fun e => absurd e HE.out⟩ _) ?_; go_frame; clear mk K4))
                              go_roundw
                              case rel => exact ⟨k2 + 1, by go_num, by omega, by rw [CN.out], FG.out.trans0 FJ.out⟩
                              case measure => simp [intOf]; omega
                          · have hke : k2 = GP.length := by omega
                            have i3 : ¬ (k2 : Int) < (GP.length : Int) := by omega
                            have CGE := Lib.hid (show (GP.take k2).count q = GP.count q by rw [hke, List.take_length])
                            rw [CGE.out]
                            clear hke kb2 CGE
                            have SP := SPI.out q
                            rw [CNT.out, hcM] at SP
                            generalize hcG : GP.count q = cG at *
                            have gb := GB.out
                            have FAG := Lib.hid (FRA.out.trans0 FG.out)
                            have RQ3 := Lib.hid (range_keep RQ.out FG.out _root_.id)
                            have FD2 := Lib.hid (findn_any (G18.out.fr0 FAG.out).cn QOK.out)
                            have OOK := Lib.hid (outOf_ok G18.out.hok.ok q)
                            have OL := Lib.hid (outC_len OOK.out)
                            cases hb2 : hasC S' q with
                            | true =>
                              have HB2 := Lib.hid hb2
                              have jj : 0 < (0 : Int) + (cM : Int) - (cG : Int) := SP.1 hb2
                              have jk : (!decide (cG < cM)) = false := by simp; omega
                              clear SP hb2 hcG hcM
                              have K0 := Lib.hid True.intro
                              have K1 := Lib.hid True.intro
                              have K2 := Lib.hid True.intro
                              go_wp2_with (first | ((with_reducible refine at_dst 176 ?_); have mk := K0.out; refine wpList_value (o := ⟨some 176, _, _, _, _, _⟩) rfl (exec_load (ty := 47) rfl rfl RQ3.out uP rP (by rw [PL.out]; exact infoPoint)) ?_; go_frame; clear mk K0) | (have mk := K1.out; go_at_call 27; refine FD2.out.mono ?_; rintro e wK ⟨rfl, f9⟩; rw [HB2.out]; have FK := Lib.hid ((FAG.out.trans0 f9).trans0 ((Fr.refl No wK).alloc (.cells (outC (outOf S' q)).toArray 55))); clear f9; go_frame; clear mk K1) | ((with_reducible refine at_store ?_); have mk := K2.out; refine wpList_done rfl (exec_store_new (w := wK) (ty := 55) (cs := outC (outOf S' q)) rfl rfl rfl (by rw [OL.out]; rfl) (by rw [OL.out]; exact infoOut) outC_one) ?_; go_frame; clear mk K2))
                              go_roundw
                              case rel => exact ⟨m + 1, by go_num, by omega, FK.out⟩
                              case measure => simp [intOf]; omega
                            | false =>
                              have HB2 := Lib.hid hb2
                              have jj : ¬ 0 < (0 : Int) + (cM : Int) - (cG : Int) := fun e => by have := SP.2 e; rw [hb2] at this; cases this
                              clear SP hb2 hcG hcM
                              have K0 := Lib.hid True.intro
                              have K1 := Lib.hid True.intro
                              have K2 := Lib.hid True.intro
                              go_wp2_with (first | ((with_reducible refine at_dst 176 ?_); have mk := K0.out; refine wpList_value (o := ⟨some 176, _, _, _, _, _⟩) rfl (exec_load (ty := 47) rfl rfl RQ3.out uP rP (by rw [PL.out]; exact infoPoint)) ?_; go_frame; clear mk K0) | (have mk := K1.out; go_at_call 27; refine FD2.out.mono ?_; rintro e wK ⟨rfl, f9⟩; rw [HB2.out]; have FK := Lib.hid ((FAG.out.trans0 f9).trans0 ((Fr.refl No wK).alloc (.cells (outC (outOf S' q)).toArray 55))); clear f9; go_frame; clear mk K1) | ((with_reducible refine at_store ?_); have mk := K2.out; refine wpList_done rfl (exec_store_new (w := wK) (ty := 55) (cs := outC (outOf S' q)) rfl rfl rfl (by rw [OL.out]; rfl) (by rw [OL.out]; exact infoOut) outC_one) ?_; go_frame; clear mk K2))
                              go_roundw
                              case rel => exact ⟨m + 1, by go_num, by omega, FK.out⟩
                              case measure => simp [intOf]; omega
                · have hne : m = n := by omega
                  subst hne
                  clear hlt hm
                  have i1 : ¬ (m : Int) < (m : Int) := by omega
                  have G20 := Lib.hid (G18.out.fr0 FR5.out)
                  have F120 := Lib.hid (F14.out.trans0 G20.out.fr)
                  have F420 := Lib.hid (F4.out.trans0 G20.out.fr)
                  have x2 := KR.out wr5 F120.out 2 _ rfl
                  go_wp2_with fail
                  (try simp only [Exit.inBlock, Exit.then])
                  clear x2
                  go_loopw [188] (fun iv wr => ∃ n : Nat, iv = .int .i64 n ∧ n ≤ b.txs.length ∧ Fr No wr5 wr) (fun iv _ => b.txs.length - (intOf iv).toNat)
                  case atStart => exact ⟨0, rfl, Nat.zero_le _, Fr.refl _ _⟩
                  case round =>
                    obtain ⟨n, rfl, hn, fr⟩ := hrel
                    rename World => wr
                    have FR := Lib.hid fr
                    clear fr
                    by_cases hlt : n < b.txs.length
                    · have i2 : (n : Int) < (b.txs.length : Int) := by omega
                      obtain ⟨t, hx⟩ : ∃ x, b.txs[n]? = some x := ⟨_, List.getElem?_eq_getElem hlt⟩
                      obtain ⟨bb, off, cap, ts, hvv, hr, hq⟩ := (OPT.out wr (F420.out.trans0 FR.out)).2.at_ hx
                      obtain ⟨rfl, -, rfl⟩ := slice_eq hvv
                      obtain ⟨ja, jc, ka, kc, rfl⟩ := hq.form
                      have TT := Lib.hid (Q3.out t (List.mem_of_getElem? hx))
                      have R1 := Lib.hid hr
                      have FA := Lib.hid ((Fr.refl No wr).alloc (.cells #[.int .u32 t.ver, .slice ja t.ins.length jc, .slice ka t.outs.length kc] 41))
                      have RA := Lib.hid (tx_new wr t.ver (.slice ja t.ins.length jc) (.slice ka t.outs.length kc)).2.2.2
                      have ID := Lib.hid (id_any (HG.out.keep0 ((F420.out.trans0 FR.out).trans0 FA.out)) (hq.keep FA.out))
                      have IE := Lib.hid (idE0 TT.out.1)
                      have HTL := Lib.hid (hashC_len (idH_ok t))
                      have DT := Lib.hid (show decide (idH t ∈ idsOf (bs ++ [d])) = true from decide_eq_true TT.out.2)
                      clear hr hq hvv hx
                      have K0 := Lib.hid True.intro
                      have K1 := Lib.hid True.intro
                      have K2 := Lib.hid True.intro
                      have K3 := Lib.hid True.intro
                      have K4 := Lib.hid True.intro
                      have K5 := Lib.hid True.intro
                      have K6 := Lib.hid True.intro
                      go_wp2_with (first | ((with_reducible refine at_list ?_); have mk := K0.out; refine wpList_value rfl (exec_load (ty := 41) rfl rfl R1.out uT rT infoTx) ?_; go_frame; clear mk K0) | ((with_reducible refine at_store ?_); have mk := K1.out; refine wpList_done rfl (exec_store_new (w := wr) (ty := 41) (cs := [.int .u32 t.ver, .slice ja t.ins.length jc, .slice ka t.outs.length kc]) rfl rfl rfl rfl infoTx (one3 rfl rfl rfl)) ?_; generalize wr.alloc (.cells #[.int .u32 t.ver, .slice ja t.ins.length jc, .slice ka t.outs.length kc] 41) = wA at *; go_frame; clear mk K1) | ((with_reducible refine at_list ?_); have mk := K2.out; refine wpList_value rfl (exec_load (ty := 41) rfl rfl RA.out uT rT infoTx) ?_; go_frame; clear mk K2) | (have mk := K3.out; go_at_call 22; refine ID.out.mono ?_; rintro e wB ⟨rfl, f3⟩; rw [IE.out]; have FB := Lib.hid (FA.out.trans0 f3); clear f3; have FC0 := Lib.hid ((Fr.refl No wB).alloc (.cells (hashC (idH t)).toArray 45)); have RC := Lib.hid (range_new wB (hashC (idH t)) 45); go_frame; clear mk K3) | ((with_reducible refine at_store ?_); have mk := K4.out; refine wpList_done rfl (exec_store_new (w := wB) (ty := 45) (cs := hashC (idH t)) rfl rfl rfl (by rw [HTL.out]; rfl) (by rw [HTL.out]; exact infoHash) hashC_one) ?_; generalize wB.alloc (.cells (hashC (idH t)).toArray 45) = wC at *; have DN := Lib.hid (donen_any (G20.out.cn.fr0 ((FR.out.trans0 FB.out).trans0 FC0.out)) (idH_ok t)); go_frame; clear mk K4) | ((with_reducible refine at_dst 201 ?_); have mk := K5.out; refine wpList_vG (o := ⟨some 201, _, _, _, _, _⟩) rfl (exec_load (ty := 45) rfl rfl RC.out uH rH (by rw [HTL.out]; exact infoHash)) ?_; go_frame; clear mk K5) | (have mk := K6.out; go_at_call 23; refine DN.out.mono ?_; rintro e wD ⟨rfl, f4⟩; rw [DT.out]; have FD := Lib.hid (((FR.out.trans0 FB.out).trans0 FC0.out).trans0 f4); clear f4; go_frame; clear mk K6))
                      go_roundw
                      case rel => exact ⟨n + 1, by go_num, by omega, FD.out⟩
                      case measure => simp [intOf]; omega
                    · have hne : n = b.txs.length := by omega
                      subst hne
                      clear hlt hn
                      have i2 : ¬ (b.txs.length : Int) < (b.txs.length : Int) := by omega
                      have G21 := Lib.hid (G20.out.fr0 FR.out)
                      have F121 := Lib.hid (F14.out.trans0 G21.out.fr)
                      have F421 := Lib.hid (F4.out.trans0 G21.out.fr)
                      have x2 := KR.out wr F121.out 2 _ rfl
                      have J19' := Lib.hid (fun h0 => J19.out h0 S')
                      generalize b.txs.length = TL at *
                      by_cases h0 : TL = 0
                      · subst h0
                        go_wp2_with fail
                        exact ⟨rfl, _, results_tmp rfl _ _ _, rfl, F421.out⟩
                      · have j0 : ((TL : Int) == 0) = false := by simpa using h0
                        have j1 : (TL == 0) = false := by simpa using h0
                        have C19 := Lib.hid (J19'.out h0)
                        have CO2 := Lib.hid (conn_g (HG.out.keep0 F4.out) G21.out BLS.out (HB.out.keep F421.out))
                        have RB2 := Lib.hid (KR.out wr F121.out)
                        have K0 := Lib.hid True.intro
                        have K1 := Lib.hid True.intro
                        go_wp2_with (first | ((with_reducible refine at_dst 212 ?_); have mk := K0.out; refine wpList_vG (o := ⟨some 212, _, _, _, _, _⟩) rfl (exec_load (ty := 27) rfl rfl RB2.out uB rB infoBlk) ?_; go_frame; clear mk K0) | (have mk := K1.out; go_at_call 15; refine CO2.out.mono ?_; rintro e w22 ⟨rfl, -, V9, -, hg9⟩; rw [C19.out]; have G22 := Lib.hid hg9; clear hg9; go_frame; clear mk K1))
                        go_ret
                        exact ⟨rfl, F4.out.trans0 G22.out.fr⟩
end Go.Proofs.YtmpamcnlineceaaDoor
