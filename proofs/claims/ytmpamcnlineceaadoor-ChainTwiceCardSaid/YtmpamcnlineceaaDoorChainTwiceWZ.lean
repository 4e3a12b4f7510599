/- pappuslaw11: ChainTwice. -/
import Derived.Test.YtmpamcnlineceaaDoorMG44
import Derived.Test.YtmpamcnlineceaaDoorSameTZ
import Derived.Test.YtmpamcnlineceaaDoorTwoAZ
set_option linter.unusedVariables false
set_option linter.unusedSimpArgs false
set_option linter.unnecessarySimpa false
set_option linter.all false
namespace Go.Proofs.YtmpamcnlineceaaDoor
open Go Go.RowKit Go.Maps Go.MapKept

def blk2 (t v : TxD) : BlkD := ⟨0, [], [t, v]⟩
def blk1 (t : TxD) : BlkD := ⟨0, [], [t]⟩
theorem twice_law1 {K : List HashD} {S : List CoinD} {bs : List DoneD} {t v : TxD} {p : PointD} (ht : p ∈ ptsD t) (hv : p ∈ ptsD v) (hm : formB t = true → p ∉ (madeC t).map (·.at_)) : connE K S bs (blk2 t v) ≠ 0 := fun h => by
  obtain ⟨h1, h2, h3, h4⟩ := conn0 h
  have hf := (blkOk_iff h2).2.2 t (by simp [blk2])
  exact twice_in (K := K) (S := S) ht hv (hm hf) (b := blk2 t v) rfl h4
theorem twice_law2 {K K' : List HashD} {S : List CoinD} {bs bs' : List DoneD} {t v : TxD} {p : PointD} (ht : p ∈ ptsD t) (hv : p ∈ ptsD v) (hm : formB t = true → p ∉ (madeC t).map (·.at_)) (h : connE K S bs (blk1 t) = 0) : connE K' (connS K S bs (blk1 t)) bs' (blk1 v) ≠ 0 := fun h' => by
  obtain ⟨h1, h2, h3, h4⟩ := conn0 h
  obtain ⟨k1, k2, k3, k4⟩ := conn0 h'
  have hf := (blkOk_iff h2).2.2 t (by simp [blk1])
  have e : connS K S bs (blk1 t) = (doR K S (blk1 t)).S := by unfold connS; rw [if_pos h]
  rw [e] at k4
  exact twice_out (K := K) (K' := K') (S := S) ht hv (hm hf) (a := blk1 t) (b := blk1 v) rfl rfl rfl h4 k4
theorem bldB2 (a : Option Addr) (n c : Nat) (w : World) : (Instr.build 27 #[(2, .slice a n c)]).run Tryd.prog w = .ok (.agg [.int .u64 0, .slice none 0 0, .slice a n c].toArray) w := by kernel_rfl
/-- New rows of transactions. -/
theorem txs_new2 {w : World} {t u : TxD} {ts us : List Value} (ht : TxQ w t ts) (hu : TxQ w u us) : TxsIs (w.alloc (.cells (ts ++ us).toArray 41)) (.slice (some ⟨w.heap.size, 0, none⟩) 2 2) [t, u] := by
  have f := (Fr.refl No w).alloc (.cells (ts ++ us).toArray 41)
  have hr := range_new w (ts ++ us) 41
  have l1 : ts.length = 3 := ht.len3
  have l2 : us.length = 3 := hu.len3
  refine ⟨_, 2, rfl, (by show (2 : Nat) ≤ maxLen; decide), fun i d hi => ?_⟩
  match i, hi with
  | 0, hi =>
    obtain rfl : t = d := by simpa using hi
    exact ⟨w.heap.size, 0, ts, rfl, fun j v hj => by
      have := hr j v (by rw [List.getElem?_append_left (List.getElem?_eq_some_iff.1 hj).1]; exact hj)
      simpa using this, ht.keep f⟩
  | 1, hi =>
    obtain rfl : u = d := by simpa using hi
    exact ⟨w.heap.size, 0, us, rfl, fun j v hj => by
      have := hr (3 + j) v (by rw [List.getElem?_append_right (by omega), l1, show 3 + j - 3 = j by omega]; exact hj)
      simpa [Nat.add_assoc] using this, hu.keep f⟩
  | n + 2, hi => simp at hi
theorem txs_new1 {w : World} {t : TxD} {ts : List Value} (ht : TxQ w t ts) : TxsIs (w.alloc (.cells ts.toArray 41)) (.slice (some ⟨w.heap.size, 0, none⟩) 1 1) [t] := by
  have f := (Fr.refl No w).alloc (.cells ts.toArray 41)
  have hr := range_new w ts 41
  refine ⟨_, 1, rfl, (by show (1 : Nat) ≤ maxLen; decide), fun i d hi => ?_⟩
  match i, hi with
  | 0, hi =>
    obtain rfl : t = d := by simpa using hi
    exact ⟨w.heap.size, 0, ts, rfl, fun j v hj => by simpa using hr j v hj, ht.keep f⟩
  | n + 1, hi => simp at hi
theorem blkq_txs {w : World} {a : Option Addr} {c : Nat} {l : List TxD} (h : TxsIs w (.slice a l.length c) l) : BlkQ w ⟨0, [], l⟩ [.int .u64 0, .slice none 0 0, .slice a l.length c] := ⟨none, 0, a, c, rfl, (by show (0 : Int) ≤ 0 ∧ (0 : Int) ≤ 18446744073709551615; decide), ⟨(fun x hx => by cases hx), .inl (.inl ⟨rfl, rfl, rfl⟩)⟩, h⟩
theorem own_new (w : World) {cs : List Value} {T : TypeId} {k : Nat} (hl : cs.length = k) : (w.alloc (.cells cs.toArray T)).ownsRow w.heap.size T k (.slice (some ⟨w.heap.size, 0, none⟩) 1 1) 1 cs :=
  ⟨by rw [hl, Nat.one_mul], .inr ⟨w.heap.size, 1, cs.toArray, rfl, Nat.le_refl _, new_obj w _, Nat.le_refl _, by unfold maxLen; omega, by simpa using hl, by rw [Nat.one_mul, ← hl]; simp⟩⟩
def addIn (u : TxD) (x : InD) : TxD := ⟨u.ver, x :: u.ins, u.outs⟩
def TwoSt (w1 : World) (q : TwoD) (f1 f2 : Value) (ts us : List Value) (s3 s4 s5 s6 : Value) (wc : World) : Prop :=
  ∃ qt qu, s3 = f1 ∧ s4 = f2 ∧ s5 = .pointer (some ⟨qt, 0, none⟩) ∧ s6 = .pointer (some ⟨qu, 0, none⟩) ∧ wc.heap[qt]? = some (.cells ts.toArray 41 (0, 0)) ∧ wc.heap[qu]? = some (.cells us.toArray 41 (0, 0)) ∧ qt ≠ qu ∧ Fr No w1 wc
theorem setCells_two {w : World} {a b : Nat} {Ta Tb : TypeId} {za zb ca cb : List Value} (ha : w.heap[a]? = some (.cells za.toArray Ta (0, 0))) (hb : w.heap[b]? = some (.cells zb.toArray Tb (0, 0))) (hne : a ≠ b) (la : za.length = ca.length) (lb : zb.length = cb.length) :
    (w.setCells a 0 ca).heap[b]? = some (.cells zb.toArray Tb (0, 0)) ∧ ((w.setCells a 0 ca).setCells b 0 cb).heap[a]? = some (.cells ca.toArray Ta (0, 0)) ∧ ((w.setCells a 0 ca).setCells b 0 cb).heap[b]? = some (.cells cb.toArray Tb (0, 0)) := by
  have h1 := (setCells_fr a ca 0 w).obj hb (fun e => hne e.symm)
  have h2 := set3 (cs := ca) ha la
  exact ⟨h1, (setCells_fr b cb 0 _).obj h2 (fun e => hne e), set3 (cs := cb) h1 lb⟩
set_option maxRecDepth 20000 in
set_option maxHeartbeats 8000000 in
theorem twiceLaw_any {w : World} (hg : ShaW w) {q : TwoD} {cs : List Value} (hq : TwoQ w q cs) :
    Calls Tryd.prog 4 #[.agg cs.toArray] w fun e w' => e = .returned (.bool true) ∧ Fr No w w' := by
  obtain ⟨fa, fc, la, lc, ja, jc, ka, kc, ma, mc, na, nc, rfl, hf, hl, ht, hu⟩ := hq
  have HG := Lib.hid hg
  have HF := Lib.hid hf
  have HL := Lib.hid hl
  have HT := Lib.hid ht
  have HU := Lib.hid hu
  obtain ⟨dB, uB, rB⟩ := descBlk
  obtain ⟨dT, uT, rT⟩ := descTx
  obtain ⟨dI, uI, rI⟩ := descIn
  obtain ⟨dC, uC, rC⟩ := descCoin
  obtain ⟨dP, uP, rP⟩ := descPoint
  have zT := zeroTx1
  have zC := zeroCoin
  have F1 := Lib.hid ((Fr.refl No w).alloc (.cells #[.slice fa q.first.length fc, .slice la q.l.length lc, .int .u32 q.t.ver, .slice ja q.t.ins.length jc, .slice ka q.t.outs.length kc, .int .u32 q.u.ver, .slice ma q.u.ins.length mc, .slice na q.u.outs.length nc] 43))
  have RX := Lib.hid (range_new w [.slice fa q.first.length fc, .slice la q.l.length lc, .int .u32 q.t.ver, .slice ja q.t.ins.length jc, .slice ka q.t.outs.length kc, .int .u32 q.u.ver, .slice ma q.u.ins.length mc, .slice na q.u.outs.length nc] 43)
  have AL := Lib.hid (aliven_any (hg.keep0 F1.out))
  have GT := Lib.hid (fun (w' : World) (f : Fr No w w') => great11_any w' (hf.keep f) (hl.keep0 f))
  clear hg hf hl ht hu
  show Calls Tryd.prog 4 #[.agg #[.slice fa q.first.length fc, .slice la q.l.length lc, .int .u32 q.t.ver, .slice ja q.t.ins.length jc, .slice ka q.t.outs.length kc, .int .u32 q.u.ver, .slice ma q.u.ins.length mc, .slice na q.u.outs.length nc]] w _
  go_enter Tryd.func4, Tryd.ntmps4
  have K0 := Lib.hid True.intro
  go_wp2_with (first | (have mk := K0.out; go_at_call 10; generalize w.alloc (.cells #[.slice fa q.first.length fc, .slice la q.l.length lc, .int .u32 q.t.ver, .slice ja q.t.ins.length jc, .slice ka q.t.outs.length kc, .int .u32 q.u.ver, .slice ma q.u.ins.length mc, .slice na q.u.outs.length nc] 43) = w1 at *; refine AL.out.mono ?_; rintro e w2 ⟨rfl, f2⟩; have F12 := Lib.hid f2; have F2 := Lib.hid (F1.out.trans0 f2); clear f2; go_frame; clear mk K0))
  go_cut [3, 4, 5, 6] from 15 to 22 (fun s3 s4 s5 s6 wc => TwoSt w2 q (.slice fa q.first.length fc) (.slice la q.l.length lc) [.int .u32 q.t.ver, .slice ja q.t.ins.length jc, .slice ka q.t.outs.length kc] [.int .u32 q.u.ver, .slice ma q.u.ins.length mc, .slice na q.u.outs.length nc] s3 s4 s5 s6 wc)
  case first =>
    have G0 := Lib.hid (show Fr No w2 w2.drew from (Fr.refl No w2).drew)
    have SD := Lib.hid (show ∀ W, Fr No w2 W → W.cell? ⟨w.heap.size, 0, none⟩ = some (.slice fa q.first.length fc) ∧ W.cell? ⟨w.heap.size, 1, none⟩ = some (.slice la q.l.length lc) ∧ W.rangeAt w.heap.size 2 [.int .u32 q.t.ver, .slice ja q.t.ins.length jc, .slice ka q.t.outs.length kc] ∧ W.rangeAt w.heap.size 5 [.int .u32 q.u.ver, .slice ma q.u.ins.length mc, .slice na q.u.outs.length nc] from fun W f => by
      have hr := range_keep (range_keep RX.out F12.out _root_.id) f _root_.id
      refine ⟨by simpa using hr 0 _ rfl, by simpa using hr 1 _ rfl, fun j v hj => ?_, fun j v hj => ?_⟩
      · have hlt : j < 3 := (List.getElem?_eq_some_iff.1 hj).1
        have := hr (2 + j) v (by match j, hlt, hj with | 0, _, hj => exact hj | 1, _, hj => exact hj | 2, _, hj => exact hj)
        simpa using this
      · have hlt : j < 3 := (List.getElem?_eq_some_iff.1 hj).1
        have := hr (5 + j) v (by match j, hlt, hj with | 0, _, hj => exact hj | 1, _, hj => exact hj | 2, _, hj => exact hj)
        simpa using this)
    refine wp_region_lexT 14 [0, 1, 2, 3, 4, 5, 6, 7, 8, 9, 10, 11, 12, 13] (fun W => W.cell? ⟨w.heap.size, 0, none⟩ = some (.slice fa q.first.length fc) ∧ W.cell? ⟨w.heap.size, 1, none⟩ = some (.slice la q.l.length lc) ∧ W.rangeAt w.heap.size 2 [.int .u32 q.t.ver, .slice ja q.t.ins.length jc, .slice ka q.t.outs.length kc] ∧ W.rangeAt w.heap.size 5 [.int .u32 q.u.ver, .slice ma q.u.ins.length mc, .slice na q.u.outs.length nc]) (by kernel_rfl) (by kernel_rfl) (by kernel_rfl) (by kernel_rfl) ?_ (fun K hK => ?_)
    · exact SD.out _ G0.out
    generalize w2.drew = z at *
    (((first | (refine lexT_rd 0 (by kernel_rfl) rfl rfl ?_; apply Exists.intro; refine ⟨?_, ?_⟩; (focus (first | exact lex_load (ty := 41) rfl (fun w h => h.2.2.1) uT rT infoTx | exact lex_load (ty := 41) rfl (fun w h => h.2.2.2) uT rT infoTx | (intro w' hS; obtain ⟨s1, s2, s3, s4⟩ := hS; go_simp; (try with_reducible rfl); done)))) | (refine lexT_sk 0 (by kernel_rfl) rfl rfl ?_)); try simp only [Act.put, List.setIfInBounds_toArray, List.set_cons_zero, List.set_cons_succ]); ((first | (refine lexT_rd 1 (by kernel_rfl) rfl rfl ?_; apply Exists.intro; refine ⟨?_, ?_⟩; (focus (first | exact lex_load (ty := 41) rfl (fun w h => h.2.2.1) uT rT infoTx | exact lex_load (ty := 41) rfl (fun w h => h.2.2.2) uT rT infoTx | (intro w' hS; obtain ⟨s1, s2, s3, s4⟩ := hS; go_simp; (try with_reducible rfl); done)))) | (refine lexT_sk 1 (by kernel_rfl) rfl rfl ?_)); try simp only [Act.put, List.setIfInBounds_toArray, List.set_cons_zero, List.set_cons_succ]); ((first | (refine lexT_rd 2 (by kernel_rfl) rfl rfl ?_; apply Exists.intro; refine ⟨?_, ?_⟩; (focus (first | exact lex_load (ty := 41) rfl (fun w h => h.2.2.1) uT rT infoTx | exact lex_load (ty := 41) rfl (fun w h => h.2.2.2) uT rT infoTx | (intro w' hS; obtain ⟨s1, s2, s3, s4⟩ := hS; go_simp; (try with_reducible rfl); done)))) | (refine lexT_sk 2 (by kernel_rfl) rfl rfl ?_)); try simp only [Act.put, List.setIfInBounds_toArray, List.set_cons_zero, List.set_cons_succ]); ((first | (refine lexT_rd 3 (by kernel_rfl) rfl rfl ?_; apply Exists.intro; refine ⟨?_, ?_⟩; (focus (first | exact lex_load (ty := 41) rfl (fun w h => h.2.2.1) uT rT infoTx | exact lex_load (ty := 41) rfl (fun w h => h.2.2.2) uT rT infoTx | (intro w' hS; obtain ⟨s1, s2, s3, s4⟩ := hS; go_simp; (try with_reducible rfl); done)))) | (refine lexT_sk 3 (by kernel_rfl) rfl rfl ?_)); try simp only [Act.put, List.setIfInBounds_toArray, List.set_cons_zero, List.set_cons_succ]); ((first | (refine lexT_rd 4 (by kernel_rfl) rfl rfl ?_; apply Exists.intro; refine ⟨?_, ?_⟩; (focus (first | exact lex_load (ty := 41) rfl (fun w h => h.2.2.1) uT rT infoTx | exact lex_load (ty := 41) rfl (fun w h => h.2.2.2) uT rT infoTx | (intro w' hS; obtain ⟨s1, s2, s3, s4⟩ := hS; go_simp; (try with_reducible rfl); done)))) | (refine lexT_sk 4 (by kernel_rfl) rfl rfl ?_)); try simp only [Act.put, List.setIfInBounds_toArray, List.set_cons_zero, List.set_cons_succ]); ((first | (refine lexT_rd 5 (by kernel_rfl) rfl rfl ?_; apply Exists.intro; refine ⟨?_, ?_⟩; (focus (first | exact lex_load (ty := 41) rfl (fun w h => h.2.2.1) uT rT infoTx | exact lex_load (ty := 41) rfl (fun w h => h.2.2.2) uT rT infoTx | (intro w' hS; obtain ⟨s1, s2, s3, s4⟩ := hS; go_simp; (try with_reducible rfl); done)))) | (refine lexT_sk 5 (by kernel_rfl) rfl rfl ?_)); try simp only [Act.put, List.setIfInBounds_toArray, List.set_cons_zero, List.set_cons_succ]); ((first | (refine lexT_rd 6 (by kernel_rfl) rfl rfl ?_; apply Exists.intro; refine ⟨?_, ?_⟩; (focus (first | exact lex_load (ty := 41) rfl (fun w h => h.2.2.1) uT rT infoTx | exact lex_load (ty := 41) rfl (fun w h => h.2.2.2) uT rT infoTx | (intro w' hS; obtain ⟨s1, s2, s3, s4⟩ := hS; go_simp; (try with_reducible rfl); done)))) | (refine lexT_sk 6 (by kernel_rfl) rfl rfl ?_)); try simp only [Act.put, List.setIfInBounds_toArray, List.set_cons_zero, List.set_cons_succ]); ((first | (refine lexT_rd 7 (by kernel_rfl) rfl rfl ?_; apply Exists.intro; refine ⟨?_, ?_⟩; (focus (first | exact lex_load (ty := 41) rfl (fun w h => h.2.2.1) uT rT infoTx | exact lex_load (ty := 41) rfl (fun w h => h.2.2.2) uT rT infoTx | (intro w' hS; obtain ⟨s1, s2, s3, s4⟩ := hS; go_simp; (try with_reducible rfl); done)))) | (refine lexT_sk 7 (by kernel_rfl) rfl rfl ?_)); try simp only [Act.put, List.setIfInBounds_toArray, List.set_cons_zero, List.set_cons_succ]))
    refine lexT_ef2 8 9 (by kernel_rfl) rfl rfl rfl rfl (fun K' hK' => ?_) (fun K' hK' => ?_)
    · refine wp_value (exec_alloc rfl (zeroTx1 _)) ?_
      have FA := Lib.hid ((Fr.refl No z).alloc (.cells (txC 0 (.slice none 0 0) (.slice none 0 0)).toArray 41))
      have BA := Lib.hid (new_obj z (.cells (txC 0 (.slice none 0 0) (.slice none 0 0)).toArray 41))
      have QA := Lib.hid (show (z.alloc (.cells (txC 0 (.slice none 0 0) (.slice none 0 0)).toArray 41)).heap.size = z.heap.size + 1 by simp)
      generalize z.alloc (.cells (txC 0 (.slice none 0 0) (.slice none 0 0)).toArray 41) = z1 at *
      generalize hqa : z.heap.size = qa at *
      refine hK'.out _ _ ?_ (fun hS => ?_)
      · exact SD.out _ (G0.out.trans0 FA.out)
      try simp only [Act.put, List.setIfInBounds_toArray, List.set_cons_zero, List.set_cons_succ]
      refine lexT_ef1 9 (by kernel_rfl) rfl rfl (fun K' hK' => ?_)
      refine wp_value (exec_alloc rfl (zeroTx1 _)) ?_
      have FB := Lib.hid ((Fr.refl No z1).alloc (.cells (txC 0 (.slice none 0 0) (.slice none 0 0)).toArray 41))
      have BB := Lib.hid (new_obj z1 (.cells (txC 0 (.slice none 0 0) (.slice none 0 0)).toArray 41))
      have BA2 := Lib.hid (FB.out.obj BA.out _root_.id)
      have F2z := Lib.hid ((G0.out.trans0 FA.out).trans0 FB.out)
      have QG := Lib.hid (show w2.heap.size ≤ qa from by rw [← hqa]; exact G0.out.size)
      generalize z1.alloc (.cells (txC 0 (.slice none 0 0) (.slice none 0 0)).toArray 41) = z2 at *
      generalize hqb : z1.heap.size = qb at *
      have NE := Lib.hid (show qa ≠ qb from by have := QA.out; omega)
      have QG2 := Lib.hid (show w2.heap.size ≤ qb from by have := QA.out; have := QG.out; omega)
      refine hK'.out _ _ ?_ (fun hS => ?_)
      · exact SD.out _ F2z.out
      try simp only [Act.put, List.setIfInBounds_toArray, List.set_cons_zero, List.set_cons_succ]
      (((first | (refine lexT_rd 10 (by kernel_rfl) rfl rfl ?_; apply Exists.intro; refine ⟨?_, ?_⟩; (focus (first | (intro w' hS; obtain ⟨s1, s2, s3, s4⟩ := hS; go_simp; (try with_reducible rfl); done)))) | (refine lexT_sk 10 (by kernel_rfl) rfl rfl ?_)); try simp only [Act.put, List.setIfInBounds_toArray, List.set_cons_zero, List.set_cons_succ]); ((first | (refine lexT_rd 11 (by kernel_rfl) rfl rfl ?_; apply Exists.intro; refine ⟨?_, ?_⟩; (focus (first | (intro w' hS; obtain ⟨s1, s2, s3, s4⟩ := hS; go_simp; (try with_reducible rfl); done)))) | (refine lexT_sk 11 (by kernel_rfl) rfl rfl ?_)); try simp only [Act.put, List.setIfInBounds_toArray, List.set_cons_zero, List.set_cons_succ]))
      refine lexT_ef1 12 (by kernel_rfl) rfl rfl (fun K' hK' => ?_)
      refine wp_done (exec_store (ty := 41) (b := qa) (off := 0) (cs := [.int .u32 q.t.ver, .slice ja q.t.ins.length jc, .slice ka q.t.outs.length kc]) rfl rfl rfl (there_obj BA2.out (Nat.le_refl 3)) infoTx (one3 rfl rfl rfl)) ?_
      have F3z := Lib.hid (show Fr No w2 (z2.setCells qa 0 [.int .u32 q.t.ver, .slice ja q.t.ins.length jc, .slice ka q.t.outs.length kc]) from F2z.out.trans (setCells_fr _ _ _ _) (fun i hi e => by have := QG.out; have := QG2.out; omega))
      have TW := Lib.hid (setCells_two (ca := [.int .u32 q.t.ver, .slice ja q.t.ins.length jc, .slice ka q.t.outs.length kc]) (cb := [.int .u32 q.u.ver, .slice ma q.u.ins.length mc, .slice na q.u.outs.length nc]) BA2.out BB.out NE.out rfl rfl)
      refine hK'.out _ _ ?_ (fun hS => ?_)
      · exact SD.out _ F3z.out
      try simp only [Act.put, List.setIfInBounds_toArray, List.set_cons_zero, List.set_cons_succ]
      refine lexT_ef1 13 (by kernel_rfl) rfl rfl (fun K' hK' => ?_)
      refine wp_done (exec_store (ty := 41) (b := qb) (off := 0) (cs := [.int .u32 q.u.ver, .slice ma q.u.ins.length mc, .slice na q.u.outs.length nc]) rfl rfl rfl (there_obj TW.out.1 (Nat.le_refl 3)) infoTx (one3 rfl rfl rfl)) ?_
      have F4z := Lib.hid (show Fr No w2 ((z2.setCells qa 0 [.int .u32 q.t.ver, .slice ja q.t.ins.length jc, .slice ka q.t.outs.length kc]).setCells qb 0 [.int .u32 q.u.ver, .slice ma q.u.ins.length mc, .slice na q.u.outs.length nc]) from F3z.out.trans (setCells_fr _ _ _ _) (fun i hi e => by have := QG.out; have := QG2.out; omega))
      refine hK'.out _ _ ?_ (fun hS => ?_)
      · exact SD.out _ F4z.out
      try simp only [Act.put, List.setIfInBounds_toArray, List.set_cons_zero, List.set_cons_succ]
      refine lexT_nil (hK.out _ _ ?_)
      go_wp2_with fail
      go_meet
      case rel => exact ⟨qa, qb, rfl, rfl, rfl, rfl, TW.out.2.1, TW.out.2.2, NE.out, F4z.out⟩
    · refine wp_value (exec_alloc rfl (zeroTx1 _)) ?_
      have FA := Lib.hid ((Fr.refl No z).alloc (.cells (txC 0 (.slice none 0 0) (.slice none 0 0)).toArray 41))
      have BA := Lib.hid (new_obj z (.cells (txC 0 (.slice none 0 0) (.slice none 0 0)).toArray 41))
      have QA := Lib.hid (show (z.alloc (.cells (txC 0 (.slice none 0 0) (.slice none 0 0)).toArray 41)).heap.size = z.heap.size + 1 by simp)
      generalize z.alloc (.cells (txC 0 (.slice none 0 0) (.slice none 0 0)).toArray 41) = z1 at *
      generalize hqa : z.heap.size = qa at *
      refine hK'.out _ _ ?_ (fun hS => ?_)
      · exact SD.out _ (G0.out.trans0 FA.out)
      try simp only [Act.put, List.setIfInBounds_toArray, List.set_cons_zero, List.set_cons_succ]
      refine lexT_ef1 8 (by kernel_rfl) rfl rfl (fun K' hK' => ?_)
      refine wp_value (exec_alloc rfl (zeroTx1 _)) ?_
      have FB := Lib.hid ((Fr.refl No z1).alloc (.cells (txC 0 (.slice none 0 0) (.slice none 0 0)).toArray 41))
      have BB := Lib.hid (new_obj z1 (.cells (txC 0 (.slice none 0 0) (.slice none 0 0)).toArray 41))
      have BA2 := Lib.hid (FB.out.obj BA.out _root_.id)
      have F2z := Lib.hid ((G0.out.trans0 FA.out).trans0 FB.out)
      have QG := Lib.hid (show w2.heap.size ≤ qa from by rw [← hqa]; exact G0.out.size)
      generalize z1.alloc (.cells (txC 0 (.slice none 0 0) (.slice none 0 0)).toArray 41) = z2 at *
      generalize hqb : z1.heap.size = qb at *
      have NE := Lib.hid (show qa ≠ qb from by have := QA.out; omega)
      have QG2 := Lib.hid (show w2.heap.size ≤ qb from by have := QA.out; have := QG.out; omega)
      refine hK'.out _ _ ?_ (fun hS => ?_)
      · exact SD.out _ F2z.out
      try simp only [Act.put, List.setIfInBounds_toArray, List.set_cons_zero, List.set_cons_succ]
      (((first | (refine lexT_rd 10 (by kernel_rfl) rfl rfl ?_; apply Exists.intro; refine ⟨?_, ?_⟩; (focus (first | (intro w' hS; obtain ⟨s1, s2, s3, s4⟩ := hS; go_simp; (try with_reducible rfl); done)))) | (refine lexT_sk 10 (by kernel_rfl) rfl rfl ?_)); try simp only [Act.put, List.setIfInBounds_toArray, List.set_cons_zero, List.set_cons_succ]); ((first | (refine lexT_rd 11 (by kernel_rfl) rfl rfl ?_; apply Exists.intro; refine ⟨?_, ?_⟩; (focus (first | (intro w' hS; obtain ⟨s1, s2, s3, s4⟩ := hS; go_simp; (try with_reducible rfl); done)))) | (refine lexT_sk 11 (by kernel_rfl) rfl rfl ?_)); try simp only [Act.put, List.setIfInBounds_toArray, List.set_cons_zero, List.set_cons_succ]))
      refine lexT_ef1 12 (by kernel_rfl) rfl rfl (fun K' hK' => ?_)
      refine wp_done (exec_store (ty := 41) (b := qb) (off := 0) (cs := [.int .u32 q.t.ver, .slice ja q.t.ins.length jc, .slice ka q.t.outs.length kc]) rfl rfl rfl (there_obj BB.out (Nat.le_refl 3)) infoTx (one3 rfl rfl rfl)) ?_
      have F3z := Lib.hid (show Fr No w2 (z2.setCells qb 0 [.int .u32 q.t.ver, .slice ja q.t.ins.length jc, .slice ka q.t.outs.length kc]) from F2z.out.trans (setCells_fr _ _ _ _) (fun i hi e => by have := QG.out; have := QG2.out; omega))
      have TW := Lib.hid (setCells_two (ca := [.int .u32 q.t.ver, .slice ja q.t.ins.length jc, .slice ka q.t.outs.length kc]) (cb := [.int .u32 q.u.ver, .slice ma q.u.ins.length mc, .slice na q.u.outs.length nc]) BB.out BA2.out (fun e => NE.out e.symm) rfl rfl)
      refine hK'.out _ _ ?_ (fun hS => ?_)
      · exact SD.out _ F3z.out
      try simp only [Act.put, List.setIfInBounds_toArray, List.set_cons_zero, List.set_cons_succ]
      refine lexT_ef1 13 (by kernel_rfl) rfl rfl (fun K' hK' => ?_)
      refine wp_done (exec_store (ty := 41) (b := qa) (off := 0) (cs := [.int .u32 q.u.ver, .slice ma q.u.ins.length mc, .slice na q.u.outs.length nc]) rfl rfl rfl (there_obj TW.out.1 (Nat.le_refl 3)) infoTx (one3 rfl rfl rfl)) ?_
      have F4z := Lib.hid (show Fr No w2 ((z2.setCells qb 0 [.int .u32 q.t.ver, .slice ja q.t.ins.length jc, .slice ka q.t.outs.length kc]).setCells qa 0 [.int .u32 q.u.ver, .slice ma q.u.ins.length mc, .slice na q.u.outs.length nc]) from F3z.out.trans (setCells_fr _ _ _ _) (fun i hi e => by have := QG.out; have := QG2.out; omega))
      refine hK'.out _ _ ?_ (fun hS => ?_)
      · exact SD.out _ F4z.out
      try simp only [Act.put, List.setIfInBounds_toArray, List.set_cons_zero, List.set_cons_succ]
      refine lexT_nil (hK.out _ _ ?_)
      go_wp2_with fail
      go_meet
      case rel => exact ⟨qb, qa, rfl, rfl, rfl, rfl, TW.out.2.1, TW.out.2.2, (fun e => NE.out e.symm), F4z.out⟩
  case rest =>
    rename World => w3
    obtain ⟨qt, qu, rfl, rfl, rfl, rfl, bt, bu, hne, f3⟩ := hcut
    have BT := Lib.hid bt
    have BU := Lib.hid bu
    have F3 := Lib.hid (F2.out.trans0 f3)
    have F13 := Lib.hid (F12.out.trans0 f3)
    clear bt bu hne f3
    by_cases hgt : great11 q.first q.l = true
    · have EG := Lib.hid (show (if great11 q.first q.l = true then (1 : Int) else 0) = 1 by rw [if_pos hgt])
      clear hgt
      have K0 := Lib.hid True.intro
      go_wp2_with (first | (have mk := K0.out; go_at_call 11; refine (GT.out w3 F3.out).mono ?_; rintro e w4 ⟨rfl, f4⟩; rw [EG.out]; have F4 := Lib.hid (F3.out.trans0 f4); clear f4; go_frame; clear mk K0))
      go_ret
      exact ⟨rfl, F4.out⟩
    have EG := Lib.hid (show (if great11 q.first q.l = true then (1 : Int) else 0) = 0 by rw [if_neg hgt])
    obtain ⟨g1, g2, g3⟩ := great11_not (show great11 q.first q.l = false by simpa using hgt)
    clear hgt
    have GW := Lib.hid (fun (w' : World) (f : Fr No w w') => grown_g (HG.out.keep0 f) (HF.out.keep f) (HL.out.keep0 f) g2)
    have ARM := Lib.hid (fun (W : World) (f : Fr No w3 W) => heavy_any (W.alloc (.cells #[.int .u32 q.t.ver, .slice ja q.t.ins.length jc, .slice ka q.t.outs.length kc, .int .u32 q.u.ver, .slice ma q.u.ins.length mc, .slice na q.u.outs.length nc] 41)) (b := blk2 q.t q.u) (blkq_txs (txs_new2 (HT.out.keep (F3.out.trans0 f)) (HU.out.keep (F3.out.trans0 f)))))
    by_cases hhv : heavyB (blk2 q.t q.u) = true
    · have EH := Lib.hid hhv
      clear hhv
      have K0 := Lib.hid True.intro
      have K1 := Lib.hid True.intro
      have K2 := Lib.hid True.intro
      have K3 := Lib.hid True.intro
      have K4 := Lib.hid True.intro
      have K5 := Lib.hid True.intro
      go_wp2_with (first | (have mk := K0.out; go_at_call 11; refine (GT.out w3 F3.out).mono ?_; rintro e w4 ⟨rfl, f4⟩; rw [EG.out]; have F34 := Lib.hid f4; have RT := Lib.hid (range_obj (f4.obj BT.out _root_.id)); have RU := Lib.hid (range_obj (f4.obj BU.out _root_.id)); clear f4; go_frame; clear mk K0) | ((with_reducible refine at_dst 28 ?_); have mk := K1.out; refine wpList_vG (o := ⟨some 28, _, _, _, _, _⟩) rfl (exec_load (ty := 41) rfl rfl RT.out uT rT infoTx) ?_; go_frame; clear mk K1) | ((with_reducible refine at_dst 29 ?_); have mk := K2.out; refine wpList_vG (o := ⟨some 29, _, _, _, _, _⟩) rfl (exec_load (ty := 41) rfl rfl RU.out uT rT infoTx) ?_; go_frame; clear mk K2) | ((with_reducible refine at_dst 30 ?_); have mk := K3.out; refine wpList_vG (o := ⟨some 30, _, _, _, _, _⟩) rfl (exec_buildSlice2 (t := 25) rfl rfl rfl undTxs infoTxZ2 rfl (by decide) (by decide) rfl rfl) ?_; go_frame; clear mk K3) | ((with_reducible refine at_dst 31 ?_); have mk := K4.out; refine wpList_vG (o := ⟨some 31, _, _, _, _, _⟩) rfl (exec_bld (t := 27) rfl rfl (bldB2 _ _ _ _)) ?_; go_frame; clear mk K4) | (have mk := K5.out; go_at_call 12; refine (ARM.out w4 F34.out).mono ?_; rintro e w5 ⟨rfl, f5⟩; rw [EH.out]; have F5 := Lib.hid ((F3.out.trans0 F34.out).trans0 (((Fr.refl No w4).alloc _).trans0 f5)); clear f5; go_frame; clear mk K5))
      go_ret
      exact ⟨rfl, F5.out⟩
    have EH := Lib.hid (show heavyB (blk2 q.t q.u) = false by simpa using hhv)
    clear hhv
    by_cases h256 : 256 < q.first.length
    · have H256 := Lib.hid h256
      clear h256
      have K0 := Lib.hid True.intro
      have K1 := Lib.hid True.intro
      have K2 := Lib.hid True.intro
      have K3 := Lib.hid True.intro
      have K4 := Lib.hid True.intro
      have K5 := Lib.hid True.intro
      have K6 := Lib.hid True.intro
      go_wp2_with (first | (have mk := K0.out; go_at_call 11; refine (GT.out w3 F3.out).mono ?_; rintro e w4 ⟨rfl, f4⟩; rw [EG.out]; have F34 := Lib.hid f4; have RT := Lib.hid (range_obj (f4.obj BT.out _root_.id)); have RU := Lib.hid (range_obj (f4.obj BU.out _root_.id)); clear f4; go_frame; clear mk K0) | ((with_reducible refine at_dst 28 ?_); have mk := K1.out; refine wpList_vG (o := ⟨some 28, _, _, _, _, _⟩) rfl (exec_load (ty := 41) rfl rfl RT.out uT rT infoTx) ?_; go_frame; clear mk K1) | ((with_reducible refine at_dst 29 ?_); have mk := K2.out; refine wpList_vG (o := ⟨some 29, _, _, _, _, _⟩) rfl (exec_load (ty := 41) rfl rfl RU.out uT rT infoTx) ?_; go_frame; clear mk K2) | ((with_reducible refine at_dst 30 ?_); have mk := K3.out; refine wpList_vG (o := ⟨some 30, _, _, _, _, _⟩) rfl (exec_buildSlice2 (t := 25) rfl rfl rfl undTxs infoTxZ2 rfl (by decide) (by decide) rfl rfl) ?_; go_frame; clear mk K3) | ((with_reducible refine at_dst 31 ?_); have mk := K4.out; refine wpList_vG (o := ⟨some 31, _, _, _, _, _⟩) rfl (exec_bld (t := 27) rfl rfl (bldB2 _ _ _ _)) ?_; go_frame; clear mk K4) | (have mk := K5.out; go_at_call 12; refine (ARM.out w4 F34.out).mono ?_; rintro e w5 ⟨rfl, f5⟩; rw [EH.out]; have F35 := Lib.hid (F34.out.trans0 (((Fr.refl No w4).alloc _).trans0 f5)); have F5 := Lib.hid (F3.out.trans0 F35.out); clear f5; go_frame; clear mk K5) | (have mk := K6.out; go_at_call 13; refine (GW.out w5 F5.out).mono ?_; intro e w6 hgr; obtain ⟨rfl, rfl⟩ : e = .returned (.pointer none) ∧ w5 = w6 := (by rcases hgr with ⟨_, a, b⟩ | ⟨a, _⟩; exact ⟨a, b.symm⟩; exact absurd H256.out (by omega)); clear hgr; go_frame; clear mk K6))
      go_ret
      exact ⟨rfl, F5.out⟩
    have H256 := Lib.hid (show q.first.length ≤ 256 by omega)
    clear h256
    by_cases h0 : q.t.ins.length = 0
    · have e0 : ((q.t.ins.length : Int) == 0) = true := by simp; exact List.eq_nil_of_length_eq_zero h0
      clear h0
      have K0 := Lib.hid True.intro
      have K1 := Lib.hid True.intro
      have K2 := Lib.hid True.intro
      have K3 := Lib.hid True.intro
      have K4 := Lib.hid True.intro
      have K5 := Lib.hid True.intro
      have K6 := Lib.hid True.intro
      go_wp2_with (first | (have mk := K0.out; go_at_call 11; refine (GT.out w3 F3.out).mono ?_; rintro e w4 ⟨rfl, f4⟩; rw [EG.out]; have F34 := Lib.hid f4; have RT := Lib.hid (range_obj (f4.obj BT.out _root_.id)); have RU := Lib.hid (range_obj (f4.obj BU.out _root_.id)); clear f4; go_frame; clear mk K0) | ((with_reducible refine at_dst 28 ?_); have mk := K1.out; refine wpList_vG (o := ⟨some 28, _, _, _, _, _⟩) rfl (exec_load (ty := 41) rfl rfl RT.out uT rT infoTx) ?_; go_frame; clear mk K1) | ((with_reducible refine at_dst 29 ?_); have mk := K2.out; refine wpList_vG (o := ⟨some 29, _, _, _, _, _⟩) rfl (exec_load (ty := 41) rfl rfl RU.out uT rT infoTx) ?_; go_frame; clear mk K2) | ((with_reducible refine at_dst 30 ?_); have mk := K3.out; refine wpList_vG (o := ⟨some 30, _, _, _, _, _⟩) rfl (exec_buildSlice2 (t := 25) rfl rfl rfl undTxs infoTxZ2 rfl (by decide) (by decide) rfl rfl) ?_; go_frame; clear mk K3) | ((with_reducible refine at_dst 31 ?_); have mk := K4.out; refine wpList_vG (o := ⟨some 31, _, _, _, _, _⟩) rfl (exec_bld (t := 27) rfl rfl (bldB2 _ _ _ _)) ?_; go_frame; clear mk K4) | (have mk := K5.out; go_at_call 12; refine (ARM.out w4 F34.out).mono ?_; rintro e w5 ⟨rfl, f5⟩; rw [EH.out]; have F35 := Lib.hid (F34.out.trans0 (((Fr.refl No w4).alloc _).trans0 f5)); have F5 := Lib.hid (F3.out.trans0 F35.out); clear f5; go_frame; clear mk K5) | (have mk := K6.out; go_at_call 13; refine (GW.out w5 F5.out).mono ?_; intro e w6 hgr; obtain ⟨p, V, S, bs, rfl, hgd, hbs⟩ : ∃ p V S bs, e = .returned (.pointer (some ⟨p, 0, none⟩)) ∧ Gd w5 w6 p V (putC [] (payC hash0 q.first)) S bs ∧ bs.length ≤ q.l.length := (by rcases hgr with ⟨a, _⟩ | ⟨_, a⟩; exact absurd H256.out (by omega); exact a); have GD := Lib.hid hgd; have cx : w6.cell? ⟨qt, 1, none⟩ = some (.slice ja q.t.ins.length jc) := (by have := range_obj ((F35.out.trans0 hgd.fr).obj BT.out _root_.id) 1 _ rfl; simpa using this); clear hgr hgd hbs; go_frame; clear mk K6))
      go_ret
      exact ⟨rfl, F5.out.trans0 GD.out.fr⟩
    have e0 : ((q.t.ins.length : Int) == 0) = false := by simp; exact fun e => h0 (by rw [e]; rfl)
    obtain ⟨x0, hx0⟩ : ∃ x, q.t.ins[0]? = some x := ⟨_, List.getElem?_eq_getElem (by omega)⟩
    have HX0 := Lib.hid hx0
    have I0 := Lib.hid (show (0 : Int) < (q.t.ins.length : Int) by omega)
    clear h0 hx0
    have K0 := Lib.hid True.intro
    have K1 := Lib.hid True.intro
    have K2 := Lib.hid True.intro
    have K3 := Lib.hid True.intro
    have K4 := Lib.hid True.intro
    have K5 := Lib.hid True.intro
    have K6 := Lib.hid True.intro
    have K7 := Lib.hid True.intro
    have K8 := Lib.hid True.intro
    go_wp2_with (first | (have mk := K0.out; go_at_call 11; refine (GT.out w3 F3.out).mono ?_; rintro e w4 ⟨rfl, f4⟩; rw [EG.out]; have F34 := Lib.hid f4; have RT := Lib.hid (range_obj (f4.obj BT.out _root_.id)); have RU := Lib.hid (range_obj (f4.obj BU.out _root_.id)); clear f4; go_frame; clear mk K0) | ((with_reducible refine at_dst 28 ?_); have mk := K1.out; refine wpList_vG (o := ⟨some 28, _, _, _, _, _⟩) rfl (exec_load (ty := 41) rfl rfl RT.out uT rT infoTx) ?_; go_frame; clear mk K1) | ((with_reducible refine at_dst 29 ?_); have mk := K2.out; refine wpList_vG (o := ⟨some 29, _, _, _, _, _⟩) rfl (exec_load (ty := 41) rfl rfl RU.out uT rT infoTx) ?_; go_frame; clear mk K2) | ((with_reducible refine at_dst 30 ?_); have mk := K3.out; refine wpList_vG (o := ⟨some 30, _, _, _, _, _⟩) rfl (exec_buildSlice2 (t := 25) rfl rfl rfl undTxs infoTxZ2 rfl (by decide) (by decide) rfl rfl) ?_; go_frame; clear mk K3) | ((with_reducible refine at_dst 31 ?_); have mk := K4.out; refine wpList_vG (o := ⟨some 31, _, _, _, _, _⟩) rfl (exec_bld (t := 27) rfl rfl (bldB2 _ _ _ _)) ?_; go_frame; clear mk K4) | (have mk := K5.out; go_at_call 12; refine (ARM.out w4 F34.out).mono ?_; rintro e w5 ⟨rfl, f5⟩; rw [EH.out]; have F35 := Lib.hid (F34.out.trans0 (((Fr.refl No w4).alloc _).trans0 f5)); have F5 := Lib.hid (F3.out.trans0 F35.out); clear f5; go_frame; clear mk K5) | (have mk := K6.out; go_at_call 13; refine (GW.out w5 F5.out).mono ?_; intro e w6 hgr; obtain ⟨p, V, S, bs, rfl, hgd, hbs⟩ : ∃ p V S bs, e = .returned (.pointer (some ⟨p, 0, none⟩)) ∧ Gd w5 w6 p V (putC [] (payC hash0 q.first)) S bs ∧ bs.length ≤ q.l.length := (by rcases hgr with ⟨a, _⟩ | ⟨_, a⟩; exact absurd H256.out (by omega); exact a); have GD := Lib.hid hgd; have BS := Lib.hid hbs; have F56 := Lib.hid hgd.fr; have B6T := Lib.hid ((F35.out.trans0 hgd.fr).obj BT.out _root_.id); have B6U := Lib.hid ((F35.out.trans0 hgd.fr).obj BU.out _root_.id); have cx : w6.cell? ⟨qt, 1, none⟩ = some (.slice ja q.t.ins.length jc) := (by have := range_obj ((F35.out.trans0 hgd.fr).obj BT.out _root_.id) 1 _ rfl; simpa using this); have R6U := Lib.hid (range_obj B6U.out); have FV := Lib.hid ((Fr.refl No w6).alloc (.cells #[.int .u32 q.u.ver, .slice ma q.u.ins.length mc, .slice na q.u.outs.length nc] 41)); have BV := Lib.hid (new_obj w6 (.cells #[.int .u32 q.u.ver, .slice ma q.u.ins.length mc, .slice na q.u.outs.length nc] 41)); clear hgr hgd hbs; go_frame; clear mk K6) | ((with_reducible refine at_list ?_); have mk := K7.out; refine wpList_value rfl (exec_load (ty := 41) rfl rfl R6U.out uT rT infoTx) ?_; go_frame; clear mk K7) | ((with_reducible refine at_store ?_); have mk := K8.out; refine wpList_done rfl (exec_store_new (w := w6) (ty := 41) (cs := [.int .u32 q.u.ver, .slice ma q.u.ins.length mc, .slice na q.u.outs.length nc]) rfl rfl rfl rfl infoTx (one3 rfl rfl rfl)) ?_; clear cx; generalize w6.alloc (.cells #[.int .u32 q.u.ver, .slice ma q.u.ins.length mc, .slice na q.u.outs.length nc] 41) = w7 at *; generalize hqv : w6.heap.size = qv at *; go_frame; clear mk K8))
    have G0 := Lib.hid (show Fr No w7 w7.drew from (Fr.refl No w7).drew)
    have F67 := Lib.hid (FV.out.trans0 G0.out)
    have FW7 := Lib.hid ((F5.out.trans0 F56.out).trans0 F67.out)
    obtain ⟨hti, htv⟩ : InsIs w (.slice ja q.t.ins.length jc) q.t.ins ∧ InsIs w (.slice ma q.u.ins.length mc) q.u.ins := by
      obtain ⟨_, _, _, _, e, _, hi, _⟩ := HT.out
      obtain ⟨_, _, _, _, e', _, hi', _⟩ := HU.out
      simp only [txC, List.cons.injEq, and_true] at e e'
      obtain ⟨-, e1, -⟩ := e
      obtain ⟨-, e1', -⟩ := e'
      rw [e1, e1']
      exact ⟨hi, hi'⟩
    have IT := Lib.hid (show Kept (fun j => w.heap.size ≤ j) w7.drew (fun w => InsIs w (.slice ja q.t.ins.length jc) q.t.ins) from fun w' f => hti.keep0 (FW7.out.trans f (fun j hj e => by omega)))
    have IU := Lib.hid (show Kept (fun j => w.heap.size ≤ j) w7.drew (fun w => InsIs w (.slice ma q.u.ins.length mc) q.u.ins) from fun w' f => htv.keep0 (FW7.out.trans f (fun j hj e => by omega)))
    clear hti htv
    obtain ⟨b0, off0, cap0, cs0, hv0, nb0, hq0, hk0⟩ := rows_at (by decide) (fun _ _ _ h => h.len) IT.out HX0.out
    obtain ⟨rfl, -, rfl⟩ := slice_eq hv0
    obtain ⟨k0a, k0c, rfl, hp0, -⟩ := hq0
    have HP0 := Lib.hid hp0
    have PL := Lib.hid (pointC_len hp0)
    have IL := Lib.hid (inC_len hp0 (.slice k0a x0.key.length k0c))
    have K0 := Lib.hid hk0
    have B7T := Lib.hid (F67.out.obj B6T.out _root_.id)
    have B7U := Lib.hid (F67.out.obj B6U.out _root_.id)
    have B7V := Lib.hid (G0.out.obj BV.out _root_.id)
    have C7T := Lib.hid (show w7.drew.cell? ⟨qt, 1, none⟩ = some (.slice (some ⟨b0, off0, none⟩) q.t.ins.length jc) from by have := range_obj B7T.out 1 _ rfl; simpa using this)
    have C7U := Lib.hid (show w7.drew.cell? ⟨qu, 1, none⟩ = some (.slice ma q.u.ins.length mc) from by have := range_obj B7U.out 1 _ rfl; simpa using this)
    have QV := Lib.hid (show w6.heap.size = qv from hqv)
    clear hv0 nb0 hp0 hk0
    have i0 := I0.out
    have i0n : 0 < q.t.ins.length := by omega
    refine wp_region_lexM [false, false, false, false, true, false, false, true, false, true] (fun W => W.cell? ⟨qt, 1, none⟩ = some (.slice (some ⟨b0, off0, none⟩) q.t.ins.length jc) ∧ W.rangeAt b0 off0 (inC x0.from_ (.slice k0a x0.key.length k0c)) ∧ W.cell? ⟨qu, 1, none⟩ = some (.slice ma q.u.ins.length mc)) (by kernel_rfl) (by kernel_rfl) 9 (by kernel_rfl) (by kernel_rfl) ?_ (fun K hK => ?_)
    · exact ⟨C7T.out, by have := K0.out.now.1; simpa using this, C7U.out⟩
    generalize w7.drew = z at *
    have F8 := Lib.hid ((Fr.refl No z).alloc (.cells (inC x0.from_ (.slice k0a x0.key.length k0c)).toArray 50))
    have OW8 := Lib.hid (own_new z (T := 50) IL.out)
    have Q8 := Lib.hid (show (z.alloc (.cells (inC x0.from_ (.slice k0a x0.key.length k0c)).toArray 50)).heap.size = z.heap.size + 1 by simp)
    have HV30 := Lib.hid (show q.u.ins.length ≤ 30 from ((heavyB_not EH.out).2.2 q.u (by simp [blk2])).1)
    have TV30 := Lib.hid (show q.t.ins.length ≤ 30 ∧ q.t.outs.length ≤ 30 from ⟨((heavyB_not EH.out).2.2 q.t (by simp [blk2])).1, ((heavyB_not EH.out).2.2 q.t (by simp [blk2])).2.1⟩)
    obtain ⟨css, v9, w9, a1, a2, a3, a4, a5, a6, a7⟩ := append_ins (z.alloc (.cells (inC x0.from_ (.slice k0a x0.key.length k0c)).toArray 50)) OW8.out (IU.out.step F8.out.of0 (fun j _ e => e)) (by have := HV30.out; omega) (by have := Q8.out; omega)
    obtain ⟨v9a, v9c, hv9⟩ := a5.slice.arg.form
    subst hv9
    have A1 := Lib.hid a1
    have A2 := Lib.hid a2
    have A3 := Lib.hid a3
    have A4 := Lib.hid a4
    have O9 := Lib.hid a5
    have F9 := Lib.hid (show Fr No z w9 from F8.out.trans a6 (fun j hj e => by have := (OW8.out.lt j e).1; omega))
    have B9T := Lib.hid (F9.out.obj B7T.out _root_.id)
    have B9U := Lib.hid (F9.out.obj B7U.out _root_.id)
    have B9V := Lib.hid (F9.out.obj B7V.out _root_.id)
    have S9 := Lib.hid (show w9.cell? ⟨qt, 1, none⟩ = some (.slice (some ⟨b0, off0, none⟩) q.t.ins.length jc) ∧ w9.rangeAt b0 off0 (inC x0.from_ (.slice k0a x0.key.length k0c)) ∧ w9.cell? ⟨qu, 1, none⟩ = some (.slice ma q.u.ins.length mc) from ⟨F9.out.cell C7T.out _root_.id, by have := (K0.out w9 F9.out.of0).1; simpa using this, F9.out.cell C7U.out _root_.id⟩)
    have SK := Lib.hid (show ∀ W, Fr No z W → W.cell? ⟨qt, 1, none⟩ = some (.slice (some ⟨b0, off0, none⟩) q.t.ins.length jc) ∧ W.rangeAt b0 off0 (inC x0.from_ (.slice k0a x0.key.length k0c)) ∧ W.cell? ⟨qu, 1, none⟩ = some (.slice ma q.u.ins.length mc) from fun W f => ⟨f.cell C7T.out _root_.id, by have := (K0.out W f.of0).1; simpa using this, f.cell C7U.out _root_.id⟩)
    have fz := u32_unfrozen (i := 1) B9V.out
    have cqv : w9.cell? ⟨qv, 1, none⟩ = some (.slice ma q.u.ins.length mc) := by have := range_obj B9V.out 1 _ rfl; simpa using this
    have fs : Fr (fun j => j = qv) w9 (w9.setCell ⟨qv, 1, none⟩ (.slice v9a (1 + q.u.ins.length) v9c)) := (Fr.refl (fun j => j = qv) w9).setCell ⟨qv, 1, none⟩ (.inr rfl) _
    have LZ := Lib.hid (show w6.heap.size ≤ z.heap.size ∧ qv < z.heap.size from ⟨F67.out.size, obj_lt B7V.out⟩)
    have F6A := Lib.hid (show Fr No w6 (w9.setCell ⟨qv, 1, none⟩ (.slice v9a (1 + q.u.ins.length) v9c)) from (F67.out.trans0 F9.out).trans fs (fun j hj e => by have := QV.out; omega))
    have BAV := Lib.hid (show (w9.setCell ⟨qv, 1, none⟩ (.slice v9a (1 + q.u.ins.length) v9c)).heap[qv]? = some (.cells #[.int .u32 q.u.ver, .slice v9a (1 + q.u.ins.length) v9c, .slice na q.u.outs.length nc] 41 (0, 0)) from by have := heap_setCell_same w9 qv 1 _ _ (.slice v9a (1 + q.u.ins.length) v9c) B9V.out; simpa using this)
    have VNO := Lib.hid (show ∀ j, V j → w.heap.size ≤ j ∧ j < w6.heap.size from fun j hj => ⟨by have := GD.out.lo j hj; have := F5.out.size; omega, GD.out.hi j hj⟩)
    have KV := Lib.hid (show Kept V (w9.setCell ⟨qv, 1, none⟩ (.slice v9a (1 + q.u.ins.length) v9c)) (fun w => TxQ w (addIn q.u x0) [.int .u32 q.u.ver, .slice v9a (1 + q.u.ins.length) v9c, .slice na q.u.outs.length nc]) from fun w' f => by
      have f9 : Fr (fun j => w.heap.size ≤ j) (z.alloc (.cells (inC x0.from_ (.slice k0a x0.key.length k0c)).toArray 50)) w' := ((a6.mono (V := fun j => w.heap.size ≤ j) (fun j e => by have := (OW8.out.lt j e).1; have := FW7.out.size; omega)).trans fs (fun j _ e => by have := QV.out; have := FW7.out.size; have := F5.out.size; have := F56.out.size; omega)).trans f (fun j _ e => (VNO.out j e).1)
      have fz9 : Fr (fun j => w.heap.size ≤ j) z w' := F8.out.of0.trans f9 (fun _ _ e => e)
      have fw9 : Fr No w w' := FW7.out.trans fz9 (fun j hj e => by omega)
      have el : (x0 :: q.u.ins).length = 1 + q.u.ins.length := by rw [List.length_cons]; omega
      have hrow : w'.ownsRow z.heap.size 50 34 (.slice v9a (x0 :: q.u.ins).length v9c) (x0 :: q.u.ins).length ((inC x0.from_ (.slice k0a x0.key.length k0c) :: css).flatMap id) := by
        rw [el]
        have h1 := ownsRow_keep (ownsRow_keep O9.out fs (fun j hj e => by have := (O9.out.lt j hj).1; have := LZ.out.2; omega)) f (fun j hj e => by have := (O9.out.lt j hj).1; have := (VNO.out j e).2; have := LZ.out.1; omega)
        simpa using h1
      have hins : InsIs w' (.slice v9a (x0 :: q.u.ins).length v9c) (x0 :: q.u.ins) := by
        refine RowsIs.own (by decide) hrow (by rw [List.length_cons, List.length_cons, A2.out]) (fun cs hc => ?_) (by rw [el]; unfold maxLen; have := HV30.out; omega) (fun i d cs h1 h2 => ?_)
        · rcases List.mem_cons.1 hc with h | h
          · rw [h]; exact IL.out
          · exact A4.out cs h
        · cases i with
          | zero =>
            simp at h1 h2
            subst h1
            subst h2
            exact (K0.out w' fz9).2
          | succ i => exact A3.out i d cs (by simpa using h1) (by simpa using h2) w' f9
      obtain ⟨_, _, na', nc', e, hver, _, ho⟩ := HU.out
      simp only [txC, List.cons.injEq, and_true] at e
      obtain ⟨-, -, e2⟩ := e
      rw [← e2] at ho
      refine ⟨v9a, v9c, na, nc, ?_, hver, hins, ho.keep fw9⟩
      show _ = [Value.int .u32 q.u.ver, .slice v9a (x0 :: q.u.ins).length v9c, .slice na q.u.outs.length nc]
      rw [el])
    have FS9 := Lib.hid (fs.mono (V := fun j => w.heap.size ≤ j) (fun j e => by have := QV.out; have := FW7.out.size; have := F5.out.size; have := F56.out.size; omega))
    clear a1 a2 a3 a4 a5 a6 a7 fs
    repeat (first | ((first | with_reducible refine lexM_read ?_ | ((with_reducible refine lexM_readG ?_ ?_); (focus rfl))); apply Exists.intro; refine ⟨?_, ?_⟩; (focus (first | exact lex_load (ty := 50) rfl (fun w h => h.2.1) uI rI (by rw [IL.out]; exact infoIn) | (intro w' hS; obtain ⟨s1, s2, s3⟩ := hS; go_simp; (try with_reducible rfl); done))); try simp only [Act.put, List.setIfInBounds_toArray, List.set_cons_zero, List.set_cons_succ]) | ((first | ((with_reducible refine lexM_skip (c := false) ?_ ?_ ?_); (focus rfl); (focus rfl)) | ((with_reducible refine lexM_skip (c := true) ?_ ?_ ?_); (focus rfl); (focus rfl)) | ((with_reducible refine lexM_skipU ?_ ?_); (focus rfl))); try simp only [Act.put, List.setIfInBounds_toArray, List.set_cons_zero, List.set_cons_succ]))
    (first | with_reducible refine lexM_eff (fun K' hK' => ?_) | ((with_reducible refine lexM_effG ?_ (fun K' hK' => ?_)); (focus rfl)))
    refine wp_value (exec_buildSliceA (t := 39) rfl rfl undIns infoInZ2 rfl (by decide) (by decide) IL.out) ?_
    refine hK'.out _ _ (fun _ => ?_) (fun hS => ?_)
    · exact SK.out _ F8.out
    try simp only [Act.put, List.setIfInBounds_toArray, List.set_cons_zero, List.set_cons_succ]
    repeat (first | ((first | with_reducible refine lexM_read ?_ | ((with_reducible refine lexM_readG ?_ ?_); (focus rfl))); apply Exists.intro; refine ⟨?_, ?_⟩; (focus (first | (intro w' hS; obtain ⟨s1, s2, s3⟩ := hS; go_simp; (try with_reducible rfl); done))); try simp only [Act.put, List.setIfInBounds_toArray, List.set_cons_zero, List.set_cons_succ]) | ((first | ((with_reducible refine lexM_skip (c := false) ?_ ?_ ?_); (focus rfl); (focus rfl)) | ((with_reducible refine lexM_skip (c := true) ?_ ?_ ?_); (focus rfl); (focus rfl)) | ((with_reducible refine lexM_skipU ?_ ?_); (focus rfl))); try simp only [Act.put, List.setIfInBounds_toArray, List.set_cons_zero, List.set_cons_succ]))
    (first | with_reducible refine lexM_eff (fun K' hK' => ?_) | ((with_reducible refine lexM_effG ?_ (fun K' hK' => ?_)); (focus rfl)))
    refine wp_append_run rfl rfl rfl A1.out ?_
    refine hK'.out _ _ (fun _ => ?_) (fun hS => ?_)
    · exact S9.out
    try simp only [Act.put, List.setIfInBounds_toArray, List.set_cons_zero, List.set_cons_succ]
    repeat (first | ((first | with_reducible refine lexM_read ?_ | ((with_reducible refine lexM_readG ?_ ?_); (focus rfl))); apply Exists.intro; refine ⟨?_, ?_⟩; (focus (first | (intro w' hS; obtain ⟨s1, s2, s3⟩ := hS; go_simp; (try with_reducible rfl); done))); try simp only [Act.put, List.setIfInBounds_toArray, List.set_cons_zero, List.set_cons_succ]) | ((first | ((with_reducible refine lexM_skip (c := false) ?_ ?_ ?_); (focus rfl); (focus rfl)) | ((with_reducible refine lexM_skip (c := true) ?_ ?_ ?_); (focus rfl); (focus rfl)) | ((with_reducible refine lexM_skipU ?_ ?_); (focus rfl))); try simp only [Act.put, List.setIfInBounds_toArray, List.set_cons_zero, List.set_cons_succ]))
    (first | with_reducible refine lexM_eff (fun K' hK' => ?_) | ((with_reducible refine lexM_effG ?_ (fun K' hK' => ?_)); (focus rfl)))
    go_simp
    refine hK'.out _ _ (fun h => absurd rfl h) (fun hS => ?_)
    refine lexM_nil (hK.out _ _ ?_)
    clear fz cqv
    generalize w9.setCell ⟨qv, 1, none⟩ (.slice v9a (1 + q.u.ins.length) v9c) = wA at *
    have FWA := Lib.hid ((F5.out.trans0 F56.out).trans0 F6A.out)
    have GA := Lib.hid (GD.out.fr0 F6A.out)
    have BAT := Lib.hid (F6A.out.obj B6T.out _root_.id)
    have RAT := Lib.hid (range_obj BAT.out)
    have COI := Lib.hid (coins_any (HG.out.keep0 FWA.out) (HT.out.keep FWA.out))
    have SAI := Lib.hid (show ∀ W, Fr No wA W → W.cell? ⟨qt, 1, none⟩ = some (.slice (some ⟨b0, off0, none⟩) q.t.ins.length jc) ∧ W.rangeAt b0 off0 (pointC x0.from_) from fun W f => ⟨by have := range_obj (f.obj BAT.out _root_.id) 1 _ rfl; simpa using this, by
      have h1 := (K0.out W ((((F9.out.of0 (W := fun j => w.heap.size ≤ j)).trans (FS9.out) (fun j _ e => e))).trans f (fun _ _ e => e.elim))).1
      exact (in_at (by simpa using h1) HP0.out).1⟩)
    have IDN := Lib.hid (show ∀ e w', CoinsOk wA q.t e w' → ∃ (made : List CoinD) (v : Value), e = .returned (.tuple #[v, .int .i64 (idE q.t)]) ∧ Fr No wA w' ∧ (formB q.t = true → made = madeC q.t) ∧ (∀ c ∈ made, c.ok) ∧ made.length ≤ 30 ∧ w'.ownsRow wA.heap.size 57 66 v made.length (made.flatMap coinC) from fun e w' h => by
      obtain ⟨v, he, f, hr⟩ := h
      have hto := HT.out.oks.2
      by_cases hfm : formB q.t = true
      · rw [if_pos hfm] at hr
        exact ⟨madeC q.t, v, he, f, fun _ => rfl, madeC_ok hto (by have := TV30.out.2; omega), by rw [madeC_len]; exact TV30.out.2, by rw [madeC_len]; exact hr⟩
      · rw [if_neg hfm] at hr
        exact ⟨[], v, he, f, fun h => absurd h hfm, (fun c hc => by cases hc), Nat.zero_le _, by rw [hr]; exact World.ownsRow_nil _ _ _ 66⟩)
    have K0 := Lib.hid True.intro
    have K1 := Lib.hid True.intro
    go_wp2_with (first | ((with_reducible refine at_list ?_); have mk := K0.out; refine wpList_value rfl (exec_load (ty := 41) rfl rfl RAT.out uT rT infoTx) ?_; go_frame; clear mk K0) | (have mk := K1.out; go_at_call 16; refine COI.out.mono ?_; intro e wB hco; obtain ⟨made, mv, rfl, fB, hmd, hmo, hml, hmr⟩ := IDN.out e wB hco; obtain ⟨mva, mvc, hmv⟩ := hmr.slice.arg.form; subst hmv; have FB := Lib.hid fB; have MD := Lib.hid hmd; have MO := Lib.hid hmo; have MR := Lib.hid hmr; clear hco fB hmd hmo hmr; go_frame; clear mk K1))
    go_loopw [62] (fun iv wr => ∃ n : Nat, iv = .int .i64 n ∧ n ≤ made.length ∧ (∀ c ∈ made.take n, c.at_ ≠ x0.from_) ∧ Fr No wB wr) (fun iv _ => made.length - (intOf iv).toNat)
    case atStart => exact ⟨0, rfl, Nat.zero_le _, (fun c hc => by simp at hc), Fr.refl _ _⟩
    case round =>
      obtain ⟨n, rfl, hn, hall, fr⟩ := hrel
      rename World => wr
      have FR := Lib.hid fr
      have ALL := Lib.hid hall
      have FAR := Lib.hid (FB.out.trans0 fr)
      clear fr hall
      by_cases hlt : n < made.length
      · have i1 : (n : Int) < (made.length : Int) := by omega
        obtain ⟨c, hx⟩ : ∃ x, made[n]? = some x := ⟨_, List.getElem?_eq_getElem hlt⟩
        have HX := Lib.hid hx
        have COK := Lib.hid (MO.out c (List.mem_of_getElem? hx))
        have CL := Lib.hid (coinC_len COK.out)
        have PLC := Lib.hid (pointC_len COK.out.1)
        obtain ⟨g, cap, hv, hr, -⟩ := own_elem (f := coinC) (k := 66) (by decide) (fun x hx => coinC_len (MO.out x hx)) (ownsRow_keep MR.out FR.out (fun _ _ => _root_.id)) hx
        obtain ⟨rfl, -, rfl⟩ := slice_eq hv
        have R1 := Lib.hid hr
        have FC := Lib.hid ((Fr.refl No wr).alloc (.cells (coinC c).toArray 57))
        have RP := Lib.hid (coin_at (range_new wr (coinC c) 57))
        clear hr hv hx
        have K0 := Lib.hid True.intro
        have K1 := Lib.hid True.intro
        go_wp2_with (first | ((with_reducible refine at_list ?_); have mk := K0.out; refine wpList_value rfl (exec_load (ty := 57) rfl rfl R1.out uC rC (by rw [CL.out]; exact infoCoin)) ?_; go_frame; clear mk K0) | ((with_reducible refine at_store ?_); have mk := K1.out; refine wpList_done rfl (exec_store_new (w := wr) (ty := 57) (cs := coinC c) rfl rfl rfl (by rw [CL.out]; rfl) (by rw [CL.out]; exact infoCoin) coinC_one) ?_; generalize wr.alloc (.cells (coinC c).toArray 57) = wC at *; go_frame; clear mk K1))
        have FD := Lib.hid (FC.out.trans0 (Fr.refl No wC).drew)
        have SC := Lib.hid (show wC.drew.rangeAt wr.heap.size 0 (pointC c.at_) ∧ wC.drew.cell? ⟨qt, 1, none⟩ = some (.slice (some ⟨b0, off0, none⟩) q.t.ins.length jc) ∧ wC.drew.rangeAt b0 off0 (pointC x0.from_) from ⟨range_keep RP.out (Fr.refl No wC).drew _root_.id, (SAI.out _ (FAR.out.trans0 FD.out)).1, (SAI.out _ (FAR.out.trans0 FD.out)).2⟩)
        have FAD := Lib.hid (FAR.out.trans0 FD.out)
        have FBD := Lib.hid (FR.out.trans0 FD.out)
        by_cases hpe : c.at_ = x0.from_
        · have HE := Lib.hid (show (pointC c.at_).toArray = (pointC x0.from_).toArray by rw [hpe])
          clear hpe
          refine wp_region_lexL [false, false, false, false, false, false, false, false] (fun W => W.rangeAt wr.heap.size 0 (pointC c.at_) ∧ W.cell? ⟨qt, 1, none⟩ = some (.slice (some ⟨b0, off0, none⟩) q.t.ins.length jc) ∧ W.rangeAt b0 off0 (pointC x0.from_)) (by kernel_rfl) (by kernel_rfl) ?_ (fun K hK => ?_)
          · exact SC.out
          generalize wC.drew = zC at *
          repeat (first | ((first | with_reducible refine lexL_read ?_ | ((with_reducible refine lexL_readG ?_ ?_); (focus rfl))); apply Exists.intro; refine ⟨?_, ?_⟩; (focus (first | exact lex_load (ty := 47) rfl (fun w h => h.1) uP rP (by rw [PLC.out]; exact infoPoint) | exact lex_load (ty := 47) rfl (fun w h => h.2.2) uP rP (by rw [PL.out]; exact infoPoint) | exact fun w' h => eqPoint.exec_eql (u := (pointC c.at_).toArray) (v := (pointC x0.from_).toArray) rfl rfl rfl (keyOfPoint COK.out.1) (keyOfPoint HP0.out) true ⟨fun _ => HE.out, fun _ => rfl⟩ w' | (intro w' hS; obtain ⟨s1, s2, s3⟩ := hS; go_simp; (try with_reducible rfl); done))); try simp only [Act.put, List.setIfInBounds_toArray, List.set_cons_zero, List.set_cons_succ]) | ((first | ((with_reducible refine lexL_skip (c := false) ?_ ?_ ?_); (focus rfl); (focus rfl)) | ((with_reducible refine lexL_skip (c := true) ?_ ?_ ?_); (focus rfl); (focus rfl)) | ((with_reducible refine lexL_skipU ?_ ?_); (focus rfl))); try simp only [Act.put, List.setIfInBounds_toArray, List.set_cons_zero, List.set_cons_succ]))
          refine lexL_nil (hK.out _ _ ?_)
          go_wp2_with fail
          go_ret
          exact ⟨rfl, FWA.out.trans0 FAD.out⟩
        · have HE := Lib.hid (show ¬ (pointC c.at_).toArray = (pointC x0.from_).toArray from fun e => hpe (pointC_inj (by simpa using e)))
          have ALLN := Lib.hid (show ∀ y ∈ made.take (n + 1), y.at_ ≠ x0.from_ from fun y hy => by
            rw [List.take_add_one, HX.out] at hy
            rcases List.mem_append.1 hy with hy | hy
            · exact ALL.out y hy
            · simp at hy; subst hy; exact hpe)
          clear hpe
          refine wp_region_lexL [false, false, false, false, false, false, false, false] (fun W => W.rangeAt wr.heap.size 0 (pointC c.at_) ∧ W.cell? ⟨qt, 1, none⟩ = some (.slice (some ⟨b0, off0, none⟩) q.t.ins.length jc) ∧ W.rangeAt b0 off0 (pointC x0.from_)) (by kernel_rfl) (by kernel_rfl) ?_ (fun K hK => ?_)
          · exact SC.out
          generalize wC.drew = zC at *
          repeat (first | ((first | with_reducible refine lexL_read ?_ | ((with_reducible refine lexL_readG ?_ ?_); (focus rfl))); apply Exists.intro; refine ⟨?_, ?_⟩; (focus (first | exact lex_load (ty := 47) rfl (fun w h => h.1) uP rP (by rw [PLC.out]; exact infoPoint) | exact lex_load (ty := 47) rfl (fun w h => h.2.2) uP rP (by rw [PL.out]; exact infoPoint) | exact fun w' h => eqPoint.exec_eql (u := (pointC c.at_).toArray) (v := (pointC x0.from_).toArray) rfl rfl rfl (keyOfPoint COK.out.1) (keyOfPoint HP0.out) false ⟨fun e => (by cases e), fun e => absurd e HE.out⟩ w' | (intro w' hS; obtain ⟨s1, s2, s3⟩ := hS; go_simp; (try with_reducible rfl); done))); try simp only [Act.put, List.setIfInBounds_toArray, List.set_cons_zero, List.set_cons_succ]) | ((first | ((with_reducible refine lexL_skip (c := false) ?_ ?_ ?_); (focus rfl); (focus rfl)) | ((with_reducible refine lexL_skip (c := true) ?_ ?_ ?_); (focus rfl); (focus rfl)) | ((with_reducible refine lexL_skipU ?_ ?_); (focus rfl))); try simp only [Act.put, List.setIfInBounds_toArray, List.set_cons_zero, List.set_cons_succ]))
          refine lexL_nil (hK.out _ _ ?_)
          go_wp2_with fail
          go_roundw
          case rel => exact ⟨n + 1, by go_num, by omega, ALLN.out, FBD.out⟩
          case measure => simp [intOf]; omega
      · have hne : n = made.length := by omega
        have i1 : ¬ (n : Int) < (made.length : Int) := by omega
        have NIN := Lib.hid (show formB q.t = true → x0.from_ ∉ (madeC q.t).map (·.at_) from fun h hm => by
          obtain ⟨c, hc, e⟩ := List.mem_map.1 hm
          have h2 := ALL.out c (by rw [hne, List.take_length, MD.out h]; exact hc)
          exact h2 e)
        clear hne
        have PT := Lib.hid (show x0.from_ ∈ ptsD q.t ∧ x0.from_ ∈ ptsD (addIn q.u x0) from ⟨List.mem_map.2 ⟨x0, List.mem_of_getElem? HX0.out, rfl⟩, by simp [ptsD, addIn]⟩)
        have B200 := Lib.hid (show bs.length ≤ 200 by have := BS.out; omega)
        have FSZ := Lib.hid (show w6.heap.size ≤ wA.heap.size ∧ qv < wA.heap.size ∧ wA.heap.size ≤ wr.heap.size from ⟨F6A.out.size, obj_lt BAV.out, FAR.out.size⟩)
        have B5T := Lib.hid (F35.out.obj BT.out _root_.id)
        have BRT := Lib.hid (FAR.out.obj BAT.out _root_.id)
        have BRV := Lib.hid (FAR.out.obj BAV.out _root_.id)
        have RRT := Lib.hid (range_obj BRT.out)
        have RRV := Lib.hid (range_obj BRV.out)
        have TR := Lib.hid (HT.out.keep (FWA.out.trans0 FAR.out))
        have VR := Lib.hid (KV.out wr FAR.out.of0)
        have FD6 := Lib.hid ((Fr.refl No wr).alloc (.cells (([.int .u32 q.t.ver, .slice (some ⟨b0, off0, none⟩) q.t.ins.length jc, .slice ka q.t.outs.length kc] : List Value) ++ ([.int .u32 q.u.ver, .slice v9a (1 + q.u.ins.length) v9c, .slice na q.u.outs.length nc] : List Value)).toArray 41))
        have GD6 := Lib.hid ((GA.out.fr0 FAR.out).fr0 FD6.out)
        have CON := Lib.hid (conn_g (HG.out.keep0 F5.out) GD6.out B200.out (b := blk2 q.t (addIn q.u x0)) (blkq_txs (txs_new2 TR.out VR.out)))
        have NE1 := Lib.hid (twice_law1 (K := idsOf bs) (S := S) (bs := bs) PT.out.1 PT.out.2 NIN.out)
        have ES := Lib.hid (show connS (idsOf bs) S bs (blk2 q.t (addIn q.u x0)) = S by unfold connS; rw [if_neg NE1.out])
        have EB := Lib.hid (show connB (idsOf bs) S bs (blk2 q.t (addIn q.u x0)) = bs by unfold connB; rw [if_neg NE1.out])
        have k1 : (connE (idsOf bs) S bs (blk2 q.t (addIn q.u x0)) == 0) = false := by simpa using NE1.out
        by_cases hz : connE (idsOf bs) S bs (blk1 q.t) = 0
        rotate_left
        · have k2 : (connE (idsOf bs) S bs (blk1 q.t) != 0) = true := by simpa using hz
          have k3 : (connE (idsOf bs) S bs (blk1 q.t) == 0) = false := by simpa using hz
          clear hz
          have K0 := Lib.hid True.intro
          have K1 := Lib.hid True.intro
          have K2 := Lib.hid True.intro
          have K3 := Lib.hid True.intro
          have K4 := Lib.hid True.intro
          have K5 := Lib.hid True.intro
          have K6 := Lib.hid True.intro
          have K7 := Lib.hid True.intro
          have K8 := Lib.hid True.intro
          go_wp2_with (first | ((with_reducible refine at_dst 76 ?_); have mk := K0.out; refine wpList_value (o := ⟨some 76, _, _, _, _, _⟩) rfl (exec_load (ty := 41) rfl rfl RRT.out uT rT infoTx) ?_; go_frame; clear mk K0) | ((with_reducible refine at_dst 77 ?_); have mk := K1.out; refine wpList_value (o := ⟨some 77, _, _, _, _, _⟩) rfl (exec_load (ty := 41) rfl rfl RRV.out uT rT infoTx) ?_; go_frame; clear mk K1) | ((with_reducible refine at_dst 78 ?_); have mk := K2.out; refine wpList_value (o := ⟨some 78, _, _, _, _, _⟩) rfl (exec_buildSlice2 (t := 25) rfl rfl rfl undTxs infoTxZ2 rfl (by decide) (by decide) rfl rfl) ?_; generalize hwD : wr.alloc (.cells (([.int .u32 q.t.ver, .slice (some ⟨b0, off0, none⟩) q.t.ins.length jc, .slice ka q.t.outs.length kc] : List Value) ++ ([.int .u32 q.u.ver, .slice v9a (1 + q.u.ins.length) v9c, .slice na q.u.outs.length nc] : List Value)).toArray 41) = wD at *; go_frame; clear mk K2) | ((with_reducible refine at_dst 79 ?_); have mk := K3.out; refine wpList_value (o := ⟨some 79, _, _, _, _, _⟩) rfl (exec_bld (t := 27) rfl rfl (bldB2 _ _ _ _)) ?_; go_frame; clear mk K3) | (have mk := K4.out; go_at_call 15; refine CON.out.mono ?_; rintro e wE ⟨rfl, f7, V1, hv1, hg7⟩; rw [ES.out, EB.out] at hg7; have GE := Lib.hid hg7; have FE := Lib.hid f7; have HV1 := Lib.hid hv1; clear hg7 f7 hv1; have FDS := Lib.hid (show wr.heap.size ≤ wD.heap.size from FD6.out.size); have FAE := Lib.hid (show Fr V wA wE from ((FAR.out.trans0 FD6.out).of0).trans FE.out (fun _ _ e => e)); have BET := Lib.hid (GE.out.fr.obj B5T.out _root_.id); have BEV := Lib.hid (FAE.out.obj BAV.out (fun e => by have := (VNO.out _ e).2; have := QV.out; omega)); have RET := Lib.hid (range_obj BET.out); have TE := Lib.hid (HT.out.keep (F5.out.trans0 GE.out.fr)); have FG0 := Lib.hid ((Fr.refl No wE).alloc (.cells [.int .u32 q.t.ver, .slice (some ⟨b0, off0, none⟩) q.t.ins.length jc, .slice ka q.t.outs.length kc].toArray 41)); have GF := Lib.hid (GE.out.fr0 FG0.out); have CON2 := Lib.hid (conn_g (HG.out.keep0 F5.out) GF.out B200.out (b := blk1 q.t) (blkq_txs (txs_new1 TE.out))); go_frame; clear mk K4) | ((with_reducible refine at_dst 83 ?_); have mk := K5.out; refine wpList_value (o := ⟨some 83, _, _, _, _, _⟩) rfl (exec_load (ty := 41) rfl rfl RET.out uT rT infoTx) ?_; go_frame; clear mk K5) | ((with_reducible refine at_dst 84 ?_); have mk := K6.out; refine wpList_value (o := ⟨some 84, _, _, _, _, _⟩) rfl (exec_buildSliceA (t := 25) rfl rfl undTxs infoTxZ2 rfl (by decide) (by decide) rfl) ?_; generalize hwF : wE.alloc (.cells [.int .u32 q.t.ver, .slice (some ⟨b0, off0, none⟩) q.t.ins.length jc, .slice ka q.t.outs.length kc].toArray 41) = wF at *; go_frame; clear mk K6) | ((with_reducible refine at_dst 85 ?_); have mk := K7.out; refine wpList_value (o := ⟨some 85, _, _, _, _, _⟩) rfl (exec_bld (t := 27) rfl rfl (bldB2 _ _ _ _)) ?_; go_frame; clear mk K7) | (have mk := K8.out; go_at_call 15; refine CON2.out.mono ?_; rintro e wG ⟨rfl, -, V2, -, hg8⟩; have GG := Lib.hid hg8; clear hg8; go_frame; clear mk K8))
          go_ret
          exact ⟨rfl, F5.out.trans0 GG.out.fr⟩
        have k2 : (connE (idsOf bs) S bs (blk1 q.t) != 0) = false := by simpa using hz
        have k3 : (connE (idsOf bs) S bs (blk1 q.t) == 0) = true := by simpa using hz
        have NE3 := Lib.hid (twice_law2 (K := idsOf bs) (K' := idsOf (connB (idsOf bs) S bs (blk1 q.t))) (S := S) (bs := bs) (bs' := connB (idsOf bs) S bs (blk1 q.t)) PT.out.1 PT.out.2 NIN.out hz)
        have BL := Lib.hid (show (connB (idsOf bs) S bs (blk1 q.t)).length ≤ 200 by
          unfold connB
          have := BS.out
          split
          · rw [List.length_append]; simp; omega
          · omega)
        have HZ := Lib.hid hz
        clear hz
        have CONG := Lib.hid (show ∀ (w' wG : World) (V1 : Nat → Prop) (e : Ending), ConnG w5 w' p V1 (putC [] (payC hash0 q.first)) S bs (blk1 q.t) e wG → e = .returned (.int .i64 (connE (idsOf bs) S bs (blk1 q.t))) ∧ Fr V1 w' wG ∧ ∃ V', (∀ j, V' j → V1 j ∨ w'.heap.size ≤ j) ∧ Gd w5 wG p V' (putC [] (payC hash0 q.first)) (connS (idsOf bs) S bs (blk1 q.t)) (connB (idsOf bs) S bs (blk1 q.t)) from fun _ _ _ _ h => h)
        generalize connB (idsOf bs) S bs (blk1 q.t) = bs1 at *
        generalize connS (idsOf bs) S bs (blk1 q.t) = S1 at *
        have k4 : (connE (idsOf bs1) S1 bs1 (blk1 (addIn q.u x0)) != 0) = true := by simpa using NE3.out
        have k5 : (connE (idsOf bs1) S1 bs1 (blk1 (addIn q.u x0)) == 0) = false := by simpa using NE3.out
        have K0 := Lib.hid True.intro
        have K1 := Lib.hid True.intro
        have K2 := Lib.hid True.intro
        have K3 := Lib.hid True.intro
        have K4 := Lib.hid True.intro
        have K5 := Lib.hid True.intro
        have K6 := Lib.hid True.intro
        have K7 := Lib.hid True.intro
        have K8 := Lib.hid True.intro
        have K9 := Lib.hid True.intro
        have K10 := Lib.hid True.intro
        have K11 := Lib.hid True.intro
        have K12 := Lib.hid True.intro
        go_wp2_with (first | ((with_reducible refine at_dst 76 ?_); have mk := K0.out; refine wpList_value (o := ⟨some 76, _, _, _, _, _⟩) rfl (exec_load (ty := 41) rfl rfl RRT.out uT rT infoTx) ?_; go_frame; clear mk K0) | ((with_reducible refine at_dst 77 ?_); have mk := K1.out; refine wpList_value (o := ⟨some 77, _, _, _, _, _⟩) rfl (exec_load (ty := 41) rfl rfl RRV.out uT rT infoTx) ?_; go_frame; clear mk K1) | ((with_reducible refine at_dst 78 ?_); have mk := K2.out; refine wpList_value (o := ⟨some 78, _, _, _, _, _⟩) rfl (exec_buildSlice2 (t := 25) rfl rfl rfl undTxs infoTxZ2 rfl (by decide) (by decide) rfl rfl) ?_; generalize hwD : wr.alloc (.cells (([.int .u32 q.t.ver, .slice (some ⟨b0, off0, none⟩) q.t.ins.length jc, .slice ka q.t.outs.length kc] : List Value) ++ ([.int .u32 q.u.ver, .slice v9a (1 + q.u.ins.length) v9c, .slice na q.u.outs.length nc] : List Value)).toArray 41) = wD at *; go_frame; clear mk K2) | ((with_reducible refine at_dst 79 ?_); have mk := K3.out; refine wpList_value (o := ⟨some 79, _, _, _, _, _⟩) rfl (exec_bld (t := 27) rfl rfl (bldB2 _ _ _ _)) ?_; go_frame; clear mk K3) | (have mk := K4.out; go_at_call 15; refine CON.out.mono ?_; rintro e wE ⟨rfl, f7, V1, hv1, hg7⟩; rw [ES.out, EB.out] at hg7; have GE := Lib.hid hg7; have FE := Lib.hid f7; have HV1 := Lib.hid hv1; clear hg7 f7 hv1; have FDS := Lib.hid (show wr.heap.size ≤ wD.heap.size from FD6.out.size); have FAE := Lib.hid (show Fr V wA wE from ((FAR.out.trans0 FD6.out).of0).trans FE.out (fun _ _ e => e)); have BET := Lib.hid (GE.out.fr.obj B5T.out _root_.id); have BEV := Lib.hid (FAE.out.obj BAV.out (fun e => by have := (VNO.out _ e).2; have := QV.out; omega)); have RET := Lib.hid (range_obj BET.out); have TE := Lib.hid (HT.out.keep (F5.out.trans0 GE.out.fr)); have FG0 := Lib.hid ((Fr.refl No wE).alloc (.cells [.int .u32 q.t.ver, .slice (some ⟨b0, off0, none⟩) q.t.ins.length jc, .slice ka q.t.outs.length kc].toArray 41)); have GF := Lib.hid (GE.out.fr0 FG0.out); have CON2 := Lib.hid (conn_g (HG.out.keep0 F5.out) GF.out B200.out (b := blk1 q.t) (blkq_txs (txs_new1 TE.out))); go_frame; clear mk K4) | ((with_reducible refine at_dst 83 ?_); have mk := K5.out; refine wpList_value (o := ⟨some 83, _, _, _, _, _⟩) rfl (exec_load (ty := 41) rfl rfl RET.out uT rT infoTx) ?_; go_frame; clear mk K5) | ((with_reducible refine at_dst 84 ?_); have mk := K6.out; refine wpList_value (o := ⟨some 84, _, _, _, _, _⟩) rfl (exec_buildSliceA (t := 25) rfl rfl undTxs infoTxZ2 rfl (by decide) (by decide) rfl) ?_; generalize hwF : wE.alloc (.cells [.int .u32 q.t.ver, .slice (some ⟨b0, off0, none⟩) q.t.ins.length jc, .slice ka q.t.outs.length kc].toArray 41) = wF at *; go_frame; clear mk K6) | ((with_reducible refine at_dst 85 ?_); have mk := K7.out; refine wpList_value (o := ⟨some 85, _, _, _, _, _⟩) rfl (exec_bld (t := 27) rfl rfl (bldB2 _ _ _ _)) ?_; go_frame; clear mk K7) | (have mk := K8.out; go_at_call 15; refine CON2.out.mono ?_; intro e wG hcg; obtain ⟨rfl, f8, V2, hv2, hg8⟩ := CONG.out _ _ _ _ hcg; clear hcg; have FAG := Lib.hid (show Fr V wA wG from (FAE.out.trans0 FG0.out).trans f8 (fun j hj e => (HV1.out j e).resolve_right (by have := FSZ.out; have := FDS.out; omega))); have GG := Lib.hid hg8; have BGV := Lib.hid (FAG.out.obj BAV.out (fun e => by have := (VNO.out _ e).2; have := QV.out; omega)); have RGV := Lib.hid (range_obj BGV.out); have FH := Lib.hid ((Fr.refl No wG).alloc (.cells [.int .u32 q.u.ver, .slice v9a (1 + q.u.ins.length) v9c, .slice na q.u.outs.length nc].toArray 41)); have GH := Lib.hid (hg8.fr0 FH.out); have CON3 := Lib.hid (conn_g (HG.out.keep0 F5.out) GH.out BL.out (b := blk1 (addIn q.u x0)) (blkq_txs (txs_new1 (KV.out wG FAG.out)))); clear hg8 f8 hv2; go_frame; clear mk K8) | ((with_reducible refine at_dst 89 ?_); have mk := K9.out; refine wpList_value (o := ⟨some 89, _, _, _, _, _⟩) rfl (exec_load (ty := 41) rfl rfl RGV.out uT rT infoTx) ?_; go_frame; clear mk K9) | ((with_reducible refine at_dst 90 ?_); have mk := K10.out; refine wpList_value (o := ⟨some 90, _, _, _, _, _⟩) rfl (exec_buildSliceA (t := 25) rfl rfl undTxs infoTxZ2 rfl (by decide) (by decide) rfl) ?_; generalize hwH : wG.alloc (.cells [.int .u32 q.u.ver, .slice v9a (1 + q.u.ins.length) v9c, .slice na q.u.outs.length nc].toArray 41) = wH at *; go_frame; clear mk K10) | ((with_reducible refine at_dst 91 ?_); have mk := K11.out; refine wpList_value (o := ⟨some 91, _, _, _, _, _⟩) rfl (exec_bld (t := 27) rfl rfl (bldB2 _ _ _ _)) ?_; go_frame; clear mk K11) | (have mk := K12.out; go_at_call 15; refine CON3.out.mono ?_; rintro e wI ⟨rfl, -, V3, -, hg9⟩; have GI := Lib.hid hg9; clear hg9; go_frame; clear mk K12))
        go_ret
        exact ⟨rfl, F5.out.trans0 GI.out.fr⟩
end Go.Proofs.YtmpamcnlineceaaDoor
