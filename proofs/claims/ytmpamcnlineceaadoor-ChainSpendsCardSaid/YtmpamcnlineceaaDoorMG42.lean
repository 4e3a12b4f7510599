/- chain: do, of any block. -/
import Derived.Test.YtmpamcnlineceaaDoorMG41
import Derived.Test.YtmpamcnlineceaaDoorMG31
import Derived.Test.YtmpamcnlineceaaDoorMG37
set_option linter.unusedVariables false
set_option linter.unusedSimpArgs false
set_option linter.unnecessarySimpa false
set_option linter.all false
namespace Go.Proofs.YtmpamcnlineceaaDoor
open Go Go.RowKit Go.Maps Go.MapKept

theorem TxQ.len3' {w : World} {t : TxD} {cs : List Value} (h : TxQ w t cs) : cs.length = 3 := by
  obtain ⟨_, _, _, _, rfl, _⟩ := h
  rfl
theorem blk_parts {V : Nat → Prop} {w : World} {b : BlkD} {pa ta : Option Addr} {pc tc : Nat} (h : Kept V w (fun w => BlkQ w b [.int .u64 b.tag, .slice pa b.pay.length pc, .slice ta b.txs.length tc])) : Kept V w (fun w => OutsIs w (.slice pa b.pay.length pc) b.pay) ∧ Kept V w (fun w => TxsIs w (.slice ta b.txs.length tc) b.txs) := by
  have key : ∀ w', BlkQ w' b [.int .u64 b.tag, .slice pa b.pay.length pc, .slice ta b.txs.length tc] → OutsIs w' (.slice pa b.pay.length pc) b.pay ∧ TxsIs w' (.slice ta b.txs.length tc) b.txs := by
    rintro w' ⟨pa', pc', ta', tc', e, _, ho, ht⟩
    simp only [blkC, List.cons.injEq, and_true] at e
    obtain ⟨-, e1, e2⟩ := e
    injection e1 with e11 _ e13
    injection e2 with e21 _ e23
    subst e11; subst e13; subst e21; subst e23
    exact ⟨ho, ht⟩
  exact ⟨fun w' f => (key w' (h w' f)).1, fun w' f => (key w' (h w' f)).2⟩
theorem done_kept {V : Nat → Prop} {w : World} {b : BlkD} {bcs : List Value} {ids : List HashD} {chg : List ChgD} {iv cv : Value} {ccs : List (List Value)} {B : Nat} (hb : Kept V w (fun w => BlkQ w b bcs)) (hi : w.ownsRow B 45 32 iv ids.length (ids.flatMap hashC)) (iok : ∀ x ∈ ids, hashOk x)
    {V' : Nat → Prop} (hc : KRow B 115 2 ChgQ V' w cv chg ccs) (hV : ∀ j, V j → V' j) (hB : ∀ j, V j → j < B) (hl : chg.length ≤ 1000) : Kept V w (fun w => DoneQ w ⟨b, ids, chg⟩ (bcs ++ [iv, cv])) := by
  obtain ⟨ia, ic, hia⟩ := hi.slice.arg.form
  obtain ⟨ca, cc, hca⟩ := hc.form
  have hr := hc.rows (U := V) (by decide) (by unfold maxLen; omega) (fun j _ e => hV j e) (fun j hj e => by have := (hc.lt j hj).1; have := hB j e; omega)
  intro w' f
  refine ⟨bcs, ia, ic, ca, cc, by rw [hia, hca], hb w' f, ⟨iok, ?_⟩, ?_⟩
  · rw [← hia]
    exact (ownsRow_keep hi f (fun j hj e => by have := (hi.lt j hj).1; have := hB j e; omega)).slice.arg
  · have := hr w' f
    rw [hca] at this
    exact this
theorem kept_chg0 {w : World} {B n : Nat} {ma : Option Addr} {mc : Nat} {l : List PointD} {V : Nat → Prop} (h : w.ownsRow B 47 33 (.slice ma n mc) n (l.flatMap pointC)) (hn : l.length = n) (ok : ∀ x ∈ l, x.ok) (hV : ∀ j, (Value.slice ma n mc).ownBlock = some j → ¬ V j) : Kept V w (fun w => ChgQ w ⟨[], l⟩ [.slice none 0 0, .slice ma n mc]) := by
  subst hn
  exact fun w' f => ⟨none, 0, ma, mc, rfl, ⟨(fun x hx => by cases hx), .inl (.inl ⟨rfl, rfl, rfl⟩)⟩, kept_points h ok hV w' f⟩
theorem doR_bad {K : List HashD} {S : List CoinD} {b : BlkD} {E : Int} {st : StD} (h : runT K b.txs (st0 S) = (E, st)) (hE : E ≠ 0) : doR K S b = ⟨E, st.S, ⟨b, st.ids, st.chg⟩⟩ := by
  unfold doR
  rw [h]
  exact if_neg hE
theorem doR_fin {K : List HashD} {S : List CoinD} {b : BlkD} {st : StD} (h : runT K b.txs (st0 S) = (0, st)) : doR K S b = if putE st.S (payD b) = 0 then ⟨0, putC st.S (payD b), ⟨b, st.ids, st.chg ++ [⟨[], (payD b).map (·.at_)⟩]⟩⟩ else ⟨10, st.S, ⟨b, st.ids, st.chg⟩⟩ := by
  unfold doR
  rw [h]
  exact if_pos rfl
def DoP (w0 w : World) (p s mi : Nat) (U : Nat → Prop) (bv : Value) (css : List (List Value)) (D : ChD) (dq : Nat) (b : BlkD) (R : DoR) (e : Ending) (w' : World) : Prop :=
  ∃ M', SpecM D.bs.length D.M M' R.d.ids ∧ DoOk w0 w p s mi U bv css D dq b R.E R.S M' R.d e w'
def DoL (w0 w : World) (p s mi : Nat) (U : Nat → Prop) (bv : Value) (css : List (List Value)) (D : ChD) (dq : Nat) (b : BlkD) (x0 x1 x2 : Value) (K : List HashD) (n : Nat) (wr : World) : Prop :=
  ∃ (st : StD) (M : List (HashD × Int)) (iv cv : Value) (ccs : List (List Value)), runT K b.txs (st0 D.S) = runT K (b.txs.drop n) st ∧ StOk D.S K n st ∧ SpecM D.bs.length D.M M st.ids ∧ M.length ≤ D.M.length + n ∧
    ChAt w0 wr p s U mi bv css ⟨st.S, D.bs, M⟩ ∧ wr.heap[dq]? = some (.cells #[x0, x1, x2, iv, cv] 97 (0, 0)) ∧ wr.ownsRow w.heap.size 45 32 iv n (st.ids.flatMap hashC) ∧
    KRow w.heap.size 115 2 ChgQ (fun j => (chV p U mi bv j ∨ j = dq) ∨ iv.ownBlock = some j) wr cv st.chg ccs ∧ (∀ j, iv.ownBlock = some j → cv.ownBlock = some j → False) ∧ Fr (fun j => chV p U mi bv j ∨ j = dq) w wr
set_option maxRecDepth 20000 in
set_option maxHeartbeats 8000000 in
theorem do_any {w0 w : World} (hg : ShaW w0) {p s mi : Nat} {U : Nat → Prop} {bv : Value} {css : List (List Value)} {D : ChD} (h : ChAt w0 w p s U mi bv css D) {KI : List HashD} (hK : ∀ x, x ∈ KI ↔ ∃ v, (x, v) ∈ D.M) (hpos : ∀ x v, (x, v) ∈ D.M → 0 < v) {dq : Nat} {b : BlkD} {bcs : List Value}
    (hq : w.heap[dq]? = some (.cells (bcs ++ [Value.slice none 0 0, Value.slice none 0 0]).toArray 97 (0, 0))) (hnq : ¬ chV p U mi bv dq) (hlq : w0.heap.size ≤ dq)
    (hb : Kept (fun j => chV p U mi bv j ∨ j = dq) w (fun w => BlkQ w b bcs)) (hok : blkOk b = true) (srt : SrtC D.S) (hN : D.S.length ≤ 80000) (hDl : D.bs.length ≤ 100000) (hMl : D.M.length ≤ 1000000)
    (hkd : ∀ (i : Nat) (d : DoneD) (cs : List Value), D.bs[i]? = some d → css[i]? = some cs → Kept (fun j => chV p U mi bv j ∨ j = dq) w (fun w => DoneQ w d cs)) :
    Calls Tryd.prog 33 #[.pointer (some ⟨p, 0, none⟩), .pointer (some ⟨dq, 0, none⟩)] w
      (DoP w0 w p s mi U bv css D dq b (doR KI D.S b)) := by
  obtain ⟨pa, pc, ta, tc, rfl⟩ := hb.now.form
  obtain ⟨p8, t16, -⟩ := blkOk_iff hok
  have HBO := Lib.hid hb.now.oks
  obtain ⟨kpay, ktxs⟩ := blk_parts hb
  have KPAY := Lib.hid kpay
  have KTXS := Lib.hid ktxs
  have HB := Lib.hid hb
  have HQ := Lib.hid (show w.heap[dq]? = some (.cells #[.int .u64 b.tag, .slice pa b.pay.length pc, .slice ta b.txs.length tc, .slice none 0 0, .slice none 0 0] 97 (0, 0)) from hq)
  obtain ⟨dB, uB, rB⟩ := descBlk
  obtain ⟨dH, uH, rH⟩ := descHash
  obtain ⟨dC, uC, rC⟩ := descCoin
  obtain ⟨dP, uP, rP⟩ := descPoint
  obtain ⟨dG, uG, rG⟩ := descChg
  obtain ⟨dT, uT, rT⟩ := descTx
  have zH := zeroHash
  have zG := zeroChg
  have zC := zeroCoin
  have zT := zeroTx1
  have HC := Lib.hid h
  have G0 := Lib.hid hg
  have NQ := Lib.hid hnq
  have LQ := Lib.hid hlq
  have HKK := Lib.hid hK
  have HPOS := Lib.hid hpos
  have HHI := Lib.hid h.hi
  have HLO := Lib.hid h.lo
  have QL := Lib.hid (obj_lt hq)
  have HOK := Lib.hid hok
  have ST0 := Lib.hid (StOk.start srt h.set.ok KI)
  have HNN := Lib.hid (And.intro hN (And.intro hDl hMl))
  have HK := Lib.hid hkd
  have FW0 := Lib.hid h.fr
  have c2 := (rangeAt5 (range_obj hq)).2.2.1
  clear h hg hq hnq hlq hb hok hkd hK hpos kpay ktxs srt hN hDl hMl
  go_enter Tryd.func33, Tryd.ntmps33
  go_wp2_with fail
  clear c2
  go_loopw [25] (fun iv wr => ∃ n : Nat, iv = .int .i64 n ∧ n ≤ b.txs.length ∧ DoL w0 w p s mi U bv css D dq b (.int .u64 b.tag) (.slice pa b.pay.length pc) (.slice ta b.txs.length tc) KI n wr) (fun iv _ => b.txs.length - (intOf iv).toNat)
  case atStart => exact ⟨0, rfl, Nat.zero_le _, st0 D.S, D.M, .slice none 0 0, .slice none 0 0, [], rfl, ST0.out, ⟨fun x v => by simp [st0], fun x hx => by simp [st0] at hx⟩, Nat.le_refl _, HC.out, HQ.out, World.ownsRow_nil _ _ _ 32, KRow.nil _ _ _ _ _ _, (fun j e => by cases e), Fr.refl _ _⟩
  case round =>
    obtain ⟨n, rfl, hn, st, M, iv, cv, ccs, hrun, hst, hsp, hml, hch, hbq, hoi, hkr, hdis, fr⟩ := hrel
    have FR := Lib.hid fr
    have RUN := Lib.hid hrun
    have STO := Lib.hid hst
    have SPM := Lib.hid hsp
    have MLE := Lib.hid hml
    have CH := Lib.hid hch
    have BQ := Lib.hid hbq
    have OI := Lib.hid hoi
    have KR := Lib.hid hkr
    have DIS := Lib.hid hdis
    obtain ⟨iva, ivc, hiv⟩ := hoi.slice.arg.form
    subst hiv
    obtain ⟨cva, cvc, hcv⟩ := hkr.form
    rw [hst.cl] at hcv
    subst hcv
    have NI := Lib.hid (show ∀ j, (Value.slice iva n ivc).ownBlock = some j → w.heap.size ≤ j ∧ j < wr.heap.size from fun j hj => hoi.lt j hj)
    have NC := Lib.hid (show ∀ j, (Value.slice cva n cvc).ownBlock = some j → w.heap.size ≤ j ∧ j < wr.heap.size from fun j hj => hkr.lt j hj)
    have GW := Lib.hid (G0.out.keep0 hch.fr)
    clear fr hrun hst hsp hml hch hbq hoi hkr hdis
    by_cases hlt : n < b.txs.length
    · have i1 : (n : Int) < (b.txs.length : Int) := by omega
      obtain ⟨t, hx⟩ : ∃ x, b.txs[n]? = some x := ⟨_, List.getElem?_eq_getElem hlt⟩
      have HX := Lib.hid hx
      have DRP := Lib.hid (show b.txs.drop n = t :: b.txs.drop (n + 1) by rw [List.drop_eq_getElem_cons hlt, (List.getElem?_eq_some_iff.1 hx).2])
      obtain ⟨bb, off, cap, ts, hvv, -, hq0, hkp⟩ := rows_at (by decide) (fun _ _ _ h => TxQ.len3' h) (KTXS.out.same FR.out) hx
      cases hvv
      obtain ⟨ja, jc, ka, kc, rfl⟩ := hq0.form
      have HKP := Lib.hid hkp
      have R1 := Lib.hid hkp.now.1
      have FA := Lib.hid ((Fr.refl No wr).alloc (.cells #[.int .u32 t.ver, .slice ja t.ins.length jc, .slice ka t.outs.length kc] 41))
      have RA := Lib.hid (tx_new wr t.ver (.slice ja t.ins.length jc) (.slice ka t.outs.length kc)).2.2.2
      have QA := Lib.hid (show (wr.alloc (.cells #[.int .u32 t.ver, .slice ja t.ins.length jc, .slice ka t.outs.length kc] 41)).heap.size = wr.heap.size + 1 by simp)
      have CK := Lib.hid (check_any _ (show TxQ (wr.alloc (.cells #[.int .u32 t.ver, .slice ja t.ins.length jc, .slice ka t.outs.length kc] 41)) t [.int .u32 t.ver, .slice ja t.ins.length jc, .slice ka t.outs.length kc] from (hkp _ FA.out.of0).2))
      have ERR := Lib.hid (show ∀ E, txE KI st t = E → E ≠ 0 → ∀ w', ChAt w0 w' p s U mi bv css ⟨st.S, D.bs, M⟩ → Fr U wr w' → DoP w0 w p s mi U bv css D dq b (doR KI D.S b) (.returned (.int .i64 E)) w' from fun E hE hE0 w' hc f => by
        have hr : runT KI b.txs (st0 D.S) = (E, st) := by rw [RUN.out, DRP.out, runT_bad (by rw [hE]; exact hE0), hE]
        rw [doR_bad hr hE0]
        have hU : ∀ j, U j → j < w.heap.size := fun j hj => HHI.out j (.inr (.inl hj))
        refine ⟨M, SPM.out, rfl, hc, FR.out.trans f (fun j _ e => .inl (.inr (.inl e))), rfl, _, f.obj BQ.out (fun e => NQ.out (.inr (.inl e))), ?_⟩
        exact done_kept (bcs := [_, _, _]) (HB.out.same (FR.out.trans f (fun j _ e => .inl (.inr (.inl e))))) (by rw [STO.out.il]; exact ownsRow_keep OI.out f (fun j hj e => by have := (NI.out j hj).1; have := hU j e; omega)) STO.out.iok (KR.out.fr f (fun j _ e => .inl (.inl (.inr (.inl e)))) (fun j hj e => by have := (NC.out j hj).1; have := hU j e; omega)) (fun j e => .inl e) (fun j e => e.elim (fun e => HHI.out j e) (fun e => by rw [e]; exact QL.out)) (by rw [STO.out.cl]; omega))
      have IID := Lib.hid (fun (w' : World) (f : Fr No wr w') => id_any (GW.out.keep0 f) (show TxQ w' t [.int .u32 t.ver, .slice ja t.ins.length jc, .slice ka t.outs.length kc] from (HKP.out _ f.of0).2))
      clear hq0 hkp hx
      by_cases hck : checkE t = 0
      rotate_left
      · have e0 : (checkE t == 0) = false := by simpa using hck
        have e1 : (checkE t != 0) = true := by simpa using hck
        have FIN := Lib.hid (fun (w' : World) (f : Fr No wr w') => ERR.out (checkE t) (by unfold txE; rw [if_neg hck]) hck w' (CH.out.fr0 f) f.of0)
        clear hck
        have K0 := Lib.hid True.intro
        have K1 := Lib.hid True.intro
        have K2 := Lib.hid True.intro
        have K3 := Lib.hid True.intro
        go_wp2_with (first | ((with_reducible refine at_list ?_); have mk := K0.out; refine wpList_value rfl (exec_load (ty := 41) rfl rfl R1.out uT rT infoTx) ?_; go_frame; clear mk K0) | ((with_reducible refine at_store ?_); have mk := K1.out; refine wpList_done rfl (exec_store_new (w := wr) (ty := 41) (cs := [.int .u32 t.ver, .slice ja t.ins.length jc, .slice ka t.outs.length kc]) rfl rfl rfl rfl infoTx (one3 rfl rfl rfl)) ?_; generalize wr.alloc (.cells #[.int .u32 t.ver, .slice ja t.ins.length jc, .slice ka t.outs.length kc] 41) = wA at *; go_frame; clear mk K1) | ((with_reducible refine at_list ?_); have mk := K2.out; refine wpList_value rfl (exec_load (ty := 41) rfl rfl RA.out uT rT infoTx) ?_; go_frame; clear mk K2) | (have mk := K3.out; go_at_call 46; refine CK.out.mono ?_; rintro e wB ⟨rfl, f2⟩; have FB := Lib.hid (FA.out.trans0 f2); clear f2; go_frame; clear mk K3))
        go_ret
        exact FIN.out _ FB.out
      have e0 : (checkE t == 0) = true := by simpa using hck
      have e1 : (checkE t != 0) = false := by simpa using hck
      have HCK := Lib.hid hck
      have HL := Lib.hid (hashC_len (idH_ok t))
      clear hck
      have K0 := Lib.hid True.intro
      have K1 := Lib.hid True.intro
      have K2 := Lib.hid True.intro
      have K3 := Lib.hid True.intro
      have K4 := Lib.hid True.intro
      have K5 := Lib.hid True.intro
      have K6 := Lib.hid True.intro
      go_wp2_with (first | ((with_reducible refine at_list ?_); have mk := K0.out; refine wpList_value rfl (exec_load (ty := 41) rfl rfl R1.out uT rT infoTx) ?_; go_frame; clear mk K0) | ((with_reducible refine at_store ?_); have mk := K1.out; refine wpList_done rfl (exec_store_new (w := wr) (ty := 41) (cs := [.int .u32 t.ver, .slice ja t.ins.length jc, .slice ka t.outs.length kc]) rfl rfl rfl rfl infoTx (one3 rfl rfl rfl)) ?_; generalize wr.alloc (.cells #[.int .u32 t.ver, .slice ja t.ins.length jc, .slice ka t.outs.length kc] 41) = wA at *; go_frame; clear mk K1) | ((with_reducible refine at_list ?_); have mk := K2.out; refine wpList_value rfl (exec_load (ty := 41) rfl rfl RA.out uT rT infoTx) ?_; go_frame; clear mk K2) | (have mk := K3.out; go_at_call 46; refine CK.out.mono ?_; rintro e wB ⟨rfl, f2⟩; have FB := Lib.hid (FA.out.trans0 f2); have RB := Lib.hid (range_keep RA.out f2 _root_.id); have S2 := Lib.hid f2.size; clear f2; go_frame; clear mk K3) | ((with_reducible refine at_list ?_); have mk := K4.out; refine wpList_value rfl (exec_load (ty := 41) rfl rfl RB.out uT rT infoTx) ?_; go_frame; clear mk K4) | (have mk := K5.out; go_at_call 22; refine (IID.out wB FB.out).mono ?_; rintro e wC ⟨rfl, f3⟩; have FC := Lib.hid (FB.out.trans0 f3); have RC := Lib.hid (range_keep RB.out f3 _root_.id); have S3 := Lib.hid f3.size; clear f3; have FD0 := Lib.hid ((Fr.refl No wC).alloc (.cells (hashC (idH t)).toArray 45)); have BD0 := Lib.hid (new_obj wC (.cells (hashC (idH t)).toArray 45)); go_frame; clear mk K5) | ((with_reducible refine at_store ?_); have mk := K6.out; refine wpList_done rfl (exec_store_new (w := wC) (ty := 45) (cs := hashC (idH t)) rfl rfl rfl (by rw [HL.out]; rfl) (by rw [HL.out]; exact infoHash) hashC_one) ?_; generalize wC.alloc (.cells (hashC (idH t)).toArray 45) = wD at *; generalize hq8 : wC.heap.size = q8 at *; go_frame; clear mk K6))
      have FE := Lib.hid ((FC.out.trans0 FD0.out).trans0 (Fr.refl No wD).drew)
      have RE := Lib.hid (range_keep (range_keep RC.out FD0.out _root_.id) (Fr.refl No wD).drew _root_.id)
      have B8 := Lib.hid ((Fr.refl No wD).drew.obj BD0.out _root_.id)
      have R8 := Lib.hid (show wD.drew.rangeAt q8 0 (hashC (idH t)) from by have := range_obj B8.out; simpa using this)
      have CHE := Lib.hid (CH.out.fr0 FE.out)
      have Q8 := Lib.hid (show wr.heap.size < q8 ∧ q8 < wD.drew.heap.size from ⟨by have := QA.out; have := S2.out; have := S3.out; omega, obj_lt B8.out⟩)
      obtain ⟨v, hv1, hv2⟩ : ∃ v : Int, (Instr.lookup 90 (.map (some mi)) (hashV (idH t)) false).run Tryd.prog wD.drew = .ok (.int .i64 v) wD.drew ∧ (0 < v ↔ idH t ∈ KI ∨ idH t ∈ st.ids) := by
        by_cases hin : ∃ v, (idH t, v) ∈ M
        · obtain ⟨v, hm⟩ := hin
          have := CHE.out.map.look eqHash.keyed undMapIds (fun _ _ => hashV_inj) zeroSeen (keyOfHash (idH_ok t)) false (r := some v) (fun v' => ⟨fun e => by rw [← Option.some.inj e]; exact hm, fun h' => by rw [CHE.out.map.uniq hm h']⟩)
          refine ⟨v, by simpa using this, ?_⟩
          rcases (SPM.out.1 _ _).1 hm with h | ⟨h, e⟩
          · exact ⟨fun _ => .inl ((HKK.out _).2 ⟨v, h⟩), fun _ => HPOS.out _ _ h⟩
          · exact ⟨fun _ => .inr h, fun _ => by omega⟩
        · have := CHE.out.map.look eqHash.keyed undMapIds (fun _ _ => hashV_inj) zeroSeen (keyOfHash (idH_ok t)) false (r := none) (fun v' => ⟨fun e => (by cases e), fun h' => absurd ⟨v', h'⟩ hin⟩)
          refine ⟨0, by simpa using this, ⟨fun e => (by omega), fun e => ?_⟩⟩
          exfalso
          apply hin
          rcases e with e | e
          · obtain ⟨v, hv⟩ := (HKK.out _).1 e
            exact ⟨v, (SPM.out.1 _ _).2 (.inl hv)⟩
          · exact ⟨_, (SPM.out.1 _ _).2 (.inr ⟨e, rfl⟩)⟩
      have LK := Lib.hid hv1
      have HV2 := Lib.hid hv2
      have CP2 := Lib.hid CHE.out.cells.2.2
      clear hv1 hv2
      refine wp_region_lexL [false, false, false, false, false, false, false] (fun w' => w'.cell? ⟨p, 2, none⟩ = some (.map (some mi)) ∧ w'.rangeAt q8 0 (hashC (idH t)) ∧ (Instr.lookup 90 (.map (some mi)) (hashV (idH t)) false).run Tryd.prog w' = .ok (.int .i64 v) w') (by kernel_rfl) (by kernel_rfl) ?_ (fun K hK => ?_)
      · exact ⟨CP2.out, R8.out, LK.out⟩
      generalize wD.drew = z8 at *
      repeat (first | ((first | with_reducible refine lexL_read ?_ | ((with_reducible refine lexL_readG ?_ ?_); (focus rfl))); apply Exists.intro; refine ⟨?_, ?_⟩; (focus (first | exact lex_load (ty := 45) rfl (fun w h => h.2.1) uH rH (by rw [HL.out]; exact infoHash) | exact fun w' h => exec_lookup (t := 90) rfl rfl rfl h.2.2 | (intro w' hS; obtain ⟨s1, s2, s3⟩ := hS; go_simp; (try with_reducible rfl); done))); try simp only [Act.put, List.setIfInBounds_toArray, List.set_cons_zero, List.set_cons_succ]) | ((first | ((with_reducible refine lexL_skip (c := false) ?_ ?_ ?_); (focus rfl); (focus rfl)) | ((with_reducible refine lexL_skip (c := true) ?_ ?_ ?_); (focus rfl); (focus rfl)) | ((with_reducible refine lexL_skipU ?_ ?_); (focus rfl))); try simp only [Act.put, List.setIfInBounds_toArray, List.set_cons_zero, List.set_cons_succ]))
      refine lexL_nil (hK.out _ _ ?_)
      by_cases hin : idH t ∈ KI ∨ idH t ∈ st.ids
      · have j3 : 0 < v := HV2.out.2 hin
        have FIN := Lib.hid (ERR.out 19 (by unfold txE; rw [if_pos HCK.out, if_pos hin]) (by decide) z8 CHE.out FE.out.of0)
        clear hin
        go_wp2_with fail
        go_ret
        exact FIN.out
      have j3 : ¬ 0 < v := fun e => hin (HV2.out.1 e)
      have NEW := Lib.hid (show idH t ∉ KI ∧ idH t ∉ st.ids from ⟨fun e => hin (.inl e), fun e => hin (.inr e)⟩)
      have TXE := Lib.hid (show txE KI st t = spE st.S t by unfold txE; rw [if_pos HCK.out, if_neg hin])
      clear hin LK HV2
      have SL := Lib.hid (show st.S.length ≤ 90000 by have := STO.out.len; have := HNN.out.1; omega)
      have SP := Lib.hid (spend_any (GW.out.keep0 FE.out) CHE.out.obj CHE.out.up CHE.out.set (t := t) (cs := [.int .u32 t.ver, .slice ja t.ins.length jc, .slice ka t.outs.length kc]) (fun w' f => (HKP.out w' (FE.out.of0.trans f (fun j _ e => .inl (.inr (.inl e))))).2) HCK.out SL.out)
      by_cases hsp : spE st.S t = 0
      rotate_left
      · have FIN := Lib.hid (show ∀ w', CS w0 w' s U (spS st.S t) → Fr U z8 w' → DoP w0 w p s mi U bv css D dq b (doR KI D.S b) (.returned (.int .i64 (spE st.S t))) w' from fun w' hc f => by
          have e : spS st.S t = st.S := by unfold spS; rw [if_neg hsp]
          rw [e] at hc
          exact ERR.out (spE st.S t) TXE.out hsp w' (CHE.out.setS hc f) (FE.out.of0.trans f (fun _ _ e => e)))
        have e2 : (spE st.S t == 0) = false := by simpa using hsp
        have e3 : (spE st.S t != 0) = true := by simpa using hsp
        clear hsp
        have K0 := Lib.hid True.intro
        have K1 := Lib.hid True.intro
        have K2 := Lib.hid True.intro
        go_wp2_with (first | ((with_reducible refine at_list ?_); have mk := K0.out; refine wpList_value rfl (exec_load (ty := 41) rfl rfl RE.out uT rT infoTx) ?_; go_frame; clear mk K0) | (have mk := K1.out; go_at_call 47; refine SP.out.mono ?_; rintro e wE ⟨sa, sn, sc, ma, mn, mc, rfl, cs9, f9, -⟩; have HS9 := Lib.hid cs9; have F9 := Lib.hid f9; clear cs9 f9; go_frame; clear mk K1) | ((with_reducible refine at_store ?_); have mk := K2.out; refine wpList_done rfl (exec_store_new (w := wE) (ty := 115) (cs := [.slice sa sn sc, .slice ma mn mc]) rfl rfl rfl rfl infoChg (one2 rfl rfl)) ?_; go_frame; clear mk K2))
        go_ret
        exact FIN.out _ (HS9.out.fr0 ((Fr.refl No wE).alloc _)) (F9.out.trans0 ((Fr.refl No wE).alloc _))
      have e2 : (spE st.S t == 0) = true := by simpa using hsp
      have e3 : (spE st.S t != 0) = false := by simpa using hsp
      have HSP := Lib.hid hsp
      clear hsp
      have K0 := Lib.hid True.intro
      have K1 := Lib.hid True.intro
      have K2 := Lib.hid True.intro
      go_wp2_with (first | ((with_reducible refine at_list ?_); have mk := K0.out; refine wpList_value rfl (exec_load (ty := 41) rfl rfl RE.out uT rT infoTx) ?_; go_frame; clear mk K0) | (have mk := K1.out; go_at_call 47; refine SP.out.mono ?_; rintro e wE ⟨sa, sn, sc, ma, mn, mc, rfl, cs9, f9, hk9⟩; have HS9 := Lib.hid cs9; have F9 := Lib.hid f9; have HK9 := Lib.hid (hk9 HSP.out (fun j => j < z8.heap.size) (fun _ h => h)); clear cs9 f9 hk9; have FF := Lib.hid ((Fr.refl No wE).alloc (.cells [.slice sa sn sc, .slice ma mn mc].toArray 115)); have BF := Lib.hid (new_obj wE (.cells [.slice sa sn sc, .slice ma mn mc].toArray 115)); go_frame; clear mk K1) | ((with_reducible refine at_store ?_); have mk := K2.out; refine wpList_done rfl (exec_store_new (w := wE) (ty := 115) (cs := [.slice sa sn sc, .slice ma mn mc]) rfl rfl rfl rfl infoChg (one2 rfl rfl)) ?_; generalize wE.alloc (.cells [.slice sa sn sc, .slice ma mn mc].toArray 115) = wF at *; generalize hq10 : wE.heap.size = q10 at *; go_frame; clear mk K2))
      have TXZ := Lib.hid (show txE KI st t = 0 from TXE.out.trans HSP.out)
      have UV := Lib.hid (show ∀ j, U j → j < w.heap.size from fun j hj => HHI.out j (.inr (.inl hj)))
      have FZ := Lib.hid (FF.out.trans0 (Fr.refl No wF).drew)
      have FU13 := Lib.hid (show Fr U wr wF.drew from (FE.out.of0.trans F9.out (fun _ _ e => e)).trans0 FZ.out)
      have CH13 := Lib.hid ((CHE.out.setS HS9.out F9.out).fr0 FZ.out)
      have BQ13 := Lib.hid (FU13.out.obj BQ.out (fun e => NQ.out (.inr (.inl e))))
      have W8 := Lib.hid (show w.heap.size ≤ wr.heap.size from FR.out.size)
      have R813 := Lib.hid (range_keep (range_keep R8.out F9.out (fun e => by have := UV.out _ e; have := Q8.out.1; have := W8.out; omega)) FZ.out _root_.id)
      have B10 := Lib.hid ((Fr.refl No wF).drew.obj BF.out _root_.id)
      have R10 := Lib.hid (show wF.drew.rangeAt q10 0 [.slice sa sn sc, .slice ma mn mc] from by have := range_obj B10.out; simpa using this)
      have Q10 := Lib.hid (show z8.heap.size ≤ q10 ∧ q10 < wF.drew.heap.size from ⟨by rw [← hq10]; exact F9.out.size, obj_lt B10.out⟩)
      have CPB := Lib.hid (show ∃ ba bc, bv = .slice ba D.bs.length bc from CH13.out.row.slice.arg.form)
      obtain ⟨ba, bc, hbv⟩ := CPB.out
      have CP1 := Lib.hid (show wF.drew.cell? ⟨p, 1, none⟩ = some (.slice ba D.bs.length bc) from by rw [← hbv]; exact CH13.out.cells.2.1)
      have CP2' := Lib.hid CH13.out.cells.2.2
      obtain ⟨wG, M', hup, hmG, hupd, htu, hmlG⟩ := CH13.out.map.upd eqHash.keyed undMapIds (fun _ _ => hashV_inj) (keyOfHash (idH_ok t)) (by unfold maxLen; show M.length < _; have := MLE.out; have := HNN.out.2.2; omega) ((D.bs.length : Int) + 1)
      have HUP := Lib.hid hup
      have CHG := Lib.hid (show ChAt w0 wG p s U mi bv css ⟨spS st.S t, D.bs, M'⟩ from CH13.out.setM hmG htu.fr)
      have FG := Lib.hid htu.fr
      have SPN := Lib.hid (show SpecM D.bs.length D.M M' (st.ids ++ [idH t]) from ⟨fun x v => by
        rw [hupd x v]
        simp only [List.mem_append, List.mem_singleton]
        constructor
        · rintro (⟨e1, e2⟩ | ⟨e1, e2⟩)
          · exact .inr ⟨.inr e1, e2⟩
          · exact ((SPM.out.1 x v).1 e2).imp_right (fun ⟨a, b⟩ => ⟨.inl a, b⟩)
        · rintro (e | ⟨e1 | e1, e2⟩)
          · refine .inr ⟨fun ex => ?_, (SPM.out.1 x v).2 (.inl e)⟩
            subst ex
            exact NEW.out.1 ((HKK.out _).2 ⟨v, e⟩)
          · refine .inr ⟨fun ex => ?_, (SPM.out.1 x v).2 (.inr ⟨e1, e2⟩)⟩
            subst ex
            exact NEW.out.2 e1
          · exact .inl ⟨e1, e2⟩, fun x hx v hm => by
        rcases List.mem_append.1 hx with hx | hx
        · exact SPM.out.2 x hx v hm
        · simp at hx; subst hx; exact NEW.out.1 ((HKK.out _).2 ⟨v, hm⟩)⟩)
      have ML2 := Lib.hid (show M'.length ≤ D.M.length + (n + 1) from by have h1 : M'.length ≤ M.length + 1 := hmlG; have := MLE.out; omega)
      clear hup hmG hupd htu hmlG
      unfold hashV seenV at HUP
      have WR := Lib.hid (show IntKind.i64.wrap ((D.bs.length : Int) + 1) = (D.bs.length : Int) + 1 from IntWalk.i64_in _ (by have := HNN.out.2.1; omega))
      have wr1 := WR.out
      refine wp_region_lexM [false, false, false, false, false, false, false, false, false, false, false, true] (fun w' => w'.cell? ⟨p, 2, none⟩ = some (.map (some mi)) ∧ w'.rangeAt q8 0 (hashC (idH t)) ∧ w'.cell? ⟨p, 1, none⟩ = some (.slice ba D.bs.length bc)) (by kernel_rfl) (by kernel_rfl) 11 (by kernel_rfl) (by kernel_rfl) ?_ (fun K hK => ?_)
      · exact ⟨CP2'.out, R813.out, CP1.out⟩
      generalize wF.drew = z13 at *
      repeat (first | ((first | with_reducible refine lexM_read ?_ | ((with_reducible refine lexM_readG ?_ ?_); (focus rfl))); apply Exists.intro; refine ⟨?_, ?_⟩; (focus (first | exact lex_load (ty := 45) rfl (fun w h => h.2.1) uH rH (by rw [HL.out]; exact infoHash) | (intro w' hS; obtain ⟨s1, s2, s3⟩ := hS; go_simp; (try with_reducible rfl); done))); try simp only [Act.put, List.setIfInBounds_toArray, List.set_cons_zero, List.set_cons_succ]) | ((first | ((with_reducible refine lexM_skip (c := false) ?_ ?_ ?_); (focus rfl); (focus rfl)) | ((with_reducible refine lexM_skip (c := true) ?_ ?_ ?_); (focus rfl); (focus rfl)) | ((with_reducible refine lexM_skipU ?_ ?_); (focus rfl))); try simp only [Act.put, List.setIfInBounds_toArray, List.set_cons_zero, List.set_cons_succ]))
      (first | with_reducible refine lexM_eff (fun K' hK' => ?_) | ((with_reducible refine lexM_effG ?_ (fun K' hK' => ?_)); (focus rfl)))
      refine wp_done (exec_mapUpdate rfl rfl rfl rfl HUP.out) ?_
      refine hK'.out _ _ (fun h => absurd rfl h) (fun hS => ?_)
      refine lexM_nil (hK.out _ _ ?_)
      clear wr1
      go_wp2_with fail
      have MI := Lib.hid (show mi < w.heap.size from HHI.out mi (.inr (.inr (.inl rfl))))
      have FD14 := Lib.hid (Fr.refl No wG).drew
      have FX := Lib.hid (show Fr (fun j => U j ∨ j = mi) wr wG.drew from ((FU13.out.mono (fun j e => .inl e)).trans FG.out (fun j _ e => .inr e)).trans0 FD14.out)
      have XW := Lib.hid (show ∀ j, (U j ∨ j = mi) → j < w.heap.size ∧ chV p U mi bv j from fun j e => e.elim (fun e => ⟨UV.out j e, .inr (.inl e)⟩) (fun e => by rw [e]; exact ⟨MI.out, .inr (.inr (.inl rfl))⟩))
      have BQ14 := Lib.hid (FX.out.obj BQ.out (fun e => NQ.out (XW.out _ e).2))
      have OI14 := Lib.hid (ownsRow_keep OI.out FX.out (fun j hj e => by have := (NI.out j hj).1; have := (XW.out j e).1; omega))
      have KR14 := Lib.hid (KR.out.fr FX.out (fun j _ e => .inl (.inl (XW.out j e).2)) (fun j hj e => by have := (NC.out j hj).1; have := (XW.out j e).1; omega))
      have R814 := Lib.hid (range_keep (range_keep R813.out FG.out (fun e => by have := MI.out; have := W8.out; have := Q8.out.1; omega)) FD14.out _root_.id)
      have R1014 := Lib.hid (range_keep (range_keep R10.out FG.out (fun e => by have := MI.out; have := W8.out; have := Q8.out; have := Q10.out.1; omega)) FD14.out _root_.id)
      have CH14 := Lib.hid (CHG.out.fr0 FD14.out)
      have S14 := Lib.hid (show z8.heap.size ≤ wE.heap.size ∧ wE.heap.size ≤ wG.drew.heap.size from ⟨F9.out.size, by have := FZ.out.size; have := FG.out.size; have := FD14.out.size; omega⟩)
      have C314 := Lib.hid (show wG.drew.cell? ⟨dq, 3, none⟩ = some (.slice iva n ivc) from by have := range_obj BQ14.out 3 _ rfl; simpa using this)
      refine wp_region_lexM [false, false, false, false, false, false, true, true, false, false, true] (fun w' => w'.cell? ⟨dq, 3, none⟩ = some (.slice iva n ivc) ∧ w'.rangeAt q8 0 (hashC (idH t))) (by kernel_rfl) (by kernel_rfl) 10 (by kernel_rfl) (by kernel_rfl) ?_ (fun K hK => ?_)
      · exact ⟨C314.out, R814.out⟩
      generalize wG.drew = z14 at *
      have S14b := Lib.hid (show w.heap.size ≤ z14.heap.size by have := FX.out.size; have := W8.out; omega)
      obtain ⟨v5, w5', a1, a2, a3, -, a5⟩ := append_blk (P := Tryd.prog) z14 w.heap.size 94 94 45 32 32 _ undIds infoHashZ (by show (hashC hash0).toArray.size = 32; rfl) (by decide) OI14.out (hashC (idH t)) HL.out hashC_one (by omega) (by unfold maxLen; omega) S14b.out
      obtain ⟨va5, vc5, hv5⟩ := a2.slice.arg.form
      subst hv5
      have A1 := Lib.hid a1
      have O5 := Lib.hid (show w5'.ownsRow w.heap.size 45 32 (.slice va5 (n + 1) vc5) (n + 1) ((st.ids ++ [idH t]).flatMap hashC) by rw [List.flatMap_append]; simpa using a2)
      have A5 := Lib.hid a5
      have BQ5 := Lib.hid (a3.obj BQ14.out (fun e => by have := (NI.out _ e).1; have := QL.out; omega))
      have C5 := Lib.hid (show w5'.cell? ⟨dq, 3, none⟩ = some (.slice iva n ivc) from by have := range_obj BQ5.out 3 _ rfl; simpa using this)
      have R85 := Lib.hid (range_keep R814.out a3 (fun e => by have h1 : q8 < wr.heap.size := (NI.out _ e).2; have := Q8.out.1; omega))
      have R105 := Lib.hid (range_keep R1014.out a3 (fun e => by have h1 : q10 < wr.heap.size := (NI.out _ e).2; have := Q10.out.1; have := Q8.out; omega))
      have fz := u32_unfrozen (i := 3) BQ5.out
      have fs : Fr (fun j => j = dq) w5' (w5'.setCell ⟨dq, 3, none⟩ (.slice va5 (n + 1) vc5)) := (Fr.refl (fun j => j = dq) w5').setCell ⟨dq, 3, none⟩ (.inr rfl) _
      have F15 := Lib.hid (show Fr (fun j => (Value.slice iva n ivc).ownBlock = some j ∨ j = dq) z14 (w5'.setCell ⟨dq, 3, none⟩ (.slice va5 (n + 1) vc5)) from (a3.mono (fun j e => .inl e)).trans fs (fun j _ e => .inr e))
      have O15 := Lib.hid (ownsRow_keep O5.out fs (fun j hj e => by have := (O5.out.lt j hj).1; have := QL.out; omega))
      have BQ15 := Lib.hid (show (w5'.setCell ⟨dq, 3, none⟩ (.slice va5 (n + 1) vc5)).heap[dq]? = some (.cells #[.int .u64 b.tag, .slice pa b.pay.length pc, .slice (some ⟨bb, off, none⟩) b.txs.length tc, .slice va5 (n + 1) vc5, .slice cva n cvc] 97 (0, 0)) from by have := heap_setCell_same w5' dq 3 _ _ (.slice va5 (n + 1) vc5) BQ5.out; simpa using this)
      have R1015 := Lib.hid (range_keep R105.out fs (fun e => by have := Q10.out.1; have := Q8.out; have := QL.out; have := W8.out; omega))
      have NV := Lib.hid (show ∀ j, j < z14.heap.size → (Value.slice va5 (n + 1) vc5).ownBlock = some j → (Value.slice iva n ivc).ownBlock = some j from fun j hj e => (A5.out j e).resolve_right (by omega))
      have KR15 := Lib.hid (show KRow w.heap.size 115 2 ChgQ (fun j => (chV p U mi bv j ∨ j = dq) ∨ (Value.slice va5 (n + 1) vc5).ownBlock = some j) (w5'.setCell ⟨dq, 3, none⟩ (.slice va5 (n + 1) vc5)) (.slice cva n cvc) st.chg ccs from by
        have k1 := KR14.out.vary (V' := fun j => (chV p U mi bv j ∨ j = dq) ∨ (Value.slice iva n ivc).ownBlock = some j ∨ (Value.slice va5 (n + 1) vc5).ownBlock = some j) (fun j hj e => e.imp_right (fun e => e.elim id (NV.out j hj)))
        have k2 := k1.fr F15.out (fun j _ e => e.elim (fun e => .inr (.inl e)) (fun e => .inl (.inr e))) (fun j hj e => e.elim (fun e => DIS.out j e hj) (fun e => by have := (NC.out j hj).1; have := QL.out; omega))
        exact k2.vary (fun j _ e => e.imp_right .inr))
      have DIS15 := Lib.hid (show ∀ j, (Value.slice va5 (n + 1) vc5).ownBlock = some j → (Value.slice cva n cvc).ownBlock = some j → False from fun j h1 h2 => (A5.out j h1).elim (fun h => DIS.out j h h2) (fun h => by have := (NC.out j h2).2; have := FX.out.size; omega))
      have KS := Lib.hid (show ∀ w', Fr No z14 w' → w'.cell? ⟨dq, 3, none⟩ = some (.slice iva n ivc) ∧ w'.rangeAt q8 0 (hashC (idH t)) from fun w' f => ⟨f.cell C314.out _root_.id, range_keep R814.out f _root_.id⟩)
      clear a1 a2 a3 a5 fs
      repeat (first | ((first | with_reducible refine lexM_read ?_ | ((with_reducible refine lexM_readG ?_ ?_); (focus rfl))); apply Exists.intro; refine ⟨?_, ?_⟩; (focus (first | exact lex_load (ty := 45) rfl (fun w h => h.2) uH rH (by rw [HL.out]; exact infoHash) | (intro w' hS; obtain ⟨s1, s2⟩ := hS; go_simp; (try with_reducible rfl); done))); try simp only [Act.put, List.setIfInBounds_toArray, List.set_cons_zero, List.set_cons_succ]) | ((first | ((with_reducible refine lexM_skip (c := false) ?_ ?_ ?_); (focus rfl); (focus rfl)) | ((with_reducible refine lexM_skip (c := true) ?_ ?_ ?_); (focus rfl); (focus rfl)) | ((with_reducible refine lexM_skipU ?_ ?_); (focus rfl))); try simp only [Act.put, List.setIfInBounds_toArray, List.set_cons_zero, List.set_cons_succ]))
      (first | with_reducible refine lexM_eff (fun K' hK' => ?_) | ((with_reducible refine lexM_effG ?_ (fun K' hK' => ?_)); (focus rfl)))
      refine wp_value (exec_buildSliceA (t := 94) rfl rfl undIds infoHashZ2 rfl (by decide) (by decide) HL.out) ?_
      refine hK'.out _ _ (fun _ => ?_) (fun hS => ?_)
      · exact KS.out _ ((Fr.refl No z14).alloc _)
      try simp only [Act.put, List.setIfInBounds_toArray, List.set_cons_zero, List.set_cons_succ]
      (first | with_reducible refine lexM_eff (fun K' hK' => ?_) | ((with_reducible refine lexM_effG ?_ (fun K' hK' => ?_)); (focus rfl)))
      refine wp_append_run rfl rfl rfl A1.out ?_
      refine hK'.out _ _ (fun _ => ?_) (fun hS => ?_)
      · exact ⟨C5.out, R85.out⟩
      try simp only [Act.put, List.setIfInBounds_toArray, List.set_cons_zero, List.set_cons_succ]
      repeat (first | ((first | with_reducible refine lexM_read ?_ | ((with_reducible refine lexM_readG ?_ ?_); (focus rfl))); apply Exists.intro; refine ⟨?_, ?_⟩; (focus (first | (intro w' hS; obtain ⟨s1, s2⟩ := hS; go_simp; (try with_reducible rfl); done))); try simp only [Act.put, List.setIfInBounds_toArray, List.set_cons_zero, List.set_cons_succ]) | ((first | ((with_reducible refine lexM_skip (c := false) ?_ ?_ ?_); (focus rfl); (focus rfl)) | ((with_reducible refine lexM_skip (c := true) ?_ ?_ ?_); (focus rfl); (focus rfl)) | ((with_reducible refine lexM_skipU ?_ ?_); (focus rfl))); try simp only [Act.put, List.setIfInBounds_toArray, List.set_cons_zero, List.set_cons_succ]))
      (first | with_reducible refine lexM_eff (fun K' hK' => ?_) | ((with_reducible refine lexM_effG ?_ (fun K' hK' => ?_)); (focus rfl)))
      go_simp
      refine hK'.out _ _ (fun h => absurd rfl h) (fun hS => ?_)
      refine lexM_nil (hK.out _ _ ?_)
      clear fz
      generalize w5'.setCell ⟨dq, 3, none⟩ (.slice va5 (n + 1) vc5) = w15 at *
      go_wp2_with fail
      have FD15 := Lib.hid (Fr.refl No w15).drew
      have BQ15d := Lib.hid (FD15.out.obj BQ15.out _root_.id)
      have C415 := Lib.hid (show w15.drew.cell? ⟨dq, 4, none⟩ = some (.slice cva n cvc) from by have := range_obj BQ15d.out 4 _ rfl; simpa using this)
      have R1016 := Lib.hid (range_keep R1015.out FD15.out _root_.id)
      have KR16 := Lib.hid (KR15.out.fr0 FD15.out)
      have O16 := Lib.hid (ownsRow_keep O15.out FD15.out (fun _ _ => _root_.id))
      refine wp_region_lexM [false, false, false, false, false, false, true, true, false, false, true] (fun w' => w'.cell? ⟨dq, 4, none⟩ = some (.slice cva n cvc) ∧ w'.rangeAt q10 0 [.slice sa sn sc, .slice ma mn mc]) (by kernel_rfl) (by kernel_rfl) 10 (by kernel_rfl) (by kernel_rfl) ?_ (fun K hK => ?_)
      · exact ⟨C415.out, R1016.out⟩
      generalize w15.drew = z16 at *
      have F16 := Lib.hid (F15.out.trans0 FD15.out)
      have FE16 := Lib.hid (show Fr (fun j => j < z8.heap.size) wE z16 from ((FZ.out.of0.trans FG.out (fun j _ e => by rw [e]; have := MI.out; have := W8.out; have := Q8.out; omega)).trans0 FD14.out).trans F16.out (fun j _ e => by
        have := Q8.out
        rcases e with e | e
        · have := (NI.out j e).2; omega
        · rw [e]; have := QL.out; have := W8.out; omega))
      have KC := Lib.hid (show Kept (fun j => ((chV p U mi bv j ∨ j = dq) ∨ (Value.slice va5 (n + 1) vc5).ownBlock = some j) ∨ (Value.slice cva n cvc).ownBlock = some j) z16 (fun w => ChgQ w (spG st.S t) [.slice sa sn sc, .slice ma mn mc]) from HK9.out.step FE16.out (fun j hj e => by
        have := Q8.out
        have := W8.out
        rcases e with ((e | e) | e) | e
        · have := HHI.out j e; omega
        · rw [e]; have := QL.out; omega
        · have := (NI.out j (NV.out j (by have := S14.out.2; omega) e)).2; omega
        · have := (NC.out j e).2; omega))
      have S16 := Lib.hid (show w.heap.size ≤ z16.heap.size by have := S14b.out; have := F16.out.size; omega)
      obtain ⟨v6, w6, b1, b2, b3, b5⟩ := KR16.out.append (P := Tryd.prog) (t := 95) (ty2 := 95) (bytes := 48) undChgs infoChgZ rfl (by decide) KC.out rfl (one2 rfl rfl) (by rw [STO.out.cl]; omega) (by rw [STO.out.cl]; unfold maxLen; omega) S16.out
      obtain ⟨va6, vc6, hv6⟩ := b2.form
      rw [List.length_append, STO.out.cl] at hv6
      simp only [List.length_singleton] at hv6
      subst hv6
      have B1 := Lib.hid b1
      have B5 := Lib.hid b5
      have K6 := Lib.hid b2
      have BQ6 := Lib.hid (b3.obj BQ15d.out (fun e => by have := (NC.out _ e).1; have := QL.out; omega))
      have C6 := Lib.hid (show w6.cell? ⟨dq, 4, none⟩ = some (.slice cva n cvc) from by have := range_obj BQ6.out 4 _ rfl; simpa using this)
      have R106 := Lib.hid (range_keep R1016.out b3 (fun e => by have h1 : q10 < wr.heap.size := (NC.out _ e).2; have := Q10.out.1; have := Q8.out; omega))
      have fz := u32_unfrozen (i := 4) BQ6.out
      have fs : Fr (fun j => j = dq) w6 (w6.setCell ⟨dq, 4, none⟩ (.slice va6 (n + 1) vc6)) := (Fr.refl (fun j => j = dq) w6).setCell ⟨dq, 4, none⟩ (.inr rfl) _
      have O17 := Lib.hid (ownsRow_keep (ownsRow_keep O16.out b3 (fun j hj e => DIS15.out j hj e)) fs (fun j hj e => by have := (O5.out.lt j hj).1; have := QL.out; omega))
      have BQ17 := Lib.hid (show (w6.setCell ⟨dq, 4, none⟩ (.slice va6 (n + 1) vc6)).heap[dq]? = some (.cells #[.int .u64 b.tag, .slice pa b.pay.length pc, .slice (some ⟨bb, off, none⟩) b.txs.length tc, .slice va5 (n + 1) vc5, .slice va6 (n + 1) vc6] 97 (0, 0)) from by have := heap_setCell_same w6 dq 4 _ _ (.slice va6 (n + 1) vc6) BQ6.out; simpa using this)
      have K17 := Lib.hid (K6.out.fr fs (fun j _ e => .inl (.inr e)) (fun j hj e => by have := (K6.out.lt j hj).1; have := QL.out; omega))
      have DIS17 := Lib.hid (show ∀ j, (Value.slice va5 (n + 1) vc5).ownBlock = some j → (Value.slice va6 (n + 1) vc6).ownBlock = some j → False from fun j h1 h2 => (B5.out j h2).elim (fun h => DIS15.out j h1 h) (fun h => by have := (O16.out.lt j h1).2; omega))
      have F1617 := Lib.hid (show Fr (fun j => (Value.slice iva n ivc).ownBlock = some j ∨ (Value.slice cva n cvc).ownBlock = some j ∨ j = dq) z14 (w6.setCell ⟨dq, 4, none⟩ (.slice va6 (n + 1) vc6)) from ((F16.out.mono (fun j e => e.elim .inl (fun e => .inr (.inr e)))).trans b3 (fun j _ e => .inr (.inl e))).trans fs (fun j _ e => .inr (.inr e)))
      have FALL := Lib.hid (show Fr (fun j => chV p U mi bv j ∨ j = dq) w (w6.setCell ⟨dq, 4, none⟩ (.slice va6 (n + 1) vc6)) from (FR.out.trans FX.out (fun j _ e => .inl (XW.out j e).2)).trans F1617.out (fun j hj e => by
        rcases e with e | e | e
        · have := (NI.out j e).1; omega
        · have := (NC.out j e).1; omega
        · exact .inr e))
      have CH17 := Lib.hid (CH14.out.frV F1617.out (fun j hj e => by
        have := HHI.out j hj
        rcases e with e | e | e
        · have := (NI.out j e).1; omega
        · have := (NC.out j e).1; omega
        · exact NQ.out (e ▸ hj)) (fun j e => by
        have := FW0.out.size
        rcases e with e | e | e
        · have := (NI.out j e).1; omega
        · have := (NC.out j e).1; omega
        · rw [e]; exact LQ.out) (fun i d cs h1 h2 w' f => HK.out i d cs h1 h2 w' (FALL.out.trans (f.mono (fun j hj => .inl hj)) (fun _ _ h => h))))
      have KS2 := Lib.hid (show ∀ w', Fr No z16 w' → w'.cell? ⟨dq, 4, none⟩ = some (.slice cva n cvc) ∧ w'.rangeAt q10 0 [.slice sa sn sc, .slice ma mn mc] from fun w' f => ⟨f.cell C415.out _root_.id, range_keep R1016.out f _root_.id⟩)
      clear b1 b2 b3 b5 fs
      repeat (first | ((first | with_reducible refine lexM_read ?_ | ((with_reducible refine lexM_readG ?_ ?_); (focus rfl))); apply Exists.intro; refine ⟨?_, ?_⟩; (focus (first | exact lex_load (ty := 115) rfl (fun w h => h.2) uG rG infoChg | (intro w' hS; obtain ⟨s1, s2⟩ := hS; go_simp; (try with_reducible rfl); done))); try simp only [Act.put, List.setIfInBounds_toArray, List.set_cons_zero, List.set_cons_succ]) | ((first | ((with_reducible refine lexM_skip (c := false) ?_ ?_ ?_); (focus rfl); (focus rfl)) | ((with_reducible refine lexM_skip (c := true) ?_ ?_ ?_); (focus rfl); (focus rfl)) | ((with_reducible refine lexM_skipU ?_ ?_); (focus rfl))); try simp only [Act.put, List.setIfInBounds_toArray, List.set_cons_zero, List.set_cons_succ]))
      (first | with_reducible refine lexM_eff (fun K' hK' => ?_) | ((with_reducible refine lexM_effG ?_ (fun K' hK' => ?_)); (focus rfl)))
      refine wp_value (exec_buildSliceA (t := 95) rfl rfl undChgs infoChgZ2 rfl (by decide) (by decide) rfl) ?_
      refine hK'.out _ _ (fun _ => ?_) (fun hS => ?_)
      · exact KS2.out _ ((Fr.refl No z16).alloc _)
      try simp only [Act.put, List.setIfInBounds_toArray, List.set_cons_zero, List.set_cons_succ]
      (first | with_reducible refine lexM_eff (fun K' hK' => ?_) | ((with_reducible refine lexM_effG ?_ (fun K' hK' => ?_)); (focus rfl)))
      refine wp_append_run rfl rfl rfl B1.out ?_
      refine hK'.out _ _ (fun _ => ?_) (fun hS => ?_)
      · exact ⟨C6.out, R106.out⟩
      try simp only [Act.put, List.setIfInBounds_toArray, List.set_cons_zero, List.set_cons_succ]
      repeat (first | ((first | with_reducible refine lexM_read ?_ | ((with_reducible refine lexM_readG ?_ ?_); (focus rfl))); apply Exists.intro; refine ⟨?_, ?_⟩; (focus (first | (intro w' hS; obtain ⟨s1, s2⟩ := hS; go_simp; (try with_reducible rfl); done))); try simp only [Act.put, List.setIfInBounds_toArray, List.set_cons_zero, List.set_cons_succ]) | ((first | ((with_reducible refine lexM_skip (c := false) ?_ ?_ ?_); (focus rfl); (focus rfl)) | ((with_reducible refine lexM_skip (c := true) ?_ ?_ ?_); (focus rfl); (focus rfl)) | ((with_reducible refine lexM_skipU ?_ ?_); (focus rfl))); try simp only [Act.put, List.setIfInBounds_toArray, List.set_cons_zero, List.set_cons_succ]))
      (first | with_reducible refine lexM_eff (fun K' hK' => ?_) | ((with_reducible refine lexM_effG ?_ (fun K' hK' => ?_)); (focus rfl)))
      go_simp
      refine hK'.out _ _ (fun h => absurd rfl h) (fun hS => ?_)
      refine lexM_nil (hK.out _ _ ?_)
      clear fz
      generalize w6.setCell ⟨dq, 4, none⟩ (.slice va6 (n + 1) vc6) = w17 at *
      go_wp2_with fail
      go_roundw
      case rel => exact ⟨n + 1, by go_num, by omega, txS st t, M', .slice va5 (n + 1) vc5, .slice va6 (n + 1) vc6, _, by rw [RUN.out, DRP.out, runT_good TXZ.out], STO.out.step (HBO.out.1 t (List.mem_of_getElem? HX.out)).2 TXZ.out, SPN.out, ML2.out, CH17.out, BQ17.out, O17.out, K17.out, DIS17.out, FALL.out⟩
      case measure => simp [intOf]; omega
    · have hne : n = b.txs.length := by omega
      subst hne
      clear hlt hn
      have i1 : ¬ (b.txs.length : Int) < (b.txs.length : Int) := by omega
      have RF := Lib.hid (show runT KI b.txs (st0 D.S) = (0, st) from by rw [RUN.out, List.drop_length]; rfl)
      have UV := Lib.hid (show ∀ j, U j → j < w.heap.size from fun j hj => HHI.out j (.inr (.inl hj)))
      have RB := Lib.hid (show wr.rangeAt dq 0 [.int .u64 b.tag, .slice pa b.pay.length pc, .slice ta b.txs.length tc] from fun j v hj => by
        refine range_obj BQ.out j v ?_
        match j, hj with
        | 0, hj => exact hj
        | 1, hj => exact hj
        | 2, hj => exact hj)
      have GE := Lib.hid (blk_good HOK.out)
      have ID := Lib.hid (blkid_any GW.out (HB.out wr FR.out))
      rw [GE.out.1] at ID
      have HH := Lib.hid (blkH_ok b)
      have HHL := Lib.hid (hashC_len HH.out)
      have PDL := Lib.hid (payD_len b)
      have POK := Lib.hid (show ∀ c ∈ payD b, c.ok from payC_ok HH.out HBO.out.2 (by omega))
      have PND := Lib.hid (show ((payD b).map (·.at_)).Nodup from payC_nodup _ _)
      have PE := Lib.hid (show payD b = payC (blkH b) b.pay from rfl)
      have SLN := Lib.hid (show st.S.length ≤ 90000 by have := STO.out.len; have := HNN.out.1; omega)
      have HP10 := Lib.hid (show putE st.S (payD b) ≠ 0 → ∀ w', ChAt w0 w' p s U mi bv css ⟨st.S, D.bs, M⟩ → Fr U wr w' → DoP w0 w p s mi U bv css D dq b (doR KI D.S b) (.returned (.int .i64 10)) w' from fun hE w' hc f => by
        rw [doR_fin RF.out, if_neg hE]
        refine ⟨M, SPM.out, rfl, hc, FR.out.trans f (fun j _ e => .inl (.inr (.inl e))), rfl, _, f.obj BQ.out (fun e => NQ.out (.inr (.inl e))), ?_⟩
        exact done_kept (bcs := [_, _, _]) (HB.out.same (FR.out.trans f (fun j _ e => .inl (.inr (.inl e))))) (by rw [STO.out.il]; exact ownsRow_keep OI.out f (fun j hj e => by have := (NI.out j hj).1; have := UV.out j e; omega)) STO.out.iok (KR.out.fr f (fun j _ e => .inl (.inl (.inr (.inl e)))) (fun j hj e => by have := (NC.out j hj).1; have := UV.out j e; omega)) (fun j e => .inl e) (fun j e => e.elim (fun e => HHI.out j e) (fun e => by rw [e]; exact QL.out)) (by rw [STO.out.cl]; omega))
      have K0 := Lib.hid True.intro
      have K1 := Lib.hid True.intro
      have K2 := Lib.hid True.intro
      go_wp2_with (first | ((with_reducible refine at_list ?_); have mk := K0.out; refine wpList_value rfl (exec_load (ty := 27) rfl rfl RB.out uB rB infoBlk) ?_; go_frame; clear mk K0) | (have mk := K1.out; go_at_call 25; refine ID.out.mono ?_; rintro e w2 ⟨rfl, f2⟩; have F2 := Lib.hid f2; clear f2; go_frame; clear mk K1) | ((with_reducible refine at_store ?_); have mk := K2.out; refine wpList_done rfl (exec_store_new (w := w2) (ty := 45) (cs := hashC (blkH b)) rfl rfl rfl (by rw [HHL.out]; rfl) (by rw [HHL.out]; exact infoHash) hashC_one) ?_; have F3 := Lib.hid (F2.out.trans0 ((Fr.refl No w2).alloc (.cells (hashC (blkH b)).toArray 45))); have B3 := Lib.hid (new_obj w2 (.cells (hashC (blkH b)).toArray 45)); generalize w2.alloc (.cells (hashC (blkH b)).toArray 45) = w3 at *; generalize hq3 : w2.heap.size = q3 at *; go_frame; clear mk K2))
      have FD := Lib.hid (F3.out.trans0 (Fr.refl No w3).drew)
      have BQd := Lib.hid (FD.out.obj BQ.out _root_.id)
      have C1d := Lib.hid (rangeAt5 (range_obj BQd.out)).2.1
      have RHd := Lib.hid (range_keep (range_obj B3.out) (Fr.refl No w3).drew _root_.id)
      have HO4 := Lib.hid (show OutsIs w3.drew (.slice pa b.pay.length pc) b.pay from KPAY.out _ (FR.out.trans0 FD.out))
      refine wp_region_lexL [false, false, false, false, false, false, true, false] (fun w' => w'.cell? ⟨dq, 1, none⟩ = some (.slice pa b.pay.length pc) ∧ w'.rangeAt q3 0 (hashC (blkH b))) (by kernel_rfl) (by kernel_rfl) ?_ (fun K hK => ?_)
      · exact ⟨C1d.out, RHd.out⟩
      generalize w3.drew = w4 at *
      repeat (first | ((first | with_reducible refine lexL_read ?_ | ((with_reducible refine lexL_readG ?_ ?_); (focus rfl))); apply Exists.intro; refine ⟨?_, ?_⟩; (focus (first | exact lex_load (ty := 45) rfl (fun w h => h.2) uH rH (by rw [HHL.out]; exact infoHash) | (intro w' hS; obtain ⟨s1, s2⟩ := hS; go_simp; (try with_reducible rfl); done))); try simp only [Act.put, List.setIfInBounds_toArray, List.set_cons_zero, List.set_cons_succ]) | ((first | ((with_reducible refine lexL_skip (c := false) ?_ ?_ ?_); (focus rfl); (focus rfl)) | ((with_reducible refine lexL_skip (c := true) ?_ ?_ ?_); (focus rfl); (focus rfl)) | ((with_reducible refine lexL_skipU ?_ ?_); (focus rfl))); try simp only [Act.put, List.setIfInBounds_toArray, List.set_cons_zero, List.set_cons_succ]))
      (first | with_reducible refine lexL_eff (fun K' hK' => ?_) | ((with_reducible refine lexL_effG ?_ (fun K' hK' => ?_)); (focus rfl)))
      go_simp
      refine (payments_any w4 HH.out HO4.out (by omega)).mono ?_
      rintro e w5 ⟨pv, rfl, o5, f5⟩
      rw [← PE.out] at o5
      have F5 := Lib.hid (FD.out.trans0 f5)
      have BQ5 := Lib.hid (f5.obj BQd.out _root_.id)
      have O5 := Lib.hid o5
      have B35 := Lib.hid (range_keep RHd.out f5 _root_.id)
      obtain ⟨va, vc, hpv⟩ := o5.slice.arg.form
      subst hpv
      clear o5 f5
      refine hK'.out _ _ ?_ (fun hS => ?_)
      · exact ⟨(rangeAt5 (range_obj BQ5.out)).2.1, B35.out⟩
      try simp only [Act.put, List.setIfInBounds_toArray, List.set_cons_zero, List.set_cons_succ]
      repeat (first | ((first | with_reducible refine lexL_read ?_ | ((with_reducible refine lexL_readG ?_ ?_); (focus rfl))); apply Exists.intro; refine ⟨?_, ?_⟩; (focus (first | (intro w' hS; obtain ⟨s1, s2⟩ := hS; go_simp; (try with_reducible rfl); done))); try simp only [Act.put, List.setIfInBounds_toArray, List.set_cons_zero, List.set_cons_succ]) | ((first | ((with_reducible refine lexL_skip (c := false) ?_ ?_ ?_); (focus rfl); (focus rfl)) | ((with_reducible refine lexL_skip (c := true) ?_ ?_ ?_); (focus rfl); (focus rfl)) | ((with_reducible refine lexL_skipU ?_ ?_); (focus rfl))); try simp only [Act.put, List.setIfInBounds_toArray, List.set_cons_zero, List.set_cons_succ]))
      refine lexL_nil (hK.out _ _ ?_)
      have CH5 := Lib.hid (CH.out.fr0 F5.out)
      have P5 := CH5.out.cells.1
      have CI := Lib.hid (show CoinsIs w5 (.slice va b.pay.length vc) (payD b) from ⟨POK.out, by rw [PDL.out]; exact O5.out.slice.arg⟩)
      have PUTC := Lib.hid (put_C CH5.out.set CI.out (by rw [PDL.out]; have := SLN.out; show _ + st.S.length ≤ _; omega))
      by_cases hE : putE st.S (payD b) = 0
      rotate_left
      · have E10 := Lib.hid (show putE st.S (payD b) = 10 by
          unfold putE at hE ⊢
          rw [if_pos PND.out] at hE ⊢
          split <;> simp_all)
        have PSS := Lib.hid (show putS st.S (payD b) = st.S by unfold putS; rw [if_neg hE])
        have FIN := Lib.hid (HP10.out hE)
        have PUTC' := Lib.hid (show Calls Tryd.prog 48 #[.pointer (some ⟨s, 0, none⟩), .slice va b.pay.length vc] w5 fun e w' => e = .returned (.int .i64 10) ∧ CS w0 w' s U st.S ∧ Fr U w5 w' from by have := PUTC.out; rw [show putE (ChD.mk st.S D.bs M).S (payD b) = 10 from E10.out, show putS (ChD.mk st.S D.bs M).S (payD b) = st.S from PSS.out] at this; exact this)
        clear hE PUTC E10
        go_wp2_with (go_at_call 48; refine PUTC'.out.mono ?_; rintro e w6 ⟨rfl, cs6, f6⟩; have CH6 := Lib.hid (CH5.out.setS cs6 f6); have F6 := Lib.hid (F5.out.of0.trans f6 (fun _ _ e => e)); clear cs6 f6)
        go_ret
        exact FIN.out _ CH6.out F6.out
      · have HE0 := Lib.hid hE
        have PUTC' := Lib.hid (show Calls Tryd.prog 48 #[.pointer (some ⟨s, 0, none⟩), .slice va b.pay.length vc] w5 fun e w' => e = .returned (.int .i64 0) ∧ CS w0 w' s U (putC st.S (payD b)) ∧ Fr U w5 w' from by have := PUTC.out; rw [show putE (ChD.mk st.S D.bs M).S (payD b) = 0 from hE, show putS (ChD.mk st.S D.bs M).S (payD b) = putC st.S (payD b) from by unfold putS; rw [if_pos (show putE (ChD.mk st.S D.bs M).S (payD b) = 0 from hE)]] at this; exact this)
        clear hE PUTC HP10
        have H4 := Lib.hid (show w.heap.size ≤ wr.heap.size ∧ wr.heap.size ≤ w4.heap.size from ⟨FR.out.size, FD.out.size⟩)
        go_wp2_with (first | (go_at_call 48; refine PUTC'.out.mono ?_; rintro e w6 ⟨rfl, cs6, f6⟩; have CH6 := Lib.hid (CH5.out.setS cs6 f6); have F6 := Lib.hid (F5.out.of0.trans f6 (fun _ _ e => e)); have O6 := Lib.hid (ownsRow_keep O5.out f6 (fun j hj hu => by have := (O5.out.lt j hj).1; have := UV.out j hu; have := H4.out; omega)); have L6 := Lib.hid (Nat.le_trans F5.out.size f6.size); clear cs6 f6))
        have FA := Lib.hid ((Fr.refl No w6).alloc (.cells #[.slice none 0 0, .slice none 0 0] 115))
        have BA := Lib.hid (new_obj w6 (.cells #[.slice none 0 0, .slice none 0 0] 115))
        have QA := Lib.hid (show (w6.alloc (.cells #[.slice none 0 0, .slice none 0 0] 115)).heap.size = w6.heap.size + 1 by simp)
        generalize w6.alloc (.cells #[.slice none 0 0, .slice none 0 0] 115) = w7 at *
        generalize hq16 : w6.heap.size = q16 at *
        have FU7 := Lib.hid (F6.out.trans0 FA.out)
        have O7 := Lib.hid (ownsRow_keep O6.out FA.out (fun _ _ => _root_.id))
        have OL := Lib.hid (show ∀ j, (Value.slice va b.pay.length vc).ownBlock = some j → j < q16 from fun j hj => by rw [← hq16]; exact (O6.out.lt j hj).2)
        go_loopw [112] (fun iv wq => ∃ (n : Nat) (mv : Value), iv = .int .i64 n ∧ n ≤ b.pay.length ∧ wq.heap[q16]? = some (.cells #[.slice none 0 0, mv] 115 (0, 0)) ∧ wq.ownsRow w7.heap.size 47 33 mv n ((((payD b).map (·.at_)).take n).flatMap pointC) ∧ Fr (fun j => j = q16) w7 wq) (fun iv _ => b.pay.length - (intOf iv).toNat)
        case atStart => exact ⟨0, .slice none 0 0, rfl, Nat.zero_le _, BA.out, World.ownsRow_nil _ _ _ 33, Fr.refl _ _⟩
        case round =>
          obtain ⟨n, mv, rfl, hn, hbq, hor, fr⟩ := hrel
          rename World => wq
          have FQ := Lib.hid fr
          have BQQ := Lib.hid hbq
          have OR := Lib.hid hor
          obtain ⟨ma, mc, hmv⟩ := hor.slice.arg.form
          subst hmv
          clear fr hbq hor
          by_cases hlt : n < b.pay.length
          · have i1 : (n : Int) < (b.pay.length : Int) := by omega
            obtain ⟨c, hx⟩ : ∃ x, (payD b)[n]? = some x := ⟨_, List.getElem?_eq_getElem (by rw [PDL.out]; exact hlt)⟩
            have COK := Lib.hid (POK.out c (List.mem_of_getElem? hx))
            have CL := Lib.hid (coinC_len COK.out)
            have PL := Lib.hid (pointC_len COK.out.1)
            obtain ⟨g, cap, hv, hr, -⟩ := own_elem (f := coinC) (k := 66) (L := payD b) (by decide) (fun x hx => coinC_len (POK.out x hx)) (show wq.ownsRow w4.heap.size 57 66 (.slice va b.pay.length vc) b.pay.length ((payD b).flatMap coinC) from ownsRow_keep O7.out FQ.out (fun j hj e => by have := OL.out j hj; omega)) hx
            cases hv
            have R1 := Lib.hid hr
            have FB := Lib.hid ((Fr.refl No wq).alloc (.cells (coinC c).toArray 57))
            have RP := Lib.hid (coin_at (range_new wq (coinC c) 57))
            have HPX := Lib.hid (show ((payD b).map (·.at_))[n]? = some c.at_ by simp [hx])
            have BQA := Lib.hid (FB.out.obj BQQ.out _root_.id)
            obtain ⟨v5, w5', a1, a2, a3, a4, a5⟩ := append_blk (P := Tryd.prog) (wq.alloc (.cells (coinC c).toArray 57)) w7.heap.size 75 75 47 33 36 _ undPoints infoPointZ (by show (pointC point0).toArray.size = 33; rfl) (by decide) (ownsRow_keep OR.out FB.out (fun _ _ => _root_.id)) (pointC c.at_) PL.out pointC_one (by omega) (by unfold maxLen; omega) (Nat.le_trans FQ.out.size FB.out.size)
            have A1 := Lib.hid a1
            have O5' := Lib.hid (show w5'.ownsRow w7.heap.size 47 33 v5 (n + 1) ((((payD b).map (·.at_)).take (n + 1)).flatMap pointC) by rw [take_flatO pointC HPX.out]; exact a2)
            have NQ5 := Lib.hid (show ∀ j, (Value.slice ma n mc).ownBlock = some j → j ≠ q16 from fun j hj e => by have := (OR.out.lt j hj).1; have := QA.out; omega)
            have BQ5' := Lib.hid (a3.obj BQA.out (fun e => NQ5.out _ e rfl))
            have F5' := Lib.hid (show Fr (fun j => j = q16) w7 w5' from (FQ.out.trans0 FB.out).trans a3 (fun j hj e => by have := (OR.out.lt j e).1; omega))
            have NV5 := Lib.hid (show ∀ j, v5.ownBlock = some j → j ≠ q16 from fun j hj e => by have := (O5'.out.lt j hj).1; have := QA.out; omega)
            have cA : (wq.alloc (.cells (coinC c).toArray 57)).cell? ⟨q16, 1, none⟩ = some (.slice ma n mc) := by have := range_obj BQA.out 1 _ rfl; simpa using this
            have cB : w5'.cell? ⟨q16, 1, none⟩ = some (.slice ma n mc) := by have := range_obj BQ5'.out 1 _ rfl; simpa using this
            have fB := u32_unfrozen (i := 1) BQ5'.out
            clear hr a1 a2 a3 a4 a5
            obtain ⟨va5, vc5, hv5⟩ := O5'.out.slice.arg.form
            subst hv5
            have HS5 := Lib.hid (heap_setCell_same w5' q16 1 _ _ (.slice va5 (n + 1) vc5) BQ5'.out)
            have FS5 := Lib.hid (show Fr (fun j => j = q16) w7 (w5'.setCell ⟨q16, 1, none⟩ (.slice va5 (n + 1) vc5)) from F5'.out.setCell _ (.inr rfl) _)
            have OS5 := Lib.hid (ownsRow_keep O5'.out (show Fr (fun j => j = q16) w5' (w5'.setCell ⟨q16, 1, none⟩ (.slice va5 (n + 1) vc5)) from (Fr.refl (fun j => j = q16) w5').setCell ⟨q16, 1, none⟩ (.inr rfl) _) (fun j hj e => NV5.out j hj e))
            have K0 := Lib.hid True.intro
            have K1 := Lib.hid True.intro
            have K2 := Lib.hid True.intro
            have K3 := Lib.hid True.intro
            have K4 := Lib.hid True.intro
            go_wp2_with (first | ((with_reducible refine at_list ?_); have mk := K0.out; refine wpList_value rfl (exec_load (ty := 57) rfl rfl R1.out uC rC (by rw [CL.out]; exact infoCoin)) ?_; go_frame; clear mk K0) | ((with_reducible refine at_store ?_); have mk := K1.out; refine wpList_done rfl (exec_store_new (w := wq) (ty := 57) (cs := coinC c) rfl rfl rfl (by rw [CL.out]; rfl) (by rw [CL.out]; exact infoCoin) coinC_one) ?_; generalize wq.alloc (.cells (coinC c).toArray 57) = wA at *; go_frame; clear mk K1) | ((with_reducible refine at_list ?_); have mk := K2.out; refine wpList_value rfl (exec_load (ty := 47) rfl rfl RP.out uP rP (by rw [PL.out]; exact infoPoint)) ?_; go_frame; clear mk K2) | ((with_reducible refine at_list ?_); have mk := K3.out; refine wpList_value rfl (exec_buildSliceA (t := 75) rfl rfl undPoints infoPointZ2 rfl (by decide) (by decide) PL.out) ?_; go_frame; clear mk K3) | ((with_reducible refine at_list ?_); have mk := K4.out; at_builtin; refine wpList_append_run rfl rfl rfl rfl A1.out ?_; go_frame; clear mk K4))
            go_roundw
            case rel => exact ⟨n + 1, _, by go_num, by omega, HS5.out, OS5.out, FS5.out⟩
            case measure => simp [intOf]; omega
          · have hne : n = b.pay.length := by omega
            subst hne
            clear hlt hn i1
            have i1 : ¬ (b.pay.length : Int) < (b.pay.length : Int) := by omega
            have HPL := Lib.hid (show ((payD b).map (·.at_)).length = b.pay.length by rw [List.length_map, PDL.out])
            have HPK := Lib.hid (show ∀ x ∈ (payD b).map (·.at_), x.ok from fun x hx => by
              obtain ⟨y, hy, rfl⟩ := List.mem_map.1 hx
              exact (POK.out y hy).1)
            have HRL := Lib.hid (show wq.ownsRow w7.heap.size 47 33 (.slice ma b.pay.length mc) b.pay.length (((payD b).map (·.at_)).flatMap pointC) by
              have := OR.out
              rw [List.take_of_length_le (by rw [HPL.out]; exact Nat.le_refl _)] at this
              exact this)
            have QW := Lib.hid (show wr.heap.size ≤ q16 from L6.out)
            have FUQ := Lib.hid (show Fr U wr wq.drew from (FU7.out.trans FQ.out (fun j hj e => by have := QW.out; omega)).trans0 (Fr.refl No wq).drew)
            have NU := Lib.hid (show ∀ j, w.heap.size ≤ j → ¬ U j from fun j hj e => by have := UV.out j e; omega)
            have F6Q := Lib.hid (show Fr No w6 wq.drew from (FA.out.trans FQ.out (fun j hj e => by omega)).trans0 (Fr.refl No wq).drew)
            have CHQ := Lib.hid (CH6.out.fr0 F6Q.out)
            have BQ9 := Lib.hid (FUQ.out.obj BQ.out (fun e => NQ.out (.inr (.inl e))))
            have B16 := Lib.hid ((Fr.refl No wq).drew.obj BQQ.out _root_.id)
            have HR9 := Lib.hid (ownsRow_keep HRL.out (Fr.refl No wq).drew (fun _ _ => _root_.id))
            have GR := Lib.hid (show wq.drew.rangeAt q16 0 [.slice none 0 0, .slice ma b.pay.length mc] from by have := range_obj B16.out; simpa using this)
            have OI9 := Lib.hid (ownsRow_keep OI.out FUQ.out (fun j hj e => NU.out j (NI.out j hj).1 e))
            have KR9 := Lib.hid (KR.out.fr FUQ.out (fun j _ e => .inl (.inl (.inr (.inl e)))) (fun j hj e => NU.out j (NC.out j hj).1 e))
            have C49 := Lib.hid (show wq.drew.cell? ⟨dq, 4, none⟩ = some (.slice cva b.txs.length cvc) from by have := range_obj BQ9.out 4 _ rfl; simpa using this)
            have S9 := Lib.hid (show w7.heap.size ≤ wq.drew.heap.size from FQ.out.size)
            go_wp2_with fail
            refine wp_region_lexM [false, false, false, false, false, false, true, true, false, false, true] (fun w' => w'.cell? ⟨dq, 4, none⟩ = some (.slice cva b.txs.length cvc) ∧ w'.rangeAt q16 0 [.slice none 0 0, .slice ma b.pay.length mc]) (by kernel_rfl) (by kernel_rfl) 10 (by kernel_rfl) (by kernel_rfl) ?_ (fun K hK => ?_)
            · exact ⟨C49.out, GR.out⟩
            generalize wq.drew = z at *
            have KC := Lib.hid (kept_chg0 (n := b.pay.length) (l := (payD b).map (·.at_)) (V := fun j => ((chV p U mi bv j ∨ j = dq) ∨ (Value.slice iva b.txs.length ivc).ownBlock = some j) ∨ (Value.slice cva b.txs.length cvc).ownBlock = some j) HR9.out HPL.out HPK.out (fun j hj hv => by
              have h1 := (HRL.out.lt j hj).1
              have := QA.out
              have := QW.out
              have := H4.out
              rcases hv with ((e | e) | e) | e
              · have := HHI.out j e; omega
              · rw [e] at h1; have := QL.out; omega
              · have := (NI.out j e).2; omega
              · have := (NC.out j e).2; omega))
            obtain ⟨v6, w6', b1, b2, b3, b5⟩ := KR9.out.append (P := Tryd.prog) (t := 95) (ty2 := 95) (bytes := 48) undChgs infoChgZ rfl (by decide) KC.out rfl (one2 rfl rfl) (by rw [STO.out.cl]; omega) (by rw [STO.out.cl]; unfold maxLen; omega) (by have := FUQ.out.size; have := H4.out; omega)
            obtain ⟨va6, vc6, hv6⟩ := b2.form
            rw [List.length_append, STO.out.cl] at hv6
            simp only [List.length_singleton] at hv6
            subst hv6
            have B1 := Lib.hid b1
            have K6 := Lib.hid b2
            have BQ6 := Lib.hid (b3.obj BQ9.out (fun e => by have := (NC.out _ e).1; have := QL.out; omega))
            have C6 := Lib.hid (show w6'.cell? ⟨dq, 4, none⟩ = some (.slice cva b.txs.length cvc) from by have := range_obj BQ6.out 4 _ rfl; simpa using this)
            have GR6 := Lib.hid (range_keep GR.out b3 (fun e => by have h1 : q16 < wr.heap.size := (NC.out _ e).2; have := QW.out; omega))
            have fz := u32_unfrozen (i := 4) BQ6.out
            have fs : Fr (fun j => j = dq) w6' (w6'.setCell ⟨dq, 4, none⟩ (.slice va6 (b.txs.length + 1) vc6)) := (Fr.refl (fun j => j = dq) w6').setCell ⟨dq, 4, none⟩ (.inr rfl) _
            have O17 := Lib.hid (ownsRow_keep (ownsRow_keep OI9.out b3 (fun j hj e => DIS.out j hj e)) fs (fun j hj e => by have := (NI.out j hj).1; have := QL.out; omega))
            have BQ17 := Lib.hid (show (w6'.setCell ⟨dq, 4, none⟩ (.slice va6 (b.txs.length + 1) vc6)).heap[dq]? = some (.cells #[.int .u64 b.tag, .slice pa b.pay.length pc, .slice ta b.txs.length tc, .slice iva b.txs.length ivc, .slice va6 (b.txs.length + 1) vc6] 97 (0, 0)) from by have := heap_setCell_same w6' dq 4 _ _ (.slice va6 (b.txs.length + 1) vc6) BQ6.out; simpa using this)
            have K17 := Lib.hid (K6.out.fr fs (fun j _ e => .inl (.inr e)) (fun j hj e => by have := (K6.out.lt j hj).1; have := QL.out; omega))
            have FZ17 := Lib.hid (show Fr (fun j => (Value.slice cva b.txs.length cvc).ownBlock = some j ∨ j = dq) z (w6'.setCell ⟨dq, 4, none⟩ (.slice va6 (b.txs.length + 1) vc6)) from (b3.mono (fun j e => .inl e)).trans fs (fun j _ e => .inr e))
            have FALL := Lib.hid (show Fr (fun j => chV p U mi bv j ∨ j = dq) w (w6'.setCell ⟨dq, 4, none⟩ (.slice va6 (b.txs.length + 1) vc6)) from (FR.out.trans FUQ.out (fun j _ e => .inl (.inr (.inl e)))).trans FZ17.out (fun j hj e => by
              rcases e with e | e
              · have := (NC.out j e).1; omega
              · exact .inr e))
            have CH17 := Lib.hid (CHQ.out.frV FZ17.out (fun j hj e => by
              have := HHI.out j hj
              rcases e with e | e
              · have := (NC.out j e).1; omega
              · exact NQ.out (e ▸ hj)) (fun j e => by
              have := FW0.out.size
              rcases e with e | e
              · have := (NC.out j e).1; omega
              · rw [e]; exact LQ.out) (fun i d cs h1 h2 w' f => HK.out i d cs h1 h2 w' (FALL.out.trans (f.mono (fun j hj => .inl hj)) (fun _ _ h => h))))
            have KS2 := Lib.hid (show ∀ w', Fr No z w' → w'.cell? ⟨dq, 4, none⟩ = some (.slice cva b.txs.length cvc) ∧ w'.rangeAt q16 0 [.slice none 0 0, .slice ma b.pay.length mc] from fun w' f => ⟨f.cell C49.out _root_.id, range_keep GR.out f _root_.id⟩)
            clear b1 b2 b3 b5 fs
            repeat (first | ((first | with_reducible refine lexM_read ?_ | ((with_reducible refine lexM_readG ?_ ?_); (focus rfl))); apply Exists.intro; refine ⟨?_, ?_⟩; (focus (first | exact lex_load (ty := 115) rfl (fun w h => h.2) uG rG infoChg | (intro w' hS; obtain ⟨s1, s2⟩ := hS; go_simp; (try with_reducible rfl); done))); try simp only [Act.put, List.setIfInBounds_toArray, List.set_cons_zero, List.set_cons_succ]) | ((first | ((with_reducible refine lexM_skip (c := false) ?_ ?_ ?_); (focus rfl); (focus rfl)) | ((with_reducible refine lexM_skip (c := true) ?_ ?_ ?_); (focus rfl); (focus rfl)) | ((with_reducible refine lexM_skipU ?_ ?_); (focus rfl))); try simp only [Act.put, List.setIfInBounds_toArray, List.set_cons_zero, List.set_cons_succ]))
            (first | with_reducible refine lexM_eff (fun K' hK' => ?_) | ((with_reducible refine lexM_effG ?_ (fun K' hK' => ?_)); (focus rfl)))
            refine wp_value (exec_buildSliceA (t := 95) rfl rfl undChgs infoChgZ2 rfl (by decide) (by decide) rfl) ?_
            refine hK'.out _ _ (fun _ => ?_) (fun hS => ?_)
            · exact KS2.out _ ((Fr.refl No z).alloc _)
            try simp only [Act.put, List.setIfInBounds_toArray, List.set_cons_zero, List.set_cons_succ]
            (first | with_reducible refine lexM_eff (fun K' hK' => ?_) | ((with_reducible refine lexM_effG ?_ (fun K' hK' => ?_)); (focus rfl)))
            refine wp_append_run rfl rfl rfl B1.out ?_
            refine hK'.out _ _ (fun _ => ?_) (fun hS => ?_)
            · exact ⟨C6.out, GR6.out⟩
            try simp only [Act.put, List.setIfInBounds_toArray, List.set_cons_zero, List.set_cons_succ]
            repeat (first | ((first | with_reducible refine lexM_read ?_ | ((with_reducible refine lexM_readG ?_ ?_); (focus rfl))); apply Exists.intro; refine ⟨?_, ?_⟩; (focus (first | (intro w' hS; obtain ⟨s1, s2⟩ := hS; go_simp; (try with_reducible rfl); done))); try simp only [Act.put, List.setIfInBounds_toArray, List.set_cons_zero, List.set_cons_succ]) | ((first | ((with_reducible refine lexM_skip (c := false) ?_ ?_ ?_); (focus rfl); (focus rfl)) | ((with_reducible refine lexM_skip (c := true) ?_ ?_ ?_); (focus rfl); (focus rfl)) | ((with_reducible refine lexM_skipU ?_ ?_); (focus rfl))); try simp only [Act.put, List.setIfInBounds_toArray, List.set_cons_zero, List.set_cons_succ]))
            (first | with_reducible refine lexM_eff (fun K' hK' => ?_) | ((with_reducible refine lexM_effG ?_ (fun K' hK' => ?_)); (focus rfl)))
            go_simp
            refine hK'.out _ _ (fun h => absurd rfl h) (fun hS => ?_)
            refine lexM_nil (hK.out _ _ ?_)
            clear fz
            go_wp2_with fail
            go_ret
            rw [doR_fin RF.out, if_pos HE0.out]
            refine ⟨M, SPM.out, rfl, CH17.out, FALL.out, rfl, _, BQ17.out, ?_⟩
            exact done_kept (bcs := [_, _, _]) (HB.out.same FALL.out) (by rw [STO.out.il]; exact O17.out) STO.out.iok K17.out (fun j e => .inl e) (fun j e => e.elim (fun e => HHI.out j e) (fun e => by rw [e]; exact QL.out)) (by rw [List.length_append, STO.out.cl]; simp; omega)
end Go.Proofs.YtmpamcnlineceaaDoor
