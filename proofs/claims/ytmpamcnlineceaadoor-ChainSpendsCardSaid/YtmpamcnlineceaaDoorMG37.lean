/- Own rows of elements whose parts lie apart: kept while the row grows. -/
import Derived.Deep.CutRange
import Derived.Test.YtmpamcnlineceaaDoorMG36
import Derived.Test.YtmpamcnlineceaaDoorMG7
import Derived.Test.YtmpamcnlineceaaDoorMG9
set_option linter.unusedVariables false
set_option linter.unusedSimpArgs false
set_option linter.unnecessarySimpa false
set_option linter.all false
namespace Go.Proofs.YtmpamcnlineceaaDoor
open Go Go.RowKit Go.Maps Go.MapKept

structure KRow {α : Type} (B : Nat) (ty : TypeId) (k : Nat) (q : World → α → List Value → Prop) (V : Nat → Prop) (w : World) (v : Value) (L : List α) (css : List (List Value)) : Prop where
  row : w.ownsRow B ty k v L.length (css.flatMap id)
  cl : css.length = L.length
  ck : ∀ cs ∈ css, cs.length = k
  data : ∀ (i : Nat) (d : α) (cs : List Value), L[i]? = some d → css[i]? = some cs → Kept (fun j => V j ∨ v.ownBlock = some j) w (fun w => q w d cs)
section
variable {α : Type} {B : Nat} {ty : TypeId} {k : Nat} {q : World → α → List Value → Prop} {V : Nat → Prop} {w w' : World} {v : Value} {L : List α} {css : List (List Value)}
theorem KRow.nil (B : Nat) (ty : TypeId) (k : Nat) (q : World → α → List Value → Prop) (V : Nat → Prop) (w : World) : KRow B ty k q V w (.slice none 0 0) ([] : List α) [] :=
  ⟨World.ownsRow_nil w B ty k, rfl, fun _ h => (by cases h), fun i d cs h => by simp at h⟩
theorem KRow.form (h : KRow B ty k q V w v L css) : ∃ a c, v = .slice a L.length c := h.row.slice.arg.form
theorem KRow.lt (h : KRow B ty k q V w v L css) : ∀ j, v.ownBlock = some j → B ≤ j ∧ j < w.heap.size := fun j hj => h.row.lt j hj
theorem KRow.fr (h : KRow B ty k q V w v L css) {W : Nat → Prop} (f : Fr W w w') (hW : ∀ j, j < w.heap.size → W j → V j) (hn : ∀ j, v.ownBlock = some j → ¬ W j) : KRow B ty k q V w' v L css :=
  ⟨ownsRow_keep h.row f hn, h.cl, h.ck, fun i d cs h1 h2 => (h.data i d cs h1 h2).step ((Fr.mono (W := fun j => W j ∧ j < w.heap.size) ⟨f.os, f.tape, f.output, f.size, fun k hk hn => f.block k hk (fun e => hn ⟨e, hk⟩)⟩ (fun j hj => .inl (hW j hj.2 hj.1)))) (fun _ _ e => e)⟩
theorem KRow.fr0 (h : KRow B ty k q V w v L css) (f : Fr No w w') : KRow B ty k q V w' v L css := h.fr f (fun _ _ e => e.elim) (fun _ _ e => e)
theorem KRow.vary (h : KRow B ty k q V w v L css) {V' : Nat → Prop} (hV : ∀ j, j < w.heap.size → V' j → V j) : KRow B ty k q V' w v L css :=
  ⟨h.row, h.cl, h.ck, fun i d cs h1 h2 => (h.data i d cs h1 h2).step (Fr.refl _ _) (fun j hj e => e.imp_left (hV j hj))⟩
theorem KRow.base (h : KRow B ty k q V w v L css) {B' : Nat} (hB : B' ≤ B) : KRow B' ty k q V w v L css := ⟨own_mono h.row hB, h.cl, h.ck, h.data⟩
/-- One element more. -/
theorem KRow.append {P : Program} {t ty2 : TypeId} {bytes : Nat} {z : Value} (h : KRow B ty k q V w v L css) (ht : P.underlying t = some (.slice ty)) (hinfo : (P.info? ty).map (fun i => (i.zero, i.size, i.bytes)) = some (some z, k, bytes)) (hzs : z.cells.size = k) (hk0 : 0 < k)
    {d : α} {cs : List Value} (hd : Kept (fun j => V j ∨ v.ownBlock = some j) w (fun w => q w d cs)) (hcs : cs.length = k) (h1 : ∀ u ∈ cs, u.oneCell' = true) (hby : (L.length + 1) * bytes ≤ 140737488355328) (hml : L.length + 1 ≤ maxLen) (hB : B ≤ w.heap.size) :
    ∃ v' w', (Builtin.append_ #[t, t] ty2 #[v, .slice (some ⟨w.heap.size, 0, none⟩) 1 1]).run P (w.alloc (.cells cs.toArray ty)) = .ok v' w' ∧ KRow B ty k q V w' v' (L ++ [d]) (css ++ [cs]) ∧ Fr (fun j => v.ownBlock = some j) w w' ∧ ∀ j, v'.ownBlock = some j → v.ownBlock = some j ∨ w.heap.size ≤ j := by
  obtain ⟨v', w', a1, a2, a3, a4, a5⟩ := append_blk (P := P) w B t ty2 ty k bytes z ht hinfo hzs hk0 h.row cs hcs h1 hby hml hB
  refine ⟨v', w', a1, ⟨?_, ?_, ?_, ?_⟩, a3, a5⟩
  · rw [List.length_append, List.flatMap_append]
    simpa using a2
  · rw [List.length_append, List.length_append, h.cl]; rfl
  · intro x hx
    rcases List.mem_append.1 hx with hx | hx
    · exact h.ck x hx
    · simp at hx; subst hx; exact hcs
  · intro i e c he hc
    have hv : ∀ j, j < w.heap.size → (V j ∨ v'.ownBlock = some j) → (V j ∨ v.ownBlock = some j) := fun j hj e => e.imp_right (fun e => (a5 j e).resolve_right (by omega))
    by_cases hi : i < L.length
    · rw [List.getElem?_append_left hi] at he
      rw [List.getElem?_append_left (by rw [h.cl]; exact hi)] at hc
      exact (h.data i e c he hc).step (a3.mono (fun j e => .inr e)) hv
    · have hie : i = L.length := by have := (List.getElem?_eq_some_iff.1 he).1; simp only [List.length_append, List.length_singleton] at this; omega
      subst hie
      rw [List.getElem?_append_right (Nat.le_refl _), Nat.sub_self] at he
      rw [List.getElem?_append_right (by rw [h.cl]; exact Nat.le_refl _), h.cl, Nat.sub_self] at hc
      simp at he hc
      subst he
      subst hc
      exact hd.step (a3.mono (fun j e => .inr e)) hv
theorem KRow.rows (h : KRow B ty k q V w v L css) (hk0 : 0 < k) (hml : L.length ≤ maxLen) {U : Nat → Prop} (hU : ∀ j, j < w.heap.size → U j → V j) (hn : ∀ j, v.ownBlock = some j → ¬ U j) : Kept U w (fun w => RowsIs k q w v L) := fun w' f => by
  refine RowsIs.own hk0 (ownsRow_keep h.row f hn) h.cl h.ck hml (fun i d cs h1 h2 => ?_)
  refine ((h.data i d cs h1 h2).step (V' := U) (Fr.refl _ _) (fun j hj e => .inl (hU j hj e))) w' f
end
end Go.Proofs.YtmpamcnlineceaaDoor

/- chain: own, of any block. -/
namespace Go.Proofs.YtmpamcnlineceaaDoor
open Go Go.RowKit Go.Maps Go.MapKept

theorem key_len {k : List Int} : (k.map byteV).length = k.length := by simp
theorem kept_key {w : World} {B : Nat} {v : Value} {k : List Int} (h : BRow w B v k) (ok : ∀ b ∈ k, 0 ≤ b ∧ b ≤ 255) {V : Nat → Prop} (hV : ∀ j, V j → j < B) : Kept V w (fun w => KeyIs w v k) :=
  fun w' f => ⟨ok, (ownsRow_keep h f (fun b hb hv => by have := (h.lt b hb).1; have := hV b hv; omega)).slice.arg⟩
theorem placesIn : buildPlaces Tryd.prog 50 = some (34, [(0, 33), (33, 1)]) := by kernel_rfl
theorem fill_in {p : PointD} (hp : p.ok) (a : Option Addr) (n c : Nat) : FillOk (([(0, 33), (33, 1)] : List (Nat × Nat)).toArray[·]?) 0 [(0, .agg (pointC p).toArray), (1, .slice a n c)] := by
  have h1 : (Value.agg (pointC p).toArray).cells.size = 33 := by show (pointC p).toArray.size = 33; simpa using pointC_len hp
  have h2 : (Value.slice a n c).cells.size = 1 := rfl
  simp only [FillOk, h1, h2]
  exact ⟨rfl, rfl, trivial⟩
theorem parts_in (p : PointD) (a : Option Addr) (n c : Nat) : partsC [(0, .agg (pointC p).toArray), (1, .slice a n c)] = inC p (.slice a n c) := by
  have h1 : (Value.agg (pointC p).toArray).cells.toList = pointC p := by show (pointC p).toArray.toList = _; simp
  have h2 : (Value.slice a n c).cells.toList = [.slice a n c] := rfl
  simp only [partsC, List.flatMap_cons, List.flatMap_nil, h1, h2, inC, List.append_nil]
theorem infoInZ2 : (Tryd.prog.info? 50).map (fun i => (i.zero, i.size)) = some (some (.agg (inC point0 (.slice none 0 0)).toArray), 34) := by kernel_rfl
theorem infoTxZ2 : (Tryd.prog.info? 41).map (fun i => (i.zero, i.size)) = some (some (.agg (txC 0 (.slice none 0 0) (.slice none 0 0)).toArray), 3) := by kernel_rfl
theorem zeroTx1 (w : World) : (zeroValue 41).run Tryd.prog w = .ok (.agg (txC 0 (.slice none 0 0) (.slice none 0 0)).toArray) w := by kernel_rfl
theorem bldTx2 (t : Int) (a : Option Addr) (n c : Nat) (w : World) : (Instr.build 41 #[(0, .int .u32 t), (2, .slice a n c)]).run Tryd.prog w = .ok (.agg [.int .u32 t, .slice none 0 0, .slice a n c].toArray) w := by kernel_rfl
theorem one3 {a b c : Value} (h1 : a.oneCell' = true) (h2 : b.oneCell' = true) (h3 : c.oneCell' = true) : ∀ u ∈ [a, b, c], u.oneCell' = true := fun u hu => by
  simp only [List.mem_cons, List.not_mem_nil, or_false] at hu
  rcases hu with rfl | rfl | rfl
  · exact h1
  · exact h2
  · exact h3
/-- A new struct with a slice of its own. -/
def NewOuts (T : TypeId) (B : Nat) (l : List OutD) (z : Option Addr → Nat → List Value) (w2 : World) (s : Value) (wc : World) : Prop :=
  ∃ qd pa pc, s = .pointer (some ⟨qd, 0, none⟩) ∧ B ≤ qd ∧ Fr No w2 wc ∧ wc.heap[qd]? = some (.cells (z pa pc).toArray T (0, 0)) ∧ wc.ownsRow B 55 33 (.slice pa l.length pc) l.length (l.flatMap outC) ∧ ∀ j, (Value.slice pa l.length pc).ownBlock = some j → j ≠ qd
abbrev zBlk (t : Int) (n : Nat) (pa : Option Addr) (pc : Nat) : List Value := [.int .u64 t, .slice pa n pc, .slice none 0 0]
abbrev zTx (t : Int) (n : Nat) (pa : Option Addr) (pc : Nat) : List Value := [.int .u32 t, .slice none 0 0, .slice pa n pc]
def OwnT (wc : World) (qd : Nat) (b : BlkD) (pa : Option Addr) (pc : Nat) (n : Nat) (wr : World) : Prop :=
  ∃ tv css, wr.heap[qd]? = some (.cells #[.int .u64 b.tag, .slice pa b.pay.length pc, tv] 27 (0, 0)) ∧ KRow wc.heap.size 41 3 TxQ (fun j => j < wc.heap.size) wr tv (b.txs.take n) css ∧ Fr (fun j => j = qd) wc wr
def OwnI (wd : World) (qu : Nat) (t : TxD) (va : Option Addr) (vc : Nat) (m : Nat) (wi : World) : Prop :=
  ∃ iv ics, wi.heap[qu]? = some (.cells #[.int .u32 t.ver, iv, .slice va t.outs.length vc] 41 (0, 0)) ∧ KRow wd.heap.size 50 34 InQ (fun j => j < wd.heap.size) wi iv (t.ins.take m) ics ∧ Fr (fun j => j = qu) wd wi
set_option maxRecDepth 20000 in
set_option maxHeartbeats 8000000 in
theorem own_any (w : World) {b : BlkD} {cs : List Value} (ht : BlkQ w b cs) (hN : b.pay.length ≤ 1000) (hT : b.txs.length ≤ 1000) (hI : ∀ t ∈ b.txs, t.ins.length ≤ 1000 ∧ t.outs.length ≤ 1000 ∧ ∀ x ∈ t.ins, x.key.length ≤ 1000) :
    Calls Tryd.prog 32 #[.agg cs.toArray] w (OwnOk w b) := by
  obtain ⟨ia, ic, oa, oc, rfl, hv, ho, hts⟩ := ht
  obtain ⟨dB, uB, rB⟩ := descBlk
  obtain ⟨dT, uT, rT⟩ := descTx
  obtain ⟨dI, uI, rI⟩ := descIn
  obtain ⟨dP, uP, rP⟩ := descPoint
  have zB := zeroBlk
  have zT := zeroTx1
  have zI := zeroIn1
  have f1 : Fr No w (w.alloc (.cells #[.int .u64 b.tag, .slice ia b.pay.length ic, .slice oa b.txs.length oc] 27)) := (Fr.refl No w).alloc _
  have f12 : Fr No (w.alloc (.cells #[.int .u64 b.tag, .slice ia b.pay.length ic, .slice oa b.txs.length oc] 27)) _ := (Fr.refl No _).alloc (.cells blkz.toArray 27)
  obtain ⟨c0, c1, c2, -⟩ := row3_new w (.int .u64 b.tag) (.slice ia b.pay.length ic) (.slice oa b.txs.length oc) 27
  have C0 := Lib.hid (f12.cell c0 _root_.id)
  have C1 := Lib.hid (f12.cell c1 _root_.id)
  have C2 := Lib.hid (f12.cell c2 _root_.id)
  have F2 := Lib.hid (f1.trans0 f12)
  have B2 := Lib.hid (new_obj' (w.alloc (.cells #[.int .u64 b.tag, .slice ia b.pay.length ic, .slice oa b.txs.length oc] 27)) (.cells blkz.toArray 27) (n := w.heap.size + 1) (by simp))
  have HO := Lib.hid (ho.keep F2.out)
  have HTS := Lib.hid (hts.keep0 F2.out)
  have Z2 := Lib.hid (show ((w.alloc (.cells #[.int .u64 b.tag, .slice ia b.pay.length ic, .slice oa b.txs.length oc] 27)).alloc (.cells blkz.toArray 27)).heap.size = w.heap.size + 2 by simp)
  have HN := Lib.hid hN
  have HTL := Lib.hid hT
  have HI := Lib.hid hI
  have HV := Lib.hid hv
  clear c0 c1 c2 f1 f12 ho hv hN hts hI
  show Calls Tryd.prog 32 #[.agg #[.int .u64 b.tag, .slice ia b.pay.length ic, .slice oa b.txs.length oc]] w _
  go_enter Tryd.func32, Tryd.ntmps32
  go_wp2_with fail
  generalize (w.alloc (.cells #[.int .u64 b.tag, .slice ia b.pay.length ic, .slice oa b.txs.length oc] 27)).alloc (.cells blkz.toArray 27) = w2 at *
  go_cut [3] from 9 to 14 (fun s3 wc => NewOuts 27 w2.heap.size b.pay (zBlk b.tag b.pay.length) w2 s3 wc)
  case first =>
    have FD := Lib.hid (Fr.refl No w2).drew
    have HOd := Lib.hid (HO.out.keep FD.out)
    have C0d := Lib.hid (FD.out.cell C0.out _root_.id)
    have C1d := Lib.hid (FD.out.cell C1.out _root_.id)
    have Zd := Lib.hid (show w2.drew.heap.size = w2.heap.size from rfl)
    refine wp_region_lexT 8 [0, 1, 2, 3, 4, 5, 6, 7] (fun w' => w'.cell? ⟨w.heap.size, 0, none⟩ = some (.int .u64 b.tag) ∧ w'.cell? ⟨w.heap.size, 1, none⟩ = some (.slice ia b.pay.length ic)) (by kernel_rfl) (by kernel_rfl) (by kernel_rfl) (by kernel_rfl) ?_ (fun K hK => ?_)
    · exact ⟨C0d.out, C1d.out⟩
    generalize w2.drew = w3 at *
    (((first | (refine lexT_rd 0 (by kernel_rfl) rfl rfl ?_; apply Exists.intro; refine ⟨?_, ?_⟩; (focus (first | (intro w' hS; obtain ⟨s1, s2⟩ := hS; go_simp; (try with_reducible rfl); done)))) | (refine lexT_sk 0 (by kernel_rfl) rfl rfl ?_)); try simp only [Act.put, List.setIfInBounds_toArray, List.set_cons_zero, List.set_cons_succ]); ((first | (refine lexT_rd 1 (by kernel_rfl) rfl rfl ?_; apply Exists.intro; refine ⟨?_, ?_⟩; (focus (first | (intro w' hS; obtain ⟨s1, s2⟩ := hS; go_simp; (try with_reducible rfl); done)))) | (refine lexT_sk 1 (by kernel_rfl) rfl rfl ?_)); try simp only [Act.put, List.setIfInBounds_toArray, List.set_cons_zero, List.set_cons_succ]); ((first | (refine lexT_rd 2 (by kernel_rfl) rfl rfl ?_; apply Exists.intro; refine ⟨?_, ?_⟩; (focus (first | (intro w' hS; obtain ⟨s1, s2⟩ := hS; go_simp; (try with_reducible rfl); done)))) | (refine lexT_sk 2 (by kernel_rfl) rfl rfl ?_)); try simp only [Act.put, List.setIfInBounds_toArray, List.set_cons_zero, List.set_cons_succ]); ((first | (refine lexT_rd 3 (by kernel_rfl) rfl rfl ?_; apply Exists.intro; refine ⟨?_, ?_⟩; (focus (first | (intro w' hS; obtain ⟨s1, s2⟩ := hS; go_simp; (try with_reducible rfl); done)))) | (refine lexT_sk 3 (by kernel_rfl) rfl rfl ?_)); try simp only [Act.put, List.setIfInBounds_toArray, List.set_cons_zero, List.set_cons_succ]))
    refine lexT_ef2 4 6 (by kernel_rfl) rfl rfl rfl rfl (fun K' hK' => ?_) (fun K' hK' => ?_)
    · obtain ⟨pv, w4, a1, a2, a3, -⟩ := append_outs w3 (k := []) (World.ownsRow_nil w3 w2.heap.size _ 33) HOd.out (by have := HN.out; simp; omega) (by have := Zd.out; omega) 22
      rw [List.length_nil, Nat.zero_add, List.nil_append] at a2
      obtain ⟨pa, pc, hpv⟩ := a2.slice.arg.form
      subst hpv
      have A1 := Lib.hid a1
      have F4 := Lib.hid (show Fr No w3 w4 from a3.mono (fun j e => by cases e))
      have O4 := Lib.hid a2
      clear a1 a2 a3
      refine wp_append_run rfl rfl rfl A1.out ?_
      refine hK'.out _ _ ?_ (fun hS => ?_)
      · exact ⟨F4.out.cell C0d.out _root_.id, F4.out.cell C1d.out _root_.id⟩
      try simp only [Act.put, List.setIfInBounds_toArray, List.set_cons_zero, List.set_cons_succ]
      (((first | (refine lexT_rd 5 (by kernel_rfl) rfl rfl ?_; apply Exists.intro; refine ⟨?_, ?_⟩; (focus (first | exact fun w' _ => exec_bld (t := 27) rfl rfl (bldBlk2 _ _ _ _ _) | (intro w' hS; obtain ⟨s1, s2⟩ := hS; go_simp; (try with_reducible rfl); done)))) | (refine lexT_sk 5 (by kernel_rfl) rfl rfl ?_)); try simp only [Act.put, List.setIfInBounds_toArray, List.set_cons_zero, List.set_cons_succ]))
      refine lexT_ef1 6 (by kernel_rfl) rfl rfl (fun K' hK' => ?_)
      refine wp_value (exec_alloc rfl (zeroBlk _)) ?_
      have F5 := Lib.hid ((Fr.refl No w4).alloc (.cells (blkz).toArray 27))
      refine hK'.out _ _ ?_ (fun hS => ?_)
      · exact ⟨F5.out.cell (F4.out.cell C0d.out _root_.id) _root_.id, F5.out.cell (F4.out.cell C1d.out _root_.id) _root_.id⟩
      try simp only [Act.put, List.setIfInBounds_toArray, List.set_cons_zero, List.set_cons_succ]
      refine lexT_ef1 7 (by kernel_rfl) rfl rfl (fun K' hK' => ?_)
      refine wp_done (exec_store_new (w := w4) (ty := 27) (cs := (zBlk b.tag b.pay.length) pa pc) rfl rfl rfl rfl infoBlk (one3 rfl rfl rfl)) ?_
      have F6 := Lib.hid ((Fr.refl No w4).alloc (.cells ((zBlk b.tag b.pay.length) pa pc).toArray 27))
      refine hK'.out _ _ ?_ (fun hS => ?_)
      · exact ⟨F6.out.cell (F4.out.cell C0d.out _root_.id) _root_.id, F6.out.cell (F4.out.cell C1d.out _root_.id) _root_.id⟩
      try simp only [Act.put, List.setIfInBounds_toArray, List.set_cons_zero, List.set_cons_succ]
      refine lexT_nil (hK.out _ _ ?_)
      go_wp2_with fail
      go_meet
      case rel => exact ⟨w4.heap.size, pa, pc, rfl, by have := F4.out.size; have := Zd.out; omega, FD.out.trans0 (F4.out.trans0 F6.out), new_obj w4 (.cells ((zBlk b.tag b.pay.length) pa pc).toArray 27), ownsRow_keep O4.out F6.out (fun _ _ => _root_.id), fun j hj e => by have := (O4.out.lt j hj).2; omega⟩
    · refine wp_value (exec_alloc rfl (zeroBlk _)) ?_
      have F5 := Lib.hid ((Fr.refl No w3).alloc (.cells (blkz).toArray 27))
      have B5 := Lib.hid (new_obj w3 (.cells (blkz).toArray 27))
      have Q5 := Lib.hid (show (w3.alloc (.cells (blkz).toArray 27)).heap.size = w3.heap.size + 1 by simp)
      generalize w3.alloc (.cells (blkz).toArray 27) = w4 at *
      generalize hqd : w3.heap.size = qd at *
      refine hK'.out _ _ ?_ (fun hS => ?_)
      · exact ⟨F5.out.cell C0d.out _root_.id, F5.out.cell C1d.out _root_.id⟩
      try simp only [Act.put, List.setIfInBounds_toArray, List.set_cons_zero, List.set_cons_succ]
      refine lexT_ef1 4 (by kernel_rfl) rfl rfl (fun K' hK' => ?_)
      obtain ⟨pv, w5, a1, a2, a3, -⟩ := append_outs w4 (k := []) (World.ownsRow_nil w4 (w2.heap.size + 1) _ 33) (HOd.out.keep F5.out) (by have := HN.out; simp; omega) (by have := Zd.out; have := Q5.out; omega) 22
      rw [List.length_nil, Nat.zero_add, List.nil_append] at a2
      obtain ⟨pa, pc, hpv⟩ := a2.slice.arg.form
      subst hpv
      have A1 := Lib.hid a1
      have F4 := Lib.hid (show Fr No w4 w5 from a3.mono (fun j e => by cases e))
      have O4 := Lib.hid a2
      clear a1 a2 a3
      refine wp_append_run rfl rfl rfl A1.out ?_
      have F35 := Lib.hid (F5.out.trans0 F4.out)
      have B5e := Lib.hid (F4.out.obj B5.out _root_.id)
      refine hK'.out _ _ ?_ (fun hS => ?_)
      · exact ⟨F35.out.cell C0d.out _root_.id, F35.out.cell C1d.out _root_.id⟩
      try simp only [Act.put, List.setIfInBounds_toArray, List.set_cons_zero, List.set_cons_succ]
      (((first | (refine lexT_rd 5 (by kernel_rfl) rfl rfl ?_; apply Exists.intro; refine ⟨?_, ?_⟩; (focus (first | exact fun w' _ => exec_bld (t := 27) rfl rfl (bldBlk2 _ _ _ _ _) | (intro w' hS; obtain ⟨s1, s2⟩ := hS; go_simp; (try with_reducible rfl); done)))) | (refine lexT_sk 5 (by kernel_rfl) rfl rfl ?_)); try simp only [Act.put, List.setIfInBounds_toArray, List.set_cons_zero, List.set_cons_succ]))
      refine lexT_ef1 7 (by kernel_rfl) rfl rfl (fun K' hK' => ?_)
      refine wp_done (exec_store (ty := 27) (b := qd) (off := 0) (cs := (zBlk b.tag b.pay.length) pa pc) rfl rfl rfl (there_obj B5e.out (Nat.le_refl 3)) infoBlk (one3 rfl rfl rfl)) ?_
      have F6 := Lib.hid (setCells_fr qd ((zBlk b.tag b.pay.length) pa pc) 0 w5)
      have F36 := Lib.hid (show Fr No w3 _ from F35.out.trans F6.out (fun i hi e => by omega))
      refine hK'.out _ _ ?_ (fun hS => ?_)
      · exact ⟨F36.out.cell C0d.out _root_.id, F36.out.cell C1d.out _root_.id⟩
      try simp only [Act.put, List.setIfInBounds_toArray, List.set_cons_zero, List.set_cons_succ]
      refine lexT_nil (hK.out _ _ ?_)
      go_wp2_with fail
      go_meet
      case rel => exact ⟨qd, pa, pc, rfl, by have := Zd.out; omega, FD.out.trans0 F36.out, set3 (cs := (zBlk b.tag b.pay.length) pa pc) B5e.out rfl, own_mono (ownsRow_keep O4.out F6.out (fun j hj e => by have := (O4.out.lt j hj).1; have := Zd.out; omega)) (Nat.le_succ _), fun j hj e => by have := (O4.out.lt j hj).1; have := Zd.out; omega⟩
  case rest =>
    rename World => wz
    obtain ⟨qd, pa, pc, rfl, hqd, fc, bq, op, hnq⟩ := hcut
    have FC := Lib.hid fc
    have BQ := Lib.hid bq
    have OP := Lib.hid op
    have QD := Lib.hid hqd
    have NQ := Lib.hid hnq
    have C2c := Lib.hid (fc.cell C2.out _root_.id)
    have c2 := C2c.out
    have B2c := Lib.hid (fc.obj B2.out _root_.id)
    have HTc := Lib.hid (HTS.out.keep0 fc)
    have QL := Lib.hid (obj_lt bq)
    clear fc bq op hqd hnq
    go_wp2_with fail
    clear c2
    go_loopw [18] (fun iv wr => ∃ n : Nat, iv = .int .i64 n ∧ n ≤ b.txs.length ∧ OwnT wz qd b pa pc n wr) (fun iv _ => b.txs.length - (intOf iv).toNat)
    case atStart => exact ⟨0, rfl, Nat.zero_le _, .slice none 0 0, [], BQ.out, KRow.nil _ _ _ _ _ _, Fr.refl _ _⟩
    case round =>
      obtain ⟨n, rfl, hn, tv, css, hbq, hkr, fr⟩ := hrel
      have FR := Lib.hid fr
      have BQR := Lib.hid hbq
      have KR := Lib.hid hkr
      have FW := Lib.hid (show Fr No w2 wr from FC.out.trans fr (fun j hj e => by have := QD.out; omega))
      obtain ⟨tva, tvc, htv⟩ := hkr.form
      rw [List.length_take, Nat.min_eq_left hn] at htv
      subst htv
      clear fr hbq hkr
      by_cases hlt : n < b.txs.length
      · have i1 : (n : Int) < (b.txs.length : Int) := by omega
        obtain ⟨t, hx⟩ : ∃ x, b.txs[n]? = some x := ⟨_, List.getElem?_eq_getElem hlt⟩
        have HX := Lib.hid hx
        obtain ⟨bb, off, cap, ts, hvv, hr, hq⟩ := (HTS.out.keep0 FW.out).at_ hx
        cases hvv
        have HQ := Lib.hid hq
        obtain ⟨ja, jc, ka, kc, rfl, htver, hins, houts⟩ := hq
        have TV := Lib.hid htver
        have R1 := Lib.hid (show wr.rangeAt bb (off + n * 3) [.int .u32 t.ver, .slice ja t.ins.length jc, .slice ka t.outs.length kc] from hr)
        have TI := Lib.hid (HI.out t (List.mem_of_getElem? hx))
        have QA := Lib.hid (show wr.heap.size < (wr.alloc (.cells #[.int .u32 t.ver, .slice ja t.ins.length jc, .slice ka t.outs.length kc] 41)).heap.size by simp)
        have FA := Lib.hid ((Fr.refl No wr).alloc (.cells #[.int .u32 t.ver, .slice ja t.ins.length jc, .slice ka t.outs.length kc] 41))
        obtain ⟨d0, d1, d2, -⟩ := row3_new wr (.int .u32 t.ver) (.slice ja t.ins.length jc) (.slice ka t.outs.length kc) 41
        have D0 := Lib.hid d0
        have D1 := Lib.hid d1
        have D2 := Lib.hid d2
        have HOU := Lib.hid (houts.keep FA.out)
        have HIN := Lib.hid (hins.keep0 FA.out)
        clear hr hx htver hins houts d0 d1 d2
        have K0 := Lib.hid True.intro
        have K1 := Lib.hid True.intro
        go_wp2_with (first | ((with_reducible refine at_list ?_); have mk := K0.out; refine wpList_value rfl (exec_load (ty := 41) rfl rfl R1.out uT rT infoTx) ?_; go_frame; clear mk K0) | ((with_reducible refine at_store ?_); have mk := K1.out; refine wpList_done rfl (exec_store_new (w := wr) (ty := 41) (cs := [.int .u32 t.ver, .slice ja t.ins.length jc, .slice ka t.outs.length kc]) rfl rfl rfl rfl infoTx (one3 rfl rfl rfl)) ?_; generalize wr.alloc (.cells #[.int .u32 t.ver, .slice ja t.ins.length jc, .slice ka t.outs.length kc] 41) = wq at *; go_frame; clear mk K1))
        have TOL := Lib.hid TI.out.2.1
        go_cut [6] from 22 to 27 (fun s6 wd => NewOuts 41 wq.heap.size t.outs (zTx t.ver t.outs.length) wq s6 wd)
        case first =>
          have FD := Lib.hid (Fr.refl No wq).drew
          have HOd := Lib.hid (HOU.out.keep FD.out)
          have C0d := Lib.hid (FD.out.cell D0.out _root_.id)
          have C1d := Lib.hid (FD.out.cell D2.out _root_.id)
          have Zd := Lib.hid (show wq.drew.heap.size = wq.heap.size from rfl)
          refine wp_region_lexT 8 [0, 1, 2, 3, 4, 5, 6, 7] (fun w' => w'.cell? ⟨wr.heap.size, 0, none⟩ = some (.int .u32 t.ver) ∧ w'.cell? ⟨wr.heap.size, 2, none⟩ = some (.slice ka t.outs.length kc)) (by kernel_rfl) (by kernel_rfl) (by kernel_rfl) (by kernel_rfl) ?_ (fun K hK => ?_)
          · exact ⟨C0d.out, C1d.out⟩
          generalize wq.drew = w3 at *
          (((first | (refine lexT_rd 0 (by kernel_rfl) rfl rfl ?_; apply Exists.intro; refine ⟨?_, ?_⟩; (focus (first | (intro w' hS; obtain ⟨s1, s2⟩ := hS; go_simp; (try with_reducible rfl); done)))) | (refine lexT_sk 0 (by kernel_rfl) rfl rfl ?_)); try simp only [Act.put, List.setIfInBounds_toArray, List.set_cons_zero, List.set_cons_succ]); ((first | (refine lexT_rd 1 (by kernel_rfl) rfl rfl ?_; apply Exists.intro; refine ⟨?_, ?_⟩; (focus (first | (intro w' hS; obtain ⟨s1, s2⟩ := hS; go_simp; (try with_reducible rfl); done)))) | (refine lexT_sk 1 (by kernel_rfl) rfl rfl ?_)); try simp only [Act.put, List.setIfInBounds_toArray, List.set_cons_zero, List.set_cons_succ]); ((first | (refine lexT_rd 2 (by kernel_rfl) rfl rfl ?_; apply Exists.intro; refine ⟨?_, ?_⟩; (focus (first | (intro w' hS; obtain ⟨s1, s2⟩ := hS; go_simp; (try with_reducible rfl); done)))) | (refine lexT_sk 2 (by kernel_rfl) rfl rfl ?_)); try simp only [Act.put, List.setIfInBounds_toArray, List.set_cons_zero, List.set_cons_succ]); ((first | (refine lexT_rd 3 (by kernel_rfl) rfl rfl ?_; apply Exists.intro; refine ⟨?_, ?_⟩; (focus (first | (intro w' hS; obtain ⟨s1, s2⟩ := hS; go_simp; (try with_reducible rfl); done)))) | (refine lexT_sk 3 (by kernel_rfl) rfl rfl ?_)); try simp only [Act.put, List.setIfInBounds_toArray, List.set_cons_zero, List.set_cons_succ]))
          refine lexT_ef2 4 6 (by kernel_rfl) rfl rfl rfl rfl (fun K' hK' => ?_) (fun K' hK' => ?_)
          · obtain ⟨pv, w4, a1, a2, a3, -⟩ := append_outs w3 (k := []) (World.ownsRow_nil w3 wq.heap.size _ 33) HOd.out (by have := TOL.out; simp; omega) (by have := Zd.out; omega) 22
            rw [List.length_nil, Nat.zero_add, List.nil_append] at a2
            obtain ⟨pa, pc, hpv⟩ := a2.slice.arg.form
            subst hpv
            have A1 := Lib.hid a1
            have F4 := Lib.hid (show Fr No w3 w4 from a3.mono (fun j e => by cases e))
            have O4 := Lib.hid a2
            clear a1 a2 a3
            refine wp_append_run rfl rfl rfl A1.out ?_
            refine hK'.out _ _ ?_ (fun hS => ?_)
            · exact ⟨F4.out.cell C0d.out _root_.id, F4.out.cell C1d.out _root_.id⟩
            try simp only [Act.put, List.setIfInBounds_toArray, List.set_cons_zero, List.set_cons_succ]
            (((first | (refine lexT_rd 5 (by kernel_rfl) rfl rfl ?_; apply Exists.intro; refine ⟨?_, ?_⟩; (focus (first | exact fun w' _ => exec_bld (t := 41) rfl rfl (bldTx2 _ _ _ _ _) | (intro w' hS; obtain ⟨s1, s2⟩ := hS; go_simp; (try with_reducible rfl); done)))) | (refine lexT_sk 5 (by kernel_rfl) rfl rfl ?_)); try simp only [Act.put, List.setIfInBounds_toArray, List.set_cons_zero, List.set_cons_succ]))
            refine lexT_ef1 6 (by kernel_rfl) rfl rfl (fun K' hK' => ?_)
            refine wp_value (exec_alloc rfl (zeroTx1 _)) ?_
            have F5 := Lib.hid ((Fr.refl No w4).alloc (.cells (txC 0 (.slice none 0 0) (.slice none 0 0)).toArray 41))
            refine hK'.out _ _ ?_ (fun hS => ?_)
            · exact ⟨F5.out.cell (F4.out.cell C0d.out _root_.id) _root_.id, F5.out.cell (F4.out.cell C1d.out _root_.id) _root_.id⟩
            try simp only [Act.put, List.setIfInBounds_toArray, List.set_cons_zero, List.set_cons_succ]
            refine lexT_ef1 7 (by kernel_rfl) rfl rfl (fun K' hK' => ?_)
            refine wp_done (exec_store_new (w := w4) (ty := 41) (cs := (zTx t.ver t.outs.length) pa pc) rfl rfl rfl rfl infoTx (one3 rfl rfl rfl)) ?_
            have F6 := Lib.hid ((Fr.refl No w4).alloc (.cells ((zTx t.ver t.outs.length) pa pc).toArray 41))
            refine hK'.out _ _ ?_ (fun hS => ?_)
            · exact ⟨F6.out.cell (F4.out.cell C0d.out _root_.id) _root_.id, F6.out.cell (F4.out.cell C1d.out _root_.id) _root_.id⟩
            try simp only [Act.put, List.setIfInBounds_toArray, List.set_cons_zero, List.set_cons_succ]
            refine lexT_nil (hK.out _ _ ?_)
            go_wp2_with fail
            go_meet
            case rel => exact ⟨w4.heap.size, pa, pc, rfl, by have := F4.out.size; have := Zd.out; omega, FD.out.trans0 (F4.out.trans0 F6.out), new_obj w4 (.cells ((zTx t.ver t.outs.length) pa pc).toArray 41), ownsRow_keep O4.out F6.out (fun _ _ => _root_.id), fun j hj e => by have := (O4.out.lt j hj).2; omega⟩
          · refine wp_value (exec_alloc rfl (zeroTx1 _)) ?_
            have F5 := Lib.hid ((Fr.refl No w3).alloc (.cells (txC 0 (.slice none 0 0) (.slice none 0 0)).toArray 41))
            have B5 := Lib.hid (new_obj w3 (.cells (txC 0 (.slice none 0 0) (.slice none 0 0)).toArray 41))
            have Q5 := Lib.hid (show (w3.alloc (.cells (txC 0 (.slice none 0 0) (.slice none 0 0)).toArray 41)).heap.size = w3.heap.size + 1 by simp)
            generalize w3.alloc (.cells (txC 0 (.slice none 0 0) (.slice none 0 0)).toArray 41) = w4 at *
            generalize hqd : w3.heap.size = qd at *
            refine hK'.out _ _ ?_ (fun hS => ?_)
            · exact ⟨F5.out.cell C0d.out _root_.id, F5.out.cell C1d.out _root_.id⟩
            try simp only [Act.put, List.setIfInBounds_toArray, List.set_cons_zero, List.set_cons_succ]
            refine lexT_ef1 4 (by kernel_rfl) rfl rfl (fun K' hK' => ?_)
            obtain ⟨pv, w5, a1, a2, a3, -⟩ := append_outs w4 (k := []) (World.ownsRow_nil w4 (wq.heap.size + 1) _ 33) (HOd.out.keep F5.out) (by have := TOL.out; simp; omega) (by have := Zd.out; have := Q5.out; omega) 22
            rw [List.length_nil, Nat.zero_add, List.nil_append] at a2
            obtain ⟨pa, pc, hpv⟩ := a2.slice.arg.form
            subst hpv
            have A1 := Lib.hid a1
            have F4 := Lib.hid (show Fr No w4 w5 from a3.mono (fun j e => by cases e))
            have O4 := Lib.hid a2
            clear a1 a2 a3
            refine wp_append_run rfl rfl rfl A1.out ?_
            have F35 := Lib.hid (F5.out.trans0 F4.out)
            have B5e := Lib.hid (F4.out.obj B5.out _root_.id)
            refine hK'.out _ _ ?_ (fun hS => ?_)
            · exact ⟨F35.out.cell C0d.out _root_.id, F35.out.cell C1d.out _root_.id⟩
            try simp only [Act.put, List.setIfInBounds_toArray, List.set_cons_zero, List.set_cons_succ]
            (((first | (refine lexT_rd 5 (by kernel_rfl) rfl rfl ?_; apply Exists.intro; refine ⟨?_, ?_⟩; (focus (first | exact fun w' _ => exec_bld (t := 41) rfl rfl (bldTx2 _ _ _ _ _) | (intro w' hS; obtain ⟨s1, s2⟩ := hS; go_simp; (try with_reducible rfl); done)))) | (refine lexT_sk 5 (by kernel_rfl) rfl rfl ?_)); try simp only [Act.put, List.setIfInBounds_toArray, List.set_cons_zero, List.set_cons_succ]))
            refine lexT_ef1 7 (by kernel_rfl) rfl rfl (fun K' hK' => ?_)
            refine wp_done (exec_store (ty := 41) (b := qd) (off := 0) (cs := (zTx t.ver t.outs.length) pa pc) rfl rfl rfl (there_obj B5e.out (Nat.le_refl 3)) infoTx (one3 rfl rfl rfl)) ?_
            have F6 := Lib.hid (setCells_fr qd ((zTx t.ver t.outs.length) pa pc) 0 w5)
            have F36 := Lib.hid (show Fr No w3 _ from F35.out.trans F6.out (fun i hi e => by omega))
            refine hK'.out _ _ ?_ (fun hS => ?_)
            · exact ⟨F36.out.cell C0d.out _root_.id, F36.out.cell C1d.out _root_.id⟩
            try simp only [Act.put, List.setIfInBounds_toArray, List.set_cons_zero, List.set_cons_succ]
            refine lexT_nil (hK.out _ _ ?_)
            go_wp2_with fail
            go_meet
            case rel => exact ⟨qd, pa, pc, rfl, by have := Zd.out; omega, FD.out.trans0 F36.out, set3 (cs := (zTx t.ver t.outs.length) pa pc) B5e.out rfl, own_mono (ownsRow_keep O4.out F6.out (fun j hj e => by have := (O4.out.lt j hj).1; have := Zd.out; omega)) (Nat.le_succ _), fun j hj e => by have := (O4.out.lt j hj).1; have := Zd.out; omega⟩
        case rest =>
          rename World => wd
          obtain ⟨qu, va, vc, rfl, hqu, fd, bu, ou, hnu⟩ := hcut
          have FD := Lib.hid fd
          have BU := Lib.hid bu
          have OU := Lib.hid ou
          have QU := Lib.hid hqu
          have NU := Lib.hid hnu
          have D1d := Lib.hid (fd.cell D1.out _root_.id)
          have d1d := D1d.out
          have UL := Lib.hid (obj_lt bu)
          clear fd bu ou hqu hnu
          go_wp2_with fail
          clear d1d
          have VZ := Lib.hid (show ∀ j, j < wz.heap.size → j < wd.heap.size from fun j hj => by have := FR.out.size; have := FA.out.size; have := FD.out.size; omega)
          have QDL := Lib.hid (show qd < wq.heap.size ∧ wr.heap.size < wq.heap.size from by have := obj_lt BQR.out; have := FA.out.size; exact ⟨by omega, QA.out⟩)
          have tl8 := TI.out.1
          go_loopw [31] (fun iv wi => ∃ m : Nat, iv = .int .i64 m ∧ m ≤ t.ins.length ∧ OwnI wd qu t va vc m wi) (fun iv _ => t.ins.length - (intOf iv).toNat)
          case atStart => exact ⟨0, rfl, Nat.zero_le _, .slice none 0 0, [], BU.out, KRow.nil _ _ _ _ _ _, Fr.refl _ _⟩
          case round =>
            obtain ⟨m, rfl, hm, iv, ics, hbu, hki, fi⟩ := hrel
            rename World => wi
            have FI := Lib.hid fi
            have BUI := Lib.hid hbu
            have KI := Lib.hid hki
            obtain ⟨iva, ivc, hiv⟩ := hki.form
            rw [List.length_take, Nat.min_eq_left hm] at hiv
            subst hiv
            have FQI := Lib.hid (show Fr No wq wi from FD.out.trans fi (fun j hj e => by have := QU.out; omega))
            clear fi hbu hki
            by_cases hmt : m < t.ins.length
            · have i2 : (m : Int) < (t.ins.length : Int) := by omega
              obtain ⟨x, hxx⟩ : ∃ x, t.ins[m]? = some x := ⟨_, List.getElem?_eq_getElem hmt⟩
              have HXX := Lib.hid hxx
              obtain ⟨b2, off2, cap2, xs, hvx, hrx, hqx⟩ := (HIN.out.keep0 FQI.out).at_ hxx
              cases hvx
              obtain ⟨kka, kkc, rfl, hpok, hkey⟩ := hqx
              have POK := Lib.hid hpok
              have KEY := Lib.hid hkey
              have R2 := Lib.hid hrx
              have IL := Lib.hid (inC_len hpok (.slice kka x.key.length kkc))
              have PL := Lib.hid (pointC_len hpok)
              have KL := Lib.hid (TI.out.2.2 x (List.mem_of_getElem? hxx))
              have FB := Lib.hid ((Fr.refl No wi).alloc (.cells (inC x.from_ (.slice kka x.key.length kkc)).toArray 50))
              have INN := Lib.hid (in_new wi (p := x.from_) (kv := .slice kka x.key.length kkc) hpok)
              have QB := Lib.hid (show (wi.alloc (.cells (inC x.from_ (.slice kka x.key.length kkc)).toArray 50)).heap.size = wi.heap.size + 1 by simp)
              clear hrx hxx hpok hkey
              have K0 := Lib.hid True.intro
              have K1 := Lib.hid True.intro
              go_wp2_with (first | ((with_reducible refine at_list ?_); have mk := K0.out; refine wpList_value rfl (exec_load (ty := 50) rfl rfl R2.out uI rI (by rw [IL.out]; exact infoIn)) ?_; go_frame; clear mk K0) | ((with_reducible refine at_store ?_); have mk := K1.out; refine wpList_done rfl (exec_store_new (w := wi) (ty := 50) (cs := inC x.from_ (.slice kka x.key.length kkc)) rfl rfl rfl (by rw [IL.out]; rfl) (by rw [IL.out]; exact infoIn) inC_one) ?_; generalize wi.alloc (.cells (inC x.from_ (.slice kka x.key.length kkc)).toArray 50) = wj at *; go_frame; clear mk K1))
              have FBD := Lib.hid (FB.out.trans0 (Fr.refl No wj).drew)
              have BUZ := Lib.hid (FBD.out.obj BUI.out _root_.id)
              have CUZ := Lib.hid (show wj.drew.cell? ⟨qu, 1, none⟩ = some (.slice iva m ivc) from by have := range_obj BUZ.out 1 _ rfl; simpa using this)
              have KIZ := Lib.hid (KI.out.fr0 FBD.out)
              have RZ := Lib.hid (show wj.drew.rangeAt wi.heap.size 0 (pointC x.from_) ∧ wj.drew.cell? ⟨wi.heap.size, 33, none⟩ = some (.slice kka x.key.length kkc) from ⟨range_keep INN.out.1 (Fr.refl No wj).drew _root_.id, (Fr.refl No wj).drew.cell INN.out.2 _root_.id⟩)
              have KYZ := Lib.hid (KEY.out.keep FBD.out)
              have QZ := Lib.hid (show wj.drew.heap.size = wi.heap.size + 1 from QB.out)
              have UQ := Lib.hid (show qu < wi.heap.size from obj_lt BUI.out)
              refine wp_region_lexM [false, false, false, false, false, false, true, false, true, true, false, true] (fun w' => w'.cell? ⟨qu, 1, none⟩ = some (.slice iva m ivc) ∧ w'.rangeAt wi.heap.size 0 (pointC x.from_) ∧ w'.cell? ⟨wi.heap.size, 33, none⟩ = some (.slice kka x.key.length kkc)) (by kernel_rfl) (by kernel_rfl) 11 (by kernel_rfl) (by kernel_rfl) ?_ (fun K hK => ?_)
              · exact ⟨CUZ.out, RZ.out.1, RZ.out.2⟩
              generalize wj.drew = z at *
              obtain ⟨kv, w9, a1, a2, a3, -⟩ := append_bytes z (BRow.nil z z.heap.size) KYZ.out.2 (by simp; have := KL.out; omega) (Nat.le_refl _) 48
              rw [List.nil_append] at a2
              obtain ⟨kva, kvc, hkv⟩ := a2.form
              subst hkv
              have A1 := Lib.hid a1
              have F9 := Lib.hid (show Fr No z w9 from a3.mono (fun j e => by cases e))
              have K9 := Lib.hid a2
              clear a1 a2 a3
              have IL2 := Lib.hid (inC_len POK.out (.slice kva x.key.length kvc))
              have KI9 := Lib.hid (KIZ.out.fr0 F9.out)
              have KE9 := Lib.hid (show Kept (fun j => j < wd.heap.size ∨ (Value.slice iva m ivc).ownBlock = some j) w9 (fun w => InQ w x (inC x.from_ (.slice kva x.key.length kvc))) from fun w' f => ⟨kva, kvc, rfl, POK.out, kept_key K9.out KYZ.out.1 (V := fun j => j < wd.heap.size ∨ (Value.slice iva m ivc).ownBlock = some j) (fun j hj => by
                have := FI.out.size
                have := QZ.out
                rcases hj with hj | hj
                · omega
                · have := (KIZ.out.lt j hj).2; omega) w' f⟩)
              obtain ⟨v5, w10, b1, b2', b3, b4⟩ := KI9.out.append (P := Tryd.prog) (t := 39) (ty2 := 39) (bytes := 64) undIns infoInZ rfl (by decide) KE9.out IL2.out inC_one (by rw [List.length_take]; have := TI.out.1; omega) (by rw [List.length_take]; unfold maxLen; have := TI.out.1; omega) (by have := F9.out.size; have := FI.out.size; have := QZ.out; omega)
              have B1 := Lib.hid b1
              have KI10 := Lib.hid (show KRow wd.heap.size 50 34 InQ (fun j => j < wd.heap.size) w10 v5 (t.ins.take (m + 1)) (ics ++ [inC x.from_ (.slice kva x.key.length kvc)]) by rw [List.take_add_one, HXX.out]; exact b2')
              have G10 := Lib.hid b4
              have F10 := Lib.hid b3
              obtain ⟨va5, vc5, hv5⟩ := b2'.form
              rw [List.length_append, List.length_take, Nat.min_eq_left hm] at hv5
              simp only [List.length_singleton] at hv5
              subst hv5
              clear b1 b2' b3 b4
              have NU9 := Lib.hid (show ∀ j, (Value.slice iva m ivc).ownBlock = some j → wd.heap.size ≤ j ∧ j < wi.heap.size from fun j hj => KI.out.lt j hj)
              have BU9 := Lib.hid (F9.out.obj BUZ.out _root_.id)
              have BU10 := Lib.hid (F10.out.obj BU9.out (fun e => by have := (NU9.out _ e).1; have := UL.out; omega))
              have SU10 := Lib.hid (show w10.cell? ⟨qu, 1, none⟩ = some (.slice iva m ivc) from by have := range_obj BU10.out 1 _ rfl; simpa using this)
              have RU10 := Lib.hid (show w10.rangeAt wi.heap.size 0 (pointC x.from_) ∧ w10.cell? ⟨wi.heap.size, 33, none⟩ = some (.slice kka x.key.length kkc) from ⟨range_keep (range_keep RZ.out.1 F9.out _root_.id) F10.out (fun e => by have := (NU9.out _ e).2; omega), F10.out.cell (F9.out.cell RZ.out.2 _root_.id) (fun e => by have h : wi.heap.size < wi.heap.size := (NU9.out _ e).2; omega)⟩)
              have fzu := u32_unfrozen (i := 1) BU10.out
              have S9 := Lib.hid (show ∀ w', Fr No z w' → w'.cell? ⟨qu, 1, none⟩ = some (.slice iva m ivc) ∧ w'.rangeAt wi.heap.size 0 (pointC x.from_) ∧ w'.cell? ⟨wi.heap.size, 33, none⟩ = some (.slice kka x.key.length kkc) from fun w' f => ⟨f.cell CUZ.out _root_.id, range_keep RZ.out.1 f _root_.id, f.cell RZ.out.2 _root_.id⟩)
              have fs : Fr (fun j => j = qu) w10 (w10.setCell ⟨qu, 1, none⟩ (.slice va5 (m + 1) vc5)) := (Fr.refl (fun j => j = qu) w10).setCell ⟨qu, 1, none⟩ (.inr rfl) _
              have BU11 := Lib.hid (heap_setCell_same w10 qu 1 _ _ (.slice va5 (m + 1) vc5) BU10.out)
              have KI11 := Lib.hid (KI10.out.fr fs (fun j _ e => by rw [e]; exact UL.out) (fun j hj e => by
                rcases G10.out j hj with h | h
                · have := (NU9.out _ h).1; have := UL.out; omega
                · have := F9.out.size; have := QZ.out; have := UQ.out; omega))
              have F11 := Lib.hid (show Fr (fun j => j = qu) wd (w10.setCell ⟨qu, 1, none⟩ (.slice va5 (m + 1) vc5)) from (((FI.out.trans0 FBD.out).trans0 F9.out).trans F10.out (fun j hj e => by have := (NU9.out _ e).1; omega)).trans fs (fun j _ e => e))
              clear fs
              repeat (first | ((first | with_reducible refine lexM_read ?_ | ((with_reducible refine lexM_readG ?_ ?_); (focus rfl))); apply Exists.intro; refine ⟨?_, ?_⟩; (focus (first | exact lex_load (ty := 47) rfl (fun w h => h.2.1) uP rP (by rw [PL.out]; exact infoPoint) | (intro w' hS; obtain ⟨s1, s2, s3⟩ := hS; go_simp; (try with_reducible rfl); done))); try simp only [Act.put, List.setIfInBounds_toArray, List.set_cons_zero, List.set_cons_succ]) | ((first | ((with_reducible refine lexM_skip (c := false) ?_ ?_ ?_); (focus rfl); (focus rfl)) | ((with_reducible refine lexM_skip (c := true) ?_ ?_ ?_); (focus rfl); (focus rfl)) | ((with_reducible refine lexM_skipU ?_ ?_); (focus rfl))); try simp only [Act.put, List.setIfInBounds_toArray, List.set_cons_zero, List.set_cons_succ]))
              (first | with_reducible refine lexM_eff (fun K' hK' => ?_) | ((with_reducible refine lexM_effG ?_ (fun K' hK' => ?_)); (focus rfl)))
              refine wp_append_run rfl rfl rfl A1.out ?_
              refine hK'.out _ _ (fun _ => ?_) (fun hS => ?_)
              · exact S9.out _ F9.out
              try simp only [Act.put, List.setIfInBounds_toArray, List.set_cons_zero, List.set_cons_succ]
              repeat (first | ((first | with_reducible refine lexM_read ?_ | ((with_reducible refine lexM_readG ?_ ?_); (focus rfl))); apply Exists.intro; refine ⟨?_, ?_⟩; (focus (first | exact lex_load (ty := 47) rfl (fun w h => h.2.1) uP rP (by rw [PL.out]; exact infoPoint) | exact fun w' _ => exec_build (t := 50) (vs := [(0, .agg (pointC x.from_).toArray), (1, .slice kva x.key.length kvc)]) rfl rfl placesIn (fill_in POK.out _ _ _) (parts_in _ _ _ _) (by rw [IL2.out]) | (intro w' hS; obtain ⟨s1, s2, s3⟩ := hS; go_simp; (try with_reducible rfl); done))); try simp only [Act.put, List.setIfInBounds_toArray, List.set_cons_zero, List.set_cons_succ]) | ((first | ((with_reducible refine lexM_skip (c := false) ?_ ?_ ?_); (focus rfl); (focus rfl)) | ((with_reducible refine lexM_skip (c := true) ?_ ?_ ?_); (focus rfl); (focus rfl)) | ((with_reducible refine lexM_skipU ?_ ?_); (focus rfl))); try simp only [Act.put, List.setIfInBounds_toArray, List.set_cons_zero, List.set_cons_succ]))
              (first | with_reducible refine lexM_eff (fun K' hK' => ?_) | ((with_reducible refine lexM_effG ?_ (fun K' hK' => ?_)); (focus rfl)))
              refine wp_value (exec_buildSliceA (t := 39) rfl rfl undIns infoInZ2 rfl (by decide) (by decide) IL2.out) ?_
              refine hK'.out _ _ (fun _ => ?_) (fun hS => ?_)
              · exact S9.out _ (F9.out.alloc _)
              try simp only [Act.put, List.setIfInBounds_toArray, List.set_cons_zero, List.set_cons_succ]
              (first | with_reducible refine lexM_eff (fun K' hK' => ?_) | ((with_reducible refine lexM_effG ?_ (fun K' hK' => ?_)); (focus rfl)))
              refine wp_append_run rfl rfl rfl B1.out ?_
              refine hK'.out _ _ (fun _ => ?_) (fun hS => ?_)
              · exact ⟨SU10.out, RU10.out.1, RU10.out.2⟩
              try simp only [Act.put, List.setIfInBounds_toArray, List.set_cons_zero, List.set_cons_succ]
              repeat (first | ((first | with_reducible refine lexM_read ?_ | ((with_reducible refine lexM_readG ?_ ?_); (focus rfl))); apply Exists.intro; refine ⟨?_, ?_⟩; (focus (first | (intro w' hS; obtain ⟨s1, s2, s3⟩ := hS; go_simp; (try with_reducible rfl); done))); try simp only [Act.put, List.setIfInBounds_toArray, List.set_cons_zero, List.set_cons_succ]) | ((first | ((with_reducible refine lexM_skip (c := false) ?_ ?_ ?_); (focus rfl); (focus rfl)) | ((with_reducible refine lexM_skip (c := true) ?_ ?_ ?_); (focus rfl); (focus rfl)) | ((with_reducible refine lexM_skipU ?_ ?_); (focus rfl))); try simp only [Act.put, List.setIfInBounds_toArray, List.set_cons_zero, List.set_cons_succ]))
              (first | with_reducible refine lexM_eff (fun K' hK' => ?_) | ((with_reducible refine lexM_effG ?_ (fun K' hK' => ?_)); (focus rfl)))
              go_simp
              refine hK'.out _ _ (fun h => absurd rfl h) (fun hS => ?_)
              refine lexM_nil (hK.out _ _ ?_)
              go_wp2_with fail
              go_roundw
              case rel => exact ⟨m + 1, by go_num, by omega, _, _, BU11.out, KI11.out, F11.out⟩
              case measure => simp [intOf]; omega
            · have hme : m = t.ins.length := by omega
              have i2 : ¬ (m : Int) < (t.ins.length : Int) := by omega
              have FWI := Lib.hid (show Fr No wr wi from FA.out.trans0 FQI.out)
              have BQI := Lib.hid (FWI.out.obj BQR.out _root_.id)
              have KRI := Lib.hid (KR.out.fr0 FWI.out)
              have cA : wi.cell? ⟨qd, 2, none⟩ = some (.slice tva n tvc) := by have := range_obj BQI.out 2 _ rfl; simpa using this
              have RU := Lib.hid (range_obj BUI.out)
              have KT := Lib.hid (show Kept (fun j => j < wz.heap.size ∨ (Value.slice tva n tvc).ownBlock = some j) wi (fun w => TxQ w t [.int .u32 t.ver, .slice iva m ivc, .slice va t.outs.length vc]) from by
                have k1 : KRow wd.heap.size 50 34 InQ (fun j => j < wd.heap.size) wi (.slice iva m ivc) t.ins ics := by have := KI.out; rw [hme, List.take_length] at this; rw [hme]; exact this
                have k2 := k1.rows (U := fun j => j < wz.heap.size ∨ (Value.slice tva n tvc).ownBlock = some j) (by decide) (by unfold maxLen; have := TI.out.1; omega) (fun j hj e => e.elim (VZ.out j) (fun e => by have := (KR.out.lt j e).2; have := FA.out.size; have := FD.out.size; omega)) (fun j hj e => by
                  have h1 := (k1.lt j hj).1
                  rcases e with e | e
                  · have := VZ.out j e; omega
                  · have := (KR.out.lt j e).2; have := FA.out.size; have := FD.out.size; omega)
                have k3 := kept_outs (V := fun j => j < wz.heap.size ∨ (Value.slice tva n tvc).ownBlock = some j) (ownsRow_keep OU.out FI.out (fun j hj e => NU.out j hj e)) HOU.out.1 (fun j e => by
                  rcases e with e | e
                  · have := FR.out.size; have := FA.out.size; omega
                  · have := (KR.out.lt j e).2; have := FA.out.size; omega)
                intro w' f
                exact ⟨iva, ivc, va, vc, by rw [hme]; rfl, TV.out, by have := k2 w' f; rw [hme] at this; exact this, k3 w' f⟩)
              obtain ⟨v5, w10, b1, b2', b3, b4⟩ := KRI.out.append (P := Tryd.prog) (t := 25) (ty2 := 25) (bytes := 56) undTxs infoTxZ rfl (by decide) KT.out rfl (one3 rfl rfl rfl) (by rw [List.length_take]; omega) (by rw [List.length_take]; unfold maxLen; omega) (by have := FR.out.size; have := FWI.out.size; omega)
              have B1 := Lib.hid b1
              have K10 := Lib.hid (show KRow wz.heap.size 41 3 TxQ (fun j => j < wz.heap.size) w10 v5 (b.txs.take (n + 1)) (css ++ [[.int .u32 t.ver, .slice iva m ivc, .slice va t.outs.length vc]]) by rw [List.take_add_one, HX.out]; exact b2')
              obtain ⟨va5, vc5, hv5⟩ := b2'.form
              rw [List.length_append, List.length_take, Nat.min_eq_left hn] at hv5
              simp only [List.length_singleton] at hv5
              subst hv5
              have NT := Lib.hid (show ∀ j, (Value.slice tva n tvc).ownBlock = some j → wz.heap.size ≤ j ∧ j < wr.heap.size from fun j hj => KR.out.lt j hj)
              have BQ10 := Lib.hid (b3.obj BQI.out (fun e => by have := (NT.out _ e).1; have := QL.out; omega))
              have cB : w10.cell? ⟨qd, 2, none⟩ = some (.slice tva n tvc) := by have := range_obj BQ10.out 2 _ rfl; simpa using this
              have fB := u32_unfrozen (i := 2) BQ10.out
              have fs : Fr (fun j => j = qd) w10 (w10.setCell ⟨qd, 2, none⟩ (.slice va5 (n + 1) vc5)) := (Fr.refl (fun j => j = qd) w10).setCell ⟨qd, 2, none⟩ (.inr rfl) _
              have BQ11 := Lib.hid (heap_setCell_same w10 qd 2 _ _ (.slice va5 (n + 1) vc5) BQ10.out)
              have K11 := Lib.hid (K10.out.fr fs (fun j _ e => by rw [e]; exact QL.out) (fun j hj e => by
                rcases b4 j hj with h | h
                · have := (NT.out _ h).1; have := QL.out; omega
                · have := FWI.out.size; have := QDL.out.1; have := FQI.out.size; omega))
              have F11 := Lib.hid (show Fr (fun j => j = qd) wz (w10.setCell ⟨qd, 2, none⟩ (.slice va5 (n + 1) vc5)) from ((FR.out.trans0 FWI.out).trans b3 (fun j hj e => by have := (NT.out _ e).1; omega)).trans fs (fun j _ e => e))
              clear b1 b2' b3 b4 fs hme
              have K0 := Lib.hid True.intro
              have K1 := Lib.hid True.intro
              have K2 := Lib.hid True.intro
              go_wp2_with (first | ((with_reducible refine at_list ?_); have mk := K0.out; refine wpList_value rfl (exec_load (ty := 41) rfl rfl RU.out uT rT infoTx) ?_; go_frame; clear mk K0) | ((with_reducible refine at_list ?_); have mk := K1.out; refine wpList_value rfl (exec_buildSliceA (t := 25) rfl rfl undTxs infoTxZ2 rfl (by decide) (by decide) rfl) ?_; go_frame; clear mk K1) | ((with_reducible refine at_list ?_); have mk := K2.out; at_builtin; refine wpList_append_run rfl rfl rfl rfl B1.out ?_; go_frame; clear mk K2))
              go_roundw
              case rel => exact ⟨n + 1, by go_num, by omega, _, _, BQ11.out, K11.out, F11.out⟩
              case measure => simp [intOf]; omega
      · have hne : n = b.txs.length := by omega
        have i1 : ¬ (n : Int) < (b.txs.length : Int) := by omega
        have R6 := Lib.hid (range_obj BQR.out)
        have BZ := Lib.hid (FR.out.obj B2c.out (fun e => by have := QD.out; have := Z2.out; omega))
        have HXF := Lib.hid (show ∀ V : Nat → Prop, (∀ j, V j → j < w2.heap.size) → Kept V wr (fun w => BlkQ w b [.int .u64 b.tag, .slice pa b.pay.length pc, .slice tva n tvc]) from fun V hV w' f => by
          have k1 : KRow wz.heap.size 41 3 TxQ (fun j => j < wz.heap.size) wr (.slice tva n tvc) b.txs css := by have := KR.out; rw [hne, List.take_length] at this; rw [hne]; exact this
          have k2 := k1.rows (U := V) (by decide) (by unfold maxLen; omega) (fun j hj e => by have := hV j e; have := QD.out; have := QL.out; omega) (fun j hj e => by have := (k1.lt j hj).1; have := hV j e; have := QD.out; have := QL.out; omega) w' f
          have k3 := kept_outs (V := V) (ownsRow_keep OP.out FR.out (fun j hj e => NQ.out j hj e)) HO.out.1 hV w' f
          exact ⟨pa, pc, tva, tvc, by rw [hne]; rfl, HV.out, k3, by rw [hne] at k2; exact k2⟩)
        clear hne
        have K0 := Lib.hid True.intro
        have K1 := Lib.hid True.intro
        go_wp2_with (first | ((with_reducible refine at_list ?_); have mk := K0.out; refine wpList_value rfl (exec_load (ty := 27) rfl rfl R6.out uB rB infoBlk) ?_; go_frame; clear mk K0) | ((with_reducible refine at_store ?_); have mk := K1.out; refine wpList_done rfl (exec_store (ty := 27) (b := w.heap.size + 1) (off := 0) (cs := [.int .u64 b.tag, .slice pa b.pay.length pc, .slice tva n tvc]) rfl rfl rfl (there_obj BZ.out (Nat.le_refl 3)) infoBlk (one3 rfl rfl rfl)) ?_; go_frame; clear mk K1))
        have BE := set3 (cs := [.int .u64 b.tag, .slice pa b.pay.length pc, .slice tva n tvc]) BZ.out rfl
        have fE := setCells_fr (w.heap.size + 1) [.int .u64 b.tag, .slice pa b.pay.length pc, .slice tva n tvc] 0 wr
        refine bodyPost_ret (v := .agg [.int .u64 b.tag, .slice pa b.pay.length pc, .slice tva n tvc].toArray) (results_cell_row (P := Tryd.prog) (fn := Tryd.f32) rfl _ _ (w.heap.size + 1) 27 _ (0, 0) _ rfl BE Tryd.underlying27 rfl infoBlk) rfl ⟨_, rfl, (F2.out.trans0 FW.out).trans fE (fun i hi e => by omega), fun V hV w' f => HXF.out (fun j => V j ∨ j = w.heap.size + 1) (fun j hj => by have := Z2.out; rcases hj with hj | hj; have := hV j hj; omega; omega) w' ((fE.mono (fun j hj => .inr hj)).trans (f.mono (fun j hj => .inl hj)) (fun _ _ h => h))⟩
end Go.Proofs.YtmpamcnlineceaaDoor
