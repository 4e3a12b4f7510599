/- chain: spend. -/
import Derived.Deep.CutRange
import Derived.Test.YtmpamcnlineceaaDoorMG40
import Derived.Test.YtmpamcnlineceaaDoorMG7
import Derived.Test.YtmpamcnlineceaaDoorMG9
import Derived.Test.YtmpamcnlineceaaDoorMG37
set_option linter.unusedVariables false
set_option linter.unusedSimpArgs false
set_option linter.unnecessarySimpa false
set_option linter.all false
namespace Go.Proofs.YtmpamcnlineceaaDoor
open Go Go.RowKit Go.Maps Go.MapKept

theorem kept_coins {w : World} {B : Nat} {v : Value} {l : List CoinD} (h : w.ownsRow B 57 66 v l.length (l.flatMap coinC)) (ok : ∀ x ∈ l, x.ok) {V : Nat → Prop} (hV : ∀ j, v.ownBlock = some j → ¬ V j) : Kept V w (fun w => CoinsIs w v l) :=
  fun w' f => ⟨ok, (ownsRow_keep h f hV).slice.arg⟩
def SpOk (w0 w : World) (s : Nat) (U : Nat → Prop) (S : List CoinD) (t : TxD) (e : Ending) (w' : World) : Prop :=
  ∃ ta tn tc ma mn mc, e = .returned (.tuple #[.agg #[.slice ta tn tc, .slice ma mn mc], .int .i64 (spE S t)]) ∧ CS w0 w' s U (spS S t) ∧ Fr U w w' ∧ (spE S t = 0 → ∀ V : Nat → Prop, (∀ j, V j → j < w.heap.size) → Kept V w' (fun w => ChgQ w (spG S t) [.slice ta tn tc, .slice ma mn mc]))
theorem sp_bad {w0 w w' : World} {s : Nat} {U : Nat → Prop} {S : List CoinD} {t : TxD} {E : Int} (h : spE S t = E) (hE : E ≠ 0) (hs : CS w0 w' s U S) (f : Fr U w w') (ta : Option Addr) (tn tc : Nat) (ma : Option Addr) (mn mc : Nat) : SpOk w0 w s U S t (.returned (.tuple #[.agg #[.slice ta tn tc, .slice ma mn mc], .int .i64 E])) w' :=
  ⟨ta, tn, tc, ma, mn, mc, by rw [h], by unfold spS; rw [if_neg (by rw [h]; exact hE)]; exact hs, f, fun e => absurd (h.symm.trans e) hE⟩
theorem one2 {a b : Value} (h1 : a.oneCell' = true) (h2 : b.oneCell' = true) : ∀ u ∈ [a, b], u.oneCell' = true := fun u hu => by
  simp only [List.mem_cons, List.not_mem_nil, or_false] at hu
  rcases hu with rfl | rfl
  · exact h1
  · exact h2
/-- An output found, in a new cell. -/
def NewOut (w2 : World) (x : OutD) (h : Bool) (s10 s11 : Value) (wc : World) : Prop :=
  ∃ qo, s10 = .pointer (some ⟨qo, 0, none⟩) ∧ s11 = .bool h ∧ w2.heap.size ≤ qo ∧ Fr No w2 wc ∧ wc.heap[qo]? = some (.cells (outC x).toArray 55 (0, 0))
def SpL (w1 : World) (q6 : Nat) (S : List CoinD) (t : TxD) (n : Nat) (pv : Value) (wr : World) : Prop :=
  ∃ tv, (∀ q ∈ (ptsD t).take n, hasC S q = true) ∧ wr.ownsRow w1.heap.size 55 33 pv n (((prevD S t).take n).flatMap outC) ∧ wr.heap[q6]? = some (.cells #[tv, .slice none 0 0] 115 (0, 0)) ∧
    wr.ownsRow w1.heap.size 57 66 tv n (((tookD S t).take n).flatMap coinC) ∧ (∀ j, pv.ownBlock = some j → tv.ownBlock = some j → False) ∧ Fr (fun j => j = q6) w1 wr
theorem take_flatO {α : Type} (f : α → List Value) {L : List α} {n : Nat} {x : α} (h : L[n]? = some x) : (L.take (n + 1)).flatMap f = (L.take n).flatMap f ++ f x := by
  rw [List.take_add_one, h]
  simp
theorem set2 {w : World} {q : Nat} {T : TypeId} {z cs : List Value} (h : w.heap[q]? = some (.cells z.toArray T (0, 0))) (hl : z.length = cs.length) : (w.setCells q 0 cs).heap[q]? = some (.cells cs.toArray T (0, 0)) := set3 h hl
set_option maxRecDepth 20000 in
set_option maxHeartbeats 8000000 in
theorem spend_any {w0 w : World} (hg : ShaW w) {p s : Nat} {bv mv : Value} {U : Nat → Prop} {S : List CoinD} (hob : w.heap[p]? = some (.cells #[.pointer (some ⟨s, 0, none⟩), bv, mv] 92 (0, 0))) (hpU : ¬ U p) (hs : CS w0 w s U S) {t : TxD} {cs : List Value} (ht : Kept U w (fun w => TxQ w t cs)) (hc : checkE t = 0) (hN : S.length ≤ 90000) :
    Calls Tryd.prog 47 #[.pointer (some ⟨p, 0, none⟩), .agg cs.toArray] w (SpOk w0 w s U S t) := by
  obtain ⟨ia, ic, oa, oc, rfl⟩ := ht.now.form
  obtain ⟨c1, c2, c3, c4, -, -⟩ := check0 hc
  have f8 := form8 c1
  have OKS := Lib.hid ht.now.oks
  obtain ⟨dT, uT, rT⟩ := descTx
  obtain ⟨dP, uP, rP⟩ := descPoint
  obtain ⟨dO, uO, rO⟩ := descOut
  obtain ⟨dC, uC, rC⟩ := descCoin
  obtain ⟨dG, uG, rG⟩ := descChg
  have zG := zeroChg
  have zP := zeroPoint
  have zO := zeroOutC
  have zC := zeroCoin
  have f1 : Fr No w (w.alloc (.cells #[.int .u32 t.ver, .slice ia t.ins.length ic, .slice oa t.outs.length oc] 41)) := (Fr.refl No w).alloc _
  have f2 : Fr No (w.alloc (.cells #[.int .u32 t.ver, .slice ia t.ins.length ic, .slice oa t.outs.length oc] 41)) ((w.alloc (.cells #[.int .u32 t.ver, .slice ia t.ins.length ic, .slice oa t.outs.length oc] 41)).alloc (.cells #[.slice none 0 0, .slice none 0 0] 115)) := (Fr.refl No _).alloc _
  have f3 : Fr No ((w.alloc (.cells #[.int .u32 t.ver, .slice ia t.ins.length ic, .slice oa t.outs.length oc] 41)).alloc (.cells #[.slice none 0 0, .slice none 0 0] 115)) (((w.alloc (.cells #[.int .u32 t.ver, .slice ia t.ins.length ic, .slice oa t.outs.length oc] 41)).alloc (.cells #[.slice none 0 0, .slice none 0 0] 115)).alloc (.cells #[.slice none 0 0, .slice none 0 0] 115)) := (Fr.refl No _).alloc _
  have R0 := Lib.hid (range_keep (range_keep (tx_new w t.ver (.slice ia t.ins.length ic) (.slice oa t.outs.length oc)).2.2.2 f2 _root_.id) f3 _root_.id)
  have B4 := Lib.hid (f3.obj (new_obj' (w.alloc (.cells #[.int .u32 t.ver, .slice ia t.ins.length ic, .slice oa t.outs.length oc] 41)) (.cells #[.slice none 0 0, .slice none 0 0] 115) (n := w.heap.size + 1) (by simp)) _root_.id)
  have B6 := Lib.hid (new_obj' ((w.alloc (.cells #[.int .u32 t.ver, .slice ia t.ins.length ic, .slice oa t.outs.length oc] 41)).alloc (.cells #[.slice none 0 0, .slice none 0 0] 115)) (.cells #[.slice none 0 0, .slice none 0 0] 115) (n := w.heap.size + 1 + 1) (by simp))
  have Z3 := Lib.hid (show (((w.alloc (.cells #[.int .u32 t.ver, .slice ia t.ins.length ic, .slice oa t.outs.length oc] 41)).alloc (.cells #[.slice none 0 0, .slice none 0 0] 115)).alloc (.cells #[.slice none 0 0, .slice none 0 0] 115)).heap.size = w.heap.size + 3 by simp)
  have F3 := Lib.hid ((f1.trans0 f2).trans0 f3)
  have HT3 := Lib.hid (ht.same F3.out.of0)
  have PTS := Lib.hid (points_any _ HT3.out.now (by omega))
  have HTW := Lib.hid ht
  have HT0 := Lib.hid (show ∀ w', Fr U w w' → TxQ w' t [.int .u32 t.ver, .slice ia t.ins.length ic, .slice oa t.outs.length oc] from fun w' f => ht w' f)
  have HOB := Lib.hid hob
  have HPU := Lib.hid hpU
  have HS := Lib.hid hs
  have HG := Lib.hid hg
  have HC := Lib.hid hc
  have HF := Lib.hid c1
  have HND := Lib.hid c4
  have F8 := Lib.hid f8
  have f81 := f8.1
  have f82 := f8.2
  have HNN := Lib.hid hN
  have PL := Lib.hid (obj_lt hob)
  have UL := Lib.hid hs.hi
  have TIO := Lib.hid (ptsD_len t)
  clear f1 f2 f3 ht hob hpU hs hg hc c1 c2 c3 c4 f8 hN
  show Calls Tryd.prog 47 #[.pointer (some ⟨p, 0, none⟩), .agg #[.int .u32 t.ver, .slice ia t.ins.length ic, .slice oa t.outs.length oc]] w _
  go_enter Tryd.func47, Tryd.ntmps47
  have K0 := Lib.hid True.intro
  have K1 := Lib.hid True.intro
  go_wp2_with (first | ((with_reducible refine at_list ?_); have mk := K0.out; refine wpList_value rfl (exec_load (ty := 41) rfl rfl R0.out uT rT infoTx) ?_; generalize (((w.alloc (.cells #[.int .u32 t.ver, .slice ia t.ins.length ic, .slice oa t.outs.length oc] 41)).alloc (.cells #[.slice none 0 0, .slice none 0 0] 115)).alloc (.cells #[.slice none 0 0, .slice none 0 0] 115)) = w3 at *; go_frame; clear mk K0) | (have mk := K1.out; go_at_call 26; refine PTS.out.mono ?_; rintro e w4 ⟨pv0, rfl, o4, f4⟩; have O4 := Lib.hid o4; have F4 := Lib.hid f4; obtain ⟨pva, pvc, hpv⟩ := o4.slice.arg.form; subst hpv; clear o4 f4; go_frame; clear mk K1))
  obtain ⟨q6, hq6⟩ : ∃ q, q = w.heap.size + 1 + 1 := ⟨_, rfl⟩
  rw [← hq6] at B6 ⊢
  obtain ⟨q4, hq4⟩ : ∃ q, q = w.heap.size + 1 := ⟨_, rfl⟩
  rw [← hq4] at B4 ⊢
  have Q4 := Lib.hid hq4
  have Q6 := Lib.hid (show q6 = w.heap.size + 2 from hq6)
  clear hq4 hq6
  have F04 := Lib.hid (F3.out.trans0 F4.out)
  have B44 := Lib.hid (F4.out.obj B4.out _root_.id)
  have B64 := Lib.hid (F4.out.obj B6.out _root_.id)
  have R04 := Lib.hid (range_keep R0.out F4.out _root_.id)
  have Z4 := Lib.hid F4.out.size
  go_loopw [7, 22] (fun pv iv wr => ∃ n : Nat, iv = .int .i64 n ∧ n ≤ t.ins.length ∧ SpL w4 q6 S t n pv wr) (fun _ iv _ => t.ins.length - (intOf iv).toNat)
  case atStart => exact ⟨0, rfl, Nat.zero_le _, .slice none 0 0, (fun q hq => by simp at hq), World.ownsRow_nil _ _ _ 33, B64.out, World.ownsRow_nil _ _ _ 66, (fun j e => by cases e), Fr.refl _ _⟩
  case round =>
    obtain ⟨n, rfl, hn, tv, hall, opv, bq6, otv, hdis, fr⟩ := hrel
    have FR := Lib.hid fr
    have ALL := Lib.hid hall
    have OPV := Lib.hid opv
    have BQ6 := Lib.hid bq6
    have OTV := Lib.hid otv
    have DIS := Lib.hid hdis
    obtain ⟨pa, pc, hpa⟩ := opv.slice.arg.form
    subst hpa
    obtain ⟨ta, tc, hta⟩ := otv.slice.arg.form
    subst hta
    have FW := Lib.hid (show Fr No w wr from F04.out.trans fr (fun j hj e => by have := Q6.out; omega))
    have HSR := Lib.hid (HS.out.fr0 FW.out)
    have HOBR := Lib.hid (FW.out.obj HOB.out _root_.id)
    have B4R := Lib.hid (fr.obj B44.out (fun e => by have := Q4.out; have := Q6.out; omega))
    have R0R := Lib.hid (range_keep R04.out fr (fun e => by have := Q6.out; omega))
    clear hall opv bq6 otv hdis fr
    by_cases hlt : n < t.ins.length
    · have i1 : (n : Int) < (t.ins.length : Int) := by omega
      obtain ⟨q, hx⟩ : ∃ x, (ptsD t)[n]? = some x := ⟨_, List.getElem?_eq_getElem (by rw [TIO.out]; exact hlt)⟩
      have HX := Lib.hid hx
      have QOK := Lib.hid (show q.ok from by
        obtain ⟨x, hx1, hx2⟩ := List.mem_map.1 (List.mem_of_getElem? hx)
        rw [← hx2]
        exact OKS.out.1 x hx1)
      have QLEN := Lib.hid (pointC_len QOK.out)
      obtain ⟨g, cap, hv, hr, -⟩ := own_elem (f := pointC) (k := 33) (L := ptsD t) (by decide) (fun x hx => by
        obtain ⟨y, hy1, hy2⟩ := List.mem_map.1 hx
        rw [← hy2]
        exact pointC_len (OKS.out.1 y hy1)) (ownsRow_keep O4.out FR.out (fun j hj e => by have := (O4.out.lt j hj).1; have := Q6.out; have := Z3.out; omega)) hx
      cases hv
      have R1 := Lib.hid hr
      have FA := Lib.hid ((Fr.refl No wr).alloc (.cells (pointC q).toArray 47))
      have RQ := Lib.hid (range_new wr (pointC q) 47)
      have QA := Lib.hid (show (wr.alloc (.cells (pointC q).toArray 47)).heap.size = wr.heap.size + 1 by simp)
      have XOK := Lib.hid (outOf_ok HSR.out.ok q)
      have XL := Lib.hid (outC_len XOK.out)
      clear hx hr
      have K0 := Lib.hid True.intro
      have K1 := Lib.hid True.intro
      go_wp2_with (first | ((with_reducible refine at_list ?_); have mk := K0.out; refine wpList_value rfl (exec_load (ty := 47) rfl rfl R1.out uP rP (by rw [QLEN.out]; exact infoPoint)) ?_; go_frame; clear mk K0) | ((with_reducible refine at_store ?_); have mk := K1.out; refine wpList_done rfl (exec_store_new (w := wr) (ty := 47) (cs := pointC q) rfl rfl rfl (by rw [QLEN.out]; rfl) (by rw [QLEN.out]; exact infoPoint) pointC_one) ?_; generalize wr.alloc (.cells (pointC q).toArray 47) = wA at *; go_frame; clear mk K1))
      have CPA := Lib.hid (show wA.cell? ⟨p, 0, none⟩ = some (.pointer (some ⟨s, 0, none⟩)) from by have := range_obj (FA.out.obj HOBR.out _root_.id) 0 _ rfl; simpa using this)
      have HSA := Lib.hid (HSR.out.fr0 FA.out)
      go_cut [10, 11] from 26 to 34 (fun s10 s11 wc => NewOut wA (outOf S q) (hasC S q) s10 s11 wc)
      case first =>
        have FD := Lib.hid (Fr.refl No wA).drew
        have CPD := Lib.hid (FD.out.cell CPA.out _root_.id)
        have RQD := Lib.hid (range_keep RQ.out FD.out _root_.id)
        have HSD := Lib.hid (HSA.out.fr0 FD.out)
        have ZD := Lib.hid (show wA.drew.heap.size = wA.heap.size from rfl)
        refine wp_region_lexT 12 [0, 1, 2, 3, 4, 5, 6, 7, 8, 9, 10, 11] (fun w' => w'.cell? ⟨p, 0, none⟩ = some (.pointer (some ⟨s, 0, none⟩)) ∧ w'.rangeAt wr.heap.size 0 (pointC q)) (by kernel_rfl) (by kernel_rfl) (by kernel_rfl) (by kernel_rfl) ?_ (fun K hK => ?_)
        · exact ⟨CPD.out, RQD.out⟩
        generalize wA.drew = w5 at *
        (((first | (refine lexT_rd 0 (by kernel_rfl) rfl rfl ?_; apply Exists.intro; refine ⟨?_, ?_⟩; (focus (first | exact lex_load (ty := 47) rfl (fun w h => h.2) uP rP (by rw [QLEN.out]; exact infoPoint) | (intro w' hS; obtain ⟨s1, s2⟩ := hS; go_simp; (try with_reducible rfl); done)))) | (refine lexT_sk 0 (by kernel_rfl) rfl rfl ?_)); try simp only [Act.put, List.setIfInBounds_toArray, List.set_cons_zero, List.set_cons_succ]); ((first | (refine lexT_rd 1 (by kernel_rfl) rfl rfl ?_; apply Exists.intro; refine ⟨?_, ?_⟩; (focus (first | exact lex_load (ty := 47) rfl (fun w h => h.2) uP rP (by rw [QLEN.out]; exact infoPoint) | (intro w' hS; obtain ⟨s1, s2⟩ := hS; go_simp; (try with_reducible rfl); done)))) | (refine lexT_sk 1 (by kernel_rfl) rfl rfl ?_)); try simp only [Act.put, List.setIfInBounds_toArray, List.set_cons_zero, List.set_cons_succ]); ((first | (refine lexT_rd 2 (by kernel_rfl) rfl rfl ?_; apply Exists.intro; refine ⟨?_, ?_⟩; (focus (first | exact lex_load (ty := 47) rfl (fun w h => h.2) uP rP (by rw [QLEN.out]; exact infoPoint) | (intro w' hS; obtain ⟨s1, s2⟩ := hS; go_simp; (try with_reducible rfl); done)))) | (refine lexT_sk 2 (by kernel_rfl) rfl rfl ?_)); try simp only [Act.put, List.setIfInBounds_toArray, List.set_cons_zero, List.set_cons_succ]); ((first | (refine lexT_rd 3 (by kernel_rfl) rfl rfl ?_; apply Exists.intro; refine ⟨?_, ?_⟩; (focus (first | exact lex_load (ty := 47) rfl (fun w h => h.2) uP rP (by rw [QLEN.out]; exact infoPoint) | (intro w' hS; obtain ⟨s1, s2⟩ := hS; go_simp; (try with_reducible rfl); done)))) | (refine lexT_sk 3 (by kernel_rfl) rfl rfl ?_)); try simp only [Act.put, List.setIfInBounds_toArray, List.set_cons_zero, List.set_cons_succ]); ((first | (refine lexT_rd 4 (by kernel_rfl) rfl rfl ?_; apply Exists.intro; refine ⟨?_, ?_⟩; (focus (first | exact lex_load (ty := 47) rfl (fun w h => h.2) uP rP (by rw [QLEN.out]; exact infoPoint) | (intro w' hS; obtain ⟨s1, s2⟩ := hS; go_simp; (try with_reducible rfl); done)))) | (refine lexT_sk 4 (by kernel_rfl) rfl rfl ?_)); try simp only [Act.put, List.setIfInBounds_toArray, List.set_cons_zero, List.set_cons_succ]))
        refine lexT_ef2 5 9 (by kernel_rfl) rfl rfl rfl rfl (fun K' hK' => ?_) (fun K' hK' => ?_)
        · go_simp
          refine (find_C HSD.out QOK.out).mono ?_
          rintro e w6 ⟨rfl, f6⟩
          have F6 := Lib.hid f6
          clear f6
          refine hK'.out _ _ ?_ (fun hS => ?_)
          · exact ⟨F6.out.cell CPD.out _root_.id, range_keep RQD.out F6.out _root_.id⟩
          try simp only [Act.put, List.setIfInBounds_toArray, List.set_cons_zero, List.set_cons_succ]
          (((first | (refine lexT_rd 6 (by kernel_rfl) rfl rfl ?_; apply Exists.intro; refine ⟨?_, ?_⟩; (focus (first | (intro w' hS; obtain ⟨s1, s2⟩ := hS; go_simp; (try with_reducible rfl); done)))) | (refine lexT_sk 6 (by kernel_rfl) rfl rfl ?_)); try simp only [Act.put, List.setIfInBounds_toArray, List.set_cons_zero, List.set_cons_succ]); ((first | (refine lexT_rd 7 (by kernel_rfl) rfl rfl ?_; apply Exists.intro; refine ⟨?_, ?_⟩; (focus (first | (intro w' hS; obtain ⟨s1, s2⟩ := hS; go_simp; (try with_reducible rfl); done)))) | (refine lexT_sk 7 (by kernel_rfl) rfl rfl ?_)); try simp only [Act.put, List.setIfInBounds_toArray, List.set_cons_zero, List.set_cons_succ]); ((first | (refine lexT_rd 8 (by kernel_rfl) rfl rfl ?_; apply Exists.intro; refine ⟨?_, ?_⟩; (focus (first | (intro w' hS; obtain ⟨s1, s2⟩ := hS; go_simp; (try with_reducible rfl); done)))) | (refine lexT_sk 8 (by kernel_rfl) rfl rfl ?_)); try simp only [Act.put, List.setIfInBounds_toArray, List.set_cons_zero, List.set_cons_succ]))
          refine lexT_ef1 9 (by kernel_rfl) rfl rfl (fun K' hK' => ?_)
          refine wp_value (exec_alloc rfl (zeroOutC _)) ?_
          have F7 := Lib.hid ((Fr.refl No w6).alloc (.cells (outC out0).toArray 55))
          refine hK'.out _ _ ?_ (fun hS => ?_)
          · exact ⟨F7.out.cell (F6.out.cell CPD.out _root_.id) _root_.id, range_keep (range_keep RQD.out F6.out _root_.id) F7.out _root_.id⟩
          try simp only [Act.put, List.setIfInBounds_toArray, List.set_cons_zero, List.set_cons_succ]
          refine lexT_ef1 10 (by kernel_rfl) rfl rfl (fun K' hK' => ?_)
          refine wp_done (exec_store_new (w := w6) (ty := 55) (cs := outC (outOf S q)) rfl rfl rfl (by rw [XL.out]; rfl) (by rw [XL.out]; exact infoOut) outC_one) ?_
          have F8' := Lib.hid ((Fr.refl No w6).alloc (.cells (outC (outOf S q)).toArray 55))
          refine hK'.out _ _ ?_ (fun hS => ?_)
          · exact ⟨F8'.out.cell (F6.out.cell CPD.out _root_.id) _root_.id, range_keep (range_keep RQD.out F6.out _root_.id) F8'.out _root_.id⟩
          try simp only [Act.put, List.setIfInBounds_toArray, List.set_cons_zero, List.set_cons_succ]
          (((first | (refine lexT_rd 11 (by kernel_rfl) rfl rfl ?_; apply Exists.intro; refine ⟨?_, ?_⟩; (focus (first | (intro w' hS; obtain ⟨s1, s2⟩ := hS; go_simp; (try with_reducible rfl); done)))) | (refine lexT_sk 11 (by kernel_rfl) rfl rfl ?_)); try simp only [Act.put, List.setIfInBounds_toArray, List.set_cons_zero, List.set_cons_succ]))
          refine lexT_nil (hK.out _ _ ?_)
          go_wp2_with fail
          go_meet
          case rel => exact ⟨w6.heap.size, rfl, rfl, by have := F6.out.size; have := ZD.out; omega, FD.out.trans0 (F6.out.trans0 F8'.out), new_obj w6 (.cells (outC (outOf S q)).toArray 55)⟩
        · refine wp_value (exec_alloc rfl (zeroOutC _)) ?_
          have F7 := Lib.hid ((Fr.refl No w5).alloc (.cells (outC out0).toArray 55))
          have B7 := Lib.hid (new_obj w5 (.cells (outC out0).toArray 55))
          generalize w5.alloc (.cells (outC out0).toArray 55) = w6 at *
          generalize hqo : w5.heap.size = qo at *
          refine hK'.out _ _ ?_ (fun hS => ?_)
          · exact ⟨F7.out.cell CPD.out _root_.id, range_keep RQD.out F7.out _root_.id⟩
          try simp only [Act.put, List.setIfInBounds_toArray, List.set_cons_zero, List.set_cons_succ]
          refine lexT_ef1 5 (by kernel_rfl) rfl rfl (fun K' hK' => ?_)
          go_simp
          refine (find_C (HSD.out.fr0 F7.out) QOK.out).mono ?_
          rintro e w7 ⟨rfl, f7⟩
          have F7b := Lib.hid (F7.out.trans0 f7)
          have B7b := Lib.hid (f7.obj B7.out _root_.id)
          clear f7
          refine hK'.out _ _ ?_ (fun hS => ?_)
          · exact ⟨F7b.out.cell CPD.out _root_.id, range_keep RQD.out F7b.out _root_.id⟩
          try simp only [Act.put, List.setIfInBounds_toArray, List.set_cons_zero, List.set_cons_succ]
          (((first | (refine lexT_rd 6 (by kernel_rfl) rfl rfl ?_; apply Exists.intro; refine ⟨?_, ?_⟩; (focus (first | (intro w' hS; obtain ⟨s1, s2⟩ := hS; go_simp; (try with_reducible rfl); done)))) | (refine lexT_sk 6 (by kernel_rfl) rfl rfl ?_)); try simp only [Act.put, List.setIfInBounds_toArray, List.set_cons_zero, List.set_cons_succ]); ((first | (refine lexT_rd 7 (by kernel_rfl) rfl rfl ?_; apply Exists.intro; refine ⟨?_, ?_⟩; (focus (first | (intro w' hS; obtain ⟨s1, s2⟩ := hS; go_simp; (try with_reducible rfl); done)))) | (refine lexT_sk 7 (by kernel_rfl) rfl rfl ?_)); try simp only [Act.put, List.setIfInBounds_toArray, List.set_cons_zero, List.set_cons_succ]); ((first | (refine lexT_rd 8 (by kernel_rfl) rfl rfl ?_; apply Exists.intro; refine ⟨?_, ?_⟩; (focus (first | (intro w' hS; obtain ⟨s1, s2⟩ := hS; go_simp; (try with_reducible rfl); done)))) | (refine lexT_sk 8 (by kernel_rfl) rfl rfl ?_)); try simp only [Act.put, List.setIfInBounds_toArray, List.set_cons_zero, List.set_cons_succ]))
          refine lexT_ef1 10 (by kernel_rfl) rfl rfl (fun K' hK' => ?_)
          refine wp_done (exec_store (ty := 55) (b := qo) (off := 0) (cs := outC (outOf S q)) rfl rfl rfl (by rw [XL.out]; exact there_obj B7b.out (Nat.le_of_eq out0_size.symm)) (by rw [XL.out]; exact infoOut) outC_one) ?_
          have F9 := Lib.hid (show Fr No w5 (w7.setCells qo 0 (outC (outOf S q))) from F7b.out.trans (setCells_fr _ _ _ _) (fun i hi e => by omega))
          refine hK'.out _ _ ?_ (fun hS => ?_)
          · exact ⟨F9.out.cell CPD.out _root_.id, range_keep RQD.out F9.out _root_.id⟩
          try simp only [Act.put, List.setIfInBounds_toArray, List.set_cons_zero, List.set_cons_succ]
          (((first | (refine lexT_rd 11 (by kernel_rfl) rfl rfl ?_; apply Exists.intro; refine ⟨?_, ?_⟩; (focus (first | (intro w' hS; obtain ⟨s1, s2⟩ := hS; go_simp; (try with_reducible rfl); done)))) | (refine lexT_sk 11 (by kernel_rfl) rfl rfl ?_)); try simp only [Act.put, List.setIfInBounds_toArray, List.set_cons_zero, List.set_cons_succ]))
          refine lexT_nil (hK.out _ _ ?_)
          go_wp2_with fail
          go_meet
          case rel => exact ⟨qo, rfl, rfl, by have := ZD.out; omega, FD.out.trans0 F9.out, set3 (cs := outC (outOf S q)) B7b.out (by rw [XL.out, outC_len out0_ok])⟩
      case rest =>
        rename World => wc
        obtain ⟨qo, rfl, rfl, hqo, fc, bqo⟩ := hcut
        have FC := Lib.hid (FA.out.trans0 fc)
        have RO := Lib.hid (range_obj bqo)
        have RQC := Lib.hid (range_keep RQ.out fc _root_.id)
        have BQC := Lib.hid (FC.out.obj BQ6.out _root_.id)
        have OPC := Lib.hid (ownsRow_keep OPV.out FC.out (fun _ _ => _root_.id))
        have OTC := Lib.hid (ownsRow_keep OTV.out FC.out (fun _ _ => _root_.id))
        have HSC := Lib.hid (HSR.out.fr0 FC.out)
        have BZ := Lib.hid (FC.out.obj B4R.out _root_.id)
        have QO := Lib.hid hqo
        clear fc bqo hqo
        by_cases hq : hasC S q = true
        rotate_left
        · have hq2 : hasC S q = false := by simpa using hq
          have HE := Lib.hid (show spE S t = 15 by
            unfold spE
            rw [if_neg]
            intro h
            exact hq (List.all_eq_true.1 h q (List.mem_of_getElem? HX.out)))
          have R6 := Lib.hid (range_obj BQC.out)
          clear hq
          have K0 := Lib.hid True.intro
          have K1 := Lib.hid True.intro
          go_wp2_with (first | ((with_reducible refine at_list ?_); have mk := K0.out; refine wpList_value rfl (exec_load (ty := 115) rfl rfl R6.out uG rG infoChg) ?_; go_frame; clear mk K0) | ((with_reducible refine at_store ?_); have mk := K1.out; refine wpList_done rfl (exec_store (ty := 115) (b := q4) (off := 0) (cs := [.slice ta n tc, .slice none 0 0]) rfl rfl rfl (there_obj BZ.out (Nat.le_refl 2)) infoChg (one2 rfl rfl)) ?_; go_frame; clear mk K1))
          have fE := setCells_fr q4 [.slice ta n tc, .slice none 0 0] 0 wc
          refine bodyPost_ret (results_row_tmp (P := Tryd.prog) (fn := Tryd.f47) rfl _ rfl (range_set BZ.out rfl) uG rG infoChg rfl) rfl (sp_bad HE.out (by decide) ((HSC.out.frV fE (fun j hj e => by have := UL.out j hj; have := Q4.out; omega) (fun j e => by have := HS.out.fr.size; have := Q4.out; omega))) ((FW.out.trans0 FC.out).of0.trans fE (fun j hj e => by have := Q4.out; omega)) _ _ _ _ _ _)
        · have HXP := Lib.hid (show (prevD S t)[n]? = some (outOf S q) by simp [prevD, HX.out])
          have HXT := Lib.hid (show (tookD S t)[n]? = some ⟨q, outOf S q⟩ by simp [tookD, HX.out])
          have COK := Lib.hid (show (⟨q, outOf S q⟩ : CoinD).ok from ⟨QOK.out, XOK.out⟩)
          have CL := Lib.hid (coinC_len COK.out)
          obtain ⟨v5, w5, a1, a2, a3, -, a5⟩ := append_blk (P := Tryd.prog) wc w4.heap.size 22 22 55 33 40 _ undOuts infoOutZ (by rw [← out0_size]; rfl) (by decide) OPC.out (outC (outOf S q)) XL.out outC_one (by omega) (by unfold maxLen; omega) (by have := FR.out.size; have := FC.out.size; omega)
          obtain ⟨va5, vc5, hv5⟩ := a2.slice.arg.form
          subst hv5
          have A1 := Lib.hid a1
          have O5 := Lib.hid (show w5.ownsRow w4.heap.size 55 33 (.slice va5 (n + 1) vc5) (n + 1) (((prevD S t).take (n + 1)).flatMap outC) by rw [take_flatO outC HXP.out]; exact a2)
          have NB := Lib.hid (show ∀ j, (Value.slice pa n pc).ownBlock = some j → w4.heap.size ≤ j ∧ j < wc.heap.size ∧ j ≠ q6 from fun j hj => ⟨(OPC.out.lt j hj).1, (OPC.out.lt j hj).2, fun e => by have := (OPC.out.lt j hj).1; have := obj_lt B64.out; omega⟩)
          have NT := Lib.hid (show ∀ j, (Value.slice ta n tc).ownBlock = some j → w4.heap.size ≤ j ∧ j < wc.heap.size ∧ j ≠ q6 from fun j hj => ⟨(OTC.out.lt j hj).1, (OTC.out.lt j hj).2, fun e => by have := (OTC.out.lt j hj).1; have := obj_lt B64.out; omega⟩)
          have F5 := Lib.hid a3
          have F5b := Lib.hid (show Fr (fun j => j = q6) w4 w5 from (FR.out.trans0 FC.out).trans a3 (fun j hj e => by have := (NB.out j e).1; omega))
          have B65 := Lib.hid (a3.obj BQC.out (fun e => (NB.out _ e).2.2 rfl))
          have OT5 := Lib.hid (ownsRow_keep OTC.out a3 (fun j hj e => DIS.out j e hj))
          have RO5 := Lib.hid (range_keep RO.out a3 (fun e => by
            have h1 := (OPV.out.lt _ e).2
            have := QO.out
            have := QA.out
            omega))
          have RQ5 := Lib.hid (range_keep RQC.out a3 (fun e => by
            have h1 : wr.heap.size < wr.heap.size := (OPV.out.lt _ e).2
            omega))
          have DIS5 := Lib.hid (show ∀ j, (Value.slice va5 (n + 1) vc5).ownBlock = some j → (Value.slice ta n tc).ownBlock = some j → False from fun j h1 h2 => (a5 j h1).elim (fun h => DIS.out j h h2) (fun h => by have := (NT.out j h2).2.1; omega))
          clear a1 a2 a3 a5
          obtain ⟨v6, w6, b1, b2, b3, -, b5⟩ := append_blk (P := Tryd.prog) w5 w4.heap.size 51 51 57 66 80 _ undCoins infoCoinZ (by show (coinC coin0).toArray.size = 66; rfl) (by decide) OT5.out (coinC ⟨q, outOf S q⟩) CL.out coinC_one (by omega) (by unfold maxLen; omega) (by have := F5b.out.size; omega)
          obtain ⟨va6, vc6, hv6⟩ := b2.slice.arg.form
          subst hv6
          have B1 := Lib.hid b1
          have O6 := Lib.hid (show w6.ownsRow w4.heap.size 57 66 (.slice va6 (n + 1) vc6) (n + 1) (((tookD S t).take (n + 1)).flatMap coinC) by rw [take_flatO coinC HXT.out]; exact b2)
          have F6b := Lib.hid (show Fr (fun j => j = q6) w4 w6 from F5b.out.trans b3 (fun j hj e => by have := (NT.out j e).1; omega))
          have B66 := Lib.hid (b3.obj B65.out (fun e => (NT.out _ e).2.2 rfl))
          have OP6 := Lib.hid (ownsRow_keep O5.out b3 (fun j hj e => DIS5.out j hj e))
          have DIS6 := Lib.hid (show ∀ j, (Value.slice va5 (n + 1) vc5).ownBlock = some j → (Value.slice va6 (n + 1) vc6).ownBlock = some j → False from fun j h1 h2 => (b5 j h2).elim (fun h => DIS5.out j h1 h) (fun h => by have := (O5.out.lt j h1).2; omega))
          have NV6 := Lib.hid (show ∀ j, (Value.slice va6 (n + 1) vc6).ownBlock = some j → j ≠ q6 from fun j hj e => by have := (O6.out.lt j hj).1; have := obj_lt B64.out; omega)
          have NV5 := Lib.hid (show ∀ j, (Value.slice va5 (n + 1) vc5).ownBlock = some j → j ≠ q6 from fun j hj e => by have := (O5.out.lt j hj).1; have := obj_lt B64.out; omega)
          have cA : w5.cell? ⟨q6, 0, none⟩ = some (.slice ta n tc) := by have := range_obj B65.out 0 _ rfl; simpa using this
          have cB : w6.cell? ⟨q6, 0, none⟩ = some (.slice ta n tc) := by have := range_obj B66.out 0 _ rfl; simpa using this
          have fB := u32_unfrozen (i := 0) B66.out
          have B67 := Lib.hid (heap_setCell_same w6 q6 0 _ _ (.slice va6 (n + 1) vc6) B66.out)
          have fs : Fr (fun j => j = q6) w6 (w6.setCell ⟨q6, 0, none⟩ (.slice va6 (n + 1) vc6)) := (Fr.refl (fun j => j = q6) w6).setCell ⟨q6, 0, none⟩ (.inr rfl) _
          have FS := Lib.hid fs
          have ALLN := Lib.hid (show ∀ y ∈ (ptsD t).take (n + 1), hasC S y = true from fun y hy => by
            rw [List.take_add_one, HX.out] at hy
            rcases List.mem_append.1 hy with hy | hy
            · exact ALL.out y hy
            · simp at hy; subst hy; exact hq)
          clear b1 b2 b3 b5 fs
          have K0 := Lib.hid True.intro
          have K1 := Lib.hid True.intro
          have K2 := Lib.hid True.intro
          have K3 := Lib.hid True.intro
          have K4 := Lib.hid True.intro
          have K5 := Lib.hid True.intro
          have K6 := Lib.hid True.intro
          have K7 := Lib.hid True.intro
          go_wp2_with (first | ((with_reducible refine at_list ?_); have mk := K0.out; refine wpList_value rfl (exec_load (ty := 55) rfl rfl RO.out uO rO (by rw [List.toList_toArray, XL.out]; exact infoOut)) ?_; go_frame; clear mk K0) | ((with_reducible refine at_list ?_); have mk := K1.out; refine wpList_value rfl (exec_buildSliceA (t := 22) rfl rfl undOuts infoOutZ2 (by rw [← out0_size]; rfl) (by decide) (by decide) XL.out) ?_; go_frame; clear mk K1) | ((with_reducible refine at_list ?_); have mk := K2.out; at_builtin; refine wpList_append_run rfl rfl rfl rfl A1.out ?_; go_frame; clear mk K2) | ((with_reducible refine at_list ?_); have mk := K3.out; refine wpList_value rfl (exec_load (ty := 47) rfl rfl RQ5.out uP rP (by rw [QLEN.out]; exact infoPoint)) ?_; go_frame; clear mk K3) | ((with_reducible refine at_list ?_); have mk := K4.out; refine wpList_value rfl (exec_load (ty := 55) rfl rfl RO5.out uO rO (by rw [List.toList_toArray, XL.out]; exact infoOut)) ?_; go_frame; clear mk K4) | ((with_reducible refine at_list ?_); have mk := K5.out; refine wpList_value rfl (exec_build (t := 57) (vs := [(0, .agg (pointC q).toArray), (1, .agg (outC (outOf S q)).toArray)]) rfl rfl placesCn (fill_cn QOK.out XOK.out) (parts_cn _ _) (by rw [CL.out])) ?_; go_frame; clear mk K5) | ((with_reducible refine at_list ?_); have mk := K6.out; refine wpList_value rfl (exec_buildSliceA (t := 51) rfl rfl undCoins infoCoinZ2 (by show (coinC coin0).toArray.size = 66; rfl) (by decide) (by decide) CL.out) ?_; go_frame; clear mk K6) | ((with_reducible refine at_list ?_); have mk := K7.out; at_builtin; refine wpList_append_run rfl rfl rfl rfl B1.out ?_; go_frame; clear mk K7))
          go_roundw
          case rel => exact ⟨n + 1, by go_num, by omega, _, ALLN.out, ownsRow_keep OP6.out FS.out (fun j hj e => NV5.out j hj e), B67.out, ownsRow_keep O6.out FS.out (fun j hj e => NV6.out j hj e), DIS6.out, F6b.out.trans FS.out (fun _ _ e => e)⟩
          case measure => simp [intOf]; omega
    · have hne : n = t.ins.length := by omega
      subst hne
      clear hlt hn
      have i1 : ¬ (t.ins.length : Int) < (t.ins.length : Int) := by omega
      have HALL := Lib.hid (show (ptsD t).all (hasC S) = true from List.all_eq_true.2 (fun q hq => ALL.out q (by rw [← TIO.out, List.take_length]; exact hq)))
      have OPF := Lib.hid (show wr.ownsRow w4.heap.size 55 33 (.slice pa t.ins.length pc) t.ins.length ((prevD S t).flatMap outC) by have := OPV.out; rw [← prevD_len S t, List.take_length, prevD_len S t] at this; exact this)
      have OTF := Lib.hid (show wr.ownsRow w4.heap.size 57 66 (.slice ta t.ins.length tc) t.ins.length ((tookD S t).flatMap coinC) by have := OTV.out; rw [← tookD_len S t, List.take_length, tookD_len S t] at this; exact this)
      have HTR := Lib.hid (HTW.out.same FW.out.of0)
      have GR := Lib.hid (HG.out.keep0 FW.out)
      have OIR := Lib.hid (show OutsIs wr (.slice pa t.ins.length pc) (prevD S t) from ⟨prevD_ok HS.out.ok t, by rw [prevD_len]; exact OPF.out.slice.arg⟩)
      have FEE := Lib.hid (feeof_any GR.out HTR.out.now OIR.out (by rw [prevD_len]; omega))
      have NT := Lib.hid (show ∀ j, (Value.slice ta t.ins.length tc).ownBlock = some j → w4.heap.size ≤ j ∧ j < wr.heap.size from fun j hj => OTF.out.lt j hj)
      have Q46 := Lib.hid (show q4 < q6 ∧ q6 < w4.heap.size ∧ w.heap.size < q4 from ⟨by have := Q4.out; have := Q6.out; omega, obj_lt B64.out, by have := Q4.out; omega⟩)
      clear OPV OTV ALL HTW
      by_cases hfe : feeE t (prevD S t) = 0
      rotate_left
      · have HE := Lib.hid (show spE S t = feeE t (prevD S t) by unfold spE; rw [if_pos HALL.out, if_neg hfe])
        have HNE := Lib.hid hfe
        have e0 : (feeE t (prevD S t) == 0) = false := by simpa using hfe
        have e1 : (feeE t (prevD S t) != 0) = true := by simpa using hfe
        clear hfe i1
        have K0 := Lib.hid True.intro
        have K1 := Lib.hid True.intro
        have K2 := Lib.hid True.intro
        have K3 := Lib.hid True.intro
        go_wp2_with (first | ((with_reducible refine at_list ?_); have mk := K0.out; refine wpList_value rfl (exec_load (ty := 41) rfl rfl R0R.out uT rT infoTx) ?_; go_frame; clear mk K0) | (have mk := K1.out; go_at_call 58; refine FEE.out.mono ?_; rintro e w5 ⟨rfl, f5⟩; have F5 := Lib.hid f5; have R6 := Lib.hid (range_obj (f5.obj BQ6.out _root_.id)); have BZ := Lib.hid (f5.obj B4R.out _root_.id); clear f5; go_frame; clear mk K1) | ((with_reducible refine at_list ?_); have mk := K2.out; refine wpList_value rfl (exec_load (ty := 115) rfl rfl R6.out uG rG infoChg) ?_; go_frame; clear mk K2) | ((with_reducible refine at_store ?_); have mk := K3.out; refine wpList_done rfl (exec_store (ty := 115) (b := q4) (off := 0) (cs := [.slice ta t.ins.length tc, .slice none 0 0]) rfl rfl rfl (there_obj BZ.out (Nat.le_refl 2)) infoChg (one2 rfl rfl)) ?_; go_frame; clear mk K3))
        have fE := setCells_fr q4 [.slice ta t.ins.length tc, .slice none 0 0] 0 w5
        refine bodyPost_ret (results_row_tmp (P := Tryd.prog) (fn := Tryd.f47) rfl _ rfl (range_set BZ.out rfl) uG rG infoChg rfl) rfl (sp_bad HE.out HNE.out (((HSR.out.fr0 F5.out).frV fE (fun j hj e => by have := UL.out j hj; have := Q4.out; omega) (fun j e => by have := HS.out.fr.size; have := Q4.out; omega))) ((FW.out.trans0 F5.out).of0.trans fE (fun j hj e => by have := Q4.out; omega)) _ _ _ _ _ _)
      · have HFE := Lib.hid hfe
        have e0 : (feeE t (prevD S t) == 0) = true := by simpa using hfe
        have e1 : (feeE t (prevD S t) != 0) = false := by simpa using hfe
        clear hfe i1
        have MOK := Lib.hid (madeC_ok OKS.out.2 (by omega))
        have ML := Lib.hid (madeC_len t)
        have COI := Lib.hid (fun (w' : World) (f : Fr No w w') => coins_any (HG.out.keep0 f) (HT0.out w' f.of0))
        have K0 := Lib.hid True.intro
        have K1 := Lib.hid True.intro
        have K2 := Lib.hid True.intro
        have K3 := Lib.hid True.intro
        go_wp2_with (first | ((with_reducible refine at_list ?_); have mk := K0.out; refine wpList_value rfl (exec_load (ty := 41) rfl rfl R0R.out uT rT infoTx) ?_; go_frame; clear mk K0) | (have mk := K1.out; go_at_call 58; refine FEE.out.mono ?_; rintro e w5 ⟨rfl, f5⟩; have F5 := Lib.hid f5; have R05 := Lib.hid (range_keep R0R.out f5 _root_.id); clear f5; go_frame; clear mk K1) | ((with_reducible refine at_list ?_); have mk := K2.out; refine wpList_value rfl (exec_load (ty := 41) rfl rfl R05.out uT rT infoTx) ?_; go_frame; clear mk K2) | (have mk := K3.out; go_at_call 16; refine (COI.out w5 (FW.out.trans0 F5.out)).mono ?_; rintro e w6 ⟨mv, rfl, f6, hm⟩; rw [if_pos HF.out] at hm; obtain ⟨ma, mc, hmv⟩ := hm.slice.arg.form; subst hmv; have F6 := Lib.hid f6; have OM6 := Lib.hid hm; clear f6 hm; go_frame; clear mk K3))
        have FR6 := Lib.hid ((F5.out.trans0 F6.out).trans0 (Fr.refl No w6).drew)
        have FW6 := Lib.hid (FW.out.trans0 FR6.out)
        have HS6 := Lib.hid (HSR.out.fr0 FR6.out)
        have HOB6 := Lib.hid (FR6.out.obj HOBR.out _root_.id)
        have CP6 := Lib.hid (show w6.drew.cell? ⟨p, 0, none⟩ = some (.pointer (some ⟨s, 0, none⟩)) from by have := range_obj HOB6.out 0 _ rfl; simpa using this)
        have R06 := Lib.hid (range_keep R0R.out FR6.out _root_.id)
        have B66 := Lib.hid (FR6.out.obj BQ6.out _root_.id)
        have B46 := Lib.hid (FR6.out.obj B4R.out _root_.id)
        have OM6d := Lib.hid (ownsRow_keep OM6.out (Fr.refl No w6).drew (fun _ _ => _root_.id))
        have OT6 := Lib.hid (ownsRow_keep OTF.out FR6.out (fun _ _ => _root_.id))
        have TQ6 := Lib.hid (HT0.out w6.drew FW6.out.of0)
        refine wp_region_lexL [false, false, false, false, false, true, true] (fun w' => w'.cell? ⟨p, 0, none⟩ = some (.pointer (some ⟨s, 0, none⟩)) ∧ w'.rangeAt w.heap.size 0 [.int .u32 t.ver, .slice ia t.ins.length ic, .slice oa t.outs.length oc]) (by kernel_rfl) (by kernel_rfl) ?_ (fun K hK => ?_)
        · exact ⟨CP6.out, R06.out⟩
        generalize w6.drew = z at *
        repeat (first | ((first | with_reducible refine lexL_read ?_ | ((with_reducible refine lexL_readG ?_ ?_); (focus rfl))); apply Exists.intro; refine ⟨?_, ?_⟩; (focus (first | exact lex_load (ty := 41) rfl (fun w h => h.2) uT rT infoTx | (intro w' hS; obtain ⟨s1, s2⟩ := hS; go_simp; (try with_reducible rfl); done))); try simp only [Act.put, List.setIfInBounds_toArray, List.set_cons_zero, List.set_cons_succ]) | ((first | ((with_reducible refine lexL_skip (c := false) ?_ ?_ ?_); (focus rfl); (focus rfl)) | ((with_reducible refine lexL_skip (c := true) ?_ ?_ ?_); (focus rfl); (focus rfl)) | ((with_reducible refine lexL_skipU ?_ ?_); (focus rfl))); try simp only [Act.put, List.setIfInBounds_toArray, List.set_cons_zero, List.set_cons_succ]))
        (first | with_reducible refine lexL_eff (fun K' hK' => ?_) | ((with_reducible refine lexL_effG ?_ (fun K' hK' => ?_)); (focus rfl)))
        go_simp
        refine (points_any z TQ6.out (by omega)).mono ?_
        rintro e w7 ⟨qv, rfl, o7, f7⟩
        have F7 := Lib.hid f7
        have PT7 := Lib.hid (show PointsIs w7 qv (ptsD t) from ⟨fun x hx => by
          obtain ⟨y, hy1, hy2⟩ := List.mem_map.1 hx
          rw [← hy2]
          exact OKS.out.1 y hy1, by rw [TIO.out]; exact o7.slice.arg⟩)
        obtain ⟨qa, qc, hqv⟩ := o7.slice.arg.form
        subst hqv
        clear f7 o7
        refine hK'.out _ _ ?_ (fun hS => ?_)
        · exact ⟨F7.out.cell CP6.out _root_.id, range_keep R06.out F7.out _root_.id⟩
        try simp only [Act.put, List.setIfInBounds_toArray, List.set_cons_zero, List.set_cons_succ]
        repeat (first | ((first | with_reducible refine lexL_read ?_ | ((with_reducible refine lexL_readG ?_ ?_); (focus rfl))); apply Exists.intro; refine ⟨?_, ?_⟩; (focus (first | (intro w' hS; obtain ⟨s1, s2⟩ := hS; go_simp; (try with_reducible rfl); done))); try simp only [Act.put, List.setIfInBounds_toArray, List.set_cons_zero, List.set_cons_succ]) | ((first | ((with_reducible refine lexL_skip (c := false) ?_ ?_ ?_); (focus rfl); (focus rfl)) | ((with_reducible refine lexL_skip (c := true) ?_ ?_ ?_); (focus rfl); (focus rfl)) | ((with_reducible refine lexL_skipU ?_ ?_); (focus rfl))); try simp only [Act.put, List.setIfInBounds_toArray, List.set_cons_zero, List.set_cons_succ]))
        (first | with_reducible refine lexL_eff (fun K' hK' => ?_) | ((with_reducible refine lexL_effG ?_ (fun K' hK' => ?_)); (focus rfl)))
        go_simp
        have TA := Lib.hid (take_all HND.out HALL.out)
        refine (take_C (HS6.out.fr0 F7.out) PT7.out (by rw [TIO.out]; have := HNN.out; omega)).mono ?_
        rintro e w8 ⟨x8, rfl, -, cs8, f8⟩
        rw [TA.out.2] at cs8
        have HS8 := Lib.hid cs8
        have F8b := Lib.hid f8
        have FW8 := Lib.hid (show Fr U w w8 from (FW6.out.trans0 F7.out).of0.trans f8 (fun _ _ e => e))
        have NU := Lib.hid (show ∀ j, w.heap.size ≤ j → ¬ U j from fun j hj e => by have := UL.out j e; omega)
        have HOB8 := Lib.hid (FW8.out.obj HOB.out HPU.out)
        have CP8 := Lib.hid (show w8.cell? ⟨p, 0, none⟩ = some (.pointer (some ⟨s, 0, none⟩)) from by have := range_obj HOB8.out 0 _ rfl; simpa using this)
        have B68 := Lib.hid (f8.obj (F7.out.obj B66.out _root_.id) (NU.out q6 (by have := Q46.out; omega)))
        have B48 := Lib.hid (f8.obj (F7.out.obj B46.out _root_.id) (NU.out q4 (by have := Q46.out; omega)))
        have OM8 := Lib.hid (ownsRow_keep (ownsRow_keep OM6d.out F7.out (fun _ _ => _root_.id)) f8 (fun j hj => NU.out j (by have := (OM6.out.lt j hj).1; have := FW.out.size; have := F5.out.size; omega)))
        have OT8 := Lib.hid (ownsRow_keep (ownsRow_keep OT6.out F7.out (fun _ _ => _root_.id)) f8 (fun j hj => NU.out j (by have := (NT.out j hj).1; have := F04.out.size; omega)))
        have R08 := Lib.hid (range_keep (range_keep R06.out F7.out _root_.id) f8 (NU.out _ (Nat.le_refl _)))
        clear cs8 f8
        refine hK'.out _ _ ?_ (fun hS => ?_)
        · exact ⟨CP8.out, R08.out⟩
        try simp only [Act.put, List.setIfInBounds_toArray, List.set_cons_zero, List.set_cons_succ]
        refine lexL_nil (hK.out _ _ ?_)
        have CI8 := Lib.hid (show CoinsIs w8 (.slice ma t.outs.length mc) (madeC t) from ⟨MOK.out, by rw [ML.out]; exact OM8.out.slice.arg⟩)
        have TL := Lib.hid (show (takeC S (ptsD t)).length ≤ S.length from List.length_filter_le _ _)
        have PUT := Lib.hid (put_C HS8.out CI8.out (by rw [ML.out]; have := TL.out; have := HNN.out; omega))
        have cp8 := CP8.out
        by_cases hpe : putE (takeC S (ptsD t)) (madeC t) = 0
        rotate_left
        · have HE := Lib.hid (show spE S t = 10 by unfold spE; rw [if_pos HALL.out, if_pos HFE.out, if_neg hpe])
          have j0 : (putE (takeC S (ptsD t)) (madeC t) == 0) = false := by simpa using hpe
          have j1 : (putE (takeC S (ptsD t)) (madeC t) != 0) = true := by simpa using hpe
          have PS := Lib.hid (show putS (takeC S (ptsD t)) (madeC t) = takeC S (ptsD t) by unfold putS; rw [if_neg hpe])
          have PB := Lib.hid (put_back HS.out.srt HALL.out HND.out)
          clear hpe
          have K0 := Lib.hid True.intro
          go_wp2_with (first | (have mk := K0.out; go_at_call 48; refine PUT.out.mono ?_; rintro e w9 ⟨rfl, cs9, f9⟩; rw [PS.out] at cs9; have HS9 := Lib.hid cs9; have F9 := Lib.hid f9; clear cs9 f9; go_frame; clear mk K0))
          clear cp8
          have FD := Lib.hid (Fr.refl No w9).drew
          have FW9 := Lib.hid (show Fr U w w9.drew from (FW8.out.trans F9.out (fun _ _ e => e)).trans0 FD.out)
          have HOB9 := Lib.hid (FW9.out.obj HOB.out HPU.out)
          have CP9 := Lib.hid (show w9.drew.cell? ⟨p, 0, none⟩ = some (.pointer (some ⟨s, 0, none⟩)) from by have := range_obj HOB9.out 0 _ rfl; simpa using this)
          have B69 := Lib.hid (FD.out.obj (F9.out.obj B68.out (NU.out q6 (by have := Q46.out; omega))) _root_.id)
          have B49 := Lib.hid (FD.out.obj (F9.out.obj B48.out (NU.out q4 (by have := Q46.out; omega))) _root_.id)
          have C69 := Lib.hid (show w9.drew.cell? ⟨q6, 0, none⟩ = some (.slice ta t.ins.length tc) from by have := range_obj B69.out 0 _ rfl; simpa using this)
          have OT9 := Lib.hid (ownsRow_keep (ownsRow_keep OT8.out F9.out (fun j hj => NU.out j (by have := (NT.out j hj).1; have := F04.out.size; omega))) FD.out (fun _ _ => _root_.id))
          have HS9d := Lib.hid (HS9.out.fr0 FD.out)
          refine wp_region_lexL [false, false, false, false, false, false, true] (fun w' => w'.cell? ⟨p, 0, none⟩ = some (.pointer (some ⟨s, 0, none⟩)) ∧ w'.cell? ⟨q6, 0, none⟩ = some (.slice ta t.ins.length tc)) (by kernel_rfl) (by kernel_rfl) ?_ (fun K hK => ?_)
          · exact ⟨CP9.out, C69.out⟩
          generalize w9.drew = z9 at *
          repeat (first | ((first | with_reducible refine lexL_read ?_ | ((with_reducible refine lexL_readG ?_ ?_); (focus rfl))); apply Exists.intro; refine ⟨?_, ?_⟩; (focus (first | (intro w' hS; obtain ⟨s1, s2⟩ := hS; go_simp; (try with_reducible rfl); done))); try simp only [Act.put, List.setIfInBounds_toArray, List.set_cons_zero, List.set_cons_succ]) | ((first | ((with_reducible refine lexL_skip (c := false) ?_ ?_ ?_); (focus rfl); (focus rfl)) | ((with_reducible refine lexL_skip (c := true) ?_ ?_ ?_); (focus rfl); (focus rfl)) | ((with_reducible refine lexL_skipU ?_ ?_); (focus rfl))); try simp only [Act.put, List.setIfInBounds_toArray, List.set_cons_zero, List.set_cons_succ]))
          (first | with_reducible refine lexL_eff (fun K' hK' => ?_) | ((with_reducible refine lexL_effG ?_ (fun K' hK' => ?_)); (focus rfl)))
          go_simp
          refine (put_C (l := tookD S t) HS9d.out ⟨tookD_ok HS.out.ok OKS.out.1, by rw [tookD_len]; exact OT9.out.slice.arg⟩ (by rw [tookD_len]; have := TL.out; have := HNN.out; omega)).mono ?_
          rintro e w10 ⟨rfl, cs10, f10⟩
          rw [PB.out.2] at cs10
          have HS10 := Lib.hid cs10
          have F10 := Lib.hid f10
          have FW10 := Lib.hid (show Fr U w w10 from FW9.out.trans f10 (fun _ _ e => e))
          have B6A := Lib.hid (f10.obj B69.out (NU.out q6 (by have := Q46.out; omega)))
          have BZ := Lib.hid (f10.obj B49.out (NU.out q4 (by have := Q46.out; omega)))
          have R6 := Lib.hid (range_obj B6A.out)
          clear cs10 f10
          refine hK'.out _ _ ?_ (fun hS => ?_)
          · exact ⟨by have := range_obj (FW10.out.obj HOB.out HPU.out) 0 _ rfl; simpa using this, by have := R6.out 0 _ rfl; simpa using this⟩
          try simp only [Act.put, List.setIfInBounds_toArray, List.set_cons_zero, List.set_cons_succ]
          refine lexL_nil (hK.out _ _ ?_)
          have K0 := Lib.hid True.intro
          have K1 := Lib.hid True.intro
          go_wp2_with (first | ((with_reducible refine at_list ?_); have mk := K0.out; refine wpList_value rfl (exec_load (ty := 115) rfl rfl R6.out uG rG infoChg) ?_; go_frame; clear mk K0) | ((with_reducible refine at_store ?_); have mk := K1.out; refine wpList_done rfl (exec_store (ty := 115) (b := q4) (off := 0) (cs := [.slice ta t.ins.length tc, .slice none 0 0]) rfl rfl rfl (there_obj BZ.out (Nat.le_refl 2)) infoChg (one2 rfl rfl)) ?_; go_frame; clear mk K1))
          have fE := setCells_fr q4 [.slice ta t.ins.length tc, .slice none 0 0] 0 w10
          refine bodyPost_ret (results_row_tmp (P := Tryd.prog) (fn := Tryd.f47) rfl _ rfl (range_set BZ.out rfl) uG rG infoChg rfl) rfl (sp_bad HE.out (by decide) (HS10.out.frV fE (fun j hj e => by have := UL.out j hj; have := Q4.out; omega) (fun j e => by have := HS.out.fr.size; have := Q4.out; omega)) (FW10.out.trans fE (fun j hj e => by have := Q4.out; omega)) _ _ _ _ _ _)
        · have HPE := Lib.hid hpe
          have HE := Lib.hid (show spE S t = 0 by unfold spE; rw [if_pos HALL.out, if_pos HFE.out, if_pos hpe])
          have j0 : (putE (takeC S (ptsD t)) (madeC t) == 0) = true := by simpa using hpe
          have j1 : (putE (takeC S (ptsD t)) (madeC t) != 0) = false := by simpa using hpe
          have PS := Lib.hid (show putS (takeC S (ptsD t)) (madeC t) = spS S t by unfold putS spS; rw [if_pos hpe, if_pos HE.out])
          clear hpe
          have K0 := Lib.hid True.intro
          go_wp2_with (first | (have mk := K0.out; go_at_call 48; refine PUT.out.mono ?_; rintro e w9 ⟨rfl, cs9, f9⟩; rw [PS.out] at cs9; have HS9 := Lib.hid cs9; have F9 := Lib.hid f9; clear cs9 f9; go_frame; clear mk K0))
          clear cp8
          have FW9 := Lib.hid (show Fr U w w9 from FW8.out.trans F9.out (fun _ _ e => e))
          have B69 := Lib.hid (F9.out.obj B68.out (NU.out q6 (by have := Q46.out; omega)))
          have B49 := Lib.hid (F9.out.obj B48.out (NU.out q4 (by have := Q46.out; omega)))
          have OT9 := Lib.hid (ownsRow_keep OT8.out F9.out (fun j hj => NU.out j (by have := (NT.out j hj).1; have := F04.out.size; omega)))
          have NM := Lib.hid (show ∀ j, (Value.slice ma t.outs.length mc).ownBlock = some j → w4.heap.size ≤ j from fun j hj => by have := (OM6.out.lt j hj).1; have := FR.out.size; have := F5.out.size; omega)
          have OM9 := Lib.hid (ownsRow_keep OM8.out F9.out (fun j hj => NU.out j (by have := NM.out j hj; have := F04.out.size; omega)))
          have L69 := Lib.hid (obj_lt B69.out)
          go_loopw [91] (fun iv wq => ∃ (n : Nat) (mv : Value), iv = .int .i64 n ∧ n ≤ t.outs.length ∧ wq.heap[q6]? = some (.cells #[.slice ta t.ins.length tc, mv] 115 (0, 0)) ∧ wq.ownsRow w9.heap.size 47 33 mv n ((((madeC t).map (·.at_)).take n).flatMap pointC) ∧ Fr (fun j => j = q6) w9 wq) (fun iv _ => t.outs.length - (intOf iv).toNat)
          case atStart => exact ⟨0, .slice none 0 0, rfl, Nat.zero_le _, B69.out, World.ownsRow_nil _ _ _ 33, Fr.refl _ _⟩
          case round =>
            obtain ⟨n, mv2, rfl, hn, hbq, hor, fr⟩ := hrel
            rename World => wq
            have FQ := Lib.hid fr
            have BQ := Lib.hid hbq
            have OR := Lib.hid hor
            obtain ⟨na, nc, hmv⟩ := hor.slice.arg.form
            subst hmv
            clear fr hbq hor
            by_cases hlt : n < t.outs.length
            · have i1 : (n : Int) < (t.outs.length : Int) := by omega
              obtain ⟨c, hx⟩ : ∃ x, (madeC t)[n]? = some x := ⟨_, List.getElem?_eq_getElem (by rw [ML.out]; exact hlt)⟩
              have COK := Lib.hid (MOK.out c (List.mem_of_getElem? hx))
              have CL := Lib.hid (coinC_len COK.out)
              have PL2 := Lib.hid (pointC_len COK.out.1)
              obtain ⟨g, cap, hv, hr, -⟩ := own_elem (f := coinC) (k := 66) (L := madeC t) (by decide) (fun x hx => coinC_len (MOK.out x hx)) (ownsRow_keep OM9.out FQ.out (fun j hj e => by have := NM.out j hj; have := Q46.out; omega)) hx
              cases hv
              have R1 := Lib.hid hr
              have FB := Lib.hid ((Fr.refl No wq).alloc (.cells (coinC c).toArray 57))
              have RP := Lib.hid (coin_at (range_new wq (coinC c) 57))
              have HPX := Lib.hid (show ((madeC t).map (·.at_))[n]? = some c.at_ by simp [hx])
              have BQA := Lib.hid (FB.out.obj BQ.out _root_.id)
              obtain ⟨v5, w5', a1, a2, a3, a4, a5⟩ := append_blk (P := Tryd.prog) (wq.alloc (.cells (coinC c).toArray 57)) w9.heap.size 75 75 47 33 36 _ undPoints infoPointZ (by show (pointC point0).toArray.size = 33; rfl) (by decide) (ownsRow_keep OR.out FB.out (fun _ _ => _root_.id)) (pointC c.at_) PL2.out pointC_one (by omega) (by unfold maxLen; omega) (Nat.le_trans FQ.out.size FB.out.size)
              have A1 := Lib.hid a1
              have O5' := Lib.hid (show w5'.ownsRow w9.heap.size 47 33 v5 (n + 1) ((((madeC t).map (·.at_)).take (n + 1)).flatMap pointC) by rw [take_flatO pointC HPX.out]; exact a2)
              have NQ5 := Lib.hid (show ∀ j, (Value.slice na n nc).ownBlock = some j → j ≠ q6 from fun j hj e => by have := (OR.out.lt j hj).1; have := L69.out; omega)
              have NV5 := Lib.hid (show ∀ j, v5.ownBlock = some j → j ≠ q6 from fun j hj e => by have := (O5'.out.lt j hj).1; have := L69.out; omega)
              have BQ5 := Lib.hid (a3.obj BQA.out (fun e => NQ5.out _ e rfl))
              have F5' := Lib.hid (show Fr (fun j => j = q6) w9 w5' from (FQ.out.trans0 FB.out).trans a3 (fun j hj e => by have := (OR.out.lt j e).1; omega))
              have cA : (wq.alloc (.cells (coinC c).toArray 57)).cell? ⟨q6, 1, none⟩ = some (.slice na n nc) := by have := range_obj BQA.out 1 _ rfl; simpa using this
              have cB : w5'.cell? ⟨q6, 1, none⟩ = some (.slice na n nc) := by have := range_obj BQ5.out 1 _ rfl; simpa using this
              have fB := u32_unfrozen (i := 1) BQ5.out
              clear hr a1 a2 a3 a4 a5
              obtain ⟨va5, vc5, hv5⟩ := O5'.out.slice.arg.form
              subst hv5
              have HS5 := Lib.hid (heap_setCell_same w5' q6 1 _ _ (.slice va5 (n + 1) vc5) BQ5.out)
              have fs : Fr (fun j => j = q6) w5' (w5'.setCell ⟨q6, 1, none⟩ (.slice va5 (n + 1) vc5)) := (Fr.refl (fun j => j = q6) w5').setCell ⟨q6, 1, none⟩ (.inr rfl) _
              have FS5 := Lib.hid (F5'.out.trans fs (fun _ _ e => e))
              have OS5 := Lib.hid (ownsRow_keep O5'.out fs (fun j hj e => NV5.out j hj e))
              clear fs
              have K0 := Lib.hid True.intro
              have K1 := Lib.hid True.intro
              have K2 := Lib.hid True.intro
              have K3 := Lib.hid True.intro
              have K4 := Lib.hid True.intro
              go_wp2_with (first | ((with_reducible refine at_list ?_); have mk := K0.out; refine wpList_value rfl (exec_load (ty := 57) rfl rfl R1.out uC rC (by rw [CL.out]; exact infoCoin)) ?_; go_frame; clear mk K0) | ((with_reducible refine at_store ?_); have mk := K1.out; refine wpList_done rfl (exec_store_new (w := wq) (ty := 57) (cs := coinC c) rfl rfl rfl (by rw [CL.out]; rfl) (by rw [CL.out]; exact infoCoin) coinC_one) ?_; generalize wq.alloc (.cells (coinC c).toArray 57) = wA at *; go_frame; clear mk K1) | ((with_reducible refine at_list ?_); have mk := K2.out; refine wpList_value rfl (exec_load (ty := 47) rfl rfl RP.out uP rP (by rw [PL2.out]; exact infoPoint)) ?_; go_frame; clear mk K2) | ((with_reducible refine at_list ?_); have mk := K3.out; refine wpList_value rfl (exec_buildSliceA (t := 75) rfl rfl undPoints infoPointZ2 rfl (by decide) (by decide) PL2.out) ?_; go_frame; clear mk K3) | ((with_reducible refine at_list ?_); have mk := K4.out; at_builtin; refine wpList_append_run rfl rfl rfl rfl A1.out ?_; go_frame; clear mk K4))
              go_roundw
              case rel => exact ⟨n + 1, _, by go_num, by omega, HS5.out, OS5.out, FS5.out⟩
              case measure => simp [intOf]; omega
            · have hne : n = t.outs.length := by omega
              subst hne
              clear hlt hn
              have i1 : ¬ (t.outs.length : Int) < (t.outs.length : Int) := by omega
              have HRL := Lib.hid (show wq.ownsRow w9.heap.size 47 33 (.slice na t.outs.length nc) t.outs.length (((madeC t).map (·.at_)).flatMap pointC) by
                have := OR.out
                rw [List.take_of_length_le (by rw [List.length_map, ML.out]; exact Nat.le_refl _)] at this
                exact this)
              have R6 := Lib.hid (range_obj BQ.out)
              have BZ := Lib.hid (FQ.out.obj B49.out (fun e => by have := Q46.out; omega))
              have OTQ := Lib.hid (ownsRow_keep OT9.out FQ.out (fun j hj e => by have := (NT.out j hj).1; have := Q46.out; omega))
              have HSQ := Lib.hid (HS9.out.frV FQ.out (fun j hj e => by have := UL.out j hj; have := Q46.out; omega) (fun j e => by have := HS.out.fr.size; have := Q46.out; omega))
              have FWQ := Lib.hid (show Fr U w wq from FW9.out.trans FQ.out (fun j hj e => by have := Q46.out; omega))
              have K0 := Lib.hid True.intro
              have K1 := Lib.hid True.intro
              go_wp2_with (first | ((with_reducible refine at_list ?_); have mk := K0.out; refine wpList_value rfl (exec_load (ty := 115) rfl rfl R6.out uG rG infoChg) ?_; go_frame; clear mk K0) | ((with_reducible refine at_store ?_); have mk := K1.out; refine wpList_done rfl (exec_store (ty := 115) (b := q4) (off := 0) (cs := [.slice ta t.ins.length tc, .slice na t.outs.length nc]) rfl rfl rfl (there_obj BZ.out (Nat.le_refl 2)) infoChg (one2 rfl rfl)) ?_; go_frame; clear mk K1))
              have fE := setCells_fr q4 [.slice ta t.ins.length tc, .slice na t.outs.length nc] 0 wq
              have FE := Lib.hid fE
              refine bodyPost_ret (results_row_tmp (P := Tryd.prog) (fn := Tryd.f47) rfl _ rfl (range_set BZ.out rfl) uG rG infoChg rfl) rfl ⟨ta, t.ins.length, tc, na, t.outs.length, nc, by rw [HE.out]; rfl, HSQ.out.frV fE (fun j hj e => by have := UL.out j hj; have := Q4.out; omega) (fun j e => by have := HS.out.fr.size; have := Q4.out; omega), FWQ.out.trans fE (fun j hj e => by have := Q4.out; omega), fun _ V hV w' f => ?_⟩
              have k1 := kept_coins (l := tookD S t) (V := V) (by rw [tookD_len]; exact ownsRow_keep OTQ.out FE.out (fun j hj e => by have := (NT.out j hj).1; have := Q46.out; omega)) (tookD_ok HS.out.ok OKS.out.1) (fun j hj e => by have := hV j e; have := (NT.out j hj).1; have := F04.out.size; omega) w' f
              have k2 := kept_points (l := (madeC t).map (·.at_)) (V := V) (by rw [List.length_map, ML.out]; exact ownsRow_keep HRL.out FE.out (fun j hj e => by have := (HRL.out.lt j hj).1; have := L69.out; have := Q46.out; omega)) (fun x hx => by
                obtain ⟨y, hy, rfl⟩ := List.mem_map.1 hx
                exact (MOK.out y hy).1) (fun j hj e => by have := hV j e; have := (HRL.out.lt j hj).1; have := FW9.out.size; omega) w' f
              refine ⟨ta, tc, na, nc, ?_, (by show CoinsIs w' (.slice ta (tookD S t).length tc) (tookD S t); rw [tookD_len]; exact k1), (by show PointsIs w' (.slice na ((madeC t).map (·.at_)).length nc) ((madeC t).map (·.at_)); rw [List.length_map, ML.out]; exact k2)⟩
              show _ = [Value.slice ta (tookD S t).length tc, Value.slice na ((madeC t).map (·.at_)).length nc]
              rw [tookD_len, List.length_map, ML.out]
end Go.Proofs.YtmpamcnlineceaaDoor
