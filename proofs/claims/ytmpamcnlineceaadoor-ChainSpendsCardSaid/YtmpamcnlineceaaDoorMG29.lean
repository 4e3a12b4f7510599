/- chain: undo. -/
import Derived.Test.YtmpamcnlineceaaDoorMG28
set_option linter.unusedVariables false
set_option linter.unusedSimpArgs false
set_option linter.unnecessarySimpa false
set_option linter.all false
namespace Go.Proofs.YtmpamcnlineceaaDoor
open Go Go.RowKit Go.Maps Go.MapKept

theorem undMapIds : Tryd.prog.underlying 90 = some (.map 45 3) := by kernel_rfl
theorem rangeAt5 {w : World} {q : Nat} {a b c d e : Value} (h : w.rangeAt q 0 [a, b, c, d, e]) : w.cell? ⟨q, 0, none⟩ = some a ∧ w.cell? ⟨q, 1, none⟩ = some b ∧ w.cell? ⟨q, 2, none⟩ = some c ∧ w.cell? ⟨q, 3, none⟩ = some d ∧ w.cell? ⟨q, 4, none⟩ = some e :=
  ⟨by simpa using h 0 _ rfl, by simpa using h 1 _ rfl, by simpa using h 2 _ rfl, by simpa using h 3 _ rfl, by simpa using h 4 _ rfl⟩
/-- A change's cells, kept. -/
theorem done_parts {V : Nat → Prop} {w : World} {d : DoneD} {a b c : Value} {ia ca : Option Addr} {n m ic cc : Nat} (h : Kept V w (fun w => DoneQ w d [a, b, c, .slice ia n ic, .slice ca m cc])) : n = d.ids.length ∧ m = d.chg.length ∧ Kept V w (fun w => IdsIs w (.slice ia d.ids.length ic) d.ids) ∧ Kept V w (fun w => ChgsIs w (.slice ca d.chg.length cc) d.chg) := by
  have key : ∀ w', DoneQ w' d [a, b, c, .slice ia n ic, .slice ca m cc] → n = d.ids.length ∧ m = d.chg.length ∧ IdsIs w' (.slice ia d.ids.length ic) d.ids ∧ ChgsIs w' (.slice ca d.chg.length cc) d.chg := by
    rintro w' ⟨bcs, ia', ic', ca', cc', e, hb, hi, hc⟩
    obtain ⟨pa, pc, ta, tc, rfl⟩ := hb.form
    simp only [List.cons_append, List.nil_append, List.cons.injEq, and_true] at e
    obtain ⟨-, -, -, e1, e2⟩ := e
    injection e1 with e11 e12 e13
    injection e2 with e21 e22 e23
    subst e11; subst e13; subst e21; subst e23
    exact ⟨e12, e22, hi, hc⟩
  obtain ⟨h1, h2, -, -⟩ := key w h.now
  exact ⟨h1, h2, fun w' f => (key w' (h w' f)).2.2.1, fun w' f => (key w' (h w' f)).2.2.2⟩
/-- The ids have turned. -/
theorem ChAt.setM {w0 w w' : World} {p s mi : Nat} {U : Nat → Prop} {bv : Value} {css : List (List Value)} {D : ChD} (h : ChAt w0 w p s U mi bv css D) {M' : List (HashD × Int)} (hm : IdMap w' mi M') (f : Fr (fun j => j = mi) w w') : ChAt w0 w' p s U mi bv css ⟨D.S, D.bs, M'⟩ :=
  { h with
    obj := f.obj h.obj h.pm
    set := h.set.frV f (fun j hj e => h.um (e ▸ hj)) (fun j e => by have := h.lo2; omega)
    row := ownsRow_keep h.row f (fun j hj e => (h.rn j hj).2.1 e)
    data := fun i d cs h1 h2 => (h.data i d cs h1 h2).same (f.mono (fun j hj => .inr (.inr (.inl hj))))
    map := hm }
theorem ChgQ.len {w : World} {x : ChgD} {cs : List Value} (h : ChgQ w x cs) : cs.length = 2 := by
  obtain ⟨ia, ic, oa, oc, rfl, _⟩ := h
  rfl
set_option maxRecDepth 20000 in
set_option maxHeartbeats 4000000 in
theorem undo_any {w0 w : World} {p s mi : Nat} {U : Nat → Prop} {bv : Value} {css : List (List Value)} {D : ChD} (h : ChAt w0 w p s U mi bv css D) {d : DoneD} {cs : List Value} (hd : Kept (chV p U mi bv) w (fun w => DoneQ w d cs)) (hN : D.S.length + tookN d.chg ≤ 100000) (hC : d.chg.length ≤ 100000) (hI : d.ids.length ≤ 100000) :
    Calls Tryd.prog 34 #[.pointer (some ⟨p, 0, none⟩), .agg cs.toArray] w fun e w' => e = .returned (.tuple #[]) ∧ ∃ M', ChAt w0 w' p s U mi bv css ⟨undoS d.chg D.S, D.bs, M'⟩ ∧ (∀ x v, (x, v) ∈ M' ↔ x ∉ d.ids ∧ (x, v) ∈ D.M) ∧ M'.length ≤ D.M.length ∧ Fr (chV p U mi bv) w w' := by
  obtain ⟨pa, pc, ta, tc, ia, ic, ca, cc, rfl⟩ := hd.now.form
  obtain ⟨-, -, ki, kc⟩ := done_parts hd
  obtain ⟨dH, uH, rH⟩ := descHash
  have zH := zeroHash
  have f1 := (Fr.refl No w).alloc (.cells #[.int .u64 d.blk.tag, .slice pa d.blk.pay.length pc, .slice ta d.blk.txs.length tc, .slice ia d.ids.length ic, .slice ca d.chg.length cc] 97)
  have F1 := Lib.hid f1
  have H1 := Lib.hid (h.fr0 f1)
  have KI := Lib.hid (ki.same f1.of0)
  have KC := Lib.hid (kc.same f1.of0)
  have VL := Lib.hid h.hi
  obtain ⟨-, -, -, x3, x4⟩ := rangeAt5 (range_new w [.int .u64 d.blk.tag, .slice pa d.blk.pay.length pc, .slice ta d.blk.txs.length tc, .slice ia d.ids.length ic, .slice ca d.chg.length cc] 97)
  have X3 := Lib.hid x3
  have X4 := Lib.hid x4
  have NV := Lib.hid (show ¬ chV p U mi bv w.heap.size from fun e => by have := h.hi _ e; omega)
  have x4' : (w.alloc (.cells #[.int .u64 d.blk.tag, .slice pa d.blk.pay.length pc, .slice ta d.blk.txs.length tc, .slice ia d.ids.length ic, .slice ca d.chg.length cc] 97)).cell? ⟨w.heap.size, 4, none⟩ = some (.slice ca d.chg.length cc) := x4
  have HU := Lib.hid (show ∀ j, U j → chV p U mi bv j from fun j hj => .inr (.inl hj))
  have PI : (d.chg.length : Int) - 1 = prevI d.chg.length := by cases d.chg.length with | zero => rfl | succ n => show ((n + 1 : Nat) : Int) - 1 = (n : Int); omega
  have HM := Lib.hid (show chV p U mi bv mi from .inr (.inr (.inl rfl)))
  clear h hd ki kc x3 x4 f1
  show Calls Tryd.prog 34 #[.pointer (some ⟨p, 0, none⟩), .agg #[.int .u64 d.blk.tag, .slice pa d.blk.pay.length pc, .slice ta d.blk.txs.length tc, .slice ia d.ids.length ic, .slice ca d.chg.length cc]] w _
  go_enter Tryd.func34, Tryd.ntmps34
  go_wp2_with fail
  generalize w.alloc (.cells #[.int .u64 d.blk.tag, .slice pa d.blk.pay.length pc, .slice ta d.blk.txs.length tc, .slice ia d.ids.length ic, .slice ca d.chg.length cc] 97) = w1 at *
  generalize w.heap.size = q0 at *
  clear x4'
  go_loopw [4] (fun iv wr => ∃ k : Nat, iv = .int .i64 (prevI k) ∧ k ≤ d.chg.length ∧ ChAt w0 wr p s U mi bv css ⟨undoS (d.chg.drop k) D.S, D.bs, D.M⟩ ∧ Fr (chV p U mi bv) w1 wr) (fun iv _ => (intOf iv + 1).toNat)
  case atStart => exact ⟨d.chg.length, rfl, Nat.le_refl _, by rw [List.drop_length]; exact H1.out, Fr.refl _ _⟩
  case round =>
    obtain ⟨k, rfl, hk, hch, fr⟩ := hrel
    have FR := Lib.hid fr
    have HC := Lib.hid hch
    clear fr hch PI
    cases k with
    | succ m =>
      have hp1 : prevI (m + 1) = (m : Int) := rfl
      rw [hp1]
      clear hp1
      have i1 : (0 : Int) ≤ (m : Int) := by omega
      obtain ⟨c, hx⟩ : ∃ x, d.chg[m]? = some x := ⟨_, List.getElem?_eq_getElem (by omega)⟩
      have HXX := Lib.hid hx
      have i2 : (m : Int) < (d.chg.length : Int) := by omega
      have i3 : (0 : Int) ≤ (m : Int) := by omega
      have TN := Lib.hid (tookN_at hx)
      have SN := Lib.hid (undoS_step D.S hx)
      have UL := Lib.hid (undoS_len (d.chg.drop (m + 1)) D.S)
      have KCr := Lib.hid (KC.out.same FR.out)
      obtain ⟨b, off, cap, cs2, hv, nvb, ⟨tka, tkc, mda, mdc, hcs2, -⟩, hkp⟩ := rows_at (by decide) (fun _ _ _ h => h.len) KCr.out hx
      cases hv
      subst hcs2
      have KP := Lib.hid (show Kept (chV p U mi bv) wr (fun w => (w.cell? ⟨b, off + m * 2, none⟩ = some (.slice tka c.took.length tkc) ∧ w.cell? ⟨b, off + m * 2 + 1, none⟩ = some (.slice mda c.made.length mdc)) ∧ CoinsIs w (.slice tka c.took.length tkc) c.took ∧ PointsIs w (.slice mda c.made.length mdc) c.made) from fun w' f => by
        obtain ⟨hr, ta', tc', ma', mc', e, q1, q2⟩ := hkp w' f
        simp only [List.cons.injEq, and_true] at e
        obtain ⟨e1, e2⟩ := e
        injection e1 with e11 _ e13
        injection e2 with e21 _ e23
        subst e11; subst e13; subst e21; subst e23
        exact ⟨⟨hr 0 _ rfl, hr 1 _ rfl⟩, q1, q2⟩)
      have FD := Lib.hid (Fr.refl No wr).drew
      have HCd := Lib.hid (HC.out.fr0 FD.out)
      have KPd := Lib.hid (KP.out.same FD.out.of0)
      have P0 := Lib.hid HCd.out.cells.1
      have X4d := Lib.hid ((FR.out.trans0 FD.out).cell X4.out NV.out)
      have FRd := Lib.hid (FR.out.trans0 FD.out)
      have TK := Lib.hid (take_C HCd.out.set KPd.out.now.2.2 (show c.made.length + (undoS (d.chg.drop (m + 1)) D.S).length ≤ 100000 by have := TN.out; have := UL.out; omega))
      have PUT := Lib.hid (fun (w' : World) (S : List CoinD) (h : CS w0 w' s U S) (v : Value) (l : List CoinD) (hl : CoinsIs w' v l) (hn : l.length + S.length ≤ 100000) => put_C h hl hn)
      have TL := Lib.hid (takeS_len (undoS (d.chg.drop (m + 1)) D.S) c.made)
      clear hkp hx nvb
      generalize undoS (d.chg.drop (m + 1)) D.S = S1 at *
      go_wp2_with fail
      refine wp_region_lexL [false, false, false, false, false, false, false, false, false, false, true] (fun w' => w'.cell? ⟨p, 0, none⟩ = some (.pointer (some ⟨s, 0, none⟩)) ∧ w'.cell? ⟨q0, 4, none⟩ = some (.slice (some ⟨b, off, none⟩) d.chg.length cc) ∧ w'.cell? ⟨b, off + m * 2 + 1, none⟩ = some (.slice mda c.made.length mdc)) (by kernel_rfl) (by kernel_rfl) ?_ (fun K hK => ?_)
      · exact ⟨P0.out, X4d.out, KPd.out.now.1.2⟩
      generalize wr.drew = z1 at *
      repeat (first | ((first | with_reducible refine lexL_read ?_ | ((with_reducible refine lexL_readG ?_ ?_); (focus rfl))); apply Exists.intro; refine ⟨?_, ?_⟩; (focus (first | (intro w' hS; obtain ⟨s1, s2, s3⟩ := hS; go_simp; (try with_reducible rfl); done))); try simp only [Act.put, List.setIfInBounds_toArray, List.set_cons_zero, List.set_cons_succ]) | ((first | ((with_reducible refine lexL_skip (c := false) ?_ ?_ ?_); (focus rfl); (focus rfl)) | ((with_reducible refine lexL_skip (c := true) ?_ ?_ ?_); (focus rfl); (focus rfl)) | ((with_reducible refine lexL_skipU ?_ ?_); (focus rfl))); try simp only [Act.put, List.setIfInBounds_toArray, List.set_cons_zero, List.set_cons_succ]))
      (first | with_reducible refine lexL_eff (fun K' hK' => ?_) | ((with_reducible refine lexL_effG ?_ (fun K' hK' => ?_)); (focus rfl)))
      go_simp
      refine TK.out.mono ?_
      rintro e w2 ⟨x, rfl, -, cs2', f2⟩
      have HC2 := Lib.hid (HCd.out.setS cs2' f2)
      have F2 := Lib.hid (show Fr (chV p U mi bv) w1 w2 from FRd.out.trans (f2.mono (fun j hj => HU.out j hj)) (fun _ _ h => h))
      have KP2 := Lib.hid (KPd.out.same (f2.mono (fun j hj => HU.out j hj)))
      clear cs2' f2
      refine hK'.out _ _ ?_ (fun hS => ?_)
      · exact ⟨HC2.out.cells.1, F2.out.cell X4.out NV.out, KP2.out.now.1.2⟩
      try simp only [Act.put, List.setIfInBounds_toArray, List.set_cons_zero, List.set_cons_succ]
      refine lexL_nil (hK.out _ _ ?_)
      have FE := Lib.hid (Fr.refl No w2).drew
      have HC3 := Lib.hid (HC2.out.fr0 FE.out)
      have KP3 := Lib.hid (KP2.out.same FE.out.of0)
      have F3 := Lib.hid (F2.out.trans0 FE.out)
      have TK2 := Lib.hid (PUT.out _ _ HC3.out.set _ _ KP3.out.now.2.1 (show c.took.length + (takeS S1 c.made).length ≤ 100000 by have := TN.out; have := UL.out; have := TL.out; omega))
      go_wp2_with fail
      refine wp_region_lexL [false, false, false, false, false, false, false, false, false, false, true] (fun w' => w'.cell? ⟨p, 0, none⟩ = some (.pointer (some ⟨s, 0, none⟩)) ∧ w'.cell? ⟨q0, 4, none⟩ = some (.slice (some ⟨b, off, none⟩) d.chg.length cc) ∧ w'.cell? ⟨b, off + m * 2, none⟩ = some (.slice tka c.took.length tkc)) (by kernel_rfl) (by kernel_rfl) ?_ (fun K hK => ?_)
      · exact ⟨HC3.out.cells.1, F3.out.cell X4.out NV.out, KP3.out.now.1.1⟩
      generalize w2.drew = z2 at *
      repeat (first | ((first | with_reducible refine lexL_read ?_ | ((with_reducible refine lexL_readG ?_ ?_); (focus rfl))); apply Exists.intro; refine ⟨?_, ?_⟩; (focus (first | (intro w' hS; obtain ⟨s1, s2, s3⟩ := hS; go_simp; (try with_reducible rfl); done))); try simp only [Act.put, List.setIfInBounds_toArray, List.set_cons_zero, List.set_cons_succ]) | ((first | ((with_reducible refine lexL_skip (c := false) ?_ ?_ ?_); (focus rfl); (focus rfl)) | ((with_reducible refine lexL_skip (c := true) ?_ ?_ ?_); (focus rfl); (focus rfl)) | ((with_reducible refine lexL_skipU ?_ ?_); (focus rfl))); try simp only [Act.put, List.setIfInBounds_toArray, List.set_cons_zero, List.set_cons_succ]))
      (first | with_reducible refine lexL_eff (fun K' hK' => ?_) | ((with_reducible refine lexL_effG ?_ (fun K' hK' => ?_)); (focus rfl)))
      go_simp
      refine TK2.out.mono ?_
      rintro e w4 ⟨rfl, cs4', f4⟩
      have HC4 := Lib.hid (HC3.out.setS cs4' f4)
      have F4 := Lib.hid (show Fr (chV p U mi bv) w1 w4 from F3.out.trans (f4.mono (fun j hj => HU.out j hj)) (fun _ _ h => h))
      have KP4 := Lib.hid (KP3.out.same (f4.mono (fun j hj => HU.out j hj)))
      clear cs4' f4
      refine hK'.out _ _ ?_ (fun hS => ?_)
      · exact ⟨HC4.out.cells.1, F4.out.cell X4.out NV.out, KP4.out.now.1.1⟩
      try simp only [Act.put, List.setIfInBounds_toArray, List.set_cons_zero, List.set_cons_succ]
      refine lexL_nil (hK.out _ _ ?_)
      go_wp2_with fail
      go_roundw
      case rel => exact ⟨m, congrArg (Value.int .i64) (by cases m with | zero => rfl | succ n => show ((n + 1 : Nat) : Int) - 1 = (n : Int); omega), by omega, by rw [SN.out]; exact HC4.out, F4.out⟩
      case measure => show ((m : Int) - 1 + 1).toNat < ((m : Int) + 1).toNat; omega
    | zero =>
      have hp1 : prevI 0 = -1 := rfl
      rw [hp1]
      have c3 := FR.out.cell X3.out NV.out
      have HCA := Lib.hid (show ChAt w0 wr p s U mi bv css ⟨undoS d.chg D.S, D.bs, D.M⟩ from HC.out)
      clear hp1 HC
      go_wp2_with fail
      (try simp only [Exit.inBlock, Exit.then])
      clear c3
      go_loopw [40] (fun iv wq => ∃ (n : Nat) (M : List (HashD × Int)), iv = .int .i64 n ∧ n ≤ d.ids.length ∧ ChAt w0 wq p s U mi bv css ⟨undoS d.chg D.S, D.bs, M⟩ ∧ (∀ x v, (x, v) ∈ M ↔ x ∉ d.ids.take n ∧ (x, v) ∈ D.M) ∧ M.length ≤ D.M.length ∧ Fr (chV p U mi bv) w1 wq) (fun iv _ => d.ids.length - (intOf iv).toNat)
      case atStart => exact ⟨0, D.M, rfl, Nat.zero_le _, HCA.out, by simp, Nat.le_refl _, FR.out⟩
      case round =>
        obtain ⟨n, M, rfl, hn, hch, hM, hml, fr⟩ := hrel
        have FQ := Lib.hid fr
        have HC := Lib.hid hch
        have HMM := Lib.hid hM
        have HML := Lib.hid hml
        clear fr hch hM hml
        by_cases hlt : n < d.ids.length
        · have i1 : (n : Int) < (d.ids.length : Int) := by omega
          obtain ⟨x, hx⟩ : ∃ x, d.ids[n]? = some x := ⟨_, List.getElem?_eq_getElem hlt⟩
          have KQ := KI.out wr FQ.out
          have XOK := Lib.hid (KQ.1 x (List.mem_of_getElem? hx))
          obtain ⟨b, off, cap, hv, hr, -⟩ := KQ.at_ hx
          cases hv
          have R1 := Lib.hid hr
          have HL := Lib.hid (hashC_len XOK.out)
          have FA := Lib.hid ((Fr.refl No wr).alloc (.cells (hashC x).toArray 45))
          have RX := Lib.hid (range_new wr (hashC x) 45)
          have QX := Lib.hid (show (wr.alloc (.cells (hashC x).toArray 45)).heap.size = wr.heap.size + 1 by simp)
          have TK := Lib.hid (show ∀ y, y ∉ d.ids.take (n + 1) ↔ y ∉ d.ids.take n ∧ y ≠ x from fun y => by
            rw [List.take_add_one, hx]
            simp)
          clear hr hx KQ
          go_wp2_with (first | (refine wpList_value rfl (exec_load (ty := 45) rfl rfl R1.out uH rH (by rw [HL.out]; exact infoHash)) ?_) | (refine wpList_done rfl (exec_store_new (w := wr) (ty := 45) (cs := hashC x) rfl rfl rfl (by rw [HL.out]; rfl) (by rw [HL.out]; exact infoHash) hashC_one) ?_))
          have FZ := Lib.hid (FA.out.trans0 (Fr.refl No (wr.alloc (.cells (hashC x).toArray 45))).drew)
          have HZ := Lib.hid (HC.out.fr0 FZ.out)
          have RZ := Lib.hid (range_keep RX.out (Fr.refl No (wr.alloc (.cells (hashC x).toArray 45))).drew _root_.id)
          have SZ := Lib.hid (show wr.heap.size < (wr.alloc (.cells (hashC x).toArray 45)).drew.heap.size by show wr.heap.size < (wr.alloc (.cells (hashC x).toArray 45)).heap.size; have := QX.out; omega)
          refine wp_region_lexL [false, false, false, false, false, true] (fun w' => w'.cell? ⟨p, 2, none⟩ = some (.map (some mi)) ∧ w'.rangeAt wr.heap.size 0 (hashC x)) (by kernel_rfl) (by kernel_rfl) ?_ (fun K hK => ?_)
          · exact ⟨HZ.out.cells.2.2, RZ.out⟩
          generalize (wr.alloc (.cells (hashC x).toArray 45)).drew = z1 at *
          obtain ⟨w5, M5, hdel, hm5, hD5, hT5, hl5⟩ := HZ.out.map.del eqHash.keyed undMapIds (fun _ _ => hashV_inj) (keyOfHash XOK.out) 0 45
          have HR5 := Lib.hid hdel
          have HC5 := Lib.hid (HZ.out.setM hm5 hT5.fr)
          have FM := Lib.hid hT5.fr
          have F5 := Lib.hid (show Fr (chV p U mi bv) w1 w5 from (FQ.out.trans0 FZ.out).trans hT5.fr (fun j hj e => by subst e; exact HM.out))
          have ME := Lib.hid (show ∀ y v, (y, v) ∈ M5 ↔ y ∉ d.ids.take (n + 1) ∧ (y, v) ∈ D.M from fun y v => by
            rw [hD5 y v, HMM.out, TK.out]
            exact ⟨fun ⟨a, b, c⟩ => ⟨⟨b, a⟩, c⟩, fun ⟨⟨b, a⟩, c⟩ => ⟨a, b, c⟩⟩)
          have ML := Lib.hid (Nat.le_trans hl5 HML.out)
          have R5 := Lib.hid (range_keep RZ.out hT5.fr (fun e => by have := HC.out.map.lt; omega))
          clear hdel hm5 hD5 hT5 hl5
          repeat (first | ((first | with_reducible refine lexL_read ?_ | ((with_reducible refine lexL_readG ?_ ?_); (focus rfl))); apply Exists.intro; refine ⟨?_, ?_⟩; (focus (first | exact lex_load (ty := 45) rfl (fun w h => h.2) uH rH (by rw [HL.out]; exact infoHash) | (intro w' hS; obtain ⟨s1, s2⟩ := hS; go_simp; (try with_reducible rfl); done))); try simp only [Act.put, List.setIfInBounds_toArray, List.set_cons_zero, List.set_cons_succ]) | ((first | ((with_reducible refine lexL_skip (c := false) ?_ ?_ ?_); (focus rfl); (focus rfl)) | ((with_reducible refine lexL_skip (c := true) ?_ ?_ ?_); (focus rfl); (focus rfl)) | ((with_reducible refine lexL_skipU ?_ ?_); (focus rfl))); try simp only [Act.put, List.setIfInBounds_toArray, List.set_cons_zero, List.set_cons_succ]))
          (first | with_reducible refine lexL_eff (fun K' hK' => ?_) | ((with_reducible refine lexL_effG ?_ (fun K' hK' => ?_)); (focus rfl)))
          refine wp_value (exec_delete rfl rfl rfl HR5.out) ?_
          refine hK'.out _ _ ?_ (fun hS => ?_)
          · exact ⟨HC5.out.cells.2.2, R5.out⟩
          try simp only [Act.put]
          refine lexL_nil (hK.out _ _ ?_)
          go_wp2_with fail
          go_roundw
          case rel => exact ⟨n + 1, M5, by go_num, by omega, HC5.out, ME.out, ML.out, F5.out⟩
          case measure => simp [intOf]; omega
        · have hne : n = d.ids.length := by omega
          have i1 : ¬ (n : Int) < (d.ids.length : Int) := by omega
          have HE := Lib.hid (show ∀ x v, (x, v) ∈ M ↔ x ∉ d.ids ∧ (x, v) ∈ D.M by
            have := HMM.out
            rw [hne, List.take_length] at this
            exact this)
          go_wp2
          refine bodyPost_end (results_none rfl _ _ _) rfl ?_
          exact ⟨rfl, M, HC.out, HE.out, HML.out, F1.out.of0.trans FQ.out (fun _ _ h => h)⟩
end Go.Proofs.YtmpamcnlineceaaDoor
