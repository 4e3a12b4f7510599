/- chain: Connect and Disconnect of any block; a chain behind acts. -/
import Derived.Test.YtmpamcnlineceaaDoorMG42
import Derived.Test.YtmpamcnlineceaaDoorMG43
import Derived.Test.YtmpamcnlineceaaDoorMG33
set_option linter.unusedVariables false
set_option linter.unusedSimpArgs false
set_option linter.unnecessarySimpa false
set_option linter.all false
namespace Go.Proofs.YtmpamcnlineceaaDoor
open Go Go.RowKit Go.Maps Go.MapKept

/-- A chain, and how it came to be. -/
structure Gd (w0 w : World) (p : Nat) (V : Nat → Prop) (S0 : List CoinD) (S : List CoinD) (bs : List DoneD) : Prop where
  hist : Hist S0 bs S
  srt0 : SrtC S0
  ok0 : ∀ c ∈ S0, c.ok
  len0 : S0.length ≤ 300
  cn : Cn w0 w p V S bs (idsOf bs)
section
variable {w0 w w' : World} {p : Nat} {V : Nat → Prop} {S0 S : List CoinD} {bs : List DoneD}
theorem Gd.fr0 (h : Gd w0 w p V S0 S bs) (f : Fr No w w') : Gd w0 w' p V S0 S bs := { h with cn := h.cn.fr0 f }
theorem Gd.hok (h : Gd w0 w p V S0 S bs) : HOk S0 bs S := h.hist.good h.srt0 h.ok0
theorem Gd.fr (h : Gd w0 w p V S0 S bs) : Fr No w0 w := h.cn.fr
theorem Gd.hi (h : Gd w0 w p V S0 S bs) : ∀ j, V j → j < w.heap.size := h.cn.hi
theorem Gd.lo (h : Gd w0 w p V S0 S bs) : ∀ j, V j → w0.heap.size ≤ j := h.cn.lo
theorem Gd.slen (h : Gd w0 w p V S0 S bs) (hB : bs.length ≤ 200) : S.length ≤ 30000 := by
  have := h.hok.len
  have := h.len0
  omega
theorem idsOf_len {bs : List DoneD} (h : ∀ d ∈ bs, d.ids.length ≤ 16) : (idsOf bs).length ≤ 16 * bs.length := by
  induction bs with
  | nil => simp [idsOf]
  | cons d l ih =>
    have h1 := ih (fun x hx => h x (.tail _ hx))
    have h2 := h d (.head _)
    have e : idsOf (d :: l) = d.ids ++ idsOf l := by simp [idsOf]
    rw [e, List.length_append, List.length_cons]
    omega
theorem Cn.set {ids ids' : List HashD} (h : Cn w0 w p V S bs ids) (hs : ∀ x, x ∈ ids ↔ x ∈ ids') : Cn w0 w p V S bs ids' := by
  obtain ⟨M, a, b, c⟩ := h
  exact ⟨M, a, fun x => (hs x).symm.trans (b x), c⟩
def ConnG (w0 w : World) (p : Nat) (V : Nat → Prop) (S0 : List CoinD) (S : List CoinD) (bs : List DoneD) (b : BlkD) (e : Ending) (w' : World) : Prop :=
  e = .returned (.int .i64 (connE (idsOf bs) S bs b)) ∧ Fr V w w' ∧ ∃ V', (∀ j, V' j → V j ∨ w.heap.size ≤ j) ∧ Gd w0 w' p V' S0 (connS (idsOf bs) S bs b) (connB (idsOf bs) S bs b)
theorem conn_g (hg : ShaW w0) (h : Gd w0 w p V S0 S bs) (hB : bs.length ≤ 200) {b : BlkD} {cs : List Value} (hb : BlkQ w b cs) :
    Calls Tryd.prog 15 #[.pointer (some ⟨p, 0, none⟩), .agg cs.toArray] w (ConnG w0 w p V S0 S bs b) := by
  have hok := h.hok
  have hsl := h.slen hB
  obtain ⟨M, ⟨s, U, mi, bv, css, hc, hV⟩, hid, hpos⟩ := h.cn
  by_cases hpre : preE ⟨S, bs, M⟩ b = 0
  · have hparts : ¬ 1024 ≤ bs.length ∧ blkOk b = true ∧ b.pay.any badV = false := by
      unfold preE at hpre
      dsimp only at hpre
      split at hpre
      · cases hpre
      · rename_i h1
        split at hpre
        · rename_i h2
          split at hpre
          · cases hpre
          · rename_i h3
            exact ⟨h1, h2, by simpa using h3⟩
        · cases hpre
    obtain ⟨h1, h2, h3⟩ := hparts
    have hE : connE (idsOf bs) S bs b = (doR (idsOf bs) S b).E := by
      unfold connE
      rw [if_neg h1, if_pos h2, h3, if_neg (by decide)]
    obtain ⟨p1, p2, p3⟩ := blkOk_iff h2
    have hbo := hb.oks
    obtain ⟨a1, a2, a3, a4, a5, a6, a7, a8, a9, a10⟩ := doR_ok (K := idsOf bs) hok.srt hok.ok (fun t ht => (hbo.1 t ht).2) hbo.2 p2 p1
    have hml : M.length ≤ 1000000 := by
      have hnd : (M.map (·.1)).Nodup := hc.map.nodup
      have h5 := (sub_len (B := idsOf bs) hnd (fun x hx => by
        obtain ⟨y, hy, rfl⟩ := List.mem_map.1 hx
        exact (hid _).2 ⟨y.2, hy⟩)).1
      have h6 := idsOf_len (fun d hd => (hok.ds d hd).1)
      rw [List.length_map] at h5
      omega
    refine (connect_main hg hc hb hpre (R := doR (idsOf bs) S b) (fun w cs hq => own_any w hq (by omega) (by omega) (fun t ht => ?_)) (fun w' dq bcs h' hq hn hl hk hok' hd => (do_any hg h' hid hpos hq hn hl hk hok' hok.srt (by show S.length ≤ _; omega) (by show bs.length ≤ _; omega) (by show M.length ≤ _; omega) hd).mono fun e w'' hh => hh) ⟨by omega, by omega, by omega⟩).mono fun e w' ⟨he, hf, hgood, hbad⟩ => ?_
    · obtain ⟨q1, q2, q3⟩ := formB_iff.1 (p3 t ht)
      exact ⟨by omega, by omega, fun x hx => by have := q1 x hx; omega⟩
    · have hVV : ∀ j, chV p U mi bv j ↔ V j := fun j => by rw [hV]
      refine ⟨by rw [he, hE], hf.mono (fun j hj => (hVV j).1 hj), ?_⟩
      by_cases hz : (doR (idsOf bs) S b).E = 0
      · obtain ⟨bv', css', M', hc', hsp, hgr⟩ := hgood hz
        have hz2 : connE (idsOf bs) S bs b = 0 := by rw [hE]; exact hz
        refine ⟨chV p U mi bv', fun j hj => ?_, ?_⟩
        · rcases hj with e | e | e | e
          · exact .inl ((hVV j).1 (.inl e))
          · exact .inl ((hVV j).1 (.inr (.inl e)))
          · exact .inl ((hVV j).1 (.inr (.inr (.inl e))))
          · exact (hgr j e).imp_left (fun e => (hVV j).1 (.inr (.inr (.inr e))))
        · have e1 : connS (idsOf bs) S bs b = (doR (idsOf bs) S b).S := by unfold connS; rw [if_pos hz2]
          have e2 : connB (idsOf bs) S bs b = bs ++ [(doR (idsOf bs) S b).d] := by unfold connB; rw [if_pos hz2]
          rw [e1, e2]
          refine ⟨.snoc h.hist hbo hz2, h.srt0, h.ok0, h.len0, M', ⟨s, U, mi, bv', css', hc', rfl⟩, fun x => ?_, fun x v hx => ?_⟩
          · rw [idsOf_snoc, List.mem_append, hid]
            constructor
            · rintro (⟨v, hv⟩ | hx)
              · exact ⟨v, (hsp.1 x v).2 (.inl hv)⟩
              · exact ⟨_, (hsp.1 x _).2 (.inr ⟨hx, rfl⟩)⟩
            · rintro ⟨v, hv⟩
              exact ((hsp.1 x v).1 hv).imp (fun h => ⟨v, h⟩) (fun h => h.1)
          · rcases (hsp.1 x v).1 hx with h | ⟨_, h⟩
            · exact hpos x v h
            · rw [h]; show (0 : Int) < (bs.length : Int) + 1; omega
      · obtain ⟨M', hc', hmm⟩ := hbad hz
        have hz2 : connE (idsOf bs) S bs b ≠ 0 := by rw [hE]; exact hz
        have e1 : connS (idsOf bs) S bs b = S := by unfold connS; rw [if_neg hz2]
        have e2 : connB (idsOf bs) S bs b = bs := by unfold connB; rw [if_neg hz2]
        rw [a4] at hc'
        refine ⟨chV p U mi bv, fun j hj => .inl ((hVV j).1 hj), ?_⟩
        rw [e1, e2]
        exact ⟨h.hist, h.srt0, h.ok0, h.len0, M', ⟨s, U, mi, bv, css, hc', rfl⟩, fun x => by rw [hid]; simp only [hmm], fun x v hx => hpos x v ((hmm x v).1 hx)⟩
  · have hE : connE (idsOf bs) S bs b = preE ⟨S, bs, M⟩ b := by
      unfold preE at hpre ⊢
      unfold connE
      dsimp only at hpre ⊢
      split
      · rfl
      · rename_i h1
        rw [if_neg h1] at hpre
        split
        · rename_i h2
          rw [if_pos h2] at hpre
          split
          · rfl
          · rename_i h3
            rw [if_neg h3] at hpre
            exact absurd rfl hpre
        · rfl
    have hz2 : connE (idsOf bs) S bs b ≠ 0 := by rw [hE]; exact hpre
    refine (connect_pre hg hc hb (by show bs.length ≤ _; omega) hpre).mono fun e w' ⟨he, f⟩ => ⟨by rw [he, hE], f.of0, V, fun j hj => .inl hj, ?_⟩
    have e1 : connS (idsOf bs) S bs b = S := by unfold connS; rw [if_neg hz2]
    have e2 : connB (idsOf bs) S bs b = bs := by unfold connB; rw [if_neg hz2]
    rw [e1, e2]
    exact ⟨h.hist, h.srt0, h.ok0, h.len0, h.cn.fr0 f⟩
def DiscG (w0 w : World) (p : Nat) (V : Nat → Prop) (S0 : List CoinD) (S : List CoinD) (bs : List DoneD) (d : DoneD) (e : Ending) (w' : World) : Prop :=
  ∃ bcs V', e = .returned (.tuple #[.agg bcs.toArray, .int .i64 0]) ∧ Fr V w w' ∧ (∀ j, V' j → V j) ∧ Gd w0 w' p V' S0 (undoS d.chg S) bs ∧ Kept V w' (fun w => BlkQ w d.blk bcs)
theorem disc_g {d : DoneD} (h : Gd w0 w p V S0 S (bs ++ [d])) (hB : bs.length ≤ 200) :
    Calls Tryd.prog 20 #[.pointer (some ⟨p, 0, none⟩)] w (DiscG w0 w p V S0 S bs d) := by
  have hok := h.hok
  have hsl : S.length ≤ 30000 := by
    have := h.hok.len
    have := h.len0
    rw [List.length_append] at *
    simp only [List.length_cons, List.length_nil] at *
    omega
  obtain ⟨h1, h2, h3, h4, h5, h6⟩ := h.hist.undo h.srt0 h.ok0
  have hd := hok.ds d (by simp)
  obtain ⟨M, ⟨s, U, mi, bv, css, hc, hV⟩, hid, hpos⟩ := h.cn
  refine (disc_any hc rfl (by omega) (by show S.length + _ ≤ _; omega) (by omega) (by omega)).mono fun e w' ⟨bcs, bv', css', M', he, hc', hm, hk, hf, hbv, _⟩ => ?_
  have hVV : ∀ j, chV p U mi bv' j ↔ V j := fun j => by rw [hV]; unfold chV; rw [hbv]
  have hVV0 : ∀ j, chV p U mi bv j ↔ V j := fun j => by rw [hV]
  refine ⟨bcs, chV p U mi bv', he, hf.mono (fun j hj => (hVV0 j).1 hj), fun j hj => (hVV j).1 hj, ⟨h1, h.srt0, h.ok0, h.len0, M', ⟨s, U, mi, bv', css', hc', rfl⟩, fun x => ?_, fun x v hx => hpos x v ((hm x v).1 hx).2⟩, fun w2 f => hk w2 (f.mono (fun j hj => (hVV j).2 hj))⟩
  have := idsOf_filter h6 x
  rw [← this]
  simp only [List.mem_filter, Bool.not_eq_true', decide_eq_false_iff_not]
  rw [hid]
  constructor
  · rintro ⟨⟨v, h1⟩, h2⟩
    exact ⟨v, (hm x v).2 ⟨h2, h1⟩⟩
  · rintro ⟨v, h1⟩
    obtain ⟨a, b⟩ := (hm x v).1 h1
    exact ⟨⟨v, b⟩, a⟩
/-- The same, with the cells of the blocks. -/
def GdX (w0 w : World) (p : Nat) (V : Nat → Prop) (S0 S : List CoinD) (bs : List DoneD) (css : List (List Value)) : Prop :=
  Hist S0 bs S ∧ ∃ s U mi bv M, ChAt w0 w p s U mi bv css ⟨S, bs, M⟩ ∧ V = chV p U mi bv ∧ (∀ x, x ∈ idsOf bs ↔ ∃ v, (x, v) ∈ M) ∧ ∀ x v, (x, v) ∈ M → 0 < v
theorem Gd.x (h : Gd w0 w p V S0 S bs) : ∃ css, GdX w0 w p V S0 S bs css := by
  obtain ⟨M, ⟨s, U, mi, bv, css, hc, hV⟩, hid, hpos⟩ := h.cn
  exact ⟨css, h.hist, s, U, mi, bv, M, hc, hV, hid, hpos⟩
theorem GdX.gd {css : List (List Value)} (h : GdX w0 w p V S0 S bs css) (srt : SrtC S0) (ok : ∀ c ∈ S0, c.ok) (hl : S0.length ≤ 300) : Gd w0 w p V S0 S bs := by
  obtain ⟨hh, s, U, mi, bv, M, hc, hV, hid, hpos⟩ := h
  exact ⟨hh, srt, ok, hl, M, ⟨s, U, mi, bv, css, hc, hV⟩, hid, hpos⟩
theorem GdX.data {css : List (List Value)} (h : GdX w0 w p V S0 S bs css) : ∀ (i : Nat) (d : DoneD) (cs : List Value), bs[i]? = some d → css[i]? = some cs → Kept V w (fun w => DoneQ w d cs) := by
  obtain ⟨hh, s, U, mi, bv, M, hc, hV, hid, hpos⟩ := h
  intro i d cs h1 h2
  rw [hV]
  exact hc.data i d cs h1 h2
theorem GdX.cl {css : List (List Value)} (h : GdX w0 w p V S0 S bs css) : css.length = bs.length := by
  obtain ⟨hh, s, U, mi, bv, M, hc, hV, hid, hpos⟩ := h
  exact hc.cl
theorem GdX.fr0 {css : List (List Value)} (h : GdX w0 w p V S0 S bs css) (f : Fr No w w') : GdX w0 w' p V S0 S bs css := by
  obtain ⟨hh, s, U, mi, bv, M, hc, hV, hid, hpos⟩ := h
  exact ⟨hh, s, U, mi, bv, M, hc.fr0 f, hV, hid, hpos⟩
/-- A part that is not of the chain turns. -/
theorem GdX.frV {css : List (List Value)} (h : GdX w0 w p V S0 S bs css) {W : Nat → Prop} (f : Fr W w w') (hU : ∀ j, V j → ¬ W j) (h0 : ∀ j, W j → w0.heap.size ≤ j) (hd : ∀ (i : Nat) (d : DoneD) (cs : List Value), bs[i]? = some d → css[i]? = some cs → Kept V w' (fun w => DoneQ w d cs)) : GdX w0 w' p V S0 S bs css := by
  obtain ⟨hh, s, U, mi, bv, M, hc, hV, hid, hpos⟩ := h
  subst hV
  exact ⟨hh, s, U, mi, bv, M, hc.frV f hU h0 hd, rfl, hid, hpos⟩
def DiscX (w0 w : World) (p : Nat) (V : Nat → Prop) (S0 : List CoinD) (S : List CoinD) (bs : List DoneD) (d : DoneD) (css : List (List Value)) (e : Ending) (w' : World) : Prop :=
  ∃ bcs V' css' tl, e = .returned (.tuple #[.agg bcs.toArray, .int .i64 0]) ∧ Fr V w w' ∧ (∀ j, V' j → V j) ∧ GdX w0 w' p V' S0 (undoS d.chg S) bs css' ∧ Kept V w' (fun w => BlkQ w d.blk bcs) ∧ css = css' ++ [bcs ++ tl]
theorem disc_x {d : DoneD} {css : List (List Value)} (h : GdX w0 w p V S0 S (bs ++ [d]) css) (srt0 : SrtC S0) (ok0 : ∀ c ∈ S0, c.ok) (len0 : S0.length ≤ 300) (hB : bs.length ≤ 200) :
    Calls Tryd.prog 20 #[.pointer (some ⟨p, 0, none⟩)] w (DiscX w0 w p V S0 S bs d css) := by
  have hok := h.1.good srt0 ok0
  have hsl : S.length ≤ 30000 := by
    have := hok.len
    rw [List.length_append] at this
    simp only [List.length_cons, List.length_nil] at this
    omega
  obtain ⟨h1, h2, h3, h4, h5, h6⟩ := h.1.undo srt0 ok0
  have hd := hok.ds d (by simp)
  obtain ⟨hh, s, U, mi, bv, M, hc, hV, hid, hpos⟩ := h
  refine (disc_any hc rfl (by omega) (by show S.length + _ ≤ _; omega) (by omega) (by omega)).mono fun e w' ⟨bcs, bv', css', M', he, hc', hm, hk, hf, hbv, tl, htl⟩ => ?_
  have hVV : ∀ j, chV p U mi bv' j ↔ V j := fun j => by rw [hV]; unfold chV; rw [hbv]
  have hVV0 : ∀ j, chV p U mi bv j ↔ V j := fun j => by rw [hV]
  refine ⟨bcs, chV p U mi bv', css', tl, he, hf.mono (fun j hj => (hVV0 j).1 hj), fun j hj => (hVV j).1 hj, ⟨h1, s, U, mi, bv', M', hc', rfl, fun x => ?_, fun x v hx => hpos x v ((hm x v).1 hx).2⟩, fun w2 f => hk w2 (f.mono (fun j hj => (hVV j).2 hj)), htl⟩
  have := idsOf_filter h6 x
  rw [← this]
  simp only [List.mem_filter, Bool.not_eq_true', decide_eq_false_iff_not]
  rw [hid]
  constructor
  · rintro ⟨⟨v, h1⟩, h2⟩
    exact ⟨v, (hm x v).2 ⟨h2, h1⟩⟩
  · rintro ⟨v, h1⟩
    obtain ⟨a, b⟩ := (hm x v).1 h1
    exact ⟨⟨v, b⟩, a⟩
theorem disc_g0 (h : Gd w0 w p V S0 S []) : Calls Tryd.prog 20 #[.pointer (some ⟨p, 0, none⟩)] w fun e w' => e = .returned (.tuple #[.agg blkz.toArray, .int .i64 9]) ∧ Fr No w w' := discn_none h.cn
theorem new_g (w : World) {v : Value} {l : List OutD} (hl : OutsIs w v l) (hN : l.length ≤ 256) :
    Calls Tryd.prog 17 #[v] w fun e w' => ∃ p, e = .returned (.tuple #[.pointer (some ⟨p, 0, none⟩), .int .i64 0]) ∧ ∃ V, Gd w w' p V (putC [] (payC hash0 l)) (putC [] (payC hash0 l)) [] := by
  refine (newn_any w hl hN).mono fun e w' ⟨p, he, V, h⟩ => ⟨p, he, V, .nil, ?_, fun c hc => ?_, ?_, h⟩
  · exact putC_srt List.Pairwise.nil (payC_nodup _ _) (fun c hc => rfl)
  · rcases mem_putC.1 hc with hc | hc
    · cases hc
    · exact payC_ok hash0_ok hl.1 (by omega) c hc
  · rw [(putC_perm _ _).length_eq, List.nil_append, payC_len]
    omega
end
/-- What grown leaves. -/
def GrownOk (w : World) (F : List OutD) (n : Nat) (e : Ending) (w' : World) : Prop :=
  (256 < F.length ∧ e = .returned (.pointer none) ∧ w' = w) ∨ (F.length ≤ 256 ∧ ∃ p V S bs, e = .returned (.pointer (some ⟨p, 0, none⟩)) ∧ Gd w w' p V (putC [] (payC hash0 F)) S bs ∧ bs.length ≤ n)
set_option maxRecDepth 20000 in
set_option maxHeartbeats 4000000 in
theorem grown_g {w : World} (hg : ShaW w) {fv lv : Value} {F : List OutD} {L : List Act11} (hf : OutsIs w fv F) (hl : Acts11Is w lv L) (hL : L.length ≤ 40) :
    Calls Tryd.prog 13 #[fv, lv] w (GrownOk w F L.length) := by
  by_cases h256 : 256 < F.length
  · have HL := Lib.hid h256
    obtain ⟨fa, fc, rfl⟩ := hf.2.form
    obtain ⟨la, lc, rfl⟩ := hl.form
    have NW := Lib.hid (chnew_long w (a := fa) (c := fc) h256)
    clear h256 hf hl hg hL
    go_enter Tryd.func13, Tryd.ntmps13
    go_wp2_with (go_at_call 17; refine NW.out.mono ?_; rintro e w1 ⟨rfl, rfl⟩)
    go_ret
    exact .inl ⟨HL.out, rfl, rfl⟩
  · have HF := Lib.hid (show F.length ≤ 256 by omega)
    have HG := Lib.hid hg
    have HLL := Lib.hid hl
    have NW := Lib.hid (new_g w hf (by omega))
    obtain ⟨fa, fc, rfl⟩ := hf.2.form
    obtain ⟨la, lc, rfl⟩ := hl.form
    obtain ⟨dA, uA, rA⟩ := descAct11
    obtain ⟨dB, uB, rB⟩ := descBlk
    have zA := zeroAct11
    have POST := Lib.hid (show ∀ w' p V S bs, Gd w w' p V (putC [] (payC hash0 F)) S bs → bs.length ≤ L.length → GrownOk w F L.length (.returned (.pointer (some ⟨p, 0, none⟩))) w' from fun w' p V S bs h hb => .inr ⟨HF.out, p, V, S, bs, rfl, h, hb⟩)
    clear h256 hf hl hg
    generalize putC [] (payC hash0 F) = S0 at *
    go_enter Tryd.func13, Tryd.ntmps13
    have K0 := Lib.hid True.intro
    go_wp2_with (first | (have mk := K0.out; go_at_call 17; refine NW.out.mono ?_; rintro e w1 ⟨p, rfl, V, hgd⟩; have GD := Lib.hid hgd; clear hgd; go_frame; clear mk K0))
    go_loopw [18] (fun iv wr => ∃ (n : Nat) (V : Nat → Prop) (S : List CoinD) (bs : List DoneD), iv = .int .i64 n ∧ n ≤ L.length ∧ Gd w wr p V S0 S bs ∧ bs.length ≤ n) (fun iv _ => L.length - (intOf iv).toNat)
    case atStart => exact ⟨0, V, S0, [], rfl, Nat.zero_le _, GD.out, Nat.le_refl _⟩
    case round =>
      obtain ⟨n, V', S, bs, rfl, hn, hgd, hbs⟩ := hrel
      have GR := Lib.hid hgd
      have BS := Lib.hid hbs
      clear hgd hbs
      by_cases hlt : n < L.length
      · have i1 : (n : Int) < (L.length : Int) := by omega
        obtain ⟨a, hx⟩ : ∃ x, L[n]? = some x := ⟨_, List.getElem?_eq_getElem hlt⟩
        obtain ⟨bb, off, cap, acs, hvv, hr, hq⟩ := (HLL.out.keep0 GR.out.fr).at_ hx
        cases hvv
        obtain ⟨bcs, rfl, hbq⟩ := hq
        obtain ⟨pa, pc, ta, tc, rfl⟩ := hbq.form
        have R1 := Lib.hid (show wr.rangeAt bb (off + n * 4) [.int .i64 a.kind, .int .u64 a.blk.tag, .slice pa a.blk.pay.length pc, .slice ta a.blk.txs.length tc] from hr)
        have FA := Lib.hid ((Fr.refl No wr).alloc (.cells #[.int .i64 a.kind, .int .u64 a.blk.tag, .slice pa a.blk.pay.length pc, .slice ta a.blk.txs.length tc] 85))
        have RA := range_new wr [.int .i64 a.kind, .int .u64 a.blk.tag, .slice pa a.blk.pay.length pc, .slice ta a.blk.txs.length tc] 85
        have n0 : (wr.alloc (.cells #[.int .i64 a.kind, .int .u64 a.blk.tag, .slice pa a.blk.pay.length pc, .slice ta a.blk.txs.length tc] 85)).cell? ⟨wr.heap.size, 0, none⟩ = some (.int .i64 a.kind) := by have := RA 0 _ rfl; simpa using this
        have RB := Lib.hid (show (wr.alloc (.cells #[.int .i64 a.kind, .int .u64 a.blk.tag, .slice pa a.blk.pay.length pc, .slice ta a.blk.txs.length tc] 85)).rangeAt wr.heap.size 1 [.int .u64 a.blk.tag, .slice pa a.blk.pay.length pc, .slice ta a.blk.txs.length tc] from fun j v hj => by
          have := RA (j + 1) v (by simpa using hj)
          rw [Nat.zero_add] at this
          rw [Nat.add_comm]
          exact this)
        have GA := Lib.hid (GR.out.fr0 FA.out)
        have BQA := Lib.hid (hbq.keep FA.out)
        have B200 := Lib.hid (show bs.length ≤ 200 by have := BS.out; omega)
        clear hr hx hbq RA
        by_cases hk : a.kind = 0
        · have e0 : (a.kind == 0) = true := by simpa using hk
          have CON := Lib.hid (conn_g HG.out GA.out B200.out BQA.out)
          have BL := Lib.hid (show (connB (idsOf bs) S bs a.blk).length ≤ n + 1 by
            unfold connB
            have := BS.out
            split
            · rw [List.length_append]; simp; omega
            · omega)
          clear hk
          have K0 := Lib.hid True.intro
          have K1 := Lib.hid True.intro
          have K2 := Lib.hid True.intro
          have K3 := Lib.hid True.intro
          go_wp2_with (first | ((with_reducible refine at_list ?_); have mk := K0.out; refine wpList_value rfl (exec_load (ty := 85) rfl rfl R1.out uA rA infoAct11) ?_; go_frame; clear mk K0) | ((with_reducible refine at_store ?_); have mk := K1.out; refine wpList_done rfl (exec_store_new (w := wr) (ty := 85) (cs := [.int .i64 a.kind, .int .u64 a.blk.tag, .slice pa a.blk.pay.length pc, .slice ta a.blk.txs.length tc]) rfl rfl rfl rfl infoAct11 (fun u hu => by simp only [List.mem_cons, List.not_mem_nil, or_false] at hu; rcases hu with rfl | rfl | rfl | rfl <;> rfl)) ?_; generalize wr.alloc (.cells #[.int .i64 a.kind, .int .u64 a.blk.tag, .slice pa a.blk.pay.length pc, .slice ta a.blk.txs.length tc] 85) = wA at *; go_frame; clear mk K1) | ((with_reducible refine at_list ?_); have mk := K2.out; refine wpList_value rfl (exec_load (ty := 27) rfl rfl RB.out uB rB infoBlk) ?_; go_frame; clear mk K2) | (have mk := K3.out; go_at_call 15; refine CON.out.mono ?_; rintro e w2 ⟨rfl, -, V2, -, hg2⟩; have G2 := Lib.hid hg2; clear hg2; go_frame; clear mk K3))
          go_roundw
          case rel => exact ⟨n + 1, V2, _, _, by go_num, by omega, G2.out, BL.out⟩
          case measure => simp [intOf]; omega
        · have e0 : (a.kind == 0) = false := by simpa using hk
          clear hk BQA
          by_cases hb0 : bs = []
          · subst hb0
            have DC := Lib.hid (disc_g0 GA.out)
            have K0 := Lib.hid True.intro
            have K1 := Lib.hid True.intro
            have K2 := Lib.hid True.intro
            go_wp2_with (first | ((with_reducible refine at_list ?_); have mk := K0.out; refine wpList_value rfl (exec_load (ty := 85) rfl rfl R1.out uA rA infoAct11) ?_; go_frame; clear mk K0) | ((with_reducible refine at_store ?_); have mk := K1.out; refine wpList_done rfl (exec_store_new (w := wr) (ty := 85) (cs := [.int .i64 a.kind, .int .u64 a.blk.tag, .slice pa a.blk.pay.length pc, .slice ta a.blk.txs.length tc]) rfl rfl rfl rfl infoAct11 (fun u hu => by simp only [List.mem_cons, List.not_mem_nil, or_false] at hu; rcases hu with rfl | rfl | rfl | rfl <;> rfl)) ?_; generalize wr.alloc (.cells #[.int .i64 a.kind, .int .u64 a.blk.tag, .slice pa a.blk.pay.length pc, .slice ta a.blk.txs.length tc] 85) = wA at *; go_frame; clear mk K1) | (have mk := K2.out; go_at_call 20; refine DC.out.mono ?_; rintro e w2 ⟨rfl, f2⟩; have G2 := Lib.hid (GA.out.fr0 f2); clear f2; go_frame; clear mk K2))
            go_roundw
            case rel => exact ⟨n + 1, V', S, [], by go_num, by omega, G2.out, Nat.zero_le _⟩
            case measure => simp [intOf]; omega
          · obtain ⟨bs0, d, hbd⟩ : ∃ bs0 d, bs = bs0 ++ [d] := ⟨bs.dropLast, bs.getLast hb0, (List.dropLast_concat_getLast hb0).symm⟩
            subst hbd
            have BL := Lib.hid (show bs0.length ≤ n by have := BS.out; rw [List.length_append] at this; omega)
            have DC := Lib.hid (disc_g GA.out (by have := BL.out; omega))
            clear hb0 BS B200
            have K0 := Lib.hid True.intro
            have K1 := Lib.hid True.intro
            have K2 := Lib.hid True.intro
            go_wp2_with (first | ((with_reducible refine at_list ?_); have mk := K0.out; refine wpList_value rfl (exec_load (ty := 85) rfl rfl R1.out uA rA infoAct11) ?_; go_frame; clear mk K0) | ((with_reducible refine at_store ?_); have mk := K1.out; refine wpList_done rfl (exec_store_new (w := wr) (ty := 85) (cs := [.int .i64 a.kind, .int .u64 a.blk.tag, .slice pa a.blk.pay.length pc, .slice ta a.blk.txs.length tc]) rfl rfl rfl rfl infoAct11 (fun u hu => by simp only [List.mem_cons, List.not_mem_nil, or_false] at hu; rcases hu with rfl | rfl | rfl | rfl <;> rfl)) ?_; generalize wr.alloc (.cells #[.int .i64 a.kind, .int .u64 a.blk.tag, .slice pa a.blk.pay.length pc, .slice ta a.blk.txs.length tc] 85) = wA at *; go_frame; clear mk K1) | (have mk := K2.out; go_at_call 20; refine DC.out.mono ?_; rintro e w2 ⟨bc2, V2, rfl, -, -, hg2, -⟩; have G2 := Lib.hid hg2; clear hg2; go_frame; clear mk K2))
            go_roundw
            case rel => exact ⟨n + 1, V2, _, bs0, by go_num, by omega, G2.out, by have := BL.out; omega⟩
            case measure => simp [intOf]; omega
      · have hne : n = L.length := by omega
        have i1 : ¬ (n : Int) < (L.length : Int) := by omega
        have FIN := Lib.hid (POST.out wr p V' S bs GR.out (by have := BS.out; omega))
        go_wp2
        go_ret
        exact FIN.out
end Go.Proofs.YtmpamcnlineceaaDoor
