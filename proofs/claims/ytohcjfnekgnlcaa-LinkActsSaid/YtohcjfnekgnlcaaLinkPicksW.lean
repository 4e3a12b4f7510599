/- LinkPicks: the walk. -/
import Derived.Test.YtohcjfnekgnlcaaLinkY
import Derived.Deep.Upon
namespace Go.Proofs.Ytohcjfnekgnlcaa
open Go Go.RowKit Go.Maps Go.MapKept

/-- append onto what is cut to its own length: a new row, or the same where nothing is appended. -/
theorem append_cut {P : Program} (w : World) (t e : TypeId) (bytes : Nat) (z : Value) (ht : P.underlying t = some (.slice e)) (hinfo : (P.info? e).map (fun i => (i.zero, i.size, i.bytes)) = some (some z, 1, bytes))
    (b off p : Nat) (olds : List Value) (hol : olds.length = p) (holds : ∀ j u, olds[j]? = some u → w.cell? ⟨b, off + j, none⟩ = some u) (hb : b < w.heap.size)
    (ad : Addr) (m c : Nat) (news : List Value) (hx : ArgIs w (.slice (some ad) m c) m news) (hnl : news.length = m) (hbytes : (p + m) * bytes ≤ 140737488355328) (h63 : p + m ≤ 1000000) :
    ∃ v' w', (Builtin.append_ #[t, t] t #[.slice (some ⟨b, off, none⟩) p p, .slice (some ad) m c]).run P w = .ok v' w' ∧ SliceIs w' v' (p + m) (olds ++ news) ∧ Fr No w w' := by
  obtain ⟨i, hi, hz, hs, hb'⟩ := info_parts hinfo
  by_cases hm : m = 0
  · subst hm
    have hn : news = [] := List.eq_nil_of_length_eq_zero hnl
    subst hn
    refine ⟨_, _, run_append_nothing (P := P) w t t t e i ht hi (some ⟨b, off, none⟩) p p (Nat.le_refl _) _ ⟨.inl ⟨_, ht⟩, fun w' => by simp [Builtin.lenOf], run_firstCells_some (P := P) w i.size 0 ad 0 c [] (by simp) (by simp), run_firstCells_some (P := P) w.drew i.size 0 ad 0 c [] (by simp) (by simp), by simp, by simp⟩, .inr ⟨b, off, p, rfl, by omega, by unfold maxLen; omega, ?_, hb⟩, Fr.refl _ _⟩
    rw [List.append_nil]; exact holds
  · rcases hx with (⟨e1, _⟩ | ⟨b2, o2, c2, e1, h2, h3, h4, h5⟩) | ⟨_, _, _, e1, _⟩
    · cases e1
    · injection e1 with q1 q2 q3
      injection q1 with q1
      subst q1 q3
      refine ⟨_, _, run_append_grow (P := P) w t t e i z ht hi hz ⟨b, off, none⟩ p p olds (by rw [hs]; omega) (fun j u hj => by rw [addr_add]; exact holds j u hj) ⟨b2, o2, none⟩ m c news (by rw [hs]; omega) (fun j u hj => by rw [addr_add]; exact h4 j u hj) (by omega) (by omega) (growslice_fits (by omega) (by rw [hb']; exact hbytes)), ?_, ((Fr.refl No w).drew).alloc _⟩
      have hcap : p + m ≤ grownCap w (p + m) p e ∧ grownCap w (p + m) p e ≤ maxLen := ⟨grownCap_ge _ _ _ _, grownCap_le_maxLen _ _ _ _ (by unfold maxLen; omega)⟩
      refine .inr ⟨w.heap.size, 0, _, rfl, hcap.1, hcap.2, fun j u hj => ?_, by simp⟩
      have hbk := new_obj w.drew (.cells (olds.toArray ++ news.toArray ++ Builtin.zeroCells z.cells (grownCap w (p + m) p e - (p + m))) e)
      simp only [World.cell?]
      rw [show w.drew.heap.size = w.heap.size from rfl] at hbk
      rw [hbk]
      have hjl : j < (olds ++ news).length := (List.getElem?_eq_some_iff.1 hj).1
      simp only [Nat.zero_add]
      rw [← hj]
      simp only [List.length_append] at hjl
      simp [Array.getElem?_append, List.getElem?_append]
      intro h1
      omega
    · exact absurd e1 hm

/-- An act's own block. -/
def ActAt (w : World) (b : Nat) (d : ActD) (bv : Value) : Prop := w.heap[b]? = some (.cells #[.int .i64 d.kind, .int .i64 d.a, .int .i64 d.b, .int .i64 d.lane, .int .i64 d.pick, bv] 40 (0, 0))
theorem ActAt.keep {w w' : World} {b : Nat} {d : ActD} {bv : Value} (h : ActAt w b d bv) (f : Fr No w w') : ActAt w' b d bv := f.obj h id
theorem ActAt.keepV {w w' : World} {b : Nat} {d : ActD} {bv : Value} (h : ActAt w b d bv) {V : Nat → Prop} (f : Fr V w w') (hV : ¬ V b) : ActAt w' b d bv := f.obj h hV
theorem ActAt.cells {w : World} {b : Nat} {d : ActD} {bv : Value} (h : ActAt w b d bv) : w.cell? ⟨b, 0, none⟩ = some (.int .i64 d.kind) ∧ w.cell? ⟨b, 1, none⟩ = some (.int .i64 d.a) ∧ w.cell? ⟨b, 2, none⟩ = some (.int .i64 d.b) ∧ w.cell? ⟨b, 3, none⟩ = some (.int .i64 d.lane) ∧ w.cell? ⟨b, 4, none⟩ = some (.int .i64 d.pick) ∧ w.cell? ⟨b, 5, none⟩ = some bv := by
  unfold ActAt at h
  simp [World.cell?, h]

theorem takeM_no {m : LM} {k : Int × Int × Int} {q : Int} (h : q < 0 ∨ ((m.lane k).length : Int) ≤ q) : takeM m k q = (m, [], 9) ∨ takeM m k q = (m, [], 2) := by
  unfold takeM
  split
  · rw [if_neg (by omega)]; exact .inl rfl
  · unfold errOp
    split
    · rename_i h1 h2
      split
      · rename_i h3
        exact absurd ⟨h2.1, h2.2, h3⟩ h1
      · exact .inl rfl
    · exact .inr rfl
theorem takeM_yes {m : LM} {k : Int × Int × Int} {q : Nat} (hk : okWay m.op k) (h : q < (m.lane k).length) : ∃ m', takeM m k q = (m', (m.lane k).getD q [], 0) ∧ m'.lane k = (m.lane k).eraseIdx q := by
  unfold takeM
  rw [if_pos hk, if_pos (by omega)]
  exact ⟨⟨m.op, fun k' => if k' = k then (m.lane k).eraseIdx q else m.lane k'⟩, rfl, by simp⟩

theorem slice_cap {w : World} {a : Option Addr} {n cap : Nat} {cs : List Value} (h : SliceIs w (.slice a n cap) n cs) : n ≤ cap := by
  rcases h with ⟨e, e2, _⟩ | ⟨b', off', cap', e, h1, _⟩
  · omega
  · injection e with e1 e2 e3
    omega
theorem undRows' : Try.prog.underlying 35 = some (.slice (Try.prog.elem 35)) := by kernel_rfl
theorem sizeRows : ∀ w : World, (sizeOf (Try.prog.elem 35)).run Try.prog w = .ok 1 w := by
  intro w
  have h : (Try.prog.info? (Try.prog.elem 35)).map (fun i => (i.zero, i.size, i.bytes)) = some (some (.slice none 0 0), 1, 24) := by kernel_rfl
  obtain ⟨i, hi, hz, hs, hb⟩ := info_parts h
  simp [sizeOf, typeInfo, hi, hs]
theorem cut_head (a : Addr) (n cap q : Nat) (hq : q ≤ cap) (w : World) :
    (Instr.slice 35 (.slice (some a) n cap) none (some (.int .i64 (q : Int))) (some (.int .i64 (q : Int)))).run Try.prog w = .ok (.slice (some a) q q) w := by
  rw [run_slice_hm w 35 (some a) n cap undRows' .i64 .i64 q q (by omega) (by omega) (by omega), sizeRows]
  simp [Result.andThen, sliced, Addr.add]
theorem cut_tail {w : World} {b off n cap : Nat} {cs : List Value} (h : SliceIs w (.slice (some ⟨b, off, none⟩) n cap) n cs) (hl : cs.length = n) {q : Nat} (hq : q < n) :
    ∃ ad, (∀ w', (Instr.slice 35 (.slice (some ⟨b, off, none⟩) n cap) (some (.int .i64 ((q : Int) + 1))) none none).run Try.prog w' = .ok (.slice (some ad) (n - (q + 1)) (cap - (q + 1))) w') ∧
      ArgIs w (.slice (some ad) (n - (q + 1)) (cap - (q + 1))) (n - (q + 1)) (cs.drop (q + 1)) := by
  rcases h with ⟨e, _⟩ | ⟨b', off', cap', e, h1, h2, h3, h4⟩
  · cases e
  · injection e with e1 e2 e3
    injection e1 with e1
    injection e1 with e1 e4
    subst e1 e3 e4
    refine ⟨if cap = q + 1 then ⟨b, off, none⟩ else ⟨b, off + (q + 1), none⟩, fun w' => ?_, ?_⟩
    · rw [run_slice_l w' 35 (some ⟨b, off, none⟩) n cap undRows' .i64 ((q : Int) + 1) (by omega) (by omega), sizeRows]
      have e : ((q : Int) + 1).toNat = q + 1 := by omega
      simp only [Result.andThen, sliced, e]
      by_cases hc : cap = q + 1
      · simp [hc]
      · simp [hc, Addr.add]
    · by_cases hc : cap = q + 1
      · have hn : n = q + 1 := by omega
        refine .inr ⟨_, _, by rw [show n - (q + 1) = 0 by omega], by omega, List.drop_eq_nil_of_le (by omega), by omega⟩
      · rw [if_neg hc]
        exact .inl (.inr ⟨b, off + (q + 1), _, rfl, by omega, by omega, fun j u hj => by
          rw [List.getElem?_drop] at hj
          rw [Nat.add_assoc]
          exact h3 _ _ hj, h4⟩)

theorem infoRow' : (Try.prog.info? 28).map (fun i => (i.zero, i.size, i.bytes)) = some (some (.slice none 0 0), 1, 24) := by kernel_rfl
theorem rows_erase {w : World} {v : Value} {Y : List (List Int)} {cs : List Value} {q : Nat} (hq : q < Y.length) (hl : cs.length = Y.length) (h : SliceIs w v (q + (Y.length - (q + 1))) (cs.take q ++ cs.drop (q + 1)))
    (h4 : ∀ (i : Nat) (bs : List Int), Y[i]? = some bs → ∃ c, cs[i]? = some c ∧ SliceIs w c bs.length (bs.map byteV)) : RowsIs w v (Y.eraseIdx q) (fun _ => True) := by
  have e : (Y.eraseIdx q).length = q + (Y.length - (q + 1)) := by rw [List.length_eraseIdx, if_pos hq]; omega
  refine ⟨cs.eraseIdx q, ?_, ?_, fun _ _ => trivial, fun i bs hi => ?_⟩
  · rw [e, List.eraseIdx_eq_take_drop_succ]; exact h
  · rw [e, List.length_eraseIdx, if_pos (by omega)]; omega
  · rw [List.getElem?_eraseIdx] at hi ⊢
    split at hi
    · rename_i h1
      obtain ⟨c, c1, c2⟩ := h4 _ _ hi
      exact ⟨c, by rw [if_pos h1]; exact c1, c2, fun _ _ => trivial⟩
    · rename_i h1
      obtain ⟨c, c1, c2⟩ := h4 _ _ hi
      exact ⟨c, by rw [if_neg h1]; exact c1, c2, fun _ _ => trivial⟩

set_option maxHeartbeats 4000000 in
theorem picks_any (w : World) (va bv : Value) (L : List ActD) (d : ActD) (ha : ActsIs w va L) (hb : ArgIs w bv d.bytes.length (d.bytes.map byteV)) :
    Calls Try.prog 5 #[va, actV d bv] w fun e w' => e = .returned (.bool true) ∧ Fr No w w' := by
  have b0 : ActAt (w.alloc (.cells #[.int .i64 d.kind, .int .i64 d.a, .int .i64 d.b, .int .i64 d.lane, .int .i64 d.pick, bv] 40)) w.heap.size d bv := new_obj w _
  have B0 := Lib.hid b0
  unfold actV
  clear hb b0
  go_enter Try.func5, Try.ntmps5
  go_wp2_with fail
  refine (alive_any _).mono ?_
  rintro e w1 ⟨rfl, f1⟩
  have B1 := Lib.hid (B0.out.keep f1)
  have f1 := ((Fr.refl No w).alloc _).trans0 f1
  clear B0
  go_wp2_with fail
  refine (great_any w1 va L (ha.keep f1 (fun _ _ => id))).mono ?_
  rintro e w2 ⟨rfl, f2⟩
  have B2 := Lib.hid (B1.out.keep f2)
  have f2 := f1.trans0 f2
  clear B1 f1
  cases hg : greatB L with
  | true =>
    go_wp2
    go_ret
    exact ⟨rfl, f2⟩
  | false =>
    go_wp2_with fail
    refine (grown_st w w2 f2 va L (ha.keep f2 (fun _ _ => id)) hg).mono ?_
    rintro e w3 ⟨p, g3, rfl, st3, f3, hW3, -⟩
    have nB : ¬ g3.W w.heap.size := fun e => by have := hW3 _ e; have := obj_lt B2.out; omega
    have nL : ∀ k, g3.W k → k < w3.heap.size := st3.at_.wlt
    have NB := Lib.hid nB
    have NL := Lib.hid nL
    clear nB nL hW3
    have hmb := LMb.grown hg
    have hml := st3.lane_le (d.a, d.b, d.lane)
    have hmo := st3.lane_ok (d.a, d.b, d.lane)
    generalize runM emptyM L = m at *
    obtain ⟨c0, c1, c2, c3, c4, -⟩ := (B2.out.keep f3).cells
    have B3 := Lib.hid (B2.out.keep f3)
    have hl := lane_st st3 d.a d.b d.lane (fun bs hbs => Nat.le_trans (hmb _ bs hbs) (by omega))
    clear ha hg f2 f3 B2
    go_wp2_with fail
    refine hl.mono ?_
    rintro e w4 ⟨v4, rfl, r4, f4⟩
    obtain ⟨a4, n4, rfl⟩ := r4.form
    have st4 := st3.fr0 f4
    have B4 := Lib.hid (B3.out.keep f4)
    obtain ⟨c0, c1, c2, c3, c4, -⟩ := B4.out.cells
    clear B3 st3 f4 hl
    by_cases hq : d.pick < 0 ∨ ((m.lane (d.a, d.b, d.lane)).length : Int) ≤ d.pick
    · rcases takeM_no hq with hm' | hm'
      · have hts := take_st st4 d.a d.b d.lane d.pick (E := hm')
        clear hm'
        rcases hq with hq | hq
        · skip
          have j1 : decide (d.pick < 0) = true := decide_eq_true hq
          go_wp2_with fail
          refine hts.mono ?_
          rintro e w5 ⟨v5, rfl, g5, st5, sp5, o5⟩
          have B5 := Lib.hid (B4.out.keepV sp5.fr NB.out)
          obtain ⟨c0, c1, c2, c3, c4, -⟩ := B5.out.cells
          have r5 := r4.keep sp5.fr (fun j hj _ e => by have := NL.out j e; omega)
          have hls := lane_st st5 d.a d.b d.lane (fun bs hbs => Nat.le_trans (hmb (d.a, d.b, d.lane) bs hbs) (by omega))
          obtain ⟨a5, n5, rfl⟩ := o5.1.arg.form
          clear st4 B4 NL NB r4 hts sp5 hmb o5
          generalize m.lane (d.a, d.b, d.lane) = Y at *
          go_wp2_with fail
          refine hls.mono ?_
          rintro e w6 ⟨v6, rfl, r6, f6⟩
          have FIN0 := st5.fr.trans0 f6
          have B6 := Lib.hid (B5.out.keep f6)
          have r5 := r5.keep f6 (fun _ _ _ => id)
          obtain ⟨c0, c1, c2, c3, c4, -⟩ := B6.out.cells
          obtain ⟨a6, n6, rfl⟩ := r6.form
          have hsa := sameAll24_any w6 _ _ Y Y _ _ r5 r6
          clear f6 hls st5 B5 r6 r5
          go_wp2_with fail
          refine hsa.mono ?_
          rintro e w7 ⟨rfl, f7⟩
          rw [show decide (Y = Y) = true by simp]
          have FIN := FIN0.trans0 f7
          clear hsa FIN0 f7
          go_wp2
          go_ret
          exact ⟨rfl, FIN⟩
        · by_cases h0 : d.pick < 0
          · exact absurd h0 (by omega)
          · skip
            obtain ⟨j1, j2⟩ : decide (d.pick < 0) = false ∧ decide (((m.lane (d.a, d.b, d.lane)).length : Int) ≤ d.pick) = true := ⟨decide_eq_false h0, decide_eq_true hq⟩
            go_wp2_with fail
            refine hts.mono ?_
            rintro e w5 ⟨v5, rfl, g5, st5, sp5, o5⟩
            have B5 := Lib.hid (B4.out.keepV sp5.fr NB.out)
            obtain ⟨c0, c1, c2, c3, c4, -⟩ := B5.out.cells
            have r5 := r4.keep sp5.fr (fun j hj _ e => by have := NL.out j e; omega)
            have hls := lane_st st5 d.a d.b d.lane (fun bs hbs => Nat.le_trans (hmb (d.a, d.b, d.lane) bs hbs) (by omega))
            obtain ⟨a5, n5, rfl⟩ := o5.1.arg.form
            clear st4 B4 NL NB r4 hts sp5 hmb o5
            generalize m.lane (d.a, d.b, d.lane) = Y at *
            go_wp2_with fail
            refine hls.mono ?_
            rintro e w6 ⟨v6, rfl, r6, f6⟩
            have FIN0 := st5.fr.trans0 f6
            have B6 := Lib.hid (B5.out.keep f6)
            have r5 := r5.keep f6 (fun _ _ _ => id)
            obtain ⟨c0, c1, c2, c3, c4, -⟩ := B6.out.cells
            obtain ⟨a6, n6, rfl⟩ := r6.form
            have hsa := sameAll24_any w6 _ _ Y Y _ _ r5 r6
            clear f6 hls st5 B5 r6 r5
            go_wp2_with fail
            refine hsa.mono ?_
            rintro e w7 ⟨rfl, f7⟩
            rw [show decide (Y = Y) = true by simp]
            have FIN := FIN0.trans0 f7
            clear hsa FIN0 f7
            go_wp2
            go_ret
            exact ⟨rfl, FIN⟩
      · have hts := take_st st4 d.a d.b d.lane d.pick (E := hm')
        clear hm'
        rcases hq with hq | hq
        · skip
          have j1 : decide (d.pick < 0) = true := decide_eq_true hq
          go_wp2_with fail
          refine hts.mono ?_
          rintro e w5 ⟨v5, rfl, g5, st5, sp5, o5⟩
          have B5 := Lib.hid (B4.out.keepV sp5.fr NB.out)
          obtain ⟨c0, c1, c2, c3, c4, -⟩ := B5.out.cells
          have r5 := r4.keep sp5.fr (fun j hj _ e => by have := NL.out j e; omega)
          have hls := lane_st st5 d.a d.b d.lane (fun bs hbs => Nat.le_trans (hmb (d.a, d.b, d.lane) bs hbs) (by omega))
          obtain ⟨a5, n5, rfl⟩ := o5.1.arg.form
          clear st4 B4 NL NB r4 hts sp5 hmb o5
          generalize m.lane (d.a, d.b, d.lane) = Y at *
          go_wp2_with fail
          refine hls.mono ?_
          rintro e w6 ⟨v6, rfl, r6, f6⟩
          have FIN0 := st5.fr.trans0 f6
          have B6 := Lib.hid (B5.out.keep f6)
          have r5 := r5.keep f6 (fun _ _ _ => id)
          obtain ⟨c0, c1, c2, c3, c4, -⟩ := B6.out.cells
          obtain ⟨a6, n6, rfl⟩ := r6.form
          have hsa := sameAll24_any w6 _ _ Y Y _ _ r5 r6
          clear f6 hls st5 B5 r6 r5
          go_wp2_with fail
          refine hsa.mono ?_
          rintro e w7 ⟨rfl, f7⟩
          rw [show decide (Y = Y) = true by simp]
          have FIN := FIN0.trans0 f7
          clear hsa FIN0 f7
          go_wp2
          go_ret
          exact ⟨rfl, FIN⟩
        · by_cases h0 : d.pick < 0
          · exact absurd h0 (by omega)
          · skip
            obtain ⟨j1, j2⟩ : decide (d.pick < 0) = false ∧ decide (((m.lane (d.a, d.b, d.lane)).length : Int) ≤ d.pick) = true := ⟨decide_eq_false h0, decide_eq_true hq⟩
            go_wp2_with fail
            refine hts.mono ?_
            rintro e w5 ⟨v5, rfl, g5, st5, sp5, o5⟩
            have B5 := Lib.hid (B4.out.keepV sp5.fr NB.out)
            obtain ⟨c0, c1, c2, c3, c4, -⟩ := B5.out.cells
            have r5 := r4.keep sp5.fr (fun j hj _ e => by have := NL.out j e; omega)
            have hls := lane_st st5 d.a d.b d.lane (fun bs hbs => Nat.le_trans (hmb (d.a, d.b, d.lane) bs hbs) (by omega))
            obtain ⟨a5, n5, rfl⟩ := o5.1.arg.form
            clear st4 B4 NL NB r4 hts sp5 hmb o5
            generalize m.lane (d.a, d.b, d.lane) = Y at *
            go_wp2_with fail
            refine hls.mono ?_
            rintro e w6 ⟨v6, rfl, r6, f6⟩
            have FIN0 := st5.fr.trans0 f6
            have B6 := Lib.hid (B5.out.keep f6)
            have r5 := r5.keep f6 (fun _ _ _ => id)
            obtain ⟨c0, c1, c2, c3, c4, -⟩ := B6.out.cells
            obtain ⟨a6, n6, rfl⟩ := r6.form
            have hsa := sameAll24_any w6 _ _ Y Y _ _ r5 r6
            clear f6 hls st5 B5 r6 r5
            go_wp2_with fail
            refine hsa.mono ?_
            rintro e w7 ⟨rfl, f7⟩
            rw [show decide (Y = Y) = true by simp]
            have FIN := FIN0.trans0 f7
            clear hsa FIN0 f7
            go_wp2
            go_ret
            exact ⟨rfl, FIN⟩
    · obtain ⟨q, hq'⟩ := Int.eq_ofNat_of_zero_le (show 0 ≤ d.pick by omega)
      have hql : q < (m.lane (d.a, d.b, d.lane)).length := by omega
      have hok := hmo.resolve_left (fun e => by rw [e] at hql; simp at hql)
      obtain ⟨m', hm', hl'⟩ := takeM_yes hok hql
      have hx : (m.lane (d.a, d.b, d.lane)).getD q [] = (m.lane (d.a, d.b, d.lane))[q] := by simp [List.getD_eq_getElem?_getD, List.getElem?_eq_getElem hql]
      rw [hx] at hm'
      rw [hq'] at c4
      have hmem := hmb (d.a, d.b, d.lane) _ (List.getElem_mem hql)
      have hmb' := hmb (d.a, d.b, d.lane)
      have C := Lib.hid hq'
      have H := Lib.hid hm'
      clear hq hmo hok hm' hx hmb
      have hts := take_st st4 d.a d.b d.lane q (E := H.out)
      clear H
      generalize m.lane (d.a, d.b, d.lane) = Y at *
      go_wp2_with fail
      refine hts.mono ?_
      rintro e w5 ⟨v5, rfl, g5, st5, sp5, o5⟩
      have B5 := Lib.hid (B4.out.keepV sp5.fr NB.out)
      obtain ⟨c0, c1, c2, c3, c4, -⟩ := B5.out.cells
      rw [C.out] at c4
      have r5 := r4.keep sp5.fr (fun j hj _ e => by have := NL.out j e; omega)
      have hls := lane_st st5 d.a d.b d.lane (by
        rw [hl']
        exact fun bs hbs => Nat.le_trans (hmb' bs (List.mem_of_mem_eraseIdx hbs)) (by omega))
      rw [hl'] at hls
      clear st4 B4 NL NB r4 hts sp5 hmb' hl'
      go_wp2_with fail
      refine hls.mono ?_
      rintro e w6 ⟨v6, rfl, r6, f6⟩
      have st6 := st5.fr0 f6
      have o6 := o5.fr0 f6
      have B6 := Lib.hid (B5.out.keep f6)
      have r5 := r5.keep f6 (fun _ _ _ => id)
      obtain ⟨c0, c1, c2, c3, c4, -⟩ := B6.out.cells
      rw [C.out] at c4
      obtain ⟨a6, n6, rfl⟩ := r6.form
      obtain ⟨cs, k1, k2, -, k4⟩ := r5
      obtain ⟨u, hu, su, -⟩ := k4 q Y[q] (List.getElem?_eq_getElem hql)
      obtain ⟨wb, wo, rfl, cu, hwb⟩ := slice_at k1 hu
      have ST := Lib.hid st6
      have O6 := Lib.hid o6
      have R6 := Lib.hid r6
      have K1 := Lib.hid k1
      have K4 := Lib.hid k4
      have SU := Lib.hid su
      clear f6 hls st5 st6 o5 o6 B5 r6 k1 k4 su
      have i1 : decide ((q : Int) < 0) = false := decide_eq_false (by omega)
      have i2 : decide ((Y.length : Int) ≤ (q : Int)) = false := decide_eq_false (by omega)
      have hwrap : IntKind.i64.wrap ((q : Int) + 1) = (q : Int) + 1 := IntWalk.i64_in _ (by omega)
      have hs1 := cut_head ⟨wb, wo, none⟩ Y.length n4 q (by have := slice_cap K1.out; omega)
      obtain ⟨ad, hs2, at2⟩ := cut_tail K1.out k2 hql
      have AT2 := Lib.hid at2
      clear at2
      go_wp2
      refine wp_region_lexL [false, false, false, false, false, false, false, false, false, true, false, false, false, false, false, false, false, false, false, false, false, false, false, false, true, true, false, false] (fun w' => w'.cell? ⟨w.heap.size, 4, none⟩ = some (.int .i64 q) ∧ w'.cell? ⟨wb, wo + q, none⟩ = some u) (by kernel_rfl) (by kernel_rfl) ?_ (fun K hK => ?_)
      · exact ⟨c4, cu⟩
      repeat (first | ((first | with_reducible refine lexL_read ?_ | ((with_reducible refine lexL_readG ?_ ?_); (focus rfl))); apply Exists.intro; refine ⟨fun w' hS => ?_, ?_⟩; (focus (obtain ⟨s1, s2⟩ := hS; go_simp; (try with_reducible rfl); done)); try simp only [Act.put, List.setIfInBounds_toArray, List.set_cons_zero, List.set_cons_succ]) | ((first | ((with_reducible refine lexL_skip (c := false) ?_ ?_ ?_); (focus rfl); (focus rfl)) | ((with_reducible refine lexL_skip (c := true) ?_ ?_ ?_); (focus rfl); (focus rfl)) | ((with_reducible refine lexL_skipU ?_ ?_); (focus rfl))); try simp only [Act.put, List.setIfInBounds_toArray, List.set_cons_zero, List.set_cons_succ]))
      (first | with_reducible refine lexL_eff (fun K' hK' => ?_) | ((with_reducible refine lexL_effG ?_ (fun K' hK' => ?_)); (focus rfl)))
      go_simp
      refine (same_any _ _ _ Y[q] Y[q] (O6.out.fr0 (Fr.refl _ _).drew).1.arg (SU.out.keep (Fr.refl No _).drew (fun _ _ => id)).arg (by unfold maxLen; omega)).mono ?_
      rintro e w7 ⟨rfl, f7⟩
      rw [show decide (Y[q] = Y[q]) = true by simp]
      have F7 := Lib.hid (((Fr.refl No w6).drew).trans0 f7)
      refine hK'.out _ _ ?_ (fun hS => ?_)
      · exact ⟨F7.out.cell c4 id, F7.out.cell cu id⟩
      try simp only [Act.put, List.setIfInBounds_toArray, List.set_cons_zero, List.set_cons_succ]
      repeat (first | ((first | with_reducible refine lexL_read ?_ | ((with_reducible refine lexL_readG ?_ ?_); (focus rfl))); apply Exists.intro; refine ⟨fun w' hS => ?_, ?_⟩; (focus (obtain ⟨s1, s2⟩ := hS; go_simp; (try with_reducible rfl); done)); try simp only [Act.put, List.setIfInBounds_toArray, List.set_cons_zero, List.set_cons_succ]) | ((first | ((with_reducible refine lexL_skip (c := false) ?_ ?_ ?_); (focus rfl); (focus rfl)) | ((with_reducible refine lexL_skip (c := true) ?_ ?_ ?_); (focus rfl); (focus rfl)) | ((with_reducible refine lexL_skipU ?_ ?_); (focus rfl))); try simp only [Act.put, List.setIfInBounds_toArray, List.set_cons_zero, List.set_cons_succ]))
      obtain ⟨v8, w8, happ, k8, f8⟩ := append_cut (P := Try.prog) w7 35 28 24 (.slice none 0 0) undRows infoRow' wb wo q (cs.take q) (by rw [List.length_take]; omega)
        (fun j u hj => by
          rw [List.getElem?_take] at hj
          split at hj
          · rcases K1.out with ⟨e, _⟩ | ⟨b', off', cap', e, _, _, h3, _⟩
            · cases e
            · injection e with e1 e2 e3
              injection e1 with e1
              injection e1 with e1 e4
              subst e1 e4
              exact F7.out.cell (h3 j u hj) id
          · cases hj) (Nat.lt_of_lt_of_le hwb F7.out.size) ad (Y.length - (q + 1)) (n4 - (q + 1)) (cs.drop (q + 1)) (AT2.out.keep F7.out) (by rw [List.length_drop]; omega) (by omega) (by omega)
      have R8 := Lib.hid (rows_erase hql k2 k8 (fun i bs hi => by
        obtain ⟨c, e1, e2, _⟩ := K4.out i bs hi
        exact ⟨c, e1, e2.keep (F7.out.trans0 f8) (fun _ _ => id)⟩))
      clear k8
      (first | with_reducible refine lexL_eff (fun K' hK' => ?_) | ((with_reducible refine lexL_effG ?_ (fun K' hK' => ?_)); (focus rfl)))
      refine wp_append_run rfl rfl rfl happ ?_
      refine hK'.out _ _ ?_ (fun hS => ?_)
      · exact ⟨(F7.out.trans0 f8).cell c4 id, (F7.out.trans0 f8).cell cu id⟩
      try simp only [Act.put, List.setIfInBounds_toArray, List.set_cons_zero, List.set_cons_succ]
      repeat (first | ((first | with_reducible refine lexL_read ?_ | ((with_reducible refine lexL_readG ?_ ?_); (focus rfl))); apply Exists.intro; refine ⟨fun w' hS => ?_, ?_⟩; (focus (obtain ⟨s1, s2⟩ := hS; go_simp; (try with_reducible rfl); done)); try simp only [Act.put, List.setIfInBounds_toArray, List.set_cons_zero, List.set_cons_succ]) | ((first | ((with_reducible refine lexL_skip (c := false) ?_ ?_ ?_); (focus rfl); (focus rfl)) | ((with_reducible refine lexL_skip (c := true) ?_ ?_ ?_); (focus rfl); (focus rfl)) | ((with_reducible refine lexL_skipU ?_ ?_); (focus rfl))); try simp only [Act.put, List.setIfInBounds_toArray, List.set_cons_zero, List.set_cons_succ]))
      (first | with_reducible refine lexL_eff (fun K' hK' => ?_) | ((with_reducible refine lexL_effG ?_ (fun K' hK' => ?_)); (focus rfl)))
      go_simp
      refine (sameAll24_any _ _ _ (Y.eraseIdx q) (Y.eraseIdx q) _ _ (R6.out.keep (F7.out.trans0 f8) (fun _ _ _ => id)) R8.out).mono ?_
      rintro e w9 ⟨rfl, f9⟩
      rw [show decide (Y.eraseIdx q = Y.eraseIdx q) = true by simp]
      have F9 := (F7.out.trans0 f8).trans0 f9
      refine hK'.out _ _ ?_ (fun hS => ?_)
      · exact ⟨F9.cell c4 id, F9.cell cu id⟩
      try simp only [Act.put, List.setIfInBounds_toArray, List.set_cons_zero, List.set_cons_succ]
      repeat (first | ((first | with_reducible refine lexL_read ?_ | ((with_reducible refine lexL_readG ?_ ?_); (focus rfl))); apply Exists.intro; refine ⟨fun w' hS => ?_, ?_⟩; (focus (obtain ⟨s1, s2⟩ := hS; go_simp; (try with_reducible rfl); done)); try simp only [Act.put, List.setIfInBounds_toArray, List.set_cons_zero, List.set_cons_succ]) | ((first | ((with_reducible refine lexL_skip (c := false) ?_ ?_ ?_); (focus rfl); (focus rfl)) | ((with_reducible refine lexL_skip (c := true) ?_ ?_ ?_); (focus rfl); (focus rfl)) | ((with_reducible refine lexL_skipU ?_ ?_); (focus rfl))); try simp only [Act.put, List.setIfInBounds_toArray, List.set_cons_zero, List.set_cons_succ]))
      refine lexL_nil (hK.out _ _ ?_)
      have FIN := ST.out.fr.trans0 F9
      clear ST R6 R8 K1 K4 SU O6 AT2 F9
      go_wp2
      go_ret
      exact ⟨rfl, FIN⟩
end Go.Proofs.Ytohcjfnekgnlcaa
