/- LinkActs: the walk. -/
import Derived.Test.YtohcjfnekgnlcaaLinkQ
import Derived.Test.YtohcjfnekgnlcaaLinkPicksW
namespace Go.Proofs.Ytohcjfnekgnlcaa
open Go Go.RowKit Go.Maps Go.MapKept

theorem part_len {α : Type} (p q : α → Bool) : ∀ l : List α, (l.filter p).length = ((l.filter fun x => !q x).filter p).length + ((l.filter q).filter p).length
  | [] => rfl
  | x :: l => by
    have ih := part_len p q l
    simp only [List.filter_cons]
    cases hq : q x <;> cases hp : p x <;> simp [hp, ih] <;> omega
theorem cntR_eq (kd : Int) : ∀ (ln : List ((Int × Int × Int) × LG)) (ms : List Ms), (ln.map (·.1)).Nodup → (∀ k, (laneR ms k).length = (laneOf ln k).length) → cntR ms kd = cnt ln kd
  | [], ms, _, h => by
    cases ms with
    | nil => rfl
    | cons x l =>
      have := h x.k
      rw [laneR_cons, if_pos (isK_iff.2 rfl)] at this
      simp [laneOf] at this
  | x :: l, ms, hnd, h => by
    simp only [List.map_cons, List.nodup_cons] at hnd
    have hx0 : laneOf l x.1 = [] := laneOf_miss fun y hy e => hnd.1 (e ▸ List.mem_map.2 ⟨y, hy, rfl⟩)
    have e1 : cnt (x :: l) kd = (if x.1.2.2 = kd then x.2.ms.length else 0) + cnt l kd := by simp [cnt]
    have ih := cntR_eq kd l (ms.filter fun m => !isK x.1 m) hnd.2 (fun k => by
      rw [laneR_isK, List.filter_filter]
      by_cases e : k = x.1
      · subst e
        rw [hx0, List.filter_eq_nil_iff.2 (by intro m _; cases isK x.1 m <;> simp)]
        rfl
      · have h1 := h k
        rw [laneOf_cons, if_neg (Ne.symm e)] at h1
        rw [← h1, laneR_isK]
        congr 1
        apply List.filter_congr
        intro m _
        cases hk : isK k m with
        | false => simp
        | true =>
          have : isK x.1 m = false := by
            cases hk2 : isK x.1 m with
            | false => rfl
            | true => exact absurd ((isK_iff.1 hk).symm.trans (isK_iff.1 hk2)) e
          simp [this])
    have h2 := h x.1
    rw [laneOf_cons, if_pos rfl, List.length_map] at h2
    rw [e1, ← ih]
    unfold cntR
    rw [part_len (fun m => m.k.2.2 == kd) (isK x.1) ms, Nat.add_comm]
    congr 1
    rw [← h2, laneR_isK]
    split
    · rename_i hkd
      congr 1
      rw [List.filter_eq_self]
      intro m hm
      rw [isK_iff.1 (List.mem_filter.1 hm).2]
      simp [hkd]
    · rename_i hkd
      rw [List.length_eq_zero_iff, List.filter_eq_nil_iff]
      intro m hm
      rw [isK_iff.1 (List.mem_filter.1 hm).2]
      simp [hkd]

theorem Rel.has {m : LM} {r : RfG} (h : Rel m r) (hvo : ∀ q ∈ m.op, 0 ≤ q.1 ∧ q.1 < q.2 ∧ q.2 < 64) (a b : Int) : decide ((lo a b, hi a b) ∈ r.ps) = hasB m.op a b := by
  by_cases hin : (lo a b, hi a b) ∈ m.op
  · have hv := hvo _ hin
    have : vld a b := by
      unfold vld
      simp only [lo, hi] at hv
      split at hv <;> omega
    rw [hasB_yes this hin]
    simp [(h.op _).2 hin]
  · rw [hasB_no2 hin]
    simp [h.op, hin]
theorem Rel.ends {m : LM} {r : RfG} (h : Rel m r) (a : Int) (n : Nat) : endsOf r.ps a n = endsOf m.op a n := by
  unfold endsOf hasB
  simp only [h.op]
theorem laneR_rows {w : World} {B : Nat} {v : Value} {L : List Ms} (h : w.ownsRow B 28 1 v L.length (L.map (·.v))) (hv : ∀ m ∈ L, SliceIs w m.v m.bs.length (m.bs.map byteV)) : RowsIs w v (L.map (·.bs)) (fun _ => True) := by
  refine ⟨L.map (·.v), by rw [List.length_map]; exact h.slice, by simp, fun _ _ => trivial, fun i bs hi => ?_⟩
  rw [List.getElem?_map] at hi
  cases hm : L[i]? with
  | none => rw [hm] at hi; cases hi
  | some m =>
    rw [hm] at hi
    simp at hi
    subst hi
    exact ⟨m.v, by rw [List.getElem?_map, hm]; rfl, hv m (List.mem_of_getElem? hm), fun _ _ => trivial⟩

theorem do_st2 {w0 w : World} {p : Nat} {g : LkG} {m : LM} {N : Nat} (h : St w0 w p g m N) (hN : N ≤ 1000000) (d : ActD) (bv : Value) (hb : ArgIs w bv d.bytes.length (d.bytes.map byteV)) (hl : d.bytes.length ≤ 140737488355328) :
    Calls Try.prog 22 #[.pointer (some ⟨p, 0, none⟩), actV d bv] w fun e w' => ∃ v, e = .returned (.tuple #[v, .int .i64 (doM m d).2.2]) ∧ SliceIs w' v (doM m d).2.1.length ((doM m d).2.1.map byteV) ∧ (∀ j, v.ownBlock = some j → g.C j) ∧ ∃ g', St w0 w' p g' (doM m d).1 (N + 1) ∧ Step w g w' g' := by
  obtain rfl := h.bl
  have hc := do_any w g h.at_ (by have := h.n1; unfold maxLen; omega) (by have := h.n2; unfold maxLen; omega) d bv hb hl
  rw [h.lm] at hc
  refine hc.mono ?_
  rintro e w' ⟨v, rfl, hv1, hv2, g', hw⟩
  exact ⟨v, rfl, hv1, hv2, g', h.step hw, hw.step⟩

/-- Both objects, side by side. -/
structure Duo (w0 w : World) (p q : Nat) (m : LM) (n : Nat) (g : LkG) (r : RfG) : Prop where
  st : St w0 w p g m n
  rf : RfAt w r
  rb : r.bl = q
  rel : Rel m r
  n1 : r.ps.length ≤ n
  n2 : r.ms.length ≤ n
  q0 : w0.heap.size ≤ q
  d1 : ∀ k, r.B k → ¬ g.W k
  d2 : ¬ g.C q
theorem Duo.fr0 {w0 w w' : World} {p q : Nat} {m : LM} {n : Nat} {g : LkG} {r : RfG} (h : Duo w0 w p q m n g r) (f : Fr No w w') : Duo w0 w' p q m n g r := { h with st := h.st.fr0 f, rf := h.rf.keep f }
set_option maxRecDepth 100000 in
set_option maxHeartbeats 4000000 in
theorem acts_any (w : World) (s : Value) (L : List ActD) (ha : ActsIs w s L) : Calls Try.prog 8 #[s] w fun e w' => e = .returned (.bool true) ∧ Fr No w w' := by
  obtain ⟨va, vc, rfl, hlm, hcell⟩ := id ha
  go_enter Try.func8, Try.ntmps8
  go_wp2_with fail
  refine (alive_any _).mono ?_
  rintro e w1 ⟨rfl, f1⟩
  go_wp2_with fail
  refine (great_any w1 _ L (ha.keep f1 (fun _ _ => id))).mono ?_
  rintro e w2 ⟨rfl, f2⟩
  cases hg : greatB L with
  | true =>
    have FIN := f1.trans0 f2
    go_wp2
    go_ret
    exact ⟨rfl, FIN⟩
  | false =>
    have hgb : L.length ≤ 300 ∧ weigh L ≤ 20000 := by simpa [greatB] using hg
    obtain ⟨hl3, hwl⟩ := hgb
    have HG := Lib.hid hg
    have HA := Lib.hid ha
    have HCELL := Lib.hid hcell
    clear hg ha hcell
    have f12 := f1.trans0 f2
    go_wp2_with fail
    refine (new_st w w2 f12).mono ?_
    rintro e w3 ⟨p, g0, rfl, st0, f3, hW0, hC0⟩
    have F4 : Fr No w3 (w3.alloc (.cells #[.slice none 0 0, .slice none 0 0] 56)) := by (repeat (first | with_reducible exact Fr.refl _ _ | with_reducible assumption | with_reducible refine Fr.drew ?_ | with_reducible refine Fr.drewN ?_ _ | with_reducible refine Fr.alloc ?_ _ | with_reducible refine Fr.setCell ?_ _ (.inl (by simp <;> omega)) _))
    have hsz : w.heap.size ≤ w3.heap.size := (f12.trans0 f3).size
    have duo : Duo w (w3.alloc (.cells #[.slice none 0 0, .slice none 0 0] 56)) p w3.heap.size (runM emptyM (L.take 0)) 0 g0 ⟨w3.heap.size, .slice none 0 0, .slice none 0 0, [], []⟩ := {
      st := st0.fr0 F4
      rf := { hb := new_obj w3 _, hl := World.ownsRow_nil _ _ _ _, hm := World.ownsRow_nil _ _ _ _, hv := fun _ h => (by cases h), n1 := by simp [Value.ownBlock], n2 := by simp [Value.ownBlock], n3 := fun _ h => (by cases h) }
      rb := rfl
      rel := ⟨fun _ => Iff.rfl, fun _ => rfl⟩
      n1 := Nat.le_refl _
      n2 := Nat.le_refl _
      q0 := hsz
      d1 := fun k hk hw => by
        have h1 := st0.at_.wlt k hw
        rcases hk with rfl | e | e | ⟨_, h, _⟩
        · simp at h1
        · simp [Value.ownBlock] at e
        · simp [Value.ownBlock] at e
        · cases h
      d2 := fun hc => by have := st0.at_.clt _ hc; omega }
    have DU := Lib.hid duo
    clear duo st0 hW0 hC0 f1 f2 f12 f3
    go_wp2_with fail
    go_loopw [20] (fun i wr => ∃ (n : Nat) (g : LkG) (r : RfG), n ≤ L.length ∧ i = .int .i64 n ∧ Duo w wr p w3.heap.size (runM emptyM (L.take n)) n g r) (fun i _ => L.length - (intOf i).toNat)
    case atStart => exact ⟨0, g0, _, Nat.zero_le _, rfl, DU.out⟩
    case round =>
      obtain ⟨n, g, r, hn, rfl, duo⟩ := hrel
      by_cases hlt : n < L.length
      · obtain ⟨b, off, ba, bc, rfl, c0, c1, c2, c3, c4, c5, c6, c7⟩ := HCELL.out n L[n] (List.getElem?_eq_getElem hlt)
        have hrt := runM_take (List.getElem?_eq_getElem hlt)
        have hby := weigh_mem (List.getElem_mem hlt) hwl
        have hfr := duo.st.fr
        have d0 := hfr.cell c0 id
        have d1 := hfr.cell c1 id
        have d2 := hfr.cell c2 id
        have d3 := hfr.cell c3 id
        have d4 := hfr.cell c4 id
        have d5 := hfr.cell c5 id
        have C6 := Lib.hid c6
        have hmb := LMb.run (B := 20000) (m := emptyM) (L.take n) (fun k bs hb => by cases hb) (fun d hd => weigh_mem (List.mem_of_mem_take hd) hwl)
        clear c0 c1 c2 c3 c4 c5 c6 c7 hfr
        generalize L[n] = d at *
        generalize runM emptyM (L.take n) = m at *
        have F0 : Fr No wr (wr.alloc (.cells #[.int .i64 d.kind, .int .i64 d.a, .int .i64 d.b, .int .i64 d.lane, .int .i64 d.pick, .slice ba d.bytes.length bc] 40)) := by (repeat (first | with_reducible exact Fr.refl _ _ | with_reducible assumption | with_reducible refine Fr.drew ?_ | with_reducible refine Fr.drewN ?_ _ | with_reducible refine Fr.alloc ?_ _ | with_reducible refine Fr.setCell ?_ _ (.inl (by simp <;> omega)) _))
        have A0 := Lib.hid (show ActAt (wr.alloc (.cells #[.int .i64 d.kind, .int .i64 d.a, .int .i64 d.b, .int .i64 d.lane, .int .i64 d.pick, .slice ba d.bytes.length bc] 40)) wr.heap.size d (.slice ba d.bytes.length bc) from new_obj wr _)
        have hd := do_st2 (duo.fr0 F0).st (by omega) d (.slice ba d.bytes.length bc) ((C6.out.keep duo.st.fr).keep F0) (by omega)
        have hbq : wr.heap.size ≠ w3.heap.size := fun e => by have := obj_lt duo.rf.hb; rw [duo.rb] at this; omega
        have hbW : ¬ g.W wr.heap.size := fun h => by have := duo.st.at_.wlt _ h; omega
        have DD := Lib.hid (duo.fr0 F0)
        have HRT := Lib.hid hrt
        have HMB := Lib.hid hmb
        unfold actV at hd
        have HD := Lib.hid hd
        have i1 : (n : Int) < (L.length : Int) := by omega
        have hwsz := F0.size
        clear hd hrt hmb duo
        go_wp2_with fail
        refine HD.out.mono ?_
        rintro e w4 ⟨v4, rfl, hv4, hvC, g', st4, sp4⟩
        obtain ⟨va4, vc4, rfl⟩ := hv4.arg.form
        have A4 := Lib.hid (A0.out.keepV sp4.fr hbW)
        obtain ⟨e0, e1, e2, e3, e4, e5⟩ := A4.out.cells
        have RF4 := Lib.hid (DD.out.rf.keepV sp4.fr DD.out.d1)
        have hD1 : ∀ k, r.B k → ¬ g'.W k := fun k hk hw => (sp4.W k hw).elim (DD.out.d1 k hk) (fun e => by have := DD.out.rf.blt k hk; omega)
        have hD2 : ¬ g'.C w3.heap.size := fun hc => (sp4.C _ hc).elim DD.out.d2 (fun e => by have := obj_lt DD.out.rf.hb; rw [DD.out.rb] at this; omega)
        have hD3 : ¬ g'.W w3.heap.size := hD1 _ (.inl DD.out.rb.symm)
        have hm4 := model_any w4 r m RF4.out DD.out.rel DD.out.st.lane_ok (by have := DD.out.n1; omega) (by have := DD.out.n2; omega) d (.slice ba d.bytes.length bc) (C6.out.keep st4.fr) (by omega)
        unfold actV at hm4
        have HM4 := Lib.hid hm4
        rw [show r.bl = w3.heap.size from DD.out.rb] at HM4
        clear hm4
        go_wp2_with fail
        refine HM4.out.mono ?_
        rintro e w5 ⟨v5, rfl, hv5, r', hrb', rf5, rel5, hB5, f5, hl1, hl2⟩
        obtain ⟨va5, vc5, rfl⟩ := hv5.arg.form
        have A5 := Lib.hid (A4.out.keepV f5 (show ¬ wr.heap.size = r.bl from fun e => hbq (e.trans DD.out.rb)))
        obtain ⟨e0', e1', e2', e3', e4', e5'⟩ := A5.out.cells
        have hv4' := hv4.keep f5 (fun j hj e => by have := hvC j hj; rw [e, DD.out.rb] at this; exact DD.out.d2 this)
        have duo5 : Duo w w5 p w3.heap.size (doM m d).1 (n + 1) g' r' := {
          st := st4.frV f5 (fun k hk e => hD3 (by rw [e, DD.out.rb] at hk; exact hk)) (fun k hk e => hD2 (by rw [e, DD.out.rb] at hk; exact hk)) (fun k e => by rw [e, DD.out.rb]; exact DD.out.q0)
          rf := rf5
          rb := hrb'.trans DD.out.rb
          rel := rel5
          n1 := by have := DD.out.n1; omega
          n2 := by have := DD.out.n2; omega
          q0 := DD.out.q0
          d1 := fun k hk hw => (hB5 k hk).elim (fun e => hD1 k e hw) (fun e => by have := st4.at_.wlt k hw; omega)
          d2 := hD2 }
        have DU5 := Lib.hid duo5
        have HV4 := Lib.hid hv4'
        have HV5 := Lib.hid hv5
        have hmb' := LMb.doM (fun k bs hb => Nat.le_trans (HMB.out k bs hb) (by omega)) d hby
        have HMB' := Lib.hid hmb'
        clear duo5 hv4' hv5 hv4 rf5 rel5 hB5 f5 hl1 hl2 e0 e1 e2 e3 e4 e5 RF4 hD1 hD2 hD3 HM4 st4 sp4 hvC A0 DD HD A4 hmb' e0' e4' e5' hrb'
        have hx5 : SliceIs w5 (.slice va4 (doM m d).2.1.length vc4) (doM m d).2.1.length ((doM m d).2.1.map byteV) := HV4.out
        have hy5 : SliceIs w5 (.slice va5 (doM m d).2.1.length vc5) (doM m d).2.1.length ((doM m d).2.1.map byteV) := HV5.out
        have hxl : (doM m d).2.1.length ≤ maxLen := hx5.len
        have HS := Lib.hid (fun w' (f : Fr No w5 w') => same_any w' _ _ _ _ (hx5.keep f (fun _ _ => id)).arg (hy5.keep f (fun _ _ => id)).arg hxl)
        clear hx5 hy5 hxl HV4 HV5
        generalize (doM m d).2.1 = X at *
        generalize (doM m d).2.2 = E2 at *
        have HM' := Lib.hid (show (doM m d).1 = runM emptyM (L.take (n + 1)) from HRT.out.symm)
        generalize (doM m d).1 = m' at *
        have HB := Lib.hid (DU5.out.rel.has DU5.out.st.vo d.a d.b)
        have hS : ∀ w', Fr No w5 w' → w'.cell? ⟨wr.heap.size, 1, none⟩ = some (.int .i64 d.a) ∧ w'.cell? ⟨wr.heap.size, 2, none⟩ = some (.int .i64 d.b) ∧ w'.cell? ⟨wr.heap.size, 3, none⟩ = some (.int .i64 d.lane) := fun w' f => ⟨f.cell e1' id, f.cell e2' id, f.cell e3' id⟩
        have HS3 := Lib.hid hS
        clear e1' e2' e3' hS
        have g6 : Fr No w5 w5.drew := by (repeat (first | with_reducible exact Fr.refl _ _ | with_reducible assumption | with_reducible refine Fr.drew ?_ | with_reducible refine Fr.drewN ?_ _ | with_reducible refine Fr.alloc ?_ _ | with_reducible refine Fr.setCell ?_ _ (.inl (by simp <;> omega)) _))
        go_wp2
        refine wp_region_lexL [false, false, false, false, false, false, true, false, false, false, false, false, false, false, false, true, false, false, false, false, false, true, false, false, false, false, false, false, true, false, false, false, true, false, false] (fun w' => w'.cell? ⟨wr.heap.size, 1, none⟩ = some (.int .i64 d.a) ∧ w'.cell? ⟨wr.heap.size, 2, none⟩ = some (.int .i64 d.b) ∧ w'.cell? ⟨wr.heap.size, 3, none⟩ = some (.int .i64 d.lane)) (by kernel_rfl) (by kernel_rfl) ?_ (fun K hK => ?_)
        · exact HS3.out _ g6
        repeat (first | ((first | with_reducible refine lexL_read ?_ | ((with_reducible refine lexL_readG ?_ ?_); (focus rfl))); apply Exists.intro; refine ⟨fun w' hS => ?_, ?_⟩; (focus (obtain ⟨s1, s2, s3⟩ := hS; go_simp; (try with_reducible rfl); done)); try simp only [Act.put, List.setIfInBounds_toArray, List.set_cons_zero, List.set_cons_succ]) | ((first | ((with_reducible refine lexL_skip (c := false) ?_ ?_ ?_); (focus rfl); (focus rfl)) | ((with_reducible refine lexL_skip (c := true) ?_ ?_ ?_); (focus rfl); (focus rfl)) | ((with_reducible refine lexL_skipU ?_ ?_); (focus rfl))); try simp only [Act.put, List.setIfInBounds_toArray, List.set_cons_zero, List.set_cons_succ]))
        (first | with_reducible refine lexL_eff (fun K' hK' => ?_) | ((with_reducible refine lexL_effG ?_ (fun K' hK' => ?_)); (focus rfl)))
        go_simp
        refine (HS.out _ g6).mono ?_
        rintro e w6 ⟨rfl, f6⟩
        rw [show decide (X = X) = true by simp]
        have g6 := g6.trans0 f6
        refine hK'.out _ _ ?_ (fun hS => ?_)
        · exact HS3.out _ g6
        try simp only [Act.put, List.setIfInBounds_toArray, List.set_cons_zero, List.set_cons_succ]
        repeat (first | ((first | with_reducible refine lexL_read ?_ | ((with_reducible refine lexL_readG ?_ ?_); (focus rfl))); apply Exists.intro; refine ⟨fun w' hS => ?_, ?_⟩; (focus (obtain ⟨s1, s2, s3⟩ := hS; go_simp; (try with_reducible rfl); done)); try simp only [Act.put, List.setIfInBounds_toArray, List.set_cons_zero, List.set_cons_succ]) | ((first | ((with_reducible refine lexL_skip (c := false) ?_ ?_ ?_); (focus rfl); (focus rfl)) | ((with_reducible refine lexL_skip (c := true) ?_ ?_ ?_); (focus rfl); (focus rfl)) | ((with_reducible refine lexL_skipU ?_ ?_); (focus rfl))); try simp only [Act.put, List.setIfInBounds_toArray, List.set_cons_zero, List.set_cons_succ]))
        (first | with_reducible refine lexL_eff (fun K' hK' => ?_) | ((with_reducible refine lexL_effG ?_ (fun K' hK' => ?_)); (focus rfl)))
        go_simp
        refine (has_st (DU5.out.st.fr0 g6) d.a d.b).mono ?_
        rintro e w7 ⟨rfl, f7⟩
        have g7 := g6.trans0 f7
        refine hK'.out _ _ ?_ (fun hS => ?_)
        · exact HS3.out _ g7
        try simp only [Act.put, List.setIfInBounds_toArray, List.set_cons_zero, List.set_cons_succ]
        repeat (first | ((first | with_reducible refine lexL_read ?_ | ((with_reducible refine lexL_readG ?_ ?_); (focus rfl))); apply Exists.intro; refine ⟨fun w' hS => ?_, ?_⟩; (focus (obtain ⟨s1, s2, s3⟩ := hS; go_simp; (try with_reducible rfl); done)); try simp only [Act.put, List.setIfInBounds_toArray, List.set_cons_zero, List.set_cons_succ]) | ((first | ((with_reducible refine lexL_skip (c := false) ?_ ?_ ?_); (focus rfl); (focus rfl)) | ((with_reducible refine lexL_skip (c := true) ?_ ?_ ?_); (focus rfl); (focus rfl)) | ((with_reducible refine lexL_skipU ?_ ?_); (focus rfl))); try simp only [Act.put, List.setIfInBounds_toArray, List.set_cons_zero, List.set_cons_succ]))
        (first | with_reducible refine lexL_eff (fun K' hK' => ?_) | ((with_reducible refine lexL_effG ?_ (fun K' hK' => ?_)); (focus rfl)))
        go_simp
        have hh := hasR_any w7 r' (DU5.out.rf.keep g7) d.a d.b
        rw [HB.out, DU5.out.rb] at hh
        refine hh.mono ?_
        rintro e w8 ⟨rfl, f8⟩
        have g8 := g7.trans0 f8
        clear hh
        refine hK'.out _ _ ?_ (fun hS => ?_)
        · exact HS3.out _ g8
        try simp only [Act.put, List.setIfInBounds_toArray, List.set_cons_zero, List.set_cons_succ]
        repeat (first | ((first | with_reducible refine lexL_read ?_ | ((with_reducible refine lexL_readG ?_ ?_); (focus rfl))); apply Exists.intro; refine ⟨fun w' hS => ?_, ?_⟩; (focus (obtain ⟨s1, s2, s3⟩ := hS; go_simp; (try with_reducible rfl); done)); try simp only [Act.put, List.setIfInBounds_toArray, List.set_cons_zero, List.set_cons_succ]) | ((first | ((with_reducible refine lexL_skip (c := false) ?_ ?_ ?_); (focus rfl); (focus rfl)) | ((with_reducible refine lexL_skip (c := true) ?_ ?_ ?_); (focus rfl); (focus rfl)) | ((with_reducible refine lexL_skipU ?_ ?_); (focus rfl))); try simp only [Act.put, List.setIfInBounds_toArray, List.set_cons_zero, List.set_cons_succ]))
        (first | with_reducible refine lexL_eff (fun K' hK' => ?_) | ((with_reducible refine lexL_effG ?_ (fun K' hK' => ?_)); (focus rfl)))
        go_simp
        have hl := len_st (DU5.out.st.fr0 g8) (by omega) d.lane
        refine hl.mono ?_
        rintro e w9 ⟨rfl, f9⟩
        have g9 := g8.trans0 f9
        clear hl
        refine hK'.out _ _ ?_ (fun hS => ?_)
        · exact HS3.out _ g9
        try simp only [Act.put, List.setIfInBounds_toArray, List.set_cons_zero, List.set_cons_succ]
        repeat (first | ((first | with_reducible refine lexL_read ?_ | ((with_reducible refine lexL_readG ?_ ?_); (focus rfl))); apply Exists.intro; refine ⟨fun w' hS => ?_, ?_⟩; (focus (obtain ⟨s1, s2, s3⟩ := hS; go_simp; (try with_reducible rfl); done)); try simp only [Act.put, List.setIfInBounds_toArray, List.set_cons_zero, List.set_cons_succ]) | ((first | ((with_reducible refine lexL_skip (c := false) ?_ ?_ ?_); (focus rfl); (focus rfl)) | ((with_reducible refine lexL_skip (c := true) ?_ ?_ ?_); (focus rfl); (focus rfl)) | ((with_reducible refine lexL_skipU ?_ ?_); (focus rfl))); try simp only [Act.put, List.setIfInBounds_toArray, List.set_cons_zero, List.set_cons_succ]))
        (first | with_reducible refine lexL_eff (fun K' hK' => ?_) | ((with_reducible refine lexL_effG ?_ (fun K' hK' => ?_)); (focus rfl)))
        go_simp
        have hl := lenR_any w9 r' (DU5.out.rf.keep g9) (by have := DU5.out.n2; omega) d.lane
        rw [DU5.out.rb, cntR_eq d.lane g'.ln r'.ms DU5.out.st.at_.nodup (fun k => by rw [DU5.out.rel.lane_len]; exact congrArg (fun f => (f k).length) (congrArg LM.lane DU5.out.st.lm).symm)] at hl
        refine hl.mono ?_
        rintro e w10 ⟨rfl, f10⟩
        have g10 := g9.trans0 f10
        clear hl
        refine hK'.out _ _ ?_ (fun hS => ?_)
        · exact HS3.out _ g10
        try simp only [Act.put, List.setIfInBounds_toArray, List.set_cons_zero, List.set_cons_succ]
        repeat (first | ((first | with_reducible refine lexL_read ?_ | ((with_reducible refine lexL_readG ?_ ?_); (focus rfl))); apply Exists.intro; refine ⟨fun w' hS => ?_, ?_⟩; (focus (obtain ⟨s1, s2, s3⟩ := hS; go_simp; (try with_reducible rfl); done)); try simp only [Act.put, List.setIfInBounds_toArray, List.set_cons_zero, List.set_cons_succ]) | ((first | ((with_reducible refine lexL_skip (c := false) ?_ ?_ ?_); (focus rfl); (focus rfl)) | ((with_reducible refine lexL_skip (c := true) ?_ ?_ ?_); (focus rfl); (focus rfl)) | ((with_reducible refine lexL_skipU ?_ ?_); (focus rfl))); try simp only [Act.put, List.setIfInBounds_toArray, List.set_cons_zero, List.set_cons_succ]))
        refine lexL_nil (hK.out _ _ ?_)
        clear g6 g7 g8 g9 f6 f7 f8 f9 f10 HS HB
        have g11 := g10.drew
        go_wp2
        refine wp_region_lexL [false, false, false, false, false, false, false, true, false, false, false, false, false, false, false, true, true, false, false, false, false, false, true, false, false, false, true, true, false, false] (fun w' => w'.cell? ⟨wr.heap.size, 1, none⟩ = some (.int .i64 d.a) ∧ w'.cell? ⟨wr.heap.size, 2, none⟩ = some (.int .i64 d.b) ∧ w'.cell? ⟨wr.heap.size, 3, none⟩ = some (.int .i64 d.lane)) (by kernel_rfl) (by kernel_rfl) ?_ (fun K hK => ?_)
        · exact HS3.out _ g11
        repeat (first | ((first | with_reducible refine lexL_read ?_ | ((with_reducible refine lexL_readG ?_ ?_); (focus rfl))); apply Exists.intro; refine ⟨fun w' hS => ?_, ?_⟩; (focus (obtain ⟨s1, s2, s3⟩ := hS; go_simp; (try with_reducible rfl); done)); try simp only [Act.put, List.setIfInBounds_toArray, List.set_cons_zero, List.set_cons_succ]) | ((first | ((with_reducible refine lexL_skip (c := false) ?_ ?_ ?_); (focus rfl); (focus rfl)) | ((with_reducible refine lexL_skip (c := true) ?_ ?_ ?_); (focus rfl); (focus rfl)) | ((with_reducible refine lexL_skipU ?_ ?_); (focus rfl))); try simp only [Act.put, List.setIfInBounds_toArray, List.set_cons_zero, List.set_cons_succ]))
        (first | with_reducible refine lexL_eff (fun K' hK' => ?_) | ((with_reducible refine lexL_effG ?_ (fun K' hK' => ?_)); (focus rfl)))
        go_simp
        refine (lane_st (DU5.out.st.fr0 g11) d.a d.b d.lane (fun bs hbs => Nat.le_trans (HMB'.out _ bs hbs) (by omega))).mono ?_
        rintro e w12 ⟨v12, rfl, r12, f12⟩
        have g12 := g11.trans0 f12
        refine hK'.out _ _ ?_ (fun hS => ?_)
        · exact HS3.out _ g12
        try simp only [Act.put, List.setIfInBounds_toArray, List.set_cons_zero, List.set_cons_succ]
        repeat (first | ((first | with_reducible refine lexL_read ?_ | ((with_reducible refine lexL_readG ?_ ?_); (focus rfl))); apply Exists.intro; refine ⟨fun w' hS => ?_, ?_⟩; (focus (obtain ⟨s1, s2, s3⟩ := hS; go_simp; (try with_reducible rfl); done)); try simp only [Act.put, List.setIfInBounds_toArray, List.set_cons_zero, List.set_cons_succ]) | ((first | ((with_reducible refine lexL_skip (c := false) ?_ ?_ ?_); (focus rfl); (focus rfl)) | ((with_reducible refine lexL_skip (c := true) ?_ ?_ ?_); (focus rfl); (focus rfl)) | ((with_reducible refine lexL_skipU ?_ ?_); (focus rfl))); try simp only [Act.put, List.setIfInBounds_toArray, List.set_cons_zero, List.set_cons_succ]))
        (first | with_reducible refine lexL_eff (fun K' hK' => ?_) | ((with_reducible refine lexL_effG ?_ (fun K' hK' => ?_)); (focus rfl)))
        go_simp
        have hl := laneR_go w12 r' (DU5.out.rf.keep g12) (by have := DU5.out.n2; omega) d.a d.b d.lane
        rw [DU5.out.rb] at hl
        refine hl.mono ?_
        rintro e w13 ⟨v13, rfl, r13, f13⟩
        have g13 := g12.trans0 f13
        clear hl
        have q13 := laneR_rows r13 (fun m hm => (DU5.out.rf.keep g13).hv m (List.mem_filter.1 hm).1)
        rw [DU5.out.rel.ln] at q13
        refine hK'.out _ _ ?_ (fun hS => ?_)
        · exact HS3.out _ g13
        try simp only [Act.put, List.setIfInBounds_toArray, List.set_cons_zero, List.set_cons_succ]
        repeat (first | ((first | with_reducible refine lexL_read ?_ | ((with_reducible refine lexL_readG ?_ ?_); (focus rfl))); apply Exists.intro; refine ⟨fun w' hS => ?_, ?_⟩; (focus (obtain ⟨s1, s2, s3⟩ := hS; go_simp; (try with_reducible rfl); done)); try simp only [Act.put, List.setIfInBounds_toArray, List.set_cons_zero, List.set_cons_succ]) | ((first | ((with_reducible refine lexL_skip (c := false) ?_ ?_ ?_); (focus rfl); (focus rfl)) | ((with_reducible refine lexL_skip (c := true) ?_ ?_ ?_); (focus rfl); (focus rfl)) | ((with_reducible refine lexL_skipU ?_ ?_); (focus rfl))); try simp only [Act.put, List.setIfInBounds_toArray, List.set_cons_zero, List.set_cons_succ]))
        (first | with_reducible refine lexL_eff (fun K' hK' => ?_) | ((with_reducible refine lexL_effG ?_ (fun K' hK' => ?_)); (focus rfl)))
        go_simp
        refine (sameAll24_any w13 _ _ _ _ _ _ (r12.keep f13 (fun _ _ _ => id)) q13).mono ?_
        rintro e w14 ⟨rfl, f14⟩
        have g14 := g13.trans0 f14
        rw [show decide (m'.lane (d.a, d.b, d.lane) = m'.lane (d.a, d.b, d.lane)) = true by simp]
        clear q13 r12 r13
        refine hK'.out _ _ ?_ (fun hS => ?_)
        · exact HS3.out _ g14
        try simp only [Act.put, List.setIfInBounds_toArray, List.set_cons_zero, List.set_cons_succ]
        repeat (first | ((first | with_reducible refine lexL_read ?_ | ((with_reducible refine lexL_readG ?_ ?_); (focus rfl))); apply Exists.intro; refine ⟨fun w' hS => ?_, ?_⟩; (focus (obtain ⟨s1, s2, s3⟩ := hS; go_simp; (try with_reducible rfl); done)); try simp only [Act.put, List.setIfInBounds_toArray, List.set_cons_zero, List.set_cons_succ]) | ((first | ((with_reducible refine lexL_skip (c := false) ?_ ?_ ?_); (focus rfl); (focus rfl)) | ((with_reducible refine lexL_skip (c := true) ?_ ?_ ?_); (focus rfl); (focus rfl)) | ((with_reducible refine lexL_skipU ?_ ?_); (focus rfl))); try simp only [Act.put, List.setIfInBounds_toArray, List.set_cons_zero, List.set_cons_succ]))
        (first | with_reducible refine lexL_eff (fun K' hK' => ?_) | ((with_reducible refine lexL_effG ?_ (fun K' hK' => ?_)); (focus rfl)))
        go_simp
        refine (ends_st (DU5.out.st.fr0 g14) d.a).mono ?_
        rintro e w15 ⟨v15, rfl, r15, f15⟩
        have g15 := g14.trans0 f15
        refine hK'.out _ _ ?_ (fun hS => ?_)
        · exact HS3.out _ g15
        try simp only [Act.put, List.setIfInBounds_toArray, List.set_cons_zero, List.set_cons_succ]
        repeat (first | ((first | with_reducible refine lexL_read ?_ | ((with_reducible refine lexL_readG ?_ ?_); (focus rfl))); apply Exists.intro; refine ⟨fun w' hS => ?_, ?_⟩; (focus (obtain ⟨s1, s2, s3⟩ := hS; go_simp; (try with_reducible rfl); done)); try simp only [Act.put, List.setIfInBounds_toArray, List.set_cons_zero, List.set_cons_succ]) | ((first | ((with_reducible refine lexL_skip (c := false) ?_ ?_ ?_); (focus rfl); (focus rfl)) | ((with_reducible refine lexL_skip (c := true) ?_ ?_ ?_); (focus rfl); (focus rfl)) | ((with_reducible refine lexL_skipU ?_ ?_); (focus rfl))); try simp only [Act.put, List.setIfInBounds_toArray, List.set_cons_zero, List.set_cons_succ]))
        (first | with_reducible refine lexL_eff (fun K' hK' => ?_) | ((with_reducible refine lexL_effG ?_ (fun K' hK' => ?_)); (focus rfl)))
        go_simp
        have hl := endsR_any w15 r' (DU5.out.rf.keep g15) (fun q hq => DU5.out.st.vo q ((DU5.out.rel.op q).1 hq)) d.a
        rw [DU5.out.rb, DU5.out.rel.ends] at hl
        refine hl.mono ?_
        rintro e w16 ⟨v16, rfl, r16, f16⟩
        have g16 := g15.trans0 f16
        clear hl
        refine hK'.out _ _ ?_ (fun hS => ?_)
        · exact HS3.out _ g16
        try simp only [Act.put, List.setIfInBounds_toArray, List.set_cons_zero, List.set_cons_succ]
        repeat (first | ((first | with_reducible refine lexL_read ?_ | ((with_reducible refine lexL_readG ?_ ?_); (focus rfl))); apply Exists.intro; refine ⟨fun w' hS => ?_, ?_⟩; (focus (obtain ⟨s1, s2, s3⟩ := hS; go_simp; (try with_reducible rfl); done)); try simp only [Act.put, List.setIfInBounds_toArray, List.set_cons_zero, List.set_cons_succ]) | ((first | ((with_reducible refine lexL_skip (c := false) ?_ ?_ ?_); (focus rfl); (focus rfl)) | ((with_reducible refine lexL_skip (c := true) ?_ ?_ ?_); (focus rfl); (focus rfl)) | ((with_reducible refine lexL_skipU ?_ ?_); (focus rfl))); try simp only [Act.put, List.setIfInBounds_toArray, List.set_cons_zero, List.set_cons_succ]))
        (first | with_reducible refine lexL_eff (fun K' hK' => ?_) | ((with_reducible refine lexL_effG ?_ (fun K' hK' => ?_)); (focus rfl)))
        go_simp
        refine (sameInts_any w16 _ _ _ _ (ownsRow_keep r15 f16 (fun _ _ => id)).slice.arg r16.slice.arg (by have := endsOf_length m'.op d.a 64; unfold maxLen; omega)).mono ?_
        rintro e w17 ⟨rfl, f17⟩
        have g17 := g16.trans0 f17
        rw [show decide (endsOf m'.op d.a 64 = endsOf m'.op d.a 64) = true by simp]
        refine hK'.out _ _ ?_ (fun hS => ?_)
        · exact HS3.out _ g17
        try simp only [Act.put, List.setIfInBounds_toArray, List.set_cons_zero, List.set_cons_succ]
        repeat (first | ((first | with_reducible refine lexL_read ?_ | ((with_reducible refine lexL_readG ?_ ?_); (focus rfl))); apply Exists.intro; refine ⟨fun w' hS => ?_, ?_⟩; (focus (obtain ⟨s1, s2, s3⟩ := hS; go_simp; (try with_reducible rfl); done)); try simp only [Act.put, List.setIfInBounds_toArray, List.set_cons_zero, List.set_cons_succ]) | ((first | ((with_reducible refine lexL_skip (c := false) ?_ ?_ ?_); (focus rfl); (focus rfl)) | ((with_reducible refine lexL_skip (c := true) ?_ ?_ ?_); (focus rfl); (focus rfl)) | ((with_reducible refine lexL_skipU ?_ ?_); (focus rfl))); try simp only [Act.put, List.setIfInBounds_toArray, List.set_cons_zero, List.set_cons_succ]))
        refine lexL_nil (hK.out _ _ ?_)
        have FIN := Lib.hid (DU5.out.fr0 g17)
        clear g10 g11 g12 g13 g14 g15 g16 g17 f12 f13 f14 f15 f16 f17 r15 r16 HS3
        go_wp2
        go_roundw
        case rel => exact ⟨n + 1, g', r', by omega, by go_num, by rw [← HM'.out]; exact FIN.out⟩
        case measure => simp [intOf]; omega
      · have FIN := duo.st.fr
        clear duo
        go_wp2
        go_ret
        exact ⟨rfl, FIN⟩
end Go.Proofs.Ytohcjfnekgnlcaa
