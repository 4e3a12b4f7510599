/- The document's links and ours: what both hold; an act on the document's. -/
import Derived.Test.YtohcjfnekgnlcaaLinkR8
namespace Go.Proofs.Ytohcjfnekgnlcaa
open Go Go.RowKit Go.Maps Go.MapKept

/-- Both hold the same. -/
structure Rel (m : LM) (r : RfG) : Prop where
  op : ∀ p, p ∈ r.ps ↔ p ∈ m.op
  ln : ∀ k, (laneR r.ms k).map (·.bs) = m.lane k
def RfG.B (r : RfG) (k : Nat) : Prop := k = r.bl ∨ r.lv.ownBlock = some k ∨ r.mv.ownBlock = some k ∨ ∃ m ∈ r.ms, m.v.ownBlock = some k
theorem RfAt.keepV {w w' : World} {r : RfG} (h : RfAt w r) {V : Nat → Prop} (f : Fr V w w') (hV : ∀ k, r.B k → ¬ V k) : RfAt w' r :=
  { h with
    hb := f.obj h.hb (hV _ (.inl rfl))
    hl := ownsRow_keep h.hl f (fun k hk => hV k (.inr (.inl hk)))
    hm := ownsRow_keep h.hm f (fun k hk => hV k (.inr (.inr (.inl hk))))
    hv := fun m hm => (h.hv m hm).keep f (fun k hk => hV k (.inr (.inr (.inr ⟨m, hm, hk⟩)))) }
theorem RfAt.blt {w : World} {r : RfG} (h : RfAt w r) : ∀ k, r.B k → k < w.heap.size := by
  rintro k (rfl | hk | hk | ⟨m, hm, hk⟩)
  · exact obj_lt h.hb
  · exact (h.hl.lt k hk).2
  · exact (h.hm.lt k hk).2
  · exact (h.hv m hm).lt hk

/-- What an act on the document's links leaves. -/
def AnsR (w : World) (r : RfG) (q : LM × List Int × Int) (e : Ending) (w' : World) : Prop :=
  ∃ v, e = .returned (.tuple #[v, .int .i64 q.2.2]) ∧ SliceIs w' v q.2.1.length (q.2.1.map byteV) ∧ ∃ r', r'.bl = r.bl ∧ RfAt w' r' ∧ Rel q.1 r' ∧ (∀ k, r'.B k → r.B k ∨ w.heap.size ≤ k) ∧ Fr (fun i => i = r.bl) w w' ∧ r'.ps.length ≤ r.ps.length + 1 ∧ r'.ms.length ≤ r.ms.length + 1

theorem Rel.lane_len {m : LM} {r : RfG} (h : Rel m r) (k : Int × Int × Int) : (laneR r.ms k).length = (m.lane k).length := by rw [← h.ln k, List.length_map]

theorem AnsR.same {w w' : World} {r : RfG} {m : LM} (h : RfAt w r) (hr : Rel m r) (f : Fr No w w') (x : Int) : AnsR w r (m, [], x) (.returned (.tuple #[.slice none 0 0, .int .i64 x])) w' :=
  ⟨_, rfl, .inl ⟨rfl, rfl, rfl⟩, r, rfl, h.keep f, hr, fun _ h => .inl h, f.of0, by omega, by omega⟩

theorem openQ (w : World) (r : RfG) (m : LM) (h : RfAt w r) (hr : Rel m r) (hle : r.ps.length ≤ 1000000) (a b : Int) :
    Calls Try.prog 36 #[.pointer (some ⟨r.bl, 0, none⟩), .int .i64 a, .int .i64 b] w fun e w' => e = .returned (.int .i64 (openM m a b).2) ∧ AnsR w r ((openM m a b).1, [], (openM m a b).2) (.returned (.tuple #[.slice none 0 0, .int .i64 (openM m a b).2])) w' := by
  unfold openM
  by_cases hv : vld a b
  · rw [if_pos hv]
    by_cases hin : (lo a b, hi a b) ∈ m.op
    · rw [if_pos hin]
      refine (openR_there w r h a b hv ((hr.op _).2 hin)).mono ?_
      rintro e w' ⟨rfl, f⟩
      exact ⟨rfl, AnsR.same h hr f _⟩
    · rw [if_neg hin]
      refine (openR_new w r h hle a b hv (fun hi => hin ((hr.op _).1 hi))).mono ?_
      rintro e w' ⟨rfl, v, h', hvb, f⟩
      refine ⟨rfl, _, rfl, .inl ⟨rfl, rfl, rfl⟩, _, (by rfl), h', ⟨fun p => ?_, hr.ln⟩, ?_, f, by simp [RfG.addP], by simp [RfG.addP]⟩
      · simp [RfG.addP, hr.op p]
      · rintro k (e | e | e | e)
        · exact .inl (.inl e)
        · exact .inr (hvb k e)
        · exact .inl (.inr (.inr (.inl e)))
        · exact .inl (.inr (.inr (.inr e)))
  · rw [if_neg hv]
    refine (openR_arg w r.bl a b hv).mono ?_
    rintro e w' ⟨rfl, f⟩
    exact ⟨rfl, AnsR.same h hr f _⟩

theorem lane_msDrop (ms : List Ms) (p : Int × Int) (k : Int × Int × Int) : laneR (msDrop ms p) k = if lo k.1 k.2.1 = p.1 ∧ hi k.1 k.2.1 = p.2 then [] else laneR ms k := by
  rw [laneR_isK, laneR_isK]
  unfold msDrop
  rw [List.filter_filter]
  split
  · rename_i hp
    rw [List.filter_eq_nil_iff]
    intro m _
    simp only [Bool.and_eq_true, not_and]
    intro hk
    rw [isK_iff] at hk
    rw [hk]
    simp [hp.1, hp.2]
  · rename_i hp
    apply List.filter_congr
    intro m _
    cases hk : isK k m with
    | false => simp
    | true =>
      have := isK_iff.1 hk
      rw [this]
      simp only [Bool.true_and, Bool.or_eq_true, bne_iff_ne]
      by_cases h1 : lo k.1 k.2.1 = p.1
      · exact .inr fun h2 => hp ⟨h1, h2⟩
      · exact .inl h1

theorem closeQ (w : World) (r : RfG) (m : LM) (h : RfAt w r) (hr : Rel m r) (hk : ∀ k, m.lane k = [] ∨ okWay m.op k) (hle : r.ps.length ≤ 1000000) (hle2 : r.ms.length ≤ 1000000) (a b : Int) :
    Calls Try.prog 37 #[.pointer (some ⟨r.bl, 0, none⟩), .int .i64 a, .int .i64 b] w fun e w' => e = .returned (.int .i64 (closeM m a b).2) ∧ AnsR w r ((closeM m a b).1, [], (closeM m a b).2) (.returned (.tuple #[.slice none 0 0, .int .i64 (closeM m a b).2])) w' := by
  unfold closeM
  by_cases hv : vld a b
  · rw [if_pos hv]
    by_cases hin : (lo a b, hi a b) ∈ m.op
    · rw [if_pos hin]
      refine (closeR_ok w r h hle hle2 a b hv ((hr.op _).2 hin)).mono ?_
      rintro e w' ⟨rfl, v, v2, h', hvb, hvb2, f⟩
      refine ⟨rfl, _, rfl, .inl ⟨rfl, rfl, rfl⟩, _, (by rfl), h', ⟨fun p => ?_, fun k => ?_⟩, ?_, f, Nat.le_trans (List.length_filter_le _ _) (Nat.le_succ _), Nat.le_trans (List.length_filter_le _ _) (Nat.le_succ _)⟩
      · show p ∈ psDrop r.ps (lo a b, hi a b) ↔ p ∈ opDrop m.op (lo a b, hi a b)
        obtain ⟨p1, p2⟩ := p
        simp [psDrop, opDrop, hr.op]
      · show (laneR (msDrop r.ms (lo a b, hi a b)) k).map (·.bs) = (if k = (b, a, 1) then [] else if k = (a, b, 1) then [] else if k = (b, a, 0) then [] else if k = (a, b, 0) then [] else m.lane k)
        rw [lane_msDrop]
        by_cases hp : lo k.1 k.2.1 = lo a b ∧ hi k.1 k.2.1 = hi a b
        · rw [if_pos hp]
          have hab := lohi_eq hp.1 hp.2
          rcases hk k with e | e
          · rw [e]
            split
            · rfl
            · split
              · rfl
              · split
                · rfl
                · split <;> rfl
          · obtain ⟨k1, k2, k3⟩ := k
            have e2 := e.2.1
            simp only at hab e2
            rcases hab with ⟨rfl, rfl⟩ | ⟨rfl, rfl⟩ <;> rcases e2 with rfl | rfl <;> simp
        · rw [if_neg hp, hr.ln k]
          have n1 : ∀ x, k ≠ (b, a, x) := fun x e => hp (by rw [e]; exact ⟨lo_symm b a, hi_symm b a⟩)
          have n2 : ∀ x, k ≠ (a, b, x) := fun x e => hp (by rw [e]; exact ⟨rfl, rfl⟩)
          rw [if_neg (n1 1), if_neg (n2 1), if_neg (n1 0), if_neg (n2 0)]
      · rintro k (e | e | e | ⟨x, hx, e⟩)
        · exact .inl (.inl e)
        · exact .inr (hvb k e)
        · exact .inr (hvb2 k e)
        · exact .inl (.inr (.inr (.inr ⟨x, (List.mem_filter.1 hx).1, e⟩)))
    · rw [if_neg hin]
      refine (closeR_none w r h a b hv (fun hi => hin ((hr.op _).1 hi))).mono ?_
      rintro e w' ⟨rfl, f⟩
      exact ⟨rfl, AnsR.same h hr f _⟩
  · rw [if_neg hv]
    refine (closeR_arg w r.bl a b hv).mono ?_
    rintro e w' ⟨rfl, f⟩
    exact ⟨rfl, AnsR.same h hr f _⟩

theorem pushQ (w : World) (r : RfG) (m : LM) (h : RfAt w r) (hr : Rel m r) (hle2 : r.ms.length ≤ 1000000) (a b k : Int) (v : Value) (bs : List Int) (hv : ArgIs w v bs.length (bs.map byteV)) (hbl : bs.length ≤ 140737488355328) :
    Calls Try.prog 38 #[.pointer (some ⟨r.bl, 0, none⟩), .int .i64 a, .int .i64 b, .int .i64 k, v] w fun e w' => e = .returned (.int .i64 (pushM m (a, b, k) bs).2) ∧ AnsR w r ((pushM m (a, b, k) bs).1, [], (pushM m (a, b, k) bs).2) (.returned (.tuple #[.slice none 0 0, .int .i64 (pushM m (a, b, k) bs).2])) w' := by
  unfold pushM
  by_cases hok : okWay m.op (a, b, k)
  · rw [if_pos hok]
    obtain ⟨o1, o2, o3⟩ := hok
    by_cases hf : (m.lane (a, b, k)).length < 64
    · rw [if_pos hf]
      refine (pushR_ok w r h hle2 a b k v bs hv hbl o1 o2 ((hr.op _).2 o3) (by rw [hr.lane_len]; exact hf)).mono ?_
      rintro e w' ⟨rfl, v1, v2, h', hvb, hvb2, f⟩
      refine ⟨rfl, _, rfl, .inl ⟨rfl, rfl, rfl⟩, _, (by rfl), h', ⟨hr.op, fun k' => ?_⟩, ?_, f, by simp [RfG.addM], by simp [RfG.addM]⟩
      · show (laneR (r.ms ++ [⟨(a, b, k), v2, bs⟩]) k').map (·.bs) = _
        rw [lane_snoc, List.map_append, hr.ln k']
        cases hk : isK k' (⟨(a, b, k), v2, bs⟩ : Ms) with
        | true =>
          have e : (a, b, k) = k' := isK_iff.1 hk
          subst e
          simp
        | false =>
          have e : k' ≠ (a, b, k) := fun e => by
            have := (isK_iff (k := k') (m := ⟨(a, b, k), v2, bs⟩)).2 e.symm
            rw [hk] at this; cases this
          simp [e]
      · rintro j (e | e | e | ⟨x, hx, e⟩)
        · exact .inl (.inl e)
        · exact .inl (.inr (.inl e))
        · exact .inr (hvb j e)
        · rcases List.mem_append.1 hx with hx | hx
          · exact .inl (.inr (.inr (.inr ⟨x, hx, e⟩)))
          · simp at hx; subst hx; exact .inr (hvb2 j e)
    · rw [if_neg hf]
      refine (pushR_full w r h hle2 a b k v o1 o2 ((hr.op _).2 o3) (by rw [hr.lane_len]; omega)).mono ?_
      rintro e w' ⟨rfl, f⟩
      exact ⟨rfl, AnsR.same h hr f _⟩
  · rw [if_neg hok]
    unfold errOp
    by_cases hv2 : vld a b ∧ (k = 0 ∨ k = 1)
    · rw [if_pos hv2]
      have hn : (lo a b, hi a b) ∉ m.op := fun e => hok ⟨hv2.1, hv2.2, e⟩
      rw [if_neg hn]
      refine (pushR_none w r h a b k v hv2.1 hv2.2 (fun e => hn ((hr.op _).1 e))).mono ?_
      rintro e w' ⟨rfl, f⟩
      exact ⟨rfl, AnsR.same h hr f _⟩
    · rw [if_neg hv2]
      refine (pushR_arg w r.bl a b k v hv2).mono ?_
      rintro e w' ⟨rfl, f⟩
      exact ⟨rfl, AnsR.same h hr f _⟩

theorem lane_cutK (k : Int × Int × Int) : ∀ (l : List Ms) (j : Nat), laneR (cutK k j l) k = (laneR l k).eraseIdx j
  | [], j => by unfold cutK; simp [laneR]
  | x :: l, 0 => by
    unfold cutK
    by_cases hx : isK k x = true
    · rw [if_pos hx, laneR_cons, if_pos hx]; rfl
    · rw [if_neg hx, laneR_cons, laneR_cons, if_neg hx, if_neg hx, lane_cutK k l 0]
  | x :: l, j + 1 => by
    unfold cutK
    by_cases hx : isK k x = true
    · rw [if_pos hx, laneR_cons, laneR_cons, if_pos hx, if_pos hx, lane_cutK k l j]; rfl
    · rw [if_neg hx, laneR_cons, laneR_cons, if_neg hx, if_neg hx, lane_cutK k l (j + 1)]
theorem lane_cutK_ne {k k' : Int × Int × Int} (hne : k' ≠ k) : ∀ (l : List Ms) (j : Nat), laneR (cutK k j l) k' = laneR l k'
  | [], j => by unfold cutK; rfl
  | x :: l, 0 => by
    unfold cutK
    by_cases hx : isK k x = true
    · have : ¬ isK k' x = true := fun e => hne ((isK_iff.1 e).symm.trans (isK_iff.1 hx))
      rw [if_pos hx, laneR_cons, if_neg this]
    · rw [if_neg hx, laneR_cons, laneR_cons, lane_cutK_ne hne l 0]
  | x :: l, j + 1 => by
    unfold cutK
    by_cases hx : isK k x = true
    · rw [if_pos hx, laneR_cons, laneR_cons, lane_cutK_ne hne l j]
    · rw [if_neg hx, laneR_cons, laneR_cons, lane_cutK_ne hne l (j + 1)]

theorem map_eraseIdx' {α β : Type} (f : α → β) : ∀ (l : List α) (i : Nat), (l.eraseIdx i).map f = (l.map f).eraseIdx i
  | [], _ => rfl
  | _ :: _, 0 => rfl
  | x :: l, i + 1 => by simp [List.eraseIdx, map_eraseIdx' f l i]

theorem takeQ (w : World) (r : RfG) (m : LM) (h : RfAt w r) (hr : Rel m r) (hk : ∀ k, m.lane k = [] ∨ okWay m.op k) (hle2 : r.ms.length ≤ 1000000) (a b k q : Int) :
    Calls Try.prog 39 #[.pointer (some ⟨r.bl, 0, none⟩), .int .i64 a, .int .i64 b, .int .i64 k, .int .i64 q] w (AnsR w r (takeM m (a, b, k) q)) := by
  by_cases hv2 : vld a b ∧ (k = 0 ∨ k = 1)
  · refine (takeR_go w r h hle2 a b k q hv2.1 hv2.2).mono ?_
    rintro e w' (⟨x, hx, rfl, v, h', hvb, f⟩ | ⟨hx, rfl, f⟩)
    · have hq : 0 ≤ q := by
        unfold taken at hx
        split at hx
        · assumption
        · cases hx
      obtain ⟨n, rfl⟩ := Int.eq_ofNat_of_zero_le hq
      have hxl : (laneR r.ms (a, b, k))[n]? = some x := by simpa [taken] using hx
      have hxm : (m.lane (a, b, k))[n]? = some x.bs := by rw [← hr.ln, List.getElem?_map, hxl]; rfl
      have hlt : n < (m.lane (a, b, k)).length := (List.getElem?_eq_some_iff.1 hxm).1
      have hok : okWay m.op (a, b, k) := (hk _).elim (fun e => by rw [e] at hlt; simp at hlt) id
      have hxr : x ∈ r.ms := (List.mem_filter.1 (List.mem_of_getElem? hxl)).1
      unfold takeM
      rw [if_pos hok, if_pos ⟨by omega, by omega⟩]
      have e1 : (m.lane (a, b, k)).getD (n : Int).toNat [] = x.bs := by simp [List.getD, hxm]
      simp only [e1]
      refine ⟨x.v, rfl, (h.hv x hxr).keep f (fun j hj e => h.n3 x hxr (e ▸ hj)), _, (by rfl), h', ⟨hr.op, fun k' => ?_⟩, ?_, f, Nat.le_succ _, Nat.le_trans (restR_le (a, b, k) n r.ms) (Nat.le_succ _)⟩
      · show (laneR (restR (a, b, k) n r.ms) k').map (·.bs) = _
        unfold restR
        rw [if_pos (by omega)]
        by_cases e : k' = (a, b, k)
        · subst e
          rw [lane_cutK, map_eraseIdx', hr.ln]
          simp
        · rw [lane_cutK_ne e, hr.ln]
          simp [e]
      · rintro j (e | e | e | ⟨y, hy, e⟩)
        · exact .inl (.inl e)
        · exact .inl (.inr (.inl e))
        · exact .inr (hvb j e)
        · exact .inl (.inr (.inr (.inr ⟨y, restR_mem (k := (a, b, k)) (q := n) hy, e⟩)))
    · have hn : ¬ (0 ≤ q ∧ q < ((m.lane (a, b, k)).length : Int)) := fun ⟨h1, h2⟩ => by
        unfold taken at hx
        rw [if_pos h1, List.getElem?_eq_none_iff, hr.lane_len] at hx
        omega
      unfold takeM
      by_cases hok : okWay m.op (a, b, k)
      · rw [if_pos hok, if_neg hn]
        exact AnsR.same h hr f _
      · rw [if_neg hok]
        unfold errOp
        rw [if_pos hv2, if_neg (fun e => hok ⟨hv2.1, hv2.2, e⟩)]
        exact AnsR.same h hr f _
  · refine (takeR_arg w r.bl a b k q hv2).mono ?_
    rintro e w' ⟨rfl, f⟩
    unfold takeM
    rw [if_neg (fun e => hv2 ⟨e.1, e.2.1⟩)]
    unfold errOp
    rw [if_neg hv2]
    exact AnsR.same h hr f _
theorem AnsR.lift {w w1 w' : World} {r : RfG} {q : LM × List Int × Int} {e : Ending} (F : Fr No w w1) (h : AnsR w1 r q e w') : AnsR w r q e w' := by
  obtain ⟨v, h1, h2, r', h3, h4, h5, h6, h7, h8, h9⟩ := h
  exact ⟨v, h1, h2, r', h3, h4, h5, fun k hk => (h6 k hk).imp id (fun e => Nat.le_trans F.size e), F.of0.trans h7 (fun _ _ h => h), h8, h9⟩
set_option maxHeartbeats 2000000 in
theorem model_any (w : World) (g : RfG) (m : LM) (h : RfAt w g) (hr : Rel m g) (hk : ∀ k, m.lane k = [] ∨ okWay m.op k) (hr1 : g.ps.length ≤ 1000000) (hr2 : g.ms.length ≤ 1000000) (d : ActD) (bv : Value) (hb : ArgIs w bv d.bytes.length (d.bytes.map byteV)) (hl : d.bytes.length ≤ 140737488355328) :
    Calls Try.prog 25 #[.pointer (some ⟨g.bl, 0, none⟩), actV d bv] w (AnsR w g (doM m d)) := by
  obtain ⟨kd, a, b, ln, pk, bs⟩ := d
  obtain ⟨ba, bc, hbv⟩ := hb.form
  simp only [] at hbv
  subst hbv
  unfold doM actV
  simp only [] at hb hl ⊢
  have F0 : Fr No w (w.alloc (.cells #[.int .i64 kd, .int .i64 a, .int .i64 b, .int .i64 ln, .int .i64 pk, .slice ba bs.length bc] 40)) := by (repeat (first | with_reducible exact Fr.refl _ _ | with_reducible assumption | with_reducible refine Fr.drew ?_ | with_reducible refine Fr.drewN ?_ _ | with_reducible refine Fr.alloc ?_ _ | with_reducible refine Fr.setCell ?_ _ (.inl (by simp <;> omega)) _))
  have h0 := h.keep F0
  have hb0 := hb.keep F0
  have LIFT := Lib.hid (fun (q : LM × List Int × Int) (e : Ending) (w' : World) (hw : AnsR (w.alloc (.cells #[.int .i64 kd, .int .i64 a, .int .i64 b, .int .i64 ln, .int .i64 pk, .slice ba bs.length bc] 40)) g q e w') => hw.lift F0)
  by_cases k0 : kd = 0
  · rw [if_pos k0]
    have e0 : (kd == 0) = true := by simp [k0]
    clear k0
    have hc := openQ _ g m h0 hr hr1 a b
    have HC := Lib.hid hc
    clear hc h0 h hr hk
    go_enter Try.func25, Try.ntmps25
    go_wp2_with fail
    refine HC.out.mono ?_
    rintro e w1 ⟨rfl, hw⟩
    have HF := Lib.hid (LIFT.out _ _ _ hw)
    clear hw
    go_wp2
    go_ret2
    exact HF.out
  · rw [if_neg k0]
    have e0 : (kd == 0) = false := by simp [k0]
    clear k0
    by_cases k1 : kd = 1
    · rw [if_pos k1]
      have e1 : (kd == 1) = true := by simp [k1]
      clear k1
      have hc := closeQ _ g m h0 hr hk hr1 hr2 a b
      have HC := Lib.hid hc
      clear hc h0 h hr hk
      go_enter Try.func25, Try.ntmps25
      go_wp2_with fail
      refine HC.out.mono ?_
      rintro e w1 ⟨rfl, hw⟩
      have HF := Lib.hid (LIFT.out _ _ _ hw)
      clear hw
      go_wp2
      go_ret2
      exact HF.out
    · rw [if_neg k1]
      have e1 : (kd == 1) = false := by simp [k1]
      clear k1
      by_cases k2 : kd = 2
      · rw [if_pos k2]
        have e2 : (kd == 2) = true := by simp [k2]
        clear k2
        have hc := pushQ _ g m h0 hr hr2 a b ln (.slice ba bs.length bc) bs hb0 hl
        have HC := Lib.hid hc
        clear hc hb hb0 h0 h hr hk
        go_enter Try.func25, Try.ntmps25
        go_wp2_with fail
        refine HC.out.mono ?_
        rintro e w1 ⟨rfl, hw⟩
        have HF := Lib.hid (LIFT.out _ _ _ hw)
        clear hw
        go_wp2
        go_ret2
        exact HF.out
      · rw [if_neg k2]
        have e2 : (kd == 2) = false := by simp [k2]
        clear k2
        by_cases k3 : kd = 3
        · rw [if_pos k3]
          have e3 : (kd == 3) = true := by simp [k3]
          clear k3
          have hc := takeQ _ g m h0 hr hk hr2 a b ln pk
          have HC := Lib.hid hc
          clear hc hb hb0 h0 h hr hk
          go_enter Try.func25, Try.ntmps25
          go_wp2_with fail
          refine HC.out.mono ?_
          rintro e w1 hw
          have HF := Lib.hid (LIFT.out _ _ _ hw)
          obtain ⟨v, rfl, -⟩ := hw
          go_wp2
          go_ret2
          exact HF.out
        · rw [if_neg k3]
          have e3 : (kd == 3) = false := by simp [k3]
          clear k3
          have HF := Lib.hid (AnsR.same h hr F0 0)
          clear hb hb0 h0 h hr hk
          go_enter Try.func25, Try.ntmps25
          go_wp2
          go_ret2
          exact HF.out
end Go.Proofs.Ytohcjfnekgnlcaa
