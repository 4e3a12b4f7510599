/- link: Close. -/
import Derived.Test.YtohcjfnekgnlcaaLinkH
namespace Go.Proofs.Ytohcjfnekgnlcaa
open Go Go.RowKit Go.Maps Go.MapKept

def drop (ln : List ((Int × Int × Int) × LG)) (k : Int × Int × Int) : List ((Int × Int × Int) × LG) := ln.filter fun x => decide (x.1 ≠ k)
def opDrop (op : List (Int × Int)) (p : Int × Int) : List (Int × Int) := op.filter fun x => decide (x ≠ p)

theorem drop_split {l1 l2 : List ((Int × Int × Int) × LG)} {x : (Int × Int × Int) × LG} {k : Int × Int × Int} (hk : x.1 = k) (hnd : ((l1 ++ x :: l2).map (·.1)).Nodup) : drop (l1 ++ x :: l2) k = l1 ++ l2 := by
  subst hk
  simp only [List.map_append, List.map_cons] at hnd
  obtain ⟨n1, n2, n3⟩ := List.nodup_append.1 hnd
  obtain ⟨n4, n5⟩ := List.nodup_cons.1 n2
  unfold drop
  rw [List.filter_append, List.filter_cons, if_neg (by simp)]
  rw [List.filter_eq_self.2, List.filter_eq_self.2]
  · intro y hy; simp only [decide_eq_true_eq]; exact fun e => n4 (e ▸ List.mem_map.2 ⟨y, hy, rfl⟩)
  · intro y hy; simp only [decide_eq_true_eq]; exact fun e => n3 y.1 (List.mem_map.2 ⟨y, hy, rfl⟩) x.1 (by simp) e
theorem drop_miss {ln : List ((Int × Int × Int) × LG)} {k : Int × Int × Int} (h : ∀ x ∈ ln, x.1 ≠ k) : drop ln k = ln := by
  unfold drop; rw [List.filter_eq_self]; intro x hx; simpa using h x hx
theorem drop_nodup {ln : List ((Int × Int × Int) × LG)} {k : Int × Int × Int} (h : (ln.map (·.1)).Nodup) : ((drop ln k).map (·.1)).Nodup := h.sublist (List.filter_sublist.map _)
theorem laneOf_drop {ln : List ((Int × Int × Int) × LG)} {k k' : Int × Int × Int} : laneOf (drop ln k) k' = if k' = k then [] else laneOf ln k' := by
  induction ln with
  | nil => simp [drop, laneOf]
  | cons x l ih =>
    unfold drop at ih ⊢
    rw [List.filter_cons]
    by_cases hx : x.1 = k
    · rw [if_neg (by simp [hx]), ih, laneOf_cons]
      by_cases e : k' = k
      · simp [e]
      · rw [if_neg e, if_neg e, if_neg (fun h => e (h.symm.trans hx))]
    · rw [if_pos (by simp [hx]), laneOf_cons, ih, laneOf_cons]
      by_cases e : k' = k
      · subst e; simp [hx]
      · simp [e]

theorem delete_way {w : World} {bn : Nat} {ln : List ((Int × Int × Int) × LG)} (hm : MapAt Try.prog 64 w bn (lnV ln)) (hnd : (ln.map (·.1)).Nodup) {k : Int × Int × Int} (hk : ∃ l, keyOf Try.prog 64 (wayV k) = some l) (ty x : TypeId) :
    ∃ w', (Builtin.delete_ #[60, x] ty #[.map (some bn), wayV k]).run Try.prog w = .ok (.tuple #[]) w' ∧ MapAt Try.prog 64 w' bn (lnV (drop ln k)) ∧ Turned bn w w' := by
  by_cases h : ∃ x ∈ ln, x.1 = k
  · obtain ⟨y, hy, rfl⟩ := h
    obtain ⟨L1, L2, e⟩ := List.append_of_mem hy
    subst e
    rw [drop_split rfl hnd]
    simp only [lnV, List.map_append, List.map_cons] at hm ⊢
    exact hm.delete_hit keyedWay undWayMap hk ty x
  · rw [drop_miss (fun x hx e => h ⟨x, hx, e⟩)]
    exact hm.delete_miss keyedWay undWayMap hk (fun p hp e => by
      obtain ⟨z, hz, rfl⟩ := List.mem_map.1 hp
      exact h ⟨z, hz, wayV_inj e⟩) ty x

abbrev opV (op : List (Int × Int)) : List (Value × Value) := op.map fun p => (pairV p, .int .i64 1)

theorem delete_pair {w : World} {bo : Nat} {op : List (Int × Int)} (hm : MapAt Try.prog 69 w bo (opV op)) {p : Int × Int} (hp : p ∈ op) (hk : ∃ l, keyOf Try.prog 69 (pairV p) = some l) (ty x : TypeId) :
    ∃ w', (Builtin.delete_ #[59, x] ty #[.map (some bo), pairV p]).run Try.prog w = .ok (.tuple #[]) w' ∧ MapAt Try.prog 69 w' bo (opV (opDrop op p)) ∧ Turned bo w w' := by
  obtain ⟨L1, L2, e⟩ := List.append_of_mem hp
  subst e
  have hnd : (L1 ++ p :: L2).Nodup := by
    have := hm.nodup
    rw [List.map_map] at this
    exact (List.pairwise_map.1 this).imp (fun h e => h (by simp [e]))
  obtain ⟨n1, n2, n3⟩ := List.nodup_append.1 hnd
  obtain ⟨n4, n5⟩ := List.nodup_cons.1 n2
  have e1 : opDrop (L1 ++ p :: L2) p = L1 ++ L2 := by
    unfold opDrop
    rw [List.filter_append, List.filter_cons, if_neg (by simp), List.filter_eq_self.2, List.filter_eq_self.2]
    · intro y hy; simp only [decide_eq_true_eq]; exact fun e => n4 (e ▸ hy)
    · intro y hy; simp only [decide_eq_true_eq]; exact fun e => n3 y hy p (by simp) e
  rw [e1]
  simp only [opV, List.map_append, List.map_cons] at hm ⊢
  exact hm.delete_hit keyedPair undPairMap hk ty x

/-- The state behind Close. -/
def LkG.closed (g : LkG) (a b : Int) : LkG := { g with op := opDrop g.op (lo a b, hi a b), ln := drop (drop (drop (drop g.ln (a, b, 0)) (b, a, 0)) (a, b, 1)) (b, a, 1) }

theorem mem_drop {ln : List ((Int × Int × Int) × LG)} {k : Int × Int × Int} {x : (Int × Int × Int) × LG} (h : x ∈ drop ln k) : x ∈ ln ∧ x.1 ≠ k := by
  have := List.mem_filter.1 h
  exact ⟨this.1, by simpa using this.2⟩
theorem lo_comm {a b : Int} : lo a b = lo b a := by unfold lo; split <;> split <;> omega
theorem hi_comm {a b : Int} : hi a b = hi b a := by unfold hi; split <;> split <;> omega
theorem lohi_eq {a b c d : Int} (h1 : lo a b = lo c d) (h2 : hi a b = hi c d) : (a = c ∧ b = d) ∨ (a = d ∧ b = c) := by
  unfold lo hi at *; split at h1 <;> split at h1 <;> simp_all <;> omega

theorem LinksAt.closed {w w' : World} {g : LkG} (h : LinksAt w g) {a b : Int} (f : Fr (fun k => k = g.bo ∨ k = g.bn) w w') (hM1 : MapAt Try.prog 69 w' g.bo (opV (g.closed a b).op)) (hM2 : MapAt Try.prog 64 w' g.bn (lnV (g.closed a b).ln)) :
    LinksAt w' (g.closed a b) ∧ Moved g (g.closed a b) w.heap.size := by
  have sub : ∀ x ∈ (g.closed a b).ln, x ∈ g.ln ∧ x.1 ≠ (a, b, 0) ∧ x.1 ≠ (b, a, 0) ∧ x.1 ≠ (a, b, 1) ∧ x.1 ≠ (b, a, 1) := by
    intro x hx
    obtain ⟨h4, n4⟩ := mem_drop hx
    obtain ⟨h3, n3⟩ := mem_drop h4
    obtain ⟨h2, n2⟩ := mem_drop h3
    obtain ⟨h1, n1⟩ := mem_drop h2
    exact ⟨h1, n1, n2, n3, n4⟩
  have hW : ∀ k, (g.closed a b).W k → g.W k := by
    rintro k (e | e | e | ⟨x, hx, e⟩)
    · exact .inl e
    · exact .inr (.inl e)
    · exact .inr (.inr (.inl e))
    · exact .inr (.inr (.inr ⟨x, (sub x hx).1, e⟩))
  have hC : ∀ k, (g.closed a b).C k → g.C k := by
    rintro k ⟨x, hx, m, hm, e⟩
    exact ⟨x, (sub x hx).1, m, hm, e⟩
  refine ⟨
    { hb := f.obj h.hb (by rintro (e | e); exact h.n1 e; exact h.n2 e)
      ho := hM1
      hn := hM2
      hl := fun x hx => ownsRow_keep (h.hl x (sub x hx).1) f (by rintro k hk (e | e); exact (h.nl x (sub x hx).1 k hk).2.1 e; exact (h.nl x (sub x hx).1 k hk).2.2 e)
      hm := fun x hx m hm => (h.hm x (sub x hx).1 m hm).keep f (by rintro k hk (e | e); exact h.mc k ⟨x, (sub x hx).1, m, hm, hk⟩ (.inr (.inl e)); exact h.mc k ⟨x, (sub x hx).1, m, hm, hk⟩ (.inr (.inr (.inl e))))
      n1 := h.n1
      n2 := h.n2
      n3 := h.n3
      nl := fun x hx => h.nl x (sub x hx).1
      ll := fun x hx y hy => h.ll x (sub x hx).1 y (sub y hy).1
      mc := fun k hk hw => h.mc k (hC k hk) (hW k hw)
      vo := fun p hp => h.vo p (List.mem_filter.1 hp).1
      vl := ?_
      le := fun x hx => h.le x (sub x hx).1 }, ⟨rfl, fun k hk => .inl (hW k hk), fun k hk => .inl (hC k hk)⟩⟩
  rintro ⟨⟨c, d, l⟩, lg⟩ hx
  obtain ⟨hx0, n1, n2, n3, n4⟩ := sub _ hx
  obtain ⟨v1, v2, v3⟩ := h.vl _ hx0
  refine ⟨v1, v2, List.mem_filter.2 ⟨v3, ?_⟩⟩
  simp only [decide_eq_true_eq]
  intro e
  simp only [Prod.mk.injEq] at e n1 n2 n3 n4 v2
  rcases lohi_eq e.1 e.2 with ⟨rfl, rfl⟩ | ⟨rfl, rfl⟩ <;> rcases v2 with rfl | rfl <;> simp_all

set_option maxHeartbeats 2000000 in
theorem close_ok (w : World) (g : LkG) (h : LinksAt w g) (a b : Int) (hv : vld a b) (hin : (lo a b, hi a b) ∈ g.op) :
    Calls Try.prog 19 #[.pointer (some ⟨g.bl, 0, none⟩), .int .i64 a, .int .i64 b] w fun e w' => e = .returned (.int .i64 0) ∧ LinksAt w' (g.closed a b) ∧ Moved g (g.closed a b) w.heap.size ∧ Fr g.W w w' := by
  have hlk : ∀ w', MapAt Try.prog 69 w' g.bo (opV g.op) → (Instr.lookup 59 (.map (some g.bo)) (.agg #[.int .i64 (lo a b), .int .i64 (hi a b)]) false).run Try.prog w' = .ok (.int .i64 1) w' :=
    fun w' hm => hm.lookup keyedPair undPairMap zeroInt (keyPair (p := (lo a b, hi a b)) (lo_i64 hv) (hi_i64 hv)) false (op_hit hin)
  go_enter Try.func19, Try.ntmps19
  go_wp2_with (go_at_call 33; refine (of_yes _ _ _ hv).mono ?_; rintro e w1 ⟨rfl, f1⟩)
  have h1 := h.keep0 f1
  have c0 := h1.cell0
  have c1 := h1.cell1
  have m0 := h1.ho
  have m1 := h1.hn
  have hne : g.bo < w1.heap.size := m0.lt
  have hne1 : g.bn < w1.heap.size := m1.lt
  have hnl : g.bl < w1.heap.size := h1.wlt _ (.inl rfl)
  refine wp_region_lexL [false, false, false, false, false, false, false, false] (fun w' => w'.cell? ⟨g.bl, 0, none⟩ = some (.map (some g.bo)) ∧ w'.cell? ⟨w1.heap.size, 0, none⟩ = some (.int .i64 (lo a b)) ∧ w'.cell? ⟨w1.heap.size, 1, none⟩ = some (.int .i64 (hi a b)) ∧ MapAt Try.prog 69 w' g.bo (opV g.op)) (by kernel_rfl) (by kernel_rfl) ?_ (fun K hK => ?_)
  · exact ⟨((Fr.refl No _).alloc _).drew.cell c0 id, by go_simp, by go_simp, m0.keep (((Fr.refl No _).alloc _).drew) id⟩
  repeat (first | ((first | with_reducible refine lexL_read ?_ | ((with_reducible refine lexL_readG ?_ ?_); (focus rfl))); apply Exists.intro; refine ⟨fun w' hS => ?_, ?_⟩; (focus (obtain ⟨s1, s2, s3, s4⟩ := hS; go_simp; (try with_reducible rfl); done)); try simp only [Act.put, List.setIfInBounds_toArray, List.set_cons_zero, List.set_cons_succ]) | ((first | ((with_reducible refine lexL_skip (c := false) ?_ ?_ ?_); (focus rfl); (focus rfl)) | ((with_reducible refine lexL_skip (c := true) ?_ ?_ ?_); (focus rfl); (focus rfl)) | ((with_reducible refine lexL_skipU ?_ ?_); (focus rfl))); try simp only [Act.put, List.setIfInBounds_toArray, List.set_cons_zero, List.set_cons_succ]))
  refine lexL_nil (hK.out _ _ ?_)
  go_wp2
  have F0 : Fr No w1 ((w1.alloc (.cells #[.int .i64 (lo a b), .int .i64 (hi a b)] 69)).drew.drew) := by (repeat (first | with_reducible exact Fr.refl _ _ | with_reducible assumption | with_reducible refine Fr.drew ?_ | with_reducible refine Fr.drewN ?_ _ | with_reducible refine Fr.alloc ?_ _ | with_reducible refine Fr.setCell ?_ _ (.inl (by simp <;> omega)) _))
  obtain ⟨w2, hrun, hM, hT⟩ := delete_pair (m0.keep F0 id) hin (keyPair (p := (lo a b, hi a b)) (lo_i64 hv) (hi_i64 hv)) 0 69
  unfold pairV at hrun
  simp only [] at hrun
  have n1 := h1.n1
  have n2 := h1.n2
  have nb : ¬ (w1.heap.size = g.bo) := by omega
  refine wp_region_lexL [false, false, false, false, false, true] (fun w' => w'.cell? ⟨g.bl, 0, none⟩ = some (.map (some g.bo)) ∧ w'.cell? ⟨w1.heap.size, 0, none⟩ = some (.int .i64 (lo a b)) ∧ w'.cell? ⟨w1.heap.size, 1, none⟩ = some (.int .i64 (hi a b))) (by kernel_rfl) (by kernel_rfl) ?_ (fun K hK => ?_)
  · exact ⟨F0.cell c0 id, by go_simp, by go_simp⟩
  repeat (first | ((first | with_reducible refine lexL_read ?_ | ((with_reducible refine lexL_readG ?_ ?_); (focus rfl))); apply Exists.intro; refine ⟨fun w' hS => ?_, ?_⟩; (focus (obtain ⟨s1, s2, s3⟩ := hS; go_simp; (try with_reducible rfl); done)); try simp only [Act.put, List.setIfInBounds_toArray, List.set_cons_zero, List.set_cons_succ]) | ((first | ((with_reducible refine lexL_skip (c := false) ?_ ?_ ?_); (focus rfl); (focus rfl)) | ((with_reducible refine lexL_skip (c := true) ?_ ?_ ?_); (focus rfl); (focus rfl)) | ((with_reducible refine lexL_skipU ?_ ?_); (focus rfl))); try simp only [Act.put, List.setIfInBounds_toArray, List.set_cons_zero, List.set_cons_succ]))
  (first | with_reducible refine lexL_eff (fun K' hK' => ?_) | ((with_reducible refine lexL_effG ?_ (fun K' hK' => ?_)); (focus rfl)))
  go_simp
  refine hK'.out _ _ ?_ (fun hS => ?_)
  · exact ⟨hT.fr.cell (F0.cell c0 id) n1, hT.fr.cell (a := ⟨w1.heap.size, 0, none⟩) (by go_simp) nb, hT.fr.cell (a := ⟨w1.heap.size, 1, none⟩) (by go_simp) nb⟩
  refine lexL_nil (hK.out _ _ ?_)
  go_wp2
  have ka : ∀ k, k = 0 ∨ k = 1 → ∃ l, keyOf Try.prog 64 (wayV (a, b, k)) = some l := fun k hk => keyWay (by unfold inI64; obtain ⟨_, _, _, _, _⟩ := hv; omega) (by unfold inI64; obtain ⟨_, _, _, _, _⟩ := hv; show _ ≤ b ∧ b ≤ _; omega) (by unfold inI64; show _ ≤ k ∧ k ≤ _; omega)
  have kb : ∀ k, k = 0 ∨ k = 1 → ∃ l, keyOf Try.prog 64 (wayV (b, a, k)) = some l := fun k hk => keyWay (by unfold inI64; obtain ⟨_, _, _, _, _⟩ := hv; omega) (by unfold inI64; obtain ⟨_, _, _, _, _⟩ := hv; show _ ≤ a ∧ a ≤ _; omega) (by unfold inI64; show _ ≤ k ∧ k ≤ _; omega)
  have n3 := h1.n3
  have nd0 := h1.nodup
  obtain ⟨w3, r3, M3, T3⟩ := delete_way ((m1.keep F0 id).keep hT.fr (fun e => n3 e.symm)) nd0 (ka 0 (.inl rfl)) 0 64
  obtain ⟨w4, r4, M4, T4⟩ := delete_way M3 (drop_nodup nd0) (kb 0 (.inl rfl)) 0 64
  obtain ⟨w5, r5, M5, T5⟩ := delete_way M4 (drop_nodup (drop_nodup nd0)) (ka 1 (.inr rfl)) 0 64
  obtain ⟨w6, r6, M6, T6⟩ := delete_way M5 (drop_nodup (drop_nodup (drop_nodup nd0))) (kb 1 (.inr rfl)) 0 64
  unfold wayV at r3 r4 r5 r6
  simp only [] at r3 r4 r5 r6
  have x2 := hT.fr.cell (F0.cell c1 id) n1
  have x3 := T3.fr.cell x2 n2
  have x4 := T4.fr.cell x3 n2
  have x5 := T5.fr.cell x4 n2
  have FB : Fr (fun k => k = g.bo ∨ k = g.bn) ((w1.alloc (.cells #[.int .i64 (lo a b), .int .i64 (hi a b)] 69)).drew.drew) w6 :=
    ((((hT.fr.mono (fun _ e => .inl e)).trans T3.fr (fun _ _ e => .inr e)).trans T4.fr (fun _ _ e => .inr e)).trans T5.fr (fun _ _ e => .inr e)).trans T6.fr (fun _ _ e => .inr e)
  have T36 : Fr (· = g.bn) w2 w6 := ((T3.fr.trans T4.fr (fun _ _ e => e)).trans T5.fr (fun _ _ e => e)).trans T6.fr (fun _ _ e => e)
  have FIN := (h1.keep0 F0).closed (a := a) (b := b) FB (hM.keep T36 n3) M6
  have HFIN := Lib.hid (show LinksAt w6 (g.closed a b) ∧ Moved g (g.closed a b) w.heap.size ∧ Fr g.W w w6 from
    ⟨FIN.1, (Moved.refl g w.heap.size).trans FIN.2 (f1.trans0 F0).size, (f1.trans0 F0).of0.trans FB (fun i _ e => by rcases e with e | e; exact .inr (.inl e); exact .inr (.inr (.inl e)))⟩)
  clear FIN FB T36 M3 M4 M5 M6 hM ka kb nd0 hlk
  refine wp_loop_rounds 3 ?_
  rw [rounds_succ]
  go_wp2
  rw [rounds_succ]
  go_wp2
  rw [rounds_succ]
  go_wp2
  go_ret
  exact ⟨rfl, HFIN.out⟩

set_option maxHeartbeats 1000000 in
theorem close_none (w : World) (g : LkG) (h : LinksAt w g) (a b : Int) (hv : vld a b) (hin : (lo a b, hi a b) ∉ g.op) :
    Calls Try.prog 19 #[.pointer (some ⟨g.bl, 0, none⟩), .int .i64 a, .int .i64 b] w fun e w' => e = .returned (.int .i64 9) ∧ Fr No w w' := by
  have hlk : ∀ w', MapAt Try.prog 69 w' g.bo (opV g.op) → (Instr.lookup 59 (.map (some g.bo)) (.agg #[.int .i64 (lo a b), .int .i64 (hi a b)]) false).run Try.prog w' = .ok (.int .i64 0) w' :=
    fun w' hm => hm.lookup keyedPair undPairMap zeroInt (keyPair (p := (lo a b, hi a b)) (lo_i64 hv) (hi_i64 hv)) false (op_miss hin)
  go_enter Try.func19, Try.ntmps19
  go_wp2_with (go_at_call 33; refine (of_yes _ _ _ hv).mono ?_; rintro e w1 ⟨rfl, f1⟩)
  have h1 := h.keep0 f1
  have c0 := h1.cell0
  have m0 := h1.ho
  have hne : g.bo < w1.heap.size := m0.lt
  have hnl : g.bl < w1.heap.size := h1.wlt _ (.inl rfl)
  refine wp_region_lexL [false, false, false, false, false, false, false, false] (fun w' => w'.cell? ⟨g.bl, 0, none⟩ = some (.map (some g.bo)) ∧ w'.cell? ⟨w1.heap.size, 0, none⟩ = some (.int .i64 (lo a b)) ∧ w'.cell? ⟨w1.heap.size, 1, none⟩ = some (.int .i64 (hi a b)) ∧ MapAt Try.prog 69 w' g.bo (opV g.op)) (by kernel_rfl) (by kernel_rfl) ?_ (fun K hK => ?_)
  · exact ⟨((Fr.refl No _).alloc _).drew.cell c0 id, by go_simp, by go_simp, m0.keep (((Fr.refl No _).alloc _).drew) id⟩
  repeat (first | ((first | with_reducible refine lexL_read ?_ | ((with_reducible refine lexL_readG ?_ ?_); (focus rfl))); apply Exists.intro; refine ⟨fun w' hS => ?_, ?_⟩; (focus (obtain ⟨s1, s2, s3, s4⟩ := hS; go_simp; (try with_reducible rfl); done)); try simp only [Act.put, List.setIfInBounds_toArray, List.set_cons_zero, List.set_cons_succ]) | ((first | ((with_reducible refine lexL_skip (c := false) ?_ ?_ ?_); (focus rfl); (focus rfl)) | ((with_reducible refine lexL_skip (c := true) ?_ ?_ ?_); (focus rfl); (focus rfl)) | ((with_reducible refine lexL_skipU ?_ ?_); (focus rfl))); try simp only [Act.put, List.setIfInBounds_toArray, List.set_cons_zero, List.set_cons_succ]))
  refine lexL_nil (hK.out _ _ ?_)
  go_wp2
  go_ret
  exact ⟨rfl, by (repeat (first | with_reducible exact Fr.refl _ _ | with_reducible assumption | with_reducible refine Fr.drew ?_ | with_reducible refine Fr.drewN ?_ _ | with_reducible refine Fr.alloc ?_ _ | with_reducible refine Fr.setCell ?_ _ (.inl (by simp <;> omega)) _))⟩
set_option maxHeartbeats 1000000 in
theorem close_arg (w : World) (bl : Nat) (a b : Int) (hv : ¬ vld a b) :
    Calls Try.prog 19 #[.pointer (some ⟨bl, 0, none⟩), .int .i64 a, .int .i64 b] w fun e w' => e = .returned (.int .i64 2) ∧ Fr No w w' := by
  go_enter Try.func19, Try.ntmps19
  go_wp2_with fail
  refine (of_no _ _ _ hv).mono ?_
  rintro e w1 ⟨p, q, rfl, f1⟩
  go_wp2
  go_ret
  exact ⟨rfl, by (repeat (first | with_reducible exact Fr.refl _ _ | with_reducible assumption | with_reducible refine Fr.drew ?_ | with_reducible refine Fr.drewN ?_ _ | with_reducible refine Fr.alloc ?_ _ | with_reducible refine Fr.setCell ?_ _ (.inl (by simp <;> omega)) _))⟩
end Go.Proofs.Ytohcjfnekgnlcaa
