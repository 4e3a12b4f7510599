/- link: Push. -/
import Derived.Test.YtohcjfnekgnlcaaLinkE
namespace Go.Proofs.Ytohcjfnekgnlcaa
open Go Go.RowKit Go.Maps Go.MapKept

theorem way_i64 {op : List (Int × Int)} {k : Int × Int × Int} (h : okWay op k) : inI64 k.1 ∧ inI64 k.2.1 ∧ inI64 k.2.2 := by
  obtain ⟨⟨h1, h2, h3, h4, _⟩, h5, _⟩ := h
  unfold inI64
  omega
theorem keyWayOk {op : List (Int × Int)} {k : Int × Int × Int} (h : okWay op k) : ∃ l, keyOf Try.prog 64 (wayV k) = some l :=
  let ⟨a, b, c⟩ := way_i64 h
  keyWay a b c

abbrev lnV (ln : List ((Int × Int × Int) × LG)) : List (Value × Value) := ln.map fun x => (wayV x.1, x.2.v)

theorem Slot.finds {g : LkG} {k : Int × Int × Int} {L1 L2 : List ((Int × Int × Int) × LG)} {v : Value} {ms : List (Value × List Int)} (h : Slot g k L1 L2 v ms) :
    ∃ r, Finds (lnV g.ln) (wayV k) r ∧ r.getD (.slice none 0 0) = v := by
  rcases h with h | ⟨h1, rfl, rfl, _, h5⟩
  · exact ⟨some v, .hit (by rw [h]; simp [lnV]), rfl⟩
  · refine ⟨none, .miss fun p hp e => ?_, rfl⟩
    obtain ⟨x, hx, rfl⟩ := List.mem_map.1 hp
    exact h5 x hx (wayV_inj e)

theorem Slot.row {w : World} {g : LkG} (hl : LinksAt w g) {k : Int × Int × Int} {L1 L2 : List ((Int × Int × Int) × LG)} {v : Value} {ms : List (Value × List Int)} (h : Slot g k L1 L2 v ms) :
    w.ownsRow 0 28 1 v ms.length (ms.map (·.1)) ∧ ms.length ≤ 64 := by
  rcases h with h | ⟨h1, rfl, rfl, rfl, h5⟩
  · exact ⟨hl.hl (k, ⟨v, ms⟩) (by rw [h]; simp), hl.le (k, ⟨v, ms⟩) (by rw [h]; simp)⟩
  · exact ⟨World.ownsRow_nil _ _ _ _, by simp⟩

/-- The value in front of the slot's bounds. -/
theorem row_form {w : World} {v : Value} {n : Nat} {xs : List Value} {base : Nat} {e : TypeId} {size : Nat} (h : w.ownsRow base e size v n xs) : ∃ a cap, v = .slice a n cap := by
  rcases h.2 with ⟨rfl, rfl⟩ | ⟨g, cap, cur, rfl, _⟩
  · exact ⟨none, 0, rfl⟩
  · exact ⟨_, _, rfl⟩

theorem infoBytes : (Try.prog.info? 28).map (fun i => (i.zero, i.size, i.bytes)) = some (some (.slice none 0 0), 1, 24) := by kernel_rfl
theorem undRows : Try.prog.underlying 35 = some (.slice 28) := by kernel_rfl

/-- An entry of the map, fetched to be written. -/
theorem entry_ex {w : World} {g : LkG} {k : Int × Int × Int} {L1 L2 : List ((Int × Int × Int) × LG)} {v : Value} {ms : List (Value × List Int)} (h : Slot g k L1 L2 v ms) (hm : MapAt Try.prog 64 w g.bn (lnV g.ln)) (hk : okWay g.op k) (hroom : g.ln.length < maxLen) :
    ∃ w' s, (Instr.mapEntry 60 (.map (some g.bn)) (wayV k)).run Try.prog w = .ok (.tuple #[v, .int .i64 s]) w' ∧ Entry Try.prog 64 w' g.bn (lnV L1) (wayV k) (lnV L2) s ∧ Turned g.bn w w' := by
  rcases h with h | ⟨h1, rfl, rfl, _, h5⟩
  · rw [h] at hm
    simp only [lnV, List.map_append, List.map_cons] at hm
    exact hm.entry_hit keyedWay undWayMap (keyWayOk hk)
  · subst h1
    exact hm.entry_miss keyedWay undWayMap zeroRows (keyWayOk hk) (fun p hp e => by
      obtain ⟨x, hx, rfl⟩ := List.mem_map.1 hp
      exact h5 x hx (wayV_inj e)) (by simpa using hroom)

/-- What Push leaves. -/
def PushOk (w : World) (g : LkG) (k : Int × Int × Int) (bs : List Int) (e : Ending) (w' : World) : Prop :=
  e = .returned (.int .i64 0) ∧ ∃ g', LinksAt w' g' ∧ Moved g g' w.heap.size ∧ Fr g.W w w' ∧ g'.op = g.op ∧ g'.ln.length ≤ g.ln.length + 1 ∧ ∀ k', g'.lane k' = if k' = k then g.lane k ++ [bs] else g.lane k'

set_option maxHeartbeats 2000000 in
theorem push_ok (w : World) (g : LkG) (h : LinksAt w g) (hroom : g.ln.length < maxLen) (a b k : Int) (hk : okWay g.op (a, b, k)) (hfull : (g.lane (a, b, k)).length < 64) (v : Value) (bs : List Int) (hv : ArgIs w v bs.length (bs.map byteV)) (hl : bs.length ≤ 140737488355328) :
    Calls Try.prog 12 #[.pointer (some ⟨g.bl, 0, none⟩), .int .i64 a, .int .i64 b, .int .i64 k, v] w (PushOk w g (a, b, k) bs) := by
  obtain ⟨L1, L2, v0, ms0, hs⟩ := slot_ex g (a, b, k)
  have hlane := hs.lane h.nodup
  rw [hlane] at hfull
  obtain ⟨r, hr1, hr2⟩ := hs.finds
  have hlk : ∀ w', MapAt Try.prog 64 w' g.bn (lnV g.ln) → (Instr.lookup 60 (.map (some g.bn)) (.agg #[.int .i64 a, .int .i64 b, .int .i64 k]) false).run Try.prog w' = .ok v0 w' :=
    fun w' hm => by rw [← hr2]; exact hm.lookup keyedWay undWayMap zeroRows (keyWayOk hk) false hr1
  obtain ⟨va, vc, hva⟩ := row_form (hs.row h).1
  subst hva
  go_enter Try.func12, Try.ntmps12
  go_wp2_with fail
  refine (find_ok _ g h _ _ _ hk.1 hk.2.1 hk.2.2).mono ?_
  rintro e w1 ⟨rfl, f1⟩
  have h1 := h.keep0 f1
  have c1 := h1.cell1
  have m1 := h1.hn
  have hne : g.bn < w1.heap.size := m1.lt
  have hnl : g.bl < w1.heap.size := h1.wlt _ (.inl rfl)
  unfold wayV
  simp only []
  have hfl : decide ((64 : Int) ≤ (ms0.length : Int)) = false := by simp at hfull ⊢; omega
  have H := Lib.hid h
  have HF := Lib.hid hfull
  have HS := Lib.hid hs
  clear h hr1 hr2 hlane hs hfull
  go_wp2_with fail
  refine wp_region_lexL [false, false, false, false, false, false, false, false] (fun w' => w'.cell? ⟨g.bl, 1, none⟩ = some (.map (some g.bn)) ∧ w'.cell? ⟨w1.heap.size, 0, none⟩ = some (.int .i64 a) ∧ w'.cell? ⟨w1.heap.size, 1, none⟩ = some (.int .i64 b) ∧ w'.cell? ⟨w1.heap.size, 2, none⟩ = some (.int .i64 k) ∧ MapAt Try.prog 64 w' g.bn (lnV g.ln)) (by kernel_rfl) (by kernel_rfl) ?_ (fun K hK => ?_)
  · exact ⟨((Fr.refl No _).alloc _).drew.cell c1 id, by go_simp, by go_simp, by go_simp, m1.keep (((Fr.refl No _).alloc _).drew) id⟩
  repeat (first | ((first | with_reducible refine lexL_read ?_ | ((with_reducible refine lexL_readG ?_ ?_); (focus rfl))); apply Exists.intro; refine ⟨fun w' hS => ?_, ?_⟩; (focus (obtain ⟨s1, s2, s3, s4, s5⟩ := hS; go_simp; (try with_reducible rfl); done)); try simp only [Act.put, List.setIfInBounds_toArray, List.set_cons_zero, List.set_cons_succ]) | ((first | ((with_reducible refine lexL_skip (c := false) ?_ ?_ ?_); (focus rfl); (focus rfl)) | ((with_reducible refine lexL_skip (c := true) ?_ ?_ ?_); (focus rfl); (focus rfl)) | ((with_reducible refine lexL_skipU ?_ ?_); (focus rfl))); try simp only [Act.put, List.setIfInBounds_toArray, List.set_cons_zero, List.set_cons_succ]))
  refine lexL_nil (hK.out _ _ ?_)
  go_wp2
  have F0 : Fr No w1 ((w1.alloc (.cells #[.int .i64 a, .int .i64 b, .int .i64 k] 64)).drew.drew) := by (repeat (first | with_reducible exact Fr.refl _ _ | with_reducible assumption | with_reducible refine Fr.drew ?_ | with_reducible refine Fr.drewN ?_ _ | with_reducible refine Fr.alloc ?_ _ | with_reducible refine Fr.setCell ?_ _ (.inl (by simp <;> omega)) _))
  refine wp_region_lexL [false, false, false, false, false, false, true, true, true, false, true, false, true] (fun w' => w'.cell? ⟨g.bl, 1, none⟩ = some (.map (some g.bn)) ∧ w'.cell? ⟨w1.heap.size, 0, none⟩ = some (.int .i64 a) ∧ w'.cell? ⟨w1.heap.size, 1, none⟩ = some (.int .i64 b) ∧ w'.cell? ⟨w1.heap.size, 2, none⟩ = some (.int .i64 k)) (by kernel_rfl) (by kernel_rfl) ?_ (fun K hK => ?_)
  · exact ⟨F0.cell c1 id, by go_simp, by go_simp, by go_simp⟩
  repeat (first | ((first | with_reducible refine lexL_read ?_ | ((with_reducible refine lexL_readG ?_ ?_); (focus rfl))); apply Exists.intro; refine ⟨fun w' hS => ?_, ?_⟩; (focus (obtain ⟨s1, s2, s3, s4⟩ := hS; go_simp; (try with_reducible rfl); done)); try simp only [Act.put, List.setIfInBounds_toArray, List.set_cons_zero, List.set_cons_succ]) | ((first | ((with_reducible refine lexL_skip (c := false) ?_ ?_ ?_); (focus rfl); (focus rfl)) | ((with_reducible refine lexL_skip (c := true) ?_ ?_ ?_); (focus rfl); (focus rfl)) | ((with_reducible refine lexL_skipU ?_ ?_); (focus rfl))); try simp only [Act.put, List.setIfInBounds_toArray, List.set_cons_zero, List.set_cons_succ]))
  (first | with_reducible refine lexL_eff (fun K' hK' => ?_) | ((with_reducible refine lexL_effG ?_ (fun K' hK' => ?_)); (focus rfl)))
  go_simp
  refine (clone_any _ v bs (hv.keep (f1.trans0 F0)) hl).mono ?_
  rintro e w2 ⟨mv, rfl, hmv, f2⟩
  obtain ⟨ma, mc, rfl⟩ := row_form hmv
  have F2 : Fr No w1 w2 := F0.trans0 f2
  have d0 : w2.cell? ⟨w1.heap.size, 0, none⟩ = some (.int .i64 a) := f2.cell (by go_simp) id
  have d1 : w2.cell? ⟨w1.heap.size, 1, none⟩ = some (.int .i64 b) := f2.cell (by go_simp) id
  have d2 : w2.cell? ⟨w1.heap.size, 2, none⟩ = some (.int .i64 k) := f2.cell (by go_simp) id
  have c2 := F2.cell c1 id
  have hsz2 : w1.heap.size < w2.heap.size := by have := f2.size; simp at this; omega
  refine hK'.out _ _ ?_ (fun hS => ?_)
  · exact ⟨c2, d0, d1, d2⟩
  try simp only [Act.put, List.setIfInBounds_toArray, List.set_cons_zero, List.set_cons_succ]
  repeat (first | ((first | with_reducible refine lexL_read ?_ | ((with_reducible refine lexL_readG ?_ ?_); (focus rfl))); apply Exists.intro; refine ⟨fun w' hS => ?_, ?_⟩; (focus (obtain ⟨s1, s2, s3, s4⟩ := hS; go_simp; (try with_reducible rfl); done)); try simp only [Act.put, List.setIfInBounds_toArray, List.set_cons_zero, List.set_cons_succ]) | ((first | ((with_reducible refine lexL_skip (c := false) ?_ ?_ ?_); (focus rfl); (focus rfl)) | ((with_reducible refine lexL_skip (c := true) ?_ ?_ ?_); (focus rfl); (focus rfl)) | ((with_reducible refine lexL_skipU ?_ ?_); (focus rfl))); try simp only [Act.put, List.setIfInBounds_toArray, List.set_cons_zero, List.set_cons_succ]))
  (first | with_reducible refine lexL_eff (fun K' hK' => ?_) | ((with_reducible refine lexL_effG ?_ (fun K' hK' => ?_)); (focus rfl)))
  go_simp
  refine hK'.out _ _ ?_ (fun hS => ?_)
  · exact ⟨((Fr.refl No _).alloc _).cell c2 id, ((Fr.refl No _).alloc _).cell d0 id, ((Fr.refl No _).alloc _).cell d1 id, ((Fr.refl No _).alloc _).cell d2 id⟩
  try simp only [Act.put, List.setIfInBounds_toArray, List.set_cons_zero, List.set_cons_succ]
  have F3 : Fr No w2 (w2.alloc (.cells #[Value.slice ma bs.length mc] 28)) := by (repeat (first | with_reducible exact Fr.refl _ _ | with_reducible assumption | with_reducible refine Fr.drew ?_ | with_reducible refine Fr.drewN ?_ _ | with_reducible refine Fr.alloc ?_ _ | with_reducible refine Fr.setCell ?_ _ (.inl (by simp <;> omega)) _))
  obtain ⟨w3, st, hent, hE, hT⟩ := entry_ex HS.out (m1.keep (F2.trans0 F3) id) hk hroom
  have T3 := hT.fr
  have tn : ∀ i, i ≠ g.bn → ¬ (i = g.bn) := fun _ h => h
  have hsz3 : w3.heap.size = w2.heap.size + 1 := by rw [hT.size]; simp
  unfold wayV at hent
  simp only [] at hent
  have nb1 : ¬ (w1.heap.size = g.bn) := by omega
  have n2 := h1.n2
  (first | with_reducible refine lexL_eff (fun K' hK' => ?_) | ((with_reducible refine lexL_effG ?_ (fun K' hK' => ?_)); (focus rfl)))
  go_simp
  refine hK'.out _ _ ?_ (fun hS => ?_)
  · exact ⟨T3.cell (F3.cell c2 id) n2, T3.cell (F3.cell d0 id) nb1, T3.cell (F3.cell d1 id) nb1, T3.cell (F3.cell d2 id) nb1⟩
  try simp only [Act.put, List.setIfInBounds_toArray, List.set_cons_zero, List.set_cons_succ]
  repeat (first | ((first | with_reducible refine lexL_read ?_ | ((with_reducible refine lexL_readG ?_ ?_); (focus rfl))); apply Exists.intro; refine ⟨fun w' hS => ?_, ?_⟩; (focus (obtain ⟨s1, s2, s3, s4⟩ := hS; go_simp; (try with_reducible rfl); done)); try simp only [Act.put, List.setIfInBounds_toArray, List.set_cons_zero, List.set_cons_succ]) | ((first | ((with_reducible refine lexL_skip (c := false) ?_ ?_ ?_); (focus rfl); (focus rfl)) | ((with_reducible refine lexL_skip (c := true) ?_ ?_ ?_); (focus rfl); (focus rfl)) | ((with_reducible refine lexL_skipU ?_ ?_); (focus rfl))); try simp only [Act.put, List.setIfInBounds_toArray, List.set_cons_zero, List.set_cons_succ]))
  have hrow := (HS.out.row h1).1
  have hne0 : ∀ i, (Value.slice va ms0.length vc).ownBlock = some i → i ≠ g.bl ∧ i ≠ g.bn ∧ i < w1.heap.size := fun i hi => by
    rcases HS.out with e | ⟨_, _, e, _, _⟩
    · have hx := h1.nl ((a, b, k), ⟨.slice va ms0.length vc, ms0⟩) (by rw [e]; simp) i hi
      exact ⟨hx.1, hx.2.2, (hrow.lt i hi).2⟩
    · rw [e] at hi; cases hi
  have hrow3 : w3.ownsRow 0 28 1 (.slice va ms0.length vc) ms0.length (ms0.map (·.1)) := ownsRow_keep (ownsRow_keep hrow (F2.trans0 F3) (fun _ _ => id)) T3 (fun i hi e => (hne0 i hi).2.1 e)
  have hx3 : SliceIs w3 (.slice (some ⟨w2.heap.size, 0, none⟩) 1 1) 1 [(.slice ma bs.length mc)] :=
    .inr ⟨w2.heap.size, 0, 1, rfl, Nat.le_refl _, by unfold maxLen; omega, fun j u hj => by
      rcases j with _ | j
      · simp at hj; subst hj
        exact T3.cell (a := ⟨w2.heap.size, 0, none⟩) (by go_simp) (fun e => by have e' : w2.heap.size = g.bn := e; omega)
      · simp at hj, by omega⟩
  have hmvc : (Value.slice ma bs.length mc).oneCell' = true := rfl
  have hfull' : ms0.length < 64 := by have := HF.out; simpa using this
  obtain ⟨v', w4, happ, hown4, hg4, -, hfr4⟩ := append_own (P := Try.prog) w3 0 35 35 28 1 24 (.slice none 0 0) undRows infoBytes rfl (by decide) _ _ _ hrow3 _ 1 [(.slice ma bs.length mc)] hx3.arg rfl (by intro u hu; simp at hu; subst hu; exact hmvc) (by omega) (by unfold maxLen; omega) (Nat.zero_le _) (by simp)
  have F4 : Fr (fun i => i = g.bn ∨ (Value.slice va ms0.length vc).ownBlock = some i) w3 w4 := Fr.of_grown hg4 (fun i e => .inr (.inr e))
  have nw1 : ¬ (w1.heap.size = g.bn ∨ (Value.slice va ms0.length vc).ownBlock = some w1.heap.size) := by
    rintro (e | e)
    · exact nb1 e
    · have := (hne0 _ e).2.2; omega
  have nbl : ¬ (g.bl = g.bn ∨ (Value.slice va ms0.length vc).ownBlock = some g.bl) := by
    rintro (e | e)
    · exact n2 e
    · exact (hne0 _ e).1 rfl
  have nbn : (Value.slice va ms0.length vc).ownBlock ≠ some g.bn := fun e => (hne0 _ e).2.1 rfl
  have hE4 : Entry Try.prog 64 w4 g.bn (lnV L1) (wayV (a, b, k)) (lnV L2) st := hE.keep (W := fun i => (Value.slice va ms0.length vc).ownBlock = some i) (Fr.of_grown hg4 (fun i e => .inr e)) nbn
  obtain ⟨w5, hst, hM5, hT5⟩ := hE4.store 60 v'
  have T5 := hT5.fr
  have e3 := T3.cell (F3.cell c2 id) n2
  have g3 := F4.cell e3 nbl
  have p0 := F4.cell (T3.cell (F3.cell d0 id) nb1) nw1
  have p1 := F4.cell (T3.cell (F3.cell d1 id) nb1) nw1
  have p2 := F4.cell (T3.cell (F3.cell d2 id) nb1) nw1
  have FA : Fr No w (w2.alloc (.cells #[Value.slice ma bs.length mc] 28)) := (f1.trans0 F2).trans0 F3
  have FB : Fr (fun i => i = g.bn ∨ (Value.slice va ms0.length vc).ownBlock = some i) (w2.alloc (.cells #[Value.slice ma bs.length mc] 28)) w5 :=
    ((T3.mono (fun i e => .inl e)).trans F4 (fun _ _ e => e)).trans T5 (fun _ _ e => .inl e)
  have FIN := H.out.put HS.out hk FA FB (v' := v') (ms' := ms0 ++ [((.slice ma bs.length mc), bs)]) (by simpa [LkG.put, lnV] using hM5)
    (by
      have := ownsRow_keep hown4 T5 (fun i hi e => by
        rcases hfr4 i hi with e' | e'
        · exact (hne0 i e').2.1 e
        · omega)
      simpa using this)
    (fun j hj => (hfr4 j hj).imp id (fun e => by rw [hsz3] at e; simpa using e))
    (fun m hm => by
      rcases List.mem_append.1 hm with hm | hm
      · exact .inl hm
      · simp only [List.mem_singleton] at hm
        subst hm
        refine .inr ⟨hmv.slice.keep F3 (fun _ _ => id), fun j hj => ?_⟩
        have := (hmv.lt j hj).1
        have := (f1.trans0 F0).size
        omega)
    (by simp; omega)
  have FIN2 : PushOk w g (a, b, k) bs (.returned (.int .i64 0)) w5 := by
    refine ⟨rfl, _, FIN.1, FIN.2, (FA.of0).trans FB (fun i _ e => ?_), rfl, ?_, fun k' => ?_⟩
    · rcases e with e | e
      · exact .inr (.inr (.inl e))
      · rcases HS.out with e1 | ⟨_, _, e1, _, _⟩
        · exact .inr (.inr (.inr ⟨((a, b, k), ⟨.slice va ms0.length vc, ms0⟩), by rw [e1]; simp, e⟩))
        · rw [e1] at e; cases e
    · rcases HS.out with e1 | ⟨e1, rfl, _, _, _⟩
      · rw [e1]; simp [LkG.put]
      · rw [e1]; simp [LkG.put]
    · have e1 := HS.out.lane' h1.nodup v' (ms0 ++ [((.slice ma bs.length mc), bs)]) k'
      unfold LkG.lane LkG.put
      simp only []
      rw [e1, show laneOf g.ln (a, b, k) = ms0.map (·.2) from HS.out.lane h1.nodup]
      simp [LkG.lane]
  have HFIN := Lib.hid FIN2
  clear FIN FIN2 hrow hrow3 hx3 hown4 hg4 hfr4 hE hE4 hM5 hmv FA FB
  (first | with_reducible refine lexL_eff (fun K' hK' => ?_) | ((with_reducible refine lexL_effG ?_ (fun K' hK' => ?_)); (focus rfl)))
  refine wp_append_run rfl rfl rfl happ ?_
  refine hK'.out _ _ ?_ (fun hS => ?_)
  · exact ⟨g3, p0, p1, p2⟩
  try simp only [Act.put, List.setIfInBounds_toArray, List.set_cons_zero, List.set_cons_succ]
  repeat (first | ((first | with_reducible refine lexL_read ?_ | ((with_reducible refine lexL_readG ?_ ?_); (focus rfl))); apply Exists.intro; refine ⟨fun w' hS => ?_, ?_⟩; (focus (obtain ⟨s1, s2, s3, s4⟩ := hS; go_simp; (try with_reducible rfl); done)); try simp only [Act.put, List.setIfInBounds_toArray, List.set_cons_zero, List.set_cons_succ]) | ((first | ((with_reducible refine lexL_skip (c := false) ?_ ?_ ?_); (focus rfl); (focus rfl)) | ((with_reducible refine lexL_skip (c := true) ?_ ?_ ?_); (focus rfl); (focus rfl)) | ((with_reducible refine lexL_skipU ?_ ?_); (focus rfl))); try simp only [Act.put, List.setIfInBounds_toArray, List.set_cons_zero, List.set_cons_succ]))
  (first | with_reducible refine lexL_eff (fun K' hK' => ?_) | ((with_reducible refine lexL_effG ?_ (fun K' hK' => ?_)); (focus rfl)))
  go_simp
  refine hK'.out _ _ ?_ (fun hS => ?_)
  · exact ⟨T5.cell g3 n2, T5.cell p0 nb1, T5.cell p1 nb1, T5.cell p2 nb1⟩
  refine lexL_nil (hK.out _ _ ?_)
  go_wp2
  go_ret
  exact HFIN.out

open Classical in
/-- What is said of a lane that may not be used. -/
noncomputable def errOf (g : LkG) (k : Int × Int × Int) : Int := if vld k.1 k.2.1 ∧ (k.2.2 = 0 ∨ k.2.2 = 1) then (if (lo k.1 k.2.1, hi k.1 k.2.1) ∈ g.op then 0 else 9) else 2

theorem errOf_ok {g : LkG} {k : Int × Int × Int} (h : okWay g.op k) : errOf g k = 0 := by unfold errOf; rw [if_pos ⟨h.1, h.2.1⟩, if_pos h.2.2]
theorem errOf_no {g : LkG} {k : Int × Int × Int} (h : ¬ okWay g.op k) : errOf g k = 9 ∨ errOf g k = 2 := by
  unfold errOf
  split
  · rename_i h1
    rw [if_neg (fun h2 => h ⟨h1.1, h1.2, h2⟩)]
    exact .inl rfl
  · exact .inr rfl

theorem find_err (w : World) (g : LkG) (h : LinksAt w g) (a b k : Int) (hk : ¬ okWay g.op (a, b, k)) :
    Calls Try.prog 31 #[.pointer (some ⟨g.bl, 0, none⟩), .int .i64 a, .int .i64 b, .int .i64 k] w fun e w' => e = .returned (.tuple #[wayV (a, b, k), .int .i64 (errOf g (a, b, k))]) ∧ Fr No w w' := by
  by_cases h1 : vld a b
  · by_cases h2 : k = 0 ∨ k = 1
    · have h3 : (lo a b, hi a b) ∉ g.op := fun h3 => hk ⟨h1, h2, h3⟩
      rw [show errOf g (a, b, k) = 9 by unfold errOf; rw [if_pos ⟨h1, h2⟩, if_neg h3]]
      exact find_no1 w g h a b k h1 h2 h3
    · rw [show errOf g (a, b, k) = 2 by unfold errOf; rw [if_neg (fun e => h2 e.2)]]
      exact find_no3 w g.bl a b k h1 (by omega)
  · rw [show errOf g (a, b, k) = 2 by unfold errOf; rw [if_neg (fun e => h1 e.1)]]
    exact find_no2 w g.bl a b k h1

set_option maxHeartbeats 2000000 in
theorem push_err (w : World) (g : LkG) (h : LinksAt w g) (a b k : Int) (hk : ¬ okWay g.op (a, b, k)) (v : Value) :
    Calls Try.prog 12 #[.pointer (some ⟨g.bl, 0, none⟩), .int .i64 a, .int .i64 b, .int .i64 k, v] w fun e w' => e = .returned (.int .i64 (errOf g (a, b, k))) ∧ Fr No w w' := by
  have he := errOf_no hk
  have hc := find_err w g h a b k hk
  generalize errOf g (a, b, k) = er at *
  have hn : (er != 0) = true := by rcases he with rfl | rfl <;> rfl
  clear he
  unfold wayV at hc
  have HC := Lib.hid hc
  clear hc
  go_enter Try.func12, Try.ntmps12
  go_wp2_with fail
  refine HC.out.mono ?_
  rintro e w1 ⟨rfl, f1⟩
  go_wp2
  go_ret
  exact ⟨rfl, by (repeat (first | with_reducible exact Fr.refl _ _ | with_reducible assumption | with_reducible refine Fr.drew ?_ | with_reducible refine Fr.drewN ?_ _ | with_reducible refine Fr.alloc ?_ _ | with_reducible refine Fr.setCell ?_ _ (.inl (by simp <;> omega)) _))⟩

set_option maxHeartbeats 2000000 in
theorem push_full (w : World) (g : LkG) (h : LinksAt w g) (a b k : Int) (hk : okWay g.op (a, b, k)) (hfull : ¬ (g.lane (a, b, k)).length < 64) (v : Value) :
    Calls Try.prog 12 #[.pointer (some ⟨g.bl, 0, none⟩), .int .i64 a, .int .i64 b, .int .i64 k, v] w fun e w' => e = .returned (.int .i64 18) ∧ Fr No w w' := by
  obtain ⟨L1, L2, v0, ms0, hs⟩ := slot_ex g (a, b, k)
  have hlane := hs.lane h.nodup
  rw [hlane] at hfull
  obtain ⟨r, hr1, hr2⟩ := hs.finds
  have hlk : ∀ w', MapAt Try.prog 64 w' g.bn (lnV g.ln) → (Instr.lookup 60 (.map (some g.bn)) (.agg #[.int .i64 a, .int .i64 b, .int .i64 k]) false).run Try.prog w' = .ok v0 w' :=
    fun w' hm => by rw [← hr2]; exact hm.lookup keyedWay undWayMap zeroRows (keyWayOk hk) false hr1
  obtain ⟨va, vc, hva⟩ := row_form (hs.row h).1
  subst hva
  go_enter Try.func12, Try.ntmps12
  go_wp2_with fail
  refine (find_ok _ g h _ _ _ hk.1 hk.2.1 hk.2.2).mono ?_
  rintro e w1 ⟨rfl, f1⟩
  have h1 := h.keep0 f1
  have c1 := h1.cell1
  have m1 := h1.hn
  have hne : g.bn < w1.heap.size := m1.lt
  have hnl : g.bl < w1.heap.size := h1.wlt _ (.inl rfl)
  unfold wayV
  simp only []
  have hfl : decide ((64 : Int) ≤ (ms0.length : Int)) = true := by simp at hfull ⊢; omega
  clear h hr1 hr2 hlane hs hfull
  go_wp2_with fail
  refine wp_region_lexL [false, false, false, false, false, false, false, false] (fun w' => w'.cell? ⟨g.bl, 1, none⟩ = some (.map (some g.bn)) ∧ w'.cell? ⟨w1.heap.size, 0, none⟩ = some (.int .i64 a) ∧ w'.cell? ⟨w1.heap.size, 1, none⟩ = some (.int .i64 b) ∧ w'.cell? ⟨w1.heap.size, 2, none⟩ = some (.int .i64 k) ∧ MapAt Try.prog 64 w' g.bn (lnV g.ln)) (by kernel_rfl) (by kernel_rfl) ?_ (fun K hK => ?_)
  · exact ⟨((Fr.refl No _).alloc _).drew.cell c1 id, by go_simp, by go_simp, by go_simp, m1.keep (((Fr.refl No _).alloc _).drew) id⟩
  repeat (first | ((first | with_reducible refine lexL_read ?_ | ((with_reducible refine lexL_readG ?_ ?_); (focus rfl))); apply Exists.intro; refine ⟨fun w' hS => ?_, ?_⟩; (focus (obtain ⟨s1, s2, s3, s4, s5⟩ := hS; go_simp; (try with_reducible rfl); done)); try simp only [Act.put, List.setIfInBounds_toArray, List.set_cons_zero, List.set_cons_succ]) | ((first | ((with_reducible refine lexL_skip (c := false) ?_ ?_ ?_); (focus rfl); (focus rfl)) | ((with_reducible refine lexL_skip (c := true) ?_ ?_ ?_); (focus rfl); (focus rfl)) | ((with_reducible refine lexL_skipU ?_ ?_); (focus rfl))); try simp only [Act.put, List.setIfInBounds_toArray, List.set_cons_zero, List.set_cons_succ]))
  refine lexL_nil (hK.out _ _ ?_)
  go_wp2
  go_ret
  exact ⟨rfl, by (repeat (first | with_reducible exact Fr.refl _ _ | with_reducible assumption | with_reducible refine Fr.drew ?_ | with_reducible refine Fr.drewN ?_ _ | with_reducible refine Fr.alloc ?_ _ | with_reducible refine Fr.setCell ?_ _ (.inl (by simp <;> omega)) _))⟩
end Go.Proofs.Ytohcjfnekgnlcaa
