/- link: Take. -/
import Derived.Test.YtohcjfnekgnlcaaLinkG
namespace Go.Proofs.Ytohcjfnekgnlcaa
open Go Go.RowKit Go.Maps Go.MapKept

/-- What Take leaves. -/
def TakeOk (w : World) (g : LkG) (k : Int × Int × Int) (p : Nat) (e : Ending) (w' : World) : Prop :=
  ∃ g' v bs, e = .returned (.tuple #[v, .int .i64 0]) ∧ (g.lane k)[p]? = some bs ∧ SliceIs w' v bs.length (bs.map byteV) ∧ (∀ j, v.ownBlock = some j → g.C j) ∧
    LinksAt w' g' ∧ Moved g g' w.heap.size ∧ Fr g.W w w' ∧ g'.op = g.op ∧ g'.ln.length ≤ g.ln.length ∧ ∀ k', g'.lane k' = if k' = k then (g.lane k).eraseIdx p else g.lane k'

set_option maxHeartbeats 2000000 in
theorem take_ok (w : World) (g : LkG) (h : LinksAt w g) (a b k : Int) (hk : okWay g.op (a, b, k)) (p : Nat) (hp : p < (g.lane (a, b, k)).length) :
    Calls Try.prog 15 #[.pointer (some ⟨g.bl, 0, none⟩), .int .i64 a, .int .i64 b, .int .i64 k, .int .i64 p] w (TakeOk w g (a, b, k) p) := by
  obtain ⟨L1, L2, v0, ms0, hs⟩ := slot_ex g (a, b, k)
  have hlane := hs.lane h.nodup
  rw [hlane, List.length_map] at hp
  obtain ⟨r, hr1, hr2⟩ := hs.finds
  have hlk : ∀ w', MapAt Try.prog 64 w' g.bn (lnV g.ln) → (Instr.lookup 60 (.map (some g.bn)) (.agg #[.int .i64 a, .int .i64 b, .int .i64 k]) false).run Try.prog w' = .ok v0 w' :=
    fun w' hm => by rw [← hr2]; exact hm.lookup keyedWay undWayMap zeroRows (keyWayOk hk) false hr1
  have hln : g.ln = L1 ++ ((a, b, k), ⟨v0, ms0⟩) :: L2 := by
    rcases hs with e | ⟨_, _, _, e, _⟩
    · exact e
    · subst e; simp at hp
  obtain ⟨gk, vc, hva⟩ : ∃ gk vc, v0 = .slice (some ⟨gk, 0, none⟩) ms0.length vc := by
    rcases (hs.row h).1.2 with ⟨_, e⟩ | ⟨gk, vc, _, e, _⟩
    · omega
    · exact ⟨gk, vc, e⟩
  subst hva
  obtain ⟨mv, bs, hmp⟩ : ∃ mv bs, ms0[p]? = some (mv, bs) := ⟨_, _, List.getElem?_eq_getElem hp⟩
  have hmem : (mv, bs) ∈ ms0 := List.mem_of_getElem? hmp
  have hmx : ((a, b, k), (⟨.slice (some ⟨gk, 0, none⟩) ms0.length vc, ms0⟩ : LG)) ∈ g.ln := by rw [hln]; simp
  have hgn := h.nl _ hmx gk rfl
  have hl64 := h.le _ hmx
  simp only [] at hgn hl64
  obtain ⟨ma, mc, hmv⟩ : ∃ ma mc, mv = .slice ma bs.length mc := by
    rcases h.hm _ hmx _ hmem with ⟨e, e2, _⟩ | ⟨_, _, _, e, _⟩
    · have e' : mv = .slice none 0 0 := e
      have e2' : bs.length = 0 := e2
      exact ⟨none, 0, by rw [e', e2']⟩
    · exact ⟨_, _, e⟩
  subst hmv
  go_enter Try.func15, Try.ntmps15
  go_wp2_with fail
  refine (find_ok _ g h _ _ _ hk.1 hk.2.1 hk.2.2).mono ?_
  rintro e w1 ⟨rfl, f1⟩
  have h1 := h.keep0 f1
  have c1 := h1.cell1
  have m1 := h1.hn
  have hne : g.bn < w1.heap.size := m1.lt
  have hnl : g.bl < w1.heap.size := h1.wlt _ (.inl rfl)
  unfold wayV
  simp only []
  have hrow := h1.hl _ hmx
  have hgk := (hrow.lt gk rfl).2
  have hcell0 : w1.cell? ⟨gk, p, none⟩ = some (.slice ma bs.length mc) := by
    have := hrow.cells (g := gk) rfl p (.slice ma bs.length mc) (by simp [hmp])
    rwa [addr_add, Nat.zero_add] at this
  have H := Lib.hid h
  have HS := Lib.hid hs
  have HL := Lib.hid hln
  have HP := Lib.hid hmp
  have HLA := Lib.hid hlane
  have HNL := Lib.hid h.nl
  have i1 : (p : Int) < (ms0.length : Int) := by omega
  clear h hr1 hr2 hs hln hmp hlane
  go_wp2_with fail
  refine wp_region_lexL [false, false, false, false, false, false, false] (fun w' => w'.cell? ⟨g.bl, 1, none⟩ = some (.map (some g.bn)) ∧ w'.cell? ⟨w1.heap.size, 0, none⟩ = some (.int .i64 a) ∧ w'.cell? ⟨w1.heap.size, 1, none⟩ = some (.int .i64 b) ∧ w'.cell? ⟨w1.heap.size, 2, none⟩ = some (.int .i64 k) ∧ MapAt Try.prog 64 w' g.bn (lnV g.ln)) (by kernel_rfl) (by kernel_rfl) ?_ (fun K hK => ?_)
  · exact ⟨((Fr.refl No _).alloc _).drew.cell c1 id, by go_simp, by go_simp, by go_simp, m1.keep (((Fr.refl No _).alloc _).drew) id⟩
  repeat (first | ((first | with_reducible refine lexL_read ?_ | ((with_reducible refine lexL_readG ?_ ?_); (focus rfl))); apply Exists.intro; refine ⟨fun w' hS => ?_, ?_⟩; (focus (obtain ⟨s1, s2, s3, s4, s5⟩ := hS; go_simp; (try with_reducible rfl); done)); try simp only [Act.put, List.setIfInBounds_toArray, List.set_cons_zero, List.set_cons_succ]) | ((first | ((with_reducible refine lexL_skip (c := false) ?_ ?_ ?_); (focus rfl); (focus rfl)) | ((with_reducible refine lexL_skip (c := true) ?_ ?_ ?_); (focus rfl); (focus rfl)) | ((with_reducible refine lexL_skipU ?_ ?_); (focus rfl))); try simp only [Act.put, List.setIfInBounds_toArray, List.set_cons_zero, List.set_cons_succ]))
  refine lexL_nil (hK.out _ _ ?_)
  have hcell1 : ((w1.alloc (.cells #[.int .i64 a, .int .i64 b, .int .i64 k] 64)).drew).cell? ⟨gk, p, none⟩ = some (.slice ma bs.length mc) := ((Fr.refl No _).alloc _).drew.cell hcell0 id
  go_wp2
  have F0 : Fr No w1 ((w1.alloc (.cells #[.int .i64 a, .int .i64 b, .int .i64 k] 64)).drew.drew) := by (repeat (first | with_reducible exact Fr.refl _ _ | with_reducible assumption | with_reducible refine Fr.drew ?_ | with_reducible refine Fr.drewN ?_ _ | with_reducible refine Fr.alloc ?_ _ | with_reducible refine Fr.setCell ?_ _ (.inl (by simp <;> omega)) _))
  have hwrap : IntKind.i64.wrap ((p : Int) + 1) = (p : Int) + 1 := IntWalk.i64_in _ (by omega)
  refine wp_region_lexL [false, false, false, false, false, false, false, false, false, true, true] (fun w' => w'.cell? ⟨g.bl, 1, none⟩ = some (.map (some g.bn)) ∧ w'.cell? ⟨w1.heap.size, 0, none⟩ = some (.int .i64 a) ∧ w'.cell? ⟨w1.heap.size, 1, none⟩ = some (.int .i64 b) ∧ w'.cell? ⟨w1.heap.size, 2, none⟩ = some (.int .i64 k)) (by kernel_rfl) (by kernel_rfl) ?_ (fun K hK => ?_)
  · exact ⟨F0.cell c1 id, by go_simp, by go_simp, by go_simp⟩
  repeat (first | ((first | with_reducible refine lexL_read ?_ | ((with_reducible refine lexL_readG ?_ ?_); (focus rfl))); apply Exists.intro; refine ⟨fun w' hS => ?_, ?_⟩; (focus (obtain ⟨s1, s2, s3, s4⟩ := hS; go_simp; (try with_reducible rfl); done)); try simp only [Act.put, List.setIfInBounds_toArray, List.set_cons_zero, List.set_cons_succ]) | ((first | ((with_reducible refine lexL_skip (c := false) ?_ ?_ ?_); (focus rfl); (focus rfl)) | ((with_reducible refine lexL_skip (c := true) ?_ ?_ ?_); (focus rfl); (focus rfl)) | ((with_reducible refine lexL_skipU ?_ ?_); (focus rfl))); try simp only [Act.put, List.setIfInBounds_toArray, List.set_cons_zero, List.set_cons_succ]))
  (first | with_reducible refine lexL_eff (fun K' hK' => ?_) | ((with_reducible refine lexL_effG ?_ (fun K' hK' => ?_)); (focus rfl)))
  go_simp
  have hrow0 := ownsRow_keep hrow F0 (fun _ _ => id)
  have hones : ∀ u ∈ ms0.map (·.1), u.oneCell' = true := fun u hu => by
    obtain ⟨m, hm, rfl⟩ := List.mem_map.1 hu
    rcases h1.hm _ hmx m hm with ⟨e, _⟩ | ⟨_, _, _, e, _⟩ <;> rw [e] <;> rfl
  refine (delete_any _ gk vc ms0.length p _ hrow0 hp hl64 hones).mono ?_
  rintro e w2 ⟨rfl, hrow2, f2⟩
  have ngk1 : ¬ (g.bl = gk) := fun e => hgn.1 e.symm
  have ngk2 : ¬ (w1.heap.size = gk) := by omega
  have ngk3 : ¬ (g.bn = gk) := fun e => hgn.2.2 e.symm
  have c2 := f2.cell (F0.cell c1 id) ngk1
  have d0 : w2.cell? ⟨w1.heap.size, 0, none⟩ = some (.int .i64 a) := f2.cell (by go_simp) ngk2
  have d1 : w2.cell? ⟨w1.heap.size, 1, none⟩ = some (.int .i64 b) := f2.cell (by go_simp) ngk2
  have d2 : w2.cell? ⟨w1.heap.size, 2, none⟩ = some (.int .i64 k) := f2.cell (by go_simp) ngk2
  have m2 := (m1.keep F0 id).keep f2 ngk3
  rw [show (List.map (fun x : (Int × Int × Int) × LG => (wayV x.1, x.2.v)) g.ln) = lnV L1 ++ (wayV (a, b, k), .slice (some ⟨gk, 0, none⟩) ms0.length vc) :: lnV L2 by rw [HL.out]; simp [lnV]] at m2
  obtain ⟨w3, hupd, hM3, hT3⟩ := m2.update_hit keyedWay undWayMap (keyWayOk hk) (.slice (some ⟨gk, 0, none⟩) (ms0.length - 1) vc)
  have T3 := hT3.fr
  unfold wayV at hupd
  simp only [] at hupd
  have nb1 : ¬ (w1.heap.size = g.bn) := by omega
  have n2 := h1.n2
  have FA : Fr No w ((w1.alloc (.cells #[.int .i64 a, .int .i64 b, .int .i64 k] 64)).drew.drew) := f1.trans0 F0
  have FB : Fr (fun i => i = g.bn ∨ (Value.slice (some ⟨gk, 0, none⟩) ms0.length vc).ownBlock = some i) ((w1.alloc (.cells #[.int .i64 a, .int .i64 b, .int .i64 k] 64)).drew.drew) w3 :=
    (f2.mono (fun i e => by rw [e]; exact .inr rfl)).trans T3 (fun _ _ e => .inl e)
  have hlen' : (ms0.eraseIdx p).length = ms0.length - 1 := by rw [List.length_eraseIdx, if_pos hp]
  have FIN := H.out.put HS.out hk FA FB (v' := .slice (some ⟨gk, 0, none⟩) (ms0.length - 1) vc) (ms' := ms0.eraseIdx p) (by simpa [LkG.put, lnV] using hM3)
    (by
      have := ownsRow_keep hrow2 T3 (fun i hi e => by simp [Value.ownBlock] at hi; exact ngk3 (by omega))
      rw [hlen', map_eraseIdx']
      exact this)
    (fun j hj => .inl hj)
    (fun m hm => .inl ((List.eraseIdx_sublist _ _).subset hm))
    (by omega)
  have hmC : ∀ j, (Value.slice ma bs.length mc).ownBlock = some j → g.C j := fun j hj => ⟨_, hmx, _, hmem, hj⟩
  have FIN2 : TakeOk w g (a, b, k) p (.returned (.tuple #[.slice ma bs.length mc, .int .i64 0])) w3 := by
    refine ⟨_, _, bs, rfl, ?_, ?_, hmC, FIN.1, FIN.2, (FA.of0).trans FB (fun i _ e => ?_), rfl, ?_, fun k' => ?_⟩
    · rw [HLA.out, List.getElem?_map, HP.out]; rfl
    · refine ((h1.hm _ hmx _ hmem).keep F0 (fun _ _ => id)).keep FB ?_
      rintro j hj (e | e)
      · exact h1.mc j (hmC j hj) (.inr (.inr (.inl e)))
      · exact h1.mc j (hmC j hj) (.inr (.inr (.inr ⟨_, hmx, e⟩)))
    · rcases e with e | e
      · exact .inr (.inr (.inl e))
      · exact .inr (.inr (.inr ⟨_, hmx, e⟩))
    · rw [HL.out]; simp [LkG.put]
    · have e1 := HS.out.lane' h1.nodup (.slice (some ⟨gk, 0, none⟩) (ms0.length - 1) vc) (ms0.eraseIdx p) k'
      unfold LkG.lane LkG.put
      simp only []
      rw [e1, show laneOf g.ln (a, b, k) = ms0.map (·.2) from HS.out.lane h1.nodup, map_eraseIdx']
      rfl
  have HFIN := Lib.hid FIN2
  clear FIN FIN2 hrow hrow0 hrow2 FA FB m2 hM3 hones
  refine hK'.out _ _ ?_ (fun hS => ?_)
  · exact ⟨c2, d0, d1, d2⟩
  try simp only [Act.put, List.setIfInBounds_toArray, List.set_cons_zero, List.set_cons_succ]
  repeat (first | ((first | with_reducible refine lexL_read ?_ | ((with_reducible refine lexL_readG ?_ ?_); (focus rfl))); apply Exists.intro; refine ⟨fun w' hS => ?_, ?_⟩; (focus (obtain ⟨s1, s2, s3, s4⟩ := hS; go_simp; (try with_reducible rfl); done)); try simp only [Act.put, List.setIfInBounds_toArray, List.set_cons_zero, List.set_cons_succ]) | ((first | ((with_reducible refine lexL_skip (c := false) ?_ ?_ ?_); (focus rfl); (focus rfl)) | ((with_reducible refine lexL_skip (c := true) ?_ ?_ ?_); (focus rfl); (focus rfl)) | ((with_reducible refine lexL_skipU ?_ ?_); (focus rfl))); try simp only [Act.put, List.setIfInBounds_toArray, List.set_cons_zero, List.set_cons_succ]))
  (first | with_reducible refine lexL_eff (fun K' hK' => ?_) | ((with_reducible refine lexL_effG ?_ (fun K' hK' => ?_)); (focus rfl)))
  go_simp
  refine hK'.out _ _ ?_ (fun hS => ?_)
  · exact ⟨T3.cell c2 n2, T3.cell d0 nb1, T3.cell d1 nb1, T3.cell d2 nb1⟩
  refine lexL_nil (hK.out _ _ ?_)
  go_wp2
  go_ret2
  exact HFIN.out

set_option maxHeartbeats 2000000 in
theorem take_err (w : World) (g : LkG) (h : LinksAt w g) (a b k p : Int) (hk : ¬ okWay g.op (a, b, k)) :
    Calls Try.prog 15 #[.pointer (some ⟨g.bl, 0, none⟩), .int .i64 a, .int .i64 b, .int .i64 k, .int .i64 p] w fun e w' => e = .returned (.tuple #[.slice none 0 0, .int .i64 (errOf g (a, b, k))]) ∧ Fr No w w' := by
  have he := errOf_no hk
  have hc := find_err w g h a b k hk
  generalize errOf g (a, b, k) = er at *
  have hn : (er != 0) = true := by rcases he with rfl | rfl <;> rfl
  clear he
  unfold wayV at hc
  have HC := Lib.hid hc
  clear hc
  go_enter Try.func15, Try.ntmps15
  go_wp2_with fail
  refine HC.out.mono ?_
  rintro e w1 ⟨rfl, f1⟩
  go_wp2
  go_ret2
  exact ⟨rfl, by (repeat (first | with_reducible exact Fr.refl _ _ | with_reducible assumption | with_reducible refine Fr.drew ?_ | with_reducible refine Fr.drewN ?_ _ | with_reducible refine Fr.alloc ?_ _ | with_reducible refine Fr.setCell ?_ _ (.inl (by simp <;> omega)) _))⟩

set_option maxHeartbeats 2000000 in
theorem take_none (w : World) (g : LkG) (h : LinksAt w g) (a b k : Int) (hk : okWay g.op (a, b, k)) (p : Int) (hp : p < 0 ∨ ((g.lane (a, b, k)).length : Int) ≤ p) :
    Calls Try.prog 15 #[.pointer (some ⟨g.bl, 0, none⟩), .int .i64 a, .int .i64 b, .int .i64 k, .int .i64 p] w fun e w' => e = .returned (.tuple #[.slice none 0 0, .int .i64 9]) ∧ Fr No w w' := by
  obtain ⟨L1, L2, v0, ms0, hs⟩ := slot_ex g (a, b, k)
  have hlane := hs.lane h.nodup
  rw [hlane, List.length_map] at hp
  obtain ⟨r, hr1, hr2⟩ := hs.finds
  have hlk : ∀ w', MapAt Try.prog 64 w' g.bn (lnV g.ln) → (Instr.lookup 60 (.map (some g.bn)) (.agg #[.int .i64 a, .int .i64 b, .int .i64 k]) false).run Try.prog w' = .ok v0 w' :=
    fun w' hm => by rw [← hr2]; exact hm.lookup keyedWay undWayMap zeroRows (keyWayOk hk) false hr1
  obtain ⟨va, vc, hva⟩ := row_form (hs.row h).1
  subst hva
  go_enter Try.func15, Try.ntmps15
  go_wp2_with fail
  refine (find_ok _ g h _ _ _ hk.1 hk.2.1 hk.2.2).mono ?_
  rintro e w1 ⟨rfl, f1⟩
  have h1 := h.keep0 f1
  have c1 := h1.cell1
  have m1 := h1.hn
  have hne : g.bn < w1.heap.size := m1.lt
  have hnl : g.bl < w1.heap.size := h1.wlt _ (.inl rfl)
  unfold wayV
  simp only []
  clear h hr1 hr2 hlane hs
  by_cases h0 : p < 0
  · go_wp2_with fail
    refine wp_region_lexL [false, false, false, false, false, false, false] (fun w' => w'.cell? ⟨g.bl, 1, none⟩ = some (.map (some g.bn)) ∧ w'.cell? ⟨w1.heap.size, 0, none⟩ = some (.int .i64 a) ∧ w'.cell? ⟨w1.heap.size, 1, none⟩ = some (.int .i64 b) ∧ w'.cell? ⟨w1.heap.size, 2, none⟩ = some (.int .i64 k) ∧ MapAt Try.prog 64 w' g.bn (lnV g.ln)) (by kernel_rfl) (by kernel_rfl) ?_ (fun K hK => ?_)
    · exact ⟨((Fr.refl No _).alloc _).drew.cell c1 id, by go_simp, by go_simp, by go_simp, m1.keep (((Fr.refl No _).alloc _).drew) id⟩
    repeat (first | ((first | with_reducible refine lexL_read ?_ | ((with_reducible refine lexL_readG ?_ ?_); (focus rfl))); apply Exists.intro; refine ⟨fun w' hS => ?_, ?_⟩; (focus (obtain ⟨s1, s2, s3, s4, s5⟩ := hS; go_simp; (try with_reducible rfl); done)); try simp only [Act.put, List.setIfInBounds_toArray, List.set_cons_zero, List.set_cons_succ]) | ((first | ((with_reducible refine lexL_skip (c := false) ?_ ?_ ?_); (focus rfl); (focus rfl)) | ((with_reducible refine lexL_skip (c := true) ?_ ?_ ?_); (focus rfl); (focus rfl)) | ((with_reducible refine lexL_skipU ?_ ?_); (focus rfl))); try simp only [Act.put, List.setIfInBounds_toArray, List.set_cons_zero, List.set_cons_succ]))
    refine lexL_nil (hK.out _ _ ?_)
    go_wp2
    go_ret2
    exact ⟨rfl, by (repeat (first | with_reducible exact Fr.refl _ _ | with_reducible assumption | with_reducible refine Fr.drew ?_ | with_reducible refine Fr.drewN ?_ _ | with_reducible refine Fr.alloc ?_ _ | with_reducible refine Fr.setCell ?_ _ (.inl (by simp <;> omega)) _))⟩
  · have hl : (ms0.length : Int) ≤ p := by omega
    have h0' : ¬ p < 0 := h0
    clear hp
    go_wp2_with fail
    refine wp_region_lexL [false, false, false, false, false, false, false] (fun w' => w'.cell? ⟨g.bl, 1, none⟩ = some (.map (some g.bn)) ∧ w'.cell? ⟨w1.heap.size, 0, none⟩ = some (.int .i64 a) ∧ w'.cell? ⟨w1.heap.size, 1, none⟩ = some (.int .i64 b) ∧ w'.cell? ⟨w1.heap.size, 2, none⟩ = some (.int .i64 k) ∧ MapAt Try.prog 64 w' g.bn (lnV g.ln)) (by kernel_rfl) (by kernel_rfl) ?_ (fun K hK => ?_)
    · exact ⟨((Fr.refl No _).alloc _).drew.cell c1 id, by go_simp, by go_simp, by go_simp, m1.keep (((Fr.refl No _).alloc _).drew) id⟩
    repeat (first | ((first | with_reducible refine lexL_read ?_ | ((with_reducible refine lexL_readG ?_ ?_); (focus rfl))); apply Exists.intro; refine ⟨fun w' hS => ?_, ?_⟩; (focus (obtain ⟨s1, s2, s3, s4, s5⟩ := hS; go_simp; (try with_reducible rfl); done)); try simp only [Act.put, List.setIfInBounds_toArray, List.set_cons_zero, List.set_cons_succ]) | ((first | ((with_reducible refine lexL_skip (c := false) ?_ ?_ ?_); (focus rfl); (focus rfl)) | ((with_reducible refine lexL_skip (c := true) ?_ ?_ ?_); (focus rfl); (focus rfl)) | ((with_reducible refine lexL_skipU ?_ ?_); (focus rfl))); try simp only [Act.put, List.setIfInBounds_toArray, List.set_cons_zero, List.set_cons_succ]))
    refine lexL_nil (hK.out _ _ ?_)
    go_wp2
    go_ret2
    exact ⟨rfl, by (repeat (first | with_reducible exact Fr.refl _ _ | with_reducible assumption | with_reducible refine Fr.drew ?_ | with_reducible refine Fr.drewN ?_ _ | with_reducible refine Fr.alloc ?_ _ | with_reducible refine Fr.setCell ?_ _ (.inl (by simp <;> omega)) _))⟩
end Go.Proofs.Ytohcjfnekgnlcaa
