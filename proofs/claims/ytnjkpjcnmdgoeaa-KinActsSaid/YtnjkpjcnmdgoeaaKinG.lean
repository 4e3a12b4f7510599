/- kin: sorted's order, and the sort. -/
import Derived.Test.YtnjkpjcnmdgoeaaKinE
import Derived.Test.YtnjkpjcnmdgoeaaKinSh
import Derived.Test.YtnjkpjcnmdgoeaaSortK
import Derived.Test.YtnjkpjcnmdgoeaaBytesC
import Derived.Shelf.SlSortCmp.NoneTotal
namespace Go.Proofs.Ytnjkpjcnmdgoeaa
open Go Go.RowKit Go.Maps Go.MapKept Go.Sort

def seqL (L : List RecD) (x : HashD) : Int := ((L.find? fun r => decide (r.id = x)).map fun r => (r.seq : Int)).getD 0
theorem seqL_of {L : List RecD} (hn : (L.map (·.id)).Nodup) {r : RecD} (hr : r ∈ L) : seqL L r.id = r.seq := by
  unfold seqL
  induction L with
  | nil => cases hr
  | cons y t ih =>
    obtain ⟨n1, n2⟩ := List.nodup_cons.1 (by simpa using hn : (y.id :: t.map (·.id)).Nodup)
    rcases List.mem_cons.1 hr with rfl | hr
    · simp
    · have : y.id ≠ r.id := fun e => n1 (by rw [e]; exact List.mem_map.2 ⟨r, hr, rfl⟩)
      rw [List.find?_cons_of_neg (by simpa using this)]
      exact ih n2 hr
/-- The ids' order in the list is that of their numbers. -/
theorem seqL_pairs {L : List RecD} (hn : (L.map (·.id)).Nodup) (hs : L.Pairwise fun a b => a.seq < b.seq) : (L.map (·.id)).Pairwise fun a b => seqL L a < seqL L b := by
  rw [List.pairwise_map]
  refine (hs.imp_of_mem fun {a b} ha hb h => ?_)
  rw [seqL_of hn ha, seqL_of hn hb]
  omega
def idE {L : List RecD} (x : { h : HashD // h ∈ L.map (·.id) }) : List Value := hashC x.1
def cmpK {L : List RecD} (x y : { h : HashD // h ∈ L.map (·.id) }) : Int := seqL L x.1 - seqL L y.1
theorem lt_cmpK {L : List RecD} (x y : { h : HashD // h ∈ L.map (·.id) }) : ltOf cmpK x y = decide (seqL L x.1 < seqL L y.1) := by
  unfold ltOf cmpK
  by_cases h : seqL L x.1 < seqL L y.1
  · simp [h]; omega
  · simp [h]; omega
theorem swoK {L : List RecD} : SWO (ltOf (cmpK (L := L))) where
  irrefl x := by rw [lt_cmpK]; simp
  trans x y z h1 h2 := by rw [lt_cmpK] at *; simp only [decide_eq_true_eq] at *; omega
  ntrans x y z h1 h2 := by rw [lt_cmpK] at *; simp only [decide_eq_false_iff_not] at *; omega
section
variable {w0 w : World} {p m sq : Nat} {L : List RecD}
set_option maxRecDepth 20000 in
set_option maxHeartbeats 4000000 in
theorem order_K (h : GR w0 w p m sq L) (hsq : sq ≤ 1000) {W : World} {bx : Nat} (cb : W.cell? ⟨bx, 0, none⟩ = some (.pointer (some ⟨p, 0, none⟩))) (cp : W.cell? ⟨p, 0, none⟩ = some (.map (some m))) (hk : ∀ M, GMap w m M → GMap W m M) (hn : ∀ r ∈ L, W.cell? ⟨r.b, 0, none⟩ = some (.int .i64 (r.seq : Int))) (x y : { h : HashD // h ∈ L.map (·.id) }) :
    Calls Try.prog 37 #[.agg (idE x).toArray, .agg (idE y).toArray, .pointer (some ⟨bx, 0, none⟩)] W fun e w' => e = .returned (.int .i64 (cmpK x y)) ∧ GrewBy W w' := by
  obtain ⟨dK, uK, rK⟩ := descHash
  obtain ⟨x, hx⟩ := x
  obtain ⟨y, hy⟩ := y
  unfold idE cmpK
  dsimp only
  obtain ⟨r1, hr1, rfl⟩ := List.mem_map.1 hx
  obtain ⟨r2, hr2, rfl⟩ := List.mem_map.1 hy
  rw [seqL_of h.idn hr1, seqL_of h.idn hr2]
  have O1 := Lib.hid (h.ok r1 hr1).1
  have O2 := Lib.hid (h.ok r2 hr2).1
  have L1 := Lib.hid (hashC_len O1.out)
  have L2 := Lib.hid (hashC_len O2.out)
  have K1 := Lib.hid ((h.run_look O1.out false rfl).1 r1 hr1 rfl)
  have K2 := Lib.hid ((h.run_look O2.out false rfl).1 r2 hr2 rfl)
  unfold nodeV at K1 K2
  unfold hashV at K1 K2
  have n1 := hn r1 hr1
  have n2 := hn r2 hr2
  have b1 : r1.seq ≤ 1000 := Nat.le_trans (h.top r1 hr1) hsq
  have b2 : r2.seq ≤ 1000 := Nat.le_trans (h.top r2 hr2) hsq
  have f1 : Fr No W ((W.alloc (.cells (hashC r1.id).toArray 30)).alloc (.cells (hashC r2.id).toArray 30)) := ((Fr.refl No W).alloc _).alloc _
  have GW := Lib.hid ((((GrewBy.refl W).alloc (.cells (hashC r1.id).toArray 30)).alloc (.cells (hashC r2.id).toArray 30)).drew)
  have RA := Lib.hid (range_keep (range_new W (hashC r1.id) 30) ((Fr.refl No _).alloc (.cells (hashC r2.id).toArray 30)) id)
  have RB := Lib.hid (show ((W.alloc (.cells (hashC r1.id).toArray 30)).alloc (.cells (hashC r2.id).toArray 30)).rangeAt (W.heap.size + 1) 0 (hashC r2.id) by
    have := range_new (W.alloc (.cells (hashC r1.id).toArray 30)) (hashC r2.id) 30
    simpa using this)
  have KP := Lib.hid (fun (w' : World) (f : Fr No W w') => (⟨f.cell cb id, f.cell cp id, fun M hM => (hk M hM).keep f id, f.cell n1 id, f.cell n2 id⟩ : w'.cell? ⟨bx, 0, none⟩ = some (.pointer (some ⟨p, 0, none⟩)) ∧ w'.cell? ⟨p, 0, none⟩ = some (.map (some m)) ∧ (∀ M, GMap w m M → GMap w' m M) ∧ w'.cell? ⟨r1.b, 0, none⟩ = some (.int .i64 (r1.seq : Int)) ∧ w'.cell? ⟨r2.b, 0, none⟩ = some (.int .i64 (r2.seq : Int))))
  have F1 := Lib.hid f1
  clear h hx hy hr1 hr2 hn hk cb cp n1 n2 f1 hsq
  have hw : IntKind.i64.wrap ((r1.seq : Int) - (r2.seq : Int)) = (r1.seq : Int) - (r2.seq : Int) := by
    simp [IntKind.wrap, IntKind.bits, IntKind.signed]
    omega
  go_enter Try.func37, Try.ntmps37
  go_wp2_with fail
  generalize hq : W.heap.size = q at *
  generalize (W.alloc (.cells (hashC r1.id).toArray 30)).alloc (.cells (hashC r2.id).toArray 30) = w1 at *
  refine wp_region_lexL [false, false, false, false, false, false, false, false, false, false, false, false, false, false, false, false, false, false, false, false] (fun w' => (w'.cell? ⟨bx, 0, none⟩ = some (.pointer (some ⟨p, 0, none⟩)) ∧ w'.cell? ⟨p, 0, none⟩ = some (.map (some m)) ∧ (∀ M, GMap w m M → GMap w' m M) ∧ w'.cell? ⟨r1.b, 0, none⟩ = some (.int .i64 (r1.seq : Int)) ∧ w'.cell? ⟨r2.b, 0, none⟩ = some (.int .i64 (r2.seq : Int))) ∧ w'.rangeAt q 0 (hashC r1.id) ∧ w'.rangeAt (q + 1) 0 (hashC r2.id)) (by kernel_rfl) (by kernel_rfl) ?_ (fun K hK => ?_)
  · exact ⟨KP.out _ F1.out.drew, range_keep RA.out (Fr.refl No _).drew id, range_keep RB.out (Fr.refl No _).drew id⟩
  repeat (first | ((first | with_reducible refine lexL_read ?_ | ((with_reducible refine lexL_readG ?_ ?_); (focus rfl))); apply Exists.intro; refine ⟨?_, ?_⟩; (focus (first | exact lex_load (ty := 30) rfl (fun w h => h.2.1) uK rK (by rw [L1.out]; exact infoHash) | exact lex_load (ty := 30) rfl (fun w h => h.2.2) uK rK (by rw [L2.out]; exact infoHash) | exact fun w' h => exec_lookup (t := 53) rfl rfl rfl (K1.out w' h.1.2.2.1) | exact fun w' h => exec_lookup (t := 53) rfl rfl rfl (K2.out w' h.1.2.2.1) | (intro w' hS; obtain ⟨⟨s1, s2, s3, s4, s5⟩, s6, s7⟩ := hS; go_simp; (try with_reducible rfl); done))); try simp only [Act.put, List.setIfInBounds_toArray, List.set_cons_zero, List.set_cons_succ]) | ((first | ((with_reducible refine lexL_skip (c := false) ?_ ?_ ?_); (focus rfl); (focus rfl)) | ((with_reducible refine lexL_skip (c := true) ?_ ?_ ?_); (focus rfl); (focus rfl)) | ((with_reducible refine lexL_skipU ?_ ?_); (focus rfl))); try simp only [Act.put, List.setIfInBounds_toArray, List.set_cons_zero, List.set_cons_succ]))
  refine lexL_nil (hK.out _ _ ?_)
  go_wp2_with fail
  go_ret
  exact ⟨by try rw [hw]
            rfl, GW.out⟩
theorem isAggHash : ∀ w, (isAgg (Try.laysF_ren.t 24)).run Try.prog w = .ok true w := fun w => by kernel_rfl
theorem sizeHashS : ∀ w, (Go.sizeOf (Try.laysF_ren.t 24)).run Try.prog w = .ok 32 w := fun w => by kernel_rfl
/-- The ids in whatever order, sorted. -/
theorem sort_K (h : GR w0 w p m sq L) (hsq : sq ≤ 1000) {bx B : Nat} (cb : w.cell? ⟨bx, 0, none⟩ = some (.pointer (some ⟨p, 0, none⟩))) {v : Value} {H S : List HashD} (hh : w.ownsRow B 30 32 v H.length (H.flatMap hashC)) (hv : ∀ j, v.ownBlock = some j → j ≠ bx ∧ j ∉ gblks p m L) (hp : S.Perm H) (hs : S.Sublist (L.map (·.id))) (hN : H.length ≤ 100000) :
    Calls Try.prog 36 #[v, .func (.func 37) #[] #[.pointer (some ⟨bx, 0, none⟩)]] w fun e w' => e = .returned (.tuple #[]) ∧ w'.ownsRow B 30 32 v H.length (S.flatMap hashC) ∧ Fr (fun j => v.ownBlock = some j) w w' := by
  by_cases h0 : H = []
  · subst h0
    have hS : S = [] := hp.eq_nil
    subst hS
    obtain ⟨va, vc, rfl⟩ := hh.slice.arg.form
    refine (AnyF.slices_SortFunc_none Try.laysF va vc (.func (.func 37) #[] #[.pointer (some ⟨bx, 0, none⟩)]) w).mono ?_
    rintro e w' ⟨rfl, rfl⟩
    exact ⟨rfl, hh, Fr.refl _ _⟩
  · have hl0 : H.length ≠ 0 := fun e => h0 (List.eq_nil_of_length_eq_zero e)
    obtain ⟨g, cap, rfl⟩ : ∃ g cap, v = .slice (some ⟨g, 0, none⟩) H.length cap := by
      rcases hh.2 with ⟨_, e⟩ | ⟨g, cap, cur, e, _⟩
      · exact absurd e hl0
      · exact ⟨g, cap, e⟩
    obtain ⟨L', hL'⟩ := lift_list (q := fun h => h ∈ L.map (·.id)) H (fun x hx => hs.subset (hp.mem_iff.2 hx))
    subst hL'
    obtain ⟨x0, hx0⟩ : ∃ x, x ∈ L' := by
      cases L' with
      | nil => exact absurd rfl h0
      | cons a t => exact ⟨a, by simp⟩
    haveI : Inhabited { h : HashD // h ∈ L.map (·.id) } := ⟨x0⟩
    have hf : (L'.map Subtype.val).flatMap hashC = L'.flatMap idE := by rw [List.flatMap_map]; rfl
    rw [hf, List.length_map] at hh
    rw [List.length_map] at hN hv ⊢
    have eg : ∀ args w, (callFunc 37 args).run Try.prog w = .ok (.enter 37 args) w := enters_of Try.func37 (by kernel_rfl) rfl
    have hk : ∀ x : { h : HashD // h ∈ L.map (·.id) }, (idE x).length = 32 := fun x => by
      obtain ⟨r, hr, e⟩ := List.mem_map.1 x.2
      unfold idE
      rw [← e]
      exact hashC_len (h.ok r hr).1
    have hg := hv g rfl
    have hcl : CmpLays Try.prog 37 #[.pointer (some ⟨bx, 0, none⟩)] idE 32 cmpK g 0 L'.toArray.size w := fun m' os dk hdk x y => by
      obtain ⟨-, f⟩ := sorted_own idE 32 hk hh (d' := dk) (by rw [hdk, List.size_toArray]) m' os
      have hng : ∀ j ∈ gblks p m L, ¬ j = g := fun j hj e => hg.2 (e ▸ hj)
      refine (order_K h hsq (f.cell cb (fun e => hg.1 e.symm)) (f.cell (blk2 h.obj).1 (hng p (by simp [gblks]))) (fun M hM => hM.keep f (hng m (by simp [gblks]))) (fun r hr => f.cell (blk3 (h.node r hr).blk).1 (hng r.b (by simp only [gblks, List.mem_cons, List.mem_flatMap]; exact .inr (.inr ⟨r, hr, by simp [RecD.blks]⟩)))) x y).mono fun _ _ ⟨he, hq⟩ => ⟨he, hq⟩
    have hcon := AnyQ.slices_SortFunc Try.laysF 32 isAggHash sizeHashS idE hk (fun x => hashC_one) cmpK swoK 37 #[.pointer (some ⟨bx, 0, none⟩)] g 0 cap L'.toArray w eg hcl (holds_own idE 32 hk hh) (hh.lt g rfl).2 (by rw [List.size_toArray]; omega)
    rw [List.size_toArray] at hcon
    refine hcon.mono ?_
    rintro e w' ⟨rfl, d', n, os, hpi, hso, rfl⟩
    have hpw := (seqL_pairs h.idn h.seqs).sublist hs
    have hd : d'.toList.map Subtype.val = S := sorted_perm Subtype.val (r := fun a b => decide (seqL L a < seqL L b)) lt_cmpK (d := L'.toArray) (by rw [List.size_toArray]; exact hpi) (by rw [List.size_toArray]; exact hso) hp
      (hpw.imp (fun {a b} h => by simp; omega))
      (fun a ha b hb h1 h2 => by
        simp only [decide_eq_false_iff_not] at h1 h2
        obtain ⟨r1, hr1, rfl⟩ := List.mem_map.1 (hs.subset ha)
        obtain ⟨r2, hr2, rfl⟩ := List.mem_map.1 (hs.subset hb)
        rw [seqL_of h.idn hr1, seqL_of h.idn hr2] at h1 h2
        obtain ⟨i, hi⟩ := List.mem_iff_getElem?.1 hr1
        obtain ⟨j, hj⟩ := List.mem_iff_getElem?.1 hr2
        have hp2 := List.pairwise_iff_getElem.1 h.seqs
        obtain ⟨hi1, hi2⟩ := List.getElem?_eq_some_iff.1 hi
        obtain ⟨hj1, hj2⟩ := List.getElem?_eq_some_iff.1 hj
        have : i = j := by
          rcases Nat.lt_trichotomy i j with e | e | e
          · have := hp2 i j hi1 hj1 e; rw [hi2, hj2] at this; omega
          · exact e
          · have := hp2 j i hj1 hi1 e; rw [hi2, hj2] at this; omega
        subst this
        rw [hi] at hj
        injection hj with hj
        rw [hj])
    have hsz : d'.size = L'.length := by have := hpi.1; rw [List.size_toArray] at this; exact this
    obtain ⟨ho, fo⟩ := sorted_own idE 32 hk hh hsz n os
    have hf2 : d'.toList.flatMap idE = S.flatMap hashC := by rw [← hd, List.flatMap_map]; rfl
    rw [hf2] at ho
    exact ⟨rfl, ho, fo.mono (fun j hj => by rw [hj]; rfl)⟩
end
end Go.Proofs.Ytnjkpjcnmdgoeaa
