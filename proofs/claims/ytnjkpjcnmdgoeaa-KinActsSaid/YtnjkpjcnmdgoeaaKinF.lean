/- kin: walk. -/
import Derived.Test.YtnjkpjcnmdgoeaaKinE
import Derived.Test.YtnjkpjcnmdgoeaaKinD
import Derived.Test.YtnjkpjcnmdgoeaaAppN
import Derived.Deep.LoopGhost
namespace Go.Proofs.Ytnjkpjcnmdgoeaa
open Go Go.RowKit Go.Maps Go.MapKept

def intV (c : Int) : Value := .int .i64 c
abbrev InMap (w : World) (b : Nat) (M : List (HashD × Int)) := MapIs Try.prog 30 hashV intV w b M
/-- Whom one is next to. -/
def nextE (up : Bool) (G : List NodeD) (x : HashD) : List HashD := if up then par G x else kid G x
noncomputable def reachS (up : Bool) (G : List NodeD) (l : List HashD) : List HashD := if up then upS G l else downS G l
theorem mem_reach {G : List NodeD} (h : GOk G) {up : Bool} {l : List HashD} {x : HashD} : x ∈ reachS up G l ↔ ∃ a ∈ l, Rch (nextE up G) (· ∈ ids G) a x := by
  cases up with
  | true => exact mem_up
  | false =>
    refine mem_down.trans ⟨fun ⟨a, ha, hr⟩ => ⟨a, ha, (anc_kid h).2 hr⟩, fun ⟨a, ha, hr⟩ => ⟨a, ha, (anc_kid h).1 hr⟩⟩
theorem next_len {G : List NodeD} (h : GOk G) (up : Bool) (x : HashD) : (nextE up G x).length ≤ G.length := by
  cases up
  · exact kid_len x
  · exact par_len h x
/-- What the work list says at a round. -/
structure WlK (w wr : World) (b : Nat) (tv : Value) (M : List (HashD × Int)) (T vis : List HashD) (up : Bool) (G : List NodeD) (l : List HashD) : Prop where
  own : wr.ownsRow w.heap.size 30 32 tv T.length (T.flatMap hashC)
  ok : ∀ x ∈ T, hashOk x
  map : InMap wr b M
  mem : ∀ k c, (k, c) ∈ M ↔ c = 1 ∧ k ∈ vis
  wl : Wl (nextE up G) (· ∈ ids G) l T vis
  cnt : M.length + T.length + wlW (nextE up G) vis (ids G) ≤ l.length + G.length * G.length
  fr : Fr No w wr
  apart : ∀ j, tv.ownBlock = some j → j ≠ b
section
variable {w0 w : World} {p N : Nat} {V : Nat → Prop} {G : List NodeD}
theorem look_in {wr : World} {b : Nat} {M : List (HashD × Int)} {vis : List HashD} (hm : InMap wr b M) (hv : ∀ k c, (k, c) ∈ M ↔ c = 1 ∧ k ∈ vis) {x : HashD} (hx : hashOk x) :
    (Instr.lookup 52 (.map (some b)) (hashV x) false).run Try.prog wr = .ok (.int .i64 (if x ∈ vis then 1 else 0)) wr := by
  by_cases h : x ∈ vis
  · have := hm.look eqHash.keyed undInMap (fun _ _ => hashV_inj) zeroIn (keyOfHash hx) false (r := some 1) (fun v => by
      rw [hv]; exact ⟨fun e => ⟨(Option.some.inj e).symm, h⟩, fun e => by rw [e.1]⟩)
    rw [if_pos h]
    simpa [intV] using this
  · have := hm.look eqHash.keyed undInMap (fun _ _ => hashV_inj) zeroIn (keyOfHash hx) false (r := none) (fun v => by
      rw [hv]; exact ⟨fun e => (by cases e), fun e => absurd e.2 h⟩)
    rw [if_neg h]
    simpa using this
theorem ids_take {T : List HashD} {x : HashD} (h : ∀ y ∈ T ++ [x], hashOk y) : ((T ++ [x]).flatMap hashC).take (T.length * 32) = T.flatMap hashC := by
  have hl := ids_flat_len (l := T) (fun y hy => h y (by simp [hy]))
  rw [List.flatMap_append, List.take_append_of_le_length (by omega), List.take_of_length_le (by omega)]
theorem WlK.own0 {w wr : World} {b g tc : Nat} {M : List (HashD × Int)} {T vis : List HashD} {x : HashD} {up : Bool} {l : List HashD} (h : WlK w wr b (.slice (some ⟨g, 0, none⟩) (T.length + 1) tc) M (T ++ [x]) vis up G l) : wr.ownsRow w.heap.size 30 32 (.slice (some ⟨g, 0, none⟩) (T.length + 1) tc) (T.length + 1) ((T ++ [x]).flatMap hashC) := by
  have ho := h.own
  rwa [show (T ++ [x]).length = T.length + 1 by simp] at ho
theorem WlK.pop {w wr wr' : World} {b g tc : Nat} {M : List (HashD × Int)} {T vis : List HashD} {x : HashD} {up : Bool} {l : List HashD} (h : WlK w wr b (.slice (some ⟨g, 0, none⟩) (T.length + 1) tc) M (T ++ [x]) vis up G l) (f : Fr No wr wr') (hx : ¬ x ∈ ids G ∨ x ∈ vis) : WlK w wr' b (.slice (some ⟨g, 0, none⟩) T.length tc) M T vis up G l := by
  have ho := h.own
  have hlen : (T ++ [x]).length = T.length + 1 := by simp
  rw [hlen] at ho
  have ho2 := own_takeK ho (m := T.length) (by omega)
  rw [ids_take h.ok] at ho2
  have hc := h.cnt
  rw [hlen] at hc
  exact ⟨ownsRow_keep ho2 f (fun _ _ => id), fun y hy => h.ok y (by simp [hy]), h.map.keep f id, h.mem, h.wl.skip hx, by omega, h.fr.trans0 f, fun j hj => h.apart j hj⟩
theorem WlK.next {w wr wr' : World} {b g tc : Nat} {M M' : List (HashD × Int)} {T vis : List HashD} {x : HashD} {up : Bool} {l : List HashD} {tv : Value} {U : Nat → Prop} (h : WlK w wr b (.slice (some ⟨g, 0, none⟩) (T.length + 1) tc) M (T ++ [x]) vis up G l) (nd : (ids G).Nodup) (hx : x ∈ ids G) (hv : x ∉ vis) (hU : Upd M x 1 M') (hl : M'.length ≤ M.length + 1) (hm : InMap wr' b M') (ho : wr'.ownsRow w.heap.size 30 32 tv (T.length + (nextE up G x).length) (T.flatMap hashC ++ (nextE up G x).flatMap hashC)) (hok : ∀ y ∈ nextE up G x, hashOk y) (hn : ∀ j, tv.ownBlock = some j → j = g ∨ wr.heap.size ≤ j) (f : Fr U wr wr') (hW : ∀ j, U j → w.heap.size ≤ j) : WlK w wr' b tv M' (T ++ nextE up G x) (x :: vis) up G l := by
  have hlen : (T ++ [x]).length = T.length + 1 := by simp
  have hc := h.cnt
  rw [hlen] at hc
  have hw := wlW_visit (E := nextE up G) hv nd hx
  refine ⟨by rw [List.length_append, List.flatMap_append]; exact ho, fun y hy => ?_, hm, fun k c => ?_, h.wl.visit hx, by rw [List.length_append]; omega, h.fr.trans f (fun i hi e => by have := hW i e; omega), fun j hj e => ?_⟩
  · rcases List.mem_append.1 hy with hy | hy
    · exact h.ok y (by simp [hy])
    · exact hok y hy
  · rw [hU, h.mem]
    constructor
    · rintro (⟨rfl, rfl⟩ | ⟨_, h2, h3⟩)
      · exact ⟨rfl, by simp⟩
      · exact ⟨h2, by simp [h3]⟩
    · rintro ⟨rfl, h2⟩
      by_cases e : k = x
      · exact .inl ⟨e, rfl⟩
      · exact .inr ⟨e, rfl, (List.mem_cons.1 h2).elim (fun h => absurd h e) id⟩
  · rcases hn j hj with rfl | h1
    · exact h.apart j rfl e
    · have := h.map.lt
      omega
set_option maxRecDepth 20000 in
set_option maxHeartbeats 4000000 in
theorem walk_K (h : GC w0 w p V G N) (hN : N ≤ 1000) {v : Value} {l : List HashD} (hl : IdsIs w v l) (hl2 : l.length ≤ 1000) (up : Bool) :
    Calls Try.prog 31 #[.pointer (some ⟨p, 0, none⟩), v, .bool up] w fun e w' => ∃ b M, e = .returned (.map (some b)) ∧ InMap w' b M ∧ (∀ k c, (k, c) ∈ M ↔ c = 1 ∧ k ∈ reachS up G l) ∧ w.heap.size ≤ b ∧ Fr No w w' := by
  obtain ⟨dK, uK, rK⟩ := descHash
  obtain ⟨m, sq, L, hr, -, hG, hks, -⟩ := h.ex
  have GK := Lib.hid h.gok
  have GL := Lib.hid (Nat.le_trans h.len hN)
  have HI := Lib.hid (show ids G = L.map (·.id) by rw [← hG]; simp [ids, Function.comp])
  have HP := Lib.hid (show ∀ r ∈ L, par G r.id = r.ps from fun r hr' => par_of h.gok (n := ⟨r.id, r.ps⟩) (by rw [← hG]; exact List.mem_map.2 ⟨r, hr', rfl⟩))
  have HK := Lib.hid hks
  have HR := Lib.hid hr
  have HL := Lib.hid hl
  have SQ := Lib.hid (show G.length * G.length ≤ 1000 * 1000 from Nat.mul_le_mul GL.out GL.out)
  obtain ⟨va, vc, rfl⟩ := hl.2.form
  have f1 : Fr No w (w.alloc (.map #[] 0)) := (Fr.refl No w).alloc _
  have HC := Lib.hid (cloneIds_any (w.alloc (.map #[] 0)) (hl.keep f1) (by omega))
  have HM1 := Lib.hid (show InMap (w.alloc (.map #[] 0)) w.heap.size [] from MapIs.made w)
  have F1 := Lib.hid f1
  have m1 := run_makeI
  have c0w := (blk2 hr.obj).1
  clear h hr hG hks hl f1
  go_enter Try.func31, Try.ntmps31
  go_wp2_with (go_at_call 38; refine HC.out.mono ?_; rintro e w2 ⟨tv0, rfl, o2, f2⟩; have O2 := Lib.hid o2; have F2 := Lib.hid (F1.out.trans0 f2); have HM2 := Lib.hid (HM1.out.keep f2 id); clear o2 f2)
  have HB := Lib.hid (Nat.le_refl w.heap.size)
  have ST : WlK w w2 w.heap.size tv0 [] l [] up G l := ⟨⟨O2.out.1, O2.out.2.imp id (fun ⟨g, cp, cur, a1, a2, a3⟩ => ⟨g, cp, cur, a1, Nat.le_trans F1.out.size a2, a3⟩)⟩, HL.out.1, HM2.out, by simp, Wl.init l, by
    have := wlW_le (E := nextE up G) (vis := []) (l := ids G) (k := G.length) (fun x _ => next_len GK.out up x)
    rw [show (ids G).length = G.length by simp [ids]] at this
    simp only [List.length_nil]; omega, F2.out, fun j hj e => by
    have := (O2.out.lt j hj).1
    rw [e] at this
    simp at this
    omega⟩
  have ST' := Lib.hid ST
  clear m1 HC O2 HM1 HM2 ST
  generalize hb0 : w.heap.size = b at *
  go_loopg [8] (l.length + wlW (nextE up G) [] (ids G)) (fun g tv wr => ∃ (T vis : List HashD) (M : List (HashD × Int)), WlK w wr b tv M T vis up G l ∧ g = T.length + wlW (nextE up G) vis (ids G))
  case atStart => exact ⟨l, [], [], ST'.out, rfl⟩
  case round =>
    obtain ⟨T, vis, M, hk, hgk⟩ := hrel
    have WK := Lib.hid hk
    obtain ⟨ta, tc, e⟩ := hk.own.slice.arg.form
    subst e
    clear hk
    rcases List.eq_nil_or_concat T with rfl | ⟨T0, x, rfl⟩
    · have DN := Lib.hid (fun k c => (WK.out.mem k c).trans (and_congr Iff.rfl ((WK.out.wl.done k).trans (mem_reach GK.out).symm)))
      go_wp2_with fail
      go_ret
      exact ⟨b, M, by rfl, WK.out.map, DN.out, by rw [hb0]; exact Nat.le_refl _, WK.out.fr⟩
    · rw [List.concat_eq_append] at *
      have hlen : (T0 ++ [x]).length = T0.length + 1 := by simp
      rw [hlen]
      have hT : T0.length ≤ 1001000 := by have := WK.out.cnt; have := SQ.out; rw [hlen] at *; omega
      have i1 : (0 : Int) < ((T0.length + 1 : Nat) : Int) := by omega
      have hx : (T0 ++ [x])[T0.length]? = some x := by simp
      obtain ⟨g, rfl⟩ : ∃ g, ta = some ⟨g, 0, none⟩ := by
        rcases WK.out.own.2 with ⟨_, h0⟩ | ⟨g, cp, cur, e, _⟩
        · simp at h0
        · injection e with e1; exact ⟨g, e1⟩
      obtain ⟨g', off, cap, hv, hrx, hgl⟩ := (IdsIs.own WK.out.own WK.out.ok).at_ hx
      cases hv
      rw [Nat.zero_add] at hrx
      have R1 := Lib.hid hrx
      have XOK := Lib.hid (WK.out.ok x (by simp))
      have HX := Lib.hid (hashC_len XOK.out)
      have FA := Lib.hid ((Fr.refl No wr).alloc (.cells (hashC x).toArray 30))
      have RN := Lib.hid (range_new wr (hashC x) 30)
      have FD := Lib.hid ((WK.out.fr.trans0 FA.out).drew)
      have FE := Lib.hid (FA.out.drew)
      have KM := Lib.hid (fun (w' : World) (f : Fr No w w') => HR.out.keepM f)
      have WK1 := Lib.hid (show WlK w wr b (.slice (some ⟨g, 0, none⟩) (T0.length + 1) tc) M (T0 ++ [x]) vis up G l by have := WK.out; rwa [hlen] at this)
      have hgk2 : gk = T0.length + 1 + wlW (nextE up G) vis (ids G) := by rw [hgk, hlen]
      have hcap : T0.length + 1 ≤ tc := ArgIs.cap (n := T0.length + 1) (by have := WK1.out.own.slice.arg; rwa [hlen] at this)
      have i2 : (T0.length : Int) ≤ (tc : Int) := by omega
      clear hrx hgl hx hgk
      by_cases hin : x ∈ ids G
      · have hin2 := hin
        rw [HI.out] at hin2
        obtain ⟨r, hr, rfl⟩ := List.mem_map.1 hin2
        have K1 := Lib.hid ((HR.out.run_look XOK.out false rfl).1 r hr rfl)
        have ND := Lib.hid (HR.out.node r hr)
        have RR := Lib.hid hr
        have IN := Lib.hid hin
        clear hin hin2 hr
        unfold nodeV at K1
        unfold hashV at K1
        generalize hxr : r.id = x at *
        by_cases hv : x ∈ vis
        · have LI := Lib.hid (look_in (WK1.out.map.keep FE.out id) WK1.out.mem XOK.out)
          rw [if_pos hv] at LI
          unfold hashV at LI
          have WZ := Lib.hid (WK1.out.pop FE.out (.inr hv))
          clear hv
          go_wp2_with (first | (refine wpList_value rfl (exec_load (ty := 30) rfl rfl R1.out uK rK (by rw [HX.out]; exact infoHash)) ?_) | (refine wpList_done rfl (exec_store_new (w := wr) (cs := hashC x) (ty := 30) rfl rfl rfl (by rw [HX.out]; rfl) (by rw [HX.out]; exact infoHash) hashC_one) ?_))
          generalize hq1 : wr.heap.size = q at *
          generalize wr.alloc (.cells (hashC x).toArray 30) = w1 at *
          refine wp_region_lexL [false, false, false, false, false, false, false] (fun w' => w'.cell? ⟨p, 0, none⟩ = some (.map (some m)) ∧ w'.rangeAt q 0 (hashC x) ∧ (∀ M, GMap w m M → GMap w' m M)) (by kernel_rfl) (by kernel_rfl) ?_ (fun K hK => ?_)
          · exact ⟨FD.out.cell c0w id, range_keep RN.out (Fr.refl No _).drew id, KM.out _ FD.out⟩
          repeat (first | ((first | with_reducible refine lexL_read ?_ | ((with_reducible refine lexL_readG ?_ ?_); (focus rfl))); apply Exists.intro; refine ⟨?_, ?_⟩; (focus (first | exact lex_load (ty := 30) rfl (fun w h => h.2.1) uK rK (by rw [HX.out]; exact infoHash) | exact fun w' h => exec_lookup (t := 53) rfl rfl rfl (K1.out w' h.2.2) | (intro w' hS; obtain ⟨s1, s2, s3⟩ := hS; go_simp; (try with_reducible rfl); done))); try simp only [Act.put, List.setIfInBounds_toArray, List.set_cons_zero, List.set_cons_succ]) | ((first | ((with_reducible refine lexL_skip (c := false) ?_ ?_ ?_); (focus rfl); (focus rfl)) | ((with_reducible refine lexL_skip (c := true) ?_ ?_ ?_); (focus rfl); (focus rfl)) | ((with_reducible refine lexL_skipU ?_ ?_); (focus rfl))); try simp only [Act.put, List.setIfInBounds_toArray, List.set_cons_zero, List.set_cons_succ]))
          refine lexL_nil (hK.out _ _ ?_)
          have RN2 := Lib.hid (range_keep RN.out (Fr.refl No w1).drew id)
          go_wp2_with (first | (refine wpList_vG (o := ⟨some 38, _, _, _, _, _⟩) rfl (exec_load (ty := 30) rfl rfl RN2.out uK rK (by rw [HX.out]; exact infoHash)) ?_) | (refine wpList_vG (o := ⟨some 39, _, _, _, _, _⟩) rfl (exec_lookup (t := 52) rfl rfl rfl LI.out) ?_))
          go_roundg (T0.length + wlW (nextE up G) vis (ids G))
          case measure => omega
          case rel => exact ⟨T0, vis, M, WZ.out, rfl⟩
        · have LI := Lib.hid (look_in (WK1.out.map.keep FE.out id) WK1.out.mem XOK.out)
          rw [if_neg hv] at LI
          unfold hashV at LI
          have NV := Lib.hid hv
          have RO := Lib.hid (show hashOk r.id ∧ (∀ y ∈ r.ps, hashOk y) ∧ ∀ y ∈ r.ks, hashOk y from HR.out.ok r RR.out)
          have NL := Lib.hid (next_len GK.out up x)
          clear hv
          cases up with
          | true =>
            have NE := Lib.hid (show nextE true G x = r.ps from by rw [← hxr]; exact HP.out r RR.out)
            have PL := Lib.hid (show r.ps.length ≤ 1000 by rw [← NE.out]; have := NL.out; have := GL.out; omega)
            go_wp2_with (first | (refine wpList_value rfl (exec_load (ty := 30) rfl rfl R1.out uK rK (by rw [HX.out]; exact infoHash)) ?_) | (refine wpList_done rfl (exec_store_new (w := wr) (cs := hashC x) (ty := 30) rfl rfl rfl (by rw [HX.out]; rfl) (by rw [HX.out]; exact infoHash) hashC_one) ?_))
            generalize hq1 : wr.heap.size = q at *
            generalize wr.alloc (.cells (hashC x).toArray 30) = w1 at *
            refine wp_region_lexL [false, false, false, false, false, false, false] (fun w' => w'.cell? ⟨p, 0, none⟩ = some (.map (some m)) ∧ w'.rangeAt q 0 (hashC x) ∧ (∀ M, GMap w m M → GMap w' m M)) (by kernel_rfl) (by kernel_rfl) ?_ (fun K hK => ?_)
            · exact ⟨FD.out.cell c0w id, range_keep RN.out (Fr.refl No _).drew id, KM.out _ FD.out⟩
            repeat (first | ((first | with_reducible refine lexL_read ?_ | ((with_reducible refine lexL_readG ?_ ?_); (focus rfl))); apply Exists.intro; refine ⟨?_, ?_⟩; (focus (first | exact lex_load (ty := 30) rfl (fun w h => h.2.1) uK rK (by rw [HX.out]; exact infoHash) | exact fun w' h => exec_lookup (t := 53) rfl rfl rfl (K1.out w' h.2.2) | (intro w' hS; obtain ⟨s1, s2, s3⟩ := hS; go_simp; (try with_reducible rfl); done))); try simp only [Act.put, List.setIfInBounds_toArray, List.set_cons_zero, List.set_cons_succ]) | ((first | ((with_reducible refine lexL_skip (c := false) ?_ ?_ ?_); (focus rfl); (focus rfl)) | ((with_reducible refine lexL_skip (c := true) ?_ ?_ ?_); (focus rfl); (focus rfl)) | ((with_reducible refine lexL_skipU ?_ ?_); (focus rfl))); try simp only [Act.put, List.setIfInBounds_toArray, List.set_cons_zero, List.set_cons_succ]))
            refine lexL_nil (hK.out _ _ ?_)
            have RN2 := Lib.hid (range_keep RN.out (Fr.refl No w1).drew id)
            obtain ⟨w3, M', hup, hm3, hupd, htu, hml⟩ := (WK1.out.map.keep FE.out id).upd eqHash.keyed undInMap (fun _ _ => hashV_inj) (keyOfHash XOK.out) (show M.length < maxLen by unfold maxLen; have := WK1.out.cnt; have := SQ.out; omega) 1
            have F3 := Lib.hid (show Fr (· = b) wr w3 from (FE.out.of0 (W := (· = b))).trans htu.fr (fun _ _ h => h))
            have F3w := Lib.hid (show Fr No w w3 from WK1.out.fr.trans F3.out (fun i hi e => by subst e; omega))
            obtain ⟨xa, xc, hpv⟩ := ND.out.prow.slice.arg.form
            have NA := Lib.hid (ND.out.keep F3w.out (fun _ _ => id))
            have cx := (blk3 NA.out.blk).2.1
            rw [hpv] at cx
            have ho3 := ownsRow_keep (own_takeK WK1.out.own0 (m := T0.length) (by omega)) F3.out (fun j hj => WK1.out.apart j hj)
            rw [ids_take WK1.out.ok] at ho3
            obtain ⟨tv4, w4, hap, ho4, f4, hn4⟩ := append_sl (P := Try.prog) w3 w.heap.size 27 27 30 32 32 _ undIds infoHashZ rfl (by decide) _ _ _ ho3 (.slice xa _ xc) _ _ (by rw [← hpv]; exact NA.out.prow.slice) (ids_flat_len RO.out.2.1) ids_flat_one (by have := PL.out; omega) (by unfold maxLen; have := PL.out; omega) (by rw [hb0]; have := F3w.out.size; omega)
            have HUP := Lib.hid hup
            have HAP := Lib.hid hap
            have WZ := Lib.hid (WK1.out.next (tv := tv4) (M' := M') (wr' := w4) (U := fun j => j = b ∨ j = g) GK.out.nd IN.out NV.out hupd hml (hm3.keep f4 (fun e => WK1.out.apart b e rfl)) (by rw [NE.out]; exact ho4) (by rw [NE.out]; exact RO.out.2.1) (fun j hj => (hn4 j hj).elim (fun h => .inl (by simpa [Value.ownBlock] using h.symm)) (fun h => .inr (by have := F3.out.size; omega))) ((F3.out.mono (fun _ h => .inl h)).trans f4 (fun i _ h => .inr (by simpa [Value.ownBlock] using h.symm))) (fun j hj => hj.elim (fun e => by omega) (fun e => by have := (WK1.out.own0.lt g rfl).1; omega)))
            clear hup hap hupd hml hm3 htu hpv ho3 ho4 f4 hn4
            unfold hashV intV at HUP
            go_wp2_with (first | (refine wpList_vG (o := ⟨some 38, _, _, _, _, _⟩) rfl (exec_load (ty := 30) rfl rfl RN2.out uK rK (by rw [HX.out]; exact infoHash)) ?_) | (refine wpList_vG (o := ⟨some 39, _, _, _, _, _⟩) rfl (exec_lookup (t := 52) rfl rfl rfl LI.out) ?_) | (refine wpList_value rfl (exec_load (ty := 30) rfl rfl RN2.out uK rK (by rw [HX.out]; exact infoHash)) ?_) | (refine wpList_done rfl (exec_mapUpdate rfl rfl rfl rfl HUP.out) ?_) | (at_builtin; refine wpList_append_run rfl rfl rfl rfl HAP.out ?_))
            go_roundg (T0.length + (nextE true G x).length + wlW (nextE true G) (x :: vis) (ids G))
            case measure => have := wlW_visit (E := nextE true G) NV.out GK.out.nd IN.out; omega
            case rel => exact ⟨_, _, M', WZ.out, by rw [List.length_append]⟩
          | false =>
            have NE := Lib.hid (show nextE false G x = r.ks from by rw [← hxr]; exact (HK.out r RR.out).symm)
            have PL := Lib.hid (show r.ks.length ≤ 1000 by rw [← NE.out]; have := NL.out; have := GL.out; omega)
            go_wp2_with (first | (refine wpList_value rfl (exec_load (ty := 30) rfl rfl R1.out uK rK (by rw [HX.out]; exact infoHash)) ?_) | (refine wpList_done rfl (exec_store_new (w := wr) (cs := hashC x) (ty := 30) rfl rfl rfl (by rw [HX.out]; rfl) (by rw [HX.out]; exact infoHash) hashC_one) ?_))
            generalize hq1 : wr.heap.size = q at *
            generalize wr.alloc (.cells (hashC x).toArray 30) = w1 at *
            refine wp_region_lexL [false, false, false, false, false, false, false] (fun w' => w'.cell? ⟨p, 0, none⟩ = some (.map (some m)) ∧ w'.rangeAt q 0 (hashC x) ∧ (∀ M, GMap w m M → GMap w' m M)) (by kernel_rfl) (by kernel_rfl) ?_ (fun K hK => ?_)
            · exact ⟨FD.out.cell c0w id, range_keep RN.out (Fr.refl No _).drew id, KM.out _ FD.out⟩
            repeat (first | ((first | with_reducible refine lexL_read ?_ | ((with_reducible refine lexL_readG ?_ ?_); (focus rfl))); apply Exists.intro; refine ⟨?_, ?_⟩; (focus (first | exact lex_load (ty := 30) rfl (fun w h => h.2.1) uK rK (by rw [HX.out]; exact infoHash) | exact fun w' h => exec_lookup (t := 53) rfl rfl rfl (K1.out w' h.2.2) | (intro w' hS; obtain ⟨s1, s2, s3⟩ := hS; go_simp; (try with_reducible rfl); done))); try simp only [Act.put, List.setIfInBounds_toArray, List.set_cons_zero, List.set_cons_succ]) | ((first | ((with_reducible refine lexL_skip (c := false) ?_ ?_ ?_); (focus rfl); (focus rfl)) | ((with_reducible refine lexL_skip (c := true) ?_ ?_ ?_); (focus rfl); (focus rfl)) | ((with_reducible refine lexL_skipU ?_ ?_); (focus rfl))); try simp only [Act.put, List.setIfInBounds_toArray, List.set_cons_zero, List.set_cons_succ]))
            refine lexL_nil (hK.out _ _ ?_)
            have RN2 := Lib.hid (range_keep RN.out (Fr.refl No w1).drew id)
            obtain ⟨w3, M', hup, hm3, hupd, htu, hml⟩ := (WK1.out.map.keep FE.out id).upd eqHash.keyed undInMap (fun _ _ => hashV_inj) (keyOfHash XOK.out) (show M.length < maxLen by unfold maxLen; have := WK1.out.cnt; have := SQ.out; omega) 1
            have F3 := Lib.hid (show Fr (· = b) wr w3 from (FE.out.of0 (W := (· = b))).trans htu.fr (fun _ _ h => h))
            have F3w := Lib.hid (show Fr No w w3 from WK1.out.fr.trans F3.out (fun i hi e => by subst e; omega))
            obtain ⟨xa, xc, hpv⟩ := ND.out.crow.slice.arg.form
            have NA := Lib.hid (ND.out.keep F3w.out (fun _ _ => id))
            have cx := (blk3 NA.out.blk).2.2
            rw [hpv] at cx
            have ho3 := ownsRow_keep (own_takeK WK1.out.own0 (m := T0.length) (by omega)) F3.out (fun j hj => WK1.out.apart j hj)
            rw [ids_take WK1.out.ok] at ho3
            obtain ⟨tv4, w4, hap, ho4, f4, hn4⟩ := append_sl (P := Try.prog) w3 w.heap.size 27 27 30 32 32 _ undIds infoHashZ rfl (by decide) _ _ _ ho3 (.slice xa _ xc) _ _ (by rw [← hpv]; exact NA.out.crow.slice) (ids_flat_len RO.out.2.2) ids_flat_one (by have := PL.out; omega) (by unfold maxLen; have := PL.out; omega) (by rw [hb0]; have := F3w.out.size; omega)
            have HUP := Lib.hid hup
            have HAP := Lib.hid hap
            have WZ := Lib.hid (WK1.out.next (tv := tv4) (M' := M') (wr' := w4) (U := fun j => j = b ∨ j = g) GK.out.nd IN.out NV.out hupd hml (hm3.keep f4 (fun e => WK1.out.apart b e rfl)) (by rw [NE.out]; exact ho4) (by rw [NE.out]; exact RO.out.2.2) (fun j hj => (hn4 j hj).elim (fun h => .inl (by simpa [Value.ownBlock] using h.symm)) (fun h => .inr (by have := F3.out.size; omega))) ((F3.out.mono (fun _ h => .inl h)).trans f4 (fun i _ h => .inr (by simpa [Value.ownBlock] using h.symm))) (fun j hj => hj.elim (fun e => by omega) (fun e => by have := (WK1.out.own0.lt g rfl).1; omega)))
            clear hup hap hupd hml hm3 htu hpv ho3 ho4 f4 hn4
            unfold hashV intV at HUP
            go_wp2_with (first | (refine wpList_vG (o := ⟨some 38, _, _, _, _, _⟩) rfl (exec_load (ty := 30) rfl rfl RN2.out uK rK (by rw [HX.out]; exact infoHash)) ?_) | (refine wpList_vG (o := ⟨some 39, _, _, _, _, _⟩) rfl (exec_lookup (t := 52) rfl rfl rfl LI.out) ?_) | (refine wpList_value rfl (exec_load (ty := 30) rfl rfl RN2.out uK rK (by rw [HX.out]; exact infoHash)) ?_) | (refine wpList_done rfl (exec_mapUpdate rfl rfl rfl rfl HUP.out) ?_) | (at_builtin; refine wpList_append_run rfl rfl rfl rfl HAP.out ?_))
            go_roundg (T0.length + (nextE false G x).length + wlW (nextE false G) (x :: vis) (ids G))
            case measure => have := wlW_visit (E := nextE false G) NV.out GK.out.nd IN.out; omega
            case rel => exact ⟨_, _, M', WZ.out, by rw [List.length_append]⟩
      · have K1 := Lib.hid ((HR.out.run_look XOK.out false rfl).2 (by rw [← HI.out]; exact hin))
        have WZ := Lib.hid (WK1.out.pop FE.out (.inl hin))
        clear hin
        unfold hashV at K1
        go_wp2_with (first | (refine wpList_value rfl (exec_load (ty := 30) rfl rfl R1.out uK rK (by rw [HX.out]; exact infoHash)) ?_) | (refine wpList_done rfl (exec_store_new (w := wr) (cs := hashC x) (ty := 30) rfl rfl rfl (by rw [HX.out]; rfl) (by rw [HX.out]; exact infoHash) hashC_one) ?_))
        generalize hq1 : wr.heap.size = q at *
        generalize wr.alloc (.cells (hashC x).toArray 30) = w1 at *
        refine wp_region_lexL [false, false, false, false, false, false, false] (fun w' => w'.cell? ⟨p, 0, none⟩ = some (.map (some m)) ∧ w'.rangeAt q 0 (hashC x) ∧ (∀ M, GMap w m M → GMap w' m M)) (by kernel_rfl) (by kernel_rfl) ?_ (fun K hK => ?_)
        · exact ⟨FD.out.cell c0w id, range_keep RN.out (Fr.refl No _).drew id, KM.out _ FD.out⟩
        repeat (first | ((first | with_reducible refine lexL_read ?_ | ((with_reducible refine lexL_readG ?_ ?_); (focus rfl))); apply Exists.intro; refine ⟨?_, ?_⟩; (focus (first | exact lex_load (ty := 30) rfl (fun w h => h.2.1) uK rK (by rw [HX.out]; exact infoHash) | exact fun w' h => exec_lookup (t := 53) rfl rfl rfl (K1.out w' h.2.2) | (intro w' hS; obtain ⟨s1, s2, s3⟩ := hS; go_simp; (try with_reducible rfl); done))); try simp only [Act.put, List.setIfInBounds_toArray, List.set_cons_zero, List.set_cons_succ]) | ((first | ((with_reducible refine lexL_skip (c := false) ?_ ?_ ?_); (focus rfl); (focus rfl)) | ((with_reducible refine lexL_skip (c := true) ?_ ?_ ?_); (focus rfl); (focus rfl)) | ((with_reducible refine lexL_skipU ?_ ?_); (focus rfl))); try simp only [Act.put, List.setIfInBounds_toArray, List.set_cons_zero, List.set_cons_succ]))
        refine lexL_nil (hK.out _ _ ?_)
        go_wp2_with fail
        go_roundg (T0.length + wlW (nextE up G) vis (ids G))
        case measure => omega
        case rel => exact ⟨T0, vis, M, WZ.out, rfl⟩
end
end Go.Proofs.Ytnjkpjcnmdgoeaa
