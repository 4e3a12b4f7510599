/- KinActs: the walk (printed by gen_kin.py). -/
import Derived.Test.YtnjkpjcnmdgoeaaKinU
import Derived.Test.YtnjkpjcnmdgoeaaKinV
import Derived.Test.YtnjkpjcnmdgoeaaSeq
import Derived.Test.YtnjkpjcnmdgoeaaTree
import Derived.Deep.CutBlock
import Derived.Test.YtnjkpjcnmdgoeaaKinR6
namespace Go.Proofs.Ytnjkpjcnmdgoeaa
open Go Go.RowKit Go.Maps Go.MapKept

/-- The graph, the document's graph, an act's cells. -/
structure ActM (w2 w : World) (p q : Nat) (V U : Nat → Prop) (G H : List NodeD) (N q0 : Nat) (x : HashD) (pv : Value) : Prop where
  g : GC w2 w p V G N
  r : RG w2 w q U H
  d : ∀ j, V j → ¬ U j
  qv : ¬ V q0
  qu : ¬ U q0
  ql : q0 < w.heap.size
  x : w.rangeAt q0 1 (hashC x)
  c : w.cell? ⟨q0, 33, none⟩ = some pv
  f : Fr No w2 w
section
variable {w2 w w' : World} {p q N N' q0 : Nat} {V V' U U' : Nat → Prop} {G G' H H' : List NodeD} {x : HashD} {pv : Value}
theorem ActM.keep (h : ActM w2 w p q V U G H N q0 x pv) (f : Fr No w w') : ActM w2 w' p q V U G H N q0 x pv :=
  ⟨h.g.fr0 f, h.r.fr0 f, h.d, h.qv, h.qu, Nat.lt_of_lt_of_le h.ql f.size, range_keep h.x f id, f.cell h.c id, h.f.trans0 f⟩
theorem ActM.upG (h : ActM w2 w p q V U G H N q0 x pv) (g : GC w2 w' p V' G' N') (f : Fr V w w') (s : ∀ j, V' j → V j ∨ w.heap.size ≤ j) : ActM w2 w' p q V' U G' H N' q0 x pv :=
  ⟨g, h.r.frV f (fun j hu hv => h.d j hv hu) h.g.lo, fun j hv hu => (s j hv).elim (fun e => h.d j e hu) (fun e => by have := h.r.hi j hu; omega), fun hv => (s q0 hv).elim h.qv (fun e => by have := h.ql; omega), h.qu, Nat.lt_of_lt_of_le h.ql f.size, range_keep h.x f h.qv, f.cell h.c h.qv, g.fr⟩
theorem ActM.upR (h : ActM w2 w p q V U G H N q0 x pv) (r : RG w2 w' q U' H') (f : Fr U w w') (s : ∀ j, U' j → U j ∨ w.heap.size ≤ j) : ActM w2 w' p q V U' G H' N q0 x pv :=
  ⟨h.g.frV f (fun j hv hu => h.d j hv hu) h.r.lo, r, fun j hv hu => (s j hu).elim (fun e => h.d j hv e) (fun e => by have := h.g.hi j hv; omega), h.qv, fun hu => (s q0 hu).elim h.qu (fun e => by have := h.ql; omega), Nat.lt_of_lt_of_le h.ql f.size, range_keep h.x f h.qu, f.cell h.c h.qu, r.fr⟩
theorem ActM.s (h : ActM w2 w p q V U G H N q0 x pv) : w.rangeAt q0 1 (hashC x) ∧ w.cell? ⟨q0, 33, none⟩ = some pv := ⟨h.x, h.c⟩
end
theorem rg_new {w2 w3 : World} (f : Fr No w2 w3) : RG w2 (w3.alloc (.cells #[.slice none 0 0] 43)) w3.heap.size (fun j => j = w3.heap.size) [] :=
  ⟨⟨.slice none 0 0, [], new_obj w3 _, World.ownsRow_nil _ _ _ _, trivial, by simp, fun j e => by simp [Value.ownBlock] at e, by simp⟩, rfl, fun j e => by rw [e]; exact f.size, fun j e => by rw [e]; simp, f.alloc _⟩

set_option maxRecDepth 100000 in
set_option maxHeartbeats 8000000 in
theorem acts_any (w : World) {v : Value} {L : List KActD} (hl : KActsIs w v L) :
    Calls Try.prog 7 #[v] w fun e w' => e = .returned (.bool true) ∧ Fr No w w' := by
  obtain ⟨dK, uK, rK⟩ := descHash
  have HL := Lib.hid hl
  obtain ⟨va, vc, rfl, -, -⟩ := hl
  have zh := zeroHash
  obtain ⟨dA, uA, rA⟩ := descAct
  have zA := zeroAct
  by_cases hg : kgreat L = true
  · go_enter Try.func7, Try.ntmps7
    go_wp2_with (first | (go_at_call 10; refine (aliveK_any w).mono ?_; rintro e w1 ⟨rfl, f1⟩; have F1 := Lib.hid f1; clear f1) | (go_at_call 11; refine (kgreat_any w1 (HL.out.keep F1.out)).mono ?_; rintro e w2 ⟨rfl, f2⟩; rw [hg]; have F2 := Lib.hid (F1.out.trans0 f2); clear f2))
    go_ret
    exact ⟨rfl, F2.out⟩
  have hg0 : kgreat L = false := by simpa using hg
  clear hg
  obtain ⟨hl3, hp3⟩ := kgreat_len hg0
  have HP := Lib.hid hp3
  clear hp3
  go_enter Try.func7, Try.ntmps7
  go_wp2_with (first | (go_at_call 10; refine (aliveK_any w).mono ?_; rintro e w1 ⟨rfl, f1⟩; have F1 := Lib.hid f1; clear f1) | (go_at_call 11; refine (kgreat_any w1 (HL.out.keep F1.out)).mono ?_; rintro e w2 ⟨rfl, f2⟩; rw [hg0]; have F2 := Lib.hid (F1.out.trans0 f2); clear f2) | (go_at_call 19; refine (new_K w2 w2 (Fr.refl _ _)).mono ?_; rintro e w3 ⟨p, rfl, V, g3, f3, s3⟩; have G3 := Lib.hid g3; have F3 := Lib.hid f3; clear g3 f3 s3))
  have R0 := Lib.hid (rg_new F3.out)
  have G4 := Lib.hid (G3.out.fr0 ((Fr.refl No w3).alloc (.cells #[.slice none 0 0] 43)))
  have D0 := Lib.hid (show ∀ j, V j → ¬ j = w3.heap.size from fun j h e => by have := G3.out.hi j h; omega)
  generalize w3.alloc (.cells #[.slice none 0 0] 43) = w4 at *
  generalize w3.heap.size = q at *
  clear G3 F3
  go_loopw [20] (fun i wr => ∃ (n : Nat) (V U : Nat → Prop), n ≤ L.length ∧ i = .int .i64 (n : Nat) ∧ GC w2 wr p V (grownG (L.take n)) n ∧ RG w2 wr q U (grownG (L.take n)) ∧ ∀ j, V j → ¬ U j) (fun i _ => L.length - (intOf i).toNat)
  case atStart => exact ⟨0, V, fun j => j = q, Nat.zero_le _, rfl, G4.out, R0.out, D0.out⟩
  case round =>
    obtain ⟨n, V1, U1, hn, rfl, hgc, hrg, hd⟩ := hrel
    have GC0 := Lib.hid hgc
    have RG0 := Lib.hid hrg
    have DJ := Lib.hid hd
    clear hgc hrg hd
    by_cases hlt : n < L.length
    · obtain ⟨d, hx⟩ : ∃ x, L[n]? = some x := ⟨_, List.getElem?_eq_getElem hlt⟩
      obtain ⟨b, off, xa, xc, cap, hv, hr0, ok, hi⟩ := HL.out.at_ hx
      cases hv
      have hr := range_keep hr0 (F2.out.trans0 GC0.out.fr) id
      have PA := Lib.hid (show ∀ W, Fr No w2 W → IdsIs W (.slice xa d.ps.length xc) d.ps from fun W f => hi.keep (F2.out.trans0 f))
      have i1 : (n : Int) < (L.length : Int) := by omega
      have R1 := Lib.hid hr
      have OK := Lib.hid ok
      have LH := Lib.hid (hashC_len ok)
      have KL := Lib.hid (kactC_len (k := d.kind) (v := .slice xa d.ps.length xc) ok)
      obtain ⟨c0, r1, c33⟩ := kact_new wr (k := d.kind) (v := .slice xa d.ps.length xc) ok
      have fa := (Fr.refl No wr).alloc (.cells (kactC d.kind d.id (.slice xa d.ps.length xc)).toArray 45)
      have M := Lib.hid (show ActM w2 (wr.alloc (.cells (kactC d.kind d.id (.slice xa d.ps.length xc)).toArray 45)) p q V1 U1 (grownG (L.take n)) (grownG (L.take n)) n wr.heap.size d.id (.slice xa d.ps.length xc) from ⟨GC0.out.fr0 fa, RG0.out.fr0 fa, DJ.out, fun h => by have := GC0.out.hi _ h; omega, fun h => by have := RG0.out.hi _ h; omega, by simp, r1, c33, (GC0.out.fr0 fa).fr⟩)
      have GS := Lib.hid (grown_step hx)
      have PL := HP.out d (List.mem_of_getElem? hx)
      clear hr hr0 ok hi hx r1 c33 GC0 RG0 DJ
      obtain ⟨kd, hkd⟩ : ∃ k, k = d.kind := ⟨_, rfl⟩
      have AG := Lib.hid (show actG (grownG (L.take n)) d = if kd = 0 then (if addE (grownG (L.take n)) d.id d.ps = 0 then addG (grownG (L.take n)) d.id d.ps else grownG (L.take n)) else if kd = 1 then cutL (grownG (L.take n)) (downS (grownG (L.take n)) [d.id]) else if kd = 2 then cutL (grownG (L.take n)) [d.id] else grownG (L.take n) by rw [hkd]; rfl)
      rw [← hkd] at R1 KL c0 M
      clear hkd
      rw [← GS.out] at AG
      have ln9 : (grownG (L.take n)).length ≤ 80 := by have := M.out.g.len; omega
      generalize hGn : grownG (L.take (n + 1)) = G' at *
      generalize grownG (L.take n) = G at *
      clear GS
      clear fa
      have hcase : kd = 0 ∨ (¬ kd = 0 ∧ kd = 1) ∨ (¬ kd = 0 ∧ ¬ kd = 1 ∧ kd = 2) ∨ (¬ kd = 0 ∧ ¬ kd = 1 ∧ ¬ kd = 2) := by omega
      go_upto_block 2 with (first | (refine wpList_value rfl (exec_load (ty := 45) rfl rfl R1.out uA rA (by rw [KL.out]; exact infoAct)) ?_) | (refine wpList_done rfl (exec_store_new (w := wr) (ty := 45) (cs := kactC kd d.id (.slice xa d.ps.length xc)) rfl rfl rfl (by rw [KL.out]; rfl) (by rw [KL.out]; exact infoAct) kactC_one) ?_; generalize wr.alloc (.cells (kactC kd d.id (.slice xa d.ps.length xc)).toArray 45) = wa at *; generalize wr.heap.size = q0 at *))
      have PW := Lib.hid (PA.out _ M.out.f)
      have GK := Lib.hid M.out.g.gok
      clear R1 KL
      rcases hcase with rfl | ⟨-, rfl⟩ | ⟨-, -, rfl⟩ | ⟨q1, q2, q3⟩
      · have AZ := Lib.hid (show (if addE G d.id d.ps = 0 then addG G d.id d.ps else G) = G' by rw [AG.out, if_pos rfl])
        clear AG
        go_upto_region 14 with fail
        refine wp_region_lexL [false, false, false, false, false, true, false, false, false, false, false, true, false] (fun W => W.rangeAt q0 1 (hashC d.id) ∧ W.cell? ⟨q0, 33, none⟩ = some (.slice xa d.ps.length xc)) (by kernel_rfl) (by kernel_rfl) ?_ (fun K hK => ?_)
        · exact (M.out.keep (Fr.refl No _).drew).s
        have fd := (Fr.refl No wa).drew
        replace M := Lib.hid (M.out.keep fd)
        (try replace PW := Lib.hid (PW.out.keep fd))
        clear fd
        generalize wa.drew = k0 at *
        repeat (first | ((first | with_reducible refine lexL_read ?_ | ((with_reducible refine lexL_readG ?_ ?_); (focus rfl))); apply Exists.intro; refine ⟨?_, ?_⟩; (focus (first | exact lex_load (ty := 30) rfl (fun w h => h.1) uK rK (by rw [LH.out]; exact infoHash) | (intro w' hS; obtain ⟨s1, s2⟩ := hS; go_simp; (try with_reducible rfl); done))); try simp only [Act.put, List.setIfInBounds_toArray, List.set_cons_zero, List.set_cons_succ]) | ((first | ((with_reducible refine lexL_skip (c := false) ?_ ?_ ?_); (focus rfl); (focus rfl)) | ((with_reducible refine lexL_skip (c := true) ?_ ?_ ?_); (focus rfl); (focus rfl)) | ((with_reducible refine lexL_skipU ?_ ?_); (focus rfl))); try simp only [Act.put, List.setIfInBounds_toArray, List.set_cons_zero, List.set_cons_succ]))
        (first | with_reducible refine lexL_eff (fun K' hK' => ?_) | ((with_reducible refine lexL_effG ?_ (fun K' hK' => ?_)); (focus rfl)))
        go_simp
        refine (add_K M.out.g (by omega) OK.out PW.out (by omega)).mono ?_
        rintro e k1 ⟨rfl, V3, g3, f3, s3⟩
        rw [AZ.out] at g3
        have P3 := Lib.hid (PA.out _ g3.fr)
        replace M := Lib.hid (M.out.upG g3 f3 s3)
        clear g3 f3 s3 PW
        refine hK'.out _ _ ?_ (fun hS => ?_)
        · exact M.out.s
        try simp only [Act.put, List.setIfInBounds_toArray, List.set_cons_zero, List.set_cons_succ]
        clear hS hK' K'
        repeat (first | ((first | with_reducible refine lexL_read ?_ | ((with_reducible refine lexL_readG ?_ ?_); (focus rfl))); apply Exists.intro; refine ⟨?_, ?_⟩; (focus (first | exact lex_load (ty := 30) rfl (fun w h => h.1) uK rK (by rw [LH.out]; exact infoHash) | (intro w' hS; obtain ⟨s1, s2⟩ := hS; go_simp; (try with_reducible rfl); done))); try simp only [Act.put, List.setIfInBounds_toArray, List.set_cons_zero, List.set_cons_succ]) | ((first | ((with_reducible refine lexL_skip (c := false) ?_ ?_ ?_); (focus rfl); (focus rfl)) | ((with_reducible refine lexL_skip (c := true) ?_ ?_ ?_); (focus rfl); (focus rfl)) | ((with_reducible refine lexL_skipU ?_ ?_); (focus rfl))); try simp only [Act.put, List.setIfInBounds_toArray, List.set_cons_zero, List.set_cons_succ]))
        (first | with_reducible refine lexL_eff (fun K' hK' => ?_) | ((with_reducible refine lexL_effG ?_ (fun K' hK' => ?_)); (focus rfl)))
        go_simp
        refine (add_R M.out.r GK.out (by omega) OK.out P3.out PL).mono ?_
        rintro e k2 ⟨rfl, U3, g3, f3, s3⟩
        rw [AZ.out] at g3
        replace M := Lib.hid (M.out.upR g3 f3 s3)
        clear g3 f3 s3 P3
        refine hK'.out _ _ ?_ (fun hS => ?_)
        · exact M.out.s
        try simp only [Act.put, List.setIfInBounds_toArray, List.set_cons_zero, List.set_cons_succ]
        clear hS hK' K'
        repeat (first | ((first | with_reducible refine lexL_read ?_ | ((with_reducible refine lexL_readG ?_ ?_); (focus rfl))); apply Exists.intro; refine ⟨?_, ?_⟩; (focus (first | exact lex_load (ty := 30) rfl (fun w h => h.1) uK rK (by rw [LH.out]; exact infoHash) | (intro w' hS; obtain ⟨s1, s2⟩ := hS; go_simp; (try with_reducible rfl); done))); try simp only [Act.put, List.setIfInBounds_toArray, List.set_cons_zero, List.set_cons_succ]) | ((first | ((with_reducible refine lexL_skip (c := false) ?_ ?_ ?_); (focus rfl); (focus rfl)) | ((with_reducible refine lexL_skip (c := true) ?_ ?_ ?_); (focus rfl); (focus rfl)) | ((with_reducible refine lexL_skipU ?_ ?_); (focus rfl))); try simp only [Act.put, List.setIfInBounds_toArray, List.set_cons_zero, List.set_cons_succ]))
        refine lexL_nil (hK.out _ _ ?_)
        generalize addE G d.id d.ps = ae at *
        go_upto_region 24 with fail
        generalize k2 = zz at *
        have GL : (G').length ≤ 900 := by have := M.out.g.len; omega
        have IL := Lib.hid (show (ids G').length ≤ 100000 by simp only [ids, List.length_map]; omega)
        refine wp_region_lexL [false, true, false, true, true, false, false, false, false, false, true, false, false, false, true, false, false] (fun W => W.rangeAt q0 1 (hashC d.id) ∧ W.cell? ⟨q0, 33, none⟩ = some (.slice xa d.ps.length xc)) (by kernel_rfl) (by kernel_rfl) ?_ (fun K hK => ?_)
        · exact (M.out.keep (Fr.refl No _).drew).s
        have fd := (Fr.refl No zz).drew
        replace M := Lib.hid (M.out.keep fd)
        (try replace PW := Lib.hid (PW.out.keep fd))
        clear fd
        generalize zz.drew = k0 at *
        repeat (first | ((first | with_reducible refine lexL_read ?_ | ((with_reducible refine lexL_readG ?_ ?_); (focus rfl))); apply Exists.intro; refine ⟨?_, ?_⟩; (focus (first | exact lex_load (ty := 30) rfl (fun w h => h.1) uK rK (by rw [LH.out]; exact infoHash) | (intro w' hS; obtain ⟨s1, s2⟩ := hS; go_simp; (try with_reducible rfl); done))); try simp only [Act.put, List.setIfInBounds_toArray, List.set_cons_zero, List.set_cons_succ]) | ((first | ((with_reducible refine lexL_skip (c := false) ?_ ?_ ?_); (focus rfl); (focus rfl)) | ((with_reducible refine lexL_skip (c := true) ?_ ?_ ?_); (focus rfl); (focus rfl)) | ((with_reducible refine lexL_skipU ?_ ?_); (focus rfl))); try simp only [Act.put, List.setIfInBounds_toArray, List.set_cons_zero, List.set_cons_succ]))
        (first | with_reducible refine lexL_eff (fun K' hK' => ?_) | ((with_reducible refine lexL_effG ?_ (fun K' hK' => ?_)); (focus rfl)))
        go_simp
        refine (all_K M.out.g (by omega)).mono ?_
        rintro e k1 ⟨va, rfl, oa⟩
        have f := Lib.hid oa.2
        have AI := Lib.hid (oa.is M.out.g.okId)
        replace M := Lib.hid (M.out.keep f.out)
        clear f oa
        refine hK'.out _ _ ?_ (fun hS => ?_)
        · exact M.out.s
        try simp only [Act.put, List.setIfInBounds_toArray, List.set_cons_zero, List.set_cons_succ]
        clear hS hK' K'
        repeat (first | ((first | with_reducible refine lexL_read ?_ | ((with_reducible refine lexL_readG ?_ ?_); (focus rfl))); apply Exists.intro; refine ⟨?_, ?_⟩; (focus (first | exact lex_load (ty := 30) rfl (fun w h => h.1) uK rK (by rw [LH.out]; exact infoHash) | (intro w' hS; obtain ⟨s1, s2⟩ := hS; go_simp; (try with_reducible rfl); done))); try simp only [Act.put, List.setIfInBounds_toArray, List.set_cons_zero, List.set_cons_succ]) | ((first | ((with_reducible refine lexL_skip (c := false) ?_ ?_ ?_); (focus rfl); (focus rfl)) | ((with_reducible refine lexL_skip (c := true) ?_ ?_ ?_); (focus rfl); (focus rfl)) | ((with_reducible refine lexL_skipU ?_ ?_); (focus rfl))); try simp only [Act.put, List.setIfInBounds_toArray, List.set_cons_zero, List.set_cons_succ]))
        (first | with_reducible refine lexL_eff (fun K' hK' => ?_) | ((with_reducible refine lexL_effG ?_ (fun K' hK' => ?_)); (focus rfl)))
        go_simp
        refine (all_R M.out.r GL).mono ?_
        rintro e k2 ⟨vb, rfl, ob⟩
        have f := Lib.hid ob.2
        have BI := Lib.hid (ob.is M.out.r.okId)
        replace AI := Lib.hid (AI.out.keep f.out)
        replace M := Lib.hid (M.out.keep f.out)
        clear f ob
        refine hK'.out _ _ ?_ (fun hS => ?_)
        · exact M.out.s
        try simp only [Act.put, List.setIfInBounds_toArray, List.set_cons_zero, List.set_cons_succ]
        clear hS hK' K'
        repeat (first | ((first | with_reducible refine lexL_read ?_ | ((with_reducible refine lexL_readG ?_ ?_); (focus rfl))); apply Exists.intro; refine ⟨?_, ?_⟩; (focus (first | exact lex_load (ty := 30) rfl (fun w h => h.1) uK rK (by rw [LH.out]; exact infoHash) | (intro w' hS; obtain ⟨s1, s2⟩ := hS; go_simp; (try with_reducible rfl); done))); try simp only [Act.put, List.setIfInBounds_toArray, List.set_cons_zero, List.set_cons_succ]) | ((first | ((with_reducible refine lexL_skip (c := false) ?_ ?_ ?_); (focus rfl); (focus rfl)) | ((with_reducible refine lexL_skip (c := true) ?_ ?_ ?_); (focus rfl); (focus rfl)) | ((with_reducible refine lexL_skipU ?_ ?_); (focus rfl))); try simp only [Act.put, List.setIfInBounds_toArray, List.set_cons_zero, List.set_cons_succ]))
        (first | with_reducible refine lexL_eff (fun K' hK' => ?_) | ((with_reducible refine lexL_effG ?_ (fun K' hK' => ?_)); (focus rfl)))
        go_simp
        refine (same_b (b := true) AI.out BI.out IL.out IL.out ⟨fun _ => rfl, fun _ => rfl⟩).mono ?_
        rintro e k3 ⟨rfl, f0⟩
        have f := Lib.hid f0
        replace M := Lib.hid (M.out.keep f.out)
        clear f f0 AI BI
        refine hK'.out _ _ ?_ (fun hS => ?_)
        · exact M.out.s
        try simp only [Act.put, List.setIfInBounds_toArray, List.set_cons_zero, List.set_cons_succ]
        clear hS hK' K'
        repeat (first | ((first | with_reducible refine lexL_read ?_ | ((with_reducible refine lexL_readG ?_ ?_); (focus rfl))); apply Exists.intro; refine ⟨?_, ?_⟩; (focus (first | exact lex_load (ty := 30) rfl (fun w h => h.1) uK rK (by rw [LH.out]; exact infoHash) | (intro w' hS; obtain ⟨s1, s2⟩ := hS; go_simp; (try with_reducible rfl); done))); try simp only [Act.put, List.setIfInBounds_toArray, List.set_cons_zero, List.set_cons_succ]) | ((first | ((with_reducible refine lexL_skip (c := false) ?_ ?_ ?_); (focus rfl); (focus rfl)) | ((with_reducible refine lexL_skip (c := true) ?_ ?_ ?_); (focus rfl); (focus rfl)) | ((with_reducible refine lexL_skipU ?_ ?_); (focus rfl))); try simp only [Act.put, List.setIfInBounds_toArray, List.set_cons_zero, List.set_cons_succ]))
        (first | with_reducible refine lexL_eff (fun K' hK' => ?_) | ((with_reducible refine lexL_effG ?_ (fun K' hK' => ?_)); (focus rfl)))
        go_simp
        refine (has_K M.out.g OK.out).mono ?_
        rintro e k4 ⟨rfl, f0⟩
        have f := Lib.hid f0
        replace M := Lib.hid (M.out.keep f.out)
        clear f f0
        refine hK'.out _ _ ?_ (fun hS => ?_)
        · exact M.out.s
        try simp only [Act.put, List.setIfInBounds_toArray, List.set_cons_zero, List.set_cons_succ]
        clear hS hK' K'
        repeat (first | ((first | with_reducible refine lexL_read ?_ | ((with_reducible refine lexL_readG ?_ ?_); (focus rfl))); apply Exists.intro; refine ⟨?_, ?_⟩; (focus (first | exact lex_load (ty := 30) rfl (fun w h => h.1) uK rK (by rw [LH.out]; exact infoHash) | (intro w' hS; obtain ⟨s1, s2⟩ := hS; go_simp; (try with_reducible rfl); done))); try simp only [Act.put, List.setIfInBounds_toArray, List.set_cons_zero, List.set_cons_succ]) | ((first | ((with_reducible refine lexL_skip (c := false) ?_ ?_ ?_); (focus rfl); (focus rfl)) | ((with_reducible refine lexL_skip (c := true) ?_ ?_ ?_); (focus rfl); (focus rfl)) | ((with_reducible refine lexL_skipU ?_ ?_); (focus rfl))); try simp only [Act.put, List.setIfInBounds_toArray, List.set_cons_zero, List.set_cons_succ]))
        (first | with_reducible refine lexL_eff (fun K' hK' => ?_) | ((with_reducible refine lexL_effG ?_ (fun K' hK' => ?_)); (focus rfl)))
        go_simp
        refine (has_R M.out.r (by omega) OK.out).mono ?_
        rintro e k5 ⟨rfl, f0⟩
        have f := Lib.hid f0
        replace M := Lib.hid (M.out.keep f.out)
        clear f f0
        refine hK'.out _ _ ?_ (fun hS => ?_)
        · exact M.out.s
        try simp only [Act.put, List.setIfInBounds_toArray, List.set_cons_zero, List.set_cons_succ]
        clear hS hK' K'
        repeat (first | ((first | with_reducible refine lexL_read ?_ | ((with_reducible refine lexL_readG ?_ ?_); (focus rfl))); apply Exists.intro; refine ⟨?_, ?_⟩; (focus (first | exact lex_load (ty := 30) rfl (fun w h => h.1) uK rK (by rw [LH.out]; exact infoHash) | (intro w' hS; obtain ⟨s1, s2⟩ := hS; go_simp; (try with_reducible rfl); done))); try simp only [Act.put, List.setIfInBounds_toArray, List.set_cons_zero, List.set_cons_succ]) | ((first | ((with_reducible refine lexL_skip (c := false) ?_ ?_ ?_); (focus rfl); (focus rfl)) | ((with_reducible refine lexL_skip (c := true) ?_ ?_ ?_); (focus rfl); (focus rfl)) | ((with_reducible refine lexL_skipU ?_ ?_); (focus rfl))); try simp only [Act.put, List.setIfInBounds_toArray, List.set_cons_zero, List.set_cons_succ]))
        refine lexL_nil (hK.out _ _ ?_)
        go_wp2
        go_roundw
        case rel => exact ⟨n + 1, _, _, by omega, by go_num, by rw [hGn]; exact M.out.g, by rw [hGn]; exact M.out.r, M.out.d⟩
        case measure => simp [intOf]; omega
      · have AZ := Lib.hid (show cutL G (downS G [d.id]) = G' by rw [AG.out, if_neg (by decide), if_pos rfl])
        clear AG
        have DK := Lib.hid (M.out.g.okDown [d.id])
        have DL := Lib.hid (show (downS G [d.id]).length ≤ 100000 by have := down_len (G := G) [d.id]; omega)
        go_upto_region 24 with (first | ((with_reducible refine at_dst 68 ?_); refine wpList_vG rfl (exec_load (ty := 30) rfl rfl M.out.x uK rK (by rw [LH.out]; exact infoHash)) ?_) | (go_at_call 17; refine (drop_K M.out.g (by omega) OK.out).mono ?_; rintro e k1 ⟨v7, rfl, V3, g3, f3, s3, o3⟩; rw [AZ.out] at g3; have O3 := Lib.hid o3; have M1 := Lib.hid (M.out.upG g3 f3 (fun j h => .inl (s3 j h))); have UB := Lib.hid (show ∀ j, U1 j → j < wa.heap.size from M.out.r.hi); obtain ⟨a7, c7, rfl⟩ := o3.slice.arg.form; clear g3 f3 s3 o3) | ((with_reducible refine at_dst 75 ?_); refine wpList_vG rfl (exec_load (ty := 30) rfl rfl M1.out.x uK rK (by rw [LH.out]; exact infoHash)) ?_) | (go_at_call 22; refine (drop_R M1.out.r GK.out (by omega) OK.out).mono ?_; rintro e k2 ⟨v8, rfl, i8, U3, g3, f3, s3⟩; rw [AZ.out] at g3; have I8 := Lib.hid i8; have I7 := Lib.hid (IdsIs.own (ownsRow_keep O3.out f3 (fun j e h => by have := (O3.out.lt j e).1; have := UB.out j h; omega)) DK.out); have M2 := Lib.hid (M1.out.upR g3 f3 s3); obtain ⟨a8, c8, rfl⟩ := i8.2.form; clear g3 f3 s3 i8 M1 O3 UB) | (go_at_call 18; refine (same_b (b := true) I7.out I8.out DL.out DL.out ⟨fun _ => rfl, fun _ => rfl⟩).mono ?_; rintro e k3 ⟨rfl, f0⟩; replace M := Lib.hid (M2.out.keep f0); clear f0 I7 I8 M2))
        clear DK DL
        generalize k3 = zz at *
        have GL : (G').length ≤ 900 := by have := M.out.g.len; omega
        have IL := Lib.hid (show (ids G').length ≤ 100000 by simp only [ids, List.length_map]; omega)
        refine wp_region_lexL [false, true, false, true, true, false, false, false, false, false, true, false, false, false, true, false, false] (fun W => W.rangeAt q0 1 (hashC d.id) ∧ W.cell? ⟨q0, 33, none⟩ = some (.slice xa d.ps.length xc)) (by kernel_rfl) (by kernel_rfl) ?_ (fun K hK => ?_)
        · exact (M.out.keep (Fr.refl No _).drew).s
        have fd := (Fr.refl No zz).drew
        replace M := Lib.hid (M.out.keep fd)
        (try replace PW := Lib.hid (PW.out.keep fd))
        clear fd
        generalize zz.drew = k0 at *
        repeat (first | ((first | with_reducible refine lexL_read ?_ | ((with_reducible refine lexL_readG ?_ ?_); (focus rfl))); apply Exists.intro; refine ⟨?_, ?_⟩; (focus (first | exact lex_load (ty := 30) rfl (fun w h => h.1) uK rK (by rw [LH.out]; exact infoHash) | (intro w' hS; obtain ⟨s1, s2⟩ := hS; go_simp; (try with_reducible rfl); done))); try simp only [Act.put, List.setIfInBounds_toArray, List.set_cons_zero, List.set_cons_succ]) | ((first | ((with_reducible refine lexL_skip (c := false) ?_ ?_ ?_); (focus rfl); (focus rfl)) | ((with_reducible refine lexL_skip (c := true) ?_ ?_ ?_); (focus rfl); (focus rfl)) | ((with_reducible refine lexL_skipU ?_ ?_); (focus rfl))); try simp only [Act.put, List.setIfInBounds_toArray, List.set_cons_zero, List.set_cons_succ]))
        (first | with_reducible refine lexL_eff (fun K' hK' => ?_) | ((with_reducible refine lexL_effG ?_ (fun K' hK' => ?_)); (focus rfl)))
        go_simp
        refine (all_K M.out.g (by omega)).mono ?_
        rintro e k1 ⟨va, rfl, oa⟩
        have f := Lib.hid oa.2
        have AI := Lib.hid (oa.is M.out.g.okId)
        replace M := Lib.hid (M.out.keep f.out)
        clear f oa
        refine hK'.out _ _ ?_ (fun hS => ?_)
        · exact M.out.s
        try simp only [Act.put, List.setIfInBounds_toArray, List.set_cons_zero, List.set_cons_succ]
        clear hS hK' K'
        repeat (first | ((first | with_reducible refine lexL_read ?_ | ((with_reducible refine lexL_readG ?_ ?_); (focus rfl))); apply Exists.intro; refine ⟨?_, ?_⟩; (focus (first | exact lex_load (ty := 30) rfl (fun w h => h.1) uK rK (by rw [LH.out]; exact infoHash) | (intro w' hS; obtain ⟨s1, s2⟩ := hS; go_simp; (try with_reducible rfl); done))); try simp only [Act.put, List.setIfInBounds_toArray, List.set_cons_zero, List.set_cons_succ]) | ((first | ((with_reducible refine lexL_skip (c := false) ?_ ?_ ?_); (focus rfl); (focus rfl)) | ((with_reducible refine lexL_skip (c := true) ?_ ?_ ?_); (focus rfl); (focus rfl)) | ((with_reducible refine lexL_skipU ?_ ?_); (focus rfl))); try simp only [Act.put, List.setIfInBounds_toArray, List.set_cons_zero, List.set_cons_succ]))
        (first | with_reducible refine lexL_eff (fun K' hK' => ?_) | ((with_reducible refine lexL_effG ?_ (fun K' hK' => ?_)); (focus rfl)))
        go_simp
        refine (all_R M.out.r GL).mono ?_
        rintro e k2 ⟨vb, rfl, ob⟩
        have f := Lib.hid ob.2
        have BI := Lib.hid (ob.is M.out.r.okId)
        replace AI := Lib.hid (AI.out.keep f.out)
        replace M := Lib.hid (M.out.keep f.out)
        clear f ob
        refine hK'.out _ _ ?_ (fun hS => ?_)
        · exact M.out.s
        try simp only [Act.put, List.setIfInBounds_toArray, List.set_cons_zero, List.set_cons_succ]
        clear hS hK' K'
        repeat (first | ((first | with_reducible refine lexL_read ?_ | ((with_reducible refine lexL_readG ?_ ?_); (focus rfl))); apply Exists.intro; refine ⟨?_, ?_⟩; (focus (first | exact lex_load (ty := 30) rfl (fun w h => h.1) uK rK (by rw [LH.out]; exact infoHash) | (intro w' hS; obtain ⟨s1, s2⟩ := hS; go_simp; (try with_reducible rfl); done))); try simp only [Act.put, List.setIfInBounds_toArray, List.set_cons_zero, List.set_cons_succ]) | ((first | ((with_reducible refine lexL_skip (c := false) ?_ ?_ ?_); (focus rfl); (focus rfl)) | ((with_reducible refine lexL_skip (c := true) ?_ ?_ ?_); (focus rfl); (focus rfl)) | ((with_reducible refine lexL_skipU ?_ ?_); (focus rfl))); try simp only [Act.put, List.setIfInBounds_toArray, List.set_cons_zero, List.set_cons_succ]))
        (first | with_reducible refine lexL_eff (fun K' hK' => ?_) | ((with_reducible refine lexL_effG ?_ (fun K' hK' => ?_)); (focus rfl)))
        go_simp
        refine (same_b (b := true) AI.out BI.out IL.out IL.out ⟨fun _ => rfl, fun _ => rfl⟩).mono ?_
        rintro e k3 ⟨rfl, f0⟩
        have f := Lib.hid f0
        replace M := Lib.hid (M.out.keep f.out)
        clear f f0 AI BI
        refine hK'.out _ _ ?_ (fun hS => ?_)
        · exact M.out.s
        try simp only [Act.put, List.setIfInBounds_toArray, List.set_cons_zero, List.set_cons_succ]
        clear hS hK' K'
        repeat (first | ((first | with_reducible refine lexL_read ?_ | ((with_reducible refine lexL_readG ?_ ?_); (focus rfl))); apply Exists.intro; refine ⟨?_, ?_⟩; (focus (first | exact lex_load (ty := 30) rfl (fun w h => h.1) uK rK (by rw [LH.out]; exact infoHash) | (intro w' hS; obtain ⟨s1, s2⟩ := hS; go_simp; (try with_reducible rfl); done))); try simp only [Act.put, List.setIfInBounds_toArray, List.set_cons_zero, List.set_cons_succ]) | ((first | ((with_reducible refine lexL_skip (c := false) ?_ ?_ ?_); (focus rfl); (focus rfl)) | ((with_reducible refine lexL_skip (c := true) ?_ ?_ ?_); (focus rfl); (focus rfl)) | ((with_reducible refine lexL_skipU ?_ ?_); (focus rfl))); try simp only [Act.put, List.setIfInBounds_toArray, List.set_cons_zero, List.set_cons_succ]))
        (first | with_reducible refine lexL_eff (fun K' hK' => ?_) | ((with_reducible refine lexL_effG ?_ (fun K' hK' => ?_)); (focus rfl)))
        go_simp
        refine (has_K M.out.g OK.out).mono ?_
        rintro e k4 ⟨rfl, f0⟩
        have f := Lib.hid f0
        replace M := Lib.hid (M.out.keep f.out)
        clear f f0
        refine hK'.out _ _ ?_ (fun hS => ?_)
        · exact M.out.s
        try simp only [Act.put, List.setIfInBounds_toArray, List.set_cons_zero, List.set_cons_succ]
        clear hS hK' K'
        repeat (first | ((first | with_reducible refine lexL_read ?_ | ((with_reducible refine lexL_readG ?_ ?_); (focus rfl))); apply Exists.intro; refine ⟨?_, ?_⟩; (focus (first | exact lex_load (ty := 30) rfl (fun w h => h.1) uK rK (by rw [LH.out]; exact infoHash) | (intro w' hS; obtain ⟨s1, s2⟩ := hS; go_simp; (try with_reducible rfl); done))); try simp only [Act.put, List.setIfInBounds_toArray, List.set_cons_zero, List.set_cons_succ]) | ((first | ((with_reducible refine lexL_skip (c := false) ?_ ?_ ?_); (focus rfl); (focus rfl)) | ((with_reducible refine lexL_skip (c := true) ?_ ?_ ?_); (focus rfl); (focus rfl)) | ((with_reducible refine lexL_skipU ?_ ?_); (focus rfl))); try simp only [Act.put, List.setIfInBounds_toArray, List.set_cons_zero, List.set_cons_succ]))
        (first | with_reducible refine lexL_eff (fun K' hK' => ?_) | ((with_reducible refine lexL_effG ?_ (fun K' hK' => ?_)); (focus rfl)))
        go_simp
        refine (has_R M.out.r (by omega) OK.out).mono ?_
        rintro e k5 ⟨rfl, f0⟩
        have f := Lib.hid f0
        replace M := Lib.hid (M.out.keep f.out)
        clear f f0
        refine hK'.out _ _ ?_ (fun hS => ?_)
        · exact M.out.s
        try simp only [Act.put, List.setIfInBounds_toArray, List.set_cons_zero, List.set_cons_succ]
        clear hS hK' K'
        repeat (first | ((first | with_reducible refine lexL_read ?_ | ((with_reducible refine lexL_readG ?_ ?_); (focus rfl))); apply Exists.intro; refine ⟨?_, ?_⟩; (focus (first | exact lex_load (ty := 30) rfl (fun w h => h.1) uK rK (by rw [LH.out]; exact infoHash) | (intro w' hS; obtain ⟨s1, s2⟩ := hS; go_simp; (try with_reducible rfl); done))); try simp only [Act.put, List.setIfInBounds_toArray, List.set_cons_zero, List.set_cons_succ]) | ((first | ((with_reducible refine lexL_skip (c := false) ?_ ?_ ?_); (focus rfl); (focus rfl)) | ((with_reducible refine lexL_skip (c := true) ?_ ?_ ?_); (focus rfl); (focus rfl)) | ((with_reducible refine lexL_skipU ?_ ?_); (focus rfl))); try simp only [Act.put, List.setIfInBounds_toArray, List.set_cons_zero, List.set_cons_succ]))
        refine lexL_nil (hK.out _ _ ?_)
        go_wp2
        go_roundw
        case rel => exact ⟨n + 1, _, _, by omega, by go_num, by rw [hGn]; exact M.out.g.mono (Nat.le_succ n), by rw [hGn]; exact M.out.r, M.out.d⟩
        case measure => simp [intOf]; omega
      · have AZ := Lib.hid (show cutL G [d.id] = G' by rw [AG.out, if_neg (by decide), if_neg (by decide), if_pos rfl])
        clear AG
        go_upto_region 22 with fail
        refine wp_region_lexL [false, false, false, true, false, false, false, true, false] (fun W => W.rangeAt q0 1 (hashC d.id) ∧ W.cell? ⟨q0, 33, none⟩ = some (.slice xa d.ps.length xc)) (by kernel_rfl) (by kernel_rfl) ?_ (fun K hK => ?_)
        · exact (M.out.keep (Fr.refl No _).drew).s
        have fd := (Fr.refl No wa).drew
        replace M := Lib.hid (M.out.keep fd)
        (try replace PW := Lib.hid (PW.out.keep fd))
        clear fd
        generalize wa.drew = k0 at *
        repeat (first | ((first | with_reducible refine lexL_read ?_ | ((with_reducible refine lexL_readG ?_ ?_); (focus rfl))); apply Exists.intro; refine ⟨?_, ?_⟩; (focus (first | exact lex_load (ty := 30) rfl (fun w h => h.1) uK rK (by rw [LH.out]; exact infoHash) | (intro w' hS; obtain ⟨s1, s2⟩ := hS; go_simp; (try with_reducible rfl); done))); try simp only [Act.put, List.setIfInBounds_toArray, List.set_cons_zero, List.set_cons_succ]) | ((first | ((with_reducible refine lexL_skip (c := false) ?_ ?_ ?_); (focus rfl); (focus rfl)) | ((with_reducible refine lexL_skip (c := true) ?_ ?_ ?_); (focus rfl); (focus rfl)) | ((with_reducible refine lexL_skipU ?_ ?_); (focus rfl))); try simp only [Act.put, List.setIfInBounds_toArray, List.set_cons_zero, List.set_cons_succ]))
        (first | with_reducible refine lexL_eff (fun K' hK' => ?_) | ((with_reducible refine lexL_effG ?_ (fun K' hK' => ?_)); (focus rfl)))
        go_simp
        refine (lift_K M.out.g (by omega) OK.out).mono ?_
        rintro e k1 ⟨rfl, V3, g3, f3, s3⟩
        rw [AZ.out] at g3
        replace M := Lib.hid (M.out.upG g3 f3 (fun j h => .inl (s3 j h)))
        clear g3 f3 s3
        refine hK'.out _ _ ?_ (fun hS => ?_)
        · exact M.out.s
        try simp only [Act.put, List.setIfInBounds_toArray, List.set_cons_zero, List.set_cons_succ]
        clear hS hK' K'
        repeat (first | ((first | with_reducible refine lexL_read ?_ | ((with_reducible refine lexL_readG ?_ ?_); (focus rfl))); apply Exists.intro; refine ⟨?_, ?_⟩; (focus (first | exact lex_load (ty := 30) rfl (fun w h => h.1) uK rK (by rw [LH.out]; exact infoHash) | (intro w' hS; obtain ⟨s1, s2⟩ := hS; go_simp; (try with_reducible rfl); done))); try simp only [Act.put, List.setIfInBounds_toArray, List.set_cons_zero, List.set_cons_succ]) | ((first | ((with_reducible refine lexL_skip (c := false) ?_ ?_ ?_); (focus rfl); (focus rfl)) | ((with_reducible refine lexL_skip (c := true) ?_ ?_ ?_); (focus rfl); (focus rfl)) | ((with_reducible refine lexL_skipU ?_ ?_); (focus rfl))); try simp only [Act.put, List.setIfInBounds_toArray, List.set_cons_zero, List.set_cons_succ]))
        (first | with_reducible refine lexL_eff (fun K' hK' => ?_) | ((with_reducible refine lexL_effG ?_ (fun K' hK' => ?_)); (focus rfl)))
        go_simp
        refine (lift_R M.out.r GK.out (by omega) OK.out).mono ?_
        rintro e k2 ⟨rfl, U3, g3, f3, s3⟩
        rw [AZ.out] at g3
        replace M := Lib.hid (M.out.upR g3 f3 s3)
        clear g3 f3 s3
        refine hK'.out _ _ ?_ (fun hS => ?_)
        · exact M.out.s
        try simp only [Act.put, List.setIfInBounds_toArray, List.set_cons_zero, List.set_cons_succ]
        clear hS hK' K'
        repeat (first | ((first | with_reducible refine lexL_read ?_ | ((with_reducible refine lexL_readG ?_ ?_); (focus rfl))); apply Exists.intro; refine ⟨?_, ?_⟩; (focus (first | exact lex_load (ty := 30) rfl (fun w h => h.1) uK rK (by rw [LH.out]; exact infoHash) | (intro w' hS; obtain ⟨s1, s2⟩ := hS; go_simp; (try with_reducible rfl); done))); try simp only [Act.put, List.setIfInBounds_toArray, List.set_cons_zero, List.set_cons_succ]) | ((first | ((with_reducible refine lexL_skip (c := false) ?_ ?_ ?_); (focus rfl); (focus rfl)) | ((with_reducible refine lexL_skip (c := true) ?_ ?_ ?_); (focus rfl); (focus rfl)) | ((with_reducible refine lexL_skipU ?_ ?_); (focus rfl))); try simp only [Act.put, List.setIfInBounds_toArray, List.set_cons_zero, List.set_cons_succ]))
        refine lexL_nil (hK.out _ _ ?_)
        generalize (if d.id ∈ ids G then (0 : Int) else 9) = ae at *
        go_upto_region 24 with fail
        generalize k2 = zz at *
        have GL : (G').length ≤ 900 := by have := M.out.g.len; omega
        have IL := Lib.hid (show (ids G').length ≤ 100000 by simp only [ids, List.length_map]; omega)
        refine wp_region_lexL [false, true, false, true, true, false, false, false, false, false, true, false, false, false, true, false, false] (fun W => W.rangeAt q0 1 (hashC d.id) ∧ W.cell? ⟨q0, 33, none⟩ = some (.slice xa d.ps.length xc)) (by kernel_rfl) (by kernel_rfl) ?_ (fun K hK => ?_)
        · exact (M.out.keep (Fr.refl No _).drew).s
        have fd := (Fr.refl No zz).drew
        replace M := Lib.hid (M.out.keep fd)
        (try replace PW := Lib.hid (PW.out.keep fd))
        clear fd
        generalize zz.drew = k0 at *
        repeat (first | ((first | with_reducible refine lexL_read ?_ | ((with_reducible refine lexL_readG ?_ ?_); (focus rfl))); apply Exists.intro; refine ⟨?_, ?_⟩; (focus (first | exact lex_load (ty := 30) rfl (fun w h => h.1) uK rK (by rw [LH.out]; exact infoHash) | (intro w' hS; obtain ⟨s1, s2⟩ := hS; go_simp; (try with_reducible rfl); done))); try simp only [Act.put, List.setIfInBounds_toArray, List.set_cons_zero, List.set_cons_succ]) | ((first | ((with_reducible refine lexL_skip (c := false) ?_ ?_ ?_); (focus rfl); (focus rfl)) | ((with_reducible refine lexL_skip (c := true) ?_ ?_ ?_); (focus rfl); (focus rfl)) | ((with_reducible refine lexL_skipU ?_ ?_); (focus rfl))); try simp only [Act.put, List.setIfInBounds_toArray, List.set_cons_zero, List.set_cons_succ]))
        (first | with_reducible refine lexL_eff (fun K' hK' => ?_) | ((with_reducible refine lexL_effG ?_ (fun K' hK' => ?_)); (focus rfl)))
        go_simp
        refine (all_K M.out.g (by omega)).mono ?_
        rintro e k1 ⟨va, rfl, oa⟩
        have f := Lib.hid oa.2
        have AI := Lib.hid (oa.is M.out.g.okId)
        replace M := Lib.hid (M.out.keep f.out)
        clear f oa
        refine hK'.out _ _ ?_ (fun hS => ?_)
        · exact M.out.s
        try simp only [Act.put, List.setIfInBounds_toArray, List.set_cons_zero, List.set_cons_succ]
        clear hS hK' K'
        repeat (first | ((first | with_reducible refine lexL_read ?_ | ((with_reducible refine lexL_readG ?_ ?_); (focus rfl))); apply Exists.intro; refine ⟨?_, ?_⟩; (focus (first | exact lex_load (ty := 30) rfl (fun w h => h.1) uK rK (by rw [LH.out]; exact infoHash) | (intro w' hS; obtain ⟨s1, s2⟩ := hS; go_simp; (try with_reducible rfl); done))); try simp only [Act.put, List.setIfInBounds_toArray, List.set_cons_zero, List.set_cons_succ]) | ((first | ((with_reducible refine lexL_skip (c := false) ?_ ?_ ?_); (focus rfl); (focus rfl)) | ((with_reducible refine lexL_skip (c := true) ?_ ?_ ?_); (focus rfl); (focus rfl)) | ((with_reducible refine lexL_skipU ?_ ?_); (focus rfl))); try simp only [Act.put, List.setIfInBounds_toArray, List.set_cons_zero, List.set_cons_succ]))
        (first | with_reducible refine lexL_eff (fun K' hK' => ?_) | ((with_reducible refine lexL_effG ?_ (fun K' hK' => ?_)); (focus rfl)))
        go_simp
        refine (all_R M.out.r GL).mono ?_
        rintro e k2 ⟨vb, rfl, ob⟩
        have f := Lib.hid ob.2
        have BI := Lib.hid (ob.is M.out.r.okId)
        replace AI := Lib.hid (AI.out.keep f.out)
        replace M := Lib.hid (M.out.keep f.out)
        clear f ob
        refine hK'.out _ _ ?_ (fun hS => ?_)
        · exact M.out.s
        try simp only [Act.put, List.setIfInBounds_toArray, List.set_cons_zero, List.set_cons_succ]
        clear hS hK' K'
        repeat (first | ((first | with_reducible refine lexL_read ?_ | ((with_reducible refine lexL_readG ?_ ?_); (focus rfl))); apply Exists.intro; refine ⟨?_, ?_⟩; (focus (first | exact lex_load (ty := 30) rfl (fun w h => h.1) uK rK (by rw [LH.out]; exact infoHash) | (intro w' hS; obtain ⟨s1, s2⟩ := hS; go_simp; (try with_reducible rfl); done))); try simp only [Act.put, List.setIfInBounds_toArray, List.set_cons_zero, List.set_cons_succ]) | ((first | ((with_reducible refine lexL_skip (c := false) ?_ ?_ ?_); (focus rfl); (focus rfl)) | ((with_reducible refine lexL_skip (c := true) ?_ ?_ ?_); (focus rfl); (focus rfl)) | ((with_reducible refine lexL_skipU ?_ ?_); (focus rfl))); try simp only [Act.put, List.setIfInBounds_toArray, List.set_cons_zero, List.set_cons_succ]))
        (first | with_reducible refine lexL_eff (fun K' hK' => ?_) | ((with_reducible refine lexL_effG ?_ (fun K' hK' => ?_)); (focus rfl)))
        go_simp
        refine (same_b (b := true) AI.out BI.out IL.out IL.out ⟨fun _ => rfl, fun _ => rfl⟩).mono ?_
        rintro e k3 ⟨rfl, f0⟩
        have f := Lib.hid f0
        replace M := Lib.hid (M.out.keep f.out)
        clear f f0 AI BI
        refine hK'.out _ _ ?_ (fun hS => ?_)
        · exact M.out.s
        try simp only [Act.put, List.setIfInBounds_toArray, List.set_cons_zero, List.set_cons_succ]
        clear hS hK' K'
        repeat (first | ((first | with_reducible refine lexL_read ?_ | ((with_reducible refine lexL_readG ?_ ?_); (focus rfl))); apply Exists.intro; refine ⟨?_, ?_⟩; (focus (first | exact lex_load (ty := 30) rfl (fun w h => h.1) uK rK (by rw [LH.out]; exact infoHash) | (intro w' hS; obtain ⟨s1, s2⟩ := hS; go_simp; (try with_reducible rfl); done))); try simp only [Act.put, List.setIfInBounds_toArray, List.set_cons_zero, List.set_cons_succ]) | ((first | ((with_reducible refine lexL_skip (c := false) ?_ ?_ ?_); (focus rfl); (focus rfl)) | ((with_reducible refine lexL_skip (c := true) ?_ ?_ ?_); (focus rfl); (focus rfl)) | ((with_reducible refine lexL_skipU ?_ ?_); (focus rfl))); try simp only [Act.put, List.setIfInBounds_toArray, List.set_cons_zero, List.set_cons_succ]))
        (first | with_reducible refine lexL_eff (fun K' hK' => ?_) | ((with_reducible refine lexL_effG ?_ (fun K' hK' => ?_)); (focus rfl)))
        go_simp
        refine (has_K M.out.g OK.out).mono ?_
        rintro e k4 ⟨rfl, f0⟩
        have f := Lib.hid f0
        replace M := Lib.hid (M.out.keep f.out)
        clear f f0
        refine hK'.out _ _ ?_ (fun hS => ?_)
        · exact M.out.s
        try simp only [Act.put, List.setIfInBounds_toArray, List.set_cons_zero, List.set_cons_succ]
        clear hS hK' K'
        repeat (first | ((first | with_reducible refine lexL_read ?_ | ((with_reducible refine lexL_readG ?_ ?_); (focus rfl))); apply Exists.intro; refine ⟨?_, ?_⟩; (focus (first | exact lex_load (ty := 30) rfl (fun w h => h.1) uK rK (by rw [LH.out]; exact infoHash) | (intro w' hS; obtain ⟨s1, s2⟩ := hS; go_simp; (try with_reducible rfl); done))); try simp only [Act.put, List.setIfInBounds_toArray, List.set_cons_zero, List.set_cons_succ]) | ((first | ((with_reducible refine lexL_skip (c := false) ?_ ?_ ?_); (focus rfl); (focus rfl)) | ((with_reducible refine lexL_skip (c := true) ?_ ?_ ?_); (focus rfl); (focus rfl)) | ((with_reducible refine lexL_skipU ?_ ?_); (focus rfl))); try simp only [Act.put, List.setIfInBounds_toArray, List.set_cons_zero, List.set_cons_succ]))
        (first | with_reducible refine lexL_eff (fun K' hK' => ?_) | ((with_reducible refine lexL_effG ?_ (fun K' hK' => ?_)); (focus rfl)))
        go_simp
        refine (has_R M.out.r (by omega) OK.out).mono ?_
        rintro e k5 ⟨rfl, f0⟩
        have f := Lib.hid f0
        replace M := Lib.hid (M.out.keep f.out)
        clear f f0
        refine hK'.out _ _ ?_ (fun hS => ?_)
        · exact M.out.s
        try simp only [Act.put, List.setIfInBounds_toArray, List.set_cons_zero, List.set_cons_succ]
        clear hS hK' K'
        repeat (first | ((first | with_reducible refine lexL_read ?_ | ((with_reducible refine lexL_readG ?_ ?_); (focus rfl))); apply Exists.intro; refine ⟨?_, ?_⟩; (focus (first | exact lex_load (ty := 30) rfl (fun w h => h.1) uK rK (by rw [LH.out]; exact infoHash) | (intro w' hS; obtain ⟨s1, s2⟩ := hS; go_simp; (try with_reducible rfl); done))); try simp only [Act.put, List.setIfInBounds_toArray, List.set_cons_zero, List.set_cons_succ]) | ((first | ((with_reducible refine lexL_skip (c := false) ?_ ?_ ?_); (focus rfl); (focus rfl)) | ((with_reducible refine lexL_skip (c := true) ?_ ?_ ?_); (focus rfl); (focus rfl)) | ((with_reducible refine lexL_skipU ?_ ?_); (focus rfl))); try simp only [Act.put, List.setIfInBounds_toArray, List.set_cons_zero, List.set_cons_succ]))
        refine lexL_nil (hK.out _ _ ?_)
        go_wp2
        go_roundw
        case rel => exact ⟨n + 1, _, _, by omega, by go_num, by rw [hGn]; exact M.out.g.mono (Nat.le_succ n), by rw [hGn]; exact M.out.r, M.out.d⟩
        case measure => simp [intOf]; omega
      · have AZ : G = G' := by rw [AG.out, if_neg q1, if_neg q2, if_neg q3]
        have p1 : (kd == (0 : Int)) = false := by simpa using q1
        have p2 : (kd == (1 : Int)) = false := by simpa using q2
        have p3 : (kd == (2 : Int)) = false := by simpa using q3
        clear AG q1 q2 q3
        subst AZ
        have UL := Lib.hid (show (upS G d.ps).length ≤ 100000 by have := up_len (G := G) d.ps; omega)
        have DL := Lib.hid (show (downS G d.ps).length ≤ 100000 by have := down_len (G := G) d.ps; omega)
        go_upto_region 11 with fail
        refine wp_region_lexL [false, false, false, true, false, false, false, true, true, false, false, false, false, false, true, false, false, false, true, true, false, false] (fun W => W.rangeAt q0 1 (hashC d.id) ∧ W.cell? ⟨q0, 33, none⟩ = some (.slice xa d.ps.length xc)) (by kernel_rfl) (by kernel_rfl) ?_ (fun K hK => ?_)
        · exact (M.out.keep (Fr.refl No _).drew).s
        have fd := (Fr.refl No wa).drew
        replace M := Lib.hid (M.out.keep fd)
        (try replace PW := Lib.hid (PW.out.keep fd))
        clear fd
        generalize wa.drew = k0 at *
        repeat (first | ((first | with_reducible refine lexL_read ?_ | ((with_reducible refine lexL_readG ?_ ?_); (focus rfl))); apply Exists.intro; refine ⟨?_, ?_⟩; (focus (first | exact lex_load (ty := 30) rfl (fun w h => h.1) uK rK (by rw [LH.out]; exact infoHash) | (intro w' hS; obtain ⟨s1, s2⟩ := hS; go_simp; (try with_reducible rfl); done))); try simp only [Act.put, List.setIfInBounds_toArray, List.set_cons_zero, List.set_cons_succ]) | ((first | ((with_reducible refine lexL_skip (c := false) ?_ ?_ ?_); (focus rfl); (focus rfl)) | ((with_reducible refine lexL_skip (c := true) ?_ ?_ ?_); (focus rfl); (focus rfl)) | ((with_reducible refine lexL_skipU ?_ ?_); (focus rfl))); try simp only [Act.put, List.setIfInBounds_toArray, List.set_cons_zero, List.set_cons_succ]))
        (first | with_reducible refine lexL_eff (fun K' hK' => ?_) | ((with_reducible refine lexL_effG ?_ (fun K' hK' => ?_)); (focus rfl)))
        go_simp
        refine (up_K M.out.g (by omega) PW.out (by omega)).mono ?_
        rintro e k1 ⟨va, rfl, oa⟩
        have f := Lib.hid oa.2
        have AI := Lib.hid (oa.is (M.out.g.okUp _))
        replace PW := Lib.hid (PW.out.keep f.out)
        replace M := Lib.hid (M.out.keep f.out)
        clear f oa
        refine hK'.out _ _ ?_ (fun hS => ?_)
        · exact M.out.s
        try simp only [Act.put, List.setIfInBounds_toArray, List.set_cons_zero, List.set_cons_succ]
        clear hS hK' K'
        repeat (first | ((first | with_reducible refine lexL_read ?_ | ((with_reducible refine lexL_readG ?_ ?_); (focus rfl))); apply Exists.intro; refine ⟨?_, ?_⟩; (focus (first | exact lex_load (ty := 30) rfl (fun w h => h.1) uK rK (by rw [LH.out]; exact infoHash) | (intro w' hS; obtain ⟨s1, s2⟩ := hS; go_simp; (try with_reducible rfl); done))); try simp only [Act.put, List.setIfInBounds_toArray, List.set_cons_zero, List.set_cons_succ]) | ((first | ((with_reducible refine lexL_skip (c := false) ?_ ?_ ?_); (focus rfl); (focus rfl)) | ((with_reducible refine lexL_skip (c := true) ?_ ?_ ?_); (focus rfl); (focus rfl)) | ((with_reducible refine lexL_skipU ?_ ?_); (focus rfl))); try simp only [Act.put, List.setIfInBounds_toArray, List.set_cons_zero, List.set_cons_succ]))
        (first | with_reducible refine lexL_eff (fun K' hK' => ?_) | ((with_reducible refine lexL_effG ?_ (fun K' hK' => ?_)); (focus rfl)))
        go_simp
        refine (up_R M.out.r GK.out (by omega) PW.out (by omega)).mono ?_
        rintro e k2 ⟨vb, rfl, ob⟩
        have f := Lib.hid ob.2
        have BI := Lib.hid (ob.is (M.out.g.okUp _))
        replace AI := Lib.hid (AI.out.keep f.out)
        replace PW := Lib.hid (PW.out.keep f.out)
        replace M := Lib.hid (M.out.keep f.out)
        clear f ob
        refine hK'.out _ _ ?_ (fun hS => ?_)
        · exact M.out.s
        try simp only [Act.put, List.setIfInBounds_toArray, List.set_cons_zero, List.set_cons_succ]
        clear hS hK' K'
        repeat (first | ((first | with_reducible refine lexL_read ?_ | ((with_reducible refine lexL_readG ?_ ?_); (focus rfl))); apply Exists.intro; refine ⟨?_, ?_⟩; (focus (first | exact lex_load (ty := 30) rfl (fun w h => h.1) uK rK (by rw [LH.out]; exact infoHash) | (intro w' hS; obtain ⟨s1, s2⟩ := hS; go_simp; (try with_reducible rfl); done))); try simp only [Act.put, List.setIfInBounds_toArray, List.set_cons_zero, List.set_cons_succ]) | ((first | ((with_reducible refine lexL_skip (c := false) ?_ ?_ ?_); (focus rfl); (focus rfl)) | ((with_reducible refine lexL_skip (c := true) ?_ ?_ ?_); (focus rfl); (focus rfl)) | ((with_reducible refine lexL_skipU ?_ ?_); (focus rfl))); try simp only [Act.put, List.setIfInBounds_toArray, List.set_cons_zero, List.set_cons_succ]))
        (first | with_reducible refine lexL_eff (fun K' hK' => ?_) | ((with_reducible refine lexL_effG ?_ (fun K' hK' => ?_)); (focus rfl)))
        go_simp
        refine (same_b (b := true) AI.out BI.out UL.out UL.out ⟨fun _ => rfl, fun _ => rfl⟩).mono ?_
        rintro e k3 ⟨rfl, f0⟩
        have f := Lib.hid f0
        replace PW := Lib.hid (PW.out.keep f.out)
        replace M := Lib.hid (M.out.keep f.out)
        clear f f0 AI BI
        refine hK'.out _ _ ?_ (fun hS => ?_)
        · exact M.out.s
        try simp only [Act.put, List.setIfInBounds_toArray, List.set_cons_zero, List.set_cons_succ]
        clear hS hK' K'
        repeat (first | ((first | with_reducible refine lexL_read ?_ | ((with_reducible refine lexL_readG ?_ ?_); (focus rfl))); apply Exists.intro; refine ⟨?_, ?_⟩; (focus (first | exact lex_load (ty := 30) rfl (fun w h => h.1) uK rK (by rw [LH.out]; exact infoHash) | (intro w' hS; obtain ⟨s1, s2⟩ := hS; go_simp; (try with_reducible rfl); done))); try simp only [Act.put, List.setIfInBounds_toArray, List.set_cons_zero, List.set_cons_succ]) | ((first | ((with_reducible refine lexL_skip (c := false) ?_ ?_ ?_); (focus rfl); (focus rfl)) | ((with_reducible refine lexL_skip (c := true) ?_ ?_ ?_); (focus rfl); (focus rfl)) | ((with_reducible refine lexL_skipU ?_ ?_); (focus rfl))); try simp only [Act.put, List.setIfInBounds_toArray, List.set_cons_zero, List.set_cons_succ]))
        (first | with_reducible refine lexL_eff (fun K' hK' => ?_) | ((with_reducible refine lexL_effG ?_ (fun K' hK' => ?_)); (focus rfl)))
        go_simp
        refine (down_K M.out.g (by omega) PW.out (by omega)).mono ?_
        rintro e k4 ⟨va, rfl, oa⟩
        have f := Lib.hid oa.2
        have AI := Lib.hid (oa.is (M.out.g.okDown _))
        replace PW := Lib.hid (PW.out.keep f.out)
        replace M := Lib.hid (M.out.keep f.out)
        clear f oa
        refine hK'.out _ _ ?_ (fun hS => ?_)
        · exact M.out.s
        try simp only [Act.put, List.setIfInBounds_toArray, List.set_cons_zero, List.set_cons_succ]
        clear hS hK' K'
        repeat (first | ((first | with_reducible refine lexL_read ?_ | ((with_reducible refine lexL_readG ?_ ?_); (focus rfl))); apply Exists.intro; refine ⟨?_, ?_⟩; (focus (first | exact lex_load (ty := 30) rfl (fun w h => h.1) uK rK (by rw [LH.out]; exact infoHash) | (intro w' hS; obtain ⟨s1, s2⟩ := hS; go_simp; (try with_reducible rfl); done))); try simp only [Act.put, List.setIfInBounds_toArray, List.set_cons_zero, List.set_cons_succ]) | ((first | ((with_reducible refine lexL_skip (c := false) ?_ ?_ ?_); (focus rfl); (focus rfl)) | ((with_reducible refine lexL_skip (c := true) ?_ ?_ ?_); (focus rfl); (focus rfl)) | ((with_reducible refine lexL_skipU ?_ ?_); (focus rfl))); try simp only [Act.put, List.setIfInBounds_toArray, List.set_cons_zero, List.set_cons_succ]))
        (first | with_reducible refine lexL_eff (fun K' hK' => ?_) | ((with_reducible refine lexL_effG ?_ (fun K' hK' => ?_)); (focus rfl)))
        go_simp
        refine (down_R M.out.r GK.out (by omega) PW.out (by omega)).mono ?_
        rintro e k5 ⟨vb, rfl, ob⟩
        have f := Lib.hid ob.2
        have BI := Lib.hid (ob.is (M.out.g.okDown _))
        replace AI := Lib.hid (AI.out.keep f.out)
        replace PW := Lib.hid (PW.out.keep f.out)
        replace M := Lib.hid (M.out.keep f.out)
        clear f ob
        refine hK'.out _ _ ?_ (fun hS => ?_)
        · exact M.out.s
        try simp only [Act.put, List.setIfInBounds_toArray, List.set_cons_zero, List.set_cons_succ]
        clear hS hK' K'
        repeat (first | ((first | with_reducible refine lexL_read ?_ | ((with_reducible refine lexL_readG ?_ ?_); (focus rfl))); apply Exists.intro; refine ⟨?_, ?_⟩; (focus (first | exact lex_load (ty := 30) rfl (fun w h => h.1) uK rK (by rw [LH.out]; exact infoHash) | (intro w' hS; obtain ⟨s1, s2⟩ := hS; go_simp; (try with_reducible rfl); done))); try simp only [Act.put, List.setIfInBounds_toArray, List.set_cons_zero, List.set_cons_succ]) | ((first | ((with_reducible refine lexL_skip (c := false) ?_ ?_ ?_); (focus rfl); (focus rfl)) | ((with_reducible refine lexL_skip (c := true) ?_ ?_ ?_); (focus rfl); (focus rfl)) | ((with_reducible refine lexL_skipU ?_ ?_); (focus rfl))); try simp only [Act.put, List.setIfInBounds_toArray, List.set_cons_zero, List.set_cons_succ]))
        (first | with_reducible refine lexL_eff (fun K' hK' => ?_) | ((with_reducible refine lexL_effG ?_ (fun K' hK' => ?_)); (focus rfl)))
        go_simp
        refine (same_b (b := true) AI.out BI.out DL.out DL.out ⟨fun _ => rfl, fun _ => rfl⟩).mono ?_
        rintro e k6 ⟨rfl, f0⟩
        have f := Lib.hid f0
        replace PW := Lib.hid (PW.out.keep f.out)
        replace M := Lib.hid (M.out.keep f.out)
        clear f f0 AI BI
        refine hK'.out _ _ ?_ (fun hS => ?_)
        · exact M.out.s
        try simp only [Act.put, List.setIfInBounds_toArray, List.set_cons_zero, List.set_cons_succ]
        clear hS hK' K'
        repeat (first | ((first | with_reducible refine lexL_read ?_ | ((with_reducible refine lexL_readG ?_ ?_); (focus rfl))); apply Exists.intro; refine ⟨?_, ?_⟩; (focus (first | exact lex_load (ty := 30) rfl (fun w h => h.1) uK rK (by rw [LH.out]; exact infoHash) | (intro w' hS; obtain ⟨s1, s2⟩ := hS; go_simp; (try with_reducible rfl); done))); try simp only [Act.put, List.setIfInBounds_toArray, List.set_cons_zero, List.set_cons_succ]) | ((first | ((with_reducible refine lexL_skip (c := false) ?_ ?_ ?_); (focus rfl); (focus rfl)) | ((with_reducible refine lexL_skip (c := true) ?_ ?_ ?_); (focus rfl); (focus rfl)) | ((with_reducible refine lexL_skipU ?_ ?_); (focus rfl))); try simp only [Act.put, List.setIfInBounds_toArray, List.set_cons_zero, List.set_cons_succ]))
        refine lexL_nil (hK.out _ _ ?_)
        clear UL DL PW
        go_upto_region 24 with fail
        generalize k6 = zz at *
        have GL : (G).length ≤ 900 := by have := M.out.g.len; omega
        have IL := Lib.hid (show (ids G).length ≤ 100000 by simp only [ids, List.length_map]; omega)
        refine wp_region_lexL [false, true, false, true, true, false, false, false, false, false, true, false, false, false, true, false, false] (fun W => W.rangeAt q0 1 (hashC d.id) ∧ W.cell? ⟨q0, 33, none⟩ = some (.slice xa d.ps.length xc)) (by kernel_rfl) (by kernel_rfl) ?_ (fun K hK => ?_)
        · exact (M.out.keep (Fr.refl No _).drew).s
        have fd := (Fr.refl No zz).drew
        replace M := Lib.hid (M.out.keep fd)
        (try replace PW := Lib.hid (PW.out.keep fd))
        clear fd
        generalize zz.drew = k0 at *
        repeat (first | ((first | with_reducible refine lexL_read ?_ | ((with_reducible refine lexL_readG ?_ ?_); (focus rfl))); apply Exists.intro; refine ⟨?_, ?_⟩; (focus (first | exact lex_load (ty := 30) rfl (fun w h => h.1) uK rK (by rw [LH.out]; exact infoHash) | (intro w' hS; obtain ⟨s1, s2⟩ := hS; go_simp; (try with_reducible rfl); done))); try simp only [Act.put, List.setIfInBounds_toArray, List.set_cons_zero, List.set_cons_succ]) | ((first | ((with_reducible refine lexL_skip (c := false) ?_ ?_ ?_); (focus rfl); (focus rfl)) | ((with_reducible refine lexL_skip (c := true) ?_ ?_ ?_); (focus rfl); (focus rfl)) | ((with_reducible refine lexL_skipU ?_ ?_); (focus rfl))); try simp only [Act.put, List.setIfInBounds_toArray, List.set_cons_zero, List.set_cons_succ]))
        (first | with_reducible refine lexL_eff (fun K' hK' => ?_) | ((with_reducible refine lexL_effG ?_ (fun K' hK' => ?_)); (focus rfl)))
        go_simp
        refine (all_K M.out.g (by omega)).mono ?_
        rintro e k1 ⟨va, rfl, oa⟩
        have f := Lib.hid oa.2
        have AI := Lib.hid (oa.is M.out.g.okId)
        replace M := Lib.hid (M.out.keep f.out)
        clear f oa
        refine hK'.out _ _ ?_ (fun hS => ?_)
        · exact M.out.s
        try simp only [Act.put, List.setIfInBounds_toArray, List.set_cons_zero, List.set_cons_succ]
        clear hS hK' K'
        repeat (first | ((first | with_reducible refine lexL_read ?_ | ((with_reducible refine lexL_readG ?_ ?_); (focus rfl))); apply Exists.intro; refine ⟨?_, ?_⟩; (focus (first | exact lex_load (ty := 30) rfl (fun w h => h.1) uK rK (by rw [LH.out]; exact infoHash) | (intro w' hS; obtain ⟨s1, s2⟩ := hS; go_simp; (try with_reducible rfl); done))); try simp only [Act.put, List.setIfInBounds_toArray, List.set_cons_zero, List.set_cons_succ]) | ((first | ((with_reducible refine lexL_skip (c := false) ?_ ?_ ?_); (focus rfl); (focus rfl)) | ((with_reducible refine lexL_skip (c := true) ?_ ?_ ?_); (focus rfl); (focus rfl)) | ((with_reducible refine lexL_skipU ?_ ?_); (focus rfl))); try simp only [Act.put, List.setIfInBounds_toArray, List.set_cons_zero, List.set_cons_succ]))
        (first | with_reducible refine lexL_eff (fun K' hK' => ?_) | ((with_reducible refine lexL_effG ?_ (fun K' hK' => ?_)); (focus rfl)))
        go_simp
        refine (all_R M.out.r GL).mono ?_
        rintro e k2 ⟨vb, rfl, ob⟩
        have f := Lib.hid ob.2
        have BI := Lib.hid (ob.is M.out.r.okId)
        replace AI := Lib.hid (AI.out.keep f.out)
        replace M := Lib.hid (M.out.keep f.out)
        clear f ob
        refine hK'.out _ _ ?_ (fun hS => ?_)
        · exact M.out.s
        try simp only [Act.put, List.setIfInBounds_toArray, List.set_cons_zero, List.set_cons_succ]
        clear hS hK' K'
        repeat (first | ((first | with_reducible refine lexL_read ?_ | ((with_reducible refine lexL_readG ?_ ?_); (focus rfl))); apply Exists.intro; refine ⟨?_, ?_⟩; (focus (first | exact lex_load (ty := 30) rfl (fun w h => h.1) uK rK (by rw [LH.out]; exact infoHash) | (intro w' hS; obtain ⟨s1, s2⟩ := hS; go_simp; (try with_reducible rfl); done))); try simp only [Act.put, List.setIfInBounds_toArray, List.set_cons_zero, List.set_cons_succ]) | ((first | ((with_reducible refine lexL_skip (c := false) ?_ ?_ ?_); (focus rfl); (focus rfl)) | ((with_reducible refine lexL_skip (c := true) ?_ ?_ ?_); (focus rfl); (focus rfl)) | ((with_reducible refine lexL_skipU ?_ ?_); (focus rfl))); try simp only [Act.put, List.setIfInBounds_toArray, List.set_cons_zero, List.set_cons_succ]))
        (first | with_reducible refine lexL_eff (fun K' hK' => ?_) | ((with_reducible refine lexL_effG ?_ (fun K' hK' => ?_)); (focus rfl)))
        go_simp
        refine (same_b (b := true) AI.out BI.out IL.out IL.out ⟨fun _ => rfl, fun _ => rfl⟩).mono ?_
        rintro e k3 ⟨rfl, f0⟩
        have f := Lib.hid f0
        replace M := Lib.hid (M.out.keep f.out)
        clear f f0 AI BI
        refine hK'.out _ _ ?_ (fun hS => ?_)
        · exact M.out.s
        try simp only [Act.put, List.setIfInBounds_toArray, List.set_cons_zero, List.set_cons_succ]
        clear hS hK' K'
        repeat (first | ((first | with_reducible refine lexL_read ?_ | ((with_reducible refine lexL_readG ?_ ?_); (focus rfl))); apply Exists.intro; refine ⟨?_, ?_⟩; (focus (first | exact lex_load (ty := 30) rfl (fun w h => h.1) uK rK (by rw [LH.out]; exact infoHash) | (intro w' hS; obtain ⟨s1, s2⟩ := hS; go_simp; (try with_reducible rfl); done))); try simp only [Act.put, List.setIfInBounds_toArray, List.set_cons_zero, List.set_cons_succ]) | ((first | ((with_reducible refine lexL_skip (c := false) ?_ ?_ ?_); (focus rfl); (focus rfl)) | ((with_reducible refine lexL_skip (c := true) ?_ ?_ ?_); (focus rfl); (focus rfl)) | ((with_reducible refine lexL_skipU ?_ ?_); (focus rfl))); try simp only [Act.put, List.setIfInBounds_toArray, List.set_cons_zero, List.set_cons_succ]))
        (first | with_reducible refine lexL_eff (fun K' hK' => ?_) | ((with_reducible refine lexL_effG ?_ (fun K' hK' => ?_)); (focus rfl)))
        go_simp
        refine (has_K M.out.g OK.out).mono ?_
        rintro e k4 ⟨rfl, f0⟩
        have f := Lib.hid f0
        replace M := Lib.hid (M.out.keep f.out)
        clear f f0
        refine hK'.out _ _ ?_ (fun hS => ?_)
        · exact M.out.s
        try simp only [Act.put, List.setIfInBounds_toArray, List.set_cons_zero, List.set_cons_succ]
        clear hS hK' K'
        repeat (first | ((first | with_reducible refine lexL_read ?_ | ((with_reducible refine lexL_readG ?_ ?_); (focus rfl))); apply Exists.intro; refine ⟨?_, ?_⟩; (focus (first | exact lex_load (ty := 30) rfl (fun w h => h.1) uK rK (by rw [LH.out]; exact infoHash) | (intro w' hS; obtain ⟨s1, s2⟩ := hS; go_simp; (try with_reducible rfl); done))); try simp only [Act.put, List.setIfInBounds_toArray, List.set_cons_zero, List.set_cons_succ]) | ((first | ((with_reducible refine lexL_skip (c := false) ?_ ?_ ?_); (focus rfl); (focus rfl)) | ((with_reducible refine lexL_skip (c := true) ?_ ?_ ?_); (focus rfl); (focus rfl)) | ((with_reducible refine lexL_skipU ?_ ?_); (focus rfl))); try simp only [Act.put, List.setIfInBounds_toArray, List.set_cons_zero, List.set_cons_succ]))
        (first | with_reducible refine lexL_eff (fun K' hK' => ?_) | ((with_reducible refine lexL_effG ?_ (fun K' hK' => ?_)); (focus rfl)))
        go_simp
        refine (has_R M.out.r (by omega) OK.out).mono ?_
        rintro e k5 ⟨rfl, f0⟩
        have f := Lib.hid f0
        replace M := Lib.hid (M.out.keep f.out)
        clear f f0
        refine hK'.out _ _ ?_ (fun hS => ?_)
        · exact M.out.s
        try simp only [Act.put, List.setIfInBounds_toArray, List.set_cons_zero, List.set_cons_succ]
        clear hS hK' K'
        repeat (first | ((first | with_reducible refine lexL_read ?_ | ((with_reducible refine lexL_readG ?_ ?_); (focus rfl))); apply Exists.intro; refine ⟨?_, ?_⟩; (focus (first | exact lex_load (ty := 30) rfl (fun w h => h.1) uK rK (by rw [LH.out]; exact infoHash) | (intro w' hS; obtain ⟨s1, s2⟩ := hS; go_simp; (try with_reducible rfl); done))); try simp only [Act.put, List.setIfInBounds_toArray, List.set_cons_zero, List.set_cons_succ]) | ((first | ((with_reducible refine lexL_skip (c := false) ?_ ?_ ?_); (focus rfl); (focus rfl)) | ((with_reducible refine lexL_skip (c := true) ?_ ?_ ?_); (focus rfl); (focus rfl)) | ((with_reducible refine lexL_skipU ?_ ?_); (focus rfl))); try simp only [Act.put, List.setIfInBounds_toArray, List.set_cons_zero, List.set_cons_succ]))
        refine lexL_nil (hK.out _ _ ?_)
        go_wp2
        go_roundw
        case rel => exact ⟨n + 1, _, _, by omega, by go_num, by rw [hGn]; exact M.out.g.mono (Nat.le_succ n), by rw [hGn]; exact M.out.r, M.out.d⟩
        case measure => simp [intOf]; omega
    · have hnx : n = L.length := by omega
      have i1 : ¬ (n : Int) < (L.length : Int) := by omega
      go_wp2
      go_ret
      exact ⟨rfl, F2.out.trans0 GC0.out.fr⟩
end Go.Proofs.Ytnjkpjcnmdgoeaa
