/- KinParts: the walk (printed by gen_kin.py). -/
import Derived.Test.YtnjkpjcnmdgoeaaKinU
import Derived.Test.YtnjkpjcnmdgoeaaKinV
import Derived.Test.YtnjkpjcnmdgoeaaSeq
import Derived.Test.YtnjkpjcnmdgoeaaTree
import Derived.Deep.Cut
namespace Go.Proofs.Ytnjkpjcnmdgoeaa
open Go Go.RowKit Go.Maps Go.MapKept

theorem mem_up_app {G : List NodeD} {A B : List HashD} {x : HashD} : x ∈ upS G (A ++ B) ↔ x ∈ upS G A ∨ x ∈ upS G B := by
  simp only [mem_up, List.mem_append]
  exact ⟨fun ⟨a, h, r⟩ => h.elim (fun h => .inl ⟨a, h, r⟩) (fun h => .inr ⟨a, h, r⟩), fun h => h.elim (fun ⟨a, h, r⟩ => ⟨a, .inl h, r⟩) (fun ⟨a, h, r⟩ => ⟨a, .inr h, r⟩)⟩
theorem mem_down_app {G : List NodeD} {A B : List HashD} {x : HashD} : x ∈ downS G (B ++ A) ↔ x ∈ downS G A ∨ x ∈ downS G B := by
  simp only [mem_down, List.mem_append]
  exact ⟨fun ⟨a, h, r⟩ => h.elim (fun h => .inr ⟨a, h, r⟩) (fun h => .inl ⟨a, h, r⟩), fun h => h.elim (fun ⟨a, h, r⟩ => ⟨a, .inr h, r⟩) (fun ⟨a, h, r⟩ => ⟨a, .inl h, r⟩)⟩
structure PartAt (w : World) (U X Y D Z E : List HashD) (u x y d z e : Value) (q : Nat) (k : HashD) : Prop where
  u : IdsIs w u U
  x : IdsIs w x X
  y : IdsIs w y Y
  d : IdsIs w d D
  z : IdsIs w z Z
  e : IdsIs w e E
  r : w.rangeAt q 0 (hashC k)
theorem PartAt.keep {w w' : World} {U X Y D Z E : List HashD} {u x y d z e : Value} {q : Nat} {k : HashD} (h : PartAt w U X Y D Z E u x y d z e q k) (f : Fr No w w') : PartAt w' U X Y D Z E u x y d z e q k :=
  ⟨h.u.keep f, h.x.keep f, h.y.keep f, h.d.keep f, h.z.keep f, h.e.keep f, range_keep h.r f id⟩

set_option maxRecDepth 100000 in
set_option maxHeartbeats 8000000 in
theorem parts_any (w : World) {v : Value} {L : List KActD} (hl : KActsIs w v L) {a b : Value} {A B : List HashD} (ha : IdsIs w a A) (hb : IdsIs w b B) (la : A.length ≤ 140737488355327) (lb : B.length ≤ 140737488355327) :
    Calls Try.prog 6 #[v, a, b] w fun e w' => e = .returned (.bool true) ∧ Fr No w w' := by
  obtain ⟨dK, uK, rK⟩ := descHash
  have HL := Lib.hid hl
  obtain ⟨va, vc, rfl, -, -⟩ := hl
  have zh := zeroHash
  obtain ⟨aa, ac, rfl⟩ := ha.2.form
  obtain ⟨ba, bc, rfl⟩ := hb.2.form
  have HA := Lib.hid ha
  have HB := Lib.hid hb
  clear ha hb
  have e0 : IntKind.i64.wrap ((A.length : Int) + (B.length : Int)) = (A.length : Int) + (B.length : Int) := IntWalk.i64_in _ (by omega)
  by_cases hg : kgreat L = true
  · go_enter Try.func6, Try.ntmps6
    go_wp2_with (first | (go_at_call 10; refine (aliveK_any w).mono ?_; rintro e w1 ⟨rfl, f1⟩; have F1 := Lib.hid f1; clear f1) | (go_at_call 11; refine (kgreat_any w1 (HL.out.keep F1.out)).mono ?_; rintro e w2 ⟨rfl, f2⟩; rw [hg]; have F2 := Lib.hid (F1.out.trans0 f2); clear f2))
    go_ret
    exact ⟨rfl, F2.out⟩
  have hg0 : kgreat L = false := by simpa using hg
  clear hg
  by_cases h60 : 60 < A.length + B.length
  · have e1 : decide ((60 : Int) < (A.length : Int) + (B.length : Int)) = true := by simp; omega
    clear h60
    go_enter Try.func6, Try.ntmps6
    go_wp2_with (first | (go_at_call 10; refine (aliveK_any w).mono ?_; rintro e w1 ⟨rfl, f1⟩; have F1 := Lib.hid f1; clear f1) | (go_at_call 11; refine (kgreat_any w1 (HL.out.keep F1.out)).mono ?_; rintro e w2 ⟨rfl, f2⟩; rw [hg0]; have F2 := Lib.hid (F1.out.trans0 f2); clear f2))
    go_ret
    exact ⟨rfl, F2.out⟩
  have e1 : decide ((60 : Int) < (A.length : Int) + (B.length : Int)) = false := by simp; omega
  have l60 : A.length + B.length ≤ 60 := by omega
  clear h60 la lb
  go_enter Try.func6, Try.ntmps6
  have M0 := Lib.hid True.intro
  have M1 := Lib.hid True.intro
  have M2 := Lib.hid True.intro
  have M3 := Lib.hid True.intro
  have M4 := Lib.hid True.intro
  have M5 := Lib.hid True.intro
  have M6 := Lib.hid True.intro
  have M7 := Lib.hid True.intro
  have M8 := Lib.hid True.intro
  have M9 := Lib.hid True.intro
  have M10 := Lib.hid True.intro
  have M11 := Lib.hid True.intro
  have M12 := Lib.hid True.intro
  have M13 := Lib.hid True.intro
  go_wp2_with (first | (have mk := M0.out; (go_at_call 10; refine (aliveK_any w).mono ?_; rintro e w1 ⟨rfl, f1⟩; have F1 := Lib.hid f1; clear f1); go_frame; clear mk M0) | (have mk := M1.out; (go_at_call 11; refine (kgreat_any w1 (HL.out.keep F1.out)).mono ?_; rintro e w2 ⟨rfl, f2⟩; rw [hg0]; have F2 := Lib.hid (F1.out.trans0 f2); clear f2); go_frame; clear mk M1) | (have mk := M2.out; (go_at_call 12; refine (grown_any w2 (HL.out.keep F2.out) hg0).mono ?_; rintro e w3 ⟨p, V, rfl, g3, b3⟩; generalize grownG L = G at g3 b3; have G3 := Lib.hid g3; have B3 := Lib.hid b3; have F3 := Lib.hid (F2.out.trans0 g3.fr); clear g3 b3); go_frame; clear mk M2) | (have mk := M3.out; (at_builtin; obtain ⟨v4, w4, ap, oo, ff⟩ := append_ids (w3.alloc (.cells #[] 30)) (own_made w3) (HA.out.keep (F3.out.alloc _)) (by simp; omega) (by simp); refine wpList_append_run rfl rfl rfl rfl ap ?_; have F4 := Lib.hid (own_fr ((Fr.refl No w3).alloc (.cells #[] 30)) (own_made w3) (Nat.le_refl _) ff); have O4 := Lib.hid oo; clear ap oo ff; rw [List.nil_append] at O4); go_frame; clear mk M3) | (have mk := M4.out; (at_builtin; obtain ⟨v5, w5, ap, oo, ff⟩ := append_ids w4 O4.out (HB.out.keep (F3.out.trans0 F4.out)) (by omega) F4.out.size; refine wpList_append_run rfl rfl rfl rfl ap ?_; have F5 := Lib.hid (own_fr F4.out O4.out (Nat.le_refl _) ff); have O5 := Lib.hid oo; clear ap oo ff O4); go_frame; clear mk M4) | (have mk := M5.out; (go_at_call 14; refine (up_K (G3.out.fr0 F5.out) (by decide) (IdsIs.own O5.out (by intro c hc; rcases List.mem_append.1 hc with h | h <;> first | exact HA.out.1 c h | exact HB.out.1 c h)) (by rw [List.length_append]; omega)).mono ?_; rintro e w6 ⟨v6, rfl, o6⟩; have U6 := Lib.hid (o6.is (G3.out.okUp _)); have F6 := Lib.hid (F5.out.trans0 o6.2); clear o6); go_frame; clear mk M5) | (have mk := M6.out; (at_builtin; obtain ⟨v7, w7, ap, oo, ff⟩ := append_ids (w6.alloc (.cells #[] 30)) (own_made w6) (HB.out.keep ((F3.out.trans0 F6.out).alloc _)) (by simp; omega) (by simp); refine wpList_append_run rfl rfl rfl rfl ap ?_; have F7 := Lib.hid (own_fr ((Fr.refl No w6).alloc (.cells #[] 30)) (own_made w6) (Nat.le_refl _) ff); have O7 := Lib.hid oo; clear ap oo ff; rw [List.nil_append] at O7); go_frame; clear mk M6) | (have mk := M7.out; (at_builtin; obtain ⟨v8, w8, ap, oo, ff⟩ := append_ids w7 O7.out (HA.out.keep ((F3.out.trans0 F6.out).trans0 F7.out)) (by omega) F7.out.size; refine wpList_append_run rfl rfl rfl rfl ap ?_; have F8 := Lib.hid (own_fr F7.out O7.out (Nat.le_refl _) ff); have O8 := Lib.hid oo; clear ap oo ff O7); go_frame; clear mk M7) | (have mk := M8.out; (go_at_call 16; refine (down_K (G3.out.fr0 (F6.out.trans0 F8.out)) (by decide) (IdsIs.own O8.out (by intro c hc; rcases List.mem_append.1 hc with h | h <;> first | exact HA.out.1 c h | exact HB.out.1 c h)) (by rw [List.length_append]; omega)).mono ?_; rintro e w9 ⟨v9, rfl, o9⟩; have D9 := Lib.hid (o9.is (G3.out.okDown _)); have F9 := Lib.hid (F8.out.trans0 o9.2); have G9 := Lib.hid (G3.out.fr0 (F6.out.trans0 F9.out)); have FG := Lib.hid (F3.out.trans0 (F6.out.trans0 F9.out)); clear o9); go_frame; clear mk M8) | (have mk := M9.out; (go_at_call 14; refine (up_K G9.out (by decide) (HA.out.keep FG.out) (by omega)).mono ?_; rintro e w10 ⟨v10, rfl, o10⟩; have U10 := Lib.hid (o10.is (G3.out.okUp _)); have F10 := Lib.hid o10.2; clear o10); go_frame; clear mk M9) | (have mk := M10.out; (go_at_call 14; refine (up_K (G9.out.fr0 F10.out) (by decide) (HB.out.keep (FG.out.trans0 F10.out)) (by omega)).mono ?_; rintro e w11 ⟨v11, rfl, o11⟩; have U11 := Lib.hid (o11.is (G3.out.okUp _)); have F11 := Lib.hid o11.2; clear o11); go_frame; clear mk M10) | (have mk := M11.out; (go_at_call 16; refine (down_K ((G9.out.fr0 F10.out).fr0 F11.out) (by decide) (HA.out.keep ((FG.out.trans0 F10.out).trans0 F11.out)) (by omega)).mono ?_; rintro e w12 ⟨v12, rfl, o12⟩; have D12 := Lib.hid (o12.is (G3.out.okDown _)); have F12 := Lib.hid o12.2; clear o12); go_frame; clear mk M11) | (have mk := M12.out; (go_at_call 16; refine (down_K (((G9.out.fr0 F10.out).fr0 F11.out).fr0 F12.out) (by decide) (HB.out.keep (((FG.out.trans0 F10.out).trans0 F11.out).trans0 F12.out)) (by omega)).mono ?_; rintro e w13 ⟨v13, rfl, o13⟩; have D13 := Lib.hid (o13.is (G3.out.okDown _)); have F13 := Lib.hid o13.2; clear o13); go_frame; clear mk M12) | (have mk := M13.out; (go_at_call 13; refine (all_K ((((G9.out.fr0 F10.out).fr0 F11.out).fr0 F12.out).fr0 F13.out) (by decide)).mono ?_; rintro e w14 ⟨v14, rfl, o14⟩; have O14 := Lib.hid (o14.is G3.out.okId); have F14 := Lib.hid o14.2; obtain ⟨a14, c14, rfl⟩ := O14.out.2.form; clear o14); go_frame; clear mk M13))
  have FF := Lib.hid ((((FG.out.trans0 F10.out).trans0 F11.out).trans0 F12.out).trans0 (F13.out.trans0 F14.out))
  have hn80 : (ids G).length ≤ 80 := by have := G3.out.len; simpa [ids] using this
  have UL := Lib.hid (show ∀ l, (upS G l).length ≤ 100000 from fun l => by have := up_len (G := G) l; have := G3.out.len; omega)
  have DL := Lib.hid (show ∀ l, (downS G l).length ≤ 100000 from fun l => by have := down_len (G := G) l; have := G3.out.len; omega)
  have OKI := Lib.hid G3.out.okId
  have PK := Lib.hid (show ∀ (W : World) (q : Nat) (k : HashD), Fr No w14 W → W.rangeAt q 0 (hashC k) → PartAt W (upS G (A ++ B)) (upS G A) (upS G B) (downS G (B ++ A)) (downS G A) (downS G B) v6 v10 v11 v9 v12 v13 q k from fun W q k f r =>
    ⟨(U6.out.keep ((((F9.out.trans0 F10.out).trans0 F11.out).trans0 F12.out).trans0 (F13.out.trans0 F14.out))).keep f, ((((U10.out.keep F11.out).keep F12.out).keep F13.out).keep F14.out).keep f, (((U11.out.keep F12.out).keep F13.out).keep F14.out).keep f, (((((D9.out.keep F10.out).keep F11.out).keep F12.out).keep F13.out).keep F14.out).keep f, ((D12.out.keep F13.out).keep F14.out).keep f, (D13.out.keep F14.out).keep f, r⟩)
  clear U6 U10 U11 D9 D12 D13 F4 F5 F6 F7 F8 F9 F10 F11 F12 F13 F14 G9 FG O5 O8 G3 B3 HA HB
  go_loopw [59] (fun i wr => ∃ n : Nat, n ≤ (ids G).length ∧ i = .int .i64 n ∧ Fr No w14 wr) (fun i _ => (ids G).length - (intOf i).toNat)
  case atStart => exact ⟨0, Nat.zero_le _, rfl, Fr.refl _ _⟩
  case round =>
    obtain ⟨n, hn, rfl, fr⟩ := hrel
    have FR := Lib.hid fr
    clear fr
    by_cases h : n < (ids G).length
    · obtain ⟨x, hx⟩ : ∃ x, (ids G)[n]? = some x := ⟨_, List.getElem?_eq_getElem h⟩
      obtain ⟨b, off, cap, hv, hr, -⟩ := (O14.out.keep FR.out).at_ hx
      cases hv
      have i1 : (n : Int) < ((ids G).length : Int) := by omega
      have XOK := Lib.hid (OKI.out x (List.mem_of_getElem? hx))
      have XL := Lib.hid (hashC_len XOK.out)
      have R1 := Lib.hid hr
      have fa := (Fr.refl No wr).alloc (.cells (hashC x).toArray 30)
      have FA := Lib.hid (FR.out.trans0 fa)
      have M := Lib.hid (PK.out _ wr.heap.size x FA.out (range_new wr (hashC x) 30))
      clear hx hr fa
      have HU := Lib.hid (mem_up_app (G := G) (A := A) (B := B) (x := x))
      have HD := Lib.hid (mem_down_app (G := G) (A := A) (B := B) (x := x))
      go_upto_region 11 with (first | ((with_reducible refine at_dst 62 ?_); refine wpList_vG rfl (exec_load (ty := 30) rfl rfl R1.out uK rK (by rw [XL.out]; exact infoHash)) ?_) | ((with_reducible refine at_store ?_); refine wpList_done rfl (exec_store_new (w := wr) (ty := 30) (cs := hashC x) rfl rfl rfl (by rw [XL.out]; rfl) (by rw [XL.out]; exact infoHash) hashC_one) ?_; generalize wr.alloc (.cells (hashC x).toArray 30) = w15 at *; generalize wr.heap.size = q5 at *))
      have UL1 := UL.out (A ++ B)
      have UL2 := UL.out A
      have UL3 := UL.out B
      have DL1 := DL.out (B ++ A)
      have DL2 := DL.out A
      have DL3 := DL.out B
      have UU := Lib.hid (And.intro UL1 (And.intro UL2 UL3))
      have DD := Lib.hid (And.intro DL1 (And.intro DL2 DL3))
      clear UL1 UL2 UL3 DL1 DL2 DL3
      generalize upS G (A ++ B) = SU at *
      generalize upS G A = SX at *
      generalize upS G B = SY at *
      generalize downS G (B ++ A) = SD at *
      generalize downS G A = SZ at *
      generalize downS G B = SE at *
      rcases (show (x ∈ SX) ∨ (x ∉ SX ∧ x ∈ SY) ∨ (x ∉ SX ∧ x ∉ SY) by by_cases h1 : x ∈ SX <;> by_cases h2 : x ∈ SY <;> simp [h1, h2]) with h1 | ⟨h1, h2⟩ | ⟨h1, h2⟩
      · rcases (show (x ∈ SZ) ∨ (x ∉ SZ ∧ x ∈ SE) ∨ (x ∉ SZ ∧ x ∉ SE) by by_cases h3 : x ∈ SZ <;> by_cases h4 : x ∈ SE <;> simp [h3, h4]) with h3 | ⟨h3, h4⟩ | ⟨h3, h4⟩
        · have B1 := Lib.hid (show true = true ↔ x ∈ SU by rw [HU.out]; simp [h1])
          have B2 := Lib.hid (show true = true ↔ x ∈ SX by simp [h1])
          have B4 := Lib.hid (show true = true ↔ x ∈ SD by rw [HD.out]; simp [h3])
          have B5 := Lib.hid (show true = true ↔ x ∈ SZ by simp [h3])
          clear h1 h3 HU HD
          refine wp_region_lexL [false, false, true, false, false, true, false, false, false, true, false, false, false, false, false, true, false, false, true, false, false, false, true, false, false, false] (fun W => W.rangeAt q5 0 (hashC x)) (by kernel_rfl) (by kernel_rfl) ?_ (fun K hK => ?_)
          · exact range_keep M.out.r (Fr.refl No _).drew id
          replace M := Lib.hid (M.out.keep (Fr.refl No w15).drew)
          replace FA := Lib.hid (FA.out.trans0 (Fr.refl No w15).drew)
          generalize w15.drew = k0 at *
          repeat (first | ((first | with_reducible refine lexL_read ?_ | ((with_reducible refine lexL_readG ?_ ?_); (focus rfl))); apply Exists.intro; refine ⟨?_, ?_⟩; (focus (first | exact lex_load (ty := 30) rfl (fun w h => h) uK rK (by rw [XL.out]; exact infoHash) | (intro w' hS; obtain _ := hS; go_simp; (try with_reducible rfl); done))); try simp only [Act.put, List.setIfInBounds_toArray, List.set_cons_zero, List.set_cons_succ]) | ((first | ((with_reducible refine lexL_skip (c := false) ?_ ?_ ?_); (focus rfl); (focus rfl)) | ((with_reducible refine lexL_skip (c := true) ?_ ?_ ?_); (focus rfl); (focus rfl)) | ((with_reducible refine lexL_skipU ?_ ?_); (focus rfl))); try simp only [Act.put, List.setIfInBounds_toArray, List.set_cons_zero, List.set_cons_succ]))
          (first | with_reducible refine lexL_eff (fun K' hK' => ?_) | ((with_reducible refine lexL_effG ?_ (fun K' hK' => ?_)); (focus rfl)))
          go_simp
          refine (has_b M.out.u UU.out.1 XOK.out B1.out).mono ?_
          rintro e k1 ⟨rfl, f⟩
          replace M := Lib.hid (M.out.keep f)
          replace FA := Lib.hid (FA.out.trans0 f)
          clear f
          refine hK'.out _ _ ?_ (fun hS => ?_)
          · exact M.out.r
          try simp only [Act.put, List.setIfInBounds_toArray, List.set_cons_zero, List.set_cons_succ]
          clear hS hK' K'
          repeat (first | ((first | with_reducible refine lexL_read ?_ | ((with_reducible refine lexL_readG ?_ ?_); (focus rfl))); apply Exists.intro; refine ⟨?_, ?_⟩; (focus (first | exact lex_load (ty := 30) rfl (fun w h => h) uK rK (by rw [XL.out]; exact infoHash) | (intro w' hS; obtain _ := hS; go_simp; (try with_reducible rfl); done))); try simp only [Act.put, List.setIfInBounds_toArray, List.set_cons_zero, List.set_cons_succ]) | ((first | ((with_reducible refine lexL_skip (c := false) ?_ ?_ ?_); (focus rfl); (focus rfl)) | ((with_reducible refine lexL_skip (c := true) ?_ ?_ ?_); (focus rfl); (focus rfl)) | ((with_reducible refine lexL_skipU ?_ ?_); (focus rfl))); try simp only [Act.put, List.setIfInBounds_toArray, List.set_cons_zero, List.set_cons_succ]))
          (first | with_reducible refine lexL_eff (fun K' hK' => ?_) | ((with_reducible refine lexL_effG ?_ (fun K' hK' => ?_)); (focus rfl)))
          go_simp
          refine (has_b M.out.x UU.out.2.1 XOK.out B2.out).mono ?_
          rintro e k2 ⟨rfl, f⟩
          replace M := Lib.hid (M.out.keep f)
          replace FA := Lib.hid (FA.out.trans0 f)
          clear f
          refine hK'.out _ _ ?_ (fun hS => ?_)
          · exact M.out.r
          try simp only [Act.put, List.setIfInBounds_toArray, List.set_cons_zero, List.set_cons_succ]
          clear hS hK' K'
          repeat (first | ((first | with_reducible refine lexL_read ?_ | ((with_reducible refine lexL_readG ?_ ?_); (focus rfl))); apply Exists.intro; refine ⟨?_, ?_⟩; (focus (first | exact lex_load (ty := 30) rfl (fun w h => h) uK rK (by rw [XL.out]; exact infoHash) | (intro w' hS; obtain _ := hS; go_simp; (try with_reducible rfl); done))); try simp only [Act.put, List.setIfInBounds_toArray, List.set_cons_zero, List.set_cons_succ]) | ((first | ((with_reducible refine lexL_skip (c := false) ?_ ?_ ?_); (focus rfl); (focus rfl)) | ((with_reducible refine lexL_skip (c := true) ?_ ?_ ?_); (focus rfl); (focus rfl)) | ((with_reducible refine lexL_skipU ?_ ?_); (focus rfl))); try simp only [Act.put, List.setIfInBounds_toArray, List.set_cons_zero, List.set_cons_succ]))
          (first | with_reducible refine lexL_eff (fun K' hK' => ?_) | ((with_reducible refine lexL_effG ?_ (fun K' hK' => ?_)); (focus rfl)))
          go_simp
          refine (has_b M.out.d DD.out.1 XOK.out B4.out).mono ?_
          rintro e k3 ⟨rfl, f⟩
          replace M := Lib.hid (M.out.keep f)
          replace FA := Lib.hid (FA.out.trans0 f)
          clear f
          refine hK'.out _ _ ?_ (fun hS => ?_)
          · exact M.out.r
          try simp only [Act.put, List.setIfInBounds_toArray, List.set_cons_zero, List.set_cons_succ]
          clear hS hK' K'
          repeat (first | ((first | with_reducible refine lexL_read ?_ | ((with_reducible refine lexL_readG ?_ ?_); (focus rfl))); apply Exists.intro; refine ⟨?_, ?_⟩; (focus (first | exact lex_load (ty := 30) rfl (fun w h => h) uK rK (by rw [XL.out]; exact infoHash) | (intro w' hS; obtain _ := hS; go_simp; (try with_reducible rfl); done))); try simp only [Act.put, List.setIfInBounds_toArray, List.set_cons_zero, List.set_cons_succ]) | ((first | ((with_reducible refine lexL_skip (c := false) ?_ ?_ ?_); (focus rfl); (focus rfl)) | ((with_reducible refine lexL_skip (c := true) ?_ ?_ ?_); (focus rfl); (focus rfl)) | ((with_reducible refine lexL_skipU ?_ ?_); (focus rfl))); try simp only [Act.put, List.setIfInBounds_toArray, List.set_cons_zero, List.set_cons_succ]))
          (first | with_reducible refine lexL_eff (fun K' hK' => ?_) | ((with_reducible refine lexL_effG ?_ (fun K' hK' => ?_)); (focus rfl)))
          go_simp
          refine (has_b M.out.z DD.out.2.1 XOK.out B5.out).mono ?_
          rintro e k4 ⟨rfl, f⟩
          replace M := Lib.hid (M.out.keep f)
          replace FA := Lib.hid (FA.out.trans0 f)
          clear f
          refine hK'.out _ _ ?_ (fun hS => ?_)
          · exact M.out.r
          try simp only [Act.put, List.setIfInBounds_toArray, List.set_cons_zero, List.set_cons_succ]
          clear hS hK' K'
          repeat (first | ((first | with_reducible refine lexL_read ?_ | ((with_reducible refine lexL_readG ?_ ?_); (focus rfl))); apply Exists.intro; refine ⟨?_, ?_⟩; (focus (first | exact lex_load (ty := 30) rfl (fun w h => h) uK rK (by rw [XL.out]; exact infoHash) | (intro w' hS; obtain _ := hS; go_simp; (try with_reducible rfl); done))); try simp only [Act.put, List.setIfInBounds_toArray, List.set_cons_zero, List.set_cons_succ]) | ((first | ((with_reducible refine lexL_skip (c := false) ?_ ?_ ?_); (focus rfl); (focus rfl)) | ((with_reducible refine lexL_skip (c := true) ?_ ?_ ?_); (focus rfl); (focus rfl)) | ((with_reducible refine lexL_skipU ?_ ?_); (focus rfl))); try simp only [Act.put, List.setIfInBounds_toArray, List.set_cons_zero, List.set_cons_succ]))
          refine lexL_nil (hK.out _ _ ?_)
          go_wp2
          go_roundw
          case rel => exact ⟨n + 1, by omega, by go_num, FA.out⟩
          case measure => simp [intOf]; omega
        · have B1 := Lib.hid (show true = true ↔ x ∈ SU by rw [HU.out]; simp [h1])
          have B2 := Lib.hid (show true = true ↔ x ∈ SX by simp [h1])
          have B4 := Lib.hid (show true = true ↔ x ∈ SD by rw [HD.out]; simp [h3, h4])
          have B5 := Lib.hid (show false = true ↔ x ∈ SZ by simp [h3])
          have B6 := Lib.hid (show true = true ↔ x ∈ SE by simp [h4])
          clear h1 h3 h4 HU HD
          refine wp_region_lexL [false, false, true, false, false, true, false, false, false, true, false, false, false, false, false, true, false, false, true, false, false, false, true, false, false, false] (fun W => W.rangeAt q5 0 (hashC x)) (by kernel_rfl) (by kernel_rfl) ?_ (fun K hK => ?_)
          · exact range_keep M.out.r (Fr.refl No _).drew id
          replace M := Lib.hid (M.out.keep (Fr.refl No w15).drew)
          replace FA := Lib.hid (FA.out.trans0 (Fr.refl No w15).drew)
          generalize w15.drew = k0 at *
          repeat (first | ((first | with_reducible refine lexL_read ?_ | ((with_reducible refine lexL_readG ?_ ?_); (focus rfl))); apply Exists.intro; refine ⟨?_, ?_⟩; (focus (first | exact lex_load (ty := 30) rfl (fun w h => h) uK rK (by rw [XL.out]; exact infoHash) | (intro w' hS; obtain _ := hS; go_simp; (try with_reducible rfl); done))); try simp only [Act.put, List.setIfInBounds_toArray, List.set_cons_zero, List.set_cons_succ]) | ((first | ((with_reducible refine lexL_skip (c := false) ?_ ?_ ?_); (focus rfl); (focus rfl)) | ((with_reducible refine lexL_skip (c := true) ?_ ?_ ?_); (focus rfl); (focus rfl)) | ((with_reducible refine lexL_skipU ?_ ?_); (focus rfl))); try simp only [Act.put, List.setIfInBounds_toArray, List.set_cons_zero, List.set_cons_succ]))
          (first | with_reducible refine lexL_eff (fun K' hK' => ?_) | ((with_reducible refine lexL_effG ?_ (fun K' hK' => ?_)); (focus rfl)))
          go_simp
          refine (has_b M.out.u UU.out.1 XOK.out B1.out).mono ?_
          rintro e k1 ⟨rfl, f⟩
          replace M := Lib.hid (M.out.keep f)
          replace FA := Lib.hid (FA.out.trans0 f)
          clear f
          refine hK'.out _ _ ?_ (fun hS => ?_)
          · exact M.out.r
          try simp only [Act.put, List.setIfInBounds_toArray, List.set_cons_zero, List.set_cons_succ]
          clear hS hK' K'
          repeat (first | ((first | with_reducible refine lexL_read ?_ | ((with_reducible refine lexL_readG ?_ ?_); (focus rfl))); apply Exists.intro; refine ⟨?_, ?_⟩; (focus (first | exact lex_load (ty := 30) rfl (fun w h => h) uK rK (by rw [XL.out]; exact infoHash) | (intro w' hS; obtain _ := hS; go_simp; (try with_reducible rfl); done))); try simp only [Act.put, List.setIfInBounds_toArray, List.set_cons_zero, List.set_cons_succ]) | ((first | ((with_reducible refine lexL_skip (c := false) ?_ ?_ ?_); (focus rfl); (focus rfl)) | ((with_reducible refine lexL_skip (c := true) ?_ ?_ ?_); (focus rfl); (focus rfl)) | ((with_reducible refine lexL_skipU ?_ ?_); (focus rfl))); try simp only [Act.put, List.setIfInBounds_toArray, List.set_cons_zero, List.set_cons_succ]))
          (first | with_reducible refine lexL_eff (fun K' hK' => ?_) | ((with_reducible refine lexL_effG ?_ (fun K' hK' => ?_)); (focus rfl)))
          go_simp
          refine (has_b M.out.x UU.out.2.1 XOK.out B2.out).mono ?_
          rintro e k2 ⟨rfl, f⟩
          replace M := Lib.hid (M.out.keep f)
          replace FA := Lib.hid (FA.out.trans0 f)
          clear f
          refine hK'.out _ _ ?_ (fun hS => ?_)
          · exact M.out.r
          try simp only [Act.put, List.setIfInBounds_toArray, List.set_cons_zero, List.set_cons_succ]
          clear hS hK' K'
          repeat (first | ((first | with_reducible refine lexL_read ?_ | ((with_reducible refine lexL_readG ?_ ?_); (focus rfl))); apply Exists.intro; refine ⟨?_, ?_⟩; (focus (first | exact lex_load (ty := 30) rfl (fun w h => h) uK rK (by rw [XL.out]; exact infoHash) | (intro w' hS; obtain _ := hS; go_simp; (try with_reducible rfl); done))); try simp only [Act.put, List.setIfInBounds_toArray, List.set_cons_zero, List.set_cons_succ]) | ((first | ((with_reducible refine lexL_skip (c := false) ?_ ?_ ?_); (focus rfl); (focus rfl)) | ((with_reducible refine lexL_skip (c := true) ?_ ?_ ?_); (focus rfl); (focus rfl)) | ((with_reducible refine lexL_skipU ?_ ?_); (focus rfl))); try simp only [Act.put, List.setIfInBounds_toArray, List.set_cons_zero, List.set_cons_succ]))
          (first | with_reducible refine lexL_eff (fun K' hK' => ?_) | ((with_reducible refine lexL_effG ?_ (fun K' hK' => ?_)); (focus rfl)))
          go_simp
          refine (has_b M.out.d DD.out.1 XOK.out B4.out).mono ?_
          rintro e k3 ⟨rfl, f⟩
          replace M := Lib.hid (M.out.keep f)
          replace FA := Lib.hid (FA.out.trans0 f)
          clear f
          refine hK'.out _ _ ?_ (fun hS => ?_)
          · exact M.out.r
          try simp only [Act.put, List.setIfInBounds_toArray, List.set_cons_zero, List.set_cons_succ]
          clear hS hK' K'
          repeat (first | ((first | with_reducible refine lexL_read ?_ | ((with_reducible refine lexL_readG ?_ ?_); (focus rfl))); apply Exists.intro; refine ⟨?_, ?_⟩; (focus (first | exact lex_load (ty := 30) rfl (fun w h => h) uK rK (by rw [XL.out]; exact infoHash) | (intro w' hS; obtain _ := hS; go_simp; (try with_reducible rfl); done))); try simp only [Act.put, List.setIfInBounds_toArray, List.set_cons_zero, List.set_cons_succ]) | ((first | ((with_reducible refine lexL_skip (c := false) ?_ ?_ ?_); (focus rfl); (focus rfl)) | ((with_reducible refine lexL_skip (c := true) ?_ ?_ ?_); (focus rfl); (focus rfl)) | ((with_reducible refine lexL_skipU ?_ ?_); (focus rfl))); try simp only [Act.put, List.setIfInBounds_toArray, List.set_cons_zero, List.set_cons_succ]))
          (first | with_reducible refine lexL_eff (fun K' hK' => ?_) | ((with_reducible refine lexL_effG ?_ (fun K' hK' => ?_)); (focus rfl)))
          go_simp
          refine (has_b M.out.z DD.out.2.1 XOK.out B5.out).mono ?_
          rintro e k4 ⟨rfl, f⟩
          replace M := Lib.hid (M.out.keep f)
          replace FA := Lib.hid (FA.out.trans0 f)
          clear f
          refine hK'.out _ _ ?_ (fun hS => ?_)
          · exact M.out.r
          try simp only [Act.put, List.setIfInBounds_toArray, List.set_cons_zero, List.set_cons_succ]
          clear hS hK' K'
          repeat (first | ((first | with_reducible refine lexL_read ?_ | ((with_reducible refine lexL_readG ?_ ?_); (focus rfl))); apply Exists.intro; refine ⟨?_, ?_⟩; (focus (first | exact lex_load (ty := 30) rfl (fun w h => h) uK rK (by rw [XL.out]; exact infoHash) | (intro w' hS; obtain _ := hS; go_simp; (try with_reducible rfl); done))); try simp only [Act.put, List.setIfInBounds_toArray, List.set_cons_zero, List.set_cons_succ]) | ((first | ((with_reducible refine lexL_skip (c := false) ?_ ?_ ?_); (focus rfl); (focus rfl)) | ((with_reducible refine lexL_skip (c := true) ?_ ?_ ?_); (focus rfl); (focus rfl)) | ((with_reducible refine lexL_skipU ?_ ?_); (focus rfl))); try simp only [Act.put, List.setIfInBounds_toArray, List.set_cons_zero, List.set_cons_succ]))
          (first | with_reducible refine lexL_eff (fun K' hK' => ?_) | ((with_reducible refine lexL_effG ?_ (fun K' hK' => ?_)); (focus rfl)))
          go_simp
          refine (has_b M.out.e DD.out.2.2 XOK.out B6.out).mono ?_
          rintro e k5 ⟨rfl, f⟩
          replace M := Lib.hid (M.out.keep f)
          replace FA := Lib.hid (FA.out.trans0 f)
          clear f
          refine hK'.out _ _ ?_ (fun hS => ?_)
          · exact M.out.r
          try simp only [Act.put, List.setIfInBounds_toArray, List.set_cons_zero, List.set_cons_succ]
          clear hS hK' K'
          repeat (first | ((first | with_reducible refine lexL_read ?_ | ((with_reducible refine lexL_readG ?_ ?_); (focus rfl))); apply Exists.intro; refine ⟨?_, ?_⟩; (focus (first | exact lex_load (ty := 30) rfl (fun w h => h) uK rK (by rw [XL.out]; exact infoHash) | (intro w' hS; obtain _ := hS; go_simp; (try with_reducible rfl); done))); try simp only [Act.put, List.setIfInBounds_toArray, List.set_cons_zero, List.set_cons_succ]) | ((first | ((with_reducible refine lexL_skip (c := false) ?_ ?_ ?_); (focus rfl); (focus rfl)) | ((with_reducible refine lexL_skip (c := true) ?_ ?_ ?_); (focus rfl); (focus rfl)) | ((with_reducible refine lexL_skipU ?_ ?_); (focus rfl))); try simp only [Act.put, List.setIfInBounds_toArray, List.set_cons_zero, List.set_cons_succ]))
          refine lexL_nil (hK.out _ _ ?_)
          go_wp2
          go_roundw
          case rel => exact ⟨n + 1, by omega, by go_num, FA.out⟩
          case measure => simp [intOf]; omega
        · have B1 := Lib.hid (show true = true ↔ x ∈ SU by rw [HU.out]; simp [h1])
          have B2 := Lib.hid (show true = true ↔ x ∈ SX by simp [h1])
          have B4 := Lib.hid (show false = true ↔ x ∈ SD by rw [HD.out]; simp [h3, h4])
          have B5 := Lib.hid (show false = true ↔ x ∈ SZ by simp [h3])
          have B6 := Lib.hid (show false = true ↔ x ∈ SE by simp [h4])
          clear h1 h3 h4 HU HD
          refine wp_region_lexL [false, false, true, false, false, true, false, false, false, true, false, false, false, false, false, true, false, false, true, false, false, false, true, false, false, false] (fun W => W.rangeAt q5 0 (hashC x)) (by kernel_rfl) (by kernel_rfl) ?_ (fun K hK => ?_)
          · exact range_keep M.out.r (Fr.refl No _).drew id
          replace M := Lib.hid (M.out.keep (Fr.refl No w15).drew)
          replace FA := Lib.hid (FA.out.trans0 (Fr.refl No w15).drew)
          generalize w15.drew = k0 at *
          repeat (first | ((first | with_reducible refine lexL_read ?_ | ((with_reducible refine lexL_readG ?_ ?_); (focus rfl))); apply Exists.intro; refine ⟨?_, ?_⟩; (focus (first | exact lex_load (ty := 30) rfl (fun w h => h) uK rK (by rw [XL.out]; exact infoHash) | (intro w' hS; obtain _ := hS; go_simp; (try with_reducible rfl); done))); try simp only [Act.put, List.setIfInBounds_toArray, List.set_cons_zero, List.set_cons_succ]) | ((first | ((with_reducible refine lexL_skip (c := false) ?_ ?_ ?_); (focus rfl); (focus rfl)) | ((with_reducible refine lexL_skip (c := true) ?_ ?_ ?_); (focus rfl); (focus rfl)) | ((with_reducible refine lexL_skipU ?_ ?_); (focus rfl))); try simp only [Act.put, List.setIfInBounds_toArray, List.set_cons_zero, List.set_cons_succ]))
          (first | with_reducible refine lexL_eff (fun K' hK' => ?_) | ((with_reducible refine lexL_effG ?_ (fun K' hK' => ?_)); (focus rfl)))
          go_simp
          refine (has_b M.out.u UU.out.1 XOK.out B1.out).mono ?_
          rintro e k1 ⟨rfl, f⟩
          replace M := Lib.hid (M.out.keep f)
          replace FA := Lib.hid (FA.out.trans0 f)
          clear f
          refine hK'.out _ _ ?_ (fun hS => ?_)
          · exact M.out.r
          try simp only [Act.put, List.setIfInBounds_toArray, List.set_cons_zero, List.set_cons_succ]
          clear hS hK' K'
          repeat (first | ((first | with_reducible refine lexL_read ?_ | ((with_reducible refine lexL_readG ?_ ?_); (focus rfl))); apply Exists.intro; refine ⟨?_, ?_⟩; (focus (first | exact lex_load (ty := 30) rfl (fun w h => h) uK rK (by rw [XL.out]; exact infoHash) | (intro w' hS; obtain _ := hS; go_simp; (try with_reducible rfl); done))); try simp only [Act.put, List.setIfInBounds_toArray, List.set_cons_zero, List.set_cons_succ]) | ((first | ((with_reducible refine lexL_skip (c := false) ?_ ?_ ?_); (focus rfl); (focus rfl)) | ((with_reducible refine lexL_skip (c := true) ?_ ?_ ?_); (focus rfl); (focus rfl)) | ((with_reducible refine lexL_skipU ?_ ?_); (focus rfl))); try simp only [Act.put, List.setIfInBounds_toArray, List.set_cons_zero, List.set_cons_succ]))
          (first | with_reducible refine lexL_eff (fun K' hK' => ?_) | ((with_reducible refine lexL_effG ?_ (fun K' hK' => ?_)); (focus rfl)))
          go_simp
          refine (has_b M.out.x UU.out.2.1 XOK.out B2.out).mono ?_
          rintro e k2 ⟨rfl, f⟩
          replace M := Lib.hid (M.out.keep f)
          replace FA := Lib.hid (FA.out.trans0 f)
          clear f
          refine hK'.out _ _ ?_ (fun hS => ?_)
          · exact M.out.r
          try simp only [Act.put, List.setIfInBounds_toArray, List.set_cons_zero, List.set_cons_succ]
          clear hS hK' K'
          repeat (first | ((first | with_reducible refine lexL_read ?_ | ((with_reducible refine lexL_readG ?_ ?_); (focus rfl))); apply Exists.intro; refine ⟨?_, ?_⟩; (focus (first | exact lex_load (ty := 30) rfl (fun w h => h) uK rK (by rw [XL.out]; exact infoHash) | (intro w' hS; obtain _ := hS; go_simp; (try with_reducible rfl); done))); try simp only [Act.put, List.setIfInBounds_toArray, List.set_cons_zero, List.set_cons_succ]) | ((first | ((with_reducible refine lexL_skip (c := false) ?_ ?_ ?_); (focus rfl); (focus rfl)) | ((with_reducible refine lexL_skip (c := true) ?_ ?_ ?_); (focus rfl); (focus rfl)) | ((with_reducible refine lexL_skipU ?_ ?_); (focus rfl))); try simp only [Act.put, List.setIfInBounds_toArray, List.set_cons_zero, List.set_cons_succ]))
          (first | with_reducible refine lexL_eff (fun K' hK' => ?_) | ((with_reducible refine lexL_effG ?_ (fun K' hK' => ?_)); (focus rfl)))
          go_simp
          refine (has_b M.out.d DD.out.1 XOK.out B4.out).mono ?_
          rintro e k3 ⟨rfl, f⟩
          replace M := Lib.hid (M.out.keep f)
          replace FA := Lib.hid (FA.out.trans0 f)
          clear f
          refine hK'.out _ _ ?_ (fun hS => ?_)
          · exact M.out.r
          try simp only [Act.put, List.setIfInBounds_toArray, List.set_cons_zero, List.set_cons_succ]
          clear hS hK' K'
          repeat (first | ((first | with_reducible refine lexL_read ?_ | ((with_reducible refine lexL_readG ?_ ?_); (focus rfl))); apply Exists.intro; refine ⟨?_, ?_⟩; (focus (first | exact lex_load (ty := 30) rfl (fun w h => h) uK rK (by rw [XL.out]; exact infoHash) | (intro w' hS; obtain _ := hS; go_simp; (try with_reducible rfl); done))); try simp only [Act.put, List.setIfInBounds_toArray, List.set_cons_zero, List.set_cons_succ]) | ((first | ((with_reducible refine lexL_skip (c := false) ?_ ?_ ?_); (focus rfl); (focus rfl)) | ((with_reducible refine lexL_skip (c := true) ?_ ?_ ?_); (focus rfl); (focus rfl)) | ((with_reducible refine lexL_skipU ?_ ?_); (focus rfl))); try simp only [Act.put, List.setIfInBounds_toArray, List.set_cons_zero, List.set_cons_succ]))
          (first | with_reducible refine lexL_eff (fun K' hK' => ?_) | ((with_reducible refine lexL_effG ?_ (fun K' hK' => ?_)); (focus rfl)))
          go_simp
          refine (has_b M.out.z DD.out.2.1 XOK.out B5.out).mono ?_
          rintro e k4 ⟨rfl, f⟩
          replace M := Lib.hid (M.out.keep f)
          replace FA := Lib.hid (FA.out.trans0 f)
          clear f
          refine hK'.out _ _ ?_ (fun hS => ?_)
          · exact M.out.r
          try simp only [Act.put, List.setIfInBounds_toArray, List.set_cons_zero, List.set_cons_succ]
          clear hS hK' K'
          repeat (first | ((first | with_reducible refine lexL_read ?_ | ((with_reducible refine lexL_readG ?_ ?_); (focus rfl))); apply Exists.intro; refine ⟨?_, ?_⟩; (focus (first | exact lex_load (ty := 30) rfl (fun w h => h) uK rK (by rw [XL.out]; exact infoHash) | (intro w' hS; obtain _ := hS; go_simp; (try with_reducible rfl); done))); try simp only [Act.put, List.setIfInBounds_toArray, List.set_cons_zero, List.set_cons_succ]) | ((first | ((with_reducible refine lexL_skip (c := false) ?_ ?_ ?_); (focus rfl); (focus rfl)) | ((with_reducible refine lexL_skip (c := true) ?_ ?_ ?_); (focus rfl); (focus rfl)) | ((with_reducible refine lexL_skipU ?_ ?_); (focus rfl))); try simp only [Act.put, List.setIfInBounds_toArray, List.set_cons_zero, List.set_cons_succ]))
          (first | with_reducible refine lexL_eff (fun K' hK' => ?_) | ((with_reducible refine lexL_effG ?_ (fun K' hK' => ?_)); (focus rfl)))
          go_simp
          refine (has_b M.out.e DD.out.2.2 XOK.out B6.out).mono ?_
          rintro e k5 ⟨rfl, f⟩
          replace M := Lib.hid (M.out.keep f)
          replace FA := Lib.hid (FA.out.trans0 f)
          clear f
          refine hK'.out _ _ ?_ (fun hS => ?_)
          · exact M.out.r
          try simp only [Act.put, List.setIfInBounds_toArray, List.set_cons_zero, List.set_cons_succ]
          clear hS hK' K'
          repeat (first | ((first | with_reducible refine lexL_read ?_ | ((with_reducible refine lexL_readG ?_ ?_); (focus rfl))); apply Exists.intro; refine ⟨?_, ?_⟩; (focus (first | exact lex_load (ty := 30) rfl (fun w h => h) uK rK (by rw [XL.out]; exact infoHash) | (intro w' hS; obtain _ := hS; go_simp; (try with_reducible rfl); done))); try simp only [Act.put, List.setIfInBounds_toArray, List.set_cons_zero, List.set_cons_succ]) | ((first | ((with_reducible refine lexL_skip (c := false) ?_ ?_ ?_); (focus rfl); (focus rfl)) | ((with_reducible refine lexL_skip (c := true) ?_ ?_ ?_); (focus rfl); (focus rfl)) | ((with_reducible refine lexL_skipU ?_ ?_); (focus rfl))); try simp only [Act.put, List.setIfInBounds_toArray, List.set_cons_zero, List.set_cons_succ]))
          refine lexL_nil (hK.out _ _ ?_)
          go_wp2
          go_roundw
          case rel => exact ⟨n + 1, by omega, by go_num, FA.out⟩
          case measure => simp [intOf]; omega
      · rcases (show (x ∈ SZ) ∨ (x ∉ SZ ∧ x ∈ SE) ∨ (x ∉ SZ ∧ x ∉ SE) by by_cases h3 : x ∈ SZ <;> by_cases h4 : x ∈ SE <;> simp [h3, h4]) with h3 | ⟨h3, h4⟩ | ⟨h3, h4⟩
        · have B1 := Lib.hid (show true = true ↔ x ∈ SU by rw [HU.out]; simp [h1, h2])
          have B2 := Lib.hid (show false = true ↔ x ∈ SX by simp [h1])
          have B3 := Lib.hid (show true = true ↔ x ∈ SY by simp [h2])
          have B4 := Lib.hid (show true = true ↔ x ∈ SD by rw [HD.out]; simp [h3])
          have B5 := Lib.hid (show true = true ↔ x ∈ SZ by simp [h3])
          clear h1 h3 h2 HU HD
          refine wp_region_lexL [false, false, true, false, false, true, false, false, false, true, false, false, false, false, false, true, false, false, true, false, false, false, true, false, false, false] (fun W => W.rangeAt q5 0 (hashC x)) (by kernel_rfl) (by kernel_rfl) ?_ (fun K hK => ?_)
          · exact range_keep M.out.r (Fr.refl No _).drew id
          replace M := Lib.hid (M.out.keep (Fr.refl No w15).drew)
          replace FA := Lib.hid (FA.out.trans0 (Fr.refl No w15).drew)
          generalize w15.drew = k0 at *
          repeat (first | ((first | with_reducible refine lexL_read ?_ | ((with_reducible refine lexL_readG ?_ ?_); (focus rfl))); apply Exists.intro; refine ⟨?_, ?_⟩; (focus (first | exact lex_load (ty := 30) rfl (fun w h => h) uK rK (by rw [XL.out]; exact infoHash) | (intro w' hS; obtain _ := hS; go_simp; (try with_reducible rfl); done))); try simp only [Act.put, List.setIfInBounds_toArray, List.set_cons_zero, List.set_cons_succ]) | ((first | ((with_reducible refine lexL_skip (c := false) ?_ ?_ ?_); (focus rfl); (focus rfl)) | ((with_reducible refine lexL_skip (c := true) ?_ ?_ ?_); (focus rfl); (focus rfl)) | ((with_reducible refine lexL_skipU ?_ ?_); (focus rfl))); try simp only [Act.put, List.setIfInBounds_toArray, List.set_cons_zero, List.set_cons_succ]))
          (first | with_reducible refine lexL_eff (fun K' hK' => ?_) | ((with_reducible refine lexL_effG ?_ (fun K' hK' => ?_)); (focus rfl)))
          go_simp
          refine (has_b M.out.u UU.out.1 XOK.out B1.out).mono ?_
          rintro e k1 ⟨rfl, f⟩
          replace M := Lib.hid (M.out.keep f)
          replace FA := Lib.hid (FA.out.trans0 f)
          clear f
          refine hK'.out _ _ ?_ (fun hS => ?_)
          · exact M.out.r
          try simp only [Act.put, List.setIfInBounds_toArray, List.set_cons_zero, List.set_cons_succ]
          clear hS hK' K'
          repeat (first | ((first | with_reducible refine lexL_read ?_ | ((with_reducible refine lexL_readG ?_ ?_); (focus rfl))); apply Exists.intro; refine ⟨?_, ?_⟩; (focus (first | exact lex_load (ty := 30) rfl (fun w h => h) uK rK (by rw [XL.out]; exact infoHash) | (intro w' hS; obtain _ := hS; go_simp; (try with_reducible rfl); done))); try simp only [Act.put, List.setIfInBounds_toArray, List.set_cons_zero, List.set_cons_succ]) | ((first | ((with_reducible refine lexL_skip (c := false) ?_ ?_ ?_); (focus rfl); (focus rfl)) | ((with_reducible refine lexL_skip (c := true) ?_ ?_ ?_); (focus rfl); (focus rfl)) | ((with_reducible refine lexL_skipU ?_ ?_); (focus rfl))); try simp only [Act.put, List.setIfInBounds_toArray, List.set_cons_zero, List.set_cons_succ]))
          (first | with_reducible refine lexL_eff (fun K' hK' => ?_) | ((with_reducible refine lexL_effG ?_ (fun K' hK' => ?_)); (focus rfl)))
          go_simp
          refine (has_b M.out.x UU.out.2.1 XOK.out B2.out).mono ?_
          rintro e k2 ⟨rfl, f⟩
          replace M := Lib.hid (M.out.keep f)
          replace FA := Lib.hid (FA.out.trans0 f)
          clear f
          refine hK'.out _ _ ?_ (fun hS => ?_)
          · exact M.out.r
          try simp only [Act.put, List.setIfInBounds_toArray, List.set_cons_zero, List.set_cons_succ]
          clear hS hK' K'
          repeat (first | ((first | with_reducible refine lexL_read ?_ | ((with_reducible refine lexL_readG ?_ ?_); (focus rfl))); apply Exists.intro; refine ⟨?_, ?_⟩; (focus (first | exact lex_load (ty := 30) rfl (fun w h => h) uK rK (by rw [XL.out]; exact infoHash) | (intro w' hS; obtain _ := hS; go_simp; (try with_reducible rfl); done))); try simp only [Act.put, List.setIfInBounds_toArray, List.set_cons_zero, List.set_cons_succ]) | ((first | ((with_reducible refine lexL_skip (c := false) ?_ ?_ ?_); (focus rfl); (focus rfl)) | ((with_reducible refine lexL_skip (c := true) ?_ ?_ ?_); (focus rfl); (focus rfl)) | ((with_reducible refine lexL_skipU ?_ ?_); (focus rfl))); try simp only [Act.put, List.setIfInBounds_toArray, List.set_cons_zero, List.set_cons_succ]))
          (first | with_reducible refine lexL_eff (fun K' hK' => ?_) | ((with_reducible refine lexL_effG ?_ (fun K' hK' => ?_)); (focus rfl)))
          go_simp
          refine (has_b M.out.y UU.out.2.2 XOK.out B3.out).mono ?_
          rintro e k3 ⟨rfl, f⟩
          replace M := Lib.hid (M.out.keep f)
          replace FA := Lib.hid (FA.out.trans0 f)
          clear f
          refine hK'.out _ _ ?_ (fun hS => ?_)
          · exact M.out.r
          try simp only [Act.put, List.setIfInBounds_toArray, List.set_cons_zero, List.set_cons_succ]
          clear hS hK' K'
          repeat (first | ((first | with_reducible refine lexL_read ?_ | ((with_reducible refine lexL_readG ?_ ?_); (focus rfl))); apply Exists.intro; refine ⟨?_, ?_⟩; (focus (first | exact lex_load (ty := 30) rfl (fun w h => h) uK rK (by rw [XL.out]; exact infoHash) | (intro w' hS; obtain _ := hS; go_simp; (try with_reducible rfl); done))); try simp only [Act.put, List.setIfInBounds_toArray, List.set_cons_zero, List.set_cons_succ]) | ((first | ((with_reducible refine lexL_skip (c := false) ?_ ?_ ?_); (focus rfl); (focus rfl)) | ((with_reducible refine lexL_skip (c := true) ?_ ?_ ?_); (focus rfl); (focus rfl)) | ((with_reducible refine lexL_skipU ?_ ?_); (focus rfl))); try simp only [Act.put, List.setIfInBounds_toArray, List.set_cons_zero, List.set_cons_succ]))
          (first | with_reducible refine lexL_eff (fun K' hK' => ?_) | ((with_reducible refine lexL_effG ?_ (fun K' hK' => ?_)); (focus rfl)))
          go_simp
          refine (has_b M.out.d DD.out.1 XOK.out B4.out).mono ?_
          rintro e k4 ⟨rfl, f⟩
          replace M := Lib.hid (M.out.keep f)
          replace FA := Lib.hid (FA.out.trans0 f)
          clear f
          refine hK'.out _ _ ?_ (fun hS => ?_)
          · exact M.out.r
          try simp only [Act.put, List.setIfInBounds_toArray, List.set_cons_zero, List.set_cons_succ]
          clear hS hK' K'
          repeat (first | ((first | with_reducible refine lexL_read ?_ | ((with_reducible refine lexL_readG ?_ ?_); (focus rfl))); apply Exists.intro; refine ⟨?_, ?_⟩; (focus (first | exact lex_load (ty := 30) rfl (fun w h => h) uK rK (by rw [XL.out]; exact infoHash) | (intro w' hS; obtain _ := hS; go_simp; (try with_reducible rfl); done))); try simp only [Act.put, List.setIfInBounds_toArray, List.set_cons_zero, List.set_cons_succ]) | ((first | ((with_reducible refine lexL_skip (c := false) ?_ ?_ ?_); (focus rfl); (focus rfl)) | ((with_reducible refine lexL_skip (c := true) ?_ ?_ ?_); (focus rfl); (focus rfl)) | ((with_reducible refine lexL_skipU ?_ ?_); (focus rfl))); try simp only [Act.put, List.setIfInBounds_toArray, List.set_cons_zero, List.set_cons_succ]))
          (first | with_reducible refine lexL_eff (fun K' hK' => ?_) | ((with_reducible refine lexL_effG ?_ (fun K' hK' => ?_)); (focus rfl)))
          go_simp
          refine (has_b M.out.z DD.out.2.1 XOK.out B5.out).mono ?_
          rintro e k5 ⟨rfl, f⟩
          replace M := Lib.hid (M.out.keep f)
          replace FA := Lib.hid (FA.out.trans0 f)
          clear f
          refine hK'.out _ _ ?_ (fun hS => ?_)
          · exact M.out.r
          try simp only [Act.put, List.setIfInBounds_toArray, List.set_cons_zero, List.set_cons_succ]
          clear hS hK' K'
          repeat (first | ((first | with_reducible refine lexL_read ?_ | ((with_reducible refine lexL_readG ?_ ?_); (focus rfl))); apply Exists.intro; refine ⟨?_, ?_⟩; (focus (first | exact lex_load (ty := 30) rfl (fun w h => h) uK rK (by rw [XL.out]; exact infoHash) | (intro w' hS; obtain _ := hS; go_simp; (try with_reducible rfl); done))); try simp only [Act.put, List.setIfInBounds_toArray, List.set_cons_zero, List.set_cons_succ]) | ((first | ((with_reducible refine lexL_skip (c := false) ?_ ?_ ?_); (focus rfl); (focus rfl)) | ((with_reducible refine lexL_skip (c := true) ?_ ?_ ?_); (focus rfl); (focus rfl)) | ((with_reducible refine lexL_skipU ?_ ?_); (focus rfl))); try simp only [Act.put, List.setIfInBounds_toArray, List.set_cons_zero, List.set_cons_succ]))
          refine lexL_nil (hK.out _ _ ?_)
          go_wp2
          go_roundw
          case rel => exact ⟨n + 1, by omega, by go_num, FA.out⟩
          case measure => simp [intOf]; omega
        · have B1 := Lib.hid (show true = true ↔ x ∈ SU by rw [HU.out]; simp [h1, h2])
          have B2 := Lib.hid (show false = true ↔ x ∈ SX by simp [h1])
          have B3 := Lib.hid (show true = true ↔ x ∈ SY by simp [h2])
          have B4 := Lib.hid (show true = true ↔ x ∈ SD by rw [HD.out]; simp [h3, h4])
          have B5 := Lib.hid (show false = true ↔ x ∈ SZ by simp [h3])
          have B6 := Lib.hid (show true = true ↔ x ∈ SE by simp [h4])
          clear h1 h3 h2 h4 HU HD
          refine wp_region_lexL [false, false, true, false, false, true, false, false, false, true, false, false, false, false, false, true, false, false, true, false, false, false, true, false, false, false] (fun W => W.rangeAt q5 0 (hashC x)) (by kernel_rfl) (by kernel_rfl) ?_ (fun K hK => ?_)
          · exact range_keep M.out.r (Fr.refl No _).drew id
          replace M := Lib.hid (M.out.keep (Fr.refl No w15).drew)
          replace FA := Lib.hid (FA.out.trans0 (Fr.refl No w15).drew)
          generalize w15.drew = k0 at *
          repeat (first | ((first | with_reducible refine lexL_read ?_ | ((with_reducible refine lexL_readG ?_ ?_); (focus rfl))); apply Exists.intro; refine ⟨?_, ?_⟩; (focus (first | exact lex_load (ty := 30) rfl (fun w h => h) uK rK (by rw [XL.out]; exact infoHash) | (intro w' hS; obtain _ := hS; go_simp; (try with_reducible rfl); done))); try simp only [Act.put, List.setIfInBounds_toArray, List.set_cons_zero, List.set_cons_succ]) | ((first | ((with_reducible refine lexL_skip (c := false) ?_ ?_ ?_); (focus rfl); (focus rfl)) | ((with_reducible refine lexL_skip (c := true) ?_ ?_ ?_); (focus rfl); (focus rfl)) | ((with_reducible refine lexL_skipU ?_ ?_); (focus rfl))); try simp only [Act.put, List.setIfInBounds_toArray, List.set_cons_zero, List.set_cons_succ]))
          (first | with_reducible refine lexL_eff (fun K' hK' => ?_) | ((with_reducible refine lexL_effG ?_ (fun K' hK' => ?_)); (focus rfl)))
          go_simp
          refine (has_b M.out.u UU.out.1 XOK.out B1.out).mono ?_
          rintro e k1 ⟨rfl, f⟩
          replace M := Lib.hid (M.out.keep f)
          replace FA := Lib.hid (FA.out.trans0 f)
          clear f
          refine hK'.out _ _ ?_ (fun hS => ?_)
          · exact M.out.r
          try simp only [Act.put, List.setIfInBounds_toArray, List.set_cons_zero, List.set_cons_succ]
          clear hS hK' K'
          repeat (first | ((first | with_reducible refine lexL_read ?_ | ((with_reducible refine lexL_readG ?_ ?_); (focus rfl))); apply Exists.intro; refine ⟨?_, ?_⟩; (focus (first | exact lex_load (ty := 30) rfl (fun w h => h) uK rK (by rw [XL.out]; exact infoHash) | (intro w' hS; obtain _ := hS; go_simp; (try with_reducible rfl); done))); try simp only [Act.put, List.setIfInBounds_toArray, List.set_cons_zero, List.set_cons_succ]) | ((first | ((with_reducible refine lexL_skip (c := false) ?_ ?_ ?_); (focus rfl); (focus rfl)) | ((with_reducible refine lexL_skip (c := true) ?_ ?_ ?_); (focus rfl); (focus rfl)) | ((with_reducible refine lexL_skipU ?_ ?_); (focus rfl))); try simp only [Act.put, List.setIfInBounds_toArray, List.set_cons_zero, List.set_cons_succ]))
          (first | with_reducible refine lexL_eff (fun K' hK' => ?_) | ((with_reducible refine lexL_effG ?_ (fun K' hK' => ?_)); (focus rfl)))
          go_simp
          refine (has_b M.out.x UU.out.2.1 XOK.out B2.out).mono ?_
          rintro e k2 ⟨rfl, f⟩
          replace M := Lib.hid (M.out.keep f)
          replace FA := Lib.hid (FA.out.trans0 f)
          clear f
          refine hK'.out _ _ ?_ (fun hS => ?_)
          · exact M.out.r
          try simp only [Act.put, List.setIfInBounds_toArray, List.set_cons_zero, List.set_cons_succ]
          clear hS hK' K'
          repeat (first | ((first | with_reducible refine lexL_read ?_ | ((with_reducible refine lexL_readG ?_ ?_); (focus rfl))); apply Exists.intro; refine ⟨?_, ?_⟩; (focus (first | exact lex_load (ty := 30) rfl (fun w h => h) uK rK (by rw [XL.out]; exact infoHash) | (intro w' hS; obtain _ := hS; go_simp; (try with_reducible rfl); done))); try simp only [Act.put, List.setIfInBounds_toArray, List.set_cons_zero, List.set_cons_succ]) | ((first | ((with_reducible refine lexL_skip (c := false) ?_ ?_ ?_); (focus rfl); (focus rfl)) | ((with_reducible refine lexL_skip (c := true) ?_ ?_ ?_); (focus rfl); (focus rfl)) | ((with_reducible refine lexL_skipU ?_ ?_); (focus rfl))); try simp only [Act.put, List.setIfInBounds_toArray, List.set_cons_zero, List.set_cons_succ]))
          (first | with_reducible refine lexL_eff (fun K' hK' => ?_) | ((with_reducible refine lexL_effG ?_ (fun K' hK' => ?_)); (focus rfl)))
          go_simp
          refine (has_b M.out.y UU.out.2.2 XOK.out B3.out).mono ?_
          rintro e k3 ⟨rfl, f⟩
          replace M := Lib.hid (M.out.keep f)
          replace FA := Lib.hid (FA.out.trans0 f)
          clear f
          refine hK'.out _ _ ?_ (fun hS => ?_)
          · exact M.out.r
          try simp only [Act.put, List.setIfInBounds_toArray, List.set_cons_zero, List.set_cons_succ]
          clear hS hK' K'
          repeat (first | ((first | with_reducible refine lexL_read ?_ | ((with_reducible refine lexL_readG ?_ ?_); (focus rfl))); apply Exists.intro; refine ⟨?_, ?_⟩; (focus (first | exact lex_load (ty := 30) rfl (fun w h => h) uK rK (by rw [XL.out]; exact infoHash) | (intro w' hS; obtain _ := hS; go_simp; (try with_reducible rfl); done))); try simp only [Act.put, List.setIfInBounds_toArray, List.set_cons_zero, List.set_cons_succ]) | ((first | ((with_reducible refine lexL_skip (c := false) ?_ ?_ ?_); (focus rfl); (focus rfl)) | ((with_reducible refine lexL_skip (c := true) ?_ ?_ ?_); (focus rfl); (focus rfl)) | ((with_reducible refine lexL_skipU ?_ ?_); (focus rfl))); try simp only [Act.put, List.setIfInBounds_toArray, List.set_cons_zero, List.set_cons_succ]))
          (first | with_reducible refine lexL_eff (fun K' hK' => ?_) | ((with_reducible refine lexL_effG ?_ (fun K' hK' => ?_)); (focus rfl)))
          go_simp
          refine (has_b M.out.d DD.out.1 XOK.out B4.out).mono ?_
          rintro e k4 ⟨rfl, f⟩
          replace M := Lib.hid (M.out.keep f)
          replace FA := Lib.hid (FA.out.trans0 f)
          clear f
          refine hK'.out _ _ ?_ (fun hS => ?_)
          · exact M.out.r
          try simp only [Act.put, List.setIfInBounds_toArray, List.set_cons_zero, List.set_cons_succ]
          clear hS hK' K'
          repeat (first | ((first | with_reducible refine lexL_read ?_ | ((with_reducible refine lexL_readG ?_ ?_); (focus rfl))); apply Exists.intro; refine ⟨?_, ?_⟩; (focus (first | exact lex_load (ty := 30) rfl (fun w h => h) uK rK (by rw [XL.out]; exact infoHash) | (intro w' hS; obtain _ := hS; go_simp; (try with_reducible rfl); done))); try simp only [Act.put, List.setIfInBounds_toArray, List.set_cons_zero, List.set_cons_succ]) | ((first | ((with_reducible refine lexL_skip (c := false) ?_ ?_ ?_); (focus rfl); (focus rfl)) | ((with_reducible refine lexL_skip (c := true) ?_ ?_ ?_); (focus rfl); (focus rfl)) | ((with_reducible refine lexL_skipU ?_ ?_); (focus rfl))); try simp only [Act.put, List.setIfInBounds_toArray, List.set_cons_zero, List.set_cons_succ]))
          (first | with_reducible refine lexL_eff (fun K' hK' => ?_) | ((with_reducible refine lexL_effG ?_ (fun K' hK' => ?_)); (focus rfl)))
          go_simp
          refine (has_b M.out.z DD.out.2.1 XOK.out B5.out).mono ?_
          rintro e k5 ⟨rfl, f⟩
          replace M := Lib.hid (M.out.keep f)
          replace FA := Lib.hid (FA.out.trans0 f)
          clear f
          refine hK'.out _ _ ?_ (fun hS => ?_)
          · exact M.out.r
          try simp only [Act.put, List.setIfInBounds_toArray, List.set_cons_zero, List.set_cons_succ]
          clear hS hK' K'
          repeat (first | ((first | with_reducible refine lexL_read ?_ | ((with_reducible refine lexL_readG ?_ ?_); (focus rfl))); apply Exists.intro; refine ⟨?_, ?_⟩; (focus (first | exact lex_load (ty := 30) rfl (fun w h => h) uK rK (by rw [XL.out]; exact infoHash) | (intro w' hS; obtain _ := hS; go_simp; (try with_reducible rfl); done))); try simp only [Act.put, List.setIfInBounds_toArray, List.set_cons_zero, List.set_cons_succ]) | ((first | ((with_reducible refine lexL_skip (c := false) ?_ ?_ ?_); (focus rfl); (focus rfl)) | ((with_reducible refine lexL_skip (c := true) ?_ ?_ ?_); (focus rfl); (focus rfl)) | ((with_reducible refine lexL_skipU ?_ ?_); (focus rfl))); try simp only [Act.put, List.setIfInBounds_toArray, List.set_cons_zero, List.set_cons_succ]))
          (first | with_reducible refine lexL_eff (fun K' hK' => ?_) | ((with_reducible refine lexL_effG ?_ (fun K' hK' => ?_)); (focus rfl)))
          go_simp
          refine (has_b M.out.e DD.out.2.2 XOK.out B6.out).mono ?_
          rintro e k6 ⟨rfl, f⟩
          replace M := Lib.hid (M.out.keep f)
          replace FA := Lib.hid (FA.out.trans0 f)
          clear f
          refine hK'.out _ _ ?_ (fun hS => ?_)
          · exact M.out.r
          try simp only [Act.put, List.setIfInBounds_toArray, List.set_cons_zero, List.set_cons_succ]
          clear hS hK' K'
          repeat (first | ((first | with_reducible refine lexL_read ?_ | ((with_reducible refine lexL_readG ?_ ?_); (focus rfl))); apply Exists.intro; refine ⟨?_, ?_⟩; (focus (first | exact lex_load (ty := 30) rfl (fun w h => h) uK rK (by rw [XL.out]; exact infoHash) | (intro w' hS; obtain _ := hS; go_simp; (try with_reducible rfl); done))); try simp only [Act.put, List.setIfInBounds_toArray, List.set_cons_zero, List.set_cons_succ]) | ((first | ((with_reducible refine lexL_skip (c := false) ?_ ?_ ?_); (focus rfl); (focus rfl)) | ((with_reducible refine lexL_skip (c := true) ?_ ?_ ?_); (focus rfl); (focus rfl)) | ((with_reducible refine lexL_skipU ?_ ?_); (focus rfl))); try simp only [Act.put, List.setIfInBounds_toArray, List.set_cons_zero, List.set_cons_succ]))
          refine lexL_nil (hK.out _ _ ?_)
          go_wp2
          go_roundw
          case rel => exact ⟨n + 1, by omega, by go_num, FA.out⟩
          case measure => simp [intOf]; omega
        · have B1 := Lib.hid (show true = true ↔ x ∈ SU by rw [HU.out]; simp [h1, h2])
          have B2 := Lib.hid (show false = true ↔ x ∈ SX by simp [h1])
          have B3 := Lib.hid (show true = true ↔ x ∈ SY by simp [h2])
          have B4 := Lib.hid (show false = true ↔ x ∈ SD by rw [HD.out]; simp [h3, h4])
          have B5 := Lib.hid (show false = true ↔ x ∈ SZ by simp [h3])
          have B6 := Lib.hid (show false = true ↔ x ∈ SE by simp [h4])
          clear h1 h3 h2 h4 HU HD
          refine wp_region_lexL [false, false, true, false, false, true, false, false, false, true, false, false, false, false, false, true, false, false, true, false, false, false, true, false, false, false] (fun W => W.rangeAt q5 0 (hashC x)) (by kernel_rfl) (by kernel_rfl) ?_ (fun K hK => ?_)
          · exact range_keep M.out.r (Fr.refl No _).drew id
          replace M := Lib.hid (M.out.keep (Fr.refl No w15).drew)
          replace FA := Lib.hid (FA.out.trans0 (Fr.refl No w15).drew)
          generalize w15.drew = k0 at *
          repeat (first | ((first | with_reducible refine lexL_read ?_ | ((with_reducible refine lexL_readG ?_ ?_); (focus rfl))); apply Exists.intro; refine ⟨?_, ?_⟩; (focus (first | exact lex_load (ty := 30) rfl (fun w h => h) uK rK (by rw [XL.out]; exact infoHash) | (intro w' hS; obtain _ := hS; go_simp; (try with_reducible rfl); done))); try simp only [Act.put, List.setIfInBounds_toArray, List.set_cons_zero, List.set_cons_succ]) | ((first | ((with_reducible refine lexL_skip (c := false) ?_ ?_ ?_); (focus rfl); (focus rfl)) | ((with_reducible refine lexL_skip (c := true) ?_ ?_ ?_); (focus rfl); (focus rfl)) | ((with_reducible refine lexL_skipU ?_ ?_); (focus rfl))); try simp only [Act.put, List.setIfInBounds_toArray, List.set_cons_zero, List.set_cons_succ]))
          (first | with_reducible refine lexL_eff (fun K' hK' => ?_) | ((with_reducible refine lexL_effG ?_ (fun K' hK' => ?_)); (focus rfl)))
          go_simp
          refine (has_b M.out.u UU.out.1 XOK.out B1.out).mono ?_
          rintro e k1 ⟨rfl, f⟩
          replace M := Lib.hid (M.out.keep f)
          replace FA := Lib.hid (FA.out.trans0 f)
          clear f
          refine hK'.out _ _ ?_ (fun hS => ?_)
          · exact M.out.r
          try simp only [Act.put, List.setIfInBounds_toArray, List.set_cons_zero, List.set_cons_succ]
          clear hS hK' K'
          repeat (first | ((first | with_reducible refine lexL_read ?_ | ((with_reducible refine lexL_readG ?_ ?_); (focus rfl))); apply Exists.intro; refine ⟨?_, ?_⟩; (focus (first | exact lex_load (ty := 30) rfl (fun w h => h) uK rK (by rw [XL.out]; exact infoHash) | (intro w' hS; obtain _ := hS; go_simp; (try with_reducible rfl); done))); try simp only [Act.put, List.setIfInBounds_toArray, List.set_cons_zero, List.set_cons_succ]) | ((first | ((with_reducible refine lexL_skip (c := false) ?_ ?_ ?_); (focus rfl); (focus rfl)) | ((with_reducible refine lexL_skip (c := true) ?_ ?_ ?_); (focus rfl); (focus rfl)) | ((with_reducible refine lexL_skipU ?_ ?_); (focus rfl))); try simp only [Act.put, List.setIfInBounds_toArray, List.set_cons_zero, List.set_cons_succ]))
          (first | with_reducible refine lexL_eff (fun K' hK' => ?_) | ((with_reducible refine lexL_effG ?_ (fun K' hK' => ?_)); (focus rfl)))
          go_simp
          refine (has_b M.out.x UU.out.2.1 XOK.out B2.out).mono ?_
          rintro e k2 ⟨rfl, f⟩
          replace M := Lib.hid (M.out.keep f)
          replace FA := Lib.hid (FA.out.trans0 f)
          clear f
          refine hK'.out _ _ ?_ (fun hS => ?_)
          · exact M.out.r
          try simp only [Act.put, List.setIfInBounds_toArray, List.set_cons_zero, List.set_cons_succ]
          clear hS hK' K'
          repeat (first | ((first | with_reducible refine lexL_read ?_ | ((with_reducible refine lexL_readG ?_ ?_); (focus rfl))); apply Exists.intro; refine ⟨?_, ?_⟩; (focus (first | exact lex_load (ty := 30) rfl (fun w h => h) uK rK (by rw [XL.out]; exact infoHash) | (intro w' hS; obtain _ := hS; go_simp; (try with_reducible rfl); done))); try simp only [Act.put, List.setIfInBounds_toArray, List.set_cons_zero, List.set_cons_succ]) | ((first | ((with_reducible refine lexL_skip (c := false) ?_ ?_ ?_); (focus rfl); (focus rfl)) | ((with_reducible refine lexL_skip (c := true) ?_ ?_ ?_); (focus rfl); (focus rfl)) | ((with_reducible refine lexL_skipU ?_ ?_); (focus rfl))); try simp only [Act.put, List.setIfInBounds_toArray, List.set_cons_zero, List.set_cons_succ]))
          (first | with_reducible refine lexL_eff (fun K' hK' => ?_) | ((with_reducible refine lexL_effG ?_ (fun K' hK' => ?_)); (focus rfl)))
          go_simp
          refine (has_b M.out.y UU.out.2.2 XOK.out B3.out).mono ?_
          rintro e k3 ⟨rfl, f⟩
          replace M := Lib.hid (M.out.keep f)
          replace FA := Lib.hid (FA.out.trans0 f)
          clear f
          refine hK'.out _ _ ?_ (fun hS => ?_)
          · exact M.out.r
          try simp only [Act.put, List.setIfInBounds_toArray, List.set_cons_zero, List.set_cons_succ]
          clear hS hK' K'
          repeat (first | ((first | with_reducible refine lexL_read ?_ | ((with_reducible refine lexL_readG ?_ ?_); (focus rfl))); apply Exists.intro; refine ⟨?_, ?_⟩; (focus (first | exact lex_load (ty := 30) rfl (fun w h => h) uK rK (by rw [XL.out]; exact infoHash) | (intro w' hS; obtain _ := hS; go_simp; (try with_reducible rfl); done))); try simp only [Act.put, List.setIfInBounds_toArray, List.set_cons_zero, List.set_cons_succ]) | ((first | ((with_reducible refine lexL_skip (c := false) ?_ ?_ ?_); (focus rfl); (focus rfl)) | ((with_reducible refine lexL_skip (c := true) ?_ ?_ ?_); (focus rfl); (focus rfl)) | ((with_reducible refine lexL_skipU ?_ ?_); (focus rfl))); try simp only [Act.put, List.setIfInBounds_toArray, List.set_cons_zero, List.set_cons_succ]))
          (first | with_reducible refine lexL_eff (fun K' hK' => ?_) | ((with_reducible refine lexL_effG ?_ (fun K' hK' => ?_)); (focus rfl)))
          go_simp
          refine (has_b M.out.d DD.out.1 XOK.out B4.out).mono ?_
          rintro e k4 ⟨rfl, f⟩
          replace M := Lib.hid (M.out.keep f)
          replace FA := Lib.hid (FA.out.trans0 f)
          clear f
          refine hK'.out _ _ ?_ (fun hS => ?_)
          · exact M.out.r
          try simp only [Act.put, List.setIfInBounds_toArray, List.set_cons_zero, List.set_cons_succ]
          clear hS hK' K'
          repeat (first | ((first | with_reducible refine lexL_read ?_ | ((with_reducible refine lexL_readG ?_ ?_); (focus rfl))); apply Exists.intro; refine ⟨?_, ?_⟩; (focus (first | exact lex_load (ty := 30) rfl (fun w h => h) uK rK (by rw [XL.out]; exact infoHash) | (intro w' hS; obtain _ := hS; go_simp; (try with_reducible rfl); done))); try simp only [Act.put, List.setIfInBounds_toArray, List.set_cons_zero, List.set_cons_succ]) | ((first | ((with_reducible refine lexL_skip (c := false) ?_ ?_ ?_); (focus rfl); (focus rfl)) | ((with_reducible refine lexL_skip (c := true) ?_ ?_ ?_); (focus rfl); (focus rfl)) | ((with_reducible refine lexL_skipU ?_ ?_); (focus rfl))); try simp only [Act.put, List.setIfInBounds_toArray, List.set_cons_zero, List.set_cons_succ]))
          (first | with_reducible refine lexL_eff (fun K' hK' => ?_) | ((with_reducible refine lexL_effG ?_ (fun K' hK' => ?_)); (focus rfl)))
          go_simp
          refine (has_b M.out.z DD.out.2.1 XOK.out B5.out).mono ?_
          rintro e k5 ⟨rfl, f⟩
          replace M := Lib.hid (M.out.keep f)
          replace FA := Lib.hid (FA.out.trans0 f)
          clear f
          refine hK'.out _ _ ?_ (fun hS => ?_)
          · exact M.out.r
          try simp only [Act.put, List.setIfInBounds_toArray, List.set_cons_zero, List.set_cons_succ]
          clear hS hK' K'
          repeat (first | ((first | with_reducible refine lexL_read ?_ | ((with_reducible refine lexL_readG ?_ ?_); (focus rfl))); apply Exists.intro; refine ⟨?_, ?_⟩; (focus (first | exact lex_load (ty := 30) rfl (fun w h => h) uK rK (by rw [XL.out]; exact infoHash) | (intro w' hS; obtain _ := hS; go_simp; (try with_reducible rfl); done))); try simp only [Act.put, List.setIfInBounds_toArray, List.set_cons_zero, List.set_cons_succ]) | ((first | ((with_reducible refine lexL_skip (c := false) ?_ ?_ ?_); (focus rfl); (focus rfl)) | ((with_reducible refine lexL_skip (c := true) ?_ ?_ ?_); (focus rfl); (focus rfl)) | ((with_reducible refine lexL_skipU ?_ ?_); (focus rfl))); try simp only [Act.put, List.setIfInBounds_toArray, List.set_cons_zero, List.set_cons_succ]))
          (first | with_reducible refine lexL_eff (fun K' hK' => ?_) | ((with_reducible refine lexL_effG ?_ (fun K' hK' => ?_)); (focus rfl)))
          go_simp
          refine (has_b M.out.e DD.out.2.2 XOK.out B6.out).mono ?_
          rintro e k6 ⟨rfl, f⟩
          replace M := Lib.hid (M.out.keep f)
          replace FA := Lib.hid (FA.out.trans0 f)
          clear f
          refine hK'.out _ _ ?_ (fun hS => ?_)
          · exact M.out.r
          try simp only [Act.put, List.setIfInBounds_toArray, List.set_cons_zero, List.set_cons_succ]
          clear hS hK' K'
          repeat (first | ((first | with_reducible refine lexL_read ?_ | ((with_reducible refine lexL_readG ?_ ?_); (focus rfl))); apply Exists.intro; refine ⟨?_, ?_⟩; (focus (first | exact lex_load (ty := 30) rfl (fun w h => h) uK rK (by rw [XL.out]; exact infoHash) | (intro w' hS; obtain _ := hS; go_simp; (try with_reducible rfl); done))); try simp only [Act.put, List.setIfInBounds_toArray, List.set_cons_zero, List.set_cons_succ]) | ((first | ((with_reducible refine lexL_skip (c := false) ?_ ?_ ?_); (focus rfl); (focus rfl)) | ((with_reducible refine lexL_skip (c := true) ?_ ?_ ?_); (focus rfl); (focus rfl)) | ((with_reducible refine lexL_skipU ?_ ?_); (focus rfl))); try simp only [Act.put, List.setIfInBounds_toArray, List.set_cons_zero, List.set_cons_succ]))
          refine lexL_nil (hK.out _ _ ?_)
          go_wp2
          go_roundw
          case rel => exact ⟨n + 1, by omega, by go_num, FA.out⟩
          case measure => simp [intOf]; omega
      · rcases (show (x ∈ SZ) ∨ (x ∉ SZ ∧ x ∈ SE) ∨ (x ∉ SZ ∧ x ∉ SE) by by_cases h3 : x ∈ SZ <;> by_cases h4 : x ∈ SE <;> simp [h3, h4]) with h3 | ⟨h3, h4⟩ | ⟨h3, h4⟩
        · have B1 := Lib.hid (show false = true ↔ x ∈ SU by rw [HU.out]; simp [h1, h2])
          have B2 := Lib.hid (show false = true ↔ x ∈ SX by simp [h1])
          have B3 := Lib.hid (show false = true ↔ x ∈ SY by simp [h2])
          have B4 := Lib.hid (show true = true ↔ x ∈ SD by rw [HD.out]; simp [h3])
          have B5 := Lib.hid (show true = true ↔ x ∈ SZ by simp [h3])
          clear h1 h3 h2 HU HD
          refine wp_region_lexL [false, false, true, false, false, true, false, false, false, true, false, false, false, false, false, true, false, false, true, false, false, false, true, false, false, false] (fun W => W.rangeAt q5 0 (hashC x)) (by kernel_rfl) (by kernel_rfl) ?_ (fun K hK => ?_)
          · exact range_keep M.out.r (Fr.refl No _).drew id
          replace M := Lib.hid (M.out.keep (Fr.refl No w15).drew)
          replace FA := Lib.hid (FA.out.trans0 (Fr.refl No w15).drew)
          generalize w15.drew = k0 at *
          repeat (first | ((first | with_reducible refine lexL_read ?_ | ((with_reducible refine lexL_readG ?_ ?_); (focus rfl))); apply Exists.intro; refine ⟨?_, ?_⟩; (focus (first | exact lex_load (ty := 30) rfl (fun w h => h) uK rK (by rw [XL.out]; exact infoHash) | (intro w' hS; obtain _ := hS; go_simp; (try with_reducible rfl); done))); try simp only [Act.put, List.setIfInBounds_toArray, List.set_cons_zero, List.set_cons_succ]) | ((first | ((with_reducible refine lexL_skip (c := false) ?_ ?_ ?_); (focus rfl); (focus rfl)) | ((with_reducible refine lexL_skip (c := true) ?_ ?_ ?_); (focus rfl); (focus rfl)) | ((with_reducible refine lexL_skipU ?_ ?_); (focus rfl))); try simp only [Act.put, List.setIfInBounds_toArray, List.set_cons_zero, List.set_cons_succ]))
          (first | with_reducible refine lexL_eff (fun K' hK' => ?_) | ((with_reducible refine lexL_effG ?_ (fun K' hK' => ?_)); (focus rfl)))
          go_simp
          refine (has_b M.out.u UU.out.1 XOK.out B1.out).mono ?_
          rintro e k1 ⟨rfl, f⟩
          replace M := Lib.hid (M.out.keep f)
          replace FA := Lib.hid (FA.out.trans0 f)
          clear f
          refine hK'.out _ _ ?_ (fun hS => ?_)
          · exact M.out.r
          try simp only [Act.put, List.setIfInBounds_toArray, List.set_cons_zero, List.set_cons_succ]
          clear hS hK' K'
          repeat (first | ((first | with_reducible refine lexL_read ?_ | ((with_reducible refine lexL_readG ?_ ?_); (focus rfl))); apply Exists.intro; refine ⟨?_, ?_⟩; (focus (first | exact lex_load (ty := 30) rfl (fun w h => h) uK rK (by rw [XL.out]; exact infoHash) | (intro w' hS; obtain _ := hS; go_simp; (try with_reducible rfl); done))); try simp only [Act.put, List.setIfInBounds_toArray, List.set_cons_zero, List.set_cons_succ]) | ((first | ((with_reducible refine lexL_skip (c := false) ?_ ?_ ?_); (focus rfl); (focus rfl)) | ((with_reducible refine lexL_skip (c := true) ?_ ?_ ?_); (focus rfl); (focus rfl)) | ((with_reducible refine lexL_skipU ?_ ?_); (focus rfl))); try simp only [Act.put, List.setIfInBounds_toArray, List.set_cons_zero, List.set_cons_succ]))
          (first | with_reducible refine lexL_eff (fun K' hK' => ?_) | ((with_reducible refine lexL_effG ?_ (fun K' hK' => ?_)); (focus rfl)))
          go_simp
          refine (has_b M.out.x UU.out.2.1 XOK.out B2.out).mono ?_
          rintro e k2 ⟨rfl, f⟩
          replace M := Lib.hid (M.out.keep f)
          replace FA := Lib.hid (FA.out.trans0 f)
          clear f
          refine hK'.out _ _ ?_ (fun hS => ?_)
          · exact M.out.r
          try simp only [Act.put, List.setIfInBounds_toArray, List.set_cons_zero, List.set_cons_succ]
          clear hS hK' K'
          repeat (first | ((first | with_reducible refine lexL_read ?_ | ((with_reducible refine lexL_readG ?_ ?_); (focus rfl))); apply Exists.intro; refine ⟨?_, ?_⟩; (focus (first | exact lex_load (ty := 30) rfl (fun w h => h) uK rK (by rw [XL.out]; exact infoHash) | (intro w' hS; obtain _ := hS; go_simp; (try with_reducible rfl); done))); try simp only [Act.put, List.setIfInBounds_toArray, List.set_cons_zero, List.set_cons_succ]) | ((first | ((with_reducible refine lexL_skip (c := false) ?_ ?_ ?_); (focus rfl); (focus rfl)) | ((with_reducible refine lexL_skip (c := true) ?_ ?_ ?_); (focus rfl); (focus rfl)) | ((with_reducible refine lexL_skipU ?_ ?_); (focus rfl))); try simp only [Act.put, List.setIfInBounds_toArray, List.set_cons_zero, List.set_cons_succ]))
          (first | with_reducible refine lexL_eff (fun K' hK' => ?_) | ((with_reducible refine lexL_effG ?_ (fun K' hK' => ?_)); (focus rfl)))
          go_simp
          refine (has_b M.out.y UU.out.2.2 XOK.out B3.out).mono ?_
          rintro e k3 ⟨rfl, f⟩
          replace M := Lib.hid (M.out.keep f)
          replace FA := Lib.hid (FA.out.trans0 f)
          clear f
          refine hK'.out _ _ ?_ (fun hS => ?_)
          · exact M.out.r
          try simp only [Act.put, List.setIfInBounds_toArray, List.set_cons_zero, List.set_cons_succ]
          clear hS hK' K'
          repeat (first | ((first | with_reducible refine lexL_read ?_ | ((with_reducible refine lexL_readG ?_ ?_); (focus rfl))); apply Exists.intro; refine ⟨?_, ?_⟩; (focus (first | exact lex_load (ty := 30) rfl (fun w h => h) uK rK (by rw [XL.out]; exact infoHash) | (intro w' hS; obtain _ := hS; go_simp; (try with_reducible rfl); done))); try simp only [Act.put, List.setIfInBounds_toArray, List.set_cons_zero, List.set_cons_succ]) | ((first | ((with_reducible refine lexL_skip (c := false) ?_ ?_ ?_); (focus rfl); (focus rfl)) | ((with_reducible refine lexL_skip (c := true) ?_ ?_ ?_); (focus rfl); (focus rfl)) | ((with_reducible refine lexL_skipU ?_ ?_); (focus rfl))); try simp only [Act.put, List.setIfInBounds_toArray, List.set_cons_zero, List.set_cons_succ]))
          (first | with_reducible refine lexL_eff (fun K' hK' => ?_) | ((with_reducible refine lexL_effG ?_ (fun K' hK' => ?_)); (focus rfl)))
          go_simp
          refine (has_b M.out.d DD.out.1 XOK.out B4.out).mono ?_
          rintro e k4 ⟨rfl, f⟩
          replace M := Lib.hid (M.out.keep f)
          replace FA := Lib.hid (FA.out.trans0 f)
          clear f
          refine hK'.out _ _ ?_ (fun hS => ?_)
          · exact M.out.r
          try simp only [Act.put, List.setIfInBounds_toArray, List.set_cons_zero, List.set_cons_succ]
          clear hS hK' K'
          repeat (first | ((first | with_reducible refine lexL_read ?_ | ((with_reducible refine lexL_readG ?_ ?_); (focus rfl))); apply Exists.intro; refine ⟨?_, ?_⟩; (focus (first | exact lex_load (ty := 30) rfl (fun w h => h) uK rK (by rw [XL.out]; exact infoHash) | (intro w' hS; obtain _ := hS; go_simp; (try with_reducible rfl); done))); try simp only [Act.put, List.setIfInBounds_toArray, List.set_cons_zero, List.set_cons_succ]) | ((first | ((with_reducible refine lexL_skip (c := false) ?_ ?_ ?_); (focus rfl); (focus rfl)) | ((with_reducible refine lexL_skip (c := true) ?_ ?_ ?_); (focus rfl); (focus rfl)) | ((with_reducible refine lexL_skipU ?_ ?_); (focus rfl))); try simp only [Act.put, List.setIfInBounds_toArray, List.set_cons_zero, List.set_cons_succ]))
          (first | with_reducible refine lexL_eff (fun K' hK' => ?_) | ((with_reducible refine lexL_effG ?_ (fun K' hK' => ?_)); (focus rfl)))
          go_simp
          refine (has_b M.out.z DD.out.2.1 XOK.out B5.out).mono ?_
          rintro e k5 ⟨rfl, f⟩
          replace M := Lib.hid (M.out.keep f)
          replace FA := Lib.hid (FA.out.trans0 f)
          clear f
          refine hK'.out _ _ ?_ (fun hS => ?_)
          · exact M.out.r
          try simp only [Act.put, List.setIfInBounds_toArray, List.set_cons_zero, List.set_cons_succ]
          clear hS hK' K'
          repeat (first | ((first | with_reducible refine lexL_read ?_ | ((with_reducible refine lexL_readG ?_ ?_); (focus rfl))); apply Exists.intro; refine ⟨?_, ?_⟩; (focus (first | exact lex_load (ty := 30) rfl (fun w h => h) uK rK (by rw [XL.out]; exact infoHash) | (intro w' hS; obtain _ := hS; go_simp; (try with_reducible rfl); done))); try simp only [Act.put, List.setIfInBounds_toArray, List.set_cons_zero, List.set_cons_succ]) | ((first | ((with_reducible refine lexL_skip (c := false) ?_ ?_ ?_); (focus rfl); (focus rfl)) | ((with_reducible refine lexL_skip (c := true) ?_ ?_ ?_); (focus rfl); (focus rfl)) | ((with_reducible refine lexL_skipU ?_ ?_); (focus rfl))); try simp only [Act.put, List.setIfInBounds_toArray, List.set_cons_zero, List.set_cons_succ]))
          refine lexL_nil (hK.out _ _ ?_)
          go_wp2
          go_roundw
          case rel => exact ⟨n + 1, by omega, by go_num, FA.out⟩
          case measure => simp [intOf]; omega
        · have B1 := Lib.hid (show false = true ↔ x ∈ SU by rw [HU.out]; simp [h1, h2])
          have B2 := Lib.hid (show false = true ↔ x ∈ SX by simp [h1])
          have B3 := Lib.hid (show false = true ↔ x ∈ SY by simp [h2])
          have B4 := Lib.hid (show true = true ↔ x ∈ SD by rw [HD.out]; simp [h3, h4])
          have B5 := Lib.hid (show false = true ↔ x ∈ SZ by simp [h3])
          have B6 := Lib.hid (show true = true ↔ x ∈ SE by simp [h4])
          clear h1 h3 h2 h4 HU HD
          refine wp_region_lexL [false, false, true, false, false, true, false, false, false, true, false, false, false, false, false, true, false, false, true, false, false, false, true, false, false, false] (fun W => W.rangeAt q5 0 (hashC x)) (by kernel_rfl) (by kernel_rfl) ?_ (fun K hK => ?_)
          · exact range_keep M.out.r (Fr.refl No _).drew id
          replace M := Lib.hid (M.out.keep (Fr.refl No w15).drew)
          replace FA := Lib.hid (FA.out.trans0 (Fr.refl No w15).drew)
          generalize w15.drew = k0 at *
          repeat (first | ((first | with_reducible refine lexL_read ?_ | ((with_reducible refine lexL_readG ?_ ?_); (focus rfl))); apply Exists.intro; refine ⟨?_, ?_⟩; (focus (first | exact lex_load (ty := 30) rfl (fun w h => h) uK rK (by rw [XL.out]; exact infoHash) | (intro w' hS; obtain _ := hS; go_simp; (try with_reducible rfl); done))); try simp only [Act.put, List.setIfInBounds_toArray, List.set_cons_zero, List.set_cons_succ]) | ((first | ((with_reducible refine lexL_skip (c := false) ?_ ?_ ?_); (focus rfl); (focus rfl)) | ((with_reducible refine lexL_skip (c := true) ?_ ?_ ?_); (focus rfl); (focus rfl)) | ((with_reducible refine lexL_skipU ?_ ?_); (focus rfl))); try simp only [Act.put, List.setIfInBounds_toArray, List.set_cons_zero, List.set_cons_succ]))
          (first | with_reducible refine lexL_eff (fun K' hK' => ?_) | ((with_reducible refine lexL_effG ?_ (fun K' hK' => ?_)); (focus rfl)))
          go_simp
          refine (has_b M.out.u UU.out.1 XOK.out B1.out).mono ?_
          rintro e k1 ⟨rfl, f⟩
          replace M := Lib.hid (M.out.keep f)
          replace FA := Lib.hid (FA.out.trans0 f)
          clear f
          refine hK'.out _ _ ?_ (fun hS => ?_)
          · exact M.out.r
          try simp only [Act.put, List.setIfInBounds_toArray, List.set_cons_zero, List.set_cons_succ]
          clear hS hK' K'
          repeat (first | ((first | with_reducible refine lexL_read ?_ | ((with_reducible refine lexL_readG ?_ ?_); (focus rfl))); apply Exists.intro; refine ⟨?_, ?_⟩; (focus (first | exact lex_load (ty := 30) rfl (fun w h => h) uK rK (by rw [XL.out]; exact infoHash) | (intro w' hS; obtain _ := hS; go_simp; (try with_reducible rfl); done))); try simp only [Act.put, List.setIfInBounds_toArray, List.set_cons_zero, List.set_cons_succ]) | ((first | ((with_reducible refine lexL_skip (c := false) ?_ ?_ ?_); (focus rfl); (focus rfl)) | ((with_reducible refine lexL_skip (c := true) ?_ ?_ ?_); (focus rfl); (focus rfl)) | ((with_reducible refine lexL_skipU ?_ ?_); (focus rfl))); try simp only [Act.put, List.setIfInBounds_toArray, List.set_cons_zero, List.set_cons_succ]))
          (first | with_reducible refine lexL_eff (fun K' hK' => ?_) | ((with_reducible refine lexL_effG ?_ (fun K' hK' => ?_)); (focus rfl)))
          go_simp
          refine (has_b M.out.x UU.out.2.1 XOK.out B2.out).mono ?_
          rintro e k2 ⟨rfl, f⟩
          replace M := Lib.hid (M.out.keep f)
          replace FA := Lib.hid (FA.out.trans0 f)
          clear f
          refine hK'.out _ _ ?_ (fun hS => ?_)
          · exact M.out.r
          try simp only [Act.put, List.setIfInBounds_toArray, List.set_cons_zero, List.set_cons_succ]
          clear hS hK' K'
          repeat (first | ((first | with_reducible refine lexL_read ?_ | ((with_reducible refine lexL_readG ?_ ?_); (focus rfl))); apply Exists.intro; refine ⟨?_, ?_⟩; (focus (first | exact lex_load (ty := 30) rfl (fun w h => h) uK rK (by rw [XL.out]; exact infoHash) | (intro w' hS; obtain _ := hS; go_simp; (try with_reducible rfl); done))); try simp only [Act.put, List.setIfInBounds_toArray, List.set_cons_zero, List.set_cons_succ]) | ((first | ((with_reducible refine lexL_skip (c := false) ?_ ?_ ?_); (focus rfl); (focus rfl)) | ((with_reducible refine lexL_skip (c := true) ?_ ?_ ?_); (focus rfl); (focus rfl)) | ((with_reducible refine lexL_skipU ?_ ?_); (focus rfl))); try simp only [Act.put, List.setIfInBounds_toArray, List.set_cons_zero, List.set_cons_succ]))
          (first | with_reducible refine lexL_eff (fun K' hK' => ?_) | ((with_reducible refine lexL_effG ?_ (fun K' hK' => ?_)); (focus rfl)))
          go_simp
          refine (has_b M.out.y UU.out.2.2 XOK.out B3.out).mono ?_
          rintro e k3 ⟨rfl, f⟩
          replace M := Lib.hid (M.out.keep f)
          replace FA := Lib.hid (FA.out.trans0 f)
          clear f
          refine hK'.out _ _ ?_ (fun hS => ?_)
          · exact M.out.r
          try simp only [Act.put, List.setIfInBounds_toArray, List.set_cons_zero, List.set_cons_succ]
          clear hS hK' K'
          repeat (first | ((first | with_reducible refine lexL_read ?_ | ((with_reducible refine lexL_readG ?_ ?_); (focus rfl))); apply Exists.intro; refine ⟨?_, ?_⟩; (focus (first | exact lex_load (ty := 30) rfl (fun w h => h) uK rK (by rw [XL.out]; exact infoHash) | (intro w' hS; obtain _ := hS; go_simp; (try with_reducible rfl); done))); try simp only [Act.put, List.setIfInBounds_toArray, List.set_cons_zero, List.set_cons_succ]) | ((first | ((with_reducible refine lexL_skip (c := false) ?_ ?_ ?_); (focus rfl); (focus rfl)) | ((with_reducible refine lexL_skip (c := true) ?_ ?_ ?_); (focus rfl); (focus rfl)) | ((with_reducible refine lexL_skipU ?_ ?_); (focus rfl))); try simp only [Act.put, List.setIfInBounds_toArray, List.set_cons_zero, List.set_cons_succ]))
          (first | with_reducible refine lexL_eff (fun K' hK' => ?_) | ((with_reducible refine lexL_effG ?_ (fun K' hK' => ?_)); (focus rfl)))
          go_simp
          refine (has_b M.out.d DD.out.1 XOK.out B4.out).mono ?_
          rintro e k4 ⟨rfl, f⟩
          replace M := Lib.hid (M.out.keep f)
          replace FA := Lib.hid (FA.out.trans0 f)
          clear f
          refine hK'.out _ _ ?_ (fun hS => ?_)
          · exact M.out.r
          try simp only [Act.put, List.setIfInBounds_toArray, List.set_cons_zero, List.set_cons_succ]
          clear hS hK' K'
          repeat (first | ((first | with_reducible refine lexL_read ?_ | ((with_reducible refine lexL_readG ?_ ?_); (focus rfl))); apply Exists.intro; refine ⟨?_, ?_⟩; (focus (first | exact lex_load (ty := 30) rfl (fun w h => h) uK rK (by rw [XL.out]; exact infoHash) | (intro w' hS; obtain _ := hS; go_simp; (try with_reducible rfl); done))); try simp only [Act.put, List.setIfInBounds_toArray, List.set_cons_zero, List.set_cons_succ]) | ((first | ((with_reducible refine lexL_skip (c := false) ?_ ?_ ?_); (focus rfl); (focus rfl)) | ((with_reducible refine lexL_skip (c := true) ?_ ?_ ?_); (focus rfl); (focus rfl)) | ((with_reducible refine lexL_skipU ?_ ?_); (focus rfl))); try simp only [Act.put, List.setIfInBounds_toArray, List.set_cons_zero, List.set_cons_succ]))
          (first | with_reducible refine lexL_eff (fun K' hK' => ?_) | ((with_reducible refine lexL_effG ?_ (fun K' hK' => ?_)); (focus rfl)))
          go_simp
          refine (has_b M.out.z DD.out.2.1 XOK.out B5.out).mono ?_
          rintro e k5 ⟨rfl, f⟩
          replace M := Lib.hid (M.out.keep f)
          replace FA := Lib.hid (FA.out.trans0 f)
          clear f
          refine hK'.out _ _ ?_ (fun hS => ?_)
          · exact M.out.r
          try simp only [Act.put, List.setIfInBounds_toArray, List.set_cons_zero, List.set_cons_succ]
          clear hS hK' K'
          repeat (first | ((first | with_reducible refine lexL_read ?_ | ((with_reducible refine lexL_readG ?_ ?_); (focus rfl))); apply Exists.intro; refine ⟨?_, ?_⟩; (focus (first | exact lex_load (ty := 30) rfl (fun w h => h) uK rK (by rw [XL.out]; exact infoHash) | (intro w' hS; obtain _ := hS; go_simp; (try with_reducible rfl); done))); try simp only [Act.put, List.setIfInBounds_toArray, List.set_cons_zero, List.set_cons_succ]) | ((first | ((with_reducible refine lexL_skip (c := false) ?_ ?_ ?_); (focus rfl); (focus rfl)) | ((with_reducible refine lexL_skip (c := true) ?_ ?_ ?_); (focus rfl); (focus rfl)) | ((with_reducible refine lexL_skipU ?_ ?_); (focus rfl))); try simp only [Act.put, List.setIfInBounds_toArray, List.set_cons_zero, List.set_cons_succ]))
          (first | with_reducible refine lexL_eff (fun K' hK' => ?_) | ((with_reducible refine lexL_effG ?_ (fun K' hK' => ?_)); (focus rfl)))
          go_simp
          refine (has_b M.out.e DD.out.2.2 XOK.out B6.out).mono ?_
          rintro e k6 ⟨rfl, f⟩
          replace M := Lib.hid (M.out.keep f)
          replace FA := Lib.hid (FA.out.trans0 f)
          clear f
          refine hK'.out _ _ ?_ (fun hS => ?_)
          · exact M.out.r
          try simp only [Act.put, List.setIfInBounds_toArray, List.set_cons_zero, List.set_cons_succ]
          clear hS hK' K'
          repeat (first | ((first | with_reducible refine lexL_read ?_ | ((with_reducible refine lexL_readG ?_ ?_); (focus rfl))); apply Exists.intro; refine ⟨?_, ?_⟩; (focus (first | exact lex_load (ty := 30) rfl (fun w h => h) uK rK (by rw [XL.out]; exact infoHash) | (intro w' hS; obtain _ := hS; go_simp; (try with_reducible rfl); done))); try simp only [Act.put, List.setIfInBounds_toArray, List.set_cons_zero, List.set_cons_succ]) | ((first | ((with_reducible refine lexL_skip (c := false) ?_ ?_ ?_); (focus rfl); (focus rfl)) | ((with_reducible refine lexL_skip (c := true) ?_ ?_ ?_); (focus rfl); (focus rfl)) | ((with_reducible refine lexL_skipU ?_ ?_); (focus rfl))); try simp only [Act.put, List.setIfInBounds_toArray, List.set_cons_zero, List.set_cons_succ]))
          refine lexL_nil (hK.out _ _ ?_)
          go_wp2
          go_roundw
          case rel => exact ⟨n + 1, by omega, by go_num, FA.out⟩
          case measure => simp [intOf]; omega
        · have B1 := Lib.hid (show false = true ↔ x ∈ SU by rw [HU.out]; simp [h1, h2])
          have B2 := Lib.hid (show false = true ↔ x ∈ SX by simp [h1])
          have B3 := Lib.hid (show false = true ↔ x ∈ SY by simp [h2])
          have B4 := Lib.hid (show false = true ↔ x ∈ SD by rw [HD.out]; simp [h3, h4])
          have B5 := Lib.hid (show false = true ↔ x ∈ SZ by simp [h3])
          have B6 := Lib.hid (show false = true ↔ x ∈ SE by simp [h4])
          clear h1 h3 h2 h4 HU HD
          refine wp_region_lexL [false, false, true, false, false, true, false, false, false, true, false, false, false, false, false, true, false, false, true, false, false, false, true, false, false, false] (fun W => W.rangeAt q5 0 (hashC x)) (by kernel_rfl) (by kernel_rfl) ?_ (fun K hK => ?_)
          · exact range_keep M.out.r (Fr.refl No _).drew id
          replace M := Lib.hid (M.out.keep (Fr.refl No w15).drew)
          replace FA := Lib.hid (FA.out.trans0 (Fr.refl No w15).drew)
          generalize w15.drew = k0 at *
          repeat (first | ((first | with_reducible refine lexL_read ?_ | ((with_reducible refine lexL_readG ?_ ?_); (focus rfl))); apply Exists.intro; refine ⟨?_, ?_⟩; (focus (first | exact lex_load (ty := 30) rfl (fun w h => h) uK rK (by rw [XL.out]; exact infoHash) | (intro w' hS; obtain _ := hS; go_simp; (try with_reducible rfl); done))); try simp only [Act.put, List.setIfInBounds_toArray, List.set_cons_zero, List.set_cons_succ]) | ((first | ((with_reducible refine lexL_skip (c := false) ?_ ?_ ?_); (focus rfl); (focus rfl)) | ((with_reducible refine lexL_skip (c := true) ?_ ?_ ?_); (focus rfl); (focus rfl)) | ((with_reducible refine lexL_skipU ?_ ?_); (focus rfl))); try simp only [Act.put, List.setIfInBounds_toArray, List.set_cons_zero, List.set_cons_succ]))
          (first | with_reducible refine lexL_eff (fun K' hK' => ?_) | ((with_reducible refine lexL_effG ?_ (fun K' hK' => ?_)); (focus rfl)))
          go_simp
          refine (has_b M.out.u UU.out.1 XOK.out B1.out).mono ?_
          rintro e k1 ⟨rfl, f⟩
          replace M := Lib.hid (M.out.keep f)
          replace FA := Lib.hid (FA.out.trans0 f)
          clear f
          refine hK'.out _ _ ?_ (fun hS => ?_)
          · exact M.out.r
          try simp only [Act.put, List.setIfInBounds_toArray, List.set_cons_zero, List.set_cons_succ]
          clear hS hK' K'
          repeat (first | ((first | with_reducible refine lexL_read ?_ | ((with_reducible refine lexL_readG ?_ ?_); (focus rfl))); apply Exists.intro; refine ⟨?_, ?_⟩; (focus (first | exact lex_load (ty := 30) rfl (fun w h => h) uK rK (by rw [XL.out]; exact infoHash) | (intro w' hS; obtain _ := hS; go_simp; (try with_reducible rfl); done))); try simp only [Act.put, List.setIfInBounds_toArray, List.set_cons_zero, List.set_cons_succ]) | ((first | ((with_reducible refine lexL_skip (c := false) ?_ ?_ ?_); (focus rfl); (focus rfl)) | ((with_reducible refine lexL_skip (c := true) ?_ ?_ ?_); (focus rfl); (focus rfl)) | ((with_reducible refine lexL_skipU ?_ ?_); (focus rfl))); try simp only [Act.put, List.setIfInBounds_toArray, List.set_cons_zero, List.set_cons_succ]))
          (first | with_reducible refine lexL_eff (fun K' hK' => ?_) | ((with_reducible refine lexL_effG ?_ (fun K' hK' => ?_)); (focus rfl)))
          go_simp
          refine (has_b M.out.x UU.out.2.1 XOK.out B2.out).mono ?_
          rintro e k2 ⟨rfl, f⟩
          replace M := Lib.hid (M.out.keep f)
          replace FA := Lib.hid (FA.out.trans0 f)
          clear f
          refine hK'.out _ _ ?_ (fun hS => ?_)
          · exact M.out.r
          try simp only [Act.put, List.setIfInBounds_toArray, List.set_cons_zero, List.set_cons_succ]
          clear hS hK' K'
          repeat (first | ((first | with_reducible refine lexL_read ?_ | ((with_reducible refine lexL_readG ?_ ?_); (focus rfl))); apply Exists.intro; refine ⟨?_, ?_⟩; (focus (first | exact lex_load (ty := 30) rfl (fun w h => h) uK rK (by rw [XL.out]; exact infoHash) | (intro w' hS; obtain _ := hS; go_simp; (try with_reducible rfl); done))); try simp only [Act.put, List.setIfInBounds_toArray, List.set_cons_zero, List.set_cons_succ]) | ((first | ((with_reducible refine lexL_skip (c := false) ?_ ?_ ?_); (focus rfl); (focus rfl)) | ((with_reducible refine lexL_skip (c := true) ?_ ?_ ?_); (focus rfl); (focus rfl)) | ((with_reducible refine lexL_skipU ?_ ?_); (focus rfl))); try simp only [Act.put, List.setIfInBounds_toArray, List.set_cons_zero, List.set_cons_succ]))
          (first | with_reducible refine lexL_eff (fun K' hK' => ?_) | ((with_reducible refine lexL_effG ?_ (fun K' hK' => ?_)); (focus rfl)))
          go_simp
          refine (has_b M.out.y UU.out.2.2 XOK.out B3.out).mono ?_
          rintro e k3 ⟨rfl, f⟩
          replace M := Lib.hid (M.out.keep f)
          replace FA := Lib.hid (FA.out.trans0 f)
          clear f
          refine hK'.out _ _ ?_ (fun hS => ?_)
          · exact M.out.r
          try simp only [Act.put, List.setIfInBounds_toArray, List.set_cons_zero, List.set_cons_succ]
          clear hS hK' K'
          repeat (first | ((first | with_reducible refine lexL_read ?_ | ((with_reducible refine lexL_readG ?_ ?_); (focus rfl))); apply Exists.intro; refine ⟨?_, ?_⟩; (focus (first | exact lex_load (ty := 30) rfl (fun w h => h) uK rK (by rw [XL.out]; exact infoHash) | (intro w' hS; obtain _ := hS; go_simp; (try with_reducible rfl); done))); try simp only [Act.put, List.setIfInBounds_toArray, List.set_cons_zero, List.set_cons_succ]) | ((first | ((with_reducible refine lexL_skip (c := false) ?_ ?_ ?_); (focus rfl); (focus rfl)) | ((with_reducible refine lexL_skip (c := true) ?_ ?_ ?_); (focus rfl); (focus rfl)) | ((with_reducible refine lexL_skipU ?_ ?_); (focus rfl))); try simp only [Act.put, List.setIfInBounds_toArray, List.set_cons_zero, List.set_cons_succ]))
          (first | with_reducible refine lexL_eff (fun K' hK' => ?_) | ((with_reducible refine lexL_effG ?_ (fun K' hK' => ?_)); (focus rfl)))
          go_simp
          refine (has_b M.out.d DD.out.1 XOK.out B4.out).mono ?_
          rintro e k4 ⟨rfl, f⟩
          replace M := Lib.hid (M.out.keep f)
          replace FA := Lib.hid (FA.out.trans0 f)
          clear f
          refine hK'.out _ _ ?_ (fun hS => ?_)
          · exact M.out.r
          try simp only [Act.put, List.setIfInBounds_toArray, List.set_cons_zero, List.set_cons_succ]
          clear hS hK' K'
          repeat (first | ((first | with_reducible refine lexL_read ?_ | ((with_reducible refine lexL_readG ?_ ?_); (focus rfl))); apply Exists.intro; refine ⟨?_, ?_⟩; (focus (first | exact lex_load (ty := 30) rfl (fun w h => h) uK rK (by rw [XL.out]; exact infoHash) | (intro w' hS; obtain _ := hS; go_simp; (try with_reducible rfl); done))); try simp only [Act.put, List.setIfInBounds_toArray, List.set_cons_zero, List.set_cons_succ]) | ((first | ((with_reducible refine lexL_skip (c := false) ?_ ?_ ?_); (focus rfl); (focus rfl)) | ((with_reducible refine lexL_skip (c := true) ?_ ?_ ?_); (focus rfl); (focus rfl)) | ((with_reducible refine lexL_skipU ?_ ?_); (focus rfl))); try simp only [Act.put, List.setIfInBounds_toArray, List.set_cons_zero, List.set_cons_succ]))
          (first | with_reducible refine lexL_eff (fun K' hK' => ?_) | ((with_reducible refine lexL_effG ?_ (fun K' hK' => ?_)); (focus rfl)))
          go_simp
          refine (has_b M.out.z DD.out.2.1 XOK.out B5.out).mono ?_
          rintro e k5 ⟨rfl, f⟩
          replace M := Lib.hid (M.out.keep f)
          replace FA := Lib.hid (FA.out.trans0 f)
          clear f
          refine hK'.out _ _ ?_ (fun hS => ?_)
          · exact M.out.r
          try simp only [Act.put, List.setIfInBounds_toArray, List.set_cons_zero, List.set_cons_succ]
          clear hS hK' K'
          repeat (first | ((first | with_reducible refine lexL_read ?_ | ((with_reducible refine lexL_readG ?_ ?_); (focus rfl))); apply Exists.intro; refine ⟨?_, ?_⟩; (focus (first | exact lex_load (ty := 30) rfl (fun w h => h) uK rK (by rw [XL.out]; exact infoHash) | (intro w' hS; obtain _ := hS; go_simp; (try with_reducible rfl); done))); try simp only [Act.put, List.setIfInBounds_toArray, List.set_cons_zero, List.set_cons_succ]) | ((first | ((with_reducible refine lexL_skip (c := false) ?_ ?_ ?_); (focus rfl); (focus rfl)) | ((with_reducible refine lexL_skip (c := true) ?_ ?_ ?_); (focus rfl); (focus rfl)) | ((with_reducible refine lexL_skipU ?_ ?_); (focus rfl))); try simp only [Act.put, List.setIfInBounds_toArray, List.set_cons_zero, List.set_cons_succ]))
          (first | with_reducible refine lexL_eff (fun K' hK' => ?_) | ((with_reducible refine lexL_effG ?_ (fun K' hK' => ?_)); (focus rfl)))
          go_simp
          refine (has_b M.out.e DD.out.2.2 XOK.out B6.out).mono ?_
          rintro e k6 ⟨rfl, f⟩
          replace M := Lib.hid (M.out.keep f)
          replace FA := Lib.hid (FA.out.trans0 f)
          clear f
          refine hK'.out _ _ ?_ (fun hS => ?_)
          · exact M.out.r
          try simp only [Act.put, List.setIfInBounds_toArray, List.set_cons_zero, List.set_cons_succ]
          clear hS hK' K'
          repeat (first | ((first | with_reducible refine lexL_read ?_ | ((with_reducible refine lexL_readG ?_ ?_); (focus rfl))); apply Exists.intro; refine ⟨?_, ?_⟩; (focus (first | exact lex_load (ty := 30) rfl (fun w h => h) uK rK (by rw [XL.out]; exact infoHash) | (intro w' hS; obtain _ := hS; go_simp; (try with_reducible rfl); done))); try simp only [Act.put, List.setIfInBounds_toArray, List.set_cons_zero, List.set_cons_succ]) | ((first | ((with_reducible refine lexL_skip (c := false) ?_ ?_ ?_); (focus rfl); (focus rfl)) | ((with_reducible refine lexL_skip (c := true) ?_ ?_ ?_); (focus rfl); (focus rfl)) | ((with_reducible refine lexL_skipU ?_ ?_); (focus rfl))); try simp only [Act.put, List.setIfInBounds_toArray, List.set_cons_zero, List.set_cons_succ]))
          refine lexL_nil (hK.out _ _ ?_)
          go_wp2
          go_roundw
          case rel => exact ⟨n + 1, by omega, by go_num, FA.out⟩
          case measure => simp [intOf]; omega
    · have i1 : ¬ (n : Int) < ((ids G).length : Int) := by omega
      go_wp2
      go_ret
      exact ⟨rfl, FF.out.trans0 FR.out⟩
end Go.Proofs.Ytnjkpjcnmdgoeaa
