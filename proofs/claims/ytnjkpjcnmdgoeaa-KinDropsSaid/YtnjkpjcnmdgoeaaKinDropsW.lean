/- KinDrops: the walk (printed by gen_kin.py). -/
import Derived.Test.YtnjkpjcnmdgoeaaKinU
import Derived.Test.YtnjkpjcnmdgoeaaKinV
import Derived.Test.YtnjkpjcnmdgoeaaSeq
import Derived.Test.YtnjkpjcnmdgoeaaTree
import Derived.Deep.Cut
namespace Go.Proofs.Ytnjkpjcnmdgoeaa
open Go Go.RowKit Go.Maps Go.MapKept

/-- The two graphs, the id's cell, the rest. -/
structure DropA (w0 w2 w : World) (p p2 : Nat) (V V2 : Nat → Prop) (G G2 : List NodeD) (vo vd vr : Value) (D R : List HashD) (q0 : Nat) (x : HashD) : Prop where
  g : GC w2 w p V G2 80
  h : GC w2 w p2 V2 G 80
  o : IdsIs w vo D
  d : IdsIs w vd D
  r : IdsIs w vr R
  x : w.rangeAt q0 0 (hashC x)
  f : Fr No w0 w
theorem DropA.keep {w0 w2 w w' : World} {p p2 : Nat} {V V2 : Nat → Prop} {G G2 : List NodeD} {vo vd vr : Value} {D R : List HashD} {q0 : Nat} {x : HashD} (h : DropA w0 w2 w p p2 V V2 G G2 vo vd vr D R q0 x) (f : Fr No w w') : DropA w0 w2 w' p p2 V V2 G G2 vo vd vr D R q0 x :=
  ⟨h.g.fr0 f, h.h.fr0 f, h.o.keep f, h.d.keep f, h.r.keep f, range_keep h.x f id, h.f.trans0 f⟩
/-- What is left without D. -/
def restU (D l : List HashD) : List HashD := l.filter fun y => decide (y ∉ D)
theorem restU_in {D l : List HashD} {y : HashD} (h : y ∈ D) : restU D (l ++ [y]) = restU D l := by simp [restU, List.filter_append, h]
theorem restU_out {D l : List HashD} {y : HashD} (h : y ∉ D) : restU D (l ++ [y]) = restU D l ++ [y] := by simp [restU, List.filter_append, h]
theorem restU_len (D l : List HashD) : (restU D l).length ≤ l.length := List.length_filter_le _ _
theorem restU_all {G : List NodeD} {D : List HashD} : restU D (ids G) = ids (cutL G D) := (ids_cut D).symm
/-- The two graphs, another id's cell. -/
structure DropB (w0 w2 w : World) (p p2 : Nat) (V V2 : Nat → Prop) (G G2 : List NodeD) (q : Nat) (y : HashD) : Prop where
  g : GC w2 w p V G2 80
  h : GC w2 w p2 V2 G 80
  s : w.rangeAt q 0 (hashC y)
  f : Fr No w0 w
theorem DropB.keep {w0 w2 w w' : World} {p p2 : Nat} {V V2 : Nat → Prop} {G G2 : List NodeD} {q : Nat} {y : HashD} (h : DropB w0 w2 w p p2 V V2 G G2 q y) (f : Fr No w w') : DropB w0 w2 w' p p2 V V2 G G2 q y :=
  ⟨h.g.fr0 f, h.h.fr0 f, range_keep h.s f id, h.f.trans0 f⟩

set_option maxRecDepth 100000 in
set_option maxHeartbeats 8000000 in
theorem drops_any (w : World) {v : Value} {L : List KActD} (hl : KActsIs w v L) {x : HashD} (hx : hashOk x) :
    Calls Try.prog 5 #[v, .agg (hashC x).toArray] w fun e w' => e = .returned (.bool true) ∧ Fr No w w' := by
  obtain ⟨dK, uK, rK⟩ := descHash
  have HL := Lib.hid hl
  obtain ⟨va, vc, rfl, -, -⟩ := hl
  have zh := zeroHash
  have XLEN := Lib.hid (hashC_len hx)
  have XOK := Lib.hid hx
  have R0 := Lib.hid (range_new w (hashC x) 30)
  have f0 := (Fr.refl No w).alloc (.cells (hashC x).toArray 30)
  have Q0 := Lib.hid (show w.heap.size < (w.alloc (.cells (hashC x).toArray 30)).heap.size by simp)
  have F0 := Lib.hid f0
  clear f0 hx
  by_cases hg : kgreat L = true
  · go_enter Try.func5, Try.ntmps5
    go_wp2_with (first | (go_at_call 10; generalize hq : w.heap.size = q0 at *; generalize (w.alloc (.cells (hashC x).toArray 30)) = w0 at *; refine (aliveK_any w0).mono ?_; rintro e w1 ⟨rfl, f1⟩; have F1 := Lib.hid (F0.out.trans0 f1); have F01 := Lib.hid f1; clear f1) | (go_at_call 11; refine (kgreat_any w1 (HL.out.keep F1.out)).mono ?_; rintro e w2 ⟨rfl, f2⟩; rw [hg]; have F2 := Lib.hid (F1.out.trans0 f2); have F02 := Lib.hid (F01.out.trans0 f2); clear f2))
    go_ret
    exact ⟨rfl, F2.out⟩
  have hg0 : kgreat L = false := by simpa using hg
  clear hg
  obtain ⟨D, hD⟩ : ∃ D, downS (grownG L) [x] = D := ⟨_, rfl⟩
  have HD := Lib.hid hD
  clear hD
  by_cases hin : x ∈ ids (grownG L)
  · have H0 := Lib.hid (show ∀ (G : List NodeD), GOk G → x ∈ ids G → downS G [x] = D → D[0]? = some x from fun G ok h e => by obtain ⟨r, hr⟩ := down_head ok h; rw [← e, hr]; rfl)
    go_enter Try.func5, Try.ntmps5
    have MkM0 := Lib.hid True.intro
    have MkM1 := Lib.hid True.intro
    have MkM2 := Lib.hid True.intro
    have MkM3 := Lib.hid True.intro
    have MkM4 := Lib.hid True.intro
    have MkM5 := Lib.hid True.intro
    have MkM6 := Lib.hid True.intro
    have MkM7 := Lib.hid True.intro
    have MkM8 := Lib.hid True.intro
    have MkM9 := Lib.hid True.intro
    go_wp2_with (first | (have mk := MkM0.out; (go_at_call 10; generalize hq : w.heap.size = q0 at *; generalize (w.alloc (.cells (hashC x).toArray 30)) = w0 at *; refine (aliveK_any w0).mono ?_; rintro e w1 ⟨rfl, f1⟩; have F1 := Lib.hid (F0.out.trans0 f1); have F01 := Lib.hid f1; clear f1); go_frame; clear mk MkM0) | (have mk := MkM1.out; (go_at_call 11; refine (kgreat_any w1 (HL.out.keep F1.out)).mono ?_; rintro e w2 ⟨rfl, f2⟩; rw [hg0]; have F2 := Lib.hid (F1.out.trans0 f2); have F02 := Lib.hid (F01.out.trans0 f2); clear f2); go_frame; clear mk MkM1) | (have mk := MkM2.out; (go_at_call 12; refine (grown_any w2 (HL.out.keep F2.out) hg0).mono ?_; rintro e w3 ⟨p, V, rfl, g3, b3⟩; have G3 := Lib.hid g3; have F3 := Lib.hid (F2.out.trans0 g3.fr); clear g3 b3); go_frame; clear mk MkM2) | (have mk := MkM3.out; (go_at_call 12; refine (grown_any w3 (HL.out.keep F3.out) hg0).mono ?_; rintro e w4 ⟨p2, V2, rfl, g4, b4⟩; generalize grownG L = G at *; have H4 := Lib.hid (g4.base G3.out.fr); have G4 := Lib.hid (G3.out.fr0 g4.fr); have F4 := Lib.hid (F3.out.trans0 g4.fr); have AP := Lib.hid (show ∀ j, V j → ¬ V2 j from fun j h1 h2 => by have := G3.out.hi j h1; have := g4.lo j h2; omega); have LO := Lib.hid (show ∀ j, V j → w2.heap.size ≤ j from G3.out.lo); have HI := Lib.hid (show ∀ j, V j → j < w4.heap.size from G4.out.hi); clear g4 b4); go_frame; clear mk MkM3) | (have mk := MkM4.out; (go_at_call 13; refine (all_K G4.out (by decide)).mono ?_; rintro e w5 ⟨v5, rfl, o5⟩; have O5 := Lib.hid o5; have F5 := Lib.hid (F4.out.trans0 o5.2); have G5 := Lib.hid (G4.out.fr0 o5.2); have H5 := Lib.hid (H4.out.fr0 o5.2); have R5 := Lib.hid (range_keep R0.out ((F02.out.trans0 G4.out.fr).trans0 o5.2) id); have Z5 := Lib.hid o5.2.size; obtain ⟨a5, c5, rfl⟩ := (o5.is G5.out.okId).2.form; have FA5 := Lib.hid ((Fr.refl No w5).alloc (.cells (hashC x).toArray 30)); clear o5 G4 H4); go_frame; clear mk MkM4) | (have mk := MkM5.out; ((with_reducible refine at_dst 27 ?_); refine wpList_vG rfl (exec_load (ty := 30) rfl rfl R5.out uK rK (by rw [XLEN.out]; exact infoHash)) ?_); go_frame; clear mk MkM5) | (have mk := MkM6.out; ((with_reducible refine at_dst 28 ?_); refine wpList_vG rfl (exec_buildSliceA (t := 27) rfl rfl undIds infoHashZ2 rfl (by decide) (by decide) XLEN.out) ?_); go_frame; clear mk MkM6) | (have mk := MkM7.out; (go_at_call 16; refine (down_K (G5.out.fr0 FA5.out) (by decide) (ids_new1 w5 XOK.out) (by simp)).mono ?_; rintro e w6 ⟨v6, rfl, o6⟩; have OKD := Lib.hid (show ∀ c ∈ D, hashOk c by rw [← HD.out]; exact G5.out.okDown _); rw [HD.out] at o6; have O6 := Lib.hid o6; have F56 := Lib.hid (FA5.out.trans0 o6.2); have R6 := Lib.hid (range_keep R5.out F56.out id); have G6 := Lib.hid (G5.out.fr0 F56.out); have H6 := Lib.hid (H5.out.fr0 F56.out); obtain ⟨a6, c6, rfl⟩ := (o6.is OKD.out).2.form; clear o6 G5 H5); go_frame; clear mk MkM7) | (have mk := MkM8.out; ((with_reducible refine at_dst 32 ?_); refine wpList_vG rfl (exec_load (ty := 30) rfl rfl R6.out uK rK (by rw [XLEN.out]; exact infoHash)) ?_); go_frame; clear mk MkM8) | (have mk := MkM9.out; (go_at_call 17; refine (drop_K G6.out (by decide) XOK.out).mono ?_; rintro e w7 ⟨v7, rfl, V7, g7, f7, s7, o7⟩; rw [HD.out] at g7 o7; rw [if_pos hin]; have G7 := Lib.hid g7; have F67 := Lib.hid f7; have O7 := Lib.hid o7; have H7 := Lib.hid (H6.out.frV f7 (fun j h1 h2 => AP.out j h2 h1) LO.out); have W7 := Lib.hid (IdsIs.own (ownsRow_keep (ownsRow_keep O5.out.1 F56.out (fun _ _ => id)) f7 (fun b e h => by have := (O5.out.1.lt b e).1; have := HI.out b h; omega)) G6.out.okId); have D7 := Lib.hid (IdsIs.own (ownsRow_keep O6.out.1 f7 (fun b e h => by have := (O6.out.1.lt b e).1; have := HI.out b h; have := Z5.out; have := FA5.out.size; omega)) OKD.out); have R7 := Lib.hid (range_keep R6.out f7 (fun h => by have := LO.out _ h; have := Q0.out; have := F02.out.size; omega)); have F7 := Lib.hid (F2.out.trans0 g7.fr); have P7 := Lib.hid (IdsIs.own o7 OKD.out); obtain ⟨a7, c7, rfl⟩ := P7.out.2.form; have dx : D[0]? = some x := H0.out G H7.out.gok hin HD.out; have jd : 0 < D.length := (List.getElem?_eq_some_iff.1 dx).1; have j0 : ((D.length : Int) == 0) = false := (by rw [beq_eq_false_iff_ne]; omega); clear g7 f7 s7 o7 G6 H6 O7); go_frame; clear mk MkM9))
    have DL := Lib.hid (show D.length ≤ 80 by rw [← HD.out]; have := down_len (G := G) [x]; have := H7.out.len; omega)
    have hn80 : (ids G).length ≤ 80 := by have := H7.out.len; simpa [ids] using this
    clear O5 O6 F56 FA5 Z5 R6 F67 R5 F5 H0
    go_loopw [11, 54] (fun rv iv wr => ∃ n : Nat, iv = .int .i64 n ∧ n ≤ (ids G).length ∧ wr.ownsRow w7.heap.size 30 32 rv (restU D ((ids G).take n)).length ((restU D ((ids G).take n)).flatMap hashC) ∧ Fr No w7 wr) (fun _ iv _ => (ids G).length - (intOf iv).toNat)
    case atStart => exact ⟨0, rfl, Nat.zero_le _, World.ownsRow_nil _ _ _ _, Fr.refl _ _⟩
    case round =>
      obtain ⟨n, rfl, hn, ho, fr⟩ := hrel
      have FR := Lib.hid fr
      have HO := Lib.hid ho
      obtain ⟨ra, rc, rfl⟩ := ho.slice.arg.form
      clear fr ho
      by_cases h : n < (ids G).length
      · have i1 : (n : Int) < ((ids G).length : Int) := by omega
        obtain ⟨y, hy⟩ : ∃ y, (ids G)[n]? = some y := ⟨_, List.getElem?_eq_getElem h⟩
        obtain ⟨b, off, cap, hv, hr, -⟩ := (W7.out.keep FR.out).at_ hy
        cases hv
        have YOK := Lib.hid (H7.out.okId y (List.mem_of_getElem? hy))
        have YL := Lib.hid (hashC_len YOK.out)
        have R1 := Lib.hid hr
        have RN := Lib.hid (range_new wr (hashC y) 30)
        have fa := (Fr.refl No wr).alloc (.cells (hashC y).toArray 30)
        have FA := Lib.hid (FR.out.trans0 fa)
        have HO1 := Lib.hid (ownsRow_keep HO.out fa (fun _ _ => id))
        have HTN := Lib.hid (show (ids G).take (n + 1) = (ids G).take n ++ [y] by rw [List.take_add_one, hy]; rfl)
        have LF := Lib.hid (show (restU D ((ids G).take n)).length ≤ 80 by have := restU_len D ((ids G).take n); have := List.length_take_le n (ids G); omega)
        clear hy hr fa
        by_cases hy : y ∈ D
        · have BB := Lib.hid (show true = true ↔ y ∈ D by simp [hy])
          have HT2 := Lib.hid (show restU D ((ids G).take (n + 1)) = restU D ((ids G).take n) by rw [HTN.out, restU_in hy])
          clear hy HTN
          go_wp2_with (first | ((with_reducible refine at_dst 57 ?_); refine wpList_vG rfl (exec_load (ty := 30) rfl rfl R1.out uK rK (by rw [YL.out]; exact infoHash)) ?_) | ((with_reducible refine at_store ?_); refine wpList_done rfl (exec_store_new (w := wr) (ty := 30) (cs := hashC y) rfl rfl rfl (by rw [YL.out]; rfl) (by rw [YL.out]; exact infoHash) hashC_one) ?_; generalize wr.alloc (.cells (hashC y).toArray 30) = w8 at *; generalize wr.heap.size = q8 at *) | ((with_reducible refine at_dst 59 ?_); refine wpList_vG rfl (exec_load (ty := 30) rfl rfl RN.out uK rK (by rw [YL.out]; exact infoHash)) ?_) | (go_at_call 15; refine (has_b (D7.out.keep FA.out) (by have := DL.out; omega) YOK.out BB.out).mono ?_; rintro e w9 ⟨rfl, f9⟩; have F9 := Lib.hid (FA.out.trans0 f9); have RN9 := Lib.hid (range_keep RN.out f9 id); have HO9 := Lib.hid (ownsRow_keep HO1.out f9 (fun _ _ => id)); clear f9))
          go_roundw
          case rel => exact ⟨n + 1, by simp, by omega, by rw [HT2.out]; exact HO9.out, F9.out⟩
          case measure => show (ids G).length - (n + 1) < (ids G).length - n; omega
        · have BB := Lib.hid (show false = true ↔ y ∈ D by simp [hy])
          have HT2 := Lib.hid (show restU D ((ids G).take (n + 1)) = restU D ((ids G).take n) ++ [y] by rw [HTN.out, restU_out hy])
          clear hy HTN
          go_wp2_with (first | ((with_reducible refine at_dst 57 ?_); refine wpList_vG rfl (exec_load (ty := 30) rfl rfl R1.out uK rK (by rw [YL.out]; exact infoHash)) ?_) | ((with_reducible refine at_store ?_); refine wpList_done rfl (exec_store_new (w := wr) (ty := 30) (cs := hashC y) rfl rfl rfl (by rw [YL.out]; rfl) (by rw [YL.out]; exact infoHash) hashC_one) ?_; generalize wr.alloc (.cells (hashC y).toArray 30) = w8 at *; generalize wr.heap.size = q8 at *) | ((with_reducible refine at_dst 59 ?_); refine wpList_vG rfl (exec_load (ty := 30) rfl rfl RN.out uK rK (by rw [YL.out]; exact infoHash)) ?_) | (go_at_call 15; refine (has_b (D7.out.keep FA.out) (by have := DL.out; omega) YOK.out BB.out).mono ?_; rintro e w9 ⟨rfl, f9⟩; have F9 := Lib.hid (FA.out.trans0 f9); have RN9 := Lib.hid (range_keep RN.out f9 id); have HO9 := Lib.hid (ownsRow_keep HO1.out f9 (fun _ _ => id)); clear f9) | ((with_reducible refine at_dst 63 ?_); refine wpList_vG rfl (exec_load (ty := 30) rfl rfl RN9.out uK rK (by rw [YL.out]; exact infoHash)) ?_) | ((with_reducible refine at_dst 64 ?_); refine wpList_vG rfl (exec_buildSliceA (t := 27) rfl rfl undIds infoHashZ2 rfl (by decide) (by decide) YL.out) ?_) | (at_builtin; obtain ⟨v10, w10, ap, oo, ff⟩ := append_ids (w9.alloc (.cells (hashC y).toArray 30)) (HO9.out.alloc _) (ids_new1 w9 YOK.out) (by have := LF.out; simp only [List.length_singleton]; omega) (by have := F9.out.size; simp; omega); refine wpList_append_run rfl rfl rfl rfl ap ?_; have F10 := Lib.hid (own_fr (F9.out.alloc _) (HO9.out.alloc _) (Nat.le_refl _) ff); rw [← HT2.out] at oo; have O10 := Lib.hid oo; obtain ⟨a10, c10, rfl⟩ := oo.slice.arg.form; clear ap oo ff))
          go_roundw
          case rel => exact ⟨n + 1, by simp, by omega, O10.out, F10.out⟩
          case measure => show (ids G).length - (n + 1) < (ids G).length - n; omega
      · have i1 : ¬ (n : Int) < ((ids G).length : Int) := by omega
        obtain rfl : n = (ids G).length := by omega
        rw [List.take_length, restU_all] at HO ⊢
        have HR := Lib.hid HO.out
        clear HO h hn
        obtain ⟨b7, o7, c7', hv, hr7, -⟩ := P7.out.at_ dx
        cases hv
        have RD := Lib.hid (range_keep hr7 FR.out id)
        have RX := Lib.hid (range_keep R7.out FR.out id)
        clear hr7
        have RI := Lib.hid (IdsIs.own HR.out (G7.out.okId))
        have M := Lib.hid (show DropA w w2 wr p p2 V7 V2 G (cutL G D) (.slice (some ⟨b7, o7, none⟩) D.length c7) (.slice a6 D.length c6) (.slice ra (ids (cutL G D)).length rc) D (ids (cutL G D)) q0 x from ⟨G7.out.fr0 FR.out, H7.out.fr0 FR.out, P7.out.keep FR.out, D7.out.keep FR.out, RI.out, RX.out, F7.out.trans0 FR.out⟩)
        have RL := Lib.hid (show (ids (cutL G D)).length ≤ 80 by have := G7.out.len; simpa [ids] using this)
        have EQ1 := Lib.hid (show true = true ↔ D = D by simp)
        have EQ2 := Lib.hid (show true = true ↔ ids (cutL G D) = ids (cutL G D) by simp)
        have UP := Lib.hid (show ∀ y ∈ ids (cutL G D), upS (cutL G D) [y] = upS G [y] from fun y hy => by have h2 := HD.out; subst h2; exact up_cut_down H7.out.gok hy)
        clear HR RI RX P7 D7 W7 G7 H7 R7 F7 F4
        go_upto_region 18 with fail
        have f := Lib.hid ((Fr.refl No wr).drew)
        replace M := Lib.hid (M.out.keep f.out)
        replace RD := Lib.hid (range_keep RD.out f.out id)
        clear f
        refine wp_region_lexL [false, false, false, false, false, true, false, false, false, false, false, false, false, false, false, false, false, true, false, true, false, false] (fun W => W.rangeAt b7 (o7 + 0 * 32) (hashC x) ∧ W.rangeAt q0 0 (hashC x)) (by kernel_rfl) (by kernel_rfl) ?_ (fun K hK => ?_)
        · exact ⟨RD.out, M.out.x⟩
        generalize wr.drew = k0 at *
        repeat (first | ((first | with_reducible refine lexL_read ?_ | ((with_reducible refine lexL_readG ?_ ?_); (focus rfl))); apply Exists.intro; refine ⟨?_, ?_⟩; (focus (first | exact lex_load (ty := 30) rfl (fun w h => h.1) uK rK (by rw [XLEN.out]; exact infoHash) | exact lex_load (ty := 30) rfl (fun w h => h.2) uK rK (by rw [XLEN.out]; exact infoHash) | exact fun w' h => eqHash.exec_neq (u := (hashC x).toArray) (v := (hashC x).toArray) rfl rfl rfl (keyOfHash XOK.out) (keyOfHash XOK.out) true ⟨fun _ => rfl, fun _ => rfl⟩ w' | (intro w' hS; obtain _ := hS; go_simp; (try with_reducible rfl); done))); try simp only [Act.put, List.setIfInBounds_toArray, List.set_cons_zero, List.set_cons_succ]) | ((first | ((with_reducible refine lexL_skip (c := false) ?_ ?_ ?_); (focus rfl); (focus rfl)) | ((with_reducible refine lexL_skip (c := true) ?_ ?_ ?_); (focus rfl); (focus rfl)) | ((with_reducible refine lexL_skipU ?_ ?_); (focus rfl))); try simp only [Act.put, List.setIfInBounds_toArray, List.set_cons_zero, List.set_cons_succ]))
        (first | with_reducible refine lexL_eff (fun K' hK' => ?_) | ((with_reducible refine lexL_effG ?_ (fun K' hK' => ?_)); (focus rfl)))
        go_simp
        refine (same_b M.out.o M.out.d (by have := DL.out; omega) (by have := DL.out; omega) EQ1.out).mono ?_
        rintro e k1 ⟨rfl, f0⟩
        have f := Lib.hid f0
        clear f0
        replace M := Lib.hid (M.out.keep f.out)
        replace RD := Lib.hid (range_keep RD.out f.out id)
        clear f
        refine hK'.out _ _ ?_ (fun hS => ?_)
        · exact ⟨RD.out, M.out.x⟩
        try simp only [Act.put, List.setIfInBounds_toArray, List.set_cons_zero, List.set_cons_succ]
        clear hS hK' K'
        repeat (first | ((first | with_reducible refine lexL_read ?_ | ((with_reducible refine lexL_readG ?_ ?_); (focus rfl))); apply Exists.intro; refine ⟨?_, ?_⟩; (focus (first | exact lex_load (ty := 30) rfl (fun w h => h.1) uK rK (by rw [XLEN.out]; exact infoHash) | exact lex_load (ty := 30) rfl (fun w h => h.2) uK rK (by rw [XLEN.out]; exact infoHash) | exact fun w' h => eqHash.exec_neq (u := (hashC x).toArray) (v := (hashC x).toArray) rfl rfl rfl (keyOfHash XOK.out) (keyOfHash XOK.out) true ⟨fun _ => rfl, fun _ => rfl⟩ w' | (intro w' hS; obtain _ := hS; go_simp; (try with_reducible rfl); done))); try simp only [Act.put, List.setIfInBounds_toArray, List.set_cons_zero, List.set_cons_succ]) | ((first | ((with_reducible refine lexL_skip (c := false) ?_ ?_ ?_); (focus rfl); (focus rfl)) | ((with_reducible refine lexL_skip (c := true) ?_ ?_ ?_); (focus rfl); (focus rfl)) | ((with_reducible refine lexL_skipU ?_ ?_); (focus rfl))); try simp only [Act.put, List.setIfInBounds_toArray, List.set_cons_zero, List.set_cons_succ]))
        (first | with_reducible refine lexL_eff (fun K' hK' => ?_) | ((with_reducible refine lexL_effG ?_ (fun K' hK' => ?_)); (focus rfl)))
        go_simp
        refine (all_K M.out.g (by decide)).mono ?_
        rintro e k2 ⟨va, rfl, oa⟩
        have f := Lib.hid oa.2
        have AI := Lib.hid (oa.is M.out.g.okId)
        clear oa
        replace M := Lib.hid (M.out.keep f.out)
        replace RD := Lib.hid (range_keep RD.out f.out id)
        clear f
        refine hK'.out _ _ ?_ (fun hS => ?_)
        · exact ⟨RD.out, M.out.x⟩
        try simp only [Act.put, List.setIfInBounds_toArray, List.set_cons_zero, List.set_cons_succ]
        clear hS hK' K'
        repeat (first | ((first | with_reducible refine lexL_read ?_ | ((with_reducible refine lexL_readG ?_ ?_); (focus rfl))); apply Exists.intro; refine ⟨?_, ?_⟩; (focus (first | exact lex_load (ty := 30) rfl (fun w h => h.1) uK rK (by rw [XLEN.out]; exact infoHash) | exact lex_load (ty := 30) rfl (fun w h => h.2) uK rK (by rw [XLEN.out]; exact infoHash) | exact fun w' h => eqHash.exec_neq (u := (hashC x).toArray) (v := (hashC x).toArray) rfl rfl rfl (keyOfHash XOK.out) (keyOfHash XOK.out) true ⟨fun _ => rfl, fun _ => rfl⟩ w' | (intro w' hS; obtain _ := hS; go_simp; (try with_reducible rfl); done))); try simp only [Act.put, List.setIfInBounds_toArray, List.set_cons_zero, List.set_cons_succ]) | ((first | ((with_reducible refine lexL_skip (c := false) ?_ ?_ ?_); (focus rfl); (focus rfl)) | ((with_reducible refine lexL_skip (c := true) ?_ ?_ ?_); (focus rfl); (focus rfl)) | ((with_reducible refine lexL_skipU ?_ ?_); (focus rfl))); try simp only [Act.put, List.setIfInBounds_toArray, List.set_cons_zero, List.set_cons_succ]))
        (first | with_reducible refine lexL_eff (fun K' hK' => ?_) | ((with_reducible refine lexL_effG ?_ (fun K' hK' => ?_)); (focus rfl)))
        go_simp
        refine (same_b AI.out M.out.r (by have := RL.out; omega) (by have := RL.out; omega) EQ2.out).mono ?_
        rintro e k3 ⟨rfl, f0⟩
        have f := Lib.hid f0
        clear f0 AI
        replace M := Lib.hid (M.out.keep f.out)
        replace RD := Lib.hid (range_keep RD.out f.out id)
        clear f
        refine hK'.out _ _ ?_ (fun hS => ?_)
        · exact ⟨RD.out, M.out.x⟩
        try simp only [Act.put, List.setIfInBounds_toArray, List.set_cons_zero, List.set_cons_succ]
        clear hS hK' K'
        repeat (first | ((first | with_reducible refine lexL_read ?_ | ((with_reducible refine lexL_readG ?_ ?_); (focus rfl))); apply Exists.intro; refine ⟨?_, ?_⟩; (focus (first | exact lex_load (ty := 30) rfl (fun w h => h.1) uK rK (by rw [XLEN.out]; exact infoHash) | exact lex_load (ty := 30) rfl (fun w h => h.2) uK rK (by rw [XLEN.out]; exact infoHash) | exact fun w' h => eqHash.exec_neq (u := (hashC x).toArray) (v := (hashC x).toArray) rfl rfl rfl (keyOfHash XOK.out) (keyOfHash XOK.out) true ⟨fun _ => rfl, fun _ => rfl⟩ w' | (intro w' hS; obtain _ := hS; go_simp; (try with_reducible rfl); done))); try simp only [Act.put, List.setIfInBounds_toArray, List.set_cons_zero, List.set_cons_succ]) | ((first | ((with_reducible refine lexL_skip (c := false) ?_ ?_ ?_); (focus rfl); (focus rfl)) | ((with_reducible refine lexL_skip (c := true) ?_ ?_ ?_); (focus rfl); (focus rfl)) | ((with_reducible refine lexL_skipU ?_ ?_); (focus rfl))); try simp only [Act.put, List.setIfInBounds_toArray, List.set_cons_zero, List.set_cons_succ]))
        refine lexL_nil (hK.out _ _ ?_)
        clear RD
        go_wp2
        have rl80 : (ids (cutL G D)).length ≤ 80 := RL.out
        go_loopw [91] (fun iv wr => ∃ n : Nat, iv = .int .i64 n ∧ n ≤ (ids (cutL G D)).length ∧ Fr No k3 wr) (fun iv _ => (ids (cutL G D)).length - (intOf iv).toNat)
        case atStart => exact ⟨0, rfl, Nat.zero_le _, Fr.refl _ _⟩
        case round =>
          obtain ⟨n, rfl, hn, fr⟩ := hrel
          have FQ := Lib.hid fr
          clear fr
          by_cases h : n < (ids (cutL G D)).length
          · have i1 : (n : Int) < ((ids (cutL G D)).length : Int) := by omega
            obtain ⟨y, hy⟩ : ∃ y, (ids (cutL G D))[n]? = some y := ⟨_, List.getElem?_eq_getElem h⟩
            obtain ⟨b, off, cap, hv, hr, -⟩ := (M.out.r.keep FQ.out).at_ hy
            cases hv
            have YOK := Lib.hid (M.out.g.okId y (List.mem_of_getElem? hy))
            have YL := Lib.hid (hashC_len YOK.out)
            have R1 := Lib.hid hr
            have UE := Lib.hid (UP.out y (List.mem_of_getElem? hy))
            have fa := FQ.out.alloc (.cells (hashC y).toArray 30)
            have M2 := Lib.hid (show DropB w w2 (wr.alloc (.cells (hashC y).toArray 30)) p p2 V7 V2 G (cutL G D) wr.heap.size y from ⟨M.out.g.fr0 fa, M.out.h.fr0 fa, range_new wr (hashC y) 30, M.out.f.trans0 fa⟩)
            have FA := Lib.hid fa
            have L1 := Lib.hid (show (upS (cutL G D) [y]).length ≤ 100000 by have := up_len (G := cutL G D) [y]; have := M.out.g.len; omega)
            have L2 := Lib.hid (show (upS G [y]).length ≤ 100000 by have := up_len (G := G) [y]; have := M.out.h.len; omega)
            clear hy hr fa M RL UP
            have M := M2
            clear M2
            go_upto_region 23 with (first | ((with_reducible refine at_dst 94 ?_); refine wpList_vG rfl (exec_load (ty := 30) rfl rfl R1.out uK rK (by rw [YL.out]; exact infoHash)) ?_) | ((with_reducible refine at_store ?_); refine wpList_done rfl (exec_store_new (w := wr) (ty := 30) (cs := hashC y) rfl rfl rfl (by rw [YL.out]; rfl) (by rw [YL.out]; exact infoHash) hashC_one) ?_; generalize wr.alloc (.cells (hashC y).toArray 30) = w8 at *; generalize wr.heap.size = q8 at *))
            refine wp_region_lexT 10 [0, 1, 2, 3, 4, 5, 6, 7, 8, 9] (fun w' => w'.rangeAt q8 0 (hashC y)) (by kernel_rfl) (by kernel_rfl) (by kernel_rfl) (by kernel_rfl) ?_ (fun K hK => ?_)
            · exact (M.out.keep (Fr.refl No _).drew).s
            replace M := Lib.hid (M.out.keep (Fr.refl No w8).drew)
            replace FA := Lib.hid (FA.out.trans0 (Fr.refl No w8).drew)
            generalize w8.drew = z0 at *
            (((first | (refine lexT_rd 0 (by kernel_rfl) rfl rfl ?_; apply Exists.intro; refine ⟨?_, ?_⟩; (focus (first | exact lex_load (ty := 30) rfl (fun w h => h) uK rK (by rw [YL.out]; exact infoHash) | (intro w' hS; obtain h := hS; go_simp; (try with_reducible rfl); done)))) | (refine lexT_sk 0 (by kernel_rfl) rfl rfl ?_)); try simp only [Act.put, List.setIfInBounds_toArray, List.set_cons_zero, List.set_cons_succ]); ((first | (refine lexT_rd 1 (by kernel_rfl) rfl rfl ?_; apply Exists.intro; refine ⟨?_, ?_⟩; (focus (first | exact lex_load (ty := 30) rfl (fun w h => h) uK rK (by rw [YL.out]; exact infoHash) | (intro w' hS; obtain h := hS; go_simp; (try with_reducible rfl); done)))) | (refine lexT_sk 1 (by kernel_rfl) rfl rfl ?_)); try simp only [Act.put, List.setIfInBounds_toArray, List.set_cons_zero, List.set_cons_succ]); ((first | (refine lexT_rd 4 (by kernel_rfl) rfl rfl ?_; apply Exists.intro; refine ⟨?_, ?_⟩; (focus (first | exact lex_load (ty := 30) rfl (fun w h => h) uK rK (by rw [YL.out]; exact infoHash) | (intro w' hS; obtain h := hS; go_simp; (try with_reducible rfl); done)))) | (refine lexT_sk 4 (by kernel_rfl) rfl rfl ?_)); try simp only [Act.put, List.setIfInBounds_toArray, List.set_cons_zero, List.set_cons_succ]); ((first | (refine lexT_rd 5 (by kernel_rfl) rfl rfl ?_; apply Exists.intro; refine ⟨?_, ?_⟩; (focus (first | exact lex_load (ty := 30) rfl (fun w h => h) uK rK (by rw [YL.out]; exact infoHash) | (intro w' hS; obtain h := hS; go_simp; (try with_reducible rfl); done)))) | (refine lexT_sk 5 (by kernel_rfl) rfl rfl ?_)); try simp only [Act.put, List.setIfInBounds_toArray, List.set_cons_zero, List.set_cons_succ]))
            refine lexT_ef2 2 6 (by kernel_rfl) rfl rfl rfl rfl (fun K' hK' => ?_) (fun K' hK' => ?_)
            · refine wp_value (exec_buildSliceA (t := 27) rfl rfl undIds infoHashZ2 rfl (by decide) (by decide) YL.out) ?_
              have f := Lib.hid ((Fr.refl No z0).alloc (.cells (hashC y).toArray 30))
              (try replace U1 := Lib.hid (U1.out.keep f.out))
              (try replace U2 := Lib.hid (U2.out.keep f.out))
              (try replace H2 := Lib.hid (H2.out.keep f.out))
              (try replace FA := Lib.hid (FA.out.trans0 f.out))
              have H1 := Lib.hid (ids_new1 z0 YOK.out)
              replace M := Lib.hid (M.out.keep f.out)
              clear f
              refine hK'.out _ _ ?_ (fun hS => ?_)
              · exact M.out.s
              try simp only [Act.put, List.setIfInBounds_toArray, List.set_cons_zero, List.set_cons_succ]
              clear hS hK' K'
              generalize z0.alloc (.cells (hashC y).toArray 30) = k1 at *
              generalize z0.heap.size = q2 at *
              refine lexT_ef2 3 6 (by kernel_rfl) rfl rfl rfl rfl (fun K' hK' => ?_) (fun K' hK' => ?_)
              · go_simp
                refine (up_K M.out.g (by decide) H1.out (by simp)).mono ?_
                rintro e k3 ⟨vvU1, rfl, o⟩
                have f := Lib.hid o.2
                (try replace U2 := Lib.hid (U2.out.keep f.out))
                (try replace H2 := Lib.hid (H2.out.keep f.out))
                (try replace FA := Lib.hid (FA.out.trans0 f.out))
                have U1 := Lib.hid (o.is (M.out.g.okUp _))
                replace M := Lib.hid (M.out.keep f.out)
                clear f o H1
                refine hK'.out _ _ ?_ (fun hS => ?_)
                · exact M.out.s
                try simp only [Act.put, List.setIfInBounds_toArray, List.set_cons_zero, List.set_cons_succ]
                clear hS hK' K'
                refine lexT_ef1 6 (by kernel_rfl) rfl rfl (fun K' hK' => ?_)
                refine wp_value (exec_buildSliceA (t := 27) rfl rfl undIds infoHashZ2 rfl (by decide) (by decide) YL.out) ?_
                have f := Lib.hid ((Fr.refl No k3).alloc (.cells (hashC y).toArray 30))
                (try replace U1 := Lib.hid (U1.out.keep f.out))
                (try replace U2 := Lib.hid (U2.out.keep f.out))
                (try replace H1 := Lib.hid (H1.out.keep f.out))
                (try replace FA := Lib.hid (FA.out.trans0 f.out))
                have H2 := Lib.hid (ids_new1 k3 YOK.out)
                replace M := Lib.hid (M.out.keep f.out)
                clear f
                refine hK'.out _ _ ?_ (fun hS => ?_)
                · exact M.out.s
                try simp only [Act.put, List.setIfInBounds_toArray, List.set_cons_zero, List.set_cons_succ]
                clear hS hK' K'
                generalize k3.alloc (.cells (hashC y).toArray 30) = k4 at *
                generalize k3.heap.size = q5 at *
                refine lexT_ef1 7 (by kernel_rfl) rfl rfl (fun K' hK' => ?_)
                go_simp
                refine (up_K M.out.h (by decide) H2.out (by simp)).mono ?_
                rintro e k6 ⟨vvU2, rfl, o⟩
                have f := Lib.hid o.2
                (try replace U1 := Lib.hid (U1.out.keep f.out))
                (try replace H1 := Lib.hid (H1.out.keep f.out))
                (try replace FA := Lib.hid (FA.out.trans0 f.out))
                have U2 := Lib.hid (o.is (M.out.h.okUp _))
                replace M := Lib.hid (M.out.keep f.out)
                clear f o H2
                refine hK'.out _ _ ?_ (fun hS => ?_)
                · exact M.out.s
                try simp only [Act.put, List.setIfInBounds_toArray, List.set_cons_zero, List.set_cons_succ]
                clear hS hK' K'
                refine lexT_ef1 8 (by kernel_rfl) rfl rfl (fun K' hK' => ?_)
                go_simp
                refine (same_b (b := true) U1.out U2.out L1.out L2.out ⟨fun _ => UE.out, fun _ => rfl⟩).mono ?_
                rintro e k7 ⟨rfl, f0⟩
                have f := Lib.hid f0
                (try replace H1 := Lib.hid (H1.out.keep f.out))
                (try replace H2 := Lib.hid (H2.out.keep f.out))
                (try replace FA := Lib.hid (FA.out.trans0 f.out))
                replace M := Lib.hid (M.out.keep f.out)
                clear f f0 U1 U2
                refine hK'.out _ _ ?_ (fun hS => ?_)
                · exact M.out.s
                try simp only [Act.put, List.setIfInBounds_toArray, List.set_cons_zero, List.set_cons_succ]
                clear hS hK' K'
                (((first | (refine lexT_rd 9 (by kernel_rfl) rfl rfl ?_; apply Exists.intro; refine ⟨?_, ?_⟩; (focus (first | exact lex_load (ty := 30) rfl (fun w h => h) uK rK (by rw [YL.out]; exact infoHash) | (intro w' hS; obtain h := hS; go_simp; (try with_reducible rfl); done)))) | (refine lexT_sk 9 (by kernel_rfl) rfl rfl ?_)); try simp only [Act.put, List.setIfInBounds_toArray, List.set_cons_zero, List.set_cons_succ]))
                refine lexT_nil (hK.out _ _ ?_)
                go_wp2
                go_roundw
                case rel => exact ⟨n + 1, by simp, by omega, FA.out⟩
                case measure => show (ids (cutL G D)).length - (n + 1) < (ids (cutL G D)).length - n; omega
              · refine wp_value (exec_buildSliceA (t := 27) rfl rfl undIds infoHashZ2 rfl (by decide) (by decide) YL.out) ?_
                have f := Lib.hid ((Fr.refl No k1).alloc (.cells (hashC y).toArray 30))
                (try replace U1 := Lib.hid (U1.out.keep f.out))
                (try replace U2 := Lib.hid (U2.out.keep f.out))
                (try replace H1 := Lib.hid (H1.out.keep f.out))
                (try replace FA := Lib.hid (FA.out.trans0 f.out))
                have H2 := Lib.hid (ids_new1 k1 YOK.out)
                replace M := Lib.hid (M.out.keep f.out)
                clear f
                refine hK'.out _ _ ?_ (fun hS => ?_)
                · exact M.out.s
                try simp only [Act.put, List.setIfInBounds_toArray, List.set_cons_zero, List.set_cons_succ]
                clear hS hK' K'
                generalize k1.alloc (.cells (hashC y).toArray 30) = k8 at *
                generalize k1.heap.size = q9 at *
                refine lexT_ef1 3 (by kernel_rfl) rfl rfl (fun K' hK' => ?_)
                go_simp
                refine (up_K M.out.g (by decide) H1.out (by simp)).mono ?_
                rintro e k10 ⟨vvU1, rfl, o⟩
                have f := Lib.hid o.2
                (try replace U2 := Lib.hid (U2.out.keep f.out))
                (try replace H2 := Lib.hid (H2.out.keep f.out))
                (try replace FA := Lib.hid (FA.out.trans0 f.out))
                have U1 := Lib.hid (o.is (M.out.g.okUp _))
                replace M := Lib.hid (M.out.keep f.out)
                clear f o H1
                refine hK'.out _ _ ?_ (fun hS => ?_)
                · exact M.out.s
                try simp only [Act.put, List.setIfInBounds_toArray, List.set_cons_zero, List.set_cons_succ]
                clear hS hK' K'
                refine lexT_ef1 7 (by kernel_rfl) rfl rfl (fun K' hK' => ?_)
                go_simp
                refine (up_K M.out.h (by decide) H2.out (by simp)).mono ?_
                rintro e k11 ⟨vvU2, rfl, o⟩
                have f := Lib.hid o.2
                (try replace U1 := Lib.hid (U1.out.keep f.out))
                (try replace H1 := Lib.hid (H1.out.keep f.out))
                (try replace FA := Lib.hid (FA.out.trans0 f.out))
                have U2 := Lib.hid (o.is (M.out.h.okUp _))
                replace M := Lib.hid (M.out.keep f.out)
                clear f o H2
                refine hK'.out _ _ ?_ (fun hS => ?_)
                · exact M.out.s
                try simp only [Act.put, List.setIfInBounds_toArray, List.set_cons_zero, List.set_cons_succ]
                clear hS hK' K'
                refine lexT_ef1 8 (by kernel_rfl) rfl rfl (fun K' hK' => ?_)
                go_simp
                refine (same_b (b := true) U1.out U2.out L1.out L2.out ⟨fun _ => UE.out, fun _ => rfl⟩).mono ?_
                rintro e k12 ⟨rfl, f0⟩
                have f := Lib.hid f0
                (try replace H1 := Lib.hid (H1.out.keep f.out))
                (try replace H2 := Lib.hid (H2.out.keep f.out))
                (try replace FA := Lib.hid (FA.out.trans0 f.out))
                replace M := Lib.hid (M.out.keep f.out)
                clear f f0 U1 U2
                refine hK'.out _ _ ?_ (fun hS => ?_)
                · exact M.out.s
                try simp only [Act.put, List.setIfInBounds_toArray, List.set_cons_zero, List.set_cons_succ]
                clear hS hK' K'
                (((first | (refine lexT_rd 9 (by kernel_rfl) rfl rfl ?_; apply Exists.intro; refine ⟨?_, ?_⟩; (focus (first | exact lex_load (ty := 30) rfl (fun w h => h) uK rK (by rw [YL.out]; exact infoHash) | (intro w' hS; obtain h := hS; go_simp; (try with_reducible rfl); done)))) | (refine lexT_sk 9 (by kernel_rfl) rfl rfl ?_)); try simp only [Act.put, List.setIfInBounds_toArray, List.set_cons_zero, List.set_cons_succ]))
                refine lexT_nil (hK.out _ _ ?_)
                go_wp2
                go_roundw
                case rel => exact ⟨n + 1, by simp, by omega, FA.out⟩
                case measure => show (ids (cutL G D)).length - (n + 1) < (ids (cutL G D)).length - n; omega
            · refine wp_value (exec_buildSliceA (t := 27) rfl rfl undIds infoHashZ2 rfl (by decide) (by decide) YL.out) ?_
              have f := Lib.hid ((Fr.refl No z0).alloc (.cells (hashC y).toArray 30))
              (try replace U1 := Lib.hid (U1.out.keep f.out))
              (try replace U2 := Lib.hid (U2.out.keep f.out))
              (try replace H1 := Lib.hid (H1.out.keep f.out))
              (try replace FA := Lib.hid (FA.out.trans0 f.out))
              have H2 := Lib.hid (ids_new1 z0 YOK.out)
              replace M := Lib.hid (M.out.keep f.out)
              clear f
              refine hK'.out _ _ ?_ (fun hS => ?_)
              · exact M.out.s
              try simp only [Act.put, List.setIfInBounds_toArray, List.set_cons_zero, List.set_cons_succ]
              clear hS hK' K'
              generalize z0.alloc (.cells (hashC y).toArray 30) = k13 at *
              generalize z0.heap.size = q14 at *
              refine lexT_ef1 2 (by kernel_rfl) rfl rfl (fun K' hK' => ?_)
              refine wp_value (exec_buildSliceA (t := 27) rfl rfl undIds infoHashZ2 rfl (by decide) (by decide) YL.out) ?_
              have f := Lib.hid ((Fr.refl No k13).alloc (.cells (hashC y).toArray 30))
              (try replace U1 := Lib.hid (U1.out.keep f.out))
              (try replace U2 := Lib.hid (U2.out.keep f.out))
              (try replace H2 := Lib.hid (H2.out.keep f.out))
              (try replace FA := Lib.hid (FA.out.trans0 f.out))
              have H1 := Lib.hid (ids_new1 k13 YOK.out)
              replace M := Lib.hid (M.out.keep f.out)
              clear f
              refine hK'.out _ _ ?_ (fun hS => ?_)
              · exact M.out.s
              try simp only [Act.put, List.setIfInBounds_toArray, List.set_cons_zero, List.set_cons_succ]
              clear hS hK' K'
              generalize k13.alloc (.cells (hashC y).toArray 30) = k15 at *
              generalize k13.heap.size = q16 at *
              refine lexT_ef1 3 (by kernel_rfl) rfl rfl (fun K' hK' => ?_)
              go_simp
              refine (up_K M.out.g (by decide) H1.out (by simp)).mono ?_
              rintro e k17 ⟨vvU1, rfl, o⟩
              have f := Lib.hid o.2
              (try replace U2 := Lib.hid (U2.out.keep f.out))
              (try replace H2 := Lib.hid (H2.out.keep f.out))
              (try replace FA := Lib.hid (FA.out.trans0 f.out))
              have U1 := Lib.hid (o.is (M.out.g.okUp _))
              replace M := Lib.hid (M.out.keep f.out)
              clear f o H1
              refine hK'.out _ _ ?_ (fun hS => ?_)
              · exact M.out.s
              try simp only [Act.put, List.setIfInBounds_toArray, List.set_cons_zero, List.set_cons_succ]
              clear hS hK' K'
              refine lexT_ef1 7 (by kernel_rfl) rfl rfl (fun K' hK' => ?_)
              go_simp
              refine (up_K M.out.h (by decide) H2.out (by simp)).mono ?_
              rintro e k18 ⟨vvU2, rfl, o⟩
              have f := Lib.hid o.2
              (try replace U1 := Lib.hid (U1.out.keep f.out))
              (try replace H1 := Lib.hid (H1.out.keep f.out))
              (try replace FA := Lib.hid (FA.out.trans0 f.out))
              have U2 := Lib.hid (o.is (M.out.h.okUp _))
              replace M := Lib.hid (M.out.keep f.out)
              clear f o H2
              refine hK'.out _ _ ?_ (fun hS => ?_)
              · exact M.out.s
              try simp only [Act.put, List.setIfInBounds_toArray, List.set_cons_zero, List.set_cons_succ]
              clear hS hK' K'
              refine lexT_ef1 8 (by kernel_rfl) rfl rfl (fun K' hK' => ?_)
              go_simp
              refine (same_b (b := true) U1.out U2.out L1.out L2.out ⟨fun _ => UE.out, fun _ => rfl⟩).mono ?_
              rintro e k19 ⟨rfl, f0⟩
              have f := Lib.hid f0
              (try replace H1 := Lib.hid (H1.out.keep f.out))
              (try replace H2 := Lib.hid (H2.out.keep f.out))
              (try replace FA := Lib.hid (FA.out.trans0 f.out))
              replace M := Lib.hid (M.out.keep f.out)
              clear f f0 U1 U2
              refine hK'.out _ _ ?_ (fun hS => ?_)
              · exact M.out.s
              try simp only [Act.put, List.setIfInBounds_toArray, List.set_cons_zero, List.set_cons_succ]
              clear hS hK' K'
              (((first | (refine lexT_rd 9 (by kernel_rfl) rfl rfl ?_; apply Exists.intro; refine ⟨?_, ?_⟩; (focus (first | exact lex_load (ty := 30) rfl (fun w h => h) uK rK (by rw [YL.out]; exact infoHash) | (intro w' hS; obtain h := hS; go_simp; (try with_reducible rfl); done)))) | (refine lexT_sk 9 (by kernel_rfl) rfl rfl ?_)); try simp only [Act.put, List.setIfInBounds_toArray, List.set_cons_zero, List.set_cons_succ]))
              refine lexT_nil (hK.out _ _ ?_)
              go_wp2
              go_roundw
              case rel => exact ⟨n + 1, by simp, by omega, FA.out⟩
              case measure => show (ids (cutL G D)).length - (n + 1) < (ids (cutL G D)).length - n; omega
          · have i1 : ¬ (n : Int) < ((ids (cutL G D)).length : Int) := by omega
            go_wp2
            go_ret
            exact ⟨rfl, M.out.f.trans0 FQ.out⟩
  · have HD0 := Lib.hid (show D = [] by rw [← HD.out]; exact down_none hin)
    go_enter Try.func5, Try.ntmps5
    have CN := Lib.hid (show ∀ G : List NodeD, cutL G D = G from fun G => by rw [HD0.out]; exact cutL_nil G)
    have j0 : D.length = 0 := by rw [HD0.out]; rfl
    have MkM0 := Lib.hid True.intro
    have MkM1 := Lib.hid True.intro
    have MkM2 := Lib.hid True.intro
    have MkM3 := Lib.hid True.intro
    have MkM4 := Lib.hid True.intro
    have MkM5 := Lib.hid True.intro
    have MkM6 := Lib.hid True.intro
    have MkM7 := Lib.hid True.intro
    have MkM8 := Lib.hid True.intro
    have MkM9 := Lib.hid True.intro
    have MkM10 := Lib.hid True.intro
    have MkM11 := Lib.hid True.intro
    go_wp2_with (first | (have mk := MkM0.out; (go_at_call 10; generalize hq : w.heap.size = q0 at *; generalize (w.alloc (.cells (hashC x).toArray 30)) = w0 at *; refine (aliveK_any w0).mono ?_; rintro e w1 ⟨rfl, f1⟩; have F1 := Lib.hid (F0.out.trans0 f1); have F01 := Lib.hid f1; clear f1); go_frame; clear mk MkM0) | (have mk := MkM1.out; (go_at_call 11; refine (kgreat_any w1 (HL.out.keep F1.out)).mono ?_; rintro e w2 ⟨rfl, f2⟩; rw [hg0]; have F2 := Lib.hid (F1.out.trans0 f2); have F02 := Lib.hid (F01.out.trans0 f2); clear f2); go_frame; clear mk MkM1) | (have mk := MkM2.out; (go_at_call 12; refine (grown_any w2 (HL.out.keep F2.out) hg0).mono ?_; rintro e w3 ⟨p, V, rfl, g3, b3⟩; have G3 := Lib.hid g3; have F3 := Lib.hid (F2.out.trans0 g3.fr); clear g3 b3); go_frame; clear mk MkM2) | (have mk := MkM3.out; (go_at_call 12; refine (grown_any w3 (HL.out.keep F3.out) hg0).mono ?_; rintro e w4 ⟨p2, V2, rfl, g4, b4⟩; generalize grownG L = G at *; have H4 := Lib.hid (g4.base G3.out.fr); have G4 := Lib.hid (G3.out.fr0 g4.fr); have F4 := Lib.hid (F3.out.trans0 g4.fr); have AP := Lib.hid (show ∀ j, V j → ¬ V2 j from fun j h1 h2 => by have := G3.out.hi j h1; have := g4.lo j h2; omega); have LO := Lib.hid (show ∀ j, V j → w2.heap.size ≤ j from G3.out.lo); have HI := Lib.hid (show ∀ j, V j → j < w4.heap.size from G4.out.hi); clear g4 b4); go_frame; clear mk MkM3) | (have mk := MkM4.out; (go_at_call 13; refine (all_K G4.out (by decide)).mono ?_; rintro e w5 ⟨v5, rfl, o5⟩; have O5 := Lib.hid o5; have F5 := Lib.hid (F4.out.trans0 o5.2); have G5 := Lib.hid (G4.out.fr0 o5.2); have H5 := Lib.hid (H4.out.fr0 o5.2); have R5 := Lib.hid (range_keep R0.out ((F02.out.trans0 G4.out.fr).trans0 o5.2) id); have Z5 := Lib.hid o5.2.size; obtain ⟨a5, c5, rfl⟩ := (o5.is G5.out.okId).2.form; have FA5 := Lib.hid ((Fr.refl No w5).alloc (.cells (hashC x).toArray 30)); clear o5 G4 H4); go_frame; clear mk MkM4) | (have mk := MkM5.out; ((with_reducible refine at_dst 27 ?_); refine wpList_vG rfl (exec_load (ty := 30) rfl rfl R5.out uK rK (by rw [XLEN.out]; exact infoHash)) ?_); go_frame; clear mk MkM5) | (have mk := MkM6.out; ((with_reducible refine at_dst 28 ?_); refine wpList_vG rfl (exec_buildSliceA (t := 27) rfl rfl undIds infoHashZ2 rfl (by decide) (by decide) XLEN.out) ?_); go_frame; clear mk MkM6) | (have mk := MkM7.out; (go_at_call 16; refine (down_K (G5.out.fr0 FA5.out) (by decide) (ids_new1 w5 XOK.out) (by simp)).mono ?_; rintro e w6 ⟨v6, rfl, o6⟩; have OKD := Lib.hid (show ∀ c ∈ D, hashOk c by rw [← HD.out]; exact G5.out.okDown _); rw [HD.out] at o6; have O6 := Lib.hid o6; have F56 := Lib.hid (FA5.out.trans0 o6.2); have R6 := Lib.hid (range_keep R5.out F56.out id); have G6 := Lib.hid (G5.out.fr0 F56.out); have H6 := Lib.hid (H5.out.fr0 F56.out); obtain ⟨a6, c6, rfl⟩ := (o6.is OKD.out).2.form; clear o6 G5 H5); go_frame; clear mk MkM7) | (have mk := MkM8.out; ((with_reducible refine at_dst 32 ?_); refine wpList_vG rfl (exec_load (ty := 30) rfl rfl R6.out uK rK (by rw [XLEN.out]; exact infoHash)) ?_); go_frame; clear mk MkM8) | (have mk := MkM9.out; (go_at_call 17; refine (drop_K G6.out (by decide) XOK.out).mono ?_; rintro e w7 ⟨v7, rfl, V7, g7, f7, s7, o7⟩; rw [HD.out] at g7 o7; rw [if_neg hin]; rw [CN.out] at g7; have G7 := Lib.hid g7; have F67 := Lib.hid f7; have O7 := Lib.hid o7; have H7 := Lib.hid (H6.out.frV f7 (fun j h1 h2 => AP.out j h2 h1) LO.out); have W7 := Lib.hid (IdsIs.own (ownsRow_keep (ownsRow_keep O5.out.1 F56.out (fun _ _ => id)) f7 (fun b e h => by have := (O5.out.1.lt b e).1; have := HI.out b h; omega)) G6.out.okId); have D7 := Lib.hid (IdsIs.own (ownsRow_keep O6.out.1 f7 (fun b e h => by have := (O6.out.1.lt b e).1; have := HI.out b h; have := Z5.out; have := FA5.out.size; omega)) OKD.out); have R7 := Lib.hid (range_keep R6.out f7 (fun h => by have := LO.out _ h; have := Q0.out; have := F02.out.size; omega)); have F7 := Lib.hid (F2.out.trans0 g7.fr); have P7 := Lib.hid (IdsIs.own o7 OKD.out); obtain ⟨a7, c7, rfl⟩ := P7.out.2.form; rw [j0]; clear g7 f7 s7 o7 G6 H6 O7); go_frame; clear mk MkM9) | (have mk := MkM10.out; (go_at_call 13; refine (all_K G7.out (by decide)).mono ?_; rintro e w8 ⟨v8, rfl, o8⟩; have I8 := Lib.hid (o8.is G7.out.okId); have F8 := Lib.hid (F7.out.trans0 o8.2); have W8 := Lib.hid (W7.out.keep o8.2); clear o8); go_frame; clear mk MkM10) | (have mk := MkM11.out; (go_at_call 18; refine (same_b I8.out W8.out (by have := H7.out.len; simp only [ids, List.length_map]; omega) (by have := H7.out.len; simp only [ids, List.length_map]; omega) (show true = true ↔ ids G = ids G by simp)).mono ?_; rintro e w9 ⟨rfl, f9⟩; have F9 := Lib.hid (F8.out.trans0 f9); clear f9); go_frame; clear mk MkM11))
    go_ret
    exact ⟨rfl, F9.out⟩
end Go.Proofs.Ytnjkpjcnmdgoeaa
