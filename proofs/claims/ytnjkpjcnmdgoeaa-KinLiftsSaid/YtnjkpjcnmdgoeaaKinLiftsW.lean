/- KinLifts: the walk (printed by gen_kin.py). -/
import Derived.Test.YtnjkpjcnmdgoeaaKinU
import Derived.Test.YtnjkpjcnmdgoeaaKinV
import Derived.Test.YtnjkpjcnmdgoeaaSeq
import Derived.Test.YtnjkpjcnmdgoeaaTree
import Derived.Deep.Cut
namespace Go.Proofs.Ytnjkpjcnmdgoeaa
open Go Go.RowKit Go.Maps Go.MapKept

/-- The two graphs, the id's cell. -/
structure LiftA (w0 w2 w : World) (p p2 : Nat) (V V2 : Nat → Prop) (G G2 : List NodeD) (q0 : Nat) (x : HashD) : Prop where
  g : GC w2 w p V G2 80
  h : GC w2 w p2 V2 G 80
  x : w.rangeAt q0 0 (hashC x)
  f : Fr No w0 w
theorem LiftA.keep {w0 w2 w w' : World} {p p2 : Nat} {V V2 : Nat → Prop} {G G2 : List NodeD} {q0 : Nat} {x : HashD} (h : LiftA w0 w2 w p p2 V V2 G G2 q0 x) (f : Fr No w w') : LiftA w0 w2 w' p p2 V V2 G G2 q0 x :=
  ⟨h.g.fr0 f, h.h.fr0 f, range_keep h.x f id, h.f.trans0 f⟩
/-- What is left without D. -/
def restL (D l : List HashD) : List HashD := l.filter fun y => decide (y ∉ D)
theorem restL_in {D l : List HashD} {y : HashD} (h : y ∈ D) : restL D (l ++ [y]) = restL D l := by simp [restL, List.filter_append, h]
theorem restL_out {D l : List HashD} {y : HashD} (h : y ∉ D) : restL D (l ++ [y]) = restL D l ++ [y] := by simp [restL, List.filter_append, h]
theorem restL_len (D l : List HashD) : (restL D l).length ≤ l.length := List.length_filter_le _ _
theorem restL_all {G : List NodeD} {D : List HashD} : restL D (ids G) = ids (cutL G D) := (ids_cut D).symm
/-- Two more cells. -/
structure LiftB (w0 w2 w : World) (p p2 : Nat) (V V2 : Nat → Prop) (G G2 : List NodeD) (q0 qy qz : Nat) (x y z : HashD) : Prop where
  a : LiftA w0 w2 w p p2 V V2 G G2 q0 x
  y : w.rangeAt qy 0 (hashC y)
  z : w.rangeAt qz 0 (hashC z)
theorem LiftB.keep {w0 w2 w w' : World} {p p2 : Nat} {V V2 : Nat → Prop} {G G2 : List NodeD} {q0 qy qz : Nat} {x y z : HashD} (h : LiftB w0 w2 w p p2 V V2 G G2 q0 qy qz x y z) (f : Fr No w w') : LiftB w0 w2 w' p p2 V V2 G G2 q0 qy qz x y z :=
  ⟨h.a.keep f, range_keep h.y f id, range_keep h.z f id⟩
theorem LiftB.s {w0 w2 w : World} {p p2 : Nat} {V V2 : Nat → Prop} {G G2 : List NodeD} {q0 qy qz : Nat} {x y z : HashD} (h : LiftB w0 w2 w p p2 V V2 G G2 q0 qy qz x y z) : w.rangeAt q0 0 (hashC x) ∧ w.rangeAt qy 0 (hashC y) ∧ w.rangeAt qz 0 (hashC z) := ⟨h.a.x, h.y, h.z⟩
/-- One graph. -/
structure LiftC (w0 w2 w : World) (p : Nat) (V : Nat → Prop) (G : List NodeD) (q0 : Nat) (x : HashD) : Prop where
  g : GC w2 w p V G 81
  s : w.rangeAt q0 0 (hashC x)
  f : Fr No w0 w
theorem LiftC.keep {w0 w2 w w' : World} {p : Nat} {V : Nat → Prop} {G : List NodeD} {q0 : Nat} {x : HashD} (h : LiftC w0 w2 w p V G q0 x) (f : Fr No w w') : LiftC w0 w2 w' p V G q0 x :=
  ⟨h.g.fr0 f, range_keep h.s f id, h.f.trans0 f⟩
theorem add_nil {G : List NodeD} {x : HashD} (h : x ∉ ids G) : addE G x [] = 0 := addE_ok h (by simp) (by
  rw [show upS G [] = [] from List.eq_nil_iff_forall_not_mem.2 fun y hy => by obtain ⟨a, ha, -⟩ := mem_up.1 hy; cases ha]
  decide)
theorem up_of_cut {G : List NodeD} (ok : GOk G) {x y z : HashD} (h : z ∈ upS (cutL G [x]) [y]) : z ∈ upS G [y] := by
  rw [mem_up] at h ⊢
  obtain ⟨a, ha, hr⟩ := h
  exact ⟨a, ha, anc_cut ok hr⟩
theorem ids_none (w : World) : IdsIs w (.slice none 0 0) [] := ⟨by simp, .inl (.inl ⟨rfl, rfl, rfl⟩)⟩

set_option maxRecDepth 100000 in
set_option maxHeartbeats 8000000 in
theorem lifts_any (w : World) {v : Value} {L : List KActD} (hl : KActsIs w v L) {x : HashD} (hx : hashOk x) :
    Calls Try.prog 9 #[v, .agg (hashC x).toArray] w fun e w' => e = .returned (.bool true) ∧ Fr No w w' := by
  obtain ⟨dK, uK, rK⟩ := descHash
  have HL := Lib.hid hl
  obtain ⟨va, vc, rfl, -, -⟩ := hl
  have zh := zeroHash
  have XLEN := Lib.hid (hashC_len hx)
  have XOK := Lib.hid hx
  have R0 := Lib.hid (range_new w (hashC x) 30)
  have f0 := (Fr.refl No w).alloc (.cells (hashC x).toArray 30)
  have Q0 := Lib.hid (show w.heap.size < (w.alloc (.cells (hashC x).toArray 30)).heap.size by simp)
  have F0 := Lib.hid f0
  clear f0 hx
  by_cases hg : kgreat L = true
  · go_enter Try.func9, Try.ntmps9
    go_wp2_with (first | (go_at_call 10; generalize hq : w.heap.size = q0 at *; generalize (w.alloc (.cells (hashC x).toArray 30)) = w0 at *; refine (aliveK_any w0).mono ?_; rintro e w1 ⟨rfl, f1⟩; have F1 := Lib.hid (F0.out.trans0 f1); have F01 := Lib.hid f1; clear f1) | (go_at_call 11; refine (kgreat_any w1 (HL.out.keep F1.out)).mono ?_; rintro e w2 ⟨rfl, f2⟩; rw [hg]; have F2 := Lib.hid (F1.out.trans0 f2); have F02 := Lib.hid (F01.out.trans0 f2); clear f2))
    go_ret
    exact ⟨rfl, F2.out⟩
  have hg0 : kgreat L = false := by simpa using hg
  clear hg
  by_cases hin : x ∈ ids (grownG L)
  · go_enter Try.func9, Try.ntmps9
    have MkM0 := Lib.hid True.intro
    have MkM1 := Lib.hid True.intro
    have MkM2 := Lib.hid True.intro
    have MkM3 := Lib.hid True.intro
    have MkM4 := Lib.hid True.intro
    have MkM5 := Lib.hid True.intro
    have MkM6 := Lib.hid True.intro
    have MkM7 := Lib.hid True.intro
    have MkM8 := Lib.hid True.intro
    go_wp2_with (first | (have mk := MkM0.out; (go_at_call 10; generalize hq : w.heap.size = q0 at *; generalize (w.alloc (.cells (hashC x).toArray 30)) = w0 at *; refine (aliveK_any w0).mono ?_; rintro e w1 ⟨rfl, f1⟩; have F1 := Lib.hid (F0.out.trans0 f1); have F01 := Lib.hid f1; clear f1); go_frame; clear mk MkM0) | (have mk := MkM1.out; (go_at_call 11; refine (kgreat_any w1 (HL.out.keep F1.out)).mono ?_; rintro e w2 ⟨rfl, f2⟩; rw [hg0]; have F2 := Lib.hid (F1.out.trans0 f2); have F02 := Lib.hid (F01.out.trans0 f2); clear f2); go_frame; clear mk MkM1) | (have mk := MkM2.out; (go_at_call 12; refine (grown_any w2 (HL.out.keep F2.out) hg0).mono ?_; rintro e w3 ⟨p, V, rfl, g3, b3⟩; have G3 := Lib.hid g3; have F3 := Lib.hid (F2.out.trans0 g3.fr); clear g3 b3); go_frame; clear mk MkM2) | (have mk := MkM3.out; (go_at_call 12; refine (grown_any w3 (HL.out.keep F3.out) hg0).mono ?_; rintro e w4 ⟨p2, V2, rfl, g4, b4⟩; generalize grownG L = G at *; have H4 := Lib.hid (g4.base G3.out.fr); have G4 := Lib.hid (G3.out.fr0 g4.fr); have F4 := Lib.hid (F3.out.trans0 g4.fr); have AP := Lib.hid (show ∀ j, V j → ¬ V2 j from fun j h1 h2 => by have := G3.out.hi j h1; have := g4.lo j h2; omega); have LO := Lib.hid (show ∀ j, V j → w2.heap.size ≤ j from G3.out.lo); have HI := Lib.hid (show ∀ j, V j → j < w4.heap.size from G4.out.hi); clear g4 b4); go_frame; clear mk MkM3) | (have mk := MkM4.out; (go_at_call 13; refine (all_K G4.out (by decide)).mono ?_; rintro e w5 ⟨v5, rfl, o5⟩; have O5 := Lib.hid o5; have F5 := Lib.hid (F4.out.trans0 o5.2); have G5 := Lib.hid (G4.out.fr0 o5.2); have H5 := Lib.hid (H4.out.fr0 o5.2); have R5 := Lib.hid (range_keep R0.out ((F02.out.trans0 G4.out.fr).trans0 o5.2) id); have Z5 := Lib.hid o5.2.size; obtain ⟨a5, c5, rfl⟩ := (o5.is G5.out.okId).2.form; clear o5 G4 H4); go_frame; clear mk MkM4) | (have mk := MkM5.out; ((with_reducible refine at_dst 27 ?_); refine wpList_vG rfl (exec_load (ty := 30) rfl rfl R5.out uK rK (by rw [XLEN.out]; exact infoHash)) ?_); go_frame; clear mk MkM5) | (have mk := MkM6.out; (go_at_call 23; refine (lift_K G5.out (by decide) XOK.out).mono ?_; rintro e w7 ⟨he, V7, g7, f7, s7⟩; rw [if_pos hin] at he; subst he; have G7 := Lib.hid g7; have S7 := Lib.hid s7; have H7 := Lib.hid (H5.out.frV f7 (fun j h1 h2 => AP.out j h2 h1) LO.out); have W7 := Lib.hid (IdsIs.own (ownsRow_keep O5.out.1 f7 (fun b e h => by have := (O5.out.1.lt b e).1; have := HI.out b h; omega)) G5.out.okId); have R7 := Lib.hid (range_keep R5.out f7 (fun h => by have := LO.out _ h; have := Q0.out; have := F02.out.size; omega)); have F7 := Lib.hid (F2.out.trans0 g7.fr); clear g7 f7 s7 G5 H5 R5 O5 F5 Z5); go_frame; clear mk MkM6) | (have mk := MkM7.out; ((with_reducible refine at_dst 30 ?_); refine wpList_vG rfl (exec_load (ty := 30) rfl rfl R7.out uK rK (by rw [XLEN.out]; exact infoHash)) ?_); go_frame; clear mk MkM7) | (have mk := MkM8.out; (go_at_call 15; refine (has_b W7.out (by have := H7.out.len; simp only [ids, List.length_map]; omega) XOK.out (show true = true ↔ x ∈ ids G by simp [hin])).mono ?_; rintro e w8 ⟨rfl, f8⟩; have M := Lib.hid (show LiftA w w2 w8 p p2 V7 V2 G (cutL G [x]) q0 x from ⟨G7.out.fr0 f8, H7.out.fr0 f8, range_keep R7.out f8 id, F7.out.trans0 f8⟩); have W8 := Lib.hid (W7.out.keep f8); clear f8 G7 H7 R7 F7 W7); go_frame; clear mk MkM8))
    have HIN := Lib.hid hin
    have Q2 := Lib.hid (show q0 < w2.heap.size by have := Q0.out; have := F02.out.size; omega)
    have FW := Lib.hid F2.out
    clear HIN
    have hn80 : (ids G).length ≤ 80 := by have := M.out.h.len; simpa [ids] using this
    clear hin zh F02 F01 F1 F2 F3 F4 G3 HI Q0 R0 F0 HL
    go_wp2
    go_loopw [9, 43] (fun rv iv wr => ∃ n : Nat, iv = .int .i64 n ∧ n ≤ (ids G).length ∧ wr.ownsRow w8.heap.size 30 32 rv (restL [x] ((ids G).take n)).length ((restL [x] ((ids G).take n)).flatMap hashC) ∧ Fr No w8 wr) (fun _ iv _ => (ids G).length - (intOf iv).toNat)
    case atStart => exact ⟨0, rfl, Nat.zero_le _, World.ownsRow_nil _ _ _ _, Fr.refl _ _⟩
    case round =>
      obtain ⟨n, rfl, hn, ho, fr⟩ := hrel
      have FR := Lib.hid fr
      have HO := Lib.hid ho
      obtain ⟨ra, rc, rfl⟩ := ho.slice.arg.form
      clear fr ho
      by_cases h : n < (ids G).length
      · have i1 : (n : Int) < ((ids G).length : Int) := by omega
        obtain ⟨y, hy⟩ : ∃ y, (ids G)[n]? = some y := ⟨_, List.getElem?_eq_getElem h⟩
        obtain ⟨b, off, cap, hv, hr, -⟩ := (W8.out.keep FR.out).at_ hy
        cases hv
        have YOK := Lib.hid (M.out.h.okId y (List.mem_of_getElem? hy))
        have YL := Lib.hid (hashC_len YOK.out)
        have R1 := Lib.hid hr
        have RN := Lib.hid (range_new wr (hashC y) 30)
        have fa := (Fr.refl No wr).alloc (.cells (hashC y).toArray 30)
        have FA := Lib.hid (FR.out.trans0 fa)
        have RX := Lib.hid (range_keep M.out.x FA.out id)
        have HO9 := Lib.hid (ownsRow_keep HO.out fa (fun _ _ => id))
        have HTN := Lib.hid (show (ids G).take (n + 1) = (ids G).take n ++ [y] by rw [List.take_add_one, hy]; rfl)
        have LF := Lib.hid (show (restL [x] ((ids G).take n)).length ≤ 80 by have := restL_len [x] ((ids G).take n); have := List.length_take_le n (ids G); omega)
        clear hy hr fa
        by_cases hy : y = x
        · have HT2 := Lib.hid (show restL [x] ((ids G).take (n + 1)) = restL [x] ((ids G).take n) by rw [HTN.out, restL_in (by simp [hy])])
          have EY := Lib.hid (show (true = true ↔ (hashC y).toArray = (hashC x).toArray) by simp [hy])
          clear hy HTN
          go_wp2_with (first | ((with_reducible refine at_dst 46 ?_); refine wpList_vG rfl (exec_load (ty := 30) rfl rfl R1.out uK rK (by rw [YL.out]; exact infoHash)) ?_) | ((with_reducible refine at_store ?_); refine wpList_done rfl (exec_store_new (w := wr) (ty := 30) (cs := hashC y) rfl rfl rfl (by rw [YL.out]; rfl) (by rw [YL.out]; exact infoHash) hashC_one) ?_; generalize wr.alloc (.cells (hashC y).toArray 30) = w9 at *; generalize wr.heap.size = q9 at *) | ((with_reducible refine at_dst 47 ?_); refine wpList_vG rfl (exec_load (ty := 30) rfl rfl RN.out uK rK (by rw [YL.out]; exact infoHash)) ?_) | ((with_reducible refine at_dst 48 ?_); refine wpList_vG rfl (exec_load (ty := 30) rfl rfl RX.out uK rK (by rw [XLEN.out]; exact infoHash)) ?_) | ((with_reducible refine at_dst 49 ?_); refine wpList_vG rfl (eqHash.exec_neq (u := (hashC y).toArray) (v := (hashC x).toArray) rfl rfl rfl (keyOfHash YOK.out) (keyOfHash XOK.out) true EY.out _) ?_))
          go_roundw
          case rel => exact ⟨n + 1, by simp, by omega, by rw [HT2.out]; exact HO9.out, FA.out⟩
          case measure => show (ids G).length - (n + 1) < (ids G).length - n; omega
        · have HT2 := Lib.hid (show restL [x] ((ids G).take (n + 1)) = restL [x] ((ids G).take n) ++ [y] by rw [HTN.out, restL_out (by simp [hy])])
          have EY := Lib.hid (show (false = true ↔ (hashC y).toArray = (hashC x).toArray) from ⟨fun e => (by cases e), fun e => absurd (hashV_inj (congrArg Value.agg e)) hy⟩)
          clear hy HTN
          go_wp2_with (first | ((with_reducible refine at_dst 46 ?_); refine wpList_vG rfl (exec_load (ty := 30) rfl rfl R1.out uK rK (by rw [YL.out]; exact infoHash)) ?_) | ((with_reducible refine at_store ?_); refine wpList_done rfl (exec_store_new (w := wr) (ty := 30) (cs := hashC y) rfl rfl rfl (by rw [YL.out]; rfl) (by rw [YL.out]; exact infoHash) hashC_one) ?_; generalize wr.alloc (.cells (hashC y).toArray 30) = w9 at *; generalize wr.heap.size = q9 at *) | ((with_reducible refine at_dst 47 ?_); refine wpList_vG rfl (exec_load (ty := 30) rfl rfl RN.out uK rK (by rw [YL.out]; exact infoHash)) ?_) | ((with_reducible refine at_dst 48 ?_); refine wpList_vG rfl (exec_load (ty := 30) rfl rfl RX.out uK rK (by rw [XLEN.out]; exact infoHash)) ?_) | ((with_reducible refine at_dst 49 ?_); refine wpList_vG rfl (eqHash.exec_neq (u := (hashC y).toArray) (v := (hashC x).toArray) rfl rfl rfl (keyOfHash YOK.out) (keyOfHash XOK.out) false EY.out _) ?_) | ((with_reducible refine at_dst 51 ?_); refine wpList_vG rfl (exec_load (ty := 30) rfl rfl RN.out uK rK (by rw [YL.out]; exact infoHash)) ?_) | ((with_reducible refine at_dst 52 ?_); refine wpList_vG rfl (exec_buildSliceA (t := 27) rfl rfl undIds infoHashZ2 rfl (by decide) (by decide) YL.out) ?_) | (at_builtin; obtain ⟨v10, w10, ap, oo, ff⟩ := append_ids (w9.alloc (.cells (hashC y).toArray 30)) (HO9.out.alloc _) (ids_new1 w9 YOK.out) (by have := LF.out; simp only [List.length_singleton]; omega) (by have := FA.out.size; simp; omega); refine wpList_append_run rfl rfl rfl rfl ap ?_; have F10 := Lib.hid (own_fr (FA.out.alloc _) (HO9.out.alloc _) (Nat.le_refl _) ff); rw [← HT2.out] at oo; have O10 := Lib.hid oo; obtain ⟨a10, c10, rfl⟩ := oo.slice.arg.form; clear ap oo ff))
          go_roundw
          case rel => exact ⟨n + 1, by simp, by omega, O10.out, F10.out⟩
          case measure => show (ids G).length - (n + 1) < (ids G).length - n; omega
      · have i1 : ¬ (n : Int) < ((ids G).length : Int) := by omega
        obtain rfl : n = (ids G).length := by omega
        rw [List.take_length, restL_all] at HO ⊢
        have HR := Lib.hid HO.out
        clear HO h hn
        replace M := Lib.hid (M.out.keep FR.out)
        have RI := Lib.hid (IdsIs.own HR.out (M.out.g.okId))
        have RL := Lib.hid (show (ids (cutL G [x])).length ≤ 80 by have := M.out.g.len; simpa [ids] using this)
        have NX := Lib.hid (show x ∉ ids (cutL G [x]) from fun h => (mem_ids_cut.1 h).2 (by simp))
        clear HR W8 FR
        go_wp2_with (first | (go_at_call 13; refine (all_K M.out.g (by decide)).mono ?_; rintro e w9 ⟨v9, rfl, o9⟩; have I9 := Lib.hid (o9.is M.out.g.okId); have M9 := Lib.hid (M.out.keep o9.2); have RI9 := Lib.hid (RI.out.keep o9.2); clear o9 M RI) | (go_at_call 18; refine (same_b I9.out RI9.out (by have := RL.out; omega) (by have := RL.out; omega) (show true = true ↔ ids (cutL G [x]) = ids (cutL G [x]) by simp)).mono ?_; rintro e w10 ⟨rfl, f10⟩; have M10 := Lib.hid (M9.out.keep f10); have RI10 := Lib.hid (RI9.out.keep f10); clear f10 I9 M9 RI9) | ((with_reducible refine at_dst 66 ?_); refine wpList_vG rfl (exec_load (ty := 30) rfl rfl M10.out.x uK rK (by rw [XLEN.out]; exact infoHash)) ?_) | (go_at_call 28; refine (has_g M10.out.g XOK.out (show false = true ↔ x ∈ ids (cutL G [x]) from ⟨fun e => (by cases e), fun e => absurd e NX.out⟩)).mono ?_; rintro e w11 ⟨rfl, f11⟩; have M := Lib.hid (M10.out.keep f11); have RI := Lib.hid (RI10.out.keep f11); clear f11 M10 RI10))
        have rl80 : (ids (cutL G [x])).length ≤ 80 := RL.out
        go_loopw [71] (fun iv wr => ∃ n : Nat, iv = .int .i64 n ∧ n ≤ (ids (cutL G [x])).length ∧ Fr No w11 wr) (fun iv _ => (ids (cutL G [x])).length - (intOf iv).toNat)
        case atStart => exact ⟨0, rfl, Nat.zero_le _, Fr.refl _ _⟩
        case round =>
          obtain ⟨n, rfl, hn, fr⟩ := hrel
          have FQ := Lib.hid fr
          clear fr
          by_cases h : n < (ids (cutL G [x])).length
          · have i1 : (n : Int) < ((ids (cutL G [x])).length : Int) := by omega
            obtain ⟨y, hy⟩ : ∃ y, (ids (cutL G [x]))[n]? = some y := ⟨_, List.getElem?_eq_getElem h⟩
            obtain ⟨b, off, cap, hv, hr, -⟩ := (RI.out.keep FQ.out).at_ hy
            cases hv
            have YOK := Lib.hid (M.out.g.okId y (List.mem_of_getElem? hy))
            have YL := Lib.hid (hashC_len YOK.out)
            have R1 := Lib.hid hr
            have fa := (Fr.refl No wr).alloc (.cells (hashC y).toArray 30)
            have FA := Lib.hid (FQ.out.trans0 fa)
            have RY := Lib.hid (range_new wr (hashC y) 30)
            have M12 := Lib.hid ((M.out.keep FQ.out).keep fa)
            have UL := Lib.hid (show (upS (cutL G [x]) [y]).length ≤ 80 by have := up_len (G := cutL G [x]) [y]; have := M.out.g.len; omega)
            have VL := Lib.hid (show (upS G [y]).length ≤ 100000 by have := up_len (G := G) [y]; have := M.out.h.len; omega)
            clear hy hr fa M
            go_wp2_with (first | ((with_reducible refine at_dst 74 ?_); refine wpList_vG rfl (exec_load (ty := 30) rfl rfl R1.out uK rK (by rw [YL.out]; exact infoHash)) ?_) | ((with_reducible refine at_store ?_); refine wpList_done rfl (exec_store_new (w := wr) (ty := 30) (cs := hashC y) rfl rfl rfl (by rw [YL.out]; rfl) (by rw [YL.out]; exact infoHash) hashC_one) ?_; generalize wr.alloc (.cells (hashC y).toArray 30) = w12 at *; generalize wr.heap.size = q12 at *) | ((with_reducible refine at_dst 76 ?_); refine wpList_vG rfl (exec_load (ty := 30) rfl rfl RY.out uK rK (by rw [YL.out]; exact infoHash)) ?_) | ((with_reducible refine at_dst 77 ?_); refine wpList_vG rfl (exec_buildSliceA (t := 27) rfl rfl undIds infoHashZ2 rfl (by decide) (by decide) YL.out) ?_) | (go_at_call 14; refine (up_K (M12.out.g.fr0 ((Fr.refl No w12).alloc (.cells (hashC y).toArray 30))) (by decide) (ids_new1 w12 YOK.out) (by simp)).mono ?_; rintro e w13 ⟨v13, rfl, o13⟩; have U13 := Lib.hid (o13.is (M12.out.g.okUp _)); have fz := ((Fr.refl No w12).alloc (.cells (hashC y).toArray 30)).trans0 o13.2; have F13 := Lib.hid (FA.out.trans0 fz); have M13 := Lib.hid (M12.out.keep fz); have RY13 := Lib.hid (range_keep RY.out fz id); obtain ⟨a13, c13, rfl⟩ := U13.out.2.form; clear o13 fz M12 RY FA))
            have ul80 : (upS (cutL G [x]) [y]).length ≤ 80 := UL.out
            go_loopw [80] (fun iv wr => ∃ k : Nat, iv = .int .i64 k ∧ k ≤ (upS (cutL G [x]) [y]).length ∧ Fr No w13 wr) (fun iv _ => (upS (cutL G [x]) [y]).length - (intOf iv).toNat)
            case atStart => exact ⟨0, rfl, Nat.zero_le _, Fr.refl _ _⟩
            case round =>
              obtain ⟨k, rfl, hk, fr⟩ := hrel
              have FZ := Lib.hid fr
              clear fr
              by_cases hkt : k < (upS (cutL G [x]) [y]).length
              · have i2 : (k : Int) < ((upS (cutL G [x]) [y]).length : Int) := by omega
                obtain ⟨z, hz⟩ : ∃ z, (upS (cutL G [x]) [y])[k]? = some z := ⟨_, List.getElem?_eq_getElem hkt⟩
                obtain ⟨b2, off2, cap2, hv, hr, -⟩ := (U13.out.keep FZ.out).at_ hz
                cases hv
                have zm := List.mem_of_getElem? hz
                have ZOK := Lib.hid (M13.out.g.okUp [y] z zm)
                have ZL := Lib.hid (hashC_len ZOK.out)
                have R2 := Lib.hid hr
                have fa := FZ.out.alloc (.cells (hashC z).toArray 30)
                have M := Lib.hid (show LiftB w w2 (wr.alloc (.cells (hashC z).toArray 30)) p p2 V7 V2 G (cutL G [x]) q0 q12 wr.heap.size x y z from ⟨M13.out.keep fa, range_keep RY13.out fa id, range_new wr (hashC z) 30⟩)
                have FA := Lib.hid fa
                have EZ := Lib.hid (show (false = true ↔ (hashC z).toArray = (hashC x).toArray) from ⟨fun e => (by cases e), fun e => absurd (show x ∈ ids (cutL G [x]) from (congrArg (· ∈ ids (cutL G [x])) (hashV_inj (congrArg Value.agg e))).mp (up_sub _ z zm)) NX.out⟩)
                have BZ := Lib.hid (show true = true ↔ z ∈ upS G [y] by simp only [true_iff]; exact up_of_cut M13.out.h.gok zm)
                clear hz hr fa zm
                go_upto_region 25 with (first | ((with_reducible refine at_dst 83 ?_); refine wpList_vG rfl (exec_load (ty := 30) rfl rfl R2.out uK rK (by rw [ZL.out]; exact infoHash)) ?_) | ((with_reducible refine at_store ?_); refine wpList_done rfl (exec_store_new (w := wr) (ty := 30) (cs := hashC z) rfl rfl rfl (by rw [ZL.out]; rfl) (by rw [ZL.out]; exact infoHash) hashC_one) ?_; generalize wr.alloc (.cells (hashC z).toArray 30) = w14 at *; generalize wr.heap.size = q14 at *))
                refine wp_region_lexT 12 [0, 1, 2, 3, 4, 5, 6, 7, 8, 9, 10, 11] (fun w' => w'.rangeAt q0 0 (hashC x) ∧ w'.rangeAt q12 0 (hashC y) ∧ w'.rangeAt q14 0 (hashC z)) (by kernel_rfl) (by kernel_rfl) (by kernel_rfl) (by kernel_rfl) ?_ (fun K hK => ?_)
                · exact (M.out.keep (Fr.refl No _).drew).s
                replace M := Lib.hid (M.out.keep (Fr.refl No w14).drew)
                replace FA := Lib.hid (FA.out.trans0 (Fr.refl No w14).drew)
                generalize w14.drew = k0 at *
                (((first | (refine lexT_rd 0 (by kernel_rfl) rfl rfl ?_; apply Exists.intro; refine ⟨?_, ?_⟩; (focus (first | exact lex_load (ty := 30) rfl (fun w h => h.1) uK rK (by rw [XLEN.out]; exact infoHash) | exact lex_load (ty := 30) rfl (fun w h => h.2.1) uK rK (by rw [YL.out]; exact infoHash) | exact lex_load (ty := 30) rfl (fun w h => h.2.2) uK rK (by rw [ZL.out]; exact infoHash) | exact fun w' h => eqHash.exec_eql (u := (hashC z).toArray) (v := (hashC x).toArray) rfl rfl rfl (keyOfHash ZOK.out) (keyOfHash XOK.out) false EZ.out w' | (intro w' hS; obtain ⟨s1, s2, s3⟩ := hS; go_simp; (try with_reducible rfl); done)))) | (refine lexT_sk 0 (by kernel_rfl) rfl rfl ?_)); try simp only [Act.put, List.setIfInBounds_toArray, List.set_cons_zero, List.set_cons_succ]); ((first | (refine lexT_rd 1 (by kernel_rfl) rfl rfl ?_; apply Exists.intro; refine ⟨?_, ?_⟩; (focus (first | exact lex_load (ty := 30) rfl (fun w h => h.1) uK rK (by rw [XLEN.out]; exact infoHash) | exact lex_load (ty := 30) rfl (fun w h => h.2.1) uK rK (by rw [YL.out]; exact infoHash) | exact lex_load (ty := 30) rfl (fun w h => h.2.2) uK rK (by rw [ZL.out]; exact infoHash) | exact fun w' h => eqHash.exec_eql (u := (hashC z).toArray) (v := (hashC x).toArray) rfl rfl rfl (keyOfHash ZOK.out) (keyOfHash XOK.out) false EZ.out w' | (intro w' hS; obtain ⟨s1, s2, s3⟩ := hS; go_simp; (try with_reducible rfl); done)))) | (refine lexT_sk 1 (by kernel_rfl) rfl rfl ?_)); try simp only [Act.put, List.setIfInBounds_toArray, List.set_cons_zero, List.set_cons_succ]); ((first | (refine lexT_rd 2 (by kernel_rfl) rfl rfl ?_; apply Exists.intro; refine ⟨?_, ?_⟩; (focus (first | exact lex_load (ty := 30) rfl (fun w h => h.1) uK rK (by rw [XLEN.out]; exact infoHash) | exact lex_load (ty := 30) rfl (fun w h => h.2.1) uK rK (by rw [YL.out]; exact infoHash) | exact lex_load (ty := 30) rfl (fun w h => h.2.2) uK rK (by rw [ZL.out]; exact infoHash) | exact fun w' h => eqHash.exec_eql (u := (hashC z).toArray) (v := (hashC x).toArray) rfl rfl rfl (keyOfHash ZOK.out) (keyOfHash XOK.out) false EZ.out w' | (intro w' hS; obtain ⟨s1, s2, s3⟩ := hS; go_simp; (try with_reducible rfl); done)))) | (refine lexT_sk 2 (by kernel_rfl) rfl rfl ?_)); try simp only [Act.put, List.setIfInBounds_toArray, List.set_cons_zero, List.set_cons_succ]); ((first | (refine lexT_rd 3 (by kernel_rfl) rfl rfl ?_; apply Exists.intro; refine ⟨?_, ?_⟩; (focus (first | exact lex_load (ty := 30) rfl (fun w h => h.1) uK rK (by rw [XLEN.out]; exact infoHash) | exact lex_load (ty := 30) rfl (fun w h => h.2.1) uK rK (by rw [YL.out]; exact infoHash) | exact lex_load (ty := 30) rfl (fun w h => h.2.2) uK rK (by rw [ZL.out]; exact infoHash) | exact fun w' h => eqHash.exec_eql (u := (hashC z).toArray) (v := (hashC x).toArray) rfl rfl rfl (keyOfHash ZOK.out) (keyOfHash XOK.out) false EZ.out w' | (intro w' hS; obtain ⟨s1, s2, s3⟩ := hS; go_simp; (try with_reducible rfl); done)))) | (refine lexT_sk 3 (by kernel_rfl) rfl rfl ?_)); try simp only [Act.put, List.setIfInBounds_toArray, List.set_cons_zero, List.set_cons_succ]); ((first | (refine lexT_rd 4 (by kernel_rfl) rfl rfl ?_; apply Exists.intro; refine ⟨?_, ?_⟩; (focus (first | exact lex_load (ty := 30) rfl (fun w h => h.1) uK rK (by rw [XLEN.out]; exact infoHash) | exact lex_load (ty := 30) rfl (fun w h => h.2.1) uK rK (by rw [YL.out]; exact infoHash) | exact lex_load (ty := 30) rfl (fun w h => h.2.2) uK rK (by rw [ZL.out]; exact infoHash) | exact fun w' h => eqHash.exec_eql (u := (hashC z).toArray) (v := (hashC x).toArray) rfl rfl rfl (keyOfHash ZOK.out) (keyOfHash XOK.out) false EZ.out w' | (intro w' hS; obtain ⟨s1, s2, s3⟩ := hS; go_simp; (try with_reducible rfl); done)))) | (refine lexT_sk 4 (by kernel_rfl) rfl rfl ?_)); try simp only [Act.put, List.setIfInBounds_toArray, List.set_cons_zero, List.set_cons_succ]); ((first | (refine lexT_rd 5 (by kernel_rfl) rfl rfl ?_; apply Exists.intro; refine ⟨?_, ?_⟩; (focus (first | exact lex_load (ty := 30) rfl (fun w h => h.1) uK rK (by rw [XLEN.out]; exact infoHash) | exact lex_load (ty := 30) rfl (fun w h => h.2.1) uK rK (by rw [YL.out]; exact infoHash) | exact lex_load (ty := 30) rfl (fun w h => h.2.2) uK rK (by rw [ZL.out]; exact infoHash) | exact fun w' h => eqHash.exec_eql (u := (hashC z).toArray) (v := (hashC x).toArray) rfl rfl rfl (keyOfHash ZOK.out) (keyOfHash XOK.out) false EZ.out w' | (intro w' hS; obtain ⟨s1, s2, s3⟩ := hS; go_simp; (try with_reducible rfl); done)))) | (refine lexT_sk 5 (by kernel_rfl) rfl rfl ?_)); try simp only [Act.put, List.setIfInBounds_toArray, List.set_cons_zero, List.set_cons_succ]); ((first | (refine lexT_rd 8 (by kernel_rfl) rfl rfl ?_; apply Exists.intro; refine ⟨?_, ?_⟩; (focus (first | exact lex_load (ty := 30) rfl (fun w h => h.1) uK rK (by rw [XLEN.out]; exact infoHash) | exact lex_load (ty := 30) rfl (fun w h => h.2.1) uK rK (by rw [YL.out]; exact infoHash) | exact lex_load (ty := 30) rfl (fun w h => h.2.2) uK rK (by rw [ZL.out]; exact infoHash) | exact fun w' h => eqHash.exec_eql (u := (hashC z).toArray) (v := (hashC x).toArray) rfl rfl rfl (keyOfHash ZOK.out) (keyOfHash XOK.out) false EZ.out w' | (intro w' hS; obtain ⟨s1, s2, s3⟩ := hS; go_simp; (try with_reducible rfl); done)))) | (refine lexT_sk 8 (by kernel_rfl) rfl rfl ?_)); try simp only [Act.put, List.setIfInBounds_toArray, List.set_cons_zero, List.set_cons_succ]))
                refine lexT_ef1 6 (by kernel_rfl) rfl rfl (fun K' hK' => ?_)
                refine wp_value (exec_buildSliceA (t := 27) rfl rfl undIds infoHashZ2 rfl (by decide) (by decide) YL.out) ?_
                have f := Lib.hid ((Fr.refl No k0).alloc (.cells (hashC y).toArray 30))
                (try replace U1 := Lib.hid (U1.out.keep f.out))
                (try replace U2 := Lib.hid (U2.out.keep f.out))
                (try replace H2 := Lib.hid (H2.out.keep f.out))
                (try replace FA := Lib.hid (FA.out.trans0 f.out))
                have H1 := Lib.hid (ids_new1 k0 YOK.out)
                replace M := Lib.hid (M.out.keep f.out)
                clear f
                refine hK'.out _ _ ?_ (fun hS => ?_)
                · exact M.out.s
                try simp only [Act.put, List.setIfInBounds_toArray, List.set_cons_zero, List.set_cons_succ]
                clear hS hK' K'
                generalize k0.alloc (.cells (hashC y).toArray 30) = k1 at *
                generalize k0.heap.size = q2 at *
                refine lexT_ef1 7 (by kernel_rfl) rfl rfl (fun K' hK' => ?_)
                go_simp
                refine (up_K M.out.a.h (by decide) H1.out (by simp)).mono ?_
                rintro e k3 ⟨vvU1, rfl, o⟩
                have f := Lib.hid o.2
                (try replace U2 := Lib.hid (U2.out.keep f.out))
                (try replace H2 := Lib.hid (H2.out.keep f.out))
                (try replace FA := Lib.hid (FA.out.trans0 f.out))
                have U1 := Lib.hid (o.is (M.out.a.h.okUp _))
                replace M := Lib.hid (M.out.keep f.out)
                clear f o H1
                refine hK'.out _ _ ?_ (fun hS => ?_)
                · exact M.out.s
                try simp only [Act.put, List.setIfInBounds_toArray, List.set_cons_zero, List.set_cons_succ]
                clear hS hK' K'
                refine lexT_ef1 9 (by kernel_rfl) rfl rfl (fun K' hK' => ?_)
                go_simp
                refine (has_b U1.out VL.out ZOK.out BZ.out).mono ?_
                rintro e k4 ⟨rfl, f0⟩
                have f := Lib.hid f0
                (try replace U2 := Lib.hid (U2.out.keep f.out))
                (try replace H1 := Lib.hid (H1.out.keep f.out))
                (try replace H2 := Lib.hid (H2.out.keep f.out))
                (try replace FA := Lib.hid (FA.out.trans0 f.out))
                replace M := Lib.hid (M.out.keep f.out)
                clear f f0 U1
                refine hK'.out _ _ ?_ (fun hS => ?_)
                · exact M.out.s
                try simp only [Act.put, List.setIfInBounds_toArray, List.set_cons_zero, List.set_cons_succ]
                clear hS hK' K'
                (((first | (refine lexT_rd 10 (by kernel_rfl) rfl rfl ?_; apply Exists.intro; refine ⟨?_, ?_⟩; (focus (first | exact lex_load (ty := 30) rfl (fun w h => h.1) uK rK (by rw [XLEN.out]; exact infoHash) | exact lex_load (ty := 30) rfl (fun w h => h.2.1) uK rK (by rw [YL.out]; exact infoHash) | exact lex_load (ty := 30) rfl (fun w h => h.2.2) uK rK (by rw [ZL.out]; exact infoHash) | exact fun w' h => eqHash.exec_eql (u := (hashC z).toArray) (v := (hashC x).toArray) rfl rfl rfl (keyOfHash ZOK.out) (keyOfHash XOK.out) false EZ.out w' | (intro w' hS; obtain ⟨s1, s2, s3⟩ := hS; go_simp; (try with_reducible rfl); done)))) | (refine lexT_sk 10 (by kernel_rfl) rfl rfl ?_)); try simp only [Act.put, List.setIfInBounds_toArray, List.set_cons_zero, List.set_cons_succ]); ((first | (refine lexT_rd 11 (by kernel_rfl) rfl rfl ?_; apply Exists.intro; refine ⟨?_, ?_⟩; (focus (first | exact lex_load (ty := 30) rfl (fun w h => h.1) uK rK (by rw [XLEN.out]; exact infoHash) | exact lex_load (ty := 30) rfl (fun w h => h.2.1) uK rK (by rw [YL.out]; exact infoHash) | exact lex_load (ty := 30) rfl (fun w h => h.2.2) uK rK (by rw [ZL.out]; exact infoHash) | exact fun w' h => eqHash.exec_eql (u := (hashC z).toArray) (v := (hashC x).toArray) rfl rfl rfl (keyOfHash ZOK.out) (keyOfHash XOK.out) false EZ.out w' | (intro w' hS; obtain ⟨s1, s2, s3⟩ := hS; go_simp; (try with_reducible rfl); done)))) | (refine lexT_sk 11 (by kernel_rfl) rfl rfl ?_)); try simp only [Act.put, List.setIfInBounds_toArray, List.set_cons_zero, List.set_cons_succ]))
                refine lexT_nil (hK.out _ _ ?_)
                go_wp2
                go_roundw
                case rel => exact ⟨k + 1, by simp, by omega, FA.out⟩
                case measure => show (upS (cutL G [x]) [y]).length - (k + 1) < (upS (cutL G [x]) [y]).length - k; omega
              · have i2 : ¬ (k : Int) < ((upS (cutL G [x]) [y]).length : Int) := by omega
                go_wp2
                go_roundw
                case rel => exact ⟨n + 1, by simp, by omega, F13.out.trans0 FZ.out⟩
                case measure => show (ids (cutL G [x])).length - (n + 1) < (ids (cutL G [x])).length - n; omega
          · have i1 : ¬ (n : Int) < ((ids (cutL G [x])).length : Int) := by omega
            have S0 := Lib.hid (show ¬ V7 q0 ∧ q0 < w2.heap.size from ⟨fun h => by have := M.out.g.lo q0 h; have := Q2.out; omega, Q2.out⟩)
            have SX := Lib.hid (show ∀ (W : World) (v : Value), True from fun _ _ => trivial)
            clear SX
            replace M := Lib.hid (M.out.keep FQ.out)
            have AE := Lib.hid (add_nil NX.out)
            have DN2 := Lib.hid (show true = true ↔ downS (addG (cutL G [x]) x []) [x] = [x] by rw [down_add_new M.out.g.gok NX.out (by simp)]; simp)
            have DB := Lib.hid (show (downS (addG (cutL G [x]) x []) [x]).length ≤ 100000 by rw [down_add_new M.out.g.gok NX.out (by simp)]; simp)
            clear RI RL FQ
            go_upto_region 29 with fail
            refine wp_region_lexT 14 [0, 1, 2, 3, 4, 5, 6, 7, 8, 9, 10, 11, 12, 13] (fun w' => w'.rangeAt q0 0 (hashC x)) (by kernel_rfl) (by kernel_rfl) (by kernel_rfl) (by kernel_rfl) ?_ (fun K hK => ?_)
            · exact (M.out.keep (Fr.refl No _).drew).x
            replace M := Lib.hid (M.out.keep (Fr.refl No wr).drew)
            generalize wr.drew = k0 at *
            (((first | (refine lexT_rd 0 (by kernel_rfl) rfl rfl ?_; apply Exists.intro; refine ⟨?_, ?_⟩; (focus (first | exact lex_load (ty := 30) rfl (fun w h => h) uK rK (by rw [XLEN.out]; exact infoHash) | (intro w' hS; obtain h := hS; go_simp; (try with_reducible rfl); done)))) | (refine lexT_sk 0 (by kernel_rfl) rfl rfl ?_)); try simp only [Act.put, List.setIfInBounds_toArray, List.set_cons_zero, List.set_cons_succ]); ((first | (refine lexT_rd 1 (by kernel_rfl) rfl rfl ?_; apply Exists.intro; refine ⟨?_, ?_⟩; (focus (first | exact lex_load (ty := 30) rfl (fun w h => h) uK rK (by rw [XLEN.out]; exact infoHash) | (intro w' hS; obtain h := hS; go_simp; (try with_reducible rfl); done)))) | (refine lexT_sk 1 (by kernel_rfl) rfl rfl ?_)); try simp only [Act.put, List.setIfInBounds_toArray, List.set_cons_zero, List.set_cons_succ]))
            refine lexT_ef1 2 (by kernel_rfl) rfl rfl (fun K' hK' => ?_)
            go_simp
            refine (add_K M.out.g (by decide) XOK.out (ids_none _) (by simp)).mono ?_
            rintro e k1 ⟨he, V8, g8, f8, s8⟩
            rw [AE.out] at he g8
            rw [if_pos rfl] at g8
            subst he
            replace M := Lib.hid (show LiftC w w2 k1 p V8 (addG (cutL G [x]) x []) q0 x from ⟨g8, range_keep M.out.x f8 S0.out.1, (show Fr No w w2 from FW.out).trans0 g8.fr⟩)
            clear g8 f8 s8
            refine hK'.out _ _ ?_ (fun hS => ?_)
            · exact M.out.s
            try simp only [Act.put, List.setIfInBounds_toArray, List.set_cons_zero, List.set_cons_succ]
            clear hS hK' K'
            (((first | (refine lexT_rd 3 (by kernel_rfl) rfl rfl ?_; apply Exists.intro; refine ⟨?_, ?_⟩; (focus (first | exact lex_load (ty := 30) rfl (fun w h => h) uK rK (by rw [XLEN.out]; exact infoHash) | (intro w' hS; obtain h := hS; go_simp; (try with_reducible rfl); done)))) | (refine lexT_sk 3 (by kernel_rfl) rfl rfl ?_)); try simp only [Act.put, List.setIfInBounds_toArray, List.set_cons_zero, List.set_cons_succ]); ((first | (refine lexT_rd 4 (by kernel_rfl) rfl rfl ?_; apply Exists.intro; refine ⟨?_, ?_⟩; (focus (first | exact lex_load (ty := 30) rfl (fun w h => h) uK rK (by rw [XLEN.out]; exact infoHash) | (intro w' hS; obtain h := hS; go_simp; (try with_reducible rfl); done)))) | (refine lexT_sk 4 (by kernel_rfl) rfl rfl ?_)); try simp only [Act.put, List.setIfInBounds_toArray, List.set_cons_zero, List.set_cons_succ]); ((first | (refine lexT_rd 5 (by kernel_rfl) rfl rfl ?_; apply Exists.intro; refine ⟨?_, ?_⟩; (focus (first | exact lex_load (ty := 30) rfl (fun w h => h) uK rK (by rw [XLEN.out]; exact infoHash) | (intro w' hS; obtain h := hS; go_simp; (try with_reducible rfl); done)))) | (refine lexT_sk 5 (by kernel_rfl) rfl rfl ?_)); try simp only [Act.put, List.setIfInBounds_toArray, List.set_cons_zero, List.set_cons_succ]); ((first | (refine lexT_rd 6 (by kernel_rfl) rfl rfl ?_; apply Exists.intro; refine ⟨?_, ?_⟩; (focus (first | exact lex_load (ty := 30) rfl (fun w h => h) uK rK (by rw [XLEN.out]; exact infoHash) | (intro w' hS; obtain h := hS; go_simp; (try with_reducible rfl); done)))) | (refine lexT_sk 6 (by kernel_rfl) rfl rfl ?_)); try simp only [Act.put, List.setIfInBounds_toArray, List.set_cons_zero, List.set_cons_succ]); ((first | (refine lexT_rd 9 (by kernel_rfl) rfl rfl ?_; apply Exists.intro; refine ⟨?_, ?_⟩; (focus (first | exact lex_load (ty := 30) rfl (fun w h => h) uK rK (by rw [XLEN.out]; exact infoHash) | (intro w' hS; obtain h := hS; go_simp; (try with_reducible rfl); done)))) | (refine lexT_sk 9 (by kernel_rfl) rfl rfl ?_)); try simp only [Act.put, List.setIfInBounds_toArray, List.set_cons_zero, List.set_cons_succ]))
            refine lexT_ef2 7 10 (by kernel_rfl) rfl rfl rfl rfl (fun K' hK' => ?_) (fun K' hK' => ?_)
            · refine wp_value (exec_buildSliceA (t := 27) rfl rfl undIds infoHashZ2 rfl (by decide) (by decide) XLEN.out) ?_
              have f := Lib.hid ((Fr.refl No k1).alloc (.cells (hashC x).toArray 30))
              (try replace U1 := Lib.hid (U1.out.keep f.out))
              (try replace U2 := Lib.hid (U2.out.keep f.out))
              (try replace H2 := Lib.hid (H2.out.keep f.out))
              (try replace FA := Lib.hid (FA.out.trans0 f.out))
              have H1 := Lib.hid (ids_new1 k1 XOK.out)
              replace M := Lib.hid (M.out.keep f.out)
              clear f
              refine hK'.out _ _ ?_ (fun hS => ?_)
              · exact M.out.s
              try simp only [Act.put, List.setIfInBounds_toArray, List.set_cons_zero, List.set_cons_succ]
              clear hS hK' K'
              generalize k1.alloc (.cells (hashC x).toArray 30) = k2 at *
              generalize k1.heap.size = q3 at *
              refine lexT_ef2 8 10 (by kernel_rfl) rfl rfl rfl rfl (fun K' hK' => ?_) (fun K' hK' => ?_)
              · go_simp
                refine (down_K M.out.g (by decide) H1.out (by simp)).mono ?_
                rintro e k4 ⟨vvU1, rfl, o⟩
                have f := Lib.hid o.2
                (try replace U2 := Lib.hid (U2.out.keep f.out))
                (try replace H2 := Lib.hid (H2.out.keep f.out))
                (try replace FA := Lib.hid (FA.out.trans0 f.out))
                have U1 := Lib.hid (o.is (M.out.g.okDown _))
                replace M := Lib.hid (M.out.keep f.out)
                clear f o H1
                refine hK'.out _ _ ?_ (fun hS => ?_)
                · exact M.out.s
                try simp only [Act.put, List.setIfInBounds_toArray, List.set_cons_zero, List.set_cons_succ]
                clear hS hK' K'
                refine lexT_ef1 10 (by kernel_rfl) rfl rfl (fun K' hK' => ?_)
                refine wp_value (exec_buildSliceA (t := 27) rfl rfl undIds infoHashZ2 rfl (by decide) (by decide) XLEN.out) ?_
                have f := Lib.hid ((Fr.refl No k4).alloc (.cells (hashC x).toArray 30))
                (try replace U1 := Lib.hid (U1.out.keep f.out))
                (try replace U2 := Lib.hid (U2.out.keep f.out))
                (try replace H1 := Lib.hid (H1.out.keep f.out))
                (try replace FA := Lib.hid (FA.out.trans0 f.out))
                have H2 := Lib.hid (ids_new1 k4 XOK.out)
                replace M := Lib.hid (M.out.keep f.out)
                clear f
                refine hK'.out _ _ ?_ (fun hS => ?_)
                · exact M.out.s
                try simp only [Act.put, List.setIfInBounds_toArray, List.set_cons_zero, List.set_cons_succ]
                clear hS hK' K'
                generalize k4.alloc (.cells (hashC x).toArray 30) = k5 at *
                generalize k4.heap.size = q6 at *
                refine lexT_ef1 11 (by kernel_rfl) rfl rfl (fun K' hK' => ?_)
                go_simp
                refine (same_b U1.out H2.out DB.out (by simp) DN2.out).mono ?_
                rintro e k7 ⟨rfl, f0⟩
                have f := Lib.hid f0
                (try replace U2 := Lib.hid (U2.out.keep f.out))
                (try replace H1 := Lib.hid (H1.out.keep f.out))
                (try replace FA := Lib.hid (FA.out.trans0 f.out))
                replace M := Lib.hid (M.out.keep f.out)
                clear f f0 U1 H2
                refine hK'.out _ _ ?_ (fun hS => ?_)
                · exact M.out.s
                try simp only [Act.put, List.setIfInBounds_toArray, List.set_cons_zero, List.set_cons_succ]
                clear hS hK' K'
                (((first | (refine lexT_rd 12 (by kernel_rfl) rfl rfl ?_; apply Exists.intro; refine ⟨?_, ?_⟩; (focus (first | exact lex_load (ty := 30) rfl (fun w h => h) uK rK (by rw [XLEN.out]; exact infoHash) | (intro w' hS; obtain h := hS; go_simp; (try with_reducible rfl); done)))) | (refine lexT_sk 12 (by kernel_rfl) rfl rfl ?_)); try simp only [Act.put, List.setIfInBounds_toArray, List.set_cons_zero, List.set_cons_succ]); ((first | (refine lexT_rd 13 (by kernel_rfl) rfl rfl ?_; apply Exists.intro; refine ⟨?_, ?_⟩; (focus (first | exact lex_load (ty := 30) rfl (fun w h => h) uK rK (by rw [XLEN.out]; exact infoHash) | (intro w' hS; obtain h := hS; go_simp; (try with_reducible rfl); done)))) | (refine lexT_sk 13 (by kernel_rfl) rfl rfl ?_)); try simp only [Act.put, List.setIfInBounds_toArray, List.set_cons_zero, List.set_cons_succ]))
                refine lexT_nil (hK.out _ _ ?_)
                go_wp2
                go_ret
                exact ⟨rfl, M.out.f⟩
              · refine wp_value (exec_buildSliceA (t := 27) rfl rfl undIds infoHashZ2 rfl (by decide) (by decide) XLEN.out) ?_
                have f := Lib.hid ((Fr.refl No k2).alloc (.cells (hashC x).toArray 30))
                (try replace U1 := Lib.hid (U1.out.keep f.out))
                (try replace U2 := Lib.hid (U2.out.keep f.out))
                (try replace H1 := Lib.hid (H1.out.keep f.out))
                (try replace FA := Lib.hid (FA.out.trans0 f.out))
                have H2 := Lib.hid (ids_new1 k2 XOK.out)
                replace M := Lib.hid (M.out.keep f.out)
                clear f
                refine hK'.out _ _ ?_ (fun hS => ?_)
                · exact M.out.s
                try simp only [Act.put, List.setIfInBounds_toArray, List.set_cons_zero, List.set_cons_succ]
                clear hS hK' K'
                generalize k2.alloc (.cells (hashC x).toArray 30) = k8 at *
                generalize k2.heap.size = q9 at *
                refine lexT_ef1 8 (by kernel_rfl) rfl rfl (fun K' hK' => ?_)
                go_simp
                refine (down_K M.out.g (by decide) H1.out (by simp)).mono ?_
                rintro e k10 ⟨vvU1, rfl, o⟩
                have f := Lib.hid o.2
                (try replace U2 := Lib.hid (U2.out.keep f.out))
                (try replace H2 := Lib.hid (H2.out.keep f.out))
                (try replace FA := Lib.hid (FA.out.trans0 f.out))
                have U1 := Lib.hid (o.is (M.out.g.okDown _))
                replace M := Lib.hid (M.out.keep f.out)
                clear f o H1
                refine hK'.out _ _ ?_ (fun hS => ?_)
                · exact M.out.s
                try simp only [Act.put, List.setIfInBounds_toArray, List.set_cons_zero, List.set_cons_succ]
                clear hS hK' K'
                refine lexT_ef1 11 (by kernel_rfl) rfl rfl (fun K' hK' => ?_)
                go_simp
                refine (same_b U1.out H2.out DB.out (by simp) DN2.out).mono ?_
                rintro e k11 ⟨rfl, f0⟩
                have f := Lib.hid f0
                (try replace U2 := Lib.hid (U2.out.keep f.out))
                (try replace H1 := Lib.hid (H1.out.keep f.out))
                (try replace FA := Lib.hid (FA.out.trans0 f.out))
                replace M := Lib.hid (M.out.keep f.out)
                clear f f0 U1 H2
                refine hK'.out _ _ ?_ (fun hS => ?_)
                · exact M.out.s
                try simp only [Act.put, List.setIfInBounds_toArray, List.set_cons_zero, List.set_cons_succ]
                clear hS hK' K'
                (((first | (refine lexT_rd 12 (by kernel_rfl) rfl rfl ?_; apply Exists.intro; refine ⟨?_, ?_⟩; (focus (first | exact lex_load (ty := 30) rfl (fun w h => h) uK rK (by rw [XLEN.out]; exact infoHash) | (intro w' hS; obtain h := hS; go_simp; (try with_reducible rfl); done)))) | (refine lexT_sk 12 (by kernel_rfl) rfl rfl ?_)); try simp only [Act.put, List.setIfInBounds_toArray, List.set_cons_zero, List.set_cons_succ]); ((first | (refine lexT_rd 13 (by kernel_rfl) rfl rfl ?_; apply Exists.intro; refine ⟨?_, ?_⟩; (focus (first | exact lex_load (ty := 30) rfl (fun w h => h) uK rK (by rw [XLEN.out]; exact infoHash) | (intro w' hS; obtain h := hS; go_simp; (try with_reducible rfl); done)))) | (refine lexT_sk 13 (by kernel_rfl) rfl rfl ?_)); try simp only [Act.put, List.setIfInBounds_toArray, List.set_cons_zero, List.set_cons_succ]))
                refine lexT_nil (hK.out _ _ ?_)
                go_wp2
                go_ret
                exact ⟨rfl, M.out.f⟩
            · refine wp_value (exec_buildSliceA (t := 27) rfl rfl undIds infoHashZ2 rfl (by decide) (by decide) XLEN.out) ?_
              have f := Lib.hid ((Fr.refl No k1).alloc (.cells (hashC x).toArray 30))
              (try replace U1 := Lib.hid (U1.out.keep f.out))
              (try replace U2 := Lib.hid (U2.out.keep f.out))
              (try replace H1 := Lib.hid (H1.out.keep f.out))
              (try replace FA := Lib.hid (FA.out.trans0 f.out))
              have H2 := Lib.hid (ids_new1 k1 XOK.out)
              replace M := Lib.hid (M.out.keep f.out)
              clear f
              refine hK'.out _ _ ?_ (fun hS => ?_)
              · exact M.out.s
              try simp only [Act.put, List.setIfInBounds_toArray, List.set_cons_zero, List.set_cons_succ]
              clear hS hK' K'
              generalize k1.alloc (.cells (hashC x).toArray 30) = k12 at *
              generalize k1.heap.size = q13 at *
              refine lexT_ef1 7 (by kernel_rfl) rfl rfl (fun K' hK' => ?_)
              refine wp_value (exec_buildSliceA (t := 27) rfl rfl undIds infoHashZ2 rfl (by decide) (by decide) XLEN.out) ?_
              have f := Lib.hid ((Fr.refl No k12).alloc (.cells (hashC x).toArray 30))
              (try replace U1 := Lib.hid (U1.out.keep f.out))
              (try replace U2 := Lib.hid (U2.out.keep f.out))
              (try replace H2 := Lib.hid (H2.out.keep f.out))
              (try replace FA := Lib.hid (FA.out.trans0 f.out))
              have H1 := Lib.hid (ids_new1 k12 XOK.out)
              replace M := Lib.hid (M.out.keep f.out)
              clear f
              refine hK'.out _ _ ?_ (fun hS => ?_)
              · exact M.out.s
              try simp only [Act.put, List.setIfInBounds_toArray, List.set_cons_zero, List.set_cons_succ]
              clear hS hK' K'
              generalize k12.alloc (.cells (hashC x).toArray 30) = k14 at *
              generalize k12.heap.size = q15 at *
              refine lexT_ef1 8 (by kernel_rfl) rfl rfl (fun K' hK' => ?_)
              go_simp
              refine (down_K M.out.g (by decide) H1.out (by simp)).mono ?_
              rintro e k16 ⟨vvU1, rfl, o⟩
              have f := Lib.hid o.2
              (try replace U2 := Lib.hid (U2.out.keep f.out))
              (try replace H2 := Lib.hid (H2.out.keep f.out))
              (try replace FA := Lib.hid (FA.out.trans0 f.out))
              have U1 := Lib.hid (o.is (M.out.g.okDown _))
              replace M := Lib.hid (M.out.keep f.out)
              clear f o H1
              refine hK'.out _ _ ?_ (fun hS => ?_)
              · exact M.out.s
              try simp only [Act.put, List.setIfInBounds_toArray, List.set_cons_zero, List.set_cons_succ]
              clear hS hK' K'
              refine lexT_ef1 11 (by kernel_rfl) rfl rfl (fun K' hK' => ?_)
              go_simp
              refine (same_b U1.out H2.out DB.out (by simp) DN2.out).mono ?_
              rintro e k17 ⟨rfl, f0⟩
              have f := Lib.hid f0
              (try replace U2 := Lib.hid (U2.out.keep f.out))
              (try replace H1 := Lib.hid (H1.out.keep f.out))
              (try replace FA := Lib.hid (FA.out.trans0 f.out))
              replace M := Lib.hid (M.out.keep f.out)
              clear f f0 U1 H2
              refine hK'.out _ _ ?_ (fun hS => ?_)
              · exact M.out.s
              try simp only [Act.put, List.setIfInBounds_toArray, List.set_cons_zero, List.set_cons_succ]
              clear hS hK' K'
              (((first | (refine lexT_rd 12 (by kernel_rfl) rfl rfl ?_; apply Exists.intro; refine ⟨?_, ?_⟩; (focus (first | exact lex_load (ty := 30) rfl (fun w h => h) uK rK (by rw [XLEN.out]; exact infoHash) | (intro w' hS; obtain h := hS; go_simp; (try with_reducible rfl); done)))) | (refine lexT_sk 12 (by kernel_rfl) rfl rfl ?_)); try simp only [Act.put, List.setIfInBounds_toArray, List.set_cons_zero, List.set_cons_succ]); ((first | (refine lexT_rd 13 (by kernel_rfl) rfl rfl ?_; apply Exists.intro; refine ⟨?_, ?_⟩; (focus (first | exact lex_load (ty := 30) rfl (fun w h => h) uK rK (by rw [XLEN.out]; exact infoHash) | (intro w' hS; obtain h := hS; go_simp; (try with_reducible rfl); done)))) | (refine lexT_sk 13 (by kernel_rfl) rfl rfl ?_)); try simp only [Act.put, List.setIfInBounds_toArray, List.set_cons_zero, List.set_cons_succ]))
              refine lexT_nil (hK.out _ _ ?_)
              go_wp2
              go_ret
              exact ⟨rfl, M.out.f⟩
  · go_enter Try.func9, Try.ntmps9
    have CN := Lib.hid (show ∀ G : List NodeD, GOk G → x ∉ ids G → cutL G [x] = G from fun G ok h => cutL_not ok h)
    have MkM0 := Lib.hid True.intro
    have MkM1 := Lib.hid True.intro
    have MkM2 := Lib.hid True.intro
    have MkM3 := Lib.hid True.intro
    have MkM4 := Lib.hid True.intro
    have MkM5 := Lib.hid True.intro
    have MkM6 := Lib.hid True.intro
    have MkM7 := Lib.hid True.intro
    have MkM8 := Lib.hid True.intro
    have MkM9 := Lib.hid True.intro
    have MkM10 := Lib.hid True.intro
    go_wp2_with (first | (have mk := MkM0.out; (go_at_call 10; generalize hq : w.heap.size = q0 at *; generalize (w.alloc (.cells (hashC x).toArray 30)) = w0 at *; refine (aliveK_any w0).mono ?_; rintro e w1 ⟨rfl, f1⟩; have F1 := Lib.hid (F0.out.trans0 f1); have F01 := Lib.hid f1; clear f1); go_frame; clear mk MkM0) | (have mk := MkM1.out; (go_at_call 11; refine (kgreat_any w1 (HL.out.keep F1.out)).mono ?_; rintro e w2 ⟨rfl, f2⟩; rw [hg0]; have F2 := Lib.hid (F1.out.trans0 f2); have F02 := Lib.hid (F01.out.trans0 f2); clear f2); go_frame; clear mk MkM1) | (have mk := MkM2.out; (go_at_call 12; refine (grown_any w2 (HL.out.keep F2.out) hg0).mono ?_; rintro e w3 ⟨p, V, rfl, g3, b3⟩; have G3 := Lib.hid g3; have F3 := Lib.hid (F2.out.trans0 g3.fr); clear g3 b3); go_frame; clear mk MkM2) | (have mk := MkM3.out; (go_at_call 12; refine (grown_any w3 (HL.out.keep F3.out) hg0).mono ?_; rintro e w4 ⟨p2, V2, rfl, g4, b4⟩; generalize grownG L = G at *; have H4 := Lib.hid (g4.base G3.out.fr); have G4 := Lib.hid (G3.out.fr0 g4.fr); have F4 := Lib.hid (F3.out.trans0 g4.fr); have AP := Lib.hid (show ∀ j, V j → ¬ V2 j from fun j h1 h2 => by have := G3.out.hi j h1; have := g4.lo j h2; omega); have LO := Lib.hid (show ∀ j, V j → w2.heap.size ≤ j from G3.out.lo); have HI := Lib.hid (show ∀ j, V j → j < w4.heap.size from G4.out.hi); clear g4 b4); go_frame; clear mk MkM3) | (have mk := MkM4.out; (go_at_call 13; refine (all_K G4.out (by decide)).mono ?_; rintro e w5 ⟨v5, rfl, o5⟩; have O5 := Lib.hid o5; have F5 := Lib.hid (F4.out.trans0 o5.2); have G5 := Lib.hid (G4.out.fr0 o5.2); have H5 := Lib.hid (H4.out.fr0 o5.2); have R5 := Lib.hid (range_keep R0.out ((F02.out.trans0 G4.out.fr).trans0 o5.2) id); have Z5 := Lib.hid o5.2.size; obtain ⟨a5, c5, rfl⟩ := (o5.is G5.out.okId).2.form; clear o5 G4 H4); go_frame; clear mk MkM4) | (have mk := MkM5.out; ((with_reducible refine at_dst 27 ?_); refine wpList_vG rfl (exec_load (ty := 30) rfl rfl R5.out uK rK (by rw [XLEN.out]; exact infoHash)) ?_); go_frame; clear mk MkM5) | (have mk := MkM6.out; (go_at_call 23; refine (lift_K G5.out (by decide) XOK.out).mono ?_; rintro e w7 ⟨he, V7, g7, f7, s7⟩; rw [if_neg hin] at he; subst he; have G7 := Lib.hid g7; have S7 := Lib.hid s7; have H7 := Lib.hid (H5.out.frV f7 (fun j h1 h2 => AP.out j h2 h1) LO.out); have W7 := Lib.hid (IdsIs.own (ownsRow_keep O5.out.1 f7 (fun b e h => by have := (O5.out.1.lt b e).1; have := HI.out b h; omega)) G5.out.okId); have R7 := Lib.hid (range_keep R5.out f7 (fun h => by have := LO.out _ h; have := Q0.out; have := F02.out.size; omega)); have F7 := Lib.hid (F2.out.trans0 g7.fr); clear g7 f7 s7 G5 H5 R5 O5 F5 Z5); go_frame; clear mk MkM6) | (have mk := MkM7.out; ((with_reducible refine at_dst 30 ?_); refine wpList_vG rfl (exec_load (ty := 30) rfl rfl R7.out uK rK (by rw [XLEN.out]; exact infoHash)) ?_); go_frame; clear mk MkM7) | (have mk := MkM8.out; (go_at_call 15; refine (has_b W7.out (by have := H7.out.len; simp only [ids, List.length_map]; omega) XOK.out (show false = true ↔ x ∈ ids G by simp [hin])).mono ?_; rintro e w8 ⟨rfl, f8⟩; have M := Lib.hid (show LiftA w w2 w8 p p2 V7 V2 G (cutL G [x]) q0 x from ⟨G7.out.fr0 f8, H7.out.fr0 f8, range_keep R7.out f8 id, F7.out.trans0 f8⟩); have W8 := Lib.hid (W7.out.keep f8); clear f8 G7 H7 R7 F7 W7); go_frame; clear mk MkM8) | (have mk := MkM9.out; (go_at_call 13; refine (all_K M.out.g (by decide)).mono ?_; rintro e w9 ⟨v9, rfl, o9⟩; have I9 := Lib.hid (o9.is M.out.g.okId); have M9 := Lib.hid (M.out.keep o9.2); have W9 := Lib.hid (W8.out.keep o9.2); clear o9 M); go_frame; clear mk MkM9) | (have mk := MkM10.out; (go_at_call 18; refine (same_b I9.out W9.out (by have := M9.out.g.len; simp only [ids, List.length_map]; omega) (by have := M9.out.h.len; simp only [ids, List.length_map]; omega) (show true = true ↔ ids (cutL G [x]) = ids G by rw [CN.out G M9.out.h.gok hin]; simp)).mono ?_; rintro e w10 ⟨rfl, f10⟩; have F10 := Lib.hid (M9.out.f.trans0 f10); clear f10); go_frame; clear mk MkM10))
    go_ret
    exact ⟨rfl, F10.out⟩
end Go.Proofs.Ytnjkpjcnmdgoeaa
