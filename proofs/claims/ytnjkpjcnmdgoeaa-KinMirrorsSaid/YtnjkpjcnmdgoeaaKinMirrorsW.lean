/- KinMirrors: the walk (printed by gen_kin.py). -/
import Derived.Test.YtnjkpjcnmdgoeaaKinU
import Derived.Test.YtnjkpjcnmdgoeaaKinV
import Derived.Test.YtnjkpjcnmdgoeaaSeq
import Derived.Test.YtnjkpjcnmdgoeaaTree
import Derived.Deep.Cut
namespace Go.Proofs.Ytnjkpjcnmdgoeaa
open Go Go.RowKit Go.Maps Go.MapKept

theorem up_down_iff {G : List NodeD} {x y : HashD} : y ∈ upS G [x] ↔ x ∈ downS G [y] := by rw [mem_up, mem_down]; simp
theorem up_thru {G : List NodeD} {x y z : HashD} (h : y ∈ upS G [x]) (h2 : z ∈ upS G [y]) : z ∈ upS G [x] := by
  rw [mem_up] at h h2 ⊢
  simp only [List.mem_singleton, exists_eq_left] at h h2 ⊢
  exact h.trans h2
structure MirAt (w0 wb w : World) (p : Nat) (V : Nat → Prop) (G : List NodeD) (N : Nat) (v : Value) (S : List HashD) (q5 q7 : Nat) (x y : HashD) : Prop where
  gc : GC w0 w p V G N
  up : IdsIs w v S
  rx : w.rangeAt q5 0 (hashC x)
  ry : w.rangeAt q7 0 (hashC y)
  f : Fr No wb w
section
variable {w0 wb w w' : World} {p N : Nat} {V : Nat → Prop} {G : List NodeD} {v : Value} {S : List HashD} {q5 q7 : Nat} {x y : HashD}
theorem MirAt.keep (h : MirAt w0 wb w p V G N v S q5 q7 x y) (f : Fr No w w') : MirAt w0 wb w' p V G N v S q5 q7 x y := ⟨h.gc.fr0 f, h.up.keep f, range_keep h.rx f id, range_keep h.ry f id, h.f.trans0 f⟩
theorem MirAt.s (h : MirAt w0 wb w p V G N v S q5 q7 x y) : w.rangeAt q5 0 (hashC x) ∧ w.rangeAt q7 0 (hashC y) := ⟨h.rx, h.ry⟩
end

set_option maxRecDepth 100000 in
set_option maxHeartbeats 8000000 in
theorem mirrors_any (w : World) {v : Value} {L : List KActD} (hl : KActsIs w v L) :
    Calls Try.prog 4 #[v] w fun e w' => e = .returned (.bool true) ∧ Fr No w w' := by
  obtain ⟨dK, uK, rK⟩ := descHash
  have HL := Lib.hid hl
  obtain ⟨va, vc, rfl, -, -⟩ := hl
  have zh := zeroHash
  go_enter Try.func4, Try.ntmps4
  by_cases hg : kgreat L = true
  · go_wp2_with (first | (go_at_call 10; refine (aliveK_any w).mono ?_; rintro e w1 ⟨rfl, f1⟩; have F1 := Lib.hid f1; clear f1) | (go_at_call 11; refine (kgreat_any w1 (HL.out.keep F1.out)).mono ?_; rintro e w2 ⟨rfl, f2⟩; rw [hg]; have F2 := Lib.hid (F1.out.trans0 f2); clear f2))
    go_ret
    exact ⟨rfl, F2.out⟩
  have hg0 : kgreat L = false := by simpa using hg
  clear hg
  go_wp2_with (first | (go_at_call 10; refine (aliveK_any w).mono ?_; rintro e w1 ⟨rfl, f1⟩; have F1 := Lib.hid f1; clear f1) | (go_at_call 11; refine (kgreat_any w1 (HL.out.keep F1.out)).mono ?_; rintro e w2 ⟨rfl, f2⟩; rw [hg0]; have F2 := Lib.hid (F1.out.trans0 f2); clear f2) | (go_at_call 12; refine (grown_any w2 (HL.out.keep F2.out) hg0).mono ?_; rintro e w3 ⟨p, V, rfl, g3, b3⟩; generalize grownG L = G at g3 b3; have G3 := Lib.hid g3; have B3 := Lib.hid b3; have F3 := Lib.hid (F2.out.trans0 g3.fr); clear g3 b3) | (go_at_call 13; refine (all_K G3.out (by decide)).mono ?_; rintro e w4 ⟨v4, rfl, o4⟩; have G4 := Lib.hid (G3.out.fr0 o4.2); have O4 := Lib.hid (o4.is G3.out.okId); have F4 := Lib.hid (F3.out.trans0 o4.2); obtain ⟨a4, c4, rfl⟩ := O4.out.2.form; clear o4))
  have hn80 : (ids G).length ≤ 80 := by have := G4.out.len; simpa [ids] using this
  clear G3 B3 HL F1 F2 F3 zh
  have UB := Lib.hid (show ∀ x, (upS G [x]).length ≤ 80 from fun x => by have := up_len (G := G) [x]; have := G4.out.len; omega)
  have DB := Lib.hid (show ∀ x, (downS G [x]).length ≤ 80 from fun x => by have := down_len (G := G) [x]; have := G4.out.len; omega)
  go_loopw [22] (fun i wr => ∃ n : Nat, n ≤ (ids G).length ∧ i = .int .i64 n ∧ Fr No w4 wr) (fun i _ => (ids G).length - (intOf i).toNat)
  case atStart => exact ⟨0, Nat.zero_le _, rfl, Fr.refl _ _⟩
  case round =>
    obtain ⟨n, hn, rfl, fr⟩ := hrel
    have FR := Lib.hid fr
    clear fr
    by_cases h : n < (ids G).length
    · obtain ⟨x, hx⟩ : ∃ x, (ids G)[n]? = some x := ⟨_, List.getElem?_eq_getElem h⟩
      obtain ⟨b, off, cap, hv, hr, -⟩ := (O4.out.keep FR.out).at_ hx
      cases hv
      have i1 : (n : Int) < ((ids G).length : Int) := by omega
      have XOK := Lib.hid (G4.out.okId x (List.mem_of_getElem? hx))
      have XL := Lib.hid (hashC_len XOK.out)
      have R1 := Lib.hid hr
      have RN := Lib.hid (range_new wr (hashC x) 30)
      have fa := (Fr.refl No wr).alloc (.cells (hashC x).toArray 30)
      have FA := Lib.hid (FR.out.trans0 fa)
      have G5 := Lib.hid (G4.out.fr0 (FR.out.trans0 fa))
      clear hx hr fa
      go_wp2_with (first | ((with_reducible refine at_dst 25 ?_); refine wpList_vG rfl (exec_load (ty := 30) rfl rfl R1.out uK rK (by rw [XL.out]; exact infoHash)) ?_) | ((with_reducible refine at_store ?_); refine wpList_done rfl (exec_store_new (w := wr) (ty := 30) (cs := hashC x) rfl rfl rfl (by rw [XL.out]; rfl) (by rw [XL.out]; exact infoHash) hashC_one) ?_; generalize wr.alloc (.cells (hashC x).toArray 30) = w5 at *; generalize wr.heap.size = q5 at *) | ((with_reducible refine at_dst 27 ?_); refine wpList_vG rfl (exec_load (ty := 30) rfl rfl RN.out uK rK (by rw [XL.out]; exact infoHash)) ?_) | ((with_reducible refine at_dst 28 ?_); refine wpList_vG rfl (exec_buildSliceA (t := 27) rfl rfl undIds infoHashZ2 rfl (by decide) (by decide) XL.out) ?_) | (go_at_call 14; refine (up_K (G5.out.fr0 ((Fr.refl No w5).alloc (.cells (hashC x).toArray 30))) (by decide) (ids_new1 w5 XOK.out) (by simp)).mono ?_; rintro e w6 ⟨v6, rfl, o6⟩; have U6 := Lib.hid (o6.is (G5.out.okUp _)); have fz := ((Fr.refl No w5).alloc (.cells (hashC x).toArray 30)).trans0 o6.2; have F6 := Lib.hid (FA.out.trans0 fz); have RN6 := Lib.hid (range_keep RN.out fz id); have G6 := Lib.hid (G5.out.fr0 fz); clear fz o6 RN G5))
      have O6 := Lib.hid (O4.out.keep F6.out)
      clear R1 FA
      go_loopw [32] (fun i wr => ∃ m : Nat, m ≤ (ids G).length ∧ i = .int .i64 m ∧ Fr No w6 wr) (fun i _ => (ids G).length - (intOf i).toNat)
      case atStart => exact ⟨0, Nat.zero_le _, rfl, Fr.refl _ _⟩
      case round =>
        obtain ⟨m, hm, rfl, fr⟩ := hrel
        have FQ := Lib.hid fr
        clear fr
        by_cases hlt : m < (ids G).length
        · obtain ⟨y, hy⟩ : ∃ y, (ids G)[m]? = some y := ⟨_, List.getElem?_eq_getElem hlt⟩
          obtain ⟨b2, off2, cap2, hv, hr, -⟩ := (O6.out.keep FQ.out).at_ hy
          cases hv
          have i2 : (m : Int) < ((ids G).length : Int) := by omega
          have YOK := Lib.hid (G4.out.okId y (List.mem_of_getElem? hy))
          have YL := Lib.hid (hashC_len YOK.out)
          have R2 := Lib.hid hr
          have fa := FQ.out.alloc (.cells (hashC y).toArray 30)
          have M := Lib.hid (show MirAt w2 w6 (wr.alloc (.cells (hashC y).toArray 30)) p V G 80 v6 (upS G [x]) q5 wr.heap.size x y from ⟨G6.out.fr0 fa, U6.out.keep fa, range_keep RN6.out fa id, range_new wr (hashC y) 30, fa⟩)
          have UL := Lib.hid (UB.out x)
          have DL := Lib.hid (DB.out y)
          have UY := Lib.hid (UB.out y)
          clear hy hr fa FQ G6 U6 RN6 G4 O4 O6 UB DB
          go_upto_region 14 with (first | ((with_reducible refine at_dst 35 ?_); refine wpList_vG rfl (exec_load (ty := 30) rfl rfl R2.out uK rK (by rw [YL.out]; exact infoHash)) ?_) | ((with_reducible refine at_store ?_); refine wpList_done rfl (exec_store_new (w := wr) (ty := 30) (cs := hashC y) rfl rfl rfl (by rw [YL.out]; rfl) (by rw [YL.out]; exact infoHash) hashC_one) ?_; generalize wr.alloc (.cells (hashC y).toArray 30) = w7 at *; generalize wr.heap.size = q7 at *))
          by_cases hy : y ∈ upS G [x]
          · have B1 := Lib.hid (show true = true ↔ y ∈ upS G [x] by simp [hy])
            have B2 := Lib.hid (show true = true ↔ x ∈ downS G [y] by rw [← up_down_iff]; simp [hy])
            have HY := Lib.hid hy
            clear hy
            refine wp_region_lexT 10 [0, 1, 2, 3, 4, 5, 6, 7, 8, 9] (fun w' => w'.rangeAt q5 0 (hashC x) ∧ w'.rangeAt q7 0 (hashC y)) (by kernel_rfl) (by kernel_rfl) (by kernel_rfl) (by kernel_rfl) ?_ (fun K hK => ?_)
            · exact (M.out.keep (Fr.refl No _).drew).s
            replace M := Lib.hid (M.out.keep (Fr.refl No w7).drew)
            generalize w7.drew = k0 at *
            (((first | (refine lexT_rd 0 (by kernel_rfl) rfl rfl ?_; apply Exists.intro; refine ⟨?_, ?_⟩; (focus (first | exact lex_load (ty := 30) rfl (fun w h => h.1) uK rK (by rw [XL.out]; exact infoHash) | exact lex_load (ty := 30) rfl (fun w h => h.2) uK rK (by rw [YL.out]; exact infoHash) | (intro w' hS; obtain ⟨s1, s2⟩ := hS; go_simp; (try with_reducible rfl); done)))) | (refine lexT_sk 0 (by kernel_rfl) rfl rfl ?_)); try simp only [Act.put, List.setIfInBounds_toArray, List.set_cons_zero, List.set_cons_succ]); ((first | (refine lexT_rd 1 (by kernel_rfl) rfl rfl ?_; apply Exists.intro; refine ⟨?_, ?_⟩; (focus (first | exact lex_load (ty := 30) rfl (fun w h => h.1) uK rK (by rw [XL.out]; exact infoHash) | exact lex_load (ty := 30) rfl (fun w h => h.2) uK rK (by rw [YL.out]; exact infoHash) | (intro w' hS; obtain ⟨s1, s2⟩ := hS; go_simp; (try with_reducible rfl); done)))) | (refine lexT_sk 1 (by kernel_rfl) rfl rfl ?_)); try simp only [Act.put, List.setIfInBounds_toArray, List.set_cons_zero, List.set_cons_succ]); ((first | (refine lexT_rd 3 (by kernel_rfl) rfl rfl ?_; apply Exists.intro; refine ⟨?_, ?_⟩; (focus (first | exact lex_load (ty := 30) rfl (fun w h => h.1) uK rK (by rw [XL.out]; exact infoHash) | exact lex_load (ty := 30) rfl (fun w h => h.2) uK rK (by rw [YL.out]; exact infoHash) | (intro w' hS; obtain ⟨s1, s2⟩ := hS; go_simp; (try with_reducible rfl); done)))) | (refine lexT_sk 3 (by kernel_rfl) rfl rfl ?_)); try simp only [Act.put, List.setIfInBounds_toArray, List.set_cons_zero, List.set_cons_succ]); ((first | (refine lexT_rd 4 (by kernel_rfl) rfl rfl ?_; apply Exists.intro; refine ⟨?_, ?_⟩; (focus (first | exact lex_load (ty := 30) rfl (fun w h => h.1) uK rK (by rw [XL.out]; exact infoHash) | exact lex_load (ty := 30) rfl (fun w h => h.2) uK rK (by rw [YL.out]; exact infoHash) | (intro w' hS; obtain ⟨s1, s2⟩ := hS; go_simp; (try with_reducible rfl); done)))) | (refine lexT_sk 4 (by kernel_rfl) rfl rfl ?_)); try simp only [Act.put, List.setIfInBounds_toArray, List.set_cons_zero, List.set_cons_succ]); ((first | (refine lexT_rd 7 (by kernel_rfl) rfl rfl ?_; apply Exists.intro; refine ⟨?_, ?_⟩; (focus (first | exact lex_load (ty := 30) rfl (fun w h => h.1) uK rK (by rw [XL.out]; exact infoHash) | exact lex_load (ty := 30) rfl (fun w h => h.2) uK rK (by rw [YL.out]; exact infoHash) | (intro w' hS; obtain ⟨s1, s2⟩ := hS; go_simp; (try with_reducible rfl); done)))) | (refine lexT_sk 7 (by kernel_rfl) rfl rfl ?_)); try simp only [Act.put, List.setIfInBounds_toArray, List.set_cons_zero, List.set_cons_succ]))
            refine lexT_ef2 2 5 (by kernel_rfl) rfl rfl rfl rfl (fun K' hK' => ?_) (fun K' hK' => ?_)
            · go_simp
              refine (has_b M.out.up (by have := UL.out; omega) YOK.out B1.out).mono ?_
              rintro e k1 ⟨rfl, f0⟩
              have f := Lib.hid f0
              (try replace U1 := Lib.hid (U1.out.keep f.out))
              (try replace U2 := Lib.hid (U2.out.keep f.out))
              (try replace H1 := Lib.hid (H1.out.keep f.out))
              (try replace H2 := Lib.hid (H2.out.keep f.out))
              (try replace FA := Lib.hid (FA.out.trans0 f.out))
              replace M := Lib.hid (M.out.keep f.out)
              clear f f0 
              refine hK'.out _ _ ?_ (fun hS => ?_)
              · exact M.out.s
              try simp only [Act.put, List.setIfInBounds_toArray, List.set_cons_zero, List.set_cons_succ]
              clear hS hK' K'
              refine lexT_ef1 5 (by kernel_rfl) rfl rfl (fun K' hK' => ?_)
              refine wp_value (exec_buildSliceA (t := 27) rfl rfl undIds infoHashZ2 rfl (by decide) (by decide) YL.out) ?_
              have f := Lib.hid ((Fr.refl No k1).alloc (.cells (hashC y).toArray 30))
              (try replace U1 := Lib.hid (U1.out.keep f.out))
              (try replace U2 := Lib.hid (U2.out.keep f.out))
              (try replace H2 := Lib.hid (H2.out.keep f.out))
              (try replace FA := Lib.hid (FA.out.trans0 f.out))
              have H1 := Lib.hid (ids_new1 k1 YOK.out)
              replace M := Lib.hid (M.out.keep f.out)
              clear f
              refine hK'.out _ _ ?_ (fun hS => ?_)
              · exact M.out.s
              try simp only [Act.put, List.setIfInBounds_toArray, List.set_cons_zero, List.set_cons_succ]
              clear hS hK' K'
              generalize k1.alloc (.cells (hashC y).toArray 30) = k2 at *
              generalize k1.heap.size = q3 at *
              refine lexT_ef1 6 (by kernel_rfl) rfl rfl (fun K' hK' => ?_)
              go_simp
              refine (down_K M.out.gc (by decide) H1.out (by simp)).mono ?_
              rintro e k4 ⟨vvU1, rfl, o⟩
              have f := Lib.hid o.2
              (try replace U2 := Lib.hid (U2.out.keep f.out))
              (try replace H2 := Lib.hid (H2.out.keep f.out))
              (try replace FA := Lib.hid (FA.out.trans0 f.out))
              have U1 := Lib.hid (o.is (M.out.gc.okDown _))
              replace M := Lib.hid (M.out.keep f.out)
              clear f o H1
              refine hK'.out _ _ ?_ (fun hS => ?_)
              · exact M.out.s
              try simp only [Act.put, List.setIfInBounds_toArray, List.set_cons_zero, List.set_cons_succ]
              clear hS hK' K'
              refine lexT_ef1 8 (by kernel_rfl) rfl rfl (fun K' hK' => ?_)
              go_simp
              refine (has_b U1.out (by have := DL.out; omega) XOK.out B2.out).mono ?_
              rintro e k5 ⟨rfl, f0⟩
              have f := Lib.hid f0
              (try replace U2 := Lib.hid (U2.out.keep f.out))
              (try replace H1 := Lib.hid (H1.out.keep f.out))
              (try replace H2 := Lib.hid (H2.out.keep f.out))
              (try replace FA := Lib.hid (FA.out.trans0 f.out))
              replace M := Lib.hid (M.out.keep f.out)
              clear f f0 U1
              refine hK'.out _ _ ?_ (fun hS => ?_)
              · exact M.out.s
              try simp only [Act.put, List.setIfInBounds_toArray, List.set_cons_zero, List.set_cons_succ]
              clear hS hK' K'
              (((first | (refine lexT_rd 9 (by kernel_rfl) rfl rfl ?_; apply Exists.intro; refine ⟨?_, ?_⟩; (focus (first | exact lex_load (ty := 30) rfl (fun w h => h.1) uK rK (by rw [XL.out]; exact infoHash) | exact lex_load (ty := 30) rfl (fun w h => h.2) uK rK (by rw [YL.out]; exact infoHash) | (intro w' hS; obtain ⟨s1, s2⟩ := hS; go_simp; (try with_reducible rfl); done)))) | (refine lexT_sk 9 (by kernel_rfl) rfl rfl ?_)); try simp only [Act.put, List.setIfInBounds_toArray, List.set_cons_zero, List.set_cons_succ]))
              refine lexT_nil (hK.out _ _ ?_)
              clear hK
              go_wp2_with (first | ((with_reducible refine at_dst 47 ?_); refine wpList_vG rfl (exec_load (ty := 30) rfl rfl M.out.ry uK rK (by rw [YL.out]; exact infoHash)) ?_) | (go_at_call 15; refine (has_b M.out.up (by have := UL.out; omega) YOK.out B1.out).mono ?_; rintro e w8 ⟨rfl, f8⟩; have M8 := Lib.hid (M.out.keep f8); clear f8 B1) | ((with_reducible refine at_dst 50 ?_); refine wpList_vG rfl (exec_load (ty := 30) rfl rfl M8.out.ry uK rK (by rw [YL.out]; exact infoHash)) ?_) | ((with_reducible refine at_dst 51 ?_); refine wpList_vG rfl (exec_buildSliceA (t := 27) rfl rfl undIds infoHashZ2 rfl (by decide) (by decide) YL.out) ?_) | (go_at_call 14; refine (up_K (M8.out.gc.fr0 ((Fr.refl No w8).alloc (.cells (hashC y).toArray 30))) (by decide) (ids_new1 w8 YOK.out) (by simp)).mono ?_; rintro e w9 ⟨v9, rfl, o9⟩; have U9 := Lib.hid (o9.is (M8.out.gc.okUp _)); have M9 := Lib.hid (M8.out.keep (((Fr.refl No w8).alloc (.cells (hashC y).toArray 30)).trans0 o9.2)); obtain ⟨a9, c9, rfl⟩ := U9.out.2.form; clear o9 M8))
              go_loopw [54] (fun i wr => ∃ k : Nat, k ≤ (upS G [y]).length ∧ i = .int .i64 k ∧ Fr No w9 wr) (fun i _ => (upS G [y]).length - (intOf i).toNat)
              case atStart => exact ⟨0, Nat.zero_le _, rfl, Fr.refl _ _⟩
              case round =>
                obtain ⟨k, hk, rfl, fr⟩ := hrel
                have FZ := Lib.hid fr
                clear fr
                have hk80 : (upS G [y]).length ≤ 80 := UY.out
                by_cases hkt : k < (upS G [y]).length
                · obtain ⟨z, hz⟩ : ∃ z, (upS G [y])[k]? = some z := ⟨_, List.getElem?_eq_getElem hkt⟩
                  obtain ⟨b3, off3, cap3, hv, hr, -⟩ := (U9.out.keep FZ.out).at_ hz
                  cases hv
                  have i3 : (k : Int) < ((upS G [y]).length : Int) := by omega
                  have ZOK := Lib.hid (M9.out.gc.okUp [y] z (List.mem_of_getElem? hz))
                  have ZL := Lib.hid (hashC_len ZOK.out)
                  have R3 := Lib.hid hr
                  have RZ := Lib.hid (range_new wr (hashC z) 30)
                  have fa := FZ.out.alloc (.cells (hashC z).toArray 30)
                  have MZ := Lib.hid (M9.out.keep fa)
                  have BZ := Lib.hid (show true = true ↔ z ∈ upS G [x] by simp only [true_iff]; exact up_thru HY.out (List.mem_of_getElem? hz))
                  have FY := Lib.hid fa
                  clear hz hr fa
                  go_wp2_with (first | ((with_reducible refine at_dst 57 ?_); refine wpList_vG rfl (exec_load (ty := 30) rfl rfl R3.out uK rK (by rw [ZL.out]; exact infoHash)) ?_) | ((with_reducible refine at_store ?_); refine wpList_done rfl (exec_store_new (w := wr) (ty := 30) (cs := hashC z) rfl rfl rfl (by rw [ZL.out]; rfl) (by rw [ZL.out]; exact infoHash) hashC_one) ?_; generalize wr.alloc (.cells (hashC z).toArray 30) = w10 at *; generalize wr.heap.size = q10 at *) | ((with_reducible refine at_dst 59 ?_); refine wpList_vG rfl (exec_load (ty := 30) rfl rfl RZ.out uK rK (by rw [ZL.out]; exact infoHash)) ?_) | (go_at_call 15; refine (has_b MZ.out.up (by have := UL.out; omega) ZOK.out BZ.out).mono ?_; rintro e w11 ⟨rfl, f11⟩; have FX := Lib.hid (FY.out.trans0 f11); clear f11))
                  go_roundw
                  case rel => exact ⟨k + 1, by omega, by go_num, FX.out⟩
                  case measure => simp [intOf]; omega
                · have i3 : ¬ (k : Int) < ((upS G [y]).length : Int) := by omega
                  go_wp2
                  go_roundw
                  case rel => exact ⟨m + 1, by omega, by go_num, M9.out.f.trans0 FZ.out⟩
                  case measure => simp [intOf]; omega
            · refine wp_value (exec_buildSliceA (t := 27) rfl rfl undIds infoHashZ2 rfl (by decide) (by decide) YL.out) ?_
              have f := Lib.hid ((Fr.refl No k0).alloc (.cells (hashC y).toArray 30))
              (try replace U1 := Lib.hid (U1.out.keep f.out))
              (try replace U2 := Lib.hid (U2.out.keep f.out))
              (try replace H2 := Lib.hid (H2.out.keep f.out))
              (try replace FA := Lib.hid (FA.out.trans0 f.out))
              have H1 := Lib.hid (ids_new1 k0 YOK.out)
              replace M := Lib.hid (M.out.keep f.out)
              clear f
              refine hK'.out _ _ ?_ (fun hS => ?_)
              · exact M.out.s
              try simp only [Act.put, List.setIfInBounds_toArray, List.set_cons_zero, List.set_cons_succ]
              clear hS hK' K'
              generalize k0.alloc (.cells (hashC y).toArray 30) = k6 at *
              generalize k0.heap.size = q7 at *
              refine lexT_ef1 2 (by kernel_rfl) rfl rfl (fun K' hK' => ?_)
              go_simp
              refine (has_b M.out.up (by have := UL.out; omega) YOK.out B1.out).mono ?_
              rintro e k8 ⟨rfl, f0⟩
              have f := Lib.hid f0
              (try replace U1 := Lib.hid (U1.out.keep f.out))
              (try replace U2 := Lib.hid (U2.out.keep f.out))
              (try replace H1 := Lib.hid (H1.out.keep f.out))
              (try replace H2 := Lib.hid (H2.out.keep f.out))
              (try replace FA := Lib.hid (FA.out.trans0 f.out))
              replace M := Lib.hid (M.out.keep f.out)
              clear f f0 
              refine hK'.out _ _ ?_ (fun hS => ?_)
              · exact M.out.s
              try simp only [Act.put, List.setIfInBounds_toArray, List.set_cons_zero, List.set_cons_succ]
              clear hS hK' K'
              refine lexT_ef1 6 (by kernel_rfl) rfl rfl (fun K' hK' => ?_)
              go_simp
              refine (down_K M.out.gc (by decide) H1.out (by simp)).mono ?_
              rintro e k9 ⟨vvU1, rfl, o⟩
              have f := Lib.hid o.2
              (try replace U2 := Lib.hid (U2.out.keep f.out))
              (try replace H2 := Lib.hid (H2.out.keep f.out))
              (try replace FA := Lib.hid (FA.out.trans0 f.out))
              have U1 := Lib.hid (o.is (M.out.gc.okDown _))
              replace M := Lib.hid (M.out.keep f.out)
              clear f o H1
              refine hK'.out _ _ ?_ (fun hS => ?_)
              · exact M.out.s
              try simp only [Act.put, List.setIfInBounds_toArray, List.set_cons_zero, List.set_cons_succ]
              clear hS hK' K'
              refine lexT_ef1 8 (by kernel_rfl) rfl rfl (fun K' hK' => ?_)
              go_simp
              refine (has_b U1.out (by have := DL.out; omega) XOK.out B2.out).mono ?_
              rintro e k10 ⟨rfl, f0⟩
              have f := Lib.hid f0
              (try replace U2 := Lib.hid (U2.out.keep f.out))
              (try replace H1 := Lib.hid (H1.out.keep f.out))
              (try replace H2 := Lib.hid (H2.out.keep f.out))
              (try replace FA := Lib.hid (FA.out.trans0 f.out))
              replace M := Lib.hid (M.out.keep f.out)
              clear f f0 U1
              refine hK'.out _ _ ?_ (fun hS => ?_)
              · exact M.out.s
              try simp only [Act.put, List.setIfInBounds_toArray, List.set_cons_zero, List.set_cons_succ]
              clear hS hK' K'
              (((first | (refine lexT_rd 9 (by kernel_rfl) rfl rfl ?_; apply Exists.intro; refine ⟨?_, ?_⟩; (focus (first | exact lex_load (ty := 30) rfl (fun w h => h.1) uK rK (by rw [XL.out]; exact infoHash) | exact lex_load (ty := 30) rfl (fun w h => h.2) uK rK (by rw [YL.out]; exact infoHash) | (intro w' hS; obtain ⟨s1, s2⟩ := hS; go_simp; (try with_reducible rfl); done)))) | (refine lexT_sk 9 (by kernel_rfl) rfl rfl ?_)); try simp only [Act.put, List.setIfInBounds_toArray, List.set_cons_zero, List.set_cons_succ]))
              refine lexT_nil (hK.out _ _ ?_)
              clear hK
              go_wp2_with (first | ((with_reducible refine at_dst 47 ?_); refine wpList_vG rfl (exec_load (ty := 30) rfl rfl M.out.ry uK rK (by rw [YL.out]; exact infoHash)) ?_) | (go_at_call 15; refine (has_b M.out.up (by have := UL.out; omega) YOK.out B1.out).mono ?_; rintro e w8 ⟨rfl, f8⟩; have M8 := Lib.hid (M.out.keep f8); clear f8 B1) | ((with_reducible refine at_dst 50 ?_); refine wpList_vG rfl (exec_load (ty := 30) rfl rfl M8.out.ry uK rK (by rw [YL.out]; exact infoHash)) ?_) | ((with_reducible refine at_dst 51 ?_); refine wpList_vG rfl (exec_buildSliceA (t := 27) rfl rfl undIds infoHashZ2 rfl (by decide) (by decide) YL.out) ?_) | (go_at_call 14; refine (up_K (M8.out.gc.fr0 ((Fr.refl No w8).alloc (.cells (hashC y).toArray 30))) (by decide) (ids_new1 w8 YOK.out) (by simp)).mono ?_; rintro e w9 ⟨v9, rfl, o9⟩; have U9 := Lib.hid (o9.is (M8.out.gc.okUp _)); have M9 := Lib.hid (M8.out.keep (((Fr.refl No w8).alloc (.cells (hashC y).toArray 30)).trans0 o9.2)); obtain ⟨a9, c9, rfl⟩ := U9.out.2.form; clear o9 M8))
              go_loopw [54] (fun i wr => ∃ k : Nat, k ≤ (upS G [y]).length ∧ i = .int .i64 k ∧ Fr No w9 wr) (fun i _ => (upS G [y]).length - (intOf i).toNat)
              case atStart => exact ⟨0, Nat.zero_le _, rfl, Fr.refl _ _⟩
              case round =>
                obtain ⟨k, hk, rfl, fr⟩ := hrel
                have FZ := Lib.hid fr
                clear fr
                have hk80 : (upS G [y]).length ≤ 80 := UY.out
                by_cases hkt : k < (upS G [y]).length
                · obtain ⟨z, hz⟩ : ∃ z, (upS G [y])[k]? = some z := ⟨_, List.getElem?_eq_getElem hkt⟩
                  obtain ⟨b3, off3, cap3, hv, hr, -⟩ := (U9.out.keep FZ.out).at_ hz
                  cases hv
                  have i3 : (k : Int) < ((upS G [y]).length : Int) := by omega
                  have ZOK := Lib.hid (M9.out.gc.okUp [y] z (List.mem_of_getElem? hz))
                  have ZL := Lib.hid (hashC_len ZOK.out)
                  have R3 := Lib.hid hr
                  have RZ := Lib.hid (range_new wr (hashC z) 30)
                  have fa := FZ.out.alloc (.cells (hashC z).toArray 30)
                  have MZ := Lib.hid (M9.out.keep fa)
                  have BZ := Lib.hid (show true = true ↔ z ∈ upS G [x] by simp only [true_iff]; exact up_thru HY.out (List.mem_of_getElem? hz))
                  have FY := Lib.hid fa
                  clear hz hr fa
                  go_wp2_with (first | ((with_reducible refine at_dst 57 ?_); refine wpList_vG rfl (exec_load (ty := 30) rfl rfl R3.out uK rK (by rw [ZL.out]; exact infoHash)) ?_) | ((with_reducible refine at_store ?_); refine wpList_done rfl (exec_store_new (w := wr) (ty := 30) (cs := hashC z) rfl rfl rfl (by rw [ZL.out]; rfl) (by rw [ZL.out]; exact infoHash) hashC_one) ?_; generalize wr.alloc (.cells (hashC z).toArray 30) = w10 at *; generalize wr.heap.size = q10 at *) | ((with_reducible refine at_dst 59 ?_); refine wpList_vG rfl (exec_load (ty := 30) rfl rfl RZ.out uK rK (by rw [ZL.out]; exact infoHash)) ?_) | (go_at_call 15; refine (has_b MZ.out.up (by have := UL.out; omega) ZOK.out BZ.out).mono ?_; rintro e w11 ⟨rfl, f11⟩; have FX := Lib.hid (FY.out.trans0 f11); clear f11))
                  go_roundw
                  case rel => exact ⟨k + 1, by omega, by go_num, FX.out⟩
                  case measure => simp [intOf]; omega
                · have i3 : ¬ (k : Int) < ((upS G [y]).length : Int) := by omega
                  go_wp2
                  go_roundw
                  case rel => exact ⟨m + 1, by omega, by go_num, M9.out.f.trans0 FZ.out⟩
                  case measure => simp [intOf]; omega
          · have B1 := Lib.hid (show false = true ↔ y ∈ upS G [x] by simp [hy])
            have B2 := Lib.hid (show false = true ↔ x ∈ downS G [y] by rw [← up_down_iff]; simp [hy])
            have HY := Lib.hid hy
            clear hy
            refine wp_region_lexT 10 [0, 1, 2, 3, 4, 5, 6, 7, 8, 9] (fun w' => w'.rangeAt q5 0 (hashC x) ∧ w'.rangeAt q7 0 (hashC y)) (by kernel_rfl) (by kernel_rfl) (by kernel_rfl) (by kernel_rfl) ?_ (fun K hK => ?_)
            · exact (M.out.keep (Fr.refl No _).drew).s
            replace M := Lib.hid (M.out.keep (Fr.refl No w7).drew)
            generalize w7.drew = k0 at *
            (((first | (refine lexT_rd 0 (by kernel_rfl) rfl rfl ?_; apply Exists.intro; refine ⟨?_, ?_⟩; (focus (first | exact lex_load (ty := 30) rfl (fun w h => h.1) uK rK (by rw [XL.out]; exact infoHash) | exact lex_load (ty := 30) rfl (fun w h => h.2) uK rK (by rw [YL.out]; exact infoHash) | (intro w' hS; obtain ⟨s1, s2⟩ := hS; go_simp; (try with_reducible rfl); done)))) | (refine lexT_sk 0 (by kernel_rfl) rfl rfl ?_)); try simp only [Act.put, List.setIfInBounds_toArray, List.set_cons_zero, List.set_cons_succ]); ((first | (refine lexT_rd 1 (by kernel_rfl) rfl rfl ?_; apply Exists.intro; refine ⟨?_, ?_⟩; (focus (first | exact lex_load (ty := 30) rfl (fun w h => h.1) uK rK (by rw [XL.out]; exact infoHash) | exact lex_load (ty := 30) rfl (fun w h => h.2) uK rK (by rw [YL.out]; exact infoHash) | (intro w' hS; obtain ⟨s1, s2⟩ := hS; go_simp; (try with_reducible rfl); done)))) | (refine lexT_sk 1 (by kernel_rfl) rfl rfl ?_)); try simp only [Act.put, List.setIfInBounds_toArray, List.set_cons_zero, List.set_cons_succ]); ((first | (refine lexT_rd 3 (by kernel_rfl) rfl rfl ?_; apply Exists.intro; refine ⟨?_, ?_⟩; (focus (first | exact lex_load (ty := 30) rfl (fun w h => h.1) uK rK (by rw [XL.out]; exact infoHash) | exact lex_load (ty := 30) rfl (fun w h => h.2) uK rK (by rw [YL.out]; exact infoHash) | (intro w' hS; obtain ⟨s1, s2⟩ := hS; go_simp; (try with_reducible rfl); done)))) | (refine lexT_sk 3 (by kernel_rfl) rfl rfl ?_)); try simp only [Act.put, List.setIfInBounds_toArray, List.set_cons_zero, List.set_cons_succ]); ((first | (refine lexT_rd 4 (by kernel_rfl) rfl rfl ?_; apply Exists.intro; refine ⟨?_, ?_⟩; (focus (first | exact lex_load (ty := 30) rfl (fun w h => h.1) uK rK (by rw [XL.out]; exact infoHash) | exact lex_load (ty := 30) rfl (fun w h => h.2) uK rK (by rw [YL.out]; exact infoHash) | (intro w' hS; obtain ⟨s1, s2⟩ := hS; go_simp; (try with_reducible rfl); done)))) | (refine lexT_sk 4 (by kernel_rfl) rfl rfl ?_)); try simp only [Act.put, List.setIfInBounds_toArray, List.set_cons_zero, List.set_cons_succ]); ((first | (refine lexT_rd 7 (by kernel_rfl) rfl rfl ?_; apply Exists.intro; refine ⟨?_, ?_⟩; (focus (first | exact lex_load (ty := 30) rfl (fun w h => h.1) uK rK (by rw [XL.out]; exact infoHash) | exact lex_load (ty := 30) rfl (fun w h => h.2) uK rK (by rw [YL.out]; exact infoHash) | (intro w' hS; obtain ⟨s1, s2⟩ := hS; go_simp; (try with_reducible rfl); done)))) | (refine lexT_sk 7 (by kernel_rfl) rfl rfl ?_)); try simp only [Act.put, List.setIfInBounds_toArray, List.set_cons_zero, List.set_cons_succ]))
            refine lexT_ef2 2 5 (by kernel_rfl) rfl rfl rfl rfl (fun K' hK' => ?_) (fun K' hK' => ?_)
            · go_simp
              refine (has_b M.out.up (by have := UL.out; omega) YOK.out B1.out).mono ?_
              rintro e k1 ⟨rfl, f0⟩
              have f := Lib.hid f0
              (try replace U1 := Lib.hid (U1.out.keep f.out))
              (try replace U2 := Lib.hid (U2.out.keep f.out))
              (try replace H1 := Lib.hid (H1.out.keep f.out))
              (try replace H2 := Lib.hid (H2.out.keep f.out))
              (try replace FA := Lib.hid (FA.out.trans0 f.out))
              replace M := Lib.hid (M.out.keep f.out)
              clear f f0 
              refine hK'.out _ _ ?_ (fun hS => ?_)
              · exact M.out.s
              try simp only [Act.put, List.setIfInBounds_toArray, List.set_cons_zero, List.set_cons_succ]
              clear hS hK' K'
              refine lexT_ef1 5 (by kernel_rfl) rfl rfl (fun K' hK' => ?_)
              refine wp_value (exec_buildSliceA (t := 27) rfl rfl undIds infoHashZ2 rfl (by decide) (by decide) YL.out) ?_
              have f := Lib.hid ((Fr.refl No k1).alloc (.cells (hashC y).toArray 30))
              (try replace U1 := Lib.hid (U1.out.keep f.out))
              (try replace U2 := Lib.hid (U2.out.keep f.out))
              (try replace H2 := Lib.hid (H2.out.keep f.out))
              (try replace FA := Lib.hid (FA.out.trans0 f.out))
              have H1 := Lib.hid (ids_new1 k1 YOK.out)
              replace M := Lib.hid (M.out.keep f.out)
              clear f
              refine hK'.out _ _ ?_ (fun hS => ?_)
              · exact M.out.s
              try simp only [Act.put, List.setIfInBounds_toArray, List.set_cons_zero, List.set_cons_succ]
              clear hS hK' K'
              generalize k1.alloc (.cells (hashC y).toArray 30) = k2 at *
              generalize k1.heap.size = q3 at *
              refine lexT_ef1 6 (by kernel_rfl) rfl rfl (fun K' hK' => ?_)
              go_simp
              refine (down_K M.out.gc (by decide) H1.out (by simp)).mono ?_
              rintro e k4 ⟨vvU1, rfl, o⟩
              have f := Lib.hid o.2
              (try replace U2 := Lib.hid (U2.out.keep f.out))
              (try replace H2 := Lib.hid (H2.out.keep f.out))
              (try replace FA := Lib.hid (FA.out.trans0 f.out))
              have U1 := Lib.hid (o.is (M.out.gc.okDown _))
              replace M := Lib.hid (M.out.keep f.out)
              clear f o H1
              refine hK'.out _ _ ?_ (fun hS => ?_)
              · exact M.out.s
              try simp only [Act.put, List.setIfInBounds_toArray, List.set_cons_zero, List.set_cons_succ]
              clear hS hK' K'
              refine lexT_ef1 8 (by kernel_rfl) rfl rfl (fun K' hK' => ?_)
              go_simp
              refine (has_b U1.out (by have := DL.out; omega) XOK.out B2.out).mono ?_
              rintro e k5 ⟨rfl, f0⟩
              have f := Lib.hid f0
              (try replace U2 := Lib.hid (U2.out.keep f.out))
              (try replace H1 := Lib.hid (H1.out.keep f.out))
              (try replace H2 := Lib.hid (H2.out.keep f.out))
              (try replace FA := Lib.hid (FA.out.trans0 f.out))
              replace M := Lib.hid (M.out.keep f.out)
              clear f f0 U1
              refine hK'.out _ _ ?_ (fun hS => ?_)
              · exact M.out.s
              try simp only [Act.put, List.setIfInBounds_toArray, List.set_cons_zero, List.set_cons_succ]
              clear hS hK' K'
              (((first | (refine lexT_rd 9 (by kernel_rfl) rfl rfl ?_; apply Exists.intro; refine ⟨?_, ?_⟩; (focus (first | exact lex_load (ty := 30) rfl (fun w h => h.1) uK rK (by rw [XL.out]; exact infoHash) | exact lex_load (ty := 30) rfl (fun w h => h.2) uK rK (by rw [YL.out]; exact infoHash) | (intro w' hS; obtain ⟨s1, s2⟩ := hS; go_simp; (try with_reducible rfl); done)))) | (refine lexT_sk 9 (by kernel_rfl) rfl rfl ?_)); try simp only [Act.put, List.setIfInBounds_toArray, List.set_cons_zero, List.set_cons_succ]))
              refine lexT_nil (hK.out _ _ ?_)
              clear hK
              go_wp2_with (first | ((with_reducible refine at_dst 47 ?_); refine wpList_vG rfl (exec_load (ty := 30) rfl rfl M.out.ry uK rK (by rw [YL.out]; exact infoHash)) ?_) | (go_at_call 15; refine (has_b M.out.up (by have := UL.out; omega) YOK.out B1.out).mono ?_; rintro e w8 ⟨rfl, f8⟩; have M8 := Lib.hid (M.out.keep f8); clear f8 B1))
              go_roundw
              case rel => exact ⟨m + 1, by omega, by go_num, M8.out.f⟩
              case measure => simp [intOf]; omega
            · refine wp_value (exec_buildSliceA (t := 27) rfl rfl undIds infoHashZ2 rfl (by decide) (by decide) YL.out) ?_
              have f := Lib.hid ((Fr.refl No k0).alloc (.cells (hashC y).toArray 30))
              (try replace U1 := Lib.hid (U1.out.keep f.out))
              (try replace U2 := Lib.hid (U2.out.keep f.out))
              (try replace H2 := Lib.hid (H2.out.keep f.out))
              (try replace FA := Lib.hid (FA.out.trans0 f.out))
              have H1 := Lib.hid (ids_new1 k0 YOK.out)
              replace M := Lib.hid (M.out.keep f.out)
              clear f
              refine hK'.out _ _ ?_ (fun hS => ?_)
              · exact M.out.s
              try simp only [Act.put, List.setIfInBounds_toArray, List.set_cons_zero, List.set_cons_succ]
              clear hS hK' K'
              generalize k0.alloc (.cells (hashC y).toArray 30) = k6 at *
              generalize k0.heap.size = q7 at *
              refine lexT_ef1 2 (by kernel_rfl) rfl rfl (fun K' hK' => ?_)
              go_simp
              refine (has_b M.out.up (by have := UL.out; omega) YOK.out B1.out).mono ?_
              rintro e k8 ⟨rfl, f0⟩
              have f := Lib.hid f0
              (try replace U1 := Lib.hid (U1.out.keep f.out))
              (try replace U2 := Lib.hid (U2.out.keep f.out))
              (try replace H1 := Lib.hid (H1.out.keep f.out))
              (try replace H2 := Lib.hid (H2.out.keep f.out))
              (try replace FA := Lib.hid (FA.out.trans0 f.out))
              replace M := Lib.hid (M.out.keep f.out)
              clear f f0 
              refine hK'.out _ _ ?_ (fun hS => ?_)
              · exact M.out.s
              try simp only [Act.put, List.setIfInBounds_toArray, List.set_cons_zero, List.set_cons_succ]
              clear hS hK' K'
              refine lexT_ef1 6 (by kernel_rfl) rfl rfl (fun K' hK' => ?_)
              go_simp
              refine (down_K M.out.gc (by decide) H1.out (by simp)).mono ?_
              rintro e k9 ⟨vvU1, rfl, o⟩
              have f := Lib.hid o.2
              (try replace U2 := Lib.hid (U2.out.keep f.out))
              (try replace H2 := Lib.hid (H2.out.keep f.out))
              (try replace FA := Lib.hid (FA.out.trans0 f.out))
              have U1 := Lib.hid (o.is (M.out.gc.okDown _))
              replace M := Lib.hid (M.out.keep f.out)
              clear f o H1
              refine hK'.out _ _ ?_ (fun hS => ?_)
              · exact M.out.s
              try simp only [Act.put, List.setIfInBounds_toArray, List.set_cons_zero, List.set_cons_succ]
              clear hS hK' K'
              refine lexT_ef1 8 (by kernel_rfl) rfl rfl (fun K' hK' => ?_)
              go_simp
              refine (has_b U1.out (by have := DL.out; omega) XOK.out B2.out).mono ?_
              rintro e k10 ⟨rfl, f0⟩
              have f := Lib.hid f0
              (try replace U2 := Lib.hid (U2.out.keep f.out))
              (try replace H1 := Lib.hid (H1.out.keep f.out))
              (try replace H2 := Lib.hid (H2.out.keep f.out))
              (try replace FA := Lib.hid (FA.out.trans0 f.out))
              replace M := Lib.hid (M.out.keep f.out)
              clear f f0 U1
              refine hK'.out _ _ ?_ (fun hS => ?_)
              · exact M.out.s
              try simp only [Act.put, List.setIfInBounds_toArray, List.set_cons_zero, List.set_cons_succ]
              clear hS hK' K'
              (((first | (refine lexT_rd 9 (by kernel_rfl) rfl rfl ?_; apply Exists.intro; refine ⟨?_, ?_⟩; (focus (first | exact lex_load (ty := 30) rfl (fun w h => h.1) uK rK (by rw [XL.out]; exact infoHash) | exact lex_load (ty := 30) rfl (fun w h => h.2) uK rK (by rw [YL.out]; exact infoHash) | (intro w' hS; obtain ⟨s1, s2⟩ := hS; go_simp; (try with_reducible rfl); done)))) | (refine lexT_sk 9 (by kernel_rfl) rfl rfl ?_)); try simp only [Act.put, List.setIfInBounds_toArray, List.set_cons_zero, List.set_cons_succ]))
              refine lexT_nil (hK.out _ _ ?_)
              clear hK
              go_wp2_with (first | ((with_reducible refine at_dst 47 ?_); refine wpList_vG rfl (exec_load (ty := 30) rfl rfl M.out.ry uK rK (by rw [YL.out]; exact infoHash)) ?_) | (go_at_call 15; refine (has_b M.out.up (by have := UL.out; omega) YOK.out B1.out).mono ?_; rintro e w8 ⟨rfl, f8⟩; have M8 := Lib.hid (M.out.keep f8); clear f8 B1))
              go_roundw
              case rel => exact ⟨m + 1, by omega, by go_num, M8.out.f⟩
              case measure => simp [intOf]; omega
        · have i2 : ¬ (m : Int) < ((ids G).length : Int) := by omega
          go_wp2
          go_roundw
          case rel => exact ⟨n + 1, by omega, by go_num, F6.out.trans0 FQ.out⟩
          case measure => simp [intOf]; omega
    · have i1 : ¬ (n : Int) < ((ids G).length : Int) := by omega
      go_wp2
      go_ret
      exact ⟨rfl, F4.out.trans0 FR.out⟩
end Go.Proofs.Ytnjkpjcnmdgoeaa
