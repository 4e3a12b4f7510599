/- KinAdds: the walk (printed by gen_kin.py). -/
import Derived.Test.YtnjkpjcnmdgoeaaKinU
import Derived.Test.YtnjkpjcnmdgoeaaKinV
import Derived.Test.YtnjkpjcnmdgoeaaSeq
import Derived.Test.YtnjkpjcnmdgoeaaTree
import Derived.Deep.Cut
namespace Go.Proofs.Ytnjkpjcnmdgoeaa
open Go Go.RowKit Go.Maps Go.MapKept

/-- The graph, the id's cell. -/
structure AddC (w0 w2 w : World) (p : Nat) (V : Nat → Prop) (G : List NodeD) (q0 : Nat) (x : HashD) : Prop where
  g : GC w2 w p V G 81
  s : w.rangeAt q0 0 (hashC x)
  f : Fr No w0 w
theorem AddC.keep {w0 w2 w w' : World} {p : Nat} {V : Nat → Prop} {G : List NodeD} {q0 : Nat} {x : HashD} (h : AddC w0 w2 w p V G q0 x) (f : Fr No w w') : AddC w0 w2 w' p V G q0 x :=
  ⟨h.g.fr0 f, range_keep h.s f id, h.f.trans0 f⟩
/-- What a row of one's own may be written to without. -/
structure Away (w0 w2 : World) (V : Nat → Prop) (q0 : Nat) (v : Value) : Prop where
  a : ∀ j, v.ownBlock = some j → ¬ V j ∧ j ≠ q0 ∧ w2.heap.size ≤ j
  b : w0.heap.size ≤ w2.heap.size
theorem AddC.away {w0 w2 w w' : World} {p : Nat} {V : Nat → Prop} {G : List NodeD} {q0 : Nat} {x : HashD} {v : Value} (h : AddC w0 w2 w p V G q0 x) (a : Away w0 w2 V q0 v) (f : Fr (fun j => v.ownBlock = some j) w w') : AddC w0 w2 w' p V G q0 x :=
  ⟨h.g.frV f (fun j h1 h2 => (a.a j h2).1 h1) (fun j h2 => (a.a j h2).2.2), range_keep h.s f (fun h2 => (a.a _ h2).2.1 rfl), h.f.trans f (fun i hi h2 => by have := (a.a i h2).2.2; have := a.b; omega)⟩
open Classical in
/-- Are all of them there? -/
noncomputable def knownP (l : List HashD) (G : List NodeD) : Bool := decide (∀ p ∈ l, p ∈ ids G)
theorem knownP_yes {l : List HashD} {G : List NodeD} (h : ∀ p ∈ l, p ∈ ids G) : knownP l G = true := by unfold knownP; exact decide_eq_true h
theorem knownP_no {l : List HashD} {G : List NodeD} (h : ¬ ∀ p ∈ l, p ∈ ids G) : knownP l G = false := by unfold knownP; exact decide_eq_false h
theorem addE_cases (G : List NodeD) (x : HashD) (ps : List HashD) : (addE G x ps = 10 ∧ x ∈ ids G) ∨ (addE G x ps = 9 ∧ x ∉ ids G ∧ ¬ ∀ p ∈ ps, p ∈ ids G) ∨ (addE G x ps = 16 ∧ x ∉ ids G ∧ (∀ p ∈ ps, p ∈ ids G) ∧ ¬ (upS G ps).length < 6) ∨ (addE G x ps = 0 ∧ x ∉ ids G ∧ ∀ p ∈ ps, p ∈ ids G) := by
  by_cases h1 : x ∈ ids G
  · exact .inl ⟨addE_there h1, h1⟩
  · by_cases h2 : ∀ p ∈ ps, p ∈ ids G
    · by_cases h3 : (upS G ps).length < 6
      · exact .inr (.inr (.inr ⟨addE_ok h1 h2 h3, h1, h2⟩))
      · exact .inr (.inr (.inl ⟨addE_kin h1 h2 h3, h1, h2, h3⟩))
    · exact .inr (.inl ⟨addE_none h1 (by simpa using h2), h1, h2⟩)

set_option maxRecDepth 100000 in
set_option maxHeartbeats 8000000 in
theorem adds_any (w : World) {v : Value} {L : List KActD} (hl : KActsIs w v L) {x : HashD} (hx : hashOk x) {pv : Value} {PS : List HashD} (hps : IdsIs w pv PS) :
    Calls Try.prog 8 #[v, .agg (hashC x).toArray, pv] w fun e w' => e = .returned (.bool true) ∧ Fr No w w' := by
  obtain ⟨dK, uK, rK⟩ := descHash
  have HL := Lib.hid hl
  obtain ⟨va, vc, rfl, -, -⟩ := hl
  have zh := zeroHash
  have XLEN := Lib.hid (hashC_len hx)
  have XOK := Lib.hid hx
  have R0 := Lib.hid (range_new w (hashC x) 30)
  have f0 := (Fr.refl No w).alloc (.cells (hashC x).toArray 30)
  have Q0 := Lib.hid (show w.heap.size < (w.alloc (.cells (hashC x).toArray 30)).heap.size by simp)
  have F0 := Lib.hid f0
  clear f0 hx
  obtain ⟨pa, pc, rfl⟩ := hps.2.form
  have HP := Lib.hid hps
  clear hps
  by_cases hg : kgreat L = true
  · go_enter Try.func8, Try.ntmps8
    go_wp2_with (first | (go_at_call 10; generalize hq : w.heap.size = q0 at *; generalize (w.alloc (.cells (hashC x).toArray 30)) = w0 at *; refine (aliveK_any w0).mono ?_; rintro e w1 ⟨rfl, f1⟩; have F1 := Lib.hid (F0.out.trans0 f1); have F01 := Lib.hid f1; clear f1) | (go_at_call 11; refine (kgreat_any w1 (HL.out.keep F1.out)).mono ?_; rintro e w2 ⟨rfl, f2⟩; rw [hg]; have F2 := Lib.hid (F1.out.trans0 f2); have F02 := Lib.hid (F01.out.trans0 f2); clear f2))
    go_ret
    exact ⟨rfl, F2.out⟩
  have hg0 : kgreat L = false := by simpa using hg
  clear hg
  by_cases h30 : 30 < PS.length
  · have e1 : decide ((30 : Int) < (PS.length : Int)) = true := by simp; omega
    clear h30
    go_enter Try.func8, Try.ntmps8
    go_wp2_with (first | (go_at_call 10; generalize hq : w.heap.size = q0 at *; generalize (w.alloc (.cells (hashC x).toArray 30)) = w0 at *; refine (aliveK_any w0).mono ?_; rintro e w1 ⟨rfl, f1⟩; have F1 := Lib.hid (F0.out.trans0 f1); have F01 := Lib.hid f1; clear f1) | (go_at_call 11; refine (kgreat_any w1 (HL.out.keep F1.out)).mono ?_; rintro e w2 ⟨rfl, f2⟩; rw [hg0]; have F2 := Lib.hid (F1.out.trans0 f2); have F02 := Lib.hid (F01.out.trans0 f2); clear f2))
    go_ret
    exact ⟨rfl, F2.out⟩
  have e1 : decide ((30 : Int) < (PS.length : Int)) = false := by simp; omega
  have l30 : PS.length ≤ 30 := by omega
  clear h30
  rcases addE_cases (grownG L) x PS with ⟨ae, hin⟩ | ⟨ae, hin, hkn⟩ | ⟨ae, hin, hkn, h6⟩ | ⟨ae, hin, hkn⟩
  · have AE := Lib.hid ae
    have HIN := Lib.hid hin
    clear ae hin
    go_enter Try.func8, Try.ntmps8
    have MkN0 := Lib.hid True.intro
    have MkN1 := Lib.hid True.intro
    have MkN2 := Lib.hid True.intro
    have MkN3 := Lib.hid True.intro
    have MkN4 := Lib.hid True.intro
    have MkN5 := Lib.hid True.intro
    have MkN6 := Lib.hid True.intro
    go_wp2_with (first | (have mk := MkN0.out; (go_at_call 10; generalize hq : w.heap.size = q0 at *; generalize (w.alloc (.cells (hashC x).toArray 30)) = w0 at *; refine (aliveK_any w0).mono ?_; rintro e w1 ⟨rfl, f1⟩; have F1 := Lib.hid (F0.out.trans0 f1); have F01 := Lib.hid f1; clear f1); go_frame; clear mk MkN0) | (have mk := MkN1.out; (go_at_call 11; refine (kgreat_any w1 (HL.out.keep F1.out)).mono ?_; rintro e w2 ⟨rfl, f2⟩; rw [hg0]; have F2 := Lib.hid (F1.out.trans0 f2); have F02 := Lib.hid (F01.out.trans0 f2); clear f2); go_frame; clear mk MkN1) | (have mk := MkN2.out; (go_at_call 12; refine (grown_any w2 (HL.out.keep F2.out) hg0).mono ?_; rintro e w3 ⟨p, V, rfl, g3, b3⟩; generalize grownG L = G at *; have G3 := Lib.hid g3; have F3 := Lib.hid (F2.out.trans0 g3.fr); have LO := Lib.hid (show ∀ j, V j → w2.heap.size ≤ j from g3.lo); have HI := Lib.hid (show ∀ j, V j → j < w3.heap.size from g3.hi); have F23 := Lib.hid (F02.out.trans0 g3.fr); have SZ := Lib.hid (show w2.heap.size ≤ w3.heap.size from g3.fr.size); clear g3 b3); go_frame; clear mk MkN2) | (have mk := MkN3.out; (go_at_call 13; refine (all_K G3.out (by decide)).mono ?_; rintro e w4 ⟨v4, rfl, o4⟩; have WA := Lib.hid o4.1; have F34 := Lib.hid o4.2; have G4 := Lib.hid (G3.out.fr0 o4.2); clear o4 G3); go_frame; clear mk MkN3) | (have mk := MkN4.out; (go_at_call 14; refine (up_K G4.out (by decide) (HP.out.keep ((F3.out).trans0 F34.out)) (by omega)).mono ?_; rintro e w5 ⟨v5, rfl, o5⟩; have UA := Lib.hid o5.1; have F45 := Lib.hid o5.2; have G5 := Lib.hid (G4.out.fr0 o5.2); have F5 := Lib.hid ((F3.out.trans0 F34.out).trans0 o5.2); have R5 := Lib.hid (range_keep R0.out ((F23.out.trans0 F34.out).trans0 o5.2) id); have WAH := Lib.hid (fun j e => (WA.out.lt j e).2); have UAH := Lib.hid (fun j e => (UA.out.lt j e)); replace WA := Lib.hid (ownsRow_keep WA.out o5.2 (fun _ _ => id)); obtain ⟨a4, c4, rfl⟩ := WA.out.slice.arg.form; obtain ⟨a5, c5, rfl⟩ := UA.out.slice.arg.form; clear o5 G4 F3); go_frame; clear mk MkN4) | (have mk := MkN5.out; ((with_reducible refine at_dst 32 ?_); refine wpList_vG rfl (exec_load (ty := 30) rfl rfl R5.out uK rK (by rw [XLEN.out]; exact infoHash)) ?_); go_frame; clear mk MkN5) | (have mk := MkN6.out; (go_at_call 20; refine (add_K G5.out (by decide) XOK.out (HP.out.keep F5.out) (by omega)).mono ?_; rintro e w6 ⟨he, V6, g6, f6, s6⟩; rw [AE.out] at he g6; rw [if_neg (by decide)] at g6; subst he; have M := Lib.hid (show AddC w w2 w6 p V6 G q0 x from ⟨g6, range_keep R5.out f6 (fun h => by have := LO.out _ h; have := Q0.out; have := F02.out.size; omega), F2.out.trans0 g6.fr⟩); replace WA := Lib.hid (ownsRow_keep WA.out f6 (fun b e h => by have := (WA.out.lt b e).1; have := HI.out b h; omega)); replace UA := Lib.hid (ownsRow_keep UA.out f6 (fun b e h => by have := (UA.out.lt b e).1; have := HI.out b h; have := F34.out.size; omega)); have AW := Lib.hid (show Away w w2 V6 q0 (.slice a4 (ids G).length c4) from ⟨fun j e => ⟨fun h => by have h1 := (WA.out.lt j e).1; have h2 := WAH.out j e; rcases s6 j h with h | h; (have := HI.out j h; omega); (have := F45.out.size; omega), by have h1 := (WA.out.lt j e).1; have := Q0.out; have := F23.out.size; omega, by have h1 := (WA.out.lt j e).1; have := G5.out.fr.size; have := F34.out.size; have := SZ.out; omega⟩, F2.out.size⟩); have AU := Lib.hid (show Away w w2 V6 q0 (.slice a5 (upS G PS).length c5) from ⟨fun j e => ⟨fun h => by have h1 := (UA.out.lt j e).1; have h2 := (UAH.out j e).2; rcases s6 j h with h | h; (have := HI.out j h; have := F34.out.size; omega); omega, by have h1 := (UA.out.lt j e).1; have := Q0.out; have := F23.out.size; have := F34.out.size; omega, by have h1 := (UA.out.lt j e).1; have := F34.out.size; have := SZ.out; omega⟩, F2.out.size⟩); have AWU := Lib.hid (show ∀ j, Value.ownBlock (.slice a4 (ids G).length c4) = some j → Value.ownBlock (.slice a5 (upS G PS).length c5) = some j → False from fun j e1 e2 => by have h1 := WAH.out j e1; have h2 := (UA.out.lt j e2).1; omega); have S6 := Lib.hid (show w5.heap.size ≤ w6.heap.size from f6.size); have P6 := Lib.hid (HP.out.keep (F2.out.trans0 g6.fr)); clear g6 f6 s6); go_frame; clear mk MkN6))
    have OKI := Lib.hid M.out.g.okId
    have IL := Lib.hid (show (ids G).length ≤ 100000 by have := M.out.g.len; simp only [ids, List.length_map]; omega)
    go_wp2
    go_loopw [11, 39] (fun kv iv wr => ∃ n : Nat, iv = .int .i64 n ∧ n ≤ PS.length ∧ kv = .bool (knownP (PS.take n) G) ∧ Fr No w6 wr) (fun _ iv _ => PS.length - (intOf iv).toNat)
    case atStart => exact ⟨0, rfl, Nat.zero_le _, by rw [knownP_yes (by simp)], Fr.refl _ _⟩
    case round =>
      obtain ⟨n, rfl, hn, rfl, fr⟩ := hrel
      have FR := Lib.hid fr
      clear fr
      by_cases h : n < PS.length
      · have i1 : (n : Int) < (PS.length : Int) := by omega
        obtain ⟨y, hy⟩ : ∃ y, PS[n]? = some y := ⟨_, List.getElem?_eq_getElem h⟩
        obtain ⟨b, off, cap, hv, hr, -⟩ := (P6.out.keep FR.out).at_ hy
        cases hv
        have YOK := Lib.hid (P6.out.1 y (List.mem_of_getElem? hy))
        have YL := Lib.hid (hashC_len YOK.out)
        have R1 := Lib.hid hr
        have RN := Lib.hid (range_new wr (hashC y) 30)
        have fa := (Fr.refl No wr).alloc (.cells (hashC y).toArray 30)
        have FA := Lib.hid (FR.out.trans0 fa)
        have M1 := Lib.hid ((M.out.keep FR.out).keep fa)
        have KN := Lib.hid (show (∀ p ∈ PS.take (n + 1), p ∈ ids G) ↔ (∀ p ∈ PS.take n, p ∈ ids G) ∧ y ∈ ids G by rw [List.take_add_one, hy]; simp only [List.mem_append, Option.toList_some, List.mem_singleton]; exact ⟨fun h => ⟨fun p hp => h p (.inl hp), h y (.inr rfl)⟩, fun h p hp => hp.elim (h.1 p) (fun e => e ▸ h.2)⟩)
        clear hy hr fa
        by_cases hk : ∀ p ∈ PS.take n, p ∈ ids G
        · rw [show knownP (PS.take n) G = true from knownP_yes hk]
          by_cases hyi : y ∈ ids G
          · have BY := Lib.hid (show true = true ↔ y ∈ ids G by simp [hyi])
            have KN2 := Lib.hid (show knownP (PS.take (n + 1)) G = true by exact knownP_yes (KN.out.2 ⟨hk, hyi⟩))
            clear hk hyi KN
            go_wp2_with (first | ((with_reducible refine at_dst 42 ?_); refine wpList_vG rfl (exec_load (ty := 30) rfl rfl R1.out uK rK (by rw [YL.out]; exact infoHash)) ?_) | ((with_reducible refine at_store ?_); refine wpList_done rfl (exec_store_new (w := wr) (ty := 30) (cs := hashC y) rfl rfl rfl (by rw [YL.out]; rfl) (by rw [YL.out]; exact infoHash) hashC_one) ?_; generalize wr.alloc (.cells (hashC y).toArray 30) = w7 at *; generalize wr.heap.size = q7 at *) | ((with_reducible refine at_dst 46 ?_); refine wpList_vG rfl (exec_load (ty := 30) rfl rfl RN.out uK rK (by rw [YL.out]; exact infoHash)) ?_) | (go_at_call 28; refine (has_g M1.out.g YOK.out BY.out).mono ?_; rintro e w8 ⟨rfl, f8⟩; have F8 := Lib.hid (FA.out.trans0 f8); clear f8))
            go_roundw
            case rel => exact ⟨n + 1, by simp, by omega, by rw [KN2.out], F8.out⟩
            case measure => show PS.length - (n + 1) < PS.length - n; omega
          · have BY := Lib.hid (show false = true ↔ y ∈ ids G by simp [hyi])
            have KN2 := Lib.hid (show knownP (PS.take (n + 1)) G = false by exact knownP_no (fun h => hyi (KN.out.1 h).2))
            clear hk hyi KN
            go_wp2_with (first | ((with_reducible refine at_dst 42 ?_); refine wpList_vG rfl (exec_load (ty := 30) rfl rfl R1.out uK rK (by rw [YL.out]; exact infoHash)) ?_) | ((with_reducible refine at_store ?_); refine wpList_done rfl (exec_store_new (w := wr) (ty := 30) (cs := hashC y) rfl rfl rfl (by rw [YL.out]; rfl) (by rw [YL.out]; exact infoHash) hashC_one) ?_; generalize wr.alloc (.cells (hashC y).toArray 30) = w7 at *; generalize wr.heap.size = q7 at *) | ((with_reducible refine at_dst 46 ?_); refine wpList_vG rfl (exec_load (ty := 30) rfl rfl RN.out uK rK (by rw [YL.out]; exact infoHash)) ?_) | (go_at_call 28; refine (has_g M1.out.g YOK.out BY.out).mono ?_; rintro e w8 ⟨rfl, f8⟩; have F8 := Lib.hid (FA.out.trans0 f8); clear f8))
            go_roundw
            case rel => exact ⟨n + 1, by simp, by omega, by rw [KN2.out], F8.out⟩
            case measure => show PS.length - (n + 1) < PS.length - n; omega
        · rw [show knownP (PS.take n) G = false from knownP_no hk]
          have KN2 := Lib.hid (show knownP (PS.take (n + 1)) G = false from knownP_no (fun h => hk (KN.out.1 h).1))
          clear hk KN
          go_wp2_with (first | ((with_reducible refine at_dst 42 ?_); refine wpList_vG rfl (exec_load (ty := 30) rfl rfl R1.out uK rK (by rw [YL.out]; exact infoHash)) ?_) | ((with_reducible refine at_store ?_); refine wpList_done rfl (exec_store_new (w := wr) (ty := 30) (cs := hashC y) rfl rfl rfl (by rw [YL.out]; rfl) (by rw [YL.out]; exact infoHash) hashC_one) ?_; generalize wr.alloc (.cells (hashC y).toArray 30) = w7 at *; generalize wr.heap.size = q7 at *))
          go_roundw
          case rel => exact ⟨n + 1, by simp, by omega, by rw [KN2.out], FA.out⟩
          case measure => show PS.length - (n + 1) < PS.length - n; omega
      · have i1 : ¬ (n : Int) < (PS.length : Int) := by omega
        have i2 : n = PS.length := by omega
        replace M := Lib.hid (M.out.keep FR.out)
        have WI := Lib.hid (IdsIs.own (ownsRow_keep WA.out FR.out (fun _ _ => id)) OKI.out)
        rw [show knownP (PS.take n) G = knownP PS G by rw [i2, List.take_length]]
        generalize knownP PS G = kb at *
        have MkN0 := Lib.hid True.intro
        have MkN1 := Lib.hid True.intro
        have MkN2 := Lib.hid True.intro
        have MkN3 := Lib.hid True.intro
        go_wp2_with (first | (have mk := MkN0.out; ((with_reducible refine at_dst 54 ?_); refine wpList_vG rfl (exec_load (ty := 30) rfl rfl M.out.s uK rK (by rw [XLEN.out]; exact infoHash)) ?_); go_frame; clear mk MkN0) | (have mk := MkN1.out; (go_at_call 28; refine (has_g M.out.g XOK.out (show true = true ↔ x ∈ ids G by simp [HIN.out])).mono ?_; rintro e w9 ⟨rfl, f⟩; have M9 := Lib.hid (M.out.keep f); replace WI := Lib.hid (WI.out.keep f); clear f); go_frame; clear mk MkN1) | (have mk := MkN2.out; (go_at_call 13; refine (all_K M9.out.g (by decide)).mono ?_; rintro e w12 ⟨v12, rfl, o12⟩; have I12 := Lib.hid (o12.is M9.out.g.okId); have M12 := Lib.hid (M9.out.keep o12.2); have W12 := Lib.hid (WI.out.keep o12.2); clear o12); go_frame; clear mk MkN2) | (have mk := MkN3.out; (go_at_call 18; refine (same_b I12.out W12.out (by have := IL.out; omega) (by have := IL.out; omega) (show true = true ↔ ids G = ids G by simp)).mono ?_; rintro e w13 ⟨rfl, f13⟩; have F13 := Lib.hid (M12.out.f.trans0 f13); clear f13); go_frame; clear mk MkN3))
        go_ret
        exact ⟨rfl, F13.out⟩
  · have AE := Lib.hid ae
    have HIN := Lib.hid hin
    have HKN := Lib.hid hkn
    clear ae hin hkn
    go_enter Try.func8, Try.ntmps8
    have MkN0 := Lib.hid True.intro
    have MkN1 := Lib.hid True.intro
    have MkN2 := Lib.hid True.intro
    have MkN3 := Lib.hid True.intro
    have MkN4 := Lib.hid True.intro
    have MkN5 := Lib.hid True.intro
    have MkN6 := Lib.hid True.intro
    go_wp2_with (first | (have mk := MkN0.out; (go_at_call 10; generalize hq : w.heap.size = q0 at *; generalize (w.alloc (.cells (hashC x).toArray 30)) = w0 at *; refine (aliveK_any w0).mono ?_; rintro e w1 ⟨rfl, f1⟩; have F1 := Lib.hid (F0.out.trans0 f1); have F01 := Lib.hid f1; clear f1); go_frame; clear mk MkN0) | (have mk := MkN1.out; (go_at_call 11; refine (kgreat_any w1 (HL.out.keep F1.out)).mono ?_; rintro e w2 ⟨rfl, f2⟩; rw [hg0]; have F2 := Lib.hid (F1.out.trans0 f2); have F02 := Lib.hid (F01.out.trans0 f2); clear f2); go_frame; clear mk MkN1) | (have mk := MkN2.out; (go_at_call 12; refine (grown_any w2 (HL.out.keep F2.out) hg0).mono ?_; rintro e w3 ⟨p, V, rfl, g3, b3⟩; generalize grownG L = G at *; have G3 := Lib.hid g3; have F3 := Lib.hid (F2.out.trans0 g3.fr); have LO := Lib.hid (show ∀ j, V j → w2.heap.size ≤ j from g3.lo); have HI := Lib.hid (show ∀ j, V j → j < w3.heap.size from g3.hi); have F23 := Lib.hid (F02.out.trans0 g3.fr); have SZ := Lib.hid (show w2.heap.size ≤ w3.heap.size from g3.fr.size); clear g3 b3); go_frame; clear mk MkN2) | (have mk := MkN3.out; (go_at_call 13; refine (all_K G3.out (by decide)).mono ?_; rintro e w4 ⟨v4, rfl, o4⟩; have WA := Lib.hid o4.1; have F34 := Lib.hid o4.2; have G4 := Lib.hid (G3.out.fr0 o4.2); clear o4 G3); go_frame; clear mk MkN3) | (have mk := MkN4.out; (go_at_call 14; refine (up_K G4.out (by decide) (HP.out.keep ((F3.out).trans0 F34.out)) (by omega)).mono ?_; rintro e w5 ⟨v5, rfl, o5⟩; have UA := Lib.hid o5.1; have F45 := Lib.hid o5.2; have G5 := Lib.hid (G4.out.fr0 o5.2); have F5 := Lib.hid ((F3.out.trans0 F34.out).trans0 o5.2); have R5 := Lib.hid (range_keep R0.out ((F23.out.trans0 F34.out).trans0 o5.2) id); have WAH := Lib.hid (fun j e => (WA.out.lt j e).2); have UAH := Lib.hid (fun j e => (UA.out.lt j e)); replace WA := Lib.hid (ownsRow_keep WA.out o5.2 (fun _ _ => id)); obtain ⟨a4, c4, rfl⟩ := WA.out.slice.arg.form; obtain ⟨a5, c5, rfl⟩ := UA.out.slice.arg.form; clear o5 G4 F3); go_frame; clear mk MkN4) | (have mk := MkN5.out; ((with_reducible refine at_dst 32 ?_); refine wpList_vG rfl (exec_load (ty := 30) rfl rfl R5.out uK rK (by rw [XLEN.out]; exact infoHash)) ?_); go_frame; clear mk MkN5) | (have mk := MkN6.out; (go_at_call 20; refine (add_K G5.out (by decide) XOK.out (HP.out.keep F5.out) (by omega)).mono ?_; rintro e w6 ⟨he, V6, g6, f6, s6⟩; rw [AE.out] at he g6; rw [if_neg (by decide)] at g6; subst he; have M := Lib.hid (show AddC w w2 w6 p V6 G q0 x from ⟨g6, range_keep R5.out f6 (fun h => by have := LO.out _ h; have := Q0.out; have := F02.out.size; omega), F2.out.trans0 g6.fr⟩); replace WA := Lib.hid (ownsRow_keep WA.out f6 (fun b e h => by have := (WA.out.lt b e).1; have := HI.out b h; omega)); replace UA := Lib.hid (ownsRow_keep UA.out f6 (fun b e h => by have := (UA.out.lt b e).1; have := HI.out b h; have := F34.out.size; omega)); have AW := Lib.hid (show Away w w2 V6 q0 (.slice a4 (ids G).length c4) from ⟨fun j e => ⟨fun h => by have h1 := (WA.out.lt j e).1; have h2 := WAH.out j e; rcases s6 j h with h | h; (have := HI.out j h; omega); (have := F45.out.size; omega), by have h1 := (WA.out.lt j e).1; have := Q0.out; have := F23.out.size; omega, by have h1 := (WA.out.lt j e).1; have := G5.out.fr.size; have := F34.out.size; have := SZ.out; omega⟩, F2.out.size⟩); have AU := Lib.hid (show Away w w2 V6 q0 (.slice a5 (upS G PS).length c5) from ⟨fun j e => ⟨fun h => by have h1 := (UA.out.lt j e).1; have h2 := (UAH.out j e).2; rcases s6 j h with h | h; (have := HI.out j h; have := F34.out.size; omega); omega, by have h1 := (UA.out.lt j e).1; have := Q0.out; have := F23.out.size; have := F34.out.size; omega, by have h1 := (UA.out.lt j e).1; have := F34.out.size; have := SZ.out; omega⟩, F2.out.size⟩); have AWU := Lib.hid (show ∀ j, Value.ownBlock (.slice a4 (ids G).length c4) = some j → Value.ownBlock (.slice a5 (upS G PS).length c5) = some j → False from fun j e1 e2 => by have h1 := WAH.out j e1; have h2 := (UA.out.lt j e2).1; omega); have S6 := Lib.hid (show w5.heap.size ≤ w6.heap.size from f6.size); have P6 := Lib.hid (HP.out.keep (F2.out.trans0 g6.fr)); clear g6 f6 s6); go_frame; clear mk MkN6))
    have OKI := Lib.hid M.out.g.okId
    have IL := Lib.hid (show (ids G).length ≤ 100000 by have := M.out.g.len; simp only [ids, List.length_map]; omega)
    go_wp2
    go_loopw [11, 39] (fun kv iv wr => ∃ n : Nat, iv = .int .i64 n ∧ n ≤ PS.length ∧ kv = .bool (knownP (PS.take n) G) ∧ Fr No w6 wr) (fun _ iv _ => PS.length - (intOf iv).toNat)
    case atStart => exact ⟨0, rfl, Nat.zero_le _, by rw [knownP_yes (by simp)], Fr.refl _ _⟩
    case round =>
      obtain ⟨n, rfl, hn, rfl, fr⟩ := hrel
      have FR := Lib.hid fr
      clear fr
      by_cases h : n < PS.length
      · have i1 : (n : Int) < (PS.length : Int) := by omega
        obtain ⟨y, hy⟩ : ∃ y, PS[n]? = some y := ⟨_, List.getElem?_eq_getElem h⟩
        obtain ⟨b, off, cap, hv, hr, -⟩ := (P6.out.keep FR.out).at_ hy
        cases hv
        have YOK := Lib.hid (P6.out.1 y (List.mem_of_getElem? hy))
        have YL := Lib.hid (hashC_len YOK.out)
        have R1 := Lib.hid hr
        have RN := Lib.hid (range_new wr (hashC y) 30)
        have fa := (Fr.refl No wr).alloc (.cells (hashC y).toArray 30)
        have FA := Lib.hid (FR.out.trans0 fa)
        have M1 := Lib.hid ((M.out.keep FR.out).keep fa)
        have KN := Lib.hid (show (∀ p ∈ PS.take (n + 1), p ∈ ids G) ↔ (∀ p ∈ PS.take n, p ∈ ids G) ∧ y ∈ ids G by rw [List.take_add_one, hy]; simp only [List.mem_append, Option.toList_some, List.mem_singleton]; exact ⟨fun h => ⟨fun p hp => h p (.inl hp), h y (.inr rfl)⟩, fun h p hp => hp.elim (h.1 p) (fun e => e ▸ h.2)⟩)
        clear hy hr fa
        by_cases hk : ∀ p ∈ PS.take n, p ∈ ids G
        · rw [show knownP (PS.take n) G = true from knownP_yes hk]
          by_cases hyi : y ∈ ids G
          · have BY := Lib.hid (show true = true ↔ y ∈ ids G by simp [hyi])
            have KN2 := Lib.hid (show knownP (PS.take (n + 1)) G = true by exact knownP_yes (KN.out.2 ⟨hk, hyi⟩))
            clear hk hyi KN
            go_wp2_with (first | ((with_reducible refine at_dst 42 ?_); refine wpList_vG rfl (exec_load (ty := 30) rfl rfl R1.out uK rK (by rw [YL.out]; exact infoHash)) ?_) | ((with_reducible refine at_store ?_); refine wpList_done rfl (exec_store_new (w := wr) (ty := 30) (cs := hashC y) rfl rfl rfl (by rw [YL.out]; rfl) (by rw [YL.out]; exact infoHash) hashC_one) ?_; generalize wr.alloc (.cells (hashC y).toArray 30) = w7 at *; generalize wr.heap.size = q7 at *) | ((with_reducible refine at_dst 46 ?_); refine wpList_vG rfl (exec_load (ty := 30) rfl rfl RN.out uK rK (by rw [YL.out]; exact infoHash)) ?_) | (go_at_call 28; refine (has_g M1.out.g YOK.out BY.out).mono ?_; rintro e w8 ⟨rfl, f8⟩; have F8 := Lib.hid (FA.out.trans0 f8); clear f8))
            go_roundw
            case rel => exact ⟨n + 1, by simp, by omega, by rw [KN2.out], F8.out⟩
            case measure => show PS.length - (n + 1) < PS.length - n; omega
          · have BY := Lib.hid (show false = true ↔ y ∈ ids G by simp [hyi])
            have KN2 := Lib.hid (show knownP (PS.take (n + 1)) G = false by exact knownP_no (fun h => hyi (KN.out.1 h).2))
            clear hk hyi KN
            go_wp2_with (first | ((with_reducible refine at_dst 42 ?_); refine wpList_vG rfl (exec_load (ty := 30) rfl rfl R1.out uK rK (by rw [YL.out]; exact infoHash)) ?_) | ((with_reducible refine at_store ?_); refine wpList_done rfl (exec_store_new (w := wr) (ty := 30) (cs := hashC y) rfl rfl rfl (by rw [YL.out]; rfl) (by rw [YL.out]; exact infoHash) hashC_one) ?_; generalize wr.alloc (.cells (hashC y).toArray 30) = w7 at *; generalize wr.heap.size = q7 at *) | ((with_reducible refine at_dst 46 ?_); refine wpList_vG rfl (exec_load (ty := 30) rfl rfl RN.out uK rK (by rw [YL.out]; exact infoHash)) ?_) | (go_at_call 28; refine (has_g M1.out.g YOK.out BY.out).mono ?_; rintro e w8 ⟨rfl, f8⟩; have F8 := Lib.hid (FA.out.trans0 f8); clear f8))
            go_roundw
            case rel => exact ⟨n + 1, by simp, by omega, by rw [KN2.out], F8.out⟩
            case measure => show PS.length - (n + 1) < PS.length - n; omega
        · rw [show knownP (PS.take n) G = false from knownP_no hk]
          have KN2 := Lib.hid (show knownP (PS.take (n + 1)) G = false from knownP_no (fun h => hk (KN.out.1 h).1))
          clear hk KN
          go_wp2_with (first | ((with_reducible refine at_dst 42 ?_); refine wpList_vG rfl (exec_load (ty := 30) rfl rfl R1.out uK rK (by rw [YL.out]; exact infoHash)) ?_) | ((with_reducible refine at_store ?_); refine wpList_done rfl (exec_store_new (w := wr) (ty := 30) (cs := hashC y) rfl rfl rfl (by rw [YL.out]; rfl) (by rw [YL.out]; exact infoHash) hashC_one) ?_; generalize wr.alloc (.cells (hashC y).toArray 30) = w7 at *; generalize wr.heap.size = q7 at *))
          go_roundw
          case rel => exact ⟨n + 1, by simp, by omega, by rw [KN2.out], FA.out⟩
          case measure => show PS.length - (n + 1) < PS.length - n; omega
      · have i1 : ¬ (n : Int) < (PS.length : Int) := by omega
        have i2 : n = PS.length := by omega
        replace M := Lib.hid (M.out.keep FR.out)
        have WI := Lib.hid (IdsIs.own (ownsRow_keep WA.out FR.out (fun _ _ => id)) OKI.out)
        rw [show knownP (PS.take n) G = false by rw [i2, List.take_length]; exact knownP_no HKN.out]
        have MkN0 := Lib.hid True.intro
        have MkN1 := Lib.hid True.intro
        have MkN2 := Lib.hid True.intro
        have MkN3 := Lib.hid True.intro
        go_wp2_with (first | (have mk := MkN0.out; ((with_reducible refine at_dst 62 ?_); refine wpList_vG rfl (exec_load (ty := 30) rfl rfl M.out.s uK rK (by rw [XLEN.out]; exact infoHash)) ?_); go_frame; clear mk MkN0) | (have mk := MkN1.out; (go_at_call 28; refine (has_g M.out.g XOK.out (show false = true ↔ x ∈ ids G by simp [HIN.out])).mono ?_; rintro e w9 ⟨rfl, f⟩; have M9 := Lib.hid (M.out.keep f); replace WI := Lib.hid (WI.out.keep f); clear f); go_frame; clear mk MkN1) | (have mk := MkN2.out; (go_at_call 13; refine (all_K M9.out.g (by decide)).mono ?_; rintro e w12 ⟨v12, rfl, o12⟩; have I12 := Lib.hid (o12.is M9.out.g.okId); have M12 := Lib.hid (M9.out.keep o12.2); have W12 := Lib.hid (WI.out.keep o12.2); clear o12); go_frame; clear mk MkN2) | (have mk := MkN3.out; (go_at_call 18; refine (same_b I12.out W12.out (by have := IL.out; omega) (by have := IL.out; omega) (show true = true ↔ ids G = ids G by simp)).mono ?_; rintro e w13 ⟨rfl, f13⟩; have F13 := Lib.hid (M12.out.f.trans0 f13); clear f13); go_frame; clear mk MkN3))
        go_ret
        exact ⟨rfl, F13.out⟩
  · have AE := Lib.hid ae
    have HIN := Lib.hid hin
    have HKN := Lib.hid hkn
    have H6 := Lib.hid h6
    clear ae hin hkn h6
    go_enter Try.func8, Try.ntmps8
    have MkN0 := Lib.hid True.intro
    have MkN1 := Lib.hid True.intro
    have MkN2 := Lib.hid True.intro
    have MkN3 := Lib.hid True.intro
    have MkN4 := Lib.hid True.intro
    have MkN5 := Lib.hid True.intro
    have MkN6 := Lib.hid True.intro
    go_wp2_with (first | (have mk := MkN0.out; (go_at_call 10; generalize hq : w.heap.size = q0 at *; generalize (w.alloc (.cells (hashC x).toArray 30)) = w0 at *; refine (aliveK_any w0).mono ?_; rintro e w1 ⟨rfl, f1⟩; have F1 := Lib.hid (F0.out.trans0 f1); have F01 := Lib.hid f1; clear f1); go_frame; clear mk MkN0) | (have mk := MkN1.out; (go_at_call 11; refine (kgreat_any w1 (HL.out.keep F1.out)).mono ?_; rintro e w2 ⟨rfl, f2⟩; rw [hg0]; have F2 := Lib.hid (F1.out.trans0 f2); have F02 := Lib.hid (F01.out.trans0 f2); clear f2); go_frame; clear mk MkN1) | (have mk := MkN2.out; (go_at_call 12; refine (grown_any w2 (HL.out.keep F2.out) hg0).mono ?_; rintro e w3 ⟨p, V, rfl, g3, b3⟩; generalize grownG L = G at *; have G3 := Lib.hid g3; have F3 := Lib.hid (F2.out.trans0 g3.fr); have LO := Lib.hid (show ∀ j, V j → w2.heap.size ≤ j from g3.lo); have HI := Lib.hid (show ∀ j, V j → j < w3.heap.size from g3.hi); have F23 := Lib.hid (F02.out.trans0 g3.fr); have SZ := Lib.hid (show w2.heap.size ≤ w3.heap.size from g3.fr.size); clear g3 b3); go_frame; clear mk MkN2) | (have mk := MkN3.out; (go_at_call 13; refine (all_K G3.out (by decide)).mono ?_; rintro e w4 ⟨v4, rfl, o4⟩; have WA := Lib.hid o4.1; have F34 := Lib.hid o4.2; have G4 := Lib.hid (G3.out.fr0 o4.2); clear o4 G3); go_frame; clear mk MkN3) | (have mk := MkN4.out; (go_at_call 14; refine (up_K G4.out (by decide) (HP.out.keep ((F3.out).trans0 F34.out)) (by omega)).mono ?_; rintro e w5 ⟨v5, rfl, o5⟩; have UA := Lib.hid o5.1; have F45 := Lib.hid o5.2; have G5 := Lib.hid (G4.out.fr0 o5.2); have F5 := Lib.hid ((F3.out.trans0 F34.out).trans0 o5.2); have R5 := Lib.hid (range_keep R0.out ((F23.out.trans0 F34.out).trans0 o5.2) id); have WAH := Lib.hid (fun j e => (WA.out.lt j e).2); have UAH := Lib.hid (fun j e => (UA.out.lt j e)); replace WA := Lib.hid (ownsRow_keep WA.out o5.2 (fun _ _ => id)); obtain ⟨a4, c4, rfl⟩ := WA.out.slice.arg.form; obtain ⟨a5, c5, rfl⟩ := UA.out.slice.arg.form; clear o5 G4 F3); go_frame; clear mk MkN4) | (have mk := MkN5.out; ((with_reducible refine at_dst 32 ?_); refine wpList_vG rfl (exec_load (ty := 30) rfl rfl R5.out uK rK (by rw [XLEN.out]; exact infoHash)) ?_); go_frame; clear mk MkN5) | (have mk := MkN6.out; (go_at_call 20; refine (add_K G5.out (by decide) XOK.out (HP.out.keep F5.out) (by omega)).mono ?_; rintro e w6 ⟨he, V6, g6, f6, s6⟩; rw [AE.out] at he g6; rw [if_neg (by decide)] at g6; subst he; have M := Lib.hid (show AddC w w2 w6 p V6 G q0 x from ⟨g6, range_keep R5.out f6 (fun h => by have := LO.out _ h; have := Q0.out; have := F02.out.size; omega), F2.out.trans0 g6.fr⟩); replace WA := Lib.hid (ownsRow_keep WA.out f6 (fun b e h => by have := (WA.out.lt b e).1; have := HI.out b h; omega)); replace UA := Lib.hid (ownsRow_keep UA.out f6 (fun b e h => by have := (UA.out.lt b e).1; have := HI.out b h; have := F34.out.size; omega)); have AW := Lib.hid (show Away w w2 V6 q0 (.slice a4 (ids G).length c4) from ⟨fun j e => ⟨fun h => by have h1 := (WA.out.lt j e).1; have h2 := WAH.out j e; rcases s6 j h with h | h; (have := HI.out j h; omega); (have := F45.out.size; omega), by have h1 := (WA.out.lt j e).1; have := Q0.out; have := F23.out.size; omega, by have h1 := (WA.out.lt j e).1; have := G5.out.fr.size; have := F34.out.size; have := SZ.out; omega⟩, F2.out.size⟩); have AU := Lib.hid (show Away w w2 V6 q0 (.slice a5 (upS G PS).length c5) from ⟨fun j e => ⟨fun h => by have h1 := (UA.out.lt j e).1; have h2 := (UAH.out j e).2; rcases s6 j h with h | h; (have := HI.out j h; have := F34.out.size; omega); omega, by have h1 := (UA.out.lt j e).1; have := Q0.out; have := F23.out.size; have := F34.out.size; omega, by have h1 := (UA.out.lt j e).1; have := F34.out.size; have := SZ.out; omega⟩, F2.out.size⟩); have AWU := Lib.hid (show ∀ j, Value.ownBlock (.slice a4 (ids G).length c4) = some j → Value.ownBlock (.slice a5 (upS G PS).length c5) = some j → False from fun j e1 e2 => by have h1 := WAH.out j e1; have h2 := (UA.out.lt j e2).1; omega); have S6 := Lib.hid (show w5.heap.size ≤ w6.heap.size from f6.size); have P6 := Lib.hid (HP.out.keep (F2.out.trans0 g6.fr)); clear g6 f6 s6); go_frame; clear mk MkN6))
    have OKI := Lib.hid M.out.g.okId
    have IL := Lib.hid (show (ids G).length ≤ 100000 by have := M.out.g.len; simp only [ids, List.length_map]; omega)
    have e6 : decide ((6 : Int) ≤ ((upS G PS).length : Int)) = true := by have := H6.out; simp; omega
    have e6' : ¬ ((upS G PS).length : Int) < 6 := by have := H6.out; omega
    go_wp2
    go_loopw [11, 39] (fun kv iv wr => ∃ n : Nat, iv = .int .i64 n ∧ n ≤ PS.length ∧ kv = .bool (knownP (PS.take n) G) ∧ Fr No w6 wr) (fun _ iv _ => PS.length - (intOf iv).toNat)
    case atStart => exact ⟨0, rfl, Nat.zero_le _, by rw [knownP_yes (by simp)], Fr.refl _ _⟩
    case round =>
      obtain ⟨n, rfl, hn, rfl, fr⟩ := hrel
      have FR := Lib.hid fr
      clear fr
      by_cases h : n < PS.length
      · have i1 : (n : Int) < (PS.length : Int) := by omega
        obtain ⟨y, hy⟩ : ∃ y, PS[n]? = some y := ⟨_, List.getElem?_eq_getElem h⟩
        obtain ⟨b, off, cap, hv, hr, -⟩ := (P6.out.keep FR.out).at_ hy
        cases hv
        have YOK := Lib.hid (P6.out.1 y (List.mem_of_getElem? hy))
        have YL := Lib.hid (hashC_len YOK.out)
        have R1 := Lib.hid hr
        have RN := Lib.hid (range_new wr (hashC y) 30)
        have fa := (Fr.refl No wr).alloc (.cells (hashC y).toArray 30)
        have FA := Lib.hid (FR.out.trans0 fa)
        have M1 := Lib.hid ((M.out.keep FR.out).keep fa)
        have KN := Lib.hid (show (∀ p ∈ PS.take (n + 1), p ∈ ids G) ↔ (∀ p ∈ PS.take n, p ∈ ids G) ∧ y ∈ ids G by rw [List.take_add_one, hy]; simp only [List.mem_append, Option.toList_some, List.mem_singleton]; exact ⟨fun h => ⟨fun p hp => h p (.inl hp), h y (.inr rfl)⟩, fun h p hp => hp.elim (h.1 p) (fun e => e ▸ h.2)⟩)
        clear hy hr fa
        by_cases hk : ∀ p ∈ PS.take n, p ∈ ids G
        · rw [show knownP (PS.take n) G = true from knownP_yes hk]
          by_cases hyi : y ∈ ids G
          · have BY := Lib.hid (show true = true ↔ y ∈ ids G by simp [hyi])
            have KN2 := Lib.hid (show knownP (PS.take (n + 1)) G = true by exact knownP_yes (KN.out.2 ⟨hk, hyi⟩))
            clear hk hyi KN
            go_wp2_with (first | ((with_reducible refine at_dst 42 ?_); refine wpList_vG rfl (exec_load (ty := 30) rfl rfl R1.out uK rK (by rw [YL.out]; exact infoHash)) ?_) | ((with_reducible refine at_store ?_); refine wpList_done rfl (exec_store_new (w := wr) (ty := 30) (cs := hashC y) rfl rfl rfl (by rw [YL.out]; rfl) (by rw [YL.out]; exact infoHash) hashC_one) ?_; generalize wr.alloc (.cells (hashC y).toArray 30) = w7 at *; generalize wr.heap.size = q7 at *) | ((with_reducible refine at_dst 46 ?_); refine wpList_vG rfl (exec_load (ty := 30) rfl rfl RN.out uK rK (by rw [YL.out]; exact infoHash)) ?_) | (go_at_call 28; refine (has_g M1.out.g YOK.out BY.out).mono ?_; rintro e w8 ⟨rfl, f8⟩; have F8 := Lib.hid (FA.out.trans0 f8); clear f8))
            go_roundw
            case rel => exact ⟨n + 1, by simp, by omega, by rw [KN2.out], F8.out⟩
            case measure => show PS.length - (n + 1) < PS.length - n; omega
          · have BY := Lib.hid (show false = true ↔ y ∈ ids G by simp [hyi])
            have KN2 := Lib.hid (show knownP (PS.take (n + 1)) G = false by exact knownP_no (fun h => hyi (KN.out.1 h).2))
            clear hk hyi KN
            go_wp2_with (first | ((with_reducible refine at_dst 42 ?_); refine wpList_vG rfl (exec_load (ty := 30) rfl rfl R1.out uK rK (by rw [YL.out]; exact infoHash)) ?_) | ((with_reducible refine at_store ?_); refine wpList_done rfl (exec_store_new (w := wr) (ty := 30) (cs := hashC y) rfl rfl rfl (by rw [YL.out]; rfl) (by rw [YL.out]; exact infoHash) hashC_one) ?_; generalize wr.alloc (.cells (hashC y).toArray 30) = w7 at *; generalize wr.heap.size = q7 at *) | ((with_reducible refine at_dst 46 ?_); refine wpList_vG rfl (exec_load (ty := 30) rfl rfl RN.out uK rK (by rw [YL.out]; exact infoHash)) ?_) | (go_at_call 28; refine (has_g M1.out.g YOK.out BY.out).mono ?_; rintro e w8 ⟨rfl, f8⟩; have F8 := Lib.hid (FA.out.trans0 f8); clear f8))
            go_roundw
            case rel => exact ⟨n + 1, by simp, by omega, by rw [KN2.out], F8.out⟩
            case measure => show PS.length - (n + 1) < PS.length - n; omega
        · rw [show knownP (PS.take n) G = false from knownP_no hk]
          have KN2 := Lib.hid (show knownP (PS.take (n + 1)) G = false from knownP_no (fun h => hk (KN.out.1 h).1))
          clear hk KN
          go_wp2_with (first | ((with_reducible refine at_dst 42 ?_); refine wpList_vG rfl (exec_load (ty := 30) rfl rfl R1.out uK rK (by rw [YL.out]; exact infoHash)) ?_) | ((with_reducible refine at_store ?_); refine wpList_done rfl (exec_store_new (w := wr) (ty := 30) (cs := hashC y) rfl rfl rfl (by rw [YL.out]; rfl) (by rw [YL.out]; exact infoHash) hashC_one) ?_; generalize wr.alloc (.cells (hashC y).toArray 30) = w7 at *; generalize wr.heap.size = q7 at *))
          go_roundw
          case rel => exact ⟨n + 1, by simp, by omega, by rw [KN2.out], FA.out⟩
          case measure => show PS.length - (n + 1) < PS.length - n; omega
      · have i1 : ¬ (n : Int) < (PS.length : Int) := by omega
        have i2 : n = PS.length := by omega
        replace M := Lib.hid (M.out.keep FR.out)
        have WI := Lib.hid (IdsIs.own (ownsRow_keep WA.out FR.out (fun _ _ => id)) OKI.out)
        rw [show knownP (PS.take n) G = true by rw [i2, List.take_length]; exact knownP_yes HKN.out]
        have MkN0 := Lib.hid True.intro
        have MkN1 := Lib.hid True.intro
        have MkN2 := Lib.hid True.intro
        have MkN3 := Lib.hid True.intro
        go_wp2_with (first | (have mk := MkN0.out; ((with_reducible refine at_dst 76 ?_); refine wpList_vG rfl (exec_load (ty := 30) rfl rfl M.out.s uK rK (by rw [XLEN.out]; exact infoHash)) ?_); go_frame; clear mk MkN0) | (have mk := MkN1.out; (go_at_call 28; refine (has_g M.out.g XOK.out (show false = true ↔ x ∈ ids G by simp [HIN.out])).mono ?_; rintro e w9 ⟨rfl, f⟩; have M9 := Lib.hid (M.out.keep f); replace WI := Lib.hid (WI.out.keep f); clear f); go_frame; clear mk MkN1) | (have mk := MkN2.out; (go_at_call 13; refine (all_K M9.out.g (by decide)).mono ?_; rintro e w12 ⟨v12, rfl, o12⟩; have I12 := Lib.hid (o12.is M9.out.g.okId); have M12 := Lib.hid (M9.out.keep o12.2); have W12 := Lib.hid (WI.out.keep o12.2); clear o12); go_frame; clear mk MkN2) | (have mk := MkN3.out; (go_at_call 18; refine (same_b I12.out W12.out (by have := IL.out; omega) (by have := IL.out; omega) (show true = true ↔ ids G = ids G by simp)).mono ?_; rintro e w13 ⟨rfl, f13⟩; have F13 := Lib.hid (M12.out.f.trans0 f13); clear f13); go_frame; clear mk MkN3))
        go_ret
        exact ⟨rfl, F13.out⟩
  · have AE := Lib.hid ae
    have HIN := Lib.hid hin
    have HKN := Lib.hid hkn
    clear ae hin hkn
    go_enter Try.func8, Try.ntmps8
    have MkN0 := Lib.hid True.intro
    have MkN1 := Lib.hid True.intro
    have MkN2 := Lib.hid True.intro
    have MkN3 := Lib.hid True.intro
    have MkN4 := Lib.hid True.intro
    have MkN5 := Lib.hid True.intro
    have MkN6 := Lib.hid True.intro
    go_wp2_with (first | (have mk := MkN0.out; (go_at_call 10; generalize hq : w.heap.size = q0 at *; generalize (w.alloc (.cells (hashC x).toArray 30)) = w0 at *; refine (aliveK_any w0).mono ?_; rintro e w1 ⟨rfl, f1⟩; have F1 := Lib.hid (F0.out.trans0 f1); have F01 := Lib.hid f1; clear f1); go_frame; clear mk MkN0) | (have mk := MkN1.out; (go_at_call 11; refine (kgreat_any w1 (HL.out.keep F1.out)).mono ?_; rintro e w2 ⟨rfl, f2⟩; rw [hg0]; have F2 := Lib.hid (F1.out.trans0 f2); have F02 := Lib.hid (F01.out.trans0 f2); clear f2); go_frame; clear mk MkN1) | (have mk := MkN2.out; (go_at_call 12; refine (grown_any w2 (HL.out.keep F2.out) hg0).mono ?_; rintro e w3 ⟨p, V, rfl, g3, b3⟩; generalize grownG L = G at *; have G3 := Lib.hid g3; have F3 := Lib.hid (F2.out.trans0 g3.fr); have LO := Lib.hid (show ∀ j, V j → w2.heap.size ≤ j from g3.lo); have HI := Lib.hid (show ∀ j, V j → j < w3.heap.size from g3.hi); have F23 := Lib.hid (F02.out.trans0 g3.fr); have SZ := Lib.hid (show w2.heap.size ≤ w3.heap.size from g3.fr.size); clear g3 b3); go_frame; clear mk MkN2) | (have mk := MkN3.out; (go_at_call 13; refine (all_K G3.out (by decide)).mono ?_; rintro e w4 ⟨v4, rfl, o4⟩; have WA := Lib.hid o4.1; have F34 := Lib.hid o4.2; have G4 := Lib.hid (G3.out.fr0 o4.2); clear o4 G3); go_frame; clear mk MkN3) | (have mk := MkN4.out; (go_at_call 14; refine (up_K G4.out (by decide) (HP.out.keep ((F3.out).trans0 F34.out)) (by omega)).mono ?_; rintro e w5 ⟨v5, rfl, o5⟩; have UA := Lib.hid o5.1; have F45 := Lib.hid o5.2; have G5 := Lib.hid (G4.out.fr0 o5.2); have F5 := Lib.hid ((F3.out.trans0 F34.out).trans0 o5.2); have R5 := Lib.hid (range_keep R0.out ((F23.out.trans0 F34.out).trans0 o5.2) id); have WAH := Lib.hid (fun j e => (WA.out.lt j e).2); have UAH := Lib.hid (fun j e => (UA.out.lt j e)); replace WA := Lib.hid (ownsRow_keep WA.out o5.2 (fun _ _ => id)); obtain ⟨a4, c4, rfl⟩ := WA.out.slice.arg.form; obtain ⟨a5, c5, rfl⟩ := UA.out.slice.arg.form; clear o5 G4 F3); go_frame; clear mk MkN4) | (have mk := MkN5.out; ((with_reducible refine at_dst 32 ?_); refine wpList_vG rfl (exec_load (ty := 30) rfl rfl R5.out uK rK (by rw [XLEN.out]; exact infoHash)) ?_); go_frame; clear mk MkN5) | (have mk := MkN6.out; (go_at_call 20; refine (add_K G5.out (by decide) XOK.out (HP.out.keep F5.out) (by omega)).mono ?_; rintro e w6 ⟨he, V6, g6, f6, s6⟩; rw [AE.out] at he g6; rw [if_pos rfl] at g6; subst he; have M := Lib.hid (show AddC w w2 w6 p V6 (addG G x PS) q0 x from ⟨g6, range_keep R5.out f6 (fun h => by have := LO.out _ h; have := Q0.out; have := F02.out.size; omega), F2.out.trans0 g6.fr⟩); replace WA := Lib.hid (ownsRow_keep WA.out f6 (fun b e h => by have := (WA.out.lt b e).1; have := HI.out b h; omega)); replace UA := Lib.hid (ownsRow_keep UA.out f6 (fun b e h => by have := (UA.out.lt b e).1; have := HI.out b h; have := F34.out.size; omega)); have AW := Lib.hid (show Away w w2 V6 q0 (.slice a4 (ids G).length c4) from ⟨fun j e => ⟨fun h => by have h1 := (WA.out.lt j e).1; have h2 := WAH.out j e; rcases s6 j h with h | h; (have := HI.out j h; omega); (have := F45.out.size; omega), by have h1 := (WA.out.lt j e).1; have := Q0.out; have := F23.out.size; omega, by have h1 := (WA.out.lt j e).1; have := G5.out.fr.size; have := F34.out.size; have := SZ.out; omega⟩, F2.out.size⟩); have AU := Lib.hid (show Away w w2 V6 q0 (.slice a5 (upS G PS).length c5) from ⟨fun j e => ⟨fun h => by have h1 := (UA.out.lt j e).1; have h2 := (UAH.out j e).2; rcases s6 j h with h | h; (have := HI.out j h; have := F34.out.size; omega); omega, by have h1 := (UA.out.lt j e).1; have := Q0.out; have := F23.out.size; have := F34.out.size; omega, by have h1 := (UA.out.lt j e).1; have := F34.out.size; have := SZ.out; omega⟩, F2.out.size⟩); have AWU := Lib.hid (show ∀ j, Value.ownBlock (.slice a4 (ids G).length c4) = some j → Value.ownBlock (.slice a5 (upS G PS).length c5) = some j → False from fun j e1 e2 => by have h1 := WAH.out j e1; have h2 := (UA.out.lt j e2).1; omega); have S6 := Lib.hid (show w5.heap.size ≤ w6.heap.size from f6.size); have P6 := Lib.hid (HP.out.keep (F2.out.trans0 g6.fr)); clear g6 f6 s6); go_frame; clear mk MkN6))
    have GO := Lib.hid G5.out.gok
    have L5 := Lib.hid G5.out.len
    have OKI := Lib.hid G5.out.okId
    have OKU := Lib.hid (G5.out.okUp PS)
    have E1 := Lib.hid (show true = true ↔ ids (addG G x PS) = ids G ++ [x] by simp [ids_add])
    have E2 := Lib.hid (show true = true ↔ upS (addG G x PS) [x] = upS G PS ++ [x] by simp [up_add_new GO.out HIN.out HKN.out])
    have E3 := Lib.hid (show true = true ↔ downS (addG G x PS) [x] = [x] by simp [down_add_new GO.out HIN.out HKN.out])
    have E4 := Lib.hid (show true = true ↔ x ∈ ids (addG G x PS) by simp [ids_add])
    have X1 := Lib.hid (show (ids G ++ [x]).length ≤ 100000 by have := L5.out; simp only [ids, List.length_append, List.length_map, List.length_singleton]; omega)
    have X2 := Lib.hid (show (upS G PS ++ [x]).length ≤ 100000 by have := L5.out; have := up_len (G := G) PS; simp only [List.length_append, List.length_singleton]; omega)
    have X3 := Lib.hid (show (ids (addG G x PS)).length ≤ 100000 by rw [ids_add]; exact X1.out)
    have X4 := Lib.hid (show (upS (addG G x PS) [x]).length ≤ 100000 by rw [up_add_new GO.out HIN.out HKN.out]; exact X2.out)
    have X5 := Lib.hid (show (downS (addG G x PS) [x]).length ≤ 100000 by rw [down_add_new GO.out HIN.out HKN.out]; simp)
    have B6 := Lib.hid (show ∀ j, w6.heap.size ≤ j → ¬ Value.ownBlock (.slice a4 (ids G).length c4) = some j ∧ ¬ Value.ownBlock (.slice a5 (upS G PS).length c5) = some j from fun j h => ⟨fun e => by have := WAH.out j e; have := F45.out.size; have := S6.out; omega, fun e => by have := (UAH.out j e).2; have := S6.out; omega⟩)
    have N80 := Lib.hid L5.out
    have B4 := Lib.hid (show w3.heap.size ≤ w6.heap.size by have := F34.out.size; have := F45.out.size; have := S6.out; omega)
    have B5 := Lib.hid (show w4.heap.size ≤ w6.heap.size by have := F45.out.size; have := S6.out; omega)
    clear GO L5 G5 HP P6 WAH UAH F5 F34 F45 F23 R5 HI LO HL zh F02 F01 F1 F2 R0 F0
    have LB1 := Lib.hid (show (ids G).length ≤ 100 by have := X1.out; have := N80.out; simp only [ids, List.length_map]; omega)
    have LB2 := Lib.hid (show (upS G PS).length ≤ 100 by have := up_len (G := G) PS; have := N80.out; omega)
    have Z6 := Lib.hid (Nat.le_refl w6.heap.size)
    go_upto_region 18 with fail
    have f := Lib.hid ((Fr.refl No w6).drew)
    replace M := Lib.hid (M.out.keep f.out)
    (try replace WA := Lib.hid (ownsRow_keep WA.out f.out (fun _ _ => id)))
    (try replace UA := Lib.hid (ownsRow_keep UA.out f.out (fun _ _ => id)))
    have BS := Lib.hid (show w6.heap.size ≤ w6.drew.heap.size from f.out.size)
    clear f Z6
    refine wp_region_lexT 33 [0, 1, 2, 3, 4, 5, 6, 7, 8, 9, 10, 11, 12, 13, 14, 15, 16, 17, 18, 19, 20, 21, 22, 23, 24, 25, 26, 27, 28, 29, 30, 31, 32] (fun w' => w'.rangeAt q0 0 (hashC x)) (by kernel_rfl) (by kernel_rfl) (by kernel_rfl) (by kernel_rfl) ?_ (fun K hK => ?_)
    · exact M.out.s
    generalize w6.drew = k0 at *
    (((first | (refine lexT_rd 0 (by kernel_rfl) rfl rfl ?_; apply Exists.intro; refine ⟨?_, ?_⟩; (focus (first | exact lex_load (ty := 30) rfl (fun w h => h) uK rK (by rw [XLEN.out]; exact infoHash) | (intro w' hS; obtain h := hS; go_simp; (try with_reducible rfl); done)))) | (refine lexT_sk 0 (by kernel_rfl) rfl rfl ?_)); try simp only [Act.put, List.setIfInBounds_toArray, List.set_cons_zero, List.set_cons_succ]); ((first | (refine lexT_rd 2 (by kernel_rfl) rfl rfl ?_; apply Exists.intro; refine ⟨?_, ?_⟩; (focus (first | exact lex_load (ty := 30) rfl (fun w h => h) uK rK (by rw [XLEN.out]; exact infoHash) | (intro w' hS; obtain h := hS; go_simp; (try with_reducible rfl); done)))) | (refine lexT_sk 2 (by kernel_rfl) rfl rfl ?_)); try simp only [Act.put, List.setIfInBounds_toArray, List.set_cons_zero, List.set_cons_succ]); ((first | (refine lexT_rd 3 (by kernel_rfl) rfl rfl ?_; apply Exists.intro; refine ⟨?_, ?_⟩; (focus (first | exact lex_load (ty := 30) rfl (fun w h => h) uK rK (by rw [XLEN.out]; exact infoHash) | (intro w' hS; obtain h := hS; go_simp; (try with_reducible rfl); done)))) | (refine lexT_sk 3 (by kernel_rfl) rfl rfl ?_)); try simp only [Act.put, List.setIfInBounds_toArray, List.set_cons_zero, List.set_cons_succ]))
    refine lexT_ef2 1 4 (by kernel_rfl) rfl rfl rfl rfl (fun K' hK' => ?_) (fun K' hK' => ?_)
    · have BS0 := BS
      go_simp
      refine (all_K M.out.g (by decide)).mono ?_
      rintro e k1 ⟨va, rfl, o⟩
      have f := Lib.hid o.2
      replace M := Lib.hid (M.out.keep f.out)
      (try replace WA := Lib.hid (ownsRow_keep WA.out f.out (fun _ _ => id)))
      (try replace UA := Lib.hid (ownsRow_keep UA.out f.out (fun _ _ => id)))
      (try replace AI := Lib.hid (ownsRow_keep AI.out f.out (fun _ _ => id)))
      (try replace H1 := Lib.hid (H1.out.keep f.out))
      (try replace H2 := Lib.hid (H2.out.keep f.out))
      (try replace WI := Lib.hid (WI.out.keep f.out))
      (try replace UI := Lib.hid (UI.out.keep f.out))
      replace BS := Lib.hid (Nat.le_trans BS.out f.out.size)
      have AI := Lib.hid (own_base o.1 BS0.out)
      clear f o BS0
      refine hK'.out _ _ ?_ (fun hS => ?_)
      · exact M.out.s
      try simp only [Act.put, List.setIfInBounds_toArray, List.set_cons_zero, List.set_cons_succ]
      clear hS hK' K'
      refine lexT_ef1 4 (by kernel_rfl) rfl rfl (fun K' hK' => ?_)
      refine wp_value (exec_buildSliceA (t := 27) rfl rfl undIds infoHashZ2 rfl (by decide) (by decide) XLEN.out) ?_
      have f := Lib.hid ((Fr.refl No k1).alloc (.cells (hashC x).toArray 30))
      replace M := Lib.hid (M.out.keep f.out)
      (try replace WA := Lib.hid (ownsRow_keep WA.out f.out (fun _ _ => id)))
      (try replace UA := Lib.hid (ownsRow_keep UA.out f.out (fun _ _ => id)))
      (try replace AI := Lib.hid (ownsRow_keep AI.out f.out (fun _ _ => id)))
      (try replace H1 := Lib.hid (H1.out.keep f.out))
      (try replace H2 := Lib.hid (H2.out.keep f.out))
      (try replace WI := Lib.hid (WI.out.keep f.out))
      (try replace UI := Lib.hid (UI.out.keep f.out))
      replace BS := Lib.hid (Nat.le_trans BS.out f.out.size)
      have H1 := Lib.hid (ids_new1 k1 XOK.out)
      clear f
      refine hK'.out _ _ ?_ (fun hS => ?_)
      · exact M.out.s
      try simp only [Act.put, List.setIfInBounds_toArray, List.set_cons_zero, List.set_cons_succ]
      clear hS hK' K'
      generalize k1.alloc (.cells (hashC x).toArray 30) = k2 at *
      generalize k1.heap.size = q3 at *
      refine lexT_ef1 5 (by kernel_rfl) rfl rfl (fun K' hK' => ?_)
      obtain ⟨va2, k4, ap, oo, ff⟩ := append_ids k2 WA.out H1.out (by have := LB1.out; simp only [List.length_singleton]; omega) (Nat.le_trans B4.out BS.out)
      refine wp_append_run rfl rfl rfl ap ?_
      replace M := Lib.hid (M.out.away AW.out ff)
      replace AI := Lib.hid (ownsRow_keep AI.out ff (fun b e h => (B6.out b (AI.out.lt b e).1).1 h))
      replace UA := Lib.hid (ownsRow_keep UA.out ff (fun b e h => AWU.out b h e))
      have WI := Lib.hid (IdsIs.own oo (by intro c hc; rcases List.mem_append.1 hc with h | h; exact OKI.out c h; rw [List.mem_singleton.1 h]; exact XOK.out))
      replace BS := Lib.hid (Nat.le_trans BS.out ff.size)
      clear ap oo ff WA H1
      refine hK'.out _ _ ?_ (fun hS => ?_)
      · exact M.out.s
      try simp only [Act.put, List.setIfInBounds_toArray, List.set_cons_zero, List.set_cons_succ]
      clear hS hK' K'
      refine lexT_ef1 6 (by kernel_rfl) rfl rfl (fun K' hK' => ?_)
      go_simp
      refine (same_b (IdsIs.own AI.out M.out.g.okId) WI.out X3.out X1.out E1.out).mono ?_
      rintro e k5 ⟨rfl, f0⟩
      have f := Lib.hid f0
      replace M := Lib.hid (M.out.keep f.out)
      (try replace WA := Lib.hid (ownsRow_keep WA.out f.out (fun _ _ => id)))
      (try replace UA := Lib.hid (ownsRow_keep UA.out f.out (fun _ _ => id)))
      (try replace AI := Lib.hid (ownsRow_keep AI.out f.out (fun _ _ => id)))
      (try replace H1 := Lib.hid (H1.out.keep f.out))
      (try replace H2 := Lib.hid (H2.out.keep f.out))
      (try replace WI := Lib.hid (WI.out.keep f.out))
      (try replace UI := Lib.hid (UI.out.keep f.out))
      replace BS := Lib.hid (Nat.le_trans BS.out f.out.size)
      clear f f0 AI WI
      refine hK'.out _ _ ?_ (fun hS => ?_)
      · exact M.out.s
      try simp only [Act.put, List.setIfInBounds_toArray, List.set_cons_zero, List.set_cons_succ]
      clear hS hK' K'
      (((first | (refine lexT_rd 7 (by kernel_rfl) rfl rfl ?_; apply Exists.intro; refine ⟨?_, ?_⟩; (focus (first | exact lex_load (ty := 30) rfl (fun w h => h) uK rK (by rw [XLEN.out]; exact infoHash) | (intro w' hS; obtain h := hS; go_simp; (try with_reducible rfl); done)))) | (refine lexT_sk 7 (by kernel_rfl) rfl rfl ?_)); try simp only [Act.put, List.setIfInBounds_toArray, List.set_cons_zero, List.set_cons_succ]); ((first | (refine lexT_rd 8 (by kernel_rfl) rfl rfl ?_; apply Exists.intro; refine ⟨?_, ?_⟩; (focus (first | exact lex_load (ty := 30) rfl (fun w h => h) uK rK (by rw [XLEN.out]; exact infoHash) | (intro w' hS; obtain h := hS; go_simp; (try with_reducible rfl); done)))) | (refine lexT_sk 8 (by kernel_rfl) rfl rfl ?_)); try simp only [Act.put, List.setIfInBounds_toArray, List.set_cons_zero, List.set_cons_succ]); ((first | (refine lexT_rd 9 (by kernel_rfl) rfl rfl ?_; apply Exists.intro; refine ⟨?_, ?_⟩; (focus (first | exact lex_load (ty := 30) rfl (fun w h => h) uK rK (by rw [XLEN.out]; exact infoHash) | (intro w' hS; obtain h := hS; go_simp; (try with_reducible rfl); done)))) | (refine lexT_sk 9 (by kernel_rfl) rfl rfl ?_)); try simp only [Act.put, List.setIfInBounds_toArray, List.set_cons_zero, List.set_cons_succ]); ((first | (refine lexT_rd 12 (by kernel_rfl) rfl rfl ?_; apply Exists.intro; refine ⟨?_, ?_⟩; (focus (first | exact lex_load (ty := 30) rfl (fun w h => h) uK rK (by rw [XLEN.out]; exact infoHash) | (intro w' hS; obtain h := hS; go_simp; (try with_reducible rfl); done)))) | (refine lexT_sk 12 (by kernel_rfl) rfl rfl ?_)); try simp only [Act.put, List.setIfInBounds_toArray, List.set_cons_zero, List.set_cons_succ]); ((first | (refine lexT_rd 13 (by kernel_rfl) rfl rfl ?_; apply Exists.intro; refine ⟨?_, ?_⟩; (focus (first | exact lex_load (ty := 30) rfl (fun w h => h) uK rK (by rw [XLEN.out]; exact infoHash) | (intro w' hS; obtain h := hS; go_simp; (try with_reducible rfl); done)))) | (refine lexT_sk 13 (by kernel_rfl) rfl rfl ?_)); try simp only [Act.put, List.setIfInBounds_toArray, List.set_cons_zero, List.set_cons_succ]))
      refine lexT_ef2 10 14 (by kernel_rfl) rfl rfl rfl rfl (fun K' hK' => ?_) (fun K' hK' => ?_)
      · refine wp_value (exec_buildSliceA (t := 27) rfl rfl undIds infoHashZ2 rfl (by decide) (by decide) XLEN.out) ?_
        have f := Lib.hid ((Fr.refl No k5).alloc (.cells (hashC x).toArray 30))
        replace M := Lib.hid (M.out.keep f.out)
        (try replace WA := Lib.hid (ownsRow_keep WA.out f.out (fun _ _ => id)))
        (try replace UA := Lib.hid (ownsRow_keep UA.out f.out (fun _ _ => id)))
        (try replace AI := Lib.hid (ownsRow_keep AI.out f.out (fun _ _ => id)))
        (try replace H1 := Lib.hid (H1.out.keep f.out))
        (try replace H2 := Lib.hid (H2.out.keep f.out))
        (try replace WI := Lib.hid (WI.out.keep f.out))
        (try replace UI := Lib.hid (UI.out.keep f.out))
        replace BS := Lib.hid (Nat.le_trans BS.out f.out.size)
        have H1 := Lib.hid (ids_new1 k5 XOK.out)
        clear f
        refine hK'.out _ _ ?_ (fun hS => ?_)
        · exact M.out.s
        try simp only [Act.put, List.setIfInBounds_toArray, List.set_cons_zero, List.set_cons_succ]
        clear hS hK' K'
        generalize k5.alloc (.cells (hashC x).toArray 30) = k6 at *
        generalize k5.heap.size = q7 at *
        refine lexT_ef2 11 14 (by kernel_rfl) rfl rfl rfl rfl (fun K' hK' => ?_) (fun K' hK' => ?_)
        · have BS0 := BS
          go_simp
          refine (up_K M.out.g (by decide) H1.out (by simp)).mono ?_
          rintro e k8 ⟨va, rfl, o⟩
          have f := Lib.hid o.2
          replace M := Lib.hid (M.out.keep f.out)
          (try replace WA := Lib.hid (ownsRow_keep WA.out f.out (fun _ _ => id)))
          (try replace UA := Lib.hid (ownsRow_keep UA.out f.out (fun _ _ => id)))
          (try replace AI := Lib.hid (ownsRow_keep AI.out f.out (fun _ _ => id)))
          (try replace H1 := Lib.hid (H1.out.keep f.out))
          (try replace H2 := Lib.hid (H2.out.keep f.out))
          (try replace WI := Lib.hid (WI.out.keep f.out))
          (try replace UI := Lib.hid (UI.out.keep f.out))
          replace BS := Lib.hid (Nat.le_trans BS.out f.out.size)
          have AI := Lib.hid (own_base o.1 BS0.out)
          clear f o BS0
          refine hK'.out _ _ ?_ (fun hS => ?_)
          · exact M.out.s
          try simp only [Act.put, List.setIfInBounds_toArray, List.set_cons_zero, List.set_cons_succ]
          clear hS hK' K'
          refine lexT_ef1 14 (by kernel_rfl) rfl rfl (fun K' hK' => ?_)
          refine wp_value (exec_buildSliceA (t := 27) rfl rfl undIds infoHashZ2 rfl (by decide) (by decide) XLEN.out) ?_
          have f := Lib.hid ((Fr.refl No k8).alloc (.cells (hashC x).toArray 30))
          replace M := Lib.hid (M.out.keep f.out)
          (try replace WA := Lib.hid (ownsRow_keep WA.out f.out (fun _ _ => id)))
          (try replace UA := Lib.hid (ownsRow_keep UA.out f.out (fun _ _ => id)))
          (try replace AI := Lib.hid (ownsRow_keep AI.out f.out (fun _ _ => id)))
          (try replace H1 := Lib.hid (H1.out.keep f.out))
          (try replace H2 := Lib.hid (H2.out.keep f.out))
          (try replace WI := Lib.hid (WI.out.keep f.out))
          (try replace UI := Lib.hid (UI.out.keep f.out))
          replace BS := Lib.hid (Nat.le_trans BS.out f.out.size)
          have H2 := Lib.hid (ids_new1 k8 XOK.out)
          clear f
          refine hK'.out _ _ ?_ (fun hS => ?_)
          · exact M.out.s
          try simp only [Act.put, List.setIfInBounds_toArray, List.set_cons_zero, List.set_cons_succ]
          clear hS hK' K'
          generalize k8.alloc (.cells (hashC x).toArray 30) = k9 at *
          generalize k8.heap.size = q10 at *
          refine lexT_ef1 15 (by kernel_rfl) rfl rfl (fun K' hK' => ?_)
          obtain ⟨va2, k11, ap, oo, ff⟩ := append_ids k9 UA.out H2.out (by have := LB2.out; simp only [List.length_singleton]; omega) (Nat.le_trans B5.out BS.out)
          refine wp_append_run rfl rfl rfl ap ?_
          replace M := Lib.hid (M.out.away AU.out ff)
          replace AI := Lib.hid (ownsRow_keep AI.out ff (fun b e h => (B6.out b (AI.out.lt b e).1).2 h))
          have UI := Lib.hid (IdsIs.own oo (by intro c hc; rcases List.mem_append.1 hc with h | h; exact OKU.out c h; rw [List.mem_singleton.1 h]; exact XOK.out))
          replace BS := Lib.hid (Nat.le_trans BS.out ff.size)
          clear ap oo ff UA H2
          refine hK'.out _ _ ?_ (fun hS => ?_)
          · exact M.out.s
          try simp only [Act.put, List.setIfInBounds_toArray, List.set_cons_zero, List.set_cons_succ]
          clear hS hK' K'
          refine lexT_ef1 16 (by kernel_rfl) rfl rfl (fun K' hK' => ?_)
          go_simp
          refine (same_b (IdsIs.own AI.out (M.out.g.okUp _)) UI.out X4.out X2.out E2.out).mono ?_
          rintro e k12 ⟨rfl, f0⟩
          have f := Lib.hid f0
          replace M := Lib.hid (M.out.keep f.out)
          (try replace WA := Lib.hid (ownsRow_keep WA.out f.out (fun _ _ => id)))
          (try replace UA := Lib.hid (ownsRow_keep UA.out f.out (fun _ _ => id)))
          (try replace AI := Lib.hid (ownsRow_keep AI.out f.out (fun _ _ => id)))
          (try replace H1 := Lib.hid (H1.out.keep f.out))
          (try replace H2 := Lib.hid (H2.out.keep f.out))
          (try replace WI := Lib.hid (WI.out.keep f.out))
          (try replace UI := Lib.hid (UI.out.keep f.out))
          replace BS := Lib.hid (Nat.le_trans BS.out f.out.size)
          clear f f0 AI UI
          refine hK'.out _ _ ?_ (fun hS => ?_)
          · exact M.out.s
          try simp only [Act.put, List.setIfInBounds_toArray, List.set_cons_zero, List.set_cons_succ]
          clear hS hK' K'
          (((first | (refine lexT_rd 17 (by kernel_rfl) rfl rfl ?_; apply Exists.intro; refine ⟨?_, ?_⟩; (focus (first | exact lex_load (ty := 30) rfl (fun w h => h) uK rK (by rw [XLEN.out]; exact infoHash) | (intro w' hS; obtain h := hS; go_simp; (try with_reducible rfl); done)))) | (refine lexT_sk 17 (by kernel_rfl) rfl rfl ?_)); try simp only [Act.put, List.setIfInBounds_toArray, List.set_cons_zero, List.set_cons_succ]); ((first | (refine lexT_rd 18 (by kernel_rfl) rfl rfl ?_; apply Exists.intro; refine ⟨?_, ?_⟩; (focus (first | exact lex_load (ty := 30) rfl (fun w h => h) uK rK (by rw [XLEN.out]; exact infoHash) | (intro w' hS; obtain h := hS; go_simp; (try with_reducible rfl); done)))) | (refine lexT_sk 18 (by kernel_rfl) rfl rfl ?_)); try simp only [Act.put, List.setIfInBounds_toArray, List.set_cons_zero, List.set_cons_succ]); ((first | (refine lexT_rd 19 (by kernel_rfl) rfl rfl ?_; apply Exists.intro; refine ⟨?_, ?_⟩; (focus (first | exact lex_load (ty := 30) rfl (fun w h => h) uK rK (by rw [XLEN.out]; exact infoHash) | (intro w' hS; obtain h := hS; go_simp; (try with_reducible rfl); done)))) | (refine lexT_sk 19 (by kernel_rfl) rfl rfl ?_)); try simp only [Act.put, List.setIfInBounds_toArray, List.set_cons_zero, List.set_cons_succ]); ((first | (refine lexT_rd 20 (by kernel_rfl) rfl rfl ?_; apply Exists.intro; refine ⟨?_, ?_⟩; (focus (first | exact lex_load (ty := 30) rfl (fun w h => h) uK rK (by rw [XLEN.out]; exact infoHash) | (intro w' hS; obtain h := hS; go_simp; (try with_reducible rfl); done)))) | (refine lexT_sk 20 (by kernel_rfl) rfl rfl ?_)); try simp only [Act.put, List.setIfInBounds_toArray, List.set_cons_zero, List.set_cons_succ]); ((first | (refine lexT_rd 23 (by kernel_rfl) rfl rfl ?_; apply Exists.intro; refine ⟨?_, ?_⟩; (focus (first | exact lex_load (ty := 30) rfl (fun w h => h) uK rK (by rw [XLEN.out]; exact infoHash) | (intro w' hS; obtain h := hS; go_simp; (try with_reducible rfl); done)))) | (refine lexT_sk 23 (by kernel_rfl) rfl rfl ?_)); try simp only [Act.put, List.setIfInBounds_toArray, List.set_cons_zero, List.set_cons_succ]))
          refine lexT_ef2 21 24 (by kernel_rfl) rfl rfl rfl rfl (fun K' hK' => ?_) (fun K' hK' => ?_)
          · refine wp_value (exec_buildSliceA (t := 27) rfl rfl undIds infoHashZ2 rfl (by decide) (by decide) XLEN.out) ?_
            have f := Lib.hid ((Fr.refl No k12).alloc (.cells (hashC x).toArray 30))
            replace M := Lib.hid (M.out.keep f.out)
            (try replace WA := Lib.hid (ownsRow_keep WA.out f.out (fun _ _ => id)))
            (try replace UA := Lib.hid (ownsRow_keep UA.out f.out (fun _ _ => id)))
            (try replace AI := Lib.hid (ownsRow_keep AI.out f.out (fun _ _ => id)))
            (try replace H1 := Lib.hid (H1.out.keep f.out))
            (try replace H2 := Lib.hid (H2.out.keep f.out))
            (try replace WI := Lib.hid (WI.out.keep f.out))
            (try replace UI := Lib.hid (UI.out.keep f.out))
            replace BS := Lib.hid (Nat.le_trans BS.out f.out.size)
            have H1 := Lib.hid (ids_new1 k12 XOK.out)
            clear f
            refine hK'.out _ _ ?_ (fun hS => ?_)
            · exact M.out.s
            try simp only [Act.put, List.setIfInBounds_toArray, List.set_cons_zero, List.set_cons_succ]
            clear hS hK' K'
            generalize k12.alloc (.cells (hashC x).toArray 30) = k13 at *
            generalize k12.heap.size = q14 at *
            refine lexT_ef2 22 24 (by kernel_rfl) rfl rfl rfl rfl (fun K' hK' => ?_) (fun K' hK' => ?_)
            · have BS0 := BS
              go_simp
              refine (down_K M.out.g (by decide) H1.out (by simp)).mono ?_
              rintro e k15 ⟨va, rfl, o⟩
              have f := Lib.hid o.2
              replace M := Lib.hid (M.out.keep f.out)
              (try replace WA := Lib.hid (ownsRow_keep WA.out f.out (fun _ _ => id)))
              (try replace UA := Lib.hid (ownsRow_keep UA.out f.out (fun _ _ => id)))
              (try replace AI := Lib.hid (ownsRow_keep AI.out f.out (fun _ _ => id)))
              (try replace H1 := Lib.hid (H1.out.keep f.out))
              (try replace H2 := Lib.hid (H2.out.keep f.out))
              (try replace WI := Lib.hid (WI.out.keep f.out))
              (try replace UI := Lib.hid (UI.out.keep f.out))
              replace BS := Lib.hid (Nat.le_trans BS.out f.out.size)
              have AI := Lib.hid (own_base o.1 BS0.out)
              clear f o BS0
              refine hK'.out _ _ ?_ (fun hS => ?_)
              · exact M.out.s
              try simp only [Act.put, List.setIfInBounds_toArray, List.set_cons_zero, List.set_cons_succ]
              clear hS hK' K'
              refine lexT_ef1 24 (by kernel_rfl) rfl rfl (fun K' hK' => ?_)
              refine wp_value (exec_buildSliceA (t := 27) rfl rfl undIds infoHashZ2 rfl (by decide) (by decide) XLEN.out) ?_
              have f := Lib.hid ((Fr.refl No k15).alloc (.cells (hashC x).toArray 30))
              replace M := Lib.hid (M.out.keep f.out)
              (try replace WA := Lib.hid (ownsRow_keep WA.out f.out (fun _ _ => id)))
              (try replace UA := Lib.hid (ownsRow_keep UA.out f.out (fun _ _ => id)))
              (try replace AI := Lib.hid (ownsRow_keep AI.out f.out (fun _ _ => id)))
              (try replace H1 := Lib.hid (H1.out.keep f.out))
              (try replace H2 := Lib.hid (H2.out.keep f.out))
              (try replace WI := Lib.hid (WI.out.keep f.out))
              (try replace UI := Lib.hid (UI.out.keep f.out))
              replace BS := Lib.hid (Nat.le_trans BS.out f.out.size)
              have H2 := Lib.hid (ids_new1 k15 XOK.out)
              clear f
              refine hK'.out _ _ ?_ (fun hS => ?_)
              · exact M.out.s
              try simp only [Act.put, List.setIfInBounds_toArray, List.set_cons_zero, List.set_cons_succ]
              clear hS hK' K'
              generalize k15.alloc (.cells (hashC x).toArray 30) = k16 at *
              generalize k15.heap.size = q17 at *
              refine lexT_ef1 25 (by kernel_rfl) rfl rfl (fun K' hK' => ?_)
              go_simp
              refine (same_b (IdsIs.own AI.out (M.out.g.okDown _)) H2.out X5.out (show ([x] : List HashD).length ≤ 100000 by simp) E3.out).mono ?_
              rintro e k18 ⟨rfl, f0⟩
              have f := Lib.hid f0
              replace M := Lib.hid (M.out.keep f.out)
              (try replace WA := Lib.hid (ownsRow_keep WA.out f.out (fun _ _ => id)))
              (try replace UA := Lib.hid (ownsRow_keep UA.out f.out (fun _ _ => id)))
              (try replace AI := Lib.hid (ownsRow_keep AI.out f.out (fun _ _ => id)))
              (try replace H1 := Lib.hid (H1.out.keep f.out))
              (try replace H2 := Lib.hid (H2.out.keep f.out))
              (try replace WI := Lib.hid (WI.out.keep f.out))
              (try replace UI := Lib.hid (UI.out.keep f.out))
              replace BS := Lib.hid (Nat.le_trans BS.out f.out.size)
              clear f f0 AI H2
              refine hK'.out _ _ ?_ (fun hS => ?_)
              · exact M.out.s
              try simp only [Act.put, List.setIfInBounds_toArray, List.set_cons_zero, List.set_cons_succ]
              clear hS hK' K'
              (((first | (refine lexT_rd 26 (by kernel_rfl) rfl rfl ?_; apply Exists.intro; refine ⟨?_, ?_⟩; (focus (first | exact lex_load (ty := 30) rfl (fun w h => h) uK rK (by rw [XLEN.out]; exact infoHash) | (intro w' hS; obtain h := hS; go_simp; (try with_reducible rfl); done)))) | (refine lexT_sk 26 (by kernel_rfl) rfl rfl ?_)); try simp only [Act.put, List.setIfInBounds_toArray, List.set_cons_zero, List.set_cons_succ]); ((first | (refine lexT_rd 27 (by kernel_rfl) rfl rfl ?_; apply Exists.intro; refine ⟨?_, ?_⟩; (focus (first | exact lex_load (ty := 30) rfl (fun w h => h) uK rK (by rw [XLEN.out]; exact infoHash) | (intro w' hS; obtain h := hS; go_simp; (try with_reducible rfl); done)))) | (refine lexT_sk 27 (by kernel_rfl) rfl rfl ?_)); try simp only [Act.put, List.setIfInBounds_toArray, List.set_cons_zero, List.set_cons_succ]); ((first | (refine lexT_rd 28 (by kernel_rfl) rfl rfl ?_; apply Exists.intro; refine ⟨?_, ?_⟩; (focus (first | exact lex_load (ty := 30) rfl (fun w h => h) uK rK (by rw [XLEN.out]; exact infoHash) | (intro w' hS; obtain h := hS; go_simp; (try with_reducible rfl); done)))) | (refine lexT_sk 28 (by kernel_rfl) rfl rfl ?_)); try simp only [Act.put, List.setIfInBounds_toArray, List.set_cons_zero, List.set_cons_succ]); ((first | (refine lexT_rd 29 (by kernel_rfl) rfl rfl ?_; apply Exists.intro; refine ⟨?_, ?_⟩; (focus (first | exact lex_load (ty := 30) rfl (fun w h => h) uK rK (by rw [XLEN.out]; exact infoHash) | (intro w' hS; obtain h := hS; go_simp; (try with_reducible rfl); done)))) | (refine lexT_sk 29 (by kernel_rfl) rfl rfl ?_)); try simp only [Act.put, List.setIfInBounds_toArray, List.set_cons_zero, List.set_cons_succ]))
              refine lexT_ef1 30 (by kernel_rfl) rfl rfl (fun K' hK' => ?_)
              go_simp
              refine (has_g M.out.g XOK.out E4.out).mono ?_
              rintro e k19 ⟨rfl, f0⟩
              have f := Lib.hid f0
              replace M := Lib.hid (M.out.keep f.out)
              (try replace WA := Lib.hid (ownsRow_keep WA.out f.out (fun _ _ => id)))
              (try replace UA := Lib.hid (ownsRow_keep UA.out f.out (fun _ _ => id)))
              (try replace AI := Lib.hid (ownsRow_keep AI.out f.out (fun _ _ => id)))
              (try replace H1 := Lib.hid (H1.out.keep f.out))
              (try replace H2 := Lib.hid (H2.out.keep f.out))
              (try replace WI := Lib.hid (WI.out.keep f.out))
              (try replace UI := Lib.hid (UI.out.keep f.out))
              replace BS := Lib.hid (Nat.le_trans BS.out f.out.size)
              clear f f0
              refine hK'.out _ _ ?_ (fun hS => ?_)
              · exact M.out.s
              try simp only [Act.put, List.setIfInBounds_toArray, List.set_cons_zero, List.set_cons_succ]
              clear hS hK' K'
              (((first | (refine lexT_rd 31 (by kernel_rfl) rfl rfl ?_; apply Exists.intro; refine ⟨?_, ?_⟩; (focus (first | exact lex_load (ty := 30) rfl (fun w h => h) uK rK (by rw [XLEN.out]; exact infoHash) | (intro w' hS; obtain h := hS; go_simp; (try with_reducible rfl); done)))) | (refine lexT_sk 31 (by kernel_rfl) rfl rfl ?_)); try simp only [Act.put, List.setIfInBounds_toArray, List.set_cons_zero, List.set_cons_succ]); ((first | (refine lexT_rd 32 (by kernel_rfl) rfl rfl ?_; apply Exists.intro; refine ⟨?_, ?_⟩; (focus (first | exact lex_load (ty := 30) rfl (fun w h => h) uK rK (by rw [XLEN.out]; exact infoHash) | (intro w' hS; obtain h := hS; go_simp; (try with_reducible rfl); done)))) | (refine lexT_sk 32 (by kernel_rfl) rfl rfl ?_)); try simp only [Act.put, List.setIfInBounds_toArray, List.set_cons_zero, List.set_cons_succ]))
              refine lexT_nil (hK.out _ _ ?_)
              go_wp2
              go_ret
              exact ⟨rfl, M.out.f⟩
            · refine wp_value (exec_buildSliceA (t := 27) rfl rfl undIds infoHashZ2 rfl (by decide) (by decide) XLEN.out) ?_
              have f := Lib.hid ((Fr.refl No k13).alloc (.cells (hashC x).toArray 30))
              replace M := Lib.hid (M.out.keep f.out)
              (try replace WA := Lib.hid (ownsRow_keep WA.out f.out (fun _ _ => id)))
              (try replace UA := Lib.hid (ownsRow_keep UA.out f.out (fun _ _ => id)))
              (try replace AI := Lib.hid (ownsRow_keep AI.out f.out (fun _ _ => id)))
              (try replace H1 := Lib.hid (H1.out.keep f.out))
              (try replace H2 := Lib.hid (H2.out.keep f.out))
              (try replace WI := Lib.hid (WI.out.keep f.out))
              (try replace UI := Lib.hid (UI.out.keep f.out))
              replace BS := Lib.hid (Nat.le_trans BS.out f.out.size)
              have H2 := Lib.hid (ids_new1 k13 XOK.out)
              clear f
              refine hK'.out _ _ ?_ (fun hS => ?_)
              · exact M.out.s
              try simp only [Act.put, List.setIfInBounds_toArray, List.set_cons_zero, List.set_cons_succ]
              clear hS hK' K'
              generalize k13.alloc (.cells (hashC x).toArray 30) = k20 at *
              generalize k13.heap.size = q21 at *
              refine lexT_ef1 22 (by kernel_rfl) rfl rfl (fun K' hK' => ?_)
              have BS0 := BS
              go_simp
              refine (down_K M.out.g (by decide) H1.out (by simp)).mono ?_
              rintro e k22 ⟨va, rfl, o⟩
              have f := Lib.hid o.2
              replace M := Lib.hid (M.out.keep f.out)
              (try replace WA := Lib.hid (ownsRow_keep WA.out f.out (fun _ _ => id)))
              (try replace UA := Lib.hid (ownsRow_keep UA.out f.out (fun _ _ => id)))
              (try replace AI := Lib.hid (ownsRow_keep AI.out f.out (fun _ _ => id)))
              (try replace H1 := Lib.hid (H1.out.keep f.out))
              (try replace H2 := Lib.hid (H2.out.keep f.out))
              (try replace WI := Lib.hid (WI.out.keep f.out))
              (try replace UI := Lib.hid (UI.out.keep f.out))
              replace BS := Lib.hid (Nat.le_trans BS.out f.out.size)
              have AI := Lib.hid (own_base o.1 BS0.out)
              clear f o BS0
              refine hK'.out _ _ ?_ (fun hS => ?_)
              · exact M.out.s
              try simp only [Act.put, List.setIfInBounds_toArray, List.set_cons_zero, List.set_cons_succ]
              clear hS hK' K'
              refine lexT_ef1 25 (by kernel_rfl) rfl rfl (fun K' hK' => ?_)
              go_simp
              refine (same_b (IdsIs.own AI.out (M.out.g.okDown _)) H2.out X5.out (show ([x] : List HashD).length ≤ 100000 by simp) E3.out).mono ?_
              rintro e k23 ⟨rfl, f0⟩
              have f := Lib.hid f0
              replace M := Lib.hid (M.out.keep f.out)
              (try replace WA := Lib.hid (ownsRow_keep WA.out f.out (fun _ _ => id)))
              (try replace UA := Lib.hid (ownsRow_keep UA.out f.out (fun _ _ => id)))
              (try replace AI := Lib.hid (ownsRow_keep AI.out f.out (fun _ _ => id)))
              (try replace H1 := Lib.hid (H1.out.keep f.out))
              (try replace H2 := Lib.hid (H2.out.keep f.out))
              (try replace WI := Lib.hid (WI.out.keep f.out))
              (try replace UI := Lib.hid (UI.out.keep f.out))
              replace BS := Lib.hid (Nat.le_trans BS.out f.out.size)
              clear f f0 AI H2
              refine hK'.out _ _ ?_ (fun hS => ?_)
              · exact M.out.s
              try simp only [Act.put, List.setIfInBounds_toArray, List.set_cons_zero, List.set_cons_succ]
              clear hS hK' K'
              (((first | (refine lexT_rd 26 (by kernel_rfl) rfl rfl ?_; apply Exists.intro; refine ⟨?_, ?_⟩; (focus (first | exact lex_load (ty := 30) rfl (fun w h => h) uK rK (by rw [XLEN.out]; exact infoHash) | (intro w' hS; obtain h := hS; go_simp; (try with_reducible rfl); done)))) | (refine lexT_sk 26 (by kernel_rfl) rfl rfl ?_)); try simp only [Act.put, List.setIfInBounds_toArray, List.set_cons_zero, List.set_cons_succ]); ((first | (refine lexT_rd 27 (by kernel_rfl) rfl rfl ?_; apply Exists.intro; refine ⟨?_, ?_⟩; (focus (first | exact lex_load (ty := 30) rfl (fun w h => h) uK rK (by rw [XLEN.out]; exact infoHash) | (intro w' hS; obtain h := hS; go_simp; (try with_reducible rfl); done)))) | (refine lexT_sk 27 (by kernel_rfl) rfl rfl ?_)); try simp only [Act.put, List.setIfInBounds_toArray, List.set_cons_zero, List.set_cons_succ]); ((first | (refine lexT_rd 28 (by kernel_rfl) rfl rfl ?_; apply Exists.intro; refine ⟨?_, ?_⟩; (focus (first | exact lex_load (ty := 30) rfl (fun w h => h) uK rK (by rw [XLEN.out]; exact infoHash) | (intro w' hS; obtain h := hS; go_simp; (try with_reducible rfl); done)))) | (refine lexT_sk 28 (by kernel_rfl) rfl rfl ?_)); try simp only [Act.put, List.setIfInBounds_toArray, List.set_cons_zero, List.set_cons_succ]); ((first | (refine lexT_rd 29 (by kernel_rfl) rfl rfl ?_; apply Exists.intro; refine ⟨?_, ?_⟩; (focus (first | exact lex_load (ty := 30) rfl (fun w h => h) uK rK (by rw [XLEN.out]; exact infoHash) | (intro w' hS; obtain h := hS; go_simp; (try with_reducible rfl); done)))) | (refine lexT_sk 29 (by kernel_rfl) rfl rfl ?_)); try simp only [Act.put, List.setIfInBounds_toArray, List.set_cons_zero, List.set_cons_succ]))
              refine lexT_ef1 30 (by kernel_rfl) rfl rfl (fun K' hK' => ?_)
              go_simp
              refine (has_g M.out.g XOK.out E4.out).mono ?_
              rintro e k24 ⟨rfl, f0⟩
              have f := Lib.hid f0
              replace M := Lib.hid (M.out.keep f.out)
              (try replace WA := Lib.hid (ownsRow_keep WA.out f.out (fun _ _ => id)))
              (try replace UA := Lib.hid (ownsRow_keep UA.out f.out (fun _ _ => id)))
              (try replace AI := Lib.hid (ownsRow_keep AI.out f.out (fun _ _ => id)))
              (try replace H1 := Lib.hid (H1.out.keep f.out))
              (try replace H2 := Lib.hid (H2.out.keep f.out))
              (try replace WI := Lib.hid (WI.out.keep f.out))
              (try replace UI := Lib.hid (UI.out.keep f.out))
              replace BS := Lib.hid (Nat.le_trans BS.out f.out.size)
              clear f f0
              refine hK'.out _ _ ?_ (fun hS => ?_)
              · exact M.out.s
              try simp only [Act.put, List.setIfInBounds_toArray, List.set_cons_zero, List.set_cons_succ]
              clear hS hK' K'
              (((first | (refine lexT_rd 31 (by kernel_rfl) rfl rfl ?_; apply Exists.intro; refine ⟨?_, ?_⟩; (focus (first | exact lex_load (ty := 30) rfl (fun w h => h) uK rK (by rw [XLEN.out]; exact infoHash) | (intro w' hS; obtain h := hS; go_simp; (try with_reducible rfl); done)))) | (refine lexT_sk 31 (by kernel_rfl) rfl rfl ?_)); try simp only [Act.put, List.setIfInBounds_toArray, List.set_cons_zero, List.set_cons_succ]); ((first | (refine lexT_rd 32 (by kernel_rfl) rfl rfl ?_; apply Exists.intro; refine ⟨?_, ?_⟩; (focus (first | exact lex_load (ty := 30) rfl (fun w h => h) uK rK (by rw [XLEN.out]; exact infoHash) | (intro w' hS; obtain h := hS; go_simp; (try with_reducible rfl); done)))) | (refine lexT_sk 32 (by kernel_rfl) rfl rfl ?_)); try simp only [Act.put, List.setIfInBounds_toArray, List.set_cons_zero, List.set_cons_succ]))
              refine lexT_nil (hK.out _ _ ?_)
              go_wp2
              go_ret
              exact ⟨rfl, M.out.f⟩
          · refine wp_value (exec_buildSliceA (t := 27) rfl rfl undIds infoHashZ2 rfl (by decide) (by decide) XLEN.out) ?_
            have f := Lib.hid ((Fr.refl No k12).alloc (.cells (hashC x).toArray 30))
            replace M := Lib.hid (M.out.keep f.out)
            (try replace WA := Lib.hid (ownsRow_keep WA.out f.out (fun _ _ => id)))
            (try replace UA := Lib.hid (ownsRow_keep UA.out f.out (fun _ _ => id)))
            (try replace AI := Lib.hid (ownsRow_keep AI.out f.out (fun _ _ => id)))
            (try replace H1 := Lib.hid (H1.out.keep f.out))
            (try replace H2 := Lib.hid (H2.out.keep f.out))
            (try replace WI := Lib.hid (WI.out.keep f.out))
            (try replace UI := Lib.hid (UI.out.keep f.out))
            replace BS := Lib.hid (Nat.le_trans BS.out f.out.size)
            have H2 := Lib.hid (ids_new1 k12 XOK.out)
            clear f
            refine hK'.out _ _ ?_ (fun hS => ?_)
            · exact M.out.s
            try simp only [Act.put, List.setIfInBounds_toArray, List.set_cons_zero, List.set_cons_succ]
            clear hS hK' K'
            generalize k12.alloc (.cells (hashC x).toArray 30) = k25 at *
            generalize k12.heap.size = q26 at *
            refine lexT_ef1 21 (by kernel_rfl) rfl rfl (fun K' hK' => ?_)
            refine wp_value (exec_buildSliceA (t := 27) rfl rfl undIds infoHashZ2 rfl (by decide) (by decide) XLEN.out) ?_
            have f := Lib.hid ((Fr.refl No k25).alloc (.cells (hashC x).toArray 30))
            replace M := Lib.hid (M.out.keep f.out)
            (try replace WA := Lib.hid (ownsRow_keep WA.out f.out (fun _ _ => id)))
            (try replace UA := Lib.hid (ownsRow_keep UA.out f.out (fun _ _ => id)))
            (try replace AI := Lib.hid (ownsRow_keep AI.out f.out (fun _ _ => id)))
            (try replace H1 := Lib.hid (H1.out.keep f.out))
            (try replace H2 := Lib.hid (H2.out.keep f.out))
            (try replace WI := Lib.hid (WI.out.keep f.out))
            (try replace UI := Lib.hid (UI.out.keep f.out))
            replace BS := Lib.hid (Nat.le_trans BS.out f.out.size)
            have H1 := Lib.hid (ids_new1 k25 XOK.out)
            clear f
            refine hK'.out _ _ ?_ (fun hS => ?_)
            · exact M.out.s
            try simp only [Act.put, List.setIfInBounds_toArray, List.set_cons_zero, List.set_cons_succ]
            clear hS hK' K'
            generalize k25.alloc (.cells (hashC x).toArray 30) = k27 at *
            generalize k25.heap.size = q28 at *
            refine lexT_ef1 22 (by kernel_rfl) rfl rfl (fun K' hK' => ?_)
            have BS0 := BS
            go_simp
            refine (down_K M.out.g (by decide) H1.out (by simp)).mono ?_
            rintro e k29 ⟨va, rfl, o⟩
            have f := Lib.hid o.2
            replace M := Lib.hid (M.out.keep f.out)
            (try replace WA := Lib.hid (ownsRow_keep WA.out f.out (fun _ _ => id)))
            (try replace UA := Lib.hid (ownsRow_keep UA.out f.out (fun _ _ => id)))
            (try replace AI := Lib.hid (ownsRow_keep AI.out f.out (fun _ _ => id)))
            (try replace H1 := Lib.hid (H1.out.keep f.out))
            (try replace H2 := Lib.hid (H2.out.keep f.out))
            (try replace WI := Lib.hid (WI.out.keep f.out))
            (try replace UI := Lib.hid (UI.out.keep f.out))
            replace BS := Lib.hid (Nat.le_trans BS.out f.out.size)
            have AI := Lib.hid (own_base o.1 BS0.out)
            clear f o BS0
            refine hK'.out _ _ ?_ (fun hS => ?_)
            · exact M.out.s
            try simp only [Act.put, List.setIfInBounds_toArray, List.set_cons_zero, List.set_cons_succ]
            clear hS hK' K'
            refine lexT_ef1 25 (by kernel_rfl) rfl rfl (fun K' hK' => ?_)
            go_simp
            refine (same_b (IdsIs.own AI.out (M.out.g.okDown _)) H2.out X5.out (show ([x] : List HashD).length ≤ 100000 by simp) E3.out).mono ?_
            rintro e k30 ⟨rfl, f0⟩
            have f := Lib.hid f0
            replace M := Lib.hid (M.out.keep f.out)
            (try replace WA := Lib.hid (ownsRow_keep WA.out f.out (fun _ _ => id)))
            (try replace UA := Lib.hid (ownsRow_keep UA.out f.out (fun _ _ => id)))
            (try replace AI := Lib.hid (ownsRow_keep AI.out f.out (fun _ _ => id)))
            (try replace H1 := Lib.hid (H1.out.keep f.out))
            (try replace H2 := Lib.hid (H2.out.keep f.out))
            (try replace WI := Lib.hid (WI.out.keep f.out))
            (try replace UI := Lib.hid (UI.out.keep f.out))
            replace BS := Lib.hid (Nat.le_trans BS.out f.out.size)
            clear f f0 AI H2
            refine hK'.out _ _ ?_ (fun hS => ?_)
            · exact M.out.s
            try simp only [Act.put, List.setIfInBounds_toArray, List.set_cons_zero, List.set_cons_succ]
            clear hS hK' K'
            (((first | (refine lexT_rd 26 (by kernel_rfl) rfl rfl ?_; apply Exists.intro; refine ⟨?_, ?_⟩; (focus (first | exact lex_load (ty := 30) rfl (fun w h => h) uK rK (by rw [XLEN.out]; exact infoHash) | (intro w' hS; obtain h := hS; go_simp; (try with_reducible rfl); done)))) | (refine lexT_sk 26 (by kernel_rfl) rfl rfl ?_)); try simp only [Act.put, List.setIfInBounds_toArray, List.set_cons_zero, List.set_cons_succ]); ((first | (refine lexT_rd 27 (by kernel_rfl) rfl rfl ?_; apply Exists.intro; refine ⟨?_, ?_⟩; (focus (first | exact lex_load (ty := 30) rfl (fun w h => h) uK rK (by rw [XLEN.out]; exact infoHash) | (intro w' hS; obtain h := hS; go_simp; (try with_reducible rfl); done)))) | (refine lexT_sk 27 (by kernel_rfl) rfl rfl ?_)); try simp only [Act.put, List.setIfInBounds_toArray, List.set_cons_zero, List.set_cons_succ]); ((first | (refine lexT_rd 28 (by kernel_rfl) rfl rfl ?_; apply Exists.intro; refine ⟨?_, ?_⟩; (focus (first | exact lex_load (ty := 30) rfl (fun w h => h) uK rK (by rw [XLEN.out]; exact infoHash) | (intro w' hS; obtain h := hS; go_simp; (try with_reducible rfl); done)))) | (refine lexT_sk 28 (by kernel_rfl) rfl rfl ?_)); try simp only [Act.put, List.setIfInBounds_toArray, List.set_cons_zero, List.set_cons_succ]); ((first | (refine lexT_rd 29 (by kernel_rfl) rfl rfl ?_; apply Exists.intro; refine ⟨?_, ?_⟩; (focus (first | exact lex_load (ty := 30) rfl (fun w h => h) uK rK (by rw [XLEN.out]; exact infoHash) | (intro w' hS; obtain h := hS; go_simp; (try with_reducible rfl); done)))) | (refine lexT_sk 29 (by kernel_rfl) rfl rfl ?_)); try simp only [Act.put, List.setIfInBounds_toArray, List.set_cons_zero, List.set_cons_succ]))
            refine lexT_ef1 30 (by kernel_rfl) rfl rfl (fun K' hK' => ?_)
            go_simp
            refine (has_g M.out.g XOK.out E4.out).mono ?_
            rintro e k31 ⟨rfl, f0⟩
            have f := Lib.hid f0
            replace M := Lib.hid (M.out.keep f.out)
            (try replace WA := Lib.hid (ownsRow_keep WA.out f.out (fun _ _ => id)))
            (try replace UA := Lib.hid (ownsRow_keep UA.out f.out (fun _ _ => id)))
            (try replace AI := Lib.hid (ownsRow_keep AI.out f.out (fun _ _ => id)))
            (try replace H1 := Lib.hid (H1.out.keep f.out))
            (try replace H2 := Lib.hid (H2.out.keep f.out))
            (try replace WI := Lib.hid (WI.out.keep f.out))
            (try replace UI := Lib.hid (UI.out.keep f.out))
            replace BS := Lib.hid (Nat.le_trans BS.out f.out.size)
            clear f f0
            refine hK'.out _ _ ?_ (fun hS => ?_)
            · exact M.out.s
            try simp only [Act.put, List.setIfInBounds_toArray, List.set_cons_zero, List.set_cons_succ]
            clear hS hK' K'
            (((first | (refine lexT_rd 31 (by kernel_rfl) rfl rfl ?_; apply Exists.intro; refine ⟨?_, ?_⟩; (focus (first | exact lex_load (ty := 30) rfl (fun w h => h) uK rK (by rw [XLEN.out]; exact infoHash) | (intro w' hS; obtain h := hS; go_simp; (try with_reducible rfl); done)))) | (refine lexT_sk 31 (by kernel_rfl) rfl rfl ?_)); try simp only [Act.put, List.setIfInBounds_toArray, List.set_cons_zero, List.set_cons_succ]); ((first | (refine lexT_rd 32 (by kernel_rfl) rfl rfl ?_; apply Exists.intro; refine ⟨?_, ?_⟩; (focus (first | exact lex_load (ty := 30) rfl (fun w h => h) uK rK (by rw [XLEN.out]; exact infoHash) | (intro w' hS; obtain h := hS; go_simp; (try with_reducible rfl); done)))) | (refine lexT_sk 32 (by kernel_rfl) rfl rfl ?_)); try simp only [Act.put, List.setIfInBounds_toArray, List.set_cons_zero, List.set_cons_succ]))
            refine lexT_nil (hK.out _ _ ?_)
            go_wp2
            go_ret
            exact ⟨rfl, M.out.f⟩
        · refine wp_value (exec_buildSliceA (t := 27) rfl rfl undIds infoHashZ2 rfl (by decide) (by decide) XLEN.out) ?_
          have f := Lib.hid ((Fr.refl No k6).alloc (.cells (hashC x).toArray 30))
          replace M := Lib.hid (M.out.keep f.out)
          (try replace WA := Lib.hid (ownsRow_keep WA.out f.out (fun _ _ => id)))
          (try replace UA := Lib.hid (ownsRow_keep UA.out f.out (fun _ _ => id)))
          (try replace AI := Lib.hid (ownsRow_keep AI.out f.out (fun _ _ => id)))
          (try replace H1 := Lib.hid (H1.out.keep f.out))
          (try replace H2 := Lib.hid (H2.out.keep f.out))
          (try replace WI := Lib.hid (WI.out.keep f.out))
          (try replace UI := Lib.hid (UI.out.keep f.out))
          replace BS := Lib.hid (Nat.le_trans BS.out f.out.size)
          have H2 := Lib.hid (ids_new1 k6 XOK.out)
          clear f
          refine hK'.out _ _ ?_ (fun hS => ?_)
          · exact M.out.s
          try simp only [Act.put, List.setIfInBounds_toArray, List.set_cons_zero, List.set_cons_succ]
          clear hS hK' K'
          generalize k6.alloc (.cells (hashC x).toArray 30) = k32 at *
          generalize k6.heap.size = q33 at *
          refine lexT_ef1 11 (by kernel_rfl) rfl rfl (fun K' hK' => ?_)
          have BS0 := BS
          go_simp
          refine (up_K M.out.g (by decide) H1.out (by simp)).mono ?_
          rintro e k34 ⟨va, rfl, o⟩
          have f := Lib.hid o.2
          replace M := Lib.hid (M.out.keep f.out)
          (try replace WA := Lib.hid (ownsRow_keep WA.out f.out (fun _ _ => id)))
          (try replace UA := Lib.hid (ownsRow_keep UA.out f.out (fun _ _ => id)))
          (try replace AI := Lib.hid (ownsRow_keep AI.out f.out (fun _ _ => id)))
          (try replace H1 := Lib.hid (H1.out.keep f.out))
          (try replace H2 := Lib.hid (H2.out.keep f.out))
          (try replace WI := Lib.hid (WI.out.keep f.out))
          (try replace UI := Lib.hid (UI.out.keep f.out))
          replace BS := Lib.hid (Nat.le_trans BS.out f.out.size)
          have AI := Lib.hid (own_base o.1 BS0.out)
          clear f o BS0
          refine hK'.out _ _ ?_ (fun hS => ?_)
          · exact M.out.s
          try simp only [Act.put, List.setIfInBounds_toArray, List.set_cons_zero, List.set_cons_succ]
          clear hS hK' K'
          refine lexT_ef1 15 (by kernel_rfl) rfl rfl (fun K' hK' => ?_)
          obtain ⟨va2, k35, ap, oo, ff⟩ := append_ids k34 UA.out H2.out (by have := LB2.out; simp only [List.length_singleton]; omega) (Nat.le_trans B5.out BS.out)
          refine wp_append_run rfl rfl rfl ap ?_
          replace M := Lib.hid (M.out.away AU.out ff)
          replace AI := Lib.hid (ownsRow_keep AI.out ff (fun b e h => (B6.out b (AI.out.lt b e).1).2 h))
          have UI := Lib.hid (IdsIs.own oo (by intro c hc; rcases List.mem_append.1 hc with h | h; exact OKU.out c h; rw [List.mem_singleton.1 h]; exact XOK.out))
          replace BS := Lib.hid (Nat.le_trans BS.out ff.size)
          clear ap oo ff UA H2
          refine hK'.out _ _ ?_ (fun hS => ?_)
          · exact M.out.s
          try simp only [Act.put, List.setIfInBounds_toArray, List.set_cons_zero, List.set_cons_succ]
          clear hS hK' K'
          refine lexT_ef1 16 (by kernel_rfl) rfl rfl (fun K' hK' => ?_)
          go_simp
          refine (same_b (IdsIs.own AI.out (M.out.g.okUp _)) UI.out X4.out X2.out E2.out).mono ?_
          rintro e k36 ⟨rfl, f0⟩
          have f := Lib.hid f0
          replace M := Lib.hid (M.out.keep f.out)
          (try replace WA := Lib.hid (ownsRow_keep WA.out f.out (fun _ _ => id)))
          (try replace UA := Lib.hid (ownsRow_keep UA.out f.out (fun _ _ => id)))
          (try replace AI := Lib.hid (ownsRow_keep AI.out f.out (fun _ _ => id)))
          (try replace H1 := Lib.hid (H1.out.keep f.out))
          (try replace H2 := Lib.hid (H2.out.keep f.out))
          (try replace WI := Lib.hid (WI.out.keep f.out))
          (try replace UI := Lib.hid (UI.out.keep f.out))
          replace BS := Lib.hid (Nat.le_trans BS.out f.out.size)
          clear f f0 AI UI
          refine hK'.out _ _ ?_ (fun hS => ?_)
          · exact M.out.s
          try simp only [Act.put, List.setIfInBounds_toArray, List.set_cons_zero, List.set_cons_succ]
          clear hS hK' K'
          (((first | (refine lexT_rd 17 (by kernel_rfl) rfl rfl ?_; apply Exists.intro; refine ⟨?_, ?_⟩; (focus (first | exact lex_load (ty := 30) rfl (fun w h => h) uK rK (by rw [XLEN.out]; exact infoHash) | (intro w' hS; obtain h := hS; go_simp; (try with_reducible rfl); done)))) | (refine lexT_sk 17 (by kernel_rfl) rfl rfl ?_)); try simp only [Act.put, List.setIfInBounds_toArray, List.set_cons_zero, List.set_cons_succ]); ((first | (refine lexT_rd 18 (by kernel_rfl) rfl rfl ?_; apply Exists.intro; refine ⟨?_, ?_⟩; (focus (first | exact lex_load (ty := 30) rfl (fun w h => h) uK rK (by rw [XLEN.out]; exact infoHash) | (intro w' hS; obtain h := hS; go_simp; (try with_reducible rfl); done)))) | (refine lexT_sk 18 (by kernel_rfl) rfl rfl ?_)); try simp only [Act.put, List.setIfInBounds_toArray, List.set_cons_zero, List.set_cons_succ]); ((first | (refine lexT_rd 19 (by kernel_rfl) rfl rfl ?_; apply Exists.intro; refine ⟨?_, ?_⟩; (focus (first | exact lex_load (ty := 30) rfl (fun w h => h) uK rK (by rw [XLEN.out]; exact infoHash) | (intro w' hS; obtain h := hS; go_simp; (try with_reducible rfl); done)))) | (refine lexT_sk 19 (by kernel_rfl) rfl rfl ?_)); try simp only [Act.put, List.setIfInBounds_toArray, List.set_cons_zero, List.set_cons_succ]); ((first | (refine lexT_rd 20 (by kernel_rfl) rfl rfl ?_; apply Exists.intro; refine ⟨?_, ?_⟩; (focus (first | exact lex_load (ty := 30) rfl (fun w h => h) uK rK (by rw [XLEN.out]; exact infoHash) | (intro w' hS; obtain h := hS; go_simp; (try with_reducible rfl); done)))) | (refine lexT_sk 20 (by kernel_rfl) rfl rfl ?_)); try simp only [Act.put, List.setIfInBounds_toArray, List.set_cons_zero, List.set_cons_succ]); ((first | (refine lexT_rd 23 (by kernel_rfl) rfl rfl ?_; apply Exists.intro; refine ⟨?_, ?_⟩; (focus (first | exact lex_load (ty := 30) rfl (fun w h => h) uK rK (by rw [XLEN.out]; exact infoHash) | (intro w' hS; obtain h := hS; go_simp; (try with_reducible rfl); done)))) | (refine lexT_sk 23 (by kernel_rfl) rfl rfl ?_)); try simp only [Act.put, List.setIfInBounds_toArray, List.set_cons_zero, List.set_cons_succ]))
          refine lexT_ef2 21 24 (by kernel_rfl) rfl rfl rfl rfl (fun K' hK' => ?_) (fun K' hK' => ?_)
          · refine wp_value (exec_buildSliceA (t := 27) rfl rfl undIds infoHashZ2 rfl (by decide) (by decide) XLEN.out) ?_
            have f := Lib.hid ((Fr.refl No k36).alloc (.cells (hashC x).toArray 30))
            replace M := Lib.hid (M.out.keep f.out)
            (try replace WA := Lib.hid (ownsRow_keep WA.out f.out (fun _ _ => id)))
            (try replace UA := Lib.hid (ownsRow_keep UA.out f.out (fun _ _ => id)))
            (try replace AI := Lib.hid (ownsRow_keep AI.out f.out (fun _ _ => id)))
            (try replace H1 := Lib.hid (H1.out.keep f.out))
            (try replace H2 := Lib.hid (H2.out.keep f.out))
            (try replace WI := Lib.hid (WI.out.keep f.out))
            (try replace UI := Lib.hid (UI.out.keep f.out))
            replace BS := Lib.hid (Nat.le_trans BS.out f.out.size)
            have H1 := Lib.hid (ids_new1 k36 XOK.out)
            clear f
            refine hK'.out _ _ ?_ (fun hS => ?_)
            · exact M.out.s
            try simp only [Act.put, List.setIfInBounds_toArray, List.set_cons_zero, List.set_cons_succ]
            clear hS hK' K'
            generalize k36.alloc (.cells (hashC x).toArray 30) = k37 at *
            generalize k36.heap.size = q38 at *
            refine lexT_ef2 22 24 (by kernel_rfl) rfl rfl rfl rfl (fun K' hK' => ?_) (fun K' hK' => ?_)
            · have BS0 := BS
              go_simp
              refine (down_K M.out.g (by decide) H1.out (by simp)).mono ?_
              rintro e k39 ⟨va, rfl, o⟩
              have f := Lib.hid o.2
              replace M := Lib.hid (M.out.keep f.out)
              (try replace WA := Lib.hid (ownsRow_keep WA.out f.out (fun _ _ => id)))
              (try replace UA := Lib.hid (ownsRow_keep UA.out f.out (fun _ _ => id)))
              (try replace AI := Lib.hid (ownsRow_keep AI.out f.out (fun _ _ => id)))
              (try replace H1 := Lib.hid (H1.out.keep f.out))
              (try replace H2 := Lib.hid (H2.out.keep f.out))
              (try replace WI := Lib.hid (WI.out.keep f.out))
              (try replace UI := Lib.hid (UI.out.keep f.out))
              replace BS := Lib.hid (Nat.le_trans BS.out f.out.size)
              have AI := Lib.hid (own_base o.1 BS0.out)
              clear f o BS0
              refine hK'.out _ _ ?_ (fun hS => ?_)
              · exact M.out.s
              try simp only [Act.put, List.setIfInBounds_toArray, List.set_cons_zero, List.set_cons_succ]
              clear hS hK' K'
              refine lexT_ef1 24 (by kernel_rfl) rfl rfl (fun K' hK' => ?_)
              refine wp_value (exec_buildSliceA (t := 27) rfl rfl undIds infoHashZ2 rfl (by decide) (by decide) XLEN.out) ?_
              have f := Lib.hid ((Fr.refl No k39).alloc (.cells (hashC x).toArray 30))
              replace M := Lib.hid (M.out.keep f.out)
              (try replace WA := Lib.hid (ownsRow_keep WA.out f.out (fun _ _ => id)))
              (try replace UA := Lib.hid (ownsRow_keep UA.out f.out (fun _ _ => id)))
              (try replace AI := Lib.hid (ownsRow_keep AI.out f.out (fun _ _ => id)))
              (try replace H1 := Lib.hid (H1.out.keep f.out))
              (try replace H2 := Lib.hid (H2.out.keep f.out))
              (try replace WI := Lib.hid (WI.out.keep f.out))
              (try replace UI := Lib.hid (UI.out.keep f.out))
              replace BS := Lib.hid (Nat.le_trans BS.out f.out.size)
              have H2 := Lib.hid (ids_new1 k39 XOK.out)
              clear f
              refine hK'.out _ _ ?_ (fun hS => ?_)
              · exact M.out.s
              try simp only [Act.put, List.setIfInBounds_toArray, List.set_cons_zero, List.set_cons_succ]
              clear hS hK' K'
              generalize k39.alloc (.cells (hashC x).toArray 30) = k40 at *
              generalize k39.heap.size = q41 at *
              refine lexT_ef1 25 (by kernel_rfl) rfl rfl (fun K' hK' => ?_)
              go_simp
              refine (same_b (IdsIs.own AI.out (M.out.g.okDown _)) H2.out X5.out (show ([x] : List HashD).length ≤ 100000 by simp) E3.out).mono ?_
              rintro e k42 ⟨rfl, f0⟩
              have f := Lib.hid f0
              replace M := Lib.hid (M.out.keep f.out)
              (try replace WA := Lib.hid (ownsRow_keep WA.out f.out (fun _ _ => id)))
              (try replace UA := Lib.hid (ownsRow_keep UA.out f.out (fun _ _ => id)))
              (try replace AI := Lib.hid (ownsRow_keep AI.out f.out (fun _ _ => id)))
              (try replace H1 := Lib.hid (H1.out.keep f.out))
              (try replace H2 := Lib.hid (H2.out.keep f.out))
              (try replace WI := Lib.hid (WI.out.keep f.out))
              (try replace UI := Lib.hid (UI.out.keep f.out))
              replace BS := Lib.hid (Nat.le_trans BS.out f.out.size)
              clear f f0 AI H2
              refine hK'.out _ _ ?_ (fun hS => ?_)
              · exact M.out.s
              try simp only [Act.put, List.setIfInBounds_toArray, List.set_cons_zero, List.set_cons_succ]
              clear hS hK' K'
              (((first | (refine lexT_rd 26 (by kernel_rfl) rfl rfl ?_; apply Exists.intro; refine ⟨?_, ?_⟩; (focus (first | exact lex_load (ty := 30) rfl (fun w h => h) uK rK (by rw [XLEN.out]; exact infoHash) | (intro w' hS; obtain h := hS; go_simp; (try with_reducible rfl); done)))) | (refine lexT_sk 26 (by kernel_rfl) rfl rfl ?_)); try simp only [Act.put, List.setIfInBounds_toArray, List.set_cons_zero, List.set_cons_succ]); ((first | (refine lexT_rd 27 (by kernel_rfl) rfl rfl ?_; apply Exists.intro; refine ⟨?_, ?_⟩; (focus (first | exact lex_load (ty := 30) rfl (fun w h => h) uK rK (by rw [XLEN.out]; exact infoHash) | (intro w' hS; obtain h := hS; go_simp; (try with_reducible rfl); done)))) | (refine lexT_sk 27 (by kernel_rfl) rfl rfl ?_)); try simp only [Act.put, List.setIfInBounds_toArray, List.set_cons_zero, List.set_cons_succ]); ((first | (refine lexT_rd 28 (by kernel_rfl) rfl rfl ?_; apply Exists.intro; refine ⟨?_, ?_⟩; (focus (first | exact lex_load (ty := 30) rfl (fun w h => h) uK rK (by rw [XLEN.out]; exact infoHash) | (intro w' hS; obtain h := hS; go_simp; (try with_reducible rfl); done)))) | (refine lexT_sk 28 (by kernel_rfl) rfl rfl ?_)); try simp only [Act.put, List.setIfInBounds_toArray, List.set_cons_zero, List.set_cons_succ]); ((first | (refine lexT_rd 29 (by kernel_rfl) rfl rfl ?_; apply Exists.intro; refine ⟨?_, ?_⟩; (focus (first | exact lex_load (ty := 30) rfl (fun w h => h) uK rK (by rw [XLEN.out]; exact infoHash) | (intro w' hS; obtain h := hS; go_simp; (try with_reducible rfl); done)))) | (refine lexT_sk 29 (by kernel_rfl) rfl rfl ?_)); try simp only [Act.put, List.setIfInBounds_toArray, List.set_cons_zero, List.set_cons_succ]))
              refine lexT_ef1 30 (by kernel_rfl) rfl rfl (fun K' hK' => ?_)
              go_simp
              refine (has_g M.out.g XOK.out E4.out).mono ?_
              rintro e k43 ⟨rfl, f0⟩
              have f := Lib.hid f0
              replace M := Lib.hid (M.out.keep f.out)
              (try replace WA := Lib.hid (ownsRow_keep WA.out f.out (fun _ _ => id)))
              (try replace UA := Lib.hid (ownsRow_keep UA.out f.out (fun _ _ => id)))
              (try replace AI := Lib.hid (ownsRow_keep AI.out f.out (fun _ _ => id)))
              (try replace H1 := Lib.hid (H1.out.keep f.out))
              (try replace H2 := Lib.hid (H2.out.keep f.out))
              (try replace WI := Lib.hid (WI.out.keep f.out))
              (try replace UI := Lib.hid (UI.out.keep f.out))
              replace BS := Lib.hid (Nat.le_trans BS.out f.out.size)
              clear f f0
              refine hK'.out _ _ ?_ (fun hS => ?_)
              · exact M.out.s
              try simp only [Act.put, List.setIfInBounds_toArray, List.set_cons_zero, List.set_cons_succ]
              clear hS hK' K'
              (((first | (refine lexT_rd 31 (by kernel_rfl) rfl rfl ?_; apply Exists.intro; refine ⟨?_, ?_⟩; (focus (first | exact lex_load (ty := 30) rfl (fun w h => h) uK rK (by rw [XLEN.out]; exact infoHash) | (intro w' hS; obtain h := hS; go_simp; (try with_reducible rfl); done)))) | (refine lexT_sk 31 (by kernel_rfl) rfl rfl ?_)); try simp only [Act.put, List.setIfInBounds_toArray, List.set_cons_zero, List.set_cons_succ]); ((first | (refine lexT_rd 32 (by kernel_rfl) rfl rfl ?_; apply Exists.intro; refine ⟨?_, ?_⟩; (focus (first | exact lex_load (ty := 30) rfl (fun w h => h) uK rK (by rw [XLEN.out]; exact infoHash) | (intro w' hS; obtain h := hS; go_simp; (try with_reducible rfl); done)))) | (refine lexT_sk 32 (by kernel_rfl) rfl rfl ?_)); try simp only [Act.put, List.setIfInBounds_toArray, List.set_cons_zero, List.set_cons_succ]))
              refine lexT_nil (hK.out _ _ ?_)
              go_wp2
              go_ret
              exact ⟨rfl, M.out.f⟩
            · refine wp_value (exec_buildSliceA (t := 27) rfl rfl undIds infoHashZ2 rfl (by decide) (by decide) XLEN.out) ?_
              have f := Lib.hid ((Fr.refl No k37).alloc (.cells (hashC x).toArray 30))
              replace M := Lib.hid (M.out.keep f.out)
              (try replace WA := Lib.hid (ownsRow_keep WA.out f.out (fun _ _ => id)))
              (try replace UA := Lib.hid (ownsRow_keep UA.out f.out (fun _ _ => id)))
              (try replace AI := Lib.hid (ownsRow_keep AI.out f.out (fun _ _ => id)))
              (try replace H1 := Lib.hid (H1.out.keep f.out))
              (try replace H2 := Lib.hid (H2.out.keep f.out))
              (try replace WI := Lib.hid (WI.out.keep f.out))
              (try replace UI := Lib.hid (UI.out.keep f.out))
              replace BS := Lib.hid (Nat.le_trans BS.out f.out.size)
              have H2 := Lib.hid (ids_new1 k37 XOK.out)
              clear f
              refine hK'.out _ _ ?_ (fun hS => ?_)
              · exact M.out.s
              try simp only [Act.put, List.setIfInBounds_toArray, List.set_cons_zero, List.set_cons_succ]
              clear hS hK' K'
              generalize k37.alloc (.cells (hashC x).toArray 30) = k44 at *
              generalize k37.heap.size = q45 at *
              refine lexT_ef1 22 (by kernel_rfl) rfl rfl (fun K' hK' => ?_)
              have BS0 := BS
              go_simp
              refine (down_K M.out.g (by decide) H1.out (by simp)).mono ?_
              rintro e k46 ⟨va, rfl, o⟩
              have f := Lib.hid o.2
              replace M := Lib.hid (M.out.keep f.out)
              (try replace WA := Lib.hid (ownsRow_keep WA.out f.out (fun _ _ => id)))
              (try replace UA := Lib.hid (ownsRow_keep UA.out f.out (fun _ _ => id)))
              (try replace AI := Lib.hid (ownsRow_keep AI.out f.out (fun _ _ => id)))
              (try replace H1 := Lib.hid (H1.out.keep f.out))
              (try replace H2 := Lib.hid (H2.out.keep f.out))
              (try replace WI := Lib.hid (WI.out.keep f.out))
              (try replace UI := Lib.hid (UI.out.keep f.out))
              replace BS := Lib.hid (Nat.le_trans BS.out f.out.size)
              have AI := Lib.hid (own_base o.1 BS0.out)
              clear f o BS0
              refine hK'.out _ _ ?_ (fun hS => ?_)
              · exact M.out.s
              try simp only [Act.put, List.setIfInBounds_toArray, List.set_cons_zero, List.set_cons_succ]
              clear hS hK' K'
              refine lexT_ef1 25 (by kernel_rfl) rfl rfl (fun K' hK' => ?_)
              go_simp
              refine (same_b (IdsIs.own AI.out (M.out.g.okDown _)) H2.out X5.out (show ([x] : List HashD).length ≤ 100000 by simp) E3.out).mono ?_
              rintro e k47 ⟨rfl, f0⟩
              have f := Lib.hid f0
              replace M := Lib.hid (M.out.keep f.out)
              (try replace WA := Lib.hid (ownsRow_keep WA.out f.out (fun _ _ => id)))
              (try replace UA := Lib.hid (ownsRow_keep UA.out f.out (fun _ _ => id)))
              (try replace AI := Lib.hid (ownsRow_keep AI.out f.out (fun _ _ => id)))
              (try replace H1 := Lib.hid (H1.out.keep f.out))
              (try replace H2 := Lib.hid (H2.out.keep f.out))
              (try replace WI := Lib.hid (WI.out.keep f.out))
              (try replace UI := Lib.hid (UI.out.keep f.out))
              replace BS := Lib.hid (Nat.le_trans BS.out f.out.size)
              clear f f0 AI H2
              refine hK'.out _ _ ?_ (fun hS => ?_)
              · exact M.out.s
              try simp only [Act.put, List.setIfInBounds_toArray, List.set_cons_zero, List.set_cons_succ]
              clear hS hK' K'
              (((first | (refine lexT_rd 26 (by kernel_rfl) rfl rfl ?_; apply Exists.intro; refine ⟨?_, ?_⟩; (focus (first | exact lex_load (ty := 30) rfl (fun w h => h) uK rK (by rw [XLEN.out]; exact infoHash) | (intro w' hS; obtain h := hS; go_simp; (try with_reducible rfl); done)))) | (refine lexT_sk 26 (by kernel_rfl) rfl rfl ?_)); try simp only [Act.put, List.setIfInBounds_toArray, List.set_cons_zero, List.set_cons_succ]); ((first | (refine lexT_rd 27 (by kernel_rfl) rfl rfl ?_; apply Exists.intro; refine ⟨?_, ?_⟩; (focus (first | exact lex_load (ty := 30) rfl (fun w h => h) uK rK (by rw [XLEN.out]; exact infoHash) | (intro w' hS; obtain h := hS; go_simp; (try with_reducible rfl); done)))) | (refine lexT_sk 27 (by kernel_rfl) rfl rfl ?_)); try simp only [Act.put, List.setIfInBounds_toArray, List.set_cons_zero, List.set_cons_succ]); ((first | (refine lexT_rd 28 (by kernel_rfl) rfl rfl ?_; apply Exists.intro; refine ⟨?_, ?_⟩; (focus (first | exact lex_load (ty := 30) rfl (fun w h => h) uK rK (by rw [XLEN.out]; exact infoHash) | (intro w' hS; obtain h := hS; go_simp; (try with_reducible rfl); done)))) | (refine lexT_sk 28 (by kernel_rfl) rfl rfl ?_)); try simp only [Act.put, List.setIfInBounds_toArray, List.set_cons_zero, List.set_cons_succ]); ((first | (refine lexT_rd 29 (by kernel_rfl) rfl rfl ?_; apply Exists.intro; refine ⟨?_, ?_⟩; (focus (first | exact lex_load (ty := 30) rfl (fun w h => h) uK rK (by rw [XLEN.out]; exact infoHash) | (intro w' hS; obtain h := hS; go_simp; (try with_reducible rfl); done)))) | (refine lexT_sk 29 (by kernel_rfl) rfl rfl ?_)); try simp only [Act.put, List.setIfInBounds_toArray, List.set_cons_zero, List.set_cons_succ]))
              refine lexT_ef1 30 (by kernel_rfl) rfl rfl (fun K' hK' => ?_)
              go_simp
              refine (has_g M.out.g XOK.out E4.out).mono ?_
              rintro e k48 ⟨rfl, f0⟩
              have f := Lib.hid f0
              replace M := Lib.hid (M.out.keep f.out)
              (try replace WA := Lib.hid (ownsRow_keep WA.out f.out (fun _ _ => id)))
              (try replace UA := Lib.hid (ownsRow_keep UA.out f.out (fun _ _ => id)))
              (try replace AI := Lib.hid (ownsRow_keep AI.out f.out (fun _ _ => id)))
              (try replace H1 := Lib.hid (H1.out.keep f.out))
              (try replace H2 := Lib.hid (H2.out.keep f.out))
              (try replace WI := Lib.hid (WI.out.keep f.out))
              (try replace UI := Lib.hid (UI.out.keep f.out))
              replace BS := Lib.hid (Nat.le_trans BS.out f.out.size)
              clear f f0
              refine hK'.out _ _ ?_ (fun hS => ?_)
              · exact M.out.s
              try simp only [Act.put, List.setIfInBounds_toArray, List.set_cons_zero, List.set_cons_succ]
              clear hS hK' K'
              (((first | (refine lexT_rd 31 (by kernel_rfl) rfl rfl ?_; apply Exists.intro; refine ⟨?_, ?_⟩; (focus (first | exact lex_load (ty := 30) rfl (fun w h => h) uK rK (by rw [XLEN.out]; exact infoHash) | (intro w' hS; obtain h := hS; go_simp; (try with_reducible rfl); done)))) | (refine lexT_sk 31 (by kernel_rfl) rfl rfl ?_)); try simp only [Act.put, List.setIfInBounds_toArray, List.set_cons_zero, List.set_cons_succ]); ((first | (refine lexT_rd 32 (by kernel_rfl) rfl rfl ?_; apply Exists.intro; refine ⟨?_, ?_⟩; (focus (first | exact lex_load (ty := 30) rfl (fun w h => h) uK rK (by rw [XLEN.out]; exact infoHash) | (intro w' hS; obtain h := hS; go_simp; (try with_reducible rfl); done)))) | (refine lexT_sk 32 (by kernel_rfl) rfl rfl ?_)); try simp only [Act.put, List.setIfInBounds_toArray, List.set_cons_zero, List.set_cons_succ]))
              refine lexT_nil (hK.out _ _ ?_)
              go_wp2
              go_ret
              exact ⟨rfl, M.out.f⟩
          · refine wp_value (exec_buildSliceA (t := 27) rfl rfl undIds infoHashZ2 rfl (by decide) (by decide) XLEN.out) ?_
            have f := Lib.hid ((Fr.refl No k36).alloc (.cells (hashC x).toArray 30))
            replace M := Lib.hid (M.out.keep f.out)
            (try replace WA := Lib.hid (ownsRow_keep WA.out f.out (fun _ _ => id)))
            (try replace UA := Lib.hid (ownsRow_keep UA.out f.out (fun _ _ => id)))
            (try replace AI := Lib.hid (ownsRow_keep AI.out f.out (fun _ _ => id)))
            (try replace H1 := Lib.hid (H1.out.keep f.out))
            (try replace H2 := Lib.hid (H2.out.keep f.out))
            (try replace WI := Lib.hid (WI.out.keep f.out))
            (try replace UI := Lib.hid (UI.out.keep f.out))
            replace BS := Lib.hid (Nat.le_trans BS.out f.out.size)
            have H2 := Lib.hid (ids_new1 k36 XOK.out)
            clear f
            refine hK'.out _ _ ?_ (fun hS => ?_)
            · exact M.out.s
            try simp only [Act.put, List.setIfInBounds_toArray, List.set_cons_zero, List.set_cons_succ]
            clear hS hK' K'
            generalize k36.alloc (.cells (hashC x).toArray 30) = k49 at *
            generalize k36.heap.size = q50 at *
            refine lexT_ef1 21 (by kernel_rfl) rfl rfl (fun K' hK' => ?_)
            refine wp_value (exec_buildSliceA (t := 27) rfl rfl undIds infoHashZ2 rfl (by decide) (by decide) XLEN.out) ?_
            have f := Lib.hid ((Fr.refl No k49).alloc (.cells (hashC x).toArray 30))
            replace M := Lib.hid (M.out.keep f.out)
            (try replace WA := Lib.hid (ownsRow_keep WA.out f.out (fun _ _ => id)))
            (try replace UA := Lib.hid (ownsRow_keep UA.out f.out (fun _ _ => id)))
            (try replace AI := Lib.hid (ownsRow_keep AI.out f.out (fun _ _ => id)))
            (try replace H1 := Lib.hid (H1.out.keep f.out))
            (try replace H2 := Lib.hid (H2.out.keep f.out))
            (try replace WI := Lib.hid (WI.out.keep f.out))
            (try replace UI := Lib.hid (UI.out.keep f.out))
            replace BS := Lib.hid (Nat.le_trans BS.out f.out.size)
            have H1 := Lib.hid (ids_new1 k49 XOK.out)
            clear f
            refine hK'.out _ _ ?_ (fun hS => ?_)
            · exact M.out.s
            try simp only [Act.put, List.setIfInBounds_toArray, List.set_cons_zero, List.set_cons_succ]
            clear hS hK' K'
            generalize k49.alloc (.cells (hashC x).toArray 30) = k51 at *
            generalize k49.heap.size = q52 at *
            refine lexT_ef1 22 (by kernel_rfl) rfl rfl (fun K' hK' => ?_)
            have BS0 := BS
            go_simp
            refine (down_K M.out.g (by decide) H1.out (by simp)).mono ?_
            rintro e k53 ⟨va, rfl, o⟩
            have f := Lib.hid o.2
            replace M := Lib.hid (M.out.keep f.out)
            (try replace WA := Lib.hid (ownsRow_keep WA.out f.out (fun _ _ => id)))
            (try replace UA := Lib.hid (ownsRow_keep UA.out f.out (fun _ _ => id)))
            (try replace AI := Lib.hid (ownsRow_keep AI.out f.out (fun _ _ => id)))
            (try replace H1 := Lib.hid (H1.out.keep f.out))
            (try replace H2 := Lib.hid (H2.out.keep f.out))
            (try replace WI := Lib.hid (WI.out.keep f.out))
            (try replace UI := Lib.hid (UI.out.keep f.out))
            replace BS := Lib.hid (Nat.le_trans BS.out f.out.size)
            have AI := Lib.hid (own_base o.1 BS0.out)
            clear f o BS0
            refine hK'.out _ _ ?_ (fun hS => ?_)
            · exact M.out.s
            try simp only [Act.put, List.setIfInBounds_toArray, List.set_cons_zero, List.set_cons_succ]
            clear hS hK' K'
            refine lexT_ef1 25 (by kernel_rfl) rfl rfl (fun K' hK' => ?_)
            go_simp
            refine (same_b (IdsIs.own AI.out (M.out.g.okDown _)) H2.out X5.out (show ([x] : List HashD).length ≤ 100000 by simp) E3.out).mono ?_
            rintro e k54 ⟨rfl, f0⟩
            have f := Lib.hid f0
            replace M := Lib.hid (M.out.keep f.out)
            (try replace WA := Lib.hid (ownsRow_keep WA.out f.out (fun _ _ => id)))
            (try replace UA := Lib.hid (ownsRow_keep UA.out f.out (fun _ _ => id)))
            (try replace AI := Lib.hid (ownsRow_keep AI.out f.out (fun _ _ => id)))
            (try replace H1 := Lib.hid (H1.out.keep f.out))
            (try replace H2 := Lib.hid (H2.out.keep f.out))
            (try replace WI := Lib.hid (WI.out.keep f.out))
            (try replace UI := Lib.hid (UI.out.keep f.out))
            replace BS := Lib.hid (Nat.le_trans BS.out f.out.size)
            clear f f0 AI H2
            refine hK'.out _ _ ?_ (fun hS => ?_)
            · exact M.out.s
            try simp only [Act.put, List.setIfInBounds_toArray, List.set_cons_zero, List.set_cons_succ]
            clear hS hK' K'
            (((first | (refine lexT_rd 26 (by kernel_rfl) rfl rfl ?_; apply Exists.intro; refine ⟨?_, ?_⟩; (focus (first | exact lex_load (ty := 30) rfl (fun w h => h) uK rK (by rw [XLEN.out]; exact infoHash) | (intro w' hS; obtain h := hS; go_simp; (try with_reducible rfl); done)))) | (refine lexT_sk 26 (by kernel_rfl) rfl rfl ?_)); try simp only [Act.put, List.setIfInBounds_toArray, List.set_cons_zero, List.set_cons_succ]); ((first | (refine lexT_rd 27 (by kernel_rfl) rfl rfl ?_; apply Exists.intro; refine ⟨?_, ?_⟩; (focus (first | exact lex_load (ty := 30) rfl (fun w h => h) uK rK (by rw [XLEN.out]; exact infoHash) | (intro w' hS; obtain h := hS; go_simp; (try with_reducible rfl); done)))) | (refine lexT_sk 27 (by kernel_rfl) rfl rfl ?_)); try simp only [Act.put, List.setIfInBounds_toArray, List.set_cons_zero, List.set_cons_succ]); ((first | (refine lexT_rd 28 (by kernel_rfl) rfl rfl ?_; apply Exists.intro; refine ⟨?_, ?_⟩; (focus (first | exact lex_load (ty := 30) rfl (fun w h => h) uK rK (by rw [XLEN.out]; exact infoHash) | (intro w' hS; obtain h := hS; go_simp; (try with_reducible rfl); done)))) | (refine lexT_sk 28 (by kernel_rfl) rfl rfl ?_)); try simp only [Act.put, List.setIfInBounds_toArray, List.set_cons_zero, List.set_cons_succ]); ((first | (refine lexT_rd 29 (by kernel_rfl) rfl rfl ?_; apply Exists.intro; refine ⟨?_, ?_⟩; (focus (first | exact lex_load (ty := 30) rfl (fun w h => h) uK rK (by rw [XLEN.out]; exact infoHash) | (intro w' hS; obtain h := hS; go_simp; (try with_reducible rfl); done)))) | (refine lexT_sk 29 (by kernel_rfl) rfl rfl ?_)); try simp only [Act.put, List.setIfInBounds_toArray, List.set_cons_zero, List.set_cons_succ]))
            refine lexT_ef1 30 (by kernel_rfl) rfl rfl (fun K' hK' => ?_)
            go_simp
            refine (has_g M.out.g XOK.out E4.out).mono ?_
            rintro e k55 ⟨rfl, f0⟩
            have f := Lib.hid f0
            replace M := Lib.hid (M.out.keep f.out)
            (try replace WA := Lib.hid (ownsRow_keep WA.out f.out (fun _ _ => id)))
            (try replace UA := Lib.hid (ownsRow_keep UA.out f.out (fun _ _ => id)))
            (try replace AI := Lib.hid (ownsRow_keep AI.out f.out (fun _ _ => id)))
            (try replace H1 := Lib.hid (H1.out.keep f.out))
            (try replace H2 := Lib.hid (H2.out.keep f.out))
            (try replace WI := Lib.hid (WI.out.keep f.out))
            (try replace UI := Lib.hid (UI.out.keep f.out))
            replace BS := Lib.hid (Nat.le_trans BS.out f.out.size)
            clear f f0
            refine hK'.out _ _ ?_ (fun hS => ?_)
            · exact M.out.s
            try simp only [Act.put, List.setIfInBounds_toArray, List.set_cons_zero, List.set_cons_succ]
            clear hS hK' K'
            (((first | (refine lexT_rd 31 (by kernel_rfl) rfl rfl ?_; apply Exists.intro; refine ⟨?_, ?_⟩; (focus (first | exact lex_load (ty := 30) rfl (fun w h => h) uK rK (by rw [XLEN.out]; exact infoHash) | (intro w' hS; obtain h := hS; go_simp; (try with_reducible rfl); done)))) | (refine lexT_sk 31 (by kernel_rfl) rfl rfl ?_)); try simp only [Act.put, List.setIfInBounds_toArray, List.set_cons_zero, List.set_cons_succ]); ((first | (refine lexT_rd 32 (by kernel_rfl) rfl rfl ?_; apply Exists.intro; refine ⟨?_, ?_⟩; (focus (first | exact lex_load (ty := 30) rfl (fun w h => h) uK rK (by rw [XLEN.out]; exact infoHash) | (intro w' hS; obtain h := hS; go_simp; (try with_reducible rfl); done)))) | (refine lexT_sk 32 (by kernel_rfl) rfl rfl ?_)); try simp only [Act.put, List.setIfInBounds_toArray, List.set_cons_zero, List.set_cons_succ]))
            refine lexT_nil (hK.out _ _ ?_)
            go_wp2
            go_ret
            exact ⟨rfl, M.out.f⟩
      · refine wp_value (exec_buildSliceA (t := 27) rfl rfl undIds infoHashZ2 rfl (by decide) (by decide) XLEN.out) ?_
        have f := Lib.hid ((Fr.refl No k5).alloc (.cells (hashC x).toArray 30))
        replace M := Lib.hid (M.out.keep f.out)
        (try replace WA := Lib.hid (ownsRow_keep WA.out f.out (fun _ _ => id)))
        (try replace UA := Lib.hid (ownsRow_keep UA.out f.out (fun _ _ => id)))
        (try replace AI := Lib.hid (ownsRow_keep AI.out f.out (fun _ _ => id)))
        (try replace H1 := Lib.hid (H1.out.keep f.out))
        (try replace H2 := Lib.hid (H2.out.keep f.out))
        (try replace WI := Lib.hid (WI.out.keep f.out))
        (try replace UI := Lib.hid (UI.out.keep f.out))
        replace BS := Lib.hid (Nat.le_trans BS.out f.out.size)
        have H2 := Lib.hid (ids_new1 k5 XOK.out)
        clear f
        refine hK'.out _ _ ?_ (fun hS => ?_)
        · exact M.out.s
        try simp only [Act.put, List.setIfInBounds_toArray, List.set_cons_zero, List.set_cons_succ]
        clear hS hK' K'
        generalize k5.alloc (.cells (hashC x).toArray 30) = k56 at *
        generalize k5.heap.size = q57 at *
        refine lexT_ef1 10 (by kernel_rfl) rfl rfl (fun K' hK' => ?_)
        refine wp_value (exec_buildSliceA (t := 27) rfl rfl undIds infoHashZ2 rfl (by decide) (by decide) XLEN.out) ?_
        have f := Lib.hid ((Fr.refl No k56).alloc (.cells (hashC x).toArray 30))
        replace M := Lib.hid (M.out.keep f.out)
        (try replace WA := Lib.hid (ownsRow_keep WA.out f.out (fun _ _ => id)))
        (try replace UA := Lib.hid (ownsRow_keep UA.out f.out (fun _ _ => id)))
        (try replace AI := Lib.hid (ownsRow_keep AI.out f.out (fun _ _ => id)))
        (try replace H1 := Lib.hid (H1.out.keep f.out))
        (try replace H2 := Lib.hid (H2.out.keep f.out))
        (try replace WI := Lib.hid (WI.out.keep f.out))
        (try replace UI := Lib.hid (UI.out.keep f.out))
        replace BS := Lib.hid (Nat.le_trans BS.out f.out.size)
        have H1 := Lib.hid (ids_new1 k56 XOK.out)
        clear f
        refine hK'.out _ _ ?_ (fun hS => ?_)
        · exact M.out.s
        try simp only [Act.put, List.setIfInBounds_toArray, List.set_cons_zero, List.set_cons_succ]
        clear hS hK' K'
        generalize k56.alloc (.cells (hashC x).toArray 30) = k58 at *
        generalize k56.heap.size = q59 at *
        refine lexT_ef1 11 (by kernel_rfl) rfl rfl (fun K' hK' => ?_)
        have BS0 := BS
        go_simp
        refine (up_K M.out.g (by decide) H1.out (by simp)).mono ?_
        rintro e k60 ⟨va, rfl, o⟩
        have f := Lib.hid o.2
        replace M := Lib.hid (M.out.keep f.out)
        (try replace WA := Lib.hid (ownsRow_keep WA.out f.out (fun _ _ => id)))
        (try replace UA := Lib.hid (ownsRow_keep UA.out f.out (fun _ _ => id)))
        (try replace AI := Lib.hid (ownsRow_keep AI.out f.out (fun _ _ => id)))
        (try replace H1 := Lib.hid (H1.out.keep f.out))
        (try replace H2 := Lib.hid (H2.out.keep f.out))
        (try replace WI := Lib.hid (WI.out.keep f.out))
        (try replace UI := Lib.hid (UI.out.keep f.out))
        replace BS := Lib.hid (Nat.le_trans BS.out f.out.size)
        have AI := Lib.hid (own_base o.1 BS0.out)
        clear f o BS0
        refine hK'.out _ _ ?_ (fun hS => ?_)
        · exact M.out.s
        try simp only [Act.put, List.setIfInBounds_toArray, List.set_cons_zero, List.set_cons_succ]
        clear hS hK' K'
        refine lexT_ef1 15 (by kernel_rfl) rfl rfl (fun K' hK' => ?_)
        obtain ⟨va2, k61, ap, oo, ff⟩ := append_ids k60 UA.out H2.out (by have := LB2.out; simp only [List.length_singleton]; omega) (Nat.le_trans B5.out BS.out)
        refine wp_append_run rfl rfl rfl ap ?_
        replace M := Lib.hid (M.out.away AU.out ff)
        replace AI := Lib.hid (ownsRow_keep AI.out ff (fun b e h => (B6.out b (AI.out.lt b e).1).2 h))
        have UI := Lib.hid (IdsIs.own oo (by intro c hc; rcases List.mem_append.1 hc with h | h; exact OKU.out c h; rw [List.mem_singleton.1 h]; exact XOK.out))
        replace BS := Lib.hid (Nat.le_trans BS.out ff.size)
        clear ap oo ff UA H2
        refine hK'.out _ _ ?_ (fun hS => ?_)
        · exact M.out.s
        try simp only [Act.put, List.setIfInBounds_toArray, List.set_cons_zero, List.set_cons_succ]
        clear hS hK' K'
        refine lexT_ef1 16 (by kernel_rfl) rfl rfl (fun K' hK' => ?_)
        go_simp
        refine (same_b (IdsIs.own AI.out (M.out.g.okUp _)) UI.out X4.out X2.out E2.out).mono ?_
        rintro e k62 ⟨rfl, f0⟩
        have f := Lib.hid f0
        replace M := Lib.hid (M.out.keep f.out)
        (try replace WA := Lib.hid (ownsRow_keep WA.out f.out (fun _ _ => id)))
        (try replace UA := Lib.hid (ownsRow_keep UA.out f.out (fun _ _ => id)))
        (try replace AI := Lib.hid (ownsRow_keep AI.out f.out (fun _ _ => id)))
        (try replace H1 := Lib.hid (H1.out.keep f.out))
        (try replace H2 := Lib.hid (H2.out.keep f.out))
        (try replace WI := Lib.hid (WI.out.keep f.out))
        (try replace UI := Lib.hid (UI.out.keep f.out))
        replace BS := Lib.hid (Nat.le_trans BS.out f.out.size)
        clear f f0 AI UI
        refine hK'.out _ _ ?_ (fun hS => ?_)
        · exact M.out.s
        try simp only [Act.put, List.setIfInBounds_toArray, List.set_cons_zero, List.set_cons_succ]
        clear hS hK' K'
        (((first | (refine lexT_rd 17 (by kernel_rfl) rfl rfl ?_; apply Exists.intro; refine ⟨?_, ?_⟩; (focus (first | exact lex_load (ty := 30) rfl (fun w h => h) uK rK (by rw [XLEN.out]; exact infoHash) | (intro w' hS; obtain h := hS; go_simp; (try with_reducible rfl); done)))) | (refine lexT_sk 17 (by kernel_rfl) rfl rfl ?_)); try simp only [Act.put, List.setIfInBounds_toArray, List.set_cons_zero, List.set_cons_succ]); ((first | (refine lexT_rd 18 (by kernel_rfl) rfl rfl ?_; apply Exists.intro; refine ⟨?_, ?_⟩; (focus (first | exact lex_load (ty := 30) rfl (fun w h => h) uK rK (by rw [XLEN.out]; exact infoHash) | (intro w' hS; obtain h := hS; go_simp; (try with_reducible rfl); done)))) | (refine lexT_sk 18 (by kernel_rfl) rfl rfl ?_)); try simp only [Act.put, List.setIfInBounds_toArray, List.set_cons_zero, List.set_cons_succ]); ((first | (refine lexT_rd 19 (by kernel_rfl) rfl rfl ?_; apply Exists.intro; refine ⟨?_, ?_⟩; (focus (first | exact lex_load (ty := 30) rfl (fun w h => h) uK rK (by rw [XLEN.out]; exact infoHash) | (intro w' hS; obtain h := hS; go_simp; (try with_reducible rfl); done)))) | (refine lexT_sk 19 (by kernel_rfl) rfl rfl ?_)); try simp only [Act.put, List.setIfInBounds_toArray, List.set_cons_zero, List.set_cons_succ]); ((first | (refine lexT_rd 20 (by kernel_rfl) rfl rfl ?_; apply Exists.intro; refine ⟨?_, ?_⟩; (focus (first | exact lex_load (ty := 30) rfl (fun w h => h) uK rK (by rw [XLEN.out]; exact infoHash) | (intro w' hS; obtain h := hS; go_simp; (try with_reducible rfl); done)))) | (refine lexT_sk 20 (by kernel_rfl) rfl rfl ?_)); try simp only [Act.put, List.setIfInBounds_toArray, List.set_cons_zero, List.set_cons_succ]); ((first | (refine lexT_rd 23 (by kernel_rfl) rfl rfl ?_; apply Exists.intro; refine ⟨?_, ?_⟩; (focus (first | exact lex_load (ty := 30) rfl (fun w h => h) uK rK (by rw [XLEN.out]; exact infoHash) | (intro w' hS; obtain h := hS; go_simp; (try with_reducible rfl); done)))) | (refine lexT_sk 23 (by kernel_rfl) rfl rfl ?_)); try simp only [Act.put, List.setIfInBounds_toArray, List.set_cons_zero, List.set_cons_succ]))
        refine lexT_ef2 21 24 (by kernel_rfl) rfl rfl rfl rfl (fun K' hK' => ?_) (fun K' hK' => ?_)
        · refine wp_value (exec_buildSliceA (t := 27) rfl rfl undIds infoHashZ2 rfl (by decide) (by decide) XLEN.out) ?_
          have f := Lib.hid ((Fr.refl No k62).alloc (.cells (hashC x).toArray 30))
          replace M := Lib.hid (M.out.keep f.out)
          (try replace WA := Lib.hid (ownsRow_keep WA.out f.out (fun _ _ => id)))
          (try replace UA := Lib.hid (ownsRow_keep UA.out f.out (fun _ _ => id)))
          (try replace AI := Lib.hid (ownsRow_keep AI.out f.out (fun _ _ => id)))
          (try replace H1 := Lib.hid (H1.out.keep f.out))
          (try replace H2 := Lib.hid (H2.out.keep f.out))
          (try replace WI := Lib.hid (WI.out.keep f.out))
          (try replace UI := Lib.hid (UI.out.keep f.out))
          replace BS := Lib.hid (Nat.le_trans BS.out f.out.size)
          have H1 := Lib.hid (ids_new1 k62 XOK.out)
          clear f
          refine hK'.out _ _ ?_ (fun hS => ?_)
          · exact M.out.s
          try simp only [Act.put, List.setIfInBounds_toArray, List.set_cons_zero, List.set_cons_succ]
          clear hS hK' K'
          generalize k62.alloc (.cells (hashC x).toArray 30) = k63 at *
          generalize k62.heap.size = q64 at *
          refine lexT_ef2 22 24 (by kernel_rfl) rfl rfl rfl rfl (fun K' hK' => ?_) (fun K' hK' => ?_)
          · have BS0 := BS
            go_simp
            refine (down_K M.out.g (by decide) H1.out (by simp)).mono ?_
            rintro e k65 ⟨va, rfl, o⟩
            have f := Lib.hid o.2
            replace M := Lib.hid (M.out.keep f.out)
            (try replace WA := Lib.hid (ownsRow_keep WA.out f.out (fun _ _ => id)))
            (try replace UA := Lib.hid (ownsRow_keep UA.out f.out (fun _ _ => id)))
            (try replace AI := Lib.hid (ownsRow_keep AI.out f.out (fun _ _ => id)))
            (try replace H1 := Lib.hid (H1.out.keep f.out))
            (try replace H2 := Lib.hid (H2.out.keep f.out))
            (try replace WI := Lib.hid (WI.out.keep f.out))
            (try replace UI := Lib.hid (UI.out.keep f.out))
            replace BS := Lib.hid (Nat.le_trans BS.out f.out.size)
            have AI := Lib.hid (own_base o.1 BS0.out)
            clear f o BS0
            refine hK'.out _ _ ?_ (fun hS => ?_)
            · exact M.out.s
            try simp only [Act.put, List.setIfInBounds_toArray, List.set_cons_zero, List.set_cons_succ]
            clear hS hK' K'
            refine lexT_ef1 24 (by kernel_rfl) rfl rfl (fun K' hK' => ?_)
            refine wp_value (exec_buildSliceA (t := 27) rfl rfl undIds infoHashZ2 rfl (by decide) (by decide) XLEN.out) ?_
            have f := Lib.hid ((Fr.refl No k65).alloc (.cells (hashC x).toArray 30))
            replace M := Lib.hid (M.out.keep f.out)
            (try replace WA := Lib.hid (ownsRow_keep WA.out f.out (fun _ _ => id)))
            (try replace UA := Lib.hid (ownsRow_keep UA.out f.out (fun _ _ => id)))
            (try replace AI := Lib.hid (ownsRow_keep AI.out f.out (fun _ _ => id)))
            (try replace H1 := Lib.hid (H1.out.keep f.out))
            (try replace H2 := Lib.hid (H2.out.keep f.out))
            (try replace WI := Lib.hid (WI.out.keep f.out))
            (try replace UI := Lib.hid (UI.out.keep f.out))
            replace BS := Lib.hid (Nat.le_trans BS.out f.out.size)
            have H2 := Lib.hid (ids_new1 k65 XOK.out)
            clear f
            refine hK'.out _ _ ?_ (fun hS => ?_)
            · exact M.out.s
            try simp only [Act.put, List.setIfInBounds_toArray, List.set_cons_zero, List.set_cons_succ]
            clear hS hK' K'
            generalize k65.alloc (.cells (hashC x).toArray 30) = k66 at *
            generalize k65.heap.size = q67 at *
            refine lexT_ef1 25 (by kernel_rfl) rfl rfl (fun K' hK' => ?_)
            go_simp
            refine (same_b (IdsIs.own AI.out (M.out.g.okDown _)) H2.out X5.out (show ([x] : List HashD).length ≤ 100000 by simp) E3.out).mono ?_
            rintro e k68 ⟨rfl, f0⟩
            have f := Lib.hid f0
            replace M := Lib.hid (M.out.keep f.out)
            (try replace WA := Lib.hid (ownsRow_keep WA.out f.out (fun _ _ => id)))
            (try replace UA := Lib.hid (ownsRow_keep UA.out f.out (fun _ _ => id)))
            (try replace AI := Lib.hid (ownsRow_keep AI.out f.out (fun _ _ => id)))
            (try replace H1 := Lib.hid (H1.out.keep f.out))
            (try replace H2 := Lib.hid (H2.out.keep f.out))
            (try replace WI := Lib.hid (WI.out.keep f.out))
            (try replace UI := Lib.hid (UI.out.keep f.out))
            replace BS := Lib.hid (Nat.le_trans BS.out f.out.size)
            clear f f0 AI H2
            refine hK'.out _ _ ?_ (fun hS => ?_)
            · exact M.out.s
            try simp only [Act.put, List.setIfInBounds_toArray, List.set_cons_zero, List.set_cons_succ]
            clear hS hK' K'
            (((first | (refine lexT_rd 26 (by kernel_rfl) rfl rfl ?_; apply Exists.intro; refine ⟨?_, ?_⟩; (focus (first | exact lex_load (ty := 30) rfl (fun w h => h) uK rK (by rw [XLEN.out]; exact infoHash) | (intro w' hS; obtain h := hS; go_simp; (try with_reducible rfl); done)))) | (refine lexT_sk 26 (by kernel_rfl) rfl rfl ?_)); try simp only [Act.put, List.setIfInBounds_toArray, List.set_cons_zero, List.set_cons_succ]); ((first | (refine lexT_rd 27 (by kernel_rfl) rfl rfl ?_; apply Exists.intro; refine ⟨?_, ?_⟩; (focus (first | exact lex_load (ty := 30) rfl (fun w h => h) uK rK (by rw [XLEN.out]; exact infoHash) | (intro w' hS; obtain h := hS; go_simp; (try with_reducible rfl); done)))) | (refine lexT_sk 27 (by kernel_rfl) rfl rfl ?_)); try simp only [Act.put, List.setIfInBounds_toArray, List.set_cons_zero, List.set_cons_succ]); ((first | (refine lexT_rd 28 (by kernel_rfl) rfl rfl ?_; apply Exists.intro; refine ⟨?_, ?_⟩; (focus (first | exact lex_load (ty := 30) rfl (fun w h => h) uK rK (by rw [XLEN.out]; exact infoHash) | (intro w' hS; obtain h := hS; go_simp; (try with_reducible rfl); done)))) | (refine lexT_sk 28 (by kernel_rfl) rfl rfl ?_)); try simp only [Act.put, List.setIfInBounds_toArray, List.set_cons_zero, List.set_cons_succ]); ((first | (refine lexT_rd 29 (by kernel_rfl) rfl rfl ?_; apply Exists.intro; refine ⟨?_, ?_⟩; (focus (first | exact lex_load (ty := 30) rfl (fun w h => h) uK rK (by rw [XLEN.out]; exact infoHash) | (intro w' hS; obtain h := hS; go_simp; (try with_reducible rfl); done)))) | (refine lexT_sk 29 (by kernel_rfl) rfl rfl ?_)); try simp only [Act.put, List.setIfInBounds_toArray, List.set_cons_zero, List.set_cons_succ]))
            refine lexT_ef1 30 (by kernel_rfl) rfl rfl (fun K' hK' => ?_)
            go_simp
            refine (has_g M.out.g XOK.out E4.out).mono ?_
            rintro e k69 ⟨rfl, f0⟩
            have f := Lib.hid f0
            replace M := Lib.hid (M.out.keep f.out)
            (try replace WA := Lib.hid (ownsRow_keep WA.out f.out (fun _ _ => id)))
            (try replace UA := Lib.hid (ownsRow_keep UA.out f.out (fun _ _ => id)))
            (try replace AI := Lib.hid (ownsRow_keep AI.out f.out (fun _ _ => id)))
            (try replace H1 := Lib.hid (H1.out.keep f.out))
            (try replace H2 := Lib.hid (H2.out.keep f.out))
            (try replace WI := Lib.hid (WI.out.keep f.out))
            (try replace UI := Lib.hid (UI.out.keep f.out))
            replace BS := Lib.hid (Nat.le_trans BS.out f.out.size)
            clear f f0
            refine hK'.out _ _ ?_ (fun hS => ?_)
            · exact M.out.s
            try simp only [Act.put, List.setIfInBounds_toArray, List.set_cons_zero, List.set_cons_succ]
            clear hS hK' K'
            (((first | (refine lexT_rd 31 (by kernel_rfl) rfl rfl ?_; apply Exists.intro; refine ⟨?_, ?_⟩; (focus (first | exact lex_load (ty := 30) rfl (fun w h => h) uK rK (by rw [XLEN.out]; exact infoHash) | (intro w' hS; obtain h := hS; go_simp; (try with_reducible rfl); done)))) | (refine lexT_sk 31 (by kernel_rfl) rfl rfl ?_)); try simp only [Act.put, List.setIfInBounds_toArray, List.set_cons_zero, List.set_cons_succ]); ((first | (refine lexT_rd 32 (by kernel_rfl) rfl rfl ?_; apply Exists.intro; refine ⟨?_, ?_⟩; (focus (first | exact lex_load (ty := 30) rfl (fun w h => h) uK rK (by rw [XLEN.out]; exact infoHash) | (intro w' hS; obtain h := hS; go_simp; (try with_reducible rfl); done)))) | (refine lexT_sk 32 (by kernel_rfl) rfl rfl ?_)); try simp only [Act.put, List.setIfInBounds_toArray, List.set_cons_zero, List.set_cons_succ]))
            refine lexT_nil (hK.out _ _ ?_)
            go_wp2
            go_ret
            exact ⟨rfl, M.out.f⟩
          · refine wp_value (exec_buildSliceA (t := 27) rfl rfl undIds infoHashZ2 rfl (by decide) (by decide) XLEN.out) ?_
            have f := Lib.hid ((Fr.refl No k63).alloc (.cells (hashC x).toArray 30))
            replace M := Lib.hid (M.out.keep f.out)
            (try replace WA := Lib.hid (ownsRow_keep WA.out f.out (fun _ _ => id)))
            (try replace UA := Lib.hid (ownsRow_keep UA.out f.out (fun _ _ => id)))
            (try replace AI := Lib.hid (ownsRow_keep AI.out f.out (fun _ _ => id)))
            (try replace H1 := Lib.hid (H1.out.keep f.out))
            (try replace H2 := Lib.hid (H2.out.keep f.out))
            (try replace WI := Lib.hid (WI.out.keep f.out))
            (try replace UI := Lib.hid (UI.out.keep f.out))
            replace BS := Lib.hid (Nat.le_trans BS.out f.out.size)
            have H2 := Lib.hid (ids_new1 k63 XOK.out)
            clear f
            refine hK'.out _ _ ?_ (fun hS => ?_)
            · exact M.out.s
            try simp only [Act.put, List.setIfInBounds_toArray, List.set_cons_zero, List.set_cons_succ]
            clear hS hK' K'
            generalize k63.alloc (.cells (hashC x).toArray 30) = k70 at *
            generalize k63.heap.size = q71 at *
            refine lexT_ef1 22 (by kernel_rfl) rfl rfl (fun K' hK' => ?_)
            have BS0 := BS
            go_simp
            refine (down_K M.out.g (by decide) H1.out (by simp)).mono ?_
            rintro e k72 ⟨va, rfl, o⟩
            have f := Lib.hid o.2
            replace M := Lib.hid (M.out.keep f.out)
            (try replace WA := Lib.hid (ownsRow_keep WA.out f.out (fun _ _ => id)))
            (try replace UA := Lib.hid (ownsRow_keep UA.out f.out (fun _ _ => id)))
            (try replace AI := Lib.hid (ownsRow_keep AI.out f.out (fun _ _ => id)))
            (try replace H1 := Lib.hid (H1.out.keep f.out))
            (try replace H2 := Lib.hid (H2.out.keep f.out))
            (try replace WI := Lib.hid (WI.out.keep f.out))
            (try replace UI := Lib.hid (UI.out.keep f.out))
            replace BS := Lib.hid (Nat.le_trans BS.out f.out.size)
            have AI := Lib.hid (own_base o.1 BS0.out)
            clear f o BS0
            refine hK'.out _ _ ?_ (fun hS => ?_)
            · exact M.out.s
            try simp only [Act.put, List.setIfInBounds_toArray, List.set_cons_zero, List.set_cons_succ]
            clear hS hK' K'
            refine lexT_ef1 25 (by kernel_rfl) rfl rfl (fun K' hK' => ?_)
            go_simp
            refine (same_b (IdsIs.own AI.out (M.out.g.okDown _)) H2.out X5.out (show ([x] : List HashD).length ≤ 100000 by simp) E3.out).mono ?_
            rintro e k73 ⟨rfl, f0⟩
            have f := Lib.hid f0
            replace M := Lib.hid (M.out.keep f.out)
            (try replace WA := Lib.hid (ownsRow_keep WA.out f.out (fun _ _ => id)))
            (try replace UA := Lib.hid (ownsRow_keep UA.out f.out (fun _ _ => id)))
            (try replace AI := Lib.hid (ownsRow_keep AI.out f.out (fun _ _ => id)))
            (try replace H1 := Lib.hid (H1.out.keep f.out))
            (try replace H2 := Lib.hid (H2.out.keep f.out))
            (try replace WI := Lib.hid (WI.out.keep f.out))
            (try replace UI := Lib.hid (UI.out.keep f.out))
            replace BS := Lib.hid (Nat.le_trans BS.out f.out.size)
            clear f f0 AI H2
            refine hK'.out _ _ ?_ (fun hS => ?_)
            · exact M.out.s
            try simp only [Act.put, List.setIfInBounds_toArray, List.set_cons_zero, List.set_cons_succ]
            clear hS hK' K'
            (((first | (refine lexT_rd 26 (by kernel_rfl) rfl rfl ?_; apply Exists.intro; refine ⟨?_, ?_⟩; (focus (first | exact lex_load (ty := 30) rfl (fun w h => h) uK rK (by rw [XLEN.out]; exact infoHash) | (intro w' hS; obtain h := hS; go_simp; (try with_reducible rfl); done)))) | (refine lexT_sk 26 (by kernel_rfl) rfl rfl ?_)); try simp only [Act.put, List.setIfInBounds_toArray, List.set_cons_zero, List.set_cons_succ]); ((first | (refine lexT_rd 27 (by kernel_rfl) rfl rfl ?_; apply Exists.intro; refine ⟨?_, ?_⟩; (focus (first | exact lex_load (ty := 30) rfl (fun w h => h) uK rK (by rw [XLEN.out]; exact infoHash) | (intro w' hS; obtain h := hS; go_simp; (try with_reducible rfl); done)))) | (refine lexT_sk 27 (by kernel_rfl) rfl rfl ?_)); try simp only [Act.put, List.setIfInBounds_toArray, List.set_cons_zero, List.set_cons_succ]); ((first | (refine lexT_rd 28 (by kernel_rfl) rfl rfl ?_; apply Exists.intro; refine ⟨?_, ?_⟩; (focus (first | exact lex_load (ty := 30) rfl (fun w h => h) uK rK (by rw [XLEN.out]; exact infoHash) | (intro w' hS; obtain h := hS; go_simp; (try with_reducible rfl); done)))) | (refine lexT_sk 28 (by kernel_rfl) rfl rfl ?_)); try simp only [Act.put, List.setIfInBounds_toArray, List.set_cons_zero, List.set_cons_succ]); ((first | (refine lexT_rd 29 (by kernel_rfl) rfl rfl ?_; apply Exists.intro; refine ⟨?_, ?_⟩; (focus (first | exact lex_load (ty := 30) rfl (fun w h => h) uK rK (by rw [XLEN.out]; exact infoHash) | (intro w' hS; obtain h := hS; go_simp; (try with_reducible rfl); done)))) | (refine lexT_sk 29 (by kernel_rfl) rfl rfl ?_)); try simp only [Act.put, List.setIfInBounds_toArray, List.set_cons_zero, List.set_cons_succ]))
            refine lexT_ef1 30 (by kernel_rfl) rfl rfl (fun K' hK' => ?_)
            go_simp
            refine (has_g M.out.g XOK.out E4.out).mono ?_
            rintro e k74 ⟨rfl, f0⟩
            have f := Lib.hid f0
            replace M := Lib.hid (M.out.keep f.out)
            (try replace WA := Lib.hid (ownsRow_keep WA.out f.out (fun _ _ => id)))
            (try replace UA := Lib.hid (ownsRow_keep UA.out f.out (fun _ _ => id)))
            (try replace AI := Lib.hid (ownsRow_keep AI.out f.out (fun _ _ => id)))
            (try replace H1 := Lib.hid (H1.out.keep f.out))
            (try replace H2 := Lib.hid (H2.out.keep f.out))
            (try replace WI := Lib.hid (WI.out.keep f.out))
            (try replace UI := Lib.hid (UI.out.keep f.out))
            replace BS := Lib.hid (Nat.le_trans BS.out f.out.size)
            clear f f0
            refine hK'.out _ _ ?_ (fun hS => ?_)
            · exact M.out.s
            try simp only [Act.put, List.setIfInBounds_toArray, List.set_cons_zero, List.set_cons_succ]
            clear hS hK' K'
            (((first | (refine lexT_rd 31 (by kernel_rfl) rfl rfl ?_; apply Exists.intro; refine ⟨?_, ?_⟩; (focus (first | exact lex_load (ty := 30) rfl (fun w h => h) uK rK (by rw [XLEN.out]; exact infoHash) | (intro w' hS; obtain h := hS; go_simp; (try with_reducible rfl); done)))) | (refine lexT_sk 31 (by kernel_rfl) rfl rfl ?_)); try simp only [Act.put, List.setIfInBounds_toArray, List.set_cons_zero, List.set_cons_succ]); ((first | (refine lexT_rd 32 (by kernel_rfl) rfl rfl ?_; apply Exists.intro; refine ⟨?_, ?_⟩; (focus (first | exact lex_load (ty := 30) rfl (fun w h => h) uK rK (by rw [XLEN.out]; exact infoHash) | (intro w' hS; obtain h := hS; go_simp; (try with_reducible rfl); done)))) | (refine lexT_sk 32 (by kernel_rfl) rfl rfl ?_)); try simp only [Act.put, List.setIfInBounds_toArray, List.set_cons_zero, List.set_cons_succ]))
            refine lexT_nil (hK.out _ _ ?_)
            go_wp2
            go_ret
            exact ⟨rfl, M.out.f⟩
        · refine wp_value (exec_buildSliceA (t := 27) rfl rfl undIds infoHashZ2 rfl (by decide) (by decide) XLEN.out) ?_
          have f := Lib.hid ((Fr.refl No k62).alloc (.cells (hashC x).toArray 30))
          replace M := Lib.hid (M.out.keep f.out)
          (try replace WA := Lib.hid (ownsRow_keep WA.out f.out (fun _ _ => id)))
          (try replace UA := Lib.hid (ownsRow_keep UA.out f.out (fun _ _ => id)))
          (try replace AI := Lib.hid (ownsRow_keep AI.out f.out (fun _ _ => id)))
          (try replace H1 := Lib.hid (H1.out.keep f.out))
          (try replace H2 := Lib.hid (H2.out.keep f.out))
          (try replace WI := Lib.hid (WI.out.keep f.out))
          (try replace UI := Lib.hid (UI.out.keep f.out))
          replace BS := Lib.hid (Nat.le_trans BS.out f.out.size)
          have H2 := Lib.hid (ids_new1 k62 XOK.out)
          clear f
          refine hK'.out _ _ ?_ (fun hS => ?_)
          · exact M.out.s
          try simp only [Act.put, List.setIfInBounds_toArray, List.set_cons_zero, List.set_cons_succ]
          clear hS hK' K'
          generalize k62.alloc (.cells (hashC x).toArray 30) = k75 at *
          generalize k62.heap.size = q76 at *
          refine lexT_ef1 21 (by kernel_rfl) rfl rfl (fun K' hK' => ?_)
          refine wp_value (exec_buildSliceA (t := 27) rfl rfl undIds infoHashZ2 rfl (by decide) (by decide) XLEN.out) ?_
          have f := Lib.hid ((Fr.refl No k75).alloc (.cells (hashC x).toArray 30))
          replace M := Lib.hid (M.out.keep f.out)
          (try replace WA := Lib.hid (ownsRow_keep WA.out f.out (fun _ _ => id)))
          (try replace UA := Lib.hid (ownsRow_keep UA.out f.out (fun _ _ => id)))
          (try replace AI := Lib.hid (ownsRow_keep AI.out f.out (fun _ _ => id)))
          (try replace H1 := Lib.hid (H1.out.keep f.out))
          (try replace H2 := Lib.hid (H2.out.keep f.out))
          (try replace WI := Lib.hid (WI.out.keep f.out))
          (try replace UI := Lib.hid (UI.out.keep f.out))
          replace BS := Lib.hid (Nat.le_trans BS.out f.out.size)
          have H1 := Lib.hid (ids_new1 k75 XOK.out)
          clear f
          refine hK'.out _ _ ?_ (fun hS => ?_)
          · exact M.out.s
          try simp only [Act.put, List.setIfInBounds_toArray, List.set_cons_zero, List.set_cons_succ]
          clear hS hK' K'
          generalize k75.alloc (.cells (hashC x).toArray 30) = k77 at *
          generalize k75.heap.size = q78 at *
          refine lexT_ef1 22 (by kernel_rfl) rfl rfl (fun K' hK' => ?_)
          have BS0 := BS
          go_simp
          refine (down_K M.out.g (by decide) H1.out (by simp)).mono ?_
          rintro e k79 ⟨va, rfl, o⟩
          have f := Lib.hid o.2
          replace M := Lib.hid (M.out.keep f.out)
          (try replace WA := Lib.hid (ownsRow_keep WA.out f.out (fun _ _ => id)))
          (try replace UA := Lib.hid (ownsRow_keep UA.out f.out (fun _ _ => id)))
          (try replace AI := Lib.hid (ownsRow_keep AI.out f.out (fun _ _ => id)))
          (try replace H1 := Lib.hid (H1.out.keep f.out))
          (try replace H2 := Lib.hid (H2.out.keep f.out))
          (try replace WI := Lib.hid (WI.out.keep f.out))
          (try replace UI := Lib.hid (UI.out.keep f.out))
          replace BS := Lib.hid (Nat.le_trans BS.out f.out.size)
          have AI := Lib.hid (own_base o.1 BS0.out)
          clear f o BS0
          refine hK'.out _ _ ?_ (fun hS => ?_)
          · exact M.out.s
          try simp only [Act.put, List.setIfInBounds_toArray, List.set_cons_zero, List.set_cons_succ]
          clear hS hK' K'
          refine lexT_ef1 25 (by kernel_rfl) rfl rfl (fun K' hK' => ?_)
          go_simp
          refine (same_b (IdsIs.own AI.out (M.out.g.okDown _)) H2.out X5.out (show ([x] : List HashD).length ≤ 100000 by simp) E3.out).mono ?_
          rintro e k80 ⟨rfl, f0⟩
          have f := Lib.hid f0
          replace M := Lib.hid (M.out.keep f.out)
          (try replace WA := Lib.hid (ownsRow_keep WA.out f.out (fun _ _ => id)))
          (try replace UA := Lib.hid (ownsRow_keep UA.out f.out (fun _ _ => id)))
          (try replace AI := Lib.hid (ownsRow_keep AI.out f.out (fun _ _ => id)))
          (try replace H1 := Lib.hid (H1.out.keep f.out))
          (try replace H2 := Lib.hid (H2.out.keep f.out))
          (try replace WI := Lib.hid (WI.out.keep f.out))
          (try replace UI := Lib.hid (UI.out.keep f.out))
          replace BS := Lib.hid (Nat.le_trans BS.out f.out.size)
          clear f f0 AI H2
          refine hK'.out _ _ ?_ (fun hS => ?_)
          · exact M.out.s
          try simp only [Act.put, List.setIfInBounds_toArray, List.set_cons_zero, List.set_cons_succ]
          clear hS hK' K'
          (((first | (refine lexT_rd 26 (by kernel_rfl) rfl rfl ?_; apply Exists.intro; refine ⟨?_, ?_⟩; (focus (first | exact lex_load (ty := 30) rfl (fun w h => h) uK rK (by rw [XLEN.out]; exact infoHash) | (intro w' hS; obtain h := hS; go_simp; (try with_reducible rfl); done)))) | (refine lexT_sk 26 (by kernel_rfl) rfl rfl ?_)); try simp only [Act.put, List.setIfInBounds_toArray, List.set_cons_zero, List.set_cons_succ]); ((first | (refine lexT_rd 27 (by kernel_rfl) rfl rfl ?_; apply Exists.intro; refine ⟨?_, ?_⟩; (focus (first | exact lex_load (ty := 30) rfl (fun w h => h) uK rK (by rw [XLEN.out]; exact infoHash) | (intro w' hS; obtain h := hS; go_simp; (try with_reducible rfl); done)))) | (refine lexT_sk 27 (by kernel_rfl) rfl rfl ?_)); try simp only [Act.put, List.setIfInBounds_toArray, List.set_cons_zero, List.set_cons_succ]); ((first | (refine lexT_rd 28 (by kernel_rfl) rfl rfl ?_; apply Exists.intro; refine ⟨?_, ?_⟩; (focus (first | exact lex_load (ty := 30) rfl (fun w h => h) uK rK (by rw [XLEN.out]; exact infoHash) | (intro w' hS; obtain h := hS; go_simp; (try with_reducible rfl); done)))) | (refine lexT_sk 28 (by kernel_rfl) rfl rfl ?_)); try simp only [Act.put, List.setIfInBounds_toArray, List.set_cons_zero, List.set_cons_succ]); ((first | (refine lexT_rd 29 (by kernel_rfl) rfl rfl ?_; apply Exists.intro; refine ⟨?_, ?_⟩; (focus (first | exact lex_load (ty := 30) rfl (fun w h => h) uK rK (by rw [XLEN.out]; exact infoHash) | (intro w' hS; obtain h := hS; go_simp; (try with_reducible rfl); done)))) | (refine lexT_sk 29 (by kernel_rfl) rfl rfl ?_)); try simp only [Act.put, List.setIfInBounds_toArray, List.set_cons_zero, List.set_cons_succ]))
          refine lexT_ef1 30 (by kernel_rfl) rfl rfl (fun K' hK' => ?_)
          go_simp
          refine (has_g M.out.g XOK.out E4.out).mono ?_
          rintro e k81 ⟨rfl, f0⟩
          have f := Lib.hid f0
          replace M := Lib.hid (M.out.keep f.out)
          (try replace WA := Lib.hid (ownsRow_keep WA.out f.out (fun _ _ => id)))
          (try replace UA := Lib.hid (ownsRow_keep UA.out f.out (fun _ _ => id)))
          (try replace AI := Lib.hid (ownsRow_keep AI.out f.out (fun _ _ => id)))
          (try replace H1 := Lib.hid (H1.out.keep f.out))
          (try replace H2 := Lib.hid (H2.out.keep f.out))
          (try replace WI := Lib.hid (WI.out.keep f.out))
          (try replace UI := Lib.hid (UI.out.keep f.out))
          replace BS := Lib.hid (Nat.le_trans BS.out f.out.size)
          clear f f0
          refine hK'.out _ _ ?_ (fun hS => ?_)
          · exact M.out.s
          try simp only [Act.put, List.setIfInBounds_toArray, List.set_cons_zero, List.set_cons_succ]
          clear hS hK' K'
          (((first | (refine lexT_rd 31 (by kernel_rfl) rfl rfl ?_; apply Exists.intro; refine ⟨?_, ?_⟩; (focus (first | exact lex_load (ty := 30) rfl (fun w h => h) uK rK (by rw [XLEN.out]; exact infoHash) | (intro w' hS; obtain h := hS; go_simp; (try with_reducible rfl); done)))) | (refine lexT_sk 31 (by kernel_rfl) rfl rfl ?_)); try simp only [Act.put, List.setIfInBounds_toArray, List.set_cons_zero, List.set_cons_succ]); ((first | (refine lexT_rd 32 (by kernel_rfl) rfl rfl ?_; apply Exists.intro; refine ⟨?_, ?_⟩; (focus (first | exact lex_load (ty := 30) rfl (fun w h => h) uK rK (by rw [XLEN.out]; exact infoHash) | (intro w' hS; obtain h := hS; go_simp; (try with_reducible rfl); done)))) | (refine lexT_sk 32 (by kernel_rfl) rfl rfl ?_)); try simp only [Act.put, List.setIfInBounds_toArray, List.set_cons_zero, List.set_cons_succ]))
          refine lexT_nil (hK.out _ _ ?_)
          go_wp2
          go_ret
          exact ⟨rfl, M.out.f⟩
    · refine wp_value (exec_buildSliceA (t := 27) rfl rfl undIds infoHashZ2 rfl (by decide) (by decide) XLEN.out) ?_
      have f := Lib.hid ((Fr.refl No k0).alloc (.cells (hashC x).toArray 30))
      replace M := Lib.hid (M.out.keep f.out)
      (try replace WA := Lib.hid (ownsRow_keep WA.out f.out (fun _ _ => id)))
      (try replace UA := Lib.hid (ownsRow_keep UA.out f.out (fun _ _ => id)))
      (try replace AI := Lib.hid (ownsRow_keep AI.out f.out (fun _ _ => id)))
      (try replace H1 := Lib.hid (H1.out.keep f.out))
      (try replace H2 := Lib.hid (H2.out.keep f.out))
      (try replace WI := Lib.hid (WI.out.keep f.out))
      (try replace UI := Lib.hid (UI.out.keep f.out))
      replace BS := Lib.hid (Nat.le_trans BS.out f.out.size)
      have H1 := Lib.hid (ids_new1 k0 XOK.out)
      clear f
      refine hK'.out _ _ ?_ (fun hS => ?_)
      · exact M.out.s
      try simp only [Act.put, List.setIfInBounds_toArray, List.set_cons_zero, List.set_cons_succ]
      clear hS hK' K'
      generalize k0.alloc (.cells (hashC x).toArray 30) = k82 at *
      generalize k0.heap.size = q83 at *
      refine lexT_ef1 1 (by kernel_rfl) rfl rfl (fun K' hK' => ?_)
      have BS0 := BS
      go_simp
      refine (all_K M.out.g (by decide)).mono ?_
      rintro e k84 ⟨va, rfl, o⟩
      have f := Lib.hid o.2
      replace M := Lib.hid (M.out.keep f.out)
      (try replace WA := Lib.hid (ownsRow_keep WA.out f.out (fun _ _ => id)))
      (try replace UA := Lib.hid (ownsRow_keep UA.out f.out (fun _ _ => id)))
      (try replace AI := Lib.hid (ownsRow_keep AI.out f.out (fun _ _ => id)))
      (try replace H1 := Lib.hid (H1.out.keep f.out))
      (try replace H2 := Lib.hid (H2.out.keep f.out))
      (try replace WI := Lib.hid (WI.out.keep f.out))
      (try replace UI := Lib.hid (UI.out.keep f.out))
      replace BS := Lib.hid (Nat.le_trans BS.out f.out.size)
      have AI := Lib.hid (own_base o.1 BS0.out)
      clear f o BS0
      refine hK'.out _ _ ?_ (fun hS => ?_)
      · exact M.out.s
      try simp only [Act.put, List.setIfInBounds_toArray, List.set_cons_zero, List.set_cons_succ]
      clear hS hK' K'
      refine lexT_ef1 5 (by kernel_rfl) rfl rfl (fun K' hK' => ?_)
      obtain ⟨va2, k85, ap, oo, ff⟩ := append_ids k84 WA.out H1.out (by have := LB1.out; simp only [List.length_singleton]; omega) (Nat.le_trans B4.out BS.out)
      refine wp_append_run rfl rfl rfl ap ?_
      replace M := Lib.hid (M.out.away AW.out ff)
      replace AI := Lib.hid (ownsRow_keep AI.out ff (fun b e h => (B6.out b (AI.out.lt b e).1).1 h))
      replace UA := Lib.hid (ownsRow_keep UA.out ff (fun b e h => AWU.out b h e))
      have WI := Lib.hid (IdsIs.own oo (by intro c hc; rcases List.mem_append.1 hc with h | h; exact OKI.out c h; rw [List.mem_singleton.1 h]; exact XOK.out))
      replace BS := Lib.hid (Nat.le_trans BS.out ff.size)
      clear ap oo ff WA H1
      refine hK'.out _ _ ?_ (fun hS => ?_)
      · exact M.out.s
      try simp only [Act.put, List.setIfInBounds_toArray, List.set_cons_zero, List.set_cons_succ]
      clear hS hK' K'
      refine lexT_ef1 6 (by kernel_rfl) rfl rfl (fun K' hK' => ?_)
      go_simp
      refine (same_b (IdsIs.own AI.out M.out.g.okId) WI.out X3.out X1.out E1.out).mono ?_
      rintro e k86 ⟨rfl, f0⟩
      have f := Lib.hid f0
      replace M := Lib.hid (M.out.keep f.out)
      (try replace WA := Lib.hid (ownsRow_keep WA.out f.out (fun _ _ => id)))
      (try replace UA := Lib.hid (ownsRow_keep UA.out f.out (fun _ _ => id)))
      (try replace AI := Lib.hid (ownsRow_keep AI.out f.out (fun _ _ => id)))
      (try replace H1 := Lib.hid (H1.out.keep f.out))
      (try replace H2 := Lib.hid (H2.out.keep f.out))
      (try replace WI := Lib.hid (WI.out.keep f.out))
      (try replace UI := Lib.hid (UI.out.keep f.out))
      replace BS := Lib.hid (Nat.le_trans BS.out f.out.size)
      clear f f0 AI WI
      refine hK'.out _ _ ?_ (fun hS => ?_)
      · exact M.out.s
      try simp only [Act.put, List.setIfInBounds_toArray, List.set_cons_zero, List.set_cons_succ]
      clear hS hK' K'
      (((first | (refine lexT_rd 7 (by kernel_rfl) rfl rfl ?_; apply Exists.intro; refine ⟨?_, ?_⟩; (focus (first | exact lex_load (ty := 30) rfl (fun w h => h) uK rK (by rw [XLEN.out]; exact infoHash) | (intro w' hS; obtain h := hS; go_simp; (try with_reducible rfl); done)))) | (refine lexT_sk 7 (by kernel_rfl) rfl rfl ?_)); try simp only [Act.put, List.setIfInBounds_toArray, List.set_cons_zero, List.set_cons_succ]); ((first | (refine lexT_rd 8 (by kernel_rfl) rfl rfl ?_; apply Exists.intro; refine ⟨?_, ?_⟩; (focus (first | exact lex_load (ty := 30) rfl (fun w h => h) uK rK (by rw [XLEN.out]; exact infoHash) | (intro w' hS; obtain h := hS; go_simp; (try with_reducible rfl); done)))) | (refine lexT_sk 8 (by kernel_rfl) rfl rfl ?_)); try simp only [Act.put, List.setIfInBounds_toArray, List.set_cons_zero, List.set_cons_succ]); ((first | (refine lexT_rd 9 (by kernel_rfl) rfl rfl ?_; apply Exists.intro; refine ⟨?_, ?_⟩; (focus (first | exact lex_load (ty := 30) rfl (fun w h => h) uK rK (by rw [XLEN.out]; exact infoHash) | (intro w' hS; obtain h := hS; go_simp; (try with_reducible rfl); done)))) | (refine lexT_sk 9 (by kernel_rfl) rfl rfl ?_)); try simp only [Act.put, List.setIfInBounds_toArray, List.set_cons_zero, List.set_cons_succ]); ((first | (refine lexT_rd 12 (by kernel_rfl) rfl rfl ?_; apply Exists.intro; refine ⟨?_, ?_⟩; (focus (first | exact lex_load (ty := 30) rfl (fun w h => h) uK rK (by rw [XLEN.out]; exact infoHash) | (intro w' hS; obtain h := hS; go_simp; (try with_reducible rfl); done)))) | (refine lexT_sk 12 (by kernel_rfl) rfl rfl ?_)); try simp only [Act.put, List.setIfInBounds_toArray, List.set_cons_zero, List.set_cons_succ]); ((first | (refine lexT_rd 13 (by kernel_rfl) rfl rfl ?_; apply Exists.intro; refine ⟨?_, ?_⟩; (focus (first | exact lex_load (ty := 30) rfl (fun w h => h) uK rK (by rw [XLEN.out]; exact infoHash) | (intro w' hS; obtain h := hS; go_simp; (try with_reducible rfl); done)))) | (refine lexT_sk 13 (by kernel_rfl) rfl rfl ?_)); try simp only [Act.put, List.setIfInBounds_toArray, List.set_cons_zero, List.set_cons_succ]))
      refine lexT_ef2 10 14 (by kernel_rfl) rfl rfl rfl rfl (fun K' hK' => ?_) (fun K' hK' => ?_)
      · refine wp_value (exec_buildSliceA (t := 27) rfl rfl undIds infoHashZ2 rfl (by decide) (by decide) XLEN.out) ?_
        have f := Lib.hid ((Fr.refl No k86).alloc (.cells (hashC x).toArray 30))
        replace M := Lib.hid (M.out.keep f.out)
        (try replace WA := Lib.hid (ownsRow_keep WA.out f.out (fun _ _ => id)))
        (try replace UA := Lib.hid (ownsRow_keep UA.out f.out (fun _ _ => id)))
        (try replace AI := Lib.hid (ownsRow_keep AI.out f.out (fun _ _ => id)))
        (try replace H1 := Lib.hid (H1.out.keep f.out))
        (try replace H2 := Lib.hid (H2.out.keep f.out))
        (try replace WI := Lib.hid (WI.out.keep f.out))
        (try replace UI := Lib.hid (UI.out.keep f.out))
        replace BS := Lib.hid (Nat.le_trans BS.out f.out.size)
        have H1 := Lib.hid (ids_new1 k86 XOK.out)
        clear f
        refine hK'.out _ _ ?_ (fun hS => ?_)
        · exact M.out.s
        try simp only [Act.put, List.setIfInBounds_toArray, List.set_cons_zero, List.set_cons_succ]
        clear hS hK' K'
        generalize k86.alloc (.cells (hashC x).toArray 30) = k87 at *
        generalize k86.heap.size = q88 at *
        refine lexT_ef2 11 14 (by kernel_rfl) rfl rfl rfl rfl (fun K' hK' => ?_) (fun K' hK' => ?_)
        · have BS0 := BS
          go_simp
          refine (up_K M.out.g (by decide) H1.out (by simp)).mono ?_
          rintro e k89 ⟨va, rfl, o⟩
          have f := Lib.hid o.2
          replace M := Lib.hid (M.out.keep f.out)
          (try replace WA := Lib.hid (ownsRow_keep WA.out f.out (fun _ _ => id)))
          (try replace UA := Lib.hid (ownsRow_keep UA.out f.out (fun _ _ => id)))
          (try replace AI := Lib.hid (ownsRow_keep AI.out f.out (fun _ _ => id)))
          (try replace H1 := Lib.hid (H1.out.keep f.out))
          (try replace H2 := Lib.hid (H2.out.keep f.out))
          (try replace WI := Lib.hid (WI.out.keep f.out))
          (try replace UI := Lib.hid (UI.out.keep f.out))
          replace BS := Lib.hid (Nat.le_trans BS.out f.out.size)
          have AI := Lib.hid (own_base o.1 BS0.out)
          clear f o BS0
          refine hK'.out _ _ ?_ (fun hS => ?_)
          · exact M.out.s
          try simp only [Act.put, List.setIfInBounds_toArray, List.set_cons_zero, List.set_cons_succ]
          clear hS hK' K'
          refine lexT_ef1 14 (by kernel_rfl) rfl rfl (fun K' hK' => ?_)
          refine wp_value (exec_buildSliceA (t := 27) rfl rfl undIds infoHashZ2 rfl (by decide) (by decide) XLEN.out) ?_
          have f := Lib.hid ((Fr.refl No k89).alloc (.cells (hashC x).toArray 30))
          replace M := Lib.hid (M.out.keep f.out)
          (try replace WA := Lib.hid (ownsRow_keep WA.out f.out (fun _ _ => id)))
          (try replace UA := Lib.hid (ownsRow_keep UA.out f.out (fun _ _ => id)))
          (try replace AI := Lib.hid (ownsRow_keep AI.out f.out (fun _ _ => id)))
          (try replace H1 := Lib.hid (H1.out.keep f.out))
          (try replace H2 := Lib.hid (H2.out.keep f.out))
          (try replace WI := Lib.hid (WI.out.keep f.out))
          (try replace UI := Lib.hid (UI.out.keep f.out))
          replace BS := Lib.hid (Nat.le_trans BS.out f.out.size)
          have H2 := Lib.hid (ids_new1 k89 XOK.out)
          clear f
          refine hK'.out _ _ ?_ (fun hS => ?_)
          · exact M.out.s
          try simp only [Act.put, List.setIfInBounds_toArray, List.set_cons_zero, List.set_cons_succ]
          clear hS hK' K'
          generalize k89.alloc (.cells (hashC x).toArray 30) = k90 at *
          generalize k89.heap.size = q91 at *
          refine lexT_ef1 15 (by kernel_rfl) rfl rfl (fun K' hK' => ?_)
          obtain ⟨va2, k92, ap, oo, ff⟩ := append_ids k90 UA.out H2.out (by have := LB2.out; simp only [List.length_singleton]; omega) (Nat.le_trans B5.out BS.out)
          refine wp_append_run rfl rfl rfl ap ?_
          replace M := Lib.hid (M.out.away AU.out ff)
          replace AI := Lib.hid (ownsRow_keep AI.out ff (fun b e h => (B6.out b (AI.out.lt b e).1).2 h))
          have UI := Lib.hid (IdsIs.own oo (by intro c hc; rcases List.mem_append.1 hc with h | h; exact OKU.out c h; rw [List.mem_singleton.1 h]; exact XOK.out))
          replace BS := Lib.hid (Nat.le_trans BS.out ff.size)
          clear ap oo ff UA H2
          refine hK'.out _ _ ?_ (fun hS => ?_)
          · exact M.out.s
          try simp only [Act.put, List.setIfInBounds_toArray, List.set_cons_zero, List.set_cons_succ]
          clear hS hK' K'
          refine lexT_ef1 16 (by kernel_rfl) rfl rfl (fun K' hK' => ?_)
          go_simp
          refine (same_b (IdsIs.own AI.out (M.out.g.okUp _)) UI.out X4.out X2.out E2.out).mono ?_
          rintro e k93 ⟨rfl, f0⟩
          have f := Lib.hid f0
          replace M := Lib.hid (M.out.keep f.out)
          (try replace WA := Lib.hid (ownsRow_keep WA.out f.out (fun _ _ => id)))
          (try replace UA := Lib.hid (ownsRow_keep UA.out f.out (fun _ _ => id)))
          (try replace AI := Lib.hid (ownsRow_keep AI.out f.out (fun _ _ => id)))
          (try replace H1 := Lib.hid (H1.out.keep f.out))
          (try replace H2 := Lib.hid (H2.out.keep f.out))
          (try replace WI := Lib.hid (WI.out.keep f.out))
          (try replace UI := Lib.hid (UI.out.keep f.out))
          replace BS := Lib.hid (Nat.le_trans BS.out f.out.size)
          clear f f0 AI UI
          refine hK'.out _ _ ?_ (fun hS => ?_)
          · exact M.out.s
          try simp only [Act.put, List.setIfInBounds_toArray, List.set_cons_zero, List.set_cons_succ]
          clear hS hK' K'
          (((first | (refine lexT_rd 17 (by kernel_rfl) rfl rfl ?_; apply Exists.intro; refine ⟨?_, ?_⟩; (focus (first | exact lex_load (ty := 30) rfl (fun w h => h) uK rK (by rw [XLEN.out]; exact infoHash) | (intro w' hS; obtain h := hS; go_simp; (try with_reducible rfl); done)))) | (refine lexT_sk 17 (by kernel_rfl) rfl rfl ?_)); try simp only [Act.put, List.setIfInBounds_toArray, List.set_cons_zero, List.set_cons_succ]); ((first | (refine lexT_rd 18 (by kernel_rfl) rfl rfl ?_; apply Exists.intro; refine ⟨?_, ?_⟩; (focus (first | exact lex_load (ty := 30) rfl (fun w h => h) uK rK (by rw [XLEN.out]; exact infoHash) | (intro w' hS; obtain h := hS; go_simp; (try with_reducible rfl); done)))) | (refine lexT_sk 18 (by kernel_rfl) rfl rfl ?_)); try simp only [Act.put, List.setIfInBounds_toArray, List.set_cons_zero, List.set_cons_succ]); ((first | (refine lexT_rd 19 (by kernel_rfl) rfl rfl ?_; apply Exists.intro; refine ⟨?_, ?_⟩; (focus (first | exact lex_load (ty := 30) rfl (fun w h => h) uK rK (by rw [XLEN.out]; exact infoHash) | (intro w' hS; obtain h := hS; go_simp; (try with_reducible rfl); done)))) | (refine lexT_sk 19 (by kernel_rfl) rfl rfl ?_)); try simp only [Act.put, List.setIfInBounds_toArray, List.set_cons_zero, List.set_cons_succ]); ((first | (refine lexT_rd 20 (by kernel_rfl) rfl rfl ?_; apply Exists.intro; refine ⟨?_, ?_⟩; (focus (first | exact lex_load (ty := 30) rfl (fun w h => h) uK rK (by rw [XLEN.out]; exact infoHash) | (intro w' hS; obtain h := hS; go_simp; (try with_reducible rfl); done)))) | (refine lexT_sk 20 (by kernel_rfl) rfl rfl ?_)); try simp only [Act.put, List.setIfInBounds_toArray, List.set_cons_zero, List.set_cons_succ]); ((first | (refine lexT_rd 23 (by kernel_rfl) rfl rfl ?_; apply Exists.intro; refine ⟨?_, ?_⟩; (focus (first | exact lex_load (ty := 30) rfl (fun w h => h) uK rK (by rw [XLEN.out]; exact infoHash) | (intro w' hS; obtain h := hS; go_simp; (try with_reducible rfl); done)))) | (refine lexT_sk 23 (by kernel_rfl) rfl rfl ?_)); try simp only [Act.put, List.setIfInBounds_toArray, List.set_cons_zero, List.set_cons_succ]))
          refine lexT_ef2 21 24 (by kernel_rfl) rfl rfl rfl rfl (fun K' hK' => ?_) (fun K' hK' => ?_)
          · refine wp_value (exec_buildSliceA (t := 27) rfl rfl undIds infoHashZ2 rfl (by decide) (by decide) XLEN.out) ?_
            have f := Lib.hid ((Fr.refl No k93).alloc (.cells (hashC x).toArray 30))
            replace M := Lib.hid (M.out.keep f.out)
            (try replace WA := Lib.hid (ownsRow_keep WA.out f.out (fun _ _ => id)))
            (try replace UA := Lib.hid (ownsRow_keep UA.out f.out (fun _ _ => id)))
            (try replace AI := Lib.hid (ownsRow_keep AI.out f.out (fun _ _ => id)))
            (try replace H1 := Lib.hid (H1.out.keep f.out))
            (try replace H2 := Lib.hid (H2.out.keep f.out))
            (try replace WI := Lib.hid (WI.out.keep f.out))
            (try replace UI := Lib.hid (UI.out.keep f.out))
            replace BS := Lib.hid (Nat.le_trans BS.out f.out.size)
            have H1 := Lib.hid (ids_new1 k93 XOK.out)
            clear f
            refine hK'.out _ _ ?_ (fun hS => ?_)
            · exact M.out.s
            try simp only [Act.put, List.setIfInBounds_toArray, List.set_cons_zero, List.set_cons_succ]
            clear hS hK' K'
            generalize k93.alloc (.cells (hashC x).toArray 30) = k94 at *
            generalize k93.heap.size = q95 at *
            refine lexT_ef2 22 24 (by kernel_rfl) rfl rfl rfl rfl (fun K' hK' => ?_) (fun K' hK' => ?_)
            · have BS0 := BS
              go_simp
              refine (down_K M.out.g (by decide) H1.out (by simp)).mono ?_
              rintro e k96 ⟨va, rfl, o⟩
              have f := Lib.hid o.2
              replace M := Lib.hid (M.out.keep f.out)
              (try replace WA := Lib.hid (ownsRow_keep WA.out f.out (fun _ _ => id)))
              (try replace UA := Lib.hid (ownsRow_keep UA.out f.out (fun _ _ => id)))
              (try replace AI := Lib.hid (ownsRow_keep AI.out f.out (fun _ _ => id)))
              (try replace H1 := Lib.hid (H1.out.keep f.out))
              (try replace H2 := Lib.hid (H2.out.keep f.out))
              (try replace WI := Lib.hid (WI.out.keep f.out))
              (try replace UI := Lib.hid (UI.out.keep f.out))
              replace BS := Lib.hid (Nat.le_trans BS.out f.out.size)
              have AI := Lib.hid (own_base o.1 BS0.out)
              clear f o BS0
              refine hK'.out _ _ ?_ (fun hS => ?_)
              · exact M.out.s
              try simp only [Act.put, List.setIfInBounds_toArray, List.set_cons_zero, List.set_cons_succ]
              clear hS hK' K'
              refine lexT_ef1 24 (by kernel_rfl) rfl rfl (fun K' hK' => ?_)
              refine wp_value (exec_buildSliceA (t := 27) rfl rfl undIds infoHashZ2 rfl (by decide) (by decide) XLEN.out) ?_
              have f := Lib.hid ((Fr.refl No k96).alloc (.cells (hashC x).toArray 30))
              replace M := Lib.hid (M.out.keep f.out)
              (try replace WA := Lib.hid (ownsRow_keep WA.out f.out (fun _ _ => id)))
              (try replace UA := Lib.hid (ownsRow_keep UA.out f.out (fun _ _ => id)))
              (try replace AI := Lib.hid (ownsRow_keep AI.out f.out (fun _ _ => id)))
              (try replace H1 := Lib.hid (H1.out.keep f.out))
              (try replace H2 := Lib.hid (H2.out.keep f.out))
              (try replace WI := Lib.hid (WI.out.keep f.out))
              (try replace UI := Lib.hid (UI.out.keep f.out))
              replace BS := Lib.hid (Nat.le_trans BS.out f.out.size)
              have H2 := Lib.hid (ids_new1 k96 XOK.out)
              clear f
              refine hK'.out _ _ ?_ (fun hS => ?_)
              · exact M.out.s
              try simp only [Act.put, List.setIfInBounds_toArray, List.set_cons_zero, List.set_cons_succ]
              clear hS hK' K'
              generalize k96.alloc (.cells (hashC x).toArray 30) = k97 at *
              generalize k96.heap.size = q98 at *
              refine lexT_ef1 25 (by kernel_rfl) rfl rfl (fun K' hK' => ?_)
              go_simp
              refine (same_b (IdsIs.own AI.out (M.out.g.okDown _)) H2.out X5.out (show ([x] : List HashD).length ≤ 100000 by simp) E3.out).mono ?_
              rintro e k99 ⟨rfl, f0⟩
              have f := Lib.hid f0
              replace M := Lib.hid (M.out.keep f.out)
              (try replace WA := Lib.hid (ownsRow_keep WA.out f.out (fun _ _ => id)))
              (try replace UA := Lib.hid (ownsRow_keep UA.out f.out (fun _ _ => id)))
              (try replace AI := Lib.hid (ownsRow_keep AI.out f.out (fun _ _ => id)))
              (try replace H1 := Lib.hid (H1.out.keep f.out))
              (try replace H2 := Lib.hid (H2.out.keep f.out))
              (try replace WI := Lib.hid (WI.out.keep f.out))
              (try replace UI := Lib.hid (UI.out.keep f.out))
              replace BS := Lib.hid (Nat.le_trans BS.out f.out.size)
              clear f f0 AI H2
              refine hK'.out _ _ ?_ (fun hS => ?_)
              · exact M.out.s
              try simp only [Act.put, List.setIfInBounds_toArray, List.set_cons_zero, List.set_cons_succ]
              clear hS hK' K'
              (((first | (refine lexT_rd 26 (by kernel_rfl) rfl rfl ?_; apply Exists.intro; refine ⟨?_, ?_⟩; (focus (first | exact lex_load (ty := 30) rfl (fun w h => h) uK rK (by rw [XLEN.out]; exact infoHash) | (intro w' hS; obtain h := hS; go_simp; (try with_reducible rfl); done)))) | (refine lexT_sk 26 (by kernel_rfl) rfl rfl ?_)); try simp only [Act.put, List.setIfInBounds_toArray, List.set_cons_zero, List.set_cons_succ]); ((first | (refine lexT_rd 27 (by kernel_rfl) rfl rfl ?_; apply Exists.intro; refine ⟨?_, ?_⟩; (focus (first | exact lex_load (ty := 30) rfl (fun w h => h) uK rK (by rw [XLEN.out]; exact infoHash) | (intro w' hS; obtain h := hS; go_simp; (try with_reducible rfl); done)))) | (refine lexT_sk 27 (by kernel_rfl) rfl rfl ?_)); try simp only [Act.put, List.setIfInBounds_toArray, List.set_cons_zero, List.set_cons_succ]); ((first | (refine lexT_rd 28 (by kernel_rfl) rfl rfl ?_; apply Exists.intro; refine ⟨?_, ?_⟩; (focus (first | exact lex_load (ty := 30) rfl (fun w h => h) uK rK (by rw [XLEN.out]; exact infoHash) | (intro w' hS; obtain h := hS; go_simp; (try with_reducible rfl); done)))) | (refine lexT_sk 28 (by kernel_rfl) rfl rfl ?_)); try simp only [Act.put, List.setIfInBounds_toArray, List.set_cons_zero, List.set_cons_succ]); ((first | (refine lexT_rd 29 (by kernel_rfl) rfl rfl ?_; apply Exists.intro; refine ⟨?_, ?_⟩; (focus (first | exact lex_load (ty := 30) rfl (fun w h => h) uK rK (by rw [XLEN.out]; exact infoHash) | (intro w' hS; obtain h := hS; go_simp; (try with_reducible rfl); done)))) | (refine lexT_sk 29 (by kernel_rfl) rfl rfl ?_)); try simp only [Act.put, List.setIfInBounds_toArray, List.set_cons_zero, List.set_cons_succ]))
              refine lexT_ef1 30 (by kernel_rfl) rfl rfl (fun K' hK' => ?_)
              go_simp
              refine (has_g M.out.g XOK.out E4.out).mono ?_
              rintro e k100 ⟨rfl, f0⟩
              have f := Lib.hid f0
              replace M := Lib.hid (M.out.keep f.out)
              (try replace WA := Lib.hid (ownsRow_keep WA.out f.out (fun _ _ => id)))
              (try replace UA := Lib.hid (ownsRow_keep UA.out f.out (fun _ _ => id)))
              (try replace AI := Lib.hid (ownsRow_keep AI.out f.out (fun _ _ => id)))
              (try replace H1 := Lib.hid (H1.out.keep f.out))
              (try replace H2 := Lib.hid (H2.out.keep f.out))
              (try replace WI := Lib.hid (WI.out.keep f.out))
              (try replace UI := Lib.hid (UI.out.keep f.out))
              replace BS := Lib.hid (Nat.le_trans BS.out f.out.size)
              clear f f0
              refine hK'.out _ _ ?_ (fun hS => ?_)
              · exact M.out.s
              try simp only [Act.put, List.setIfInBounds_toArray, List.set_cons_zero, List.set_cons_succ]
              clear hS hK' K'
              (((first | (refine lexT_rd 31 (by kernel_rfl) rfl rfl ?_; apply Exists.intro; refine ⟨?_, ?_⟩; (focus (first | exact lex_load (ty := 30) rfl (fun w h => h) uK rK (by rw [XLEN.out]; exact infoHash) | (intro w' hS; obtain h := hS; go_simp; (try with_reducible rfl); done)))) | (refine lexT_sk 31 (by kernel_rfl) rfl rfl ?_)); try simp only [Act.put, List.setIfInBounds_toArray, List.set_cons_zero, List.set_cons_succ]); ((first | (refine lexT_rd 32 (by kernel_rfl) rfl rfl ?_; apply Exists.intro; refine ⟨?_, ?_⟩; (focus (first | exact lex_load (ty := 30) rfl (fun w h => h) uK rK (by rw [XLEN.out]; exact infoHash) | (intro w' hS; obtain h := hS; go_simp; (try with_reducible rfl); done)))) | (refine lexT_sk 32 (by kernel_rfl) rfl rfl ?_)); try simp only [Act.put, List.setIfInBounds_toArray, List.set_cons_zero, List.set_cons_succ]))
              refine lexT_nil (hK.out _ _ ?_)
              go_wp2
              go_ret
              exact ⟨rfl, M.out.f⟩
            · refine wp_value (exec_buildSliceA (t := 27) rfl rfl undIds infoHashZ2 rfl (by decide) (by decide) XLEN.out) ?_
              have f := Lib.hid ((Fr.refl No k94).alloc (.cells (hashC x).toArray 30))
              replace M := Lib.hid (M.out.keep f.out)
              (try replace WA := Lib.hid (ownsRow_keep WA.out f.out (fun _ _ => id)))
              (try replace UA := Lib.hid (ownsRow_keep UA.out f.out (fun _ _ => id)))
              (try replace AI := Lib.hid (ownsRow_keep AI.out f.out (fun _ _ => id)))
              (try replace H1 := Lib.hid (H1.out.keep f.out))
              (try replace H2 := Lib.hid (H2.out.keep f.out))
              (try replace WI := Lib.hid (WI.out.keep f.out))
              (try replace UI := Lib.hid (UI.out.keep f.out))
              replace BS := Lib.hid (Nat.le_trans BS.out f.out.size)
              have H2 := Lib.hid (ids_new1 k94 XOK.out)
              clear f
              refine hK'.out _ _ ?_ (fun hS => ?_)
              · exact M.out.s
              try simp only [Act.put, List.setIfInBounds_toArray, List.set_cons_zero, List.set_cons_succ]
              clear hS hK' K'
              generalize k94.alloc (.cells (hashC x).toArray 30) = k101 at *
              generalize k94.heap.size = q102 at *
              refine lexT_ef1 22 (by kernel_rfl) rfl rfl (fun K' hK' => ?_)
              have BS0 := BS
              go_simp
              refine (down_K M.out.g (by decide) H1.out (by simp)).mono ?_
              rintro e k103 ⟨va, rfl, o⟩
              have f := Lib.hid o.2
              replace M := Lib.hid (M.out.keep f.out)
              (try replace WA := Lib.hid (ownsRow_keep WA.out f.out (fun _ _ => id)))
              (try replace UA := Lib.hid (ownsRow_keep UA.out f.out (fun _ _ => id)))
              (try replace AI := Lib.hid (ownsRow_keep AI.out f.out (fun _ _ => id)))
              (try replace H1 := Lib.hid (H1.out.keep f.out))
              (try replace H2 := Lib.hid (H2.out.keep f.out))
              (try replace WI := Lib.hid (WI.out.keep f.out))
              (try replace UI := Lib.hid (UI.out.keep f.out))
              replace BS := Lib.hid (Nat.le_trans BS.out f.out.size)
              have AI := Lib.hid (own_base o.1 BS0.out)
              clear f o BS0
              refine hK'.out _ _ ?_ (fun hS => ?_)
              · exact M.out.s
              try simp only [Act.put, List.setIfInBounds_toArray, List.set_cons_zero, List.set_cons_succ]
              clear hS hK' K'
              refine lexT_ef1 25 (by kernel_rfl) rfl rfl (fun K' hK' => ?_)
              go_simp
              refine (same_b (IdsIs.own AI.out (M.out.g.okDown _)) H2.out X5.out (show ([x] : List HashD).length ≤ 100000 by simp) E3.out).mono ?_
              rintro e k104 ⟨rfl, f0⟩
              have f := Lib.hid f0
              replace M := Lib.hid (M.out.keep f.out)
              (try replace WA := Lib.hid (ownsRow_keep WA.out f.out (fun _ _ => id)))
              (try replace UA := Lib.hid (ownsRow_keep UA.out f.out (fun _ _ => id)))
              (try replace AI := Lib.hid (ownsRow_keep AI.out f.out (fun _ _ => id)))
              (try replace H1 := Lib.hid (H1.out.keep f.out))
              (try replace H2 := Lib.hid (H2.out.keep f.out))
              (try replace WI := Lib.hid (WI.out.keep f.out))
              (try replace UI := Lib.hid (UI.out.keep f.out))
              replace BS := Lib.hid (Nat.le_trans BS.out f.out.size)
              clear f f0 AI H2
              refine hK'.out _ _ ?_ (fun hS => ?_)
              · exact M.out.s
              try simp only [Act.put, List.setIfInBounds_toArray, List.set_cons_zero, List.set_cons_succ]
              clear hS hK' K'
              (((first | (refine lexT_rd 26 (by kernel_rfl) rfl rfl ?_; apply Exists.intro; refine ⟨?_, ?_⟩; (focus (first | exact lex_load (ty := 30) rfl (fun w h => h) uK rK (by rw [XLEN.out]; exact infoHash) | (intro w' hS; obtain h := hS; go_simp; (try with_reducible rfl); done)))) | (refine lexT_sk 26 (by kernel_rfl) rfl rfl ?_)); try simp only [Act.put, List.setIfInBounds_toArray, List.set_cons_zero, List.set_cons_succ]); ((first | (refine lexT_rd 27 (by kernel_rfl) rfl rfl ?_; apply Exists.intro; refine ⟨?_, ?_⟩; (focus (first | exact lex_load (ty := 30) rfl (fun w h => h) uK rK (by rw [XLEN.out]; exact infoHash) | (intro w' hS; obtain h := hS; go_simp; (try with_reducible rfl); done)))) | (refine lexT_sk 27 (by kernel_rfl) rfl rfl ?_)); try simp only [Act.put, List.setIfInBounds_toArray, List.set_cons_zero, List.set_cons_succ]); ((first | (refine lexT_rd 28 (by kernel_rfl) rfl rfl ?_; apply Exists.intro; refine ⟨?_, ?_⟩; (focus (first | exact lex_load (ty := 30) rfl (fun w h => h) uK rK (by rw [XLEN.out]; exact infoHash) | (intro w' hS; obtain h := hS; go_simp; (try with_reducible rfl); done)))) | (refine lexT_sk 28 (by kernel_rfl) rfl rfl ?_)); try simp only [Act.put, List.setIfInBounds_toArray, List.set_cons_zero, List.set_cons_succ]); ((first | (refine lexT_rd 29 (by kernel_rfl) rfl rfl ?_; apply Exists.intro; refine ⟨?_, ?_⟩; (focus (first | exact lex_load (ty := 30) rfl (fun w h => h) uK rK (by rw [XLEN.out]; exact infoHash) | (intro w' hS; obtain h := hS; go_simp; (try with_reducible rfl); done)))) | (refine lexT_sk 29 (by kernel_rfl) rfl rfl ?_)); try simp only [Act.put, List.setIfInBounds_toArray, List.set_cons_zero, List.set_cons_succ]))
              refine lexT_ef1 30 (by kernel_rfl) rfl rfl (fun K' hK' => ?_)
              go_simp
              refine (has_g M.out.g XOK.out E4.out).mono ?_
              rintro e k105 ⟨rfl, f0⟩
              have f := Lib.hid f0
              replace M := Lib.hid (M.out.keep f.out)
              (try replace WA := Lib.hid (ownsRow_keep WA.out f.out (fun _ _ => id)))
              (try replace UA := Lib.hid (ownsRow_keep UA.out f.out (fun _ _ => id)))
              (try replace AI := Lib.hid (ownsRow_keep AI.out f.out (fun _ _ => id)))
              (try replace H1 := Lib.hid (H1.out.keep f.out))
              (try replace H2 := Lib.hid (H2.out.keep f.out))
              (try replace WI := Lib.hid (WI.out.keep f.out))
              (try replace UI := Lib.hid (UI.out.keep f.out))
              replace BS := Lib.hid (Nat.le_trans BS.out f.out.size)
              clear f f0
              refine hK'.out _ _ ?_ (fun hS => ?_)
              · exact M.out.s
              try simp only [Act.put, List.setIfInBounds_toArray, List.set_cons_zero, List.set_cons_succ]
              clear hS hK' K'
              (((first | (refine lexT_rd 31 (by kernel_rfl) rfl rfl ?_; apply Exists.intro; refine ⟨?_, ?_⟩; (focus (first | exact lex_load (ty := 30) rfl (fun w h => h) uK rK (by rw [XLEN.out]; exact infoHash) | (intro w' hS; obtain h := hS; go_simp; (try with_reducible rfl); done)))) | (refine lexT_sk 31 (by kernel_rfl) rfl rfl ?_)); try simp only [Act.put, List.setIfInBounds_toArray, List.set_cons_zero, List.set_cons_succ]); ((first | (refine lexT_rd 32 (by kernel_rfl) rfl rfl ?_; apply Exists.intro; refine ⟨?_, ?_⟩; (focus (first | exact lex_load (ty := 30) rfl (fun w h => h) uK rK (by rw [XLEN.out]; exact infoHash) | (intro w' hS; obtain h := hS; go_simp; (try with_reducible rfl); done)))) | (refine lexT_sk 32 (by kernel_rfl) rfl rfl ?_)); try simp only [Act.put, List.setIfInBounds_toArray, List.set_cons_zero, List.set_cons_succ]))
              refine lexT_nil (hK.out _ _ ?_)
              go_wp2
              go_ret
              exact ⟨rfl, M.out.f⟩
          · refine wp_value (exec_buildSliceA (t := 27) rfl rfl undIds infoHashZ2 rfl (by decide) (by decide) XLEN.out) ?_
            have f := Lib.hid ((Fr.refl No k93).alloc (.cells (hashC x).toArray 30))
            replace M := Lib.hid (M.out.keep f.out)
            (try replace WA := Lib.hid (ownsRow_keep WA.out f.out (fun _ _ => id)))
            (try replace UA := Lib.hid (ownsRow_keep UA.out f.out (fun _ _ => id)))
            (try replace AI := Lib.hid (ownsRow_keep AI.out f.out (fun _ _ => id)))
            (try replace H1 := Lib.hid (H1.out.keep f.out))
            (try replace H2 := Lib.hid (H2.out.keep f.out))
            (try replace WI := Lib.hid (WI.out.keep f.out))
            (try replace UI := Lib.hid (UI.out.keep f.out))
            replace BS := Lib.hid (Nat.le_trans BS.out f.out.size)
            have H2 := Lib.hid (ids_new1 k93 XOK.out)
            clear f
            refine hK'.out _ _ ?_ (fun hS => ?_)
            · exact M.out.s
            try simp only [Act.put, List.setIfInBounds_toArray, List.set_cons_zero, List.set_cons_succ]
            clear hS hK' K'
            generalize k93.alloc (.cells (hashC x).toArray 30) = k106 at *
            generalize k93.heap.size = q107 at *
            refine lexT_ef1 21 (by kernel_rfl) rfl rfl (fun K' hK' => ?_)
            refine wp_value (exec_buildSliceA (t := 27) rfl rfl undIds infoHashZ2 rfl (by decide) (by decide) XLEN.out) ?_
            have f := Lib.hid ((Fr.refl No k106).alloc (.cells (hashC x).toArray 30))
            replace M := Lib.hid (M.out.keep f.out)
            (try replace WA := Lib.hid (ownsRow_keep WA.out f.out (fun _ _ => id)))
            (try replace UA := Lib.hid (ownsRow_keep UA.out f.out (fun _ _ => id)))
            (try replace AI := Lib.hid (ownsRow_keep AI.out f.out (fun _ _ => id)))
            (try replace H1 := Lib.hid (H1.out.keep f.out))
            (try replace H2 := Lib.hid (H2.out.keep f.out))
            (try replace WI := Lib.hid (WI.out.keep f.out))
            (try replace UI := Lib.hid (UI.out.keep f.out))
            replace BS := Lib.hid (Nat.le_trans BS.out f.out.size)
            have H1 := Lib.hid (ids_new1 k106 XOK.out)
            clear f
            refine hK'.out _ _ ?_ (fun hS => ?_)
            · exact M.out.s
            try simp only [Act.put, List.setIfInBounds_toArray, List.set_cons_zero, List.set_cons_succ]
            clear hS hK' K'
            generalize k106.alloc (.cells (hashC x).toArray 30) = k108 at *
            generalize k106.heap.size = q109 at *
            refine lexT_ef1 22 (by kernel_rfl) rfl rfl (fun K' hK' => ?_)
            have BS0 := BS
            go_simp
            refine (down_K M.out.g (by decide) H1.out (by simp)).mono ?_
            rintro e k110 ⟨va, rfl, o⟩
            have f := Lib.hid o.2
            replace M := Lib.hid (M.out.keep f.out)
            (try replace WA := Lib.hid (ownsRow_keep WA.out f.out (fun _ _ => id)))
            (try replace UA := Lib.hid (ownsRow_keep UA.out f.out (fun _ _ => id)))
            (try replace AI := Lib.hid (ownsRow_keep AI.out f.out (fun _ _ => id)))
            (try replace H1 := Lib.hid (H1.out.keep f.out))
            (try replace H2 := Lib.hid (H2.out.keep f.out))
            (try replace WI := Lib.hid (WI.out.keep f.out))
            (try replace UI := Lib.hid (UI.out.keep f.out))
            replace BS := Lib.hid (Nat.le_trans BS.out f.out.size)
            have AI := Lib.hid (own_base o.1 BS0.out)
            clear f o BS0
            refine hK'.out _ _ ?_ (fun hS => ?_)
            · exact M.out.s
            try simp only [Act.put, List.setIfInBounds_toArray, List.set_cons_zero, List.set_cons_succ]
            clear hS hK' K'
            refine lexT_ef1 25 (by kernel_rfl) rfl rfl (fun K' hK' => ?_)
            go_simp
            refine (same_b (IdsIs.own AI.out (M.out.g.okDown _)) H2.out X5.out (show ([x] : List HashD).length ≤ 100000 by simp) E3.out).mono ?_
            rintro e k111 ⟨rfl, f0⟩
            have f := Lib.hid f0
            replace M := Lib.hid (M.out.keep f.out)
            (try replace WA := Lib.hid (ownsRow_keep WA.out f.out (fun _ _ => id)))
            (try replace UA := Lib.hid (ownsRow_keep UA.out f.out (fun _ _ => id)))
            (try replace AI := Lib.hid (ownsRow_keep AI.out f.out (fun _ _ => id)))
            (try replace H1 := Lib.hid (H1.out.keep f.out))
            (try replace H2 := Lib.hid (H2.out.keep f.out))
            (try replace WI := Lib.hid (WI.out.keep f.out))
            (try replace UI := Lib.hid (UI.out.keep f.out))
            replace BS := Lib.hid (Nat.le_trans BS.out f.out.size)
            clear f f0 AI H2
            refine hK'.out _ _ ?_ (fun hS => ?_)
            · exact M.out.s
            try simp only [Act.put, List.setIfInBounds_toArray, List.set_cons_zero, List.set_cons_succ]
            clear hS hK' K'
            (((first | (refine lexT_rd 26 (by kernel_rfl) rfl rfl ?_; apply Exists.intro; refine ⟨?_, ?_⟩; (focus (first | exact lex_load (ty := 30) rfl (fun w h => h) uK rK (by rw [XLEN.out]; exact infoHash) | (intro w' hS; obtain h := hS; go_simp; (try with_reducible rfl); done)))) | (refine lexT_sk 26 (by kernel_rfl) rfl rfl ?_)); try simp only [Act.put, List.setIfInBounds_toArray, List.set_cons_zero, List.set_cons_succ]); ((first | (refine lexT_rd 27 (by kernel_rfl) rfl rfl ?_; apply Exists.intro; refine ⟨?_, ?_⟩; (focus (first | exact lex_load (ty := 30) rfl (fun w h => h) uK rK (by rw [XLEN.out]; exact infoHash) | (intro w' hS; obtain h := hS; go_simp; (try with_reducible rfl); done)))) | (refine lexT_sk 27 (by kernel_rfl) rfl rfl ?_)); try simp only [Act.put, List.setIfInBounds_toArray, List.set_cons_zero, List.set_cons_succ]); ((first | (refine lexT_rd 28 (by kernel_rfl) rfl rfl ?_; apply Exists.intro; refine ⟨?_, ?_⟩; (focus (first | exact lex_load (ty := 30) rfl (fun w h => h) uK rK (by rw [XLEN.out]; exact infoHash) | (intro w' hS; obtain h := hS; go_simp; (try with_reducible rfl); done)))) | (refine lexT_sk 28 (by kernel_rfl) rfl rfl ?_)); try simp only [Act.put, List.setIfInBounds_toArray, List.set_cons_zero, List.set_cons_succ]); ((first | (refine lexT_rd 29 (by kernel_rfl) rfl rfl ?_; apply Exists.intro; refine ⟨?_, ?_⟩; (focus (first | exact lex_load (ty := 30) rfl (fun w h => h) uK rK (by rw [XLEN.out]; exact infoHash) | (intro w' hS; obtain h := hS; go_simp; (try with_reducible rfl); done)))) | (refine lexT_sk 29 (by kernel_rfl) rfl rfl ?_)); try simp only [Act.put, List.setIfInBounds_toArray, List.set_cons_zero, List.set_cons_succ]))
            refine lexT_ef1 30 (by kernel_rfl) rfl rfl (fun K' hK' => ?_)
            go_simp
            refine (has_g M.out.g XOK.out E4.out).mono ?_
            rintro e k112 ⟨rfl, f0⟩
            have f := Lib.hid f0
            replace M := Lib.hid (M.out.keep f.out)
            (try replace WA := Lib.hid (ownsRow_keep WA.out f.out (fun _ _ => id)))
            (try replace UA := Lib.hid (ownsRow_keep UA.out f.out (fun _ _ => id)))
            (try replace AI := Lib.hid (ownsRow_keep AI.out f.out (fun _ _ => id)))
            (try replace H1 := Lib.hid (H1.out.keep f.out))
            (try replace H2 := Lib.hid (H2.out.keep f.out))
            (try replace WI := Lib.hid (WI.out.keep f.out))
            (try replace UI := Lib.hid (UI.out.keep f.out))
            replace BS := Lib.hid (Nat.le_trans BS.out f.out.size)
            clear f f0
            refine hK'.out _ _ ?_ (fun hS => ?_)
            · exact M.out.s
            try simp only [Act.put, List.setIfInBounds_toArray, List.set_cons_zero, List.set_cons_succ]
            clear hS hK' K'
            (((first | (refine lexT_rd 31 (by kernel_rfl) rfl rfl ?_; apply Exists.intro; refine ⟨?_, ?_⟩; (focus (first | exact lex_load (ty := 30) rfl (fun w h => h) uK rK (by rw [XLEN.out]; exact infoHash) | (intro w' hS; obtain h := hS; go_simp; (try with_reducible rfl); done)))) | (refine lexT_sk 31 (by kernel_rfl) rfl rfl ?_)); try simp only [Act.put, List.setIfInBounds_toArray, List.set_cons_zero, List.set_cons_succ]); ((first | (refine lexT_rd 32 (by kernel_rfl) rfl rfl ?_; apply Exists.intro; refine ⟨?_, ?_⟩; (focus (first | exact lex_load (ty := 30) rfl (fun w h => h) uK rK (by rw [XLEN.out]; exact infoHash) | (intro w' hS; obtain h := hS; go_simp; (try with_reducible rfl); done)))) | (refine lexT_sk 32 (by kernel_rfl) rfl rfl ?_)); try simp only [Act.put, List.setIfInBounds_toArray, List.set_cons_zero, List.set_cons_succ]))
            refine lexT_nil (hK.out _ _ ?_)
            go_wp2
            go_ret
            exact ⟨rfl, M.out.f⟩
        · refine wp_value (exec_buildSliceA (t := 27) rfl rfl undIds infoHashZ2 rfl (by decide) (by decide) XLEN.out) ?_
          have f := Lib.hid ((Fr.refl No k87).alloc (.cells (hashC x).toArray 30))
          replace M := Lib.hid (M.out.keep f.out)
          (try replace WA := Lib.hid (ownsRow_keep WA.out f.out (fun _ _ => id)))
          (try replace UA := Lib.hid (ownsRow_keep UA.out f.out (fun _ _ => id)))
          (try replace AI := Lib.hid (ownsRow_keep AI.out f.out (fun _ _ => id)))
          (try replace H1 := Lib.hid (H1.out.keep f.out))
          (try replace H2 := Lib.hid (H2.out.keep f.out))
          (try replace WI := Lib.hid (WI.out.keep f.out))
          (try replace UI := Lib.hid (UI.out.keep f.out))
          replace BS := Lib.hid (Nat.le_trans BS.out f.out.size)
          have H2 := Lib.hid (ids_new1 k87 XOK.out)
          clear f
          refine hK'.out _ _ ?_ (fun hS => ?_)
          · exact M.out.s
          try simp only [Act.put, List.setIfInBounds_toArray, List.set_cons_zero, List.set_cons_succ]
          clear hS hK' K'
          generalize k87.alloc (.cells (hashC x).toArray 30) = k113 at *
          generalize k87.heap.size = q114 at *
          refine lexT_ef1 11 (by kernel_rfl) rfl rfl (fun K' hK' => ?_)
          have BS0 := BS
          go_simp
          refine (up_K M.out.g (by decide) H1.out (by simp)).mono ?_
          rintro e k115 ⟨va, rfl, o⟩
          have f := Lib.hid o.2
          replace M := Lib.hid (M.out.keep f.out)
          (try replace WA := Lib.hid (ownsRow_keep WA.out f.out (fun _ _ => id)))
          (try replace UA := Lib.hid (ownsRow_keep UA.out f.out (fun _ _ => id)))
          (try replace AI := Lib.hid (ownsRow_keep AI.out f.out (fun _ _ => id)))
          (try replace H1 := Lib.hid (H1.out.keep f.out))
          (try replace H2 := Lib.hid (H2.out.keep f.out))
          (try replace WI := Lib.hid (WI.out.keep f.out))
          (try replace UI := Lib.hid (UI.out.keep f.out))
          replace BS := Lib.hid (Nat.le_trans BS.out f.out.size)
          have AI := Lib.hid (own_base o.1 BS0.out)
          clear f o BS0
          refine hK'.out _ _ ?_ (fun hS => ?_)
          · exact M.out.s
          try simp only [Act.put, List.setIfInBounds_toArray, List.set_cons_zero, List.set_cons_succ]
          clear hS hK' K'
          refine lexT_ef1 15 (by kernel_rfl) rfl rfl (fun K' hK' => ?_)
          obtain ⟨va2, k116, ap, oo, ff⟩ := append_ids k115 UA.out H2.out (by have := LB2.out; simp only [List.length_singleton]; omega) (Nat.le_trans B5.out BS.out)
          refine wp_append_run rfl rfl rfl ap ?_
          replace M := Lib.hid (M.out.away AU.out ff)
          replace AI := Lib.hid (ownsRow_keep AI.out ff (fun b e h => (B6.out b (AI.out.lt b e).1).2 h))
          have UI := Lib.hid (IdsIs.own oo (by intro c hc; rcases List.mem_append.1 hc with h | h; exact OKU.out c h; rw [List.mem_singleton.1 h]; exact XOK.out))
          replace BS := Lib.hid (Nat.le_trans BS.out ff.size)
          clear ap oo ff UA H2
          refine hK'.out _ _ ?_ (fun hS => ?_)
          · exact M.out.s
          try simp only [Act.put, List.setIfInBounds_toArray, List.set_cons_zero, List.set_cons_succ]
          clear hS hK' K'
          refine lexT_ef1 16 (by kernel_rfl) rfl rfl (fun K' hK' => ?_)
          go_simp
          refine (same_b (IdsIs.own AI.out (M.out.g.okUp _)) UI.out X4.out X2.out E2.out).mono ?_
          rintro e k117 ⟨rfl, f0⟩
          have f := Lib.hid f0
          replace M := Lib.hid (M.out.keep f.out)
          (try replace WA := Lib.hid (ownsRow_keep WA.out f.out (fun _ _ => id)))
          (try replace UA := Lib.hid (ownsRow_keep UA.out f.out (fun _ _ => id)))
          (try replace AI := Lib.hid (ownsRow_keep AI.out f.out (fun _ _ => id)))
          (try replace H1 := Lib.hid (H1.out.keep f.out))
          (try replace H2 := Lib.hid (H2.out.keep f.out))
          (try replace WI := Lib.hid (WI.out.keep f.out))
          (try replace UI := Lib.hid (UI.out.keep f.out))
          replace BS := Lib.hid (Nat.le_trans BS.out f.out.size)
          clear f f0 AI UI
          refine hK'.out _ _ ?_ (fun hS => ?_)
          · exact M.out.s
          try simp only [Act.put, List.setIfInBounds_toArray, List.set_cons_zero, List.set_cons_succ]
          clear hS hK' K'
          (((first | (refine lexT_rd 17 (by kernel_rfl) rfl rfl ?_; apply Exists.intro; refine ⟨?_, ?_⟩; (focus (first | exact lex_load (ty := 30) rfl (fun w h => h) uK rK (by rw [XLEN.out]; exact infoHash) | (intro w' hS; obtain h := hS; go_simp; (try with_reducible rfl); done)))) | (refine lexT_sk 17 (by kernel_rfl) rfl rfl ?_)); try simp only [Act.put, List.setIfInBounds_toArray, List.set_cons_zero, List.set_cons_succ]); ((first | (refine lexT_rd 18 (by kernel_rfl) rfl rfl ?_; apply Exists.intro; refine ⟨?_, ?_⟩; (focus (first | exact lex_load (ty := 30) rfl (fun w h => h) uK rK (by rw [XLEN.out]; exact infoHash) | (intro w' hS; obtain h := hS; go_simp; (try with_reducible rfl); done)))) | (refine lexT_sk 18 (by kernel_rfl) rfl rfl ?_)); try simp only [Act.put, List.setIfInBounds_toArray, List.set_cons_zero, List.set_cons_succ]); ((first | (refine lexT_rd 19 (by kernel_rfl) rfl rfl ?_; apply Exists.intro; refine ⟨?_, ?_⟩; (focus (first | exact lex_load (ty := 30) rfl (fun w h => h) uK rK (by rw [XLEN.out]; exact infoHash) | (intro w' hS; obtain h := hS; go_simp; (try with_reducible rfl); done)))) | (refine lexT_sk 19 (by kernel_rfl) rfl rfl ?_)); try simp only [Act.put, List.setIfInBounds_toArray, List.set_cons_zero, List.set_cons_succ]); ((first | (refine lexT_rd 20 (by kernel_rfl) rfl rfl ?_; apply Exists.intro; refine ⟨?_, ?_⟩; (focus (first | exact lex_load (ty := 30) rfl (fun w h => h) uK rK (by rw [XLEN.out]; exact infoHash) | (intro w' hS; obtain h := hS; go_simp; (try with_reducible rfl); done)))) | (refine lexT_sk 20 (by kernel_rfl) rfl rfl ?_)); try simp only [Act.put, List.setIfInBounds_toArray, List.set_cons_zero, List.set_cons_succ]); ((first | (refine lexT_rd 23 (by kernel_rfl) rfl rfl ?_; apply Exists.intro; refine ⟨?_, ?_⟩; (focus (first | exact lex_load (ty := 30) rfl (fun w h => h) uK rK (by rw [XLEN.out]; exact infoHash) | (intro w' hS; obtain h := hS; go_simp; (try with_reducible rfl); done)))) | (refine lexT_sk 23 (by kernel_rfl) rfl rfl ?_)); try simp only [Act.put, List.setIfInBounds_toArray, List.set_cons_zero, List.set_cons_succ]))
          refine lexT_ef2 21 24 (by kernel_rfl) rfl rfl rfl rfl (fun K' hK' => ?_) (fun K' hK' => ?_)
          · refine wp_value (exec_buildSliceA (t := 27) rfl rfl undIds infoHashZ2 rfl (by decide) (by decide) XLEN.out) ?_
            have f := Lib.hid ((Fr.refl No k117).alloc (.cells (hashC x).toArray 30))
            replace M := Lib.hid (M.out.keep f.out)
            (try replace WA := Lib.hid (ownsRow_keep WA.out f.out (fun _ _ => id)))
            (try replace UA := Lib.hid (ownsRow_keep UA.out f.out (fun _ _ => id)))
            (try replace AI := Lib.hid (ownsRow_keep AI.out f.out (fun _ _ => id)))
            (try replace H1 := Lib.hid (H1.out.keep f.out))
            (try replace H2 := Lib.hid (H2.out.keep f.out))
            (try replace WI := Lib.hid (WI.out.keep f.out))
            (try replace UI := Lib.hid (UI.out.keep f.out))
            replace BS := Lib.hid (Nat.le_trans BS.out f.out.size)
            have H1 := Lib.hid (ids_new1 k117 XOK.out)
            clear f
            refine hK'.out _ _ ?_ (fun hS => ?_)
            · exact M.out.s
            try simp only [Act.put, List.setIfInBounds_toArray, List.set_cons_zero, List.set_cons_succ]
            clear hS hK' K'
            generalize k117.alloc (.cells (hashC x).toArray 30) = k118 at *
            generalize k117.heap.size = q119 at *
            refine lexT_ef2 22 24 (by kernel_rfl) rfl rfl rfl rfl (fun K' hK' => ?_) (fun K' hK' => ?_)
            · have BS0 := BS
              go_simp
              refine (down_K M.out.g (by decide) H1.out (by simp)).mono ?_
              rintro e k120 ⟨va, rfl, o⟩
              have f := Lib.hid o.2
              replace M := Lib.hid (M.out.keep f.out)
              (try replace WA := Lib.hid (ownsRow_keep WA.out f.out (fun _ _ => id)))
              (try replace UA := Lib.hid (ownsRow_keep UA.out f.out (fun _ _ => id)))
              (try replace AI := Lib.hid (ownsRow_keep AI.out f.out (fun _ _ => id)))
              (try replace H1 := Lib.hid (H1.out.keep f.out))
              (try replace H2 := Lib.hid (H2.out.keep f.out))
              (try replace WI := Lib.hid (WI.out.keep f.out))
              (try replace UI := Lib.hid (UI.out.keep f.out))
              replace BS := Lib.hid (Nat.le_trans BS.out f.out.size)
              have AI := Lib.hid (own_base o.1 BS0.out)
              clear f o BS0
              refine hK'.out _ _ ?_ (fun hS => ?_)
              · exact M.out.s
              try simp only [Act.put, List.setIfInBounds_toArray, List.set_cons_zero, List.set_cons_succ]
              clear hS hK' K'
              refine lexT_ef1 24 (by kernel_rfl) rfl rfl (fun K' hK' => ?_)
              refine wp_value (exec_buildSliceA (t := 27) rfl rfl undIds infoHashZ2 rfl (by decide) (by decide) XLEN.out) ?_
              have f := Lib.hid ((Fr.refl No k120).alloc (.cells (hashC x).toArray 30))
              replace M := Lib.hid (M.out.keep f.out)
              (try replace WA := Lib.hid (ownsRow_keep WA.out f.out (fun _ _ => id)))
              (try replace UA := Lib.hid (ownsRow_keep UA.out f.out (fun _ _ => id)))
              (try replace AI := Lib.hid (ownsRow_keep AI.out f.out (fun _ _ => id)))
              (try replace H1 := Lib.hid (H1.out.keep f.out))
              (try replace H2 := Lib.hid (H2.out.keep f.out))
              (try replace WI := Lib.hid (WI.out.keep f.out))
              (try replace UI := Lib.hid (UI.out.keep f.out))
              replace BS := Lib.hid (Nat.le_trans BS.out f.out.size)
              have H2 := Lib.hid (ids_new1 k120 XOK.out)
              clear f
              refine hK'.out _ _ ?_ (fun hS => ?_)
              · exact M.out.s
              try simp only [Act.put, List.setIfInBounds_toArray, List.set_cons_zero, List.set_cons_succ]
              clear hS hK' K'
              generalize k120.alloc (.cells (hashC x).toArray 30) = k121 at *
              generalize k120.heap.size = q122 at *
              refine lexT_ef1 25 (by kernel_rfl) rfl rfl (fun K' hK' => ?_)
              go_simp
              refine (same_b (IdsIs.own AI.out (M.out.g.okDown _)) H2.out X5.out (show ([x] : List HashD).length ≤ 100000 by simp) E3.out).mono ?_
              rintro e k123 ⟨rfl, f0⟩
              have f := Lib.hid f0
              replace M := Lib.hid (M.out.keep f.out)
              (try replace WA := Lib.hid (ownsRow_keep WA.out f.out (fun _ _ => id)))
              (try replace UA := Lib.hid (ownsRow_keep UA.out f.out (fun _ _ => id)))
              (try replace AI := Lib.hid (ownsRow_keep AI.out f.out (fun _ _ => id)))
              (try replace H1 := Lib.hid (H1.out.keep f.out))
              (try replace H2 := Lib.hid (H2.out.keep f.out))
              (try replace WI := Lib.hid (WI.out.keep f.out))
              (try replace UI := Lib.hid (UI.out.keep f.out))
              replace BS := Lib.hid (Nat.le_trans BS.out f.out.size)
              clear f f0 AI H2
              refine hK'.out _ _ ?_ (fun hS => ?_)
              · exact M.out.s
              try simp only [Act.put, List.setIfInBounds_toArray, List.set_cons_zero, List.set_cons_succ]
              clear hS hK' K'
              (((first | (refine lexT_rd 26 (by kernel_rfl) rfl rfl ?_; apply Exists.intro; refine ⟨?_, ?_⟩; (focus (first | exact lex_load (ty := 30) rfl (fun w h => h) uK rK (by rw [XLEN.out]; exact infoHash) | (intro w' hS; obtain h := hS; go_simp; (try with_reducible rfl); done)))) | (refine lexT_sk 26 (by kernel_rfl) rfl rfl ?_)); try simp only [Act.put, List.setIfInBounds_toArray, List.set_cons_zero, List.set_cons_succ]); ((first | (refine lexT_rd 27 (by kernel_rfl) rfl rfl ?_; apply Exists.intro; refine ⟨?_, ?_⟩; (focus (first | exact lex_load (ty := 30) rfl (fun w h => h) uK rK (by rw [XLEN.out]; exact infoHash) | (intro w' hS; obtain h := hS; go_simp; (try with_reducible rfl); done)))) | (refine lexT_sk 27 (by kernel_rfl) rfl rfl ?_)); try simp only [Act.put, List.setIfInBounds_toArray, List.set_cons_zero, List.set_cons_succ]); ((first | (refine lexT_rd 28 (by kernel_rfl) rfl rfl ?_; apply Exists.intro; refine ⟨?_, ?_⟩; (focus (first | exact lex_load (ty := 30) rfl (fun w h => h) uK rK (by rw [XLEN.out]; exact infoHash) | (intro w' hS; obtain h := hS; go_simp; (try with_reducible rfl); done)))) | (refine lexT_sk 28 (by kernel_rfl) rfl rfl ?_)); try simp only [Act.put, List.setIfInBounds_toArray, List.set_cons_zero, List.set_cons_succ]); ((first | (refine lexT_rd 29 (by kernel_rfl) rfl rfl ?_; apply Exists.intro; refine ⟨?_, ?_⟩; (focus (first | exact lex_load (ty := 30) rfl (fun w h => h) uK rK (by rw [XLEN.out]; exact infoHash) | (intro w' hS; obtain h := hS; go_simp; (try with_reducible rfl); done)))) | (refine lexT_sk 29 (by kernel_rfl) rfl rfl ?_)); try simp only [Act.put, List.setIfInBounds_toArray, List.set_cons_zero, List.set_cons_succ]))
              refine lexT_ef1 30 (by kernel_rfl) rfl rfl (fun K' hK' => ?_)
              go_simp
              refine (has_g M.out.g XOK.out E4.out).mono ?_
              rintro e k124 ⟨rfl, f0⟩
              have f := Lib.hid f0
              replace M := Lib.hid (M.out.keep f.out)
              (try replace WA := Lib.hid (ownsRow_keep WA.out f.out (fun _ _ => id)))
              (try replace UA := Lib.hid (ownsRow_keep UA.out f.out (fun _ _ => id)))
              (try replace AI := Lib.hid (ownsRow_keep AI.out f.out (fun _ _ => id)))
              (try replace H1 := Lib.hid (H1.out.keep f.out))
              (try replace H2 := Lib.hid (H2.out.keep f.out))
              (try replace WI := Lib.hid (WI.out.keep f.out))
              (try replace UI := Lib.hid (UI.out.keep f.out))
              replace BS := Lib.hid (Nat.le_trans BS.out f.out.size)
              clear f f0
              refine hK'.out _ _ ?_ (fun hS => ?_)
              · exact M.out.s
              try simp only [Act.put, List.setIfInBounds_toArray, List.set_cons_zero, List.set_cons_succ]
              clear hS hK' K'
              (((first | (refine lexT_rd 31 (by kernel_rfl) rfl rfl ?_; apply Exists.intro; refine ⟨?_, ?_⟩; (focus (first | exact lex_load (ty := 30) rfl (fun w h => h) uK rK (by rw [XLEN.out]; exact infoHash) | (intro w' hS; obtain h := hS; go_simp; (try with_reducible rfl); done)))) | (refine lexT_sk 31 (by kernel_rfl) rfl rfl ?_)); try simp only [Act.put, List.setIfInBounds_toArray, List.set_cons_zero, List.set_cons_succ]); ((first | (refine lexT_rd 32 (by kernel_rfl) rfl rfl ?_; apply Exists.intro; refine ⟨?_, ?_⟩; (focus (first | exact lex_load (ty := 30) rfl (fun w h => h) uK rK (by rw [XLEN.out]; exact infoHash) | (intro w' hS; obtain h := hS; go_simp; (try with_reducible rfl); done)))) | (refine lexT_sk 32 (by kernel_rfl) rfl rfl ?_)); try simp only [Act.put, List.setIfInBounds_toArray, List.set_cons_zero, List.set_cons_succ]))
              refine lexT_nil (hK.out _ _ ?_)
              go_wp2
              go_ret
              exact ⟨rfl, M.out.f⟩
            · refine wp_value (exec_buildSliceA (t := 27) rfl rfl undIds infoHashZ2 rfl (by decide) (by decide) XLEN.out) ?_
              have f := Lib.hid ((Fr.refl No k118).alloc (.cells (hashC x).toArray 30))
              replace M := Lib.hid (M.out.keep f.out)
              (try replace WA := Lib.hid (ownsRow_keep WA.out f.out (fun _ _ => id)))
              (try replace UA := Lib.hid (ownsRow_keep UA.out f.out (fun _ _ => id)))
              (try replace AI := Lib.hid (ownsRow_keep AI.out f.out (fun _ _ => id)))
              (try replace H1 := Lib.hid (H1.out.keep f.out))
              (try replace H2 := Lib.hid (H2.out.keep f.out))
              (try replace WI := Lib.hid (WI.out.keep f.out))
              (try replace UI := Lib.hid (UI.out.keep f.out))
              replace BS := Lib.hid (Nat.le_trans BS.out f.out.size)
              have H2 := Lib.hid (ids_new1 k118 XOK.out)
              clear f
              refine hK'.out _ _ ?_ (fun hS => ?_)
              · exact M.out.s
              try simp only [Act.put, List.setIfInBounds_toArray, List.set_cons_zero, List.set_cons_succ]
              clear hS hK' K'
              generalize k118.alloc (.cells (hashC x).toArray 30) = k125 at *
              generalize k118.heap.size = q126 at *
              refine lexT_ef1 22 (by kernel_rfl) rfl rfl (fun K' hK' => ?_)
              have BS0 := BS
              go_simp
              refine (down_K M.out.g (by decide) H1.out (by simp)).mono ?_
              rintro e k127 ⟨va, rfl, o⟩
              have f := Lib.hid o.2
              replace M := Lib.hid (M.out.keep f.out)
              (try replace WA := Lib.hid (ownsRow_keep WA.out f.out (fun _ _ => id)))
              (try replace UA := Lib.hid (ownsRow_keep UA.out f.out (fun _ _ => id)))
              (try replace AI := Lib.hid (ownsRow_keep AI.out f.out (fun _ _ => id)))
              (try replace H1 := Lib.hid (H1.out.keep f.out))
              (try replace H2 := Lib.hid (H2.out.keep f.out))
              (try replace WI := Lib.hid (WI.out.keep f.out))
              (try replace UI := Lib.hid (UI.out.keep f.out))
              replace BS := Lib.hid (Nat.le_trans BS.out f.out.size)
              have AI := Lib.hid (own_base o.1 BS0.out)
              clear f o BS0
              refine hK'.out _ _ ?_ (fun hS => ?_)
              · exact M.out.s
              try simp only [Act.put, List.setIfInBounds_toArray, List.set_cons_zero, List.set_cons_succ]
              clear hS hK' K'
              refine lexT_ef1 25 (by kernel_rfl) rfl rfl (fun K' hK' => ?_)
              go_simp
              refine (same_b (IdsIs.own AI.out (M.out.g.okDown _)) H2.out X5.out (show ([x] : List HashD).length ≤ 100000 by simp) E3.out).mono ?_
              rintro e k128 ⟨rfl, f0⟩
              have f := Lib.hid f0
              replace M := Lib.hid (M.out.keep f.out)
              (try replace WA := Lib.hid (ownsRow_keep WA.out f.out (fun _ _ => id)))
              (try replace UA := Lib.hid (ownsRow_keep UA.out f.out (fun _ _ => id)))
              (try replace AI := Lib.hid (ownsRow_keep AI.out f.out (fun _ _ => id)))
              (try replace H1 := Lib.hid (H1.out.keep f.out))
              (try replace H2 := Lib.hid (H2.out.keep f.out))
              (try replace WI := Lib.hid (WI.out.keep f.out))
              (try replace UI := Lib.hid (UI.out.keep f.out))
              replace BS := Lib.hid (Nat.le_trans BS.out f.out.size)
              clear f f0 AI H2
              refine hK'.out _ _ ?_ (fun hS => ?_)
              · exact M.out.s
              try simp only [Act.put, List.setIfInBounds_toArray, List.set_cons_zero, List.set_cons_succ]
              clear hS hK' K'
              (((first | (refine lexT_rd 26 (by kernel_rfl) rfl rfl ?_; apply Exists.intro; refine ⟨?_, ?_⟩; (focus (first | exact lex_load (ty := 30) rfl (fun w h => h) uK rK (by rw [XLEN.out]; exact infoHash) | (intro w' hS; obtain h := hS; go_simp; (try with_reducible rfl); done)))) | (refine lexT_sk 26 (by kernel_rfl) rfl rfl ?_)); try simp only [Act.put, List.setIfInBounds_toArray, List.set_cons_zero, List.set_cons_succ]); ((first | (refine lexT_rd 27 (by kernel_rfl) rfl rfl ?_; apply Exists.intro; refine ⟨?_, ?_⟩; (focus (first | exact lex_load (ty := 30) rfl (fun w h => h) uK rK (by rw [XLEN.out]; exact infoHash) | (intro w' hS; obtain h := hS; go_simp; (try with_reducible rfl); done)))) | (refine lexT_sk 27 (by kernel_rfl) rfl rfl ?_)); try simp only [Act.put, List.setIfInBounds_toArray, List.set_cons_zero, List.set_cons_succ]); ((first | (refine lexT_rd 28 (by kernel_rfl) rfl rfl ?_; apply Exists.intro; refine ⟨?_, ?_⟩; (focus (first | exact lex_load (ty := 30) rfl (fun w h => h) uK rK (by rw [XLEN.out]; exact infoHash) | (intro w' hS; obtain h := hS; go_simp; (try with_reducible rfl); done)))) | (refine lexT_sk 28 (by kernel_rfl) rfl rfl ?_)); try simp only [Act.put, List.setIfInBounds_toArray, List.set_cons_zero, List.set_cons_succ]); ((first | (refine lexT_rd 29 (by kernel_rfl) rfl rfl ?_; apply Exists.intro; refine ⟨?_, ?_⟩; (focus (first | exact lex_load (ty := 30) rfl (fun w h => h) uK rK (by rw [XLEN.out]; exact infoHash) | (intro w' hS; obtain h := hS; go_simp; (try with_reducible rfl); done)))) | (refine lexT_sk 29 (by kernel_rfl) rfl rfl ?_)); try simp only [Act.put, List.setIfInBounds_toArray, List.set_cons_zero, List.set_cons_succ]))
              refine lexT_ef1 30 (by kernel_rfl) rfl rfl (fun K' hK' => ?_)
              go_simp
              refine (has_g M.out.g XOK.out E4.out).mono ?_
              rintro e k129 ⟨rfl, f0⟩
              have f := Lib.hid f0
              replace M := Lib.hid (M.out.keep f.out)
              (try replace WA := Lib.hid (ownsRow_keep WA.out f.out (fun _ _ => id)))
              (try replace UA := Lib.hid (ownsRow_keep UA.out f.out (fun _ _ => id)))
              (try replace AI := Lib.hid (ownsRow_keep AI.out f.out (fun _ _ => id)))
              (try replace H1 := Lib.hid (H1.out.keep f.out))
              (try replace H2 := Lib.hid (H2.out.keep f.out))
              (try replace WI := Lib.hid (WI.out.keep f.out))
              (try replace UI := Lib.hid (UI.out.keep f.out))
              replace BS := Lib.hid (Nat.le_trans BS.out f.out.size)
              clear f f0
              refine hK'.out _ _ ?_ (fun hS => ?_)
              · exact M.out.s
              try simp only [Act.put, List.setIfInBounds_toArray, List.set_cons_zero, List.set_cons_succ]
              clear hS hK' K'
              (((first | (refine lexT_rd 31 (by kernel_rfl) rfl rfl ?_; apply Exists.intro; refine ⟨?_, ?_⟩; (focus (first | exact lex_load (ty := 30) rfl (fun w h => h) uK rK (by rw [XLEN.out]; exact infoHash) | (intro w' hS; obtain h := hS; go_simp; (try with_reducible rfl); done)))) | (refine lexT_sk 31 (by kernel_rfl) rfl rfl ?_)); try simp only [Act.put, List.setIfInBounds_toArray, List.set_cons_zero, List.set_cons_succ]); ((first | (refine lexT_rd 32 (by kernel_rfl) rfl rfl ?_; apply Exists.intro; refine ⟨?_, ?_⟩; (focus (first | exact lex_load (ty := 30) rfl (fun w h => h) uK rK (by rw [XLEN.out]; exact infoHash) | (intro w' hS; obtain h := hS; go_simp; (try with_reducible rfl); done)))) | (refine lexT_sk 32 (by kernel_rfl) rfl rfl ?_)); try simp only [Act.put, List.setIfInBounds_toArray, List.set_cons_zero, List.set_cons_succ]))
              refine lexT_nil (hK.out _ _ ?_)
              go_wp2
              go_ret
              exact ⟨rfl, M.out.f⟩
          · refine wp_value (exec_buildSliceA (t := 27) rfl rfl undIds infoHashZ2 rfl (by decide) (by decide) XLEN.out) ?_
            have f := Lib.hid ((Fr.refl No k117).alloc (.cells (hashC x).toArray 30))
            replace M := Lib.hid (M.out.keep f.out)
            (try replace WA := Lib.hid (ownsRow_keep WA.out f.out (fun _ _ => id)))
            (try replace UA := Lib.hid (ownsRow_keep UA.out f.out (fun _ _ => id)))
            (try replace AI := Lib.hid (ownsRow_keep AI.out f.out (fun _ _ => id)))
            (try replace H1 := Lib.hid (H1.out.keep f.out))
            (try replace H2 := Lib.hid (H2.out.keep f.out))
            (try replace WI := Lib.hid (WI.out.keep f.out))
            (try replace UI := Lib.hid (UI.out.keep f.out))
            replace BS := Lib.hid (Nat.le_trans BS.out f.out.size)
            have H2 := Lib.hid (ids_new1 k117 XOK.out)
            clear f
            refine hK'.out _ _ ?_ (fun hS => ?_)
            · exact M.out.s
            try simp only [Act.put, List.setIfInBounds_toArray, List.set_cons_zero, List.set_cons_succ]
            clear hS hK' K'
            generalize k117.alloc (.cells (hashC x).toArray 30) = k130 at *
            generalize k117.heap.size = q131 at *
            refine lexT_ef1 21 (by kernel_rfl) rfl rfl (fun K' hK' => ?_)
            refine wp_value (exec_buildSliceA (t := 27) rfl rfl undIds infoHashZ2 rfl (by decide) (by decide) XLEN.out) ?_
            have f := Lib.hid ((Fr.refl No k130).alloc (.cells (hashC x).toArray 30))
            replace M := Lib.hid (M.out.keep f.out)
            (try replace WA := Lib.hid (ownsRow_keep WA.out f.out (fun _ _ => id)))
            (try replace UA := Lib.hid (ownsRow_keep UA.out f.out (fun _ _ => id)))
            (try replace AI := Lib.hid (ownsRow_keep AI.out f.out (fun _ _ => id)))
            (try replace H1 := Lib.hid (H1.out.keep f.out))
            (try replace H2 := Lib.hid (H2.out.keep f.out))
            (try replace WI := Lib.hid (WI.out.keep f.out))
            (try replace UI := Lib.hid (UI.out.keep f.out))
            replace BS := Lib.hid (Nat.le_trans BS.out f.out.size)
            have H1 := Lib.hid (ids_new1 k130 XOK.out)
            clear f
            refine hK'.out _ _ ?_ (fun hS => ?_)
            · exact M.out.s
            try simp only [Act.put, List.setIfInBounds_toArray, List.set_cons_zero, List.set_cons_succ]
            clear hS hK' K'
            generalize k130.alloc (.cells (hashC x).toArray 30) = k132 at *
            generalize k130.heap.size = q133 at *
            refine lexT_ef1 22 (by kernel_rfl) rfl rfl (fun K' hK' => ?_)
            have BS0 := BS
            go_simp
            refine (down_K M.out.g (by decide) H1.out (by simp)).mono ?_
            rintro e k134 ⟨va, rfl, o⟩
            have f := Lib.hid o.2
            replace M := Lib.hid (M.out.keep f.out)
            (try replace WA := Lib.hid (ownsRow_keep WA.out f.out (fun _ _ => id)))
            (try replace UA := Lib.hid (ownsRow_keep UA.out f.out (fun _ _ => id)))
            (try replace AI := Lib.hid (ownsRow_keep AI.out f.out (fun _ _ => id)))
            (try replace H1 := Lib.hid (H1.out.keep f.out))
            (try replace H2 := Lib.hid (H2.out.keep f.out))
            (try replace WI := Lib.hid (WI.out.keep f.out))
            (try replace UI := Lib.hid (UI.out.keep f.out))
            replace BS := Lib.hid (Nat.le_trans BS.out f.out.size)
            have AI := Lib.hid (own_base o.1 BS0.out)
            clear f o BS0
            refine hK'.out _ _ ?_ (fun hS => ?_)
            · exact M.out.s
            try simp only [Act.put, List.setIfInBounds_toArray, List.set_cons_zero, List.set_cons_succ]
            clear hS hK' K'
            refine lexT_ef1 25 (by kernel_rfl) rfl rfl (fun K' hK' => ?_)
            go_simp
            refine (same_b (IdsIs.own AI.out (M.out.g.okDown _)) H2.out X5.out (show ([x] : List HashD).length ≤ 100000 by simp) E3.out).mono ?_
            rintro e k135 ⟨rfl, f0⟩
            have f := Lib.hid f0
            replace M := Lib.hid (M.out.keep f.out)
            (try replace WA := Lib.hid (ownsRow_keep WA.out f.out (fun _ _ => id)))
            (try replace UA := Lib.hid (ownsRow_keep UA.out f.out (fun _ _ => id)))
            (try replace AI := Lib.hid (ownsRow_keep AI.out f.out (fun _ _ => id)))
            (try replace H1 := Lib.hid (H1.out.keep f.out))
            (try replace H2 := Lib.hid (H2.out.keep f.out))
            (try replace WI := Lib.hid (WI.out.keep f.out))
            (try replace UI := Lib.hid (UI.out.keep f.out))
            replace BS := Lib.hid (Nat.le_trans BS.out f.out.size)
            clear f f0 AI H2
            refine hK'.out _ _ ?_ (fun hS => ?_)
            · exact M.out.s
            try simp only [Act.put, List.setIfInBounds_toArray, List.set_cons_zero, List.set_cons_succ]
            clear hS hK' K'
            (((first | (refine lexT_rd 26 (by kernel_rfl) rfl rfl ?_; apply Exists.intro; refine ⟨?_, ?_⟩; (focus (first | exact lex_load (ty := 30) rfl (fun w h => h) uK rK (by rw [XLEN.out]; exact infoHash) | (intro w' hS; obtain h := hS; go_simp; (try with_reducible rfl); done)))) | (refine lexT_sk 26 (by kernel_rfl) rfl rfl ?_)); try simp only [Act.put, List.setIfInBounds_toArray, List.set_cons_zero, List.set_cons_succ]); ((first | (refine lexT_rd 27 (by kernel_rfl) rfl rfl ?_; apply Exists.intro; refine ⟨?_, ?_⟩; (focus (first | exact lex_load (ty := 30) rfl (fun w h => h) uK rK (by rw [XLEN.out]; exact infoHash) | (intro w' hS; obtain h := hS; go_simp; (try with_reducible rfl); done)))) | (refine lexT_sk 27 (by kernel_rfl) rfl rfl ?_)); try simp only [Act.put, List.setIfInBounds_toArray, List.set_cons_zero, List.set_cons_succ]); ((first | (refine lexT_rd 28 (by kernel_rfl) rfl rfl ?_; apply Exists.intro; refine ⟨?_, ?_⟩; (focus (first | exact lex_load (ty := 30) rfl (fun w h => h) uK rK (by rw [XLEN.out]; exact infoHash) | (intro w' hS; obtain h := hS; go_simp; (try with_reducible rfl); done)))) | (refine lexT_sk 28 (by kernel_rfl) rfl rfl ?_)); try simp only [Act.put, List.setIfInBounds_toArray, List.set_cons_zero, List.set_cons_succ]); ((first | (refine lexT_rd 29 (by kernel_rfl) rfl rfl ?_; apply Exists.intro; refine ⟨?_, ?_⟩; (focus (first | exact lex_load (ty := 30) rfl (fun w h => h) uK rK (by rw [XLEN.out]; exact infoHash) | (intro w' hS; obtain h := hS; go_simp; (try with_reducible rfl); done)))) | (refine lexT_sk 29 (by kernel_rfl) rfl rfl ?_)); try simp only [Act.put, List.setIfInBounds_toArray, List.set_cons_zero, List.set_cons_succ]))
            refine lexT_ef1 30 (by kernel_rfl) rfl rfl (fun K' hK' => ?_)
            go_simp
            refine (has_g M.out.g XOK.out E4.out).mono ?_
            rintro e k136 ⟨rfl, f0⟩
            have f := Lib.hid f0
            replace M := Lib.hid (M.out.keep f.out)
            (try replace WA := Lib.hid (ownsRow_keep WA.out f.out (fun _ _ => id)))
            (try replace UA := Lib.hid (ownsRow_keep UA.out f.out (fun _ _ => id)))
            (try replace AI := Lib.hid (ownsRow_keep AI.out f.out (fun _ _ => id)))
            (try replace H1 := Lib.hid (H1.out.keep f.out))
            (try replace H2 := Lib.hid (H2.out.keep f.out))
            (try replace WI := Lib.hid (WI.out.keep f.out))
            (try replace UI := Lib.hid (UI.out.keep f.out))
            replace BS := Lib.hid (Nat.le_trans BS.out f.out.size)
            clear f f0
            refine hK'.out _ _ ?_ (fun hS => ?_)
            · exact M.out.s
            try simp only [Act.put, List.setIfInBounds_toArray, List.set_cons_zero, List.set_cons_succ]
            clear hS hK' K'
            (((first | (refine lexT_rd 31 (by kernel_rfl) rfl rfl ?_; apply Exists.intro; refine ⟨?_, ?_⟩; (focus (first | exact lex_load (ty := 30) rfl (fun w h => h) uK rK (by rw [XLEN.out]; exact infoHash) | (intro w' hS; obtain h := hS; go_simp; (try with_reducible rfl); done)))) | (refine lexT_sk 31 (by kernel_rfl) rfl rfl ?_)); try simp only [Act.put, List.setIfInBounds_toArray, List.set_cons_zero, List.set_cons_succ]); ((first | (refine lexT_rd 32 (by kernel_rfl) rfl rfl ?_; apply Exists.intro; refine ⟨?_, ?_⟩; (focus (first | exact lex_load (ty := 30) rfl (fun w h => h) uK rK (by rw [XLEN.out]; exact infoHash) | (intro w' hS; obtain h := hS; go_simp; (try with_reducible rfl); done)))) | (refine lexT_sk 32 (by kernel_rfl) rfl rfl ?_)); try simp only [Act.put, List.setIfInBounds_toArray, List.set_cons_zero, List.set_cons_succ]))
            refine lexT_nil (hK.out _ _ ?_)
            go_wp2
            go_ret
            exact ⟨rfl, M.out.f⟩
      · refine wp_value (exec_buildSliceA (t := 27) rfl rfl undIds infoHashZ2 rfl (by decide) (by decide) XLEN.out) ?_
        have f := Lib.hid ((Fr.refl No k86).alloc (.cells (hashC x).toArray 30))
        replace M := Lib.hid (M.out.keep f.out)
        (try replace WA := Lib.hid (ownsRow_keep WA.out f.out (fun _ _ => id)))
        (try replace UA := Lib.hid (ownsRow_keep UA.out f.out (fun _ _ => id)))
        (try replace AI := Lib.hid (ownsRow_keep AI.out f.out (fun _ _ => id)))
        (try replace H1 := Lib.hid (H1.out.keep f.out))
        (try replace H2 := Lib.hid (H2.out.keep f.out))
        (try replace WI := Lib.hid (WI.out.keep f.out))
        (try replace UI := Lib.hid (UI.out.keep f.out))
        replace BS := Lib.hid (Nat.le_trans BS.out f.out.size)
        have H2 := Lib.hid (ids_new1 k86 XOK.out)
        clear f
        refine hK'.out _ _ ?_ (fun hS => ?_)
        · exact M.out.s
        try simp only [Act.put, List.setIfInBounds_toArray, List.set_cons_zero, List.set_cons_succ]
        clear hS hK' K'
        generalize k86.alloc (.cells (hashC x).toArray 30) = k137 at *
        generalize k86.heap.size = q138 at *
        refine lexT_ef1 10 (by kernel_rfl) rfl rfl (fun K' hK' => ?_)
        refine wp_value (exec_buildSliceA (t := 27) rfl rfl undIds infoHashZ2 rfl (by decide) (by decide) XLEN.out) ?_
        have f := Lib.hid ((Fr.refl No k137).alloc (.cells (hashC x).toArray 30))
        replace M := Lib.hid (M.out.keep f.out)
        (try replace WA := Lib.hid (ownsRow_keep WA.out f.out (fun _ _ => id)))
        (try replace UA := Lib.hid (ownsRow_keep UA.out f.out (fun _ _ => id)))
        (try replace AI := Lib.hid (ownsRow_keep AI.out f.out (fun _ _ => id)))
        (try replace H1 := Lib.hid (H1.out.keep f.out))
        (try replace H2 := Lib.hid (H2.out.keep f.out))
        (try replace WI := Lib.hid (WI.out.keep f.out))
        (try replace UI := Lib.hid (UI.out.keep f.out))
        replace BS := Lib.hid (Nat.le_trans BS.out f.out.size)
        have H1 := Lib.hid (ids_new1 k137 XOK.out)
        clear f
        refine hK'.out _ _ ?_ (fun hS => ?_)
        · exact M.out.s
        try simp only [Act.put, List.setIfInBounds_toArray, List.set_cons_zero, List.set_cons_succ]
        clear hS hK' K'
        generalize k137.alloc (.cells (hashC x).toArray 30) = k139 at *
        generalize k137.heap.size = q140 at *
        refine lexT_ef1 11 (by kernel_rfl) rfl rfl (fun K' hK' => ?_)
        have BS0 := BS
        go_simp
        refine (up_K M.out.g (by decide) H1.out (by simp)).mono ?_
        rintro e k141 ⟨va, rfl, o⟩
        have f := Lib.hid o.2
        replace M := Lib.hid (M.out.keep f.out)
        (try replace WA := Lib.hid (ownsRow_keep WA.out f.out (fun _ _ => id)))
        (try replace UA := Lib.hid (ownsRow_keep UA.out f.out (fun _ _ => id)))
        (try replace AI := Lib.hid (ownsRow_keep AI.out f.out (fun _ _ => id)))
        (try replace H1 := Lib.hid (H1.out.keep f.out))
        (try replace H2 := Lib.hid (H2.out.keep f.out))
        (try replace WI := Lib.hid (WI.out.keep f.out))
        (try replace UI := Lib.hid (UI.out.keep f.out))
        replace BS := Lib.hid (Nat.le_trans BS.out f.out.size)
        have AI := Lib.hid (own_base o.1 BS0.out)
        clear f o BS0
        refine hK'.out _ _ ?_ (fun hS => ?_)
        · exact M.out.s
        try simp only [Act.put, List.setIfInBounds_toArray, List.set_cons_zero, List.set_cons_succ]
        clear hS hK' K'
        refine lexT_ef1 15 (by kernel_rfl) rfl rfl (fun K' hK' => ?_)
        obtain ⟨va2, k142, ap, oo, ff⟩ := append_ids k141 UA.out H2.out (by have := LB2.out; simp only [List.length_singleton]; omega) (Nat.le_trans B5.out BS.out)
        refine wp_append_run rfl rfl rfl ap ?_
        replace M := Lib.hid (M.out.away AU.out ff)
        replace AI := Lib.hid (ownsRow_keep AI.out ff (fun b e h => (B6.out b (AI.out.lt b e).1).2 h))
        have UI := Lib.hid (IdsIs.own oo (by intro c hc; rcases List.mem_append.1 hc with h | h; exact OKU.out c h; rw [List.mem_singleton.1 h]; exact XOK.out))
        replace BS := Lib.hid (Nat.le_trans BS.out ff.size)
        clear ap oo ff UA H2
        refine hK'.out _ _ ?_ (fun hS => ?_)
        · exact M.out.s
        try simp only [Act.put, List.setIfInBounds_toArray, List.set_cons_zero, List.set_cons_succ]
        clear hS hK' K'
        refine lexT_ef1 16 (by kernel_rfl) rfl rfl (fun K' hK' => ?_)
        go_simp
        refine (same_b (IdsIs.own AI.out (M.out.g.okUp _)) UI.out X4.out X2.out E2.out).mono ?_
        rintro e k143 ⟨rfl, f0⟩
        have f := Lib.hid f0
        replace M := Lib.hid (M.out.keep f.out)
        (try replace WA := Lib.hid (ownsRow_keep WA.out f.out (fun _ _ => id)))
        (try replace UA := Lib.hid (ownsRow_keep UA.out f.out (fun _ _ => id)))
        (try replace AI := Lib.hid (ownsRow_keep AI.out f.out (fun _ _ => id)))
        (try replace H1 := Lib.hid (H1.out.keep f.out))
        (try replace H2 := Lib.hid (H2.out.keep f.out))
        (try replace WI := Lib.hid (WI.out.keep f.out))
        (try replace UI := Lib.hid (UI.out.keep f.out))
        replace BS := Lib.hid (Nat.le_trans BS.out f.out.size)
        clear f f0 AI UI
        refine hK'.out _ _ ?_ (fun hS => ?_)
        · exact M.out.s
        try simp only [Act.put, List.setIfInBounds_toArray, List.set_cons_zero, List.set_cons_succ]
        clear hS hK' K'
        (((first | (refine lexT_rd 17 (by kernel_rfl) rfl rfl ?_; apply Exists.intro; refine ⟨?_, ?_⟩; (focus (first | exact lex_load (ty := 30) rfl (fun w h => h) uK rK (by rw [XLEN.out]; exact infoHash) | (intro w' hS; obtain h := hS; go_simp; (try with_reducible rfl); done)))) | (refine lexT_sk 17 (by kernel_rfl) rfl rfl ?_)); try simp only [Act.put, List.setIfInBounds_toArray, List.set_cons_zero, List.set_cons_succ]); ((first | (refine lexT_rd 18 (by kernel_rfl) rfl rfl ?_; apply Exists.intro; refine ⟨?_, ?_⟩; (focus (first | exact lex_load (ty := 30) rfl (fun w h => h) uK rK (by rw [XLEN.out]; exact infoHash) | (intro w' hS; obtain h := hS; go_simp; (try with_reducible rfl); done)))) | (refine lexT_sk 18 (by kernel_rfl) rfl rfl ?_)); try simp only [Act.put, List.setIfInBounds_toArray, List.set_cons_zero, List.set_cons_succ]); ((first | (refine lexT_rd 19 (by kernel_rfl) rfl rfl ?_; apply Exists.intro; refine ⟨?_, ?_⟩; (focus (first | exact lex_load (ty := 30) rfl (fun w h => h) uK rK (by rw [XLEN.out]; exact infoHash) | (intro w' hS; obtain h := hS; go_simp; (try with_reducible rfl); done)))) | (refine lexT_sk 19 (by kernel_rfl) rfl rfl ?_)); try simp only [Act.put, List.setIfInBounds_toArray, List.set_cons_zero, List.set_cons_succ]); ((first | (refine lexT_rd 20 (by kernel_rfl) rfl rfl ?_; apply Exists.intro; refine ⟨?_, ?_⟩; (focus (first | exact lex_load (ty := 30) rfl (fun w h => h) uK rK (by rw [XLEN.out]; exact infoHash) | (intro w' hS; obtain h := hS; go_simp; (try with_reducible rfl); done)))) | (refine lexT_sk 20 (by kernel_rfl) rfl rfl ?_)); try simp only [Act.put, List.setIfInBounds_toArray, List.set_cons_zero, List.set_cons_succ]); ((first | (refine lexT_rd 23 (by kernel_rfl) rfl rfl ?_; apply Exists.intro; refine ⟨?_, ?_⟩; (focus (first | exact lex_load (ty := 30) rfl (fun w h => h) uK rK (by rw [XLEN.out]; exact infoHash) | (intro w' hS; obtain h := hS; go_simp; (try with_reducible rfl); done)))) | (refine lexT_sk 23 (by kernel_rfl) rfl rfl ?_)); try simp only [Act.put, List.setIfInBounds_toArray, List.set_cons_zero, List.set_cons_succ]))
        refine lexT_ef2 21 24 (by kernel_rfl) rfl rfl rfl rfl (fun K' hK' => ?_) (fun K' hK' => ?_)
        · refine wp_value (exec_buildSliceA (t := 27) rfl rfl undIds infoHashZ2 rfl (by decide) (by decide) XLEN.out) ?_
          have f := Lib.hid ((Fr.refl No k143).alloc (.cells (hashC x).toArray 30))
          replace M := Lib.hid (M.out.keep f.out)
          (try replace WA := Lib.hid (ownsRow_keep WA.out f.out (fun _ _ => id)))
          (try replace UA := Lib.hid (ownsRow_keep UA.out f.out (fun _ _ => id)))
          (try replace AI := Lib.hid (ownsRow_keep AI.out f.out (fun _ _ => id)))
          (try replace H1 := Lib.hid (H1.out.keep f.out))
          (try replace H2 := Lib.hid (H2.out.keep f.out))
          (try replace WI := Lib.hid (WI.out.keep f.out))
          (try replace UI := Lib.hid (UI.out.keep f.out))
          replace BS := Lib.hid (Nat.le_trans BS.out f.out.size)
          have H1 := Lib.hid (ids_new1 k143 XOK.out)
          clear f
          refine hK'.out _ _ ?_ (fun hS => ?_)
          · exact M.out.s
          try simp only [Act.put, List.setIfInBounds_toArray, List.set_cons_zero, List.set_cons_succ]
          clear hS hK' K'
          generalize k143.alloc (.cells (hashC x).toArray 30) = k144 at *
          generalize k143.heap.size = q145 at *
          refine lexT_ef2 22 24 (by kernel_rfl) rfl rfl rfl rfl (fun K' hK' => ?_) (fun K' hK' => ?_)
          · have BS0 := BS
            go_simp
            refine (down_K M.out.g (by decide) H1.out (by simp)).mono ?_
            rintro e k146 ⟨va, rfl, o⟩
            have f := Lib.hid o.2
            replace M := Lib.hid (M.out.keep f.out)
            (try replace WA := Lib.hid (ownsRow_keep WA.out f.out (fun _ _ => id)))
            (try replace UA := Lib.hid (ownsRow_keep UA.out f.out (fun _ _ => id)))
            (try replace AI := Lib.hid (ownsRow_keep AI.out f.out (fun _ _ => id)))
            (try replace H1 := Lib.hid (H1.out.keep f.out))
            (try replace H2 := Lib.hid (H2.out.keep f.out))
            (try replace WI := Lib.hid (WI.out.keep f.out))
            (try replace UI := Lib.hid (UI.out.keep f.out))
            replace BS := Lib.hid (Nat.le_trans BS.out f.out.size)
            have AI := Lib.hid (own_base o.1 BS0.out)
            clear f o BS0
            refine hK'.out _ _ ?_ (fun hS => ?_)
            · exact M.out.s
            try simp only [Act.put, List.setIfInBounds_toArray, List.set_cons_zero, List.set_cons_succ]
            clear hS hK' K'
            refine lexT_ef1 24 (by kernel_rfl) rfl rfl (fun K' hK' => ?_)
            refine wp_value (exec_buildSliceA (t := 27) rfl rfl undIds infoHashZ2 rfl (by decide) (by decide) XLEN.out) ?_
            have f := Lib.hid ((Fr.refl No k146).alloc (.cells (hashC x).toArray 30))
            replace M := Lib.hid (M.out.keep f.out)
            (try replace WA := Lib.hid (ownsRow_keep WA.out f.out (fun _ _ => id)))
            (try replace UA := Lib.hid (ownsRow_keep UA.out f.out (fun _ _ => id)))
            (try replace AI := Lib.hid (ownsRow_keep AI.out f.out (fun _ _ => id)))
            (try replace H1 := Lib.hid (H1.out.keep f.out))
            (try replace H2 := Lib.hid (H2.out.keep f.out))
            (try replace WI := Lib.hid (WI.out.keep f.out))
            (try replace UI := Lib.hid (UI.out.keep f.out))
            replace BS := Lib.hid (Nat.le_trans BS.out f.out.size)
            have H2 := Lib.hid (ids_new1 k146 XOK.out)
            clear f
            refine hK'.out _ _ ?_ (fun hS => ?_)
            · exact M.out.s
            try simp only [Act.put, List.setIfInBounds_toArray, List.set_cons_zero, List.set_cons_succ]
            clear hS hK' K'
            generalize k146.alloc (.cells (hashC x).toArray 30) = k147 at *
            generalize k146.heap.size = q148 at *
            refine lexT_ef1 25 (by kernel_rfl) rfl rfl (fun K' hK' => ?_)
            go_simp
            refine (same_b (IdsIs.own AI.out (M.out.g.okDown _)) H2.out X5.out (show ([x] : List HashD).length ≤ 100000 by simp) E3.out).mono ?_
            rintro e k149 ⟨rfl, f0⟩
            have f := Lib.hid f0
            replace M := Lib.hid (M.out.keep f.out)
            (try replace WA := Lib.hid (ownsRow_keep WA.out f.out (fun _ _ => id)))
            (try replace UA := Lib.hid (ownsRow_keep UA.out f.out (fun _ _ => id)))
            (try replace AI := Lib.hid (ownsRow_keep AI.out f.out (fun _ _ => id)))
            (try replace H1 := Lib.hid (H1.out.keep f.out))
            (try replace H2 := Lib.hid (H2.out.keep f.out))
            (try replace WI := Lib.hid (WI.out.keep f.out))
            (try replace UI := Lib.hid (UI.out.keep f.out))
            replace BS := Lib.hid (Nat.le_trans BS.out f.out.size)
            clear f f0 AI H2
            refine hK'.out _ _ ?_ (fun hS => ?_)
            · exact M.out.s
            try simp only [Act.put, List.setIfInBounds_toArray, List.set_cons_zero, List.set_cons_succ]
            clear hS hK' K'
            (((first | (refine lexT_rd 26 (by kernel_rfl) rfl rfl ?_; apply Exists.intro; refine ⟨?_, ?_⟩; (focus (first | exact lex_load (ty := 30) rfl (fun w h => h) uK rK (by rw [XLEN.out]; exact infoHash) | (intro w' hS; obtain h := hS; go_simp; (try with_reducible rfl); done)))) | (refine lexT_sk 26 (by kernel_rfl) rfl rfl ?_)); try simp only [Act.put, List.setIfInBounds_toArray, List.set_cons_zero, List.set_cons_succ]); ((first | (refine lexT_rd 27 (by kernel_rfl) rfl rfl ?_; apply Exists.intro; refine ⟨?_, ?_⟩; (focus (first | exact lex_load (ty := 30) rfl (fun w h => h) uK rK (by rw [XLEN.out]; exact infoHash) | (intro w' hS; obtain h := hS; go_simp; (try with_reducible rfl); done)))) | (refine lexT_sk 27 (by kernel_rfl) rfl rfl ?_)); try simp only [Act.put, List.setIfInBounds_toArray, List.set_cons_zero, List.set_cons_succ]); ((first | (refine lexT_rd 28 (by kernel_rfl) rfl rfl ?_; apply Exists.intro; refine ⟨?_, ?_⟩; (focus (first | exact lex_load (ty := 30) rfl (fun w h => h) uK rK (by rw [XLEN.out]; exact infoHash) | (intro w' hS; obtain h := hS; go_simp; (try with_reducible rfl); done)))) | (refine lexT_sk 28 (by kernel_rfl) rfl rfl ?_)); try simp only [Act.put, List.setIfInBounds_toArray, List.set_cons_zero, List.set_cons_succ]); ((first | (refine lexT_rd 29 (by kernel_rfl) rfl rfl ?_; apply Exists.intro; refine ⟨?_, ?_⟩; (focus (first | exact lex_load (ty := 30) rfl (fun w h => h) uK rK (by rw [XLEN.out]; exact infoHash) | (intro w' hS; obtain h := hS; go_simp; (try with_reducible rfl); done)))) | (refine lexT_sk 29 (by kernel_rfl) rfl rfl ?_)); try simp only [Act.put, List.setIfInBounds_toArray, List.set_cons_zero, List.set_cons_succ]))
            refine lexT_ef1 30 (by kernel_rfl) rfl rfl (fun K' hK' => ?_)
            go_simp
            refine (has_g M.out.g XOK.out E4.out).mono ?_
            rintro e k150 ⟨rfl, f0⟩
            have f := Lib.hid f0
            replace M := Lib.hid (M.out.keep f.out)
            (try replace WA := Lib.hid (ownsRow_keep WA.out f.out (fun _ _ => id)))
            (try replace UA := Lib.hid (ownsRow_keep UA.out f.out (fun _ _ => id)))
            (try replace AI := Lib.hid (ownsRow_keep AI.out f.out (fun _ _ => id)))
            (try replace H1 := Lib.hid (H1.out.keep f.out))
            (try replace H2 := Lib.hid (H2.out.keep f.out))
            (try replace WI := Lib.hid (WI.out.keep f.out))
            (try replace UI := Lib.hid (UI.out.keep f.out))
            replace BS := Lib.hid (Nat.le_trans BS.out f.out.size)
            clear f f0
            refine hK'.out _ _ ?_ (fun hS => ?_)
            · exact M.out.s
            try simp only [Act.put, List.setIfInBounds_toArray, List.set_cons_zero, List.set_cons_succ]
            clear hS hK' K'
            (((first | (refine lexT_rd 31 (by kernel_rfl) rfl rfl ?_; apply Exists.intro; refine ⟨?_, ?_⟩; (focus (first | exact lex_load (ty := 30) rfl (fun w h => h) uK rK (by rw [XLEN.out]; exact infoHash) | (intro w' hS; obtain h := hS; go_simp; (try with_reducible rfl); done)))) | (refine lexT_sk 31 (by kernel_rfl) rfl rfl ?_)); try simp only [Act.put, List.setIfInBounds_toArray, List.set_cons_zero, List.set_cons_succ]); ((first | (refine lexT_rd 32 (by kernel_rfl) rfl rfl ?_; apply Exists.intro; refine ⟨?_, ?_⟩; (focus (first | exact lex_load (ty := 30) rfl (fun w h => h) uK rK (by rw [XLEN.out]; exact infoHash) | (intro w' hS; obtain h := hS; go_simp; (try with_reducible rfl); done)))) | (refine lexT_sk 32 (by kernel_rfl) rfl rfl ?_)); try simp only [Act.put, List.setIfInBounds_toArray, List.set_cons_zero, List.set_cons_succ]))
            refine lexT_nil (hK.out _ _ ?_)
            go_wp2
            go_ret
            exact ⟨rfl, M.out.f⟩
          · refine wp_value (exec_buildSliceA (t := 27) rfl rfl undIds infoHashZ2 rfl (by decide) (by decide) XLEN.out) ?_
            have f := Lib.hid ((Fr.refl No k144).alloc (.cells (hashC x).toArray 30))
            replace M := Lib.hid (M.out.keep f.out)
            (try replace WA := Lib.hid (ownsRow_keep WA.out f.out (fun _ _ => id)))
            (try replace UA := Lib.hid (ownsRow_keep UA.out f.out (fun _ _ => id)))
            (try replace AI := Lib.hid (ownsRow_keep AI.out f.out (fun _ _ => id)))
            (try replace H1 := Lib.hid (H1.out.keep f.out))
            (try replace H2 := Lib.hid (H2.out.keep f.out))
            (try replace WI := Lib.hid (WI.out.keep f.out))
            (try replace UI := Lib.hid (UI.out.keep f.out))
            replace BS := Lib.hid (Nat.le_trans BS.out f.out.size)
            have H2 := Lib.hid (ids_new1 k144 XOK.out)
            clear f
            refine hK'.out _ _ ?_ (fun hS => ?_)
            · exact M.out.s
            try simp only [Act.put, List.setIfInBounds_toArray, List.set_cons_zero, List.set_cons_succ]
            clear hS hK' K'
            generalize k144.alloc (.cells (hashC x).toArray 30) = k151 at *
            generalize k144.heap.size = q152 at *
            refine lexT_ef1 22 (by kernel_rfl) rfl rfl (fun K' hK' => ?_)
            have BS0 := BS
            go_simp
            refine (down_K M.out.g (by decide) H1.out (by simp)).mono ?_
            rintro e k153 ⟨va, rfl, o⟩
            have f := Lib.hid o.2
            replace M := Lib.hid (M.out.keep f.out)
            (try replace WA := Lib.hid (ownsRow_keep WA.out f.out (fun _ _ => id)))
            (try replace UA := Lib.hid (ownsRow_keep UA.out f.out (fun _ _ => id)))
            (try replace AI := Lib.hid (ownsRow_keep AI.out f.out (fun _ _ => id)))
            (try replace H1 := Lib.hid (H1.out.keep f.out))
            (try replace H2 := Lib.hid (H2.out.keep f.out))
            (try replace WI := Lib.hid (WI.out.keep f.out))
            (try replace UI := Lib.hid (UI.out.keep f.out))
            replace BS := Lib.hid (Nat.le_trans BS.out f.out.size)
            have AI := Lib.hid (own_base o.1 BS0.out)
            clear f o BS0
            refine hK'.out _ _ ?_ (fun hS => ?_)
            · exact M.out.s
            try simp only [Act.put, List.setIfInBounds_toArray, List.set_cons_zero, List.set_cons_succ]
            clear hS hK' K'
            refine lexT_ef1 25 (by kernel_rfl) rfl rfl (fun K' hK' => ?_)
            go_simp
            refine (same_b (IdsIs.own AI.out (M.out.g.okDown _)) H2.out X5.out (show ([x] : List HashD).length ≤ 100000 by simp) E3.out).mono ?_
            rintro e k154 ⟨rfl, f0⟩
            have f := Lib.hid f0
            replace M := Lib.hid (M.out.keep f.out)
            (try replace WA := Lib.hid (ownsRow_keep WA.out f.out (fun _ _ => id)))
            (try replace UA := Lib.hid (ownsRow_keep UA.out f.out (fun _ _ => id)))
            (try replace AI := Lib.hid (ownsRow_keep AI.out f.out (fun _ _ => id)))
            (try replace H1 := Lib.hid (H1.out.keep f.out))
            (try replace H2 := Lib.hid (H2.out.keep f.out))
            (try replace WI := Lib.hid (WI.out.keep f.out))
            (try replace UI := Lib.hid (UI.out.keep f.out))
            replace BS := Lib.hid (Nat.le_trans BS.out f.out.size)
            clear f f0 AI H2
            refine hK'.out _ _ ?_ (fun hS => ?_)
            · exact M.out.s
            try simp only [Act.put, List.setIfInBounds_toArray, List.set_cons_zero, List.set_cons_succ]
            clear hS hK' K'
            (((first | (refine lexT_rd 26 (by kernel_rfl) rfl rfl ?_; apply Exists.intro; refine ⟨?_, ?_⟩; (focus (first | exact lex_load (ty := 30) rfl (fun w h => h) uK rK (by rw [XLEN.out]; exact infoHash) | (intro w' hS; obtain h := hS; go_simp; (try with_reducible rfl); done)))) | (refine lexT_sk 26 (by kernel_rfl) rfl rfl ?_)); try simp only [Act.put, List.setIfInBounds_toArray, List.set_cons_zero, List.set_cons_succ]); ((first | (refine lexT_rd 27 (by kernel_rfl) rfl rfl ?_; apply Exists.intro; refine ⟨?_, ?_⟩; (focus (first | exact lex_load (ty := 30) rfl (fun w h => h) uK rK (by rw [XLEN.out]; exact infoHash) | (intro w' hS; obtain h := hS; go_simp; (try with_reducible rfl); done)))) | (refine lexT_sk 27 (by kernel_rfl) rfl rfl ?_)); try simp only [Act.put, List.setIfInBounds_toArray, List.set_cons_zero, List.set_cons_succ]); ((first | (refine lexT_rd 28 (by kernel_rfl) rfl rfl ?_; apply Exists.intro; refine ⟨?_, ?_⟩; (focus (first | exact lex_load (ty := 30) rfl (fun w h => h) uK rK (by rw [XLEN.out]; exact infoHash) | (intro w' hS; obtain h := hS; go_simp; (try with_reducible rfl); done)))) | (refine lexT_sk 28 (by kernel_rfl) rfl rfl ?_)); try simp only [Act.put, List.setIfInBounds_toArray, List.set_cons_zero, List.set_cons_succ]); ((first | (refine lexT_rd 29 (by kernel_rfl) rfl rfl ?_; apply Exists.intro; refine ⟨?_, ?_⟩; (focus (first | exact lex_load (ty := 30) rfl (fun w h => h) uK rK (by rw [XLEN.out]; exact infoHash) | (intro w' hS; obtain h := hS; go_simp; (try with_reducible rfl); done)))) | (refine lexT_sk 29 (by kernel_rfl) rfl rfl ?_)); try simp only [Act.put, List.setIfInBounds_toArray, List.set_cons_zero, List.set_cons_succ]))
            refine lexT_ef1 30 (by kernel_rfl) rfl rfl (fun K' hK' => ?_)
            go_simp
            refine (has_g M.out.g XOK.out E4.out).mono ?_
            rintro e k155 ⟨rfl, f0⟩
            have f := Lib.hid f0
            replace M := Lib.hid (M.out.keep f.out)
            (try replace WA := Lib.hid (ownsRow_keep WA.out f.out (fun _ _ => id)))
            (try replace UA := Lib.hid (ownsRow_keep UA.out f.out (fun _ _ => id)))
            (try replace AI := Lib.hid (ownsRow_keep AI.out f.out (fun _ _ => id)))
            (try replace H1 := Lib.hid (H1.out.keep f.out))
            (try replace H2 := Lib.hid (H2.out.keep f.out))
            (try replace WI := Lib.hid (WI.out.keep f.out))
            (try replace UI := Lib.hid (UI.out.keep f.out))
            replace BS := Lib.hid (Nat.le_trans BS.out f.out.size)
            clear f f0
            refine hK'.out _ _ ?_ (fun hS => ?_)
            · exact M.out.s
            try simp only [Act.put, List.setIfInBounds_toArray, List.set_cons_zero, List.set_cons_succ]
            clear hS hK' K'
            (((first | (refine lexT_rd 31 (by kernel_rfl) rfl rfl ?_; apply Exists.intro; refine ⟨?_, ?_⟩; (focus (first | exact lex_load (ty := 30) rfl (fun w h => h) uK rK (by rw [XLEN.out]; exact infoHash) | (intro w' hS; obtain h := hS; go_simp; (try with_reducible rfl); done)))) | (refine lexT_sk 31 (by kernel_rfl) rfl rfl ?_)); try simp only [Act.put, List.setIfInBounds_toArray, List.set_cons_zero, List.set_cons_succ]); ((first | (refine lexT_rd 32 (by kernel_rfl) rfl rfl ?_; apply Exists.intro; refine ⟨?_, ?_⟩; (focus (first | exact lex_load (ty := 30) rfl (fun w h => h) uK rK (by rw [XLEN.out]; exact infoHash) | (intro w' hS; obtain h := hS; go_simp; (try with_reducible rfl); done)))) | (refine lexT_sk 32 (by kernel_rfl) rfl rfl ?_)); try simp only [Act.put, List.setIfInBounds_toArray, List.set_cons_zero, List.set_cons_succ]))
            refine lexT_nil (hK.out _ _ ?_)
            go_wp2
            go_ret
            exact ⟨rfl, M.out.f⟩
        · refine wp_value (exec_buildSliceA (t := 27) rfl rfl undIds infoHashZ2 rfl (by decide) (by decide) XLEN.out) ?_
          have f := Lib.hid ((Fr.refl No k143).alloc (.cells (hashC x).toArray 30))
          replace M := Lib.hid (M.out.keep f.out)
          (try replace WA := Lib.hid (ownsRow_keep WA.out f.out (fun _ _ => id)))
          (try replace UA := Lib.hid (ownsRow_keep UA.out f.out (fun _ _ => id)))
          (try replace AI := Lib.hid (ownsRow_keep AI.out f.out (fun _ _ => id)))
          (try replace H1 := Lib.hid (H1.out.keep f.out))
          (try replace H2 := Lib.hid (H2.out.keep f.out))
          (try replace WI := Lib.hid (WI.out.keep f.out))
          (try replace UI := Lib.hid (UI.out.keep f.out))
          replace BS := Lib.hid (Nat.le_trans BS.out f.out.size)
          have H2 := Lib.hid (ids_new1 k143 XOK.out)
          clear f
          refine hK'.out _ _ ?_ (fun hS => ?_)
          · exact M.out.s
          try simp only [Act.put, List.setIfInBounds_toArray, List.set_cons_zero, List.set_cons_succ]
          clear hS hK' K'
          generalize k143.alloc (.cells (hashC x).toArray 30) = k156 at *
          generalize k143.heap.size = q157 at *
          refine lexT_ef1 21 (by kernel_rfl) rfl rfl (fun K' hK' => ?_)
          refine wp_value (exec_buildSliceA (t := 27) rfl rfl undIds infoHashZ2 rfl (by decide) (by decide) XLEN.out) ?_
          have f := Lib.hid ((Fr.refl No k156).alloc (.cells (hashC x).toArray 30))
          replace M := Lib.hid (M.out.keep f.out)
          (try replace WA := Lib.hid (ownsRow_keep WA.out f.out (fun _ _ => id)))
          (try replace UA := Lib.hid (ownsRow_keep UA.out f.out (fun _ _ => id)))
          (try replace AI := Lib.hid (ownsRow_keep AI.out f.out (fun _ _ => id)))
          (try replace H1 := Lib.hid (H1.out.keep f.out))
          (try replace H2 := Lib.hid (H2.out.keep f.out))
          (try replace WI := Lib.hid (WI.out.keep f.out))
          (try replace UI := Lib.hid (UI.out.keep f.out))
          replace BS := Lib.hid (Nat.le_trans BS.out f.out.size)
          have H1 := Lib.hid (ids_new1 k156 XOK.out)
          clear f
          refine hK'.out _ _ ?_ (fun hS => ?_)
          · exact M.out.s
          try simp only [Act.put, List.setIfInBounds_toArray, List.set_cons_zero, List.set_cons_succ]
          clear hS hK' K'
          generalize k156.alloc (.cells (hashC x).toArray 30) = k158 at *
          generalize k156.heap.size = q159 at *
          refine lexT_ef1 22 (by kernel_rfl) rfl rfl (fun K' hK' => ?_)
          have BS0 := BS
          go_simp
          refine (down_K M.out.g (by decide) H1.out (by simp)).mono ?_
          rintro e k160 ⟨va, rfl, o⟩
          have f := Lib.hid o.2
          replace M := Lib.hid (M.out.keep f.out)
          (try replace WA := Lib.hid (ownsRow_keep WA.out f.out (fun _ _ => id)))
          (try replace UA := Lib.hid (ownsRow_keep UA.out f.out (fun _ _ => id)))
          (try replace AI := Lib.hid (ownsRow_keep AI.out f.out (fun _ _ => id)))
          (try replace H1 := Lib.hid (H1.out.keep f.out))
          (try replace H2 := Lib.hid (H2.out.keep f.out))
          (try replace WI := Lib.hid (WI.out.keep f.out))
          (try replace UI := Lib.hid (UI.out.keep f.out))
          replace BS := Lib.hid (Nat.le_trans BS.out f.out.size)
          have AI := Lib.hid (own_base o.1 BS0.out)
          clear f o BS0
          refine hK'.out _ _ ?_ (fun hS => ?_)
          · exact M.out.s
          try simp only [Act.put, List.setIfInBounds_toArray, List.set_cons_zero, List.set_cons_succ]
          clear hS hK' K'
          refine lexT_ef1 25 (by kernel_rfl) rfl rfl (fun K' hK' => ?_)
          go_simp
          refine (same_b (IdsIs.own AI.out (M.out.g.okDown _)) H2.out X5.out (show ([x] : List HashD).length ≤ 100000 by simp) E3.out).mono ?_
          rintro e k161 ⟨rfl, f0⟩
          have f := Lib.hid f0
          replace M := Lib.hid (M.out.keep f.out)
          (try replace WA := Lib.hid (ownsRow_keep WA.out f.out (fun _ _ => id)))
          (try replace UA := Lib.hid (ownsRow_keep UA.out f.out (fun _ _ => id)))
          (try replace AI := Lib.hid (ownsRow_keep AI.out f.out (fun _ _ => id)))
          (try replace H1 := Lib.hid (H1.out.keep f.out))
          (try replace H2 := Lib.hid (H2.out.keep f.out))
          (try replace WI := Lib.hid (WI.out.keep f.out))
          (try replace UI := Lib.hid (UI.out.keep f.out))
          replace BS := Lib.hid (Nat.le_trans BS.out f.out.size)
          clear f f0 AI H2
          refine hK'.out _ _ ?_ (fun hS => ?_)
          · exact M.out.s
          try simp only [Act.put, List.setIfInBounds_toArray, List.set_cons_zero, List.set_cons_succ]
          clear hS hK' K'
          (((first | (refine lexT_rd 26 (by kernel_rfl) rfl rfl ?_; apply Exists.intro; refine ⟨?_, ?_⟩; (focus (first | exact lex_load (ty := 30) rfl (fun w h => h) uK rK (by rw [XLEN.out]; exact infoHash) | (intro w' hS; obtain h := hS; go_simp; (try with_reducible rfl); done)))) | (refine lexT_sk 26 (by kernel_rfl) rfl rfl ?_)); try simp only [Act.put, List.setIfInBounds_toArray, List.set_cons_zero, List.set_cons_succ]); ((first | (refine lexT_rd 27 (by kernel_rfl) rfl rfl ?_; apply Exists.intro; refine ⟨?_, ?_⟩; (focus (first | exact lex_load (ty := 30) rfl (fun w h => h) uK rK (by rw [XLEN.out]; exact infoHash) | (intro w' hS; obtain h := hS; go_simp; (try with_reducible rfl); done)))) | (refine lexT_sk 27 (by kernel_rfl) rfl rfl ?_)); try simp only [Act.put, List.setIfInBounds_toArray, List.set_cons_zero, List.set_cons_succ]); ((first | (refine lexT_rd 28 (by kernel_rfl) rfl rfl ?_; apply Exists.intro; refine ⟨?_, ?_⟩; (focus (first | exact lex_load (ty := 30) rfl (fun w h => h) uK rK (by rw [XLEN.out]; exact infoHash) | (intro w' hS; obtain h := hS; go_simp; (try with_reducible rfl); done)))) | (refine lexT_sk 28 (by kernel_rfl) rfl rfl ?_)); try simp only [Act.put, List.setIfInBounds_toArray, List.set_cons_zero, List.set_cons_succ]); ((first | (refine lexT_rd 29 (by kernel_rfl) rfl rfl ?_; apply Exists.intro; refine ⟨?_, ?_⟩; (focus (first | exact lex_load (ty := 30) rfl (fun w h => h) uK rK (by rw [XLEN.out]; exact infoHash) | (intro w' hS; obtain h := hS; go_simp; (try with_reducible rfl); done)))) | (refine lexT_sk 29 (by kernel_rfl) rfl rfl ?_)); try simp only [Act.put, List.setIfInBounds_toArray, List.set_cons_zero, List.set_cons_succ]))
          refine lexT_ef1 30 (by kernel_rfl) rfl rfl (fun K' hK' => ?_)
          go_simp
          refine (has_g M.out.g XOK.out E4.out).mono ?_
          rintro e k162 ⟨rfl, f0⟩
          have f := Lib.hid f0
          replace M := Lib.hid (M.out.keep f.out)
          (try replace WA := Lib.hid (ownsRow_keep WA.out f.out (fun _ _ => id)))
          (try replace UA := Lib.hid (ownsRow_keep UA.out f.out (fun _ _ => id)))
          (try replace AI := Lib.hid (ownsRow_keep AI.out f.out (fun _ _ => id)))
          (try replace H1 := Lib.hid (H1.out.keep f.out))
          (try replace H2 := Lib.hid (H2.out.keep f.out))
          (try replace WI := Lib.hid (WI.out.keep f.out))
          (try replace UI := Lib.hid (UI.out.keep f.out))
          replace BS := Lib.hid (Nat.le_trans BS.out f.out.size)
          clear f f0
          refine hK'.out _ _ ?_ (fun hS => ?_)
          · exact M.out.s
          try simp only [Act.put, List.setIfInBounds_toArray, List.set_cons_zero, List.set_cons_succ]
          clear hS hK' K'
          (((first | (refine lexT_rd 31 (by kernel_rfl) rfl rfl ?_; apply Exists.intro; refine ⟨?_, ?_⟩; (focus (first | exact lex_load (ty := 30) rfl (fun w h => h) uK rK (by rw [XLEN.out]; exact infoHash) | (intro w' hS; obtain h := hS; go_simp; (try with_reducible rfl); done)))) | (refine lexT_sk 31 (by kernel_rfl) rfl rfl ?_)); try simp only [Act.put, List.setIfInBounds_toArray, List.set_cons_zero, List.set_cons_succ]); ((first | (refine lexT_rd 32 (by kernel_rfl) rfl rfl ?_; apply Exists.intro; refine ⟨?_, ?_⟩; (focus (first | exact lex_load (ty := 30) rfl (fun w h => h) uK rK (by rw [XLEN.out]; exact infoHash) | (intro w' hS; obtain h := hS; go_simp; (try with_reducible rfl); done)))) | (refine lexT_sk 32 (by kernel_rfl) rfl rfl ?_)); try simp only [Act.put, List.setIfInBounds_toArray, List.set_cons_zero, List.set_cons_succ]))
          refine lexT_nil (hK.out _ _ ?_)
          go_wp2
          go_ret
          exact ⟨rfl, M.out.f⟩
end Go.Proofs.Ytnjkpjcnmdgoeaa
