/- pappusref16: the document's clock: Set. -/
import Derived.Test.YthmaekkjpginoaaDoorEmbW
import Derived.Test.YthmaekkjpginoaaDoorBuild
namespace Go.Proofs.YthmaekkjpginoaaDoor
open Go Go.RowKit Go.Maps Go.MapKept Go.Sort

theorem placesRHeld : buildPlaces Tryd.prog 64 = some (34, [(0, 33), (33, 1)]) := by kernel_rfl
theorem fill_rheld {k : KeyD} (hk : k.ok) (t : Int) : FillOk (([(0, 33), (33, 1)] : List (Nat × Nat)).toArray[·]?) 0 [(0, .agg (keyC k).toArray), (1, .int .u64 t)] := by
  have h : (Value.agg (keyC k).toArray).cells.size = 33 := by show (keyC k).toArray.size = 33; simpa using keyC_len hk
  have h1 : ∀ q x, (Value.int q x).cells.size = 1 := fun _ _ => rfl
  simp only [FillOk, h, h1]
  exact ⟨rfl, rfl, trivial⟩
theorem parts_rheld (k : KeyD) (t : Int) : partsC [(0, .agg (keyC k).toArray), (1, .int .u64 t)] = rkC (k, t) := by
  have h : (Value.agg (keyC k).toArray).cells.toList = keyC k := by show (keyC k).toArray.toList = keyC k; simp
  have h1 : ∀ q x, (Value.int q x).cells.toList = [.int q x] := fun _ _ => rfl
  simp [partsC, rkC, h, h1]
section
variable {w0 w : World} {p : Nat} {U : Nat → Prop} {T : List KT}
theorem own_mono {w : World} {B B' k n : Nat} {e : TypeId} {v : Value} {xs : List Value} (h : w.ownsRow B e k v n xs) (hB : B' ≤ B) : w.ownsRow B' e k v n xs :=
  ⟨h.1, h.2.imp id fun ⟨g, c, cur, e1, hb, r⟩ => ⟨g, c, cur, e1, Nat.le_trans hB hb, r⟩⟩
/-- c.L = l. -/
theorem RT.turn {w1 : World} (h : RT w0 w p U T) (f : Fr No w w1) {l : Value} {T' : List KT} (ho : w1.ownsRow w.heap.size 64 34 l T'.length (T'.flatMap rkC)) (ok : ∀ x ∈ T', x.1.ok) :
    RT w0 (w1.setCell ⟨p, 0, none⟩ l) p (fun j => j = p ∨ l.ownBlock = some j) T' ∧ Fr U w (w1.setCell ⟨p, 0, none⟩ l) ∧ (∀ j, (j = p ∨ l.ownBlock = some j) → U j ∨ w.heap.size ≤ j) := by
  have hlo := h.lo
  obtain ⟨rv, hb, hs, rfl, hne⟩ := h.ex
  have hp : p < w.heap.size := obj_lt hb
  have hlb : ∀ b, l.ownBlock = some b → w.heap.size ≤ b := fun b hb => (ho.lt b hb).1
  have hset := setCells_heap p 53 [l] 0 w1 #[rv] (f.obj hb id)
  have fs : Fr (fun j => j = p) w1 (w1.setCell ⟨p, 0, none⟩ l) := Fr.setCell (W := fun j => j = p) (Fr.refl _ w1) ⟨p, 0, none⟩ (.inr rfl) _
  refine ⟨{ ex := ⟨l, hset, ho.slice.keep fs (fun b hb e => by have := hlb b hb; omega), rfl, fun e => by have := hlb p e; omega⟩, lo := ?_, fr := ?_, ok := ok }, (f.of0.trans fs (fun _ _ e => .inl e)), ?_⟩
  · rintro j (rfl | hj)
    · exact hlo _ (.inl rfl)
    · exact Nat.le_trans h.fr.size (hlb j hj)
  · exact (h.fr.trans0 f).trans fs (fun i hi e => by subst e; have := hlo i (.inl rfl); omega)
  · rintro j (rfl | hj)
    · exact .inl (.inl rfl)
    · exact .inr (hlb j hj)

omit w0 w p U T in
theorem setT_ok {T : List KT} {k : KeyD} {t : Int} (ok : ∀ x ∈ T, x.1.ok) (hk : k.ok) : ∀ x ∈ setT T k t, x.1.ok := by
  intro x hx
  unfold setT at hx
  split at hx
  · exact ok x hx
  · unfold insT at hx
    simp only [List.mem_append, List.mem_cons, List.mem_filter] at hx
    rcases hx with ⟨h, _⟩ | rfl | ⟨h, _⟩
    · exact ok x h
    · exact hk
    · exact ok x h
set_option maxRecDepth 20000 in
set_option maxHeartbeats 8000000 in
theorem rset_T (h : RT w0 w p U T) (hsr : T.Pairwise (fun a b => a.2 ≤ b.2)) (hN : T.length ≤ 1000) (k : KeyD) (hk : k.ok) (t : Int) :
    Calls Tryd.prog 22 #[.pointer (some ⟨p, 0, none⟩), .agg (keyC k).toArray, .int .u64 t] w fun e w' => ∃ U', e = .returned (.int .i64 (setE T k)) ∧ RT w0 w' p U' (setT T k t) ∧ (∀ j, U' j → U j ∨ w.heap.size ≤ j) ∧ Fr U w w' := by
  obtain ⟨dH, uH, rH⟩ := descRHeld
  obtain ⟨dR, uR, rR⟩ := descRKey
  have OKT := Lib.hid h.ok
  have HK := Lib.hid hk
  have HKL := Lib.hid (keyC_len hk)
  have HRL := Lib.hid (show (rkC (k, t)).length = 34 from rkC_len hk)
  have RB := Lib.hid (range_new w (keyC k) 39)
  have F0 := Lib.hid ((Fr.refl No w).alloc (.cells (keyC k).toArray 39))
  have HRT := Lib.hid h
  have HT1 := Lib.hid (h.fr0 F0.out)
  have PL := Lib.hid (h.hi p (by obtain ⟨rv, -, -, rfl, -⟩ := h.ex; exact .inl rfl))
  clear h hk
  cases hh : hasT T k with
  | true =>
    have ES := Lib.hid (show setE T k = 10 by simp [setE, hh])
    have SS := Lib.hid (show setT T k t = T by simp [setT, hh])
    have HH := Lib.hid hh
    clear hh
    go_enter Tryd.func22, Tryd.ntmps22
    go_wp2_with (first | (refine wpList_value rfl (exec_load (ty := 39) rfl rfl RB.out uR rR (by rw [HKL.out]; exact infoRKey)) ?_) | (go_at_call 26; refine (rtill_T HT1.out hN k HK.out).mono ?_; rintro e w2 ⟨rfl, f2⟩; rw [HH.out]))
    go_ret
    exact ⟨U, by rw [ES.out]; rfl, by rw [SS.out]; exact HT1.out.fr0 f2, fun _ h => .inl h, (F0.out.trans0 f2).of0⟩
  | false =>
    have ES := Lib.hid (show setE T k = 0 by simp [setE, hh])
    have SS := Lib.hid (show setT T k t = insT T k t by simp [setT, hh])
    have WD := Lib.hid (want_done hsr k t)
    have HH := Lib.hid hh
    clear hh hsr
    go_enter Tryd.func22, Tryd.ntmps22
    go_wp2_with (first | (refine wpList_value rfl (exec_load (ty := 39) rfl rfl RB.out uR rR (by rw [HKL.out]; exact infoRKey)) ?_) | (go_at_call 26; refine (rtill_T HT1.out hN k HK.out).mono ?_; rintro e w2 ⟨rfl, f2⟩; rw [HH.out]; have F2 := Lib.hid (F0.out.trans0 f2); have RB2 := Lib.hid (range_keep RB.out f2 id); have HT2 := Lib.hid (HT1.out.fr0 f2); clear f2; obtain ⟨rv, hb, hs, hU, hne⟩ := HT2.out.ex; obtain ⟨ra, rc, rfl⟩ := hs.arg.form; have HS := Lib.hid hs; have HB := Lib.hid hb; have c0 : w2.cell? ⟨p, 0, none⟩ = some (.slice ra T.length rc) := (by simp [World.cell?, hb]); clear hb hs hne hU))
    go_loopw [9, 10, 25] (fun l d iv wr => ∃ n : Nat, iv = .int .i64 n ∧ n ≤ T.length ∧ d = .bool (wantOf k t (T.take n)).2 ∧ wr.ownsRow w2.heap.size 64 34 l (wantOf k t (T.take n)).1.length ((wantOf k t (T.take n)).1.flatMap rkC) ∧ Fr No w2 wr) (fun _ _ iv _ => T.length - (intOf iv).toNat)
    case atStart => exact ⟨0, rfl, Nat.zero_le _, rfl, World.ownsRow_nil _ _ _ _, Fr.refl _ _⟩
    case round =>
      obtain ⟨n, rfl, hn, rfl, ho, fr⟩ := hrel
      have FR := Lib.hid fr
      have SN := Lib.hid (fun (x : KT) hx => wantOf_snoc k t T n x hx)
      have WL := Lib.hid (want_len k t (T.take n))
      have WDN := Lib.hid (fun (e : n = T.length) => (by have h1 := WD.out; rw [show T.take n = T by rw [e, List.take_length]]; exact h1 : insT T k t = if (wantOf k t (T.take n)).2 = true then (wantOf k t (T.take n)).1 else (wantOf k t (T.take n)).1 ++ [(k, t)]))
      clear fr
      generalize wantOf k t (T.take n) = s at *
      obtain ⟨W, D⟩ := s
      have hWL : W.length ≤ 1001 := by have := WL.out; rw [List.length_take] at this; simp only at this; omega
      dsimp only at ho
      have HO := Lib.hid ho
      obtain ⟨la, lc, rfl⟩ := ho.slice.arg.form
      clear ho WL
      have SZ := Lib.hid (Nat.le_trans F2.out.size FR.out.size)
      by_cases h : n < T.length
      · have i1 : (n : Int) < (T.length : Int) := by omega
        obtain ⟨x, hx⟩ : ∃ x, T[n]? = some x := ⟨_, List.getElem?_eq_getElem h⟩
        obtain ⟨b, off, cap, hv, hr, -⟩ := (HS.out.keep FR.out (fun _ _ => id)).elem (by decide) (fun y hy => rkC_len (OKT.out y hy)) hx
        cases hv
        have SX := SN.out x hx
        have XOK := Lib.hid (OKT.out x (List.mem_of_getElem? hx))
        have XL := Lib.hid (rkC_len XOK.out)
        have R1 := Lib.hid hr
        have nb := range_new wr (rkC x) 64
        have k33 : (wr.alloc (.cells (rkC x).toArray 64)).cell? ⟨wr.heap.size, 33, none⟩ = some (.int .u64 x.2) := by have := nb 33 _ (rkC_33 XOK.out); simpa using this
        have RN := Lib.hid nb
        have RBE := Lib.hid (range_keep RB2.out (FR.out.alloc (.cells (rkC x).toArray 64)) id)
        have FE := Lib.hid (FR.out.alloc (.cells (rkC x).toArray 64))
        have hoE := HO.out.alloc (.cells (rkC x).toArray 64)
        have hlt : ∀ j, (Value.slice la W.length lc).ownBlock = some j → w2.heap.size ≤ j ∧ j < wr.heap.size := fun j e => HO.out.lt j e
        clear hr nb hx
        by_cases hc : D = false ∧ t < x.2
        · obtain ⟨rfl, hlt2⟩ := hc
          have HSX := Lib.hid (show wantOf k t (T.take (n + 1)) = (W ++ [(k, t)] ++ [x], true) by rw [SX]; simp [wantStep, hlt2])
          obtain ⟨v5, w5, hap1, ho5, f5, -, hb5⟩ := append_blk (P := Tryd.prog) (wr.alloc (.cells (rkC x).toArray 64)) w2.heap.size 51 51 64 34 48 _ undRHelds infoRHeldZ rfl (by decide) hoE (rkC (k, t)) HRL.out rkC_one (by omega) (by unfold maxLen; omega) FE.out.size
          have R5 := Lib.hid (range_keep RN.out f5 (fun e => by have := (hlt _ e).2; omega))
          have f5' : Fr No w2 w5 := FE.out.trans f5 (fun i hi e => by have := (hlt i e).1; omega)
          obtain ⟨v6, w6, hap2, ho6, f6, -, hb6⟩ := append_blk (P := Tryd.prog) w5 w2.heap.size 51 51 64 34 48 _ undRHelds infoRHeldZ rfl (by decide) ho5 (rkC x) XL.out rkC_one (by omega) (by unfold maxLen; omega) f5'.size
          have F6 := Lib.hid (f5'.trans f6 (fun i hi e => by have := (ho5.lt i e).1; omega))
          have HO6 := Lib.hid (show w6.ownsRow w2.heap.size 64 34 v6 (W ++ [(k, t)] ++ [x]).length ((W ++ [(k, t)] ++ [x]).flatMap rkC) by simpa using ho6)
          obtain ⟨a5, c5, rfl⟩ := ho5.slice.arg.form
          obtain ⟨a6, c6, rfl⟩ := ho6.slice.arg.form
          have HAP1 := Lib.hid hap1
          have HAP2 := Lib.hid hap2
          clear hap1 hap2 ho5 ho6 f5 f5' f6 hb5 hb6 hoE hlt SX
          go_wp2_with (first | (refine wpList_value rfl (exec_load (ty := 64) rfl rfl R5.out uH rH (by rw [XL.out]; exact infoRHeld)) ?_) | (refine wpList_value rfl (exec_load (ty := 64) rfl rfl RN.out uH rH (by rw [XL.out]; exact infoRHeld)) ?_) | (refine wpList_value rfl (exec_load (ty := 39) rfl rfl RBE.out uR rR (by rw [HKL.out]; exact infoRKey)) ?_) | (refine wpList_value rfl (exec_build (t := 64) rfl rfl placesRHeld (fill_rheld HK.out t) (parts_rheld k t) HRL.out) ?_) | (refine wpList_value rfl (exec_buildSliceA (t := 51) rfl rfl undRHelds infoRHeldZ2 rfl (by decide) (by decide) XL.out) ?_) | (refine wpList_value rfl (exec_buildSliceA (t := 51) rfl rfl undRHelds infoRHeldZ2 rfl (by decide) (by decide) HRL.out) ?_) | (at_builtin; refine wpList_append_run rfl rfl rfl rfl HAP1.out ?_; clear HAP1) | (at_builtin; refine wpList_append_run rfl rfl rfl rfl HAP2.out ?_) | (refine wpList_value rfl (exec_load (ty := 64) rfl rfl R1.out uH rH (by rw [XL.out]; exact infoRHeld)) ?_) | (refine wpList_done rfl (exec_store_new (w := wr) (ty := 64) rfl rfl rfl (by rw [XL.out]; rfl) (by rw [XL.out]; exact infoRHeld) rkC_one) ?_))
          go_roundw
          case rel => exact ⟨n + 1, by simp, by omega, by rw [HSX.out], by rw [HSX.out]; exact HO6.out, F6.out⟩
          case measure => show T.length - (n + 1) < T.length - n; omega
        · have HSX := Lib.hid (show wantOf k t (T.take (n + 1)) = (W ++ [x], D) by
            rw [SX]
            unfold wantStep
            rw [if_neg (fun h => hc ⟨h.2, h.1⟩)])
          obtain ⟨v5, w5, hap1, ho5, f5, -, hb5⟩ := append_blk (P := Tryd.prog) (wr.alloc (.cells (rkC x).toArray 64)) w2.heap.size 51 51 64 34 48 _ undRHelds infoRHeldZ rfl (by decide) hoE (rkC x) XL.out rkC_one (by omega) (by unfold maxLen; omega) FE.out.size
          have F5 := Lib.hid (show Fr No w2 w5 from FE.out.trans f5 (fun i hi e => by have := (hlt i e).1; omega))
          have HO5 := Lib.hid (show w5.ownsRow w2.heap.size 64 34 v5 (W ++ [x]).length ((W ++ [x]).flatMap rkC) by simpa using ho5)
          obtain ⟨a5, c5, rfl⟩ := ho5.slice.arg.form
          have HAP1 := Lib.hid hap1
          clear hap1 ho5 f5 hb5 hoE hlt SX
          cases D with
          | true =>
            clear hc
            go_wp2_with (first | (refine wpList_value rfl (exec_load (ty := 64) rfl rfl RN.out uH rH (by rw [XL.out]; exact infoRHeld)) ?_) | (refine wpList_value rfl (exec_buildSliceA (t := 51) rfl rfl undRHelds infoRHeldZ2 rfl (by decide) (by decide) XL.out) ?_) | (at_builtin; refine wpList_append_run rfl rfl rfl rfl HAP1.out ?_) | (refine wpList_value rfl (exec_load (ty := 64) rfl rfl R1.out uH rH (by rw [XL.out]; exact infoRHeld)) ?_) | (refine wpList_done rfl (exec_store_new (w := wr) (ty := 64) rfl rfl rfl (by rw [XL.out]; rfl) (by rw [XL.out]; exact infoRHeld) rkC_one) ?_))
            go_roundw
            case rel => exact ⟨n + 1, by simp, by omega, by rw [HSX.out], by rw [HSX.out]; exact HO5.out, F5.out⟩
            case measure => show T.length - (n + 1) < T.length - n; omega
          | false =>
            have hlt2 : ¬ t < x.2 := fun h => hc ⟨rfl, h⟩
            clear hc
            go_wp2_with (first | (refine wpList_value rfl (exec_load (ty := 64) rfl rfl RN.out uH rH (by rw [XL.out]; exact infoRHeld)) ?_) | (refine wpList_value rfl (exec_buildSliceA (t := 51) rfl rfl undRHelds infoRHeldZ2 rfl (by decide) (by decide) XL.out) ?_) | (at_builtin; refine wpList_append_run rfl rfl rfl rfl HAP1.out ?_) | (refine wpList_value rfl (exec_load (ty := 64) rfl rfl R1.out uH rH (by rw [XL.out]; exact infoRHeld)) ?_) | (refine wpList_done rfl (exec_store_new (w := wr) (ty := 64) rfl rfl rfl (by rw [XL.out]; rfl) (by rw [XL.out]; exact infoRHeld) rkC_one) ?_))
            go_roundw
            case rel => exact ⟨n + 1, by simp, by omega, by rw [HSX.out], by rw [HSX.out]; exact HO5.out, F5.out⟩
            case measure => show T.length - (n + 1) < T.length - n; omega
      · have i1 : ¬ (n : Int) < (T.length : Int) := by omega
        have i2 : n = T.length := by omega
        have WE := WDN.out i2
        have FW := Lib.hid (F2.out.trans0 FR.out)
        have hbr := FR.out.obj HB.out id
        cases D with
        | true =>
          have IT := Lib.hid (show insT T k t = W by rw [WE]; rfl)
          have cr : wr.cell? ⟨p, 0, none⟩ = some (.slice ra T.length rc) := by simp [World.cell?, hbr]
          have fz := frozen_none hbr 0
          clear hbr WE i2
          go_wp2
          go_ret
          obtain ⟨t1, t2, t3⟩ := HRT.out.turn FW.out (own_mono (HO.out) F2.out.size) (T' := W) (fun x hx => (setT_ok OKT.out HK.out x (by rw [SS.out, IT.out]; exact hx)))
          exact ⟨by rw [ES.out]; rfl, _, by rw [SS.out, IT.out]; exact t1, t3, t2⟩
        | false =>
          have IT := Lib.hid (show insT T k t = W ++ [(k, t)] by rw [WE]; rfl)
          obtain ⟨v5, w5, hap1, ho5, f5, -, hb5⟩ := append_blk (P := Tryd.prog) wr w2.heap.size 51 51 64 34 48 _ undRHelds infoRHeldZ rfl (by decide) HO.out (rkC (k, t)) HRL.out rkC_one (by omega) (by unfold maxLen; omega) FR.out.size
          have F5 := Lib.hid (show Fr No w2 w5 from FR.out.trans f5 (fun i hi e => by have := (HO.out.lt i e).1; omega))
          have HO5 := Lib.hid (show w5.ownsRow w2.heap.size 64 34 v5 (W ++ [(k, t)]).length ((W ++ [(k, t)]).flatMap rkC) by simpa using ho5)
          have RBE := Lib.hid (range_keep RB2.out FR.out id)
          have hb5 := F5.out.obj HB.out id
          have cr : w5.cell? ⟨p, 0, none⟩ = some (.slice ra T.length rc) := by simp [World.cell?, hb5]
          have fz := frozen_none hb5 0
          obtain ⟨a5, c5, rfl⟩ := ho5.slice.arg.form
          have HAP1 := Lib.hid hap1
          clear hap1 ho5 f5 hb5 hbr WE i2
          go_wp2_with (first | (refine wpList_value rfl (exec_load (ty := 39) rfl rfl RBE.out uR rR (by rw [HKL.out]; exact infoRKey)) ?_) | (refine wpList_value rfl (exec_build (t := 64) rfl rfl placesRHeld (fill_rheld HK.out t) (parts_rheld k t) HRL.out) ?_) | (refine wpList_value rfl (exec_buildSliceA (t := 51) rfl rfl undRHelds infoRHeldZ2 rfl (by decide) (by decide) HRL.out) ?_) | (at_builtin; refine wpList_append_run rfl rfl rfl rfl HAP1.out ?_))
          go_ret
          obtain ⟨t1, t2, t3⟩ := HRT.out.turn (F2.out.trans0 F5.out) (own_mono (HO5.out) F2.out.size) (T' := W ++ [(k, t)]) (fun x hx => (setT_ok OKT.out HK.out x (by rw [SS.out, IT.out]; exact hx)))
          exact ⟨by rw [ES.out]; rfl, _, by rw [SS.out, IT.out]; exact t1, t3, t2⟩
end
end Go.Proofs.YthmaekkjpginoaaDoor
