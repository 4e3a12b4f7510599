/- embargo: All. -/
import Derived.Test.YthmaekkjpginoaaDoorEmbH
import Derived.Test.YthmaekkjpginoaaDoorEmbJ
import Derived.Laws.OwnMore
namespace Go.Proofs.YthmaekkjpginoaaDoor
open Go Go.RowKit Go.Maps Go.MapKept Go.Sort

theorem flat_snoc (S : List HeldD) (n : Nat) (x : HeldD) (h : S[n]? = some x) : ((S.take (n + 1)).map HeldD.k).flatMap keyC = ((S.take n).map HeldD.k).flatMap keyC ++ keyC x.k := by
  rw [List.take_add_one, h]; simp

set_option maxRecDepth 20000 in
set_option maxHeartbeats 4000000 in
theorem all_T {w0 w : World} {p : Nat} {V : Nat → Prop} {T : List KT} {N : Nat} (h : CT w0 w p V T N) (hN : N ≤ 1000) :
    Calls Tryd.prog 15 #[.pointer (some ⟨p, 0, none⟩)] w fun e w' => ∃ v, e = .returned v ∧ w'.ownsRow w.heap.size 36 33 v T.length ((T.map (·.1)).flatMap keyC) ∧ Fr No w w' := by
  obtain ⟨g, S, hc, rfl, rfl⟩ := h
  obtain rfl := hc.bl
  obtain ⟨k0, -, -⟩ := hc.at_.cells
  obtain ⟨dH, uH, rH⟩ := descHeld
  obtain ⟨dK, uK, rK⟩ := descKey
  have hl : S.length = g.H.length := hc.perm.length_eq
  have hlm : g.H.length ≤ 1000 := by have := hc.len; omega
  obtain ⟨ha, hcp, hvf⟩ := hc.at_.hh.slice.arg.form
  have hcl := clone_any w hc.at_.hh hc.at_.ok hlm
  rw [hvf] at k0 hcl
  have HCL := Lib.hid hcl
  have HC := Lib.hid hc
  have HL := Lib.hid hl
  have OKS := Lib.hid (show ∀ x ∈ S, x.ok from fun x hx => hc.at_.ok x (hc.mem.1 hx))
  clear hcl hvf hc hl
  go_enter Tryd.func15, Tryd.ntmps15
  go_wp2_with fail
  refine HCL.out.mono ?_
  rintro e w1 ⟨v1, rfl, ho1, f1⟩
  have hs := sort_any ho1 HC.out.at_.ok HC.out.perm HC.out.srt hlm
  obtain ⟨a1, c1, rfl⟩ := ho1.slice.arg.form
  have HS := Lib.hid hs
  have F1 := Lib.hid f1
  have HO1 := Lib.hid ho1
  clear hs f1 ho1 HCL
  go_wp2_with fail
  refine HS.out.mono ?_
  rintro e w2 ⟨rfl, ho2, f2⟩
  obtain ⟨iK, hi, hz, hsz, hby⟩ := info_parts infoKeyZ
  obtain ⟨w3, hmk, ho3, hg3⟩ := run_makeSlice_full (P := Tryd.prog) (w := w2) w.heap.size 31 36 iK _ 33 undKeys hi hz hsz .i64 .i64 g.H.length (by omega) (by rw [hby]; omega) (by unfold maxLen; omega) (by have := F1.out.size; have := f2.size; omega)
  have f3 : Fr No w2 w3 := Fr.of_grown hg3 (fun k e => by cases e)
  have F02 := Lib.hid (show Fr No w w2 from F1.out.trans f2 (fun i hi e => by have := (HO1.out.lt i e).1; omega))
  have HO2 := Lib.hid (show w3.ownsRow w.heap.size 78 35 (.slice a1 g.H.length c1) g.H.length (S.flatMap heldC) from ownsRow_keep ho2 f3 (fun _ _ => id))
  have HB2 := Lib.hid (show ∀ k, (Value.slice a1 g.H.length c1).ownBlock = some k → k ≠ w2.heap.size from fun k e => by have := (ho2.lt k e).2; omega)
  have HO3 := Lib.hid ho3
  have F3 := Lib.hid f3
  clear ho2 f2 ho3 hg3 f3 hi hz hsz hby HS
  go_wp2_with fail
  have HSZ := Lib.hid (show w2.heap.size < w3.heap.size from (HO3.out.lt _ rfl).2)
  go_loopw [21] (fun iv wr => ∃ (n : Nat) (xs : List Value), iv = .int .i64 n ∧ n ≤ g.H.length ∧ Fr (fun j => j = w2.heap.size) w3 wr ∧ wr.ownsRow w.heap.size 36 33 (.slice (some ⟨w2.heap.size, 0, none⟩) g.H.length g.H.length) g.H.length xs ∧ xs.take (n * 33) = ((S.take n).map HeldD.k).flatMap keyC) (fun iv _ => g.H.length - (intOf iv).toNat)
  case atStart => exact ⟨0, _, rfl, Nat.zero_le _, Fr.refl _ _, HO3.out, by simp⟩
  case round =>
    obtain ⟨n, xs, rfl, hn, fr, ho, hxs⟩ := hrel
    have FR := Lib.hid fr
    have HO := Lib.hid ho
    have HXS := Lib.hid hxs
    clear fr ho hxs
    by_cases h : n < g.H.length
    · have i1 : (n : Int) < (g.H.length : Int) := by omega
      obtain ⟨x, hx⟩ : ∃ x, S[n]? = some x := ⟨_, List.getElem?_eq_getElem (by rw [HL.out]; exact h)⟩
      have XOK := Lib.hid (OKS.out x (List.mem_of_getElem? hx))
      have XL := Lib.hid (heldC_len XOK.out)
      have XK := Lib.hid (keyC_len XOK.out.1)
      have HO2r := ownsRow_keep HO2.out FR.out (fun b hb e => HB2.out b hb e)
      obtain ⟨gb, cap, hv, hr, hgb⟩ := own_elem (by decide) (fun y hy => heldC_len (OKS.out y hy)) HO2r hx
      cases hv
      have R1 := Lib.hid hr
      have RB := range_new wr (heldC x) 78
      have RK := Lib.hid (range_key RB)
      have TH := Lib.hid (own_there (HO.out.alloc (.cells (heldC x).toArray 78)) h)
      have HON := Lib.hid (own_setAt (HO.out.alloc (.cells (heldC x).toArray 78)) (n * 33) (cs := keyC x.k) (by rw [XK.out]; omega))
      have HXN := Lib.hid (show (setM xs (n * 33) (keyC x.k)).take ((n + 1) * 33) = ((S.take (n + 1)).map HeldD.k).flatMap keyC by
        have h1 := setM_pre xs (keyC x.k) (n * 33) (by rw [HO.out.1, XK.out]; omega)
        rw [XK.out] at h1
        rw [flat_snoc S n x hx, ← HXS.out, ← h1]
        congr 1
        omega)
      have FN := Lib.hid (show Fr (fun j => j = w2.heap.size) w3 ((wr.alloc (.cells (heldC x).toArray 78)).setCells w2.heap.size (n * 33) (keyC x.k)) from (FR.out.alloc _).trans (setCells_fr _ _ _ _) (fun _ _ h => h))
      clear hr RB HO2r hx
      go_wp2_with (first | (refine wpList_value rfl (exec_load (ty := 78) rfl rfl R1.out uH rH (by rw [XL.out]; exact infoHeld)) ?_) | (refine wpList_done rfl (exec_store_new (w := wr) (ty := 78) rfl rfl rfl (by rw [XL.out]; rfl) (by rw [XL.out]; exact infoHeld) heldC_one) ?_) | (refine wpList_value rfl (exec_load (ty := 36) rfl rfl RK.out uK rK (by rw [XK.out]; exact infoKey)) ?_) | (refine wpList_done rfl (exec_store (ty := 36) rfl rfl rfl (by rw [XK.out]; exact TH.out) (by rw [XK.out]; exact infoKey) keyC_one) ?_))
      go_roundw
      case rel => exact ⟨n + 1, _, by simp, by omega, FN.out, HON.out, HXN.out⟩
      case measure => show g.H.length - (n + 1) < g.H.length - n; omega
    · have i1 : ¬ (n : Int) < (g.H.length : Int) := by omega
      have i2 : n = g.H.length := by omega
      have FIN : wr.ownsRow w.heap.size 36 33 (.slice (some ⟨w2.heap.size, 0, none⟩) g.H.length g.H.length) (S.map ktOf).length (((S.map ktOf).map (·.1)).flatMap keyC) := by
        have h1 := HXS.out
        rw [i2, List.take_of_length_le (by rw [HO.out.1]; omega), ← HL.out, List.take_length] at h1
        rw [List.map_map, List.length_map, HL.out]
        have h2 := HO.out
        rw [h1] at h2
        exact h2
      have FF : Fr No w wr := F02.out.trans (F3.out.of0.trans FR.out (fun _ _ h => h)) (fun i hi e => by have := F02.out.size; omega)
      have HFIN := Lib.hid FIN
      have HFF := Lib.hid FF
      clear FIN FF i2
      go_wp2
      go_ret
      exact ⟨_, rfl, by have := HFIN.out; rw [List.length_map, List.map_map] at this; exact this, HFF.out⟩
end Go.Proofs.YthmaekkjpginoaaDoor
