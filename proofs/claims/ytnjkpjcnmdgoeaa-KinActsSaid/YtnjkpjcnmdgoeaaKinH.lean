/- kin: sorted, Up, Down. -/
import Derived.Test.YtnjkpjcnmdgoeaaKinF
import Derived.Test.YtnjkpjcnmdgoeaaKinG
import Derived.Laws.MakeOwn
namespace Go.Proofs.Ytnjkpjcnmdgoeaa
open Go Go.RowKit Go.Maps Go.MapKept Go.Sort

abbrev InIter (w : World) (r b : Nat) (M R : List (HashD × Int)) := IterIs Try.prog 30 hashV intV w r b M R
theorem keys_perm {M : List (HashD × Int)} {S : List HashD} (hm : (M.map (·.1)).Nodup) (hs : ∀ k c, (k, c) ∈ M ↔ c = 1 ∧ k ∈ S) (hS : S.Nodup) : S.Perm (M.map (·.1)) := by
  refine (List.perm_ext_iff_of_nodup hS hm).2 (fun x => ?_)
  constructor
  · intro h
    exact List.mem_map.2 ⟨(x, 1), (hs x 1).2 ⟨rfl, h⟩, rfl⟩
  · intro h
    obtain ⟨⟨y, c⟩, hy, rfl⟩ := List.mem_map.1 h
    exact ((hs y c).1 hy).2
theorem own_no_iterK {w : World} {B k n : Nat} {e : TypeId} {v : Value} {xs : List Value} {r b : Nat} {M R : List (HashD × Int)} (h : w.ownsRow B e k v n xs) (hI : InIter w r b M R) : ∀ j, v.ownBlock = some j → j ≠ r := by
  obtain ⟨es, clk, seen, -, -, -, -, -, -, h7, -⟩ := hI
  rcases h.2 with ⟨rfl, _⟩ | ⟨g, cap, cur, rfl, _, hg, _⟩
  · intro j hj; cases hj
  · intro j hj e
    simp [Value.ownBlock] at hj
    subst hj e
    rw [hg] at h7
    cases h7
theorem own_no_box {w : World} {B n k bx : Nat} {v : Value} {xs : List Value} {c : Array Value} (h : w.ownsRow B 30 k v n xs) (hb : w.heap[bx]? = some (.cells c 25 (0, 0))) : ∀ j, v.ownBlock = some j → j ≠ bx := by
  rcases h.2 with ⟨rfl, _⟩ | ⟨g, cap, cur, rfl, _, hg, _⟩
  · intro j hj; cases hj
  · intro j hj e
    simp [Value.ownBlock] at hj
    subst hj e
    rw [hg] at hb
    injection hb with hb
    injection hb with _ hb
    revert hb
    decide
theorem ids_nodup {G : List NodeD} (h : GOk G) : (ids G).Nodup := h.nd
section
variable {w0 w : World} {p N : Nat} {V : Nat → Prop} {G : List NodeD}
set_option maxRecDepth 20000 in
set_option maxHeartbeats 4000000 in
theorem sorted_K (h : GC w0 w p V G N) (hN : N ≤ 1000) {b : Nat} {M : List (HashD × Int)} {S : List HashD} (hm : InMap w b M) (hs : ∀ k c, (k, c) ∈ M ↔ c = 1 ∧ k ∈ S) (hsub : S.Sublist (ids G)) :
    Calls Try.prog 30 #[.pointer (some ⟨p, 0, none⟩), .map (some b)] w fun e w' => ∃ v, e = .returned v ∧ w'.ownsRow w.heap.size 30 32 v S.length (S.flatMap hashC) ∧ Fr No w w' := by
  obtain ⟨dK, uK, rK⟩ := descHash
  have hSn : S.Nodup := h.gok.nd.sublist hsub
  have hSl : S.length ≤ 1000 := by
    have := hsub.length_le
    have := h.len
    simp only [ids, List.length_map] at *
    omega
  have LM := Lib.hid (show M.length = S.length by rw [(keys_perm hm.nodup hs hSn).length_eq, List.length_map])
  have f1 : Fr No w (w.alloc (.cells #[.pointer (some ⟨p, 0, none⟩)] 25)) := (Fr.refl No w).alloc _
  have cb1 := (blk1 (new_obj w (.cells #[.pointer (some ⟨p, 0, none⟩)] 25))).1
  have hm1 := hm.keep f1 id
  have LR := Lib.hid (fun ty => hm1.lenRun undInMap ty)
  obtain ⟨iK, hi, hz, hsz, hby⟩ := info_parts infoHashZ
  obtain ⟨w2, hmk, ho2, hg2⟩ := run_makeSlice_owned (P := Try.prog) (w := w.alloc (.cells #[.pointer (some ⟨p, 0, none⟩)] 25)) w.heap.size 27 30 iK _ 32 undIds hi hz hsz .i64 .i64 M.length (by rw [LM.out]; omega) (by rw [hby, LM.out]; omega) (by rw [LM.out]; unfold maxLen; omega) (by simp)
  have f2 : Fr No (w.alloc (.cells #[.pointer (some ⟨p, 0, none⟩)] 25)) w2 := Fr.of_grown hg2 (fun k e => by cases e)
  have hm2 := hm1.keep f2 id
  obtain ⟨clk, hrng, hit⟩ := hm2.rangeI undInMap
  have HS := Lib.hid hs
  have HSN := Lib.hid hSn
  have OKS := Lib.hid (show ∀ x ∈ M, hashOk x.1 from fun x hx => h.okId x.1 (hsub.subset ((hs x.1 x.2).1 hx).2))
  have HND := Lib.hid hm.nodup
  have HI0 := Lib.hid hit
  have F0 := Lib.hid ((f1.trans0 f2).alloc (.mapIter (some b) clk #[] clk))
  have CB := Lib.hid ((f2.alloc (.mapIter (some b) clk #[] clk)).obj (new_obj w (.cells #[.pointer (some ⟨p, 0, none⟩)] 25)) id)
  have HO0 := Lib.hid (show (w2.alloc (.mapIter (some b) clk #[] clk)).ownsRow w.heap.size 30 32 (.slice (some ⟨w.heap.size + 1, 0, none⟩) 0 M.length) 0 [] by have := ho2.alloc (.mapIter (some b) clk #[] clk); simpa using this)
  have HSZ := Lib.hid (show w.heap.size ≤ w2.heap.size from (f1.trans0 f2).size)
  have HB := Lib.hid (show w.heap.size < w2.heap.size by have := f2.size; simp at this; omega)
  have HC := Lib.hid h
  have MLT := Lib.hid hm.lt
  have SUB := Lib.hid hsub
  have zh := zeroHash
  clear h hm hm1 hs hsub hi hz hsz hby ho2 hg2 f2 hit f1 cb1 hSn hm2
  go_enter Try.func30, Try.ntmps30
  go_wp2_with (first | (refine wpList_value rfl (exec_len rfl rfl (LR.out _)) ?_) | (refine wpList_range_run rfl rfl rfl hrng ?_))
  generalize hq : w2.heap.size = r at *
  generalize w2.alloc (.mapIter (some b) clk #[] clk) = W at *
  clear hrng hmk LR
  try simp only [Act.put, List.setIfInBounds_toArray, List.set_cons_zero, List.set_cons_succ]
  generalize hbx : w.heap.size = bx at *
  go_loopg [5] M.length (fun n l wr => ∃ (D R : List (HashD × Int)), (D ++ R).Perm M ∧ R.length = n ∧ InIter wr r b M R ∧ wr.ownsRow bx 30 32 l D.length ((D.map (·.1)).flatMap hashC) ∧ wr.heap[bx]? = some (.cells #[.pointer (some ⟨p, 0, none⟩)] 25 (0, 0)) ∧ Fr No w wr)
  case atStart => exact ⟨[], M, List.Perm.refl _, rfl, HI0.out, HO0.out, CB.out, F0.out⟩
  case round =>
    obtain ⟨D, R, hperm, hm, hI, ho, hcb, hfr⟩ := hrel
    cases R with
    | nil =>
      have hnx := hI.stop
      rw [List.append_nil] at hperm
      have hp := keys_perm HND.out HS.out HSN.out
      have hp2 : S.Perm (D.map (·.1)) := hp.trans (hperm.symm.map _)
      have hDl : D.length = S.length := by rw [hp2.length_eq, List.length_map]
      obtain ⟨m, sq, L, hr, -, hG, -, hsq⟩ := HC.out.ex
      have hIds : ids G = L.map (·.id) := by rw [← hG]; simp [ids, Function.comp]
      have hsort := sort_K (hr.fr0 hfr) (by omega) (bx := bx) (B := bx) (blk1 hcb).1 (H := D.map (·.1)) (by rw [List.length_map]; exact ho) (fun j hj => ⟨own_no_box ho hcb j hj, fun e => by have := (ho.lt j hj).1; have := hr.hi j e; omega⟩) hp2 (by rw [← hIds]; exact SUB.out) (by rw [List.length_map, hDl]; omega)
      rw [List.length_map, hDl] at hsort
      have HSORT := Lib.hid hsort
      have FR := Lib.hid hfr
      have HO := Lib.hid ho
      obtain ⟨la, lc, hlv⟩ := ho.slice.arg.form
      rw [hDl] at hlv
      subst hlv
      clear hI ho hperm hm hfr hp hp2 hsort hDl hcb hr hG hsq hIds
      go_wp2_with (first | (refine wpList_next_run rfl rfl rfl (hnx _) ?_) | (go_at_call 36; refine HSORT.out.mono ?_; rintro e w5 ⟨rfl, ho5, f5⟩))
      go_ret
      exact ⟨.slice la S.length lc, by rfl, by rw [hbx]; exact ho5, FR.out.trans f5 (fun i hi e => by have := (HO.out.lt i e).1; omega)⟩
    | cons x0 R0 =>
      obtain ⟨A, x, B, w3, hAB, hnx, hI2, f3, hent⟩ := hI.step (by simp) 0
      have hx : x ∈ M := hperm.subset (by rw [hAB]; simp)
      have XOK := Lib.hid (OKS.out x hx)
      have HX := Lib.hid (hashC_len XOK.out)
      have hp2 : ((D ++ [x]) ++ (A ++ B)).Perm M := by
        refine List.Perm.trans ?_ hperm
        rw [hAB, List.append_assoc]
        exact List.Perm.append_left _ (show (x :: (A ++ B)).Perm (A ++ x :: B) from List.perm_middle.symm)
      have hDl : D.length ≤ 100000 := by have := hp2.length_eq; have := LM.out; simp at this ⊢; simp at *; omega
      have hni := own_no_iterK ho hI
      have hnb := own_no_box ho hcb
      have t5 : Fr No w3 (w3.alloc (.cells (hashC x.1).toArray 30)) := (Fr.refl No w3).alloc _
      have ho3 := ownsRow_keep (ownsRow_keep ho f3 (fun j e e' => hni j e e')) t5 (fun _ _ => id)
      have hcb3 := t5.obj (f3.obj hcb (fun e => by have := HB.out; omega)) id
      have hlt := fun j e => ho.lt j e
      have fr4 : Fr No w (w3.alloc (.cells (hashC x.1).toArray 30)) := (hfr.trans f3 (fun i hi e => by have := HB.out; omega)).trans0 t5
      obtain ⟨v5, w5, hap, ho5, f5, -, -⟩ := append_blk (P := Try.prog) _ bx 27 27 30 32 32 _ undIds infoHashZ rfl (by decide) ho3 (hashC x.1) HX.out hashC_one (by omega) (by unfold maxLen; omega) (by have := fr4.size; omega)
      have HO5 := Lib.hid (show w5.ownsRow bx 30 32 v5 (D ++ [x]).length (((D ++ [x]).map (·.1)).flatMap hashC) by simpa using ho5)
      have HI5 := Lib.hid ((hI2.keep t5 id id).keep f5 (fun e => by have := (hlt b e).1; have := MLT.out; omega) (fun e => hni r e rfl))
      have F5 := Lib.hid (fr4.trans f5 (fun i hi e => by have := (hlt i e).1; omega))
      have CB5 := Lib.hid (f5.obj hcb3 (fun e => hnb bx e rfl))
      obtain ⟨la, lc, rfl⟩ := ho.slice.arg.form
      obtain ⟨a5, c5, rfl⟩ := ho5.slice.arg.form
      have HAP := Lib.hid hap
      have HP := Lib.hid hp2
      have HR := Lib.hid (show (A ++ B).length < gk by rw [← hm, hAB]; simp)
      have RN := Lib.hid (range_new w3 (hashC x.1) 30)
      clear hI hI2 ho ho3 ho5 hfr fr4 hx hp2 hDl t5 hap f5 hAB hperm hm f3 hni hlt hcb hcb3 hnb
      unfold hashV intV at hnx hent
      go_wp2_with (first | refine wpList_next_run rfl rfl rfl hnx ?_ | refine wpList_entry_run rfl rfl rfl hent ?_ | (refine wpList_done rfl (exec_store_new (w := w3) (cs := hashC x.1) (ty := 30) rfl rfl rfl (by rw [HX.out]; rfl) (by rw [HX.out]; exact infoHash) hashC_one) ?_) | (refine wpList_value rfl (exec_load (ty := 30) rfl rfl RN.out uK rK (by rw [HX.out]; exact infoHash)) ?_) | (refine wpList_value rfl (exec_buildSliceA (t := 27) rfl rfl undIds infoHashZ2 rfl (by decide) (by decide) HX.out) ?_) | (at_builtin; refine wpList_append_run rfl rfl rfl rfl HAP.out ?_))
      go_roundg (A ++ B).length
      case measure => exact HR.out
      case rel => exact ⟨D ++ [x], A ++ B, HP.out, rfl, HI5.out, HO5.out, CB5.out, F5.out⟩
end
end Go.Proofs.Ytnjkpjcnmdgoeaa
