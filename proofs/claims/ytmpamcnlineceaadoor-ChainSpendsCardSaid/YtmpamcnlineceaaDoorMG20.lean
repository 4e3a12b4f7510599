/- pappusref07.SameCoins; pappusref09: SameOuts, Below, Ats. -/
import Derived.Test.YtmpamcnlineceaaDoorMG15
import Derived.Test.YtmpamcnlineceaaDoorMG2
import Derived.Test.YtmpamcnlineceaaDoorMG14
set_option linter.unusedVariables false
set_option linter.unusedSimpArgs false
namespace Go.Proofs.YtmpamcnlineceaaDoor
open Go Go.RowKit Go.Maps Go.MapKept

set_option maxRecDepth 20000 in
set_option maxHeartbeats 2000000 in
theorem sameCoins_any (w : World) {u v : Value} {ks ls : List CoinD} (hu : CoinsIs w u ks) (hv : CoinsIs w v ls) (hN : ks.length ≤ 100000) (_ : ls.length ≤ 100000) :
    Calls Tryd.prog 21 #[u, v] w fun e w' => ∃ b, e = .returned (.bool b) ∧ (b = true ↔ ks = ls) ∧ Fr No w w' := by
  obtain ⟨dK, uK, rK⟩ := descCoin
  obtain ⟨ua, uc, rfl⟩ := hu.2.form
  obtain ⟨va, vc, rfl⟩ := hv.2.form
  have HU := Lib.hid hu
  have HV := Lib.hid hv
  clear hu hv
  by_cases hlen : ks.length = ls.length
  · have j1 : (ks.length : Int) = (ls.length : Int) := by omega
    have HLE := Lib.hid hlen
    clear hlen
    go_enter Tryd.func21, Tryd.ntmps21
    go_wp2
    go_loopw [13] (fun iv wr => ∃ n : Nat, iv = .int .i64 n ∧ n ≤ ks.length ∧ ks.take n = ls.take n ∧ Fr No w wr) (fun iv _ => ks.length - (intOf iv).toNat)
    case atStart => exact ⟨0, rfl, Nat.zero_le _, by simp, Fr.refl _ _⟩
    case round =>
      obtain ⟨n, rfl, hn, hni, fr⟩ := hrel
      have FR := Lib.hid fr
      have NI := Lib.hid hni
      clear fr hni
      by_cases h : n < ks.length
      · have i1 : (n : Int) < (ks.length : Int) := by omega
        have i2 : (n : Int) < (ls.length : Int) := by omega
        obtain ⟨x, hx⟩ : ∃ x, ks[n]? = some x := ⟨_, List.getElem?_eq_getElem h⟩
        obtain ⟨y, hy⟩ : ∃ y, ls[n]? = some y := ⟨_, List.getElem?_eq_getElem (by rw [← HLE.out]; exact h)⟩
        obtain ⟨bx, ox, cx, hvx, hrx, -⟩ := (HU.out.keep FR.out).at_ hx
        cases hvx
        obtain ⟨by', oy, cy, hvy, hry, -⟩ := (HV.out.keep FR.out).at_ hy
        cases hvy
        have OX := Lib.hid (HU.out.1 x (List.mem_of_getElem? hx))
        have OY := Lib.hid (HV.out.1 y (List.mem_of_getElem? hy))
        have HX := Lib.hid (coinC_len OX.out)
        have HY := Lib.hid (coinC_len OY.out)
        have R1 := Lib.hid hrx
        have R2 := Lib.hid hry
        have TX := Lib.hid (show ks.take (n + 1) = ks.take n ++ [x] by rw [List.take_add_one, hx]; rfl)
        have TY := Lib.hid (show ls.take (n + 1) = ls.take n ++ [y] by rw [List.take_add_one, hy]; rfl)
        clear hrx hry hx hy
        by_cases hxk : x = y
        · have HE := Lib.hid (show (coinC x).toArray = (coinC y).toArray by simp [hxk])
          have NI2 := Lib.hid (show ks.take (n + 1) = ls.take (n + 1) by rw [TX.out, TY.out, NI.out, hxk])
          clear hxk
          have g0 : Fr No wr wr.drew := by (repeat (first | with_reducible exact Fr.refl _ _ | with_reducible assumption | with_reducible refine Fr.drew ?_ | with_reducible refine Fr.drewN ?_ _ | with_reducible refine Fr.alloc ?_ _ | with_reducible refine Fr.setCell ?_ _ (.inl (by simp <;> omega)) _))
          have HS := Lib.hid (fun (W : World) (f : Fr No wr W) => (⟨range_keep R1.out f id, range_keep R2.out f id⟩ : W.rangeAt bx (ox + n * 66) (coinC x) ∧ W.rangeAt by' (oy + n * 66) (coinC y)))
          go_wp2
          refine wp_region_lexL [false, false, false, false, false, false, false, false, false] (fun W => W.rangeAt bx (ox + n * 66) (coinC x) ∧ W.rangeAt by' (oy + n * 66) (coinC y)) (by kernel_rfl) (by kernel_rfl) ?_ (fun K hK => ?_)
          · exact HS.out _ g0
          repeat (first | ((first | with_reducible refine lexL_read ?_ | ((with_reducible refine lexL_readG ?_ ?_); (focus rfl))); apply Exists.intro; refine ⟨?_, ?_⟩; (focus (first | exact lex_load (ty := 57) rfl (fun w h => h.1) uK rK (by rw [HX.out]; exact infoCoin) | exact lex_load (ty := 57) rfl (fun w h => h.2) uK rK (by rw [HY.out]; exact infoCoin) | exact fun w' h => eqCoin.exec_neq (u := (coinC x).toArray) (v := (coinC y).toArray) rfl rfl rfl (keyOfCoin OX.out) (keyOfCoin OY.out) true ⟨fun _ => HE.out, fun _ => rfl⟩ w' | (intro w' hS; obtain _ := hS; go_simp; (try with_reducible rfl); done))); try simp only [Act.put, List.setIfInBounds_toArray, List.set_cons_zero, List.set_cons_succ]) | ((first | ((with_reducible refine lexL_skip (c := false) ?_ ?_ ?_); (focus rfl); (focus rfl)) | ((with_reducible refine lexL_skip (c := true) ?_ ?_ ?_); (focus rfl); (focus rfl)) | ((with_reducible refine lexL_skipU ?_ ?_); (focus rfl))); try simp only [Act.put, List.setIfInBounds_toArray, List.set_cons_zero, List.set_cons_succ]))
          refine lexL_nil (hK.out _ _ ?_)
          have G1 := Lib.hid g0
          clear g0 HS
          go_wp2
          go_roundw
          case rel => exact ⟨n + 1, by simp, by omega, NI2.out, FR.out.trans0 G1.out⟩
          case measure => show ks.length - (n + 1) < ks.length - n; omega
        · have HE := Lib.hid (show ¬ (coinC x).toArray = (coinC y).toArray from fun e => hxk (coinC_inj OX.out OY.out (by simpa using e)))
          have NE := Lib.hid (show ks ≠ ls from fun e => hxk (by
            have h1 := TX.out
            have h2 := TY.out
            rw [e] at h1
            rw [h1] at h2
            have h3 := congrArg List.getLast? h2
            simpa using h3))
          clear hxk
          have g0 : Fr No wr wr.drew := by (repeat (first | with_reducible exact Fr.refl _ _ | with_reducible assumption | with_reducible refine Fr.drew ?_ | with_reducible refine Fr.drewN ?_ _ | with_reducible refine Fr.alloc ?_ _ | with_reducible refine Fr.setCell ?_ _ (.inl (by simp <;> omega)) _))
          have HS := Lib.hid (fun (W : World) (f : Fr No wr W) => (⟨range_keep R1.out f id, range_keep R2.out f id⟩ : W.rangeAt bx (ox + n * 66) (coinC x) ∧ W.rangeAt by' (oy + n * 66) (coinC y)))
          go_wp2
          refine wp_region_lexL [false, false, false, false, false, false, false, false, false] (fun W => W.rangeAt bx (ox + n * 66) (coinC x) ∧ W.rangeAt by' (oy + n * 66) (coinC y)) (by kernel_rfl) (by kernel_rfl) ?_ (fun K hK => ?_)
          · exact HS.out _ g0
          repeat (first | ((first | with_reducible refine lexL_read ?_ | ((with_reducible refine lexL_readG ?_ ?_); (focus rfl))); apply Exists.intro; refine ⟨?_, ?_⟩; (focus (first | exact lex_load (ty := 57) rfl (fun w h => h.1) uK rK (by rw [HX.out]; exact infoCoin) | exact lex_load (ty := 57) rfl (fun w h => h.2) uK rK (by rw [HY.out]; exact infoCoin) | exact fun w' h => eqCoin.exec_neq (u := (coinC x).toArray) (v := (coinC y).toArray) rfl rfl rfl (keyOfCoin OX.out) (keyOfCoin OY.out) false ⟨fun e => (by cases e), fun e => absurd e HE.out⟩ w' | (intro w' hS; obtain _ := hS; go_simp; (try with_reducible rfl); done))); try simp only [Act.put, List.setIfInBounds_toArray, List.set_cons_zero, List.set_cons_succ]) | ((first | ((with_reducible refine lexL_skip (c := false) ?_ ?_ ?_); (focus rfl); (focus rfl)) | ((with_reducible refine lexL_skip (c := true) ?_ ?_ ?_); (focus rfl); (focus rfl)) | ((with_reducible refine lexL_skipU ?_ ?_); (focus rfl))); try simp only [Act.put, List.setIfInBounds_toArray, List.set_cons_zero, List.set_cons_succ]))
          refine lexL_nil (hK.out _ _ ?_)
          have G1 := Lib.hid g0
          clear g0 HS
          go_wp2
          go_ret
          exact ⟨false, rfl, by simp [NE.out], FR.out.trans0 G1.out⟩
      · have i1 : ¬ (n : Int) < (ks.length : Int) := by omega
        have i2 : n = ks.length := by omega
        have FIN : ks = ls := by have := NI.out; rw [i2, List.take_length, HLE.out, List.take_length] at this; exact this
        have HF := Lib.hid FIN
        clear FIN i2
        go_wp2
        go_ret
        first | exact ⟨true, rfl, by simp [HF.out], FR.out⟩ | exact .inr ⟨rfl, HF.out, FR.out⟩ | exact .inl ⟨rfl, HF.out, FR.out⟩
  · have j1 : ¬ (ks.length : Int) = (ls.length : Int) := by omega
    have NE := Lib.hid (show ks ≠ ls from fun e => hlen (by rw [e]))
    clear hlen
    go_enter Tryd.func21, Tryd.ntmps21
    go_wp2
    go_ret
    exact ⟨false, rfl, by simp [NE.out], Fr.refl _ _⟩

/-- A slice of outputs. -/
def OutsIs (w : World) (v : Value) (l : List OutD) : Prop := (∀ c ∈ l, c.ok) ∧ ArgIs w v l.length (l.flatMap outC)
theorem OutsIs.keep {w w' : World} {v : Value} {l : List OutD} (h : OutsIs w v l) (f : Fr No w w') : OutsIs w' v l := ⟨h.1, h.2.keep f⟩
theorem OutsIs.at_ {w : World} {v : Value} {l : List OutD} (h : OutsIs w v l) {i : Nat} {c : OutD} (hx : l[i]? = some c) : ∃ b off cap, v = .slice (some ⟨b, off, none⟩) l.length cap ∧ w.rangeAt b (off + i * 33) (outC c) ∧ b < w.heap.size :=
  h.2.elem (by decide) (fun x hx => outC_len (h.1 x hx)) hx
end Go.Proofs.YtmpamcnlineceaaDoor

/- pappusref09.SameOuts. -/
namespace Go.Proofs.YtmpamcnlineceaaDoor
open Go Go.RowKit Go.Maps Go.MapKept

set_option maxRecDepth 20000 in
set_option maxHeartbeats 2000000 in
theorem sameOuts_any (w : World) {u v : Value} {ks ls : List OutD} (hu : OutsIs w u ks) (hv : OutsIs w v ls) (hN : ks.length ≤ 100000) (hM : ls.length ≤ 100000) :
    Calls Tryd.prog 39 #[u, v] w fun e w' => ∃ b, e = .returned (.bool b) ∧ (b = true ↔ ks = ls) ∧ Fr No w w' := by
  obtain ⟨dK, uK, rK⟩ := descOut
  obtain ⟨ua, uc, rfl⟩ := hu.2.form
  obtain ⟨va, vc, rfl⟩ := hv.2.form
  have HU := Lib.hid hu
  have HV := Lib.hid hv
  clear hu hv
  by_cases hlen : ks.length = ls.length
  · have j1 : (ks.length : Int) = (ls.length : Int) := by omega
    have HLE := Lib.hid hlen
    clear hlen
    go_enter Tryd.func39, Tryd.ntmps39
    go_wp2
    go_loopw [13] (fun iv wr => ∃ n : Nat, iv = .int .i64 n ∧ n ≤ ks.length ∧ ks.take n = ls.take n ∧ Fr No w wr) (fun iv _ => ks.length - (intOf iv).toNat)
    case atStart => exact ⟨0, rfl, Nat.zero_le _, by simp, Fr.refl _ _⟩
    case round =>
      obtain ⟨n, rfl, hn, hni, fr⟩ := hrel
      have FR := Lib.hid fr
      have NI := Lib.hid hni
      clear fr hni
      by_cases h : n < ks.length
      · have i1 : (n : Int) < (ks.length : Int) := by omega
        have i2 : (n : Int) < (ls.length : Int) := by omega
        obtain ⟨x, hx⟩ : ∃ x, ks[n]? = some x := ⟨_, List.getElem?_eq_getElem h⟩
        obtain ⟨y, hy⟩ : ∃ y, ls[n]? = some y := ⟨_, List.getElem?_eq_getElem (by rw [← HLE.out]; exact h)⟩
        obtain ⟨bx, ox, cx, hvx, hrx, -⟩ := (HU.out.keep FR.out).at_ hx
        cases hvx
        obtain ⟨by', oy, cy, hvy, hry, -⟩ := (HV.out.keep FR.out).at_ hy
        cases hvy
        have OX := Lib.hid (HU.out.1 x (List.mem_of_getElem? hx))
        have OY := Lib.hid (HV.out.1 y (List.mem_of_getElem? hy))
        have HX := Lib.hid (outC_len OX.out)
        have HY := Lib.hid (outC_len OY.out)
        have R1 := Lib.hid hrx
        have R2 := Lib.hid hry
        have TX := Lib.hid (show ks.take (n + 1) = ks.take n ++ [x] by rw [List.take_add_one, hx]; rfl)
        have TY := Lib.hid (show ls.take (n + 1) = ls.take n ++ [y] by rw [List.take_add_one, hy]; rfl)
        clear hrx hry hx hy
        by_cases hxk : x = y
        · have HE := Lib.hid (show (outC x).toArray = (outC y).toArray by simp [hxk])
          have NI2 := Lib.hid (show ks.take (n + 1) = ls.take (n + 1) by rw [TX.out, TY.out, NI.out, hxk])
          clear hxk
          have g0 : Fr No wr wr.drew := by (repeat (first | with_reducible exact Fr.refl _ _ | with_reducible assumption | with_reducible refine Fr.drew ?_ | with_reducible refine Fr.drewN ?_ _ | with_reducible refine Fr.alloc ?_ _ | with_reducible refine Fr.setCell ?_ _ (.inl (by simp <;> omega)) _))
          have HS := Lib.hid (fun (W : World) (f : Fr No wr W) => (⟨range_keep R1.out f id, range_keep R2.out f id⟩ : W.rangeAt bx (ox + n * 33) (outC x) ∧ W.rangeAt by' (oy + n * 33) (outC y)))
          go_wp2
          refine wp_region_lexL [false, false, false, false, false, false, false, false, false] (fun W => W.rangeAt bx (ox + n * 33) (outC x) ∧ W.rangeAt by' (oy + n * 33) (outC y)) (by kernel_rfl) (by kernel_rfl) ?_ (fun K hK => ?_)
          · exact HS.out _ g0
          repeat (first | ((first | with_reducible refine lexL_read ?_ | ((with_reducible refine lexL_readG ?_ ?_); (focus rfl))); apply Exists.intro; refine ⟨?_, ?_⟩; (focus (first | exact lex_load (ty := 55) rfl (fun w h => h.1) uK rK (by rw [HX.out]; exact infoOut) | exact lex_load (ty := 55) rfl (fun w h => h.2) uK rK (by rw [HY.out]; exact infoOut) | exact fun w' h => eqOut.exec_neq (u := (outC x).toArray) (v := (outC y).toArray) rfl rfl rfl (keyOfOut OX.out) (keyOfOut OY.out) true ⟨fun _ => HE.out, fun _ => rfl⟩ w' | (intro w' hS; obtain _ := hS; go_simp; (try with_reducible rfl); done))); try simp only [Act.put, List.setIfInBounds_toArray, List.set_cons_zero, List.set_cons_succ]) | ((first | ((with_reducible refine lexL_skip (c := false) ?_ ?_ ?_); (focus rfl); (focus rfl)) | ((with_reducible refine lexL_skip (c := true) ?_ ?_ ?_); (focus rfl); (focus rfl)) | ((with_reducible refine lexL_skipU ?_ ?_); (focus rfl))); try simp only [Act.put, List.setIfInBounds_toArray, List.set_cons_zero, List.set_cons_succ]))
          refine lexL_nil (hK.out _ _ ?_)
          have G1 := Lib.hid g0
          clear g0 HS
          go_wp2
          go_roundw
          case rel => exact ⟨n + 1, by simp, by omega, NI2.out, FR.out.trans0 G1.out⟩
          case measure => show ks.length - (n + 1) < ks.length - n; omega
        · have HE := Lib.hid (show ¬ (outC x).toArray = (outC y).toArray from fun e => hxk (outC_inj (by simpa using e)))
          have NE := Lib.hid (show ks ≠ ls from fun e => hxk (by
            have h1 := TX.out
            have h2 := TY.out
            rw [e] at h1
            rw [h1] at h2
            have h3 := congrArg List.getLast? h2
            simpa using h3))
          clear hxk
          have g0 : Fr No wr wr.drew := by (repeat (first | with_reducible exact Fr.refl _ _ | with_reducible assumption | with_reducible refine Fr.drew ?_ | with_reducible refine Fr.drewN ?_ _ | with_reducible refine Fr.alloc ?_ _ | with_reducible refine Fr.setCell ?_ _ (.inl (by simp <;> omega)) _))
          have HS := Lib.hid (fun (W : World) (f : Fr No wr W) => (⟨range_keep R1.out f id, range_keep R2.out f id⟩ : W.rangeAt bx (ox + n * 33) (outC x) ∧ W.rangeAt by' (oy + n * 33) (outC y)))
          go_wp2
          refine wp_region_lexL [false, false, false, false, false, false, false, false, false] (fun W => W.rangeAt bx (ox + n * 33) (outC x) ∧ W.rangeAt by' (oy + n * 33) (outC y)) (by kernel_rfl) (by kernel_rfl) ?_ (fun K hK => ?_)
          · exact HS.out _ g0
          repeat (first | ((first | with_reducible refine lexL_read ?_ | ((with_reducible refine lexL_readG ?_ ?_); (focus rfl))); apply Exists.intro; refine ⟨?_, ?_⟩; (focus (first | exact lex_load (ty := 55) rfl (fun w h => h.1) uK rK (by rw [HX.out]; exact infoOut) | exact lex_load (ty := 55) rfl (fun w h => h.2) uK rK (by rw [HY.out]; exact infoOut) | exact fun w' h => eqOut.exec_neq (u := (outC x).toArray) (v := (outC y).toArray) rfl rfl rfl (keyOfOut OX.out) (keyOfOut OY.out) false ⟨fun e => (by cases e), fun e => absurd e HE.out⟩ w' | (intro w' hS; obtain _ := hS; go_simp; (try with_reducible rfl); done))); try simp only [Act.put, List.setIfInBounds_toArray, List.set_cons_zero, List.set_cons_succ]) | ((first | ((with_reducible refine lexL_skip (c := false) ?_ ?_ ?_); (focus rfl); (focus rfl)) | ((with_reducible refine lexL_skip (c := true) ?_ ?_ ?_); (focus rfl); (focus rfl)) | ((with_reducible refine lexL_skipU ?_ ?_); (focus rfl))); try simp only [Act.put, List.setIfInBounds_toArray, List.set_cons_zero, List.set_cons_succ]))
          refine lexL_nil (hK.out _ _ ?_)
          have G1 := Lib.hid g0
          clear g0 HS
          go_wp2
          go_ret
          exact ⟨false, rfl, by simp [NE.out], FR.out.trans0 G1.out⟩
      · have i1 : ¬ (n : Int) < (ks.length : Int) := by omega
        have i2 : n = ks.length := by omega
        have FIN : ks = ls := by have := NI.out; rw [i2, List.take_length, HLE.out, List.take_length] at this; exact this
        have HF := Lib.hid FIN
        clear FIN i2
        go_wp2
        go_ret
        first | exact ⟨true, rfl, by simp [HF.out], FR.out⟩ | exact .inr ⟨rfl, HF.out, FR.out⟩ | exact .inl ⟨rfl, HF.out, FR.out⟩
  · have j1 : ¬ (ks.length : Int) = (ls.length : Int) := by omega
    have NE := Lib.hid (show ks ≠ ls from fun e => hlen (by rw [e]))
    clear hlen
    go_enter Tryd.func39, Tryd.ntmps39
    go_wp2
    go_ret
    exact ⟨false, rfl, by simp [NE.out], Fr.refl _ _⟩
end Go.Proofs.YtmpamcnlineceaaDoor

/- append of a slice that may be nil. -/
namespace Go
open Go.RowKit Go.Maps Go.MapKept

theorem append_nil {P : Program} (w : World) (t ty e : TypeId) (ht : P.underlying t = some (.slice e)) (i : TypeInfo) (hi : P.info? e = some i) (base : Option Addr) (n cap : Nat) (hle : n ≤ cap) :
    (Builtin.append_ #[t, t] ty #[.slice base n cap, .slice none 0 0]).run P w = .ok (.slice base n cap) w := by
  cases base <;> simp [Builtin.append_, run_underlying ht, sizeOf, typeInfo, hi, hle, storeCells, loadCells, Builtin.lenOf, Builtin.firstCells]

theorem append_sl {P : Program} (w : World) (base : Nat) (t ty e : TypeId) (size bytes : Nat) (z : Value) (ht : P.underlying t = some (.slice e)) (hinfo : (P.info? e).map (fun i => (i.zero, i.size, i.bytes)) = some (some z, size, bytes)) (hzs : z.cells.size = size) (hsz : 0 < size)
    (v : Value) (n : Nat) (xs : List Value) (hown : w.ownsRow base e size v n xs) (x : Value) (m : Nat) (news : List Value) (hx : SliceIs w x m news) (hl : news.length = m * size) (h1 : ∀ u ∈ news, u.oneCell' = true)
    (hbytes : (n + m) * bytes ≤ 140737488355328) (h63 : n + m ≤ maxLen) (hbase : base ≤ w.heap.size) :
    ∃ v' w', (Builtin.append_ #[t, t] ty #[v, x]).run P w = .ok v' w' ∧ w'.ownsRow base e size v' (n + m) (xs ++ news) ∧ Fr (fun j => v.ownBlock = some j) w w' ∧ (∀ k, v'.ownBlock = some k → v.ownBlock = some k ∨ w.heap.size ≤ k) := by
  by_cases hnil : x = .slice none 0 0
  · subst hnil
    have hm : m = 0 ∧ news = [] := by
      rcases hx with ⟨_, h1, h2⟩ | ⟨b, o, c, h, _⟩
      · exact ⟨h1, h2⟩
      · cases h
    obtain ⟨rfl, rfl⟩ := hm
    obtain ⟨i, hi, _⟩ := info_parts hinfo
    have hf : ∃ a c, v = .slice a n c ∧ n ≤ c := by
      rcases hown.2 with ⟨rfl, rfl⟩ | ⟨g, cap, cur, rfl, _, _, h, _⟩
      · exact ⟨none, 0, rfl, Nat.le_refl _⟩
      · exact ⟨_, _, rfl, h⟩
    obtain ⟨a, c, rfl, hle⟩ := hf
    refine ⟨_, w, append_nil w t ty e ht i hi a n c hle, by simpa using hown, Fr.refl _ _, fun k h => .inl h⟩
  · obtain ⟨v', w', h1', h2, h3, _, h5⟩ := append_own (P := P) w base t ty e size bytes z ht hinfo hzs hsz v n xs hown x m news hx.arg hl h1 hbytes h63 hbase hnil
    exact ⟨v', w', h1', h2, (Fr.refl _ w).grown h3 (fun k e => .inr e), h5⟩
end Go

/- Hashes in memory; slices of hashes; bytes appended. -/
namespace Go.Proofs.YtmpamcnlineceaaDoor
open Go Go.RowKit Go.Maps Go.MapKept

abbrev HashD := List Int
def hashC (h : HashD) : List Value := h.map byteV
def hashV (h : HashD) : Value := .agg (hashC h).toArray
theorem hashC_len {h : HashD} (k : hashOk h) : (hashC h).length = 32 := by simp [hashC, k.1]
theorem hashC_one {h : HashD} : ∀ v ∈ hashC h, v.oneCell' = true := by
  intro v hv
  obtain ⟨y, _, rfl⟩ := List.mem_map.1 hv
  rfl
theorem hashC_inj {a b : HashD} (h : hashC a = hashC b) : a = b := byteC_inj h
theorem hashV_inj {a b : HashD} (h : hashV a = hashV b) : a = b := by
  unfold hashV at h
  injection h with h
  exact hashC_inj (by simpa using congrArg Array.toList h)
theorem undHash : Tryd.prog.underlying 45 = some (.array 32 5) := by kernel_rfl
theorem keyOfHash {h : HashD} (k : hashOk h) : ∃ l, keyOf Tryd.prog 45 (hashV h) = some l :=
  keyOf_array undHash (by kernel_rfl) (by kernel_rfl) (by kernel_rfl) (by kernel_rfl) (of_decide_eq_true (by kernel_rfl)) h k.1 (fun x hx => wfC_8 (k.2 x hx))
theorem eqHash : EqN Tryd.prog 45 := ⟨Keyed.of_law (deep_law_laid laidOutC (m := 2) (by decide) (of_decide_eq_true (by kernel_rfl)) (by kernel_rfl) (by kernel_rfl)), ⟨2, by decide, by kernel_rfl⟩, by kernel_rfl, by kernel_rfl⟩
theorem descHash : ∃ d, Tryd.prog.underlying 45 = some d ∧ d.isRow = true := row_of (by kernel_rfl)
theorem infoHash : (Tryd.prog.info? 45).map (·.size) = some 32 := by kernel_rfl
def hash0 : HashD := List.replicate 32 0
theorem hash0_ok : hashOk hash0 := ⟨rfl, fun x hx => by have : x = 0 := List.eq_of_mem_replicate hx; omega⟩
theorem undIds : Tryd.prog.underlying 94 = some (.slice 45) := by kernel_rfl
theorem infoHashZ : (Tryd.prog.info? 45).map (fun i => (i.zero, i.size, i.bytes)) = some (some (.agg (hashC hash0).toArray), 32, 32) := by kernel_rfl
theorem infoHashZ2 : (Tryd.prog.info? 45).map (fun i => (i.zero, i.size)) = some (some (.agg (hashC hash0).toArray), 32) := by kernel_rfl
theorem zeroHash (w : World) : (zeroValue 45).run Tryd.prog w = .ok (.agg (hashC hash0).toArray) w := by kernel_rfl
/-- A slice of ids. -/
def IdsIs (w : World) (v : Value) (l : List HashD) : Prop := (∀ c ∈ l, hashOk c) ∧ ArgIs w v l.length (l.flatMap hashC)
theorem IdsIs.keep {w w' : World} {v : Value} {l : List HashD} (h : IdsIs w v l) (f : Fr No w w') : IdsIs w' v l := ⟨h.1, h.2.keep f⟩
theorem IdsIs.at_ {w : World} {v : Value} {l : List HashD} (h : IdsIs w v l) {i : Nat} {c : HashD} (hx : l[i]? = some c) : ∃ b off cap, v = .slice (some ⟨b, off, none⟩) l.length cap ∧ w.rangeAt b (off + i * 32) (hashC c) ∧ b < w.heap.size :=
  h.2.elem (by decide) (fun x hx => hashC_len (h.1 x hx)) hx
theorem ids_flat_len {l : List HashD} (ok : ∀ c ∈ l, hashOk c) : (l.flatMap hashC).length = l.length * 32 := flatR_len hashC 32 l (fun x hx => hashC_len (ok x hx))
theorem ids_flat_one {l : List HashD} : ∀ u ∈ l.flatMap hashC, u.oneCell' = true := fun u hu => by
  obtain ⟨x, _, hx⟩ := List.mem_flatMap.1 hu
  exact hashC_one u hx
theorem IdsIs.own {w : World} {B : Nat} {v : Value} {l : List HashD} (h : w.ownsRow B 45 32 v l.length (l.flatMap hashC)) (ok : ∀ c ∈ l, hashOk c) : IdsIs w v l := ⟨ok, h.slice.arg⟩
theorem ArgIs.cap {w : World} {a : Option Addr} {n c : Nat} {cs : List Value} (h : ArgIs w (.slice a n c) n cs) : n ≤ c := by
  rcases h with (⟨e, rfl, -⟩ | ⟨b, off, cap, e, h1, -⟩) | ⟨a', cap, e, rfl, -⟩
  · exact Nat.zero_le _
  · injection e with _ _ e3; subst e3; exact h1
  · exact Nat.zero_le _
/-! ### bytes -/
theorem undBytes : Tryd.prog.underlying 48 = some (.slice 5) := by kernel_rfl
theorem infoByteZ : (Tryd.prog.info? 5).map (fun i => (i.zero, i.size, i.bytes)) = some (some (.int .u8 0), 1, 1) := by kernel_rfl
/-- An own row of bytes. -/
def BRow (w : World) (B : Nat) (v : Value) (l : List Int) : Prop := w.ownsRow B 5 1 v l.length (l.map byteV)
theorem bytes_one {l : List Int} : ∀ u ∈ l.map byteV, u.oneCell' = true := fun u hu => by
  obtain ⟨x, _, rfl⟩ := List.mem_map.1 hu
  rfl
theorem BRow.nil (w : World) (B : Nat) : BRow w B (.slice none 0 0) [] := World.ownsRow_nil w B _ 1
theorem BRow.form {w : World} {B : Nat} {v : Value} {l : List Int} (h : BRow w B v l) : ∃ a c, v = .slice a l.length c := h.slice.arg.form
theorem BRow.keep {w w' : World} {B : Nat} {v : Value} {l : List Int} (h : BRow w B v l) {W : Nat → Prop} (f : Fr W w w') (hb : ∀ b, v.ownBlock = some b → ¬ W b) : BRow w' B v l := ownsRow_keep h f hb
theorem BRow.keep0 {w w' : World} {B : Nat} {v : Value} {l : List Int} (h : BRow w B v l) (f : Fr No w w') : BRow w' B v l := ownsRow_keep h f (fun _ _ => id)
def GrowTo (w : World) (v v' : Value) : Prop := ∀ k, v'.ownBlock = some k → v.ownBlock = some k ∨ w.heap.size ≤ k
theorem append_bytes (w : World) {B : Nat} {v x : Value} {l m : List Int} (ho : BRow w B v l) (hx : ArgIs w x m.length (m.map byteV)) (hn : l.length + m.length ≤ 1000000) (hB : B ≤ w.heap.size) (ty : TypeId) :
    ∃ v' w', (Builtin.append_ #[48, 48] ty #[v, x]).run Tryd.prog w = .ok v' w' ∧ BRow w' B v' (l ++ m) ∧ Fr (fun j => v.ownBlock = some j) w w' ∧ GrowTo w v v' := by
  have e1 : (l ++ m).length = l.length + m.length := List.length_append
  by_cases hnil : x = .slice none 0 0
  · obtain ⟨a, c, h⟩ := hx.form
    rw [hnil] at h
    injection h with h1 h2 h3
    have hm : m = [] := List.eq_nil_of_length_eq_zero h2.symm
    subst hm
    obtain ⟨v', w', a1, a2, a3, a4⟩ := append_sl (P := Tryd.prog) w B 48 ty 5 1 1 _ undBytes infoByteZ rfl (by decide) v l.length (l.map byteV) ho x 0 [] (.inl ⟨hnil, rfl, rfl⟩) rfl (by simp) (by simp at hn ⊢; omega) (by unfold maxLen; simp at hn; omega) hB
    exact ⟨v', w', a1, by unfold BRow; simpa using a2, a3, a4⟩
  · obtain ⟨v', w', a1, a2, a3, -, a4⟩ := append_own (P := Tryd.prog) w B 48 ty 5 1 1 _ undBytes infoByteZ rfl (by decide) v l.length (l.map byteV) ho x m.length (m.map byteV) hx (by simp) bytes_one (by omega) (by unfold maxLen; omega) hB hnil
    refine ⟨v', w', a1, ?_, (Fr.refl _ w).grown a3 (fun k e => .inr e), a4⟩
    unfold BRow
    rw [List.length_append, List.map_append]
    exact a2
theorem append_byte (w : World) {B : Nat} {v : Value} {l : List Int} {x : Int} (ho : BRow w B v l) (hn : l.length + 1 ≤ 1000000) (hB : B ≤ w.heap.size) (ty : TypeId) :
    ∃ v' w', (Builtin.append_ #[48, 48] ty #[v, .slice (some ⟨w.heap.size, 0, none⟩) 1 1]).run Tryd.prog (w.alloc (.cells #[byteV x] 5)) = .ok v' w' ∧ BRow w' B v' (l ++ [x]) ∧ Fr (fun j => v.ownBlock = some j) w w' ∧ GrowTo w v v' := by
  have hb := new_obj w (.cells #[byteV x] 5)
  obtain ⟨v', w', a1, a2, a3, a4⟩ := append_bytes (w.alloc (.cells #[byteV x] 5)) (ho.keep0 ((Fr.refl No w).alloc _)) (x := .slice (some ⟨w.heap.size, 0, none⟩) 1 1) (m := [x]) (.inl (.inr ⟨w.heap.size, 0, 1, rfl, Nat.le_refl _, by unfold maxLen; omega, fun j u hj => by
      have := range_obj hb j u hj
      exact this, by simp⟩)) hn (by simp; omega) ty
  exact ⟨v', w', a1, a2, ((Fr.refl _ w).alloc _).trans a3 (fun i hi e => e), fun k hk => (a4 k hk).imp id (fun h => by simp at h; omega)⟩
end Go.Proofs.YtmpamcnlineceaaDoor
