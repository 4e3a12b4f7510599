/- LinkApart: the walk. -/
import Derived.Test.YtohcjfnekgnlcaaLinkPicksW
namespace Go.Proofs.Ytohcjfnekgnlcaa
open Go Go.RowKit Go.Maps Go.MapKept

theorem doM_other {m : LM} {d : ActD} (hk : d.kind = 2 ∨ d.kind = 3) : (doM m d).1.op = m.op ∧ ∀ k, k ≠ (d.a, d.b, d.lane) → (doM m d).1.lane k = m.lane k := by
  unfold doM
  rw [if_neg (by omega), if_neg (by omega)]
  by_cases h2 : d.kind = 2
  · rw [if_pos h2]
    unfold pushM
    split
    · split
      · exact ⟨rfl, fun k hk => by simp [hk]⟩
      · exact ⟨rfl, fun k hk => rfl⟩
    · exact ⟨rfl, fun k hk => rfl⟩
  · rw [if_neg h2, if_pos (by omega)]
    unfold takeM
    split
    · split
      · exact ⟨rfl, fun k hk => by simp [hk]⟩
      · exact ⟨rfl, fun k hk => rfl⟩
    · exact ⟨rfl, fun k hk => rfl⟩

theorem key_ne1 {X Y n a b c : Int} (h : (X == a) = false) : (X, Y, n) ≠ (a, b, c) := by simp at h; simp [h]
theorem key_ne2 {X Y n a b c : Int} (h : (Y == b) = false) : (X, Y, n) ≠ (a, b, c) := by simp at h; simp [h]
theorem key_ne3 {X Y n a b c : Int} (h : (n == c) = false) : (X, Y, n) ≠ (a, b, c) := by simp at h; simp [h]
theorem do_st {w0 w : World} {p : Nat} {g : LkG} {m : LM} {N : Nat} (h : St w0 w p g m N) (hN : N ≤ 1000000) (d : ActD) (bv : Value) (hb : ArgIs w bv d.bytes.length (d.bytes.map byteV)) (hl : d.bytes.length ≤ 140737488355328) :
    Calls Try.prog 22 #[.pointer (some ⟨p, 0, none⟩), actV d bv] w fun e w' => ∃ v r, e = .returned (.tuple #[v, .int .i64 r]) ∧ ∃ g', St w0 w' p g' (doM m d).1 (N + 1) ∧ Step w g w' g' := by
  obtain rfl := h.bl
  have hc := do_any w g h.at_ (by have := h.n1; unfold maxLen; omega) (by have := h.n2; unfold maxLen; omega) d bv hb hl
  rw [h.lm] at hc
  refine hc.mono ?_
  rintro e w' ⟨v, rfl, hv1, hv2, g', hw⟩
  exact ⟨v, _, rfl, g', h.step hw, hw.step⟩

theorem cell_of_obj {w : World} {b : Nat} {c : Array Value} {T : TypeId} (h : w.heap[b]? = some (.cells c T (0, 0))) (j : Nat) (u : Value) (hu : c[j]? = some u) : w.cell? ⟨b, j, none⟩ = some u := by simp [World.cell?, h, hu]

set_option maxHeartbeats 4000000 in
theorem apart_any (w : World) (L : List ActD) (s : Value) (d : ActD) (bv : Value) (x y : Nat) (ha : ActsIs w s L) (hb : ArgIs w bv d.bytes.length (d.bytes.map byteV)) (hx : x ≤ 255 ∧ y ≤ 255) (hl : d.bytes.length ≤ 140737488355328) :
    Calls Try.prog 6 #[.agg #[s, .int .i64 d.kind, .int .i64 d.a, .int .i64 d.b, .int .i64 d.lane, .int .i64 d.pick, bv, .int .u8 x, .int .u8 y]] w fun e w' => e = .returned (.bool true) ∧ Fr No w w' := by
  obtain ⟨ba, bc, rfl⟩ := hb.form
  have b0 := new_obj w (.cells #[s, .int .i64 d.kind, .int .i64 d.a, .int .i64 d.b, .int .i64 d.lane, .int .i64 d.pick, .slice ba d.bytes.length bc, .int .u8 x, .int .u8 y] 45)
  have B0 := Lib.hid b0
  have HB := Lib.hid hb
  clear b0 hb
  go_enter Try.func6, Try.ntmps6
  go_wp2_with fail
  refine (alive_any _).mono ?_
  rintro e w1 ⟨rfl, f1⟩
  have c0 : w1.cell? ⟨w.heap.size, 0, none⟩ = some s := f1.cell (cell_of_obj B0.out 0 _ rfl) id
  have c1 : w1.cell? ⟨w.heap.size, 1, none⟩ = some (.int .i64 d.kind) := f1.cell (cell_of_obj B0.out 1 _ rfl) id
  have c2 : w1.cell? ⟨w.heap.size, 2, none⟩ = some (.int .i64 d.a) := f1.cell (cell_of_obj B0.out 2 _ rfl) id
  have c3 : w1.cell? ⟨w.heap.size, 3, none⟩ = some (.int .i64 d.b) := f1.cell (cell_of_obj B0.out 3 _ rfl) id
  have c4 : w1.cell? ⟨w.heap.size, 4, none⟩ = some (.int .i64 d.lane) := f1.cell (cell_of_obj B0.out 4 _ rfl) id
  have c5 : w1.cell? ⟨w.heap.size, 5, none⟩ = some (.int .i64 d.pick) := f1.cell (cell_of_obj B0.out 5 _ rfl) id
  have c6 : w1.cell? ⟨w.heap.size, 6, none⟩ = some (.slice ba d.bytes.length bc) := f1.cell (cell_of_obj B0.out 6 _ rfl) id
  have c7 : w1.cell? ⟨w.heap.size, 7, none⟩ = some (.int .u8 x) := f1.cell (cell_of_obj B0.out 7 _ rfl) id
  have c8 : w1.cell? ⟨w.heap.size, 8, none⟩ = some (.int .u8 y) := f1.cell (cell_of_obj B0.out 8 _ rfl) id
  have hs1 : w.heap.size < w1.heap.size := by have := f1.size; simp at this; omega
  have f1 := ((Fr.refl No w).alloc _).trans0 f1
  clear B0
  go_wp2
  refine wp_region_lexL [false, false, false, false, false, false, false, false, true, false, true, false, false] (fun w' => w'.cell? ⟨w.heap.size, 0, none⟩ = some s ∧ w'.cell? ⟨w.heap.size, 1, none⟩ = some (.int .i64 d.kind) ∧ w'.cell? ⟨w.heap.size, 2, none⟩ = some (.int .i64 d.a) ∧ w'.cell? ⟨w.heap.size, 3, none⟩ = some (.int .i64 d.b) ∧ w'.cell? ⟨w.heap.size, 4, none⟩ = some (.int .i64 d.lane) ∧ w'.cell? ⟨w.heap.size, 5, none⟩ = some (.int .i64 d.pick) ∧ w'.cell? ⟨w.heap.size, 6, none⟩ = some (.slice ba d.bytes.length bc) ∧ w'.cell? ⟨w.heap.size, 7, none⟩ = some (.int .u8 x) ∧ w'.cell? ⟨w.heap.size, 8, none⟩ = some (.int .u8 y)) (by kernel_rfl) (by kernel_rfl) ?_ (fun K hK => ?_)
  · exact ⟨c0, c1, c2, c3, c4, c5, c6, c7, c8⟩
  repeat (first | ((first | with_reducible refine lexL_read ?_ | ((with_reducible refine lexL_readG ?_ ?_); (focus rfl))); apply Exists.intro; refine ⟨fun w' hS => ?_, ?_⟩; (focus (obtain ⟨s0, s1, s2, s3, s4, s5, s6, s7, s8⟩ := hS; go_simp; (try with_reducible rfl); done)); try simp only [Act.put, List.setIfInBounds_toArray, List.set_cons_zero, List.set_cons_succ]) | ((first | ((with_reducible refine lexL_skip (c := false) ?_ ?_ ?_); (focus rfl); (focus rfl)) | ((with_reducible refine lexL_skip (c := true) ?_ ?_ ?_); (focus rfl); (focus rfl)) | ((with_reducible refine lexL_skipU ?_ ?_); (focus rfl))); try simp only [Act.put, List.setIfInBounds_toArray, List.set_cons_zero, List.set_cons_succ]))
  (first | with_reducible refine lexL_eff (fun K' hK' => ?_) | ((with_reducible refine lexL_effG ?_ (fun K' hK' => ?_)); (focus rfl)))
  go_simp
  refine hK'.out _ _ ?_ (fun hS => ?_)
  · go_simp
  try simp only [Act.put, List.setIfInBounds_toArray, List.set_cons_zero, List.set_cons_succ]
  repeat (first | ((first | with_reducible refine lexL_read ?_ | ((with_reducible refine lexL_readG ?_ ?_); (focus rfl))); apply Exists.intro; refine ⟨fun w' hS => ?_, ?_⟩; (focus (obtain ⟨s0, s1, s2, s3, s4, s5, s6, s7, s8⟩ := hS; go_simp; (try with_reducible rfl); done)); try simp only [Act.put, List.setIfInBounds_toArray, List.set_cons_zero, List.set_cons_succ]) | ((first | ((with_reducible refine lexL_skip (c := false) ?_ ?_ ?_); (focus rfl); (focus rfl)) | ((with_reducible refine lexL_skip (c := true) ?_ ?_ ?_); (focus rfl); (focus rfl)) | ((with_reducible refine lexL_skipU ?_ ?_); (focus rfl))); try simp only [Act.put, List.setIfInBounds_toArray, List.set_cons_zero, List.set_cons_succ]))
  (first | with_reducible refine lexL_eff (fun K' hK' => ?_) | ((with_reducible refine lexL_effG ?_ (fun K' hK' => ?_)); (focus rfl)))
  go_simp
  have S4 : Fr No w1 (w1.alloc (.cells #[.int .i64 d.kind, .int .i64 d.a, .int .i64 d.b, .int .i64 d.lane, .int .i64 d.pick, .slice ba d.bytes.length bc] 40)).drew := by (repeat (first | with_reducible exact Fr.refl _ _ | with_reducible assumption | with_reducible refine Fr.drew ?_ | with_reducible refine Fr.drewN ?_ _ | with_reducible refine Fr.alloc ?_ _ | with_reducible refine Fr.setCell ?_ _ (.inl (by simp <;> omega)) _))
  refine hK'.out _ _ ?_ (fun hS => ?_)
  · exact ⟨S4.cell c0 id, S4.cell c1 id, S4.cell c2 id, S4.cell c3 id, S4.cell c4 id, S4.cell c5 id, S4.cell c6 id, S4.cell c7 id, S4.cell c8 id⟩
  try simp only [Act.put, List.setIfInBounds_toArray, List.set_cons_zero, List.set_cons_succ]
  repeat (first | ((first | with_reducible refine lexL_read ?_ | ((with_reducible refine lexL_readG ?_ ?_); (focus rfl))); apply Exists.intro; refine ⟨fun w' hS => ?_, ?_⟩; (focus (obtain ⟨s0, s1, s2, s3, s4, s5, s6, s7, s8⟩ := hS; go_simp; (try with_reducible rfl); done)); try simp only [Act.put, List.setIfInBounds_toArray, List.set_cons_zero, List.set_cons_succ]) | ((first | ((with_reducible refine lexL_skip (c := false) ?_ ?_ ?_); (focus rfl); (focus rfl)) | ((with_reducible refine lexL_skip (c := true) ?_ ?_ ?_); (focus rfl); (focus rfl)) | ((with_reducible refine lexL_skipU ?_ ?_); (focus rfl))); try simp only [Act.put, List.setIfInBounds_toArray, List.set_cons_zero, List.set_cons_succ]))
  refine lexL_nil (hK.out _ _ ?_)
  have A4 := Lib.hid (show ActAt (w1.alloc (.cells #[.int .i64 d.kind, .int .i64 d.a, .int .i64 d.b, .int .i64 d.lane, .int .i64 d.pick, .slice ba d.bytes.length bc] 40)).drew w1.heap.size d (.slice ba d.bytes.length bc) from new_obj w1 _)
  have f4 := f1.trans0 S4
  have hb4 : w1.heap.size < ((w1.alloc (.cells #[.int .i64 d.kind, .int .i64 d.a, .int .i64 d.b, .int .i64 d.lane, .int .i64 d.pick, .slice ba d.bytes.length bc] 40)).drew).heap.size := obj_lt A4.out
  clear c0 c1 c2 c3 c4 c5 c6 c7 c8 f1 S4
  generalize ((w1.alloc (.cells #[.int .i64 d.kind, .int .i64 d.a, .int .i64 d.b, .int .i64 d.lane, .int .i64 d.pick, .slice ba d.bytes.length bc] 40)).drew) = w4 at *
  go_wp2_with fail
  refine (great_any w4 s L (ha.keep f4 (fun _ _ => id))).mono ?_
  rintro e w5 ⟨rfl, f5⟩
  have A5 := Lib.hid (A4.out.keep f5)
  obtain ⟨e0, e1, e2, e3, e4, e5⟩ := A5.out.cells
  have hb5 := obj_lt A5.out
  have f5 := f4.trans0 f5
  clear A4 f4 hb4
  cases hg : greatB L with
  | true =>
    go_wp2
    go_ret
    exact ⟨rfl, f5⟩
  | false =>
    by_cases hk : d.kind = 2 ∨ d.kind = 3
    · have hdk : (d.kind != 2) = false ∨ ((d.kind != 2) = true ∧ (d.kind != 3) = false) := by
        rcases hk with h | h <;> simp [h]
      have hdo := fun m => doM_other (m := m) hk
      have HDO := Lib.hid hdo
      clear hdo hk
      have MAIN : True := trivial
      rcases hdk with k1 | ⟨k1, k2⟩
      · skip
        go_wp2_with fail
        refine (grown_st w w5 f5 s L (ha.keep f5 (fun _ _ => id)) hg).mono ?_
        rintro e w6 ⟨p1, g1, rfl, st1, f6, hW1, hC1⟩
        go_wp2_with fail
        refine (grown_st w w6 (f5.trans0 f6) s L (ha.keep (f5.trans0 f6) (fun _ _ => id)) hg).mono ?_
        rintro e w7 ⟨p2, g2, rfl, st2, f7, hW2, hC2⟩
        have A7 := Lib.hid ((A5.out.keep f6).keep f7)
        have hmb := LMb.grown hg
        have f57 := (f5.trans0 f6).trans0 f7
        have st1' := st1.fr0 f7
        have n1 : ∀ k, g2.W k → ¬ g1.W k := fun k h2 h1 => by
          have := hW2 k h2
          have := st1.at_.wlt k h1
          omega
        have n2 : ∀ k, g2.C k → ¬ g1.W k := fun k h2 h1 => by
          have := hC2 k h2
          have := st1.at_.wlt k h1
          omega
        have nB : ¬ g1.W w1.heap.size := fun h => by have := hW1 _ h; omega
        have hd := do_st st1' (by omega) d (.slice ba d.bytes.length bc) (HB.out.keep f57) hl
        unfold actV at hd
        generalize runM emptyM L = m at *
        have HDO := HDO.out m
        have DO := Lib.hid HDO
        have N1 := Lib.hid n1
        have N2 := Lib.hid n2
        have NB := Lib.hid nB
        have HMB := Lib.hid hmb
        have HMB8 := Lib.hid (show LMb 140737488355328 (doM m d).1 from LMb.doM (fun k bs hb => Nat.le_trans (hmb k bs hb) (by omega)) d hl)
        have ST2 := Lib.hid st2
        have W1 := Lib.hid st1.W
        obtain ⟨e0, e1, e2, e3, e4, e5⟩ := A7.out.cells
        clear hg ha hmb f57 st1' st1 hW1 hC1 hW2 hC2 n1 n2 nB HDO f5 f6 f7 A5 st2
        go_wp2_with fail
        refine hd.mono ?_
        rintro e w8 ⟨v8, r8, rfl, g8, st8, sp8⟩
        have st2 := ST2.out.frV sp8.fr N1.out N2.out W1.out
        have A8 := Lib.hid (A7.out.keepV sp8.fr NB.out)
        clear ST2
        have ST8 := Lib.hid st8
        have ST2 := Lib.hid st2
        clear st8 st2 sp8 hd N1 N2 NB W1 A7
        obtain ⟨e0, e1, e2, e3, e4, e5⟩ := A8.out.cells
        have q1 : Int.tmod (x : Int) 64 = ((x % 64 : Nat) : Int) := rfl
        have q2 : Int.tmod (y : Int) 64 = ((y % 64 : Nat) : Int) := rfl
        generalize ((x % 64 : Nat) : Int) = X at *
        generalize ((y % 64 : Nat) : Int) = Y at *
        go_wp2_with fail
        go_loopw [47] (fun i wr => ∃ n : Nat, n ≤ 2 ∧ i = .int .i64 n ∧ Fr No w8 wr) (fun i _ => 2 - (intOf i).toNat)
        case atStart => exact ⟨0, by omega, rfl, Fr.refl _ _⟩
        case round =>
          obtain ⟨n, hn, rfl, fr⟩ := hrel
          have A9 := Lib.hid (A8.out.keep fr)
          obtain ⟨e0, e1, e2, e3, e4, e5⟩ := A9.out.cells
          by_cases hlt : n < 2
          · have i1 : (n : Int) < 2 := by omega
            cases hc1 : (X == d.a) with
            | false =>
              have hl1 := lane_st (ST8.out.fr0 fr) X Y n (fun bs hbs => Nat.le_trans (HMB8.out _ bs hbs) (by omega))
              rw [DO.out.2 (X, Y, n) (key_ne1 hc1)] at hl1
              go_wp2_with fail
              refine hl1.mono ?_
              rintro e w9 ⟨v9, rfl, r9, f9⟩
              have fr9 := fr.trans0 f9
              have hl2 := lane_st (ST2.out.fr0 fr9) X Y n (fun bs hbs => Nat.le_trans (HMB.out _ bs hbs) (by omega))
              have R9 := Lib.hid r9
              obtain ⟨a9, c9, rfl⟩ := r9.form
              clear hl1 r9 fr f9
              go_wp2_with fail
              refine hl2.mono ?_
              rintro e w10 ⟨v10, rfl, r10, f10⟩
              have hs := sameAll24_any w10 _ _ _ _ _ _ (R9.out.keep f10 (fun _ _ _ => id)) r10
              obtain ⟨a10, c10, rfl⟩ := r10.form
              have fr10 := fr9.trans0 f10
              clear hl2 r10 R9 fr9 f10
              go_wp2_with fail
              refine hs.mono ?_
              rintro e w11 ⟨rfl, f11⟩
              rw [show decide (m.lane (X, Y, n) = m.lane (X, Y, n)) = true by simp]
              have fr11 := fr10.trans0 f11
              clear hs fr10 f11
              go_wp2
              go_roundw
              case rel => exact ⟨n + 1, by omega, by go_num, fr11⟩
              case measure => simp [intOf]; omega
            | true =>
              cases hc2 : (Y == d.b) with
              | false =>
                have hl1 := lane_st (ST8.out.fr0 fr) X Y n (fun bs hbs => Nat.le_trans (HMB8.out _ bs hbs) (by omega))
                rw [DO.out.2 (X, Y, n) (key_ne2 hc2)] at hl1
                go_wp2_with fail
                refine hl1.mono ?_
                rintro e w9 ⟨v9, rfl, r9, f9⟩
                have fr9 := fr.trans0 f9
                have hl2 := lane_st (ST2.out.fr0 fr9) X Y n (fun bs hbs => Nat.le_trans (HMB.out _ bs hbs) (by omega))
                have R9 := Lib.hid r9
                obtain ⟨a9, c9, rfl⟩ := r9.form
                clear hl1 r9 fr f9
                go_wp2_with fail
                refine hl2.mono ?_
                rintro e w10 ⟨v10, rfl, r10, f10⟩
                have hs := sameAll24_any w10 _ _ _ _ _ _ (R9.out.keep f10 (fun _ _ _ => id)) r10
                obtain ⟨a10, c10, rfl⟩ := r10.form
                have fr10 := fr9.trans0 f10
                clear hl2 r10 R9 fr9 f10
                go_wp2_with fail
                refine hs.mono ?_
                rintro e w11 ⟨rfl, f11⟩
                rw [show decide (m.lane (X, Y, n) = m.lane (X, Y, n)) = true by simp]
                have fr11 := fr10.trans0 f11
                clear hs fr10 f11
                go_wp2
                go_roundw
                case rel => exact ⟨n + 1, by omega, by go_num, fr11⟩
                case measure => simp [intOf]; omega
              | true =>
                cases hc3 : ((n : Int) == d.lane) with
                | false =>
                  have hl1 := lane_st (ST8.out.fr0 fr) X Y n (fun bs hbs => Nat.le_trans (HMB8.out _ bs hbs) (by omega))
                  rw [DO.out.2 (X, Y, n) (key_ne3 hc3)] at hl1
                  go_wp2_with fail
                  refine hl1.mono ?_
                  rintro e w9 ⟨v9, rfl, r9, f9⟩
                  have fr9 := fr.trans0 f9
                  have hl2 := lane_st (ST2.out.fr0 fr9) X Y n (fun bs hbs => Nat.le_trans (HMB.out _ bs hbs) (by omega))
                  have R9 := Lib.hid r9
                  obtain ⟨a9, c9, rfl⟩ := r9.form
                  clear hl1 r9 fr f9
                  go_wp2_with fail
                  refine hl2.mono ?_
                  rintro e w10 ⟨v10, rfl, r10, f10⟩
                  have hs := sameAll24_any w10 _ _ _ _ _ _ (R9.out.keep f10 (fun _ _ _ => id)) r10
                  obtain ⟨a10, c10, rfl⟩ := r10.form
                  have fr10 := fr9.trans0 f10
                  clear hl2 r10 R9 fr9 f10
                  go_wp2_with fail
                  refine hs.mono ?_
                  rintro e w11 ⟨rfl, f11⟩
                  rw [show decide (m.lane (X, Y, n) = m.lane (X, Y, n)) = true by simp]
                  have fr11 := fr10.trans0 f11
                  clear hs fr10 f11
                  go_wp2
                  go_roundw
                  case rel => exact ⟨n + 1, by omega, by go_num, fr11⟩
                  case measure => simp [intOf]; omega
                | true =>
                  go_wp2
                  go_roundw
                  case rel => exact ⟨n + 1, by omega, by go_num, fr⟩
                  case measure => simp [intOf]; omega
          · have : n = 2 := by omega
            subst this
            have h1 := has_st (ST8.out.fr0 fr) X Y
            rw [DO.out.1] at h1
            go_wp2_with fail
            refine h1.mono ?_
            rintro e w9 ⟨rfl, f9⟩
            have fr9 := fr.trans0 f9
            have h2 := has_st (ST2.out.fr0 fr9) X Y
            clear h1 fr f9
            go_wp2_with fail
            refine h2.mono ?_
            rintro e w10 ⟨rfl, f10⟩
            have FIN := ST2.out.fr.trans0 (fr9.trans0 f10)
            have eq : (hasB m.op X Y == hasB m.op X Y) = true := by simp
            clear h2
            go_wp2
            go_ret
            exact ⟨rfl, FIN⟩
      · skip
        go_wp2_with fail
        refine (grown_st w w5 f5 s L (ha.keep f5 (fun _ _ => id)) hg).mono ?_
        rintro e w6 ⟨p1, g1, rfl, st1, f6, hW1, hC1⟩
        go_wp2_with fail
        refine (grown_st w w6 (f5.trans0 f6) s L (ha.keep (f5.trans0 f6) (fun _ _ => id)) hg).mono ?_
        rintro e w7 ⟨p2, g2, rfl, st2, f7, hW2, hC2⟩
        have A7 := Lib.hid ((A5.out.keep f6).keep f7)
        have hmb := LMb.grown hg
        have f57 := (f5.trans0 f6).trans0 f7
        have st1' := st1.fr0 f7
        have n1 : ∀ k, g2.W k → ¬ g1.W k := fun k h2 h1 => by
          have := hW2 k h2
          have := st1.at_.wlt k h1
          omega
        have n2 : ∀ k, g2.C k → ¬ g1.W k := fun k h2 h1 => by
          have := hC2 k h2
          have := st1.at_.wlt k h1
          omega
        have nB : ¬ g1.W w1.heap.size := fun h => by have := hW1 _ h; omega
        have hd := do_st st1' (by omega) d (.slice ba d.bytes.length bc) (HB.out.keep f57) hl
        unfold actV at hd
        generalize runM emptyM L = m at *
        have HDO := HDO.out m
        have DO := Lib.hid HDO
        have N1 := Lib.hid n1
        have N2 := Lib.hid n2
        have NB := Lib.hid nB
        have HMB := Lib.hid hmb
        have HMB8 := Lib.hid (show LMb 140737488355328 (doM m d).1 from LMb.doM (fun k bs hb => Nat.le_trans (hmb k bs hb) (by omega)) d hl)
        have ST2 := Lib.hid st2
        have W1 := Lib.hid st1.W
        obtain ⟨e0, e1, e2, e3, e4, e5⟩ := A7.out.cells
        clear hg ha hmb f57 st1' st1 hW1 hC1 hW2 hC2 n1 n2 nB HDO f5 f6 f7 A5 st2
        go_wp2_with fail
        refine hd.mono ?_
        rintro e w8 ⟨v8, r8, rfl, g8, st8, sp8⟩
        have st2 := ST2.out.frV sp8.fr N1.out N2.out W1.out
        have A8 := Lib.hid (A7.out.keepV sp8.fr NB.out)
        clear ST2
        have ST8 := Lib.hid st8
        have ST2 := Lib.hid st2
        clear st8 st2 sp8 hd N1 N2 NB W1 A7
        obtain ⟨e0, e1, e2, e3, e4, e5⟩ := A8.out.cells
        have q1 : Int.tmod (x : Int) 64 = ((x % 64 : Nat) : Int) := rfl
        have q2 : Int.tmod (y : Int) 64 = ((y % 64 : Nat) : Int) := rfl
        generalize ((x % 64 : Nat) : Int) = X at *
        generalize ((y % 64 : Nat) : Int) = Y at *
        go_wp2_with fail
        go_loopw [47] (fun i wr => ∃ n : Nat, n ≤ 2 ∧ i = .int .i64 n ∧ Fr No w8 wr) (fun i _ => 2 - (intOf i).toNat)
        case atStart => exact ⟨0, by omega, rfl, Fr.refl _ _⟩
        case round =>
          obtain ⟨n, hn, rfl, fr⟩ := hrel
          have A9 := Lib.hid (A8.out.keep fr)
          obtain ⟨e0, e1, e2, e3, e4, e5⟩ := A9.out.cells
          by_cases hlt : n < 2
          · have i1 : (n : Int) < 2 := by omega
            cases hc1 : (X == d.a) with
            | false =>
              have hl1 := lane_st (ST8.out.fr0 fr) X Y n (fun bs hbs => Nat.le_trans (HMB8.out _ bs hbs) (by omega))
              rw [DO.out.2 (X, Y, n) (key_ne1 hc1)] at hl1
              go_wp2_with fail
              refine hl1.mono ?_
              rintro e w9 ⟨v9, rfl, r9, f9⟩
              have fr9 := fr.trans0 f9
              have hl2 := lane_st (ST2.out.fr0 fr9) X Y n (fun bs hbs => Nat.le_trans (HMB.out _ bs hbs) (by omega))
              have R9 := Lib.hid r9
              obtain ⟨a9, c9, rfl⟩ := r9.form
              clear hl1 r9 fr f9
              go_wp2_with fail
              refine hl2.mono ?_
              rintro e w10 ⟨v10, rfl, r10, f10⟩
              have hs := sameAll24_any w10 _ _ _ _ _ _ (R9.out.keep f10 (fun _ _ _ => id)) r10
              obtain ⟨a10, c10, rfl⟩ := r10.form
              have fr10 := fr9.trans0 f10
              clear hl2 r10 R9 fr9 f10
              go_wp2_with fail
              refine hs.mono ?_
              rintro e w11 ⟨rfl, f11⟩
              rw [show decide (m.lane (X, Y, n) = m.lane (X, Y, n)) = true by simp]
              have fr11 := fr10.trans0 f11
              clear hs fr10 f11
              go_wp2
              go_roundw
              case rel => exact ⟨n + 1, by omega, by go_num, fr11⟩
              case measure => simp [intOf]; omega
            | true =>
              cases hc2 : (Y == d.b) with
              | false =>
                have hl1 := lane_st (ST8.out.fr0 fr) X Y n (fun bs hbs => Nat.le_trans (HMB8.out _ bs hbs) (by omega))
                rw [DO.out.2 (X, Y, n) (key_ne2 hc2)] at hl1
                go_wp2_with fail
                refine hl1.mono ?_
                rintro e w9 ⟨v9, rfl, r9, f9⟩
                have fr9 := fr.trans0 f9
                have hl2 := lane_st (ST2.out.fr0 fr9) X Y n (fun bs hbs => Nat.le_trans (HMB.out _ bs hbs) (by omega))
                have R9 := Lib.hid r9
                obtain ⟨a9, c9, rfl⟩ := r9.form
                clear hl1 r9 fr f9
                go_wp2_with fail
                refine hl2.mono ?_
                rintro e w10 ⟨v10, rfl, r10, f10⟩
                have hs := sameAll24_any w10 _ _ _ _ _ _ (R9.out.keep f10 (fun _ _ _ => id)) r10
                obtain ⟨a10, c10, rfl⟩ := r10.form
                have fr10 := fr9.trans0 f10
                clear hl2 r10 R9 fr9 f10
                go_wp2_with fail
                refine hs.mono ?_
                rintro e w11 ⟨rfl, f11⟩
                rw [show decide (m.lane (X, Y, n) = m.lane (X, Y, n)) = true by simp]
                have fr11 := fr10.trans0 f11
                clear hs fr10 f11
                go_wp2
                go_roundw
                case rel => exact ⟨n + 1, by omega, by go_num, fr11⟩
                case measure => simp [intOf]; omega
              | true =>
                cases hc3 : ((n : Int) == d.lane) with
                | false =>
                  have hl1 := lane_st (ST8.out.fr0 fr) X Y n (fun bs hbs => Nat.le_trans (HMB8.out _ bs hbs) (by omega))
                  rw [DO.out.2 (X, Y, n) (key_ne3 hc3)] at hl1
                  go_wp2_with fail
                  refine hl1.mono ?_
                  rintro e w9 ⟨v9, rfl, r9, f9⟩
                  have fr9 := fr.trans0 f9
                  have hl2 := lane_st (ST2.out.fr0 fr9) X Y n (fun bs hbs => Nat.le_trans (HMB.out _ bs hbs) (by omega))
                  have R9 := Lib.hid r9
                  obtain ⟨a9, c9, rfl⟩ := r9.form
                  clear hl1 r9 fr f9
                  go_wp2_with fail
                  refine hl2.mono ?_
                  rintro e w10 ⟨v10, rfl, r10, f10⟩
                  have hs := sameAll24_any w10 _ _ _ _ _ _ (R9.out.keep f10 (fun _ _ _ => id)) r10
                  obtain ⟨a10, c10, rfl⟩ := r10.form
                  have fr10 := fr9.trans0 f10
                  clear hl2 r10 R9 fr9 f10
                  go_wp2_with fail
                  refine hs.mono ?_
                  rintro e w11 ⟨rfl, f11⟩
                  rw [show decide (m.lane (X, Y, n) = m.lane (X, Y, n)) = true by simp]
                  have fr11 := fr10.trans0 f11
                  clear hs fr10 f11
                  go_wp2
                  go_roundw
                  case rel => exact ⟨n + 1, by omega, by go_num, fr11⟩
                  case measure => simp [intOf]; omega
                | true =>
                  go_wp2
                  go_roundw
                  case rel => exact ⟨n + 1, by omega, by go_num, fr⟩
                  case measure => simp [intOf]; omega
          · have : n = 2 := by omega
            subst this
            have h1 := has_st (ST8.out.fr0 fr) X Y
            rw [DO.out.1] at h1
            go_wp2_with fail
            refine h1.mono ?_
            rintro e w9 ⟨rfl, f9⟩
            have fr9 := fr.trans0 f9
            have h2 := has_st (ST2.out.fr0 fr9) X Y
            clear h1 fr f9
            go_wp2_with fail
            refine h2.mono ?_
            rintro e w10 ⟨rfl, f10⟩
            have FIN := ST2.out.fr.trans0 (fr9.trans0 f10)
            have eq : (hasB m.op X Y == hasB m.op X Y) = true := by simp
            clear h2
            go_wp2
            go_ret
            exact ⟨rfl, FIN⟩
    · have k1 : (d.kind != 2) = true := by simp; omega
      have k2 : (d.kind != 3) = true := by simp; omega
      go_wp2
      go_ret
      exact ⟨rfl, f5⟩
end Go.Proofs.Ytohcjfnekgnlcaa
