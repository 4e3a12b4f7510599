/- LinkBoth: the walk. -/
import Derived.Test.YtohcjfnekgnlcaaLinkY
import Derived.Test.YtohcjfnekgnlcaaLinkFullW
namespace Go.Proofs.Ytohcjfnekgnlcaa
open Go Go.RowKit Go.Maps Go.MapKept

set_option maxHeartbeats 4000000 in
theorem both_any (w : World) (va : Value) (L : List ActD) (a b : Int) (ha : ActsIs w va L) :
    Calls Try.prog 7 #[va, .int .i64 a, .int .i64 b] w fun e w' => e = .returned (.bool true) ∧ Fr No w w' := by
  go_enter Try.func7, Try.ntmps7
  go_wp2_with fail
  refine (alive_any w).mono ?_
  rintro e w1 ⟨rfl, f1⟩
  go_wp2_with fail
  refine (great_any w1 va L (ha.keep f1 (fun _ _ => id))).mono ?_
  rintro e w2 ⟨rfl, f2⟩
  have f12 := f1.trans0 f2
  cases hg : greatB L with
  | true =>
    go_wp2
    go_ret
    exact ⟨rfl, f12⟩
  | false =>
    go_wp2_with fail
    refine (grown_st w w2 f12 va L (ha.keep f12 (fun _ _ => id)) hg).mono ?_
    rintro e w3 ⟨p, g3, rfl, st3, -, -, -⟩
    generalize runM emptyM L = m at *
    clear ha hg f1 f2 f12
    go_wp2_with fail
    refine (has_st st3 a b).mono ?_
    rintro e w4 ⟨rfl, f4⟩
    go_wp2_with fail
    refine (has_st (st3.fr0 f4) b a).mono ?_
    rintro e w5 ⟨rfl, f5⟩
    rw [hasB_symm m.op b a]
    have st5 := (st3.fr0 f4).fr0 f5
    clear st3 f4 f5
    have nb : (hasB m.op a b != hasB m.op a b) = false := by simp
    go_wp2_with fail
    refine (ends_st st5 a).mono ?_
    rintro e w6 ⟨ve, rfl, hown, f6⟩
    have st6 := st5.fr0 f6
    clear st5 f6 nb
    obtain ⟨ea, ec, rfl⟩ := hown.slice.arg.form
    have hE : ∀ x, x ∈ endsOf m.op a 64 ↔ hasB m.op a x = true := fun x => mem_ends
    have hE64 := endsOf_length m.op a 64
    have HOWN := Lib.hid hown.slice
    clear hown
    generalize endsOf m.op a 64 = E at *
    go_wp2_with fail
    go_loopw [8, 32] (fun s i wr => ∃ n : Nat, n ≤ E.length ∧ i = .int .i64 n ∧ s = .bool (decide (b ∈ E.take n)) ∧ Fr No w6 wr) (fun _ i _ => E.length - (intOf i).toNat)
    case atStart => exact ⟨0, Nat.zero_le _, rfl, by simp, Fr.refl _ _⟩
    case round =>
      obtain ⟨n, hn, rfl, rfl, fr⟩ := hrel
      by_cases hlt : n < E.length
      · have i1 : (n : Int) < (E.length : Int) := by omega
        have hx : E[n]? = some E[n] := List.getElem?_eq_getElem hlt
        obtain ⟨eb, eo, rfl, hc, -⟩ := slice_at (HOWN.out.keep fr (fun _ _ => id)) (j := n) (u := intV E[n]) (by rw [List.getElem?_map, hx]; rfl)
        have htk : E.take (n + 1) = E.take n ++ [E[n]] := by rw [List.take_add_one, hx]; rfl
        have hb := (hE E[n]).1 (List.getElem_mem hlt)
        have TK := Lib.hid htk
        clear htk hx
        generalize E[n] = x at *
        have hv := (hasB_vld hb).1
        unfold vld at hv
        obtain ⟨v1, v2, v3, v4, v5⟩ := hv
        have j1 : (x == a) = false := by simp; omega
        have j2 : decide (x < 0) = false := decide_eq_false (by omega)
        have j3 : decide ((64 : Int) ≤ x) = false := decide_eq_false (by omega)
        have hh := has_st (st6.fr0 fr) a x
        rw [hb] at hh
        have HH := Lib.hid hh
        have ST := Lib.hid st6
        unfold intV at hc
        clear hh st6 hb v1 v2 v3 v4 v5
        cases hI : decide (b ∈ E.take n) with
        | true =>
          go_wp2_with fail
          refine HH.out.mono ?_
          rintro e w7 ⟨rfl, f7⟩
          go_wp2
          go_roundw
          case rel => exact ⟨n + 1, by omega, by go_num, by rw [TK.out]; simp at hI; simp [hI], fr.trans0 f7⟩
          case measure => simp [intOf]; omega
        | false =>
          cases hxb : (x == b) with
          | true =>
            go_wp2_with fail
            refine HH.out.mono ?_
            rintro e w7 ⟨rfl, f7⟩
            go_wp2
            go_roundw
            case rel => exact ⟨n + 1, by omega, by go_num, by rw [TK.out]; simp at hxb; simp [hxb], fr.trans0 f7⟩
            case measure => simp [intOf]; omega
          | false =>
            go_wp2_with fail
            refine HH.out.mono ?_
            rintro e w7 ⟨rfl, f7⟩
            go_wp2
            go_roundw
            case rel => exact ⟨n + 1, by omega, by go_num, by rw [TK.out]; simp at hxb hI; simp [hI, Ne.symm hxb], fr.trans0 f7⟩
            case measure => simp [intOf]; omega
      · have : n = E.length := by omega
        subst this
        rw [List.take_length, show decide (b ∈ E) = hasB m.op a b by
          have := hE b
          cases h : hasB m.op a b <;> simp [h] at this ⊢ <;> exact this]
        have st7 := st6.fr0 fr
        clear HOWN hE st6 fr
        cases hB : hasB m.op a b with
        | false =>
          have hh := has_st st7 a b
          rw [hB] at hh
          go_wp2_with fail
          refine hh.mono ?_
          rintro e w8 ⟨rfl, f8⟩
          have st8 := st7.fr0 f8
          clear st7 hh f8
          rcases both_out hB with hc | ⟨hc, m', ho, hb'⟩
          · go_wp2_with fail
            refine (close_st st8 a b hc).mono ?_
            rintro e w9 ⟨rfl, g9, st9, -⟩
            have FIN := st9.fr
            clear st8 st9
            go_wp2
            go_ret
            exact ⟨rfl, FIN⟩
          · go_wp2_with fail
            refine (close_st st8 a b hc).mono ?_
            rintro e w9 ⟨rfl, g9, st9, -⟩
            clear st8
            go_wp2_with fail
            refine (open_st st9 (by omega) b a ho).mono ?_
            rintro e w10 ⟨rfl, g10, st10, -⟩
            have hh := has_st st10 a b
            rw [hb'] at hh
            have FIN0 := st10.fr
            clear st9 st10 hb' ho hc hB
            go_wp2_with fail
            refine hh.mono ?_
            rintro e w11 ⟨rfl, f11⟩
            have FIN := FIN0.trans0 f11
            go_wp2
            go_ret
            exact ⟨rfl, FIN⟩
        | true =>
          have hh := has_st st7 a b
          rw [hB] at hh
          obtain ⟨ho, m1, m2, hc, hb1, hp, ho2, hl2⟩ := both_in hB
          have HL := Lib.hid hl2
          clear hl2 hB
          go_wp2_with fail
          refine hh.mono ?_
          rintro e w8 ⟨rfl, f8⟩
          have st8 := st7.fr0 f8
          clear st7 hh f8
          go_wp2_with fail
          refine (open_st st8 (by omega) a b ho).mono ?_
          rintro e w9 ⟨rfl, g9, st9, -⟩
          clear st8
          go_wp2_with fail
          refine (close_st st9 b a hc).mono ?_
          rintro e w10 ⟨rfl, g10, st10, -⟩
          clear st9
          have hh := has_st st10 a b
          rw [hb1] at hh
          go_wp2_with fail
          refine hh.mono ?_
          rintro e w11 ⟨rfl, f11⟩
          have st11 := st10.fr0 f11
          clear st10 f11 hh
          go_wp2_with fail
          refine (push_st st11 (by omega) a b 0 _ [] (nilBytes _).arg (by simp) hp).mono ?_
          rintro e w12 ⟨rfl, g12, st12, -⟩
          clear st11
          go_wp2_with fail
          refine (open_st st12 (by omega) a b ho2).mono ?_
          rintro e w13 ⟨rfl, g13, st13, -⟩
          clear st12
          go_wp2_with fail
          go_loopw [124] (fun i wr => ∃ n : Nat, n ≤ 2 ∧ i = .int .i64 n ∧ Fr No w13 wr) (fun i _ => 2 - (intOf i).toNat)
          case atStart => exact ⟨0, by omega, rfl, Fr.refl _ _⟩
          case round =>
            obtain ⟨n, hn, rfl, fr⟩ := hrel
            by_cases hlt : n < 2
            · have i1 : (n : Int) < 2 := by omega
              obtain ⟨q1, q2⟩ := HL.out n (by omega)
              have sta := st13.fr0 fr
              have hl1 := lane_st sta a b n (by rw [q1]; simp)
              rw [q1] at hl1
              go_wp2_with fail
              refine hl1.mono ?_
              rintro e w14 ⟨v14, rfl, r14, f14⟩
              obtain ⟨a14, c14, rfl⟩ := r14.form
              have hl2 := lane_st (sta.fr0 f14) b a n (by rw [q2]; simp)
              rw [q2] at hl2
              clear hl1 r14 q1 q2 sta
              go_wp2_with fail
              refine hl2.mono ?_
              rintro e w15 ⟨v15, rfl, r15, f15⟩
              obtain ⟨a15, c15, rfl⟩ := r15.form
              clear hl2 r15
              go_wp2
              go_roundw
              case rel => exact ⟨n + 1, by omega, by go_num, (fr.trans0 f14).trans0 f15⟩
              case measure => simp [intOf]; omega
            · have : n = 2 := by omega
              subst this
              have FIN := st13.fr.trans0 fr
              clear st13 fr
              go_wp2
              go_ret
              exact ⟨rfl, FIN⟩
end Go.Proofs.Ytohcjfnekgnlcaa
