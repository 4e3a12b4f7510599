/- LinkOrder: the walk. -/
import Derived.Test.YtohcjfnekgnlcaaLinkX
namespace Go.Proofs.Ytohcjfnekgnlcaa
open Go Go.RowKit Go.Maps Go.MapKept

set_option maxHeartbeats 4000000 in
theorem order_any (w : World) (va vb : Value) (L : List ActD) (B : List (List Int)) (ha : ActsIs w va L) (hb : BlobsIs w vb B) :
    Calls Try.prog 4 #[va, vb] w fun e w' => e = .returned (.bool true) ∧ Fr No w w' := by
  obtain ⟨bva, bvc, hvb, hbl, hB⟩ := hb
  subst hvb
  go_enter Try.func4, Try.ntmps4
  go_wp2_with fail
  refine (alive_any w).mono ?_
  rintro e w1 ⟨rfl, f1⟩
  go_wp2_with fail
  refine (great_any w1 va L (ha.keep f1 (fun _ _ => id))).mono ?_
  rintro e w2 ⟨rfl, f2⟩
  have f12 := f1.trans0 f2
  cases hg : greatB L with
  | true =>
    go_wp2
    go_ret
    exact ⟨rfl, f12⟩
  | false =>
    by_cases h64 : 64 < B.length
    · have i1 : decide ((64 : Int) < (B.length : Int)) = true := decide_eq_true (by omega)
      go_wp2
      go_ret
      exact ⟨rfl, f12⟩
    · have i1 : decide ((64 : Int) < (B.length : Int)) = false := decide_eq_false (by omega)
      go_wp2_with fail
      refine (grown_st w w2 f12 va L (ha.keep f12 (fun _ _ => id)) hg).mono ?_
      rintro e w3 ⟨p, g3, rfl, st3, -, -, -⟩
      obtain ⟨m4, r4, m5, hc4, hc5, ok5, ln5⟩ := order_start (st3.lane_ok (3, 4, 0))
      generalize hm3 : runM emptyM L = m3 at *
      clear hm3
      go_wp2_with fail
      refine (close_st st3 3 4 hc4).mono ?_
      rintro e w4 ⟨rfl, g4, st4, -⟩
      go_wp2_with fail
      refine (open_st st4 (by omega) 4 3 hc5).mono ?_
      rintro e w5 ⟨rfl, g5, st5, -⟩
      clear st3 st4 hc4 hc5 f1 f2 ha hg i1
      have OK5 := Lib.hid ok5
      have LN5 := Lib.hid ln5
      clear ok5 ln5
      go_wp2_with fail
      go_loopw [34] (fun i wr => ∃ (n : Nat) (g : LkG) (m : LM), n ≤ B.length ∧ i = .int .i64 n ∧ St w wr p g m (302 + n) ∧ okWay m.op (3, 4, 0) ∧ m.lane (3, 4, 0) = B.take n ∧ ∀ bs ∈ B.take n, bs.length ≤ 1000) (fun i _ => B.length - (intOf i).toNat)
      case atStart => exact ⟨0, g5, m5, Nat.zero_le _, rfl, st5, OK5.out, LN5.out, by simp⟩
      case round =>
        obtain ⟨n, g, m, hn, rfl, st, hok, hln, hle⟩ := hrel
        clear st5 OK5 LN5
        by_cases hlt : n < B.length
        · have i1 : (n : Int) < (B.length : Int) := by omega
          obtain ⟨b, off, ba, bc, rfl, c0, c1, -⟩ := hB n B[n] (List.getElem?_eq_getElem hlt)
          have hbs := Lib.hid (List.take_add_one (l := B) (i := n))
          rw [List.getElem?_eq_getElem hlt] at hbs
          generalize B[n] = bs at *
          have d0 := st.fr.cell c0 id
          have d1 := c1.keep st.fr
          clear c0 c1
          by_cases hbig : 1000 < bs.length
          · have i2 : decide ((1000 : Int) < (bs.length : Int)) = true := decide_eq_true (by omega)
            clear hln hle
            have FIN := st.fr
            clear st hok d1
            go_wp2
            go_ret
            exact ⟨rfl, FIN⟩
          · have i2 : decide ((1000 : Int) < (bs.length : Int)) = false := decide_eq_false (by omega)
            obtain ⟨gb, cap, wy, hrun, hown, fy⟩ := copy_run wr _ bs d1 (by omega)
            obtain ⟨m', hm', hok', hln'⟩ := push_to hok bs (by rw [hln, List.length_take]; omega)
            rw [hln] at hln'
            have LN := Lib.hid hln'
            have LE := Lib.hid hle
            have OK := Lib.hid hok'
            clear hln hle hln' hok hok' hB d1
            go_wp2_with (at_builtin; refine wpList_append_run rfl rfl rfl rfl hrun ?_)
            refine (push_st (st.fr0 fy) (by omega) 3 4 0 _ bs (hown.slice).arg (by omega) hm').mono ?_
            rintro e w6 ⟨rfl, g6, st6, sp6⟩
            have hown6 := ownsRow_keep hown sp6.fr (fun k hk e => by
              have h1 := (st.fr0 fy).at_.wlt k e
              have h2 := st.at_.wlt k e
              have h3 := (hown.lt k hk).1
              omega)
            have nW : ∀ k, g6.W k → k ≠ gb := fun k hk e => by
              subst e
              have h3 := hown.lt k rfl
              rcases sp6.W _ hk with e | e
              · have := st.at_.wlt _ e; omega
              · omega
            have nC : ∀ k, g6.C k → k ≠ gb := fun k hk e => by
              subst e
              have h3 := hown.lt k rfl
              rcases sp6.C _ hk with e | e
              · have := st.at_.clt _ e; omega
              · omega
            have hge : w.heap.size ≤ gb := Nat.le_trans st.fr.size (hown.lt gb rfl).1
            have NW := Lib.hid nW
            have NC := Lib.hid nC
            clear hown st nW nC sp6 hm'
            go_wp2_with fail
            go_loopw [50] (fun j wi => ∃ (k : Nat) (zs : List Int), k ≤ bs.length ∧ j = .int .i64 k ∧ zs.length = bs.length ∧ wi.ownsRow wr.heap.size 5 1 (.slice (some ⟨gb, 0, none⟩) bs.length cap) bs.length (zs.map byteV) ∧ St w wi p g6 m' (302 + n + 1)) (fun j _ => bs.length - (intOf j).toNat)
            case atStart => exact ⟨0, bs, Nat.zero_le _, rfl, rfl, hown6, st6⟩
            case round =>
              obtain ⟨k, zs, hk, rfl, hzl, hown, sti⟩ := hrel
              clear st6 hown6
              by_cases hkl : k < bs.length
              · have j1 : (k : Int) < (bs.length : Int) := by omega
                have hzs : zs[k]? = some zs[k] := List.getElem?_eq_getElem (by omega)
                have hc : wr.cell? ⟨gb, k, none⟩ = some (.int .u8 zs[k]) := by
                  rw [hown.cellAt k (by omega), List.getElem?_map, hzs]; rfl
                have hf := hown.frozenAt k
                obtain ⟨s1, s2⟩ := hown.stored k (.int .u8 (IntKind.u8.wrap (zs[k] + 1)))
                have S1 := Lib.hid s1
                have S2 := Lib.hid (Fr.of_grown (W := fun k => k = gb) s2 (fun k hk => .inr (Option.some.inj hk).symm))
                clear s1 s2 hown
                generalize zs[k] = z at *
                go_wp2
                go_roundw
                case rel => exact ⟨k + 1, zs.set k (IntKind.u8.wrap (z + 1)), by omega, by go_num, by simpa using hzl, by rw [List.map_set]; exact S1.out, sti.frV S2.out NW.out NC.out (fun k hk => hk ▸ hge)⟩
                case measure => simp [intOf]; omega
              · have : k = bs.length := by omega
                subst this
                clear hown
                go_wp2
                go_roundw
                case rel => exact ⟨n + 1, g6, m', by omega, by go_num, sti.mono (by omega), OK.out, by rw [LN.out, hbs.out]; rfl, fun x hx => by
                  rw [hbs.out] at hx
                  rcases List.mem_append.1 hx with e | e
                  · exact LE.out x e
                  · simp at e; subst e; omega⟩
                case measure => simp [intOf]; omega
        · have : n = B.length := by omega
          subst this
          have hln0 : m.lane (3, 4, 0) = B := by rw [hln, List.take_length]
          have LN := Lib.hid hln0
          have OK := Lib.hid hok
          clear hln hle hln0 hok
          go_wp2_with fail
          go_loopw [63] (fun i wr => ∃ (n : Nat) (g : LkG) (m : LM), n ≤ B.length ∧ i = .int .i64 n ∧ St w wr p g m (400 + n) ∧ okWay m.op (3, 4, 0) ∧ m.lane (3, 4, 0) = B.drop n) (fun i _ => B.length - (intOf i).toNat)
          case atStart => exact ⟨0, g, m, Nat.zero_le _, rfl, st.mono (by omega), OK.out, LN.out⟩
          case round =>
            obtain ⟨n, g, m, hn, rfl, st, hok, hln⟩ := hrel
            clear OK LN
            by_cases hlt : n < B.length
            · have i1 : (n : Int) < (B.length : Int) := by omega
              obtain ⟨b, off, ba, bc, rfl, c0, c1, -⟩ := hB n B[n] (List.getElem?_eq_getElem hlt)
              rw [List.drop_eq_getElem_cons hlt] at hln
              generalize B[n] = bs at *
              have d0 := st.fr.cell c0 id
              have C1 := Lib.hid c1
              clear c0 c1 hB
              obtain ⟨m', hm', hok', hln'⟩ := take_first hok bs _ hln
              have OK := Lib.hid hok'
              have LN := Lib.hid hln'
              clear hok hln hok' hln'
              go_wp2_with fail
              refine (take_st st 3 4 0 0 hm').mono ?_
              rintro e w6 ⟨v, rfl, g6, st6, sp6, o6⟩
              have D2 := Lib.hid (C1.out.keep st6.fr)
              have O6 := Lib.hid o6.1.arg
              have st6' := st6.mono (show 400 + n + 1 ≤ 400 + (n + 1) by omega)
              clear st st6 sp6 o6
              go_wp2_with fail
              refine (same_any _ _ _ bs bs D2.out O6.out D2.out.len).mono ?_
              rintro e w7 ⟨rfl, f7⟩
              have st7 := st6'.fr0 f7
              clear st6' D2 O6
              rw [show decide (bs = bs) = true by simp]
              go_wp2
              go_roundw
              case rel => exact ⟨n + 1, g6, m', by omega, by go_num, st7, OK.out, LN.out⟩
              case measure => simp [intOf]; omega
            · have : n = B.length := by omega
              subst this
              rw [List.drop_length] at hln
              go_wp2_with fail
              refine (take_st st 3 4 0 0 (take_no hok hln)).mono ?_
              rintro e w6 ⟨v, rfl, g6, st6, sp6, o6⟩
              have FIN := st6.fr
              clear st st6 sp6 o6 hok hln
              go_wp2
              go_ret
              exact ⟨rfl, FIN⟩
end Go.Proofs.Ytohcjfnekgnlcaa
