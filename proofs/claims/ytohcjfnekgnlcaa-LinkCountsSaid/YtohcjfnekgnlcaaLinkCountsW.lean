/- LinkCounts: the walk. -/
import Derived.Test.YtohcjfnekgnlcaaLinkY
namespace Go.Proofs.Ytohcjfnekgnlcaa
open Go Go.RowKit Go.Maps Go.MapKept

theorem sum_ite' {α : Type} [DecidableEq α] (E : List α) (hnd : E.Nodup) (b0 : α) (c : Nat) : (E.map fun b => if b = b0 then c else 0).sum = if b0 ∈ E then c else 0 := by
  induction E with
  | nil => simp
  | cons x l ih =>
    simp only [List.nodup_cons] at hnd
    rw [List.map_cons, List.sum_cons, ih hnd.2]
    by_cases e : x = b0
    · subst e; simp [hnd.1]
    · rw [if_neg e]
      by_cases e2 : b0 ∈ l
      · simp [e2]
      · simp [e2, Ne.symm e]
theorem sum_add' {α : Type} (E : List α) (f g : α → Nat) : (E.map fun b => f b + g b).sum = (E.map f).sum + (E.map g).sum := by
  induction E with
  | nil => simp
  | cons x l ih => simp [ih]; omega
theorem sum_zero' {α : Type} (E : List α) : (E.map fun _ => 0).sum = 0 := by
  induction E with
  | nil => simp
  | cons x l ih => simp [ih]
theorem sum_congr' {α : Type} {E : List α} {f g : α → Nat} (h : ∀ b ∈ E, f b = g b) : (E.map f).sum = (E.map g).sum := by rw [List.map_congr_left h]
theorem sum_le' {α : Type} {E : List α} {f : α → Nat} {B : Nat} (h : ∀ b ∈ E, f b ≤ B) : (E.map f).sum ≤ B * E.length := by
  induction E with
  | nil => simp
  | cons x l ih =>
    have h1 := h x (by simp)
    have h2 := ih fun b hb => h b (by simp [hb])
    rw [List.map_cons, List.sum_cons, List.length_cons, Nat.mul_succ]
    omega
theorem ends_nodup (op : List (Int × Int)) (a : Int) : (endsOf op a 64).Nodup := by
  unfold endsOf
  refine List.Pairwise.filter _ ?_
  refine List.Pairwise.map _ (R := (· ≠ ·)) ?_ List.nodup_range
  intro x y h e
  exact h (by omega)

/-- What a's ends have under way on a lane; of the ends up to A. -/
def endSum (op : List (Int × Int)) (f : Int × Int × Int → List (List Int)) (k a : Int) : Nat := ((endsOf op a 64).map fun b => (f (a, b, k)).length).sum
def allSum (op : List (Int × Int)) (f : Int × Int × Int → List (List Int)) (k : Int) (A : Nat) : Nat := ((List.range A).map fun (a : Nat) => endSum op f k a).sum

theorem allSum_succ (op : List (Int × Int)) (f : Int × Int × Int → List (List Int)) (k : Int) (A : Nat) : allSum op f k (A + 1) = allSum op f k A + endSum op f k A := by
  unfold allSum
  rw [List.range_succ, List.map_append, List.sum_append]
  simp

theorem allSum_cnt {op : List (Int × Int)} {ln : List ((Int × Int × Int) × LG)} (hnd : (ln.map (·.1)).Nodup) (hok : ∀ x ∈ ln, okWay op x.1) (k : Int) : allSum op (laneOf ln) k 64 = cnt ln k := by
  induction ln with
  | nil =>
    unfold allSum endSum cnt
    simp [laneOf, sum_zero']
  | cons x l ih =>
    simp only [List.map_cons, List.nodup_cons] at hnd
    have hx0 : laneOf l x.1 = [] := laneOf_miss fun y hy e => hnd.1 (e ▸ List.mem_map.2 ⟨y, hy, rfl⟩)
    have e1 : cnt (x :: l) k = (if x.1.2.2 = k then x.2.ms.length else 0) + cnt l k := by simp [cnt]
    rw [e1, ← ih hnd.2 fun y hy => hok y (by simp [hy])]
    have hlen : ∀ key, (laneOf (x :: l) key).length = (if x.1 = key then x.2.ms.length else 0) + (laneOf l key).length := by
      intro key
      rw [laneOf_cons]
      by_cases e : x.1 = key
      · subst e; simp [hx0]
      · simp [e]
    obtain ⟨⟨xa, xb, xk⟩, xg⟩ := x
    obtain ⟨hv, _, hin⟩ := hok ((xa, xb, xk), xg) (by simp)
    have hh : hasB op xa xb = true := hasB_yes hv hin
    have hv' := hv
    unfold vld at hv'
    simp only at hv' hlen e1 ⊢
    have hE : ∀ a : Int, endSum op (laneOf (((xa, xb, xk), xg) :: l)) k a = (if a = xa then (if xk = k then xg.ms.length else 0) else 0) + endSum op (laneOf l) k a := by
      intro a
      unfold endSum
      rw [sum_congr' (g := fun b => (if b = xb then (if a = xa ∧ xk = k then xg.ms.length else 0) else 0) + (laneOf l (a, b, k)).length) (fun b _ => by
        rw [hlen]
        congr 1
        by_cases e1 : a = xa
        · by_cases e2 : b = xb
          · by_cases e3 : xk = k
            · simp [e1, e2, e3]
            · simp [e1, e2, e3]
          · simp [e2, Ne.symm e2]
        · simp [e1, Ne.symm e1]), sum_add', sum_ite' _ (ends_nodup op a)]
      congr 1
      by_cases e1 : a = xa
      · subst e1
        rw [if_pos (mem_ends.2 hh)]
        simp
      · simp [e1]
    unfold allSum
    rw [sum_congr' (g := fun (a : Nat) => (if a = xa.toNat then (if xk = k then xg.ms.length else 0) else 0) + endSum op (laneOf l) k a) (fun a _ => by
      rw [hE]
      congr 1
      exact ite_congr (propext ⟨fun h => by omega, fun h => by omega⟩) (fun _ => rfl) (fun _ => rfl)), sum_add', sum_ite' _ List.nodup_range, if_pos (List.mem_range.2 (by omega))]
theorem cnt_none {ln : List ((Int × Int × Int) × LG)} {kd : Int} (h : ∀ x ∈ ln, x.1.2.2 ≠ kd) : cnt ln kd = 0 := by
  induction ln with
  | nil => rfl
  | cons x l ih =>
    have e1 : cnt (x :: l) kd = (if x.1.2.2 = kd then x.2.ms.length else 0) + cnt l kd := by simp [cnt]
    rw [e1, if_neg (h x (by simp)), ih fun y hy => h y (by simp [hy])]

theorem St.sum {w0 w : World} {p : Nat} {g : LkG} {m : LM} {N : Nat} (h : St w0 w p g m N) (k : Int) : cnt g.ln k = allSum m.op m.lane k 64 := by
  have e1 : g.lane = m.lane := congrArg LM.lane h.lm
  have e2 : g.op = m.op := congrArg LM.op h.lm
  rw [← e1, ← e2]
  exact (allSum_cnt h.at_.nodup h.at_.vl k).symm
theorem St.sum0 {w0 w : World} {p : Nat} {g : LkG} {m : LM} {N : Nat} (h : St w0 w p g m N) {k : Int} (hk : k ≠ 0 ∧ k ≠ 1) : cnt g.ln k = 0 :=
  cnt_none fun x hx e => by have := (h.at_.vl x hx).2.1; rw [e] at this; omega

set_option maxHeartbeats 4000000 in
theorem counts_any (w : World) (va : Value) (L : List ActD) (ha : ActsIs w va L) :
    Calls Try.prog 9 #[va] w fun e w' => e = .returned (.bool true) ∧ Fr No w w' := by
  go_enter Try.func9, Try.ntmps9
  go_wp2_with fail
  refine (alive_any w).mono ?_
  rintro e w1 ⟨rfl, f1⟩
  go_wp2_with fail
  refine (great_any w1 va L (ha.keep f1 (fun _ _ => id))).mono ?_
  rintro e w2 ⟨rfl, f2⟩
  have f12 := f1.trans0 f2
  cases hg : greatB L with
  | true =>
    go_wp2
    go_ret
    exact ⟨rfl, f12⟩
  | false =>
    go_wp2_with fail
    refine (grown_st w w2 f12 va L (ha.keep f12 (fun _ _ => id)) hg).mono ?_
    rintro e w3 ⟨p, g3, rfl, st3, -, -, -⟩
    have hmb := LMb.grown hg
    have hml := st3.lane_le
    generalize runM emptyM L = m at *
    have ST := Lib.hid st3
    have MB := Lib.hid hmb
    have ML := Lib.hid hml
    clear ha hg f1 f2 f12 st3 hmb hml
    have hes : ∀ k a, endSum m.op m.lane k a ≤ 4096 := fun k a => by
      have h1 := sum_le' (E := endsOf m.op a 64) (f := fun b => (m.lane (a, b, k)).length) (B := 64) (fun b _ => ML.out _)
      have h2 := endsOf_length m.op a 64
      unfold endSum; omega
    have has : ∀ k (A : Nat), A ≤ 64 → allSum m.op m.lane k A ≤ 4096 * A := fun k A hA => by
      have h1 := sum_le' (E := List.range A) (f := fun (a : Nat) => endSum m.op m.lane k a) (B := 4096) (fun b _ => hes _ _)
      unfold allSum; simpa using h1
    have AS := Lib.hid has
    clear hes has
    go_wp2_with fail
    go_loopw [16] (fun i wr => ∃ n : Nat, n ≤ 2 ∧ i = .int .i64 n ∧ Fr No w3 wr) (fun i _ => 2 - (intOf i).toNat)
    case atStart => exact ⟨0, by omega, rfl, Fr.refl _ _⟩
    case round =>
      obtain ⟨n, hn, rfl, fr⟩ := hrel
      by_cases hlt : n < 2
      · have i1 : (n : Int) < 2 := by omega
        have FR1 := Lib.hid fr
        clear fr
        go_wp2_with fail
        go_loopw [5, 19] (fun s i wr => ∃ a : Nat, a ≤ 64 ∧ i = .int .i64 a ∧ s = .int .i64 (allSum m.op m.lane n a) ∧ Fr No w3 wr) (fun _ i _ => 64 - (intOf i).toNat)
        case atStart => exact ⟨0, by omega, rfl, rfl, FR1.out⟩
        case round =>
          obtain ⟨a, hna, rfl, rfl, fr⟩ := hrel
          clear FR1
          by_cases hlt2 : a < 64
          · have i2 : (a : Int) < 64 := by omega
            have hb1 := AS.out n a hna
            have hss := Lib.hid (allSum_succ m.op m.lane n a)
            unfold endSum at hss
            generalize allSum m.op m.lane n a = T at *
            go_wp2_with fail
            refine (ends_st (ST.out.fr0 fr) a).mono ?_
            rintro e w6 ⟨ve, rfl, hown, f6⟩
            obtain ⟨ea, ec, rfl⟩ := hown.slice.arg.form
            have hE64 := endsOf_length m.op a 64
            have HOWN := Lib.hid hown.slice
            have fr6 := fr.trans0 f6
            clear hown fr f6
            generalize endsOf m.op a 64 = E at *
            go_wp2_with fail
            go_loopw [5, 26] (fun s i wr => ∃ j : Nat, j ≤ E.length ∧ i = .int .i64 j ∧ s = .int .i64 ((T + ((E.take j).map fun b => (m.lane (a, b, n)).length).sum : Nat) : Int) ∧ Fr No w6 wr) (fun _ i _ => E.length - (intOf i).toNat)
            case atStart => exact ⟨0, Nat.zero_le _, rfl, by simp, Fr.refl _ _⟩
            case round =>
              obtain ⟨j, hj, rfl, rfl, fr⟩ := hrel
              by_cases hlt3 : j < E.length
              · have i3 : (j : Int) < (E.length : Int) := by omega
                have hx : E[j]? = some E[j] := List.getElem?_eq_getElem hlt3
                obtain ⟨eb, eo, rfl, hc, -⟩ := slice_at (HOWN.out.keep fr (fun _ _ => id)) (j := j) (u := intV E[j]) (by rw [List.getElem?_map, hx]; rfl)
                have htk := Lib.hid (show ((E.take (j + 1)).map fun b => (m.lane (a, b, n)).length).sum = ((E.take j).map fun b => (m.lane (a, b, n)).length).sum + (m.lane (a, E[j], n)).length by
                  rw [List.take_add_one, hx, List.map_append, List.sum_append]; simp)
                have hbd : ((E.take j).map fun b => (m.lane (a, b, n)).length).sum ≤ 64 * 64 := by
                  have := sum_le' (E := E.take j) (f := fun b => (m.lane (a, b, n)).length) (B := 64) (fun b _ => ML.out _)
                  rw [List.length_take] at this
                  omega
                clear hx
                generalize ((E.take j).map fun b => (m.lane (a, b, n)).length).sum = U at *
                generalize E[j] = x at *
                have hle := ML.out (a, x, n)
                have hl1 := lane_st (ST.out.fr0 (fr6.trans0 fr)) a x n (fun bs hbs => Nat.le_trans (MB.out _ bs hbs) (by omega))
                unfold intV at hc
                generalize m.lane (a, x, n) = Y at *
                have i4 : decide ((64 : Int) < (Y.length : Int)) = false := decide_eq_false (by omega)
                go_wp2_with fail
                refine hl1.mono ?_
                rintro e w7 ⟨v7, rfl, r7, f7⟩
                obtain ⟨a7, c7, rfl⟩ := r7.form
                clear r7 hl1
                go_wp2
                go_roundw
                case rel => exact ⟨j + 1, by omega, by go_num, by rw [htk.out]; go_num, fr.trans0 f7⟩
                case measure => simp [intOf]; omega
              · have : j = E.length := by omega
                subst this
                rw [List.take_length]
                have FR2 := fr6.trans0 fr
                clear fr fr6 HOWN
                go_wp2
                go_roundw
                case rel => exact ⟨a + 1, by omega, by go_num, by rw [hss.out], FR2⟩
                case measure => simp [intOf]; omega
          · have : a = 64 := by omega
            subst this
            have hlen := len_st (ST.out.fr0 fr) (by omega) n
            rw [ST.out.sum] at hlen
            go_wp2_with fail
            refine hlen.mono ?_
            rintro e w7 ⟨rfl, f7⟩
            have FR2 := fr.trans0 f7
            clear fr f7 hlen
            generalize allSum m.op m.lane n 64 = T at *
            have i5 : ((T : Int) != (T : Int)) = false := by simp
            go_wp2
            go_roundw
            case rel => exact ⟨n + 1, by omega, by go_num, FR2⟩
            case measure => simp [intOf]; omega
      · have : n = 2 := by omega
        subst this
        have h2 := len_st (ST.out.fr0 fr) (by omega) 2
        rw [ST.out.sum0 (by decide)] at h2
        go_wp2_with fail
        refine h2.mono ?_
        rintro e w7 ⟨rfl, f7⟩
        have fr7 := fr.trans0 f7
        have h3 := len_st (ST.out.fr0 fr7) (by omega) (-1)
        rw [ST.out.sum0 (by decide)] at h3
        clear h2 fr f7
        go_wp2_with fail
        refine h3.mono ?_
        rintro e w8 ⟨rfl, f8⟩
        have FIN := ST.out.fr.trans0 (fr7.trans0 f8)
        clear h3
        go_wp2
        go_ret
        exact ⟨rfl, FIN⟩
end Go.Proofs.Ytohcjfnekgnlcaa
