/- The document's links: Close. -/
import Derived.Test.YtohcjfnekgnlcaaLinkR6
namespace Go.Proofs.Ytohcjfnekgnlcaa
open Go Go.RowKit Go.Maps Go.MapKept

theorem closeR_arg (w : World) (p : Nat) (a b : Int) (hv : ¬ vld a b) :
    Calls Try.prog 37 #[.pointer (some ⟨p, 0, none⟩), .int .i64 a, .int .i64 b] w fun e w' => e = .returned (.int .i64 2) ∧ Fr No w w' := by
  have hf := fitR_any w a b
  rw [fitB_not hv] at hf
  have HF := Lib.hid hf
  clear hf
  go_enter Try.func37, Try.ntmps37
  go_wp2_with fail
  refine HF.out.mono ?_
  rintro e w1 ⟨rfl, rfl⟩
  go_wp2
  go_ret
  exact ⟨rfl, Fr.refl _ _⟩
theorem closeR_none (w : World) (g : RfG) (h : RfAt w g) (a b : Int) (hv : vld a b) (hn : (lo a b, hi a b) ∉ g.ps) :
    Calls Try.prog 37 #[.pointer (some ⟨g.bl, 0, none⟩), .int .i64 a, .int .i64 b] w fun e w' => e = .returned (.int .i64 9) ∧ Fr No w w' := by
  have hf := fitR_any w a b
  rw [fitB_vld.2 hv] at hf
  have hh := hasR_any w g h a b
  rw [show decide ((lo a b, hi a b) ∈ g.ps) = false by simp [hn]] at hh
  have HF := Lib.hid hf
  have HH := Lib.hid hh
  clear hf hh h hn
  go_enter Try.func37, Try.ntmps37
  go_wp2_with fail
  refine HF.out.mono ?_
  rintro e w1 ⟨rfl, rfl⟩
  go_wp2_with fail
  refine HH.out.mono ?_
  rintro e w2 ⟨rfl, f2⟩
  go_wp2
  go_ret
  exact ⟨rfl, f2⟩

def psDrop (ps : List (Int × Int)) (p : Int × Int) : List (Int × Int) := ps.filter fun x => !((x.1 == p.1) && (x.2 == p.2))
def msDrop (ms : List Ms) (p : Int × Int) : List Ms := ms.filter fun m => (lo m.k.1 m.k.2.1 != p.1) || (hi m.k.1 m.k.2.1 != p.2)
theorem psDrop_succ {ps : List (Int × Int)} {n : Nat} {q p : Int × Int} (h : ps[n]? = some q) : psDrop (ps.take (n + 1)) p = psDrop (ps.take n) p ++ (if !((q.1 == p.1) && (q.2 == p.2)) then [q] else []) := by
  rw [mem_take_succ h]
  unfold psDrop
  rw [List.filter_append]
  congr 1
  simp only [List.filter_cons, List.filter_nil]
theorem msDrop_succ {ms : List Ms} {n : Nat} {q : Ms} {p : Int × Int} (h : ms[n]? = some q) : msDrop (ms.take (n + 1)) p = msDrop (ms.take n) p ++ (if ((lo q.k.1 q.k.2.1 != p.1) || (hi q.k.1 q.k.2.1 != p.2)) then [q] else []) := by
  rw [mem_take_succ h]
  unfold msDrop
  rw [List.filter_append]
  congr 1
  simp only [List.filter_cons, List.filter_nil]
theorem psDrop_le (ps : List (Int × Int)) (p : Int × Int) (n : Nat) : (psDrop (ps.take n) p).length ≤ n := Nat.le_trans (List.length_filter_le _ _) (by rw [List.length_take]; omega)
theorem msDrop_le (ms : List Ms) (p : Int × Int) (n : Nat) : (msDrop (ms.take n) p).length ≤ n := Nat.le_trans (List.length_filter_le _ _) (by rw [List.length_take]; omega)

theorem putPM {w w4 : World} {g : RfG} {ps : List (Int × Int)} {ms : List Ms} {v v2 : Value} {B B2 : Nat} (h : RfAt w g) (f : Fr No w w4) (ho : w4.ownsRow B 74 2 v ps.length (ps.flatMap pairC)) (ho2 : w4.ownsRow B2 76 4 v2 ms.length (ms.flatMap msC))
    (hB : w.heap.size ≤ B) (hB2 : w.heap.size ≤ B2) (hsub : ∀ m ∈ ms, m ∈ g.ms) : RfAt ((w4.setCell ⟨g.bl, 0, none⟩ v).setCell ⟨g.bl, 1, none⟩ v2) { g with lv := v, mv := v2, ps := ps, ms := ms } := by
  have hbl := obj_lt h.hb
  have hnv : v.ownBlock ≠ some g.bl := fun e => by have := (ho.lt _ e).1; omega
  have hnv2 : v2.ownBlock ≠ some g.bl := fun e => by have := (ho2.lt _ e).1; omega
  have f2 : Fr (fun i => i = g.bl) w4 ((w4.setCell ⟨g.bl, 0, none⟩ v).setCell ⟨g.bl, 1, none⟩ v2) := Fr.setCell (W := fun i => i = g.bl) (Fr.setCell (W := fun i => i = g.bl) (Fr.refl _ w4) ⟨g.bl, 0, none⟩ (.inr rfl) v) ⟨g.bl, 1, none⟩ (.inr rfl) v2
  exact {
    hb := by
      have h1 := heap_setCell_same w4 g.bl 0 _ _ v (f.obj h.hb id)
      have h2 := heap_setCell_same _ g.bl 1 _ _ v2 h1
      simpa using h2
    hl := ownsRow_zero (ownsRow_keep ho f2 (fun i hi e => hnv (e ▸ hi)))
    hm := ownsRow_zero (ownsRow_keep ho2 f2 (fun i hi e => hnv2 (e ▸ hi)))
    hv := fun m hm => ((h.hv m (hsub m hm)).keep f (fun i hi => id)).keep f2 (fun i hi e => h.n3 m (hsub m hm) (e ▸ hi))
    n1 := hnv
    n2 := hnv2
    n3 := fun m hm => h.n3 m (hsub m hm) }

/-- What Close leaves. -/
def CloseR (w : World) (g : RfG) (p : Int × Int) (e : Ending) (w' : World) : Prop :=
  e = .returned (.int .i64 0) ∧ ∃ v v2, RfAt w' { g with lv := v, mv := v2, ps := psDrop g.ps p, ms := msDrop g.ms p } ∧ (∀ k, v.ownBlock = some k → w.heap.size ≤ k) ∧ (∀ k, v2.ownBlock = some k → w.heap.size ≤ k) ∧ Fr (fun i => i = g.bl) w w'

set_option maxHeartbeats 2000000 in
theorem closeR_ok (w : World) (g : RfG) (h : RfAt w g) (hle : g.ps.length ≤ 1000000) (hle2 : g.ms.length ≤ 1000000) (a b : Int) (hv : vld a b) (hn : (lo a b, hi a b) ∈ g.ps) :
    Calls Try.prog 37 #[.pointer (some ⟨g.bl, 0, none⟩), .int .i64 a, .int .i64 b] w (CloseR w g (lo a b, hi a b)) := by
  have hf := fitR_any w a b
  rw [fitB_vld.2 hv] at hf
  have hh := hasR_any w g h a b
  rw [show decide ((lo a b, hi a b) ∈ g.ps) = true by simp [hn]] at hh
  have HF := Lib.hid hf
  have HH := Lib.hid hh
  have R := Lib.hid h
  clear hf hh h hn
  rcases Int.lt_trichotomy a b with hab | hab | hab
  · have hab2 : a ≤ b := by omega
    unfold lo hi
    rw [if_pos hab2, if_pos hab2]
    go_enter Try.func37, Try.ntmps37
    go_wp2_with fail
    refine HF.out.mono ?_
    rintro e w1 ⟨rfl, rfl⟩
    go_wp2_with fail
    refine HH.out.mono ?_
    rintro e w2 ⟨rfl, f2⟩
    have R2 := Lib.hid (R.out.keep f2)
    obtain ⟨c0, c1⟩ := R2.out.cells
    obtain ⟨la, lc, hlv, hz⟩ := own_slice R2.out.hl
    have HL := Lib.hid (show w2.ownsRow 0 74 2 (.slice la g.ps.length lc) g.ps.length (g.ps.flatMap pairC) from hlv ▸ R2.out.hl)
    rw [hlv] at c0
    have HLV := Lib.hid hlv
    clear hlv
    go_wp2_with fail
    go_loopw [7, 27] (fun out i wr => ∃ n : Nat, n ≤ g.ps.length ∧ i = .int .i64 n ∧ wr.ownsRow w2.heap.size 74 2 out (psDrop (g.ps.take n) (a, b)).length ((psDrop (g.ps.take n) (a, b)).flatMap pairC) ∧ Fr No w2 wr) (fun _ i _ => g.ps.length - (intOf i).toNat)
    case atStart => exact ⟨0, Nat.zero_le _, rfl, World.ownsRow_nil _ _ _ _, Fr.refl _ _⟩
    case round =>
      obtain ⟨n, hn, rfl, hro, fr⟩ := hrel
      by_cases hlt : n < g.ps.length
      · have i1 : (n : Int) < (g.ps.length : Int) := by omega
        have hx : g.ps[n]? = some g.ps[n] := List.getElem?_eq_getElem hlt
        obtain ⟨gb, rfl⟩ := hz (by omega)
        obtain ⟨d1, d2⟩ := pair_at (ownsRow_keep HL.out fr (fun _ _ => id)) rfl hx
        have hT := psDrop_succ (p := (a, b)) hx
        have hbd := psDrop_le g.ps (a, b) n
        have TK := Lib.hid hT
        have HR := Lib.hid hro
        clear hx hT hro
        generalize psDrop (g.ps.take n) (a, b) = S at *
        generalize g.ps[n] = q at *
        obtain ⟨q1, q2⟩ := q
        simp only at d1 d2 TK
        cases hq1 : (q1 == a) with
        | false =>
          rw [hq1] at TK
          have f2 : Fr No wr (wr.alloc (.cells #[.int .i64 q1, .int .i64 q2] 74)) := by (repeat (first | with_reducible exact Fr.refl _ _ | with_reducible assumption | with_reducible refine Fr.drew ?_ | with_reducible refine Fr.drewN ?_ _ | with_reducible refine Fr.alloc ?_ _ | with_reducible refine Fr.setCell ?_ _ (.inl (by simp <;> omega)) _))
          obtain ⟨v', w4, happ, hro', f4, -, -⟩ := append_blk (P := Try.prog) (wr.alloc (.cells #[.int .i64 q1, .int .i64 q2] 74)) w2.heap.size 53 53 74 2 16 (.agg #[.int .i64 0, .int .i64 0]) undPairs infoPair rfl (by decide) (ownsRow_keep HR.out f2 (fun _ _ => id)) [.int .i64 q1, .int .i64 q2] rfl (by simp; exact ⟨rfl, rfl⟩) (by omega) (by unfold maxLen; omega) (fr.trans0 f2).size
          rw [show (wr.alloc (.cells #[.int .i64 q1, .int .i64 q2] 74)).heap.size = wr.heap.size + 1 by simp] at happ
          go_wp2_with (at_builtin; refine wpList_append_run rfl rfl rfl rfl happ ?_)
          go_roundw
          case rel =>
            refine ⟨n + 1, by omega, by go_num, ?_, (fr.trans0 f2).trans f4 (fun i hi e => ?_)⟩
            · rw [TK.out]; simpa [pairC] using hro'
            · have := (HR.out.lt i e).1; omega
          case measure => simp [intOf]; omega
        | true =>
          cases hq2 : (q2 == b) with
          | false =>
            rw [hq1, hq2] at TK
            have f2 : Fr No wr (wr.alloc (.cells #[.int .i64 q1, .int .i64 q2] 74)) := by (repeat (first | with_reducible exact Fr.refl _ _ | with_reducible assumption | with_reducible refine Fr.drew ?_ | with_reducible refine Fr.drewN ?_ _ | with_reducible refine Fr.alloc ?_ _ | with_reducible refine Fr.setCell ?_ _ (.inl (by simp <;> omega)) _))
            obtain ⟨v', w4, happ, hro', f4, -, -⟩ := append_blk (P := Try.prog) (wr.alloc (.cells #[.int .i64 q1, .int .i64 q2] 74)) w2.heap.size 53 53 74 2 16 (.agg #[.int .i64 0, .int .i64 0]) undPairs infoPair rfl (by decide) (ownsRow_keep HR.out f2 (fun _ _ => id)) [.int .i64 q1, .int .i64 q2] rfl (by simp; exact ⟨rfl, rfl⟩) (by omega) (by unfold maxLen; omega) (fr.trans0 f2).size
            rw [show (wr.alloc (.cells #[.int .i64 q1, .int .i64 q2] 74)).heap.size = wr.heap.size + 1 by simp] at happ
            go_wp2_with (at_builtin; refine wpList_append_run rfl rfl rfl rfl happ ?_)
            go_roundw
            case rel =>
              refine ⟨n + 1, by omega, by go_num, ?_, (fr.trans0 f2).trans f4 (fun i hi e => ?_)⟩
              · rw [TK.out]; simpa [pairC] using hro'
              · have := (HR.out.lt i e).1; omega
            case measure => simp [intOf]; omega
          | true =>
            rw [hq1, hq2] at TK
            go_wp2
            go_roundw
            case rel => exact ⟨n + 1, by omega, by go_num, by rw [TK.out]; simpa using ownsRow_keep HR.out ((Fr.refl No wr).alloc _) (fun _ _ => id), by (repeat (first | with_reducible exact Fr.refl _ _ | with_reducible assumption | with_reducible refine Fr.drew ?_ | with_reducible refine Fr.drewN ?_ _ | with_reducible refine Fr.alloc ?_ _ | with_reducible refine Fr.setCell ?_ _ (.inl (by simp <;> omega)) _))⟩
            case measure => simp [intOf]; omega
      · have : n = g.ps.length := by omega
        subst this
        rw [List.take_length] at hro
        obtain ⟨pa, pc, rfl, -⟩ := own_slice (ownsRow_zero hro)
        have HP := Lib.hid hro
        clear hro
        have R5 := Lib.hid (R2.out.keep fr)
        obtain ⟨k0, k1⟩ := R5.out.cells
        obtain ⟨ma, mc, hmv, hz2⟩ := own_slice R5.out.hm
        have HM := Lib.hid (show wr.ownsRow 0 76 4 (.slice ma g.ms.length mc) g.ms.length (g.ms.flatMap msC) from hmv ▸ R5.out.hm)
        rw [hmv] at k1
        have HMV := Lib.hid hmv
        have HV := Lib.hid R5.out.hv
        clear hmv
        obtain ⟨w5, rfl⟩ : ∃ wo : World, wo = wr := ⟨_, rfl⟩
        have f5 := fr
        clear fr
        go_wp2_with fail
        go_loopw [10, 50] (fun out i wr => ∃ n : Nat, n ≤ g.ms.length ∧ i = .int .i64 n ∧ wr.ownsRow w5.heap.size 76 4 out (msDrop (g.ms.take n) (a, b)).length ((msDrop (g.ms.take n) (a, b)).flatMap msC) ∧ Fr No w5 wr) (fun _ i _ => g.ms.length - (intOf i).toNat)
        case atStart => exact ⟨0, Nat.zero_le _, rfl, World.ownsRow_nil _ _ _ _, Fr.refl _ _⟩
        case round =>
          obtain ⟨n, hn, rfl, hro, fr⟩ := hrel
          by_cases hlt : n < g.ms.length
          · have i1 : (n : Int) < (g.ms.length : Int) := by omega
            have hx : g.ms[n]? = some g.ms[n] := List.getElem?_eq_getElem hlt
            obtain ⟨gb, rfl⟩ := hz2 (by omega)
            obtain ⟨d1, d2, d3, d4⟩ := ms_at (ownsRow_keep HM.out fr (fun _ _ => id)) rfl hx
            have hT := msDrop_succ (p := (a, b)) hx
            have hbd := msDrop_le g.ms (a, b) n
            have hsv := HV.out g.ms[n] (List.getElem_mem hlt)
            have TK := Lib.hid hT
            have HR := Lib.hid hro
            clear hx hT hro
            generalize msDrop (g.ms.take n) (a, b) = S at *
            generalize g.ms[n] = q at *
            obtain ⟨⟨q1, q2, q3⟩, qv, qb⟩ := q
            obtain ⟨qa, qc, hqv⟩ := hsv.arg.form
            simp only at hqv
            subst hqv
            clear hsv
            simp only at d1 d2 d3 d4 TK
            rcases Int.lt_trichotomy q1 q2 with hq | hq | hq
            · have hq' : q1 ≤ q2 := by omega
              rw [show lo q1 q2 = q1 from if_pos hq', show hi q1 q2 = q2 from if_pos hq'] at TK
              cases hq1 : (q1 != a) with
              | true =>
                rw [hq1] at TK
                have f2 : Fr No wr (wr.alloc (.cells #[.int .i64 q1, .int .i64 q2, .int .i64 q3, .slice qa qb.length qc] 76)) := by (repeat (first | with_reducible exact Fr.refl _ _ | with_reducible assumption | with_reducible refine Fr.drew ?_ | with_reducible refine Fr.drewN ?_ _ | with_reducible refine Fr.alloc ?_ _ | with_reducible refine Fr.setCell ?_ _ (.inl (by simp <;> omega)) _))
                obtain ⟨v', w4, happ, hro', f4, -, -⟩ := append_blk (P := Try.prog) (wr.alloc (.cells #[.int .i64 q1, .int .i64 q2, .int .i64 q3, .slice qa qb.length qc] 76)) w5.heap.size 54 54 76 4 48 (.agg #[.int .i64 0, .int .i64 0, .int .i64 0, .slice none 0 0]) undMsgs infoMsg rfl (by decide) (ownsRow_keep HR.out f2 (fun _ _ => id)) [.int .i64 q1, .int .i64 q2, .int .i64 q3, .slice qa qb.length qc] rfl (by simp only [List.mem_cons, List.not_mem_nil, or_false]; rintro u (rfl | rfl | rfl | rfl) <;> rfl) (by omega) (by unfold maxLen; omega) (fr.trans0 f2).size
                rw [show (wr.alloc (.cells #[.int .i64 q1, .int .i64 q2, .int .i64 q3, .slice qa qb.length qc] 76)).heap.size = wr.heap.size + 1 by simp] at happ
                go_wp2_with (at_builtin; refine wpList_append_run rfl rfl rfl rfl happ ?_)
                go_roundw
                case rel =>
                  refine ⟨n + 1, by omega, by go_num, ?_, (fr.trans0 f2).trans f4 (fun i hi e => ?_)⟩
                  · rw [TK.out]; simpa [msC] using hro'
                  · have := (HR.out.lt i e).1; omega
                case measure => simp [intOf]; omega
              | false =>
                cases hq2 : (q2 != b) with
                | true =>
                  rw [hq1, hq2] at TK
                  have f2 : Fr No wr (wr.alloc (.cells #[.int .i64 q1, .int .i64 q2, .int .i64 q3, .slice qa qb.length qc] 76)) := by (repeat (first | with_reducible exact Fr.refl _ _ | with_reducible assumption | with_reducible refine Fr.drew ?_ | with_reducible refine Fr.drewN ?_ _ | with_reducible refine Fr.alloc ?_ _ | with_reducible refine Fr.setCell ?_ _ (.inl (by simp <;> omega)) _))
                  obtain ⟨v', w4, happ, hro', f4, -, -⟩ := append_blk (P := Try.prog) (wr.alloc (.cells #[.int .i64 q1, .int .i64 q2, .int .i64 q3, .slice qa qb.length qc] 76)) w5.heap.size 54 54 76 4 48 (.agg #[.int .i64 0, .int .i64 0, .int .i64 0, .slice none 0 0]) undMsgs infoMsg rfl (by decide) (ownsRow_keep HR.out f2 (fun _ _ => id)) [.int .i64 q1, .int .i64 q2, .int .i64 q3, .slice qa qb.length qc] rfl (by simp only [List.mem_cons, List.not_mem_nil, or_false]; rintro u (rfl | rfl | rfl | rfl) <;> rfl) (by omega) (by unfold maxLen; omega) (fr.trans0 f2).size
                  rw [show (wr.alloc (.cells #[.int .i64 q1, .int .i64 q2, .int .i64 q3, .slice qa qb.length qc] 76)).heap.size = wr.heap.size + 1 by simp] at happ
                  go_wp2_with (at_builtin; refine wpList_append_run rfl rfl rfl rfl happ ?_)
                  go_roundw
                  case rel =>
                    refine ⟨n + 1, by omega, by go_num, ?_, (fr.trans0 f2).trans f4 (fun i hi e => ?_)⟩
                    · rw [TK.out]; simpa [msC] using hro'
                    · have := (HR.out.lt i e).1; omega
                  case measure => simp [intOf]; omega
                | false =>
                  rw [hq1, hq2] at TK
                  go_wp2
                  go_roundw
                  case rel => exact ⟨n + 1, by omega, by go_num, by rw [TK.out]; simpa using ownsRow_keep HR.out ((Fr.refl No wr).alloc _) (fun _ _ => id), by (repeat (first | with_reducible exact Fr.refl _ _ | with_reducible assumption | with_reducible refine Fr.drew ?_ | with_reducible refine Fr.drewN ?_ _ | with_reducible refine Fr.alloc ?_ _ | with_reducible refine Fr.setCell ?_ _ (.inl (by simp <;> omega)) _))⟩
                  case measure => simp [intOf]; omega
            · subst hq
              rw [show lo q1 q1 = q1 from if_pos (Int.le_refl _), show hi q1 q1 = q1 from if_pos (Int.le_refl _)] at TK
              cases hq1 : (q1 != a) with
              | true =>
                rw [hq1] at TK
                have f2 : Fr No wr (wr.alloc (.cells #[.int .i64 q1, .int .i64 q1, .int .i64 q3, .slice qa qb.length qc] 76)) := by (repeat (first | with_reducible exact Fr.refl _ _ | with_reducible assumption | with_reducible refine Fr.drew ?_ | with_reducible refine Fr.drewN ?_ _ | with_reducible refine Fr.alloc ?_ _ | with_reducible refine Fr.setCell ?_ _ (.inl (by simp <;> omega)) _))
                obtain ⟨v', w4, happ, hro', f4, -, -⟩ := append_blk (P := Try.prog) (wr.alloc (.cells #[.int .i64 q1, .int .i64 q1, .int .i64 q3, .slice qa qb.length qc] 76)) w5.heap.size 54 54 76 4 48 (.agg #[.int .i64 0, .int .i64 0, .int .i64 0, .slice none 0 0]) undMsgs infoMsg rfl (by decide) (ownsRow_keep HR.out f2 (fun _ _ => id)) [.int .i64 q1, .int .i64 q1, .int .i64 q3, .slice qa qb.length qc] rfl (by simp only [List.mem_cons, List.not_mem_nil, or_false]; rintro u (rfl | rfl | rfl | rfl) <;> rfl) (by omega) (by unfold maxLen; omega) (fr.trans0 f2).size
                rw [show (wr.alloc (.cells #[.int .i64 q1, .int .i64 q1, .int .i64 q3, .slice qa qb.length qc] 76)).heap.size = wr.heap.size + 1 by simp] at happ
                go_wp2_with (at_builtin; refine wpList_append_run rfl rfl rfl rfl happ ?_)
                go_roundw
                case rel =>
                  refine ⟨n + 1, by omega, by go_num, ?_, (fr.trans0 f2).trans f4 (fun i hi e => ?_)⟩
                  · rw [TK.out]; simpa [msC] using hro'
                  · have := (HR.out.lt i e).1; omega
                case measure => simp [intOf]; omega
              | false =>
                cases hq2 : (q1 != b) with
                | true =>
                  rw [hq1, hq2] at TK
                  have f2 : Fr No wr (wr.alloc (.cells #[.int .i64 q1, .int .i64 q1, .int .i64 q3, .slice qa qb.length qc] 76)) := by (repeat (first | with_reducible exact Fr.refl _ _ | with_reducible assumption | with_reducible refine Fr.drew ?_ | with_reducible refine Fr.drewN ?_ _ | with_reducible refine Fr.alloc ?_ _ | with_reducible refine Fr.setCell ?_ _ (.inl (by simp <;> omega)) _))
                  obtain ⟨v', w4, happ, hro', f4, -, -⟩ := append_blk (P := Try.prog) (wr.alloc (.cells #[.int .i64 q1, .int .i64 q1, .int .i64 q3, .slice qa qb.length qc] 76)) w5.heap.size 54 54 76 4 48 (.agg #[.int .i64 0, .int .i64 0, .int .i64 0, .slice none 0 0]) undMsgs infoMsg rfl (by decide) (ownsRow_keep HR.out f2 (fun _ _ => id)) [.int .i64 q1, .int .i64 q1, .int .i64 q3, .slice qa qb.length qc] rfl (by simp only [List.mem_cons, List.not_mem_nil, or_false]; rintro u (rfl | rfl | rfl | rfl) <;> rfl) (by omega) (by unfold maxLen; omega) (fr.trans0 f2).size
                  rw [show (wr.alloc (.cells #[.int .i64 q1, .int .i64 q1, .int .i64 q3, .slice qa qb.length qc] 76)).heap.size = wr.heap.size + 1 by simp] at happ
                  go_wp2_with (at_builtin; refine wpList_append_run rfl rfl rfl rfl happ ?_)
                  go_roundw
                  case rel =>
                    refine ⟨n + 1, by omega, by go_num, ?_, (fr.trans0 f2).trans f4 (fun i hi e => ?_)⟩
                    · rw [TK.out]; simpa [msC] using hro'
                    · have := (HR.out.lt i e).1; omega
                  case measure => simp [intOf]; omega
                | false =>
                  rw [hq1, hq2] at TK
                  go_wp2
                  go_roundw
                  case rel => exact ⟨n + 1, by omega, by go_num, by rw [TK.out]; simpa using ownsRow_keep HR.out ((Fr.refl No wr).alloc _) (fun _ _ => id), by (repeat (first | with_reducible exact Fr.refl _ _ | with_reducible assumption | with_reducible refine Fr.drew ?_ | with_reducible refine Fr.drewN ?_ _ | with_reducible refine Fr.alloc ?_ _ | with_reducible refine Fr.setCell ?_ _ (.inl (by simp <;> omega)) _))⟩
                  case measure => simp [intOf]; omega
            · have hq' : q2 ≤ q1 := by omega
              rw [show lo q1 q2 = q2 from if_neg (by omega), show hi q1 q2 = q1 from if_neg (by omega)] at TK
              cases hq1 : (q2 != a) with
              | true =>
                rw [hq1] at TK
                have f2 : Fr No wr (wr.alloc (.cells #[.int .i64 q1, .int .i64 q2, .int .i64 q3, .slice qa qb.length qc] 76)) := by (repeat (first | with_reducible exact Fr.refl _ _ | with_reducible assumption | with_reducible refine Fr.drew ?_ | with_reducible refine Fr.drewN ?_ _ | with_reducible refine Fr.alloc ?_ _ | with_reducible refine Fr.setCell ?_ _ (.inl (by simp <;> omega)) _))
                obtain ⟨v', w4, happ, hro', f4, -, -⟩ := append_blk (P := Try.prog) (wr.alloc (.cells #[.int .i64 q1, .int .i64 q2, .int .i64 q3, .slice qa qb.length qc] 76)) w5.heap.size 54 54 76 4 48 (.agg #[.int .i64 0, .int .i64 0, .int .i64 0, .slice none 0 0]) undMsgs infoMsg rfl (by decide) (ownsRow_keep HR.out f2 (fun _ _ => id)) [.int .i64 q1, .int .i64 q2, .int .i64 q3, .slice qa qb.length qc] rfl (by simp only [List.mem_cons, List.not_mem_nil, or_false]; rintro u (rfl | rfl | rfl | rfl) <;> rfl) (by omega) (by unfold maxLen; omega) (fr.trans0 f2).size
                rw [show (wr.alloc (.cells #[.int .i64 q1, .int .i64 q2, .int .i64 q3, .slice qa qb.length qc] 76)).heap.size = wr.heap.size + 1 by simp] at happ
                go_wp2_with (at_builtin; refine wpList_append_run rfl rfl rfl rfl happ ?_)
                go_roundw
                case rel =>
                  refine ⟨n + 1, by omega, by go_num, ?_, (fr.trans0 f2).trans f4 (fun i hi e => ?_)⟩
                  · rw [TK.out]; simpa [msC] using hro'
                  · have := (HR.out.lt i e).1; omega
                case measure => simp [intOf]; omega
              | false =>
                cases hq2 : (q1 != b) with
                | true =>
                  rw [hq1, hq2] at TK
                  have f2 : Fr No wr (wr.alloc (.cells #[.int .i64 q1, .int .i64 q2, .int .i64 q3, .slice qa qb.length qc] 76)) := by (repeat (first | with_reducible exact Fr.refl _ _ | with_reducible assumption | with_reducible refine Fr.drew ?_ | with_reducible refine Fr.drewN ?_ _ | with_reducible refine Fr.alloc ?_ _ | with_reducible refine Fr.setCell ?_ _ (.inl (by simp <;> omega)) _))
                  obtain ⟨v', w4, happ, hro', f4, -, -⟩ := append_blk (P := Try.prog) (wr.alloc (.cells #[.int .i64 q1, .int .i64 q2, .int .i64 q3, .slice qa qb.length qc] 76)) w5.heap.size 54 54 76 4 48 (.agg #[.int .i64 0, .int .i64 0, .int .i64 0, .slice none 0 0]) undMsgs infoMsg rfl (by decide) (ownsRow_keep HR.out f2 (fun _ _ => id)) [.int .i64 q1, .int .i64 q2, .int .i64 q3, .slice qa qb.length qc] rfl (by simp only [List.mem_cons, List.not_mem_nil, or_false]; rintro u (rfl | rfl | rfl | rfl) <;> rfl) (by omega) (by unfold maxLen; omega) (fr.trans0 f2).size
                  rw [show (wr.alloc (.cells #[.int .i64 q1, .int .i64 q2, .int .i64 q3, .slice qa qb.length qc] 76)).heap.size = wr.heap.size + 1 by simp] at happ
                  go_wp2_with (at_builtin; refine wpList_append_run rfl rfl rfl rfl happ ?_)
                  go_roundw
                  case rel =>
                    refine ⟨n + 1, by omega, by go_num, ?_, (fr.trans0 f2).trans f4 (fun i hi e => ?_)⟩
                    · rw [TK.out]; simpa [msC] using hro'
                    · have := (HR.out.lt i e).1; omega
                  case measure => simp [intOf]; omega
                | false =>
                  rw [hq1, hq2] at TK
                  go_wp2
                  go_roundw
                  case rel => exact ⟨n + 1, by omega, by go_num, by rw [TK.out]; simpa using ownsRow_keep HR.out ((Fr.refl No wr).alloc _) (fun _ _ => id), by (repeat (first | with_reducible exact Fr.refl _ _ | with_reducible assumption | with_reducible refine Fr.drew ?_ | with_reducible refine Fr.drewN ?_ _ | with_reducible refine Fr.alloc ?_ _ | with_reducible refine Fr.setCell ?_ _ (.inl (by simp <;> omega)) _))⟩
                  case measure => simp [intOf]; omega
          · have : n = g.ms.length := by omega
            subst this
            rw [List.take_length] at hro
            obtain ⟨ma2, mc2, rfl, -⟩ := own_slice (ownsRow_zero hro)
            have HP2 := Lib.hid hro
            clear hro
            have R6 := Lib.hid (R5.out.keep fr)
            obtain ⟨k0, k1⟩ := R6.out.cells
            have k2 : wr.frozen? ⟨g.bl, 0, none⟩ = false := by simp [World.frozen?, R6.out.hb]
            have k3 : wr.frozen? ⟨g.bl, 1, none⟩ = false := by simp [World.frozen?, R6.out.hb]
            rw [HLV.out] at k0
            rw [HMV.out] at k1
            go_wp2
            go_ret
            refine ⟨rfl, _, _, putPM R2.out (f5.trans0 fr) (ownsRow_keep HP.out fr (fun _ _ => id)) HP2.out (Nat.le_refl _) f5.size (fun m hm => (List.mem_filter.1 hm).1), fun k hk => by have := (HP.out.lt k hk).1; have := f2.size; omega, fun k hk => by have := (HP2.out.lt k hk).1; have := (f2.trans0 f5).size; omega, ?_⟩
            exact (f2.trans0 (f5.trans0 fr)).of0.trans (Fr.setCell (W := fun i => i = g.bl) (Fr.setCell (W := fun i => i = g.bl) (Fr.refl _ wr) ⟨g.bl, 0, none⟩ (.inr rfl) _) ⟨g.bl, 1, none⟩ (.inr rfl) _) (fun _ _ h => h)
  · exact absurd hab hv.2.2.2.2
  · have hba : b ≤ a := by omega
    unfold lo hi
    rw [if_neg (by omega), if_neg (by omega)]
    go_enter Try.func37, Try.ntmps37
    go_wp2_with fail
    refine HF.out.mono ?_
    rintro e w1 ⟨rfl, rfl⟩
    go_wp2_with fail
    refine HH.out.mono ?_
    rintro e w2 ⟨rfl, f2⟩
    have R2 := Lib.hid (R.out.keep f2)
    obtain ⟨c0, c1⟩ := R2.out.cells
    obtain ⟨la, lc, hlv, hz⟩ := own_slice R2.out.hl
    have HL := Lib.hid (show w2.ownsRow 0 74 2 (.slice la g.ps.length lc) g.ps.length (g.ps.flatMap pairC) from hlv ▸ R2.out.hl)
    rw [hlv] at c0
    have HLV := Lib.hid hlv
    clear hlv
    go_wp2_with fail
    go_loopw [7, 27] (fun out i wr => ∃ n : Nat, n ≤ g.ps.length ∧ i = .int .i64 n ∧ wr.ownsRow w2.heap.size 74 2 out (psDrop (g.ps.take n) (b, a)).length ((psDrop (g.ps.take n) (b, a)).flatMap pairC) ∧ Fr No w2 wr) (fun _ i _ => g.ps.length - (intOf i).toNat)
    case atStart => exact ⟨0, Nat.zero_le _, rfl, World.ownsRow_nil _ _ _ _, Fr.refl _ _⟩
    case round =>
      obtain ⟨n, hn, rfl, hro, fr⟩ := hrel
      by_cases hlt : n < g.ps.length
      · have i1 : (n : Int) < (g.ps.length : Int) := by omega
        have hx : g.ps[n]? = some g.ps[n] := List.getElem?_eq_getElem hlt
        obtain ⟨gb, rfl⟩ := hz (by omega)
        obtain ⟨d1, d2⟩ := pair_at (ownsRow_keep HL.out fr (fun _ _ => id)) rfl hx
        have hT := psDrop_succ (p := (b, a)) hx
        have hbd := psDrop_le g.ps (b, a) n
        have TK := Lib.hid hT
        have HR := Lib.hid hro
        clear hx hT hro
        generalize psDrop (g.ps.take n) (b, a) = S at *
        generalize g.ps[n] = q at *
        obtain ⟨q1, q2⟩ := q
        simp only at d1 d2 TK
        cases hq1 : (q1 == b) with
        | false =>
          rw [hq1] at TK
          have f2 : Fr No wr (wr.alloc (.cells #[.int .i64 q1, .int .i64 q2] 74)) := by (repeat (first | with_reducible exact Fr.refl _ _ | with_reducible assumption | with_reducible refine Fr.drew ?_ | with_reducible refine Fr.drewN ?_ _ | with_reducible refine Fr.alloc ?_ _ | with_reducible refine Fr.setCell ?_ _ (.inl (by simp <;> omega)) _))
          obtain ⟨v', w4, happ, hro', f4, -, -⟩ := append_blk (P := Try.prog) (wr.alloc (.cells #[.int .i64 q1, .int .i64 q2] 74)) w2.heap.size 53 53 74 2 16 (.agg #[.int .i64 0, .int .i64 0]) undPairs infoPair rfl (by decide) (ownsRow_keep HR.out f2 (fun _ _ => id)) [.int .i64 q1, .int .i64 q2] rfl (by simp; exact ⟨rfl, rfl⟩) (by omega) (by unfold maxLen; omega) (fr.trans0 f2).size
          rw [show (wr.alloc (.cells #[.int .i64 q1, .int .i64 q2] 74)).heap.size = wr.heap.size + 1 by simp] at happ
          go_wp2_with (at_builtin; refine wpList_append_run rfl rfl rfl rfl happ ?_)
          go_roundw
          case rel =>
            refine ⟨n + 1, by omega, by go_num, ?_, (fr.trans0 f2).trans f4 (fun i hi e => ?_)⟩
            · rw [TK.out]; simpa [pairC] using hro'
            · have := (HR.out.lt i e).1; omega
          case measure => simp [intOf]; omega
        | true =>
          cases hq2 : (q2 == a) with
          | false =>
            rw [hq1, hq2] at TK
            have f2 : Fr No wr (wr.alloc (.cells #[.int .i64 q1, .int .i64 q2] 74)) := by (repeat (first | with_reducible exact Fr.refl _ _ | with_reducible assumption | with_reducible refine Fr.drew ?_ | with_reducible refine Fr.drewN ?_ _ | with_reducible refine Fr.alloc ?_ _ | with_reducible refine Fr.setCell ?_ _ (.inl (by simp <;> omega)) _))
            obtain ⟨v', w4, happ, hro', f4, -, -⟩ := append_blk (P := Try.prog) (wr.alloc (.cells #[.int .i64 q1, .int .i64 q2] 74)) w2.heap.size 53 53 74 2 16 (.agg #[.int .i64 0, .int .i64 0]) undPairs infoPair rfl (by decide) (ownsRow_keep HR.out f2 (fun _ _ => id)) [.int .i64 q1, .int .i64 q2] rfl (by simp; exact ⟨rfl, rfl⟩) (by omega) (by unfold maxLen; omega) (fr.trans0 f2).size
            rw [show (wr.alloc (.cells #[.int .i64 q1, .int .i64 q2] 74)).heap.size = wr.heap.size + 1 by simp] at happ
            go_wp2_with (at_builtin; refine wpList_append_run rfl rfl rfl rfl happ ?_)
            go_roundw
            case rel =>
              refine ⟨n + 1, by omega, by go_num, ?_, (fr.trans0 f2).trans f4 (fun i hi e => ?_)⟩
              · rw [TK.out]; simpa [pairC] using hro'
              · have := (HR.out.lt i e).1; omega
            case measure => simp [intOf]; omega
          | true =>
            rw [hq1, hq2] at TK
            go_wp2
            go_roundw
            case rel => exact ⟨n + 1, by omega, by go_num, by rw [TK.out]; simpa using ownsRow_keep HR.out ((Fr.refl No wr).alloc _) (fun _ _ => id), by (repeat (first | with_reducible exact Fr.refl _ _ | with_reducible assumption | with_reducible refine Fr.drew ?_ | with_reducible refine Fr.drewN ?_ _ | with_reducible refine Fr.alloc ?_ _ | with_reducible refine Fr.setCell ?_ _ (.inl (by simp <;> omega)) _))⟩
            case measure => simp [intOf]; omega
      · have : n = g.ps.length := by omega
        subst this
        rw [List.take_length] at hro
        obtain ⟨pa, pc, rfl, -⟩ := own_slice (ownsRow_zero hro)
        have HP := Lib.hid hro
        clear hro
        have R5 := Lib.hid (R2.out.keep fr)
        obtain ⟨k0, k1⟩ := R5.out.cells
        obtain ⟨ma, mc, hmv, hz2⟩ := own_slice R5.out.hm
        have HM := Lib.hid (show wr.ownsRow 0 76 4 (.slice ma g.ms.length mc) g.ms.length (g.ms.flatMap msC) from hmv ▸ R5.out.hm)
        rw [hmv] at k1
        have HMV := Lib.hid hmv
        have HV := Lib.hid R5.out.hv
        clear hmv
        obtain ⟨w5, rfl⟩ : ∃ wo : World, wo = wr := ⟨_, rfl⟩
        have f5 := fr
        clear fr
        go_wp2_with fail
        go_loopw [10, 50] (fun out i wr => ∃ n : Nat, n ≤ g.ms.length ∧ i = .int .i64 n ∧ wr.ownsRow w5.heap.size 76 4 out (msDrop (g.ms.take n) (b, a)).length ((msDrop (g.ms.take n) (b, a)).flatMap msC) ∧ Fr No w5 wr) (fun _ i _ => g.ms.length - (intOf i).toNat)
        case atStart => exact ⟨0, Nat.zero_le _, rfl, World.ownsRow_nil _ _ _ _, Fr.refl _ _⟩
        case round =>
          obtain ⟨n, hn, rfl, hro, fr⟩ := hrel
          by_cases hlt : n < g.ms.length
          · have i1 : (n : Int) < (g.ms.length : Int) := by omega
            have hx : g.ms[n]? = some g.ms[n] := List.getElem?_eq_getElem hlt
            obtain ⟨gb, rfl⟩ := hz2 (by omega)
            obtain ⟨d1, d2, d3, d4⟩ := ms_at (ownsRow_keep HM.out fr (fun _ _ => id)) rfl hx
            have hT := msDrop_succ (p := (b, a)) hx
            have hbd := msDrop_le g.ms (b, a) n
            have hsv := HV.out g.ms[n] (List.getElem_mem hlt)
            have TK := Lib.hid hT
            have HR := Lib.hid hro
            clear hx hT hro
            generalize msDrop (g.ms.take n) (b, a) = S at *
            generalize g.ms[n] = q at *
            obtain ⟨⟨q1, q2, q3⟩, qv, qb⟩ := q
            obtain ⟨qa, qc, hqv⟩ := hsv.arg.form
            simp only at hqv
            subst hqv
            clear hsv
            simp only at d1 d2 d3 d4 TK
            rcases Int.lt_trichotomy q1 q2 with hq | hq | hq
            · have hq' : q1 ≤ q2 := by omega
              rw [show lo q1 q2 = q1 from if_pos hq', show hi q1 q2 = q2 from if_pos hq'] at TK
              cases hq1 : (q1 != b) with
              | true =>
                rw [hq1] at TK
                have f2 : Fr No wr (wr.alloc (.cells #[.int .i64 q1, .int .i64 q2, .int .i64 q3, .slice qa qb.length qc] 76)) := by (repeat (first | with_reducible exact Fr.refl _ _ | with_reducible assumption | with_reducible refine Fr.drew ?_ | with_reducible refine Fr.drewN ?_ _ | with_reducible refine Fr.alloc ?_ _ | with_reducible refine Fr.setCell ?_ _ (.inl (by simp <;> omega)) _))
                obtain ⟨v', w4, happ, hro', f4, -, -⟩ := append_blk (P := Try.prog) (wr.alloc (.cells #[.int .i64 q1, .int .i64 q2, .int .i64 q3, .slice qa qb.length qc] 76)) w5.heap.size 54 54 76 4 48 (.agg #[.int .i64 0, .int .i64 0, .int .i64 0, .slice none 0 0]) undMsgs infoMsg rfl (by decide) (ownsRow_keep HR.out f2 (fun _ _ => id)) [.int .i64 q1, .int .i64 q2, .int .i64 q3, .slice qa qb.length qc] rfl (by simp only [List.mem_cons, List.not_mem_nil, or_false]; rintro u (rfl | rfl | rfl | rfl) <;> rfl) (by omega) (by unfold maxLen; omega) (fr.trans0 f2).size
                rw [show (wr.alloc (.cells #[.int .i64 q1, .int .i64 q2, .int .i64 q3, .slice qa qb.length qc] 76)).heap.size = wr.heap.size + 1 by simp] at happ
                go_wp2_with (at_builtin; refine wpList_append_run rfl rfl rfl rfl happ ?_)
                go_roundw
                case rel =>
                  refine ⟨n + 1, by omega, by go_num, ?_, (fr.trans0 f2).trans f4 (fun i hi e => ?_)⟩
                  · rw [TK.out]; simpa [msC] using hro'
                  · have := (HR.out.lt i e).1; omega
                case measure => simp [intOf]; omega
              | false =>
                cases hq2 : (q2 != a) with
                | true =>
                  rw [hq1, hq2] at TK
                  have f2 : Fr No wr (wr.alloc (.cells #[.int .i64 q1, .int .i64 q2, .int .i64 q3, .slice qa qb.length qc] 76)) := by (repeat (first | with_reducible exact Fr.refl _ _ | with_reducible assumption | with_reducible refine Fr.drew ?_ | with_reducible refine Fr.drewN ?_ _ | with_reducible refine Fr.alloc ?_ _ | with_reducible refine Fr.setCell ?_ _ (.inl (by simp <;> omega)) _))
                  obtain ⟨v', w4, happ, hro', f4, -, -⟩ := append_blk (P := Try.prog) (wr.alloc (.cells #[.int .i64 q1, .int .i64 q2, .int .i64 q3, .slice qa qb.length qc] 76)) w5.heap.size 54 54 76 4 48 (.agg #[.int .i64 0, .int .i64 0, .int .i64 0, .slice none 0 0]) undMsgs infoMsg rfl (by decide) (ownsRow_keep HR.out f2 (fun _ _ => id)) [.int .i64 q1, .int .i64 q2, .int .i64 q3, .slice qa qb.length qc] rfl (by simp only [List.mem_cons, List.not_mem_nil, or_false]; rintro u (rfl | rfl | rfl | rfl) <;> rfl) (by omega) (by unfold maxLen; omega) (fr.trans0 f2).size
                  rw [show (wr.alloc (.cells #[.int .i64 q1, .int .i64 q2, .int .i64 q3, .slice qa qb.length qc] 76)).heap.size = wr.heap.size + 1 by simp] at happ
                  go_wp2_with (at_builtin; refine wpList_append_run rfl rfl rfl rfl happ ?_)
                  go_roundw
                  case rel =>
                    refine ⟨n + 1, by omega, by go_num, ?_, (fr.trans0 f2).trans f4 (fun i hi e => ?_)⟩
                    · rw [TK.out]; simpa [msC] using hro'
                    · have := (HR.out.lt i e).1; omega
                  case measure => simp [intOf]; omega
                | false =>
                  rw [hq1, hq2] at TK
                  go_wp2
                  go_roundw
                  case rel => exact ⟨n + 1, by omega, by go_num, by rw [TK.out]; simpa using ownsRow_keep HR.out ((Fr.refl No wr).alloc _) (fun _ _ => id), by (repeat (first | with_reducible exact Fr.refl _ _ | with_reducible assumption | with_reducible refine Fr.drew ?_ | with_reducible refine Fr.drewN ?_ _ | with_reducible refine Fr.alloc ?_ _ | with_reducible refine Fr.setCell ?_ _ (.inl (by simp <;> omega)) _))⟩
                  case measure => simp [intOf]; omega
            · subst hq
              rw [show lo q1 q1 = q1 from if_pos (Int.le_refl _), show hi q1 q1 = q1 from if_pos (Int.le_refl _)] at TK
              cases hq1 : (q1 != b) with
              | true =>
                rw [hq1] at TK
                have f2 : Fr No wr (wr.alloc (.cells #[.int .i64 q1, .int .i64 q1, .int .i64 q3, .slice qa qb.length qc] 76)) := by (repeat (first | with_reducible exact Fr.refl _ _ | with_reducible assumption | with_reducible refine Fr.drew ?_ | with_reducible refine Fr.drewN ?_ _ | with_reducible refine Fr.alloc ?_ _ | with_reducible refine Fr.setCell ?_ _ (.inl (by simp <;> omega)) _))
                obtain ⟨v', w4, happ, hro', f4, -, -⟩ := append_blk (P := Try.prog) (wr.alloc (.cells #[.int .i64 q1, .int .i64 q1, .int .i64 q3, .slice qa qb.length qc] 76)) w5.heap.size 54 54 76 4 48 (.agg #[.int .i64 0, .int .i64 0, .int .i64 0, .slice none 0 0]) undMsgs infoMsg rfl (by decide) (ownsRow_keep HR.out f2 (fun _ _ => id)) [.int .i64 q1, .int .i64 q1, .int .i64 q3, .slice qa qb.length qc] rfl (by simp only [List.mem_cons, List.not_mem_nil, or_false]; rintro u (rfl | rfl | rfl | rfl) <;> rfl) (by omega) (by unfold maxLen; omega) (fr.trans0 f2).size
                rw [show (wr.alloc (.cells #[.int .i64 q1, .int .i64 q1, .int .i64 q3, .slice qa qb.length qc] 76)).heap.size = wr.heap.size + 1 by simp] at happ
                go_wp2_with (at_builtin; refine wpList_append_run rfl rfl rfl rfl happ ?_)
                go_roundw
                case rel =>
                  refine ⟨n + 1, by omega, by go_num, ?_, (fr.trans0 f2).trans f4 (fun i hi e => ?_)⟩
                  · rw [TK.out]; simpa [msC] using hro'
                  · have := (HR.out.lt i e).1; omega
                case measure => simp [intOf]; omega
              | false =>
                cases hq2 : (q1 != a) with
                | true =>
                  rw [hq1, hq2] at TK
                  have f2 : Fr No wr (wr.alloc (.cells #[.int .i64 q1, .int .i64 q1, .int .i64 q3, .slice qa qb.length qc] 76)) := by (repeat (first | with_reducible exact Fr.refl _ _ | with_reducible assumption | with_reducible refine Fr.drew ?_ | with_reducible refine Fr.drewN ?_ _ | with_reducible refine Fr.alloc ?_ _ | with_reducible refine Fr.setCell ?_ _ (.inl (by simp <;> omega)) _))
                  obtain ⟨v', w4, happ, hro', f4, -, -⟩ := append_blk (P := Try.prog) (wr.alloc (.cells #[.int .i64 q1, .int .i64 q1, .int .i64 q3, .slice qa qb.length qc] 76)) w5.heap.size 54 54 76 4 48 (.agg #[.int .i64 0, .int .i64 0, .int .i64 0, .slice none 0 0]) undMsgs infoMsg rfl (by decide) (ownsRow_keep HR.out f2 (fun _ _ => id)) [.int .i64 q1, .int .i64 q1, .int .i64 q3, .slice qa qb.length qc] rfl (by simp only [List.mem_cons, List.not_mem_nil, or_false]; rintro u (rfl | rfl | rfl | rfl) <;> rfl) (by omega) (by unfold maxLen; omega) (fr.trans0 f2).size
                  rw [show (wr.alloc (.cells #[.int .i64 q1, .int .i64 q1, .int .i64 q3, .slice qa qb.length qc] 76)).heap.size = wr.heap.size + 1 by simp] at happ
                  go_wp2_with (at_builtin; refine wpList_append_run rfl rfl rfl rfl happ ?_)
                  go_roundw
                  case rel =>
                    refine ⟨n + 1, by omega, by go_num, ?_, (fr.trans0 f2).trans f4 (fun i hi e => ?_)⟩
                    · rw [TK.out]; simpa [msC] using hro'
                    · have := (HR.out.lt i e).1; omega
                  case measure => simp [intOf]; omega
                | false =>
                  rw [hq1, hq2] at TK
                  go_wp2
                  go_roundw
                  case rel => exact ⟨n + 1, by omega, by go_num, by rw [TK.out]; simpa using ownsRow_keep HR.out ((Fr.refl No wr).alloc _) (fun _ _ => id), by (repeat (first | with_reducible exact Fr.refl _ _ | with_reducible assumption | with_reducible refine Fr.drew ?_ | with_reducible refine Fr.drewN ?_ _ | with_reducible refine Fr.alloc ?_ _ | with_reducible refine Fr.setCell ?_ _ (.inl (by simp <;> omega)) _))⟩
                  case measure => simp [intOf]; omega
            · have hq' : q2 ≤ q1 := by omega
              rw [show lo q1 q2 = q2 from if_neg (by omega), show hi q1 q2 = q1 from if_neg (by omega)] at TK
              cases hq1 : (q2 != b) with
              | true =>
                rw [hq1] at TK
                have f2 : Fr No wr (wr.alloc (.cells #[.int .i64 q1, .int .i64 q2, .int .i64 q3, .slice qa qb.length qc] 76)) := by (repeat (first | with_reducible exact Fr.refl _ _ | with_reducible assumption | with_reducible refine Fr.drew ?_ | with_reducible refine Fr.drewN ?_ _ | with_reducible refine Fr.alloc ?_ _ | with_reducible refine Fr.setCell ?_ _ (.inl (by simp <;> omega)) _))
                obtain ⟨v', w4, happ, hro', f4, -, -⟩ := append_blk (P := Try.prog) (wr.alloc (.cells #[.int .i64 q1, .int .i64 q2, .int .i64 q3, .slice qa qb.length qc] 76)) w5.heap.size 54 54 76 4 48 (.agg #[.int .i64 0, .int .i64 0, .int .i64 0, .slice none 0 0]) undMsgs infoMsg rfl (by decide) (ownsRow_keep HR.out f2 (fun _ _ => id)) [.int .i64 q1, .int .i64 q2, .int .i64 q3, .slice qa qb.length qc] rfl (by simp only [List.mem_cons, List.not_mem_nil, or_false]; rintro u (rfl | rfl | rfl | rfl) <;> rfl) (by omega) (by unfold maxLen; omega) (fr.trans0 f2).size
                rw [show (wr.alloc (.cells #[.int .i64 q1, .int .i64 q2, .int .i64 q3, .slice qa qb.length qc] 76)).heap.size = wr.heap.size + 1 by simp] at happ
                go_wp2_with (at_builtin; refine wpList_append_run rfl rfl rfl rfl happ ?_)
                go_roundw
                case rel =>
                  refine ⟨n + 1, by omega, by go_num, ?_, (fr.trans0 f2).trans f4 (fun i hi e => ?_)⟩
                  · rw [TK.out]; simpa [msC] using hro'
                  · have := (HR.out.lt i e).1; omega
                case measure => simp [intOf]; omega
              | false =>
                cases hq2 : (q1 != a) with
                | true =>
                  rw [hq1, hq2] at TK
                  have f2 : Fr No wr (wr.alloc (.cells #[.int .i64 q1, .int .i64 q2, .int .i64 q3, .slice qa qb.length qc] 76)) := by (repeat (first | with_reducible exact Fr.refl _ _ | with_reducible assumption | with_reducible refine Fr.drew ?_ | with_reducible refine Fr.drewN ?_ _ | with_reducible refine Fr.alloc ?_ _ | with_reducible refine Fr.setCell ?_ _ (.inl (by simp <;> omega)) _))
                  obtain ⟨v', w4, happ, hro', f4, -, -⟩ := append_blk (P := Try.prog) (wr.alloc (.cells #[.int .i64 q1, .int .i64 q2, .int .i64 q3, .slice qa qb.length qc] 76)) w5.heap.size 54 54 76 4 48 (.agg #[.int .i64 0, .int .i64 0, .int .i64 0, .slice none 0 0]) undMsgs infoMsg rfl (by decide) (ownsRow_keep HR.out f2 (fun _ _ => id)) [.int .i64 q1, .int .i64 q2, .int .i64 q3, .slice qa qb.length qc] rfl (by simp only [List.mem_cons, List.not_mem_nil, or_false]; rintro u (rfl | rfl | rfl | rfl) <;> rfl) (by omega) (by unfold maxLen; omega) (fr.trans0 f2).size
                  rw [show (wr.alloc (.cells #[.int .i64 q1, .int .i64 q2, .int .i64 q3, .slice qa qb.length qc] 76)).heap.size = wr.heap.size + 1 by simp] at happ
                  go_wp2_with (at_builtin; refine wpList_append_run rfl rfl rfl rfl happ ?_)
                  go_roundw
                  case rel =>
                    refine ⟨n + 1, by omega, by go_num, ?_, (fr.trans0 f2).trans f4 (fun i hi e => ?_)⟩
                    · rw [TK.out]; simpa [msC] using hro'
                    · have := (HR.out.lt i e).1; omega
                  case measure => simp [intOf]; omega
                | false =>
                  rw [hq1, hq2] at TK
                  go_wp2
                  go_roundw
                  case rel => exact ⟨n + 1, by omega, by go_num, by rw [TK.out]; simpa using ownsRow_keep HR.out ((Fr.refl No wr).alloc _) (fun _ _ => id), by (repeat (first | with_reducible exact Fr.refl _ _ | with_reducible assumption | with_reducible refine Fr.drew ?_ | with_reducible refine Fr.drewN ?_ _ | with_reducible refine Fr.alloc ?_ _ | with_reducible refine Fr.setCell ?_ _ (.inl (by simp <;> omega)) _))⟩
                  case measure => simp [intOf]; omega
          · have : n = g.ms.length := by omega
            subst this
            rw [List.take_length] at hro
            obtain ⟨ma2, mc2, rfl, -⟩ := own_slice (ownsRow_zero hro)
            have HP2 := Lib.hid hro
            clear hro
            have R6 := Lib.hid (R5.out.keep fr)
            obtain ⟨k0, k1⟩ := R6.out.cells
            have k2 : wr.frozen? ⟨g.bl, 0, none⟩ = false := by simp [World.frozen?, R6.out.hb]
            have k3 : wr.frozen? ⟨g.bl, 1, none⟩ = false := by simp [World.frozen?, R6.out.hb]
            rw [HLV.out] at k0
            rw [HMV.out] at k1
            go_wp2
            go_ret
            refine ⟨rfl, _, _, putPM R2.out (f5.trans0 fr) (ownsRow_keep HP.out fr (fun _ _ => id)) HP2.out (Nat.le_refl _) f5.size (fun m hm => (List.mem_filter.1 hm).1), fun k hk => by have := (HP.out.lt k hk).1; have := f2.size; omega, fun k hk => by have := (HP2.out.lt k hk).1; have := (f2.trans0 f5).size; omega, ?_⟩
            exact (f2.trans0 (f5.trans0 fr)).of0.trans (Fr.setCell (W := fun i => i = g.bl) (Fr.setCell (W := fun i => i = g.bl) (Fr.refl _ wr) ⟨g.bl, 0, none⟩ (.inr rfl) _) ⟨g.bl, 1, none⟩ (.inr rfl) _) (fun _ _ h => h)
end Go.Proofs.Ytohcjfnekgnlcaa
