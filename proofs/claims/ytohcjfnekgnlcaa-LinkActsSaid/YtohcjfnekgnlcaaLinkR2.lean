/- The document's links: Len, Lane. -/
import Derived.Test.YtohcjfnekgnlcaaLinkR1
namespace Go.Proofs.Ytohcjfnekgnlcaa
open Go Go.RowKit Go.Maps Go.MapKept

theorem ms_at {w : World} {g : Nat} {n cap : Nat} {ms : List Ms} (h : w.ownsRow 0 76 4 (.slice (some ⟨g, 0, none⟩) n cap) n (ms.flatMap msC)) {i : Nat} {m : Ms} (hn : n = ms.length) (hp : ms[i]? = some m) :
    w.cell? ⟨g, i * 4, none⟩ = some (.int .i64 m.k.1) ∧ w.cell? ⟨g, i * 4 + 1, none⟩ = some (.int .i64 m.k.2.1) ∧ w.cell? ⟨g, i * 4 + 2, none⟩ = some (.int .i64 m.k.2.2) ∧ w.cell? ⟨g, i * 4 + 3, none⟩ = some m.v := by
  have hi : i < ms.length := (List.getElem?_eq_some_iff.1 hp).1
  have hk : ∀ x ∈ ms, (msC x).length = 4 := fun _ _ => rfl
  refine ⟨?_, ?_, ?_, ?_⟩
  · rw [h.cellAt (i * 4) (by omega)]
    exact flat_at msC 4 ms hk i m hp 0 (by omega)
  · rw [h.cellAt (i * 4 + 1) (by omega)]
    exact flat_at msC 4 ms hk i m hp 1 (by omega)
  · rw [h.cellAt (i * 4 + 2) (by omega)]
    exact flat_at msC 4 ms hk i m hp 2 (by omega)
  · rw [h.cellAt (i * 4 + 3) (by omega)]
    exact flat_at msC 4 ms hk i m hp 3 (by omega)

def cntR (ms : List Ms) (kd : Int) : Nat := (ms.filter fun m => m.k.2.2 == kd).length
def laneR (ms : List Ms) (k : Int × Int × Int) : List Ms := ms.filter fun m => (m.k.1 == k.1) && (m.k.2.1 == k.2.1) && (m.k.2.2 == k.2.2)

set_option maxHeartbeats 2000000 in
theorem lenR_any (w : World) (g : RfG) (h : RfAt w g) (hle : g.ms.length ≤ 1000000) (kd : Int) :
    Calls Try.prog 27 #[.pointer (some ⟨g.bl, 0, none⟩), .int .i64 kd] w fun e w' => e = .returned (.int .i64 (cntR g.ms kd)) ∧ Fr No w w' := by
  obtain ⟨c0, c1⟩ := h.cells
  obtain ⟨la, lc, hlv, hz⟩ := own_slice h.hm
  have hl := h.hm
  have hv := h.hv
  rw [hlv] at hl c1
  have HL := Lib.hid hl
  have HV := Lib.hid hv
  clear hl hlv h hv
  unfold cntR
  go_enter Try.func27, Try.ntmps27
  go_wp2_with fail
  go_loopw [5, 13] (fun s i wr => ∃ n : Nat, n ≤ g.ms.length ∧ i = .int .i64 n ∧ s = .int .i64 (((g.ms.take n).filter fun m => m.k.2.2 == kd).length : Nat) ∧ Fr No w wr) (fun _ i _ => g.ms.length - (intOf i).toNat)
  case atStart => exact ⟨0, Nat.zero_le _, rfl, rfl, Fr.refl _ _⟩
  case round =>
    obtain ⟨n, hn, rfl, rfl, fr⟩ := hrel
    by_cases hlt : n < g.ms.length
    · have i1 : (n : Int) < (g.ms.length : Int) := by omega
      have hx : g.ms[n]? = some g.ms[n] := List.getElem?_eq_getElem hlt
      obtain ⟨gb, rfl⟩ := hz (by omega)
      obtain ⟨d1, d2, d3, d4⟩ := ms_at (ownsRow_keep HL.out fr (fun _ _ => id)) rfl hx
      have hT : ((g.ms.take (n + 1)).filter fun m => m.k.2.2 == kd).length = ((g.ms.take n).filter fun m => m.k.2.2 == kd).length + (if g.ms[n].k.2.2 == kd then 1 else 0) := by
        rw [mem_take_succ hx, List.filter_append, List.length_append]
        congr 1
        simp only [List.filter_cons, List.filter_nil]
        split <;> rfl
      have hbd : ((g.ms.take n).filter fun m => m.k.2.2 == kd).length ≤ n := Nat.le_trans (List.length_filter_le _ _) (by rw [List.length_take]; omega)
      have hsv := HV.out g.ms[n] (List.getElem_mem hlt)
      have TK := Lib.hid hT
      clear hx hT
      generalize ((g.ms.take n).filter fun m => m.k.2.2 == kd).length = S at *
      generalize g.ms[n] = q at *
      obtain ⟨⟨q1, q2, q3⟩, qv, qb⟩ := q
      obtain ⟨qa, qc, hqv⟩ := hsv.arg.form
      simp only at hqv
      subst hqv
      clear hsv
      simp only at d1 d2 d3 d4 TK
      cases hk : (q3 == kd) with
      | false =>
        rw [hk] at TK
        go_wp2
        go_roundw
        case rel => exact ⟨n + 1, by omega, by go_num, by rw [TK.out]; simp, by (repeat (first | with_reducible exact Fr.refl _ _ | with_reducible assumption | with_reducible refine Fr.drew ?_ | with_reducible refine Fr.drewN ?_ _ | with_reducible refine Fr.alloc ?_ _ | with_reducible refine Fr.setCell ?_ _ (.inl (by simp <;> omega)) _))⟩
        case measure => simp [intOf]; omega
      | true =>
        rw [hk] at TK
        go_wp2
        go_roundw
        case rel => exact ⟨n + 1, by omega, by go_num, by rw [TK.out]; simp, by (repeat (first | with_reducible exact Fr.refl _ _ | with_reducible assumption | with_reducible refine Fr.drew ?_ | with_reducible refine Fr.drewN ?_ _ | with_reducible refine Fr.alloc ?_ _ | with_reducible refine Fr.setCell ?_ _ (.inl (by simp <;> omega)) _))⟩
        case measure => simp [intOf]; omega
    · have : n = g.ms.length := by omega
      subst this
      rw [List.take_length]
      generalize hS : (g.ms.filter fun m => m.k.2.2 == kd).length = S at *
      have HS := Lib.hid hS
      clear hS
      go_wp2
      go_ret
      exact ⟨by rw [HS.out]; rfl, fr⟩

/-- What Lane leaves. -/
def LaneR (w : World) (L : List Ms) (e : Ending) (w' : World) : Prop := ∃ v, e = .returned v ∧ w'.ownsRow w.heap.size 28 1 v L.length (L.map (·.v)) ∧ Fr No w w'

set_option maxHeartbeats 2000000 in
theorem laneR_go (w : World) (g : RfG) (h : RfAt w g) (hle : g.ms.length ≤ 1000000) (a b k : Int) :
    Calls Try.prog 28 #[.pointer (some ⟨g.bl, 0, none⟩), .int .i64 a, .int .i64 b, .int .i64 k] w (LaneR w (laneR g.ms (a, b, k))) := by
  obtain ⟨c0, c1⟩ := h.cells
  obtain ⟨la, lc, hlv, hz⟩ := own_slice h.hm
  have hl := h.hm
  have hv := h.hv
  rw [hlv] at hl c1
  have HL := Lib.hid hl
  have HV := Lib.hid hv
  clear hl hlv h hv
  go_enter Try.func28, Try.ntmps28
  go_wp2_with fail
  go_loopw [9, 17] (fun out i wr => ∃ n : Nat, n ≤ g.ms.length ∧ i = .int .i64 n ∧ wr.ownsRow w.heap.size 28 1 out (laneR (g.ms.take n) (a, b, k)).length ((laneR (g.ms.take n) (a, b, k)).map (·.v)) ∧ Fr No w wr) (fun _ i _ => g.ms.length - (intOf i).toNat)
  case atStart => exact ⟨0, Nat.zero_le _, rfl, World.ownsRow_nil _ _ _ _, Fr.refl _ _⟩
  case round =>
    obtain ⟨n, hn, rfl, hro, fr⟩ := hrel
    by_cases hlt : n < g.ms.length
    · have i1 : (n : Int) < (g.ms.length : Int) := by omega
      have hx : g.ms[n]? = some g.ms[n] := List.getElem?_eq_getElem hlt
      obtain ⟨gb, rfl⟩ := hz (by omega)
      obtain ⟨d1, d2, d3, d4⟩ := ms_at (ownsRow_keep HL.out fr (fun _ _ => id)) rfl hx
      have hT : laneR (g.ms.take (n + 1)) (a, b, k) = laneR (g.ms.take n) (a, b, k) ++ (if ((g.ms[n].k.1 == a) && (g.ms[n].k.2.1 == b) && (g.ms[n].k.2.2 == k)) then [g.ms[n]] else []) := by
        rw [mem_take_succ hx]
        unfold laneR
        rw [List.filter_append]
        congr 1
        simp only [List.filter_cons, List.filter_nil]
      have hbd : (laneR (g.ms.take n) (a, b, k)).length ≤ n := Nat.le_trans (List.length_filter_le _ _) (by rw [List.length_take]; omega)
      have hsv := HV.out g.ms[n] (List.getElem_mem hlt)
      have TK := Lib.hid hT
      have HR := Lib.hid hro
      clear hx hT hro
      generalize laneR (g.ms.take n) (a, b, k) = S at *
      generalize g.ms[n] = q at *
      obtain ⟨⟨q1, q2, q3⟩, qv, qb⟩ := q
      obtain ⟨qa, qc, hqv⟩ := hsv.arg.form
      simp only at hqv
      subst hqv
      clear hsv
      simp only at d1 d2 d3 d4 TK
      cases hk1 : (q1 == a) with
      | false =>
        rw [hk1] at TK
        go_wp2
        go_roundw
        case rel => exact ⟨n + 1, by omega, by go_num, by rw [TK.out]; simpa using ownsRow_keep HR.out ((Fr.refl No wr).alloc _) (fun _ _ => id), by (repeat (first | with_reducible exact Fr.refl _ _ | with_reducible assumption | with_reducible refine Fr.drew ?_ | with_reducible refine Fr.drewN ?_ _ | with_reducible refine Fr.alloc ?_ _ | with_reducible refine Fr.setCell ?_ _ (.inl (by simp <;> omega)) _))⟩
        case measure => simp [intOf]; omega
      | true =>
        cases hk2 : (q2 == b) with
        | false =>
          rw [hk1, hk2] at TK
          go_wp2
          go_roundw
          case rel => exact ⟨n + 1, by omega, by go_num, by rw [TK.out]; simpa using ownsRow_keep HR.out ((Fr.refl No wr).alloc _) (fun _ _ => id), by (repeat (first | with_reducible exact Fr.refl _ _ | with_reducible assumption | with_reducible refine Fr.drew ?_ | with_reducible refine Fr.drewN ?_ _ | with_reducible refine Fr.alloc ?_ _ | with_reducible refine Fr.setCell ?_ _ (.inl (by simp <;> omega)) _))⟩
          case measure => simp [intOf]; omega
        | true =>
          cases hk3 : (q3 == k) with
          | false =>
            rw [hk1, hk2, hk3] at TK
            go_wp2
            go_roundw
            case rel => exact ⟨n + 1, by omega, by go_num, by rw [TK.out]; simpa using ownsRow_keep HR.out ((Fr.refl No wr).alloc _) (fun _ _ => id), by (repeat (first | with_reducible exact Fr.refl _ _ | with_reducible assumption | with_reducible refine Fr.drew ?_ | with_reducible refine Fr.drewN ?_ _ | with_reducible refine Fr.alloc ?_ _ | with_reducible refine Fr.setCell ?_ _ (.inl (by simp <;> omega)) _))⟩
            case measure => simp [intOf]; omega
          | true =>
            rw [hk1, hk2, hk3] at TK
            have f2 : Fr No wr (wr.alloc (.cells #[.int .i64 q1, .int .i64 q2, .int .i64 q3, .slice qa qb.length qc] 76)) := by (repeat (first | with_reducible exact Fr.refl _ _ | with_reducible assumption | with_reducible refine Fr.drew ?_ | with_reducible refine Fr.drewN ?_ _ | with_reducible refine Fr.alloc ?_ _ | with_reducible refine Fr.setCell ?_ _ (.inl (by simp <;> omega)) _))
            obtain ⟨v', w4, happ, hro', f4, -, -⟩ := append_blk (P := Try.prog) (wr.alloc (.cells #[.int .i64 q1, .int .i64 q2, .int .i64 q3, .slice qa qb.length qc] 76)) w.heap.size 35 35 28 1 24 (.slice none 0 0) undRows (by kernel_rfl) rfl (by decide) (ownsRow_keep HR.out f2 (fun _ _ => id)) [.slice qa qb.length qc] rfl (by simp; rfl) (by omega) (by unfold maxLen; omega) (fr.trans0 f2).size
            rw [show (wr.alloc (.cells #[.int .i64 q1, .int .i64 q2, .int .i64 q3, .slice qa qb.length qc] 76)).heap.size = wr.heap.size + 1 by simp] at happ
            go_wp2_with (at_builtin; refine wpList_append_run rfl rfl rfl rfl happ ?_)
            go_roundw
            case rel =>
              refine ⟨n + 1, by omega, by go_num, ?_, (fr.trans0 f2).trans f4 (fun i hi e => ?_)⟩
              · rw [TK.out]; simpa using hro'
              · have := (HR.out.lt i e).1; omega
            case measure => simp [intOf]; omega
    · have : n = g.ms.length := by omega
      subst this
      rw [List.take_length] at hro
      have HFIN := Lib.hid (show LaneR w (laneR g.ms (a, b, k)) (.returned u9) wr from ⟨_, rfl, hro, fr⟩)
      clear hro
      go_wp2
      go_ret
      exact HFIN.out
end Go.Proofs.Ytohcjfnekgnlcaa
