/- pappuslaw09: acts, great. -/
import Derived.Test.YtoaefhjmpfchiaaCoiT
import Derived.IntWalk
namespace Go
open Go.RowKit Go.Maps Go.MapKept
section
variable {P : Program} {o : Oper} {w : World} {ev : Operand → Value} {x y : Operand}
theorem exec_min {k : IntKind} {a b m : Int} {ts : Array TypeId} (ho : o.op = .call { callee := .builtin .min, args := #[x, y], argTypes := ts }) (hx : ev x = .int k a) (hy : ev y = .int k b) (hm : (if b < a then b else a) = m) : (execOp ev o).run P w = .ok (.value (.int k m)) w := by
  subst hm
  simp [execOp, ho, resolve, hx, hy, invoke, builtin, Builtin.min_, Builtin.min2, List.foldlM]
end
end Go
namespace Go.Proofs.Ytoaefhjmpfchiaa
open Go Go.RowKit Go.Maps Go.MapKept

structure ActC where
  kind : Int
  cs : List CoinD
  ps : List PointD
/-- v is a slice of acts. -/
def CActsIs (w : World) (v : Value) (L : List ActC) : Prop :=
  ∃ va vc, v = .slice va L.length vc ∧ L.length ≤ maxLen ∧ ∀ (i : Nat) (d : ActC), L[i]? = some d → ∃ b off xa xc ya yc, va = some ⟨b, off, none⟩ ∧
    w.cell? ⟨b, off + i * 3, none⟩ = some (.int .i64 d.kind) ∧ w.cell? ⟨b, off + i * 3 + 1, none⟩ = some (.slice xa d.cs.length xc) ∧ w.cell? ⟨b, off + i * 3 + 2, none⟩ = some (.slice ya d.ps.length yc) ∧
    CoinsIs w (.slice xa d.cs.length xc) d.cs ∧ PointsIs w (.slice ya d.ps.length yc) d.ps
theorem CActsIs.keep {w w' : World} {v : Value} {L : List ActC} (h : CActsIs w v L) (f : Fr No w w') : CActsIs w' v L := by
  obtain ⟨va, vc, e, hl, h⟩ := h
  refine ⟨va, vc, e, hl, fun i d hi => ?_⟩
  obtain ⟨b, off, xa, xc, ya, yc, h0, h1, h2, h3, h4, h5⟩ := h i d hi
  exact ⟨b, off, xa, xc, ya, yc, h0, f.cell h1 id, f.cell h2 id, f.cell h3 id, h4.keep f, h5.keep f⟩
theorem CActsIs.at_ {w : World} {v : Value} {L : List ActC} (h : CActsIs w v L) {i : Nat} {d : ActC} (hx : L[i]? = some d) : ∃ b off xa xc ya yc cap, v = .slice (some ⟨b, off, none⟩) L.length cap ∧
    w.cell? ⟨b, off + i * 3, none⟩ = some (.int .i64 d.kind) ∧ w.cell? ⟨b, off + i * 3 + 1, none⟩ = some (.slice xa d.cs.length xc) ∧ w.cell? ⟨b, off + i * 3 + 2, none⟩ = some (.slice ya d.ps.length yc) ∧
    CoinsIs w (.slice xa d.cs.length xc) d.cs ∧ PointsIs w (.slice ya d.ps.length yc) d.ps := by
  obtain ⟨va, vc, rfl, -, h⟩ := h
  obtain ⟨b, off, xa, xc, ya, yc, e, h1⟩ := h i d hx
  subst e
  exact ⟨b, off, xa, xc, ya, yc, vc, rfl, h1⟩
def cwt (d : ActC) : Nat := min d.cs.length 501 + min d.ps.length 501
def cweigh (L : List ActC) : Nat := (L.map cwt).sum
def cgreat (L : List ActC) : Bool := decide (60 < L.length) || decide (500 < cweigh L)
theorem cweigh_take {L : List ActC} {n : Nat} {d : ActC} (h : L[n]? = some d) : cweigh (L.take (n + 1)) = cweigh (L.take n) + cwt d := by
  unfold cweigh
  rw [List.take_add_one, h]
  simp
theorem cweigh_le (L : List ActC) (n : Nat) : cweigh (L.take n) ≤ cweigh L := by
  unfold cweigh
  conv => rhs; rw [← List.take_append_drop n L]
  rw [List.map_append, List.sum_append]
  omega
theorem cmin (n : Nat) : (if (501 : Int) < (n : Int) then (501 : Int) else (n : Int)) = ((min n 501 : Nat) : Int) := by
  split <;> omega
def CGreatOk (w : World) (L : List ActC) (e : Ending) (w' : World) : Prop := e = .returned (.bool (cgreat L)) ∧ Fr No w w'
set_option maxRecDepth 100000 in
set_option maxHeartbeats 1000000 in
theorem cgreat_any (w : World) (v : Value) (L : List ActC) (h : CActsIs w v L) : Calls Try.prog 19 #[v] w (CGreatOk w L) := by
  have h' := h
  obtain ⟨va, vc, rfl, hl, hcell⟩ := h
  unfold maxLen at hl
  by_cases h60 : 60 < L.length
  · have e1 : decide ((60 : Int) < (L.length : Int)) = true := by simp; omega
    have HF := Lib.hid (show ∀ w', Fr No w w' → CGreatOk w L (.returned (.bool true)) w' from fun w' f => ⟨by simp [cgreat, h60], f⟩)
    clear h' hcell h60
    go_enter Try.func19, Try.ntmps19
    go_wp2
    go_ret
    exact HF.out _ (by (repeat (first | with_reducible exact Fr.refl _ _ | with_reducible assumption | with_reducible refine Fr.drew ?_ | with_reducible refine Fr.drewN ?_ _ | with_reducible refine Fr.alloc ?_ _ | with_reducible refine Fr.setCell ?_ _ (.inl (by simp <;> omega)) _)))
  · have e1 : decide ((60 : Int) < (L.length : Int)) = false := by simp; omega
    have hl3 : L.length ≤ 60 := by omega
    go_enter Try.func19, Try.ntmps19
    go_wp2
    go_loopw [3, 11] (fun s i wr => ∃ n : Nat, n ≤ L.length ∧ i = .int .i64 n ∧ s = .int .i64 (cweigh (L.take n)) ∧ cweigh (L.take n) ≤ 500 ∧ Fr No w wr) (fun _ i _ => L.length - (intOf i).toNat)
    case atStart => exact ⟨0, Nat.zero_le _, rfl, rfl, by simp [cweigh], Fr.refl _ _⟩
    case round =>
      obtain ⟨n, hn, rfl, rfl, hwt, hfr⟩ := hrel
      by_cases hlt : n < L.length
      · obtain ⟨b, off, xa, xc, ya, yc, rfl, c0, c1, c2, -, -⟩ := hcell n L[n] (List.getElem?_eq_getElem hlt)
        have hws := cweigh_take (List.getElem?_eq_getElem hlt)
        have d0 := hfr.cell c0 id
        have d1 := hfr.cell c1 id
        have d2 := hfr.cell c2 id
        have hle := cweigh_le L (n + 1)
        have HLE := Lib.hid hle
        clear c0 c1 c2 hcell h' hle
        generalize L[n] = d at *
        have i1 : (n : Int) < (L.length : Int) := by omega
        have hwd : cwt d = min d.cs.length 501 + min d.ps.length 501 := rfl
        rw [hwd] at hws
        have HW := Lib.hid hws
        clear hwd hws
        have hw1 : (cweigh (L.take n) : Int) ≤ 500 := by omega
        have hw0 : (0 : Int) ≤ (cweigh (L.take n) : Int) := by omega
        by_cases hA : (500 : Int) < (cweigh (L.take n) : Int) + (min (d.cs.length : Int) 501 + min (d.ps.length : Int) 501)
        · have HF := Lib.hid (show ∀ w', Fr No w w' → CGreatOk w L (.returned (.bool true)) w' from fun w' f => ⟨by
            have h1 := HW.out; have h2 := HLE.out
            have : 500 < cweigh L := by omega
            simp [cgreat, this], f⟩)
          have hs : decide ((500 : Int) < (cweigh (L.take n) : Int) + (min (d.cs.length : Int) 501 + min (d.ps.length : Int) 501)) = true := decide_eq_true hA
          clear hwt hA
          go_wp2
          go_ret
          exact HF.out _ (by (repeat (first | with_reducible exact Fr.refl _ _ | with_reducible assumption | with_reducible refine Fr.drew ?_ | with_reducible refine Fr.drewN ?_ _ | with_reducible refine Fr.alloc ?_ _ | with_reducible refine Fr.setCell ?_ _ (.inl (by simp <;> omega)) _)))
        · have hs : decide ((500 : Int) < (cweigh (L.take n) : Int) + (min (d.cs.length : Int) 501 + min (d.ps.length : Int) 501)) = false := decide_eq_false hA
          have HN := Lib.hid (show (cweigh (L.take n) : Int) + (min (d.cs.length : Int) 501 + min (d.ps.length : Int) 501) = (cweigh (L.take (n + 1)) : Int) by rw [HW.out]; omega)
          have HN2 := Lib.hid (show cweigh (L.take (n + 1)) ≤ 500 by rw [HW.out]; omega)
          clear hA
          go_wp2
          go_roundw
          case rel => exact ⟨n + 1, by omega, by go_num, by rw [HN.out], HN2.out, by (repeat (first | with_reducible exact Fr.refl _ _ | with_reducible assumption | with_reducible refine Fr.drew ?_ | with_reducible refine Fr.drewN ?_ _ | with_reducible refine Fr.alloc ?_ _ | with_reducible refine Fr.setCell ?_ _ (.inl (by simp <;> omega)) _))⟩
          case measure => simp [intOf]; omega
      · have hnx : n = L.length := by omega
        have HF := Lib.hid (show CGreatOk w L (.returned (.bool false)) wr from ⟨by rw [hnx, List.take_length] at hwt; simp [cgreat]; omega, hfr⟩)
        clear h' hcell
        go_wp2
        go_ret
        exact HF.out
end Go.Proofs.Ytoaefhjmpfchiaa
