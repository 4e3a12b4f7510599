/- link: Lane where there is none; Has at once; Ends. -/
import Derived.Test.YtohcjfnekgnlcaaLinkJ
namespace Go.Proofs.Ytohcjfnekgnlcaa
open Go Go.RowKit Go.Maps Go.MapKept

set_option maxHeartbeats 2000000 in
theorem lane_err (w : World) (g : LkG) (h : LinksAt w g) (a b k : Int) (hk : ¬ okWay g.op (a, b, k)) :
    Calls Try.prog 20 #[.pointer (some ⟨g.bl, 0, none⟩), .int .i64 a, .int .i64 b, .int .i64 k] w fun e w' => e = .returned (.slice none 0 0) ∧ Fr No w w' := by
  have he := errOf_no hk
  have hc := find_err w g h a b k hk
  generalize errOf g (a, b, k) = er at *
  have hn : (er != 0) = true := by rcases he with rfl | rfl <;> rfl
  clear he
  unfold wayV at hc
  have HC := Lib.hid hc
  clear hc
  go_enter Try.func20, Try.ntmps20
  go_wp2_with fail
  refine HC.out.mono ?_
  rintro e w1 ⟨rfl, f1⟩
  go_wp2
  go_ret
  exact ⟨rfl, by (repeat (first | with_reducible exact Fr.refl _ _ | with_reducible assumption | with_reducible refine Fr.drew ?_ | with_reducible refine Fr.drewN ?_ _ | with_reducible refine Fr.alloc ?_ _ | with_reducible refine Fr.setCell ?_ _ (.inl (by simp <;> omega)) _))⟩

theorem lane_not {w : World} {g : LkG} (h : LinksAt w g) {k : Int × Int × Int} (hk : ¬ okWay g.op k) : g.lane k = [] :=
  laneOf_miss fun x hx e => hk (e ▸ h.vl x hx)

theorem lane_any (w : World) (g : LkG) (h : LinksAt w g) (a b k : Int) (hb : ∀ bs ∈ g.lane (a, b, k), bs.length ≤ 140737488355328) :
    Calls Try.prog 20 #[.pointer (some ⟨g.bl, 0, none⟩), .int .i64 a, .int .i64 b, .int .i64 k] w (LaneOk w (g.lane (a, b, k))) := by
  by_cases hk : okWay g.op (a, b, k)
  · exact lane_ok w g h a b k hk hb
  · rw [lane_not h hk]
    refine (lane_err w g h a b k hk).mono ?_
    rintro e w' ⟨rfl, f⟩
    exact ⟨_, rfl, (RowsOwn.nil w' w.heap.size).rows, f⟩

/-- Are they linked? -/
def hasB (op : List (Int × Int)) (a b : Int) : Bool := decide (0 ≤ a ∧ a < 64 ∧ 0 ≤ b ∧ b < 64 ∧ a ≠ b) && decide ((lo a b, hi a b) ∈ op)

theorem hasB_vld {op : List (Int × Int)} {a b : Int} (h : hasB op a b = true) : vld a b ∧ (lo a b, hi a b) ∈ op := by
  simpa [hasB, vld] using h
theorem hasB_no1 {op : List (Int × Int)} {a b : Int} (h : ¬ vld a b) : hasB op a b = false := by
  cases e : hasB op a b
  · rfl
  · exact absurd (hasB_vld e).1 h
theorem hasB_no2 {op : List (Int × Int)} {a b : Int} (h : (lo a b, hi a b) ∉ op) : hasB op a b = false := by
  cases e : hasB op a b
  · rfl
  · exact absurd (hasB_vld e).2 h
theorem hasB_yes {op : List (Int × Int)} {a b : Int} (h : vld a b) (h2 : (lo a b, hi a b) ∈ op) : hasB op a b = true := by
  unfold vld at h; simp [hasB, h, h2]

theorem has_any (w : World) (g : LkG) (h : LinksAt w g) (a b : Int) :
    Calls Try.prog 23 #[.pointer (some ⟨g.bl, 0, none⟩), .int .i64 a, .int .i64 b] w fun e w' => e = .returned (.bool (hasB g.op a b)) ∧ Fr No w w' := by
  by_cases hv : vld a b
  · by_cases hin : (lo a b, hi a b) ∈ g.op
    · rw [hasB_yes hv hin]; exact has_yes w g h a b hv hin
    · rw [hasB_no2 hin]; exact has_no1 w g h a b hv hin
  · rw [hasB_no1 hv]; exact has_no2 w g.bl a b hv

/-- With whom one is linked. -/
def endsOf (op : List (Int × Int)) (a : Int) (n : Nat) : List Int := ((List.range n).map fun (i : Nat) => (i : Int)).filter (hasB op a)

theorem endsOf_succ (op : List (Int × Int)) (a : Int) (n : Nat) : endsOf op a (n + 1) = endsOf op a n ++ if hasB op a (n : Int) then [(n : Int)] else [] := by
  unfold endsOf
  rw [List.range_succ, List.map_append, List.filter_append]
  cases h : hasB op a (n : Int) <;> simp [h]
theorem endsOf_length (op : List (Int × Int)) (a : Int) (n : Nat) : (endsOf op a n).length ≤ n := by
  unfold endsOf
  exact Nat.le_trans (List.length_filter_le _ _) (by simp)

def intV (x : Int) : Value := .int .i64 x
def EndsOk (w : World) (L : List Int) (e : Ending) (w' : World) : Prop := ∃ v, e = .returned v ∧ w'.ownsRow w.heap.size 3 1 v L.length (L.map intV) ∧ Fr No w w'

theorem infoInt : (Try.prog.info? 3).map (fun i => (i.zero, i.size, i.bytes)) = some (some (.int .i64 0), 1, 8) := by kernel_rfl
theorem undInts : Try.prog.underlying 49 = some (.slice 3) := by kernel_rfl

set_option maxHeartbeats 2000000 in
theorem ends_any (w : World) (g : LkG) (h : LinksAt w g) (a : Int) :
    Calls Try.prog 24 #[.pointer (some ⟨g.bl, 0, none⟩), .int .i64 a] w (EndsOk w (endsOf g.op a 64)) := by
  go_enter Try.func24, Try.ntmps24
  go_wp2_with fail
  go_loopw [5, 7] (fun out i wr => ∃ n : Nat, n ≤ 64 ∧ i = .int .i64 n ∧ wr.ownsRow w.heap.size 3 1 out (endsOf g.op a n).length ((endsOf g.op a n).map intV) ∧ Fr No w wr) (fun _ i _ => 64 - (intOf i).toNat)
  case atStart => exact ⟨0, Nat.zero_le _, rfl, World.ownsRow_nil _ _ _ _, Fr.refl _ _⟩
  case round =>
    obtain ⟨n, hn, rfl, hro, hfr⟩ := hrel
    by_cases hlt : n < 64
    · have hl := endsOf_length g.op a n
      have hs := endsOf_succ g.op a n
      have hc := has_any wr g (h.keep0 hfr) a n
      have HC := Lib.hid hc
      have HR := Lib.hid hro
      clear hc hro
      cases hB : hasB g.op a n
      · rw [hB] at hs HC
        have HS := Lib.hid hs
        clear hs hB
        go_wp2_with fail
        refine HC.out.mono ?_
        rintro e w2 ⟨rfl, f2⟩
        go_wp2
        go_roundw
        case rel => exact ⟨n + 1, by omega, by go_num, by rw [HS.out]; simpa using ownsRow_keep HR.out f2 (fun _ _ => id), hfr.trans0 f2⟩
        case measure => simp [intOf]; omega
      · rw [hB] at hs HC
        have HS := Lib.hid hs
        clear hs hB
        go_wp2_with fail
        refine HC.out.mono ?_
        rintro e w2 ⟨rfl, f2⟩
        have hro2 := ownsRow_keep HR.out f2 (fun _ _ => id)
        obtain ⟨v', w4, happ, hro', f4, -, -⟩ := append_blk (P := Try.prog) w2 w.heap.size 49 49 3 1 8 (.int .i64 0) undInts infoInt rfl (by decide) hro2 [.int .i64 n] rfl (by simp; rfl) (by omega) (by unfold maxLen; omega) (hfr.trans0 f2).size
        clear hro2
        go_wp2_with (at_builtin; refine wpList_append_run rfl rfl rfl rfl happ ?_)
        go_roundw
        case rel =>
          refine ⟨n + 1, by omega, by go_num, ?_, (hfr.trans0 f2).trans f4 (fun i hi e => ?_)⟩
          · rw [HS.out]; simpa using (show w4.ownsRow w.heap.size 3 1 v' _ (_ ++ [intV n]) from hro')
          · have := (HR.out.lt i e).1; omega
        case measure => simp [intOf]; omega
    · have : n = 64 := by omega
      subst this
      have HFIN := Lib.hid (show EndsOk w (endsOf g.op a 64) (.returned u5) wr from ⟨_, rfl, hro, hfr⟩)
      clear hro
      go_wp2
      go_ret
      exact HFIN.out
end Go.Proofs.Ytohcjfnekgnlcaa
