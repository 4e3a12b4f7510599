/- The document's links as an object: pairs, and messages in their order; Has. -/
import Derived.Test.YtohcjfnekgnlcaaLinkY
namespace Go.Proofs.Ytohcjfnekgnlcaa
open Go Go.RowKit Go.Maps Go.MapKept

theorem flat_at {α β : Type} (f : α → List β) (k : Nat) : ∀ (L : List α), (∀ x ∈ L, (f x).length = k) → ∀ (i : Nat) (x : α), L[i]? = some x → ∀ r, r < k → (L.flatMap f)[i * k + r]? = (f x)[r]?
  | [], _, i, x, h, _, _ => by simp at h
  | y :: L, hk, 0, x, h, r, hr => by
    simp at h
    subst h
    rw [List.flatMap_cons, Nat.zero_mul, Nat.zero_add, List.getElem?_append_left (by rw [hk y (by simp)]; exact hr)]
  | y :: L, hk, i + 1, x, h, r, hr => by
    rw [List.flatMap_cons, List.getElem?_append_right (by rw [hk y (by simp), Nat.succ_mul]; omega), hk y (by simp)]
    rw [show (i + 1) * k + r - k = i * k + r by rw [Nat.succ_mul]; omega]
    exact flat_at f k L (fun x hx => hk x (by simp [hx])) i x (by simpa using h) r hr
theorem flat_len {α β : Type} (f : α → List β) (k : Nat) : ∀ (L : List α), (∀ x ∈ L, (f x).length = k) → (L.flatMap f).length = L.length * k
  | [], _ => by simp
  | y :: L, hk => by rw [List.flatMap_cons, List.length_append, hk y (by simp), flat_len f k L (fun x hx => hk x (by simp [hx])), List.length_cons, Nat.succ_mul]; omega

/-- A message: its way, its slice, its bytes. -/
structure Ms where
  k : Int × Int × Int
  v : Value
  bs : List Int
structure RfG where
  bl : Nat
  lv : Value
  mv : Value
  ps : List (Int × Int)
  ms : List Ms

def pairC (p : Int × Int) : List Value := [.int .i64 p.1, .int .i64 p.2]
def msC (m : Ms) : List Value := [.int .i64 m.k.1, .int .i64 m.k.2.1, .int .i64 m.k.2.2, m.v]

structure RfAt (w : World) (g : RfG) : Prop where
  hb : w.heap[g.bl]? = some (.cells #[g.lv, g.mv] 56 (0, 0))
  hl : w.ownsRow 0 74 2 g.lv g.ps.length (g.ps.flatMap pairC)
  hm : w.ownsRow 0 76 4 g.mv g.ms.length (g.ms.flatMap msC)
  hv : ∀ m ∈ g.ms, SliceIs w m.v m.bs.length (m.bs.map byteV)
  n1 : g.lv.ownBlock ≠ some g.bl
  n2 : g.mv.ownBlock ≠ some g.bl
  n3 : ∀ m ∈ g.ms, m.v.ownBlock ≠ some g.bl

theorem RfAt.keep {w w' : World} {g : RfG} (h : RfAt w g) (f : Fr No w w') : RfAt w' g :=
  { h with
    hb := f.obj h.hb id
    hl := ownsRow_keep h.hl f (fun _ _ => id)
    hm := ownsRow_keep h.hm f (fun _ _ => id)
    hv := fun m hm => (h.hv m hm).keep f (fun _ _ => id) }

theorem RfAt.cells {w : World} {g : RfG} (h : RfAt w g) : w.cell? ⟨g.bl, 0, none⟩ = some g.lv ∧ w.cell? ⟨g.bl, 1, none⟩ = some g.mv := by
  have := h.hb
  simp [World.cell?, this]
theorem pair_at {w : World} {g : Nat} {n cap : Nat} {ps : List (Int × Int)} (h : w.ownsRow 0 74 2 (.slice (some ⟨g, 0, none⟩) n cap) n (ps.flatMap pairC)) {i : Nat} {p : Int × Int} (hn : n = ps.length) (hp : ps[i]? = some p) :
    w.cell? ⟨g, i * 2, none⟩ = some (.int .i64 p.1) ∧ w.cell? ⟨g, i * 2 + 1, none⟩ = some (.int .i64 p.2) := by
  have hi : i < ps.length := (List.getElem?_eq_some_iff.1 hp).1
  have hk : ∀ x ∈ ps, (pairC x).length = 2 := fun _ _ => rfl
  constructor
  · rw [h.cellAt (i * 2) (by omega)]
    exact flat_at pairC 2 ps hk i p hp 0 (by omega)
  · rw [h.cellAt (i * 2 + 1) (by omega)]
    exact flat_at pairC 2 ps hk i p hp 1 (by omega)
theorem own_slice {w : World} {e : TypeId} {s n : Nat} {v : Value} {xs : List Value} (h : w.ownsRow 0 e s v n xs) : ∃ a cap, v = .slice a n cap ∧ (0 < n → ∃ g, a = some ⟨g, 0, none⟩) := by
  rcases h.2 with ⟨rfl, rfl⟩ | ⟨g, cap, cur, rfl, _⟩
  · exact ⟨none, 0, rfl, fun h => absurd h (by omega)⟩
  · exact ⟨_, _, rfl, fun _ => ⟨_, rfl⟩⟩

theorem mem_take_succ {α : Type} {L : List α} {n : Nat} {x : α} (h : L[n]? = some x) : L.take (n + 1) = L.take n ++ [x] := by rw [List.take_add_one, h]; rfl

set_option maxHeartbeats 2000000 in
theorem hasR_any (w : World) (g : RfG) (h : RfAt w g) (a b : Int) :
    Calls Try.prog 26 #[.pointer (some ⟨g.bl, 0, none⟩), .int .i64 a, .int .i64 b] w fun e w' => e = .returned (.bool (decide ((lo a b, hi a b) ∈ g.ps))) ∧ Fr No w w' := by
  obtain ⟨c0, c1⟩ := h.cells
  obtain ⟨la, lc, hlv, hz⟩ := own_slice h.hl
  have hbd := (h.hl.slice).len
  unfold maxLen at hbd
  have hl := h.hl
  rw [hlv] at hl c0
  have HL := Lib.hid hl
  clear hl hlv h
  unfold lo hi
  rcases Int.lt_trichotomy a b with hab | hab | hab
  · have hab2 : a ≤ b := by omega
    rw [if_pos hab2, if_pos hab2]
    go_enter Try.func26, Try.ntmps26
    go_wp2_with fail
    go_loopw [14] (fun i wr => ∃ n : Nat, n ≤ g.ps.length ∧ i = .int .i64 n ∧ (a, b) ∉ g.ps.take n ∧ Fr No w wr) (fun i _ => g.ps.length - (intOf i).toNat)
    case atStart => exact ⟨0, Nat.zero_le _, rfl, by simp, Fr.refl _ _⟩
    case round =>
      obtain ⟨n, hn, rfl, hno, fr⟩ := hrel
      by_cases hlt : n < g.ps.length
      · have i1 : (n : Int) < (g.ps.length : Int) := by omega
        have hx : g.ps[n]? = some g.ps[n] := List.getElem?_eq_getElem hlt
        obtain ⟨gb, rfl⟩ := hz (by omega)
        obtain ⟨d1, d2⟩ := pair_at (ownsRow_keep HL.out fr (fun _ _ => id)) rfl hx
        have TK := Lib.hid (mem_take_succ hx)
        have MEM := Lib.hid (List.getElem_mem hlt)
        clear hx
        generalize g.ps[n] = q at *
        obtain ⟨q1, q2⟩ := q
        have NO := Lib.hid hno
        clear hno
        simp only at d1 d2
        cases hq1 : (q1 == a) with
        | false =>
          go_wp2
          go_roundw
          case rel => exact ⟨n + 1, by omega, by go_num, by rw [TK.out]; simp at hq1; have := NO.out; simp [this, Ne.symm hq1], by (repeat (first | with_reducible exact Fr.refl _ _ | with_reducible assumption | with_reducible refine Fr.drew ?_ | with_reducible refine Fr.drewN ?_ _ | with_reducible refine Fr.alloc ?_ _ | with_reducible refine Fr.setCell ?_ _ (.inl (by simp <;> omega)) _))⟩
          case measure => simp [intOf]; omega
        | true =>
          cases hq2 : (q2 == b) with
          | false =>
            go_wp2
            go_roundw
            case rel => exact ⟨n + 1, by omega, by go_num, by rw [TK.out]; simp at hq2; have := NO.out; simp [this, Ne.symm hq2], by (repeat (first | with_reducible exact Fr.refl _ _ | with_reducible assumption | with_reducible refine Fr.drew ?_ | with_reducible refine Fr.drewN ?_ _ | with_reducible refine Fr.alloc ?_ _ | with_reducible refine Fr.setCell ?_ _ (.inl (by simp <;> omega)) _))⟩
            case measure => simp [intOf]; omega
          | true =>
            have hin : (a, b) ∈ g.ps := by simp at hq1 hq2; have := MEM.out; rw [hq1, hq2] at this; exact this
            have FIN : ∀ w', Fr No w w' → (Ending.returned (.bool true)) = Ending.returned (.bool (decide ((a, b) ∈ g.ps))) ∧ Fr No w w' := fun w' f => ⟨by simp [hin], f⟩
            have FF := Lib.hid FIN
            clear FIN hin
            go_wp2
            go_ret
            exact FF.out _ (by (repeat (first | with_reducible exact Fr.refl _ _ | with_reducible assumption | with_reducible refine Fr.drew ?_ | with_reducible refine Fr.drewN ?_ _ | with_reducible refine Fr.alloc ?_ _ | with_reducible refine Fr.setCell ?_ _ (.inl (by simp <;> omega)) _)))
      · have : n = g.ps.length := by omega
        have FIN : (Ending.returned (.bool false)) = Ending.returned (.bool (decide ((a, b) ∈ g.ps))) ∧ Fr No w wr := ⟨by rw [this, List.take_length] at hno; simp [hno], fr⟩
        have FF := Lib.hid FIN
        clear FIN hno
        go_wp2
        go_ret
        exact FF.out
  · subst hab
    rw [if_pos (Int.le_refl a)]
    go_enter Try.func26, Try.ntmps26
    go_wp2_with fail
    go_loopw [14] (fun i wr => ∃ n : Nat, n ≤ g.ps.length ∧ i = .int .i64 n ∧ (a, a) ∉ g.ps.take n ∧ Fr No w wr) (fun i _ => g.ps.length - (intOf i).toNat)
    case atStart => exact ⟨0, Nat.zero_le _, rfl, by simp, Fr.refl _ _⟩
    case round =>
      obtain ⟨n, hn, rfl, hno, fr⟩ := hrel
      by_cases hlt : n < g.ps.length
      · have i1 : (n : Int) < (g.ps.length : Int) := by omega
        have hx : g.ps[n]? = some g.ps[n] := List.getElem?_eq_getElem hlt
        obtain ⟨gb, rfl⟩ := hz (by omega)
        obtain ⟨d1, d2⟩ := pair_at (ownsRow_keep HL.out fr (fun _ _ => id)) rfl hx
        have TK := Lib.hid (mem_take_succ hx)
        have MEM := Lib.hid (List.getElem_mem hlt)
        clear hx
        generalize g.ps[n] = q at *
        obtain ⟨q1, q2⟩ := q
        have NO := Lib.hid hno
        clear hno
        simp only at d1 d2
        cases hq1 : (q1 == a) with
        | false =>
          go_wp2
          go_roundw
          case rel => exact ⟨n + 1, by omega, by go_num, by rw [TK.out]; simp at hq1; have := NO.out; simp [this, Ne.symm hq1], by (repeat (first | with_reducible exact Fr.refl _ _ | with_reducible assumption | with_reducible refine Fr.drew ?_ | with_reducible refine Fr.drewN ?_ _ | with_reducible refine Fr.alloc ?_ _ | with_reducible refine Fr.setCell ?_ _ (.inl (by simp <;> omega)) _))⟩
          case measure => simp [intOf]; omega
        | true =>
          cases hq2 : (q2 == a) with
          | false =>
            go_wp2
            go_roundw
            case rel => exact ⟨n + 1, by omega, by go_num, by rw [TK.out]; simp at hq2; have := NO.out; simp [this, Ne.symm hq2], by (repeat (first | with_reducible exact Fr.refl _ _ | with_reducible assumption | with_reducible refine Fr.drew ?_ | with_reducible refine Fr.drewN ?_ _ | with_reducible refine Fr.alloc ?_ _ | with_reducible refine Fr.setCell ?_ _ (.inl (by simp <;> omega)) _))⟩
            case measure => simp [intOf]; omega
          | true =>
            have hin : (a, a) ∈ g.ps := by simp at hq1 hq2; have := MEM.out; rw [hq1, hq2] at this; exact this
            have FIN : ∀ w', Fr No w w' → (Ending.returned (.bool true)) = Ending.returned (.bool (decide ((a, a) ∈ g.ps))) ∧ Fr No w w' := fun w' f => ⟨by simp [hin], f⟩
            have FF := Lib.hid FIN
            clear FIN hin
            go_wp2
            go_ret
            exact FF.out _ (by (repeat (first | with_reducible exact Fr.refl _ _ | with_reducible assumption | with_reducible refine Fr.drew ?_ | with_reducible refine Fr.drewN ?_ _ | with_reducible refine Fr.alloc ?_ _ | with_reducible refine Fr.setCell ?_ _ (.inl (by simp <;> omega)) _)))
      · have : n = g.ps.length := by omega
        have FIN : (Ending.returned (.bool false)) = Ending.returned (.bool (decide ((a, a) ∈ g.ps))) ∧ Fr No w wr := ⟨by rw [this, List.take_length] at hno; simp [hno], fr⟩
        have FF := Lib.hid FIN
        clear FIN hno
        go_wp2
        go_ret
        exact FF.out
  · have hba : b ≤ a := by omega
    rw [if_neg (by omega), if_neg (by omega)]
    go_enter Try.func26, Try.ntmps26
    go_wp2_with fail
    go_loopw [14] (fun i wr => ∃ n : Nat, n ≤ g.ps.length ∧ i = .int .i64 n ∧ (b, a) ∉ g.ps.take n ∧ Fr No w wr) (fun i _ => g.ps.length - (intOf i).toNat)
    case atStart => exact ⟨0, Nat.zero_le _, rfl, by simp, Fr.refl _ _⟩
    case round =>
      obtain ⟨n, hn, rfl, hno, fr⟩ := hrel
      by_cases hlt : n < g.ps.length
      · have i1 : (n : Int) < (g.ps.length : Int) := by omega
        have hx : g.ps[n]? = some g.ps[n] := List.getElem?_eq_getElem hlt
        obtain ⟨gb, rfl⟩ := hz (by omega)
        obtain ⟨d1, d2⟩ := pair_at (ownsRow_keep HL.out fr (fun _ _ => id)) rfl hx
        have TK := Lib.hid (mem_take_succ hx)
        have MEM := Lib.hid (List.getElem_mem hlt)
        clear hx
        generalize g.ps[n] = q at *
        obtain ⟨q1, q2⟩ := q
        have NO := Lib.hid hno
        clear hno
        simp only at d1 d2
        cases hq1 : (q1 == b) with
        | false =>
          go_wp2
          go_roundw
          case rel => exact ⟨n + 1, by omega, by go_num, by rw [TK.out]; simp at hq1; have := NO.out; simp [this, Ne.symm hq1], by (repeat (first | with_reducible exact Fr.refl _ _ | with_reducible assumption | with_reducible refine Fr.drew ?_ | with_reducible refine Fr.drewN ?_ _ | with_reducible refine Fr.alloc ?_ _ | with_reducible refine Fr.setCell ?_ _ (.inl (by simp <;> omega)) _))⟩
          case measure => simp [intOf]; omega
        | true =>
          cases hq2 : (q2 == a) with
          | false =>
            go_wp2
            go_roundw
            case rel => exact ⟨n + 1, by omega, by go_num, by rw [TK.out]; simp at hq2; have := NO.out; simp [this, Ne.symm hq2], by (repeat (first | with_reducible exact Fr.refl _ _ | with_reducible assumption | with_reducible refine Fr.drew ?_ | with_reducible refine Fr.drewN ?_ _ | with_reducible refine Fr.alloc ?_ _ | with_reducible refine Fr.setCell ?_ _ (.inl (by simp <;> omega)) _))⟩
            case measure => simp [intOf]; omega
          | true =>
            have hin : (b, a) ∈ g.ps := by simp at hq1 hq2; have := MEM.out; rw [hq1, hq2] at this; exact this
            have FIN : ∀ w', Fr No w w' → (Ending.returned (.bool true)) = Ending.returned (.bool (decide ((b, a) ∈ g.ps))) ∧ Fr No w w' := fun w' f => ⟨by simp [hin], f⟩
            have FF := Lib.hid FIN
            clear FIN hin
            go_wp2
            go_ret
            exact FF.out _ (by (repeat (first | with_reducible exact Fr.refl _ _ | with_reducible assumption | with_reducible refine Fr.drew ?_ | with_reducible refine Fr.drewN ?_ _ | with_reducible refine Fr.alloc ?_ _ | with_reducible refine Fr.setCell ?_ _ (.inl (by simp <;> omega)) _)))
      · have : n = g.ps.length := by omega
        have FIN : (Ending.returned (.bool false)) = Ending.returned (.bool (decide ((b, a) ∈ g.ps))) ∧ Fr No w wr := ⟨by rw [this, List.take_length] at hno; simp [hno], fr⟩
        have FF := Lib.hid FIN
        clear FIN hno
        go_wp2
        go_ret
        exact FF.out
end Go.Proofs.Ytohcjfnekgnlcaa
