/- great, grown. -/
import Derived.Test.YtohcjfnekgnlcaaLinkT
import Derived.Test.YtohcjfnekgnlcaaLinkS
namespace Go.Proofs.Ytohcjfnekgnlcaa
open Go Go.RowKit Go.Maps Go.MapKept

/-- v is a slice of acts. -/
def ActsIs (w : World) (v : Value) (L : List ActD) : Prop :=
  ∃ va vc, v = .slice va L.length vc ∧ L.length ≤ maxLen ∧ ∀ (i : Nat) (d : ActD), L[i]? = some d → ∃ b off ba bc, va = some ⟨b, off, none⟩ ∧
    w.cell? ⟨b, off + i * 6, none⟩ = some (.int .i64 d.kind) ∧ w.cell? ⟨b, off + i * 6 + 1, none⟩ = some (.int .i64 d.a) ∧ w.cell? ⟨b, off + i * 6 + 2, none⟩ = some (.int .i64 d.b) ∧
    w.cell? ⟨b, off + i * 6 + 3, none⟩ = some (.int .i64 d.lane) ∧ w.cell? ⟨b, off + i * 6 + 4, none⟩ = some (.int .i64 d.pick) ∧ w.cell? ⟨b, off + i * 6 + 5, none⟩ = some (.slice ba d.bytes.length bc) ∧
    ArgIs w (.slice ba d.bytes.length bc) d.bytes.length (d.bytes.map byteV) ∧ b < w.heap.size

theorem ActsIs.keep {w w' : World} {v : Value} {L : List ActD} (h : ActsIs w v L) {W : Nat → Prop} (f : Fr W w w') (hW : ∀ j, j < w.heap.size → ¬ W j) : ActsIs w' v L := by
  obtain ⟨va, vc, e, hl, h⟩ := h
  refine ⟨va, vc, e, hl, fun i d hi => ?_⟩
  obtain ⟨b, off, ba, bc, h0, h1, h2, h3, h4, h5, h6, h7, h8⟩ := h i d hi
  have hb := hW b h8
  exact ⟨b, off, ba, bc, h0, f.cell h1 hb, f.cell h2 hb, f.cell h3 hb, f.cell h4 hb, f.cell h5 hb, f.cell h6 hb, h7.below f hW, Nat.lt_of_lt_of_le h8 f.size⟩

def weigh (L : List ActD) : Nat := (L.map fun d => min d.bytes.length 20001).sum
def greatB (L : List ActD) : Bool := decide (300 < L.length) || decide (20000 < weigh L)

theorem weigh_take {L : List ActD} {n : Nat} {d : ActD} (h : L[n]? = some d) : weigh (L.take (n + 1)) = weigh (L.take n) + min d.bytes.length 20001 := by
  unfold weigh
  rw [List.take_add_one, h]
  simp
theorem weigh_le (L : List ActD) (n : Nat) : weigh (L.take n) ≤ weigh L := by
  unfold weigh
  conv => rhs; rw [← List.take_append_drop n L]
  rw [List.map_append, List.sum_append]
  omega
theorem weigh_mem {L : List ActD} {d : ActD} (h : d ∈ L) (hw : weigh L ≤ 20000) : d.bytes.length ≤ 20000 := by
  obtain ⟨A, B, rfl⟩ := List.append_of_mem h
  unfold weigh at hw
  simp at hw
  omega

def GreatOk (w : World) (L : List ActD) (e : Ending) (w' : World) : Prop := e = .returned (.bool (greatB L)) ∧ Fr No w w'

set_option maxRecDepth 100000 in
set_option maxHeartbeats 1000000 in
theorem great_any (w : World) (v : Value) (L : List ActD) (h : ActsIs w v L) : Calls Try.prog 17 #[v] w (GreatOk w L) := by
  have h' := h
  obtain ⟨va, vc, rfl, hl, hcell⟩ := h
  unfold maxLen at hl
  by_cases h300 : 300 < L.length
  · have e1 : decide ((300 : Int) < (L.length : Int)) = true := by simp; omega
    have HF := Lib.hid (show ∀ w', Fr No w w' → GreatOk w L (.returned (.bool true)) w' from fun w' f => ⟨by simp [greatB, h300], f⟩)
    clear h' hcell h300
    go_enter Try.func17, Try.ntmps17
    go_wp2
    go_ret
    exact HF.out _ (by (repeat (first | with_reducible exact Fr.refl _ _ | with_reducible assumption | with_reducible refine Fr.drew ?_ | with_reducible refine Fr.drewN ?_ _ | with_reducible refine Fr.alloc ?_ _ | with_reducible refine Fr.setCell ?_ _ (.inl (by simp <;> omega)) _)))
  · have e1 : decide ((300 : Int) < (L.length : Int)) = false := by simp; omega
    have hl3 : L.length ≤ 300 := by omega
    go_enter Try.func17, Try.ntmps17
    go_wp2
    go_loopw [3, 11] (fun s i wr => ∃ n : Nat, n ≤ L.length ∧ i = .int .i64 n ∧ s = .int .i64 (weigh (L.take n)) ∧ weigh (L.take n) ≤ 20000 ∧ Fr No w wr) (fun _ i _ => L.length - (intOf i).toNat)
    case atStart => exact ⟨0, Nat.zero_le _, rfl, rfl, by simp [weigh], Fr.refl _ _⟩
    case round =>
      obtain ⟨n, hn, rfl, rfl, hwt, hfr⟩ := hrel
      by_cases hlt : n < L.length
      · obtain ⟨b, off, ba, bc, rfl, c0, c1, c2, c3, c4, c5, c6, c7⟩ := hcell n L[n] (List.getElem?_eq_getElem hlt)
        have hws := weigh_take (List.getElem?_eq_getElem hlt)
        have hbl := ArgIs.len c6
        unfold maxLen at hbl
        have d0 := hfr.cell c0 id
        have d1 := hfr.cell c1 id
        have d2 := hfr.cell c2 id
        have d3 := hfr.cell c3 id
        have d4 := hfr.cell c4 id
        have d5 := hfr.cell c5 id
        have hle := weigh_le L (n + 1)
        have HW := Lib.hid hws
        have HLE := Lib.hid hle
        clear c0 c1 c2 c3 c4 c5 c6 c7 hcell h' hws hle
        generalize L[n] = d at *
        have i1 : (n : Int) < (L.length : Int) := by omega
        by_cases hA : (20001 : Int) < (d.bytes.length : Int)
        · have hs : decide ((20000 : Int) < (weigh (L.take n) : Int) + 20001) = true := by simp; omega
          have HF := Lib.hid (show ∀ w', Fr No w w' → GreatOk w L (.returned (.bool true)) w' from fun w' f => ⟨by
            have h1 := HW.out; have h2 := HLE.out
            have : 20000 < weigh L := by omega
            simp [greatB, this], f⟩)
          have hw0 : (0 : Int) ≤ (weigh (L.take n) : Int) := by omega
          have hw1 : (weigh (L.take n) : Int) ≤ 20000 := by omega
          clear hwt
          go_wp2
          go_ret
          exact HF.out _ (by (repeat (first | with_reducible exact Fr.refl _ _ | with_reducible assumption | with_reducible refine Fr.drew ?_ | with_reducible refine Fr.drewN ?_ _ | with_reducible refine Fr.alloc ?_ _ | with_reducible refine Fr.setCell ?_ _ (.inl (by simp <;> omega)) _)))
        · by_cases hB : (20000 : Int) < (weigh (L.take n) : Int) + (d.bytes.length : Int)
          · have hs : decide ((20000 : Int) < (weigh (L.take n) : Int) + (d.bytes.length : Int)) = true := by simp; omega
            have HF := Lib.hid (show ∀ w', Fr No w w' → GreatOk w L (.returned (.bool true)) w' from fun w' f => ⟨by
              have h1 := HW.out; have h2 := HLE.out
              have : 20000 < weigh L := by omega
              simp [greatB, this], f⟩)
            have hw0 : (0 : Int) ≤ (weigh (L.take n) : Int) := by omega
            have hw1 : (weigh (L.take n) : Int) ≤ 20000 := by omega
            clear hwt hB
            go_wp2
            go_ret
            exact HF.out _ (by (repeat (first | with_reducible exact Fr.refl _ _ | with_reducible assumption | with_reducible refine Fr.drew ?_ | with_reducible refine Fr.drewN ?_ _ | with_reducible refine Fr.alloc ?_ _ | with_reducible refine Fr.setCell ?_ _ (.inl (by simp <;> omega)) _)))
          · have hs : decide ((20000 : Int) < (weigh (L.take n) : Int) + (d.bytes.length : Int)) = false := by simp; omega
            have hw0 : (0 : Int) ≤ (weigh (L.take n) : Int) := by omega
            have hw1 : (weigh (L.take n) : Int) ≤ 20000 := by omega
            go_wp2
            go_roundw
            case rel => exact ⟨n + 1, by omega, by go_num, by rw [HW.out, Nat.min_eq_left (by omega)]; go_num, by rw [HW.out]; omega, by (repeat (first | with_reducible exact Fr.refl _ _ | with_reducible assumption | with_reducible refine Fr.drew ?_ | with_reducible refine Fr.drewN ?_ _ | with_reducible refine Fr.alloc ?_ _ | with_reducible refine Fr.setCell ?_ _ (.inl (by simp <;> omega)) _))⟩
            case measure => simp [intOf]; omega
      · have hnx : n = L.length := by omega
        have HF := Lib.hid (show GreatOk w L (.returned (.bool false)) wr from ⟨by rw [hnx, List.take_length] at hwt; simp [greatB]; omega, hfr⟩)
        clear h' hcell
        go_wp2
        go_ret
        exact HF.out

/-- The links behind acts, as the document sees them. -/
noncomputable def runM (m : LM) (L : List ActD) : LM := L.foldl (fun m d => (doM m d).1) m
def emptyM : LM := ⟨[], fun _ => []⟩

theorem runM_take {L : List ActD} {n : Nat} {d : ActD} (h : L[n]? = some d) : runM emptyM (L.take (n + 1)) = (doM (runM emptyM (L.take n)) d).1 := by
  unfold runM
  rw [List.take_add_one, h]
  simp

/-- What grown leaves. -/
def GrownOk (w : World) (L : List ActD) (e : Ending) (w' : World) : Prop :=
  ∃ g, e = .returned (.pointer (some ⟨g.bl, 0, none⟩)) ∧ LinksAt w' g ∧ g.lm = runM emptyM L ∧ (∀ k, g.W k → w.heap.size ≤ k) ∧ (∀ k, g.C k → w.heap.size ≤ k) ∧ Fr No w w' ∧ g.op.length ≤ L.length ∧ g.ln.length ≤ L.length

theorem new_lm (n : Nat) : (LkG.new n).lm = emptyM := rfl
theorem new_W {n k : Nat} (h : (LkG.new n).W k) : n ≤ k := by
  rcases h with rfl | rfl | rfl | ⟨x, hx, _⟩
  · show n ≤ n + 2; omega
  · exact Nat.le_refl _
  · show n ≤ n + 1; omega
  · simp [LkG.new] at hx
theorem new_C {n k : Nat} (h : (LkG.new n).C k) : False := by
  obtain ⟨x, hx, _⟩ := h
  simp [LkG.new] at hx

set_option maxHeartbeats 1000000 in
theorem grown_any (w : World) (v : Value) (L : List ActD) (h : ActsIs w v L) (hg : greatB L = false) : Calls Try.prog 18 #[v] w (GrownOk w L) := by
  have hgb : L.length ≤ 300 ∧ weigh L ≤ 20000 := by simpa [greatB] using hg
  obtain ⟨hl3, hwl⟩ := hgb
  obtain ⟨va, vc, rfl, _, hcell⟩ := h
  go_enter Try.func18, Try.ntmps18
  go_wp2_with fail
  refine (new_any _).mono ?_
  rintro e w1 ⟨rfl, hl1, f1⟩
  go_wp2_with fail
  have HG := Lib.hid hg
  clear hg
  go_loopw [9] (fun i wr => ∃ (n : Nat) (g : LkG), n ≤ L.length ∧ i = .int .i64 n ∧ g.bl = w.heap.size + 2 ∧ LinksAt wr g ∧ g.lm = runM emptyM (L.take n) ∧ (∀ k, g.W k → w.heap.size ≤ k) ∧ (∀ k, g.C k → w.heap.size ≤ k) ∧ Fr No w wr ∧ g.op.length ≤ n ∧ g.ln.length ≤ n) (fun i _ => L.length - (intOf i).toNat)
  case atStart => exact ⟨0, LkG.new w.heap.size, Nat.zero_le _, rfl, rfl, hl1, new_lm _, fun k hk => new_W hk, fun k hk => (new_C hk).elim, f1, Nat.le_refl _, Nat.le_refl _⟩
  case round =>
    obtain ⟨n, g, hn, rfl, hbl, hla, hlm, hW, hC, hfr, ho1, ho2⟩ := hrel
    by_cases hlt : n < L.length
    · obtain ⟨b, off, ba, bc, rfl, c0, c1, c2, c3, c4, c5, c6, c7⟩ := hcell n L[n] (List.getElem?_eq_getElem hlt)
      have hrt := runM_take (List.getElem?_eq_getElem hlt)
      have hby := weigh_mem (List.getElem_mem hlt) hwl
      have d0 := hfr.cell c0 id
      have d1 := hfr.cell c1 id
      have d2 := hfr.cell c2 id
      have d3 := hfr.cell c3 id
      have d4 := hfr.cell c4 id
      have d5 := hfr.cell c5 id
      have d6 := c6.keep hfr
      clear c0 c1 c2 c3 c4 c5 c6 c7 hcell
      generalize L[n] = d at *
      have F0 : Fr No wr (wr.alloc (.cells #[.int .i64 d.kind, .int .i64 d.a, .int .i64 d.b, .int .i64 d.lane, .int .i64 d.pick, .slice ba d.bytes.length bc] 40)) := by (repeat (first | with_reducible exact Fr.refl _ _ | with_reducible assumption | with_reducible refine Fr.drew ?_ | with_reducible refine Fr.drewN ?_ _ | with_reducible refine Fr.alloc ?_ _ | with_reducible refine Fr.setCell ?_ _ (.inl (by simp <;> omega)) _))
      have hc := do_any _ g (hla.keep0 F0) (by unfold maxLen; omega) (by unfold maxLen; omega) d (.slice ba d.bytes.length bc) (d6.keep F0) (by omega)
      rw [hlm, hbl] at hc
      unfold actV at hc
      have HC := Lib.hid hc
      have HRT := Lib.hid hrt
      have HLM := Lib.hid hlm
      have hbl' := Lib.hid hbl
      have i1 : (n : Int) < (L.length : Int) := by omega
      clear hc hrt hlm d6 hla hbl
      go_wp2_with fail
      refine HC.out.mono ?_
      rintro e w2 ⟨v, rfl, hv1, hv2, g', hw⟩
      clear hv1
      go_wp2
      go_roundw
      case rel =>
        refine ⟨n + 1, g', by omega, by go_num, by rw [hw.mv.bl, hbl'.out], hw.at_, by rw [HRT.out]; exact hw.lm, fun k hk => ?_, fun k hk => ?_, hfr.trans (F0.of0.trans hw.fr (fun _ _ h => h)) (fun i hi e => ?_), by have := hw.n1; omega, by have := hw.n2; omega⟩
        · rcases hw.mv.W k hk with e | e
          · exact hW k e
          · have h1 := F0.size; have h2 := hfr.size; omega
        · rcases hw.mv.C k hk with e | e
          · exact hC k e
          · have h1 := F0.size; have h2 := hfr.size; omega
        · have := hW i e; omega
      case measure => simp [intOf]; omega
    · have hnx : n = L.length := by omega
      have HF := Lib.hid (show GrownOk w L (.returned (.pointer (some ⟨w.heap.size + 2, 0, none⟩))) wr from ⟨g, by rw [hbl], hla, by rw [hlm, hnx, List.take_length], hW, hC, hfr, by omega, by omega⟩)
      clear hcell hlm hla hbl
      go_wp2
      go_ret
      exact HF.out
end Go.Proofs.Ytohcjfnekgnlcaa
