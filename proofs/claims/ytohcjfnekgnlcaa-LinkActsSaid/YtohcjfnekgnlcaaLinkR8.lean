/- The document's links: Take. -/
import Derived.Test.YtohcjfnekgnlcaaLinkR7
namespace Go.Proofs.Ytohcjfnekgnlcaa
open Go Go.RowKit Go.Maps Go.MapKept

def isK (k : Int × Int × Int) (m : Ms) : Bool := (m.k.1 == k.1) && (m.k.2.1 == k.2.1) && (m.k.2.2 == k.2.2)
theorem laneR_isK (ms : List Ms) (k : Int × Int × Int) : laneR ms k = ms.filter (isK k) := rfl
theorem isK_iff {k : Int × Int × Int} {m : Ms} : isK k m = true ↔ m.k = k := by
  obtain ⟨⟨a, b, c⟩, v, bs⟩ := m
  obtain ⟨x, y, z⟩ := k
  simp [isK, and_assoc]
/-- Without the j-th of a lane. -/
def cutK (k : Int × Int × Int) : Nat → List Ms → List Ms
  | _, [] => []
  | 0, m :: l => if isK k m then l else m :: cutK k 0 l
  | j + 1, m :: l => if isK k m then m :: cutK k j l else m :: cutK k (j + 1) l
theorem cutK_mem {k : Int × Int × Int} {m : Ms} : ∀ {l : List Ms} {j : Nat}, m ∈ cutK k j l → m ∈ l
  | [], j, h => by unfold cutK at h; exact h
  | x :: l, 0, h => by
    unfold cutK at h
    split at h
    · exact .tail _ h
    · rcases List.mem_cons.1 h with rfl | h
      · exact .head _
      · exact .tail _ (cutK_mem h)
  | x :: l, j + 1, h => by
    unfold cutK at h
    split at h
    all_goals
      rcases List.mem_cons.1 h with rfl | h
      · exact .head _
      · exact .tail _ (cutK_mem h)
theorem cutK_len (k : Int × Int × Int) : ∀ (l : List Ms) (j : Nat), (cutK k j l).length ≤ l.length
  | [], j => by unfold cutK; exact Nat.le_refl _
  | x :: l, 0 => by
    unfold cutK
    have := cutK_len k l 0
    split <;> simp <;> omega
  | x :: l, j + 1 => by
    unfold cutK
    have h1 := cutK_len k l j
    have h2 := cutK_len k l (j + 1)
    split <;> simp <;> omega
theorem cutK_all (k : Int × Int × Int) : ∀ (l : List Ms) (j : Nat), (laneR l k).length ≤ j → cutK k j l = l
  | [], j, _ => by unfold cutK; rfl
  | x :: l, 0, h => by
    rw [laneR_isK, List.filter_cons] at h
    unfold cutK
    split at h
    · simp at h
    · rename_i hx
      rw [if_neg hx, cutK_all k l 0 h]
  | x :: l, j + 1, h => by
    rw [laneR_isK, List.filter_cons] at h
    unfold cutK
    split at h
    · rename_i hx
      rw [if_pos hx, cutK_all k l j (by simpa [laneR_isK] using h)]
    · rename_i hx
      rw [if_neg hx, cutK_all k l (j + 1) h]
theorem laneR_cons (x : Ms) (l : List Ms) (k : Int × Int × Int) : laneR (x :: l) k = if isK k x then x :: laneR l k else laneR l k := by rw [laneR_isK, List.filter_cons]; rfl
theorem cutK_snoc (k : Int × Int × Int) (m : Ms) : ∀ (l : List Ms) (j : Nat), cutK k j (l ++ [m]) = if isK k m = true ∧ (laneR l k).length = j then l else cutK k j l ++ [m]
  | [], 0 => by simp only [List.nil_append, cutK, laneR_isK, List.filter_nil, List.length_nil, and_true]
  | [], j + 1 => by simp [cutK, laneR_isK]
  | x :: l, 0 => by
    have ih := cutK_snoc k m l 0
    rw [List.cons_append, laneR_cons]
    unfold cutK
    by_cases hx : isK k x = true
    · simp only [hx, if_true, List.length_cons, Nat.succ_ne_zero, and_false, if_false]
    · rw [if_neg hx, if_neg hx, if_neg hx, ih]
      by_cases hc : isK k m = true ∧ (laneR l k).length = 0
      · rw [if_pos hc, if_pos hc]
      · rw [if_neg hc, if_neg hc]; rfl
  | x :: l, j + 1 => by
    have ih := cutK_snoc k m l j
    have ih2 := cutK_snoc k m l (j + 1)
    rw [List.cons_append, laneR_cons]
    unfold cutK
    by_cases hx : isK k x = true
    · rw [if_pos hx, if_pos hx, if_pos hx, ih]
      by_cases hc : isK k m = true ∧ (laneR l k).length = j
      · rw [if_pos hc, if_pos (by simpa using hc)]
      · rw [if_neg hc, if_neg (by simpa using hc)]; rfl
    · rw [if_neg hx, if_neg hx, if_neg hx, ih2]
      by_cases hc : isK k m = true ∧ (laneR l k).length = j + 1
      · rw [if_pos hc, if_pos hc]
      · rw [if_neg hc, if_neg hc]; rfl

def taken (k : Int × Int × Int) (q : Int) (l : List Ms) : Option Ms := if 0 ≤ q then (laneR l k)[q.toNat]? else none
def restR (k : Int × Int × Int) (q : Int) (l : List Ms) : List Ms := if 0 ≤ q then cutK k q.toNat l else l
def outV (o : Option Ms) : Value := (o.map (·.v)).getD (.slice none 0 0)
theorem restR_le (k : Int × Int × Int) (q : Int) (l : List Ms) : (restR k q l).length ≤ l.length := by
  unfold restR; split
  · exact cutK_len _ _ _
  · exact Nat.le_refl _
theorem restR_mem {k : Int × Int × Int} {q : Int} {l : List Ms} {m : Ms} (h : m ∈ restR k q l) : m ∈ l := by
  unfold restR at h; split at h
  · exact cutK_mem h
  · exact h
theorem lane_snoc (k : Int × Int × Int) (l : List Ms) (m : Ms) : laneR (l ++ [m]) k = laneR l k ++ (if isK k m then [m] else []) := by
  rw [laneR_isK, List.filter_append, laneR_isK]
  congr 1
  simp only [List.filter_cons, List.filter_nil]
/-- Another lane's message. -/
theorem rest_other {k : Int × Int × Int} {q : Int} {l : List Ms} {m : Ms} (h : isK k m = false) : taken k q (l ++ [m]) = taken k q l ∧ restR k q (l ++ [m]) = restR k q l ++ [m] ∧ (laneR (l ++ [m]) k).length = (laneR l k).length := by
  unfold taken restR
  rw [lane_snoc, cutK_snoc, h]
  simp
  split <;> rfl
theorem rest_hit {k : Int × Int × Int} {q : Int} {l : List Ms} {m : Ms} (h : isK k m = true) (hq : ((laneR l k).length : Int) = q) : taken k q (l ++ [m]) = some m ∧ restR k q (l ++ [m]) = restR k q l ∧ (laneR (l ++ [m]) k).length = (laneR l k).length + 1 := by
  subst hq
  have h0 : (0 : Int) ≤ ((laneR l k).length : Int) := by omega
  unfold taken restR
  simp only [h0, if_true, Int.toNat_natCast, lane_snoc, cutK_snoc, h, and_self, cutK_all _ _ _ (Nat.le_refl _)]
  simp
theorem rest_miss {k : Int × Int × Int} {q : Int} {l : List Ms} {m : Ms} (h : isK k m = true) (hq : ((laneR l k).length : Int) ≠ q) : taken k q (l ++ [m]) = taken k q l ∧ restR k q (l ++ [m]) = restR k q l ++ [m] ∧ (laneR (l ++ [m]) k).length = (laneR l k).length + 1 := by
  unfold taken restR
  rw [lane_snoc, cutK_snoc, h]
  refine ⟨?_, ?_, by simp⟩
  · split
    · rw [if_pos rfl, List.getElem?_append]
      split
      · rfl
      · rw [List.getElem?_eq_none (by simp; omega), List.getElem?_eq_none (by omega)]
    · rfl
  · split
    · rw [if_neg (by omega)]
    · rfl

theorem takeR_arg (w : World) (p : Nat) (a b k q : Int) (hv : ¬ (vld a b ∧ (k = 0 ∨ k = 1))) :
    Calls Try.prog 39 #[.pointer (some ⟨p, 0, none⟩), .int .i64 a, .int .i64 b, .int .i64 k, .int .i64 q] w fun e w' => e = .returned (.tuple #[.slice none 0 0, .int .i64 2]) ∧ Fr No w w' := by
  have hf := fitR_any w a b
  by_cases h1 : vld a b
  · rw [fitB_vld.2 h1] at hf
    have hk : ((k == 0) || (k == 1)) = false := by simp; exact ⟨fun e => hv ⟨h1, .inl e⟩, fun e => hv ⟨h1, .inr e⟩⟩
    have hl := laneR_any w k
    rw [hk] at hl
    have HF := Lib.hid hf
    have HL := Lib.hid hl
    clear hf hl hk hv
    go_enter Try.func39, Try.ntmps39
    go_wp2_with fail
    refine HF.out.mono ?_
    rintro e w1 ⟨rfl, rfl⟩
    go_wp2_with fail
    refine HL.out.mono ?_
    rintro e w2 ⟨rfl, rfl⟩
    go_wp2
    go_ret2
    exact ⟨rfl, Fr.refl _ _⟩
  · rw [fitB_not h1] at hf
    have HF := Lib.hid hf
    clear hf hv
    go_enter Try.func39, Try.ntmps39
    go_wp2_with fail
    refine HF.out.mono ?_
    rintro e w1 ⟨rfl, rfl⟩
    go_wp2
    go_ret2
    exact ⟨rfl, Fr.refl _ _⟩

/-- What Take leaves. -/
def TakeR (w : World) (g : RfG) (k : Int × Int × Int) (q : Int) (e : Ending) (w' : World) : Prop :=
  (∃ m, taken k q g.ms = some m ∧ e = .returned (.tuple #[m.v, .int .i64 0]) ∧ ∃ v, RfAt w' { g with mv := v, ms := restR k q g.ms } ∧ (∀ k, v.ownBlock = some k → w.heap.size ≤ k) ∧ Fr (fun i => i = g.bl) w w') ∨
  (taken k q g.ms = none ∧ e = .returned (.tuple #[.slice none 0 0, .int .i64 9]) ∧ Fr No w w')

theorem putR {w w4 : World} {g : RfG} {ms : List Ms} {v2 : Value} {B2 : Nat} (h : RfAt w g) (f : Fr No w w4) (ho2 : w4.ownsRow B2 76 4 v2 ms.length (ms.flatMap msC))
    (hB2 : w.heap.size ≤ B2) (hsub : ∀ m ∈ ms, m ∈ g.ms) : RfAt (w4.setCell ⟨g.bl, 1, none⟩ v2) { g with mv := v2, ms := ms } := by
  have hbl := obj_lt h.hb
  have hnv2 : v2.ownBlock ≠ some g.bl := fun e => by have := (ho2.lt _ e).1; omega
  have f2 : Fr (fun i => i = g.bl) w4 (w4.setCell ⟨g.bl, 1, none⟩ v2) := Fr.setCell (W := fun i => i = g.bl) (Fr.refl _ w4) ⟨g.bl, 1, none⟩ (.inr rfl) v2
  exact {
    hb := by
      have h2 := heap_setCell_same _ g.bl 1 _ _ v2 (f.obj h.hb id)
      simpa using h2
    hl := ownsRow_keep (ownsRow_keep h.hl f (fun _ _ => id)) f2 (fun i hi e => h.n1 (e ▸ hi))
    hm := ownsRow_zero (ownsRow_keep ho2 f2 (fun i hi e => hnv2 (e ▸ hi)))
    hv := fun m hm => ((h.hv m (hsub m hm)).keep f (fun i hi => id)).keep f2 (fun i hi e => h.n3 m (hsub m hm) (e ▸ hi))
    n1 := h.n1
    n2 := hnv2
    n3 := fun m hm => h.n3 m (hsub m hm) }

set_option maxHeartbeats 2000000 in
theorem takeR_go (w : World) (g : RfG) (h : RfAt w g) (hle2 : g.ms.length ≤ 1000000) (a b k q : Int) (hv : vld a b) (hk : k = 0 ∨ k = 1) :
    Calls Try.prog 39 #[.pointer (some ⟨g.bl, 0, none⟩), .int .i64 a, .int .i64 b, .int .i64 k, .int .i64 q] w (TakeR w g (a, b, k) q) := by
  have hf := fitR_any w a b
  rw [fitB_vld.2 hv] at hf
  have hkb : ((k == 0) || (k == 1)) = true := by rcases hk with rfl | rfl <;> rfl
  have hl := laneR_any w k
  rw [hkb] at hl
  have HF := Lib.hid hf
  have HL := Lib.hid hl
  have R := Lib.hid h
  clear hf hl hkb h hk
  go_enter Try.func39, Try.ntmps39
  go_wp2_with fail
  refine HF.out.mono ?_
  rintro e w1 ⟨rfl, rfl⟩
  go_wp2_with fail
  refine HL.out.mono ?_
  rintro e w2 ⟨rfl, rfl⟩
  obtain ⟨c0, c1⟩ := R.out.cells
  obtain ⟨ma, mc, hmv, hz⟩ := own_slice R.out.hm
  have HM := Lib.hid (show w2.ownsRow 0 76 4 (.slice ma g.ms.length mc) g.ms.length (g.ms.flatMap msC) from hmv ▸ R.out.hm)
  rw [hmv] at c1
  have HMV := Lib.hid hmv
  have HV := Lib.hid R.out.hv
  clear hmv HF HL
  go_wp2_with fail
  go_loopw [12, 13, 14, 15, 32] (fun rest out found kk i wr => ∃ n : Nat, n ≤ g.ms.length ∧ i = .int .i64 n ∧ kk = .int .i64 ((laneR (g.ms.take n) (a, b, k)).length : Nat) ∧ out = outV (taken (a, b, k) q (g.ms.take n)) ∧ found = .bool (taken (a, b, k) q (g.ms.take n)).isSome ∧ wr.ownsRow w2.heap.size 76 4 rest (restR (a, b, k) q (g.ms.take n)).length ((restR (a, b, k) q (g.ms.take n)).flatMap msC) ∧ Fr No w2 wr) (fun _ _ _ _ i _ => g.ms.length - (intOf i).toNat)
  case atStart => exact ⟨0, Nat.zero_le _, rfl, rfl, by simp [taken, laneR, outV], by simp [taken, laneR], by simpa [restR, cutK] using World.ownsRow_nil _ _ _ _, Fr.refl _ _⟩
  case round =>
    obtain ⟨n, hn, rfl, rfl, rfl, rfl, hro, fr⟩ := hrel
    by_cases hlt : n < g.ms.length
    · have i1 : (n : Int) < (g.ms.length : Int) := by omega
      have hx : g.ms[n]? = some g.ms[n] := List.getElem?_eq_getElem hlt
      obtain ⟨gb, rfl⟩ := hz (by omega)
      obtain ⟨d1, d2, d3, d4⟩ := ms_at (ownsRow_keep HM.out fr (fun _ _ => id)) rfl hx
      have hsv := HV.out g.ms[n] (List.getElem_mem hlt)
      have hts := mem_take_succ hx
      have hbd : (laneR (g.ms.take n) (a, b, k)).length ≤ n := Nat.le_trans (List.length_filter_le _ _) (by rw [List.length_take]; omega)
      have hbr : (restR (a, b, k) q (g.ms.take n)).length ≤ n := Nat.le_trans (restR_le _ _ _) (by rw [List.length_take]; omega)
      have KO := @rest_other (a, b, k) q (g.ms.take n) g.ms[n]
      have KH := @rest_hit (a, b, k) q (g.ms.take n) g.ms[n]
      have KM := @rest_miss (a, b, k) q (g.ms.take n) g.ms[n]
      rw [← hts] at KO KH KM
      have KO := Lib.hid KO
      have KH := Lib.hid KH
      have KM := Lib.hid KM
      have HR := Lib.hid hro
      clear hx hts hro
      generalize g.ms[n] = qq at *
      generalize (laneR (g.ms.take n) (a, b, k)).length = C at *
      generalize taken (a, b, k) q (g.ms.take n) = T at *
      generalize restR (a, b, k) q (g.ms.take n) = S at *
      obtain ⟨⟨q1, q2, q3⟩, qv, qb⟩ := qq
      obtain ⟨qa, qc, hqv⟩ := hsv.arg.form
      simp only at hqv
      subst hqv
      clear hsv
      simp only at d1 d2 d3 d4
      cases hk1 : (q1 == a) with
      | false =>
        have TK := Lib.hid (KO.out (by simp [isK, hk1]))
        clear KO KH KM
        have f2 : Fr No wr (wr.alloc (.cells #[.int .i64 q1, .int .i64 q2, .int .i64 q3, .slice qa qb.length qc] 76)) := by (repeat (first | with_reducible exact Fr.refl _ _ | with_reducible assumption | with_reducible refine Fr.drew ?_ | with_reducible refine Fr.drewN ?_ _ | with_reducible refine Fr.alloc ?_ _ | with_reducible refine Fr.setCell ?_ _ (.inl (by simp <;> omega)) _))
        obtain ⟨v', w4, happ, hro', f4, -, -⟩ := append_blk (P := Try.prog) (wr.alloc (.cells #[.int .i64 q1, .int .i64 q2, .int .i64 q3, .slice qa qb.length qc] 76)) w2.heap.size 54 54 76 4 48 (.agg #[.int .i64 0, .int .i64 0, .int .i64 0, .slice none 0 0]) undMsgs infoMsg rfl (by decide) (ownsRow_keep HR.out f2 (fun _ _ => id)) [.int .i64 q1, .int .i64 q2, .int .i64 q3, .slice qa qb.length qc] rfl (by simp only [List.mem_cons, List.not_mem_nil, or_false]; rintro u (rfl | rfl | rfl | rfl) <;> rfl) (by omega) (by unfold maxLen; omega) (fr.trans0 f2).size
        rw [show (wr.alloc (.cells #[.int .i64 q1, .int .i64 q2, .int .i64 q3, .slice qa qb.length qc] 76)).heap.size = wr.heap.size + 1 by simp] at happ
        go_wp2_with (at_builtin; refine wpList_append_run rfl rfl rfl rfl happ ?_)
        go_roundw
        case rel =>
          refine ⟨n + 1, by omega, by go_num, by rw [TK.out.2.2] <;> go_num, by rw [TK.out.1], by rw [TK.out.1], ?_, (fr.trans0 f2).trans f4 (fun i hi e => ?_)⟩
          · rw [TK.out.2.1]; simpa [msC] using hro'
          · have := (HR.out.lt i e).1; omega
        case measure => simp [intOf]; omega
      | true =>
        cases hk2 : (q2 == b) with
        | false =>
          have TK := Lib.hid (KO.out (by simp [isK, hk2]))
          clear KO KH KM
          have f2 : Fr No wr (wr.alloc (.cells #[.int .i64 q1, .int .i64 q2, .int .i64 q3, .slice qa qb.length qc] 76)) := by (repeat (first | with_reducible exact Fr.refl _ _ | with_reducible assumption | with_reducible refine Fr.drew ?_ | with_reducible refine Fr.drewN ?_ _ | with_reducible refine Fr.alloc ?_ _ | with_reducible refine Fr.setCell ?_ _ (.inl (by simp <;> omega)) _))
          obtain ⟨v', w4, happ, hro', f4, -, -⟩ := append_blk (P := Try.prog) (wr.alloc (.cells #[.int .i64 q1, .int .i64 q2, .int .i64 q3, .slice qa qb.length qc] 76)) w2.heap.size 54 54 76 4 48 (.agg #[.int .i64 0, .int .i64 0, .int .i64 0, .slice none 0 0]) undMsgs infoMsg rfl (by decide) (ownsRow_keep HR.out f2 (fun _ _ => id)) [.int .i64 q1, .int .i64 q2, .int .i64 q3, .slice qa qb.length qc] rfl (by simp only [List.mem_cons, List.not_mem_nil, or_false]; rintro u (rfl | rfl | rfl | rfl) <;> rfl) (by omega) (by unfold maxLen; omega) (fr.trans0 f2).size
          rw [show (wr.alloc (.cells #[.int .i64 q1, .int .i64 q2, .int .i64 q3, .slice qa qb.length qc] 76)).heap.size = wr.heap.size + 1 by simp] at happ
          go_wp2_with (at_builtin; refine wpList_append_run rfl rfl rfl rfl happ ?_)
          go_roundw
          case rel =>
            refine ⟨n + 1, by omega, by go_num, by rw [TK.out.2.2] <;> go_num, by rw [TK.out.1], by rw [TK.out.1], ?_, (fr.trans0 f2).trans f4 (fun i hi e => ?_)⟩
            · rw [TK.out.2.1]; simpa [msC] using hro'
            · have := (HR.out.lt i e).1; omega
          case measure => simp [intOf]; omega
        | true =>
          cases hk3 : (q3 == k) with
          | false =>
            have TK := Lib.hid (KO.out (by simp [isK, hk3]))
            clear KO KH KM
            have f2 : Fr No wr (wr.alloc (.cells #[.int .i64 q1, .int .i64 q2, .int .i64 q3, .slice qa qb.length qc] 76)) := by (repeat (first | with_reducible exact Fr.refl _ _ | with_reducible assumption | with_reducible refine Fr.drew ?_ | with_reducible refine Fr.drewN ?_ _ | with_reducible refine Fr.alloc ?_ _ | with_reducible refine Fr.setCell ?_ _ (.inl (by simp <;> omega)) _))
            obtain ⟨v', w4, happ, hro', f4, -, -⟩ := append_blk (P := Try.prog) (wr.alloc (.cells #[.int .i64 q1, .int .i64 q2, .int .i64 q3, .slice qa qb.length qc] 76)) w2.heap.size 54 54 76 4 48 (.agg #[.int .i64 0, .int .i64 0, .int .i64 0, .slice none 0 0]) undMsgs infoMsg rfl (by decide) (ownsRow_keep HR.out f2 (fun _ _ => id)) [.int .i64 q1, .int .i64 q2, .int .i64 q3, .slice qa qb.length qc] rfl (by simp only [List.mem_cons, List.not_mem_nil, or_false]; rintro u (rfl | rfl | rfl | rfl) <;> rfl) (by omega) (by unfold maxLen; omega) (fr.trans0 f2).size
            rw [show (wr.alloc (.cells #[.int .i64 q1, .int .i64 q2, .int .i64 q3, .slice qa qb.length qc] 76)).heap.size = wr.heap.size + 1 by simp] at happ
            go_wp2_with (at_builtin; refine wpList_append_run rfl rfl rfl rfl happ ?_)
            go_roundw
            case rel =>
              refine ⟨n + 1, by omega, by go_num, by rw [TK.out.2.2] <;> go_num, by rw [TK.out.1], by rw [TK.out.1], ?_, (fr.trans0 f2).trans f4 (fun i hi e => ?_)⟩
              · rw [TK.out.2.1]; simpa [msC] using hro'
              · have := (HR.out.lt i e).1; omega
            case measure => simp [intOf]; omega
          | true =>
            cases hq : ((C : Int) == q) with
            | false =>
              have TK := Lib.hid (KM.out (by simp [isK, hk1, hk2, hk3]) (by simpa using hq))
              clear KO KH KM
              have f2 : Fr No wr (wr.alloc (.cells #[.int .i64 q1, .int .i64 q2, .int .i64 q3, .slice qa qb.length qc] 76)) := by (repeat (first | with_reducible exact Fr.refl _ _ | with_reducible assumption | with_reducible refine Fr.drew ?_ | with_reducible refine Fr.drewN ?_ _ | with_reducible refine Fr.alloc ?_ _ | with_reducible refine Fr.setCell ?_ _ (.inl (by simp <;> omega)) _))
              obtain ⟨v', w4, happ, hro', f4, -, -⟩ := append_blk (P := Try.prog) (wr.alloc (.cells #[.int .i64 q1, .int .i64 q2, .int .i64 q3, .slice qa qb.length qc] 76)) w2.heap.size 54 54 76 4 48 (.agg #[.int .i64 0, .int .i64 0, .int .i64 0, .slice none 0 0]) undMsgs infoMsg rfl (by decide) (ownsRow_keep HR.out f2 (fun _ _ => id)) [.int .i64 q1, .int .i64 q2, .int .i64 q3, .slice qa qb.length qc] rfl (by simp only [List.mem_cons, List.not_mem_nil, or_false]; rintro u (rfl | rfl | rfl | rfl) <;> rfl) (by omega) (by unfold maxLen; omega) (fr.trans0 f2).size
              rw [show (wr.alloc (.cells #[.int .i64 q1, .int .i64 q2, .int .i64 q3, .slice qa qb.length qc] 76)).heap.size = wr.heap.size + 1 by simp] at happ
              go_wp2_with (at_builtin; refine wpList_append_run rfl rfl rfl rfl happ ?_)
              go_roundw
              case rel =>
                refine ⟨n + 1, by omega, by go_num, by rw [TK.out.2.2] <;> go_num, by rw [TK.out.1], by rw [TK.out.1], ?_, (fr.trans0 f2).trans f4 (fun i hi e => ?_)⟩
                · rw [TK.out.2.1]; simpa [msC] using hro'
                · have := (HR.out.lt i e).1; omega
              case measure => simp [intOf]; omega
            | true =>
              have TK := Lib.hid (KH.out (by simp [isK, hk1, hk2, hk3]) (by simpa using hq))
              clear KO KH KM
              go_wp2
              go_roundw
              case rel => exact ⟨n + 1, by omega, by go_num, by rw [TK.out.2.2]; go_num, by rw [TK.out.1]; rfl, by rw [TK.out.1]; rfl, by rw [TK.out.2.1]; exact ownsRow_keep HR.out ((Fr.refl No wr).alloc _) (fun _ _ => id), by (repeat (first | with_reducible exact Fr.refl _ _ | with_reducible assumption | with_reducible refine Fr.drew ?_ | with_reducible refine Fr.drewN ?_ _ | with_reducible refine Fr.alloc ?_ _ | with_reducible refine Fr.setCell ?_ _ (.inl (by simp <;> omega)) _))⟩
              case measure => simp [intOf]; omega
    · have : n = g.ms.length := by omega
      subst this
      rw [List.take_length] at *
      have HR := Lib.hid hro
      clear hro
      have R6 := Lib.hid (R.out.keep fr)
      obtain ⟨k0, k1⟩ := R6.out.cells
      have k3 : wr.frozen? ⟨g.bl, 1, none⟩ = false := by simp [World.frozen?, R6.out.hb]
      rw [HMV.out] at k1
      cases hT : taken (a, b, k) q g.ms with
      | none =>
        have HT := Lib.hid hT
        have FIN := Lib.hid (show TakeR w2 g (a, b, k) q (.returned (.tuple #[.slice none 0 0, .int .i64 9])) wr from .inr ⟨hT, rfl, fr⟩)
        clear hT
        simp only [Option.isSome]
        go_wp2
        go_ret2
        exact FIN.out
      | some m =>
        have hm : m ∈ g.ms := by
          unfold taken at hT
          split at hT
          · exact (List.mem_filter.1 (List.mem_of_getElem? hT)).1
          · cases hT
        obtain ⟨xa, xc, hxv⟩ := (HV.out m hm).arg.form
        obtain ⟨ra, rc, rfl, -⟩ := own_slice (ownsRow_zero HR.out)
        have FIN := Lib.hid (show TakeR w2 g (a, b, k) q (.returned (.tuple #[m.v, .int .i64 0])) (wr.setCell ⟨g.bl, 1, none⟩ (.slice ra (restR (a, b, k) q g.ms).length rc)) from .inl ⟨m, hT, rfl, _, putR R.out fr HR.out (Nat.le_refl _) (fun m hm => restR_mem hm), fun k hk => (HR.out.lt k hk).1, fr.of0.trans (Fr.setCell (W := fun i => i = g.bl) (Fr.refl _ wr) ⟨g.bl, 1, none⟩ (.inr rfl) _) (fun _ _ h => h)⟩)
        rw [hxv] at FIN
        have e1 : outV (some m) = .slice xa m.bs.length xc := by simp [outV, hxv]
        rw [e1]
        clear hT e1 hxv hm HV
        simp only [Option.isSome]
        go_wp2
        go_ret2
        exact FIN.out
end Go.Proofs.Ytohcjfnekgnlcaa
