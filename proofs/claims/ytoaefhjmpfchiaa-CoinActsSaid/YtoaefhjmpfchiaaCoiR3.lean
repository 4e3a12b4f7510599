/- pappusref09: add. -/
import Derived.Test.YtoaefhjmpfchiaaCoiR2
namespace Go.Proofs.Ytoaefhjmpfchiaa
open Go Go.RowKit Go.Maps Go.MapKept Go.Sort

def addStep (c : CoinD) (s : List CoinD × Bool) (x : CoinD) : List CoinD × Bool :=
  if s.2 = false ∧ ptLt c.at_ x.at_ = true then (s.1 ++ [c] ++ [x], true) else (s.1 ++ [x], s.2)
def addOf (c : CoinD) (S : List CoinD) : List CoinD × Bool := S.foldl (addStep c) ([], false)
theorem addOf_snoc (c : CoinD) (S : List CoinD) (n : Nat) (x : CoinD) (h : S[n]? = some x) : addOf c (S.take (n + 1)) = addStep c (addOf c (S.take n)) x := by
  unfold addOf
  rw [List.take_add_one, h, List.foldl_append]
  rfl
theorem add_low (c : CoinD) : ∀ (A : List CoinD) (W : List CoinD), (∀ x ∈ A, ptLt c.at_ x.at_ = false) → A.foldl (addStep c) (W, false) = (W ++ A, false)
  | [], W, _ => by simp
  | x :: A, W, h => by
    rw [List.foldl_cons, show addStep c (W, false) x = (W ++ [x], false) by simp [addStep, h x (by simp)], add_low c A _ (fun y hy => h y (by simp [hy]))]
    simp
theorem add_high (c : CoinD) : ∀ (B : List CoinD) (W : List CoinD), B.foldl (addStep c) (W, true) = (W ++ B, true)
  | [], W => by simp
  | x :: B, W => by
    rw [List.foldl_cons, show addStep c (W, true) x = (W ++ [x], true) by simp [addStep], add_high c B]
    simp
theorem add_done (c : CoinD) (S : List CoinD) : insC S c = if (addOf c S).2 = true then (addOf c S).1 else (addOf c S).1 ++ [c] := by
  have hs := List.takeWhile_append_dropWhile (p := fun x : CoinD => !ptLt c.at_ x.at_) (l := S)
  have hA : ∀ x ∈ S.takeWhile (fun x => !ptLt c.at_ x.at_), ptLt c.at_ x.at_ = false := fun x hx => by have := mem_while hx; simpa using this
  unfold insC addOf
  have hD := List.head?_dropWhile_not (fun x : CoinD => !ptLt c.at_ x.at_) S
  generalize S.takeWhile (fun x => !ptLt c.at_ x.at_) = A at *
  generalize S.dropWhile (fun x => !ptLt c.at_ x.at_) = B at *
  subst hs
  rw [List.foldl_append, add_low c A [] hA]
  cases B with
  | nil => simp
  | cons x B =>
    have h1 : ptLt c.at_ x.at_ = true := by simpa using hD
    rw [List.foldl_cons, show addStep c ([] ++ A, false) x = ([] ++ A ++ [c] ++ [x], true) by simp [addStep, h1], add_high]
    simp
theorem addStep_len (c : CoinD) (s : List CoinD × Bool) (x : CoinD) : (addStep c s x).1.length + (if (addStep c s x).2 then 0 else 1) ≤ s.1.length + (if s.2 then 0 else 1) + 1 := by
  obtain ⟨W, b⟩ := s
  unfold addStep
  by_cases h : b = false ∧ ptLt c.at_ x.at_ = true
  · rw [if_pos h, h.1]; simp
  · rw [if_neg h]; simp; omega
theorem add_len (c : CoinD) (S : List CoinD) : (addOf c S).1.length ≤ S.length + 1 := by
  have : ∀ (S : List CoinD) (s : List CoinD × Bool), (S.foldl (addStep c) s).1.length + (if (S.foldl (addStep c) s).2 then 0 else 1) ≤ s.1.length + (if s.2 then 0 else 1) + S.length := by
    intro S
    induction S with
    | nil => intro s; exact Nat.le_refl _
    | cons x S ih =>
      intro s
      rw [List.foldl_cons]
      have h1 := ih (addStep c s x)
      have h2 := addStep_len c s x
      simp only [List.length_cons]
      omega
  have := this S ([], false)
  unfold addOf
  simp only [List.length_nil, Bool.false_eq_true, if_false] at this
  omega
section
variable {w0 w : World} {p : Nat} {U : Nat → Prop} {S : List CoinD}
set_option maxRecDepth 20000 in
set_option maxHeartbeats 4000000 in
theorem add_C (h : RC w0 w p U S) (hN : S.length ≤ 100000) {c : CoinD} (hc : c.ok) :
    Calls Try.prog 31 #[.pointer (some ⟨p, 0, none⟩), .agg (coinC c).toArray] w fun e w' => e = .returned (.tuple #[]) ∧ ∃ U', RC w0 w' p U' (insC S c) ∧ (∀ j, U' j → U j ∨ w.heap.size ≤ j) ∧ Fr U w w' := by
  obtain ⟨dC, uC, rC⟩ := descCoin
  obtain ⟨dP, uP, rP⟩ := descPoint
  have zc := zeroCoin
  have OKS := Lib.hid h.ok
  have COK := Lib.hid hc
  have CL := Lib.hid (coinC_len hc)
  have PC := Lib.hid (pointC_len hc.1)
  have F0 := Lib.hid ((Fr.refl No w).alloc (.cells (coinC c).toArray 38))
  have RB := Lib.hid (range_new w (coinC c) 38)
  have HRC := Lib.hid h
  have HR1 := Lib.hid (h.fr0 F0.out)
  have WD := Lib.hid (add_done c S)
  obtain ⟨rv, hb, hs, hU, hne⟩ := HR1.out.ex
  obtain ⟨ra, rc, rfl⟩ := hs.arg.form
  have HS := Lib.hid hs
  have HB := Lib.hid hb
  have c0 : (w.alloc (.cells (coinC c).toArray 38)).cell? ⟨p, 0, none⟩ = some (.slice ra S.length rc) := (blk1 hb).1
  clear h hc hb hs hU hne
  go_enter Try.func31, Try.ntmps31
  go_wp2_with fail
  generalize hq0 : w.heap.size = q0 at *
  generalize w.alloc (.cells (coinC c).toArray 38) = w1 at *
  clear c0
  go_loopw [4, 5, 13] (fun l d iv wr => ∃ n : Nat, iv = .int .i64 n ∧ n ≤ S.length ∧ d = .bool (addOf c (S.take n)).2 ∧ wr.ownsRow w1.heap.size 38 66 l (addOf c (S.take n)).1.length ((addOf c (S.take n)).1.flatMap coinC) ∧ Fr No w1 wr) (fun _ _ iv _ => S.length - (intOf iv).toNat)
  case atStart => exact ⟨0, rfl, Nat.zero_le _, rfl, World.ownsRow_nil _ _ _ _, Fr.refl _ _⟩
  case round =>
    obtain ⟨n, rfl, hn, rfl, ho, fr⟩ := hrel
    have FR := Lib.hid fr
    have SN := Lib.hid (fun (x : CoinD) hx => addOf_snoc c S n x hx)
    have WL := Lib.hid (add_len c (S.take n))
    have WDN := Lib.hid (fun (e : n = S.length) => (by have h1 := WD.out; rw [show S.take n = S by rw [e, List.take_length]]; exact h1 : insC S c = if (addOf c (S.take n)).2 = true then (addOf c (S.take n)).1 else (addOf c (S.take n)).1 ++ [c]))
    clear fr
    generalize addOf c (S.take n) = s at *
    obtain ⟨W, D⟩ := s
    have hWL : W.length ≤ 100001 := by have := WL.out; rw [List.length_take] at this; simp only at this; omega
    dsimp only at ho
    have HO := Lib.hid ho
    obtain ⟨la, lc, rfl⟩ := ho.slice.arg.form
    clear ho WL
    by_cases h : n < S.length
    · have i1 : (n : Int) < (S.length : Int) := by omega
      obtain ⟨x, hx⟩ : ∃ x, S[n]? = some x := ⟨_, List.getElem?_eq_getElem h⟩
      obtain ⟨b, off, cap, hv, hr, -⟩ := (HS.out.keep FR.out (fun _ _ => id)).elem (by decide) (fun y hy => coinC_len (OKS.out y hy)) hx
      cases hv
      have SX := SN.out x hx
      have XOK := Lib.hid (OKS.out x (List.mem_of_getElem? hx))
      have XL := Lib.hid (coinC_len XOK.out)
      have PX := Lib.hid (pointC_len XOK.out.1)
      have R1 := Lib.hid hr
      have RN := Lib.hid (range_new wr (coinC x) 38)
      have RBE := Lib.hid (range_keep RB.out (FR.out.alloc (.cells (coinC x).toArray 38)) id)
      have RNP := Lib.hid (coin_at RN.out)
      have RBP := Lib.hid (coin_at RBE.out)
      have FE := Lib.hid (FR.out.alloc (.cells (coinC x).toArray 38))
      have hoE := Lib.hid (HO.out.alloc (.cells (coinC x).toArray 38))
      have hlt := Lib.hid (show ∀ j, (Value.slice la W.length lc).ownBlock = some j → w1.heap.size ≤ j ∧ j < wr.heap.size from fun j e => HO.out.lt j e)
      clear hr hx
      cases D with
      | true =>
        have HSX := Lib.hid (show addOf c (S.take (n + 1)) = (W ++ [x], true) by rw [SX]; simp [addStep])
        obtain ⟨v5, w5, hap1, ho5, f5, -, -⟩ := append_blk (P := Try.prog) _ w1.heap.size 22 22 38 66 80 _ undCoins infoCoinZ rfl (by decide) hoE.out (coinC x) XL.out coinC_one (by omega) (by unfold maxLen; omega) FE.out.size
        have F5 := Lib.hid (show Fr No w1 w5 from FE.out.trans f5 (fun i hi e => by have := (hlt.out i e).1; omega))
        have HO5 := Lib.hid (show w5.ownsRow w1.heap.size 38 66 v5 (W ++ [x]).length ((W ++ [x]).flatMap coinC) by simpa using ho5)
        obtain ⟨a5, k5, rfl⟩ := ho5.slice.arg.form
        have HAP1 := Lib.hid hap1
        clear hap1 ho5 f5 SX
        go_wp2_with (first | (refine wpList_value rfl (exec_load (ty := 38) rfl rfl RN.out uC rC (by rw [XL.out]; exact infoCoin)) ?_) | (refine wpList_value rfl (exec_load (ty := 38) rfl rfl R1.out uC rC (by rw [XL.out]; exact infoCoin)) ?_) | (refine wpList_done rfl (exec_store_new (w := wr) (cs := coinC x) (ty := 38) rfl rfl rfl (by rw [XL.out]; rfl) (by rw [XL.out]; exact infoCoin) coinC_one) ?_) | (refine wpList_value rfl (exec_buildSliceA (t := 22) rfl rfl undCoins infoCoinZ2 rfl (by decide) (by decide) XL.out) ?_) | (at_builtin; refine wpList_append_run rfl rfl rfl rfl HAP1.out ?_))
        go_roundw
        case rel => exact ⟨n + 1, by simp, by omega, by rw [HSX.out], by rw [HSX.out]; exact HO5.out, F5.out⟩
        case measure => show S.length - (n + 1) < S.length - n; omega
      | false =>
        cases hlt2 : ptLt c.at_ x.at_ with
        | true =>
          have LT := Lib.hid hlt2
          have HSX := Lib.hid (show addOf c (S.take (n + 1)) = (W ++ [c] ++ [x], true) by rw [SX]; simp [addStep, hlt2])
          clear SX hlt2
          go_wp2_with (first | (refine wpList_value rfl (exec_load (ty := 38) rfl rfl RX11 uC rC (by rw [XL.out]; exact infoCoin)) ?_) | (refine wpList_value rfl (exec_load (ty := 38) rfl rfl RB6.out uC rC (by rw [CL.out]; exact infoCoin)) ?_) | (refine wpList_vG (o := ⟨some 21, _, _, _, _, _⟩) rfl (exec_load (ty := 27) rfl rfl RBP.out uP rP (by rw [PC.out]; exact infoPoint)) ?_) | (refine wpList_vG (o := ⟨some 23, _, _, _, _, _⟩) rfl (exec_load (ty := 27) rfl rfl RNP.out uP rP (by rw [PX.out]; exact infoPoint)) ?_) | (refine wpList_value rfl (exec_load (ty := 38) rfl rfl R1.out uC rC (by rw [XL.out]; exact infoCoin)) ?_) | (refine wpList_done rfl (exec_store_new (w := wr) (cs := coinC x) (ty := 38) rfl rfl rfl (by rw [XL.out]; rfl) (by rw [XL.out]; exact infoCoin) coinC_one) ?_) | (refine wpList_value rfl (exec_buildSliceA (t := 22) rfl rfl undCoins infoCoinZ2 rfl (by decide) (by decide) CL.out) ?_) | (refine wpList_value rfl (exec_buildSliceA (t := 22) rfl rfl undCoins infoCoinZ2 rfl (by decide) (by decide) XL.out) ?_) | (at_builtin; refine wpList_append_run rfl rfl rfl rfl hap1 ?_; clear hap1) | (at_builtin; refine wpList_append_run rfl rfl rfl rfl hap2 ?_) | (go_at_call 16; refine (below_any _ COK.out.1 XOK.out.1).mono ?_; rintro e w6 ⟨rfl, f6⟩; rw [LT.out]; have F6 := Lib.hid (FE.out.trans0 f6); have RX6 := Lib.hid (range_keep RN.out f6 id); have RB6 := Lib.hid (range_keep RBE.out f6 id); have HO6 := Lib.hid (ownsRow_keep hoE.out f6 (fun _ _ => id)); have Z6 := Lib.hid (show wr.heap.size < w6.heap.size from Nat.lt_of_lt_of_le (by simp) f6.size); clear f6; obtain ⟨v11, w11, hap1, ho11, f11, -, -⟩ := append_blk (P := Try.prog) w6 w1.heap.size 22 22 38 66 80 _ undCoins infoCoinZ rfl (by decide) HO6.out (coinC c) CL.out coinC_one (by omega) (by unfold maxLen; omega) F6.out.size; have RX11 := range_keep RX6.out f11 (fun e => by have := (hlt.out _ e).2; omega); have F11 := F6.out.trans f11 (fun i hi e => by have := (hlt.out i e).1; omega); obtain ⟨v12, w12, hap2, ho12, f12, -, -⟩ := append_blk (P := Try.prog) w11 w1.heap.size 22 22 38 66 80 _ undCoins infoCoinZ rfl (by decide) ho11 (coinC x) XL.out coinC_one (by omega) (by unfold maxLen; omega) F11.size; have F12 := Lib.hid (F11.trans f12 (fun i hi e => by have := (ho11.lt i e).1; omega)); have HO12 := Lib.hid (show w12.ownsRow w1.heap.size 38 66 v12 (W ++ [c] ++ [x]).length ((W ++ [c] ++ [x]).flatMap coinC) by simpa using ho12); obtain ⟨a11, k11, rfl⟩ := ho11.slice.arg.form; obtain ⟨a12, k12, rfl⟩ := ho12.slice.arg.form; clear ho11 f11 F11 f12 ho12))
          go_roundw
          case rel => exact ⟨n + 1, by simp, by omega, by rw [HSX.out], by rw [HSX.out]; exact HO12.out, F12.out⟩
          case measure => show S.length - (n + 1) < S.length - n; omega
        | false =>
          have LT := Lib.hid hlt2
          have HSX := Lib.hid (show addOf c (S.take (n + 1)) = (W ++ [x], false) by rw [SX]; simp [addStep, hlt2])
          clear SX hlt2
          go_wp2_with (first | (refine wpList_value rfl (exec_load (ty := 38) rfl rfl RX6.out uC rC (by rw [XL.out]; exact infoCoin)) ?_) | (refine wpList_vG (o := ⟨some 21, _, _, _, _, _⟩) rfl (exec_load (ty := 27) rfl rfl RBP.out uP rP (by rw [PC.out]; exact infoPoint)) ?_) | (refine wpList_vG (o := ⟨some 23, _, _, _, _, _⟩) rfl (exec_load (ty := 27) rfl rfl RNP.out uP rP (by rw [PX.out]; exact infoPoint)) ?_) | (refine wpList_value rfl (exec_load (ty := 38) rfl rfl R1.out uC rC (by rw [XL.out]; exact infoCoin)) ?_) | (refine wpList_done rfl (exec_store_new (w := wr) (cs := coinC x) (ty := 38) rfl rfl rfl (by rw [XL.out]; rfl) (by rw [XL.out]; exact infoCoin) coinC_one) ?_) | (refine wpList_value rfl (exec_buildSliceA (t := 22) rfl rfl undCoins infoCoinZ2 rfl (by decide) (by decide) XL.out) ?_) | (at_builtin; refine wpList_append_run rfl rfl rfl rfl hap1 ?_) | (go_at_call 16; refine (below_any _ COK.out.1 XOK.out.1).mono ?_; rintro e w6 ⟨rfl, f6⟩; rw [LT.out]; have F6 := Lib.hid (FE.out.trans0 f6); have RX6 := Lib.hid (range_keep RN.out f6 id); have RB6 := Lib.hid (range_keep RBE.out f6 id); have HO6 := Lib.hid (ownsRow_keep hoE.out f6 (fun _ _ => id)); have Z6 := Lib.hid (show wr.heap.size < w6.heap.size from Nat.lt_of_lt_of_le (by simp) f6.size); clear f6; obtain ⟨v11, w11, hap1, ho11, f11, -, -⟩ := append_blk (P := Try.prog) w6 w1.heap.size 22 22 38 66 80 _ undCoins infoCoinZ rfl (by decide) HO6.out (coinC x) XL.out coinC_one (by omega) (by unfold maxLen; omega) F6.out.size; have F11 := Lib.hid (F6.out.trans f11 (fun i hi e => by have := (hlt.out i e).1; omega)); have HO11 := Lib.hid (show w11.ownsRow w1.heap.size 38 66 v11 (W ++ [x]).length ((W ++ [x]).flatMap coinC) by simpa using ho11); obtain ⟨a11, k11, rfl⟩ := ho11.slice.arg.form; clear ho11 f11))
          go_roundw
          case rel => exact ⟨n + 1, by simp, by omega, by rw [HSX.out], by rw [HSX.out]; exact HO11.out, F11.out⟩
          case measure => show S.length - (n + 1) < S.length - n; omega
    · have i1 : ¬ (n : Int) < (S.length : Int) := by omega
      have i2 : n = S.length := by omega
      have WE := WDN.out i2
      have FW := Lib.hid (F0.out.trans0 FR.out)
      have hbr := FR.out.obj HB.out id
      have okI := Lib.hid (show ∀ y ∈ insC S c, y.ok from fun y hy => (mem_insC.1 hy).elim (fun e => e ▸ COK.out) (OKS.out y))
      cases D with
      | true =>
        have IT := Lib.hid (show insC S c = W by rw [WE]; rfl)
        have cr : wr.cell? ⟨p, 0, none⟩ = some (.slice ra S.length rc) := (blk1 hbr).1
        have fz := frozen_none hbr 0
        clear hbr WE i2
        go_wp2
        go_end0
        obtain ⟨t1, t2, t3⟩ := HRC.out.turn FW.out (by rw [hq0]; exact own_mono HO.out (by rw [← hq0]; exact F0.out.size)) (S' := W) (fun y hy => okI.out y (by rw [IT.out]; exact hy))
        exact ⟨rfl, _, by rw [IT.out]; exact t1, by rw [← hq0]; exact t3, t2⟩
      | false =>
        have IT := Lib.hid (show insC S c = W ++ [c] by rw [WE]; rfl)
        have RBR := Lib.hid (range_keep RB.out FR.out id)
        obtain ⟨v5, w5, hap1, ho5, f5, -, -⟩ := append_blk (P := Try.prog) wr w1.heap.size 22 22 38 66 80 _ undCoins infoCoinZ rfl (by decide) HO.out (coinC c) CL.out coinC_one (by omega) (by unfold maxLen; omega) FR.out.size
        have F5 := Lib.hid (show Fr No w1 w5 from FR.out.trans f5 (fun i hi e => by have := (HO.out.lt i e).1; omega))
        have HO5 := Lib.hid (show w5.ownsRow w1.heap.size 38 66 v5 (W ++ [c]).length ((W ++ [c]).flatMap coinC) by simpa using ho5)
        have hb5 := F5.out.obj HB.out id
        have cr : w5.cell? ⟨p, 0, none⟩ = some (.slice ra S.length rc) := (blk1 hb5).1
        have fz := frozen_none hb5 0
        obtain ⟨a5, k5, rfl⟩ := ho5.slice.arg.form
        have HAP1 := Lib.hid hap1
        clear hap1 ho5 f5 hb5 hbr WE i2
        go_wp2_with (first | (refine wpList_value rfl (exec_load (ty := 38) rfl rfl RBR.out uC rC (by rw [CL.out]; exact infoCoin)) ?_) | (refine wpList_value rfl (exec_buildSliceA (t := 22) rfl rfl undCoins infoCoinZ2 rfl (by decide) (by decide) CL.out) ?_) | (at_builtin; refine wpList_append_run rfl rfl rfl rfl HAP1.out ?_))
        go_end0
        obtain ⟨t1, t2, t3⟩ := HRC.out.turn (F0.out.trans0 F5.out) (by rw [hq0]; exact own_mono HO5.out (by rw [← hq0]; exact F0.out.size)) (S' := W ++ [c]) (fun y hy => okI.out y (by rw [IT.out]; exact hy))
        exact ⟨rfl, _, by rw [IT.out]; exact t1, by rw [← hq0]; exact t3, t2⟩
end
end Go.Proofs.Ytoaefhjmpfchiaa
