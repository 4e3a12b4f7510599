/- calc: Sum. -/
import Derived.Laws.Externs
import Derived.Test.YtdkkjchclkjleaaGreatDoorSG14
import Derived.Test.YtdkkjchclkjleaaGreatDoorSG2
set_option linter.unusedVariables false
set_option linter.unusedSimpArgs false
set_option linter.unnecessarySimpa false
set_option linter.all false
namespace Go.Proofs.YtdkkjchclkjleaaGreatDoor
open Go Go.RowKit Go.Maps Go.MapKept
def Qx (x : Int) : Value := .int .u64 x
def zb4 (l : List Int) : Int := if l.sum < 18446744073709551616 then 0 else 3
def zbN (l : List Int) : Int := if l.sum < 18446744073709551616 then l.sum else 0
set_option maxRecDepth 20000 in
set_option maxHeartbeats 4000000 in
theorem zc5 (w : World) {v : Value} {l : List Int} (hl : xq w v l.length (l.map Qx)) (ok : ∀ x ∈ l, 0 ≤ x ∧ x ≤ 18446744073709551615) (hN : l.length ≤ 100000) :
  Calls Tryz.prog 128 #[v] w fun e w' => e = .returned (.tuple #[.int .u64 (zbN l), .int .i64 (zb4 l)]) ∧ Fr No w w' := by
 have HL := Hd hl
 have OK := Hd ok
 have POS := Hd (show ∀ n, n ≤ l.length → 0 ≤ (l.take n).sum ∧ (l.take n).sum ≤ 18446744073709551615 * (n : Int) from fun n => by
  induction n with
  | zero => intro _; simp
  | succ n ih =>
   intro hn
   have h1 := ih (by omega)
   have hx : l[n]? = some l[n] := List.getElem?_eq_getElem (by omega)
   have h2 := ok l[n] (List.getElem_mem _)
   rw [List.take_add_one, hx]
   simp only [Option.toList_some, List.sum_append, List.sum_cons, List.sum_nil]
   omega)
 obtain ⟨va, vc, rfl⟩ := hl.form
 clear hl ok
 go_enter Tryz.func128, Tryz.ntmps128
 go_wp2
 go_loopw [4, 5, 12] (fun hv lv iv wr => ∃ n : Nat, iv = .int .i64 n ∧ n ≤ l.length ∧ hv = .int .u64 ((l.take n).sum / 18446744073709551616) ∧ lv = .int .u64 ((l.take n).sum % 18446744073709551616) ∧ Fr No w wr) (fun _ _ iv _ => l.length - (intOf iv).toNat)
 case atStart => exact ⟨0, rfl, Nat.zero_le _, by simp, by simp, Fr.refl _ _⟩
 case round =>
  obtain ⟨n, rfl, hn, rfl, rfl, fr⟩ := hrel
  have FR := Hd fr
  clear fr
  have PN := POS.out n hn
  generalize hT : (l.take n).sum = T at *
  by_cases hlt : n < l.length
  ·have i1 : (n : Int) < (l.length : Int) := by omega
   obtain ⟨x, hx⟩ : ∃ x, l[n]? = some x := ⟨_, List.getElem?_eq_getElem hlt⟩
   have XOK := OK.out x (List.mem_of_getElem? hx)
   have SN := Hd (show (l.take (n + 1)).sum = T + x by rw [List.take_add_one, hx, ← hT]; simp)
   have hcell : ∃ b off cap, Value.slice va l.length vc = .slice (some ⟨b, off, none⟩) l.length cap ∧ wr.cell? ⟨b, off + n, none⟩ = some (.int .u64 x) := by
    rcases HL.out.keep FR.out with (⟨e, h, -⟩ | ⟨b, off, cap, e, h1, h2, h3, h4⟩) | ⟨a, cap, e, h, -⟩
    ·omega
    ·exact ⟨b, off, cap, e, h3 n _ (by rw [List.getElem?_map, hx]; rfl)⟩
    ·omega
   obtain ⟨b, off, cap, hv, hc⟩ := hcell
   cases hv
   have E1 := Hd (show (T % 18446744073709551616 + x + 0) % 18446744073709551616 = (T + x) % 18446744073709551616 by omega)
   have E2 := Hd (show T / 18446744073709551616 + (T % 18446744073709551616 + x) / 18446744073709551616 = (T + x) / 18446744073709551616 by omega)
   have L0 : 0 ≤ T % 18446744073709551616 := by omega
   have X0 := XOK.1
   clear hx hT
   go_wp2
   rw [run_callFunc_extern Tryz.func158 (by kernel_rfl) (by kernel_rfl) (by kernel_rfl) (e := add64Entry) (by kernel_rfl), run_add64 _ x 0 L0 X0 (by omega) (by omega)]
   simp only [Result.andThen]
   rw [Oper.upon_value]
   rw [E1.out]
   go_wp2
   go_roundw
   case rel => exact ⟨n + 1, by go_num, by omega, by rw [SN.out]; exact congrArg (Value.int .u64) E2.out, by rw [SN.out], FR.out⟩
   case measure => simp [intOf]; omega
  ·have hne : n = l.length := by omega
   have i1 : ¬ (n : Int) < (l.length : Int) := by omega
   have hS : l.sum = T := by rw [← hT, hne, List.take_length]
   by_cases ho : T < 18446744073709551616
   ·have HE := Hd (show zb4 l = 0 ∧ zbN l = T by unfold zb4 zbN; rw [hS, if_pos ho, if_pos ho]; exact ⟨rfl, rfl⟩)
    have jz : (T / 18446744073709551616 == 0) = true := by rw [beq_iff_eq]; omega
    have jm : T % 18446744073709551616 = T := by omega
    clear hS ho hT
    go_wp2
    go_ret2
    exact ⟨by rw [HE.out.1, HE.out.2]; rfl, FR.out⟩
   ·have HE := Hd (show zb4 l = 3 ∧ zbN l = 0 by unfold zb4 zbN; rw [hS, if_neg ho, if_neg ho]; exact ⟨rfl, rfl⟩)
    have jz : (T / 18446744073709551616 == 0) = false := by rw [beq_eq_false_iff_ne]; omega
    clear hS ho hT
    go_wp2
    go_ret2
    exact ⟨by rw [HE.out.1, HE.out.2]; rfl, FR.out⟩
end Go.Proofs.YtdkkjchclkjleaaGreatDoor

/- fee: Of. -/
namespace Go.Proofs.YtdkkjchclkjleaaGreatDoor
open Go Go.RowKit Go.Maps Go.MapKept
def opens : List InD → List yF → Bool
 | x :: I, o :: O => decide (xG x.key = o.lock) && opens I O
 | _, _ => true
def qL (l : List yF) : List Int := l.map (·.value)
def vl (t : TxD) (prev : List yF) : Int :=
 if yt t = 0 then
  (if prev.length = t.ins.length then
   (if opens t.ins prev = true then
    (if (qL prev).sum < 18446744073709551616 then (if x9 t.outs ≤ (qL prev).sum then 0 else 11) else 11)
    else 13)
   else 2)
 else yt t
def vB (t : TxD) (prev : List yF) : Int := if vl t prev = 0 then (qL prev).sum - x9 t.outs else 0
theorem Vt : ∀ {I : List InD} {O : List yF}, opens I O = true ↔ ∀ (i : Nat) (x : InD) (o : yF), I[i]? = some x → O[i]? = some o → xG x.key = o.lock
 | [], O => by simp [opens]
 | x :: I, [] => by simp [opens]
 | x :: I, o :: O => by
  simp only [opens, Bool.and_eq_true, decide_eq_true_eq, Vt (I := I) (O := O)]
  constructor
  ·rintro ⟨h1, h2⟩ i y p hy hp
   cases i with
   | zero => simp at hy hp; subst hy; subst hp; exact h1
   | succ i => exact h2 i y p (by simpa using hy) (by simpa using hp)
  ·intro h
   exact ⟨h 0 x o rfl rfl, fun i y p hy hp => h (i + 1) y p (by simpa using hy) (by simpa using hp)⟩
theorem zfY : (Tryz.prog.info? 48).map (fun i => (i.zero, i.size, i.bytes)) = some (some (.int .u64 0), 1, 8) := by kernel_rfl
theorem zig : Tryz.prog.underlying 242 = some (.slice 48) := by kernel_rfl
theorem Xd : ∀ {l : List yF}, (∀ x ∈ l, 0 ≤ x.value) → 0 ≤ x9 l
 | [], _ => by simp [x9]
 | x :: l, h => by
  have := Xd (l := l) (fun y hy => h y (.tail _ hy))
  have h2 := h x (.head _)
  have e : x9 (x :: l) = x.value + x9 l := by simp [x9]
  omega
theorem ze7 {l : List yF} (h : ∀ x ∈ l, 0 ≤ x.value) (n : Nat) : x9 (l.take n) ≤ x9 l := by
 have e : x9 (l.take n ++ l.drop n) = x9 (l.take n) + x9 (l.drop n) := by simp only [x9, List.map_append, List.sum_append]
 rw [List.take_append_drop] at e
 have := Xd (l := l.drop n) (fun x hx => h x (List.mem_of_mem_drop hx))
 omega
def zee (w : World) (t : TxD) (prev : List yF) (e : Ending) (w' : World) : Prop := e = .returned (.tuple #[.int .u64 (vB t prev), .int .i64 (vl t prev)]) ∧ Fr No w w'
theorem Xb {t : TxD} {prev : List yF} {w : World} {E : Int} (h : vl t prev = E) (hE : E ≠ 0) : ∀ w', Fr No w w' → zee w t prev (.returned (.tuple #[.int .u64 0, .int .i64 E])) w' := fun w' f => by
 refine ⟨?_, f⟩
 have : vB t prev = 0 := by unfold vB; rw [h, if_neg hE]
 rw [this, h]
set_option maxRecDepth 20000 in
set_option maxHeartbeats 4000000 in
theorem Za {w : World} (hg : Jx w) {t : TxD} {cs : List Value} (ht : TxQ w t cs) {v : Value} {prev : List yF} (hp : xz w v prev) (hN : prev.length ≤ 1000) :
  Calls Tryz.prog 77 #[.agg cs.toArray, v] w (zee w t prev) := by
 have HG := Hd hg
 have HT := Hd ht
 have HP := Hd hp
 obtain ⟨ia, ic, oa, oc, rfl, hv, hi, ho⟩ := ht
 obtain ⟨va, vc, rfl⟩ := hp.2.form
 obtain ⟨dO, uO, rO⟩ := vA
 obtain ⟨dT, uT, rT⟩ := vw
 obtain ⟨dH, uH, rH⟩ := yj
 have zO := qT
 have F1 := Hd ((Fr.refl No w).alloc (.cells #[.int .u32 t.ver, .slice ia t.ins.length ic, .slice oa t.outs.length oc] 34))
 obtain ⟨-, c1, c2, r0⟩ := qZ w t.ver (.slice ia t.ins.length ic) (.slice oa t.outs.length oc)
 have C1 := Hd c1
 have C2 := Hd c2
 have R0 := Hd r0
 have HC := Hd (XK (w.alloc (.cells #[.int .u32 t.ver, .slice ia t.ins.length ic, .slice oa t.outs.length oc] 34)) (HT.out.keep F1.out))
 clear hi ho hv c1 c2 r0 hp hg
 show Calls Tryz.prog 77 #[.agg #[.int .u32 t.ver, .slice ia t.ins.length ic, .slice oa t.outs.length oc], .slice va prev.length vc] w _
 by_cases hck : yt t = 0
 rotate_left
 ·have BAD := Hd (Xb (t := t) (prev := prev) (w := w) (E := yt t) (by unfold vl; rw [if_neg hck]) hck)
  have jz : (yt t == 0) = false := by rw [beq_eq_false_iff_ne]; exact hck
  clear hck
  go_enter Tryz.func77, Tryz.ntmps77
  have K0 := tru
  have K1 := tru
  go_wp2_with (first | ((with_reducible refine zn ?_); have mk := K0.out; refine zd rfl (zf (ty := 34) rfl rfl R0.out uT rT zR) ?_; generalize w.alloc (.cells #[.int .u32 t.ver, .slice ia t.ins.length ic, .slice oa t.outs.length oc] 34) = w1 at *; go_frame) | (clear K1; go_at_call 32; refine HC.out.mono ?_; rintro e w2 ⟨rfl, f2⟩; have F12 := Hd f2; clear f2; go_frame))
  go_ret2
  exact BAD.out _ (F1.out.trans0 F12.out)
 have hi8 : t.ins.length ≤ 8 := by
  unfold yt at hck
  split at hck
  ·rename_i h; exact (yX.1 h).2.1
  ·cases hck
 have HKB := Hd (show ∀ x ∈ t.ins, x.key.length ≤ 64 by
  have hck2 := hck
  unfold yt at hck2
  split at hck2
  ·rename_i h; exact (yX.1 h).1
  ·cases hck2)
 by_cases hlen : prev.length = t.ins.length
 rotate_left
 ·have BAD := Hd (Xb (t := t) (prev := prev) (w := w) (E := 2) (by unfold vl; rw [if_pos hck, if_neg hlen]) (by decide))
  have jl : ¬ (prev.length : Int) = (t.ins.length : Int) := by omega
  have jl2 : ((prev.length : Int) == (t.ins.length : Int)) = false := by rw [beq_eq_false_iff_ne]; exact jl
  unfold vk at HC
  rw [hck] at HC
  clear hck hlen
  go_enter Tryz.func77, Tryz.ntmps77
  have K0 := tru
  have K1 := tru
  go_wp2_with (first | ((with_reducible refine zn ?_); have mk := K0.out; refine zd rfl (zf (ty := 34) rfl rfl R0.out uT rT zR) ?_; generalize w.alloc (.cells #[.int .u32 t.ver, .slice ia t.ins.length ic, .slice oa t.outs.length oc] 34) = w1 at *; go_frame) | (clear K1; go_at_call 32; refine HC.out.mono ?_; rintro e w2 ⟨rfl, f2⟩; have F12 := Hd f2; clear f2; have d1 := F12.out.cell C1.out id; go_frame))
  go_ret2
  exact BAD.out _ (F1.out.trans0 F12.out)
 have jl2 : ((prev.length : Int) == (t.ins.length : Int)) = true := by rw [beq_iff_eq]; omega
 have jl3 : ((prev.length : Int) != (t.ins.length : Int)) = false := by rw [bne, jl2]; rfl
 obtain ⟨iK, hiK, hz, hsz, hby⟩ := info_parts zfY
 have MK := Hd (fun (w3 : World) => run_makeSlice_full (P := Tryz.prog) (w := w3) w3.heap.size 242 48 iK _ 1 zig hiK hz hsz .i64 .i64 prev.length (by omega) (by rw [hby]; omega) (by unfold maxLen; omega) (Nat.le_refl _))
 have FE := Hd (show vl t prev = if opens t.ins prev = true then (if (qL prev).sum < 18446744073709551616 then (if x9 t.outs ≤ (qL prev).sum then 0 else 11) else 11) else 13 by unfold vl; rw [if_pos hck, if_pos hlen])
 have HLEN := Hd hlen
 unfold vk at HC
 rw [hck] at HC
 clear hiK hz hsz hby hck hlen
 go_enter Tryz.func77, Tryz.ntmps77
 have K0 := tru
 have K1 := tru
 go_wp2_with (first | ((with_reducible refine zn ?_); have mk := K0.out; refine zd rfl (zf (ty := 34) rfl rfl R0.out uT rT zR) ?_; generalize w.alloc (.cells #[.int .u32 t.ver, .slice ia t.ins.length ic, .slice oa t.outs.length oc] 34) = w1 at *; go_frame) | (clear K1; go_at_call 32; refine HC.out.mono ?_; rintro e w2 ⟨rfl, f2⟩; have F12 := Hd f2; clear f2; have d1 := F12.out.cell C1.out id; obtain ⟨w4, hmk, ho4, hg4⟩ := MK.out w2; have f24 : Fr No w2 w4 := Fr.of_grown hg4 (fun k e => by cases e); have F24 := Hd f24; have HO4 := Hd ho4; clear hg4 ho4 f24; go_frame))
 have F4 := Hd (F1.out.trans0 (F12.out.trans0 F24.out))
 have F14 := Hd (F12.out.trans0 F24.out)
 have GL := Hd (show w2.heap.size < w4.heap.size from (HO4.out.lt _ rfl).2)
 have WL := Hd (show w.heap.size < w2.heap.size by have h1 := World.block_lt_of_cell? _ _ C1.out; have h2 := F12.out.size; simp only at h1; omega)
 clear hmk
 generalize w2.heap.size = g at *
 clear d1
 have jn : prev.length ≤ 1000 := hN
 go_loopw [30] (fun iv wr => ∃ (n : Nat) (xs : List Value), iv = .int .i64 n ∧ n ≤ prev.length ∧ (∀ i, i < n → ∀ x o, t.ins[i]? = some x → prev[i]? = some o → xG x.key = o.lock) ∧ wr.ownsRow g 48 1 (.slice (some ⟨g, 0, none⟩) prev.length prev.length) prev.length xs ∧ xs.take n = ((qL prev).take n).map Qx ∧ Fr (fun j => j = g) w4 wr) (fun iv _ => prev.length - (intOf iv).toNat)
 case atStart => exact ⟨0, _, rfl, Nat.zero_le _, (fun i hi => by omega), HO4.out, by simp, Fr.refl _ _⟩
 case round =>
  obtain ⟨n, xs, rfl, hn, hop, hor, hxs, fr⟩ := hrel
  have FR := Hd fr
  have OP := Hd hop
  have HOR := Hd hor
  have HXS := Hd hxs
  have FW := Hd (show Fr No w wr from F4.out.trans fr (fun i hi e => by have := WL.out; omega))
  clear fr hop hor hxs
  by_cases hlt : n < prev.length
  ·have i1 : (n : Int) < (prev.length : Int) := by omega
   have i2 : (n : Int) < (t.ins.length : Int) := by have := HLEN.out; omega
   obtain ⟨o, hx⟩ : ∃ x, prev[n]? = some x := ⟨_, List.getElem?_eq_getElem hlt⟩
   obtain ⟨x, hy⟩ : ∃ x, t.ins[n]? = some x := ⟨_, List.getElem?_eq_getElem (by have := HLEN.out; omega)⟩
   obtain ⟨bb, off, cap, hv, hr, -⟩ := (HP.out.keep FW.out).at_ hx
   cases hv
   have ook := HP.out.1 o (List.mem_of_getElem? hx)
   obtain ⟨ia2, ic2, oa2, oc2, e2, -, hi2, -⟩ := HT.out.keep FW.out
   simp only [txC, List.cons.injEq, and_true] at e2
   obtain ⟨-, e2, -⟩ := e2
   injection e2 with e21 _ e23
   subst e21; subst e23
   obtain ⟨b3, off3, cap3, cs3, hv3, hr3, ka, kc, rfl, pok, hkey⟩ := hi2.at_ hy
   cases hv3
   have R1 := Hd hr
   have IL := Hd (yD ook)
   have KC := Hd (show wr.cell? ⟨b3, off3 + n * 34 + 33, none⟩ = some (.slice ka x.key.length kc) from (zdg hr3 pok).2)
   have KY := Hd hkey
   have LKN := Hd ook.2
   have fA := ((Fr.refl No wr).alloc (.cells (zG o).toArray 103)).drew
   have FA := Hd fA
   have fAr := (Fr.refl No wr).alloc (.cells (zG o).toArray 103)
   have FAR := Hd fAr
   obtain ⟨n1, n2⟩ := Q7 wr ook
   have N1 := Hd n1
   have N2 := Hd n2
   have XW := Hd (FR.out.cell (F14.out.cell C1.out id) (fun e => by have e2 : w.heap.size = g := e; have := WL.out; omega))
   have HXX := Hd hx
   have HYY := Hd hy
   have LOCK := Hd (zam (HG.out.keep0 (FW.out.trans0 fA)) ((hkey.keep fA).2) (by have := HKB.out x (List.mem_of_getElem? hy); omega))
   have SOK := Hd (vU x.key)
   have QX := Hd (show wr.heap.size < (wr.alloc (.cells (zG o).toArray 103)).drew.heap.size by show wr.heap.size < (wr.alloc (.cells (zG o).toArray 103)).heap.size; simp)
   have KS := Hd (show ∀ w', Fr No (wr.alloc (.cells (zG o).toArray 103)).drew w' → w'.cell? ⟨w.heap.size, 1, none⟩ = some (.slice (some ⟨b3, off3, none⟩) t.ins.length ic) ∧ w'.cell? ⟨b3, off3 + n * 34 + 33, none⟩ = some (.slice ka x.key.length kc) ∧ w'.rangeAt wr.heap.size 1 (zj o.lock) from fun w' f => ⟨f.cell (FA.out.cell XW.out id) id, f.cell (FA.out.cell KC.out id) id, zb (zb N2.out (Fr.refl No _).drew id) f id⟩)
   have OPN := Hd (show xG x.key ≠ o.lock → opens t.ins prev = false from fun hne => by
    cases ho : opens t.ins prev with
    | false => rfl
    | true => exact absurd (Vt.1 ho n x o hy hx) hne)
   have TF := Hd (show ((qL prev).take (n + 1)).map Qx = ((qL prev).take n).map Qx ++ [Qx o.value] by
    have e3 : (qL prev)[n]? = some o.value := by simp [qL, hx]
    rw [List.take_add_one, e3]
    simp)
   have OPS := Hd (show xG x.key = o.lock → ∀ i, i < n + 1 → ∀ x' o', t.ins[i]? = some x' → prev[i]? = some o' → xG x'.key = o'.lock from fun he i hi x' o' h1 h2 => by
    by_cases hin : i < n
    ·exact OP.out i hin x' o' h1 h2
    ·obtain rfl : i = n := by omega
     rw [hy] at h1; rw [hx] at h2
     cases h1; cases h2
     exact he)
   have HORA := Hd (zl HOR.out fA (fun _ _ => id))
   clear hr hr3 hkey pok hi2 fA fAr n1 n2 hx hy ook
   go_wp2_with (first | (refine zd rfl (zf (ty := 103) rfl rfl R1.out uO rO (by rw [IL.out]; exact zY)) ?_) | (refine zq rfl (zm (w := wr) (ty := 103) (cs := zG o) rfl rfl rfl (by rw [IL.out]; rfl) (by rw [IL.out]; exact zY) ye) ?_))
   refine zv [false, false, false, false, false, false, true, false, false, false] (fun w' => w'.cell? ⟨w.heap.size, 1, none⟩ = some (.slice (some ⟨b3, off3, none⟩) t.ins.length ic) ∧ w'.cell? ⟨b3, off3 + n * 34 + 33, none⟩ = some (.slice ka x.key.length kc) ∧ w'.rangeAt wr.heap.size 1 (zj o.lock)) (by kernel_rfl) (by kernel_rfl) ?_ (fun K hK => ?_)
   ·exact KS.out _ (Fr.refl _ _)
   repeat (first | ((first | with_reducible refine zx ?_ | ((with_reducible refine zu ?_ ?_); (focus rfl))); apply Exists.intro; refine ⟨?_, ?_⟩; (focus (first | (intro w' hS; obtain ⟨s1, s2, s3⟩ := hS; go_simp; (try with_reducible rfl); done))); try simp only [Act.put, pA, pB, pC]) | ((first | ((with_reducible refine zg (c := false) ?_ ?_ ?_); (focus rfl); (focus rfl)) | ((with_reducible refine zg (c := true) ?_ ?_ ?_); (focus rfl); (focus rfl)) | ((with_reducible refine zt ?_ ?_); (focus rfl))); try simp only [Act.put, pA, pB, pC]))
   (first | with_reducible refine zU (fun K' hK' => ?_) | ((with_reducible refine zK ?_ (fun K' hK' => ?_)); (focus rfl)))
   go_simp
   refine LOCK.out.mono ?_
   rintro e wz ⟨rfl, fz⟩
   have FZ := Hd fz
   have FWZ := Hd (show Fr (fun j => j = g) w4 wz from (FR.out.trans0 FA.out).trans0 fz)
   have FTZ := Hd ((FW.out.trans0 FA.out).trans0 fz)
   have N1Z := fz.cell ((Fr.refl No _).drew.cell N1.out id) id
   have HOZ := Hd (zl HORA.out fz (fun _ _ => id))
   clear fz
   refine hK'.out _ _ ?_ (fun hS => ?_)
   ·exact KS.out _ FZ.out
   try simp only [Act.put, pA, pB, pC]
   by_cases heq : xG x.key = o.lock
   ·repeat (first | ((first | with_reducible refine zx ?_ | ((with_reducible refine zu ?_ ?_); (focus rfl))); apply Exists.intro; refine ⟨?_, ?_⟩; (focus (first | exact zD (ty := 41) rfl (fun w h => h.2.2) uH rH (by rw [zE LKN.out]; exact zr) | exact fun w' _ => xy.exec_neq rfl (u := (zj (xG x.key)).toArray) (v := (zj o.lock).toArray) rfl rfl (yd SOK.out) (yd LKN.out) true (by rw [heq]; simp) w' | (intro w' hS; obtain ⟨s1, s2, s3⟩ := hS; go_simp; (try with_reducible rfl); done))); try simp only [Act.put, pA, pB, pC]) | ((first | ((with_reducible refine zg (c := false) ?_ ?_ ?_); (focus rfl); (focus rfl)) | ((with_reducible refine zg (c := true) ?_ ?_ ?_); (focus rfl); (focus rfl)) | ((with_reducible refine zt ?_ ?_); (focus rfl))); try simp only [Act.put, pA, pB, pC]))
    refine zM (hK.out _ _ ?_)
    have OPZ := Hd (OPS.out heq)
    obtain ⟨tk1, tk2⟩ := J7 HOZ.out hlt 0 (by decide)
    obtain ⟨u0, tk3⟩ := Option.isSome_iff_exists.1 tk1
    simp only [Nat.mul_one, Nat.add_zero] at tk2 tk3
    have HO6 := Hd (vz HOZ.out n (cs := [Qx o.value]) (by simp; omega))
    have HX6 := Hd (show (qQ xs n [Qx o.value]).take (n + 1) = ((qL prev).take (n + 1)).map Qx by
     have h1 := VH xs [Qx o.value] n (by rw [HOZ.out.1]; simp; omega)
     simp only [List.length_singleton] at h1
     rw [h1, HXS.out, TF.out])
    have F6 := Hd (show Fr (fun j => j = g) w4 (wz.setCells g n [Qx o.value]) from FWZ.out.trans (zJ g [Qx o.value] n wz) (fun _ _ h => h))
    clear tk1 heq
    go_wp2_with fail
    go_roundw
    case rel => exact ⟨n + 1, _, by go_num, by omega, OPZ.out, HO6.out, HX6.out, F6.out⟩
    case measure => simp [intOf]; omega
   ·repeat (first | ((first | with_reducible refine zx ?_ | ((with_reducible refine zu ?_ ?_); (focus rfl))); apply Exists.intro; refine ⟨?_, ?_⟩; (focus (first | exact zD (ty := 41) rfl (fun w h => h.2.2) uH rH (by rw [zE LKN.out]; exact zr) | exact fun w' _ => xy.exec_neq rfl (u := (zj (xG x.key)).toArray) (v := (zj o.lock).toArray) rfl rfl (yd SOK.out) (yd LKN.out) false (by simp only [Bool.false_eq_true, false_iff]; intro h; exact heq (XX (by simpa using congrArg Array.toList h))) w' | (intro w' hS; obtain ⟨s1, s2, s3⟩ := hS; go_simp; (try with_reducible rfl); done))); try simp only [Act.put, pA, pB, pC]) | ((first | ((with_reducible refine zg (c := false) ?_ ?_ ?_); (focus rfl); (focus rfl)) | ((with_reducible refine zg (c := true) ?_ ?_ ?_); (focus rfl); (focus rfl)) | ((with_reducible refine zt ?_ ?_); (focus rfl))); try simp only [Act.put, pA, pB, pC]))
    refine zM (hK.out _ _ ?_)
    have BAD := Hd (Xb (t := t) (prev := prev) (w := w) (E := 13) (by rw [FE.out, OPN.out heq]; rfl) (by decide))
    clear heq
    go_wp2_with fail
    go_ret2
    exact BAD.out _ FTZ.out
  ·have hne : n = prev.length := by omega
   have i1 : ¬ (n : Int) < (prev.length : Int) := by omega
   have hopen : opens t.ins prev = true := Vt.2 (fun i x o h1 h2 => OP.out i (by have := (List.getElem?_eq_some_iff.1 h2).1; omega) x o h1 h2)
   rw [hopen] at FE
   have hxe : xs = (qL prev).map Qx := by
    have h1 := HXS.out
    rw [hne, List.take_of_length_le (by rw [HOR.out.1]; omega), List.take_of_length_le (by simp [qL])] at h1
    exact h1
   have VL := Hd (show (qL prev).length = prev.length by simp [qL])
   have SUM := Hd (zc5 wr (v := .slice (some ⟨g, 0, none⟩) prev.length prev.length) (l := qL prev) (by rw [VL.out, ← hxe]; exact HOR.out.slice.arg) (fun y hy => by
    obtain ⟨o, ho, rfl⟩ := List.mem_map.1 hy
    exact (HP.out.1 o ho).1) (by rw [VL.out]; omega))
   have OV := Hd (show ∀ x ∈ t.outs, x.ok from (HT.out.oks).2)
   have XW := Hd (FR.out.cell (F14.out.cell C2.out id) (fun e => by have e2 : w.heap.size = g := e; have := WL.out; omega))
   obtain ⟨S0, hS0'⟩ : ∃ S0, S0 = (qL prev).sum := ⟨_, rfl⟩
   have hS0 := hS0'.symm
   have hS1 := Hd hS0
   rw [hS0] at FE
   have HE1 := Hd (show S0 < 18446744073709551616 → zb4 (qL prev) = 0 ∧ zbN (qL prev) = S0 from fun h => by unfold zb4 zbN; rw [hS0, if_pos h, if_pos h]; exact ⟨rfl, rfl⟩)
   have HE2 := Hd (show ¬ S0 < 18446744073709551616 → zb4 (qL prev) = 3 ∧ zbN (qL prev) = 0 from fun h => by unfold zb4 zbN; rw [hS0, if_neg h, if_neg h]; exact ⟨rfl, rfl⟩)
   have S0N := Hd (show 0 ≤ S0 by
    rw [← hS0]
    exact Xd (l := prev) (fun x hx => (HP.out.1 x hx).1.1))
   clear hopen hxe jn hS0 hS0'
   by_cases hov : S0 < 18446744073709551616
   rotate_left
   ·have BAD := Hd (Xb (t := t) (prev := prev) (w := w) (E := 11) (by rw [FE.out, if_pos rfl, if_neg hov]) (by decide))
    have hEE := HE2.out hov
    rw [hEE.1, hEE.2] at SUM
    clear hov hEE hlt hn
    go_wp2_with (go_at_call 128; refine SUM.out.mono ?_; rintro e w5 ⟨rfl, f5⟩; have F5 := Hd f5; clear f5)
    go_ret2
    exact BAD.out _ (FW.out.trans0 F5.out)
   have hEE := HE1.out hov
   rw [hEE.1, hEE.2] at SUM
   have FEE := Hd (show vl t prev = if x9 t.outs ≤ S0 then 0 else 11 by rw [FE.out, if_pos rfl, if_pos hov])
   have HOV := Hd hov
   clear hEE hlt hn
   have hol : t.outs.length ≤ 9223372036854775807 := by
    obtain ⟨_, _, _, _, _, _, _, ho2⟩ := HT.out
    exact Nat.le_trans ho2.2.len (by unfold maxLen; decide)
   go_wp2_with (go_at_call 128; refine SUM.out.mono ?_; rintro e w5 ⟨rfl, f5⟩; have F5 := Hd (FW.out.trans0 f5); have yy := f5.cell XW.out id; clear f5)
   clear yy
   go_loopw [10, 61] (fun lv iv wr => ∃ n : Nat, iv = .int .i64 n ∧ n ≤ t.outs.length ∧ lv = .int .u64 (S0 - x9 (t.outs.take n)) ∧ x9 (t.outs.take n) ≤ S0 ∧ Fr No w5 wr) (fun _ iv _ => t.outs.length - (intOf iv).toNat)
   case atStart => exact ⟨0, rfl, Nat.zero_le _, by simp [x9], by simpa [x9] using S0N.out, Fr.refl _ _⟩
   case round =>
    obtain ⟨k, rfl, hk, rfl, hle, fr⟩ := hrel
    have FQ := Hd (F5.out.trans0 fr)
    have FR5 := Hd fr
    have NN := Xd (l := t.outs.take k) (fun x hx => (OV.out x (List.mem_of_mem_take hx)).1.1)
    clear fr
    by_cases hlk : k < t.outs.length
    ·have i3 : (k : Int) < (t.outs.length : Int) := by omega
     obtain ⟨x, hx⟩ : ∃ x, t.outs[k]? = some x := ⟨_, List.getElem?_eq_getElem hlk⟩
     have SN := Hd (zaV hx)
     have MO := Hd (ze7 (l := t.outs) (fun x hx => (OV.out x hx).1.1) (k + 1))
     obtain ⟨_, _, oa2, oc2, e2, -, -, ho2⟩ := HT.out.keep FQ.out
     simp only [txC, List.cons.injEq, and_true] at e2
     obtain ⟨-, -, e2⟩ := e2
     injection e2 with e21 _ e23
     subst e21; subst e23
     obtain ⟨bb, off, cap, hv, hr, -⟩ := ho2.at_ hx
     cases hv
     have ook := OV.out x (List.mem_of_getElem? hx)
     have R1 := Hd hr
     have IL := Hd (yD ook)
     have FA := Hd ((Fr.refl No wr).alloc (.cells (zG x).toArray 103))
     have n1 := (Q7 wr ook).1
     have vv := ook.1
     have hov2 := HOV.out
     clear hr hx ook ho2
     generalize hT : x9 (t.outs.take k) = T at *
     by_cases hlx : S0 - T < x.value
     ·have BAD := Hd (Xb (t := t) (prev := prev) (w := w) (E := 11) (by rw [FEE.out, if_neg (by have := MO.out; have := SN.out; omega)]) (by decide))
      have jx : decide (S0 - T < x.value) = true := by simpa using hlx
      clear vv NN hle
      have K0 := tru
      have K1 := tru
      go_wp2_with (first | ((with_reducible refine zn ?_); have mk := K0.out; refine zd rfl (zf (ty := 103) rfl rfl R1.out uO rO (by rw [IL.out]; exact zY)) ?_; go_frame) | ((with_reducible refine zA ?_); have mk := K1.out; refine zq rfl (zm (w := wr) (ty := 103) (cs := zG x) rfl rfl rfl (by rw [IL.out]; rfl) (by rw [IL.out]; exact zY) ye) ?_; generalize wr.alloc (.cells (zG x).toArray 103) = wA at *; go_frame))
      go_ret2
      exact BAD.out _ (FQ.out.trans0 FA.out)
     ·have jx : ¬ S0 - T < x.value := hlx
      have es : (S0 - T - x.value) % 18446744073709551616 = S0 - T - x.value := by omega
      have ES := Hd (show S0 - T - x.value = S0 - x9 (t.outs.take (k + 1)) by rw [SN.out]; omega)
      have LE2 := Hd (show x9 (t.outs.take (k + 1)) ≤ S0 by rw [SN.out]; omega)
      clear vv NN hle hlx
      have K0 := tru
      have K1 := tru
      go_wp2_with (first | ((with_reducible refine zn ?_); have mk := K0.out; refine zd rfl (zf (ty := 103) rfl rfl R1.out uO rO (by rw [IL.out]; exact zY)) ?_; go_frame) | ((with_reducible refine zA ?_); have mk := K1.out; refine zq rfl (zm (w := wr) (ty := 103) (cs := zG x) rfl rfl rfl (by rw [IL.out]; rfl) (by rw [IL.out]; exact zY) ye) ?_; generalize wr.alloc (.cells (zG x).toArray 103) = wA at *; go_frame))
      go_roundw
      case rel => exact ⟨k + 1, by go_num, by omega, by rw [← ES.out], LE2.out, FR5.out.trans0 FA.out⟩
      case measure => simp [intOf]; omega
    ·have hke : k = t.outs.length := by omega
     have i3 : ¬ (k : Int) < (t.outs.length : Int) := by omega
     have est : t.outs.take k = t.outs := by rw [hke, List.take_length]
     rw [est] at hle
     have GOOD := Hd (show zee w t prev (.returned (.tuple #[.int .u64 (S0 - x9 t.outs), .int .i64 0])) wr from ⟨by
      have h1 : vl t prev = 0 := by rw [FEE.out, if_pos hle]
      have h2 : vB t prev = S0 - x9 t.outs := by unfold vB; rw [if_pos h1, hS1.out]
      rw [h1, h2], FQ.out⟩)
     rw [est]
     clear hle NN est
     go_wp2
     go_ret2
     exact GOOD.out
end Go.Proofs.YtdkkjchclkjleaaGreatDoor
