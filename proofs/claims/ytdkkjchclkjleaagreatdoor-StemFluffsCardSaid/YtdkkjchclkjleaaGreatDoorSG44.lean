/- stem: Sources, Seen, Get. -/
import Derived.Laws.BytesArg
import Derived.Laws.BytesString
import Derived.Laws.Strings
import Derived.Test.YtdkkjchclkjleaaGreatDoorSG39
import Derived.Test.YtdkkjchclkjleaaGreatDoorSG42
import Derived.Test.YtdkkjchclkjleaaGreatDoorSG43
import Derived.Test.YtdkkjchclkjleaaGreatDoorSG34
import Derived.Test.YtdkkjchclkjleaaGreatDoorSG19
import Derived.Test.YtdkkjchclkjleaaGreatDoorSG22
import Derived.Test.YtdkkjchclkjleaaGreatDoorSG17
import Derived.Test.YtdkkjchclkjleaaGreatDoorSG36
set_option linter.unusedVariables false
set_option linter.unusedSimpArgs false
set_option linter.unnecessarySimpa false
set_option linter.all false
namespace Go.Proofs.YtdkkjchclkjleaaGreatDoor
open Go Go.RowKit Go.Maps Go.MapKept
def iV (n : Nat) : Value := .int .i64 (n : Int)
theorem zd2 : Tryz.prog.underlying 58 = some (.slice 3) := by kernel_rfl
theorem zgq : (Tryz.prog.info? 3).map (fun i => (i.zero, i.size, i.bytes)) = some (some (.int .i64 0), 1, 8) := by kernel_rfl
theorem zeC : (Tryz.prog.info? 3).map (fun i => (i.zero, i.size)) = some (some (.int .i64 0), 1) := by kernel_rfl
theorem zh8 : ∃ d, Tryz.prog.underlying 63 = some d ∧ d.isRow = true := jf (by kernel_rfl)
theorem zix : (Tryz.prog.info? 63).map (·.size) = some 65 := by kernel_rfl
theorem ziq {l : List Value} (hl : l.length = 65) {k : Nat} {v : Value} (hk : l[k]? = some v) (w : World) : (Instr.index 63 (.agg l.toArray) (.int .i64 k)).run Tryz.prog w = .ok v w := by
 have hlt : k < 65 := by have := (List.getElem?_eq_some_iff.1 hk).1; omega
 have hn : (0 ≤ (k : Int) ∧ (k : Int) < ((65 : Nat) : Int)) := by omega
 have i8 : (sizeOf 38).run Tryz.prog w = .ok 1 w := by kernel_rfl
 simp [Instr.index, run_underlying Tryz.underlying63, asIntOf, hn, i8, part, go_sem, hlt, hk]
section
variable {w0 w w' : World} {p ma ms : Nat} {R : Nat → Value} {X : Nat → Prop} {C : Nat → zi → List Value} {Q : StQ}
def zap (Q : StQ) (k : Nat) : List Nat := (List.range k).filter fun i => decide (Q i ≠ [])
theorem zhf (Q : StQ) (k : Nat) : (zap Q k).length ≤ k := by
 have := List.length_filter_le (fun i => decide (Q i ≠ [])) (List.range k)
 rw [List.length_range] at this
 exact this
theorem ziJ {k : Nat} (h : Q k = []) : zap Q (k + 1) = zap Q k := by
 unfold zap
 rw [List.range_succ, List.filter_append]
 simp [h]
theorem zhd {k : Nat} (h : Q k ≠ []) : zap Q (k + 1) = zap Q k ++ [k] := by
 unfold zap
 rw [List.range_succ, List.filter_append]
 simp [h]
set_option maxRecDepth 20000 in
set_option maxHeartbeats 4000000 in
theorem zeA (h : yz w0 w p ma ms R X C Q) :
  Calls Tryz.prog 21 #[.pointer (some ⟨p, 0, none⟩)] w fun e w' => ∃ lv, e = .returned lv ∧ w'.ownsRow w.heap.size 3 1 lv (Jo Q).length ((Jo Q).map iV) ∧ Fr No w w' := by
 obtain ⟨dO, uO, rO⟩ := zh8
 have RA := Hd (show w.rangeAt p 1 ((List.range 65).map R) from fun j v hj => by
  have hj65 : j < 65 := by have := (List.getElem?_eq_some_iff.1 hj).1; simpa using this
  have h2 := h.cells.2.2 j hj65
  rw [List.getElem?_map, List.getElem?_range hj65] at hj
  simp at hj
  rw [← hj, Nat.add_comm]
  exact h2)
 obtain ⟨rl, hrl⟩ : ∃ rl, (List.range 65).map R = rl := ⟨_, rfl⟩
 have AL := Hd (show rl.length = 65 by rw [← hrl]; simp)
 have IX := Hd (fun (k : Nat) (hk : k < 65) (w : World) => ziq (l := rl) (v := R k) AL.out (by rw [← hrl, List.getElem?_map, List.getElem?_range hk]; rfl) w)
 have RF := Hd (fun (k : Nat) (hk : k < 65) => h.row_form hk)
 rw [hrl] at RA
 clear h hrl
 go_enter Tryz.func21, Tryz.ntmps21
 have K0 := tru
 go_wp2_with (first | ((with_reducible refine zn ?_); have mk := K0.out; refine zd rfl (zf (ty := 63) rfl rfl RA.out uO rO (by rw [AL.out]; exact zix)) ?_; go_frame))
 go_loopw [3, 12] (fun lv iv wr => ∃ (k : Nat) (la : Option Addr) (lc : Nat), iv = .int .i64 k ∧ k ≤ 65 ∧ lv = .slice la (zap Q k).length lc ∧ wr.ownsRow w.heap.size 3 1 (.slice la (zap Q k).length lc) (zap Q k).length ((zap Q k).map iV) ∧ Fr No w wr) (fun _ iv _ => 65 - (intOf iv).toNat)
 case atStart => exact ⟨0, none, 0, rfl, by omega, rfl, World.ownsRow_nil _ _ _ _, Fr.refl _ _⟩
 case round =>
  obtain ⟨k, la, lc, rfl, hk, rfl, ho, fr⟩ := hrel
  have O := Hd ho
  have FR := Hd fr
  clear ho fr
  by_cases hlt : k < 65
  ·have i1 : (k : Int) < 65 := by omega
   obtain ⟨ra, rc, hR⟩ := RF.out k hlt
   have ix := IX.out k hlt
   rw [hR] at ix
   clear hR
   by_cases hq : Q k = []
   ·have NX := Hd (ziJ hq)
    have hl : (Q k).length = 0 := by rw [hq]; rfl
    rw [hl] at ix
    clear hq hl
    go_wp2_with fail
    go_roundw
    case rel => exact ⟨k + 1, la, lc, by go_num, by omega, by rw [NX.out], by rw [NX.out]; exact O.out, FR.out⟩
    case measure => simp [intOf]; omega
   ·have NX := Hd (zhd hq)
    have i2 : (0 : Int) < ((Q k).length : Int) := by have := List.length_pos_iff.2 hq; omega
    have SL := Hd (zhf Q k)
    clear hq
    obtain ⟨v8, w8, b1, b2, b3, -, b5⟩ := xj (P := Tryz.prog) wr w.heap.size 58 58 3 1 8 _ zd2 zgq rfl (by decide) O.out [.int .i64 k] rfl (by simp [Value.oneCell']) (by have := SL.out; omega) (by have := SL.out; unfold maxLen; omega) FR.out.size
    obtain ⟨va8, vc8, hv8⟩ := b2.slice.arg.form
    subst hv8
    have B1 := Hd b1
    have B2 := Hd b2
    have B3 := Hd b3
    clear b1 b2 b3 b5
    have K0 := tru
    have K1 := tru
    go_wp2_with (first | ((with_reducible refine zn ?_); have mk := K0.out; refine zd rfl (Zd (t := 58) (v := .int .i64 k) rfl rfl zd2 zeC rfl (by decide) (by decide) rfl) ?_; go_frame) | ((with_reducible refine zn ?_); have mk := K1.out; at_builtin; refine zW rfl rfl rfl rfl B1.out ?_; go_frame))
    go_roundw
    case rel => exact ⟨k + 1, va8, vc8, by go_num, by omega, by rw [NX.out]; simp, by rw [NX.out]; simpa [iV] using B2.out, FR.out.trans B3.out (fun i hi e => by have := (O.out.lt i e).1; omega)⟩
    case measure => simp [intOf]; omega
  ·have hke : k = 65 := by omega
   subst hke
   go_wp2_with fail
   go_ret
   exact ⟨_, rfl, O.out, FR.out⟩
end
end Go.Proofs.YtdkkjchclkjleaaGreatDoor

/- stem: Seen, Get. -/
namespace Go.Proofs.YtdkkjchclkjleaaGreatDoor
open Go Go.RowKit Go.Maps Go.MapKept
section
variable {w0 w w' : World} {p ma ms : Nat} {R : Nat → Value} {X : Nat → Prop} {C : Nat → zi → List Value} {Q : StQ}
theorem yz.same (h : yz w0 w p ma ms R X C Q) {Q' : StQ} (hq : ∀ i, i < 65 → Q' i = Q i) (hv : ∀ i, SVal (Q' i)) : yz w0 w p ma ms R X C Q' := by
 obtain ⟨M, hM, hm⟩ := h.am
 obtain ⟨M', hM', hm'⟩ := h.sm
 exact { h with
  row := fun i hi => by rw [hq i hi]; exact h.row i hi
  am := ⟨M, hM, fun k cs => by
   rw [hm]
   exact ⟨fun ⟨i, a, b, e, c, d⟩ => ⟨i, a, b, e, by rw [hq i a]; exact c, d⟩, fun ⟨i, a, b, e, c, d⟩ => ⟨i, a, b, e, by rw [hq i a] at c; exact c, d⟩⟩⟩
  sm := ⟨M', hM', fun k x => by
   rw [hm']
   exact ⟨fun ⟨i, a, b, e, c, d⟩ => ⟨i, a, b, e, by rw [hq i a]; exact c, d⟩, fun ⟨i, a, b, e, c, d⟩ => ⟨i, a, b, e, by rw [hq i a] at c; exact c, d⟩⟩⟩
  data := fun i hi e he => h.data i hi e (by rw [hq i hi] at he; exact he)
  val := hv }
theorem zfg (Q : StQ) {n : Nat} (hn : n < 65) (x : zi) : vC Q n x = decide (x ∈ yc (Q n)) := by
 unfold vC
 rw [Int.toNat_natCast]
 by_cases hx : x ∈ yc (Q n)
 ·have h65 : (n : Int) < 65 := by omega
  simp [hx, h65]
 ·simp [hx]
end
end Go.Proofs.YtdkkjchclkjleaaGreatDoor

/- stem: a chain, a pool and sources' pools beside one another. -/
namespace Go.Proofs.YtdkkjchclkjleaaGreatDoor
open Go Go.RowKit Go.Maps Go.MapKept
structure WA where
 S0 : List zy
 S : List zy
 bs : List xt
 L : List z7
 Q : StQ
theorem zjz {w0 wb w : World} {p : Nat} {V X : Nat → Prop} {S0 S : List zy} {bs : List xt} {css : List (List Value)} (h : CX w0 w p V X S0 S bs css) (f : Fr No wb w0) : CX wb w p V X S0 S bs css := by
 obtain ⟨hh, s, U, mi, bv, M, hc, hV, hid, hpos⟩ := h.gd
 have hs : CS wb w s U S := { hc.set with lo := fun j hj => Nat.le_trans f.size (hc.set.lo j hj), fr := f.trans0 hc.set.fr }
 have hc2 : JP wb w p s U mi bv css ⟨S, bs, M⟩ := { hc with set := hs, row := yU hc.row f.size, lo1 := Nat.le_trans f.size hc.lo1, lo2 := Nat.le_trans f.size hc.lo2 }
 exact { h with gd := ⟨hh, s, U, mi, bv, M, hc2, hV, hid, hpos⟩ }
structure WP (w0 w : World) (pc : Nat) (VC : Nat → Prop) (css : List (List Value)) (pp ma ms g : Nat) (VG : Nat → Prop) (CP : zi → List Value) (N ps ka ks : Nat) (R : Nat → Value) (CS : Nat → zi → List Value) (X : Nat → Prop) (A : WA) : Prop where
 ch : CX w0 w pc VC X A.S0 A.S A.bs css
 po : yf w0 w pp ma ms g VG X CP A.L N
 st : yz w0 w ps ka ks R X CS A.Q
 cp : ∀ j, VC j → ¬ poV pp ma ms VG j
 csd : ∀ j, VC j → ¬ stV ps ka ks R j
 psd : ∀ j, poV pp ma ms VG j → ¬ stV ps ka ks R j
 cx : ∀ j, VC j → X j
 xl : ∀ j, X j → j < w.heap.size
 val : jg A.S (jj A.bs) A.L
 l32 : A.L.length ≤ 32
 ad : ∀ e ∈ A.L, e.added = 0
def wT (VC : Nat → Prop) (pp ma ms : Nat) (VG : Nat → Prop) (ps ka ks : Nat) (R : Nat → Value) : Nat → Prop := fun j => VC j ∨ poV pp ma ms VG j ∨ stV ps ka ks R j
def WS (w0 w : World) (pc pp ps : Nat) (T X : Nat → Prop) (N : Nat) (A : WA) : Prop :=
 ∃ VC css ma ms g VG CP ka ks R CS, WP w0 w pc VC css pp ma ms g VG CP N ps ka ks R CS X A ∧ T = wT VC pp ma ms VG ps ka ks R
section
variable {w0 w w' : World} {pc pp ps N : Nat} {T X : Nat → Prop} {A : WA}
theorem WS.facts (h : WS w0 w pc pp ps T X N A) : (∀ j, T j → w0.heap.size ≤ j ∧ j < w.heap.size ∧ X j) ∧ (∀ j, X j → j < w.heap.size) ∧ Fr No w0 w ∧ jg A.S (jj A.bs) A.L ∧ A.L.length ≤ 32 ∧ (∀ c ∈ A.S, c.ok) ∧ ∀ i, SVal (A.Q i) := by
 obtain ⟨VC, css, ma, ms, g, VG, CP, ka, ks, R, CS, h, rfl⟩ := h
 refine ⟨fun j hj => ?_, h.xl, h.po.fr, h.val, h.l32, h.ch.g.hok.ok, h.st.val⟩
 rcases hj with e | e | e
 ·exact ⟨h.ch.g.lo j e, h.ch.g.hi j e, h.cx j e⟩
 ·exact ⟨h.po.lo j e, h.po.hi j e, h.po.sub j e⟩
 ·exact ⟨h.st.lo j e, h.st.hi j e, h.st.sub j e⟩
theorem WS.frV (h : WS w0 w pc pp ps T X N A) {U X' : Nat → Prop} (f : Fr U w w') (hU : ∀ j, T j → ¬ U j) (h0 : ∀ j, U j → w0.heap.size ≤ j) (hUX : ∀ j, U j → X j) (hX : ∀ j, j < w.heap.size → X' j → X j) (hs : ∀ j, T j → X' j) (hl : ∀ j, X' j → j < w'.heap.size) : WS w0 w' pc pp ps T X' N A := by
 obtain ⟨VC, css, ma, ms, g, VG, CP, ka, ks, R, CS, h, rfl⟩ := h
 exact ⟨VC, css, ma, ms, g, VG, CP, ka, ks, R, CS,
  {ch := h.ch.frV f (fun j hj => hU j (.inl hj)) h0 hUX hX
   po := h.po.frV f (fun j hj => hU j (.inr (.inl hj))) h0 hUX hX (fun j hj => hs j (.inr (.inl hj)))
   st := h.st.frV f (fun j hj => hU j (.inr (.inr hj))) h0 hUX hX (fun j hj => hs j (.inr (.inr hj)))
   cp := h.cp
   csd := h.csd
   psd := h.psd
   cx := fun j hj => hs j (.inl hj)
   xl := hl
   val := h.val
   l32 := h.l32
   ad := h.ad }, rfl⟩
theorem WS.fr0 (h : WS w0 w pc pp ps T X N A) (f : Fr No w w') : WS w0 w' pc pp ps T X N A :=
 h.frV f (fun _ _ => id) (fun _ h => h.elim) (fun _ h => h.elim) (fun _ _ h => h) (fun j hj => (h.facts.1 j hj).2.2) (fun j hj => Nat.lt_of_lt_of_le (h.facts.2.1 j hj) f.size)
structure j9 (w0 w w' : World) (pc pp ps : Nat) (T X : Nat → Prop) (N : Nat) (A' : WA) (T' X' : Nat → Prop) : Prop where
 ws : WS w0 w' pc pp ps T' X' N A'
 fr : Fr T w w'
 tn : ∀ j, T' j → T j ∨ w.heap.size ≤ j
 xn : ∀ j, X' j → X j ∨ w.heap.size ≤ j
 xx : ∀ j, X j → X' j
theorem WS.idle (h : WS w0 w pc pp ps T X N A) (f : Fr No w w') : j9 w0 w w' pc pp ps T X N A T X :=
 ⟨h.fr0 f, f.of0, fun _ h => .inl h, fun _ h => .inl h, fun _ h => h⟩
noncomputable def Zw (A : WA) (i : Int) (t : TxD) : Int := if i < 0 ∨ 64 < i then 2 else qV A.S (jj A.bs) A.L (A.Q i.toNat) t
noncomputable def JG (A : WA) (i : Int) (t : TxD) : WA := if i < 0 ∨ 64 < i then A else { A with Q := qU A.Q i.toNat (JJ A.S (jj A.bs) A.L (A.Q i.toNat) t) }
theorem zeb {VC : Nat → Prop} {css : List (List Value)} {ma ms g : Nat} {VG : Nat → Prop} {CP : zi → List Value} {ka ks : Nat} {R R' : Nat → Value} {CS CS' : Nat → zi → List Value} {X' : Nat → Prop} {Q' : StQ}
  (h : WP w0 w pc VC css pp ma ms g VG CP N ps ka ks R CS X A) (f : Fr (stV ps ka ks R) w w') (hs : yz w0 w' ps ka ks R' X' CS' Q') (hst : ∀ j, stV ps ka ks R' j → stV ps ka ks R j ∨ w.heap.size ≤ j) (h1 : ∀ j, X j → X' j) (h2 : ∀ j, X' j → X j ∨ w.heap.size ≤ j) (h3 : ∀ j, X' j → j < w'.heap.size) :
  j9 w0 w w' pc pp ps (wT VC pp ma ms VG ps ka ks R) X N { A with Q := Q' } (wT VC pp ma ms VG ps ka ks R') X' := by
 have hX : ∀ j, j < w.heap.size → X' j → X j := fun j hj e => (h2 j e).resolve_right (by omega)
 refine ⟨⟨VC, css, ma, ms, g, VG, CP, ka, ks, R', CS', ?_, rfl⟩, f.mono (fun j e => .inr (.inr e)), fun j hj => ?_, h2, h1⟩
 ·exact
   {ch := h.ch.frV f h.csd h.st.lo h.st.sub hX
    po := h.po.frV f h.psd h.st.lo h.st.sub hX (fun j hj => h1 j (h.po.sub j hj))
    st := hs
    cp := h.cp
    csd := fun j hj e => (hst j e).elim (h.csd j hj) (fun e => by have := h.ch.g.hi j hj; omega)
    psd := fun j hj e => (hst j e).elim (h.psd j hj) (fun e => by have := h.po.hi j hj; omega)
    cx := fun j hj => h1 j (h.cx j hj)
    xl := h3
    val := h.val
    l32 := h.l32
    ad := h.ad }
 ·rcases hj with e | e | e
  ·exact .inl (.inl e)
  ·exact .inl (.inr (.inl e))
  ·exact (hst j e).imp_left (fun e => .inr (.inr e))
theorem XB (hg : Jx w) (h : WS w0 w pc pp ps T X N A) (i : Int) {t : TxD} {cs : List Value} (ht : Kept X w (fun w => TxQ w t cs)) :
  Calls Tryz.prog 12 #[.pointer (some ⟨ps, 0, none⟩), .pointer (some ⟨pc, 0, none⟩), .pointer (some ⟨pp, 0, none⟩), .int .i64 i, .agg cs.toArray] w fun e w' => e = .returned (.int .i64 (Zw A i t)) ∧ ∃ T' X', j9 w0 w w' pc pp ps T X N (JG A i t) T' X' := by
 by_cases hi : i < 0 ∨ 64 < i
 ·unfold Zw JG
  rw [if_pos hi, if_pos hi]
  exact (ziG w cs ps pc pp hi).mono fun e w' ⟨he, f⟩ => ⟨he, T, X, h.idle f⟩
 ·unfold Zw JG
  rw [if_neg hi, if_neg hi]
  obtain ⟨n, rfl⟩ : ∃ n : Nat, i = (n : Int) := Int.eq_ofNat_of_zero_le (by omega)
  have hn : n < 65 := by omega
  obtain ⟨VC, css, ma, ms, g, VG, CP, ka, ks, R, CS, h, rfl⟩ := h
  rw [Int.toNat_natCast]
  refine (zi3 hg h.st h.xl h.po h.ch.g.cn h.ch.g.hok.ok hn ht).mono fun e w' ⟨he, f, v', C', hv, hs⟩ => ⟨he, _, _, zeb h (f.mono (jE hn)) hs (fun j hj => ?_) (fun j hj => .inl hj) (fun j hj => hj.elim .inl (fun e => (hv j e).imp_left (fun e => h.st.sub j (.inr (.inr (.inr ⟨n, hn, e⟩)))))) (fun j hj => ?_)⟩
  ·rcases hj with e | e | e | ⟨k, hk, e⟩
   ·exact .inl (.inl e)
   ·exact .inl (.inr (.inl e))
   ·exact .inl (.inr (.inr (.inl e)))
   ·unfold vq at e
    by_cases c : k = n
    ·rw [if_pos c] at e
     exact (hv j e).imp_left fun e => .inr (.inr (.inr ⟨n, hn, e⟩))
    ·rw [if_neg c] at e
     exact .inl (.inr (.inr (.inr ⟨k, hk, e⟩)))
  ·rcases hj with e | e
   ·exact Nat.lt_of_lt_of_le (h.xl j e) f.size
   ·exact hs.hi j (.inr (.inr (.inr ⟨n, hn, by rw [Yq]; exact e⟩)))
theorem ziP (h : WS w0 w pc pp ps T X N A) {n : Nat} (hn : n < 65) :
  Calls Tryz.prog 13 #[.pointer (some ⟨ps, 0, none⟩), .int .i64 n] w fun e w' => ∃ v', e = .returned v' ∧ RowK w w' v' (yc (A.Q n)) := by
 obtain ⟨VC, css, ma, ms, g, VG, CP, ka, ks, R, CS, h, rfl⟩ := h
 exact zj2 h.st hn
theorem WS.ids (h : WS w0 w pc pp ps T X N A) (n : Nat) : ∀ x ∈ yc (A.Q n), zQ x := by
 obtain ⟨VC, css, ma, ms, g, VG, CP, ka, ks, R, CS, h, rfl⟩ := h
 exact h.st.idok n
theorem zeJ (h : WS w0 w pc pp ps T X N A) :
  Calls Tryz.prog 21 #[.pointer (some ⟨ps, 0, none⟩)] w fun e w' => ∃ lv, e = .returned lv ∧ w'.ownsRow w.heap.size 3 1 lv (Jo A.Q).length ((Jo A.Q).map iV) ∧ Fr No w w' := by
 obtain ⟨VC, css, ma, ms, g, VG, CP, ka, ks, R, CS, h, rfl⟩ := h
 exact zeA h.st
theorem zgR (h : WS w0 w pc pp ps T X N A) {i : Int} (hi : YF i) {x : zi} (hx : zQ x) (hno : vC A.Q i x = false) :
  Calls Tryz.prog 14 #[.pointer (some ⟨ps, 0, none⟩), .int .i64 i, .agg (zj x).toArray] w (zdC w) := by
 obtain ⟨VC, css, ma, ms, g, VG, CP, ka, ks, R, CS, h, rfl⟩ := h
 exact ziz h.st hi hx hno
theorem zhx (h : WS w0 w pc pp ps T X N A) {n : Nat} (hn : n < 65) {x : zi} (hin : x ∈ yc (A.Q n)) :
  Calls Tryz.prog 14 #[.pointer (some ⟨ps, 0, none⟩), .int .i64 n, .agg (zj x).toArray] w fun e w' => ∃ tv tc, e = .returned (.tuple #[tv, .int .i64 0]) ∧ w'.ownsRow w.heap.size 34 3 tv (yC (A.Q n) x).length ((yC (A.Q n) x).flatMap tc) ∧ (∀ e ∈ yC (A.Q n) x, Kept X w' (fun w => TxQ w e.tx (tc e))) ∧ ∃ T', (∀ j, T' j → T j) ∧ j9 w0 w w' pc pp ps T X N { A with Q := qU A.Q n (vn (A.Q n) x) } T' X := by
 obtain ⟨VC, css, ma, ms, g, VG, CP, ka, ks, R, CS, h, rfl⟩ := h
 refine (zjF h.st hn hin).mono fun e w' ⟨tv, he, f, hr, v', hv, hs⟩ => ?_
 have hst : ∀ j, stV ps ka ks (vq R n v') j → stV ps ka ks R j := fun j hj => by
  rcases hj with e | e | e | ⟨k, hk, e⟩
  ·exact .inl e
  ·exact .inr (.inl e)
  ·exact .inr (.inr (.inl e))
  ·unfold vq at e
   by_cases c : k = n
   ·rw [if_pos c] at e
    exact .inr (.inr (.inr ⟨n, hn, hv j e⟩))
   ·rw [if_neg c] at e
    exact .inr (.inr (.inr ⟨k, hk, e⟩))
 refine ⟨tv, fun e => CS n e.id, he, hr, fun e he => ?_, _, fun j hj => ?_, zeb h (f.mono (jE hn)) hs (fun j hj => .inl (hst j hj)) (fun _ h => h) (fun _ h => .inl h) (fun j hj => Nat.lt_of_lt_of_le (h.xl j hj) f.size)⟩
 ·exact (h.st.data n hn e (List.mem_filter.1 he).1).step (f.mono (fun j e => h.st.sub j (jE hn j e))) (fun _ _ h => h)
 ·exact hj.imp_right (fun e => e.imp_right (hst j))
theorem zii {VC : Nat → Prop} {css : List (List Value)} {ma ms g ma' ms' g' N' : Nat} {VG VG' : Nat → Prop} {CP CP' : zi → List Value} {ka ks : Nat} {R : Nat → Value} {CS : Nat → zi → List Value} {X' : Nat → Prop} {L' : List z7}
  (h : WP w0 w pc VC css pp ma ms g VG CP N ps ka ks R CS X A) (f : Fr (poV pp ma ms VG) w w') (hp : yf w0 w' pp ma' ms' g' VG' X' CP' L' N') (hpv : ∀ j, poV pp ma' ms' VG' j → poV pp ma ms VG j ∨ w.heap.size ≤ j) (h1 : ∀ j, X j → X' j) (h2 : ∀ j, X' j → X j ∨ w.heap.size ≤ j) (h3 : ∀ j, X' j → j < w'.heap.size)
  (val : jg A.S (jj A.bs) L') (l32 : L'.length ≤ 32) (ad : ∀ e ∈ L', e.added = 0) :
  j9 w0 w w' pc pp ps (wT VC pp ma ms VG ps ka ks R) X N' { A with L := L' } (wT VC pp ma' ms' VG' ps ka ks R) X' := by
 have hX : ∀ j, j < w.heap.size → X' j → X j := fun j hj e => (h2 j e).resolve_right (by omega)
 refine ⟨⟨VC, css, ma', ms', g', VG', CP', ka, ks, R, CS, ?_, rfl⟩, f.mono (fun j e => .inr (.inl e)), fun j hj => ?_, h2, h1⟩
 ·exact
   {ch := h.ch.frV f h.cp h.po.lo h.po.sub hX
    po := hp
    st := h.st.frV f (fun j hj e => h.psd j e hj) h.po.lo h.po.sub hX (fun j hj => h1 j (h.st.sub j hj))
    cp := fun j hj e => (hpv j e).elim (h.cp j hj) (fun e => by have := h.ch.g.hi j hj; omega)
    csd := h.csd
    psd := fun j e hj => (hpv j e).elim (fun e => h.psd j e hj) (fun e => by have := h.st.hi j hj; omega)
    cx := fun j hj => h1 j (h.cx j hj)
    xl := h3
    val := val
    l32 := l32
    ad := ad }
 ·rcases hj with e | e | e
  ·exact .inl (.inl e)
  ·exact (hpv j e).imp_left (fun e => .inr (.inl e))
  ·exact .inl (.inr (.inr e))
theorem zjG {S : List zy} {I : List zi} {L : List z7} {t : TxD} (h : ∀ e ∈ L, e.added = 0) : ∀ e ∈ JR S I L t 0, e.added = 0 := fun e he => by
 unfold JR at he
 split at he
 ·rcases List.mem_append.1 he with he | he
  ·exact h e (Jn.1 he).1
  ·obtain rfl := List.mem_singleton.1 he
   rfl
 ·exact h e he
theorem zgc (hg : Jx w) (h : WS w0 w pc pp ps T X N A) (hN : N ≤ 800) {t : TxD} {cs : List Value} (ht : Kept X w (fun w => TxQ w t cs)) :
  Calls Tryz.prog 16 #[.pointer (some ⟨pp, 0, none⟩), .pointer (some ⟨pc, 0, none⟩), .agg cs.toArray, .int .u64 0] w fun e w' => ∃ gv, e = .returned (.tuple #[gv, .int .i64 (Jl A.S (jj A.bs) A.L t)]) ∧ w'.ownsRow w.heap.size 41 32 gv (Jy A.S (jj A.bs) A.L t).length ((Jy A.S (jj A.bs) A.L t).flatMap zj) ∧ ∃ T' X', j9 w0 w w' pc pp ps T X (N + 1) { A with L := JR A.S (jj A.bs) A.L t 0 } T' X' := by
 obtain ⟨VC, css, ma, ms, g, VG, CP, ka, ks, R, CS, h, rfl⟩ := h
 refine (zha (now := 0) hg h.po hN h.xl h.val h.l32 h.ch.g.cn h.ch.g.hok.ok ht (by decide)).mono fun e w' ⟨gv, he, ⟨VG', C', hp, f, hv⟩, hr⟩ => ⟨gv, he, hr, _, _, zii h f hp (fun j hj => ?_) (fun _ h => .inl h) (fun j hj => hj.elim .inl (fun e => (hv j e).imp_left (fun e => h.po.sub j (.inr (.inr (.inr e)))))) (fun j hj => ?_) (h.val.acc t 0) (zd5 h.val h.l32 t 0) (zjG h.ad)⟩
 ·rcases hj with e | e | e | e
  ·exact .inl (.inl e)
  ·exact .inl (.inr (.inl e))
  ·exact .inl (.inr (.inr (.inl e)))
  ·exact (hv j e).imp_left (fun e => .inr (.inr (.inr e)))
 ·rcases hj with e | e
  ·exact Nat.lt_of_lt_of_le (h.xl j e) f.size
  ·exact hp.hi j (.inr (.inr (.inr e)))
end
end Go.Proofs.YtdkkjchclkjleaaGreatDoor

/- tx.Same of what is the same. -/
namespace Go.Proofs.YtdkkjchclkjleaaGreatDoor
open Go Go.RowKit Go.Maps Go.MapKept
theorem Ym {a b : Option Addr} {n m c d : Nat} (h : Value.slice a n c = .slice b m d) : a = b ∧ n = m ∧ c = d := by
 injection h with h1 h2 h3
 exact ⟨h1, h2, h3⟩
theorem zhD {x : Int} (h : 0 ≤ x ∧ x ≤ 18446744073709551615) : (Lit.int .u64 x).wf = true := by
 simp [Lit.wf, IntKind.min, IntKind.max, IntKind.signed, IntKind.bits]
 omega
theorem XF : xS Tryz.prog 103 = [(48, 0, true), (41, 1, true)] := by kernel_rfl
theorem zfs {o : yF} (h : o.ok) (d : Nat) : ∀ x ∈ xS Tryz.prog 103, ∃ l, Tryz.prog.keyLits (d + 2) x.1 (((zG o).drop x.2.1).take (Tryz.prog.cellsOf x.1)) = some l := by
 rw [XF]
 intro x hx
 simp only [List.mem_cons, List.not_mem_nil, or_false] at hx
 rcases hx with rfl | rfl
 ·have e : ((zG o).drop 0).take (Tryz.prog.cellsOf 48) = [.int .u64 o.value] := by
   rw [show Tryz.prog.cellsOf 48 = 1 by kernel_rfl]; rfl
  simp only [e]
  exact ⟨_, Jv (by kernel_rfl) _ (zhD h.1)⟩
 ·have e : ((zG o).drop 1).take (Tryz.prog.cellsOf 41) = o.lock.map zP := by
   rw [show Tryz.prog.cellsOf 41 = 32 by kernel_rfl]
   show (o.lock.map zP).take 32 = o.lock.map zP
   rw [List.take_of_length_le (by simp [h.2.1])]
  simp only [e]
  exact VU h.2 d
theorem za9 {o : yF} (h : o.ok) : ∃ l, keyOf Tryz.prog 103 (ze9 o) = some l := by
 have hN : Tryz.prog.types.size = Tryz.prog.types.size - 2 + 2 := by kernel_rfl
 refine Ji XF (by simp) (by decide) (by kernel_rfl) (cs := zG o) (by rw [yD h]; kernel_rfl) ?_
 rw [hN, ← XF]
 exact zfs h _
theorem zjg : EqN Tryz.prog 103 := ⟨Keyed.of_law (deep_law_laid Z0 (m := 3) (by decide) (of_decide_eq_true (by kernel_rfl)) (by kernel_rfl) (by kernel_rfl)), ⟨3, by decide, by kernel_rfl⟩, by kernel_rfl, by kernel_rfl⟩
theorem zgW : Tryz.prog.underlying 9 = some .string := by kernel_rfl
theorem zg4 : Tryz.prog.underlying 106 = some (.slice 5) := by kernel_rfl
theorem zgA : Tryz.prog.underlying 5 = some (.int .u8) := by kernel_rfl
set_option maxRecDepth 20000 in
theorem zeU (w : World) (a : Option Addr) (c : Nat) : (convert 106 9 (.slice a 0 c)).run Tryz.prog w = .ok (.string (strOfNums [])) w := by
 rw [run_convert_bytes_string w 106 9 5 a 0 c zg4 zgA zgW]
 cases a <;> simp [Conv.bytesToString, loadCells]
 all_goals rfl
set_option maxRecDepth 20000 in
theorem zdf {w : World} {a : Option Addr} {n c : Nat} {k : List Int} (h : xq w (.slice a n c) n (k.map zP)) (hk : k.length = n) : (convert 106 9 (.slice a n c)).run Tryz.prog w = .ok (.string (strOfNums k)) w := by
 rcases Nat.eq_zero_or_pos n with hn | hn
 ·subst hn
  have hk0 : k = [] := List.eq_nil_of_length_eq_zero hk
  rw [hk0]
  exact zeU w a c
 ·rcases h with (⟨e, e2, -⟩ | ⟨b, off, cap, e, h1, h2, h3, h4⟩) | ⟨a', cap, e, e2, -⟩
  ·omega
  ·injection e with e1 e2 e3
   subst e1 e3
   exact run_convert_bytes_arg (P := Tryz.prog) w 106 5 zg4 zgA b off n _ k hk (fun i hi => by
    have := h3 i (zP (k.getD i 0)) (by rw [List.getElem?_map, List.getElem?_eq_getElem (by omega)]; simp [hk, hi])
    exact this) 9 zgW
  ·omega
set_option maxHeartbeats 1000000 in
theorem zb7 (w : World) {a b : Option Addr} {c d : Nat} {k : List Int} (hx : xq w (.slice a k.length c) k.length (k.map zP)) (hy : xq w (.slice b k.length d) k.length (k.map zP)) :
  Calls Tryz.prog 68 #[.slice a k.length c, .slice b k.length d] w fun e w' => e = .returned (.bool true) ∧ Fr No w w' := by
 have h1 := zdf hx rfl
 have h2 := zdf hy rfl
 clear hx hy
 generalize strOfNums k = s at *
 go_enter Tryz.func68, Tryz.ntmps68
 go_wp2_with fail
 go_ret
 exact ⟨by simp, Fr.refl _ _⟩
set_option maxRecDepth 20000 in
set_option maxHeartbeats 2000000 in
theorem zcr (w : World) {u v : Value} {l : List yF} (hx : xz w u l) (hy : xz w v l) (hO : l.length ≤ 1000) :
  Calls Tryz.prog 67 #[u, v] w fun e w' => e = .returned (.bool true) ∧ Fr No w w' := by
 obtain ⟨dO, uO, rO⟩ := vA
 obtain ⟨ua, uc, rfl⟩ := hx.2.form
 obtain ⟨va, vc, rfl⟩ := hy.2.form
 have XO := Hd hx
 have YO := Hd hy
 clear hx hy
 go_enter Tryz.func67, Tryz.ntmps67
 go_wp2_with fail
 go_loopw [13] (fun iv wr => ∃ n : Nat, iv = .int .i64 n ∧ n ≤ l.length ∧ Fr No w wr) (fun iv _ => l.length - (intOf iv).toNat)
 case atStart => exact ⟨0, rfl, Nat.zero_le _, Fr.refl _ _⟩
 case round =>
  obtain ⟨n, rfl, hn, fr⟩ := hrel
  have FR := Hd fr
  clear fr
  by_cases hlt : n < l.length
  ·have i1 : (n : Int) < (l.length : Int) := by omega
   obtain ⟨x, hx⟩ : ∃ x, l[n]? = some x := ⟨_, List.getElem?_eq_getElem hlt⟩
   obtain ⟨bx, ox, cx, hvx, hrx, -⟩ := (XO.out.keep FR.out).at_ hx
   obtain ⟨by', oy, cy, hvy, hry, -⟩ := (YO.out.keep FR.out).at_ hx
   obtain ⟨rfl, -, rfl⟩ := Ym hvx
   obtain ⟨rfl, -, rfl⟩ := Ym hvy
   have OK := Hd (XO.out.1 x (List.mem_of_getElem? hx))
   have OL := Hd (yD OK.out)
   have FD := Hd ((Fr.refl No wr).drew)
   have R1 := Hd (zb hrx FD.out id)
   have R2 := Hd (zb hry FD.out id)
   clear hrx hry hvx hvy hx
   go_wp2_with fail
   refine zv [false, false, false, false, false, false, false, false, false] (fun W => W.rangeAt bx (ox + n * 33) (zG x) ∧ W.rangeAt by' (oy + n * 33) (zG x)) (by kernel_rfl) (by kernel_rfl) ?_ (fun K hK => ?_)
   ·exact ⟨R1.out, R2.out⟩
   repeat (first | ((first | with_reducible refine zx ?_ | ((with_reducible refine zu ?_ ?_); (focus rfl))); apply Exists.intro; refine ⟨?_, ?_⟩; (focus (first | exact zD (ty := 103) rfl (fun w h => h.1) uO rO (by rw [OL.out]; exact zY) | exact zD (ty := 103) rfl (fun w h => h.2) uO rO (by rw [OL.out]; exact zY) | exact fun w' h => zjg.exec_neq (u := (zG x).toArray) (v := (zG x).toArray) rfl rfl rfl (za9 OK.out) (za9 OK.out) true ⟨fun _ => rfl, fun _ => rfl⟩ w' | (intro w' hS; obtain ⟨s1, s2⟩ := hS; go_simp; (try with_reducible rfl); done))); try simp only [Act.put, pA, pB, pC]) | ((first | ((with_reducible refine zg (c := false) ?_ ?_ ?_); (focus rfl); (focus rfl)) | ((with_reducible refine zg (c := true) ?_ ?_ ?_); (focus rfl); (focus rfl)) | ((with_reducible refine zt ?_ ?_); (focus rfl))); try simp only [Act.put, pA, pB, pC]))
   refine zM (hK.out _ _ ?_)
   go_wp2_with fail
   go_roundw
   case rel => exact ⟨n + 1, by go_num, by omega, FR.out.trans0 FD.out⟩
   case measure => simp [intOf]; omega
  ·have hne : n = l.length := by omega
   have i1 : ¬ (n : Int) < (l.length : Int) := by omega
   clear hne
   go_wp2_with fail
   go_ret
   exact ⟨rfl, FR.out⟩
set_option maxRecDepth 20000 in
set_option maxHeartbeats 4000000 in
theorem zfJ (w : World) {t : TxD} {cs ds : List Value} (hx : TxQ w t cs) (hy : TxQ w t ds) (hI : t.ins.length ≤ 1000) (hO : t.outs.length ≤ 1000) :
  Calls Tryz.prog 34 #[.agg cs.toArray, .agg ds.toArray] w fun e w' => e = .returned (.bool true) ∧ Fr No w w' := by
 obtain ⟨ia, ic, oa, oc, rfl, -, xi, xo⟩ := hx
 obtain ⟨ja, jc, qa, qc, rfl, -, yi, yo⟩ := hy
 obtain ⟨dI, uI, rI⟩ := YV
 obtain ⟨dP, uP, rP⟩ := xr
 obtain ⟨dO, uO, rO⟩ := vA
 have zI := Zj
 have zO := qT
 have f1 : Fr No w (w.alloc (.cells #[.int .u32 t.ver, .slice ia t.ins.length ic, .slice oa t.outs.length oc] 34)) := (Fr.refl No w).alloc _
 have f2 : Fr No (w.alloc (.cells #[.int .u32 t.ver, .slice ia t.ins.length ic, .slice oa t.outs.length oc] 34)) ((w.alloc (.cells #[.int .u32 t.ver, .slice ia t.ins.length ic, .slice oa t.outs.length oc] 34)).alloc (.cells #[.int .u32 t.ver, .slice ja t.ins.length jc, .slice qa t.outs.length qc] 34)) := (Fr.refl No _).alloc _
 obtain ⟨a0, a1, a2, -⟩ := qZ w t.ver (.slice ia t.ins.length ic) (.slice oa t.outs.length oc)
 obtain ⟨b0, b1, b2, -⟩ := qZ (w.alloc (.cells #[.int .u32 t.ver, .slice ia t.ins.length ic, .slice oa t.outs.length oc] 34)) t.ver (.slice ja t.ins.length jc) (.slice qa t.outs.length qc)
 rw [show (w.alloc (.cells #[.int .u32 t.ver, .slice ia t.ins.length ic, .slice oa t.outs.length oc] 34)).heap.size = w.heap.size + 1 by simp] at b0 b1 b2
 have c1 := f2.cell a1 _root_.id
 have c2 := f2.cell a2 _root_.id
 have C2 := Hd c2
 have B1 := Hd b1
 have B2 := Hd b2
 have F2 := Hd (f1.trans0 f2)
 have XI := Hd (xi.keep0 F2.out)
 have YI := Hd (yi.keep0 F2.out)
 have XO := Hd (xo.keep F2.out)
 have YO := Hd (yo.keep F2.out)
 clear f1 xi yi xo yo a1 a2
 have c0 := f2.cell a0 _root_.id
 clear a0 f2
 show Calls Tryz.prog 34 #[.agg #[.int .u32 t.ver, .slice ia t.ins.length ic, .slice oa t.outs.length oc], .agg #[.int .u32 t.ver, .slice ja t.ins.length jc, .slice qa t.outs.length qc]] w _
 go_enter Tryz.func34, Tryz.ntmps34
 have K0 := tru
 go_wp2_with (first | (clear K0; go_at_call 67; refine (zcr _ XO.out YO.out hO).mono ?_; rintro e w3 ⟨rfl, f3⟩; have F3 := Hd f3; have d1 := f3.cell c1 _root_.id; clear f3; go_frame))
 have F23 := Hd (F2.out.trans0 F3.out)
 have XI3 := Hd (XI.out.keep0 F3.out)
 have YI3 := Hd (YI.out.keep0 F3.out)
 have B13 := Hd (F3.out.cell B1.out _root_.id)
 clear XI YI B1 F2 F3 XO YO
 have F2 := F23
 have XI := XI3
 have YI := YI3
 have B1 := B13
 clear F23 XI3 YI3 B13
 generalize w3 = w2 at *
 clear d1
 clear c0 c1 c2 b0 b1 b2
 go_loopw [32] (fun iv wr => ∃ n : Nat, iv = .int .i64 n ∧ n ≤ t.ins.length ∧ Fr No w2 wr) (fun iv _ => t.ins.length - (intOf iv).toNat)
 case atStart => exact ⟨0, rfl, Nat.zero_le _, Fr.refl _ _⟩
 case round =>
  obtain ⟨n, rfl, hn, fr⟩ := hrel
  have FR := Hd fr
  clear fr
  by_cases hlt : n < t.ins.length
  ·have i1 : (n : Int) < (t.ins.length : Int) := by omega
   obtain ⟨x, hx⟩ : ∃ x, t.ins[n]? = some x := ⟨_, List.getElem?_eq_getElem hlt⟩
   obtain ⟨bx, ox, cx, xs, hvx, hrx, ka, kc, rfl, pok, hkx⟩ := (XI.out.keep0 FR.out).at_ hx
   obtain ⟨by', oy, cy, ys, hvy, hry, ma, mc, rfl, -, hky⟩ := (YI.out.keep0 FR.out).at_ hx
   obtain ⟨rfl, -, rfl⟩ := Ym hvx
   obtain ⟨rfl, -, rfl⟩ := Ym hvy
   have POK := Hd pok
   have PL := Hd (yb pok)
   have IL := Hd (vi pok (.slice ka x.key.length kc))
   have R1 := Hd hrx
   have R2 := Hd (zdg hry pok)
   have KX := Hd hkx
   have KY := Hd hky
   have FA := Hd ((Fr.refl No wr).alloc (.cells (inC x.from_ (.slice ka x.key.length kc)).toArray 108))
   have INN := Hd (Y4 wr (p := x.from_) (kv := .slice ka x.key.length kc) pok)
   clear hrx hry hkx hky hvx hvy hx pok
   have K0 := tru
   have K1 := tru
   go_wp2_with (first | ((with_reducible refine zn ?_); have mk := K0.out; refine zd rfl (zf (ty := 108) rfl rfl R1.out uI rI (by rw [IL.out]; exact q9)) ?_; go_frame) | ((with_reducible refine zA ?_); have mk := K1.out; refine zq rfl (zm (w := wr) (ty := 108) (cs := inC x.from_ (.slice ka x.key.length kc)) rfl rfl rfl (by rw [IL.out]; rfl) (by rw [IL.out]; exact q9) jF) ?_; generalize wr.alloc (.cells (inC x.from_ (.slice ka x.key.length kc)).toArray 108) = wA at *; go_frame))
   have FD := Hd ((FA.out.trans0 (Fr.refl No wA).drew))
   have SD := Hd (fun (W : World) (f : Fr No wA W) => (⟨zb INN.out.1 f _root_.id, f.cell INN.out.2 _root_.id, ((FR.out.trans0 FA.out).trans0 f).cell B1.out _root_.id, zb R2.out.1 (FA.out.trans0 f) _root_.id, (FA.out.trans0 f).cell R2.out.2 _root_.id⟩ : W.rangeAt wr.heap.size 0 (zB x.from_) ∧ W.cell? ⟨wr.heap.size, 33, none⟩ = some (.slice ka x.key.length kc) ∧ W.cell? ⟨w.heap.size + 1, 1, none⟩ = some (.slice (some ⟨by', oy, none⟩) t.ins.length jc) ∧ W.rangeAt by' (oy + n * 34) (zB x.from_) ∧ W.cell? ⟨by', oy + n * 34 + 33, none⟩ = some (.slice ma x.key.length mc)))
   have G0 := Hd (show Fr No wA wA.drew from (Fr.refl No wA).drew)
   refine zv [false, false, false, false, false, false, false, false, false, false, false, false, false, false, false, false, false, false, true, false, false] (fun W => W.rangeAt wr.heap.size 0 (zB x.from_) ∧ W.cell? ⟨wr.heap.size, 33, none⟩ = some (.slice ka x.key.length kc) ∧ W.cell? ⟨w.heap.size + 1, 1, none⟩ = some (.slice (some ⟨by', oy, none⟩) t.ins.length jc) ∧ W.rangeAt by' (oy + n * 34) (zB x.from_) ∧ W.cell? ⟨by', oy + n * 34 + 33, none⟩ = some (.slice ma x.key.length mc)) (by kernel_rfl) (by kernel_rfl) ?_ (fun K hK => ?_)
   ·exact SD.out _ G0.out
   generalize wA.drew = z at *
   repeat (first | ((first | with_reducible refine zx ?_ | ((with_reducible refine zu ?_ ?_); (focus rfl))); apply Exists.intro; refine ⟨?_, ?_⟩; (focus (first | exact zD (ty := 95) rfl (fun w h => h.1) uP rP (by rw [PL.out]; exact zL) | exact zD (ty := 95) rfl (fun w h => h.2.2.2.1) uP rP (by rw [PL.out]; exact zL) | exact fun w' h => JK.exec_neq (u := (zB x.from_).toArray) (v := (zB x.from_).toArray) rfl rfl rfl (qI POK.out) (qI POK.out) true ⟨fun _ => rfl, fun _ => rfl⟩ w' | (intro w' hS; obtain ⟨s1, s2, s3, s4, s5⟩ := hS; go_simp; (try with_reducible rfl); done))); try simp only [Act.put, pA, pB, pC]) | ((first | ((with_reducible refine zg (c := false) ?_ ?_ ?_); (focus rfl); (focus rfl)) | ((with_reducible refine zg (c := true) ?_ ?_ ?_); (focus rfl); (focus rfl)) | ((with_reducible refine zt ?_ ?_); (focus rfl))); try simp only [Act.put, pA, pB, pC]))
   (first | with_reducible refine zU (fun K' hK' => ?_) | ((with_reducible refine zK ?_ (fun K' hK' => ?_)); (focus rfl)))
   go_simp
   refine (zb7 z (KX.out.2.keep (FA.out.trans0 G0.out)) (KY.out.2.keep (FA.out.trans0 G0.out))).mono ?_
   rintro e w5 ⟨rfl, f5⟩
   have F5 := Hd f5
   clear f5
   refine hK'.out _ _ ?_ (fun hS => ?_)
   ·exact SD.out _ (G0.out.trans0 F5.out)
   try simp only [Act.put, pA, pB, pC]
   repeat (first | ((first | with_reducible refine zx ?_ | ((with_reducible refine zu ?_ ?_); (focus rfl))); apply Exists.intro; refine ⟨?_, ?_⟩; (focus (first | (intro w' hS; obtain ⟨s1, s2, s3, s4, s5⟩ := hS; go_simp; (try with_reducible rfl); done))); try simp only [Act.put, pA, pB, pC]) | ((first | ((with_reducible refine zg (c := false) ?_ ?_ ?_); (focus rfl); (focus rfl)) | ((with_reducible refine zg (c := true) ?_ ?_ ?_); (focus rfl); (focus rfl)) | ((with_reducible refine zt ?_ ?_); (focus rfl))); try simp only [Act.put, pA, pB, pC]))
   refine zM (hK.out _ _ ?_)
   go_wp2_with fail
   go_roundw
   case rel => exact ⟨n + 1, by go_num, by omega, (FR.out.trans0 FA.out).trans0 (G0.out.trans0 F5.out)⟩
   case measure => simp [intOf]; omega
  ·have hne : n = t.ins.length := by omega
   subst hne
   clear hlt hn
   have i1 : ¬ (t.ins.length : Int) < (t.ins.length : Int) := by omega
   go_wp2_with fail
   go_ret
   exact ⟨rfl, F2.out.trans0 FR.out⟩
end Go.Proofs.YtdkkjchclkjleaaGreatDoor

/- stem, plain: the example of two sources. -/
namespace Go.Proofs.YtdkkjchclkjleaaGreatDoor
open Go
def j8 : zi := xG []
def exA : TxD := ⟨0, [⟨⟨yN, 0⟩, []⟩], [⟨400, j8⟩]⟩
def exB : TxD := ⟨1, [⟨⟨yN, 0⟩, []⟩], [⟨400, yN⟩]⟩
def exD : TxD := ⟨0, [⟨⟨idH exA, 0⟩, []⟩], [⟨300, yN⟩]⟩
def exS : List zy := vX [] (Zz yN [⟨500, j8⟩])
def eA : StE := ⟨idH exA, exA⟩
def eB : StE := ⟨idH exB, exB⟩
def eD : StE := ⟨idH exD, exD⟩
set_option maxRecDepth 100000
theorem ex1 : qV exS [] [] [] exA = 0 := by decide +kernel
theorem ex2 : qV exS [] [] [eA] exB = 14 := by decide +kernel
theorem ex3 : qV exS [] [] [] exB = 0 := by decide +kernel
theorem ex4 : qV exS [] [] [] exD = 15 := by decide +kernel
theorem ex5 : qV exS [] [] [eA] exD = 0 := by decide +kernel
theorem ex6 : yM [eA, eD] (idH exD) = [idH exD, idH exA] := by decide +kernel
theorem ex7 : idE exA = 0 := by decide +kernel
theorem ex8 : idE exD = 0 := by decide +kernel
theorem ex9 : yC [eA, eD] (idH exD) = [eA, eD] ∧ vn [eA, eD] (idH exD) = [] := by
 unfold yC vn
 rw [ex6]
 simp [eA, eD]
end Go.Proofs.YtdkkjchclkjleaaGreatDoor
