/- pool: clear, New, All, Fee, Get. -/
import Derived.Test.YtdkkjchclkjleaaGreatDoorSG33
import Derived.Test.YtdkkjchclkjleaaGreatDoorSG20
import Derived.Test.YtdkkjchclkjleaaGreatDoorSG25
import Derived.Test.YtdkkjchclkjleaaGreatDoorSG22
import Derived.Test.YtdkkjchclkjleaaGreatDoorSG26
import Derived.Test.YtdkkjchclkjleaaGreatDoorSG28
set_option linter.unusedVariables false
set_option linter.unusedSimpArgs false
set_option linter.unnecessarySimpa false
set_option linter.all false
namespace Go.Proofs.YtdkkjchclkjleaaGreatDoor
open Go Go.RowKit Go.Maps Go.MapKept
theorem zfF (w : World) : (Instr.makeMap 133 none).run Tryz.prog w = .ok (.map (some w.heap.size)) (w.alloc (.map #[] 0)) := by kernel_rfl
theorem zfA (w : World) : (Instr.makeMap 134 none).run Tryz.prog w = .ok (.map (some w.heap.size)) (w.alloc (.map #[] 0)) := by kernel_rfl
def zi5 (w0 w : World) (p : Nat) (e : Ending) (w' : World) : Prop :=
 e = .returned (.tuple #[]) ∧ Fr (fun j => j = p) w w' ∧ ∃ ma ms g VG, (∀ j, (j = ma ∨ j = ms ∨ VG j) → w.heap.size ≤ j) ∧ ∀ X : Nat → Prop, (∀ j, poV p ma ms VG j → X j) → ∀ C, yf w0 w' p ma ms g VG X C [] 0
set_option maxRecDepth 20000 in
set_option maxHeartbeats 2000000 in
theorem zh2 (w0 w : World) (f : Fr No w0 w) {p : Nat} (hp : w0.heap.size ≤ p) {a b c : Value} (hb : w.heap[p]? = some (.cells #[a, b, c] 137 (0, 0))) :
  Calls Tryz.prog 72 #[.pointer (some ⟨p, 0, none⟩)] w (zi5 w0 w p) := by
 have m1 := zfF
 have m2 := zfA
 have PL := Hd (xf hb)
 have A1 := Hd ((Fr.refl No w).alloc (.map #[] 0))
 have B1 := Hd (A1.out.obj hb id)
 have E1 := Hd (show qA (w.alloc (.map #[] 0)) w.heap.size [] from yl.made w)
 have S1 := Hd (heap_setCell_same (w.alloc (.map #[] 0)) p 0 _ _ (.map (some w.heap.size)) B1.out)
 have F1 := Hd (show Fr (fun j => j = p) w ((w.alloc (.map #[] 0)).setCell ⟨p, 0, none⟩ (.map (some w.heap.size))) from (show Fr (fun j => j = p) w (w.alloc (.map #[] 0)) from A1.out.of0).setCell ⟨p, 0, none⟩ (.inr rfl) _)
 have E1b := Hd (show qA ((w.alloc (.map #[] 0)).setCell ⟨p, 0, none⟩ (.map (some w.heap.size))) w.heap.size [] from E1.out.keep ((Fr.refl (fun j => j = p) _).setCell ⟨p, 0, none⟩ (.inr rfl) _) (fun e => by have := PL.out; omega))
 have Z1 := Hd (show ((w.alloc (.map #[] 0)).setCell ⟨p, 0, none⟩ (.map (some w.heap.size))).heap.size = w.heap.size + 1 by simp [World.setCell])
 have c0 : (w.alloc (.map #[] 0)).cell? ⟨p, 0, none⟩ = some a := by have := ya B1.out 0 _ rfl; simpa using this
 have fz0 := yI (i := 0) B1.out
 have A2 := Hd ((Fr.refl No ((w.alloc (.map #[] 0)).setCell ⟨p, 0, none⟩ (.map (some w.heap.size)))).alloc (.map #[] 0))
 have B2 := Hd (A2.out.obj S1.out id)
 have E2 := Hd (E1b.out.keep A2.out id)
 have M2 := Hd (show Qf (((w.alloc (.map #[] 0)).setCell ⟨p, 0, none⟩ (.map (some w.heap.size))).alloc (.map #[] 0)) (w.heap.size + 1) [] from by have := yl.made (P := Tryz.prog) (kt := 95) (kV := jW) (vV := yW) ((w.alloc (.map #[] 0)).setCell ⟨p, 0, none⟩ (.map (some w.heap.size))); rw [Z1.out] at this; exact this)
 have S2 := Hd (heap_setCell_same (((w.alloc (.map #[] 0)).setCell ⟨p, 0, none⟩ (.map (some w.heap.size))).alloc (.map #[] 0)) p 1 _ _ (.map (some (w.heap.size + 1))) B2.out)
 have F2 := Hd (show Fr (fun j => j = p) w ((((w.alloc (.map #[] 0)).setCell ⟨p, 0, none⟩ (.map (some w.heap.size))).alloc (.map #[] 0)).setCell ⟨p, 1, none⟩ (.map (some (w.heap.size + 1)))) from (F1.out.trans0 A2.out).setCell ⟨p, 1, none⟩ (.inr rfl) _)
 have FS2 := Hd (show Fr (fun j => j = p) (((w.alloc (.map #[] 0)).setCell ⟨p, 0, none⟩ (.map (some w.heap.size))).alloc (.map #[] 0)) ((((w.alloc (.map #[] 0)).setCell ⟨p, 0, none⟩ (.map (some w.heap.size))).alloc (.map #[] 0)).setCell ⟨p, 1, none⟩ (.map (some (w.heap.size + 1)))) from (Fr.refl (fun j => j = p) _).setCell ⟨p, 1, none⟩ (.inr rfl) _)
 have E3 := Hd (E2.out.keep FS2.out (fun e => by have := PL.out; omega))
 have M3 := Hd (M2.out.keep FS2.out (fun e => by have := PL.out; omega))
 have c1 : (((w.alloc (.map #[] 0)).setCell ⟨p, 0, none⟩ (.map (some w.heap.size))).alloc (.map #[] 0)).cell? ⟨p, 1, none⟩ = some b := by have := ya B2.out 1 _ rfl; simpa using this
 have fz1 := yI (i := 1) B2.out
 have F02 := Hd (show Fr No w0 ((((w.alloc (.map #[] 0)).setCell ⟨p, 0, none⟩ (.map (some w.heap.size))).alloc (.map #[] 0)).setCell ⟨p, 1, none⟩ (.map (some (w.heap.size + 1)))) from f.trans F2.out (fun i hi e => by omega))
 clear A1 B1 E1 S1 F1 E1b A2 B2 E2 M2 FS2
 go_enter Tryz.func72, Tryz.ntmps72
 have K0 := tru
 go_wp2_with (first | (clear K0; go_at_call 125; generalize hwc : ((((w.alloc (.map #[] 0)).setCell ⟨p, 0, none⟩ (.map (some w.heap.size))).alloc (.map #[] 0)).setCell ⟨p, 1, none⟩ (.map (some (w.heap.size + 1)))) = wc at *; refine (zj0 w0 wc F02.out).mono ?_; rintro e w4 ⟨gp, rfl, VG, hg, hf, hv⟩; have GG := Hd hg; have FG := Hd hf; have VV := Hd hv; clear hg hf hv; have BG := Hd (FG.out.obj S2.out id); have c2 : w4.cell? ⟨p, 2, none⟩ = some c := (by have := ya BG.out 2 _ rfl; simpa using this); have fz2 := yI (i := 2) BG.out; go_frame))
 refine bodyPost_end (results_none rfl _ _ _) rfl ?_
 have S4 := heap_setCell_same w4 p 2 _ _ (.pointer (some ⟨gp, 0, none⟩)) BG.out
 have FS4 : Fr (fun j => j = p) w4 (w4.setCell ⟨p, 2, none⟩ (.pointer (some ⟨gp, 0, none⟩))) := (Fr.refl (fun j => j = p) w4).setCell ⟨p, 2, none⟩ (.inr rfl) _
 have ZC := F2.out.size
 have PZ := PL.out
 have MZ : w.heap.size < wc.heap.size ∧ w.heap.size + 1 < wc.heap.size := ⟨E3.out.lt, M3.out.lt⟩
 have W0 := f.size
 refine ⟨rfl, (F2.out.trans0 FG.out).trans FS4 (fun _ _ h => h), w.heap.size, w.heap.size + 1, gp, VG, fun j hj => ?_, fun X hX C => ?_⟩
 ·rcases hj with e | e | e
  ·omega
  ·omega
  ·have := VV.out j e; omega
 ·refine ⟨?_, ?_, ⟨[], (E3.out.keep FG.out id).keep FS4 (fun e => by omega), fun x cs => by simp⟩, ⟨[], (M3.out.keep FG.out id).keep FS4 (fun e => by omega), fun q x => by simp⟩, fun e he => (by cases he), ⟨by omega, by omega, by omega, fun e => by have := VV.out _ e; omega, fun e => by have := VV.out _ e; omega, fun e => by have := VV.out _ e; omega⟩, ⟨hp, by omega, by omega⟩, hX⟩
  ·simpa using S4
  ·exact GG.out.frV FS4 (fun j hj e => by have := VV.out j hj; omega) (fun j e => by omega)
theorem zgC (w : World) : (Instr.build 137 #[]).run Tryz.prog w = .ok (.agg #[.map none, .map none, .pointer none]) w := by kernel_rfl
set_option maxRecDepth 20000 in
set_option maxHeartbeats 2000000 in
theorem ziY (w0 w : World) (f : Fr No w0 w) :
  Calls Tryz.prog 37 #[] w fun e w' => e = .returned (.pointer (some ⟨w.heap.size, 0, none⟩)) ∧ Fr No w w' ∧ ∃ ma ms g VG, (∀ j, poV w.heap.size ma ms VG j → w.heap.size ≤ j) ∧ ∀ X : Nat → Prop, (∀ j, poV w.heap.size ma ms VG j → X j) → ∀ C, yf w0 w' w.heap.size ma ms g VG X C [] 0 := by
 have F1 := Hd ((Fr.refl No w).alloc (.cells #[.map none, .map none, .pointer none] 137))
 have B1 := Hd (yn w (.cells #[.map none, .map none, .pointer none] 137))
 have HC := Hd (zh2 w0 _ (f.trans0 F1.out) f.size B1.out)
 go_enter Tryz.func37, Tryz.ntmps37
 have K0 := tru
 have K1 := tru
 go_wp2_with (first | ((with_reducible refine zn ?_); have mk := K0.out; with_reducible refine yk 2 ?_; refine zd rfl (yA (t := 137) rfl rfl (zgC _)) ?_; go_frame) | (clear K1; go_at_call 72; refine HC.out.mono ?_; rintro e w3 ⟨rfl, hf, ma, ms, g, VG, hv, hp⟩; have FF := Hd hf; have VV := Hd hv; have PP := Hd hp; clear hf hv hp; go_frame))
 go_ret
 exact ⟨rfl, F1.out.trans FF.out (fun i hi e => by omega), ma, ms, g, VG, fun j hj => by
  have := F1.out.size
  rcases hj with e | e
  ·omega
  ·have := VV.out j e; omega, PP.out⟩
end Go.Proofs.YtdkkjchclkjleaaGreatDoor

/- stem: plain. -/
namespace Go.Proofs.YtdkkjchclkjleaaGreatDoor
open Go
structure StE where
 id : zi
 tx : TxD
def yc (l : List StE) : List zi := l.map (·.id)
def jB (l : List StE) (q : zF) : Bool := l.any fun e => decide (q ∈ zS e.tx)
theorem vQ {l : List StE} {q : zF} : jB l q = true ↔ ∃ e ∈ l, q ∈ zS e.tx := by simp [jB]
def ju (l : List StE) (x : zi) : Option StE := l.find? fun e => decide (e.id = x)
theorem VR {l : List StE} {x : zi} {e : StE} (h : ju l x = some e) : e ∈ l ∧ e.id = x := by
 unfold ju at h
 exact ⟨List.mem_of_find?_eq_some h, by simpa using List.find?_some h⟩
theorem zdk {l : List StE} {x : zi} : ju l x = none ↔ x ∉ yc l := by
 unfold ju yc
 rw [List.find?_eq_none]
 simp only [decide_eq_true_eq, List.mem_map, not_exists, not_and]
theorem zbp : ∀ {l : List StE}, (yc l).Nodup → ∀ {e : StE}, e ∈ l → ju l e.id = some e
 | [], _, _, h => by cases h
 | x :: r, hn, e, h => by
  obtain ⟨n1, n2⟩ := List.nodup_cons.1 hn
  unfold ju
  rcases List.mem_cons.1 h with rfl | h
  ·simp
  ·have : x.id ≠ e.id := fun c => n1 (by show x.id ∈ _; rw [c]; exact List.mem_map.2 ⟨e, h, rfl⟩)
   rw [List.find?_cons_of_neg (by simpa using this)]
   exact zbp n2 h
def Xv (l : List StE) (q : zF) : Option yF := (ju l q.tx).bind fun e => e.tx.outs[q.n.toNat]?
def Jk (S : List zy) (L : List z7) (l : List StE) (q : zF) : Option yF := match xR S L q with
 | some x => some x
 | none => Xv l q
def qX (S : List zy) (L : List z7) (l : List StE) (t : TxD) : List yF := (zS t).map fun q => (Jk S L l q).getD yR
def ZB (S : List zy) (L : List z7) (l : List StE) (t : TxD) : Int :=
 if (zS t).any (fun q => jB l q || xw L q) = true then 14 else if (zS t).all (fun q => (Jk S L l q).isSome) = true then
  (if vl t (qX S L l t) ≠ 0 then vl t (qX S L l t) else if vB t (qX S L l t) < vo (xX t) then 17 else 0) else 15
def vD (I : List zi) (L : List z7) (l : List StE) (x : zi) : Int :=
 if x ∈ yc l ∨ x ∈ xD L then 10 else if x ∈ I then 19 else if 4 ≤ l.length then 18 else 0
noncomputable def qV (S : List zy) (I : List zi) (L : List z7) (l : List StE) (t : TxD) : Int :=
 if yt t ≠ 0 then yt t else if vD I L l (idH t) ≠ 0 then vD I L l (idH t) else ZB S L l t
noncomputable def JJ (S : List zy) (I : List zi) (L : List z7) (l : List StE) (t : TxD) : List StE := if qV S I L l t = 0 then l ++ [⟨idH t, t⟩] else l
abbrev StQ := Nat → List StE
def qU (Q : StQ) (i : Nat) (l : List StE) : StQ := fun j => if j = i then l else Q j
theorem xh (Q : StQ) (i : Nat) (l : List StE) : qU Q i l i = l := if_pos rfl
theorem xY (Q : StQ) {i j : Nat} (l : List StE) (h : j ≠ i) : qU Q i l j = Q j := if_neg h
theorem zbK (Q : StQ) (i : Nat) : qU Q i (Q i) = Q := by
 funext j
 unfold qU
 split
 ·rename_i h; rw [h]
 ·rfl
def zaw (l : List StE) (x : zi) : List StE := l.filter fun e => decide (e.id ≠ x)
def xH : List StE → List zi → List zi
 | [], _ => []
 | e :: r, want => if e.id ∈ want then e.id :: xH r ((zS e.tx).map (·.tx) ++ want) else xH r want
def yM (l : List StE) (x : zi) : List zi := xH l.reverse [x]
def yC (l : List StE) (x : zi) : List StE := l.filter fun e => decide (e.id ∈ yM l x)
def vn (l : List StE) (x : zi) : List StE := l.filter fun e => decide (e.id ∉ yM l x)
def Jo (Q : StQ) : List Nat := (List.range 65).filter fun i => decide (Q i ≠ [])
structure SVal (l : List StE) : Prop where
 nd : (yc l).Nodup
 apart : l.Pairwise fun a b => ∀ q ∈ zS a.tx, q ∉ zS b.tx
 ent : ∀ e ∈ l, yt e.tx = 0 ∧ e.id = idH e.tx
 len : l.length ≤ 4
theorem SVal.nil : SVal [] := ⟨by simp [yc], List.Pairwise.nil, by simp, by simp⟩
theorem SVal.filter {l : List StE} (h : SVal l) (p : StE → Bool) : SVal (l.filter p) :=
 ⟨h.nd.sublist (List.filter_sublist.map _), h.apart.sublist List.filter_sublist, fun e he => h.ent e (List.mem_filter.1 he).1, Nat.le_trans (List.length_filter_le _ _) h.len⟩
theorem keep0 {S : List zy} {I : List zi} {L : List z7} {l : List StE} {t : TxD} (h : qV S I L l t = 0) :
  yt t = 0 ∧ idH t ∉ yc l ∧ idH t ∉ xD L ∧ idH t ∉ I ∧ l.length < 4 ∧ (∀ q ∈ zS t, jB l q = false ∧ xw L q = false) ∧ (∀ q ∈ zS t, (Jk S L l q).isSome = true) ∧ vl t (qX S L l t) = 0 ∧ vo (xX t) ≤ vB t (qX S L l t) := by
 unfold qV at h
 split at h
 ·rename_i h1; exact absurd h h1
 rename_i h1
 split at h
 ·rename_i h2; exact absurd h h2
 rename_i h2
 have h3 : vD I L l (idH t) = 0 := by omega
 unfold vD at h3
 split at h3; · cases h3
 rename_i h4
 split at h3; · cases h3
 rename_i h5
 split at h3; · cases h3
 rename_i h6
 unfold ZB at h
 split at h; · cases h
 rename_i h7
 split at h
 ·rename_i h8
  split at h
  ·rename_i h9; exact absurd h h9
  rename_i h9
  split at h; · cases h
  rename_i h10
  simp only [List.any_eq_true, Bool.or_eq_true, not_exists, not_and, not_or, Bool.not_eq_true] at h7
  simp only [List.all_eq_true] at h8
  exact ⟨by omega, fun e => h4 (.inl e), fun e => h4 (.inr e), h5, by omega, h7, h8, by omega, by omega⟩
 ·cases h
theorem SVal.keep {S : List zy} {I : List zi} {L : List z7} {l : List StE} (h : SVal l) (t : TxD) : SVal (JJ S I L l t) := by
 unfold JJ
 split
 ·rename_i h0
  obtain ⟨k1, k2, k3, k4, k5, k6, k7, k8, k9⟩ := keep0 h0
  refine ⟨?_, ?_, ?_, ?_⟩
  ·unfold yc at *
   rw [List.map_append, List.nodup_append]
   exact ⟨h.nd, by simp, fun a ha b hb => by simp at hb; subst hb; rintro rfl; exact k2 ha⟩
  ·refine List.pairwise_append.2 ⟨h.apart, by simp, fun a ha b hb q hq hq' => ?_⟩
   obtain rfl := List.mem_singleton.1 hb
   have := (k6 q hq').1
   rw [vQ.2 ⟨a, ha, hq⟩] at this
   cases this
  ·intro e he
   rcases List.mem_append.1 he with he | he
   ·exact h.ent e he
   ·obtain rfl := List.mem_singleton.1 he
    exact ⟨k1, rfl⟩
  ·rw [List.length_append, List.length_singleton]; omega
 ·exact h
theorem Zm : ∀ (l : List StE) (w : List zi), ∀ x ∈ xH l w, x ∈ yc l
 | [], _, x, h => by simp [xH] at h
 | e :: r, w, x, h => by
  unfold xH at h
  unfold yc
  rw [List.map_cons]
  split at h
  ·rcases List.mem_cons.1 h with rfl | h
   ·exact .head _
   ·exact .tail _ (Zm r _ x h)
  ·exact .tail _ (Zm r _ x h)
theorem zgB (l : List StE) (x : zi) : yc (zaw l x) = (yc l).filter fun y => decide (y ≠ x) := by
 unfold yc zaw
 rw [List.filter_map]
 rfl
theorem xk (l : List StE) : (yc l).length = l.length := List.length_map _
end Go.Proofs.YtdkkjchclkjleaaGreatDoor

/- stem: the sources' pools in memory. -/
namespace Go.Proofs.YtdkkjchclkjleaaGreatDoor
open Go Go.RowKit Go.Maps Go.MapKept
def skC (k : Int × zi) : List Value := .int .i64 k.1 :: zj k.2
def skV (k : Int × zi) : Value := .agg (skC k).toArray
def spC (k : Int × zF) : List Value := .int .i64 k.1 :: zB k.2
def spV (k : Int × zF) : Value := .agg (spC k).toArray
def YF (x : Int) : Prop := -9223372036854775808 ≤ x ∧ x ≤ 9223372036854775807
theorem zd6 {x : Int} (h : YF x) : (Lit.int .i64 x).wf = true := by
 unfold YF at h
 simp [Lit.wf, IntKind.min, IntKind.max, IntKind.signed, IntKind.bits]
 omega
theorem Jd {k : Int × zi} (h : zQ k.2) : (skC k).length = 33 := by simp [skC, zE h]
theorem QU {k : Int × zF} (h : k.2.ok) : (spC k).length = 34 := by simp [spC, yb h]
theorem zbO {k : Int × zi} : ∀ v ∈ skC k, v.oneCell' = true := by
 intro v hv
 rcases List.mem_cons.1 hv with rfl | hv
 ·rfl
 ·exact zV v hv
theorem zbP {a b : Int × zi} (h : skV a = skV b) : a = b := by
 obtain ⟨x, l⟩ := a
 obtain ⟨y, m⟩ := b
 unfold skV at h
 injection h with h
 have h1 : skC (x, l) = skC (y, m) := by simpa using congrArg Array.toList h
 simp only [skC, List.cons.injEq, Value.int.injEq, true_and] at h1
 rw [h1.1, yS (show yW l = yW m by unfold yW; rw [h1.2])]
theorem QK {a b : Int × zF} (h : spV a = spV b) : a = b := by
 obtain ⟨x, l⟩ := a
 obtain ⟨y, m⟩ := b
 unfold spV at h
 injection h with h
 have h1 : spC (x, l) = spC (y, m) := by simpa using congrArg Array.toList h
 simp only [spC, List.cons.injEq, Value.int.injEq, true_and] at h1
 rw [h1.1, Vy h1.2]
theorem zbW {k : Int × zi} (hi : YF k.1) (h : zQ k.2) : ∃ l, keyOf Tryz.prog 110 (skV k) = some l := by
 have shape : xS Tryz.prog 110 = [(3, 0, true), (41, 1, true)] := by kernel_rfl
 have hN : Tryz.prog.types.size = Tryz.prog.types.size - 2 + 2 := by kernel_rfl
 refine Ji shape (by simp) (by decide) (by kernel_rfl) (cs := skC k) (by rw [Jd h]; kernel_rfl) ?_
 intro x hx
 rw [hN]
 simp only [List.mem_cons, List.not_mem_nil, or_false] at hx
 rcases hx with rfl | rfl
 ·have e : ((skC k).drop 0).take (Tryz.prog.cellsOf 3) = [.int .i64 k.1] := by
   rw [show Tryz.prog.cellsOf 3 = 1 by kernel_rfl]; rfl
  exact ⟨_, by rw [e]; exact Jv (by kernel_rfl) _ (zd6 hi)⟩
 ·have e : ((skC k).drop 1).take (Tryz.prog.cellsOf 41) = zj k.2 := by
   rw [show Tryz.prog.cellsOf 41 = 32 by kernel_rfl]
   show (zj k.2).take 32 = zj k.2
   rw [List.take_of_length_le (by rw [zE h]; exact Nat.le_refl _)]
  simp only [e]
  exact VU h _
theorem QV {k : Int × zF} (hi : YF k.1) (h : k.2.ok) : ∃ l, keyOf Tryz.prog 118 (spV k) = some l := by
 have shape : xS Tryz.prog 118 = [(3, 0, true), (95, 1, true)] := by kernel_rfl
 have hN : Tryz.prog.types.size = Tryz.prog.types.size - 3 + 3 := by kernel_rfl
 refine Ji shape (by simp) (by decide) (by kernel_rfl) (cs := spC k) (by rw [QU h]; kernel_rfl) ?_
 intro x hx
 rw [hN]
 simp only [List.mem_cons, List.not_mem_nil, or_false] at hx
 rcases hx with rfl | rfl
 ·have e : ((spC k).drop 0).take (Tryz.prog.cellsOf 3) = [.int .i64 k.1] := by
   rw [show Tryz.prog.cellsOf 3 = 1 by kernel_rfl]; rfl
  exact ⟨_, by rw [e]; exact Jv (by kernel_rfl) _ (zd6 hi)⟩
 ·have e : ((spC k).drop 1).take (Tryz.prog.cellsOf 95) = zB k.2 := by
   rw [show Tryz.prog.cellsOf 95 = 33 by kernel_rfl]
   show (zB k.2).take 33 = zB k.2
   rw [List.take_of_length_le (by rw [yb h]; exact Nat.le_refl _)]
  simp only [e]
  exact zaD (hsh := rfl) (by rw [Js]; simp) (by rw [Js]; decide) (by rw [yb h]; kernel_rfl) _ (V6 h _)
theorem zi7 : EqN Tryz.prog 110 := ⟨Keyed.of_law (deep_law_laid Z0 (m := 3) (by decide) (of_decide_eq_true (by kernel_rfl)) (by kernel_rfl) (by kernel_rfl)), ⟨3, by decide, by kernel_rfl⟩, by kernel_rfl, by kernel_rfl⟩
theorem zhR : EqN Tryz.prog 118 := ⟨Keyed.of_law (deep_law_laid Z0 (m := 4) (by decide) (of_decide_eq_true (by kernel_rfl)) (by kernel_rfl) (by kernel_rfl)), ⟨4, by decide, by kernel_rfl⟩, by kernel_rfl, by kernel_rfl⟩
theorem jh : (Tryz.prog.info? 110).map (·.size) = some 33 := by kernel_rfl
theorem zdN : ∃ d, Tryz.prog.underlying 110 = some d ∧ d.isRow = true := jf (by kernel_rfl)
theorem zak : Tryz.prog.underlying 113 = some (.map 110 34) := by kernel_rfl
theorem Xr : Tryz.prog.underlying 114 = some (.map 118 41) := by kernel_rfl
def zfx : List Value := [.int .u32 0, .slice none 0 0, .slice none 0 0]
theorem vM (w : World) : (zeroValue 34).run Tryz.prog w = .ok (Y1 zfx) w := by kernel_rfl
abbrev qR (w : World) (m : Nat) (M : List ((Int × zi) × List Value)) : Prop := yl Tryz.prog 110 skV Y1 w m M
abbrev Zb (w : World) (m : Nat) (M : List ((Int × zF) × zi)) : Prop := yl Tryz.prog 118 spV yW w m M
def stC (ma ms : Nat) (R : Nat → Value) : List Value := .map (some ma) :: ((List.range 65).map R ++ [.map (some ms)])
theorem ziv (ma ms : Nat) (R : Nat → Value) : (stC ma ms R).length = 67 := by simp [stC]
theorem Y8 {ma ms : Nat} {R : Nat → Value} {i : Nat} (h : i < 65) : (stC ma ms R)[i + 1]? = some (R i) := by
 unfold stC
 rw [List.getElem?_cons_succ, List.getElem?_append_left (by simpa using h), List.getElem?_map, List.getElem?_range h]
 rfl
theorem zbC {ma ms : Nat} {R : Nat → Value} : (stC ma ms R)[66]? = some (.map (some ms)) := by
 unfold stC
 rw [List.getElem?_cons_succ, List.getElem?_append_right (by simp)]
 simp
theorem zer {ma ms : Nat} {R : Nat → Value} {i : Nat} (h : i < 65) (v : Value) : (stC ma ms R).set (i + 1) v = stC ma ms (fun j => if j = i then v else R j) := by
 refine List.ext_getElem? fun k => ?_
 by_cases hk : k = i + 1
 ·subst hk
  rw [List.getElem?_set_self (by rw [ziv]; omega), Y8 h, if_pos rfl]
 ·rw [List.getElem?_set_ne (fun e => hk e.symm)]
  unfold stC
  cases k with
  | zero => rfl
  | succ k =>
   rw [List.getElem?_cons_succ, List.getElem?_cons_succ]
   by_cases h65 : k < 65
   ·rw [List.getElem?_append_left (by simpa using h65), List.getElem?_append_left (by simpa using h65), List.getElem?_map, List.getElem?_map, List.getElem?_range h65]
    simp only [Option.map_some]
    rw [if_neg (by omega)]
   ·rw [List.getElem?_append_right (by simp; omega), List.getElem?_append_right (by simp; omega)]
    simp
def stV (p ma ms : Nat) (R : Nat → Value) : Nat → Prop := fun j => j = p ∨ j = ma ∨ j = ms ∨ ∃ i, i < 65 ∧ (R i).ownBlock = some j
structure yz (w0 w : World) (p ma ms : Nat) (R : Nat → Value) (X : Nat → Prop) (C : Nat → zi → List Value) (Q : StQ) : Prop where
 obj : w.heap[p]? = some (.cells (stC ma ms R).toArray 116 (0, 0))
 row : ∀ i, i < 65 → w.ownsRow w0.heap.size 41 32 (R i) (yc (Q i)).length ((yc (Q i)).flatMap zj)
 am : ∃ M, qR w ma M ∧ ∀ k cs, (k, cs) ∈ M ↔ ∃ i : Nat, i < 65 ∧ k.1 = (i : Int) ∧ ∃ e ∈ Q i, e.id = k.2 ∧ cs = C i k.2
 sm : ∃ M, Zb w ms M ∧ ∀ k x, (k, x) ∈ M ↔ ∃ i : Nat, i < 65 ∧ k.1 = (i : Int) ∧ ∃ e ∈ Q i, k.2 ∈ zS e.tx ∧ e.id = x
 data : ∀ i, i < 65 → ∀ e ∈ Q i, Kept X w (fun w => TxQ w e.tx (C i e.id))
 val : ∀ i, SVal (Q i)
 apart : p ≠ ma ∧ p ≠ ms ∧ ma ≠ ms
 rnot : ∀ i, i < 65 → ∀ j, (R i).ownBlock = some j → j ≠ p ∧ j ≠ ma ∧ j ≠ ms
 rapart : ∀ i k, i < 65 → k < 65 → i ≠ k → ∀ j, (R i).ownBlock = some j → (R k).ownBlock ≠ some j
 lo3 : w0.heap.size ≤ p ∧ w0.heap.size ≤ ma ∧ w0.heap.size ≤ ms
 fr : Fr No w0 w
 sub : ∀ j, stV p ma ms R j → X j
section
variable {w0 w w' : World} {p ma ms : Nat} {R : Nat → Value} {X : Nat → Prop} {C : Nat → zi → List Value} {Q : StQ}
theorem yz.lo (h : yz w0 w p ma ms R X C Q) : ∀ j, stV p ma ms R j → w0.heap.size ≤ j := by
 obtain ⟨l1, l2, l3⟩ := h.lo3
 rintro j (rfl | rfl | rfl | ⟨i, hi, hj⟩)
 ·exact l1
 ·exact l2
 ·exact l3
 ·exact ((h.row i hi).lt j hj).1
theorem yz.hi (h : yz w0 w p ma ms R X C Q) : ∀ j, stV p ma ms R j → j < w.heap.size := by
 obtain ⟨M, hM, -⟩ := h.am
 obtain ⟨M', hM', -⟩ := h.sm
 rintro j (rfl | rfl | rfl | ⟨i, hi, hj⟩)
 ·exact xf h.obj
 ·exact hM.lt
 ·exact hM'.lt
 ·exact ((h.row i hi).lt j hj).2
theorem yz.frV (h : yz w0 w p ma ms R X C Q) {U X' : Nat → Prop} (f : Fr U w w') (hU : ∀ j, stV p ma ms R j → ¬ U j) (h0 : ∀ j, U j → w0.heap.size ≤ j) (hUX : ∀ j, U j → X j) (hX : ∀ j, j < w.heap.size → X' j → X j) (hs : ∀ j, stV p ma ms R j → X' j) : yz w0 w' p ma ms R X' C Q := by
 obtain ⟨M, hM, hm⟩ := h.am
 obtain ⟨M', hM', hm'⟩ := h.sm
 exact { h with
  obj := f.obj h.obj (hU _ (.inl rfl))
  row := fun i hi => zl (h.row i hi) f (fun j hj => hU j (.inr (.inr (.inr ⟨i, hi, hj⟩))))
  am := ⟨M, hM.keep f (hU _ (.inr (.inl rfl))), hm⟩
  sm := ⟨M', hM'.keep f (hU _ (.inr (.inr (.inl rfl)))), hm'⟩
  data := fun i hi e he => (h.data i hi e he).step (f.mono hUX) hX
  fr := h.fr.trans f (fun i hi e => by have := h0 i e; omega)
  sub := hs }
theorem yz.fr0 (h : yz w0 w p ma ms R X C Q) (f : Fr No w w') : yz w0 w' p ma ms R X C Q :=
 h.frV f (fun _ _ => id) (fun _ h => h.elim) (fun _ h => h.elim) (fun _ _ h => h) h.sub
theorem yz.idok (h : yz w0 w p ma ms R X C Q) (i : Nat) : ∀ x ∈ yc (Q i), zQ x := fun x hx => by
 obtain ⟨e, he, rfl⟩ := List.mem_map.1 hx
 rw [((h.val i).ent e he).2]
 exact Jp _
theorem yz.cells (h : yz w0 w p ma ms R X C Q) : w.cell? ⟨p, 0, none⟩ = some (.map (some ma)) ∧ w.cell? ⟨p, 66, none⟩ = some (.map (some ms)) ∧ ∀ i, i < 65 → w.cell? ⟨p, i + 1, none⟩ = some (R i) := by
 have := ya h.obj
 refine ⟨by simpa using this 0 _ rfl, by simpa using this 66 _ zbC, fun i hi => ?_⟩
 have := this (i + 1) _ (Y8 hi)
 simpa using this
def vC (Q : StQ) (i : Int) (x : zi) : Bool := decide (0 ≤ i ∧ i < 65 ∧ x ∈ yc (Q i.toNat))
def YB (C : Nat → zi → List Value) (Q : StQ) (i : Int) (x : zi) : List Value := if vC Q i x = true then C i.toNat x else zfx
theorem Zh {i : Int} (hi : YF i) {x : zi} (hx : zQ x) {M : List ((Int × zi) × List Value)} (hM : qR w ma M) (hm : ∀ k cs, (k, cs) ∈ M ↔ ∃ i : Nat, i < 65 ∧ k.1 = (i : Int) ∧ ∃ e ∈ Q i, e.id = k.2 ∧ cs = C i k.2) (c : Bool) :
  (Instr.lookup 113 (.map (some ma)) (.agg (skC (i, x)).toArray) c).run Tryz.prog w = .ok (if c then .tuple #[.agg (YB C Q i x).toArray, .bool (vC Q i x)] else .agg (YB C Q i x).toArray) w := by
 have h := hM.look zi7.keyed zak (fun _ _ => zbP) vM (zbW (k := (i, x)) hi hx) c (r := if vC Q i x = true then some (C i.toNat x) else none) (fun v => by
  rw [hm]
  by_cases h : vC Q i x = true
  ·rw [if_pos h]
   unfold vC at h
   simp only [decide_eq_true_eq] at h
   obtain ⟨h1, h2, h3⟩ := h
   obtain ⟨e, he, hid⟩ := List.mem_map.1 h3
   constructor
   ·intro e'
    exact ⟨i.toNat, by omega, by show i = _; omega, e, he, hid, (Option.some.inj e').symm⟩
   ·rintro ⟨k, h4, h5, e2, h6, h7, h8⟩
    have : i.toNat = k := by have h5 : i = (k : Int) := h5; omega
    rw [h8, this]
  ·rw [if_neg h]
   refine ⟨fun e' => (by cases e'), ?_⟩
   rintro ⟨k, h4, h5, e2, h6, h7, h8⟩
   have h5 : i = (k : Int) := h5
   refine absurd ?_ h
   unfold vC
   simp only [decide_eq_true_eq]
   refine ⟨by omega, by omega, ?_⟩
   rw [show i.toNat = k by omega]
   exact List.mem_map.2 ⟨e2, h6, h7⟩)
 unfold skV at h
 rw [h]
 unfold YB
 by_cases hh : vC Q i x = true <;> simp [hh, Y1]
end
end Go.Proofs.YtdkkjchclkjleaaGreatDoor

/- stem: New, All; keys that are built. -/
namespace Go.Proofs.YtdkkjchclkjleaaGreatDoor
open Go Go.RowKit Go.Maps Go.MapKept
theorem vG : xu Tryz.prog 110 = some (33, [(0, 1), (1, 32)]) := by kernel_rfl
theorem Vg : xu Tryz.prog 118 = some (34, [(0, 1), (1, 33)]) := by kernel_rfl
theorem jD (i : Int) {x : zi} (h : zQ x) : jY (([(0, 1), (1, 32)] : List (Nat × Nat)).toArray[·]?) 0 [(0, .int .i64 i), (1, .agg (zj x).toArray)] := by
  have h : (Value.agg (zj x).toArray).cells.size = 32 := by show (zj x).toArray.size = 32; simpa using zE h
  exact ⟨rfl, by rw [h]; rfl, trivial⟩
theorem zbR (i : Int) {q : zF} (h : q.ok) : jY (([(0, 1), (1, 33)] : List (Nat × Nat)).toArray[·]?) 0 [(0, .int .i64 i), (1, .agg (zB q).toArray)] := by
  have h : (Value.agg (zB q).toArray).cells.size = 33 := by show (zB q).toArray.size = 33; simpa using yb h
  exact ⟨rfl, by rw [h]; rfl, trivial⟩
theorem vH (i : Int) (x : zi) : xp [(0, .int .i64 i), (1, .agg (zj x).toArray)] = skC (i, x) := by simp [xp, Value.cells, skC]
theorem Vj (i : Int) (q : zF) : xp [(0, .int .i64 i), (1, .agg (zB q).toArray)] = spC (i, q) := by simp [xp, Value.cells, spC]
theorem Qz {n : Nat} (h : n < 65) : YF (n : Int) := by unfold YF; omega
theorem zeP (w : World) : (Instr.makeMap 113 none).run Tryz.prog w = .ok (.map (some w.heap.size)) (w.alloc (.map #[] 0)) := by kernel_rfl
theorem ze6 (w : World) : (Instr.makeMap 114 none).run Tryz.prog w = .ok (.map (some w.heap.size)) (w.alloc (.map #[] 0)) := by kernel_rfl
def RZ0 : Nat → Value := fun _ => .slice none 0 0
theorem zhq (a b : Nat) (w : World) : (Instr.build 116 #[(0, .map (some a)), (2, .map (some b))]).run Tryz.prog w = .ok (.agg (stC a b RZ0).toArray) w := by kernel_rfl
set_option maxRecDepth 20000 in
set_option maxHeartbeats 2000000 in
theorem ziX (w0 w : World) (f : Fr No w0 w) :
    Calls Tryz.prog 38 #[] w fun e w' => ∃ p ma ms, e = .returned (.pointer (some ⟨p, 0, none⟩)) ∧ Fr No w w' ∧ (∀ j, stV p ma ms RZ0 j → w.heap.size ≤ j) ∧ ∀ X : Nat → Prop, (∀ j, stV p ma ms RZ0 j → X j) → ∀ C, yz w0 w' p ma ms RZ0 X C (fun _ => []) := by
  have m1 := zeP
  have m2 := ze6
  have E1 := Hd (show qR (w.alloc (.map #[] 0)) w.heap.size [] from yl.made w)
  have E2 := Hd (show Zb ((w.alloc (.map #[] 0)).alloc (.map #[] 0)) (w.heap.size + 1) [] from by have := yl.made (P := Tryz.prog) (kt := 118) (kV := spV) (vV := yW) (w.alloc (.map #[] 0)); rw [show (w.alloc (.map #[] 0)).heap.size = w.heap.size + 1 by simp] at this; exact this)
  go_enter Tryz.func38, Tryz.ntmps38
  have K0 := tru
  go_wp2_with (first | ((with_reducible refine zn ?_); have mk := K0.out; with_reducible refine yk 3 ?_; refine zd rfl (yA (t := 116) rfl rfl (zhq _ _ _)) ?_; go_frame))
  go_ret
  have F1 : Fr No (w.alloc (.map #[] 0)) (((w.alloc (.map #[] 0)).alloc (.map #[] 0)).alloc (.cells (stC w.heap.size (w.heap.size + 1) RZ0).toArray 116)) := ((Fr.refl No _).alloc _).alloc _
  have F2 : Fr No ((w.alloc (.map #[] 0)).alloc (.map #[] 0)) (((w.alloc (.map #[] 0)).alloc (.map #[] 0)).alloc (.cells (stC w.heap.size (w.heap.size + 1) RZ0).toArray 116)) := (Fr.refl No _).alloc _
  have F0 : Fr No w (((w.alloc (.map #[] 0)).alloc (.map #[] 0)).alloc (.cells (stC w.heap.size (w.heap.size + 1) RZ0).toArray 116)) := (((Fr.refl No w).alloc _).alloc _).alloc _
  refine ⟨w.heap.size + 1 + 1, w.heap.size, w.heap.size + 1, by simp, F0, fun j hj => ?_, fun X hX C => ?_⟩
  · rcases hj with e | e | e | ⟨i, hi, e⟩
    · omega
    · omega
    · omega
    · cases e
  · have hs := f.size
    exact { obj := by have := yL ((w.alloc (.map #[] 0)).alloc (.map #[] 0)) (.cells (stC w.heap.size (w.heap.size + 1) RZ0).toArray 116) (n := w.heap.size + 1 + 1) (by simp); exact this
            row := fun i hi => World.ownsRow_nil _ _ _ _
            am := ⟨[], E1.out.keep F1 id, fun k cs => by simp⟩
            sm := ⟨[], E2.out.keep F2 id, fun k x => by simp⟩
            data := fun i hi e he => (by cases he)
            val := fun i => SVal.nil
            apart := ⟨by omega, by omega, by omega⟩
            rnot := fun i hi j hj => (by cases hj)
            rapart := fun i k hi hk hik j hj => (by cases hj)
            lo3 := ⟨by omega, by omega, by omega⟩
            fr := f.trans0 F0
            sub := hX }
section
variable {w0 w : World} {p ma ms : Nat} {R : Nat → Value} {X : Nat → Prop} {C : Nat → zi → List Value} {Q : StQ}
theorem yz.row_form (h : yz w0 w p ma ms R X C Q) {n : Nat} (hn : n < 65) : ∃ ra rc, R n = .slice ra (Q n).length rc := by
  obtain ⟨ra, rc, e⟩ := (h.row n hn).slice.arg.form
  rw [xk] at e
  exact ⟨ra, rc, e⟩
set_option maxRecDepth 20000 in
set_option maxHeartbeats 2000000 in
theorem zj2 (h : yz w0 w p ma ms R X C Q) {n : Nat} (hn : n < 65) :
    Calls Tryz.prog 13 #[.pointer (some ⟨p, 0, none⟩), .int .i64 n] w fun e w' => ∃ v', e = .returned v' ∧ RowK w w' v' (yc (Q n)) := by
  have c2 := h.cells.2.2 n hn
  have CL := Zk w (yV.own (h.row n hn) (h.idok n)) (by rw [xk]; have := (h.val n).len; omega)
  obtain ⟨ra, rc, hR⟩ := h.row_form hn
  rw [hR] at c2 CL
  have CC := Hd CL
  have i1 : ¬ (n : Int) < 0 := by omega
  have i2 : ¬ (64 : Int) < (n : Int) := by omega
  have i3 : (n : Int) < 65 := by omega
  have i4 : (0 : Int) ≤ (n : Int) := by omega
  have c3 : w.cell? ⟨p, 1 + n, none⟩ = some (.slice ra (Q n).length rc) := by rw [Nat.add_comm]; exact c2
  clear h CL
  go_enter Tryz.func13, Tryz.ntmps13
  have K0 := tru
  go_wp2_with (first | (clear K0; go_at_call 42; refine CC.out.mono ?_; rintro e w2 ⟨v', rfl, ho, hf⟩; have RR := Hd (And.intro ho hf); clear ho hf; go_frame))
  go_ret
  exact ⟨v', rfl, RR.out⟩
end
end Go.Proofs.YtdkkjchclkjleaaGreatDoor

/- pool: Fee. stem: out, free. -/
namespace Go.Proofs.YtdkkjchclkjleaaGreatDoor
open Go Go.RowKit Go.Maps Go.MapKept
theorem zjQ (f s : Int) (w : World) : (Instr.field 127 (.agg #[.int .u64 f, .int .i64 s]) 0).run Tryz.prog w = .ok (.int .u64 f) w := by kernel_rfl
section
variable {w0 w : World} {p ma ms g N : Nat} {VG X : Nat → Prop} {C : zi → List Value} {L : List z7}
set_option maxRecDepth 20000 in
set_option maxHeartbeats 4000000 in
theorem zj5 (h : yf w0 w p ma ms g VG X C L N) {x : zi} (hx : zQ x) : Calls Tryz.prog 73 #[.pointer (some ⟨p, 0, none⟩), .agg (zj x).toArray] w fun e w' => ∃ f, e = .returned (.tuple #[.int .u64 f, .bool (decide (x ∈ xD L))]) ∧ Fr No w w' := by
 obtain ⟨dH, uH, rH⟩ := yj
 have XL := Hd (zE hx)
 have F1 := Hd ((Fr.refl No w).alloc (.cells (zj x).toArray 41))
 have RK := Hd (zC w (zj x) 41)
 have HHS := Hd (fun w' (f : Fr No w w') => zjS (h.fr0 f) hx)
 have HH := Hd h
 by_cases hin : x ∈ xD L
 ·have D1 := Hd (show decide (x ∈ xD L) = true from decide_eq_true hin)
  obtain ⟨e, he, hid⟩ := List.mem_map.1 hin
  obtain ⟨M, hM, hm⟩ := h.am
  obtain ⟨ia, ic, oa, oc, hce⟩ := (h.data e he).now.form
  have hcel : ZY C L x = [.int .u32 e.tx.ver, .slice ia e.tx.ins.length ic, .slice oa e.tx.outs.length oc, .int .u64 e.fee, .int .i64 e.size, .int .u64 e.added] := by
   unfold ZY
   rw [if_pos hin, ← hid, hce]
  have LK := Hd (fun w' (h' : qA w' ma M) => Yp (w := w') hx h' hm hcel)
  have HM := Hd hM
  clear h hin hM hm hcel hce hid he
  rw [D1.out]
  go_enter Tryz.func73, Tryz.ntmps73
  have K0 := tru
  have K1 := tru
  go_wp2_with (first | ((with_reducible refine zn ?_); have mk := K0.out; refine xN rfl (zf (ty := 41) rfl rfl RK.out uH rH (by rw [XL.out]; exact zr)) ?_; go_frame) | (clear K1; go_at_call 99; refine (HHS.out _ F1.out).mono ?_; rintro e' w3 ⟨rfl, f3⟩; rw [D1.out]; have F3 := Hd (F1.out.trans0 f3); have R3 := Hd (zb RK.out f3 id); clear f3; go_frame))
  have FD := Hd F3.out.drew
  generalize hq0 : w.heap.size = q0 at *
  refine zv [false, false, false, false, false, false, false, false, false, false] (fun w' => w'.cell? ⟨p, 0, none⟩ = some (.map (some ma)) ∧ w'.rangeAt q0 0 (zj x) ∧ qA w' ma M) (by kernel_rfl) (by kernel_rfl) ?_ (fun K hK => ?_)
  ·exact ⟨(HH.out.fr0 FD.out).cells.1, zb R3.out (Fr.refl No _).drew id, HM.out.keep FD.out id⟩
  repeat (first | ((first | with_reducible refine zx ?_ | ((with_reducible refine zu ?_ ?_); (focus rfl))); apply Exists.intro; refine ⟨?_, ?_⟩; (focus (first | exact zD (ty := 41) rfl (fun w h => h.2.1) uH rH (by rw [XL.out]; exact zr) | exact fun w' h => zN (t := 133) rfl rfl rfl (LK.out w' h.2.2) | exact fun w' _ => vS (t := 129) (f := 1) rfl rfl (ziS e.tx.ver ia oa e.tx.ins.length ic e.tx.outs.length oc e.fee e.size e.added w') | exact fun w' _ => vS (t := 127) (f := 0) rfl rfl (zjQ e.fee e.size w') | (intro w' hS; obtain ⟨s1, s2, s3⟩ := hS; go_simp; (try with_reducible rfl); done))); try simp only [Act.put, pA, pB, pC]) | ((first | ((with_reducible refine zg (c := false) ?_ ?_ ?_); (focus rfl); (focus rfl)) | ((with_reducible refine zg (c := true) ?_ ?_ ?_); (focus rfl); (focus rfl)) | ((with_reducible refine zt ?_ ?_); (focus rfl))); try simp only [Act.put, pA, pB, pC]))
  refine zM (hK.out _ _ ?_)
  go_wp2_with fail
  go_ret2
  exact ⟨_, rfl, FD.out⟩
 ·have D1 := Hd (show decide (x ∈ xD L) = false from decide_eq_false hin)
  clear h hin
  rw [D1.out]
  go_enter Tryz.func73, Tryz.ntmps73
  have K0 := tru
  have K1 := tru
  go_wp2_with (first | ((with_reducible refine zn ?_); have mk := K0.out; refine xN rfl (zf (ty := 41) rfl rfl RK.out uH rH (by rw [XL.out]; exact zr)) ?_; go_frame) | (clear K1; go_at_call 99; refine (HHS.out _ F1.out).mono ?_; rintro e' w3 ⟨rfl, f3⟩; rw [D1.out]; have F3 := Hd (F1.out.trans0 f3); clear f3; go_frame))
  go_ret2
  exact ⟨_, rfl, F3.out⟩
end
end Go.Proofs.YtdkkjchclkjleaaGreatDoor
