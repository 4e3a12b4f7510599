/- chain, plain: what a transaction spends and makes, what a block does, what is undone. -/
import Derived.Deep.CutRange
import Derived.Test.YtdkkjchclkjleaaGreatDoorSG15
import Derived.Test.YtdkkjchclkjleaaGreatDoorSG13
import Derived.Test.YtdkkjchclkjleaaGreatDoorSG5
import Derived.Test.YtdkkjchclkjleaaGreatDoorSG6
import Derived.Test.YtdkkjchclkjleaaGreatDoorSG12
import Derived.Test.YtdkkjchclkjleaaGreatDoorSG16
set_option linter.unusedVariables false
set_option linter.unusedSimpArgs false
set_option linter.unnecessarySimpa false
set_option linter.all false
namespace Go.Proofs.YtdkkjchclkjleaaGreatDoor
open Go Go.RowKit Go.Maps Go.MapKept
def ZH (S : List zy) (t : TxD) : List zy := (zS t).map fun q => ⟨q, yr S q⟩
def zfV (S : List zy) (t : TxD) : List yF := (zS t).map (yr S)
def JC (t : TxD) : List zy := Zz (idH t) t.outs
def spE (S : List zy) (t : TxD) : Int :=
 if (zS t).all (xV S) = true then
  (if vl t (zfV S t) = 0 then (if YS (jO S (zS t)) (JC t) = 0 then 0 else 10) else vl t (zfV S t))
 else 15
def spS (S : List zy) (t : TxD) : List zy := if spE S t = 0 then vX (jO S (zS t)) (JC t) else S
def spG (S : List zy) (t : TxD) : zao := ⟨ZH S t, (JC t).map (·.at_)⟩
theorem qW (t : TxD) : (zS t).length = t.ins.length := by simp [zS]
theorem zaZ (t : TxD) : (JC t).length = t.outs.length := jo _ _
theorem ze4 (S : List zy) (t : TxD) : (ZH S t).length = t.ins.length := by simp [ZH, zS]
theorem zcQ (S : List zy) (t : TxD) : (ZH S t).map (·.at_) = zS t := by simp [ZH, Function.comp_def]
theorem j5 {t : TxD} (h : yt t = 0) : qP t = true ∧ t.ins ≠ [] ∧ t.outs ≠ [] ∧ (zS t).Nodup ∧ (∀ x ∈ t.outs, JV x = false) ∧ x9 t.outs ≤ 1125899906842624 := by
 unfold yt at h
 split at h
 ·rename_i h1
  split at h
  ·cases h
  ·rename_i h2
   split at h
   ·cases h
   ·rename_i h3
    split at h
    ·cases h
    ·rename_i h4
     split at h
     ·rename_i h5
      have h3' : t.outs.any JV = false := by simpa using h3
      exact ⟨h1, fun e => h2 (.inl (by rw [e]; rfl)), fun e => h2 (.inr (by rw [e]; rfl)), h5, fun x hx => by simpa using List.any_eq_false.1 h3' x hx, by omega⟩
     ·cases h
 ·cases h
theorem zbr {t : TxD} {prev : List yF} (h : vl t prev = 0) : yt t = 0 := by
 unfold vl at h
 split at h
 ·rename_i h1; exact h1
 ·exact h
theorem zeG {S : List zy} (srt : q8 S) {q : zF} (h : xV S q = true) : (⟨q, yr S q⟩ : zy) ∈ S := by
 obtain ⟨c, hc, e⟩ := jS.1 h
 have h1 := Zf srt hc
 rw [e] at h1
 have : yr S q = c.out := by unfold yr; rw [h1]; rfl
 rw [this, ← e]
 exact hc
theorem zaN {S : List zy} (srt : q8 S) {t : TxD} (h : (zS t).all (xV S) = true) {x : zy} : x ∈ ZH S t ↔ x ∈ S ∧ x.at_ ∈ zS t := by
 unfold ZH
 rw [List.mem_map]
 constructor
 ·rintro ⟨q, hq, rfl⟩
  exact ⟨zeG srt (List.all_eq_true.1 h q hq), hq⟩
 ·rintro ⟨h1, h2⟩
  refine ⟨x.at_, h2, ?_⟩
  have := Zf srt h1
  have e : yr S x.at_ = x.out := by unfold yr; rw [this]; rfl
  rw [e]
theorem zgO {t : TxD} (ho : ∀ x ∈ t.outs, x.ok) (hl : t.outs.length ≤ 1000) : ∀ c ∈ JC t, c.ok := Vb (Jp t) ho (by omega)
theorem zf1 {S : List zy} {ps : List zF} (h1 : ps.Nodup) (h2 : ps.all (xV S) = true) : zen S ps = 0 ∧ Qp S ps = jO S ps := by
 have e : zen S ps = 0 := by unfold zen; rw [if_pos h1, if_pos h2]
 exact ⟨e, by unfold Qp; rw [if_pos e]⟩
theorem zgI {S : List zy} (srt : q8 S) {t : TxD} (h : (zS t).all (xV S) = true) (hn : (zS t).Nodup) : YS (jO S (zS t)) (ZH S t) = 0 ∧ zax (jO S (zS t)) (ZH S t) = S := by
 have h1 : ∀ c ∈ ZH S t, xV (jO S (zS t)) c.at_ = false := fun c hc => by
  rw [JX]
  intro d hd e
  have := (Jm.1 hd).2
  rw [e] at this
  exact this ((zaN srt h).1 hc).2
 have h2 := zg6 (by rw [zcQ]; exact hn) h1
 refine ⟨h2.1, ?_⟩
 rw [h2.2]
 refine q8.same (Jr (Yr srt) (by rw [zcQ]; exact hn) h1) srt (fun x => ?_)
 rw [qN, Jm, zaN srt h]
 constructor
 ·rintro (⟨a, _⟩ | ⟨a, _⟩) <;> exact a
 ·intro hx
  by_cases hp : x.at_ ∈ zS t
  ·exact .inr ⟨hx, hp⟩
  ·exact .inl ⟨hx, hp⟩
theorem Y5 {S l : List zy} (h : YS S l = 0) : (l.map (·.at_)).Nodup ∧ ∀ c ∈ l, xV S c.at_ = false := by
 unfold YS at h
 split at h
 ·rename_i h1
  split at h
  ·cases h
  ·rename_i h2
   refine ⟨h1, fun c hc => ?_⟩
   have h2' : l.any (fun c => xV S c.at_) = false := by simpa using h2
   simpa using List.any_eq_false.1 h2' c hc
 ·cases h
theorem zbk {S l : List zy} (srt : q8 S) (h : YS S l = 0) : Qp (vX S l) (l.map (·.at_)) = S := by
 obtain ⟨hn, hd⟩ := Y5 h
 have h2 : (l.map (·.at_)).all (xV (vX S l)) = true := List.all_eq_true.2 fun q hq => by
  obtain ⟨c, hc, rfl⟩ := List.mem_map.1 hq
  exact jS.2 ⟨c, qN.2 (.inr hc), rfl⟩
 rw [(zf1 hn h2).2]
 refine q8.same (Yr (Jr srt hn hd)) srt (fun x => ?_)
 rw [Jm, qN]
 constructor
 ·rintro ⟨a | a, b⟩
  ·exact a
  ·exact absurd (List.mem_map.2 ⟨x, a, rfl⟩) b
 ·intro hx
  refine ⟨.inl hx, fun hm => ?_⟩
  obtain ⟨c, hc, e⟩ := List.mem_map.1 hm
  exact (JX.1 (hd c hc)) x hx e.symm
theorem sp0 {S : List zy} {t : TxD} (h : spE S t = 0) : (zS t).all (xV S) = true ∧ vl t (zfV S t) = 0 ∧ YS (jO S (zS t)) (JC t) = 0 := by
 unfold spE at h
 split at h
 ·rename_i h1
  split at h
  ·rename_i h2
   split at h
   ·rename_i h3
    exact ⟨h1, h2, h3⟩
   ·cases h
  ·rename_i h2
   exact absurd h h2
 ·cases h
theorem zit {S : List zy} (srt : q8 S) (t : TxD) : q8 (spS S t) := by
 unfold spS
 split
 ·rename_i h
  obtain ⟨_, _, h3⟩ := sp0 h
  obtain ⟨a, b⟩ := Y5 h3
  exact Jr (Yr srt) a b
 ·exact srt
theorem zjf {S : List zy} (ok : ∀ c ∈ S, c.ok) {t : TxD} (ho : ∀ x ∈ t.outs, x.ok) (hl : t.outs.length ≤ 1000) : ∀ c ∈ spS S t, c.ok := by
 unfold spS
 split
 ·intro c hc
  rcases qN.1 hc with h | h
  ·exact ok c (Jm.1 h).1
  ·exact zgO ho hl c h
 ·exact ok
theorem zhE (S : List zy) (t : TxD) : (spS S t).length ≤ S.length + t.outs.length := by
 unfold spS
 split
 ·rw [(Yl _ _).length_eq, List.length_append, zaZ]
  have : (jO S (zS t)).length ≤ S.length := List.length_filter_le _ _
  omega
 ·omega
theorem zim {S : List zy} (srt : q8 S) {t : TxD} (h : spE S t = 0) : zax (Qp (spS S t) (spG S t).made) (spG S t).took = S := by
 obtain ⟨h1, h2, h3⟩ := sp0 h
 have hc := j5 (zbr h2)
 have e : spS S t = vX (jO S (zS t)) (JC t) := by unfold spS; rw [if_pos h]
 rw [e]
 show zax (Qp (vX (jO S (zS t)) (JC t)) ((JC t).map (·.at_))) (ZH S t) = S
 rw [zbk (Yr srt) h3]
 exact (zgI srt h1 hc.2.2.2.1).2
structure StD where
 S : List zy
 ids : List zi
 chg : List zao
def txE (K : List zi) (s : StD) (t : TxD) : Int := if yt t = 0 then (if idH t ∈ K ∨ idH t ∈ s.ids then 19 else spE s.S t) else yt t
def txS (s : StD) (t : TxD) : StD := ⟨spS s.S t, s.ids ++ [idH t], s.chg ++ [spG s.S t]⟩
def runT (K : List zi) : List TxD → StD → Int × StD
 | [], s => (0, s)
 | t :: l, s => if txE K s t = 0 then runT K l (txS s t) else (txE K s t, s)
theorem zaP {K : List zi} {t : TxD} {l : List TxD} {s : StD} (h : txE K s t = 0) : runT K (t :: l) s = runT K l (txS s t) := by
 rw [runT, if_pos h]
theorem zcW {K : List zi} {t : TxD} {l : List TxD} {s : StD} (h : txE K s t ≠ 0) : runT K (t :: l) s = (txE K s t, s) := by
 rw [runT, if_neg h]
theorem tx0 {K : List zi} {s : StD} {t : TxD} (h : txE K s t = 0) : yt t = 0 ∧ idH t ∉ K ∧ idH t ∉ s.ids ∧ spE s.S t = 0 := by
 unfold txE at h
 split at h
 ·rename_i h1
  split at h
  ·cases h
  ·rename_i h2
   exact ⟨h1, fun e => h2 (.inl e), fun e => h2 (.inr e), h⟩
 ·rename_i h1
  exact absurd h h1
def st0 (S : List zy) : StD := ⟨S, [], []⟩
def doR (K : List zi) (S : List zy) (b : Zr) : DoR :=
 if (runT K b.txs (st0 S)).1 = 0 then
  (if YS (runT K b.txs (st0 S)).2.S (XD b) = 0 then ⟨0, vX (runT K b.txs (st0 S)).2.S (XD b), ⟨b, (runT K b.txs (st0 S)).2.ids, (runT K b.txs (st0 S)).2.chg ++ [⟨[], (XD b).map (·.at_)⟩]⟩⟩
   else ⟨10, (runT K b.txs (st0 S)).2.S, ⟨b, (runT K b.txs (st0 S)).2.ids, (runT K b.txs (st0 S)).2.chg⟩⟩)
 else ⟨(runT K b.txs (st0 S)).1, (runT K b.txs (st0 S)).2.S, ⟨b, (runT K b.txs (st0 S)).2.ids, (runT K b.txs (st0 S)).2.chg⟩⟩
structure zcH (S0 : List zy) (K : List zi) (n : Nat) (s : StD) : Prop where
 srt : q8 s.S
 ok : ∀ c ∈ s.S, c.ok
 len : s.S.length ≤ S0.length + 8 * n
 undo : Qu s.chg s.S = S0
 il : s.ids.length = n
 cl : s.chg.length = n
 took : Vf s.chg ≤ 16 * n
 new : ∀ x ∈ s.ids, x ∉ K
 iok : ∀ x ∈ s.ids, zQ x
theorem VB (l : List zao) (c : zao) : Vf (l ++ [c]) = Vf l + (c.took.length + c.made.length) := by simp [Vf]
theorem VD (l : List zao) (c : zao) (S : List zy) : Qu (l ++ [c]) S = Qu l (zax (Qp S c.made) c.took) := by simp [Qu, List.foldr_append]
theorem zcH.start {S : List zy} (srt : q8 S) (ok : ∀ c ∈ S, c.ok) (K : List zi) : zcH S K 0 (st0 S) :=
 ⟨srt, ok, Nat.le_refl _, rfl, rfl, rfl, Nat.le_refl _, fun x h => (by cases h), fun x h => (by cases h)⟩
theorem zjT {t : TxD} (h : qP t = true) : t.ins.length ≤ 8 ∧ t.outs.length ≤ 8 := ⟨(yX.1 h).2.1, (yX.1 h).2.2⟩
theorem zcH.step {S0 : List zy} {K : List zi} {n : Nat} {s : StD} (h : zcH S0 K n s) {t : TxD} (ho : ∀ x ∈ t.outs, x.ok) (h0 : txE K s t = 0) : zcH S0 K (n + 1) (txS s t) := by
 obtain ⟨h1, h2, h3, h4⟩ := tx0 h0
 have hf := zjT (j5 h1).1
 refine ⟨zit h.srt t, zjf h.ok ho (by omega), ?_, ?_, ?_, ?_, ?_, ?_, ?_⟩
 ·have a := zhE s.S t
  have b := h.len
  show (spS s.S t).length ≤ _
  omega
 ·show Qu (s.chg ++ [spG s.S t]) (spS s.S t) = S0
  rw [VD, zim h.srt h4]
  exact h.undo
 ·show (s.ids ++ [idH t]).length = _
  rw [List.length_append, h.il]; rfl
 ·show (s.chg ++ [spG s.S t]).length = _
  rw [List.length_append, h.cl]; rfl
 ·show Vf (s.chg ++ [spG s.S t]) ≤ _
  rw [VB]
  have a := h.took
  have b : (spG s.S t).took.length = t.ins.length := ze4 _ _
  have c : (spG s.S t).made.length = t.outs.length := by show ((JC t).map (·.at_)).length = _; rw [List.length_map, zaZ]
  omega
 ·intro x hx
  rcases List.mem_append.1 hx with hx | hx
  ·exact h.new x hx
  ·simp at hx; subst hx; exact h2
 ·intro x hx
  rcases List.mem_append.1 hx with hx | hx
  ·exact h.iok x hx
  ·simp at hx; subst hx; exact Jp t
theorem zek {S0 : List zy} {K : List zi} : ∀ (l : List TxD) {n : Nat} {s : StD}, zcH S0 K n s → (∀ t ∈ l, ∀ x ∈ t.outs, x.ok) → ∃ m, m ≤ n + l.length ∧ zcH S0 K m (runT K l s).2
 | [], n, s, h, _ => ⟨n, Nat.le_refl _, h⟩
 | t :: l, n, s, h, ho => by
  by_cases h0 : txE K s t = 0
  ·rw [zaP h0]
   obtain ⟨m, hm, hs⟩ := zek l (h.step (ho t (.head _)) h0) (fun u hu => ho u (.tail _ hu))
   exact ⟨m, by simp only [List.length_cons]; omega, hs⟩
  ·rw [zcW h0]
   exact ⟨n, by omega, h⟩
theorem zjr {K : List zi} {S : List zy} (srt : q8 S) (ok : ∀ c ∈ S, c.ok) {b : Zr} (hb : ∀ t ∈ b.txs, ∀ x ∈ t.outs, x.ok) (hp : ∀ x ∈ b.pay, x.ok) (hl : b.txs.length ≤ 16) (hl2 : b.pay.length ≤ 8) :
  q8 (doR K S b).S ∧ (∀ c ∈ (doR K S b).S, c.ok) ∧ (doR K S b).S.length ≤ S.length + 136 ∧ Qu (doR K S b).d.chg (doR K S b).S = S ∧ (doR K S b).d.blk = b ∧ (doR K S b).d.ids.length ≤ 16 ∧ (doR K S b).d.chg.length ≤ 17 ∧ Vf (doR K S b).d.chg ≤ 264 ∧ (∀ x ∈ (doR K S b).d.ids, x ∉ K) ∧ ∀ x ∈ (doR K S b).d.ids, zQ x := by
 obtain ⟨m, hm, h⟩ := zek b.txs (zcH.start srt ok K) hb
 have hm' : m ≤ 16 := by omega
 have h1 := h.len
 have h2 := h.il
 have h3 := h.cl
 have h4 := h.took
 unfold doR
 split
 ·split
  ·rename_i hz hput
   obtain ⟨a, c⟩ := Y5 hput
   refine ⟨Jr h.srt a c, ?_, ?_, ?_, rfl, ?_, ?_, ?_, h.new, h.iok⟩
   ·intro x hx
    rcases qN.1 hx with hx | hx
    ·exact h.ok x hx
    ·exact Vb (zhC b) hp (by omega) x hx
   ·show (vX _ _).length ≤ _
    rw [(Yl _ _).length_eq, List.length_append, zcp]
    omega
   ·show Qu (_ ++ [_]) (vX _ _) = S
    rw [VD]
    show Qu _ (zax (Qp (vX _ _) ((XD b).map (·.at_))) []) = S
    rw [zbk h.srt hput]
    rw [show zax (runT K b.txs (st0 S)).2.S [] = (runT K b.txs (st0 S)).2.S from (zg6 (by simp) (fun c hc => by cases hc)).2]
    exact h.undo
   ·dsimp only
    omega
   ·dsimp only
    rw [List.length_append]
    simp
    omega
   ·dsimp only
    rw [VB]
    simp only [List.length_nil, List.length_map, zcp]
    omega
  ·exact ⟨h.srt, h.ok, (by dsimp only; omega), h.undo, rfl, (by dsimp only; omega), (by dsimp only; omega), (by dsimp only; omega), h.new, h.iok⟩
 ·exact ⟨h.srt, h.ok, (by dsimp only; omega), h.undo, rfl, (by dsimp only; omega), (by dsimp only; omega), (by dsimp only; omega), h.new, h.iok⟩
def zgH (K : List zi) (S : List zy) (bs : List xt) (b : Zr) : Int := if 1024 ≤ bs.length then 18 else if zbb b = true then (if b.pay.any JV = true then 11 else (doR K S b).E) else 5
theorem zj4 {K : List zi} {S : List zy} {bs : List xt} {b : Zr} (h : zgH K S bs b = 0) : bs.length < 1024 ∧ zbb b = true ∧ b.pay.any JV = false ∧ (doR K S b).E = 0 := by
 unfold zgH at h
 split at h
 ·cases h
 ·split at h
  ·split at h
   ·cases h
   ·exact ⟨by omega, ‹_›, by simpa using ‹¬ (b.pay.any JV = true)›, h⟩
  ·cases h
theorem zkf {K : List zi} {S : List zy} {b : Zr} (h : (doR K S b).E = 0) : (runT K b.txs (st0 S)).1 = 0 ∧ YS (runT K b.txs (st0 S)).2.S (XD b) = 0 ∧ (doR K S b).S = vX (runT K b.txs (st0 S)).2.S (XD b) ∧ (doR K S b).d = ⟨b, (runT K b.txs (st0 S)).2.ids, (runT K b.txs (st0 S)).2.chg ++ [⟨[], (XD b).map (·.at_)⟩]⟩ := by
 unfold doR at h ⊢
 split at h
 ·rename_i h1
  split at h
  ·rename_i h2
   rw [if_pos h1, if_pos h2]
   exact ⟨h1, h2, rfl, rfl⟩
  ·cases h
 ·rename_i h1
  exact absurd h h1
end Go.Proofs.YtdkkjchclkjleaaGreatDoor

/- chain, plain: a chain's history; the laws. -/
namespace Go.Proofs.YtdkkjchclkjleaaGreatDoor
open Go Go.RowKit Go.Maps Go.MapKept
def BOk (b : Zr) : Prop := (∀ t ∈ b.txs, (∀ x ∈ t.ins, x.from_.ok) ∧ ∀ x ∈ t.outs, x.ok) ∧ ∀ x ∈ b.pay, x.ok
def jj (bs : List xt) : List zi := bs.flatMap (·.ids)
inductive zdP (S0 : List zy) : List xt → List zy → Prop
 | nil : zdP S0 [] S0
 | snoc {bs : List xt} {S : List zy} {b : Zr} (h : zdP S0 bs S) (hb : BOk b) (hc : zgH (jj bs) S bs b = 0) : zdP S0 (bs ++ [(doR (jj bs) S b).d]) (doR (jj bs) S b).S
theorem zeB {b : Zr} (h : zbb b = true) : b.pay.length ≤ 8 ∧ b.txs.length ≤ 16 ∧ ∀ t ∈ b.txs, qP t = true := by
 simp only [zbb, Bool.and_eq_true, decide_eq_true_eq, List.all_eq_true] at h
 exact ⟨h.1, h.2.1, h.2.2⟩
structure HOk (S0 : List zy) (bs : List xt) (S : List zy) : Prop where
 srt : q8 S
 ok : ∀ c ∈ S, c.ok
 len : S.length ≤ S0.length + 136 * bs.length
 ds : ∀ d ∈ bs, d.ids.length ≤ 16 ∧ d.chg.length ≤ 17 ∧ Vf d.chg ≤ 264 ∧ (∀ x ∈ d.ids, zQ x) ∧ BOk d.blk ∧ zbb d.blk = true
theorem zdP.good {S0 : List zy} {bs : List xt} {S : List zy} (h : zdP S0 bs S) (srt : q8 S0) (ok : ∀ c ∈ S0, c.ok) : HOk S0 bs S := by
 induction h with
 | nil => exact ⟨srt, ok, by simp, fun d h => by cases h⟩
 | @snoc bs S b h hb hc ih =>
  obtain ⟨h1, h2, h3, h4⟩ := zj4 hc
  obtain ⟨p1, p2, p3⟩ := zeB h2
  obtain ⟨a1, a2, a3, -, a5, a6, a7, a8, -, a10⟩ := zjr (K := jj bs) ih.srt ih.ok (fun t ht => (hb.1 t ht).2) hb.2 p2 p1
  refine ⟨a1, a2, ?_, fun d hd => ?_⟩
  ·have := ih.len
   rw [List.length_append]
   simp only [List.length_cons, List.length_nil]
   omega
  ·rcases List.mem_append.1 hd with hd | hd
   ·exact ih.ds d hd
   ·simp at hd
    subst hd
    exact ⟨a6, a7, a8, a10, by rw [a5]; exact hb, by rw [a5]; exact h2⟩
def cnt (S : List zy) (p : zF) : Int := if xV S p = true then 1 else 0
theorem zbw {l : List zF} (h : l.Nodup) (p : zF) : (l.count p : Int) = if p ∈ l then 1 else 0 := by
 split
 ·rename_i hm
  have := List.nodup_iff_count.1 h p
  have := List.count_pos_iff.2 hm
  omega
 ·rename_i hm
  rw [List.count_eq_zero.2 hm]; rfl
theorem Vr {S l : List zy} {p : zF} : xV (vX S l) p = true ↔ xV S p = true ∨ p ∈ l.map (·.at_) := by
 rw [jS, jS, List.mem_map]
 constructor
 ·rintro ⟨c, hc, e⟩
  rcases qN.1 hc with h | h
  ·exact .inl ⟨c, h, e⟩
  ·exact .inr ⟨c, h, e⟩
 ·rintro (⟨c, hc, e⟩ | ⟨c, hc, e⟩)
  ·exact ⟨c, qN.2 (.inl hc), e⟩
  ·exact ⟨c, qN.2 (.inr hc), e⟩
theorem XQ {S : List zy} {ps : List zF} {p : zF} : xV (jO S ps) p = true ↔ xV S p = true ∧ p ∉ ps := by
 rw [jS, jS]
 constructor
 ·rintro ⟨c, hc, e⟩
  obtain ⟨a, b⟩ := Jm.1 hc
  exact ⟨⟨c, a, e⟩, e ▸ b⟩
 ·rintro ⟨⟨c, hc, e⟩, h⟩
  exact ⟨c, Jm.2 ⟨hc, e ▸ h⟩, e⟩
theorem zem {S l : List zy} (h : YS S l = 0) (p : zF) : cnt (vX S l) p = cnt S p + ((l.map (·.at_)).count p : Int) := by
 obtain ⟨a, b⟩ := Y5 h
 rw [zbw a]
 unfold cnt
 by_cases hp : p ∈ l.map (·.at_)
 ·have hn : xV S p = false := by
   obtain ⟨c, hc, rfl⟩ := List.mem_map.1 hp
   exact b c hc
  rw [if_pos (Vr.2 (.inr hp)), hn, if_pos hp]
  rfl
 ·by_cases hs : xV S p = true
  ·rw [if_pos (Vr.2 (.inl hs)), if_pos hs, if_neg hp]; rfl
  ·rw [if_neg (fun e => (Vr.1 e).elim hs hp), if_neg hs, if_neg hp]; rfl
theorem zhl {S : List zy} {ps : List zF} (h : ps.all (xV S) = true) (hn : ps.Nodup) (p : zF) : cnt (jO S ps) p = cnt S p - (ps.count p : Int) := by
 rw [zbw hn]
 unfold cnt
 by_cases hp : p ∈ ps
 ·rw [if_neg (fun e => (XQ.1 e).2 hp), if_pos (List.all_eq_true.1 h p hp), if_pos hp]; rfl
 ·by_cases hs : xV S p = true
  ·rw [if_pos (XQ.2 ⟨hs, hp⟩), if_pos hs, if_neg hp]; rfl
  ·rw [if_neg (fun e => hs (XQ.1 e).1), if_neg hs, if_neg hp]; rfl
theorem zi6 {S : List zy} {t : TxD} (h : spE S t = 0) (p : zF) : cnt (spS S t) p = cnt S p - ((zS t).count p : Int) + (((JC t).map (·.at_)).count p : Int) := by
 obtain ⟨h1, h2, h3⟩ := sp0 h
 have hc := j5 (zbr h2)
 have e : spS S t = vX (jO S (zS t)) (JC t) := by unfold spS; rw [if_pos h]
 rw [e, zem h3, zhl h1 hc.2.2.2.1]
theorem zeg {K : List zi} (p : zF) : ∀ (l : List TxD) (s : StD), (runT K l s).1 = 0 → cnt (runT K l s).2.S p = cnt s.S p - ((l.flatMap zS).count p : Int) + ((l.flatMap fun t => (JC t).map (·.at_)).count p : Int)
 | [], s, _ => by simp [runT]
 | t :: l, s, h => by
  by_cases h0 : txE K s t = 0
  ·rw [zaP h0] at h ⊢
   rw [zeg p l (txS s t) h]
   have : cnt (txS s t).S p = _ := zi6 (tx0 h0).2.2.2 p
   rw [this]
   simp only [List.flatMap_cons, List.count_append]
   omega
  ·rw [zcW h0] at h
   exact absurd h h0
theorem zjC {K : List zi} {S : List zy} {b : Zr} (h : (doR K S b).E = 0) (p : zF) : cnt (doR K S b).S p = cnt S p - ((b.txs.flatMap zS).count p : Int) + (((XD b).map (·.at_) ++ b.txs.flatMap fun t => (JC t).map (·.at_)).count p : Int) := by
 obtain ⟨h1, h2, h3, h4⟩ := zkf h
 rw [h3, zem h2, zeg p _ _ h1, List.count_append]
 show cnt S p - _ + _ + _ = _
 omega
end Go.Proofs.YtdkkjchclkjleaaGreatDoor

/- chain: Connect and Disconnect of any block; a chain behind acts. -/
namespace Go.Proofs.YtdkkjchclkjleaaGreatDoor
open Go Go.RowKit Go.Maps Go.MapKept
structure Gd (w0 w : World) (p : Nat) (V : Nat → Prop) (S0 : List zy) (S : List zy) (bs : List xt) : Prop where
 hist : zdP S0 bs S
 srt0 : q8 S0
 ok0 : ∀ c ∈ S0, c.ok
 len0 : S0.length ≤ 300
 cn : Cn w0 w p V S bs (jj bs)
section
variable {w0 w w' : World} {p : Nat} {V : Nat → Prop} {S0 S : List zy} {bs : List xt}
theorem Gd.hok (h : Gd w0 w p V S0 S bs) : HOk S0 bs S := h.hist.good h.srt0 h.ok0
theorem Gd.fr (h : Gd w0 w p V S0 S bs) : Fr No w0 w := h.cn.fr
theorem Gd.hi (h : Gd w0 w p V S0 S bs) : ∀ j, V j → j < w.heap.size := h.cn.hi
theorem Gd.lo (h : Gd w0 w p V S0 S bs) : ∀ j, V j → w0.heap.size ≤ j := h.cn.lo
def GdX (w0 w : World) (p : Nat) (V : Nat → Prop) (S0 S : List zy) (bs : List xt) (css : List (List Value)) : Prop :=
 zdP S0 bs S ∧ ∃ s U mi bv M, JP w0 w p s U mi bv css ⟨S, bs, M⟩ ∧ V = chV p U mi bv ∧ (∀ x, x ∈ jj bs ↔ ∃ v, (x, v) ∈ M) ∧ ∀ x v, (x, v) ∈ M → 0 < v
theorem Gd.x (h : Gd w0 w p V S0 S bs) : ∃ css, GdX w0 w p V S0 S bs css := by
 obtain ⟨M, ⟨s, U, mi, bv, css, hc, hV⟩, hid, hpos⟩ := h.cn
 exact ⟨css, h.hist, s, U, mi, bv, M, hc, hV, hid, hpos⟩
theorem GdX.gd {css : List (List Value)} (h : GdX w0 w p V S0 S bs css) (srt : q8 S0) (ok : ∀ c ∈ S0, c.ok) (hl : S0.length ≤ 300) : Gd w0 w p V S0 S bs := by
 obtain ⟨hh, s, U, mi, bv, M, hc, hV, hid, hpos⟩ := h
 exact ⟨hh, srt, ok, hl, M, ⟨s, U, mi, bv, css, hc, hV⟩, hid, hpos⟩
theorem GdX.data {css : List (List Value)} (h : GdX w0 w p V S0 S bs css) : ∀ (i : Nat) (d : xt) (cs : List Value), bs[i]? = some d → css[i]? = some cs → Kept V w (fun w => zct w d cs) := by
 obtain ⟨hh, s, U, mi, bv, M, hc, hV, hid, hpos⟩ := h
 intro i d cs h1 h2
 rw [hV]
 exact hc.data i d cs h1 h2
theorem GdX.cl {css : List (List Value)} (h : GdX w0 w p V S0 S bs css) : css.length = bs.length := by
 obtain ⟨hh, s, U, mi, bv, M, hc, hV, hid, hpos⟩ := h
 exact hc.cl
theorem GdX.fr0 {css : List (List Value)} (h : GdX w0 w p V S0 S bs css) (f : Fr No w w') : GdX w0 w' p V S0 S bs css := by
 obtain ⟨hh, s, U, mi, bv, M, hc, hV, hid, hpos⟩ := h
 exact ⟨hh, s, U, mi, bv, M, hc.fr0 f, hV, hid, hpos⟩
theorem GdX.frV {css : List (List Value)} (h : GdX w0 w p V S0 S bs css) {W : Nat → Prop} (f : Fr W w w') (hU : ∀ j, V j → ¬ W j) (h0 : ∀ j, W j → w0.heap.size ≤ j) (hd : ∀ (i : Nat) (d : xt) (cs : List Value), bs[i]? = some d → css[i]? = some cs → Kept V w' (fun w => zct w d cs)) : GdX w0 w' p V S0 S bs css := by
 obtain ⟨hh, s, U, mi, bv, M, hc, hV, hid, hpos⟩ := h
 subst hV
 exact ⟨hh, s, U, mi, bv, M, hc.frV f hU h0 hd, rfl, hid, hpos⟩
structure CX (w0 w : World) (p : Nat) (V X : Nat → Prop) (S0 S : List zy) (bs : List xt) (css : List (List Value)) : Prop where
 gd : GdX w0 w p V S0 S bs css
 srt0 : q8 S0
 ok0 : ∀ c ∈ S0, c.ok
 len0 : S0.length ≤ 300
 data : ∀ (i : Nat) (d : xt) (cs : List Value), bs[i]? = some d → css[i]? = some cs → Kept (fun j => V j ∨ X j) w (fun w => zct w d cs)
theorem CX.g {X : Nat → Prop} {css : List (List Value)} (h : CX w0 w p V X S0 S bs css) : Gd w0 w p V S0 S bs := h.gd.gd h.srt0 h.ok0 h.len0
theorem CX.frV {X X' : Nat → Prop} {css : List (List Value)} (h : CX w0 w p V X S0 S bs css) {W : Nat → Prop} (f : Fr W w w') (hU : ∀ j, V j → ¬ W j) (h0 : ∀ j, W j → w0.heap.size ≤ j) (hW : ∀ j, W j → X j) (hX : ∀ j, j < w.heap.size → X' j → X j) : CX w0 w' p V X' S0 S bs css :=
 {h with
  gd := h.gd.frV f hU h0 (fun i d cs h1 h2 => (h.data i d cs h1 h2).step (f.mono (fun j e => .inr (hW j e))) (fun j _ e => .inl e))
  data := fun i d cs h1 h2 => (h.data i d cs h1 h2).step (f.mono (fun j e => .inr (hW j e))) (fun j hj e => e.imp_right (hX j hj)) }
theorem ziL (w : World) {v : Value} {l : List yF} (hl : xz w v l) (hN : l.length ≤ 256) :
  Calls Tryz.prog 35 #[v] w fun e w' => ∃ p, e = .returned (.tuple #[.pointer (some ⟨p, 0, none⟩), .int .i64 0]) ∧ ∃ V, Gd w w' p V (vX [] (Zz yN l)) (vX [] (Zz yN l)) [] := by
 refine (zgQ w hl hN).mono fun e w' ⟨p, he, V, h⟩ => ⟨p, he, V, .nil, ?_, fun c hc => ?_, ?_, h⟩
 ·exact Jr List.Pairwise.nil (VM _ _) (fun c hc => rfl)
 ·rcases qN.1 hc with hc | hc
  ·cases hc
  ·exact Vb xQ hl.1 (by omega) c hc
 ·rw [(Yl _ _).length_eq, List.nil_append, jo]
  omega
end
end Go.Proofs.YtdkkjchclkjleaaGreatDoor
