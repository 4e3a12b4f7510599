/- pool: plain. -/
import Derived.Test.YtdkkjchclkjleaaGreatDoorSG18
import Derived.Test.YtdkkjchclkjleaaGreatDoorSG17
import Derived.Test.YtdkkjchclkjleaaGreatDoorSG20
set_option linter.unusedVariables false
set_option linter.unusedSimpArgs false
set_option linter.unnecessarySimpa false
set_option linter.all false
namespace Go.Proofs.YtdkkjchclkjleaaGreatDoor
open Go
structure z7 where
 id : zi
 tx : TxD
 fee : Int
 size : Int
 added : Int
 ps : List zi
def gOf (L : List z7) : List yE := L.map fun e => ⟨e.id, e.ps⟩
def xD (L : List z7) : List zi := L.map (·.id)
theorem qv (L : List z7) : ids (gOf L) = xD L := by simp [gOf, ids, xD, Function.comp_def]
theorem zc4 (L : List z7) (e : z7) : gOf (L ++ [e]) = gOf L ++ [⟨e.id, e.ps⟩] := by simp [gOf]
def Yh (L : List z7) (x : zi) : Option z7 := L.find? fun e => decide (e.id = x)
theorem zeH {L : List z7} {x : zi} {e : z7} (h : Yh L x = some e) : e ∈ L ∧ e.id = x := by
 unfold Yh at h
 exact ⟨List.mem_of_find?_eq_some h, by simpa using List.find?_some h⟩
theorem zfa {L : List z7} {x : zi} : Yh L x = none ↔ x ∉ xD L := by
 unfold Yh xD
 rw [List.find?_eq_none]
 simp only [decide_eq_true_eq, List.mem_map, not_exists, not_and]
theorem zcM : ∀ {L : List z7}, (xD L).Nodup → ∀ {e : z7}, e ∈ L → Yh L e.id = some e
 | [], _, _, h => by cases h
 | x :: r, hn, e, h => by
  obtain ⟨n1, n2⟩ := List.nodup_cons.1 hn
  unfold Yh
  rcases List.mem_cons.1 h with rfl | h
  ·simp
  ·have : x.id ≠ e.id := fun c => n1 (by show x.id ∈ _; rw [c]; exact List.mem_map.2 ⟨e, h, rfl⟩)
   rw [List.find?_cons_of_neg (by simpa using this)]
   exact zcM n2 h
def yQ (L : List z7) (q : zF) : Option yF := (Yh L q.tx).bind fun e => e.tx.outs[q.n.toNat]?
def xw (L : List z7) (q : zF) : Bool := L.any fun e => decide (q ∈ zS e.tx)
theorem vp {L : List z7} {q : zF} : xw L q = true ↔ ∃ e ∈ L, q ∈ zS e.tx := by simp [xw]
def xR (S : List zy) (L : List z7) (q : zF) : Option yF := if xV S q = true then some (yr S q) else yQ L q
def jM (S : List zy) (L : List z7) (t : TxD) : Int :=
 if (zS t).any (xw L) = true then 14 else if (zS t).all (fun q => (xR S L q).isSome) = true then 0 else 15
def xm (S : List zy) (L : List z7) (t : TxD) : List yF := (zS t).map fun q => (xR S L q).getD yR
def xe (L : List z7) (t : TxD) : List zi := ((zS t).filter fun q => (yQ L q).isSome).map (·.tx)
def xX (t : TxD) : Int := 6 + 37 * (t.ins.length : Int) + 40 * (t.outs.length : Int) + (t.ins.map fun x => (x.key.length : Int)).sum
def vo (n : Int) : Int := (max n 0 * 100 + 999) / 1000
noncomputable def xT (S : List zy) (I : List zi) (L : List z7) (t : TxD) : Int :=
 if idH t ∈ xD L then 10 else if idH t ∈ I then 19 else
 if jM S L t ≠ 0 then jM S L t else if vl t (xm S L t) ≠ 0 then vl t (xm S L t) else
 if vB t (xm S L t) < vo (xX t) then 17 else if 6 ≤ (upS (gOf L) (xe L t)).length then 16 else 0
theorem zcS {S : List zy} {I : List zi} {L : List z7} {t : TxD} (h : xT S I L t = 0) :
  idH t ∉ xD L ∧ idH t ∉ I ∧ jM S L t = 0 ∧ vl t (xm S L t) = 0 ∧ vo (xX t) ≤ vB t (xm S L t) ∧ (upS (gOf L) (xe L t)).length < 6 := by
 unfold xT at h
 split at h; · cases h
 rename_i h1
 split at h; · cases h
 rename_i h2
 split at h
 ·rename_i h3; exact absurd h h3
 rename_i h3
 split at h
 ·rename_i h4; exact absurd h h4
 rename_i h4
 split at h; · cases h
 rename_i h5
 split at h; · cases h
 rename_i h6
 exact ⟨h1, h2, by omega, by omega, by omega, by omega⟩
theorem zcf {S : List zy} {I : List zi} {L : List z7} {t : TxD} (h1 : idH t ∉ xD L) (h2 : idH t ∉ I) (h3 : jM S L t = 0) (h4 : vl t (xm S L t) = 0) (h5 : vo (xX t) ≤ vB t (xm S L t)) (h6 : (upS (gOf L) (xe L t)).length < 6) : xT S I L t = 0 := by
 unfold xT
 rw [if_neg h1, if_neg h2, if_neg (by simp [h3]), if_neg (by simp [h4]), if_neg (by omega), if_neg (by omega)]
theorem za0 {S : List zy} {L : List z7} {t : TxD} : jM S L t = 0 ↔ (∀ q ∈ zS t, xw L q = false) ∧ ∀ q ∈ zS t, (xR S L q).isSome = true := by
 unfold jM
 by_cases h1 : (zS t).any (xw L) = true
 ·rw [if_pos h1]
  simp only [List.any_eq_true] at h1
  obtain ⟨q, hq, hs⟩ := h1
  constructor
  ·intro h; cases h
  ·rintro ⟨h, -⟩; rw [h q hq] at hs; cases hs
 ·rw [if_neg h1]
  simp only [List.any_eq_true, not_exists, not_and, Bool.not_eq_true] at h1
  by_cases h2 : (zS t).all (fun q => (xR S L q).isSome) = true
  ·rw [if_pos h2]
   simp only [List.all_eq_true] at h2
   exact ⟨fun _ => ⟨h1, h2⟩, fun _ => rfl⟩
  ·rw [if_neg h2]
   simp only [List.all_eq_true] at h2
   constructor
   ·intro h; cases h
   ·intro h; exact absurd h.2 h2
def mkE (S : List zy) (L : List z7) (t : TxD) (now : Int) : z7 := ⟨idH t, t, vB t (xm S L t), xX t, now, dedup (xe L t)⟩
def yT (L : List z7) (gone : List zi) : List z7 := L.filter fun e => decide (e.id ∉ gone)
theorem Jn {L : List z7} {gone : List zi} {e : z7} : e ∈ yT L gone ↔ e ∈ L ∧ e.id ∉ gone := by simp [yT]
theorem Yj (L : List z7) (gone : List zi) : xD (yT L gone) = (xD L).filter fun y => decide (y ∉ gone) := by
 unfold xD yT
 rw [List.filter_map]
 rfl
theorem zfp (L : List z7) (gone : List zi) : (yT L gone).length ≤ L.length := List.length_filter_le _ _
theorem J4 (L : List z7) : yT L [] = L := by unfold yT; rw [List.filter_eq_self]; simp
theorem zdM (L : List z7) (e : z7) (gone : List zi) : yT (L ++ [e]) gone = if e.id ∈ gone then yT L gone else yT L gone ++ [e] := by
 unfold yT
 rw [List.filter_append]
 by_cases h : e.id ∈ gone
 ·simp [h]
 ·simp [h]
theorem zbn : ∀ (L : List z7) (gone : List zi) (x : zi), Yh (yT L gone) x = if x ∈ gone then none else Yh L x
 | [], gone, x => by simp [Yh, yT]
 | e :: r, gone, x => by
  have ih := zbn r gone x
  unfold Yh yT at *
  by_cases h : e.id ∈ gone
  ·rw [List.filter_cons_of_neg (by simpa using h), ih]
   by_cases hx : x ∈ gone
   ·rw [if_pos hx, if_pos hx]
   ·rw [if_neg hx, if_neg hx, List.find?_cons_of_neg (by simp; rintro rfl; exact hx h)]
  ·rw [List.filter_cons_of_pos (by simpa using h)]
   by_cases hx : e.id = x
   ·rw [List.find?_cons_of_pos (by simpa using hx), List.find?_cons_of_pos (by simpa using hx), if_neg (by rw [← hx]; exact h)]
   ·rw [List.find?_cons_of_neg (by simpa using hx), List.find?_cons_of_neg (by simpa using hx), ih]
theorem zcw {L : List z7} {gone : List zi} {q : zF} (h : xw (yT L gone) q = true) : xw L q = true := by
 obtain ⟨e, he, hq⟩ := vp.1 h
 exact vp.2 ⟨e, (Jn.1 he).1, hq⟩
theorem Vu {L : List z7} {q : zF} {o : yF} (h : yQ L q = some o) : ∃ e ∈ L, e.id = q.tx ∧ e.tx.outs[q.n.toNat]? = some o := by
 unfold yQ at h
 cases he : Yh L q.tx with
 | none => rw [he] at h; cases h
 | some e =>
  rw [he] at h
  obtain ⟨h1, h2⟩ := zeH he
  exact ⟨e, h1, h2, h⟩
theorem zcb {L : List z7} {t : TxD} {x : zi} : x ∈ xe L t ↔ ∃ q ∈ zS t, (yQ L q).isSome = true ∧ q.tx = x := by
 unfold xe
 simp only [List.mem_map, List.mem_filter]
 exact ⟨fun ⟨q, ⟨h1, h2⟩, h3⟩ => ⟨q, h1, h2, h3⟩, fun ⟨q, h1, h2, h3⟩ => ⟨q, ⟨h1, h2⟩, h3⟩⟩
theorem J2 {L : List z7} {t : TxD} {x : zi} (h : x ∈ xe L t) : x ∈ xD L := by
 obtain ⟨q, -, hs, rfl⟩ := zcb.1 h
 obtain ⟨o, ho⟩ := Option.isSome_iff_exists.1 hs
 obtain ⟨e, he, hi, -⟩ := Vu ho
 rw [← hi]
 exact List.mem_map.2 ⟨e, he, rfl⟩
theorem zcL (L : List z7) (t : TxD) : (xe L t).length ≤ t.ins.length := by
 unfold xe
 rw [List.length_map]
 exact Nat.le_trans (List.length_filter_le _ _) (by simp [zS])
theorem VK {L : List z7} {gone : List zi} {t : TxD} (hp : ∀ p ∈ xe L t, p ∉ gone) : ∀ q ∈ zS t, yQ (yT L gone) q = yQ L q := by
 intro q hq
 unfold yQ
 rw [zbn]
 by_cases h : q.tx ∈ gone
 ·rw [if_pos h]
  cases hf : yQ L q with
  | none => unfold yQ at hf; rw [hf]; rfl
  | some o => exact absurd h (hp _ (zcb.2 ⟨q, hq, by rw [hf]; rfl, rfl⟩))
 ·rw [if_neg h]
section
variable {S : List zy} {I : List zi} {L : List z7} {gone : List zi} {t : TxD}
theorem zag (hp : ∀ p ∈ xe L t, p ∉ gone) : ∀ q ∈ zS t, xR S (yT L gone) q = xR S L q := fun q hq => by
 unfold xR
 rw [VK hp q hq]
theorem YT (hp : ∀ p ∈ xe L t, p ∉ gone) : xm S (yT L gone) t = xm S L t :=
 List.map_congr_left fun q hq => by rw [zag hp q hq]
theorem za3 (hp : ∀ p ∈ xe L t, p ∉ gone) : xe (yT L gone) t = xe L t := by
 unfold xe
 rw [List.filter_congr fun q hq => by rw [VK hp q hq]]
def Shut (L : List z7) (gone : List zi) : Prop := ∀ e ∈ L, e.id ∉ gone → ∀ p ∈ e.ps, p ∉ gone
theorem zc7 (h : Shut L gone) : Jz (gOf L) gone = gOf (yT L gone) := by
 unfold Jz gOf yT
 rw [List.filter_map, List.map_map]
 refine List.map_congr_left fun e he => ?_
 obtain ⟨h1, h2⟩ := Jn.1 (show e ∈ yT L gone from he)
 show (⟨e.id, e.ps.filter fun p => decide (p ∉ gone)⟩ : yE) = ⟨e.id, e.ps⟩
 rw [List.filter_eq_self.2 fun p hp => by simpa using h e h1 h2 p hp]
theorem zaH (ok : GOk (gOf L)) (h : Shut L gone) (l : List zi) : (upS (gOf (yT L gone)) l).length ≤ (upS (gOf L) l).length := by
 rw [← zc7 h]
 have ok' := zbA ok gone
 refine xM (ok'.nd.sublist (qJ l)) fun x hx => ?_
 obtain ⟨a, ha, hr⟩ := zbV.1 hx
 exact zbV.2 ⟨a, ha, zhz ok hr⟩
theorem Vw (ok : GOk (gOf L)) (hs : Shut L gone) (hp : ∀ p ∈ xe L t, p ∉ gone) (h : xT S I L t = 0) : xT S I (yT L gone) t = 0 := by
 obtain ⟨h1, h2, h3, h4, h5, h6⟩ := zcS h
 obtain ⟨h7, h8⟩ := za0.1 h3
 refine zcf (fun e => h1 ?_) h2 (za0.2 ⟨fun q hq => ?_, fun q hq => by rw [zag hp q hq]; exact h8 q hq⟩) (by rw [YT hp]; exact h4) (by rw [YT hp]; exact h5) (by rw [za3 hp]; have := zaH ok hs (xe L t); omega)
 ·rw [Yj] at e
  exact (List.mem_filter.1 e).1
 ·cases hc : xw (yT L gone) q with
  | false => rfl
  | true => exact absurd (h7 q hq) (by simp [zcw hc])
theorem zcE (hp : ∀ p ∈ xe L t, p ∉ gone) (now : Int) : mkE S (yT L gone) t now = mkE S L t now := by
 unfold mkE
 rw [YT hp, za3 hp]
end
inductive jg (S : List zy) (I : List zi) : List z7 → Prop
 | nil : jg S I []
 | snoc {A : List z7} {e : z7} : jg S I A → yt e.tx = 0 → xT S I A e.tx = 0 → e = mkE S A e.tx e.added → jg S I (A ++ [e])
section
variable {S : List zy} {I : List zi} {L : List z7}
theorem zb6 {S : List zy} {A : List z7} {e : z7} (h : e = mkE S A e.tx e.added) : e.id = idH e.tx ∧ e.ps = dedup (xe A e.tx) ∧ e.fee = vB e.tx (xm S A e.tx) ∧ e.size = xX e.tx :=
 ⟨congrArg z7.id h, congrArg z7.ps h, congrArg z7.fee h, congrArg z7.size h⟩
theorem jg.gok (h : jg S I L) : GOk (gOf L) := by
 induction h with
 | nil => exact ⟨by simp [gOf, ids], by simp [gOf], fun A n B e => by simp [gOf] at e⟩
 | @snoc A e hA hc hl he ih =>
  obtain ⟨e1, e2, -⟩ := zb6 he
  have : gOf (A ++ [e]) = Yz (gOf A) e.id (xe A e.tx) := by rw [zc4, e2]; rfl
  rw [this]
  exact zel ih (by rw [qv, e1]; exact (zcS hl).1) (fun p hp => by rw [qv]; exact J2 hp)
theorem jg.ent (h : jg S I L) : ∀ e ∈ L, yt e.tx = 0 ∧ e.id = idH e.tx ∧ e.id ∉ I ∧ e.size = xX e.tx ∧ vo (xX e.tx) ≤ e.fee := by
 induction h with
 | nil => simp
 | @snoc A e hA hc hl he ih =>
  intro x hx
  rcases List.mem_append.1 hx with hx | hx
  ·exact ih x hx
  ·obtain rfl := List.mem_singleton.1 hx
   obtain ⟨e1, e2, e3, e4⟩ := zb6 he
   obtain ⟨h1, h2, h3, h4, h5, h6⟩ := zcS hl
   exact ⟨hc, e1, by rw [e1]; exact h2, e4, by rw [e3]; exact h5⟩
theorem jg.apart (h : jg S I L) : L.Pairwise fun a b => ∀ q ∈ zS a.tx, q ∉ zS b.tx := by
 induction h with
 | nil => exact List.Pairwise.nil
 | @snoc A e hA hc hl he ih =>
  refine List.pairwise_append.2 ⟨ih, by simp, fun a ha b hb q hq hq' => ?_⟩
  obtain rfl := List.mem_singleton.1 hb
  have := (za0.1 (zcS hl).2.2.1).1 q hq'
  rw [vp.2 ⟨a, ha, hq⟩] at this
  cases this
theorem jg.drop {gone : List zi} (h : jg S I L) (hs : Shut L gone) : jg S I (yT L gone) := by
 induction h with
 | nil => exact .nil
 | @snoc A e hA hc hl he ih =>
  have hsA : Shut A gone := fun x hx => hs x (by simp [hx])
  rw [zdM]
  by_cases hg : e.id ∈ gone
  ·rw [if_pos hg]
   exact ih hsA
  ·rw [if_neg hg]
   obtain ⟨e1, e2, -⟩ := zb6 he
   have hp : ∀ p ∈ xe A e.tx, p ∉ gone := fun p hp => hs e (by simp) hg p (by rw [e2]; exact vT.2 hp)
   exact .snoc (ih hsA) hc (Vw hA.gok hsA hp hl) (by rw [zcE hp]; exact he)
theorem zbm (ok : GOk (gOf L)) (l : List zi) : Shut L (qm (gOf L) l) := fun e he hn p hp hd => by
 obtain ⟨a, ha, hr⟩ := JT.1 hd
 have hmem : e.id ∈ ids (gOf L) := by rw [qv]; exact List.mem_map.2 ⟨e, he, rfl⟩
 have hpar : p ∈ par (gOf L) e.id := by
  have := vY ok (n := ⟨e.id, e.ps⟩) (List.mem_map.2 ⟨e, he, rfl⟩)
  rw [this]
  exact hp
 exact hn (JT.2 ⟨a, ha, .step hmem hpar hr⟩)
theorem zdI {x : zi} {ps : List zi} (hx : x ∉ upS (gOf L) ps) : ∀ p ∈ ps, p ∉ qm (gOf L) [x] := fun p hp hd => by
 obtain ⟨a, ha, hr⟩ := JT.1 hd
 obtain rfl := List.mem_singleton.1 ha
 exact hx (zbV.2 ⟨p, hp, hr⟩)
end
def Y0 (a b : Int × Int) : Int := if a.1 * max b.2 1 < b.1 * max a.2 1 then -1 else if a.1 * max b.2 1 = b.1 * max a.2 1 then 0 else 1
def jV (l : List (Int × Int)) : Nat → Option Nat
 | 0 => none
 | n + 1 => match jV l n with
  | none => some n
  | some k => if Y0 (l[n]?.getD (0, 0)) (l[k]?.getD (0, 0)) < 0 then some n else some k
theorem XJ (l : List (Int × Int)) : ∀ (n k : Nat), jV l n = some k → k < n
 | 0, k, h => by simp [jV] at h
 | n + 1, k, h => by
  unfold jV at h
  cases hw : jV l n with
  | none => rw [hw] at h; simp at h; omega
  | some j =>
   have := XJ l n j hw
   rw [hw] at h
   simp only at h
   split at h <;> (simp at h; omega)
def wgt (e : z7) : Int × Int := (e.fee, e.size)
noncomputable def Zu (L : List z7) (ps : List zi) : List z7 := L.filter fun e => decide (e.id ∉ upS (gOf L) ps)
noncomputable def Zn (L : List z7) (ps : List zi) : Option z7 := (jV ((Zu L ps).map wgt) (Zu L ps).length).bind fun k => (Zu L ps)[k]?
noncomputable def vW (L : List z7) (w : Int × Int) (ps : List zi) : Int :=
 if L.length < 32 then 0 else match Zn L ps with
  | none => 18
  | some e => if Y0 (wgt e) w < 0 then 0 else 18
noncomputable def qC (L : List z7) (w : Int × Int) (ps : List zi) : List zi :=
 if L.length < 32 then [] else match Zn L ps with
  | none => []
  | some e => if Y0 (wgt e) w < 0 then qm (gOf L) [e.id] else []
theorem VA {L : List z7} {ps : List zi} {e : z7} (h : Zn L ps = some e) : e ∈ L ∧ e.id ∉ upS (gOf L) ps := by
 unfold Zn at h
 obtain ⟨k, -, hk⟩ := Option.bind_eq_some_iff.1 h
 have := List.mem_of_getElem? hk
 simpa [Zu] using this
theorem zbo {L : List z7} (ok : GOk (gOf L)) (w : Int × Int) (ps : List zi) : Shut L (qC L w ps) ∧ ∀ p ∈ ps, p ∉ qC L w ps := by
 unfold qC
 split
 ·exact ⟨fun e _ _ p _ => by simp, fun p _ => by simp⟩
 ·cases hw : Zn L ps with
  | none => exact ⟨fun e _ _ p _ => by simp, fun p _ => by simp⟩
  | some e =>
   simp only
   split
   ·exact ⟨zbm ok _, zdI (VA hw).2⟩
   ·exact ⟨fun e _ _ p _ => by simp, fun p _ => by simp⟩
theorem zgx {L : List z7} (ok : GOk (gOf L)) {w : Int × Int} {ps : List zi} (h : vW L w ps = 0) (hl : L.length ≤ 32) : (yT L (qC L w ps)).length < 32 := by
 unfold vW at h
 unfold qC
 split at h
 ·rename_i h1
  rw [if_pos h1, J4]
  exact h1
 ·rename_i h1
  rw [if_neg h1]
  cases hw : Zn L ps with
  | none => rw [hw] at h; cases h
  | some e =>
   rw [hw] at h
   simp only at h ⊢
   split at h
   ·rename_i h2
    rw [if_pos h2]
    obtain ⟨m1, m2⟩ := VA hw
    have hm : e.id ∈ ids (gOf L) := by rw [qv]; exact List.mem_map.2 ⟨e, m1, rfl⟩
    have hd : e.id ∈ qm (gOf L) [e.id] := JT.2 ⟨e.id, by simp, .refl hm⟩
    have : (yT L (qm (gOf L) [e.id])).length < L.length := by
     unfold yT
     refine List.length_filter_lt_length_iff_exists.2 ⟨e, m1, by simpa using hd⟩
    omega
   ·cases h
noncomputable def Jl (S : List zy) (I : List zi) (L : List z7) (t : TxD) : Int :=
 if yt t ≠ 0 then yt t else if xT S I L t ≠ 0 then xT S I L t else vW L (vB t (xm S L t), xX t) (xe L t)
noncomputable def Jy (S : List zy) (I : List zi) (L : List z7) (t : TxD) : List zi := if Jl S I L t = 0 then qC L (vB t (xm S L t), xX t) (xe L t) else []
noncomputable def JR (S : List zy) (I : List zi) (L : List z7) (t : TxD) (now : Int) : List z7 := if Jl S I L t = 0 then yT L (Jy S I L t) ++ [mkE S L t now] else L
theorem zj3 {S : List zy} {I : List zi} {L : List z7} {t : TxD} (h : Jl S I L t = 0) : yt t = 0 ∧ xT S I L t = 0 ∧ vW L (vB t (xm S L t), xX t) (xe L t) = 0 := by
 unfold Jl at h
 split at h
 ·rename_i h1; exact absurd h h1
 rename_i h1
 split at h
 ·rename_i h2; exact absurd h h2
 rename_i h2
 exact ⟨by omega, by omega, h⟩
section
variable {S : List zy} {I : List zi} {L : List z7}
theorem jg.acc (h : jg S I L) (t : TxD) (now : Int) : jg S I (JR S I L t now) := by
 unfold JR
 split
 ·rename_i h0
  obtain ⟨h1, h2, h3⟩ := zj3 h0
  have hg : Jy S I L t = qC L (vB t (xm S L t), xX t) (xe L t) := by unfold Jy; rw [if_pos h0]
  obtain ⟨s1, s2⟩ := zbo h.gok (vB t (xm S L t), xX t) (xe L t)
  rw [hg]
  refine .snoc (h.drop s1) h1 (Vw h.gok s1 s2 h2) ?_
  show mkE S L t now = mkE S (yT L _) t now
  rw [zcE s2]
 ·exact h
theorem zd5 (h : jg S I L) (hl : L.length ≤ 32) (t : TxD) (now : Int) : (JR S I L t now).length ≤ 32 := by
 unfold JR
 split
 ·rename_i h0
  obtain ⟨h1, h2, h3⟩ := zj3 h0
  have hg : Jy S I L t = qC L (vB t (xm S L t), xX t) (xe L t) := by unfold Jy; rw [if_pos h0]
  have := zgx h.gok h3 hl
  rw [hg, List.length_append, List.length_singleton]
  omega
 ·exact hl
theorem zf0 {e : z7} (hl : L.length < 32) (hc : yt e.tx = 0) (h0 : xT S I L e.tx = 0) (he : e = mkE S L e.tx e.added) : Jl S I L e.tx = 0 ∧ Jy S I L e.tx = [] ∧ JR S I L e.tx e.added = L ++ [e] := by
 have hr : vW L (vB e.tx (xm S L e.tx), xX e.tx) (xe L e.tx) = 0 := by unfold vW; rw [if_pos hl]
 have h1 : Jl S I L e.tx = 0 := by unfold Jl; rw [if_neg (by simp [hc]), if_neg (by simp [h0])]; exact hr
 have h2 : Jy S I L e.tx = [] := by unfold Jy qC; rw [if_pos h1, if_pos hl]
 refine ⟨h1, h2, ?_⟩
 unfold JR
 rw [if_pos h1, h2, J4, ← he]
end
noncomputable def zhu (S : List zy) (I : List zi) (L : List z7) (l : List TxD) (now : Int) : List z7 := l.foldl (fun A t => JR S I A t now) L
section
variable {S : List zy} {I : List zi} {L : List z7}
theorem jg.first : ∀ (l : List TxD) {L : List z7} (now : Int), jg S I L → L.length ≤ 32 → jg S I (zhu S I L l now) ∧ (zhu S I L l now).length ≤ 32
 | [], L, now, h, hl => ⟨h, hl⟩
 | t :: l, L, now, h, hl => jg.first l now (h.acc t now) (zd5 h hl t now)
end
end Go.Proofs.YtdkkjchclkjleaaGreatDoor

/- pool: a pool in memory. -/
namespace Go.Proofs.YtdkkjchclkjleaaGreatDoor
open Go Go.RowKit Go.Maps Go.MapKept
theorem Yy : Tryz.prog.underlying 133 = some (.map 41 129) := by kernel_rfl
theorem XA : Tryz.prog.underlying 134 = some (.map 95 41) := by kernel_rfl
section
variable {P : Program} {w w' : World} {o : Oper} {ev : Operand → Value} {t : TypeId} {x : Operand} {xv v : Value} {f : Nat}
theorem vS (ho : o.op = .field t x f) (hx : ev x = xv) (hr : (Instr.field t xv f).run P w = .ok v w') : (execOp ev o).run P w = .ok (.value v) w' := by
 simp only [execOp, ho, hx, Sem.run_bind, hr, Result.andThen_ok, Sem.run_pure]
end
theorem ziU (v : Int) (ia oa : Option Addr) (il ic ol oc : Nat) (f s a : Int) (w : World) : (Instr.field 129 (.agg #[.int .u32 v, .slice ia il ic, .slice oa ol oc, .int .u64 f, .int .i64 s, .int .u64 a]) 0).run Tryz.prog w = .ok (.agg #[.int .u32 v, .slice ia il ic, .slice oa ol oc]) w := by kernel_rfl
theorem ziS (v : Int) (ia oa : Option Addr) (il ic ol oc : Nat) (f s a : Int) (w : World) : (Instr.field 129 (.agg #[.int .u32 v, .slice ia il ic, .slice oa ol oc, .int .u64 f, .int .i64 s, .int .u64 a]) 1).run Tryz.prog w = .ok (.agg #[.int .u64 f, .int .i64 s]) w := by kernel_rfl
theorem zjM (v : Int) (ia oa : Option Addr) (il ic ol oc : Nat) (w : World) : (Instr.field 34 (.agg #[.int .u32 v, .slice ia il ic, .slice oa ol oc]) 2).run Tryz.prog w = .ok (.slice oa ol oc) w := by kernel_rfl
def Y1 (cs : List Value) : Value := .agg cs.toArray
def zjZ (tcs : List Value) (e : z7) : List Value := tcs ++ [.int .u64 e.fee, .int .i64 e.size, .int .u64 e.added]
def qu : List Value := [.int .u32 0, .slice none 0 0, .slice none 0 0, .int .u64 0, .int .i64 0, .int .u64 0]
theorem Xh (w : World) : (zeroValue 129).run Tryz.prog w = .ok (Y1 qu) w := by kernel_rfl
theorem zej : ∃ d, Tryz.prog.underlying 129 = some d ∧ d.isRow = true := jf (by kernel_rfl)
theorem xJ : (Tryz.prog.info? 129).map (·.size) = some 6 := by kernel_rfl
def zfj (w : World) (e : z7) (cs : List Value) : Prop := ∃ tcs, cs = zjZ tcs e ∧ TxQ w e.tx tcs
theorem zfj.form {w : World} {e : z7} {cs : List Value} (h : zfj w e cs) : ∃ ia ic oa oc, cs = [.int .u32 e.tx.ver, .slice ia e.tx.ins.length ic, .slice oa e.tx.outs.length oc, .int .u64 e.fee, .int .i64 e.size, .int .u64 e.added] := by
 obtain ⟨t, rfl, h2⟩ := h
 obtain ⟨ia, ic, oa, oc, rfl⟩ := h2.form
 exact ⟨ia, ic, oa, oc, rfl⟩
abbrev qA (w : World) (m : Nat) (M : List (zi × List Value)) : Prop := yl Tryz.prog 41 yW Y1 w m M
abbrev Qf (w : World) (m : Nat) (M : List (zF × zi)) : Prop := yl Tryz.prog 95 jW yW w m M
def poV (p ma ms : Nat) (VG : Nat → Prop) : Nat → Prop := fun j => j = p ∨ j = ma ∨ j = ms ∨ VG j
structure yf (w0 w : World) (p ma ms g : Nat) (VG X : Nat → Prop) (C : zi → List Value) (L : List z7) (N : Nat) : Prop where
 obj : w.heap[p]? = some (.cells #[.map (some ma), .map (some ms), .pointer (some ⟨g, 0, none⟩)] 137 (0, 0))
 gr : GC w0 w g VG (gOf L) N
 am : ∃ M, qA w ma M ∧ ∀ x cs, (x, cs) ∈ M ↔ ∃ e ∈ L, e.id = x ∧ cs = C x
 sm : ∃ M, Qf w ms M ∧ ∀ q x, (q, x) ∈ M ↔ ∃ e ∈ L, q ∈ zS e.tx ∧ e.id = x
 data : ∀ e ∈ L, Kept X w (fun w => zfj w e (C e.id))
 apart : p ≠ ma ∧ p ≠ ms ∧ ma ≠ ms ∧ ¬ VG p ∧ ¬ VG ma ∧ ¬ VG ms
 lo3 : w0.heap.size ≤ p ∧ w0.heap.size ≤ ma ∧ w0.heap.size ≤ ms
 sub : ∀ j, poV p ma ms VG j → X j
section
variable {w0 w w' : World} {p ma ms g N : Nat} {VG X : Nat → Prop} {C : zi → List Value} {L : List z7}
theorem yf.fr (h : yf w0 w p ma ms g VG X C L N) : Fr No w0 w := h.gr.fr
theorem yf.lo (h : yf w0 w p ma ms g VG X C L N) : ∀ j, poV p ma ms VG j → w0.heap.size ≤ j := by
 obtain ⟨l1, l2, l3⟩ := h.lo3
 rintro j (rfl | rfl | rfl | hj)
 ·exact l1
 ·exact l2
 ·exact l3
 ·exact h.gr.lo j hj
theorem yf.hi (h : yf w0 w p ma ms g VG X C L N) : ∀ j, poV p ma ms VG j → j < w.heap.size := by
 obtain ⟨M, hM, -⟩ := h.am
 obtain ⟨M', hM', -⟩ := h.sm
 rintro j (rfl | rfl | rfl | hj)
 ·exact xf h.obj
 ·exact hM.lt
 ·exact hM'.lt
 ·exact h.gr.hi j hj
theorem yf.frV (h : yf w0 w p ma ms g VG X C L N) {U X' : Nat → Prop} (f : Fr U w w') (hU : ∀ j, poV p ma ms VG j → ¬ U j) (h0 : ∀ j, U j → w0.heap.size ≤ j) (hUX : ∀ j, U j → X j) (hX : ∀ j, j < w.heap.size → X' j → X j) (hs : ∀ j, poV p ma ms VG j → X' j) : yf w0 w' p ma ms g VG X' C L N := by
 obtain ⟨M, hM, hm⟩ := h.am
 obtain ⟨M', hM', hm'⟩ := h.sm
 exact { h with
  obj := f.obj h.obj (hU _ (.inl rfl))
  gr := h.gr.frV f (fun j hj => hU j (.inr (.inr (.inr hj)))) h0
  am := ⟨M, hM.keep f (hU _ (.inr (.inl rfl))), hm⟩
  sm := ⟨M', hM'.keep f (hU _ (.inr (.inr (.inl rfl)))), hm'⟩
  data := fun e he => (h.data e he).step (f.mono hUX) hX
  sub := hs }
theorem yf.fr0 (h : yf w0 w p ma ms g VG X C L N) (f : Fr No w w') : yf w0 w' p ma ms g VG X C L N :=
 h.frV f (fun _ _ => id) (fun _ h => h.elim) (fun _ h => h.elim) (fun _ _ h => h) h.sub
theorem yf.base {wb : World} (h : yf w0 w p ma ms g VG X C L N) (f : Fr No wb w0) : yf wb w p ma ms g VG X C L N :=
 {h with
  gr := h.gr.base f
  lo3 := ⟨Nat.le_trans f.size h.lo3.1, Nat.le_trans f.size h.lo3.2.1, Nat.le_trans f.size h.lo3.2.2⟩ }
theorem yf.mono (h : yf w0 w p ma ms g VG X C L N) {N' : Nat} (hN : N ≤ N') : yf w0 w p ma ms g VG X C L N' := { h with gr := h.gr.mono hN }
theorem yf.cells (h : yf w0 w p ma ms g VG X C L N) : w.cell? ⟨p, 0, none⟩ = some (.map (some ma)) ∧ w.cell? ⟨p, 1, none⟩ = some (.map (some ms)) ∧ w.cell? ⟨p, 2, none⟩ = some (.pointer (some ⟨g, 0, none⟩)) := by
 have := ya h.obj
 exact ⟨by simpa using this 0 _ rfl, by simpa using this 1 _ rfl, by simpa using this 2 _ rfl⟩
theorem yf.ids (h : yf w0 w p ma ms g VG X C L N) : ∀ x ∈ xD L, zQ x := fun x hx => h.gr.okId x (by rw [qv]; exact hx)
theorem yf.nd (h : yf w0 w p ma ms g VG X C L N) : (xD L).Nodup := by rw [← qv]; exact h.gr.gok.nd
theorem yf.len (h : yf w0 w p ma ms g VG X C L N) : L.length ≤ N := by have := h.gr.len; simpa [gOf] using this
def ZY (C : zi → List Value) (L : List z7) (x : zi) : List Value := if x ∈ xD L then C x else qu
theorem Vv {x : zi} (hx : zQ x) {M : List (zi × List Value)} (hM : qA w ma M) (hm : ∀ x cs, (x, cs) ∈ M ↔ ∃ e ∈ L, e.id = x ∧ cs = C x) (c : Bool) :
  (Instr.lookup 133 (.map (some ma)) (.agg (zj x).toArray) c).run Tryz.prog w = .ok (if c then .tuple #[.agg (ZY C L x).toArray, .bool (decide (x ∈ xD L))] else .agg (ZY C L x).toArray) w := by
 have h := hM.look xy.keyed Yy (fun _ _ => yS) Xh (yd hx) c (r := if x ∈ xD L then some (C x) else none) (fun v => by
  rw [hm]
  by_cases h : x ∈ xD L
  ·rw [if_pos h]
   obtain ⟨e, he, hi⟩ := List.mem_map.1 h
   exact ⟨fun e' => ⟨e, he, hi, (Option.some.inj e').symm⟩, fun ⟨_, _, _, h3⟩ => by rw [h3]⟩
  ·rw [if_neg h]
   exact ⟨fun e' => (by cases e'), fun ⟨e, he, hi, _⟩ => absurd (List.mem_map.2 ⟨e, he, hi⟩) h⟩)
 unfold yW at h
 rw [h]
 unfold ZY
 by_cases hh : x ∈ xD L <;> simp [hh, Y1]
theorem Yp {x : zi} (hx : zQ x) {M : List (zi × List Value)} (hM : qA w ma M) (hm : ∀ x cs, (x, cs) ∈ M ↔ ∃ e ∈ L, e.id = x ∧ cs = C x) {cs : List Value} (hc : ZY C L x = cs) :
  (Instr.lookup 133 (.map (some ma)) (.agg (zj x).toArray) false).run Tryz.prog w = .ok (.agg cs.toArray) w := by
 have := Vv hx hM hm false
 rw [hc] at this
 simpa using this
def zfE (L : List z7) (q : zF) : zi := ((L.find? fun e => decide (q ∈ zS e.tx)).map (·.id)).getD yN
theorem ziu {L : List z7} (hk : ∀ x ∈ xD L, zQ x) (q : zF) : zQ (zfE L q) := by
 unfold zfE
 cases hf : L.find? fun e => decide (q ∈ zS e.tx) with
 | none => exact xQ
 | some e => exact hk _ (List.mem_map.2 ⟨e, List.mem_of_find?_eq_some hf, rfl⟩)
theorem zhJ {q : zF} (hq : q.ok) {M : List (zF × zi)} (hM : Qf w ms M) (hm : ∀ q x, (q, x) ∈ M ↔ ∃ e ∈ L, q ∈ zS e.tx ∧ e.id = x) :
  (Instr.lookup 134 (.map (some ms)) (.agg (zB q).toArray) true).run Tryz.prog w = .ok (.tuple #[.agg (zj (zfE L q)).toArray, .bool (xw L q)]) w := by
 cases hf : L.find? fun e => decide (q ∈ zS e.tx) with
 | some e =>
  have he := List.mem_of_find?_eq_some hf
  have hqe : q ∈ zS e.tx := by simpa using List.find?_some hf
  have hin : (q, e.id) ∈ M := (hm q e.id).2 ⟨e, he, hqe, rfl⟩
  have h := hM.look JK.keyed XA (fun _ _ => vO) y6 (qI hq) true (r := some e.id) (fun v => ⟨fun e' => by rw [← Option.some.inj e']; exact hin, fun h' => by rw [hM.uniq hin h']⟩)
  have hs : xw L q = true := vp.2 ⟨e, he, hqe⟩
  unfold jW at h
  rw [h, hs]
  unfold zfE
  rw [hf]
  rfl
 | none =>
  have hno : xw L q = false := by
   cases hc : xw L q with
   | false => rfl
   | true =>
    obtain ⟨e, he, hqe⟩ := vp.1 hc
    have := List.find?_eq_none.1 hf e he
    simp [hqe] at this
  have h := hM.look JK.keyed XA (fun _ _ => vO) y6 (qI hq) true (r := none) (fun v => ⟨fun e' => (by cases e'), fun h' => by
   obtain ⟨e, he, hqe, _⟩ := (hm q v).1 h'
   rw [vp.2 ⟨e, he, hqe⟩] at hno
   cases hno⟩)
  unfold jW at h
  rw [h, hno]
  unfold zfE
  rw [hf]
  rfl
end
end Go.Proofs.YtdkkjchclkjleaaGreatDoor
