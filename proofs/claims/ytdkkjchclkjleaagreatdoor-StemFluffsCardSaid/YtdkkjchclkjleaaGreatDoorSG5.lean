/- A region whose order of evaluation is open, walked once in the order of the text, where the last operation waits for all others: behind it nothing is asked of the world. -/
import Derived.Test.YtdkkjchclkjleaaGreatDoorSG2
set_option linter.unusedVariables false
set_option linter.unusedSimpArgs false
set_option linter.unnecessarySimpa false
set_option linter.all false
namespace Go
section
variable {P : Program} {ops : Array Oper} {S : World → Prop}
def Y2 (P : Program) (ops : Array Oper) (Q : Exit → Act → World → Prop) (S : World → Prop) (m : Nat) : Nat → Array Bool → Act → World → Prop
 | 0, listed, a, w => Region.ready .any ops listed = [] ∧ Q .normal a w
 | fuel + 1, listed, a, w =>
  (Region.ready .any ops listed = [] → Q .normal a w) ∧
  ∀ i ∈ Region.ready .any ops listed, wpOp P ops Q i (fun a' w' => ((listed.setIfInBounds i true).getD m false = false → S w') ∧ Y2 P ops Q S m fuel (listed.setIfInBounds i true) a' w') a w
theorem V7 {Q : Exit → Act → World → Prop} {m : Nat} : ∀ (fuel : Nat) (listed : Array Bool) (a : Act) (w : World), Y2 P ops Q S m fuel listed a w → wpAny P .any ops Q fuel listed a w
 | 0, _, _, _, h => h
 | fuel + 1, _, _, _, h => ⟨h.1, fun i hi => wpOp_mono (fun a' w' h' => V7 fuel _ a' w' h'.2) (h.2 i hi)⟩
def zcj (ops : Array Oper) (m : Nat) : Bool := (List.range ops.size).all fun i => i == m || YN ops ops.size m i
theorem zaq {m : Nat} (h : zcj ops m = true) {listed : Array Bool} (hc : JL ops listed) (hsz : listed.size = ops.size) (hw : ∀ k, Region.waitsFor .any ops m k = true → listed.getD k false = true) {i : Nat} (hi : i < ops.size) (hne : i ≠ m) : listed.getD i true = true := by
 have h1 := List.all_eq_true.1 h i (List.mem_range.2 hi)
 simp only [Bool.or_eq_true, beq_iff_eq] at h1
 have h2 := jG hc _ m i (h1.resolve_left hne) hw
 have : i < listed.size := by rw [hsz]; exact hi
 simp [this] at h2 ⊢
 exact h2
theorem zdh {listed : Array Bool} {m : Nat} (h : m ∈ Region.ready .any ops listed) : ∀ k, Region.waitsFor .any ops m k = true → listed.getD k false = true := fun k hk => by
 obtain ⟨_, o, ho, hall⟩ := mem_ready.1 h
 obtain ⟨o', ho', e, he, hb, hon⟩ := Region.waitsFor_spec hk
 rw [ho] at ho'
 cases ho'
 exact hon ▸ hall e he hb
theorem zbQ {Q : Exit → Act → World → Prop} {m : Nat} (hsink : zcj ops m = true) {i : Nat} {oi : Oper} {v : Value} (hi : ops[i]? = some oi) (him : i ≠ m) (hsel : ∀ (j : Nat) (o : Oper) cs b, ops[j]? = some o → o.op ≠ .select cs b)
  (hQ : ∀ c a w, Q (.panic c) (a.put oi.dst v) w → Q (.panic c) a w) :
  ∀ (fuel : Nat) (listed : Array Bool) (a : Act) (w : World), listed.size = ops.size → JL ops listed →
   (∀ j oj, ops[j]? = some oj → j ≠ i → listed.getD j true = false → (∀ e ∈ oj.after, Region.binds .any e = true → e.on ≠ i) → oi.apart ops oj = true) →
   i ∈ Region.ready .any ops listed → YieldsIf P ops S oi v a → S w →
   Y2 P ops Q S m fuel (listed.setIfInBounds i true) (a.put oi.dst v) w → Y2 P ops Q S m (fuel + 1) listed a w := by
 intro fuel
 induction fuel with
 | zero =>
  intro listed a w hsz hc _ hr hy hS H
  refine ⟨fun h => (by rw [h] at hr; cases hr), fun j hj => ?_⟩
  by_cases hji : j = i
  ·subst hji; exact hy.wpOp hi hS ⟨fun _ => hS, H⟩
  ·have := ready_mono hj hji
   rw [H.1] at this
   cases this
 | succ fuel ih =>
  intro listed a w hsz hc hfree hr hy hS H
  refine ⟨fun h => (by rw [h] at hr; cases hr), fun j hj => ?_⟩
  by_cases hji : j = i
  ·subst hji; exact hy.wpOp hi hS ⟨fun _ => hS, H⟩
  ·have h1 := H.2 j (ready_mono hj hji)
   obtain ⟨hjun, oj, hoj, hall⟩ := mem_ready.1 hj
   have hiun := (mem_ready.1 hr).1
   have hil : i < ops.size := (Array.getElem?_eq_some_iff.1 hi).1
   have hjm : j ≠ m := fun e => by
    subst e
    have := zaq hsink hc hsz (zdh hj) hil him
    rw [hiun] at this
    cases this
   have hnot : ∀ e ∈ oj.after, Region.binds .any e = true → e.on ≠ i := fun e he hb heq => by
    have h1 := hall e he hb
    rw [heq] at h1
    have h' : i < listed.size := by rw [hsz]; exact hil
    simp [h'] at hiun h1
    rw [hiun] at h1
    cases h1
   have h2 := wpOp_putIf hoj (hfree j oj hoj hji hjun hnot) (fun cs b => hsel i oi cs b hi) (fun cs b => hsel j oj cs b hoj) hQ hy h1
   have hfree' : ∀ k ok, ops[k]? = some ok → k ≠ i → (listed.setIfInBounds j true).getD k true = false →
     (∀ e ∈ ok.after, Region.binds .any e = true → e.on ≠ i) → oi.apart ops ok = true := fun k ok hk hki hun hno => by
    refine hfree k ok hk hki ?_ hno
    by_cases hjk : j = k
    ·subst hjk; exact hjun
    ·rw [getD_set_ne true hjk] at hun; exact hun
   have hmi : i ∈ Region.ready .any ops (listed.setIfInBounds j true) := ready_mono hr (Ne.symm hji)
   have hm0 : ((listed.setIfInBounds i true).setIfInBounds j true).getD m false = false := by
    rw [getD_set_ne false hjm, getD_set_ne false him]
    cases hml : listed.getD m false with
    | false => rfl
    | true =>
     have hmw : ∀ k, Region.waitsFor .any ops m k = true → listed.getD k false = true := fun k hk => by
      obtain ⟨om, hom, e, he, hb, hon⟩ := Region.waitsFor_spec hk
      exact hon ▸ hc m om hom hml e he hb
     have := zaq hsink hc hsz hmw hil him
     rw [hiun] at this
     cases this
   refine wpOp_mono (fun a' w' h3 => ⟨fun _ => h3.2.1 hm0, ih (listed.setIfInBounds j true) a' w' (by simp [hsz]) (hc.set hj) hfree' hmi h3.1 (h3.2.1 hm0) ?_⟩) h2
   rw [Array.setIfInBounds_comm _ _ hji]
   exact h3.2.2
def ZP (P : Program) (ops : Array Oper) (eff : List Nat) (S : World → Prop) (Q : Act → World → Prop) : List Nat → Act → World → Prop
 | [], a, w => Q a w
 | i :: rest, a, w => ∃ o, ops[i]? = some o ∧
   (if eff.contains i = true ∧ Region.wanted o (yielded ops a.tmps) = true then o.wp P a w (fun a' w' => (rest ≠ [] → S w') ∧ ZP P ops eff S Q rest a' w') NoQ
    else ∃ v, YieldsIf P ops S o v a ∧ ZP P ops eff S Q rest (a.put o.dst v) w)
theorem zfw (hsel : ∀ (j : Nat) (o : Oper) cs b, ops[j]? = some o → o.op ≠ .select cs b) (hap : J6 ops = true) {eff : List Nat} {Q : Act → World → Prop} {j : Nat} {oj : Oper} (hj : ops[j]? = some oj) :
  ∀ (L : List Nat) (a : Act) (w : World), S w → j ∈ L → L.Nodup → (∀ i ∈ L, Region.waitsFor .any ops j i = false) → (∀ i ∈ L, i < j → Region.waitsFor .any ops i j = false) →
   (∀ i ∈ L, i ≠ j → i < j ∨ True) → L.Pairwise (· < ·) → (eff.contains j = false ∨ Region.wanted oj (yielded ops a.tmps) = false) →
   ZP P ops eff S Q L a w → ∃ v, YieldsIf P ops S oj v a ∧ ZP P ops eff S Q (L.erase j) (a.put oj.dst v) w := by
 intro L
 induction L with
 | nil => intro a w _ hm; cases hm
 | cons h L ih =>
  intro a w hS hm hnd hw1 hw2 _ hpw hkind H
  obtain ⟨oh, hoh, H⟩ := H
  by_cases hhj : h = j
  ·subst hhj
   rw [hj] at hoh
   cases hoh
   rw [if_neg (by rintro ⟨e1, e2⟩; rcases hkind with e | e <;> simp_all)] at H
   obtain ⟨v, hy, hr⟩ := H
   exact ⟨v, hy, by simpa using hr⟩
  ·have hmL : j ∈ L := by
    rcases List.mem_cons.1 hm with e | e
    ·exact absurd e.symm hhj
    ·exact e
   have hlt : h < j := (List.pairwise_cons.1 hpw).1 j hmL
   have hwjh : Region.waitsFor .any ops j h = false := hw1 h (by simp)
   have hwhj : Region.waitsFor .any ops h j = false := hw2 h (by simp) hlt
   have aj : oj.apart ops oh = true := qp hap hj hoh (fun e => hhj e.symm) hwhj hwjh
   have ah : oh.apart ops oj = true := qp hap hoh hj hhj hwjh hwhj
   obtain ⟨p1, p2, p3⟩ := Oper.apart_spec aj
   have hsj := fun cs b => hsel j oj cs b hj
   have hsh := fun cs b => hsel h oh cs b hoh
   have back : ∀ {a' : Act} {v : Value}, Yb ops oh.dst a a' → YieldsIf P ops S oj v a' → YieldsIf P ops S oj v a := fun {a' v} hr hy =>
    let ⟨r1, r2⟩ := hr oj hsj p3
    hy.of_same r1.symm r2.symm
   have ih' : ∀ (a' : Act) (w' : World), S w' → Yb ops oh.dst a a' → ZP P ops eff S Q L a' w' → ∃ v, YieldsIf P ops S oj v a' ∧ ZP P ops eff S Q (L.erase j) (a'.put oj.dst v) w' := fun a' w' hS' hr hl =>
    ih a' w' hS' hmL (List.nodup_cons.1 hnd).2 (fun i hi => hw1 i (by simp [hi])) (fun i hi => hw2 i (by simp [hi])) (fun _ _ _ => .inr trivial) (List.pairwise_cons.1 hpw).2 (hkind.imp id (fun e => (hr oj hsj p3).2.trans e)) hl
   have her : (h :: L).erase j = h :: L.erase j := by rw [List.erase_cons_tail]; simpa using hhj
   rw [her]
   split at H
   ·rename_i hc
    have H2 := zd3 (ops := ops) H
    have hLne : L ≠ [] := List.ne_nil_of_mem hmL
    obtain ⟨a0, w0, ⟨⟨hS00, hl0⟩, hr0⟩⟩ := zb9 H2
    have hS0 := hS00 hLne
    obtain ⟨v, hy0, _⟩ := ih' a0 w0 hS0 hr0 hl0
    have hy := back hr0 hy0
    refine ⟨v, hy, oh, hoh, ?_⟩
    rw [if_pos ⟨hc.1, by rw [wanted_put oh a oj.dst v p1]; exact hc.2⟩]
    refine zea aj hsh (Oper.wp_mono (fun a' w' ⟨⟨hS'', hl'⟩, hr'⟩ => ?_) H2)
    have hS' := hS'' hLne
    obtain ⟨v', hy', hl''⟩ := ih' a' w' hS' hr' hl'
    have : v' = v := YieldsIf.uniq hS (back hr' hy') hy
    subst this
    exact ⟨fun _ => hS', hl''⟩
   ·rename_i hc
    obtain ⟨vh, hyh, hl⟩ := H
    obtain ⟨v, hy', hl'⟩ := ih' _ w hS (Yb.put a oh.dst vh) hl
    have hy := back (Yb.put a oh.dst vh) hy'
    refine ⟨v, hy, oh, hoh, ?_⟩
    rw [if_neg (by rw [wanted_put oh a oj.dst v p1]; exact hc)]
    obtain ⟨r1, r2⟩ := Yb.put (ops := ops) a oj.dst v oh hsh p1
    exact ⟨vh, hyh.of_same r1 r2, by rw [← Act.put_comm a vh v (Oper.apart_spec ah).2.1]; exact hl'⟩
theorem zdU {eff : List Nat} {m : Nat} (hok : Qi ops eff = true) (hsink : zcj ops m = true) (hm : m + 1 = ops.size) {Q : Exit → Act → World → Prop} (hQ : ∀ c a d v w, Q (.panic c) (Act.put a d v) w → Q (.panic c) a w) :
  ∀ (n : Nat) (listed : Array Bool) (a : Act) (w : World), listed.size = ops.size → JL ops listed → (unl ops listed).length = n → (listed.getD m false = false → S w) →
   ZP P ops eff S (Q .normal) (unl ops listed) a w → Y2 P ops Q S m n listed a w := by
 simp only [Qi, Bool.and_eq_true] at hok
 obtain ⟨⟨⟨⟨hns, hap⟩, hord⟩, hin⟩, heff⟩ := hok
 have hsel := Region.noSelect_spec hns
 have hlow : ∀ i j, i < ops.size → Region.waitsFor .any ops i j = true → j < i := fun i j hi hw => by
  obtain ⟨oi, hoi, e, he, hb, hon⟩ := Region.waitsFor_spec hw
  have h2 := List.all_eq_true.1 hin i (List.mem_range.2 hi)
  rw [hoi] at h2
  have h3 := Array.all_eq_true'.1 h2 e he
  simp only [hb, Bool.not_true, Bool.false_or, decide_eq_true_eq] at h3
  have h4 := List.all_eq_true.1 (List.all_eq_true.1 hord i (List.mem_range.2 hi)) j (List.mem_range.2 (hon ▸ h3))
  simpa [hw] using h4
 intro n
 induction n with
 | zero =>
  intro listed a w hsz hc hlen hS H
  have hnil : unl ops listed = [] := List.eq_nil_of_length_eq_zero hlen
  rw [hnil] at H
  refine ⟨?_, H⟩
  by_cases hr : Region.ready .any ops listed = []
  ·exact hr
  ·obtain ⟨j, hj⟩ := List.exists_mem_of_ne_nil _ hr
   obtain ⟨h0, o, ho, _⟩ := mem_ready.1 hj
   have : j ∈ unl ops listed := List.mem_filter.2 ⟨List.mem_range.2 (Array.getElem?_eq_some_iff.1 ho).1, by rw [h0]; rfl⟩
   rw [hnil] at this
   cases this
 | succ n ih =>
  intro listed a w hsz hc hlen hS1 H
  have memU : ∀ {j}, j ∈ unl ops listed ↔ j < ops.size ∧ listed.getD j true = false := fun {j} => by
   unfold unl
   rw [List.mem_filter, List.mem_range]
   simp
  have rdy : ∀ {j}, j ∈ Region.ready .any ops listed → j ∈ unl ops listed := fun {j} hj => by
   obtain ⟨h0, o, ho, _⟩ := mem_ready.1 hj
   exact memU.2 ⟨(Array.getElem?_eq_some_iff.1 ho).1, h0⟩
  have next : ∀ j, j ∈ Region.ready .any ops listed → ∀ a' w', ((listed.setIfInBounds j true).getD m false = false → S w') → ZP P ops eff S (Q .normal) ((unl ops listed).erase j) a' w' → Y2 P ops Q S m n (listed.setIfInBounds j true) a' w' := fun j hj a' w' hS' hl => by
   refine ih _ a' w' (by simp [hsz]) (hc.set hj) ?_ hS' (by rw [Yn hsz]; exact hl)
   rw [Yn hsz, List.length_erase_of_mem (rdy hj), hlen]
   rfl
  obtain ⟨i, L, hiL⟩ : ∃ i L, unl ops listed = i :: L := by
   cases hu : unl ops listed with
   | nil => rw [hu] at hlen; cases hlen
   | cons i L => exact ⟨i, L, rfl⟩
  have hpw := zbI (ops := ops) listed
  have hmun : listed.getD m false = false := by
   cases hml : listed.getD m false with
   | false => rfl
   | true =>
    have hmw : ∀ k, Region.waitsFor .any ops m k = true → listed.getD k false = true := fun k hk => by
     obtain ⟨om, hom, e, he, hb, hon⟩ := Region.waitsFor_spec hk
     exact hon ▸ hc m om hom hml e he hb
    have hiu : i ∈ unl ops listed := by rw [hiL]; simp
    have h5 := memU.1 hiu
    by_cases him : i = m
    ·subst him
     have h6 := h5.2
     have : i < listed.size := by rw [hsz]; exact h5.1
     simp [this] at h6 hml
     rw [h6] at hml
     cases hml
    ·have := zaq hsink hc hsz hmw h5.1 him
     rw [h5.2] at this
     cases this
  have hS := hS1 hmun
  have hmU : m ∈ unl ops listed := memU.2 ⟨by omega, by
   have : m < listed.size := by rw [hsz]; omega
   simp [this] at hmun ⊢
   exact hmun⟩
  have hiU : i ∈ unl ops listed := by rw [hiL]; simp
  have hi := memU.1 hiU
  have hmin : ∀ k, k ∈ unl ops listed → i ≤ k := fun k hk => by
   rw [hiL] at hk hpw
   rcases List.mem_cons.1 hk with rfl | hk
   ·exact Nat.le_refl _
   ·exact Nat.le_of_lt ((List.pairwise_cons.1 hpw).1 k hk)
  have listedLow : ∀ k, k < i → listed.getD k false = true := fun k hk => by
   cases hl : listed.getD k true with
   | false => exact absurd (hmin k (memU.2 ⟨Nat.lt_trans hk hi.1, hl⟩)) (by omega)
   | true =>
    have : k < listed.size := by rw [hsz]; exact Nat.lt_trans hk hi.1
    simp [this] at hl ⊢
    exact hl
  rw [hiL] at H
  obtain ⟨oi, hoi, H⟩ := H
  have hir : i ∈ Region.ready .any ops listed := mem_ready.2 ⟨hi.2, oi, hoi, fun e he hb =>
   listedLow _ (hlow i e.on hi.1 (by
    unfold Region.waitsFor
    rw [hoi]
    exact Array.any_eq_true'.2 ⟨e, he, by simp [hb]⟩))⟩
  have hne : Region.ready .any ops listed ≠ [] := fun h0 => by rw [h0] at hir; cases hir
  have her : (unl ops listed).erase i = L := by rw [hiL]; simp
  have waitsReady : ∀ j, j ∈ Region.ready .any ops listed → ∀ k, k ∈ unl ops listed → Region.waitsFor .any ops j k = false := fun j hj k hk => by
   obtain ⟨_, oj, hoj, hall⟩ := mem_ready.1 hj
   refine qD hoj fun e he hb hek => ?_
   have h1 := hall e he hb
   rw [hek] at h1
   have h2 := (memU.1 hk).2
   have hk' : k < listed.size := by rw [hsz]; exact (memU.1 hk).1
   simp [hk'] at h1 h2
   rw [h1] at h2
   cases h2
  split at H
  ·rename_i hcond
   refine ⟨fun h0 => absurd h0 hne, fun j hj => ?_⟩
   by_cases hji : j = i
   ·subst hji
    unfold wpOp
    rw [hoi]
    simp only [hcond.2, if_true]
    refine .inl ?_
    have hKS : ∀ w', (L ≠ [] → S w') → ((listed.setIfInBounds j true).getD m false = false → S w') := fun w' h0 h1 => h0 (fun e => by
     rw [hiL, e] at hmU
     simp at hmU
     subst hmU
     have : m < listed.size := by rw [hsz]; omega
     simp [this] at h1)
    have H' := Oper.wp_mono (K' := fun a' w' => ((listed.setIfInBounds j true).getD m false = false → S w') ∧ Y2 P ops Q S m n (listed.setIfInBounds j true) a' w') (fun a' w' ⟨hS', hl⟩ => ⟨hKS w' hS', next j hj a' w' (hKS w' hS') (by rw [her]; exact hl)⟩) H
    unfold Oper.wp at H' ⊢
    generalize (execOp a.eval oi).run P w = r at *
    cases r with
    | ok m w' =>
     cases m <;> simp only [Oper.upon] at H' ⊢ <;> first
      | exact H'
      | exact Calls.mono H' (fun e w'' he => by
        cases e with
        | returned u => exact he
        | panicked c => exact he.elim
        | outgrown => obtain ⟨_, _, hf⟩ := he; exact hf.elim)
    | halt x w' => cases x <;> simp only [Oper.upon] at H' ⊢ <;> exact H'.elim
   ·-- a read that may come up
    obtain ⟨_, oj, hoj, hall⟩ := mem_ready.1 hj
    have hjU := rdy hj
    have hnotE : eff.contains j = false := by
     cases hcj : eff.contains j with
     | false => rfl
     | true =>
      have h1 := List.all_eq_true.1 heff j (by simpa using hcj)
      have h2 := List.all_eq_true.1 h1 i (by simpa using hcond.1)
      have hle := hmin j hjU
      simp only [Bool.or_eq_true, decide_eq_true_eq] at h2
      have h3 : YN ops ops.size j i = true := by rcases h2 with h2 | h2 <;> first | omega | exact h2
      have h4 := jG hc _ j i h3 (fun k hk => by
       obtain ⟨oj', hoj', e, he, hb, hon⟩ := Region.waitsFor_spec hk
       rw [hoj] at hoj'
       cases hoj'
       exact hon ▸ hall e he hb)
      have hk' : i < listed.size := by rw [hsz]; exact hi.1
      have h5 := hi.2
      simp [hk'] at h4 h5
      rw [h4] at h5
      cases h5
    have Hfull : ZP P ops eff S (Q .normal) (unl ops listed) a w := by
     rw [hiL]
     exact ⟨oi, hoi, by rw [if_pos hcond]; exact H⟩
    obtain ⟨v, hy, hl⟩ := zfw hsel hap hoj (unl ops listed) a w hS hjU (hpw.imp (fun h => Nat.ne_of_lt h)) (fun k hk => waitsReady j hj k hk)
     (fun k hk hkj => by
      cases hwk : Region.waitsFor .any ops k j with
      | false => rfl
      | true => have := hlow k j (memU.1 hk).1 hwk; omega)
     (fun _ _ _ => .inr trivial) hpw (.inl hnotE) Hfull
    exact hy.wpOp hoj hS ⟨fun _ => hS, next j hj _ _ (fun _ => hS) hl⟩
  ·rename_i hcond
   obtain ⟨v, hy, hl⟩ := H
   by_cases him : i = m
   ·subst him
    have hL : L = [] := by
     cases L with
     | nil => rfl
     | cons x L' =>
      have hx : x ∈ unl ops listed := by rw [hiL]; simp
      have h7 := (memU.1 hx).1
      rw [hiL] at hpw
      have := (List.pairwise_cons.1 hpw).1 x (by simp)
      omega
    refine ⟨fun h0 => absurd h0 hne, fun j hj => ?_⟩
    have hjU := rdy hj
    rw [hiL, hL] at hjU
    simp at hjU
    subst hjU
    exact hy.wpOp hoi hS ⟨fun _ => hS, next j hj _ _ (fun _ => hS) (by rw [her]; exact hl)⟩
   ·refine zbQ hsink hoi him hsel (fun c a w => hQ c a oi.dst v w) n listed a w hsz hc (fun j oj hoj hji hun hno => ?_) hir hy hS (next i hir _ _ (fun _ => hS) (by rw [her]; exact hl))
    have hjU := memU.2 ⟨(Array.getElem?_eq_some_iff.1 hoj).1, hun⟩
    exact qp hap hoi hoj (fun e => hji e.symm) (qD hoj hno) (waitsReady i hir j hjU)
theorem QB {id : Nat} {a : Act} {w : World} {Q : Exit → Act → World → Prop} (eff : List Nat) (S : World → Prop) (hm : P.follows .mixedOrders = true) (hok : Qi ops eff = true) (m : Nat) (hsink : zcj ops m = true) (hm1 : m + 1 = ops.size)
  (hS : S w.drew) (L : List Nat) (hL : List.range ops.size = L)
  (h : ∀ K : Act → World → Prop, Shut (∀ a w, Q .normal a w → K a w) → ZP P ops eff S K L a w.drew) : (Code.region id ops true).wp P Q a w := by
 refine wp_region_noPanic (wp_region_any hm (V7 (S := S) (m := m) _ _ _ _ ?_))
 have hu : unl ops (Array.replicate ops.size false) = List.range ops.size := by
  unfold unl
  rw [List.filter_eq_self]
  intro i hi
  have := List.mem_range.1 hi
  simp [this]
 refine zdU hok hsink hm1 (fun _ _ _ _ _ h => h) _ _ a _ (by simp) (fun j oj hj hl => ?_) (by rw [hu]; simp) (fun _ => hS) (by rw [hu, hL]; exact h _ (fun _ _ h => h))
 by_cases hjs : j < ops.size
 ·simp [hjs] at hl
 ·simp [hjs] at hl
def qt (P : Program) (ops : Array Oper) (S : World → Prop) (Q : Act → World → Prop) : List Bool → List Oper → Act → World → Prop
 | _, [], a, w => Q a w
 | es, o :: rest, a, w =>
   if es.headD false = true ∧ Region.wanted o (yielded ops a.tmps) = true then o.wp P a w (fun a' w' => (rest ≠ [] → S w') ∧ qt P ops S Q es.tail rest a' w') NoQ
    else ∃ v, YieldsIf P ops S o v a ∧ qt P ops S Q es.tail rest (a.put o.dst v) w
theorem Jw {es : List Bool} {K : Act → World → Prop} : ∀ (l : List Oper) (i : Nat) (a : Act) (w : World), (∀ k o, l[k]? = some o → ops[i + k]? = some o) →
  qt P ops S K (es.drop i) l a w → ZP P ops (Qe es) S K (List.range' i l.length) a w
 | [], i, a, w, _, h => h
 | o :: rest, i, a, w, ho, h => by
  have h0 : ops[i]? = some o := ho 0 o rfl
  have hrest : ∀ k o', rest[k]? = some o' → ops[i + 1 + k]? = some o' := fun k o' hk => by
   have := ho (k + 1) o' (by simpa using hk)
   rwa [show i + 1 + k = i + (k + 1) by omega]
  have hd : (es.drop i).headD false = es.getD i false := by simp [List.getD, List.headD_eq_head?_getD]
  have ht : (es.drop i).tail = es.drop (i + 1) := by simp [List.tail_drop]
  rw [qt, hd, ht] at h
  rw [List.length_cons, List.range'_succ]
  refine ⟨o, h0, ?_⟩
  rw [ZF]
  split at h
  ·rename_i hc
   rw [if_pos hc]
   exact Oper.wp_mono (fun a' w' ⟨hS, hl⟩ => ⟨fun hne => hS (fun e => hne (by rw [e]; rfl)), Jw rest (i + 1) a' w' hrest hl⟩) h
  ·rename_i hc
   rw [if_neg hc]
   obtain ⟨v, hy, hl⟩ := h
   exact ⟨v, hy, Jw rest (i + 1) _ w hrest hl⟩
theorem yJ {id : Nat} {a : Act} {w : World} {Q : Exit → Act → World → Prop} {l : List Oper} (es : List Bool) (S : World → Prop) (hm : P.follows .mixedOrders = true) (hok : Qi l.toArray (Qe es) = true) (m : Nat) (hsink : zcj l.toArray m = true) (hm1 : m + 1 = l.toArray.size)
  (hS : S w.drew)
  (h : ∀ K : Act → World → Prop, Shut (∀ a w, Q .normal a w → K a w) → qt P l.toArray S K es l a w.drew) : (Code.region id l.toArray true).wp P Q a w := by
 refine QB (Qe es) S hm hok m hsink hm1 hS _ rfl (fun K hK => ?_)
 have := Jw (P := P) (ops := l.toArray) (S := S) (es := es) (K := K) l 0 a w.drew (fun k o hk => by simpa using hk) (by simpa using h K hK)
 simpa [List.range_eq_range'] using this
theorem qy {es : List Bool} {K : Act → World → Prop} {a : Act} {w : World} (h : K a w) : qt P ops S K es [] a w := h
theorem V3 {es : List Bool} {K : Act → World → Prop} {a : Act} {w : World} {o : Oper} {rest : List Oper}
  (hw : Region.wanted o (yielded ops a.tmps) = true) (h : ∃ v, (∀ w, S w → (execOp a.eval o).run P w = .ok (.value v) w) ∧ qt P ops S K es rest (a.put o.dst v) w) : qt P ops S K (false :: es) (o :: rest) a w := by
 obtain ⟨v, hy, h⟩ := h
 rw [qt, if_neg (by simp)]
 exact ⟨v, .inl ⟨hw, hy⟩, h⟩
theorem Vx {e : Bool} {es : List Bool} {K : Act → World → Prop} {a : Act} {w : World} {o : Oper} {rest : List Oper}
  (hw : Region.wanted o (yielded ops a.tmps) = false) (h : qt P ops S K es rest (a.put o.dst undef) w) : qt P ops S K (e :: es) (o :: rest) a w := by
 rw [qt, if_neg (by rw [hw]; simp)]
 exact ⟨undef, .inr ⟨hw, rfl⟩, h⟩
theorem zbc {es : List Bool} {K : Act → World → Prop} {a : Act} {w : World} {o : Oper} {rest : List Oper}
  (hw : Region.wanted o (yielded ops a.tmps) = true) (h : ∀ K', Shut (∀ a' w', (rest ≠ [] → S w') → ((rest ≠ [] → S w') → qt P ops S K es rest a' w') → K' a' w') → o.wp P a w K' NoQ) : qt P ops S K (true :: es) (o :: rest) a w := by
 rw [qt, if_pos ⟨rfl, hw⟩]
 exact h _ (fun _ _ h1 h2 => ⟨h1, h2 h1⟩)
section
variable {es : List Bool} {K : Act → World → Prop} {a : Act} {w : World} {rest : List Oper} {dst : Option Tmp} {op : Op} {ty : TypeId} {pos : String} {after : Array Edge} {j : Nat} {b : Bool}
theorem yG (h : ∃ v, (∀ w, S w → (execOp a.eval { dst := dst, op := op, type := ty, pos := pos, after := after, guard := none }).run P w = .ok (.value v) w) ∧ qt P ops S K es rest (a.put dst v) w) :
  qt P ops S K (false :: es) ({ dst := dst, op := op, type := ty, pos := pos, after := after, guard := none } :: rest) a w := V3 rfl h
theorem yp (hg : yielded ops a.tmps j = some b) (h : ∃ v, (∀ w, S w → (execOp a.eval { dst := dst, op := op, type := ty, pos := pos, after := after, guard := some (j, b) }).run P w = .ok (.value v) w) ∧ qt P ops S K es rest (a.put dst v) w) :
  qt P ops S K (false :: es) ({ dst := dst, op := op, type := ty, pos := pos, after := after, guard := some (j, b) } :: rest) a w := V3 (by simp [Region.wanted, hg]) h
theorem zX {e c : Bool} (hg : yielded ops a.tmps j = some c) (hc : c = !b) (h : qt P ops S K es rest (a.put dst undef) w) :
  qt P ops S K (e :: es) ({ dst := dst, op := op, type := ty, pos := pos, after := after, guard := some (j, b) } :: rest) a w := Vx (by subst hc; simp [Region.wanted, hg]) h
theorem yq {e : Bool} (hg : yielded ops a.tmps j = none) (h : qt P ops S K es rest (a.put dst undef) w) :
  qt P ops S K (e :: es) ({ dst := dst, op := op, type := ty, pos := pos, after := after, guard := some (j, b) } :: rest) a w := Vx (by simp [Region.wanted, hg]) h
theorem yK (h : ∀ K', Shut (∀ a' w', (rest ≠ [] → S w') → ((rest ≠ [] → S w') → qt P ops S K es rest a' w') → K' a' w') → Oper.wp P { dst := dst, op := op, type := ty, pos := pos, after := after, guard := none } a w K' NoQ) :
  qt P ops S K (true :: es) ({ dst := dst, op := op, type := ty, pos := pos, after := after, guard := none } :: rest) a w := zbc rfl h
theorem yx (hg : yielded ops a.tmps j = some b) (h : ∀ K', Shut (∀ a' w', (rest ≠ [] → S w') → ((rest ≠ [] → S w') → qt P ops S K es rest a' w') → K' a' w') → Oper.wp P { dst := dst, op := op, type := ty, pos := pos, after := after, guard := some (j, b) } a w K' NoQ) :
  qt P ops S K (true :: es) ({ dst := dst, op := op, type := ty, pos := pos, after := after, guard := some (j, b) } :: rest) a w := zbc (by simp [Region.wanted, hg]) h
end
end
attribute [irreducible] qt
end Go
