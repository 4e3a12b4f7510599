/- A region whose order of evaluation is open, walked once, in the order of the text: reads are shown in every world that meets a condition S; the operations that change the world wait for each other. -/
import Derived.OrdersHeld
import Derived.StillTail
import Derived.WalkKit
import Derived.Deep.RegionHeld3
set_option linter.unusedVariables false
set_option linter.unusedSimpArgs false
set_option linter.unnecessarySimpa false
set_option linter.all false
namespace Go
section
variable {P : Program} {ops : Array Oper} {S : World → Prop}
def NoQ : Exit → Act → World → Prop := fun _ _ _ => False
def Yb (ops : Array Oper) (dst : Option Tmp) (a a' : Act) : Prop :=
 ∀ o : Oper, (∀ cs b, o.op ≠ .select cs b) → (∀ d, dst = some d → d ∉ o.looksAt ops) →
  execOp a'.eval o = execOp a.eval o ∧ Region.wanted o (yielded ops a'.tmps) = Region.wanted o (yielded ops a.tmps)
theorem Yb.put (a : Act) (dst : Option Tmp) (v : Value) : Yb ops dst a (a.put dst v) :=
 fun o hs h => ⟨execOp_put o hs a dst v h, wanted_put o a dst v h⟩
theorem zd3 {o : Oper} {a : Act} {w : World} {K : Act → World → Prop} (h : o.wp P a w K NoQ) :
  o.wp P a w (fun a' w' => K a' w' ∧ Yb ops o.dst a a') NoQ := by
 unfold Oper.wp at *
 generalize (execOp a.eval o).run P w = r at *
 cases r with
 | ok n w' =>
  cases n <;> simp only [Oper.upon] at h ⊢
  case value u => exact ⟨h, Yb.put _ _ _⟩
  case skip => exact ⟨h, Yb.put _ _ _⟩
  case defer d => exact ⟨h, fun o' hs hh => by exact ⟨(execOp_put o' hs _ o.dst undef hh).trans rfl, (wanted_put o' _ o.dst undef hh).trans rfl⟩⟩
  case enter f args =>
   refine Calls.mono h fun e w'' he => ?_
   cases e with
   | returned u => exact ⟨he, Yb.put _ _ _⟩
   | panicked c => exact he
   | outgrown => exact he
  case row row args => exact Rows.mono h fun u w'' he => ⟨he, Yb.put _ _ _⟩
 | halt x w' => cases x <;> simp only [Oper.upon] at h ⊢ <;> exact h
theorem zb9 {o : Oper} {a : Act} {w : World} {K : Act → World → Prop} (h : o.wp P a w K NoQ) : ∃ a' w', K a' w' := by
 unfold Oper.wp at *
 generalize (execOp a.eval o).run P w = r at *
 cases r with
 | ok n w' =>
  cases n <;> simp only [Oper.upon] at h
  case value u => exact ⟨_, _, h⟩
  case skip => exact ⟨_, _, h⟩
  case defer d => exact ⟨_, _, h⟩
  case enter f args =>
   obtain ⟨e, w'', fr, hr, _⟩ := h []
   cases e with
   | returned u => exact ⟨_, _, hr⟩
   | panicked c => exact hr.elim
   | outgrown => obtain ⟨_, _, hf⟩ := hr; exact hf.elim
  case row row args =>
   obtain ⟨v, w'', hr, _⟩ := h default []
   exact ⟨_, _, hr⟩
 | halt x w' => cases x <;> simp only [Oper.upon] at h <;> exact h.elim
theorem zea {oi oj : Oper} {v : Value} (hap : oi.apart ops oj = true) (hsj : ∀ cs b, oj.op ≠ .select cs b) {a : Act} {w : World} {K : Act → World → Prop}
  (h : oj.wp P a w (fun a' w' => K (a'.put oi.dst v) w') NoQ) : oj.wp P (a.put oi.dst v) w K NoQ := by
 obtain ⟨h1, h2, h3⟩ := Oper.apart_spec hap
 unfold Oper.wp at *
 rw [execOp_put oj hsj a oi.dst v h1]
 generalize (execOp a.eval oj).run P w = r at *
 cases r with
 | ok n w' =>
  cases n <;> simp only [Oper.upon] at h ⊢
  case value u => rw [Act.put_comm a v u h2]; exact h
  case skip => rw [Act.put_comm a v undef h2]; exact h
  case defer d => rw [Act.put_defers, Act.put_comm _ v undef h2]; exact h
  case enter f args =>
   refine Calls.mono h fun e w'' he => ?_
   cases e with
   | returned u => simp only []; rw [Act.put_comm a v u h2]; exact he
   | panicked c => exact he
   | outgrown => exact he
  case row row args => exact Rows.mono h fun u w'' he => by rw [Act.put_comm a v u h2]; exact he
 | halt x w' => cases x <;> simp only [Oper.upon] at h ⊢ <;> exact h
def zab (P : Program) (ops : Array Oper) (eff : List Nat) (S : World → Prop) (Q : Act → World → Prop) : List Nat → Act → World → Prop
 | [], a, w => Q a w
 | i :: rest, a, w => ∃ o, ops[i]? = some o ∧
   (if eff.contains i = true ∧ Region.wanted o (yielded ops a.tmps) = true then o.wp P a w (fun a' w' => S w' ∧ zab P ops eff S Q rest a' w') NoQ
    else ∃ v, YieldsIf P ops S o v a ∧ zab P ops eff S Q rest (a.put o.dst v) w)
theorem YieldsIf.uniq {o : Oper} {v v' : Value} {a : Act} {w : World} (hS : S w) (h : YieldsIf P ops S o v a) (h' : YieldsIf P ops S o v' a) : v = v' := by
 rcases h with ⟨h1, h2⟩ | ⟨h1, h2⟩ <;> rcases h' with ⟨h3, h4⟩ | ⟨h3, h4⟩
 ·have e := (h2 w hS).symm.trans (h4 w hS)
  injection e with e1 e2
  injection e1
 ·rw [h1] at h3; cases h3
 ·rw [h1] at h3; cases h3
 ·rw [h2, h4]
def J6 (ops : Array Oper) : Bool :=
 (List.range ops.size).all fun i => (List.range ops.size).all fun j => i == j || Region.waitsFor .any ops j i || Region.waitsFor .any ops i j ||
  (match ops[i]?, ops[j]? with | some oi, some oj => oi.apart ops oj | _, _ => true)
theorem qp (h : J6 ops = true) {i j : Nat} {oi oj : Oper} (hi : ops[i]? = some oi) (hj : ops[j]? = some oj) (hne : i ≠ j)
  (h1 : Region.waitsFor .any ops j i = false) (h2 : Region.waitsFor .any ops i j = false) : oi.apart ops oj = true := by
 unfold J6 at h
 have a1 := List.all_eq_true.1 h i (List.mem_range.2 (Array.getElem?_eq_some_iff.1 hi).1)
 have a2 := List.all_eq_true.1 a1 j (List.mem_range.2 (Array.getElem?_eq_some_iff.1 hj).1)
 simpa [hne, h1, h2, hi, hj] using a2
theorem qD {i j : Nat} {oj : Oper} (hj : ops[j]? = some oj) (h : ∀ e ∈ oj.after, Region.binds .any e = true → e.on ≠ i) : Region.waitsFor .any ops j i = false := by
 unfold Region.waitsFor
 rw [hj]
 simp only []
 rw [Array.any_eq_false']
 intro e he
 simp only [Bool.and_eq_true, beq_iff_eq, not_and]
 exact h e he
theorem zhv (hsel : ∀ (j : Nat) (o : Oper) cs b, ops[j]? = some o → o.op ≠ .select cs b) (hap : J6 ops = true) {eff : List Nat} {Q : Act → World → Prop} {j : Nat} {oj : Oper} (hj : ops[j]? = some oj) :
  ∀ (L : List Nat) (a : Act) (w : World), S w → j ∈ L → L.Nodup → (∀ i ∈ L, Region.waitsFor .any ops j i = false) → (∀ i ∈ L, i < j → Region.waitsFor .any ops i j = false) →
   (∀ i ∈ L, i ≠ j → i < j ∨ True) → L.Pairwise (· < ·) → (eff.contains j = false ∨ Region.wanted oj (yielded ops a.tmps) = false) →
   zab P ops eff S Q L a w → ∃ v, YieldsIf P ops S oj v a ∧ zab P ops eff S Q (L.erase j) (a.put oj.dst v) w := by
 intro L
 induction L with
 | nil => intro a w _ hm; cases hm
 | cons h L ih =>
  intro a w hS hm hnd hw1 hw2 _ hpw hkind H
  obtain ⟨oh, hoh, H⟩ := H
  by_cases hhj : h = j
  ·subst hhj
   rw [hj] at hoh
   cases hoh
   rw [if_neg (by rintro ⟨e1, e2⟩; rcases hkind with e | e <;> simp_all)] at H
   obtain ⟨v, hy, hr⟩ := H
   exact ⟨v, hy, by simpa using hr⟩
  ·have hmL : j ∈ L := by
    rcases List.mem_cons.1 hm with e | e
    ·exact absurd e.symm hhj
    ·exact e
   have hlt : h < j := (List.pairwise_cons.1 hpw).1 j hmL
   have hwjh : Region.waitsFor .any ops j h = false := hw1 h (by simp)
   have hwhj : Region.waitsFor .any ops h j = false := hw2 h (by simp) hlt
   have aj : oj.apart ops oh = true := qp hap hj hoh (fun e => hhj e.symm) hwhj hwjh
   have ah : oh.apart ops oj = true := qp hap hoh hj hhj hwjh hwhj
   obtain ⟨p1, p2, p3⟩ := Oper.apart_spec aj
   have hsj := fun cs b => hsel j oj cs b hj
   have hsh := fun cs b => hsel h oh cs b hoh
   have back : ∀ {a' : Act} {v : Value}, Yb ops oh.dst a a' → YieldsIf P ops S oj v a' → YieldsIf P ops S oj v a := fun {a' v} hr hy =>
    let ⟨r1, r2⟩ := hr oj hsj p3
    hy.of_same r1.symm r2.symm
   have ih' : ∀ (a' : Act) (w' : World), S w' → Yb ops oh.dst a a' → zab P ops eff S Q L a' w' → ∃ v, YieldsIf P ops S oj v a' ∧ zab P ops eff S Q (L.erase j) (a'.put oj.dst v) w' := fun a' w' hS' hr hl =>
    ih a' w' hS' hmL (List.nodup_cons.1 hnd).2 (fun i hi => hw1 i (by simp [hi])) (fun i hi => hw2 i (by simp [hi])) (fun _ _ _ => .inr trivial) (List.pairwise_cons.1 hpw).2 (hkind.imp id (fun e => (hr oj hsj p3).2.trans e)) hl
   have her : (h :: L).erase j = h :: L.erase j := by rw [List.erase_cons_tail]; simpa using hhj
   rw [her]
   split at H
   ·rename_i hc
    have H2 := zd3 (ops := ops) H
    obtain ⟨a0, w0, ⟨⟨hS0, hl0⟩, hr0⟩⟩ := zb9 H2
    obtain ⟨v, hy0, _⟩ := ih' a0 w0 hS0 hr0 hl0
    have hy := back hr0 hy0
    refine ⟨v, hy, oh, hoh, ?_⟩
    rw [if_pos ⟨hc.1, by rw [wanted_put oh a oj.dst v p1]; exact hc.2⟩]
    refine zea aj hsh (Oper.wp_mono (fun a' w' ⟨⟨hS', hl'⟩, hr'⟩ => ?_) H2)
    obtain ⟨v', hy', hl''⟩ := ih' a' w' hS' hr' hl'
    have : v' = v := YieldsIf.uniq hS (back hr' hy') hy
    subst this
    exact ⟨hS', hl''⟩
   ·rename_i hc
    obtain ⟨vh, hyh, hl⟩ := H
    obtain ⟨v, hy', hl'⟩ := ih' _ w hS (Yb.put a oh.dst vh) hl
    have hy := back (Yb.put a oh.dst vh) hy'
    refine ⟨v, hy, oh, hoh, ?_⟩
    rw [if_neg (by rw [wanted_put oh a oj.dst v p1]; exact hc)]
    obtain ⟨r1, r2⟩ := Yb.put (ops := ops) a oj.dst v oh hsh p1
    exact ⟨vh, hyh.of_same r1 r2, by rw [← Act.put_comm a vh v (Oper.apart_spec ah).2.1]; exact hl'⟩
def YN (ops : Array Oper) : Nat → Nat → Nat → Bool
 | 0, _, _ => false
 | f + 1, j, i => (List.range ops.size).any fun k => Region.waitsFor .any ops j k && (k == i || YN ops f k i)
def JL (ops : Array Oper) (listed : Array Bool) : Prop :=
 ∀ j oj, ops[j]? = some oj → listed.getD j false = true → ∀ e ∈ oj.after, Region.binds .any e = true → listed.getD e.on false = true
theorem jG {listed : Array Bool} (hc : JL ops listed) : ∀ (f j i : Nat), YN ops f j i = true →
  (∀ k, Region.waitsFor .any ops j k = true → listed.getD k false = true) → listed.getD i false = true
 | 0, _, _, h, _ => by cases h
 | f + 1, j, i, h, hd => by
  unfold YN at h
  obtain ⟨k, _, hk⟩ := List.any_eq_true.1 h
  simp only [Bool.and_eq_true, Bool.or_eq_true, beq_iff_eq] at hk
  have hkl := hd k hk.1
  rcases hk.2 with e | e
  ·exact e ▸ hkl
  ·refine jG hc f k i e fun m hm => ?_
   obtain ⟨ok, hok, e', he', hb, hon⟩ := Region.waitsFor_spec hm
   exact hon ▸ hc k ok hok hkl e' he' hb
def Qi (ops : Array Oper) (eff : List Nat) : Bool :=
 Region.noSelect ops && J6 ops &&
 ((List.range ops.size).all fun i => (List.range ops.size).all fun j => decide (j < i) || !Region.waitsFor .any ops i j) &&
 ((List.range ops.size).all fun j => (ops[j]?).any fun o => o.after.all fun e => !Region.binds .any e || decide (e.on < ops.size)) &&
 (eff.all fun j => eff.all fun i => decide (j ≤ i) || YN ops ops.size j i)
def unl (ops : Array Oper) (listed : Array Bool) : List Nat := (List.range ops.size).filter fun i => !listed.getD i true
theorem zbI (listed : Array Bool) : (unl ops listed).Pairwise (· < ·) := List.Pairwise.filter _ List.pairwise_lt_range
theorem Yn {listed : Array Bool} {j : Nat} (hsz : listed.size = ops.size) : unl ops (listed.setIfInBounds j true) = (unl ops listed).erase j := by
 have hnd : (unl ops listed).Nodup := (zbI listed).imp (fun h => Nat.ne_of_lt h)
 rw [hnd.erase_eq_filter]
 unfold unl
 rw [List.filter_filter]
 apply List.filter_congr
 intro i hi
 have hi' := List.mem_range.1 hi
 by_cases hij : i = j
 ·subst hij
  simp [hsz, hi']
 ·rw [getD_set_ne true (fun e => hij e.symm)]
  simp [hij]
theorem JL.set {listed : Array Bool} {j : Nat} (hc : JL ops listed) (hj : j ∈ Region.ready .any ops listed) : JL ops (listed.setIfInBounds j true) := by
 obtain ⟨_, oj, hoj, hall⟩ := mem_ready.1 hj
 intro k ok hk hl e he hb
 by_cases hkj : j = k
 ·subst hkj
  rw [hoj] at hk
  cases hk
  exact getD_set_true (hall e he hb)
 ·rw [getD_set_ne false hkj] at hl
  exact getD_set_true (hc k ok hk hl e he hb)
theorem zfo {eff : List Nat} (hok : Qi ops eff = true) {Q : Exit → Act → World → Prop} (hQ : ∀ c a d v w, Q (.panic c) (Act.put a d v) w → Q (.panic c) a w) :
  ∀ (n : Nat) (listed : Array Bool) (a : Act) (w : World), listed.size = ops.size → JL ops listed → (unl ops listed).length = n → S w →
   zab P ops eff S (Q .normal) (unl ops listed) a w → wpAnyH P .any ops Q S n listed a w := by
 simp only [Qi, Bool.and_eq_true] at hok
 obtain ⟨⟨⟨⟨hns, hap⟩, hord⟩, hin⟩, heff⟩ := hok
 have hsel := Region.noSelect_spec hns
 have hlow : ∀ i j, i < ops.size → Region.waitsFor .any ops i j = true → j < i := fun i j hi hw => by
  obtain ⟨oi, hoi, e, he, hb, hon⟩ := Region.waitsFor_spec hw
  have h2 := List.all_eq_true.1 hin i (List.mem_range.2 hi)
  rw [hoi] at h2
  have h3 := Array.all_eq_true'.1 h2 e he
  simp only [hb, Bool.not_true, Bool.false_or, decide_eq_true_eq] at h3
  have h4 := List.all_eq_true.1 (List.all_eq_true.1 hord i (List.mem_range.2 hi)) j (List.mem_range.2 (hon ▸ h3))
  simpa [hw] using h4
 intro n
 induction n with
 | zero =>
  intro listed a w hsz hc hlen hS H
  have hnil : unl ops listed = [] := List.eq_nil_of_length_eq_zero hlen
  rw [hnil] at H
  refine ⟨?_, H⟩
  by_cases hr : Region.ready .any ops listed = []
  ·exact hr
  ·obtain ⟨j, hj⟩ := List.exists_mem_of_ne_nil _ hr
   obtain ⟨h0, o, ho, _⟩ := mem_ready.1 hj
   have : j ∈ unl ops listed := List.mem_filter.2 ⟨List.mem_range.2 (Array.getElem?_eq_some_iff.1 ho).1, by rw [h0]; rfl⟩
   rw [hnil] at this
   cases this
 | succ n ih =>
  intro listed a w hsz hc hlen hS H
  have memU : ∀ {j}, j ∈ unl ops listed ↔ j < ops.size ∧ listed.getD j true = false := fun {j} => by
   unfold unl
   rw [List.mem_filter, List.mem_range]
   simp
  have rdy : ∀ {j}, j ∈ Region.ready .any ops listed → j ∈ unl ops listed := fun {j} hj => by
   obtain ⟨h0, o, ho, _⟩ := mem_ready.1 hj
   exact memU.2 ⟨(Array.getElem?_eq_some_iff.1 ho).1, h0⟩
  have next : ∀ j, j ∈ Region.ready .any ops listed → ∀ a' w', S w' → zab P ops eff S (Q .normal) ((unl ops listed).erase j) a' w' → wpAnyH P .any ops Q S n (listed.setIfInBounds j true) a' w' := fun j hj a' w' hS' hl => by
   refine ih _ a' w' (by simp [hsz]) (hc.set hj) ?_ hS' (by rw [Yn hsz]; exact hl)
   rw [Yn hsz, List.length_erase_of_mem (rdy hj), hlen]
   rfl
  obtain ⟨i, L, hiL⟩ : ∃ i L, unl ops listed = i :: L := by
   cases hu : unl ops listed with
   | nil => rw [hu] at hlen; cases hlen
   | cons i L => exact ⟨i, L, rfl⟩
  have hpw := zbI (ops := ops) listed
  have hiU : i ∈ unl ops listed := by rw [hiL]; simp
  have hi := memU.1 hiU
  have hmin : ∀ k, k ∈ unl ops listed → i ≤ k := fun k hk => by
   rw [hiL] at hk hpw
   rcases List.mem_cons.1 hk with rfl | hk
   ·exact Nat.le_refl _
   ·exact Nat.le_of_lt ((List.pairwise_cons.1 hpw).1 k hk)
  have listedLow : ∀ k, k < i → listed.getD k false = true := fun k hk => by
   cases hl : listed.getD k true with
   | false => exact absurd (hmin k (memU.2 ⟨Nat.lt_trans hk hi.1, hl⟩)) (by omega)
   | true =>
    have : k < listed.size := by rw [hsz]; exact Nat.lt_trans hk hi.1
    simp [this] at hl ⊢
    exact hl
  rw [hiL] at H
  obtain ⟨oi, hoi, H⟩ := H
  have hir : i ∈ Region.ready .any ops listed := mem_ready.2 ⟨hi.2, oi, hoi, fun e he hb =>
   listedLow _ (hlow i e.on hi.1 (by
    unfold Region.waitsFor
    rw [hoi]
    exact Array.any_eq_true'.2 ⟨e, he, by simp [hb]⟩))⟩
  have hne : Region.ready .any ops listed ≠ [] := fun h0 => by rw [h0] at hir; cases hir
  have her : (unl ops listed).erase i = L := by rw [hiL]; simp
  have waitsReady : ∀ j, j ∈ Region.ready .any ops listed → ∀ k, k ∈ unl ops listed → Region.waitsFor .any ops j k = false := fun j hj k hk => by
   obtain ⟨_, oj, hoj, hall⟩ := mem_ready.1 hj
   refine qD hoj fun e he hb hek => ?_
   have h1 := hall e he hb
   rw [hek] at h1
   have h2 := (memU.1 hk).2
   have hk' : k < listed.size := by rw [hsz]; exact (memU.1 hk).1
   simp [hk'] at h1 h2
   rw [h1] at h2
   cases h2
  split at H
  ·rename_i hcond
   refine ⟨fun h0 => absurd h0 hne, fun j hj => ?_⟩
   by_cases hji : j = i
   ·subst hji
    unfold wpOp
    rw [hoi]
    simp only [hcond.2, if_true]
    refine .inl ?_
    have H' := Oper.wp_mono (K' := fun a' w' => S w' ∧ wpAnyH P .any ops Q S n (listed.setIfInBounds j true) a' w') (fun a' w' ⟨hS', hl⟩ => ⟨hS', next j hj a' w' hS' (by rw [her]; exact hl)⟩) H
    unfold Oper.wp at H' ⊢
    generalize (execOp a.eval oi).run P w = r at *
    cases r with
    | ok m w' =>
     cases m <;> simp only [Oper.upon] at H' ⊢ <;> first
      | exact H'
      | exact Calls.mono H' (fun e w'' he => by
        cases e with
        | returned u => exact he
        | panicked c => exact he.elim
        | outgrown => obtain ⟨_, _, hf⟩ := he; exact hf.elim)
    | halt x w' => cases x <;> simp only [Oper.upon] at H' ⊢ <;> exact H'.elim
   ·-- a read that may come up
    obtain ⟨_, oj, hoj, hall⟩ := mem_ready.1 hj
    have hjU := rdy hj
    have hnotE : eff.contains j = false := by
     cases hcj : eff.contains j with
     | false => rfl
     | true =>
      have h1 := List.all_eq_true.1 heff j (by simpa using hcj)
      have h2 := List.all_eq_true.1 h1 i (by simpa using hcond.1)
      have hle := hmin j hjU
      simp only [Bool.or_eq_true, decide_eq_true_eq] at h2
      have h3 : YN ops ops.size j i = true := by rcases h2 with h2 | h2 <;> first | omega | exact h2
      have h4 := jG hc _ j i h3 (fun k hk => by
       obtain ⟨oj', hoj', e, he, hb, hon⟩ := Region.waitsFor_spec hk
       rw [hoj] at hoj'
       cases hoj'
       exact hon ▸ hall e he hb)
      have hk' : i < listed.size := by rw [hsz]; exact hi.1
      have h5 := hi.2
      simp [hk'] at h4 h5
      rw [h4] at h5
      cases h5
    have Hfull : zab P ops eff S (Q .normal) (unl ops listed) a w := by
     rw [hiL]
     exact ⟨oi, hoi, by rw [if_pos hcond]; exact H⟩
    obtain ⟨v, hy, hl⟩ := zhv hsel hap hoj (unl ops listed) a w hS hjU (hpw.imp (fun h => Nat.ne_of_lt h)) (fun k hk => waitsReady j hj k hk)
     (fun k hk hkj => by
      cases hwk : Region.waitsFor .any ops k j with
      | false => rfl
      | true => have := hlow k j (memU.1 hk).1 hwk; omega)
     (fun _ _ _ => .inr trivial) hpw (.inl hnotE) Hfull
    exact hy.wpOp hoj hS ⟨hS, next j hj _ _ hS hl⟩
  ·rename_i hcond
   obtain ⟨v, hy, hl⟩ := H
   refine wpAnyH_first hoi hsel (fun c a w => hQ c a oi.dst v w) n listed a w (fun j oj hoj hji hun hno => ?_) hir hy hS (next i hir _ _ hS (by rw [her]; exact hl))
   have hjU := memU.2 ⟨(Array.getElem?_eq_some_iff.1 hoj).1, hun⟩
   exact qp hap hoi hoj (fun e => hji e.symm) (qD hoj hno) (waitsReady i hir j hjU)
theorem zaA {id : Nat} {a : Act} {w : World} {Q : Exit → Act → World → Prop} (eff : List Nat) (S : World → Prop) (hm : P.follows .mixedOrders = true) (hok : Qi ops eff = true)
  (hS : S w.drew) (L : List Nat) (hL : List.range ops.size = L)
  (h : ∀ K : Act → World → Prop, Shut (∀ a w, Q .normal a w → K a w) → zab P ops eff S K L a w.drew) : (Code.region id ops true).wp P Q a w := by
 refine wp_region_noPanic (wp_region_held (S := S) hm ?_)
 have hu : unl ops (Array.replicate ops.size false) = List.range ops.size := by
  unfold unl
  rw [List.filter_eq_self]
  intro i hi
  have := List.mem_range.1 hi
  simp [this]
 refine zfo hok (fun _ _ _ _ _ h => h) _ _ a _ (by simp) (fun j oj hj hl => ?_) (by rw [hu]; simp) hS (by rw [hu, hL]; exact h _ (fun _ _ h => h))
 by_cases hjs : j < ops.size
 ·simp [hjs] at hl
 ·simp [hjs] at hl
def jr (P : Program) (ops : Array Oper) (S : World → Prop) (Q : Act → World → Prop) : List Bool → List Oper → Act → World → Prop
 | _, [], a, w => Q a w
 | es, o :: rest, a, w =>
   if es.headD false = true ∧ Region.wanted o (yielded ops a.tmps) = true then o.wp P a w (fun a' w' => S w' ∧ jr P ops S Q es.tail rest a' w') NoQ
    else ∃ v, YieldsIf P ops S o v a ∧ jr P ops S Q es.tail rest (a.put o.dst v) w
def Qe (es : List Bool) : List Nat := (List.range es.length).filter fun i => es.getD i false
theorem ZF (es : List Bool) (i : Nat) : (Qe es).contains i = es.getD i false := by
 rw [Bool.eq_iff_iff]
 simp only [Qe, List.contains_iff_mem, List.mem_filter, List.mem_range]
 constructor
 ·exact fun h => h.2
 ·intro h
  refine ⟨?_, h⟩
  rcases Nat.lt_or_ge i es.length with h' | h'
  ·exact h'
  ·simp [List.getD, List.getElem?_eq_none h'] at h
theorem Zo {es : List Bool} {K : Act → World → Prop} : ∀ (l : List Oper) (i : Nat) (a : Act) (w : World), (∀ k o, l[k]? = some o → ops[i + k]? = some o) →
  jr P ops S K (es.drop i) l a w → zab P ops (Qe es) S K (List.range' i l.length) a w
 | [], i, a, w, _, h => h
 | o :: rest, i, a, w, ho, h => by
  have h0 : ops[i]? = some o := ho 0 o rfl
  have hrest : ∀ k o', rest[k]? = some o' → ops[i + 1 + k]? = some o' := fun k o' hk => by
   have := ho (k + 1) o' (by simpa using hk)
   rwa [show i + 1 + k = i + (k + 1) by omega]
  have hd : (es.drop i).headD false = es.getD i false := by simp [List.getD, List.headD_eq_head?_getD]
  have ht : (es.drop i).tail = es.drop (i + 1) := by simp [List.tail_drop]
  rw [jr, hd, ht] at h
  rw [List.length_cons, List.range'_succ]
  refine ⟨o, h0, ?_⟩
  rw [ZF]
  split at h
  ·rename_i hc
   rw [if_pos hc]
   exact Oper.wp_mono (fun a' w' ⟨hS, hl⟩ => ⟨hS, Zo rest (i + 1) a' w' hrest hl⟩) h
  ·rename_i hc
   rw [if_neg hc]
   obtain ⟨v, hy, hl⟩ := h
   exact ⟨v, hy, Zo rest (i + 1) _ w hrest hl⟩
theorem zv {id : Nat} {a : Act} {w : World} {Q : Exit → Act → World → Prop} {l : List Oper} (es : List Bool) (S : World → Prop) (hm : P.follows .mixedOrders = true) (hok : Qi l.toArray (Qe es) = true)
  (hS : S w.drew)
  (h : ∀ K : Act → World → Prop, Shut (∀ a w, Q .normal a w → K a w) → jr P l.toArray S K es l a w.drew) : (Code.region id l.toArray true).wp P Q a w := by
 refine zaA (Qe es) S hm hok hS _ rfl (fun K hK => ?_)
 have := Zo (P := P) (ops := l.toArray) (S := S) (es := es) (K := K) l 0 a w.drew (fun k o hk => by simpa using hk) (by simpa using h K hK)
 simpa [List.range_eq_range'] using this
theorem zM {es : List Bool} {K : Act → World → Prop} {a : Act} {w : World} (h : K a w) : jr P ops S K es [] a w := h
theorem VT {es : List Bool} {K : Act → World → Prop} {a : Act} {w : World} {o : Oper} {rest : List Oper}
  (hw : Region.wanted o (yielded ops a.tmps) = true) (h : ∃ v, (∀ w, S w → (execOp a.eval o).run P w = .ok (.value v) w) ∧ jr P ops S K es rest (a.put o.dst v) w) : jr P ops S K (false :: es) (o :: rest) a w := by
 obtain ⟨v, hy, h⟩ := h
 rw [jr, if_neg (by simp)]
 exact ⟨v, .inl ⟨hw, hy⟩, h⟩
theorem V0 {e : Bool} {es : List Bool} {K : Act → World → Prop} {a : Act} {w : World} {o : Oper} {rest : List Oper}
  (hw : Region.wanted o (yielded ops a.tmps) = false) (h : jr P ops S K es rest (a.put o.dst undef) w) : jr P ops S K (e :: es) (o :: rest) a w := by
 rw [jr, if_neg (by rw [hw]; simp)]
 exact ⟨undef, .inr ⟨hw, rfl⟩, h⟩
theorem za5 {es : List Bool} {K : Act → World → Prop} {a : Act} {w : World} {o : Oper} {rest : List Oper}
  (hw : Region.wanted o (yielded ops a.tmps) = true) (h : ∀ K', Shut (∀ a' w', S w' → (S w' → jr P ops S K es rest a' w') → K' a' w') → o.wp P a w K' NoQ) : jr P ops S K (true :: es) (o :: rest) a w := by
 rw [jr, if_pos ⟨rfl, hw⟩]
 exact h _ (fun _ _ h1 h2 => ⟨h1, h2 h1⟩)
section
variable {es : List Bool} {K : Act → World → Prop} {a : Act} {w : World} {rest : List Oper} {dst : Option Tmp} {op : Op} {ty : TypeId} {pos : String} {after : Array Edge} {j : Nat} {b : Bool}
theorem zx (h : ∃ v, (∀ w, S w → (execOp a.eval { dst := dst, op := op, type := ty, pos := pos, after := after, guard := none }).run P w = .ok (.value v) w) ∧ jr P ops S K es rest (a.put dst v) w) :
  jr P ops S K (false :: es) ({ dst := dst, op := op, type := ty, pos := pos, after := after, guard := none } :: rest) a w := VT rfl h
theorem zu (hg : yielded ops a.tmps j = some b) (h : ∃ v, (∀ w, S w → (execOp a.eval { dst := dst, op := op, type := ty, pos := pos, after := after, guard := some (j, b) }).run P w = .ok (.value v) w) ∧ jr P ops S K es rest (a.put dst v) w) :
  jr P ops S K (false :: es) ({ dst := dst, op := op, type := ty, pos := pos, after := after, guard := some (j, b) } :: rest) a w := VT (by simp [Region.wanted, hg]) h
theorem zg {e c : Bool} (hg : yielded ops a.tmps j = some c) (hc : c = !b) (h : jr P ops S K es rest (a.put dst undef) w) :
  jr P ops S K (e :: es) ({ dst := dst, op := op, type := ty, pos := pos, after := after, guard := some (j, b) } :: rest) a w := V0 (by subst hc; simp [Region.wanted, hg]) h
theorem zt {e : Bool} (hg : yielded ops a.tmps j = none) (h : jr P ops S K es rest (a.put dst undef) w) :
  jr P ops S K (e :: es) ({ dst := dst, op := op, type := ty, pos := pos, after := after, guard := some (j, b) } :: rest) a w := V0 (by simp [Region.wanted, hg]) h
theorem zU (h : ∀ K', Shut (∀ a' w', S w' → (S w' → jr P ops S K es rest a' w') → K' a' w') → Oper.wp P { dst := dst, op := op, type := ty, pos := pos, after := after, guard := none } a w K' NoQ) :
  jr P ops S K (true :: es) ({ dst := dst, op := op, type := ty, pos := pos, after := after, guard := none } :: rest) a w := za5 rfl h
theorem zK (hg : yielded ops a.tmps j = some b) (h : ∀ K', Shut (∀ a' w', S w' → (S w' → jr P ops S K es rest a' w') → K' a' w') → Oper.wp P { dst := dst, op := op, type := ty, pos := pos, after := after, guard := some (j, b) } a w K' NoQ) :
  jr P ops S K (true :: es) ({ dst := dst, op := op, type := ty, pos := pos, after := after, guard := some (j, b) } :: rest) a w := za5 (by simp [Region.wanted, hg]) h
end
end
attribute [irreducible] jr
end Go
