/- A region whose order of evaluation is open, walked as a tree: reads as soon as they may come up; where only operations that change the world may come up, each of them is tried. -/
import Derived.Test.YtmpamcnlineceaaDoorMG3
set_option linter.unusedVariables false
set_option linter.unusedSimpArgs false
namespace Go
section
variable {P : Program} {ops : Array Oper} {S : World → Prop}

/-- i waits for none of those that are left. -/
def avail (ops : Array Oper) (L : List Nat) (i : Nat) : Bool := L.all fun k => !Region.waitsFor .any ops i k
def lexT (P : Program) (ops : Array Oper) (eff : List Nat) (S : World → Prop) (Q : Act → World → Prop) : Nat → List Nat → Act → World → Prop
  | 0, _, a, w => Q a w
  | n + 1, L, a, w =>
    (∃ i o v, i ∈ L ∧ avail ops L i = true ∧ ops[i]? = some o ∧ YieldsIf P ops S o v a ∧ lexT P ops eff S Q n (L.erase i) (a.put o.dst v) w) ∨
    (∀ j ∈ L, avail ops L j = true → ∃ o, ops[j]? = some o ∧ Region.wanted o (yielded ops a.tmps) = true ∧ o.wp P a w (fun a' w' => S w' ∧ lexT P ops eff S Q n (L.erase j) a' w') NoQ)

def lexTOk (ops : Array Oper) : Bool :=
  Region.noSelect ops && lexApart ops &&
  ((List.range ops.size).all fun i => (List.range ops.size).all fun j => decide (j < i) || !Region.waitsFor .any ops i j) &&
  ((List.range ops.size).all fun j => (ops[j]?).any fun o => o.after.all fun e => !Region.binds .any e || decide (e.on < ops.size))

theorem lexT_sound {eff : List Nat} (hok : lexTOk ops = true) {Q : Exit → Act → World → Prop} (hQ : ∀ c a d v w, Q (.panic c) (Act.put a d v) w → Q (.panic c) a w) :
    ∀ (n : Nat) (listed : Array Bool) (a : Act) (w : World), listed.size = ops.size → (unl ops listed).length = n → S w →
      lexT P ops eff S (Q .normal) n (unl ops listed) a w → wpAnyH P .any ops Q S n listed a w := by
  simp only [lexTOk, Bool.and_eq_true] at hok
  obtain ⟨⟨⟨hns, hap⟩, hord⟩, hin⟩ := hok
  have hsel := Region.noSelect_spec hns
  have hon : ∀ (i : Nat) (oi : Oper), ops[i]? = some oi → ∀ e ∈ oi.after, Region.binds .any e = true → e.on < ops.size := fun i oi hoi e he hb => by
    have h2 := List.all_eq_true.1 hin i (List.mem_range.2 (Array.getElem?_eq_some_iff.1 hoi).1)
    rw [hoi] at h2
    have h3 := Array.all_eq_true'.1 h2 e he
    simpa only [hb, Bool.not_true, Bool.false_or, decide_eq_true_eq] using h3
  have hlow : ∀ i j, i < ops.size → Region.waitsFor .any ops i j = true → j < i := fun i j hi hw => by
    obtain ⟨oi, hoi, e, he, hb, hon'⟩ := Region.waitsFor_spec hw
    have h4 := List.all_eq_true.1 (List.all_eq_true.1 hord i (List.mem_range.2 hi)) j (List.mem_range.2 (hon' ▸ hon i oi hoi e he hb))
    simpa [hw] using h4
  intro n
  induction n with
  | zero =>
    intro listed a w hsz hlen hS H
    have hnil : unl ops listed = [] := List.eq_nil_of_length_eq_zero hlen
    refine ⟨?_, H⟩
    by_cases hr : Region.ready .any ops listed = []
    · exact hr
    · obtain ⟨j, hj⟩ := List.exists_mem_of_ne_nil _ hr
      obtain ⟨h0, o, ho, _⟩ := mem_ready.1 hj
      have : j ∈ unl ops listed := List.mem_filter.2 ⟨List.mem_range.2 (Array.getElem?_eq_some_iff.1 ho).1, by rw [h0]; rfl⟩
      rw [hnil] at this
      cases this
  | succ n ih =>
    intro listed a w hsz hlen hS H
    have memU : ∀ {j}, j ∈ unl ops listed ↔ j < ops.size ∧ listed.getD j true = false := fun {j} => by
      unfold unl
      rw [List.mem_filter, List.mem_range]
      simp
    have rdy : ∀ {j}, j ∈ Region.ready .any ops listed → j ∈ unl ops listed := fun {j} hj => by
      obtain ⟨h0, o, ho, _⟩ := mem_ready.1 hj
      exact memU.2 ⟨(Array.getElem?_eq_some_iff.1 ho).1, h0⟩
    have next : ∀ j, j ∈ unl ops listed → ∀ a' w', S w' → lexT P ops eff S (Q .normal) n ((unl ops listed).erase j) a' w' → wpAnyH P .any ops Q S n (listed.setIfInBounds j true) a' w' := fun j hj a' w' hS' hl => by
      refine ih _ a' w' (by simp [hsz]) ?_ hS' (by rw [unl_set hsz]; exact hl)
      rw [unl_set hsz, List.length_erase_of_mem hj, hlen]
      rfl
    have waitsReady : ∀ j, j ∈ Region.ready .any ops listed → ∀ k, k ∈ unl ops listed → Region.waitsFor .any ops j k = false := fun j hj k hk => by
      obtain ⟨_, oj, hoj, hall⟩ := mem_ready.1 hj
      refine waitsFor_false hoj fun e he hb hek => ?_
      have h1 := hall e he hb
      rw [hek] at h1
      have h2 := (memU.1 hk).2
      have hk' : k < listed.size := by rw [hsz]; exact (memU.1 hk).1
      simp [hk'] at h1 h2
      rw [h1] at h2
      cases h2
    have toReady : ∀ i, i ∈ unl ops listed → avail ops (unl ops listed) i = true → i ∈ Region.ready .any ops listed := fun i hi hav => by
      have hi' := memU.1 hi
      obtain ⟨oi, hoi⟩ : ∃ o, ops[i]? = some o := ⟨_, Array.getElem?_eq_getElem hi'.1⟩
      refine mem_ready.2 ⟨hi'.2, oi, hoi, fun e he hb => ?_⟩
      have h1 := hon i oi hoi e he hb
      cases hl : listed.getD e.on true with
      | true =>
        have : e.on < listed.size := by rw [hsz]; exact h1
        simp [this] at hl ⊢
        exact hl
      | false =>
        have h2 := List.all_eq_true.1 hav e.on (memU.2 ⟨h1, hl⟩)
        have h3 : Region.waitsFor .any ops i e.on = true := by
          unfold Region.waitsFor
          rw [hoi]
          exact Array.any_eq_true'.2 ⟨e, he, by simp [hb]⟩
        rw [h3] at h2
        cases h2
    have toAvail : ∀ j, j ∈ Region.ready .any ops listed → avail ops (unl ops listed) j = true := fun j hj =>
      List.all_eq_true.2 fun k hk => by rw [waitsReady j hj k hk]; rfl
    rcases H with ⟨i, oi, v, hi, hav, hoi, hy, hl⟩ | H
    · have hir := toReady i hi hav
      refine wpAnyH_first hoi hsel (fun c a w => hQ c a oi.dst v w) n listed a w (fun j oj hoj hji hun hno => ?_) hir hy hS (next i hi _ _ hS hl)
      have hjU := memU.2 ⟨(Array.getElem?_eq_some_iff.1 hoj).1, hun⟩
      exact lexApart_spec hap hoi hoj (fun e => hji e.symm) (waitsFor_false hoj hno) (waitsReady i hir j hjU)
    · have hne : Region.ready .any ops listed ≠ [] := by
        obtain ⟨i, L, hiL⟩ : ∃ i L, unl ops listed = i :: L := by
          cases hu : unl ops listed with
          | nil => rw [hu] at hlen; cases hlen
          | cons i L => exact ⟨i, L, rfl⟩
        have hpw := unl_pw (ops := ops) listed
        have hiU : i ∈ unl ops listed := by rw [hiL]; simp
        have hmin : ∀ k, k ∈ unl ops listed → i ≤ k := fun k hk => by
          rw [hiL] at hk hpw
          rcases List.mem_cons.1 hk with rfl | hk
          · exact Nat.le_refl _
          · exact Nat.le_of_lt ((List.pairwise_cons.1 hpw).1 k hk)
        have := toReady i hiU (List.all_eq_true.2 fun k hk => by
          cases hw : Region.waitsFor .any ops i k with
          | false => rfl
          | true => have h1 := hlow i k (memU.1 hiU).1 hw; have h2 := hmin k hk; omega)
        exact fun h0 => by rw [h0] at this; cases this
      refine ⟨fun h0 => absurd h0 hne, fun j hj => ?_⟩
      obtain ⟨oj, hoj, hwj, hwp⟩ := H j (rdy hj) (toAvail j hj)
      unfold wpOp
      rw [hoj]
      simp only [hwj, if_true]
      refine .inl ?_
      have H' := Oper.wp_mono (K' := fun a' w' => S w' ∧ wpAnyH P .any ops Q S n (listed.setIfInBounds j true) a' w') (fun a' w' ⟨hS', hl⟩ => ⟨hS', next j (rdy hj) a' w' hS' hl⟩) hwp
      unfold Oper.wp at H' ⊢
      generalize (execOp a.eval oj).run P w = r at *
      cases r with
      | ok m w' =>
        cases m <;> simp only [Oper.upon] at H' ⊢ <;> first
          | exact H'
          | exact Calls.mono H' (fun e w'' he => by
              cases e with
              | returned u => exact he
              | panicked c => exact he.elim
              | outgrown => obtain ⟨_, _, hf⟩ := he; exact hf.elim)
      | halt x w' => cases x <;> simp only [Oper.upon] at H' ⊢ <;> exact H'.elim

theorem wp_region_lexT {id : Nat} {a : Act} {w : World} {Q : Exit → Act → World → Prop} {l : List Oper} (n : Nat) (L : List Nat) (S : World → Prop) (hm : P.follows .mixedOrders = true) (hok : lexTOk l.toArray = true) (hn : l.length = n) (hL : List.range n = L)
    (hS : S w.drew)
    (h : ∀ K : Act → World → Prop, Shut (∀ a w, Q .normal a w → K a w) → lexT P l.toArray [] S K n L a w.drew) : (Code.region id l.toArray true).wp P Q a w := by
  refine wp_region_noPanic (wp_region_held (S := S) hm ?_)
  have hu : unl l.toArray (Array.replicate l.toArray.size false) = List.range l.toArray.size := by
    unfold unl
    rw [List.filter_eq_self]
    intro i hi
    have := List.mem_range.1 hi
    simp at this
    simp [this]
  have hsz : l.toArray.size = n := by simpa using hn
  refine lexT_sound (eff := []) hok (fun _ _ _ _ _ h => h) _ _ a _ (by simp) (by rw [hu]; simp) hS (by rw [hu, hsz, hL]; exact h _ (fun _ _ h => h))

section
variable {K : Act → World → Prop} {a : Act} {w : World} {n : Nat} {L : List Nat} {o : Oper}
theorem lexT_nil (h : K a w) : lexT P ops [] S K 0 L a w := h
theorem lexT_rd (i : Nat) (hm : (L.contains i && avail ops L i) = true) (ho : ops.toList[i]? = some o) (hw : Region.wanted o (yielded ops a.tmps) = true) (h : ∃ v, (∀ w, S w → (execOp a.eval o).run P w = .ok (.value v) w) ∧ lexT P ops [] S K n (L.erase i) (a.put o.dst v) w) : lexT P ops [] S K (n + 1) L a w := by
  simp only [Bool.and_eq_true, List.contains_iff_mem] at hm
  obtain ⟨v, hy, h⟩ := h
  exact .inl ⟨i, o, v, hm.1, hm.2, by simpa using ho, .inl ⟨hw, hy⟩, h⟩
theorem lexT_sk (i : Nat) (hm : (L.contains i && avail ops L i) = true) (ho : ops.toList[i]? = some o) (hw : Region.wanted o (yielded ops a.tmps) = false) (h : lexT P ops [] S K n (L.erase i) (a.put o.dst undef) w) : lexT P ops [] S K (n + 1) L a w := by
  simp only [Bool.and_eq_true, List.contains_iff_mem] at hm
  exact .inl ⟨i, o, undef, hm.1, hm.2, by simpa using ho, .inr ⟨hw, rfl⟩, h⟩
theorem lexT_ef (js : List Nat) (hj : L.filter (avail ops L) = js) (h : ∀ j ∈ js, ∃ o, ops[j]? = some o ∧ Region.wanted o (yielded ops a.tmps) = true ∧ ∀ K', Shut (∀ a' w', S w' → (S w' → lexT P ops [] S K n (L.erase j) a' w') → K' a' w') → o.wp P a w K' NoQ) : lexT P ops [] S K (n + 1) L a w := by
  refine .inr fun j hjL hav => ?_
  obtain ⟨o, ho, hw, hwp⟩ := h j (by rw [← hj]; exact List.mem_filter.2 ⟨hjL, hav⟩)
  exact ⟨o, ho, hw, hwp _ (fun _ _ h1 h2 => ⟨h1, h2 h1⟩)⟩
theorem lexT_ef1 (j : Nat) (hj : L.filter (avail ops L) = [j]) (ho : ops.toList[j]? = some o) (hw : Region.wanted o (yielded ops a.tmps) = true) (h : ∀ K', Shut (∀ a' w', S w' → (S w' → lexT P ops [] S K n (L.erase j) a' w') → K' a' w') → o.wp P a w K' NoQ) : lexT P ops [] S K (n + 1) L a w :=
  lexT_ef [j] hj (fun j' hj' => by
    have := List.mem_singleton.1 hj'
    subst this
    exact ⟨o, by simpa using ho, hw, h⟩)
theorem lexT_ef2 (j k : Nat) {o2 : Oper} (hj : L.filter (avail ops L) = [j, k]) (ho : ops.toList[j]? = some o) (hw : Region.wanted o (yielded ops a.tmps) = true) (ho2 : ops.toList[k]? = some o2) (hw2 : Region.wanted o2 (yielded ops a.tmps) = true)
    (h : ∀ K', Shut (∀ a' w', S w' → (S w' → lexT P ops [] S K n (L.erase j) a' w') → K' a' w') → o.wp P a w K' NoQ)
    (h2 : ∀ K', Shut (∀ a' w', S w' → (S w' → lexT P ops [] S K n (L.erase k) a' w') → K' a' w') → o2.wp P a w K' NoQ) : lexT P ops [] S K (n + 1) L a w :=
  lexT_ef [j, k] hj (fun j' hj' => by
    rcases List.mem_cons.1 hj' with rfl | hj'
    · exact ⟨o, by simpa using ho, hw, h⟩
    · have := List.mem_singleton.1 hj'
      subst this
      exact ⟨o2, by simpa using ho2, hw2, h2⟩)
end
end
attribute [irreducible] lexT
end Go
