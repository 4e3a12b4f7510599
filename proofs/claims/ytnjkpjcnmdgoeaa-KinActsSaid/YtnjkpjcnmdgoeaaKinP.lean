/- Plain: what hangs on what. -/
namespace Go.Proofs.Ytnjkpjcnmdgoeaa

section
variable {α : Type}
/-- From x along E one comes to y, through I alone. -/
inductive Rch (E : α → List α) (I : α → Prop) : α → α → Prop
  | refl {x : α} : I x → Rch E I x x
  | step {x y z : α} : I x → y ∈ E x → Rch E I y z → Rch E I x z
variable {E E' : α → List α} {I J : α → Prop}
theorem Rch.left {x y : α} (h : Rch E I x y) : I x := by cases h <;> assumption
theorem Rch.right {x y : α} (h : Rch E I x y) : I y := by
  induction h with
  | refl h => exact h
  | step _ _ _ ih => exact ih
theorem Rch.trans {x y z : α} (h : Rch E I x y) (h2 : Rch E I y z) : Rch E I x z := by
  induction h with
  | refl _ => exact h2
  | step h1 h3 _ ih => exact .step h1 h3 (ih h2)
theorem Rch.snoc {x y z : α} (h : Rch E I x y) (hz : z ∈ E y) (i : I z) : Rch E I x z := h.trans (.step h.right hz (.refl i))
theorem Rch.flip (hE : ∀ x y, I x → I y → y ∈ E x → x ∈ E' y) {x y : α} (h : Rch E I x y) : Rch E' I y x := by
  induction h with
  | refl h => exact .refl h
  | step h1 h2 h3 ih => exact ih.snoc (hE _ _ h1 h3.left h2) h1
theorem Rch.mono (hI : ∀ x, I x → J x) (hE : ∀ x y, I x → I y → y ∈ E x → y ∈ E' x) {x y : α} (h : Rch E I x y) : Rch E' J x y := by
  induction h with
  | refl h => exact .refl (hI _ h)
  | step h1 h2 h3 ih => exact .step (hI _ h1) (hE _ _ h1 h3.left h2) ih

/-- The work list: todo is to be looked at, vis has been. -/
structure Wl (E : α → List α) (I : α → Prop) (l todo vis : List α) : Prop where
  sub : ∀ x ∈ vis, I x
  snd : ∀ x ∈ vis, ∃ a ∈ l, Rch E I a x
  td : ∀ x ∈ todo, I x → ∃ a ∈ l, Rch E I a x
  start : ∀ a ∈ l, I a → a ∈ vis ∨ a ∈ todo
  clos : ∀ x ∈ vis, ∀ y ∈ E x, I y → y ∈ vis ∨ y ∈ todo
theorem Wl.init (l : List α) : Wl E I l l [] := ⟨by simp, by simp, fun x hx hi => ⟨x, hx, .refl hi⟩, fun a ha _ => .inr ha, by simp⟩
theorem Wl.skip {l todo vis : List α} {x : α} (h : Wl E I l (todo ++ [x]) vis) (hx : ¬ I x ∨ x ∈ vis) : Wl E I l todo vis := by
  refine ⟨h.sub, h.snd, fun y hy => h.td y (by simp [hy]), fun a ha hi => ?_, fun y hy z hz hi => ?_⟩
  · rcases h.start a ha hi with h1 | h1
    · exact .inl h1
    · rcases List.mem_append.1 h1 with h2 | h2
      · exact .inr h2
      · obtain rfl := List.mem_singleton.1 h2
        rcases hx with hx | hx
        · exact absurd hi hx
        · exact .inl hx
  · rcases h.clos y hy z hz hi with h1 | h1
    · exact .inl h1
    · rcases List.mem_append.1 h1 with h2 | h2
      · exact .inr h2
      · obtain rfl := List.mem_singleton.1 h2
        rcases hx with hx | hx
        · exact absurd hi hx
        · exact .inl hx
theorem Wl.visit {l todo vis : List α} {x : α} (h : Wl E I l (todo ++ [x]) vis) (hi : I x) : Wl E I l (todo ++ E x) (x :: vis) := by
  obtain ⟨a, ha, hr⟩ := h.td x (by simp) hi
  refine ⟨fun y hy => ?_, fun y hy => ?_, fun y hy hI => ?_, fun b hb hI => ?_, fun y hy z hz hI => ?_⟩
  · rcases List.mem_cons.1 hy with rfl | hy
    · exact hi
    · exact h.sub y hy
  · rcases List.mem_cons.1 hy with rfl | hy
    · exact ⟨a, ha, hr⟩
    · exact h.snd y hy
  · rcases List.mem_append.1 hy with hy | hy
    · exact h.td y (by simp [hy]) hI
    · exact ⟨a, ha, hr.snoc hy hI⟩
  · rcases h.start b hb hI with h1 | h1
    · exact .inl (by simp [h1])
    · rcases List.mem_append.1 h1 with h2 | h2
      · exact .inr (by simp [h2])
      · exact .inl (by simp [List.mem_singleton.1 h2])
  · rcases List.mem_cons.1 hy with rfl | hy
    · exact .inr (by simp [hz])
    · rcases h.clos y hy z hz hI with h1 | h1
      · exact .inl (by simp [h1])
      · rcases List.mem_append.1 h1 with h2 | h2
        · exact .inr (by simp [h2])
        · exact .inl (by simp [List.mem_singleton.1 h2])
theorem Wl.done {l vis : List α} (h : Wl E I l [] vis) (x : α) : x ∈ vis ↔ ∃ a ∈ l, Rch E I a x := by
  refine ⟨h.snd x, fun ⟨a, ha, hr⟩ => ?_⟩
  have key : ∀ y z, Rch E I y z → y ∈ vis → z ∈ vis := by
    intro y z hyz
    induction hyz with
    | refl _ => exact id
    | step h1 h2 h3 ih => exact fun hv => ih ((h.clos _ hv _ h2 h3.left).elim id (fun h => by simp at h))
  exact key a x hr ((h.start a ha hr.left).elim id (fun h => by simp at h))
variable [DecidableEq α]
/-- What the unseen would bring. -/
def wlW (E : α → List α) (vis : List α) : List α → Nat
  | [] => 0
  | x :: r => (if x ∈ vis then 0 else (E x).length) + wlW E vis r
theorem wlW_cons_not {vis : List α} {x : α} : ∀ {l : List α}, x ∉ l → wlW E (x :: vis) l = wlW E vis l
  | [], _ => rfl
  | y :: r, h => by
    have hy : y ≠ x := fun e => h (by simp [e])
    have hr : x ∉ r := fun e => h (by simp [e])
    simp only [wlW, List.mem_cons, hy, false_or]
    rw [wlW_cons_not hr]
theorem wlW_visit {vis : List α} {x : α} (hv : x ∉ vis) : ∀ {l : List α}, l.Nodup → x ∈ l → wlW E (x :: vis) l + (E x).length = wlW E vis l
  | [], _, h => by cases h
  | y :: r, hn, h => by
    obtain ⟨n1, n2⟩ := List.nodup_cons.1 hn
    by_cases e : y = x
    · subst e
      simp only [wlW, List.mem_cons_self, if_true, if_neg hv]
      rw [wlW_cons_not n1]
      omega
    · have hm : x ∈ r := by
        rcases List.mem_cons.1 h with h | h
        · exact absurd h.symm e
        · exact h
      have := wlW_visit hv n2 hm
      simp only [wlW, List.mem_cons, e, false_or]
      omega
theorem wlW_le {k : Nat} {vis : List α} : ∀ {l : List α}, (∀ x ∈ l, (E x).length ≤ k) → wlW E vis l ≤ l.length * k
  | [], _ => Nat.zero_le _
  | y :: r, h => by
    have h1 := h y (by simp)
    have h2 := wlW_le (vis := vis) (l := r) fun x hx => h x (by simp [hx])
    simp only [wlW, List.length_cons, Nat.succ_mul]
    split <;> omega
end

abbrev HashD := List Int
def hashOk (l : HashD) : Prop := l.length = 32 ∧ ∀ x ∈ l, 0 ≤ x ∧ x ≤ 255
structure NodeD where
  id : HashD
  ps : List HashD
def ids (G : List NodeD) : List HashD := G.map (·.id)
def par (G : List NodeD) (x : HashD) : List HashD := ((G.find? fun n => decide (n.id = x)).map (·.ps)).getD []
def kid (G : List NodeD) (x : HashD) : List HashD := (G.filter fun n => decide (x ∈ n.ps)).map (·.id)
structure GOk (G : List NodeD) : Prop where
  nd : (ids G).Nodup
  pn : ∀ n ∈ G, n.ps.Nodup
  top : ∀ A n B, G = A ++ n :: B → ∀ p ∈ n.ps, p ∈ ids A
variable {G : List NodeD}
theorem par_of (h : GOk G) {n : NodeD} (hn : n ∈ G) : par G n.id = n.ps := by
  unfold par
  have hnd := h.nd
  clear h
  induction G with
  | nil => cases hn
  | cons y r ih =>
    simp only [ids, List.map_cons, List.nodup_cons] at hnd
    rcases List.mem_cons.1 hn with rfl | hn
    · simp
    · have : y.id ≠ n.id := fun e => hnd.1 (e ▸ List.mem_map.2 ⟨n, hn, rfl⟩)
      rw [List.find?_cons_of_neg (by simpa using this)]
      exact ih hn hnd.2
theorem par_none {x : HashD} (h : x ∉ ids G) : par G x = [] := by
  unfold par
  rw [List.find?_eq_none.2]
  · rfl
  · intro n hn
    simp only [decide_eq_true_eq]
    exact fun e => h (e ▸ List.mem_map.2 ⟨n, hn, rfl⟩)
theorem mem_ids {x : HashD} : x ∈ ids G ↔ ∃ n ∈ G, n.id = x := List.mem_map
theorem mem_kid {x y : HashD} : y ∈ kid G x ↔ ∃ n ∈ G, n.id = y ∧ x ∈ n.ps := by
  unfold kid
  simp only [List.mem_map, List.mem_filter, decide_eq_true_eq]
  exact ⟨fun ⟨n, ⟨h1, h2⟩, h3⟩ => ⟨n, h1, h3, h2⟩, fun ⟨n, h1, h3, h2⟩ => ⟨n, ⟨h1, h2⟩, h3⟩⟩
theorem kid_par (h : GOk G) {x y : HashD} : y ∈ kid G x ↔ y ∈ ids G ∧ x ∈ par G y := by
  rw [mem_kid]
  constructor
  · rintro ⟨n, hn, rfl, hx⟩
    exact ⟨mem_ids.2 ⟨n, hn, rfl⟩, by rw [par_of h hn]; exact hx⟩
  · rintro ⟨hy, hx⟩
    obtain ⟨n, hn, rfl⟩ := mem_ids.1 hy
    exact ⟨n, hn, rfl, by rwa [par_of h hn] at hx⟩
theorem par_mem (h : GOk G) {x y : HashD} (hy : y ∈ par G x) : y ∈ ids G := by
  by_cases hx : x ∈ ids G
  · obtain ⟨n, hn, rfl⟩ := mem_ids.1 hx
    rw [par_of h hn] at hy
    obtain ⟨A, B, rfl⟩ := List.append_of_mem hn
    have := h.top A n B rfl y hy
    simp only [ids, List.map_append, List.mem_append] at this ⊢
    exact .inl this
  · rw [par_none hx] at hy; cases hy
theorem kid_nodup (h : GOk G) (x : HashD) : (kid G x).Nodup := List.Nodup.sublist (List.Sublist.map _ List.filter_sublist) h.nd
theorem kid_len (x : HashD) : (kid G x).length ≤ G.length := by unfold kid; rw [List.length_map]; exact List.length_filter_le _ _
theorem nodup_len {α : Type} [DecidableEq α] : ∀ {l m : List α}, l.Nodup → (∀ x ∈ l, x ∈ m) → l.length ≤ m.length
  | [], _, _, _ => Nat.zero_le _
  | x :: r, m, hn, h => by
    obtain ⟨n1, n2⟩ := List.nodup_cons.1 hn
    have h1 := nodup_len (l := r) (m := m.erase x) n2 fun y hy => (List.mem_erase_of_ne (by rintro rfl; exact n1 hy)).2 (h y (by simp [hy]))
    have h2 := List.length_erase_of_mem (h x (by simp))
    have h3 := List.length_pos_of_mem (h x (by simp))
    simp only [List.length_cons]
    omega
theorem par_len (h : GOk G) (x : HashD) : (par G x).length ≤ G.length := by
  have hn : (par G x).Nodup := by
    by_cases hx : x ∈ ids G
    · obtain ⟨n, hn, rfl⟩ := mem_ids.1 hx
      rw [par_of h hn]; exact h.pn n hn
    · rw [par_none hx]; simp
  have := nodup_len hn (m := ids G) fun y hy => par_mem h hy
  simpa [ids] using this

/-- x hangs on y (or is y). -/
def Anc (G : List NodeD) (x y : HashD) : Prop := Rch (par G) (· ∈ ids G) x y
theorem anc_kid (h : GOk G) {x y : HashD} : Rch (kid G) (· ∈ ids G) x y ↔ Anc G y x :=
  ⟨fun h1 => h1.flip fun _ _ _ _ hz => ((kid_par h).1 hz).2, fun h1 => h1.flip fun _ _ hx _ hz => (kid_par h).2 ⟨hx, hz⟩⟩
open Classical in
noncomputable def upS (G : List NodeD) (l : List HashD) : List HashD := (ids G).filter fun x => decide (∃ a ∈ l, Anc G a x)
open Classical in
noncomputable def downS (G : List NodeD) (l : List HashD) : List HashD := (ids G).filter fun x => decide (∃ a ∈ l, Anc G x a)
theorem mem_up {l : List HashD} {x : HashD} : x ∈ upS G l ↔ ∃ a ∈ l, Anc G a x := by
  unfold upS
  simp only [List.mem_filter, decide_eq_true_eq]
  exact ⟨fun h => h.2, fun ⟨a, ha, h⟩ => ⟨h.right, a, ha, h⟩⟩
theorem mem_down {l : List HashD} {x : HashD} : x ∈ downS G l ↔ ∃ a ∈ l, Anc G x a := by
  unfold downS
  simp only [List.mem_filter, decide_eq_true_eq]
  exact ⟨fun h => h.2, fun ⟨a, ha, h⟩ => ⟨h.left, a, ha, h⟩⟩
theorem up_sub (l : List HashD) : ∀ x ∈ upS G l, x ∈ ids G := fun _ h => (List.mem_filter.1 h).1
theorem down_sub (l : List HashD) : ∀ x ∈ downS G l, x ∈ ids G := fun _ h => (List.mem_filter.1 h).1
theorem up_same {l m : List HashD} (h : ∀ x, x ∈ l ↔ x ∈ m) : upS G l = upS G m := by
  unfold upS
  refine List.filter_congr fun x _ => decide_eq_decide.2 ⟨fun ⟨a, ha, hr⟩ => ⟨a, (h a).1 ha, hr⟩, fun ⟨a, ha, hr⟩ => ⟨a, (h a).2 ha, hr⟩⟩
/-- A sublist of the ids in their order is known by what is in it. -/
theorem sub_ids {S T : List HashD} : ∀ {L : List HashD}, L.Nodup → S.Sublist L → T.Sublist L → (∀ x, x ∈ S ↔ x ∈ T) → S = T := by
  intro L hn
  induction L generalizing S T with
  | nil => intro h1 h2 _; rw [List.sublist_nil.1 h1, List.sublist_nil.1 h2]
  | cons y r ih =>
    obtain ⟨n1, n2⟩ := List.nodup_cons.1 hn
    intro h1 h2 hm
    cases h1 with
    | cons _ h1 =>
      cases h2 with
      | cons _ h2 => exact ih n2 h1 h2 hm
      | cons_cons _ h2 => exact absurd (h1.subset ((hm y).2 (by simp))) n1
    | cons_cons _ h1 =>
      cases h2 with
      | cons _ h2 => exact absurd (h2.subset ((hm y).1 (by simp))) n1
      | cons_cons _ h2 =>
        rename_i S' T'
        congr 1
        refine ih n2 h1 h2 fun x => ?_
        have h3 := hm x
        simp only [List.mem_cons] at h3
        constructor
        · intro hx
          rcases h3.1 (.inr hx) with rfl | h
          · exact absurd (h1.subset hx) n1
          · exact h
        · intro hx
          rcases h3.2 (.inr hx) with rfl | h
          · exact absurd (h2.subset hx) n1
          · exact h
theorem up_sublist (l : List HashD) : (upS G l).Sublist (ids G) := List.filter_sublist
theorem down_sublist (l : List HashD) : (downS G l).Sublist (ids G) := List.filter_sublist
theorem up_len (l : List HashD) : (upS G l).length ≤ G.length := by have := (up_sublist (G := G) l).length_le; simpa [ids] using this
theorem down_len (l : List HashD) : (downS G l).length ≤ G.length := by have := (down_sublist (G := G) l).length_le; simpa [ids] using this

/-! ### what hangs stands behind -/
theorem anc_ahead (h : GOk G) {x y : HashD} (hr : Anc G x y) : ∀ A n B, G = A ++ n :: B → n.id = x → y ∈ ids (A ++ [n]) := by
  unfold Anc at hr
  induction hr with
  | refl _ => rintro A n B - rfl; simp [ids]
  | @step x p z h1 h2 h3 ih =>
    rintro A n B hG rfl
    rw [par_of h (by rw [hG]; simp)] at h2
    have hA := h.top A n B hG p h2
    obtain ⟨n2, hn2, rfl⟩ := mem_ids.1 hA
    obtain ⟨A1, B1, rfl⟩ := List.append_of_mem hn2
    have := ih A1 n2 (B1 ++ n :: B) (by rw [hG]; simp) rfl
    simp only [ids, List.map_append, List.mem_append, List.map_cons, List.map_nil, List.mem_cons, List.not_mem_nil, or_false] at this ⊢
    rcases this with h | h
    · exact .inl (.inl h)
    · exact .inl (.inr (.inl h))

/-! ### one more -/
def dedup (l : List HashD) : List HashD := l.foldl (fun acc p => if p ∈ acc then acc else acc ++ [p]) []
theorem dedup_go : ∀ (l acc : List HashD), acc.Nodup → (l.foldl (fun acc p => if p ∈ acc then acc else acc ++ [p]) acc).Nodup ∧ ∀ x, x ∈ l.foldl (fun acc p => if p ∈ acc then acc else acc ++ [p]) acc ↔ x ∈ acc ∨ x ∈ l
  | [], acc, h => ⟨h, by simp⟩
  | p :: r, acc, h => by
    simp only [List.foldl_cons]
    by_cases hp : p ∈ acc
    · rw [if_pos hp]
      obtain ⟨h1, h2⟩ := dedup_go r acc h
      refine ⟨h1, fun x => ?_⟩
      rw [h2, List.mem_cons]
      exact ⟨fun h => h.elim .inl (fun h => .inr (.inr h)), fun h => h.elim .inl (fun h => h.elim (fun e => .inl (e ▸ hp)) .inr)⟩
    · rw [if_neg hp]
      obtain ⟨h1, h2⟩ := dedup_go r (acc ++ [p]) (List.nodup_append.2 ⟨h, by simp, fun a ha b hb e => hp (by rw [← List.mem_singleton.1 hb, ← e]; exact ha)⟩)
      refine ⟨h1, fun x => ?_⟩
      rw [h2, List.mem_append, List.mem_singleton, List.mem_cons]
      exact ⟨fun h => h.elim (fun h => h.elim .inl (fun h => .inr (.inl h))) (fun h => .inr (.inr h)), fun h => h.elim (fun h => .inl (.inl h)) (fun h => h.elim (fun h => .inl (.inr h)) .inr)⟩
theorem dedup_nodup (l : List HashD) : (dedup l).Nodup := (dedup_go l [] (by simp)).1
theorem mem_dedup {l : List HashD} {x : HashD} : x ∈ dedup l ↔ x ∈ l := by have := (dedup_go l [] (by simp)).2 x; unfold dedup; simpa using this
theorem dedup_snoc (l : List HashD) (p : HashD) : dedup (l ++ [p]) = if p ∈ dedup l then dedup l else dedup l ++ [p] := by unfold dedup; rw [List.foldl_append]; rfl
theorem dedup_len : ∀ l : List HashD, (dedup l).length ≤ l.length := fun l => nodup_len (dedup_nodup l) fun _ h => mem_dedup.1 h
def addG (G : List NodeD) (x : HashD) (ps : List HashD) : List NodeD := G ++ [⟨x, dedup ps⟩]
open Classical in
noncomputable def addE (G : List NodeD) (x : HashD) (ps : List HashD) : Int :=
  if x ∈ ids G then 10 else if ∃ p ∈ ps, p ∉ ids G then 9 else if (upS G ps).length < 6 then 0 else 16
theorem ids_add (x : HashD) (ps : List HashD) : ids (addG G x ps) = ids G ++ [x] := by simp [ids, addG]
theorem addG_ok (h : GOk G) {x : HashD} {ps : List HashD} (hx : x ∉ ids G) (hp : ∀ p ∈ ps, p ∈ ids G) : GOk (addG G x ps) := by
  refine ⟨?_, fun n hn => ?_, fun A n B e p hpp => ?_⟩
  · rw [ids_add]
    exact List.nodup_append.2 ⟨h.nd, by simp, fun a ha b hb e => hx (by rw [← List.mem_singleton.1 hb, ← e]; exact ha)⟩
  · rcases List.mem_append.1 hn with hn | hn
    · exact h.pn n hn
    · rw [List.mem_singleton.1 hn]; exact dedup_nodup ps
  · unfold addG at e
    rcases List.eq_nil_or_concat B with rfl | ⟨B', b, rfl⟩
    · obtain ⟨e1, e2⟩ := List.append_inj' e rfl
      subst e1
      injection e2 with e2
      subst e2
      exact hp p (mem_dedup.1 hpp)
    · rw [List.concat_eq_append, ← List.cons_append, ← List.append_assoc] at e
      obtain ⟨e1, -⟩ := List.append_inj' e rfl
      exact h.top A n B' e1 p hpp
theorem par_add (h : GOk G) {x : HashD} {ps : List HashD} (hx : x ∉ ids G) (hp : ∀ p ∈ ps, p ∈ ids G) (y : HashD) : par (addG G x ps) y = if y = x then dedup ps else par G y := by
  by_cases e : y = x
  · subst e
    rw [if_pos rfl]
    exact par_of (addG_ok h hx hp) (n := ⟨y, dedup ps⟩) (by simp [addG])
  · rw [if_neg e]
    by_cases hy : y ∈ ids G
    · obtain ⟨n, hn, rfl⟩ := mem_ids.1 hy
      rw [par_of h hn]
      exact par_of (addG_ok h hx hp) (by simp [addG, hn])
    · rw [par_none hy, par_none]
      rw [ids_add]
      simp [hy, e]
theorem anc_add (h : GOk G) {x : HashD} {ps : List HashD} (hx : x ∉ ids G) (hp : ∀ p ∈ ps, p ∈ ids G) {a b : HashD} : Anc (addG G x ps) a b ↔ Anc G a b ∨ (a = x ∧ (b = x ∨ ∃ p ∈ ps, Anc G p b)) := by
  constructor
  · intro hr
    unfold Anc at hr
    induction hr with
    | @refl y hy =>
      rw [ids_add] at hy
      rcases List.mem_append.1 hy with hy | hy
      · exact .inl (.refl hy)
      · exact .inr ⟨List.mem_singleton.1 hy, .inl (List.mem_singleton.1 hy)⟩
    | @step y z b h1 h2 h3 ih =>
      rw [par_add h hx hp] at h2
      split at h2
      · rename_i e
        subst e
        have hz := mem_dedup.1 h2
        rcases ih with ih | ⟨rfl, -⟩
        · exact .inr ⟨rfl, .inr ⟨z, hz, ih⟩⟩
        · exact absurd (hp z hz) hx
      · rename_i e
        have hz := par_mem h h2
        have hy : y ∈ ids G := by
          rw [ids_add] at h1
          rcases List.mem_append.1 h1 with hy | hy
          · exact hy
          · exact absurd (List.mem_singleton.1 hy) e
        rcases ih with ih | ⟨rfl, -⟩
        · exact .inl (.step hy h2 ih)
        · exact absurd hz hx
  · have up : ∀ c d, Anc G c d → Anc (addG G x ps) c d := fun c d hr => Rch.mono (fun y hy => by rw [ids_add]; simp [hy]) (fun y z hy _ hz => by
      rw [par_add h hx hp, if_neg (by rintro rfl; exact hx hy)]; exact hz) hr
    rintro (hr | ⟨rfl, rfl | ⟨p, hp', hr⟩⟩)
    · exact up _ _ hr
    · exact .refl (by rw [ids_add]; simp)
    · exact .step (by rw [ids_add]; simp) (by rw [par_add h hx hp, if_pos rfl]; exact mem_dedup.2 hp') (up _ _ hr)
theorem up_add_old (h : GOk G) {x : HashD} {ps : List HashD} (hx : x ∉ ids G) (hp : ∀ p ∈ ps, p ∈ ids G) {l : List HashD} (hl : x ∉ l) : upS (addG G x ps) l = upS G l := by
  refine sub_ids (addG_ok h hx hp).nd (up_sublist l) (by rw [ids_add]; exact (up_sublist l).trans (List.sublist_append_left _ _)) fun y => ?_
  rw [mem_up, mem_up]
  constructor
  · rintro ⟨a, ha, hr⟩
    rcases (anc_add h hx hp).1 hr with h1 | ⟨rfl, -⟩
    · exact ⟨a, ha, h1⟩
    · exact absurd ha hl
  · rintro ⟨a, ha, hr⟩
    exact ⟨a, ha, (anc_add h hx hp).2 (.inl hr)⟩
theorem up_add_new (h : GOk G) {x : HashD} {ps : List HashD} (hx : x ∉ ids G) (hp : ∀ p ∈ ps, p ∈ ids G) : upS (addG G x ps) [x] = upS G ps ++ [x] := by
  refine sub_ids (addG_ok h hx hp).nd (up_sublist _) (by rw [ids_add]; exact (up_sublist ps).append (List.Sublist.refl _)) fun y => ?_
  rw [mem_up, List.mem_append, mem_up, List.mem_singleton]
  constructor
  · rintro ⟨a, ha, hr⟩
    obtain rfl := List.mem_singleton.1 ha
    rcases (anc_add h hx hp).1 hr with h1 | ⟨-, h1 | h1⟩
    · exact absurd h1.left hx
    · exact .inr h1
    · exact .inl h1
  · rintro (h1 | rfl)
    · exact ⟨x, by simp, (anc_add h hx hp).2 (.inr ⟨rfl, .inr h1⟩)⟩
    · exact ⟨y, by simp, (anc_add h hx hp).2 (.inr ⟨rfl, .inl rfl⟩)⟩
theorem down_add_new (h : GOk G) {x : HashD} {ps : List HashD} (hx : x ∉ ids G) (hp : ∀ p ∈ ps, p ∈ ids G) : downS (addG G x ps) [x] = [x] := by
  refine sub_ids (addG_ok h hx hp).nd (down_sublist _) (by rw [ids_add]; exact List.sublist_append_right _ _) fun y => ?_
  rw [mem_down, List.mem_singleton]
  constructor
  · rintro ⟨a, ha, hr⟩
    obtain rfl := List.mem_singleton.1 ha
    rcases (anc_add h hx hp).1 hr with h1 | ⟨h1, -⟩
    · exact absurd h1.right hx
    · exact h1
  · rintro rfl
    exact ⟨y, by simp, (anc_add h hx hp).2 (.inr ⟨rfl, .inl rfl⟩)⟩

/-! ### without some -/
/-- All but x, who is nobody's parent any more. -/
def cutG (G : List NodeD) (x : HashD) : List NodeD := (G.filter fun n => decide (n.id ≠ x)).map fun n => ⟨n.id, n.ps.filter fun p => decide (p ≠ x)⟩
def cutL (G : List NodeD) (l : List HashD) : List NodeD := (G.filter fun n => decide (n.id ∉ l)).map fun n => ⟨n.id, n.ps.filter fun p => decide (p ∉ l)⟩
theorem cutL_nil (G : List NodeD) : cutL G [] = G := by
  unfold cutL
  have e : (fun n : NodeD => (⟨n.id, n.ps.filter fun p => decide (p ∉ ([] : List HashD))⟩ : NodeD)) = id := by
    funext n
    simp only [List.not_mem_nil, not_false_eq_true, decide_true, id_eq]
    rw [List.filter_eq_self.2 (fun _ _ => rfl)]
  rw [e, List.map_id, List.filter_eq_self.2 (fun n _ => by simp)]
theorem cutL_snoc (G : List NodeD) (l : List HashD) (x : HashD) : cutL G (l ++ [x]) = cutG (cutL G l) x := by
  unfold cutL cutG
  rw [List.filter_map, List.map_map, List.filter_filter]
  congr 1
  · funext n
    simp only [Function.comp, List.filter_filter]
    congr 1
    refine List.filter_congr fun p _ => ?_
    simp only [List.mem_append, List.mem_singleton, not_or, Bool.decide_and, ne_eq, decide_not]
    rw [Bool.and_comm]
  · refine List.filter_congr fun n _ => ?_
    simp only [Function.comp, List.mem_append, List.mem_singleton, not_or, Bool.decide_and, ne_eq, decide_not]
    rw [Bool.and_comm]
theorem cutG_one (G : List NodeD) (x : HashD) : cutG G x = cutL G [x] := by
  have := cutL_snoc G [] x
  rw [List.nil_append, cutL_nil] at this
  exact this.symm
theorem ids_cut (l : List HashD) : ids (cutL G l) = (ids G).filter fun y => decide (y ∉ l) := by
  unfold ids cutL
  rw [List.map_map, List.filter_map]
  rfl
theorem mem_ids_cut {l : List HashD} {x : HashD} : x ∈ ids (cutL G l) ↔ x ∈ ids G ∧ x ∉ l := by
  rw [ids_cut, List.mem_filter, decide_eq_true_eq]
theorem cutL_ok (h : GOk G) (l : List HashD) : GOk (cutL G l) := by
  refine ⟨?_, fun n hn => ?_, fun A n B e p hp => ?_⟩
  · rw [ids_cut]
    exact h.nd.sublist List.filter_sublist
  · unfold cutL at hn
    obtain ⟨m, hm, rfl⟩ := List.mem_map.1 hn
    exact (h.pn m (List.mem_filter.1 hm).1).sublist List.filter_sublist
  · unfold cutL at e
    obtain ⟨L1, L2, e1, rfl, e2⟩ := List.map_eq_append_iff.1 e
    obtain ⟨m, L3, rfl, rfl, rfl⟩ := List.map_eq_cons_iff.1 e2
    obtain ⟨G1, G2, rfl, rfl, e4⟩ := List.filter_eq_append_iff.1 e1
    obtain ⟨G3, G4, rfl, e5, e6, e7⟩ := List.filter_eq_cons_iff.1 e4
    obtain ⟨hp1, hp2⟩ := List.mem_filter.1 hp
    have := h.top (G1 ++ G3) m G4 (by simp) p hp1
    obtain ⟨n2, hn2, rfl⟩ := mem_ids.1 this
    simp only [decide_eq_true_eq] at hp2
    refine mem_ids.2 ⟨⟨n2.id, n2.ps.filter fun p => decide (p ∉ l)⟩, ?_, rfl⟩
    refine List.mem_map.2 ⟨n2, ?_, rfl⟩
    rcases List.mem_append.1 hn2 with h1 | h1
    · exact List.mem_filter.2 ⟨h1, by simpa using hp2⟩
    · exact absurd (by simpa using hp2) (e5 n2 h1)
theorem par_cut (h : GOk G) (l : List HashD) (y : HashD) : par (cutL G l) y = if y ∈ l then [] else (par G y).filter fun p => decide (p ∉ l) := by
  by_cases hy : y ∈ ids G
  · by_cases hl : y ∈ l
    · rw [if_pos hl, par_none]
      rw [mem_ids_cut]
      exact fun h => h.2 hl
    · rw [if_neg hl]
      obtain ⟨n, hn, rfl⟩ := mem_ids.1 hy
      rw [par_of h hn]
      have : (⟨n.id, n.ps.filter fun p => decide (p ∉ l)⟩ : NodeD) ∈ cutL G l := List.mem_map.2 ⟨n, List.mem_filter.2 ⟨hn, by simpa using hl⟩, rfl⟩
      exact par_of (cutL_ok h l) this
  · rw [par_none (by rw [mem_ids_cut]; exact fun h => hy h.1), par_none hy]
    split <;> rfl
theorem anc_cut (h : GOk G) {l : List HashD} {a b : HashD} (hr : Anc (cutL G l) a b) : Anc G a b :=
  Rch.mono (fun _ hy => (mem_ids_cut.1 hy).1) (fun y z hy _ hz => by
    rw [par_cut h, if_neg (mem_ids_cut.1 hy).2] at hz
    exact (List.mem_filter.1 hz).1) hr
theorem anc_cut_down (h : GOk G) {q a b : HashD} (ha : ¬ Anc G a q) (hr : Anc G a b) : Anc (cutL G (downS G [q])) a b := by
  have hd : ∀ y, y ∈ downS G [q] ↔ Anc G y q := fun y => by rw [mem_down]; simp
  unfold Anc at hr
  induction hr with
  | refl h1 => exact .refl (mem_ids_cut.2 ⟨h1, by rw [hd]; exact ha⟩)
  | @step x y z h1 h2 h3 ih =>
    have hy : ¬ Anc G y q := fun e => ha (.step h1 h2 e)
    exact .step (mem_ids_cut.2 ⟨h1, by rw [hd]; exact ha⟩) (by
      rw [par_cut h, if_neg (by rw [hd]; exact ha)]
      exact List.mem_filter.2 ⟨h2, by rw [decide_eq_true_eq, hd]; exact hy⟩) (ih hy)
theorem down_head (h : GOk G) {q : HashD} (hq : q ∈ ids G) : ∃ r, downS G [q] = q :: r := by
  obtain ⟨n, hn, rfl⟩ := mem_ids.1 hq
  obtain ⟨A, B, e⟩ := List.append_of_mem hn
  have hA : ∀ y ∈ ids A, ¬ Anc G y n.id := by
    intro y hy hr
    obtain ⟨m, hm, rfl⟩ := mem_ids.1 hy
    obtain ⟨A1, B1, rfl⟩ := List.append_of_mem hm
    have h1 := anc_ahead h hr A1 m (B1 ++ n :: B) (by rw [e]; simp) rfl
    have h2 := h.nd
    rw [e] at h2
    simp only [ids, List.map_append, List.map_cons, List.append_assoc, List.cons_append, List.map_nil] at h1 h2
    obtain ⟨-, h3, h4⟩ := List.nodup_append.1 h2
    rcases List.mem_append.1 h1 with h1 | h1
    · exact h4 _ h1 n.id (by simp) rfl
    · obtain ⟨h5, -⟩ := List.nodup_cons.1 h3
      rw [List.mem_singleton] at h1
      exact h5 (by rw [← h1]; simp)
  unfold downS
  have e2 : ids G = ids A ++ (n.id :: ids B) := by rw [e]; simp [ids]
  rw [e2, List.filter_append, List.filter_eq_nil_iff.2, List.nil_append, List.filter_cons_of_pos]
  · exact ⟨_, rfl⟩
  · simp only [decide_eq_true_eq]
    exact ⟨n.id, by simp, .refl hq⟩
  · intro y hy
    simp only [decide_eq_true_eq]
    rintro ⟨a, ha, hr⟩
    rw [List.mem_singleton.1 ha] at hr
    exact hA y hy hr
theorem up_last (h : GOk G) {q : HashD} (hq : q ∈ ids G) : ∃ r, upS G [q] = r ++ [q] := by
  obtain ⟨n, hn, rfl⟩ := mem_ids.1 hq
  obtain ⟨A, B, e⟩ := List.append_of_mem hn
  have hB : ∀ y ∈ ids B, ¬ Anc G n.id y := by
    intro y hy hr
    have h1 := anc_ahead h hr A n B e rfl
    have h2 := h.nd
    rw [e] at h2
    have e3 : ids (A ++ n :: B) = ids (A ++ [n]) ++ ids B := by simp [ids]
    rw [e3] at h2
    exact (List.nodup_append.1 h2).2.2 y h1 y hy rfl
  unfold upS
  have e2 : ids G = (ids A ++ [n.id]) ++ ids B := by rw [e]; simp [ids]
  rw [e2, List.filter_append, List.filter_append (l₂ := [n.id]), (List.filter_eq_nil_iff (l := ids B)).2, List.append_nil, List.filter_cons_of_pos, List.filter_nil]
  · exact ⟨_, rfl⟩
  · simp only [decide_eq_true_eq]
    exact ⟨n.id, by simp, .refl hq⟩
  · intro y hy
    simp only [decide_eq_true_eq]
    rintro ⟨a, ha, hr⟩
    rw [List.mem_singleton.1 ha] at hr
    exact hB y hy hr
/-- Nobody hangs on more than there may be. -/
def BOk (G : List NodeD) : Prop := ∀ x ∈ ids G, (upS G [x]).length ≤ 6
theorem BOk.add (h : GOk G) (hb : BOk G) {x : HashD} {ps : List HashD} (hx : x ∉ ids G) (hp : ∀ p ∈ ps, p ∈ ids G) (hl : (upS G ps).length < 6) : BOk (addG G x ps) := by
  intro y hy
  rw [ids_add] at hy
  rcases List.mem_append.1 hy with hy | hy
  · rw [up_add_old h hx hp (by simp; exact fun e => hx (e ▸ hy))]
    exact hb y hy
  · rw [List.mem_singleton.1 hy, up_add_new h hx hp]
    simp
    omega
theorem BOk.cut (h : GOk G) (hb : BOk G) (l : List HashD) : BOk (cutL G l) := by
  intro y hy
  have hy' := (mem_ids_cut.1 hy).1
  have hs : ∀ z ∈ upS (cutL G l) [y], z ∈ upS G [y] := fun z hz => by
    rw [mem_up] at hz ⊢
    obtain ⟨a, ha, hr⟩ := hz
    exact ⟨a, ha, anc_cut h hr⟩
  have := nodup_len ((cutL_ok h l).nd.sublist (up_sublist [y])) hs
  have := hb y hy'
  omega
theorem up_cut_down (h : GOk G) {q x : HashD} (hx : x ∈ ids (cutL G (downS G [q]))) : upS (cutL G (downS G [q])) [x] = upS G [x] := by
  have hd : ∀ y, y ∈ downS G [q] ↔ Anc G y q := fun y => by rw [mem_down]; simp
  have hx2 : ¬ Anc G x q := by have := (mem_ids_cut.1 hx).2; rwa [hd] at this
  refine sub_ids h.nd ((up_sublist _).trans (by rw [ids_cut]; exact List.filter_sublist)) (up_sublist _) fun y => ?_
  rw [mem_up, mem_up]
  constructor
  · rintro ⟨a, ha, hr⟩
    exact ⟨a, ha, anc_cut h hr⟩
  · rintro ⟨a, ha, hr⟩
    rw [List.mem_singleton.1 ha] at hr
    exact ⟨x, by simp, anc_cut_down h hx2 hr⟩
end Go.Proofs.Ytnjkpjcnmdgoeaa
