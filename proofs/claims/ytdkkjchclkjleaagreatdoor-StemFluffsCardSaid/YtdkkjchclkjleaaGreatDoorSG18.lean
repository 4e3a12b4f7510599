/- Plain: what hangs on what. -/
import Derived.Lib.Hide
import Derived.Outline
import Derived.Test.YtdkkjchclkjleaaGreatDoorSG10
import Derived.Test.YtdkkjchclkjleaaGreatDoorSG3
set_option linter.unusedVariables false
set_option linter.unusedSimpArgs false
set_option linter.unnecessarySimpa false
set_option linter.all false
namespace Go.Proofs.YtdkkjchclkjleaaGreatDoor
open Go
section
variable {α : Type}
inductive Rch (E : α → List α) (I : α → Prop) : α → α → Prop
 | refl {x : α} : I x → Rch E I x x
 | step {x y z : α} : I x → y ∈ E x → Rch E I y z → Rch E I x z
variable {E E' : α → List α} {I J : α → Prop}
theorem Rch.left {x y : α} (h : Rch E I x y) : I x := by cases h <;> assumption
theorem Rch.right {x y : α} (h : Rch E I x y) : I y := by
 induction h with
 | refl h => exact h
 | step _ _ _ ih => exact ih
theorem Rch.trans {x y z : α} (h : Rch E I x y) (h2 : Rch E I y z) : Rch E I x z := by
 induction h with
 | refl _ => exact h2
 | step h1 h3 _ ih => exact .step h1 h3 (ih h2)
theorem Rch.snoc {x y z : α} (h : Rch E I x y) (hz : z ∈ E y) (i : I z) : Rch E I x z := h.trans (.step h.right hz (.refl i))
theorem Rch.flip (hE : ∀ x y, I x → I y → y ∈ E x → x ∈ E' y) {x y : α} (h : Rch E I x y) : Rch E' I y x := by
 induction h with
 | refl h => exact .refl h
 | step h1 h2 h3 ih => exact ih.snoc (hE _ _ h1 h3.left h2) h1
theorem Rch.mono (hI : ∀ x, I x → J x) (hE : ∀ x y, I x → I y → y ∈ E x → y ∈ E' x) {x y : α} (h : Rch E I x y) : Rch E' J x y := by
 induction h with
 | refl h => exact .refl (hI _ h)
 | step h1 h2 h3 ih => exact .step (hI _ h1) (hE _ _ h1 h3.left h2) ih
structure Wl (E : α → List α) (I : α → Prop) (l todo vis : List α) : Prop where
 sub : ∀ x ∈ vis, I x
 snd : ∀ x ∈ vis, ∃ a ∈ l, Rch E I a x
 td : ∀ x ∈ todo, I x → ∃ a ∈ l, Rch E I a x
 start : ∀ a ∈ l, I a → a ∈ vis ∨ a ∈ todo
 clos : ∀ x ∈ vis, ∀ y ∈ E x, I y → y ∈ vis ∨ y ∈ todo
theorem Wl.init (l : List α) : Wl E I l l [] := ⟨by simp, by simp, fun x hx hi => ⟨x, hx, .refl hi⟩, fun a ha _ => .inr ha, by simp⟩
theorem Wl.skip {l todo vis : List α} {x : α} (h : Wl E I l (todo ++ [x]) vis) (hx : ¬ I x ∨ x ∈ vis) : Wl E I l todo vis := by
 refine ⟨h.sub, h.snd, fun y hy => h.td y (by simp [hy]), fun a ha hi => ?_, fun y hy z hz hi => ?_⟩
 ·rcases h.start a ha hi with h1 | h1
  ·exact .inl h1
  ·rcases List.mem_append.1 h1 with h2 | h2
   ·exact .inr h2
   ·obtain rfl := List.mem_singleton.1 h2
    rcases hx with hx | hx
    ·exact absurd hi hx
    ·exact .inl hx
 ·rcases h.clos y hy z hz hi with h1 | h1
  ·exact .inl h1
  ·rcases List.mem_append.1 h1 with h2 | h2
   ·exact .inr h2
   ·obtain rfl := List.mem_singleton.1 h2
    rcases hx with hx | hx
    ·exact absurd hi hx
    ·exact .inl hx
theorem Wl.visit {l todo vis : List α} {x : α} (h : Wl E I l (todo ++ [x]) vis) (hi : I x) : Wl E I l (todo ++ E x) (x :: vis) := by
 obtain ⟨a, ha, hr⟩ := h.td x (by simp) hi
 refine ⟨fun y hy => ?_, fun y hy => ?_, fun y hy hI => ?_, fun b hb hI => ?_, fun y hy z hz hI => ?_⟩
 ·rcases List.mem_cons.1 hy with rfl | hy
  ·exact hi
  ·exact h.sub y hy
 ·rcases List.mem_cons.1 hy with rfl | hy
  ·exact ⟨a, ha, hr⟩
  ·exact h.snd y hy
 ·rcases List.mem_append.1 hy with hy | hy
  ·exact h.td y (by simp [hy]) hI
  ·exact ⟨a, ha, hr.snoc hy hI⟩
 ·rcases h.start b hb hI with h1 | h1
  ·exact .inl (by simp [h1])
  ·rcases List.mem_append.1 h1 with h2 | h2
   ·exact .inr (by simp [h2])
   ·exact .inl (by simp [List.mem_singleton.1 h2])
 ·rcases List.mem_cons.1 hy with rfl | hy
  ·exact .inr (by simp [hz])
  ·rcases h.clos y hy z hz hI with h1 | h1
   ·exact .inl (by simp [h1])
   ·rcases List.mem_append.1 h1 with h2 | h2
    ·exact .inr (by simp [h2])
    ·exact .inl (by simp [List.mem_singleton.1 h2])
theorem Wl.done {l vis : List α} (h : Wl E I l [] vis) (x : α) : x ∈ vis ↔ ∃ a ∈ l, Rch E I a x := by
 refine ⟨h.snd x, fun ⟨a, ha, hr⟩ => ?_⟩
 have key : ∀ y z, Rch E I y z → y ∈ vis → z ∈ vis := by
  intro y z hyz
  induction hyz with
  | refl _ => exact id
  | step h1 h2 h3 ih => exact fun hv => ih ((h.clos _ hv _ h2 h3.left).elim id (fun h => by simp at h))
 exact key a x hr ((h.start a ha hr.left).elim id (fun h => by simp at h))
variable [DecidableEq α]
def wlW (E : α → List α) (vis : List α) : List α → Nat
 | [] => 0
 | x :: r => (if x ∈ vis then 0 else (E x).length) + wlW E vis r
theorem Xt {vis : List α} {x : α} : ∀ {l : List α}, x ∉ l → wlW E (x :: vis) l = wlW E vis l
 | [], _ => rfl
 | y :: r, h => by
  have hy : y ≠ x := fun e => h (by simp [e])
  have hr : x ∉ r := fun e => h (by simp [e])
  simp only [wlW, List.mem_cons, hy, false_or]
  rw [Xt hr]
theorem Yv {vis : List α} {x : α} (hv : x ∉ vis) : ∀ {l : List α}, l.Nodup → x ∈ l → wlW E (x :: vis) l + (E x).length = wlW E vis l
 | [], _, h => by cases h
 | y :: r, hn, h => by
  obtain ⟨n1, n2⟩ := List.nodup_cons.1 hn
  by_cases e : y = x
  ·subst e
   simp only [wlW, List.mem_cons_self, if_true, if_neg hv]
   rw [Xt n1]
   omega
  ·have hm : x ∈ r := by
    rcases List.mem_cons.1 h with h | h
    ·exact absurd h.symm e
    ·exact h
   have := Yv hv n2 hm
   simp only [wlW, List.mem_cons, e, false_or]
   omega
theorem zfW {k : Nat} {vis : List α} : ∀ {l : List α}, (∀ x ∈ l, (E x).length ≤ k) → wlW E vis l ≤ l.length * k
 | [], _ => Nat.zero_le _
 | y :: r, h => by
  have h1 := h y (by simp)
  have h2 := zfW (vis := vis) (l := r) fun x hx => h x (by simp [hx])
  simp only [wlW, List.length_cons, Nat.succ_mul]
  split <;> omega
end
structure yE where
 id : zi
 ps : List zi
def ids (G : List yE) : List zi := G.map (·.id)
def par (G : List yE) (x : zi) : List zi := ((G.find? fun n => decide (n.id = x)).map (·.ps)).getD []
def kid (G : List yE) (x : zi) : List zi := (G.filter fun n => decide (x ∈ n.ps)).map (·.id)
structure GOk (G : List yE) : Prop where
 nd : (ids G).Nodup
 pn : ∀ n ∈ G, n.ps.Nodup
 top : ∀ A n B, G = A ++ n :: B → ∀ p ∈ n.ps, p ∈ ids A
variable {G : List yE}
theorem vY (h : GOk G) {n : yE} (hn : n ∈ G) : par G n.id = n.ps := by
 unfold par
 have hnd := h.nd
 clear h
 induction G with
 | nil => cases hn
 | cons y r ih =>
  simp only [ids, List.map_cons, List.nodup_cons] at hnd
  rcases List.mem_cons.1 hn with rfl | hn
  ·simp
  ·have : y.id ≠ n.id := fun e => hnd.1 (e ▸ List.mem_map.2 ⟨n, hn, rfl⟩)
   rw [List.find?_cons_of_neg (by simpa using this)]
   exact ih hn hnd.2
theorem ZM {x : zi} (h : x ∉ ids G) : par G x = [] := by
 unfold par
 rw [List.find?_eq_none.2]
 ·rfl
 ·intro n hn
  simp only [decide_eq_true_eq]
  exact fun e => h (e ▸ List.mem_map.2 ⟨n, hn, rfl⟩)
theorem vJ {x : zi} : x ∈ ids G ↔ ∃ n ∈ G, n.id = x := List.mem_map
theorem QP {x y : zi} : y ∈ kid G x ↔ ∃ n ∈ G, n.id = y ∧ x ∈ n.ps := by
 unfold kid
 simp only [List.mem_map, List.mem_filter, decide_eq_true_eq]
 exact ⟨fun ⟨n, ⟨h1, h2⟩, h3⟩ => ⟨n, h1, h3, h2⟩, fun ⟨n, h1, h3, h2⟩ => ⟨n, ⟨h1, h2⟩, h3⟩⟩
theorem Xx (h : GOk G) {x y : zi} : y ∈ kid G x ↔ y ∈ ids G ∧ x ∈ par G y := by
 rw [QP]
 constructor
 ·rintro ⟨n, hn, rfl, hx⟩
  exact ⟨vJ.2 ⟨n, hn, rfl⟩, by rw [vY h hn]; exact hx⟩
 ·rintro ⟨hy, hx⟩
  obtain ⟨n, hn, rfl⟩ := vJ.1 hy
  exact ⟨n, hn, rfl, by rwa [vY h hn] at hx⟩
theorem zbZ (h : GOk G) {x y : zi} (hy : y ∈ par G x) : y ∈ ids G := by
 by_cases hx : x ∈ ids G
 ·obtain ⟨n, hn, rfl⟩ := vJ.1 hx
  rw [vY h hn] at hy
  obtain ⟨A, B, rfl⟩ := List.append_of_mem hn
  have := h.top A n B rfl y hy
  simp only [ids, List.map_append, List.mem_append] at this ⊢
  exact .inl this
 ·rw [ZM hx] at hy; cases hy
theorem ze3 (h : GOk G) (x : zi) : (kid G x).Nodup := List.Nodup.sublist (List.Sublist.map _ List.filter_sublist) h.nd
theorem Va (x : zi) : (kid G x).length ≤ G.length := by unfold kid; rw [List.length_map]; exact List.length_filter_le _ _
theorem xM {α : Type} [DecidableEq α] : ∀ {l m : List α}, l.Nodup → (∀ x ∈ l, x ∈ m) → l.length ≤ m.length
 | [], _, _, _ => Nat.zero_le _
 | x :: r, m, hn, h => by
  obtain ⟨n1, n2⟩ := List.nodup_cons.1 hn
  have h1 := xM (l := r) (m := m.erase x) n2 fun y hy => (List.mem_erase_of_ne (by rintro rfl; exact n1 hy)).2 (h y (by simp [hy]))
  have h2 := List.length_erase_of_mem (h x (by simp))
  have h3 := List.length_pos_of_mem (h x (by simp))
  simp only [List.length_cons]
  omega
theorem zb1 (h : GOk G) (x : zi) : (par G x).length ≤ G.length := by
 have hn : (par G x).Nodup := by
  by_cases hx : x ∈ ids G
  ·obtain ⟨n, hn, rfl⟩ := vJ.1 hx
   rw [vY h hn]; exact h.pn n hn
  ·rw [ZM hx]; simp
 have := xM hn (m := ids G) fun y hy => zbZ h hy
 simpa [ids] using this
def Anc (G : List yE) (x y : zi) : Prop := Rch (par G) (· ∈ ids G) x y
theorem zeo (h : GOk G) {x y : zi} : Rch (kid G) (· ∈ ids G) x y ↔ Anc G y x :=
 ⟨fun h1 => h1.flip fun _ _ _ _ hz => ((Xx h).1 hz).2, fun h1 => h1.flip fun _ _ hx _ hz => (Xx h).2 ⟨hx, hz⟩⟩
open Classical in
noncomputable def upS (G : List yE) (l : List zi) : List zi := (ids G).filter fun x => decide (∃ a ∈ l, Anc G a x)
open Classical in
noncomputable def qm (G : List yE) (l : List zi) : List zi := (ids G).filter fun x => decide (∃ a ∈ l, Anc G x a)
theorem zbV {l : List zi} {x : zi} : x ∈ upS G l ↔ ∃ a ∈ l, Anc G a x := by
 unfold upS
 simp only [List.mem_filter, decide_eq_true_eq]
 exact ⟨fun h => h.2, fun ⟨a, ha, h⟩ => ⟨h.right, a, ha, h⟩⟩
theorem JT {l : List zi} {x : zi} : x ∈ qm G l ↔ ∃ a ∈ l, Anc G x a := by
 unfold qm
 simp only [List.mem_filter, decide_eq_true_eq]
 exact ⟨fun h => h.2, fun ⟨a, ha, h⟩ => ⟨h.left, a, ha, h⟩⟩
theorem zhi (l : List zi) : ∀ x ∈ qm G l, x ∈ ids G := fun _ h => (List.mem_filter.1 h).1
theorem zif {l m : List zi} (h : ∀ x, x ∈ l ↔ x ∈ m) : upS G l = upS G m := by
 unfold upS
 refine List.filter_congr fun x _ => decide_eq_decide.2 ⟨fun ⟨a, ha, hr⟩ => ⟨a, (h a).1 ha, hr⟩, fun ⟨a, ha, hr⟩ => ⟨a, (h a).2 ha, hr⟩⟩
theorem qJ (l : List zi) : (upS G l).Sublist (ids G) := List.filter_sublist
theorem qj (l : List zi) : (qm G l).Sublist (ids G) := List.filter_sublist
theorem zgy (l : List zi) : (qm G l).length ≤ G.length := by have := (qj (G := G) l).length_le; simpa [ids] using this
theorem zbd (h : GOk G) {x y : zi} (hr : Anc G x y) : ∀ A n B, G = A ++ n :: B → n.id = x → y ∈ ids (A ++ [n]) := by
 unfold Anc at hr
 induction hr with
 | refl _ => rintro A n B - rfl; simp [ids]
 | @step x p z h1 h2 h3 ih =>
  rintro A n B hG rfl
  rw [vY h (by rw [hG]; simp)] at h2
  have hA := h.top A n B hG p h2
  obtain ⟨n2, hn2, rfl⟩ := vJ.1 hA
  obtain ⟨A1, B1, rfl⟩ := List.append_of_mem hn2
  have := ih A1 n2 (B1 ++ n :: B) (by rw [hG]; simp) rfl
  simp only [ids, List.map_append, List.mem_append, List.map_cons, List.map_nil, List.mem_cons, List.not_mem_nil, or_false] at this ⊢
  rcases this with h | h
  ·exact .inl (.inl h)
  ·exact .inl (.inr (.inl h))
def dedup (l : List zi) : List zi := l.foldl (fun acc p => if p ∈ acc then acc else acc ++ [p]) []
theorem Xl : ∀ (l acc : List zi), acc.Nodup → (l.foldl (fun acc p => if p ∈ acc then acc else acc ++ [p]) acc).Nodup ∧ ∀ x, x ∈ l.foldl (fun acc p => if p ∈ acc then acc else acc ++ [p]) acc ↔ x ∈ acc ∨ x ∈ l
 | [], acc, h => ⟨h, by simp⟩
 | p :: r, acc, h => by
  simp only [List.foldl_cons]
  by_cases hp : p ∈ acc
  ·rw [if_pos hp]
   obtain ⟨h1, h2⟩ := Xl r acc h
   refine ⟨h1, fun x => ?_⟩
   rw [h2, List.mem_cons]
   exact ⟨fun h => h.elim .inl (fun h => .inr (.inr h)), fun h => h.elim .inl (fun h => h.elim (fun e => .inl (e ▸ hp)) .inr)⟩
  ·rw [if_neg hp]
   obtain ⟨h1, h2⟩ := Xl r (acc ++ [p]) (List.nodup_append.2 ⟨h, by simp, fun a ha b hb e => hp (by rw [← List.mem_singleton.1 hb, ← e]; exact ha)⟩)
   refine ⟨h1, fun x => ?_⟩
   rw [h2, List.mem_append, List.mem_singleton, List.mem_cons]
   exact ⟨fun h => h.elim (fun h => h.elim .inl (fun h => .inr (.inl h))) (fun h => .inr (.inr h)), fun h => h.elim (fun h => .inl (.inl h)) (fun h => h.elim (fun h => .inl (.inr h)) .inr)⟩
theorem ZW (l : List zi) : (dedup l).Nodup := (Xl l [] (by simp)).1
theorem vT {l : List zi} {x : zi} : x ∈ dedup l ↔ x ∈ l := by have := (Xl l [] (by simp)).2 x; unfold dedup; simpa using this
theorem zdi (l : List zi) (p : zi) : dedup (l ++ [p]) = if p ∈ dedup l then dedup l else dedup l ++ [p] := by unfold dedup; rw [List.foldl_append]; rfl
theorem zaX : ∀ l : List zi, (dedup l).length ≤ l.length := fun l => xM (ZW l) fun _ h => vT.1 h
def Yz (G : List yE) (x : zi) (ps : List zi) : List yE := G ++ [⟨x, dedup ps⟩]
open Classical in
noncomputable def Vn (G : List yE) (x : zi) (ps : List zi) : Int :=
 if x ∈ ids G then 10 else if ∃ p ∈ ps, p ∉ ids G then 9 else if (upS G ps).length < 6 then 0 else 16
theorem zhW (x : zi) (ps : List zi) : ids (Yz G x ps) = ids G ++ [x] := by simp [ids, Yz]
theorem zel (h : GOk G) {x : zi} {ps : List zi} (hx : x ∉ ids G) (hp : ∀ p ∈ ps, p ∈ ids G) : GOk (Yz G x ps) := by
 refine ⟨?_, fun n hn => ?_, fun A n B e p hpp => ?_⟩
 ·rw [zhW]
  exact List.nodup_append.2 ⟨h.nd, by simp, fun a ha b hb e => hx (by rw [← List.mem_singleton.1 hb, ← e]; exact ha)⟩
 ·rcases List.mem_append.1 hn with hn | hn
  ·exact h.pn n hn
  ·rw [List.mem_singleton.1 hn]; exact ZW ps
 ·unfold Yz at e
  rcases List.eq_nil_or_concat B with rfl | ⟨B', b, rfl⟩
  ·obtain ⟨e1, e2⟩ := List.append_inj' e rfl
   subst e1
   injection e2 with e2
   subst e2
   exact hp p (vT.1 hpp)
  ·rw [List.concat_eq_append, ← List.cons_append, ← List.append_assoc] at e
   obtain ⟨e1, -⟩ := List.append_inj' e rfl
   exact h.top A n B' e1 p hpp
def YQ (G : List yE) (x : zi) : List yE := (G.filter fun n => decide (n.id ≠ x)).map fun n => ⟨n.id, n.ps.filter fun p => decide (p ≠ x)⟩
def Jz (G : List yE) (l : List zi) : List yE := (G.filter fun n => decide (n.id ∉ l)).map fun n => ⟨n.id, n.ps.filter fun p => decide (p ∉ l)⟩
theorem zah (G : List yE) : Jz G [] = G := by
 unfold Jz
 have e : (fun n : yE => (⟨n.id, n.ps.filter fun p => decide (p ∉ ([] : List zi))⟩ : yE)) = id := by
  funext n
  simp only [List.not_mem_nil, not_false_eq_true, decide_true, id_eq]
  rw [List.filter_eq_self.2 (fun _ _ => rfl)]
 rw [e, List.map_id, List.filter_eq_self.2 (fun n _ => by simp)]
theorem za8 (G : List yE) (l : List zi) (x : zi) : Jz G (l ++ [x]) = YQ (Jz G l) x := by
 unfold Jz YQ
 rw [List.filter_map, List.map_map, List.filter_filter]
 congr 1
 ·funext n
  simp only [Function.comp, List.filter_filter]
  congr 1
  refine List.filter_congr fun p _ => ?_
  simp only [List.mem_append, List.mem_singleton, not_or, Bool.decide_and, ne_eq, decide_not]
  rw [Bool.and_comm]
 ·refine List.filter_congr fun n _ => ?_
  simp only [Function.comp, List.mem_append, List.mem_singleton, not_or, Bool.decide_and, ne_eq, decide_not]
  rw [Bool.and_comm]
theorem zgn (G : List yE) (x : zi) : YQ G x = Jz G [x] := by
 have := za8 G [] x
 rw [List.nil_append, zah] at this
 exact this.symm
theorem zeq (l : List zi) : ids (Jz G l) = (ids G).filter fun y => decide (y ∉ l) := by
 unfold ids Jz
 rw [List.map_map, List.filter_map]
 rfl
theorem jR {l : List zi} {x : zi} : x ∈ ids (Jz G l) ↔ x ∈ ids G ∧ x ∉ l := by
 rw [zeq, List.mem_filter, decide_eq_true_eq]
theorem zbA (h : GOk G) (l : List zi) : GOk (Jz G l) := by
 refine ⟨?_, fun n hn => ?_, fun A n B e p hp => ?_⟩
 ·rw [zeq]
  exact h.nd.sublist List.filter_sublist
 ·unfold Jz at hn
  obtain ⟨m, hm, rfl⟩ := List.mem_map.1 hn
  exact (h.pn m (List.mem_filter.1 hm).1).sublist List.filter_sublist
 ·unfold Jz at e
  obtain ⟨L1, L2, e1, rfl, e2⟩ := List.map_eq_append_iff.1 e
  obtain ⟨m, L3, rfl, rfl, rfl⟩ := List.map_eq_cons_iff.1 e2
  obtain ⟨G1, G2, rfl, rfl, e4⟩ := List.filter_eq_append_iff.1 e1
  obtain ⟨G3, G4, rfl, e5, e6, e7⟩ := List.filter_eq_cons_iff.1 e4
  obtain ⟨hp1, hp2⟩ := List.mem_filter.1 hp
  have := h.top (G1 ++ G3) m G4 (by simp) p hp1
  obtain ⟨n2, hn2, rfl⟩ := vJ.1 this
  simp only [decide_eq_true_eq] at hp2
  refine vJ.2 ⟨⟨n2.id, n2.ps.filter fun p => decide (p ∉ l)⟩, ?_, rfl⟩
  refine List.mem_map.2 ⟨n2, ?_, rfl⟩
  rcases List.mem_append.1 hn2 with h1 | h1
  ·exact List.mem_filter.2 ⟨h1, by simpa using hp2⟩
  ·exact absurd (by simpa using hp2) (e5 n2 h1)
theorem ziD (h : GOk G) (l : List zi) (y : zi) : par (Jz G l) y = if y ∈ l then [] else (par G y).filter fun p => decide (p ∉ l) := by
 by_cases hy : y ∈ ids G
 ·by_cases hl : y ∈ l
  ·rw [if_pos hl, ZM]
   rw [jR]
   exact fun h => h.2 hl
  ·rw [if_neg hl]
   obtain ⟨n, hn, rfl⟩ := vJ.1 hy
   rw [vY h hn]
   have : (⟨n.id, n.ps.filter fun p => decide (p ∉ l)⟩ : yE) ∈ Jz G l := List.mem_map.2 ⟨n, List.mem_filter.2 ⟨hn, by simpa using hl⟩, rfl⟩
   exact vY (zbA h l) this
 ·rw [ZM (by rw [jR]; exact fun h => hy h.1), ZM hy]
  split <;> rfl
theorem zhz (h : GOk G) {l : List zi} {a b : zi} (hr : Anc (Jz G l) a b) : Anc G a b :=
 Rch.mono (fun _ hy => (jR.1 hy).1) (fun y z hy _ hz => by
  rw [ziD h, if_neg (jR.1 hy).2] at hz
  exact (List.mem_filter.1 hz).1) hr
theorem ze1 (h : GOk G) {q : zi} (hq : q ∈ ids G) : ∃ r, qm G [q] = q :: r := by
 obtain ⟨n, hn, rfl⟩ := vJ.1 hq
 obtain ⟨A, B, e⟩ := List.append_of_mem hn
 have hA : ∀ y ∈ ids A, ¬ Anc G y n.id := by
  intro y hy hr
  obtain ⟨m, hm, rfl⟩ := vJ.1 hy
  obtain ⟨A1, B1, rfl⟩ := List.append_of_mem hm
  have h1 := zbd h hr A1 m (B1 ++ n :: B) (by rw [e]; simp) rfl
  have h2 := h.nd
  rw [e] at h2
  simp only [ids, List.map_append, List.map_cons, List.append_assoc, List.cons_append, List.map_nil] at h1 h2
  obtain ⟨-, h3, h4⟩ := List.nodup_append.1 h2
  rcases List.mem_append.1 h1 with h1 | h1
  ·exact h4 _ h1 n.id (by simp) rfl
  ·obtain ⟨h5, -⟩ := List.nodup_cons.1 h3
   rw [List.mem_singleton] at h1
   exact h5 (by rw [← h1]; simp)
 unfold qm
 have e2 : ids G = ids A ++ (n.id :: ids B) := by rw [e]; simp [ids]
 rw [e2, List.filter_append, List.filter_eq_nil_iff.2, List.nil_append, List.filter_cons_of_pos]
 ·exact ⟨_, rfl⟩
 ·simp only [decide_eq_true_eq]
  exact ⟨n.id, by simp, .refl hq⟩
 ·intro y hy
  simp only [decide_eq_true_eq]
  rintro ⟨a, ha, hr⟩
  rw [List.mem_singleton.1 ha] at hr
  exact hA y hy hr
end Go.Proofs.YtdkkjchclkjleaaGreatDoor

/- Nodes in memory: types. -/
namespace Go.Proofs.YtdkkjchclkjleaaGreatDoor
open Go Go.RowKit Go.Maps Go.MapKept
theorem jN : Tryz.prog.underlying 197 = some (.map 41 196) := by kernel_rfl
theorem qO : Tryz.prog.underlying 120 = some (.map 41 3) := by kernel_rfl
theorem zfS (w : World) : (zeroValue 3).run Tryz.prog w = .ok (.int .i64 0) w := by kernel_rfl
theorem zda (w : World) : (zeroValue 196).run Tryz.prog w = .ok (.pointer none) w := by kernel_rfl
end Go.Proofs.YtdkkjchclkjleaaGreatDoor

/- pappusref08.SameIds; pappusref11.Has. -/
namespace Go.Proofs.YtdkkjchclkjleaaGreatDoor
open Go Go.RowKit Go.Maps Go.MapKept
set_option maxRecDepth 20000 in
set_option maxHeartbeats 2000000 in
theorem zcU (w : World) {u v : Value} {ks ls : List zi} (hu : yV w u ks) (hv : yV w v ls) (hN : ks.length ≤ 100000) (_ : ls.length ≤ 100000) :
  Calls Tryz.prog 18 #[u, v] w fun e w' => ∃ b, e = .returned (.bool b) ∧ (b = true ↔ ks = ls) ∧ Fr No w w' := by
 obtain ⟨dK, uK, rK⟩ := yj
 obtain ⟨ua, uc, rfl⟩ := hu.2.form
 obtain ⟨va, vc, rfl⟩ := hv.2.form
 have HU := Hd hu
 have HV := Hd hv
 clear hu hv
 by_cases hlen : ks.length = ls.length
 ·have j1 : (ks.length : Int) = (ls.length : Int) := by omega
  have HLE := Hd hlen
  clear hlen
  go_enter Tryz.func18, Tryz.ntmps18
  go_wp2
  go_loopw [13] (fun iv wr => ∃ n : Nat, iv = .int .i64 n ∧ n ≤ ks.length ∧ ks.take n = ls.take n ∧ Fr No w wr) (fun iv _ => ks.length - (intOf iv).toNat)
  case atStart => exact ⟨0, rfl, Nat.zero_le _, by simp, Fr.refl _ _⟩
  case round =>
   obtain ⟨n, rfl, hn, hni, fr⟩ := hrel
   have FR := Hd fr
   have NI := Hd hni
   clear fr hni
   by_cases h : n < ks.length
   ·have i1 : (n : Int) < (ks.length : Int) := by omega
    have i2 : (n : Int) < (ls.length : Int) := by omega
    obtain ⟨x, hx⟩ : ∃ x, ks[n]? = some x := ⟨_, List.getElem?_eq_getElem h⟩
    obtain ⟨y, hy⟩ : ∃ y, ls[n]? = some y := ⟨_, List.getElem?_eq_getElem (by rw [← HLE.out]; exact h)⟩
    obtain ⟨bx, ox, cx, hvx, hrx, -⟩ := (HU.out.keep FR.out).at_ hx
    cases hvx
    obtain ⟨by', oy, cy, hvy, hry, -⟩ := (HV.out.keep FR.out).at_ hy
    cases hvy
    have OX := Hd (HU.out.1 x (List.mem_of_getElem? hx))
    have OY := Hd (HV.out.1 y (List.mem_of_getElem? hy))
    have HX := Hd (zE OX.out)
    have HY := Hd (zE OY.out)
    have R1 := Hd hrx
    have R2 := Hd hry
    have TX := Hd (show ks.take (n + 1) = ks.take n ++ [x] by rw [List.take_add_one, hx]; rfl)
    have TY := Hd (show ls.take (n + 1) = ls.take n ++ [y] by rw [List.take_add_one, hy]; rfl)
    clear hrx hry hx hy
    by_cases hxk : x = y
    ·have HE := Hd (show (zj x).toArray = (zj y).toArray by simp [hxk])
     have NI2 := Hd (show ks.take (n + 1) = ls.take (n + 1) by rw [TX.out, TY.out, NI.out, hxk])
     clear hxk
     have g0 : Fr No wr wr.drew := by (repeat (first | with_reducible exact Fr.refl _ _ | with_reducible assumption | with_reducible refine Fr.drew ?_ | with_reducible refine Fr.drewN ?_ _ | with_reducible refine Fr.alloc ?_ _ | with_reducible refine Fr.setCell ?_ _ (.inl (by simp <;> omega)) _))
     have HS := Hd (fun (W : World) (f : Fr No wr W) => (⟨zb R1.out f id, zb R2.out f id⟩ : W.rangeAt bx (ox + n * 32) (zj x) ∧ W.rangeAt by' (oy + n * 32) (zj y)))
     go_wp2
     refine zv [false, false, false, false, false, false, false, false, false] (fun W => W.rangeAt bx (ox + n * 32) (zj x) ∧ W.rangeAt by' (oy + n * 32) (zj y)) (by kernel_rfl) (by kernel_rfl) ?_ (fun K hK => ?_)
     ·exact HS.out _ g0
     repeat (first | ((first | with_reducible refine zx ?_ | ((with_reducible refine zu ?_ ?_); (focus rfl))); apply Exists.intro; refine ⟨?_, ?_⟩; (focus (first | exact zD (ty := 41) rfl (fun w h => h.1) uK rK (by rw [HX.out]; exact zr) | exact zD (ty := 41) rfl (fun w h => h.2) uK rK (by rw [HY.out]; exact zr) | exact fun w' h => xy.exec_neq (u := (zj x).toArray) (v := (zj y).toArray) rfl rfl rfl (yd OX.out) (yd OY.out) true ⟨fun _ => HE.out, fun _ => rfl⟩ w' | (intro w' hS; obtain _ := hS; go_simp; (try with_reducible rfl); done))); try simp only [Act.put, pA, pB, pC]) | ((first | ((with_reducible refine zg (c := false) ?_ ?_ ?_); (focus rfl); (focus rfl)) | ((with_reducible refine zg (c := true) ?_ ?_ ?_); (focus rfl); (focus rfl)) | ((with_reducible refine zt ?_ ?_); (focus rfl))); try simp only [Act.put, pA, pB, pC]))
     refine zM (hK.out _ _ ?_)
     have G1 := Hd g0
     clear g0 HS
     go_wp2
     go_roundw
     case rel => exact ⟨n + 1, by simp, by omega, NI2.out, FR.out.trans0 G1.out⟩
     case measure => show ks.length - (n + 1) < ks.length - n; omega
    ·have HE := Hd (show ¬ (zj x).toArray = (zj y).toArray from fun e => hxk (XX (by simpa using e)))
     have NE := Hd (show ks ≠ ls from fun e => hxk (by
      have h1 := TX.out
      have h2 := TY.out
      rw [e] at h1
      rw [h1] at h2
      have h3 := congrArg List.getLast? h2
      simpa using h3))
     clear hxk
     have g0 : Fr No wr wr.drew := by (repeat (first | with_reducible exact Fr.refl _ _ | with_reducible assumption | with_reducible refine Fr.drew ?_ | with_reducible refine Fr.drewN ?_ _ | with_reducible refine Fr.alloc ?_ _ | with_reducible refine Fr.setCell ?_ _ (.inl (by simp <;> omega)) _))
     have HS := Hd (fun (W : World) (f : Fr No wr W) => (⟨zb R1.out f id, zb R2.out f id⟩ : W.rangeAt bx (ox + n * 32) (zj x) ∧ W.rangeAt by' (oy + n * 32) (zj y)))
     go_wp2
     refine zv [false, false, false, false, false, false, false, false, false] (fun W => W.rangeAt bx (ox + n * 32) (zj x) ∧ W.rangeAt by' (oy + n * 32) (zj y)) (by kernel_rfl) (by kernel_rfl) ?_ (fun K hK => ?_)
     ·exact HS.out _ g0
     repeat (first | ((first | with_reducible refine zx ?_ | ((with_reducible refine zu ?_ ?_); (focus rfl))); apply Exists.intro; refine ⟨?_, ?_⟩; (focus (first | exact zD (ty := 41) rfl (fun w h => h.1) uK rK (by rw [HX.out]; exact zr) | exact zD (ty := 41) rfl (fun w h => h.2) uK rK (by rw [HY.out]; exact zr) | exact fun w' h => xy.exec_neq (u := (zj x).toArray) (v := (zj y).toArray) rfl rfl rfl (yd OX.out) (yd OY.out) false ⟨fun e => (by cases e), fun e => absurd e HE.out⟩ w' | (intro w' hS; obtain _ := hS; go_simp; (try with_reducible rfl); done))); try simp only [Act.put, pA, pB, pC]) | ((first | ((with_reducible refine zg (c := false) ?_ ?_ ?_); (focus rfl); (focus rfl)) | ((with_reducible refine zg (c := true) ?_ ?_ ?_); (focus rfl); (focus rfl)) | ((with_reducible refine zt ?_ ?_); (focus rfl))); try simp only [Act.put, pA, pB, pC]))
     refine zM (hK.out _ _ ?_)
     have G1 := Hd g0
     clear g0 HS
     go_wp2
     go_ret
     exact ⟨false, rfl, by simp [NE.out], FR.out.trans0 G1.out⟩
   ·have i1 : ¬ (n : Int) < (ks.length : Int) := by omega
    have i2 : n = ks.length := by omega
    have FIN : ks = ls := by have := NI.out; rw [i2, List.take_length, HLE.out, List.take_length] at this; exact this
    have HF := Hd FIN
    clear FIN i2
    go_wp2
    go_ret
    first | exact ⟨true, rfl, by simp [HF.out], FR.out⟩ | exact .inr ⟨rfl, HF.out, FR.out⟩ | exact .inl ⟨rfl, HF.out, FR.out⟩
 ·have j1 : ¬ (ks.length : Int) = (ls.length : Int) := by omega
  have NE := Hd (show ks ≠ ls from fun e => hlen (by rw [e]))
  clear hlen
  go_enter Tryz.func18, Tryz.ntmps18
  go_wp2
  go_ret
  exact ⟨false, rfl, by simp [NE.out], Fr.refl _ _⟩
set_option maxRecDepth 20000 in
set_option maxHeartbeats 2000000 in
theorem zaE (w : World) {v : Value} {ks : List zi} (hl : yV w v ks) (hN : ks.length ≤ 100000) (k : zi) (hk : zQ k) :
  Calls Tryz.prog 17 #[v, .agg (zj k).toArray] w fun e w' => ∃ b, e = .returned (.bool b) ∧ (b = true ↔ k ∈ ks) ∧ Fr No w w' := by
 obtain ⟨dK, uK, rK⟩ := yj
 obtain ⟨va, vc, rfl⟩ := hl.2.form
 have HL := Hd hl
 have HK := Hd (zE hk)
 have RB := Hd (zC w (zj k) 41)
 have F0 := Hd (show Fr No w (w.alloc (.cells (zj k).toArray 41)) by (repeat (first | with_reducible exact Fr.refl _ _ | with_reducible assumption | with_reducible refine Fr.drew ?_ | with_reducible refine Fr.drewN ?_ _ | with_reducible refine Fr.alloc ?_ _ | with_reducible refine Fr.setCell ?_ _ (.inl (by simp <;> omega)) _)))
 have S0 := Hd (show w.heap.size < (w.alloc (.cells (zj k).toArray 41)).heap.size by simp)
 clear hl
 go_enter Tryz.func17, Tryz.ntmps17
 go_wp2
 generalize w.alloc (.cells (zj k).toArray 41) = w1 at *
 go_loopw [9] (fun iv wr => ∃ n : Nat, iv = .int .i64 n ∧ n ≤ ks.length ∧ k ∉ ks.take n ∧ Fr No w1 wr) (fun iv _ => ks.length - (intOf iv).toNat)
 case atStart => exact ⟨0, rfl, Nat.zero_le _, by simp, Fr.refl _ _⟩
 case round =>
  obtain ⟨n, rfl, hn, hni, fr⟩ := hrel
  have FR := Hd fr
  have NI := Hd hni
  clear fr hni
  by_cases h : n < ks.length
  ·have i1 : (n : Int) < (ks.length : Int) := by omega
   obtain ⟨x, hx⟩ : ∃ x, ks[n]? = some x := ⟨_, List.getElem?_eq_getElem h⟩
   obtain ⟨b, off, c, hv, hr, hb⟩ := (HL.out.keep (F0.out.trans0 FR.out)).at_ hx
   cases hv
   have HX := Hd (zE (HL.out.1 x (List.mem_of_getElem? hx)))
   have R1 := Hd hr
   have RB2 := Hd (zb RB.out FR.out id)
   have OX := Hd (HL.out.1 x (List.mem_of_getElem? hx))
   have RN := Hd (zC wr (zj x) 41)
   have RB3 := Hd (zb RB2.out ((Fr.refl No wr).alloc (.cells (zj x).toArray 41)) id)
   have FA := Hd (show Fr No wr (wr.alloc (.cells (zj x).toArray 41)) by (repeat (first | with_reducible exact Fr.refl _ _ | with_reducible assumption | with_reducible refine Fr.drew ?_ | with_reducible refine Fr.drewN ?_ _ | with_reducible refine Fr.alloc ?_ _ | with_reducible refine Fr.setCell ?_ _ (.inl (by simp <;> omega)) _)))
   clear hr hb
   by_cases hxk : x = k
   ·subst hxk
    have HM := Hd (show x ∈ ks from List.mem_of_getElem? hx)
    clear hx
    go_wp2_with (first | (refine zd rfl (zf (ty := 41) rfl rfl R1.out uK rK (by rw [HX.out]; exact zr)) ?_) | (refine zq rfl (zm (w := wr) (ty := 41) rfl rfl rfl (by rw [HX.out]; rfl) (by rw [HX.out]; exact zr) zV) ?_) | (refine zd rfl (zf (ty := 41) rfl rfl RN.out uK rK (by rw [HX.out]; exact zr)) ?_) | (refine zd rfl (zf (ty := 41) rfl rfl RB3.out uK rK (by rw [HX.out]; exact zr)) ?_) | (refine zd rfl (xy.exec_eql rfl rfl rfl (yd OX.out) (yd OX.out) true (by simp) _) ?_))
    go_ret
    exact ⟨true, rfl, by simp [HM.out], (F0.out.trans0 FR.out).trans0 FA.out⟩
   ·have NE := Hd (show ¬ (zj x).toArray = (zj k).toArray from fun e => hxk (yS (congrArg Value.agg e)))
    have NI2 := Hd (show k ∉ ks.take (n + 1) by
     rw [List.take_add_one, hx]
     simp only [Option.toList_some, List.mem_append, List.mem_singleton]
     exact fun e => e.elim NI.out (fun e => hxk e.symm))
    clear hx
    go_wp2_with (first | (refine zd rfl (zf (ty := 41) rfl rfl R1.out uK rK (by rw [HX.out]; exact zr)) ?_) | (refine zq rfl (zm (w := wr) (ty := 41) rfl rfl rfl (by rw [HX.out]; rfl) (by rw [HX.out]; exact zr) zV) ?_) | (refine zd rfl (zf (ty := 41) rfl rfl RN.out uK rK (by rw [HX.out]; exact zr)) ?_) | (refine zd rfl (zf (ty := 41) rfl rfl RB3.out uK rK (by rw [HK.out]; exact zr)) ?_) | (refine zd rfl (xy.exec_eql rfl rfl rfl (yd OX.out) (yd hk) false ⟨fun e => (by cases e), fun e => absurd e NE.out⟩ _) ?_))
    go_roundw
    case rel => exact ⟨n + 1, by simp, by omega, NI2.out, FR.out.trans0 FA.out⟩
    case measure => show ks.length - (n + 1) < ks.length - n; omega
  ·have i1 : ¬ (n : Int) < (ks.length : Int) := by omega
   have i2 : n = ks.length := by omega
   have FIN : k ∉ ks := by have := NI.out; rw [i2, List.take_length] at this; exact this
   have HF := Hd FIN
   clear FIN i2
   go_wp2
   go_ret
   exact .inl ⟨rfl, HF.out, F0.out.trans0 FR.out⟩
set_option maxRecDepth 20000 in
set_option maxHeartbeats 2000000 in
theorem Zk (w : World) {v : Value} {H : List zi} (hh : yV w v H) (hN : H.length ≤ 100000) :
  Calls Tryz.prog 42 #[v] w fun e w' => ∃ v', e = .returned v' ∧ w'.ownsRow w.heap.size 41 32 v' H.length (H.flatMap zj) ∧ Fr No w w' := by
 have q22 : ∀ (w : World) (a : Option Addr) (n c n' c' : Nat), (binOp .eql 38 (.slice a n c) (.slice none n' c')).run Tryz.prog w = .ok (.bool a.isNone) w := fun w a n c n' c' => Lib.run_eql_slice_nil w _ _ a n c n' c' xB
 by_cases hnil : v = .slice none 0 0
 ·subst hnil
  have hl : H = [] := by
   obtain ⟨a, c, h⟩ := hh.2.form
   injection h with h1 h2 h3
   exact List.eq_nil_of_length_eq_zero h2.symm
  subst hl
  clear hh
  go_enter Tryz.func42, Tryz.ntmps42
  go_wp2
  go_ret
  exact ⟨_, rfl, World.ownsRow_nil _ _ _ _, Fr.refl _ _⟩
 ·have hx : xq (w.alloc (.cells #[] 41)) v H.length (H.flatMap zj) := hh.2.keep ((Fr.refl _ _).alloc _)
  obtain ⟨v', w', happ, ho, hg, -, hfr⟩ := jw (P := Tryz.prog) (w.alloc (.cells #[] 41)) w.heap.size 38 38 41 32 32 _ xB xI rfl (by decide) (.slice (some ⟨w.heap.size, 0, none⟩) 0 0) 0 [] (World.ownsRow_made w #[] 0 (Nat.le_refl _) (Nat.zero_le _) rfl) v H.length (H.flatMap zj) hx (Jj hh.1) Jf (by omega) (by unfold maxLen; omega) (by simp) hnil
  have f1 : Fr No w w' := Fr.grown ((Fr.refl _ w).alloc _) hg (fun k hk => by simp [Value.ownBlock] at hk; exact .inl (by omega))
  have hform : ∃ b n c, v = .slice (some b) n c := by
   rcases hh.2 with (⟨h, _⟩ | ⟨g, go, gc, h, _⟩) | ⟨a0, gc, h, -⟩
   ·exact absurd h hnil
   ·exact ⟨_, _, _, h⟩
   ·exact ⟨_, _, _, h⟩
  obtain ⟨b, n, c, rfl⟩ := hform
  have HAP := Hd happ
  have HO := Hd ho
  have F1 := Hd f1
  clear hx happ ho hg hfr f1 hh hnil
  go_enter Tryz.func42, Tryz.ntmps42
  go_wp2_with (at_builtin; refine zW rfl rfl rfl rfl HAP.out ?_)
  go_ret
  exact ⟨_, rfl, by simpa using HO.out, F1.out⟩
end Go.Proofs.YtdkkjchclkjleaaGreatDoor
