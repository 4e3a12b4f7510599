/- stem, plain: what cut and take leave; what is taken is accepted, one behind the other. -/
import Derived.Test.YtdkkjchclkjleaaGreatDoorSG35
set_option linter.unusedVariables false
set_option linter.unusedSimpArgs false
set_option linter.unnecessarySimpa false
set_option linter.all false
namespace Go.Proofs.YtdkkjchclkjleaaGreatDoor
open Go
theorem erase_filter : ∀ {l : List zi} {i : Nat} {x : zi}, l.Nodup → l[i]? = some x → l.eraseIdx i = l.filter fun y => decide (y ≠ x)
 | [], i, x, _, h => by simp at h
 | a :: l, 0, x, hn, h => by
  obtain ⟨h1, h2⟩ := List.nodup_cons.1 hn
  simp at h
  subst h
  rw [List.eraseIdx_cons_zero, List.filter_cons_of_neg (by simp), List.filter_eq_self.2]
  intro y hy
  simp
  rintro rfl
  exact h1 hy
 | a :: l, i + 1, x, hn, h => by
  obtain ⟨h1, h2⟩ := List.nodup_cons.1 hn
  simp only [List.getElem?_cons_succ] at h
  rw [List.eraseIdx_cons_succ, List.filter_cons_of_pos (by simp; rintro rfl; exact h1 (List.mem_of_getElem? h)), erase_filter h2 h]
theorem QQ {α : Type} {l : List α} {n : Nat} {e : α} (h : l[n]? = some e) : l.drop n = e :: l.drop (n + 1) := by
 obtain ⟨hlt, rfl⟩ := List.getElem?_eq_some_iff.1 h
 exact List.drop_eq_getElem_cons hlt
theorem zcP {α : Type} {l : List α} {n : Nat} {e : α} (h : l[n]? = some e) : l = l.take n ++ e :: l.drop (n + 1) := by rw [← QQ h, List.take_append_drop]
def jJ (l : List StE) (K : List zi) (n : Nat) : List StE := (l.take n).filter (fun e => decide (e.id ∉ K)) ++ l.drop n
def vu (l : List StE) (K : List zi) (n : Nat) : List StE := (l.take n).filter fun e => decide (e.id ∈ K)
section
variable {l : List StE} {K : List zi} {n : Nat} {e : StE}
theorem zdO : jJ l K 0 = l := by simp [jJ]
theorem zfd : jJ l K l.length = l.filter fun e => decide (e.id ∉ K) := by simp [jJ]
theorem zdJ : vu l K 0 = [] := by simp [vu]
theorem zfn : vu l K l.length = l.filter fun e => decide (e.id ∈ K) := by simp [vu]
theorem zfl : (vu l K n).length ≤ n := by
 unfold vu
 have h1 := List.length_filter_le (fun e : StE => decide (e.id ∈ K)) (l.take n)
 have h2 : (l.take n).length ≤ n := by rw [List.length_take]; omega
 omega
theorem zdY (h : l[n]? = some e) (hk : e.id ∉ K) : jJ l K (n + 1) = jJ l K n ∧ vu l K (n + 1) = vu l K n := by
 unfold jJ vu
 rw [List.take_add_one, h, QQ h]
 simp [List.filter_append, hk]
theorem zbf (h : l[n]? = some e) : yc l = yc (l.take n) ++ e.id :: yc (l.drop (n + 1)) := by
 conv => lhs; rw [zcP h]
 simp [yc]
theorem zfb (hn : (yc l).Nodup) (h : l[n]? = some e) (hk : e.id ∈ K) : jJ l K (n + 1) = zaw (jJ l K n) e.id ∧ vu l K (n + 1) = vu l K n ++ [e] := by
 rw [zbf h] at hn
 obtain ⟨h1, h2, h3⟩ := List.nodup_append.1 hn
 obtain ⟨h4, h5⟩ := List.nodup_cons.1 h2
 constructor
 ·unfold jJ zaw
  have e1 : [e].filter (fun a => decide (a.id ∉ K)) = [] := by simp [hk]
  have e2 : (e :: l.drop (n + 1)).filter (fun a => decide (a.id ≠ e.id)) = l.drop (n + 1) := by
   rw [List.filter_cons_of_neg (by simp), List.filter_eq_self]
   intro a ha
   simp only [decide_eq_true_eq]
   exact fun hae => h4 (by rw [← hae]; exact List.mem_map.2 ⟨a, ha, rfl⟩)
  have e3 : ((l.take n).filter (fun a => decide (a.id ∉ K))).filter (fun a => decide (a.id ≠ e.id)) = (l.take n).filter (fun a => decide (a.id ∉ K)) := by
   rw [List.filter_eq_self]
   intro a ha
   simp only [decide_eq_true_eq]
   exact fun hae => h3 a.id (List.mem_map.2 ⟨a, (List.mem_filter.1 ha).1, rfl⟩) e.id (.head _) hae
  rw [List.take_add_one, h, QQ h, List.filter_append, List.filter_append, e2, e3]
  simp only [Option.toList_some]
  rw [e1, List.append_nil]
 ·unfold vu
  rw [List.take_add_one, h]
  simp [List.filter_append, hk]
theorem zey (h : l[n]? = some e) : e ∈ jJ l K n := by
 unfold jJ
 rw [QQ h]
 simp
theorem zg3 {x : zi} : ∀ e ∈ zaw l x, e ∈ l := fun _ h => (List.mem_filter.1 h).1
end
theorem Qs : ∀ (r s : List StE) (want : List zi), (∀ e ∈ r, e.id ∉ want) → xH (r ++ s) want = xH s want
 | [], _, _, _ => rfl
 | a :: r, s, want, h => by
  rw [List.cons_append, show xH (a :: (r ++ s)) want = if a.id ∈ want then a.id :: xH (r ++ s) ((zS a.tx).map (·.tx) ++ want) else xH (r ++ s) want by rw [xH], if_neg (h a (.head _)), Qs r s want (fun e he => h e (.tail _ he))]
theorem zcv {l : List StE} (hn : (yc l).Nodup) {e : StE} (he : e ∈ l) : ∃ P, yC l e.id = P ++ [e] := by
 obtain ⟨n, hlt, hx⟩ := List.getElem_of_mem he
 have h : l[n]? = some e := by rw [List.getElem?_eq_getElem hlt, hx]
 have hs := zbf h
 rw [hs] at hn
 obtain ⟨h1, h2, h3⟩ := List.nodup_append.1 hn
 obtain ⟨h4, h5⟩ := List.nodup_cons.1 h2
 have hl := zcP h
 have hA : yM l e.id = xH (e :: (l.take n).reverse) [e.id] := by
  unfold yM
  conv => lhs; rw [hl]
  rw [List.reverse_append, List.reverse_cons, List.append_assoc]
  refine Qs _ _ _ (fun a ha => ?_)
  rw [List.mem_singleton]
  exact fun e' => h4 (by rw [← e']; exact List.mem_map.2 ⟨a, List.mem_reverse.1 ha, rfl⟩)
 refine ⟨(l.take n).filter (fun a => decide (a.id ∈ yM l e.id)), ?_⟩
 unfold yC
 conv => lhs; rw [show (l.filter fun a => decide (a.id ∈ yM l e.id)) = ((l.take n ++ e :: l.drop (n + 1)).filter fun a => decide (a.id ∈ yM l e.id)) by rw [← hl]]
 rw [List.filter_append, List.filter_cons_of_pos (by simpa using VS he)]
 congr 2
 rw [List.filter_eq_nil_iff]
 intro a ha
 simp only [decide_eq_true_eq]
 intro hc
 rw [hA] at hc
 have := Zm _ _ _ hc
 unfold yc at this
 rw [List.map_cons, List.map_reverse] at this
 rcases List.mem_cons.1 this with h6 | h6
 ·exact h4 (by rw [← h6]; exact List.mem_map.2 ⟨a, ha, rfl⟩)
 ·exact h3 a.id (List.mem_reverse.1 h6) a.id (.tail _ (List.mem_map.2 ⟨a, ha, rfl⟩)) rfl
theorem Jh {α : Type} {p : α → Bool} : ∀ {l : List α} {k : Nat} {e : α}, (l.filter p)[k]? = some e → ∃ A B, l = A ++ e :: B ∧ A.filter p = (l.filter p).take k ∧ p e = true
 | [], k, e, h => by simp at h
 | a :: l, k, e, h => by
  by_cases hp : p a = true
  ·rw [List.filter_cons_of_pos hp] at h ⊢
   cases k with
   | zero =>
    simp at h
    subst h
    exact ⟨[], l, rfl, by simp, hp⟩
   | succ k =>
    simp only [List.getElem?_cons_succ] at h
    obtain ⟨A, B, h1, h2, h3⟩ := Jh h
    exact ⟨a :: A, B, by rw [h1]; rfl, by rw [List.filter_cons_of_pos hp, h2]; rfl, h3⟩
  ·rw [List.filter_cons_of_neg hp] at h ⊢
   obtain ⟨A, B, h1, h2, h3⟩ := Jh h
   exact ⟨a :: A, B, by rw [h1]; rfl, by rw [List.filter_cons_of_neg hp, h2], h3⟩
theorem J8.split {S : List zy} {l : List StE} (h : J8 S l) : ∀ {A : List StE} {e : StE} {B : List StE}, l = A ++ e :: B → qV S [] [] A e.tx = 0 ∧ e.id = idH e.tx := by
 induction h with
 | nil => intro A e B h; simp at h
 | @snoc A' e' hA hk hi ih =>
  intro A e B h
  rcases List.eq_nil_or_concat B with rfl | ⟨B', b, rfl⟩
  ·obtain ⟨h1, h2⟩ := List.append_inj' h rfl
   injection h2 with h2
   subst h1 h2
   exact ⟨hk, hi⟩
  ·rw [List.concat_eq_append, show A ++ e :: (B' ++ [b]) = (A ++ e :: B') ++ [b] by simp] at h
   exact ih (List.append_inj' h rfl).1
theorem J8.val {S : List zy} {l : List StE} (h : J8 S l) : SVal l := by
 induction h with
 | nil => exact SVal.nil
 | @snoc A e hA hk hi ih =>
  have := ih.keep (S := S) (I := []) (L := []) e.tx
  unfold JJ at this
  rw [if_pos hk] at this
  obtain ⟨i, t⟩ := e
  dsimp only at hi hk this ⊢
  subst hi
  exact this
theorem J8.keep {S : List zy} {l : List StE} (h : J8 S l) (t : TxD) : J8 S (JJ S [] [] l t) := by
 unfold JJ
 split
 ·rename_i h0; exact h.snoc h0 rfl
 ·exact h
noncomputable def jd (S : List zy) (T : List StE) (k : Nat) : List z7 := (T.take k).foldl (fun P e => JR S [] P e.tx 0) []
theorem Qh (S : List zy) (T : List StE) : jd S T 0 = [] := by simp [jd]
theorem Qt {S : List zy} {T : List StE} {k : Nat} {e : StE} (h : T[k]? = some e) : jd S T (k + 1) = JR S [] (jd S T k) e.tx 0 := by
 unfold jd
 rw [List.take_add_one, h, List.foldl_append]
 rfl
theorem zeQ {P : List z7} {l : List StE} {a : z7} {e : StE} (h : JI P = both l) (h1 : a.id = e.id) (h2 : a.tx = e.tx) : JI (P ++ [a]) = both (l ++ [e]) := by
 unfold JI both at *
 rw [List.map_append, List.map_append, h]
 simp [h1, h2]
theorem zaW {S : List zy} {l : List StE} (hk : J8 S l) (x : zi) : ∀ k, k ≤ (yC l x).length → jg S [] (jd S (yC l x) k) ∧ JI (jd S (yC l x) k) = both ((yC l x).take k)
 | 0, _ => by
  rw [Qh]
  exact ⟨.nil, by simp [JI, both]⟩
 | k + 1, h => by
  obtain ⟨h1, h2⟩ := zaW hk x k (by omega)
  obtain ⟨e, he⟩ : ∃ e, (yC l x)[k]? = some e := ⟨_, List.getElem?_eq_getElem (by omega)⟩
  obtain ⟨A, B, a1, a2, a3⟩ := Jh (p := fun e : StE => decide (e.id ∈ yM l x)) he
  obtain ⟨b1, b2⟩ := hk.split a1
  have hcl := Xm hk.val.nd x A e B a1 (by simpa using a3)
  have h2' : JI (jd S (yC l x) k) = both (A.filter fun e => decide (e.id ∈ yM l x)) := by rw [a2]; exact h2
  obtain ⟨c1, c2, c3⟩ := zan b1 (by simpa using a3) hcl h2' h1.gok
  rw [Qt he]
  refine ⟨h1.acc e.tx 0, ?_⟩
  rw [c3, List.take_add_one, he]
  exact zeQ h2 b2.symm rfl
theorem zhb {S : List zy} {l : List StE} (hk : J8 S l) (x : zi) {k : Nat} {e : StE} (he : (yC l x)[k]? = some e) : Jl S [] (jd S (yC l x) k) e.tx = 0 ∧ Jy S [] (jd S (yC l x) k) e.tx = [] ∧ e.id = idH e.tx ∧ yt e.tx = 0 := by
 have hlt := (List.getElem?_eq_some_iff.1 he).1
 obtain ⟨h1, h2⟩ := zaW hk x k (by omega)
 obtain ⟨A, B, a1, a2, a3⟩ := Jh (p := fun e : StE => decide (e.id ∈ yM l x)) he
 obtain ⟨b1, b2⟩ := hk.split a1
 have hcl := Xm hk.val.nd x A e B a1 (by simpa using a3)
 have h2' : JI (jd S (yC l x) k) = both (A.filter fun e => decide (e.id ∈ yM l x)) := by rw [a2]; exact h2
 obtain ⟨c1, c2, c3⟩ := zan b1 (by simpa using a3) hcl h2' h1.gok
 exact ⟨c1, c2, b2, (keep0 b1).1⟩
end Go.Proofs.YtdkkjchclkjleaaGreatDoor
