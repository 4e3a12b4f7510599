/- Points, outputs, coins; sets of coins in the order of their points. Plain: no program. -/
import Derived.Lib.Bytealg
import Derived.Test.YtdkkjchclkjleaaGreatDoorProg
import Derived.Lib.Hide
import Derived.Maps.RangeRun
import Derived.Test.YtdkkjchclkjleaaGreatDoorSG3
import Derived.Test.YtdkkjchclkjleaaGreatDoorSG7
import Derived.Test.YtdkkjchclkjleaaGreatDoorSG8
import Derived.Test.YtdkkjchclkjleaaGreatDoorSG1
set_option linter.unusedVariables false
set_option linter.unusedSimpArgs false
set_option linter.unnecessarySimpa false
set_option linter.all false
namespace Go
structure zF where
 tx : List Int
 n : Int
structure yF where
 value : Int
 lock : List Int
structure zy where
 at_ : zF
 out : yF
instance : DecidableEq zF := fun a b => if h : a.tx = b.tx ∧ a.n = b.n then isTrue (by cases a; cases b; simp_all) else isFalse (fun e => h (by rw [e]; exact ⟨rfl, rfl⟩))
def zQ (l : List Int) : Prop := l.length = 32 ∧ ∀ x ∈ l, 0 ≤ x ∧ x ≤ 255
def zF.ok (p : zF) : Prop := zQ p.tx ∧ 0 ≤ p.n ∧ p.n ≤ 4294967295
def yF.ok (x : yF) : Prop := (0 ≤ x.value ∧ x.value ≤ 18446744073709551615) ∧ zQ x.lock
def zy.ok (c : zy) : Prop := c.at_.ok ∧ c.out.ok
def jZ : List Int → List Int → Int
 | [], [] => 0
 | [], _ :: _ => -1
 | _ :: _, [] => 1
 | a :: as0, b :: bs => if a < b then -1 else if b < a then 1 else jZ as0 bs
theorem za6 : ∀ a, jZ a a = 0
 | [] => rfl
 | x :: a => by simp [jZ, za6 a]
theorem Yo : ∀ {a b}, jZ a b = 0 → a = b
 | [], [], _ => rfl
 | [], _ :: _, h => by simp [jZ] at h
 | _ :: _, [], h => by simp [jZ] at h
 | x :: a, y :: b, h => by
  unfold jZ at h
  split at h
  ·omega
  ·split at h
   ·omega
   ·have : x = y := by omega
    rw [this, Yo h]
theorem zdc : ∀ a b, jZ b a = - jZ a b
 | [], [] => rfl
 | [], _ :: _ => rfl
 | _ :: _, [] => rfl
 | x :: a, y :: b => by
  unfold jZ
  by_cases h1 : x < y
  ·have : ¬ y < x := by omega
   simp [h1, this]
  ·by_cases h2 : y < x
   ·simp [h1, h2]
   ·simp only [h1, h2, if_false]
    exact zdc a b
theorem Vk : ∀ {a b c}, jZ a b = -1 → jZ b c = -1 → jZ a c = -1
 | [], [], _, h, _ => by simp [jZ] at h
 | [], _ :: _, [], _, h => by simp [jZ] at h
 | [], _ :: _, _ :: _, _, _ => rfl
 | _ :: _, [], _, h, _ => by simp [jZ] at h
 | _ :: _, _ :: _, [], _, h => by simp [jZ] at h
 | x :: a, y :: b, z :: c, h1, h2 => by
  unfold jZ at *
  split at h1
  ·split at h2
   ·rw [if_pos (by omega)]
   ·split at h2
    ·omega
    ·rw [if_pos (by omega)]
  ·split at h1
   ·omega
   ·split at h2
    ·rw [if_pos (by omega)]
    ·split at h2
     ·omega
     ·rw [if_neg (by omega), if_neg (by omega)]
      exact Vk h1 h2
theorem zbh : ∀ a b, jZ a b = -1 ∨ jZ a b = 0 ∨ jZ a b = 1
 | [], [] => .inr (.inl rfl)
 | [], _ :: _ => .inl rfl
 | _ :: _, [] => .inr (.inr rfl)
 | x :: a, y :: b => by
  unfold jZ
  split
  ·exact .inl rfl
  ·split
   ·exact .inr (.inr rfl)
   ·exact zbh a b
def zfi (a b : Int) : Int := if a < b then -1 else if b < a then 1 else 0
def Ja (p q : zF) : Int := if jZ p.tx q.tx = 0 then zfi p.n q.n else jZ p.tx q.tx
def jt (p q : zF) : Bool := decide (Ja p q = -1)
theorem zbi (p q : zF) : Ja q p = - Ja p q := by
 unfold Ja
 rw [zdc p.tx q.tx]
 by_cases h : jZ p.tx q.tx = 0
 ·rw [h]; simp [zfi]; split <;> split <;> omega
 ·rw [if_neg (by omega), if_neg h]
theorem zdV (p : zF) : Ja p p = 0 := by simp [Ja, za6, zfi]
theorem zdS {p q : zF} (h : Ja p q = 0) : p = q := by
 unfold Ja at h
 split at h
 ·rename_i h1
  have h2 := Yo h1
  unfold zfi at h
  split at h
  ·omega
  ·split at h
   ·omega
   ·cases p; cases q; simp only [zF.mk.injEq] at *; exact ⟨h2, by omega⟩
 ·contradiction
theorem zdL (p q : zF) : Ja p q = -1 ∨ Ja p q = 0 ∨ Ja p q = 1 := by
 unfold Ja
 split
 ·unfold zfi; split
  ·exact .inl rfl
  ·split
   ·exact .inr (.inr rfl)
   ·exact .inr (.inl rfl)
 ·exact zbh _ _
theorem zcI {p q r : zF} (h1 : Ja p q = -1) (h2 : Ja q r = -1) : Ja p r = -1 := by
 unfold Ja at *
 split at h1
 ·rename_i e1
  have := Yo e1
  rw [this]
  split at h2
  ·rename_i e2
   rw [if_pos e2]
   unfold zfi at *
   split at h1
   ·split at h2
    ·rw [if_pos (by omega)]
    ·split at h2 <;> omega
   ·split at h1 <;> omega
  ·rename_i e2
   rw [if_neg e2]
   exact h2
 ·split at h2
  ·rename_i e1 e2
   have := Yo e2
   rw [← this, if_neg (by omega)]
   exact h1
  ·have := Vk h1 h2
   rw [if_neg (by omega)]
   exact this
theorem Qv (p : zF) : jt p p = false := by simp [jt, zdV]
theorem Vq {p q r : zF} (h1 : jt p q = true) (h2 : jt q r = true) : jt p r = true := by
 unfold jt at *
 simp only [decide_eq_true_eq] at *
 exact zcI h1 h2
theorem zdy {p q : zF} (h : jt p q = true) : jt q p = false := by
 unfold jt at *
 simp only [decide_eq_true_eq, decide_eq_false_iff_not] at *
 rw [zbi p q]; omega
theorem zdl {p q : zF} (h1 : jt p q = false) (h2 : jt q p = false) : p = q := by
 unfold jt at *
 simp only [decide_eq_false_iff_not] at *
 rw [zbi p q] at h2
 exact zdS (by rcases zdL p q with h | h | h <;> omega)
theorem zd9 {p q : zF} (h : jt p q = true) : p ≠ q := fun e => by subst e; rw [Qv] at h; cases h
def xV (S : List zy) (p : zF) : Bool := S.any fun c => decide (c.at_ = p)
def Zx (S : List zy) (p : zF) : Option yF := (S.find? fun c => decide (c.at_ = p)).map (·.out)
def zaC (S : List zy) (c : zy) : List zy := S.takeWhile (fun x => !jt c.at_ x.at_) ++ c :: S.dropWhile (fun x => !jt c.at_ x.at_)
def vX (S l : List zy) : List zy := l.foldl zaC S
def jO (S : List zy) (ps : List zF) : List zy := S.filter fun c => !decide (c.at_ ∈ ps)
def q8 (S : List zy) : Prop := S.Pairwise fun a b => jt a.at_ b.at_ = true
theorem jS {S : List zy} {p : zF} : xV S p = true ↔ ∃ c ∈ S, c.at_ = p := by simp [xV]
theorem JX {S : List zy} {p : zF} : xV S p = false ↔ ∀ c ∈ S, c.at_ ≠ p := by simp [xV]
theorem q8.uniq {S : List zy} (h : q8 S) {a b : zy} (ha : a ∈ S) (hb : b ∈ S) (e : a.at_ = b.at_) : a = b := by
 induction h with
 | nil => cases ha
 | cons hx _ ih =>
  rcases List.mem_cons.1 ha with rfl | ha' <;> rcases List.mem_cons.1 hb with rfl | hb'
  ·rfl
  ·exact absurd e (zd9 (hx _ hb'))
  ·exact absurd e.symm (zd9 (hx _ ha'))
  ·exact ih ha' hb'
theorem Zf {S : List zy} (h : q8 S) {c : zy} (hc : c ∈ S) : Zx S c.at_ = some c.out := by
 unfold Zx
 cases e : S.find? fun x => decide (x.at_ = c.at_) with
 | none =>
  have := List.find?_eq_none.1 e c hc
  simp at this
 | some x =>
  have h1 := List.mem_of_find?_eq_some e
  have h2 := List.find?_some e
  simp only [decide_eq_true_eq] at h2
  rw [h.uniq h1 hc h2]; rfl
theorem zdZ {S : List zy} {p : zF} (h : xV S p = false) : Zx S p = none := by
 unfold Zx
 rw [List.find?_eq_none.2 (fun x hx => by have := JX.1 h x hx; simpa using this)]
 rfl
theorem zbU {S : List zy} {p : zF} : (Zx S p).isSome = xV S p := by
 rw [Bool.eq_iff_iff, jS]
 unfold Zx
 simp
theorem zbs {α : Type} {f : α → Bool} {x : α} : ∀ {L : List α}, x ∈ L.takeWhile f → f x = true
 | [], h => by cases h
 | y :: L, h => by
  rw [List.takeWhile_cons] at h
  split at h
  ·rename_i hy
   rcases List.mem_cons.1 h with rfl | h
   ·exact hy
   ·exact zbs h
  ·cases h
theorem zca {S : List zy} {c x : zy} : x ∈ zaC S c ↔ x = c ∨ x ∈ S := by
 have e := List.takeWhile_append_dropWhile (p := fun x : zy => !jt c.at_ x.at_) (l := S)
 unfold zaC
 constructor
 ·intro h
  rcases List.mem_append.1 h with h | h
  ·right; rw [← e]; exact List.mem_append.2 (.inl h)
  ·rcases List.mem_cons.1 h with h | h
   ·exact .inl h
   ·right; rw [← e]; exact List.mem_append.2 (.inr h)
 ·rintro (rfl | h)
  ·simp
  ·rw [← e] at h
   rcases List.mem_append.1 h with h | h
   ·exact List.mem_append.2 (.inl h)
   ·exact List.mem_append.2 (.inr (List.mem_cons_of_mem _ h))
theorem zeI (S : List zy) (c : zy) : (zaC S c).Perm (c :: S) := by
 unfold zaC
 refine List.perm_middle.trans ?_
 rw [List.takeWhile_append_dropWhile]
theorem zhs {S : List zy} (h : q8 S) {c : zy} (hc : xV S c.at_ = false) : q8 (zaC S c) := by
 have hne := JX.1 hc
 have e := List.takeWhile_append_dropWhile (p := fun x : zy => !jt c.at_ x.at_) (l := S)
 have ht : ∀ x ∈ S.takeWhile (fun x => !jt c.at_ x.at_), jt x.at_ c.at_ = true := by
  intro x hx
  have h1 : jt c.at_ x.at_ = false := by have := zbs hx; simpa using this
  cases h2 : jt x.at_ c.at_ with
  | true => rfl
  | false => exact absurd (zdl h2 h1) (hne x ((List.takeWhile_prefix _).subset hx))
 have hd : ∀ x ∈ S.dropWhile (fun x => !jt c.at_ x.at_), jt c.at_ x.at_ = true := by
  cases hD : S.dropWhile (fun x => !jt c.at_ x.at_) with
  | nil => intro x hx; cases hx
  | cons y D =>
   have hy : jt c.at_ y.at_ = true := by
    have := List.head?_dropWhile_not (fun x : zy => !jt c.at_ x.at_) S
    rw [hD] at this
    simpa using this
   have hs : q8 (y :: D) := by rw [← hD]; exact List.Pairwise.sublist (List.dropWhile_suffix _).sublist h
   intro x hx
   rcases List.mem_cons.1 hx with rfl | hx
   ·exact hy
   ·exact Vq hy ((List.pairwise_cons.1 hs).1 x hx)
 unfold zaC q8
 rw [List.pairwise_append]
 refine ⟨List.Pairwise.sublist (List.takeWhile_prefix _).sublist h, List.pairwise_cons.2 ⟨hd, List.Pairwise.sublist (List.dropWhile_suffix _).sublist h⟩, ?_⟩
 intro a ha b hb
 rcases List.mem_cons.1 hb with rfl | hb
 ·exact ht a ha
 ·exact Vq (ht a ha) (hd b hb)
theorem qN : ∀ {l S : List zy} {x : zy}, x ∈ vX S l ↔ x ∈ S ∨ x ∈ l
 | [], S, x => by simp [vX]
 | c :: l, S, x => by
  show x ∈ vX (zaC S c) l ↔ _
  rw [qN, zca]
  simp only [List.mem_cons]
  constructor
  ·rintro ((h | h) | h)
   ·exact .inr (.inl h)
   ·exact .inl h
   ·exact .inr (.inr h)
  ·rintro (h | h | h)
   ·exact .inl (.inr h)
   ·exact .inl (.inl h)
   ·exact .inr h
theorem Yl : ∀ (l S : List zy), (vX S l).Perm (S ++ l)
 | [], S => by simp [vX]
 | c :: l, S => by
  show (vX (zaC S c) l).Perm _
  refine (Yl l _).trans ?_
  refine ((zeI S c).append_right l).trans ?_
  exact List.perm_middle.symm
theorem Jr : ∀ {l S : List zy}, q8 S → (l.map (·.at_)).Nodup → (∀ c ∈ l, xV S c.at_ = false) → q8 (vX S l)
 | [], S, h, _, _ => h
 | c :: l, S, h, hn, hd => by
  show q8 (vX (zaC S c) l)
  rw [List.map_cons, List.nodup_cons] at hn
  refine Jr (zhs h (hd c (by simp))) hn.2 ?_
  intro x hx
  rw [JX]
  intro y hy
  rcases zca.1 hy with rfl | hy
  ·exact fun e => hn.1 (by rw [e]; exact List.mem_map.2 ⟨x, hx, rfl⟩)
  ·exact JX.1 (hd x (by simp [hx])) y hy
theorem Yr {S : List zy} {ps : List zF} (h : q8 S) : q8 (jO S ps) := List.Pairwise.filter _ h
theorem Jm {S : List zy} {ps : List zF} {x : zy} : x ∈ jO S ps ↔ x ∈ S ∧ x.at_ ∉ ps := by simp [jO]
theorem q8.same {S R : List zy} (h : q8 S) (h' : q8 R) (hm : ∀ x, x ∈ S ↔ x ∈ R) : S = R := by
 have nd : ∀ {T : List zy}, q8 T → T.Nodup := fun {T} h => by unfold List.Nodup; exact List.Pairwise.imp (fun {a b} h e => by subst e; rw [Qv] at h; cases h) h
 refine List.Perm.eq_of_pairwise (le := fun a b : zy => jt a.at_ b.at_ = true) ?_ h h' ((List.perm_ext_iff_of_nodup (nd h) (nd h')).2 hm)
 intro a b _ _ h1 h2
 rw [zdy h1] at h2; cases h2
end Go

/- Structs in structs: keys and comparisons, to any depth. -/
namespace Go
open Go.RowKit Go.Maps Go.MapKept
section
variable {P : Program} {S : World → Prop} {a : Act} {dst : Option Tmp} {ty ty2 : TypeId} {pos : String} {after : Array Edge} {gd : Option (Nat × Bool)} {x y : Operand}
structure EqN (P : Program) (k : TypeId) : Prop where
 keyed : Keyed P k
 deep : ∃ m, m ≤ 10000 ∧ P.keyTypeAt m k = true
 wide : (match P.underlying k with | some (.array _ _) | some (.struct _) => true | _ => false) = true
 guard : P.eqGuardType P.depth k = false
theorem EqN.run {k : TypeId} (h : EqN P k) (w : World) {u v : Array Value} (hu : ∃ l, keyOf P k (.agg u) = some l) (hv : ∃ l, keyOf P k (.agg v) = some l) (b : Bool) (hb : b = true ↔ u = v) :
  (Op.equal k (.agg u) (.agg v)).run P w = .ok b w := by
 obtain ⟨l1, h1⟩ := hu
 obtain ⟨l2, h2⟩ := hv
 obtain ⟨r, hr, hiff⟩ := run_equal_deep w h.deep.choose_spec.1 h.deep.choose_spec.2 h.wide h1 h2
 have : r = b := by
  rw [Bool.eq_iff_iff, hiff, hb]
  constructor
  ·intro e
   subst e
   have := h.keyed.inj h1 h2
   injection this
  ·intro e
   subst e
   rw [h1] at h2
   exact Option.some.inj h2
 rw [hr, this]
theorem EqN.eql {k : TypeId} (h : EqN P k) (w : World) {u v : Array Value} (hu : ∃ l, keyOf P k (.agg u) = some l) (hv : ∃ l, keyOf P k (.agg v) = some l) (b : Bool) (hb : b = true ↔ u = v) :
  (binOp .eql k (.agg u) (.agg v)).run P w = .ok (.bool b) w := by
 have h1 := h.run w hu hv b hb
 rw [run_eql_struct]
 unfold Op.equal at h1
 rw [show Op.maxDepth = 10000 from rfl] at h1
 rw [h1]
 rfl
theorem EqN.neq {k : TypeId} (h : EqN P k) (w : World) {u v : Array Value} (hu : ∃ l, keyOf P k (.agg u) = some l) (hv : ∃ l, keyOf P k (.agg v) = some l) (b : Bool) (hb : b = true ↔ u = v) :
  (binOp .neq k (.agg u) (.agg v)).run P w = .ok (.bool (!b)) w := by
 have h1 := h.run w hu hv b hb
 rw [run_neq_struct]
 unfold Op.equal at h1
 rw [show Op.maxDepth = 10000 from rfl] at h1
 rw [h1]
 rfl
theorem EqN.exec_eql {k : TypeId} (h : EqN P k) {ev : Operand → Value} {o : Oper} (ho : o.op = .binOp .eql k x y ty2) {u v : Array Value} (hx : ev x = .agg u) (hy : ev y = .agg v) (hu : ∃ l, keyOf P k (.agg u) = some l) (hv : ∃ l, keyOf P k (.agg v) = some l) (b : Bool) (hb : b = true ↔ u = v) (w : World) :
  (execOp ev o).run P w = .ok (.value (.bool b)) w := by
 simp only [execOp, ho, hx, hy, Sem.run_bind, run_eqGuard_agg w .eql k x y u v h.guard, Result.andThen_ok, h.eql w hu hv b hb, Sem.run_pure]
theorem EqN.exec_neq {k : TypeId} (h : EqN P k) {ev : Operand → Value} {o : Oper} (ho : o.op = .binOp .neq k x y ty2) {u v : Array Value} (hx : ev x = .agg u) (hy : ev y = .agg v) (hu : ∃ l, keyOf P k (.agg u) = some l) (hv : ∃ l, keyOf P k (.agg v) = some l) (b : Bool) (hb : b = true ↔ u = v) (w : World) :
  (execOp ev o).run P w = .ok (.value (.bool (!b))) w := by
 simp only [execOp, ho, hx, hy, Sem.run_bind, run_eqGuard_agg w .neq k x y u v h.guard, Result.andThen_ok, h.neq w hu hv b hb, Sem.run_pure]
theorem zaD {k : TypeId} {sh : List (TypeId × Nat × Bool)} (hsh : xS P k = sh) (hne : sh ≠ []) (hb : sh.all (·.2.2) = true) {cs : List Value} (hc : P.cellsOf k = cs.length) (d : Nat)
  (hf : ∀ x ∈ sh, ∃ l, P.keyLits d x.1 ((cs.drop x.2.1).take (P.cellsOf x.1)) = some l) : ∃ l, P.keyLits (d + 1) k cs = some l := by
 unfold xS at hsh
 split at hsh
 ·rename_i fs hu
  subst hsh
  obtain ⟨ys, hys⟩ : ∃ ys, fs.toList.mapM (fun f => P.keyLits d f.type ((cs.drop f.offset).take (P.cellsOf f.type))) = some ys :=
   mapM_some fun f hm => hf (f.type, f.offset, f.name != "_") (List.mem_map.2 ⟨f, hm, rfl⟩)
  have hall : fs.all (·.name != "_") = true := by
   rw [← Array.all_toList]
   rw [List.all_map] at hb
   exact hb
  refine ⟨ys.flatten, ?_⟩
  unfold Program.keyLits
  simp only [hu, hc, hall, and_self, if_true, hys]
  rfl
 ·exact absurd hsh.symm hne
end
end Go

/- sha: Sum. -/
namespace Go.Proofs.YtdkkjchclkjleaaGreatDoor
open Go Go.RowKit Go.Maps Go.MapKept
theorem ze5 {h : vE} (ok : qF h) : qF (JS h) := (((ok.add 128).adds).adds)
theorem zcg {h : vE} (ok : qF h) : (zbX h).length = 32 := by unfold zbX; rw [zav, (ze5 ok).st]
set_option maxRecDepth 20000 in
set_option maxHeartbeats 4000000 in
theorem zd4 {w : World} (hg : j7 w) (hw2 : 3 < w.heap.size) {v : Value} {L : List (List Int)} (hl : ∀ p, w.heap.size ≤ p → Jq w p v L) (hL : L.length ≤ 1000000) (hn : L.flatten.length ≤ 1000000000000) :
  Calls Tryz.prog 71 #[v] w fun e w' => e = .returned (.agg ((xG L.flatten).map zP).toArray) ∧ Fr No w w' := by
 have HG := Hd hg
 have HW := Hd hw2
 have HL := Hd hl
 have NL := Hd hL
 have HN := Hd (show (L.flatten.foldl xF JO).n = L.flatten.length by rw [Yx]; exact Nat.zero_add _)
 have z32 : ∀ w, (zeroValue 41).run Tryz.prog w = .ok (.agg xd) w := fun w => by kernel_rfl
 clear hg hw2 hl hL
 obtain ⟨dh, yh, rh⟩ := Vl
 go_enter Tryz.func71, Tryz.ntmps71
 have F1 := Hd (show Fr No w (w.alloc (.cells xd 41)) from (Fr.refl No w).alloc _)
 have B1 := Hd (yn w (.cells xd 41))
 have Q1 := Hd (show (w.alloc (.cells xd 41)).heap.size = w.heap.size + 1 by simp)
 go_wp2_with (first | (go_at_call 122; refine (zgN (HG.out.keep F1.out id id)).mono ?_; rintro e w2 ⟨rfl, hw⟩; generalize w.alloc (.cells xd 41) = w1 at *; have F2 := Hd (show Fr No w1 w2 from hw ▸ (Fr.refl No w1).alloc _); have B2 := Hd (show w2.heap[w1.heap.size]? = some (.cells (yv JO).toArray 270 (0, 0)) from hw ▸ yn w1 _); have Q2 := Hd (show w1.heap.size < w2.heap.size by subst hw; simp); clear hw; generalize hp : w1.heap.size = p at *) | (go_at_call 123; refine (zeK ((HG.out.keep F1.out id id).keep F2.out id id) (by have := Q1.out; have := Q2.out; have := HW.out; omega) Ys B2.out ⟨by have := Q1.out; have := HW.out; omega, by have := Q1.out; have := HW.out; omega⟩ ((HL.out p (by have := Q1.out; omega)).keep (((F1.out.trans0 F2.out).of0 (W := fun j => j = p)))) NL.out (by show 0 + _ ≤ _; omega)).mono ?_; rintro e w3 ⟨rfl, hb3, f3⟩; have B3 := Hd hb3; have F3 := Hd f3; clear hb3 f3) | (go_at_call 124; refine (zf2 (p := p) (((HG.out.keep F1.out id id).keep F2.out id id).keep F3.out (by have := Q1.out; have := HW.out; omega) (by have := Q1.out; have := HW.out; omega)) (by have := Q1.out; have := Q2.out; have := HW.out; have := F3.out.size; omega) (Ys.adds) B3.out ⟨by have := Q1.out; have := HW.out; omega, by have := Q1.out; have := HW.out; omega⟩ (by rw [HN.out]; exact hn)).mono ?_; rintro e w4 ⟨rfl, f4⟩; have F4 := Hd f4; clear f4; have SL := Hd (show ((zbX (L.flatten.foldl xF JO)).map zP).length = 32 by rw [List.length_map]; exact zcg Ys.adds); have SE := Hd (show xG L.flatten = zbX (L.flatten.foldl xF JO) from rfl); generalize zbX (L.flatten.foldl xF JO) = SB at *) | ((with_reducible refine zA ?_); refine zq rfl (zm (w := w4) (ty := 41) (cs := SB.map zP) rfl rfl rfl (by rw [SL.out]; rfl) (by rw [SL.out]; exact xP) (fun v hv => by obtain ⟨x, -, rfl⟩ := List.mem_map.1 hv; rfl)) ?_; have B5 := Hd (yn w4 (.cells (SB.map zP).toArray 41)); have F5 := Hd (show Fr No w4 (w4.alloc (.cells (SB.map zP).toArray 41)) from (Fr.refl No w4).alloc _); generalize w4.alloc (.cells (SB.map zP).toArray 41) = w5 at *; generalize hq5 : w4.heap.size = q5 at *) | ((with_reducible refine yk 15 ?_); refine zd rfl (zf (ty := 41) rfl rfl (qn B5.out) yh rh (by rw [SL.out]; exact xP)) ?_) | (refine zq rfl (z6 (ty := 41) (b := w.heap.size) (off := 0) (cs := SB.map zP) rfl rfl rfl (by rw [SL.out]; exact yg (F5.out.obj (F4.out.obj (F3.out.obj (F2.out.obj B1.out id) (by have := Q1.out; omega)) id) id) (Nat.le_refl 32)) (by rw [SL.out]; exact xP) (fun v hv => by obtain ⟨x, -, rfl⟩ := List.mem_map.1 hv; rfl)) ?_))
 have FA := Hd (show Fr No w w5 from (((((F1.out.trans0 F2.out).trans F3.out (fun i h e => (show False by have := Q1.out; omega))).trans0 F4.out).trans0 F5.out)))
 have HB := Hd (show w5.heap[w.heap.size]? = some (.cells xd 41 (0, 0)) from F5.out.obj (F4.out.obj (F3.out.obj (F2.out.obj B1.out id) (by have := Q1.out; omega)) id) id)
 have HE := y7 w.heap.size 41 (SB.map zP) 0 w5 xd HB.out
 have e := qS (SB.map zP) [] xd.toList [] (by rw [SL.out]; rfl)
 simp only [List.nil_append, List.append_nil, List.length_nil] at e
 rw [e] at HE
 exact bodyPost_ret (v := .agg (SB.map zP).toArray) (results_cell_row (P := Tryz.prog) (fn := Tryz.f71) rfl _ _ w.heap.size 41 (SB.map zP).toArray (0, 0) _ rfl HE Tryz.underlying41 rfl (by rw [List.size_toArray, SL.out]; exact xP)) rfl ⟨by rw [SE.out], FA.out.trans (zJ _ _ _ _) (fun i hi e => (show False by omega))⟩
end Go.Proofs.YtdkkjchclkjleaaGreatDoor

/- Points, outputs and coins in memory. -/
namespace Go.Proofs.YtdkkjchclkjleaaGreatDoor
open Go Go.RowKit Go.Maps Go.MapKept
theorem Z0 : laidOutB Tryz.prog = true := by kernel_rfl
theorem ziR {x : Int} (h : 0 ≤ x ∧ x ≤ 255) : (Lit.int .u8 x).wf = true := by
 simp [Lit.wf, IntKind.min, IntKind.max, IntKind.signed, IntKind.bits]
 omega
theorem zjh {x : Int} (h : 0 ≤ x ∧ x ≤ 4294967295) : (Lit.int .u32 x).wf = true := by
 simp [Lit.wf, IntKind.min, IntKind.max, IntKind.signed, IntKind.bits]
 omega
theorem XM : ∀ {a b : List Int}, a.map zP = b.map zP → a = b
 | [], [], _ => rfl
 | [], _ :: _, h => by simp at h
 | _ :: _, [], h => by simp at h
 | x :: a, y :: b, h => by
  simp only [List.map_cons, List.cons.injEq, zP, Value.int.injEq, true_and] at h
  rw [h.1, XM h.2]
theorem VU {l : List Int} (h : zQ l) (d : Nat) : ∃ ls, Tryz.prog.keyLits (d + 2) 41 (l.map zP) = some ls :=
 Xn (show Tryz.prog.underlying 41 = some (.array 32 5) by kernel_rfl) (by kernel_rfl) (by kernel_rfl) (by kernel_rfl) d l h.1 (fun x hx => ziR (h.2 x hx))
def zB (p : zF) : List Value := p.tx.map zP ++ [.int .u32 p.n]
def jW (p : zF) : Value := .agg (zB p).toArray
theorem yb {p : zF} (h : p.ok) : (zB p).length = 33 := by simp [zB, h.1.1]
theorem zeZ {p : zF} (h : p.ok) : (zB p)[32]? = some (.int .u32 p.n) := by
 unfold zB
 rw [List.getElem?_append_right (by simp [h.1.1]), List.length_map, h.1.1]; rfl
theorem y3 {p : zF} : ∀ v ∈ zB p, v.oneCell' = true := by
 intro v hv
 unfold zB at hv
 simp only [List.mem_append, List.mem_map, List.mem_singleton] at hv
 rcases hv with ⟨y, _, rfl⟩ | rfl <;> rfl
theorem Vy {a b : zF} (h : zB a = zB b) : a = b := by
 obtain ⟨x, l⟩ := a
 obtain ⟨y, m⟩ := b
 simp only [zB] at h
 obtain ⟨h1, h2⟩ := List.append_inj' h rfl
 simp only [List.cons.injEq, Value.int.injEq, true_and, and_true] at h2
 rw [XM h1, h2]
theorem vO {a b : zF} (h : jW a = jW b) : a = b := by
 unfold jW at h
 injection h with h
 exact Vy (by simpa using congrArg Array.toList h)
theorem Js : xS Tryz.prog 95 = [(41, 0, true), (31, 32, true)] := by kernel_rfl
theorem V6 {p : zF} (h : p.ok) (d : Nat) : ∀ x ∈ xS Tryz.prog 95, ∃ l, Tryz.prog.keyLits (d + 2) x.1 (((zB p).drop x.2.1).take (Tryz.prog.cellsOf x.1)) = some l := by
 rw [Js]
 intro x hx
 simp only [List.mem_cons, List.not_mem_nil, or_false] at hx
 rcases hx with rfl | rfl
 ·have e : ((zB p).drop 0).take (Tryz.prog.cellsOf 41) = p.tx.map zP := by
   rw [show Tryz.prog.cellsOf 41 = 32 by kernel_rfl]
   unfold zB
   rw [List.drop_zero, List.take_append_of_le_length (by simp [h.1.1]), List.take_of_length_le (by simp [h.1.1])]
  simp only [e]
  exact VU h.1 d
 ·have e : ((zB p).drop 32).take (Tryz.prog.cellsOf 31) = [.int .u32 p.n] := by
   rw [show Tryz.prog.cellsOf 31 = 1 by kernel_rfl]
   unfold zB
   rw [List.drop_append_of_le_length (by simp [h.1.1]), List.drop_of_length_le (by simp [h.1.1])]; rfl
  simp only [e]
  exact ⟨_, Jv (by kernel_rfl) _ (zjh h.2)⟩
theorem qI {p : zF} (h : p.ok) : ∃ l, keyOf Tryz.prog 95 (jW p) = some l := by
 have hN : Tryz.prog.types.size = Tryz.prog.types.size - 2 + 2 := by kernel_rfl
 refine Ji Js (by simp) (by decide) (by kernel_rfl) (cs := zB p) (by rw [yb h]; kernel_rfl) ?_
 rw [hN, ← Js]
 exact V6 h _
theorem JK : EqN Tryz.prog 95 := ⟨Keyed.of_law (deep_law_laid Z0 (m := 3) (by decide) (of_decide_eq_true (by kernel_rfl)) (by kernel_rfl) (by kernel_rfl)), ⟨3, by decide, by kernel_rfl⟩, by kernel_rfl, by kernel_rfl⟩
theorem xr : ∃ d, Tryz.prog.underlying 95 = some d ∧ d.isRow = true := jf (by kernel_rfl)
theorem zL : (Tryz.prog.info? 95).map (·.size) = some 33 := by kernel_rfl
def xO : zF := ⟨List.replicate 32 0, 0⟩
theorem zeO : Tryz.prog.underlying 91 = some (.slice 95) := by kernel_rfl
theorem zdx : (Tryz.prog.info? 95).map (fun i => (i.zero, i.size, i.bytes)) = some (some (.agg (zB xO).toArray), 33, 36) := by kernel_rfl
def zG (x : yF) : List Value := .int .u64 x.value :: x.lock.map zP
def ze9 (x : yF) : Value := .agg (zG x).toArray
theorem yD {x : yF} (h : x.ok) : (zG x).length = 33 := by simp [zG, h.2.1]
theorem ye {x : yF} : ∀ v ∈ zG x, v.oneCell' = true := by
 intro v hv
 unfold zG at hv
 simp only [List.mem_cons, List.mem_map] at hv
 rcases hv with rfl | ⟨y, _, rfl⟩ <;> rfl
theorem vA : ∃ d, Tryz.prog.underlying 103 = some d ∧ d.isRow = true := jf (by kernel_rfl)
theorem zY : (Tryz.prog.info? 103).map (·.size) = some 33 := by kernel_rfl
def yR : yF := ⟨0, List.replicate 32 0⟩
theorem JE : yR.ok := ⟨by decide, rfl, fun x hx => by have : x = 0 := List.eq_of_mem_replicate hx; omega⟩
theorem ziH (w : World) : (zeroValue 103).run Tryz.prog w = .ok (ze9 yR) w := by kernel_rfl
theorem vx : Tryz.prog.underlying 22 = some (.slice 103) := by kernel_rfl
theorem ZU : (Tryz.prog.info? 103).map (fun i => (i.zero, i.size, i.bytes)) = some (some (.agg (zG yR).toArray), 33, 40) := by kernel_rfl
theorem jC : (Tryz.prog.info? 103).map (fun i => (i.zero, i.size)) = some (some (.agg (zG yR).toArray), 33) := by kernel_rfl
def qE (c : zy) : List Value := zB c.at_ ++ zG c.out
theorem Qa {c : zy} (h : c.ok) : (qE c).length = 66 := by simp [qE, yb h.1, yD h.2]
theorem zbe {c : zy} : ∀ v ∈ qE c, v.oneCell' = true := by
 intro v hv
 rcases List.mem_append.1 hv with h | h
 ·exact y3 v h
 ·exact ye v h
theorem zhX {w : World} {b o : Nat} {c : zy} (h : w.rangeAt b o (qE c)) : w.rangeAt b o (zB c.at_) := fun j v hj => h j v (by
 unfold qE
 rw [List.getElem?_append_left (List.getElem?_eq_some_iff.1 hj).1]
 exact hj)
theorem zgS {w : World} {b o : Nat} {c : zy} (hc : c.ok) (h : w.rangeAt b o (qE c)) : w.rangeAt b (o + 33) (zG c.out) := fun j v hj => by
 have := h (33 + j) v (by
  unfold qE
  rw [List.getElem?_append_right (by rw [yb hc.1]; omega), yb hc.1]
  rw [show 33 + j - 33 = j by omega]
  exact hj)
 rw [Nat.add_assoc]
 exact this
theorem zgs : ∃ d, Tryz.prog.underlying 214 = some d ∧ d.isRow = true := jf (by kernel_rfl)
theorem Vz : (Tryz.prog.info? 214).map (·.size) = some 66 := by kernel_rfl
def zhj : zy := ⟨xO, yR⟩
theorem zgk (w : World) : (zeroValue 214).run Tryz.prog w = .ok (.agg (qE zhj).toArray) w := by kernel_rfl
theorem jA (w : World) : (zeroValue 95).run Tryz.prog w = .ok (.agg (zB xO).toArray) w := by kernel_rfl
theorem qT (w : World) : (zeroValue 103).run Tryz.prog w = .ok (.agg (zG yR).toArray) w := by kernel_rfl
theorem zgG : Tryz.prog.underlying 145 = some (.slice 214) := by kernel_rfl
theorem zeD : (Tryz.prog.info? 214).map (fun i => (i.zero, i.size, i.bytes)) = some (some (.agg (qE zhj).toArray), 66, 80) := by kernel_rfl
def Je (w : World) (v : Value) (l : List zy) : Prop := (∀ c ∈ l, c.ok) ∧ xq w v l.length (l.flatMap qE)
theorem Je.keep {w w' : World} {v : Value} {l : List zy} (h : Je w v l) (f : Fr No w w') : Je w' v l := ⟨h.1, h.2.keep f⟩
theorem Je.at_ {w : World} {v : Value} {l : List zy} (h : Je w v l) {i : Nat} {c : zy} (hx : l[i]? = some c) : ∃ b off cap, v = .slice (some ⟨b, off, none⟩) l.length cap ∧ w.rangeAt b (off + i * 66) (qE c) ∧ b < w.heap.size :=
 h.2.elem (by decide) (fun x hx => Qa (h.1 x hx)) hx
def qg (w : World) (v : Value) (l : List zF) : Prop := (∀ p ∈ l, p.ok) ∧ xq w v l.length (l.flatMap zB)
theorem qg.keep {w w' : World} {v : Value} {l : List zF} (h : qg w v l) (f : Fr No w w') : qg w' v l := ⟨h.1, h.2.keep f⟩
theorem qg.at_ {w : World} {v : Value} {l : List zF} (h : qg w v l) {i : Nat} {p : zF} (hx : l[i]? = some p) : ∃ b off cap, v = .slice (some ⟨b, off, none⟩) l.length cap ∧ w.rangeAt b (off + i * 33) (zB p) ∧ b < w.heap.size :=
 h.2.elem (by decide) (fun x hx => yb (h.1 x hx)) hx
theorem zat : Tryz.prog.underlying 233 = some (.map 95 103) := by kernel_rfl
theorem Ve : Tryz.prog.underlying 159 = some (.map 95 3) := by kernel_rfl
theorem V1 (w : World) : (zeroValue 3).run Tryz.prog w = .ok (.int .i64 0) w := by kernel_rfl
end Go.Proofs.YtdkkjchclkjleaaGreatDoor

/- Going through a map. -/
namespace Go
open Go.MapKept Go.RowKit Go.Maps
def vF (P : Program) (kt : TypeId) (w : World) (r b : Nat) (L R : List (Value × Value)) : Prop :=
 ∃ es clk seen, w.heap[b]? = some (.map es clk) ∧ Stamped es clk ∧ es.size ≤ maxLen ∧ kv es = L ∧ (∀ e ∈ es.toList, ∃ l, keyOf P kt e.key = some l) ∧ r ≠ b ∧
  w.heap[r]? = some (.mapIter (some b) clk seen clk) ∧ (es.toList.filter fun e => !seen.contains e.born).map (fun e => (e.key, e.val)) = R
section
variable {P : Program} {kt et t : TypeId} {w : World} {r b : Nat} {L R : List (Value × Value)}
theorem vF.lt (h : vF P kt w r b L R) : r < w.heap.size := by
 obtain ⟨es, clk, seen, h1, h2, h3, h4, h5, h6, h7, _⟩ := h
 exact xf h7
theorem vF.keep {w' : World} {W : Nat → Prop} (h : vF P kt w r b L R) (f : Fr W w w') (h1 : ¬ W b) (h2 : ¬ W r) : vF P kt w' r b L R := by
 obtain ⟨es, clk, seen, a1, a2, a3, a4, a5, a6, a7, a8⟩ := h
 exact ⟨es, clk, seen, f.obj a1 h1, a2, a3, a4, a5, a6, f.obj a7 h2, a8⟩
theorem yP.range (ht : P.underlying t = some (.map kt et)) (h : yP P kt w b L) :
  ∃ clk, (Instr.range t (.map (some b))).run P w = .ok (.pointer (some ⟨w.heap.size, 0, none⟩)) (w.alloc (.mapIter (some b) clk #[] clk)) ∧ vF P kt (w.alloc (.mapIter (some b) clk #[] clk)) w.heap.size b L L := by
 have hlt := h.lt
 obtain ⟨es, clk, hb, hs, hm, rfl, hk⟩ := h
 refine ⟨clk, ?_, es, clk, #[], JD hb _, hs, hm, rfl, hk, by omega, yn w _, ?_⟩
 ·simp [Instr.range, run_underlying ht, MapKept.run_getObj_map hb, Result.andThen, newObj, Sem.run]
 ·rw [List.filter_eq_self.2 (by simp)]; rfl
theorem vF.nextNone (h : vF P kt w r b L []) (ty : TypeId) : (Instr.next (.pointer (some ⟨r, 0, none⟩)) false ty).run P w = .ok (.tuple #[.bool false]) w := by
 obtain ⟨es, clk, seen, hb, hs, hm, hL, hk, hne, hr, hR⟩ := h
 rcases run_next_at (P := P) w ty r b clk clk seen es clk hr hb hs.1 (Nat.le_refl _) with ⟨_, h⟩ | ⟨e, he, _⟩
 ·exact h
 ·have he' : e ∈ es.toList.filter fun e => !seen.contains e.born := by simpa [leftOf] using he
  have : (e.key, e.val) ∈ (es.toList.filter fun e => !seen.contains e.born).map (fun e => (e.key, e.val)) := List.mem_map.2 ⟨e, he', rfl⟩
  rw [hR] at this
  cases this
theorem vF.nextSome (h : vF P kt w r b L R) (hne : R ≠ []) (ty : TypeId) :
  ∃ R1 p R2 w', R = R1 ++ p :: R2 ∧ (Instr.next (.pointer (some ⟨r, 0, none⟩)) false ty).run P w = .ok (.tuple #[.bool true, p.1, p.2]) w' ∧ vF P kt w' r b L (R1 ++ R2) ∧ Fr (· = r) w w' ∧
   ∀ w'', w''.heap[r]? = w'.heap[r]? → w''.heap[b]? = w'.heap[b]? → (Instr.entry (.pointer (some ⟨r, 0, none⟩))).run P w'' = .ok (.tuple #[p.1, p.2]) w'' := by
 obtain ⟨es, clk, seen, hb, hs, hm, hL, hk, hrb, hr, hR⟩ := h
 rcases run_next_at (P := P) w ty r b clk clk seen es clk hr hb hs.1 (Nat.le_refl _) with ⟨h0, _⟩ | ⟨e, he, w1, hw1, hrun⟩
 ·have h1 : (leftOf es seen).toList = [] := by simpa using h0
  have h2 : es.toList.filter (fun e => !seen.contains e.born) = [] := by simpa [leftOf] using h1
  rw [h2] at hR
  exact absurd hR.symm hne
 ·have he' : e ∈ es.toList.filter fun e => !seen.contains e.born := by simpa [leftOf] using he
  have hmem : e ∈ es.toList := (List.mem_filter.1 he').1
  obtain ⟨A, B, hAB⟩ := List.append_of_mem he'
  have hnd : ((A ++ e :: B).map (·.born)).Nodup := by rw [← hAB]; exact hs.2.1.sublist (List.filter_sublist.map _)
  simp only [List.map_append, List.map_cons] at hnd
  obtain ⟨n1, n2, n3⟩ := List.nodup_append.1 hnd
  obtain ⟨n4, n5⟩ := List.nodup_cons.1 n2
  have hb1 : w1.heap = w.heap := by rcases hw1 with rfl | rfl <;> rfl
  have f1 : Fr (· = r) w w1 := by
   rcases hw1 with rfl | rfl
   ·exact Fr.refl _ _
   ·exact (Fr.refl _ _).drew
  have hrlt := xf hr
  have g1 : (ChangeMaps.setBlock w1 r (.mapIter (some b) clk (seen.push e.born) clk)).heap[r]? = some (.mapIter (some b) clk (seen.push e.born) clk) := by
   simp [ChangeMaps.setBlock, hb1, hrlt]
  have g2 : (ChangeMaps.setBlock w1 r (.mapIter (some b) clk (seen.push e.born) clk)).heap[b]? = some (.map es clk) := by
   simp only [ChangeMaps.setBlock, hb1]
   rw [Array.getElem?_setIfInBounds_ne hrb]
   exact hb
  refine ⟨A.map (fun e => (e.key, e.val)), (e.key, e.val), B.map (fun e => (e.key, e.val)), _, by rw [← hR, hAB]; simp, hrun, ⟨es, clk, seen.push e.born, g2, hs, hm, hL, hk, hrb, g1, ?_⟩, ?_, ?_⟩
  ·have e1 : (es.toList.filter fun x => !(seen.push e.born).contains x.born) = (es.toList.filter fun x => !seen.contains x.born).filter fun x => decide (x.born ≠ e.born) := by
    rw [List.filter_filter]
    apply List.filter_congr
    intro x _
    by_cases hx : x.born = e.born <;> simp [hx]
   rw [e1, hAB, List.filter_append, List.filter_cons, if_neg (by simp), List.filter_eq_self.2, List.filter_eq_self.2, List.map_append]
   ·intro x hx; simp only [decide_eq_true_eq]; exact fun h => n4 (h ▸ List.mem_map.2 ⟨x, hx, rfl⟩)
   ·intro x hx; simp only [decide_eq_true_eq]; exact fun h => n3 x.born (List.mem_map.2 ⟨x, hx, rfl⟩) e.born (by simp) h
  ·refine f1.trans ⟨rfl, rfl, rfl, by simp [ChangeMaps.setBlock], fun k _ hk => ?_⟩ (fun _ _ h => h)
   simp only [ChangeMaps.setBlock]
   rw [Array.getElem?_setIfInBounds_ne (Ne.symm hk)]
  ·intro w'' h1 h2
   exact run_entry_at w'' r b clk seen es clk e (h1.trans g1) (h2.trans g2) hmem hs.2.1
end
section
variable {P : Program} {o : Oper} {a : Act} {w w' : World} {ops : Array Oper} {rest : List Oper}
theorem J1 {Q : Exit → Act → World → Prop} {x : Operand} {t : TypeId} {xv v : Value} (hg : o.guard = none) (hop : o.op = .range t x) (hx : a.eval x = xv)
  (hrun : (Instr.range t xv).run P w = .ok v w') (h : wpList P ops Q rest (a.put o.dst v) w') : wpList P ops Q (o :: rest) a w := by
 refine wpList_plain hg fun K' hK' => ?_
 unfold Oper.wp
 have he : (execOp a.eval o).run P w = .ok (.value v) w' := by simp [execOp, hop, hx, hrun, Result.andThen]
 rw [he]
 exact hK' _ _ h
theorem vL {Q : Exit → Act → World → Prop} {x : Operand} {s : Bool} {xv v : Value} (hg : o.guard = none) (hop : o.op = .next x s) (hx : a.eval x = xv)
  (hrun : (Instr.next xv s o.type).run P w = .ok v w') (h : wpList P ops Q rest (a.put o.dst v) w') : wpList P ops Q (o :: rest) a w := by
 refine wpList_plain hg fun K' hK' => ?_
 unfold Oper.wp
 have he : (execOp a.eval o).run P w = .ok (.value v) w' := by simp [execOp, hop, hx, hrun, Result.andThen]
 rw [he]
 exact hK' _ _ h
theorem JY {Q : Exit → Act → World → Prop} {x : Operand} {xv v : Value} (hg : o.guard = none) (hop : o.op = .entry x) (hx : a.eval x = xv)
  (hrun : (Instr.entry xv).run P w = .ok v w') (h : wpList P ops Q rest (a.put o.dst v) w') : wpList P ops Q (o :: rest) a w := by
 refine wpList_plain hg fun K' hK' => ?_
 unfold Oper.wp
 have he : (execOp a.eval o).run P w = .ok (.value v) w' := by simp [execOp, hop, hx, hrun, Result.andThen]
 rw [he]
 exact hK' _ _ h
end
end Go
