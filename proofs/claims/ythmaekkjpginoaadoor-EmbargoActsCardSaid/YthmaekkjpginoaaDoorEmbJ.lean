/- embargo: a clock as a list of keys and times. -/
import Derived.Test.YthmaekkjpginoaaDoorEmbI
import Derived.Test.YthmaekkjpginoaaDoorEmbE
namespace Go.Proofs.YthmaekkjpginoaaDoor
open Go Go.RowKit Go.Maps Go.MapKept Go.Sort

instance : DecidableEq KeyD := fun a b => decidable_of_iff (a.src = b.src ∧ a.id = b.id) key_iff

abbrev KT := KeyD × Int
def ktOf (h : HeldD) : KT := (h.k, h.till)
def hasT (T : List KT) (k : KeyD) : Bool := T.any fun x => decide (x.1 = k)
def tillT (T : List KT) (k : KeyD) : Int := ((T.find? fun x => decide (x.1 = k)).map (·.2)).getD 0
def insT (T : List KT) (k : KeyD) (t : Int) : List KT := T.filter (fun x => decide (x.2 ≤ t)) ++ (k, t) :: T.filter (fun x => !decide (x.2 ≤ t))
def setT (T : List KT) (k : KeyD) (t : Int) : List KT := if hasT T k then T else insT T k t
def delT (T : List KT) (k : KeyD) : List KT := T.filter fun x => !decide (x.1 = k)
def dueT (now : Int) (x : KT) : Bool := decide (x.2 ≤ now)

theorem hasT_iff {S : List HeldD} {k : KeyD} : hasT (S.map ktOf) k = true ↔ hasK S k := by
  unfold hasT hasK
  rw [List.any_eq_true]
  constructor
  · rintro ⟨x, hx, h⟩
    obtain ⟨h', hh, rfl⟩ := List.mem_map.1 hx
    exact ⟨h', hh, of_decide_eq_true h⟩
  · rintro ⟨h, hh, e⟩
    exact ⟨ktOf h, List.mem_map.2 ⟨h, hh, rfl⟩, decide_eq_true e⟩
theorem hasT_not {S : List HeldD} {k : KeyD} : hasT (S.map ktOf) k = false ↔ ¬ hasK S k := by
  rw [← hasT_iff]; simp
theorem hasT_mem {T : List KT} {k : KeyD} : hasT T k = true ↔ k ∈ T.map (·.1) := by
  unfold hasT
  rw [List.any_eq_true, List.mem_map]
  simp
theorem ins_kt (S : List HeldD) (k : KeyD) (t q : Int) : (insS S ⟨k, t, q⟩).map ktOf = insT (S.map ktOf) k t := by
  simp only [insS, insT, List.map_append, List.map_cons, List.filter_map]
  rfl
theorem del_kt (S : List HeldD) (k : KeyD) : (delS S k).map ktOf = delT (S.map ktOf) k := by
  simp only [delS, delT, List.filter_map]
  congr 2
  funext x
  simp only [Function.comp, ktOf]
  congr 1
  exact decide_eq_decide.2 key_iff
theorem take_kt (S : List HeldD) (now : Int) : (S.takeWhile (dueP now)).map HeldD.k = ((S.map ktOf).takeWhile (dueT now)).map (·.1) := by
  rw [List.takeWhile_map, List.map_map]; rfl
theorem drop_kt (S : List HeldD) (now : Int) : (S.dropWhile (dueP now)).map ktOf = (S.map ktOf).dropWhile (dueT now) := by
  rw [List.dropWhile_map]; rfl

/-- A clock behind w0 as it stands in w: its block, the blocks that it may change, its keys and times, how many at most. -/
def CT (w0 w : World) (p : Nat) (V : Nat → Prop) (T : List KT) (N : Nat) : Prop := ∃ g S, Ck w0 w p g S N ∧ g.W = V ∧ S.map ktOf = T

/-- What is true of any clock's keys and times. -/
structure KtOk (T : List KT) : Prop where
  nodup : (T.map (·.1)).Nodup
  srt : T.Pairwise (fun a b => a.2 ≤ b.2)
  ok : ∀ x ∈ T, x.1.ok ∧ 0 ≤ x.2 ∧ x.2 ≤ 18446744073709551615

section
variable {w0 w : World} {p : Nat} {V : Nat → Prop} {T : List KT} {N : Nat}
theorem CT.good (h : CT w0 w p V T N) : KtOk T := by
  obtain ⟨g, S, hc, rfl, rfl⟩ := h
  refine ⟨?_, ?_, fun x hx => ?_⟩
  · rw [List.map_map]
    exact ((hc.perm.map HeldD.k).nodup_iff).2 hc.keys
  · rw [List.pairwise_map]
    exact hc.srt.imp (fun {a b} h => by
      rw [before_iff] at h
      show a.till ≤ b.till
      omega)
  · obtain ⟨h, hh, rfl⟩ := List.mem_map.1 hx
    have := hc.at_.ok h (hc.mem.1 hh)
    exact ⟨this.1, this.2.1.1, this.2.1.2⟩
theorem CT.len (h : CT w0 w p V T N) : T.length ≤ N := by
  obtain ⟨g, S, hc, rfl, rfl⟩ := h
  have := hc.len
  have := hc.perm.length_eq
  rw [List.length_map]
  omega
theorem CT.fr (h : CT w0 w p V T N) : Fr No w0 w := by obtain ⟨g, S, hc, rfl, rfl⟩ := h; exact hc.fr
theorem CT.lo (h : CT w0 w p V T N) : ∀ k, V k → w0.heap.size ≤ k := by obtain ⟨g, S, hc, rfl, rfl⟩ := h; exact hc.W
theorem CT.hi (h : CT w0 w p V T N) : ∀ k, V k → k < w.heap.size := by obtain ⟨g, S, hc, rfl, rfl⟩ := h; exact hc.at_.wlt
theorem CT.fr0 {w' : World} (h : CT w0 w p V T N) (f : Fr No w w') : CT w0 w' p V T N := by obtain ⟨g, S, hc, rfl, rfl⟩ := h; exact ⟨g, S, hc.fr0 f, rfl, rfl⟩
theorem CT.frV {w' : World} (h : CT w0 w p V T N) {U : Nat → Prop} (f : Fr U w w') (hU : ∀ k, V k → ¬ U k) (h0 : ∀ k, U k → w0.heap.size ≤ k) : CT w0 w' p V T N := by
  obtain ⟨g, S, hc, rfl, rfl⟩ := h
  exact ⟨g, S, hc.frV f hU h0, rfl, rfl⟩
theorem CT.base {wb : World} (h : CT w0 w p V T N) (f : Fr No wb w0) : CT wb w p V T N := by
  obtain ⟨g, S, hc, rfl, rfl⟩ := h
  exact ⟨g, S, { hc with W := fun k hk => Nat.le_trans f.size (hc.W k hk), fr := f.trans0 hc.fr }, rfl, rfl⟩

theorem new_T (w0 w : World) (f : Fr No w0 w) : Calls Tryd.prog 21 #[] w fun e w' => ∃ p V, e = .returned (.pointer (some ⟨p, 0, none⟩)) ∧ CT w0 w' p V [] 0 ∧ Fr No w w' ∧ (∀ k, V k → w.heap.size ≤ k) :=
  (new_any w0 w f).mono fun _ _ ⟨p, g, he, hc, hf, hW⟩ => ⟨p, g.W, he, ⟨g, [], hc, rfl, rfl⟩, hf, hW⟩

theorem CT.more {M : Nat} (h : CT w0 w p V T N) (hM : N ≤ M) : CT w0 w p V T M := by
  obtain ⟨g, S, hc, rfl, rfl⟩ := h
  exact ⟨g, S, { hc with sq := ⟨hc.sq.1, Int.le_trans hc.sq.2 (by omega)⟩, len := Nat.le_trans hc.len hM }, rfl, rfl⟩

def setE (T : List KT) (k : KeyD) : Int := if hasT T k then 10 else 0
theorem set_T (h : CT w0 w p V T N) (hN : N ≤ 1000) (k : KeyD) (hk : k.ok) (t : Int) (ht : 0 ≤ t ∧ t ≤ 18446744073709551615) :
    Calls Tryd.prog 16 #[.pointer (some ⟨p, 0, none⟩), .agg (keyC k).toArray, .int .u64 t] w fun e w' => ∃ V', e = .returned (.int .i64 (setE T k)) ∧ CT w0 w' p V' (setT T k t) (N + 1) ∧ (∀ j, V' j → V j ∨ w.heap.size ≤ j) ∧ Fr V w w' := by
  obtain ⟨g, S, hc, rfl, rfl⟩ := h
  obtain rfl := hc.bl
  unfold setE setT
  by_cases hin : hasK S k
  · rw [if_pos (hasT_iff.2 hin), if_pos (hasT_iff.2 hin)]
    exact (set_there hc k hk t hin).mono fun _ w' ⟨he, f⟩ => ⟨g.W, he, CT.more ⟨g, S, hc.fr0 f, rfl, rfl⟩ (Nat.le_succ _), fun _ h => .inl h, f.of0⟩
  · rw [if_neg (by rw [hasT_not.2 hin]; simp), if_neg (by rw [hasT_not.2 hin]; simp)]
    exact (set_new hc hN k hk t ht hin).mono fun _ w' ⟨he, g', hc', st⟩ => ⟨g'.W, he, ⟨g', _, hc', rfl, ins_kt _ _ _ _⟩, st.W, st.fr⟩

def dropE (T : List KT) (k : KeyD) : Int := if hasT T k then 0 else 9
theorem delT_none {T : List KT} {k : KeyD} (h : hasT T k = false) : delT T k = T := by
  unfold delT
  rw [List.filter_eq_self]
  intro x hx
  unfold hasT at h
  rw [List.any_eq_false] at h
  simpa using h x hx
theorem drop_T (h : CT w0 w p V T N) (hN : N ≤ 1000) (k : KeyD) (hk : k.ok) :
    Calls Tryd.prog 20 #[.pointer (some ⟨p, 0, none⟩), .agg (keyC k).toArray] w fun e w' => e = .returned (.int .i64 (dropE T k)) ∧ CT w0 w' p V (delT T k) N ∧ Fr V w w' := by
  obtain ⟨g, S, hc, rfl, rfl⟩ := h
  obtain rfl := hc.bl
  unfold dropE
  by_cases hin : hasK S k
  · rw [if_pos (hasT_iff.2 hin)]
    exact (drop_ok hc hN k hk hin).mono fun _ w' ⟨he, g', hc', st, _, hW⟩ => ⟨he, ⟨g', _, hc', hW, del_kt _ _⟩, st.fr⟩
  · rw [if_neg (by rw [hasT_not.2 hin]; simp), delT_none (hasT_not.2 hin)]
    exact (drop_none hc k hk hin).mono fun _ w' ⟨he, f⟩ => ⟨he, ⟨g, S, hc.fr0 f, rfl, rfl⟩, f.of0⟩

theorem due_T (h : CT w0 w p V T N) (hN : N ≤ 1000) (now : Int) :
    Calls Tryd.prog 14 #[.pointer (some ⟨p, 0, none⟩), .int .u64 now] w fun e w' => ∃ v, e = .returned v ∧ w'.ownsRow w.heap.size 36 33 v (T.takeWhile (dueT now)).length (((T.takeWhile (dueT now)).map (·.1)).flatMap keyC) ∧ CT w0 w' p V (T.dropWhile (dueT now)) N ∧ Fr V w w' := by
  obtain ⟨g, S, hc, rfl, rfl⟩ := h
  obtain rfl := hc.bl
  refine (due_any hc hN now).mono ?_
  rintro e w' ⟨v, g', rfl, ho, hc', hW, -, f⟩
  refine ⟨v, rfl, ?_, ⟨g', _, hc', hW, drop_kt _ _⟩, f⟩
  rw [take_kt] at ho
  rw [List.takeWhile_map, List.length_map]
  rw [List.takeWhile_map] at ho
  exact ho

theorem find_mem {T : List KT} (h : (T.map (·.1)).Nodup) {x : KT} (hx : x ∈ T) : T.find? (fun y => decide (y.1 = x.1)) = some x := by
  induction T with
  | nil => cases hx
  | cons y T ih =>
    rw [List.map_cons, List.nodup_cons] at h
    rw [List.find?_cons]
    by_cases e : y.1 = x.1
    · rw [decide_eq_true e]
      rcases List.mem_cons.1 hx with rfl | hx
      · rfl
      · exact absurd (List.mem_map.2 ⟨x, hx, e.symm⟩) h.1
    · rw [decide_eq_false e]
      rcases List.mem_cons.1 hx with rfl | hx
      · exact absurd rfl e
      · exact ih h.2 hx
theorem tillT_mem {T : List KT} (h : (T.map (·.1)).Nodup) {x : KT} (hx : x ∈ T) : tillT T x.1 = x.2 := by
  unfold tillT
  rw [find_mem h hx]
  rfl
theorem tillT_none {T : List KT} {k : KeyD} (h : hasT T k = false) : tillT T k = 0 := by
  unfold tillT
  unfold hasT at h
  rw [List.any_eq_false] at h
  rw [List.find?_eq_none.2 (fun x hx => by simpa using h x hx)]
  rfl
theorem till_T (h : CT w0 w p V T N) (hN : N ≤ 1000) (k : KeyD) (hk : k.ok) :
    Calls Tryd.prog 19 #[.pointer (some ⟨p, 0, none⟩), .agg (keyC k).toArray] w fun e w' => e = .returned (.tuple #[.int .u64 (tillT T k), .bool (hasT T k)]) ∧ Fr No w w' := by
  have hg := h.good
  obtain ⟨g, S, hc, rfl, rfl⟩ := h
  obtain rfl := hc.bl
  by_cases hin : hasK S k
  · rw [hasT_iff.2 hin]
    obtain ⟨x, hx, rfl⟩ := hin
    have e : tillT (S.map ktOf) x.k = x.till := tillT_mem hg.nodup (x := ktOf x) (List.mem_map.2 ⟨x, hx, rfl⟩)
    rw [e]
    exact till_some hc hN x hx
  · rw [hasT_not.2 hin, tillT_none (hasT_not.2 hin)]
    exact till_none hc k hk hin

def nextT (T : List KT) : Int := (T.head?.map (·.2)).getD 0
theorem next_T (h : CT w0 w p V T N) (hN : N ≤ 1000) :
    Calls Tryd.prog 27 #[.pointer (some ⟨p, 0, none⟩)] w fun e w' => e = .returned (.tuple #[.int .u64 (nextT T), .bool (!T.isEmpty)]) ∧ Fr No w w' := by
  obtain ⟨g, S, hc, rfl, rfl⟩ := h
  obtain rfl := hc.bl
  cases S with
  | nil => exact next_none hc
  | cons x S => exact next_some hc hN
end
end Go.Proofs.YthmaekkjpginoaaDoor
