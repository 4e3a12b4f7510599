/- chain: rows of outputs appended; a block's zero values. -/
import Derived.Test.YtmpamcnlineceaaDoorMG26
import Derived.Test.YtmpamcnlineceaaDoorMG18
import Derived.Test.YtmpamcnlineceaaDoorMG6
import Derived.Test.YtmpamcnlineceaaDoorMG16
import Derived.Test.YtmpamcnlineceaaDoorMG24
set_option linter.unusedVariables false
set_option linter.unusedSimpArgs false
set_option linter.unnecessarySimpa false
set_option linter.all false
namespace Go.Proofs.YtmpamcnlineceaaDoor
open Go Go.RowKit Go.Maps Go.MapKept

def badV (x : OutD) : Bool := decide (x.value = 0) || decide (1125899906842624 < x.value)
theorem outs_len {l : List OutD} (h : ∀ x ∈ l, x.ok) : (l.flatMap outC).length = l.length * 33 := flatR_len outC 33 l (fun x hx => outC_len (h x hx))
theorem outs_one {l : List OutD} : ∀ u ∈ l.flatMap outC, u.oneCell' = true := fun u hu => by
  obtain ⟨x, _, hx⟩ := List.mem_flatMap.1 hu
  exact outC_one u hx
theorem append_outs (w : World) {B : Nat} {v x : Value} {k l : List OutD} (hv : w.ownsRow B 55 33 v k.length (k.flatMap outC)) (hx : OutsIs w x l) (hn : k.length + l.length ≤ 100000) (hB : B ≤ w.heap.size) (ty : TypeId) :
    ∃ v' w', (Builtin.append_ #[22, 22] ty #[v, x]).run Tryd.prog w = .ok v' w' ∧ w'.ownsRow B 55 33 v' (k.length + l.length) ((k ++ l).flatMap outC) ∧ Fr (fun j => v.ownBlock = some j) w w' ∧ GrowTo w v v' := by
  by_cases hnil : x = .slice none 0 0
  · obtain ⟨a, c, h⟩ := hx.2.form
    rw [hnil] at h
    injection h with h1 h2 h3
    have hm : l = [] := List.eq_nil_of_length_eq_zero h2.symm
    subst hm
    obtain ⟨v', w', a1, a2, a3, a4⟩ := append_sl (P := Tryd.prog) w B 22 ty 55 33 40 _ undOuts infoOutZ (by rw [← out0_size]; rfl) (by decide) v k.length (k.flatMap outC) hv x 0 [] (.inl ⟨hnil, rfl, rfl⟩) rfl (by simp) (by simp at hn ⊢; omega) (by unfold maxLen; simp at hn; omega) hB
    exact ⟨v', w', a1, by simpa using a2, a3, a4⟩
  · obtain ⟨v', w', a1, a2, a3, -, a4⟩ := append_own (P := Tryd.prog) w B 22 ty 55 33 40 _ undOuts infoOutZ (by rw [← out0_size]; rfl) (by decide) v k.length (k.flatMap outC) hv x l.length (l.flatMap outC) hx.2 (outs_len hx.1) outs_one (by omega) (by unfold maxLen; omega) hB hnil
    refine ⟨v', w', a1, ?_, (Fr.refl _ w).grown a3 (fun k e => .inr e), a4⟩
    rw [List.flatMap_append]
    exact a2
theorem kept_outs {w : World} {B : Nat} {v : Value} {l : List OutD} (h : w.ownsRow B 55 33 v l.length (l.flatMap outC)) (ok : ∀ x ∈ l, x.ok) {V : Nat → Prop} (hV : ∀ j, V j → j < B) : Kept V w (fun w => OutsIs w v l) :=
  fun w' f => ⟨ok, (ownsRow_keep h f (fun b hb hv => by have := (h.lt b hb).1; have := hV b hv; omega)).slice.arg⟩
def blkz : List Value := [.int .u64 0, .slice none 0 0, .slice none 0 0]
theorem zeroBlk (w : World) : (zeroValue 27).run Tryd.prog w = .ok (.agg blkz.toArray) w := by kernel_rfl
theorem bldBlk2 (t : Int) (a : Option Addr) (n c : Nat) (w : World) : (Instr.build 27 #[(0, .int .u64 t), (1, .slice a n c)]).run Tryd.prog w = .ok (.agg [.int .u64 t, .slice a n c, .slice none 0 0].toArray) w := by kernel_rfl
/-- What own leaves. -/
def OwnOk (w : World) (b : BlkD) (e : Ending) (w' : World) : Prop := ∃ cs, e = .returned (.agg cs.toArray) ∧ Fr No w w' ∧ ∀ V : Nat → Prop, (∀ j, V j → j < w.heap.size) → Kept V w' (fun w => BlkQ w b cs)
theorem set3 {w : World} {q : Nat} {T : TypeId} {z cs : List Value} (h : w.heap[q]? = some (.cells z.toArray T (0, 0))) (hl : z.length = cs.length) : (w.setCells q 0 cs).heap[q]? = some (.cells cs.toArray T (0, 0)) := by
  have HE := setCells_heap q T cs 0 w _ h
  have e := setM_mid cs [] z [] hl
  simp only [List.nil_append, List.append_nil, List.length_nil] at e
  rw [List.toList_toArray, e] at HE
  exact HE
end Go.Proofs.YtmpamcnlineceaaDoor

/- chain, plain: changes, blocks that are done, what is undone. -/
namespace Go.Proofs.YtmpamcnlineceaaDoor
open Go Go.RowKit Go.Maps Go.MapKept

structure ChgD where
  took : List CoinD
  made : List PointD
structure DoneD where
  blk : BlkD
  ids : List HashD
  chg : List ChgD
structure ChD where
  S : List CoinD
  bs : List DoneD
  M : List (HashD × Int)
def ChgQ (w : World) (c : ChgD) (cs : List Value) : Prop := ∃ ta tc ma mc, cs = [.slice ta c.took.length tc, .slice ma c.made.length mc] ∧ CoinsIs w (.slice ta c.took.length tc) c.took ∧ PointsIs w (.slice ma c.made.length mc) c.made
theorem ChgQ.keep {w w' : World} {x : ChgD} {cs : List Value} (h : ChgQ w x cs) (f : Fr No w w') : ChgQ w' x cs := by
  obtain ⟨ia, ic, oa, oc, e, h1, h2⟩ := h
  exact ⟨ia, ic, oa, oc, e, h1.keep f, h2.keep f⟩
abbrev ChgsIs (w : World) (v : Value) (L : List ChgD) : Prop := RowsIs 2 ChgQ w v L
def DoneQ (w : World) (d : DoneD) (cs : List Value) : Prop := ∃ bcs ia ic ca cc, cs = bcs ++ [.slice ia d.ids.length ic, .slice ca d.chg.length cc] ∧ BlkQ w d.blk bcs ∧ IdsIs w (.slice ia d.ids.length ic) d.ids ∧ ChgsIs w (.slice ca d.chg.length cc) d.chg
theorem DoneQ.keep {w w' : World} {x : DoneD} {cs : List Value} (h : DoneQ w x cs) (f : Fr No w w') : DoneQ w' x cs := by
  obtain ⟨b, ia, ic, oa, oc, e, h1, h2, h3⟩ := h
  exact ⟨b, ia, ic, oa, oc, e, h1.keep f, h2.keep f, RowsIs.keep (fun _ _ h => h.keep f) h3 f⟩
theorem BlkQ.len {w : World} {b : BlkD} {cs : List Value} (h : BlkQ w b cs) : cs.length = 3 := by
  obtain ⟨ia, ic, oa, oc, rfl, _⟩ := h
  rfl
theorem BlkQ.form {w : World} {b : BlkD} {cs : List Value} (h : BlkQ w b cs) : ∃ pa pc ta tc, cs = [.int .u64 b.tag, .slice pa b.pay.length pc, .slice ta b.txs.length tc] := by
  obtain ⟨ia, ic, oa, oc, rfl, _⟩ := h
  exact ⟨ia, ic, oa, oc, rfl⟩
theorem DoneQ.form {w : World} {d : DoneD} {cs : List Value} (h : DoneQ w d cs) : ∃ pa pc ta tc ia ic ca cc, cs = [.int .u64 d.blk.tag, .slice pa d.blk.pay.length pc, .slice ta d.blk.txs.length tc, .slice ia d.ids.length ic, .slice ca d.chg.length cc] := by
  obtain ⟨b, ia, ic, ca, cc, rfl, h1, -⟩ := h
  obtain ⟨pa, pc, ta, tc, rfl⟩ := h1.form
  exact ⟨pa, pc, ta, tc, ia, ic, ca, cc, rfl⟩
theorem DoneQ.one {w : World} {d : DoneD} {cs : List Value} (h : DoneQ w d cs) : cs.length = 5 ∧ ∀ u ∈ cs, u.oneCell' = true := by
  obtain ⟨pa, pc, ta, tc, ia, ic, ca, cc, rfl⟩ := h.form
  refine ⟨rfl, fun u hu => ?_⟩
  simp only [List.mem_cons, List.not_mem_nil, or_false] at hu
  rcases hu with rfl | rfl | rfl | rfl | rfl <;> rfl
abbrev IdMap (w : World) (m : Nat) (M : List (HashD × Int)) : Prop := MapIs Tryd.prog 45 hashV seenV w m M
def chV (p : Nat) (U : Nat → Prop) (mi : Nat) (bv : Value) : Nat → Prop := fun j => j = p ∨ U j ∨ j = mi ∨ bv.ownBlock = some j
def undoS (l : List ChgD) (S : List CoinD) : List CoinD := l.foldr (fun c S => putS (takeS S c.made) c.took) S
def prevI : Nat → Int
  | 0 => -1
  | m + 1 => (m : Int)
def tookN (l : List ChgD) : Nat := (l.map fun c => c.took.length + c.made.length).sum
theorem takeS_len (S : List CoinD) (ps : List PointD) : (takeS S ps).length ≤ S.length := by
  unfold takeS
  split
  · exact List.length_filter_le _ _
  · exact Nat.le_refl _
theorem putS_len (S l : List CoinD) : (putS S l).length ≤ S.length + l.length := by
  unfold putS
  split
  · rw [(putC_perm l S).length_eq, List.length_append]; exact Nat.le_refl _
  · omega
theorem undoS_len : ∀ (l : List ChgD) (S : List CoinD), (undoS l S).length ≤ S.length + tookN l
  | [], S => Nat.le_refl _
  | c :: l, S => by
    have h1 := undoS_len l S
    have h2 := takeS_len (undoS l S) c.made
    have h3 := putS_len (takeS (undoS l S) c.made) c.took
    show (putS (takeS (undoS l S) c.made) c.took).length ≤ _
    simp only [tookN, List.map_cons, List.sum_cons] at *
    omega
theorem undoS_step {l : List ChgD} {m : Nat} {c : ChgD} (S : List CoinD) (h : l[m]? = some c) : undoS (l.drop m) S = putS (takeS (undoS (l.drop (m + 1)) S) c.made) c.took := by
  rw [List.drop_eq_getElem_cons (List.getElem?_eq_some_iff.1 h).1, (List.getElem?_eq_some_iff.1 h).2]
  rfl
theorem tookN_drop (l : List ChgD) (m : Nat) : tookN (l.drop m) ≤ tookN l := by
  have h : tookN (l.take m ++ l.drop m) = tookN (l.take m) + tookN (l.drop m) := by simp only [tookN, List.map_append, List.sum_append]
  rw [List.take_append_drop] at h
  omega
theorem tookN_at {l : List ChgD} {m : Nat} {c : ChgD} (h : l[m]? = some c) : tookN (l.drop (m + 1)) + c.took.length + c.made.length ≤ tookN l := by
  have h1 := tookN_drop l m
  rw [List.drop_eq_getElem_cons (List.getElem?_eq_some_iff.1 h).1, (List.getElem?_eq_some_iff.1 h).2] at h1
  simp only [tookN, List.map_cons, List.sum_cons] at *
  omega
theorem payC_nodup (id : HashD) (l : List OutD) : ((payC id l).map (·.at_)).Nodup := by
  unfold List.Nodup
  rw [List.pairwise_map, List.pairwise_iff_getElem]
  intro i j hi hj hij
  have h1 := payC_at id (l := l) (i := i) (List.getElem?_eq_getElem (by rwa [payC_len] at hi))
  have h2 := payC_at id (l := l) (i := j) (List.getElem?_eq_getElem (by rwa [payC_len] at hj))
  rw [List.getElem?_eq_getElem hi] at h1
  rw [List.getElem?_eq_getElem hj] at h2
  rw [Option.some.inj h1, Option.some.inj h2]
  intro e
  injection e with _ e
  omega
def payD (b : BlkD) : List CoinD := payC (blkH b) b.pay
theorem payD_len (b : BlkD) : (payD b).length = b.pay.length := payC_len _ _
/-- What a block's doings come to. -/
structure DoR where
  E : Int
  S : List CoinD
  d : DoneD
/-- What is kept lies in no block that may turn. -/
theorem kept_cell {V : Nat → Prop} {w : World} {b o : Nat} (h : Kept V w (fun w => ∃ u, w.cell? ⟨b, o, none⟩ = some u)) : ¬ V b := fun hv => by
  have f : Fr V w { w with heap := w.heap.setIfInBounds b (.cells #[] 0 (0, 0)) } := ⟨rfl, rfl, rfl, by simp, fun k hk hn => by
    have : b ≠ k := fun e => hn (e ▸ hv)
    simp [Array.getElem?_setIfInBounds_ne this]⟩
  obtain ⟨u, hu⟩ := h _ f
  have hlt : b < w.heap.size := by
    obtain ⟨u', hu'⟩ := h.now
    exact World.block_lt_of_cell? w _ hu'
  have hb : ({ w with heap := w.heap.setIfInBounds b (.cells #[] 0 (0, 0)) } : World).heap[b]? = some (.cells #[] 0 (0, 0)) := by simp [hlt]
  have := range_obj hb
  simp [World.cell?, hlt] at hu
theorem rows_at {α : Type} {k : Nat} {q : World → α → List Value → Prop} {V : Nat → Prop} {w : World} {v : Value} {L : List α} (hk0 : 0 < k) (hk : ∀ w d cs, q w d cs → cs.length = k) (h : Kept V w (fun w => RowsIs k q w v L)) {i : Nat} {d : α} (hx : L[i]? = some d) :
    ∃ b off cap cs, v = .slice (some ⟨b, off, none⟩) L.length cap ∧ ¬ V b ∧ q w d cs ∧ Kept V w (fun w => w.rangeAt b (off + i * k) cs ∧ q w d cs) := by
  obtain ⟨b, off, cap, cs, rfl, hr, hq⟩ := h.now.at_ hx
  have key : ∀ w', Fr V w w' → ∃ cs', w'.rangeAt b (off + i * k) cs' ∧ q w' d cs' := fun w' f => by
    obtain ⟨b', off', cap', cs', e, hr', hq'⟩ := (h w' f).at_ hx
    injection e with e1 e2 e3
    injection e1 with e1
    injection e1 with e1 e4
    subst e1
    subst e4
    exact ⟨cs', hr', hq'⟩
  have nV : ¬ V b := kept_cell (o := off + i * k) fun w' f => by
    obtain ⟨cs', hr', hq'⟩ := key w' f
    have hl := hk _ _ _ hq'
    cases cs' with
    | nil => simp at hl; omega
    | cons u r => exact ⟨u, hr' 0 u rfl⟩
  refine ⟨b, off, cap, cs, rfl, nV, hq, fun w' f => ?_⟩
  obtain ⟨cs', hr', hq'⟩ := key w' f
  have : cs' = cs := by
    have h1 := hk _ _ _ hq
    have h2 := hk _ _ _ hq'
    apply List.ext_getElem (by rw [h1, h2])
    intro j hj hj'
    have a1 := f.cell (hr j _ (List.getElem?_eq_getElem hj')) nV
    have a2 := hr' j _ (List.getElem?_eq_getElem hj)
    rw [a1] at a2
    exact (Option.some.inj a2).symm
  subst this
  exact ⟨hr', hq'⟩
/-- One element more, kept apart. -/
theorem infoChgZ : (Tryd.prog.info? 115).map (fun i => (i.zero, i.size, i.bytes)) = some (some (.agg #[.slice none 0 0, .slice none 0 0]), 2, 48) := by kernel_rfl
theorem infoChgZ2 : (Tryd.prog.info? 115).map (fun i => (i.zero, i.size)) = some (some (.agg #[.slice none 0 0, .slice none 0 0]), 2) := by kernel_rfl
theorem infoChg : (Tryd.prog.info? 115).map (·.size) = some 2 := by kernel_rfl
theorem descChg : ∃ d, Tryd.prog.underlying 115 = some d ∧ d.isRow = true := row_of (by kernel_rfl)
theorem undChgs : Tryd.prog.underlying 95 = some (.slice 115) := by kernel_rfl
theorem zeroChg (w : World) : (zeroValue 115).run Tryd.prog w = .ok (.agg #[.slice none 0 0, .slice none 0 0]) w := by kernel_rfl
theorem points_len {l : List PointD} (h : ∀ x ∈ l, x.ok) : (l.flatMap pointC).length = l.length * 33 := flatR_len pointC 33 l (fun x hx => pointC_len (h x hx))
theorem kept_points {w : World} {B : Nat} {v : Value} {l : List PointD} (h : w.ownsRow B 47 33 v l.length (l.flatMap pointC)) (ok : ∀ x ∈ l, x.ok) {V : Nat → Prop} (hV : ∀ j, v.ownBlock = some j → ¬ V j) : Kept V w (fun w => PointsIs w v l) :=
  fun w' f => ⟨ok, (ownsRow_keep h f hV).slice.arg⟩
end Go.Proofs.YtmpamcnlineceaaDoor
