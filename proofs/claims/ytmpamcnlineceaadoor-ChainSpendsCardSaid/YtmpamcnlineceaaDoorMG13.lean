/- sha: Sum. -/
import Derived.Lib.Bytealg
import Derived.Test.YtmpamcnlineceaaDoorMG10
import Derived.Test.YtmpamcnlineceaaDoorMG12
import Derived.Test.YtmpamcnlineceaaDoorMG4
set_option linter.unusedVariables false
set_option linter.unusedSimpArgs false
namespace Go.Proofs.YtmpamcnlineceaaDoor
open Go Go.RowKit Go.Maps Go.MapKept

theorem padded_ok {h : HashS} (ok : HashOk h) : HashOk (padded h) := (((ok.add 128).adds).adds)
theorem sumS_len {h : HashS} (ok : HashOk h) : (sumS h).length = 32 := by unfold sumS; rw [flat_len, (padded_ok ok).st]
set_option maxRecDepth 20000 in
set_option maxHeartbeats 4000000 in
theorem sum_any {w : World} (hg : ShaAt w) (hw2 : 2 < w.heap.size) {v : Value} {L : List (List Int)} (hl : ∀ p, w.heap.size ≤ p → PiecesAt w p v L) (hL : L.length ≤ 1000000) (hn : L.flatten.length ≤ 1000000000000) :
    Calls Tryd.prog 43 #[v] w fun e w' => e = .returned (.agg ((shaSum L.flatten).map byteV).toArray) ∧ Fr No w w' := by
  have HG := Lib.hid hg
  have HW := Lib.hid hw2
  have HL := Lib.hid hl
  have NL := Lib.hid hL
  have HN := Lib.hid (show (L.flatten.foldl addB hash0S).n = L.flatten.length by rw [addsB_n]; exact Nat.zero_add _)
  have z32 : ∀ w, (zeroValue 45).run Tryd.prog w = .ok (.agg zero32) w := fun w => by kernel_rfl
  clear hg hw2 hl hL
  obtain ⟨dh, yh, rh⟩ := descHash32
  go_enter Tryd.func43, Tryd.ntmps43
  have F1 := Lib.hid (show Fr No w (w.alloc (.cells zero32 45)) from (Fr.refl No w).alloc _)
  have B1 := Lib.hid (new_obj w (.cells zero32 45))
  have Q1 := Lib.hid (show (w.alloc (.cells zero32 45)).heap.size = w.heap.size + 1 by simp)
  go_wp2_with (first | (go_at_call 55; refine (newS_any (HG.out.keep F1.out id id)).mono ?_; rintro e w2 ⟨rfl, hw⟩; generalize w.alloc (.cells zero32 45) = w1 at *; have F2 := Lib.hid (show Fr No w1 w2 from hw ▸ (Fr.refl No w1).alloc _); have B2 := Lib.hid (show w2.heap[w1.heap.size]? = some (.cells (hasherC hash0S).toArray 143 (0, 0)) from hw ▸ new_obj w1 _); have Q2 := Lib.hid (show w1.heap.size < w2.heap.size by subst hw; simp); clear hw; generalize hp : w1.heap.size = p at *) | (go_at_call 56; refine (write_any ((HG.out.keep F1.out id id).keep F2.out id id) (by have := Q1.out; have := Q2.out; have := HW.out; omega) hash0S_ok B2.out ⟨by have := Q1.out; have := HW.out; omega, by have := Q1.out; have := HW.out; omega⟩ ((HL.out p (by have := Q1.out; omega)).keep (((F1.out.trans0 F2.out).of0 (W := fun j => j = p)))) NL.out (by show 0 + _ ≤ _; omega)).mono ?_; rintro e w3 ⟨rfl, hb3, f3⟩; have B3 := Lib.hid hb3; have F3 := Lib.hid f3; clear hb3 f3) | (go_at_call 57; refine (sumM_any (p := p) (((HG.out.keep F1.out id id).keep F2.out id id).keep F3.out (by have := Q1.out; have := HW.out; omega) (by have := Q1.out; have := HW.out; omega)) (by have := Q1.out; have := Q2.out; have := HW.out; have := F3.out.size; omega) (hash0S_ok.adds) B3.out ⟨by have := Q1.out; have := HW.out; omega, by have := Q1.out; have := HW.out; omega⟩ (by rw [HN.out]; exact hn)).mono ?_; rintro e w4 ⟨rfl, f4⟩; have F4 := Lib.hid f4; clear f4; have SL := Lib.hid (show ((sumS (L.flatten.foldl addB hash0S)).map byteV).length = 32 by rw [List.length_map]; exact sumS_len hash0S_ok.adds); have SE := Lib.hid (show shaSum L.flatten = sumS (L.flatten.foldl addB hash0S) from rfl); generalize sumS (L.flatten.foldl addB hash0S) = SB at *) | ((with_reducible refine at_store ?_); refine wpList_done rfl (exec_store_new (w := w4) (ty := 45) (cs := SB.map byteV) rfl rfl rfl (by rw [SL.out]; rfl) (by rw [SL.out]; exact infoHash32) (fun v hv => by obtain ⟨x, -, rfl⟩ := List.mem_map.1 hv; rfl)) ?_; have B5 := Lib.hid (new_obj w4 (.cells (SB.map byteV).toArray 45)); have F5 := Lib.hid (show Fr No w4 (w4.alloc (.cells (SB.map byteV).toArray 45)) from (Fr.refl No w4).alloc _); generalize w4.alloc (.cells (SB.map byteV).toArray 45) = w5 at *; generalize hq5 : w4.heap.size = q5 at *) | ((with_reducible refine at_dst 15 ?_); refine wpList_value rfl (exec_load (ty := 45) rfl rfl (range_objS B5.out) yh rh (by rw [SL.out]; exact infoHash32)) ?_) | (refine wpList_done rfl (exec_store (ty := 45) (b := w.heap.size) (off := 0) (cs := SB.map byteV) rfl rfl rfl (by rw [SL.out]; exact there_obj (F5.out.obj (F4.out.obj (F3.out.obj (F2.out.obj B1.out id) (by have := Q1.out; omega)) id) id) (Nat.le_refl 32)) (by rw [SL.out]; exact infoHash32) (fun v hv => by obtain ⟨x, -, rfl⟩ := List.mem_map.1 hv; rfl)) ?_))
  have FA := Lib.hid (show Fr No w w5 from (((((F1.out.trans0 F2.out).trans F3.out (fun i h e => (show False by have := Q1.out; omega))).trans0 F4.out).trans0 F5.out)))
  have HB := Lib.hid (show w5.heap[w.heap.size]? = some (.cells zero32 45 (0, 0)) from F5.out.obj (F4.out.obj (F3.out.obj (F2.out.obj B1.out id) (by have := Q1.out; omega)) id) id)
  have HE := setCells_heap w.heap.size 45 (SB.map byteV) 0 w5 zero32 HB.out
  have e := setM_mid (SB.map byteV) [] zero32.toList [] (by rw [SL.out]; rfl)
  simp only [List.nil_append, List.append_nil, List.length_nil] at e
  rw [e] at HE
  exact bodyPost_ret (v := .agg (SB.map byteV).toArray) (results_cell_row (P := Tryd.prog) (fn := Tryd.f43) rfl _ _ w.heap.size 45 (SB.map byteV).toArray (0, 0) _ rfl HE Tryd.underlying45 rfl (by rw [List.size_toArray, SL.out]; exact infoHash32)) rfl ⟨by rw [SE.out], FA.out.trans (setCells_fr _ _ _ _) (fun i hi e => (show False by omega))⟩
end Go.Proofs.YtmpamcnlineceaaDoor

/- Structs in structs: keys and comparisons, to any depth. -/
namespace Go
open Go.RowKit Go.Maps Go.MapKept
section
variable {P : Program} {S : World → Prop} {a : Act} {dst : Option Tmp} {ty ty2 : TypeId} {pos : String} {after : Array Edge} {gd : Option (Nat × Bool)} {x y : Operand}
/-- A type whose values are compared cell by cell, to any depth. -/
structure EqN (P : Program) (k : TypeId) : Prop where
  keyed : Keyed P k
  deep : ∃ m, m ≤ 10000 ∧ P.keyTypeAt m k = true
  wide : (match P.underlying k with | some (.array _ _) | some (.struct _) => true | _ => false) = true
  guard : P.eqGuardType P.depth k = false
theorem EqN.run {k : TypeId} (h : EqN P k) (w : World) {u v : Array Value} (hu : ∃ l, keyOf P k (.agg u) = some l) (hv : ∃ l, keyOf P k (.agg v) = some l) (b : Bool) (hb : b = true ↔ u = v) :
    (Op.equal k (.agg u) (.agg v)).run P w = .ok b w := by
  obtain ⟨l1, h1⟩ := hu
  obtain ⟨l2, h2⟩ := hv
  obtain ⟨r, hr, hiff⟩ := run_equal_deep w h.deep.choose_spec.1 h.deep.choose_spec.2 h.wide h1 h2
  have : r = b := by
    rw [Bool.eq_iff_iff, hiff, hb]
    constructor
    · intro e
      subst e
      have := h.keyed.inj h1 h2
      injection this
    · intro e
      subst e
      rw [h1] at h2
      exact Option.some.inj h2
  rw [hr, this]
theorem EqN.eql {k : TypeId} (h : EqN P k) (w : World) {u v : Array Value} (hu : ∃ l, keyOf P k (.agg u) = some l) (hv : ∃ l, keyOf P k (.agg v) = some l) (b : Bool) (hb : b = true ↔ u = v) :
    (binOp .eql k (.agg u) (.agg v)).run P w = .ok (.bool b) w := by
  have h1 := h.run w hu hv b hb
  rw [run_eql_struct]
  unfold Op.equal at h1
  rw [show Op.maxDepth = 10000 from rfl] at h1
  rw [h1]
  rfl
theorem EqN.neq {k : TypeId} (h : EqN P k) (w : World) {u v : Array Value} (hu : ∃ l, keyOf P k (.agg u) = some l) (hv : ∃ l, keyOf P k (.agg v) = some l) (b : Bool) (hb : b = true ↔ u = v) :
    (binOp .neq k (.agg u) (.agg v)).run P w = .ok (.bool (!b)) w := by
  have h1 := h.run w hu hv b hb
  rw [run_neq_struct]
  unfold Op.equal at h1
  rw [show Op.maxDepth = 10000 from rfl] at h1
  rw [h1]
  rfl
theorem EqN.exec_eql {k : TypeId} (h : EqN P k) {ev : Operand → Value} {o : Oper} (ho : o.op = .binOp .eql k x y ty2) {u v : Array Value} (hx : ev x = .agg u) (hy : ev y = .agg v) (hu : ∃ l, keyOf P k (.agg u) = some l) (hv : ∃ l, keyOf P k (.agg v) = some l) (b : Bool) (hb : b = true ↔ u = v) (w : World) :
    (execOp ev o).run P w = .ok (.value (.bool b)) w := by
  simp only [execOp, ho, hx, hy, Sem.run_bind, run_eqGuard_agg w .eql k x y u v h.guard, Result.andThen_ok, h.eql w hu hv b hb, Sem.run_pure]
theorem EqN.exec_neq {k : TypeId} (h : EqN P k) {ev : Operand → Value} {o : Oper} (ho : o.op = .binOp .neq k x y ty2) {u v : Array Value} (hx : ev x = .agg u) (hy : ev y = .agg v) (hu : ∃ l, keyOf P k (.agg u) = some l) (hv : ∃ l, keyOf P k (.agg v) = some l) (b : Bool) (hb : b = true ↔ u = v) (w : World) :
    (execOp ev o).run P w = .ok (.value (.bool (!b))) w := by
  simp only [execOp, ho, hx, hy, Sem.run_bind, run_eqGuard_agg w .neq k x y u v h.guard, Result.andThen_ok, h.neq w hu hv b hb, Sem.run_pure]
theorem keyLitsStruct {k : TypeId} {sh : List (TypeId × Nat × Bool)} (hsh : structShape P k = sh) (hne : sh ≠ []) (hb : sh.all (·.2.2) = true) {cs : List Value} (hc : P.cellsOf k = cs.length) (d : Nat)
    (hf : ∀ x ∈ sh, ∃ l, P.keyLits d x.1 ((cs.drop x.2.1).take (P.cellsOf x.1)) = some l) : ∃ l, P.keyLits (d + 1) k cs = some l := by
  unfold structShape at hsh
  split at hsh
  · rename_i fs hu
    subst hsh
    obtain ⟨ys, hys⟩ : ∃ ys, fs.toList.mapM (fun f => P.keyLits d f.type ((cs.drop f.offset).take (P.cellsOf f.type))) = some ys :=
      mapM_some fun f hm => hf (f.type, f.offset, f.name != "_") (List.mem_map.2 ⟨f, hm, rfl⟩)
    have hall : fs.all (·.name != "_") = true := by
      rw [← Array.all_toList]
      rw [List.all_map] at hb
      exact hb
    refine ⟨ys.flatten, ?_⟩
    unfold Program.keyLits
    simp only [hu, hc, hall, and_self, if_true, hys]
    rfl
  · exact absurd hsh.symm hne
end
end Go

/- Points, outputs, coins; sets of coins in the order of their points. Plain: no program. -/
namespace Go

structure PointD where
  tx : List Int
  n : Int
structure OutD where
  value : Int
  lock : List Int
structure CoinD where
  at_ : PointD
  out : OutD
instance : DecidableEq PointD := fun a b => if h : a.tx = b.tx ∧ a.n = b.n then isTrue (by cases a; cases b; simp_all) else isFalse (fun e => h (by rw [e]; exact ⟨rfl, rfl⟩))
def hashOk (l : List Int) : Prop := l.length = 32 ∧ ∀ x ∈ l, 0 ≤ x ∧ x ≤ 255
def PointD.ok (p : PointD) : Prop := hashOk p.tx ∧ 0 ≤ p.n ∧ p.n ≤ 4294967295
def OutD.ok (x : OutD) : Prop := (0 ≤ x.value ∧ x.value ≤ 18446744073709551615) ∧ hashOk x.lock
def CoinD.ok (c : CoinD) : Prop := c.at_.ok ∧ c.out.ok

/-! ### the order -/
def cmpI : List Int → List Int → Int
  | [], [] => 0
  | [], _ :: _ => -1
  | _ :: _, [] => 1
  | a :: as0, b :: bs => if a < b then -1 else if b < a then 1 else cmpI as0 bs
theorem cmpI_self : ∀ a, cmpI a a = 0
  | [] => rfl
  | x :: a => by simp [cmpI, cmpI_self a]
theorem cmpI_zero : ∀ {a b}, cmpI a b = 0 → a = b
  | [], [], _ => rfl
  | [], _ :: _, h => by simp [cmpI] at h
  | _ :: _, [], h => by simp [cmpI] at h
  | x :: a, y :: b, h => by
    unfold cmpI at h
    split at h
    · omega
    · split at h
      · omega
      · have : x = y := by omega
        rw [this, cmpI_zero h]
theorem cmpI_neg : ∀ a b, cmpI b a = - cmpI a b
  | [], [] => rfl
  | [], _ :: _ => rfl
  | _ :: _, [] => rfl
  | x :: a, y :: b => by
    unfold cmpI
    by_cases h1 : x < y
    · have : ¬ y < x := by omega
      simp [h1, this]
    · by_cases h2 : y < x
      · simp [h1, h2]
      · simp only [h1, h2, if_false]
        exact cmpI_neg a b
theorem cmpI_trans : ∀ {a b c}, cmpI a b = -1 → cmpI b c = -1 → cmpI a c = -1
  | [], [], _, h, _ => by simp [cmpI] at h
  | [], _ :: _, [], _, h => by simp [cmpI] at h
  | [], _ :: _, _ :: _, _, _ => rfl
  | _ :: _, [], _, h, _ => by simp [cmpI] at h
  | _ :: _, _ :: _, [], _, h => by simp [cmpI] at h
  | x :: a, y :: b, z :: c, h1, h2 => by
    unfold cmpI at *
    split at h1
    · split at h2
      · rw [if_pos (by omega)]
      · split at h2
        · omega
        · rw [if_pos (by omega)]
    · split at h1
      · omega
      · split at h2
        · rw [if_pos (by omega)]
        · split at h2
          · omega
          · rw [if_neg (by omega), if_neg (by omega)]
            exact cmpI_trans h1 h2
theorem cmpI_vals : ∀ a b, cmpI a b = -1 ∨ cmpI a b = 0 ∨ cmpI a b = 1
  | [], [] => .inr (.inl rfl)
  | [], _ :: _ => .inl rfl
  | _ :: _, [] => .inr (.inr rfl)
  | x :: a, y :: b => by
    unfold cmpI
    split
    · exact .inl rfl
    · split
      · exact .inr (.inr rfl)
      · exact cmpI_vals a b
def cmpN (a b : Int) : Int := if a < b then -1 else if b < a then 1 else 0
def cmpPt (p q : PointD) : Int := if cmpI p.tx q.tx = 0 then cmpN p.n q.n else cmpI p.tx q.tx
def ptLt (p q : PointD) : Bool := decide (cmpPt p q = -1)
theorem cmpPt_neg (p q : PointD) : cmpPt q p = - cmpPt p q := by
  unfold cmpPt
  rw [cmpI_neg p.tx q.tx]
  by_cases h : cmpI p.tx q.tx = 0
  · rw [h]; simp [cmpN]; split <;> split <;> omega
  · rw [if_neg (by omega), if_neg h]
theorem cmpPt_self (p : PointD) : cmpPt p p = 0 := by simp [cmpPt, cmpI_self, cmpN]
theorem cmpPt_zero {p q : PointD} (h : cmpPt p q = 0) : p = q := by
  unfold cmpPt at h
  split at h
  · rename_i h1
    have h2 := cmpI_zero h1
    unfold cmpN at h
    split at h
    · omega
    · split at h
      · omega
      · cases p; cases q; simp only [PointD.mk.injEq] at *; exact ⟨h2, by omega⟩
  · contradiction
theorem cmpPt_vals (p q : PointD) : cmpPt p q = -1 ∨ cmpPt p q = 0 ∨ cmpPt p q = 1 := by
  unfold cmpPt
  split
  · unfold cmpN; split
    · exact .inl rfl
    · split
      · exact .inr (.inr rfl)
      · exact .inr (.inl rfl)
  · exact cmpI_vals _ _
theorem cmpPt_trans {p q r : PointD} (h1 : cmpPt p q = -1) (h2 : cmpPt q r = -1) : cmpPt p r = -1 := by
  unfold cmpPt at *
  split at h1
  · rename_i e1
    have := cmpI_zero e1
    rw [this]
    split at h2
    · rename_i e2
      rw [if_pos e2]
      unfold cmpN at *
      split at h1
      · split at h2
        · rw [if_pos (by omega)]
        · split at h2 <;> omega
      · split at h1 <;> omega
    · rename_i e2
      rw [if_neg e2]
      exact h2
  · split at h2
    · rename_i e1 e2
      have := cmpI_zero e2
      rw [← this, if_neg (by omega)]
      exact h1
    · have := cmpI_trans h1 h2
      rw [if_neg (by omega)]
      exact this
theorem ptLt_irrefl (p : PointD) : ptLt p p = false := by simp [ptLt, cmpPt_self]
theorem ptLt_trans {p q r : PointD} (h1 : ptLt p q = true) (h2 : ptLt q r = true) : ptLt p r = true := by
  unfold ptLt at *
  simp only [decide_eq_true_eq] at *
  exact cmpPt_trans h1 h2
theorem ptLt_asymm {p q : PointD} (h : ptLt p q = true) : ptLt q p = false := by
  unfold ptLt at *
  simp only [decide_eq_true_eq, decide_eq_false_iff_not] at *
  rw [cmpPt_neg p q]; omega
theorem ptLt_total {p q : PointD} (h1 : ptLt p q = false) (h2 : ptLt q p = false) : p = q := by
  unfold ptLt at *
  simp only [decide_eq_false_iff_not] at *
  rw [cmpPt_neg p q] at h2
  exact cmpPt_zero (by rcases cmpPt_vals p q with h | h | h <;> omega)
theorem ptLt_ne {p q : PointD} (h : ptLt p q = true) : p ≠ q := fun e => by subst e; rw [ptLt_irrefl] at h; cases h

/-! ### sets -/
def hasC (S : List CoinD) (p : PointD) : Bool := S.any fun c => decide (c.at_ = p)
def findC (S : List CoinD) (p : PointD) : Option OutD := (S.find? fun c => decide (c.at_ = p)).map (·.out)
def insC (S : List CoinD) (c : CoinD) : List CoinD := S.takeWhile (fun x => !ptLt c.at_ x.at_) ++ c :: S.dropWhile (fun x => !ptLt c.at_ x.at_)
def putC (S l : List CoinD) : List CoinD := l.foldl insC S
def takeC (S : List CoinD) (ps : List PointD) : List CoinD := S.filter fun c => !decide (c.at_ ∈ ps)
def SrtC (S : List CoinD) : Prop := S.Pairwise fun a b => ptLt a.at_ b.at_ = true
theorem hasC_iff {S : List CoinD} {p : PointD} : hasC S p = true ↔ ∃ c ∈ S, c.at_ = p := by simp [hasC]
theorem hasC_not {S : List CoinD} {p : PointD} : hasC S p = false ↔ ∀ c ∈ S, c.at_ ≠ p := by simp [hasC]
theorem SrtC.nodup {S : List CoinD} (h : SrtC S) : (S.map (·.at_)).Nodup := by
  rw [List.Nodup, List.pairwise_map]
  exact h.imp fun h => ptLt_ne h
theorem SrtC.uniq {S : List CoinD} (h : SrtC S) {a b : CoinD} (ha : a ∈ S) (hb : b ∈ S) (e : a.at_ = b.at_) : a = b := by
  induction h with
  | nil => cases ha
  | cons hx _ ih =>
    rcases List.mem_cons.1 ha with rfl | ha' <;> rcases List.mem_cons.1 hb with rfl | hb'
    · rfl
    · exact absurd e (ptLt_ne (hx _ hb'))
    · exact absurd e.symm (ptLt_ne (hx _ ha'))
    · exact ih ha' hb'
theorem findC_some {S : List CoinD} (h : SrtC S) {c : CoinD} (hc : c ∈ S) : findC S c.at_ = some c.out := by
  unfold findC
  cases e : S.find? fun x => decide (x.at_ = c.at_) with
  | none =>
    have := List.find?_eq_none.1 e c hc
    simp at this
  | some x =>
    have h1 := List.mem_of_find?_eq_some e
    have h2 := List.find?_some e
    simp only [decide_eq_true_eq] at h2
    rw [h.uniq h1 hc h2]; rfl
theorem findC_none {S : List CoinD} {p : PointD} (h : hasC S p = false) : findC S p = none := by
  unfold findC
  rw [List.find?_eq_none.2 (fun x hx => by have := hasC_not.1 h x hx; simpa using this)]
  rfl
theorem findC_isSome {S : List CoinD} {p : PointD} : (findC S p).isSome = hasC S p := by
  rw [Bool.eq_iff_iff, hasC_iff]
  unfold findC
  simp
theorem mem_while {α : Type} {f : α → Bool} {x : α} : ∀ {L : List α}, x ∈ L.takeWhile f → f x = true
  | [], h => by cases h
  | y :: L, h => by
    rw [List.takeWhile_cons] at h
    split at h
    · rename_i hy
      rcases List.mem_cons.1 h with rfl | h
      · exact hy
      · exact mem_while h
    · cases h
theorem mem_insC {S : List CoinD} {c x : CoinD} : x ∈ insC S c ↔ x = c ∨ x ∈ S := by
  have e := List.takeWhile_append_dropWhile (p := fun x : CoinD => !ptLt c.at_ x.at_) (l := S)
  unfold insC
  constructor
  · intro h
    rcases List.mem_append.1 h with h | h
    · right; rw [← e]; exact List.mem_append.2 (.inl h)
    · rcases List.mem_cons.1 h with h | h
      · exact .inl h
      · right; rw [← e]; exact List.mem_append.2 (.inr h)
  · rintro (rfl | h)
    · simp
    · rw [← e] at h
      rcases List.mem_append.1 h with h | h
      · exact List.mem_append.2 (.inl h)
      · exact List.mem_append.2 (.inr (List.mem_cons_of_mem _ h))
theorem insC_perm (S : List CoinD) (c : CoinD) : (insC S c).Perm (c :: S) := by
  unfold insC
  refine List.perm_middle.trans ?_
  rw [List.takeWhile_append_dropWhile]
theorem insC_len (S : List CoinD) (c : CoinD) : (insC S c).length = S.length + 1 := by rw [(insC_perm S c).length_eq]; rfl
theorem insC_srt {S : List CoinD} (h : SrtC S) {c : CoinD} (hc : hasC S c.at_ = false) : SrtC (insC S c) := by
  have hne := hasC_not.1 hc
  have e := List.takeWhile_append_dropWhile (p := fun x : CoinD => !ptLt c.at_ x.at_) (l := S)
  have ht : ∀ x ∈ S.takeWhile (fun x => !ptLt c.at_ x.at_), ptLt x.at_ c.at_ = true := by
    intro x hx
    have h1 : ptLt c.at_ x.at_ = false := by have := mem_while hx; simpa using this
    cases h2 : ptLt x.at_ c.at_ with
    | true => rfl
    | false => exact absurd (ptLt_total h2 h1) (hne x ((List.takeWhile_prefix _).subset hx))
  have hd : ∀ x ∈ S.dropWhile (fun x => !ptLt c.at_ x.at_), ptLt c.at_ x.at_ = true := by
    cases hD : S.dropWhile (fun x => !ptLt c.at_ x.at_) with
    | nil => intro x hx; cases hx
    | cons y D =>
      have hy : ptLt c.at_ y.at_ = true := by
        have := List.head?_dropWhile_not (fun x : CoinD => !ptLt c.at_ x.at_) S
        rw [hD] at this
        simpa using this
      have hs : SrtC (y :: D) := by rw [← hD]; exact List.Pairwise.sublist (List.dropWhile_suffix _).sublist h
      intro x hx
      rcases List.mem_cons.1 hx with rfl | hx
      · exact hy
      · exact ptLt_trans hy ((List.pairwise_cons.1 hs).1 x hx)
  unfold insC SrtC
  rw [List.pairwise_append]
  refine ⟨List.Pairwise.sublist (List.takeWhile_prefix _).sublist h, List.pairwise_cons.2 ⟨hd, List.Pairwise.sublist (List.dropWhile_suffix _).sublist h⟩, ?_⟩
  intro a ha b hb
  rcases List.mem_cons.1 hb with rfl | hb
  · exact ht a ha
  · exact ptLt_trans (ht a ha) (hd b hb)
theorem mem_putC : ∀ {l S : List CoinD} {x : CoinD}, x ∈ putC S l ↔ x ∈ S ∨ x ∈ l
  | [], S, x => by simp [putC]
  | c :: l, S, x => by
    show x ∈ putC (insC S c) l ↔ _
    rw [mem_putC, mem_insC]
    simp only [List.mem_cons]
    constructor
    · rintro ((h | h) | h)
      · exact .inr (.inl h)
      · exact .inl h
      · exact .inr (.inr h)
    · rintro (h | h | h)
      · exact .inl (.inr h)
      · exact .inl (.inl h)
      · exact .inr h
theorem putC_perm : ∀ (l S : List CoinD), (putC S l).Perm (S ++ l)
  | [], S => by simp [putC]
  | c :: l, S => by
    show (putC (insC S c) l).Perm _
    refine (putC_perm l _).trans ?_
    refine ((insC_perm S c).append_right l).trans ?_
    exact List.perm_middle.symm
theorem putC_srt : ∀ {l S : List CoinD}, SrtC S → (l.map (·.at_)).Nodup → (∀ c ∈ l, hasC S c.at_ = false) → SrtC (putC S l)
  | [], S, h, _, _ => h
  | c :: l, S, h, hn, hd => by
    show SrtC (putC (insC S c) l)
    rw [List.map_cons, List.nodup_cons] at hn
    refine putC_srt (insC_srt h (hd c (by simp))) hn.2 ?_
    intro x hx
    rw [hasC_not]
    intro y hy
    rcases mem_insC.1 hy with rfl | hy
    · exact fun e => hn.1 (by rw [e]; exact List.mem_map.2 ⟨x, hx, rfl⟩)
    · exact hasC_not.1 (hd x (by simp [hx])) y hy
theorem takeC_srt {S : List CoinD} {ps : List PointD} (h : SrtC S) : SrtC (takeC S ps) := List.Pairwise.filter _ h
theorem mem_takeC {S : List CoinD} {ps : List PointD} {x : CoinD} : x ∈ takeC S ps ↔ x ∈ S ∧ x.at_ ∉ ps := by simp [takeC]
/-- Two sorted sets with the same coins are one. -/
theorem SrtC.same {S R : List CoinD} (h : SrtC S) (h' : SrtC R) (hm : ∀ x, x ∈ S ↔ x ∈ R) : S = R := by
  have nd : ∀ {T : List CoinD}, SrtC T → T.Nodup := fun {T} h => by unfold List.Nodup; exact List.Pairwise.imp (fun {a b} h e => by subst e; rw [ptLt_irrefl] at h; cases h) h
  refine List.Perm.eq_of_pairwise (le := fun a b : CoinD => ptLt a.at_ b.at_ = true) ?_ h h' ((List.perm_ext_iff_of_nodup (nd h) (nd h')).2 hm)
  intro a b _ _ h1 h2
  rw [ptLt_asymm h1] at h2; cases h2
end Go
