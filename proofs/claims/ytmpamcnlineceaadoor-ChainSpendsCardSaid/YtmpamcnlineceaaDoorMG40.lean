/- chain, plain: what a transaction spends and makes, what a block does, what is undone. -/
import Derived.Test.YtmpamcnlineceaaDoorMG39
import Derived.Test.YtmpamcnlineceaaDoorMG36
set_option linter.unusedVariables false
set_option linter.unusedSimpArgs false
set_option linter.unnecessarySimpa false
set_option linter.all false
namespace Go.Proofs.YtmpamcnlineceaaDoor
open Go Go.RowKit Go.Maps Go.MapKept

def tookD (S : List CoinD) (t : TxD) : List CoinD := (ptsD t).map fun q => ⟨q, outOf S q⟩
def prevD (S : List CoinD) (t : TxD) : List OutD := (ptsD t).map (outOf S)
def madeC (t : TxD) : List CoinD := payC (idH t) t.outs
def spE (S : List CoinD) (t : TxD) : Int :=
  if (ptsD t).all (hasC S) = true then
    (if feeE t (prevD S t) = 0 then (if putE (takeC S (ptsD t)) (madeC t) = 0 then 0 else 10) else feeE t (prevD S t))
  else 15
def spS (S : List CoinD) (t : TxD) : List CoinD := if spE S t = 0 then putC (takeC S (ptsD t)) (madeC t) else S
def spG (S : List CoinD) (t : TxD) : ChgD := ⟨tookD S t, (madeC t).map (·.at_)⟩
theorem ptsD_len (t : TxD) : (ptsD t).length = t.ins.length := by simp [ptsD]
theorem madeC_len (t : TxD) : (madeC t).length = t.outs.length := payC_len _ _
theorem prevD_len (S : List CoinD) (t : TxD) : (prevD S t).length = t.ins.length := by simp [prevD, ptsD]
theorem tookD_len (S : List CoinD) (t : TxD) : (tookD S t).length = t.ins.length := by simp [tookD, ptsD]
theorem madeC_nodup (t : TxD) : ((madeC t).map (·.at_)).Nodup := payC_nodup _ _
theorem tookD_at (S : List CoinD) (t : TxD) : (tookD S t).map (·.at_) = ptsD t := by simp [tookD, Function.comp_def]
theorem tookD_out (S : List CoinD) (t : TxD) : (tookD S t).map (·.out) = prevD S t := by simp [tookD, prevD, Function.comp_def]
/-- What a good transaction is. -/
theorem check0 {t : TxD} (h : checkE t = 0) : formB t = true ∧ t.ins ≠ [] ∧ t.outs ≠ [] ∧ (ptsD t).Nodup ∧ (∀ x ∈ t.outs, badV x = false) ∧ sumO t.outs ≤ 1125899906842624 := by
  unfold checkE at h
  split at h
  · rename_i h1
    split at h
    · cases h
    · rename_i h2
      split at h
      · cases h
      · rename_i h3
        split at h
        · cases h
        · rename_i h4
          split at h
          · rename_i h5
            have h3' : t.outs.any badV = false := by simpa using h3
            exact ⟨h1, fun e => h2 (.inl (by rw [e]; rfl)), fun e => h2 (.inr (by rw [e]; rfl)), h5, fun x hx => by simpa using List.any_eq_false.1 h3' x hx, by omega⟩
          · cases h
  · cases h
theorem fee_check {t : TxD} {prev : List OutD} (h : feeE t prev = 0) : checkE t = 0 := by
  unfold feeE at h
  split at h
  · rename_i h1; exact h1
  · exact h
theorem fee_sum {t : TxD} {prev : List OutD} (h : feeE t prev = 0) : sumO t.outs ≤ (valsO prev).sum := by
  unfold feeE at h
  split at h
  · split at h
    · split at h
      · split at h
        · split at h
          · rename_i h5; exact h5
          · cases h
        · cases h
      · cases h
    · cases h
  · rename_i h1; exact absurd h h1
theorem fee_nz {t : TxD} {prev : List OutD} : feeE t prev ≠ 0 → checkE t = 0 → feeE t prev = 2 ∨ feeE t prev = 13 ∨ feeE t prev = 11 := by
  intro h h0
  unfold feeE at h ⊢
  rw [if_pos h0] at h ⊢
  split
  · split
    · split
      · split
        · rename_i h1 h2 h3 h4
          rw [if_pos h1, if_pos h2, if_pos h3, if_pos h4] at h
          exact absurd rfl h
        · exact .inr (.inr rfl)
      · exact .inr (.inr rfl)
    · exact .inr (.inl rfl)
  · exact .inl rfl
theorem outOf_mem {S : List CoinD} (srt : SrtC S) {q : PointD} (h : hasC S q = true) : (⟨q, outOf S q⟩ : CoinD) ∈ S := by
  obtain ⟨c, hc, e⟩ := hasC_iff.1 h
  have h1 := findC_some srt hc
  rw [e] at h1
  have : outOf S q = c.out := by unfold outOf; rw [h1]; rfl
  rw [this, ← e]
  exact hc
theorem mem_tookD {S : List CoinD} (srt : SrtC S) {t : TxD} (h : (ptsD t).all (hasC S) = true) {x : CoinD} : x ∈ tookD S t ↔ x ∈ S ∧ x.at_ ∈ ptsD t := by
  unfold tookD
  rw [List.mem_map]
  constructor
  · rintro ⟨q, hq, rfl⟩
    exact ⟨outOf_mem srt (List.all_eq_true.1 h q hq), hq⟩
  · rintro ⟨h1, h2⟩
    refine ⟨x.at_, h2, ?_⟩
    have := findC_some srt h1
    have e : outOf S x.at_ = x.out := by unfold outOf; rw [this]; rfl
    rw [e]
theorem tookD_ok {S : List CoinD} (ok : ∀ c ∈ S, c.ok) {t : TxD} (ht : ∀ x ∈ t.ins, x.from_.ok) : ∀ c ∈ tookD S t, c.ok := by
  intro c hc
  obtain ⟨q, hq, rfl⟩ := List.mem_map.1 hc
  obtain ⟨x, hx, rfl⟩ := List.mem_map.1 hq
  exact ⟨ht x hx, outOf_ok ok _⟩
theorem prevD_ok {S : List CoinD} (ok : ∀ c ∈ S, c.ok) (t : TxD) : ∀ x ∈ prevD S t, x.ok := by
  intro x hx
  obtain ⟨q, _, rfl⟩ := List.mem_map.1 hx
  exact outOf_ok ok q
theorem madeC_ok {t : TxD} (ho : ∀ x ∈ t.outs, x.ok) (hl : t.outs.length ≤ 1000) : ∀ c ∈ madeC t, c.ok := payC_ok (idH_ok t) ho (by omega)
theorem take_all {S : List CoinD} {ps : List PointD} (h1 : ps.Nodup) (h2 : ps.all (hasC S) = true) : takeE S ps = 0 ∧ takeS S ps = takeC S ps := by
  have e : takeE S ps = 0 := by unfold takeE; rw [if_pos h1, if_pos h2]
  exact ⟨e, by unfold takeS; rw [if_pos e]⟩
/-- What was taken, put back. -/
theorem put_back {S : List CoinD} (srt : SrtC S) {t : TxD} (h : (ptsD t).all (hasC S) = true) (hn : (ptsD t).Nodup) : putE (takeC S (ptsD t)) (tookD S t) = 0 ∧ putS (takeC S (ptsD t)) (tookD S t) = S := by
  have h1 : ∀ c ∈ tookD S t, hasC (takeC S (ptsD t)) c.at_ = false := fun c hc => by
    rw [hasC_not]
    intro d hd e
    have := (mem_takeC.1 hd).2
    rw [e] at this
    exact this ((mem_tookD srt h).1 hc).2
  have h2 := putE_0 (by rw [tookD_at]; exact hn) h1
  refine ⟨h2.1, ?_⟩
  rw [h2.2]
  refine SrtC.same (putC_srt (takeC_srt srt) (by rw [tookD_at]; exact hn) h1) srt (fun x => ?_)
  rw [mem_putC, mem_takeC, mem_tookD srt h]
  constructor
  · rintro (⟨a, _⟩ | ⟨a, _⟩) <;> exact a
  · intro hx
    by_cases hp : x.at_ ∈ ptsD t
    · exact .inr ⟨hx, hp⟩
    · exact .inl ⟨hx, hp⟩
theorem putE_all {S l : List CoinD} (h : putE S l = 0) : (l.map (·.at_)).Nodup ∧ ∀ c ∈ l, hasC S c.at_ = false := by
  unfold putE at h
  split at h
  · rename_i h1
    split at h
    · cases h
    · rename_i h2
      refine ⟨h1, fun c hc => ?_⟩
      have h2' : l.any (fun c => hasC S c.at_) = false := by simpa using h2
      simpa using List.any_eq_false.1 h2' c hc
  · cases h
/-- What was put, taken out. -/
theorem take_back {S l : List CoinD} (srt : SrtC S) (h : putE S l = 0) : takeS (putC S l) (l.map (·.at_)) = S := by
  obtain ⟨hn, hd⟩ := putE_all h
  have h2 : (l.map (·.at_)).all (hasC (putC S l)) = true := List.all_eq_true.2 fun q hq => by
    obtain ⟨c, hc, rfl⟩ := List.mem_map.1 hq
    exact hasC_iff.2 ⟨c, mem_putC.2 (.inr hc), rfl⟩
  rw [(take_all hn h2).2]
  refine SrtC.same (takeC_srt (putC_srt srt hn hd)) srt (fun x => ?_)
  rw [mem_takeC, mem_putC]
  constructor
  · rintro ⟨a | a, b⟩
    · exact a
    · exact absurd (List.mem_map.2 ⟨x, a, rfl⟩) b
  · intro hx
    refine ⟨.inl hx, fun hm => ?_⟩
    obtain ⟨c, hc, e⟩ := List.mem_map.1 hm
    exact (hasC_not.1 (hd c hc)) x hx e.symm
theorem sp0 {S : List CoinD} {t : TxD} (h : spE S t = 0) : (ptsD t).all (hasC S) = true ∧ feeE t (prevD S t) = 0 ∧ putE (takeC S (ptsD t)) (madeC t) = 0 := by
  unfold spE at h
  split at h
  · rename_i h1
    split at h
    · rename_i h2
      split at h
      · rename_i h3
        exact ⟨h1, h2, h3⟩
      · cases h
    · rename_i h2
      exact absurd h h2
  · cases h
theorem spS_srt {S : List CoinD} (srt : SrtC S) (t : TxD) : SrtC (spS S t) := by
  unfold spS
  split
  · rename_i h
    obtain ⟨_, _, h3⟩ := sp0 h
    obtain ⟨a, b⟩ := putE_all h3
    exact putC_srt (takeC_srt srt) a b
  · exact srt
theorem spS_ok {S : List CoinD} (ok : ∀ c ∈ S, c.ok) {t : TxD} (ho : ∀ x ∈ t.outs, x.ok) (hl : t.outs.length ≤ 1000) : ∀ c ∈ spS S t, c.ok := by
  unfold spS
  split
  · intro c hc
    rcases mem_putC.1 hc with h | h
    · exact ok c (mem_takeC.1 h).1
    · exact madeC_ok ho hl c h
  · exact ok
theorem spS_len (S : List CoinD) (t : TxD) : (spS S t).length ≤ S.length + t.outs.length := by
  unfold spS
  split
  · rw [(putC_perm _ _).length_eq, List.length_append, madeC_len]
    have : (takeC S (ptsD t)).length ≤ S.length := List.length_filter_le _ _
    omega
  · omega
/-- One transaction undone. -/
theorem sp_undo {S : List CoinD} (srt : SrtC S) {t : TxD} (h : spE S t = 0) : putS (takeS (spS S t) (spG S t).made) (spG S t).took = S := by
  obtain ⟨h1, h2, h3⟩ := sp0 h
  have hc := check0 (fee_check h2)
  have e : spS S t = putC (takeC S (ptsD t)) (madeC t) := by unfold spS; rw [if_pos h]
  rw [e]
  show putS (takeS (putC (takeC S (ptsD t)) (madeC t)) ((madeC t).map (·.at_))) (tookD S t) = S
  rw [take_back (takeC_srt srt) h3]
  exact (put_back srt h1 hc.2.2.2.1).2
/-! ### a block -/
structure StD where
  S : List CoinD
  ids : List HashD
  chg : List ChgD
def txE (K : List HashD) (s : StD) (t : TxD) : Int := if checkE t = 0 then (if idH t ∈ K ∨ idH t ∈ s.ids then 19 else spE s.S t) else checkE t
def txS (s : StD) (t : TxD) : StD := ⟨spS s.S t, s.ids ++ [idH t], s.chg ++ [spG s.S t]⟩
def runT (K : List HashD) : List TxD → StD → Int × StD
  | [], s => (0, s)
  | t :: l, s => if txE K s t = 0 then runT K l (txS s t) else (txE K s t, s)
theorem runT_good {K : List HashD} {t : TxD} {l : List TxD} {s : StD} (h : txE K s t = 0) : runT K (t :: l) s = runT K l (txS s t) := by
  rw [runT, if_pos h]
theorem runT_bad {K : List HashD} {t : TxD} {l : List TxD} {s : StD} (h : txE K s t ≠ 0) : runT K (t :: l) s = (txE K s t, s) := by
  rw [runT, if_neg h]
theorem tx0 {K : List HashD} {s : StD} {t : TxD} (h : txE K s t = 0) : checkE t = 0 ∧ idH t ∉ K ∧ idH t ∉ s.ids ∧ spE s.S t = 0 := by
  unfold txE at h
  split at h
  · rename_i h1
    split at h
    · cases h
    · rename_i h2
      exact ⟨h1, fun e => h2 (.inl e), fun e => h2 (.inr e), h⟩
  · rename_i h1
    exact absurd h h1
/-- What a block's doings come to. -/
def st0 (S : List CoinD) : StD := ⟨S, [], []⟩
def doR (K : List HashD) (S : List CoinD) (b : BlkD) : DoR :=
  if (runT K b.txs (st0 S)).1 = 0 then
    (if putE (runT K b.txs (st0 S)).2.S (payD b) = 0 then ⟨0, putC (runT K b.txs (st0 S)).2.S (payD b), ⟨b, (runT K b.txs (st0 S)).2.ids, (runT K b.txs (st0 S)).2.chg ++ [⟨[], (payD b).map (·.at_)⟩]⟩⟩
     else ⟨10, (runT K b.txs (st0 S)).2.S, ⟨b, (runT K b.txs (st0 S)).2.ids, (runT K b.txs (st0 S)).2.chg⟩⟩)
  else ⟨(runT K b.txs (st0 S)).1, (runT K b.txs (st0 S)).2.S, ⟨b, (runT K b.txs (st0 S)).2.ids, (runT K b.txs (st0 S)).2.chg⟩⟩
/-- What holds between the doings: all that was done can be undone. -/
structure StOk (S0 : List CoinD) (K : List HashD) (n : Nat) (s : StD) : Prop where
  srt : SrtC s.S
  ok : ∀ c ∈ s.S, c.ok
  len : s.S.length ≤ S0.length + 8 * n
  undo : undoS s.chg s.S = S0
  il : s.ids.length = n
  cl : s.chg.length = n
  took : tookN s.chg ≤ 16 * n
  new : ∀ x ∈ s.ids, x ∉ K
  iok : ∀ x ∈ s.ids, hashOk x
theorem tookN_snoc (l : List ChgD) (c : ChgD) : tookN (l ++ [c]) = tookN l + (c.took.length + c.made.length) := by simp [tookN]
theorem undoS_snoc (l : List ChgD) (c : ChgD) (S : List CoinD) : undoS (l ++ [c]) S = undoS l (putS (takeS S c.made) c.took) := by simp [undoS, List.foldr_append]
theorem StOk.start {S : List CoinD} (srt : SrtC S) (ok : ∀ c ∈ S, c.ok) (K : List HashD) : StOk S K 0 (st0 S) :=
  ⟨srt, ok, Nat.le_refl _, rfl, rfl, rfl, Nat.le_refl _, fun x h => (by cases h), fun x h => (by cases h)⟩
theorem form8 {t : TxD} (h : formB t = true) : t.ins.length ≤ 8 ∧ t.outs.length ≤ 8 := ⟨(formB_iff.1 h).2.1, (formB_iff.1 h).2.2⟩
theorem StOk.step {S0 : List CoinD} {K : List HashD} {n : Nat} {s : StD} (h : StOk S0 K n s) {t : TxD} (ho : ∀ x ∈ t.outs, x.ok) (h0 : txE K s t = 0) : StOk S0 K (n + 1) (txS s t) := by
  obtain ⟨h1, h2, h3, h4⟩ := tx0 h0
  have hf := form8 (check0 h1).1
  refine ⟨spS_srt h.srt t, spS_ok h.ok ho (by omega), ?_, ?_, ?_, ?_, ?_, ?_, ?_⟩
  · have a := spS_len s.S t
    have b := h.len
    show (spS s.S t).length ≤ _
    omega
  · show undoS (s.chg ++ [spG s.S t]) (spS s.S t) = S0
    rw [undoS_snoc, sp_undo h.srt h4]
    exact h.undo
  · show (s.ids ++ [idH t]).length = _
    rw [List.length_append, h.il]; rfl
  · show (s.chg ++ [spG s.S t]).length = _
    rw [List.length_append, h.cl]; rfl
  · show tookN (s.chg ++ [spG s.S t]) ≤ _
    rw [tookN_snoc]
    have a := h.took
    have b : (spG s.S t).took.length = t.ins.length := tookD_len _ _
    have c : (spG s.S t).made.length = t.outs.length := by show ((madeC t).map (·.at_)).length = _; rw [List.length_map, madeC_len]
    omega
  · intro x hx
    rcases List.mem_append.1 hx with hx | hx
    · exact h.new x hx
    · simp at hx; subst hx; exact h2
  · intro x hx
    rcases List.mem_append.1 hx with hx | hx
    · exact h.iok x hx
    · simp at hx; subst hx; exact idH_ok t
/-- Somewhere it stops, at the latest at the end. -/
theorem runT_ok {S0 : List CoinD} {K : List HashD} : ∀ (l : List TxD) {n : Nat} {s : StD}, StOk S0 K n s → (∀ t ∈ l, ∀ x ∈ t.outs, x.ok) → ∃ m, m ≤ n + l.length ∧ StOk S0 K m (runT K l s).2
  | [], n, s, h, _ => ⟨n, Nat.le_refl _, h⟩
  | t :: l, n, s, h, ho => by
    by_cases h0 : txE K s t = 0
    · rw [runT_good h0]
      obtain ⟨m, hm, hs⟩ := runT_ok l (h.step (ho t (.head _)) h0) (fun u hu => ho u (.tail _ hu))
      exact ⟨m, by simp only [List.length_cons]; omega, hs⟩
    · rw [runT_bad h0]
      exact ⟨n, by omega, h⟩
/-- What a block's doings are, and that they can be undone. -/
theorem doR_ok {K : List HashD} {S : List CoinD} (srt : SrtC S) (ok : ∀ c ∈ S, c.ok) {b : BlkD} (hb : ∀ t ∈ b.txs, ∀ x ∈ t.outs, x.ok) (hp : ∀ x ∈ b.pay, x.ok) (hl : b.txs.length ≤ 16) (hl2 : b.pay.length ≤ 8) :
    SrtC (doR K S b).S ∧ (∀ c ∈ (doR K S b).S, c.ok) ∧ (doR K S b).S.length ≤ S.length + 136 ∧ undoS (doR K S b).d.chg (doR K S b).S = S ∧ (doR K S b).d.blk = b ∧ (doR K S b).d.ids.length ≤ 16 ∧ (doR K S b).d.chg.length ≤ 17 ∧ tookN (doR K S b).d.chg ≤ 264 ∧ (∀ x ∈ (doR K S b).d.ids, x ∉ K) ∧ ∀ x ∈ (doR K S b).d.ids, hashOk x := by
  obtain ⟨m, hm, h⟩ := runT_ok b.txs (StOk.start srt ok K) hb
  have hm' : m ≤ 16 := by omega
  have h1 := h.len
  have h2 := h.il
  have h3 := h.cl
  have h4 := h.took
  unfold doR
  split
  · split
    · rename_i hz hput
      obtain ⟨a, c⟩ := putE_all hput
      refine ⟨putC_srt h.srt a c, ?_, ?_, ?_, rfl, ?_, ?_, ?_, h.new, h.iok⟩
      · intro x hx
        rcases mem_putC.1 hx with hx | hx
        · exact h.ok x hx
        · exact payC_ok (blkH_ok b) hp (by omega) x hx
      · show (putC _ _).length ≤ _
        rw [(putC_perm _ _).length_eq, List.length_append, payD_len]
        omega
      · show undoS (_ ++ [_]) (putC _ _) = S
        rw [undoS_snoc]
        show undoS _ (putS (takeS (putC _ _) ((payD b).map (·.at_))) []) = S
        rw [take_back h.srt hput]
        rw [show putS (runT K b.txs (st0 S)).2.S [] = (runT K b.txs (st0 S)).2.S from (putE_0 (by simp) (fun c hc => by cases hc)).2]
        exact h.undo
      · dsimp only
        omega
      · dsimp only
        rw [List.length_append]
        simp
        omega
      · dsimp only
        rw [tookN_snoc]
        simp only [List.length_nil, List.length_map, payD_len]
        omega
    · exact ⟨h.srt, h.ok, (by dsimp only; omega), h.undo, rfl, (by dsimp only; omega), (by dsimp only; omega), (by dsimp only; omega), h.new, h.iok⟩
  · exact ⟨h.srt, h.ok, (by dsimp only; omega), h.undo, rfl, (by dsimp only; omega), (by dsimp only; omega), (by dsimp only; omega), h.new, h.iok⟩
/-! ### Connect -/
def connE (K : List HashD) (S : List CoinD) (bs : List DoneD) (b : BlkD) : Int := if 1024 ≤ bs.length then 18 else if blkOk b = true then (if b.pay.any badV = true then 11 else (doR K S b).E) else 5
def connS (K : List HashD) (S : List CoinD) (bs : List DoneD) (b : BlkD) : List CoinD := if connE K S bs b = 0 then (doR K S b).S else S
def connB (K : List HashD) (S : List CoinD) (bs : List DoneD) (b : BlkD) : List DoneD := if connE K S bs b = 0 then bs ++ [(doR K S b).d] else bs
def connK (K : List HashD) (S : List CoinD) (bs : List DoneD) (b : BlkD) : List HashD := if connE K S bs b = 0 then K ++ (doR K S b).d.ids else K
theorem conn0 {K : List HashD} {S : List CoinD} {bs : List DoneD} {b : BlkD} (h : connE K S bs b = 0) : bs.length < 1024 ∧ blkOk b = true ∧ b.pay.any badV = false ∧ (doR K S b).E = 0 := by
  unfold connE at h
  split at h
  · cases h
  · split at h
    · split at h
      · cases h
      · exact ⟨by omega, ‹_›, by simpa using ‹¬ (b.pay.any badV = true)›, h⟩
    · cases h
theorem doR0 {K : List HashD} {S : List CoinD} {b : BlkD} (h : (doR K S b).E = 0) : (runT K b.txs (st0 S)).1 = 0 ∧ putE (runT K b.txs (st0 S)).2.S (payD b) = 0 ∧ (doR K S b).S = putC (runT K b.txs (st0 S)).2.S (payD b) ∧ (doR K S b).d = ⟨b, (runT K b.txs (st0 S)).2.ids, (runT K b.txs (st0 S)).2.chg ++ [⟨[], (payD b).map (·.at_)⟩]⟩ := by
  unfold doR at h ⊢
  split at h
  · rename_i h1
    split at h
    · rename_i h2
      rw [if_pos h1, if_pos h2]
      exact ⟨h1, h2, rfl, rfl⟩
    · cases h
  · rename_i h1
    exact absurd h h1
/-- All went well: one behind the other. -/
theorem runT_all {K : List HashD} : ∀ (l : List TxD) (s : StD), (runT K l s).1 = 0 → (runT K l s).2.ids = s.ids ++ l.map idH ∧ ∀ t ∈ l, checkE t = 0
  | [], s, _ => ⟨by simp [runT], fun t h => by cases h⟩
  | t :: l, s, h => by
    by_cases h0 : txE K s t = 0
    · rw [runT_good h0] at h ⊢
      obtain ⟨a, b⟩ := runT_all l (txS s t) h
      refine ⟨by rw [a]; simp [txS], fun u hu => ?_⟩
      cases hu with
      | head => exact (tx0 h0).1
      | tail _ hu => exact b u hu
    · rw [runT_bad h0] at h
      exact absurd h h0
/-- The ids count only as a set. -/
theorem txE_set {K K' : List HashD} (h : ∀ x, x ∈ K ↔ x ∈ K') (s : StD) (t : TxD) : txE K s t = txE K' s t := by
  unfold txE
  simp only [h]
theorem runT_set {K K' : List HashD} (h : ∀ x, x ∈ K ↔ x ∈ K') : ∀ (l : List TxD) (s : StD), runT K l s = runT K' l s
  | [], s => rfl
  | t :: l, s => by rw [runT, runT, txE_set h, runT_set h l]
theorem doR_set {K K' : List HashD} (h : ∀ x, x ∈ K ↔ x ∈ K') (S : List CoinD) (b : BlkD) : doR K S b = doR K' S b := by
  unfold doR
  rw [runT_set h]
theorem connE_set {K K' : List HashD} (h : ∀ x, x ∈ K ↔ x ∈ K') (S : List CoinD) (bs : List DoneD) (b : BlkD) : connE K S bs b = connE K' S bs b := by
  unfold connE
  rw [doR_set h]
end Go.Proofs.YtmpamcnlineceaaDoor

/- chain, plain: a chain's history; the laws. -/
namespace Go.Proofs.YtmpamcnlineceaaDoor
open Go Go.RowKit Go.Maps Go.MapKept

def BOk (b : BlkD) : Prop := (∀ t ∈ b.txs, (∀ x ∈ t.ins, x.from_.ok) ∧ ∀ x ∈ t.outs, x.ok) ∧ ∀ x ∈ b.pay, x.ok
theorem TxsIs.oks {w : World} {v : Value} {L : List TxD} (h : TxsIs w v L) : ∀ t ∈ L, (∀ x ∈ t.ins, x.from_.ok) ∧ ∀ x ∈ t.outs, x.ok := fun t ht => by
  obtain ⟨i, hi⟩ := List.mem_iff_getElem?.1 ht
  obtain ⟨_, _, _, _, _, _, hq⟩ := h.at_ hi
  exact hq.oks
theorem BlkQ.oks {w : World} {b : BlkD} {cs : List Value} (h : BlkQ w b cs) : BOk b := by
  obtain ⟨_, _, _, _, _, _, h1, h2⟩ := h
  exact ⟨h2.oks, h1.1⟩
def idsOf (bs : List DoneD) : List HashD := bs.flatMap (·.ids)
theorem idsOf_snoc (bs : List DoneD) (d : DoneD) : idsOf (bs ++ [d]) = idsOf bs ++ d.ids := by simp [idsOf]
/-- How a chain came to be. -/
inductive Hist (S0 : List CoinD) : List DoneD → List CoinD → Prop
  | nil : Hist S0 [] S0
  | snoc {bs : List DoneD} {S : List CoinD} {b : BlkD} (h : Hist S0 bs S) (hb : BOk b) (hc : connE (idsOf bs) S bs b = 0) : Hist S0 (bs ++ [(doR (idsOf bs) S b).d]) (doR (idsOf bs) S b).S
theorem Hist.last {S0 : List CoinD} {bs : List DoneD} {d : DoneD} {S : List CoinD} (h : Hist S0 (bs ++ [d]) S) : ∃ S', Hist S0 bs S' ∧ BOk d.blk ∧ connE (idsOf bs) S' bs d.blk = 0 ∧ d = (doR (idsOf bs) S' d.blk).d ∧ S = (doR (idsOf bs) S' d.blk).S := by
  generalize hl : bs ++ [d] = l at h
  cases h with
  | nil => simp at hl
  | @snoc bs' S' b h hb hc =>
    obtain ⟨e1, e2⟩ := List.append_inj' hl rfl
    simp only [List.cons.injEq, and_true] at e2
    subst e1
    have eb : d.blk = b := by
      rw [e2]
      rw [(doR0 (conn0 hc).2.2.2).2.2.2]
    exact ⟨S', h, by rw [eb]; exact hb, by rw [eb]; exact hc, by rw [eb]; exact e2, by rw [eb]⟩
theorem blkOk_iff {b : BlkD} (h : blkOk b = true) : b.pay.length ≤ 8 ∧ b.txs.length ≤ 16 ∧ ∀ t ∈ b.txs, formB t = true := by
  simp only [blkOk, Bool.and_eq_true, decide_eq_true_eq, List.all_eq_true] at h
  exact ⟨h.1, h.2.1, h.2.2⟩
structure HOk (S0 : List CoinD) (bs : List DoneD) (S : List CoinD) : Prop where
  srt : SrtC S
  ok : ∀ c ∈ S, c.ok
  len : S.length ≤ S0.length + 136 * bs.length
  ds : ∀ d ∈ bs, d.ids.length ≤ 16 ∧ d.chg.length ≤ 17 ∧ tookN d.chg ≤ 264 ∧ (∀ x ∈ d.ids, hashOk x) ∧ BOk d.blk ∧ blkOk d.blk = true
theorem Hist.good {S0 : List CoinD} {bs : List DoneD} {S : List CoinD} (h : Hist S0 bs S) (srt : SrtC S0) (ok : ∀ c ∈ S0, c.ok) : HOk S0 bs S := by
  induction h with
  | nil => exact ⟨srt, ok, by simp, fun d h => by cases h⟩
  | @snoc bs S b h hb hc ih =>
    obtain ⟨h1, h2, h3, h4⟩ := conn0 hc
    obtain ⟨p1, p2, p3⟩ := blkOk_iff h2
    obtain ⟨a1, a2, a3, -, a5, a6, a7, a8, -, a10⟩ := doR_ok (K := idsOf bs) ih.srt ih.ok (fun t ht => (hb.1 t ht).2) hb.2 p2 p1
    refine ⟨a1, a2, ?_, fun d hd => ?_⟩
    · have := ih.len
      rw [List.length_append]
      simp only [List.length_cons, List.length_nil]
      omega
    · rcases List.mem_append.1 hd with hd | hd
      · exact ih.ds d hd
      · simp at hd
        subst hd
        exact ⟨a6, a7, a8, a10, by rw [a5]; exact hb, by rw [a5]; exact h2⟩
/-- The top block undone. -/
theorem Hist.undo {S0 : List CoinD} {bs : List DoneD} {d : DoneD} {S : List CoinD} (h : Hist S0 (bs ++ [d]) S) (srt : SrtC S0) (ok : ∀ c ∈ S0, c.ok) : Hist S0 bs (undoS d.chg S) ∧ connE (idsOf bs) (undoS d.chg S) bs d.blk = 0 ∧ d = (doR (idsOf bs) (undoS d.chg S) d.blk).d ∧ S = (doR (idsOf bs) (undoS d.chg S) d.blk).S ∧ BOk d.blk ∧ ∀ x ∈ d.ids, x ∉ idsOf bs := by
  obtain ⟨S', h', hb, hc, e1, e2⟩ := h.last
  have hg := h'.good srt ok
  obtain ⟨h1, h2, h3, h4⟩ := conn0 hc
  obtain ⟨p1, p2, p3⟩ := blkOk_iff h2
  obtain ⟨-, -, -, a4, -, -, -, -, a9, -⟩ := doR_ok (K := idsOf bs) hg.srt hg.ok (fun t ht => (hb.1 t ht).2) hb.2 p2 p1
  have e3 : undoS d.chg S = S' := by rw [← e1, ← e2] at a4; exact a4
  rw [e3]
  exact ⟨h', hc, e1, e2, hb, fun x hx => a9 x (by rw [← e1]; exact hx)⟩
theorem idsOf_filter {bs : List DoneD} {d : DoneD} (h : ∀ x ∈ d.ids, x ∉ idsOf bs) : ∀ x, x ∈ (idsOf (bs ++ [d])).filter (fun x => !decide (x ∈ d.ids)) ↔ x ∈ idsOf bs := fun x => by
  rw [idsOf_snoc]
  simp only [List.mem_filter, List.mem_append, Bool.not_eq_true', decide_eq_false_iff_not]
  constructor
  · rintro ⟨a | a, b⟩
    · exact a
    · exact absurd a b
  · intro a
    exact ⟨.inl a, fun e => h x e a⟩
/-! ### money -/
def sumC (S : List CoinD) : Int := sumO (S.map (·.out))
theorem sumO_append (a b : List OutD) : sumO (a ++ b) = sumO a + sumO b := by simp only [sumO, List.map_append, List.sum_append]
theorem sum_perm {a b : List Int} (h : a.Perm b) : a.sum = b.sum := by
  induction h with
  | nil => rfl
  | cons x _ ih => simp [ih]
  | swap x y l => simp only [List.sum_cons]; omega
  | trans _ _ h1 h2 => exact h1.trans h2
theorem sumO_perm {a b : List OutD} (h : a.Perm b) : sumO a = sumO b := by
  unfold sumO
  exact sum_perm (h.map _)
theorem sumC_put (S l : List CoinD) : sumC (putC S l) = sumC S + sumC l := by
  unfold sumC
  rw [sumO_perm ((putC_perm l S).map _), List.map_append, sumO_append]
theorem sumC_pay (id : HashD) (l : List OutD) : sumC (payC id l) = sumO l := by
  unfold sumC
  have : (payC id l).map (·.out) = l := by
    apply List.ext_getElem?
    intro i
    rw [List.getElem?_map]
    cases h : l[i]? with
    | none =>
      have : (payC id l)[i]? = none := by
        rw [List.getElem?_eq_none_iff, payC_len]
        exact List.getElem?_eq_none_iff.1 h
      rw [this]; rfl
    | some x => rw [payC_at id h]; rfl
  rw [this]
theorem sumC_take {S : List CoinD} (srt : SrtC S) {t : TxD} (h : (ptsD t).all (hasC S) = true) (hn : (ptsD t).Nodup) : sumC (takeC S (ptsD t)) + sumO (prevD S t) = sumC S := by
  obtain ⟨a, b⟩ := put_back srt h hn
  have e : putS (takeC S (ptsD t)) (tookD S t) = putC (takeC S (ptsD t)) (tookD S t) := by unfold putS; rw [if_pos a]
  have := sumC_put (takeC S (ptsD t)) (tookD S t)
  rw [← e, b] at this
  have e2 : sumC (tookD S t) = sumO (prevD S t) := by unfold sumC; rw [tookD_out]
  omega
theorem sumC_sp {S : List CoinD} (srt : SrtC S) {t : TxD} (h : spE S t = 0) : sumC (spS S t) ≤ sumC S := by
  obtain ⟨h1, h2, h3⟩ := sp0 h
  have hc := check0 (fee_check h2)
  have e : spS S t = putC (takeC S (ptsD t)) (madeC t) := by unfold spS; rw [if_pos h]
  rw [e, sumC_put]
  have := sumC_take srt h1 hc.2.2.2.1
  have h4 : sumC (madeC t) = sumO t.outs := sumC_pay _ _
  have h5 := fee_sum h2
  have h6 : (valsO (prevD S t)).sum = sumO (prevD S t) := rfl
  omega
theorem sumC_run {K : List HashD} : ∀ (l : List TxD) (s : StD), SrtC s.S → sumC (runT K l s).2.S ≤ sumC s.S
  | [], s, _ => Int.le_refl _
  | t :: l, s, srt => by
    by_cases h0 : txE K s t = 0
    · rw [runT_good h0]
      have := sumC_run (K := K) l (txS s t) (spS_srt srt t)
      have h2 : sumC (txS s t).S ≤ sumC s.S := sumC_sp srt (tx0 h0).2.2.2
      omega
    · rw [runT_bad h0]
      exact Int.le_refl _
/-- With a block there is no more than there was, and its payments. -/
theorem money {K : List HashD} {S : List CoinD} (srt : SrtC S) {b : BlkD} (h : (doR K S b).E = 0) : sumC (doR K S b).S ≤ sumC S + sumO b.pay := by
  obtain ⟨h1, h2, h3, h4⟩ := doR0 h
  rw [h3, sumC_put]
  have := sumC_run (K := K) b.txs (st0 S) srt
  have e : sumC (payD b) = sumO b.pay := sumC_pay _ _
  have e2 : sumC (st0 S).S = sumC S := rfl
  omega
/-! ### what is spent is gone -/
def cnt (S : List CoinD) (p : PointD) : Int := if hasC S p = true then 1 else 0
theorem count_one {l : List PointD} (h : l.Nodup) (p : PointD) : (l.count p : Int) = if p ∈ l then 1 else 0 := by
  split
  · rename_i hm
    have := List.nodup_iff_count.1 h p
    have := List.count_pos_iff.2 hm
    omega
  · rename_i hm
    rw [List.count_eq_zero.2 hm]; rfl
theorem hasC_put {S l : List CoinD} {p : PointD} : hasC (putC S l) p = true ↔ hasC S p = true ∨ p ∈ l.map (·.at_) := by
  rw [hasC_iff, hasC_iff, List.mem_map]
  constructor
  · rintro ⟨c, hc, e⟩
    rcases mem_putC.1 hc with h | h
    · exact .inl ⟨c, h, e⟩
    · exact .inr ⟨c, h, e⟩
  · rintro (⟨c, hc, e⟩ | ⟨c, hc, e⟩)
    · exact ⟨c, mem_putC.2 (.inl hc), e⟩
    · exact ⟨c, mem_putC.2 (.inr hc), e⟩
theorem hasC_take {S : List CoinD} {ps : List PointD} {p : PointD} : hasC (takeC S ps) p = true ↔ hasC S p = true ∧ p ∉ ps := by
  rw [hasC_iff, hasC_iff]
  constructor
  · rintro ⟨c, hc, e⟩
    obtain ⟨a, b⟩ := mem_takeC.1 hc
    exact ⟨⟨c, a, e⟩, e ▸ b⟩
  · rintro ⟨⟨c, hc, e⟩, h⟩
    exact ⟨c, mem_takeC.2 ⟨hc, e ▸ h⟩, e⟩
theorem cnt_put {S l : List CoinD} (h : putE S l = 0) (p : PointD) : cnt (putC S l) p = cnt S p + ((l.map (·.at_)).count p : Int) := by
  obtain ⟨a, b⟩ := putE_all h
  rw [count_one a]
  unfold cnt
  by_cases hp : p ∈ l.map (·.at_)
  · have hn : hasC S p = false := by
      obtain ⟨c, hc, rfl⟩ := List.mem_map.1 hp
      exact b c hc
    rw [if_pos (hasC_put.2 (.inr hp)), hn, if_pos hp]
    rfl
  · by_cases hs : hasC S p = true
    · rw [if_pos (hasC_put.2 (.inl hs)), if_pos hs, if_neg hp]; rfl
    · rw [if_neg (fun e => (hasC_put.1 e).elim hs hp), if_neg hs, if_neg hp]; rfl
theorem cnt_take {S : List CoinD} {ps : List PointD} (h : ps.all (hasC S) = true) (hn : ps.Nodup) (p : PointD) : cnt (takeC S ps) p = cnt S p - (ps.count p : Int) := by
  rw [count_one hn]
  unfold cnt
  by_cases hp : p ∈ ps
  · rw [if_neg (fun e => (hasC_take.1 e).2 hp), if_pos (List.all_eq_true.1 h p hp), if_pos hp]; rfl
  · by_cases hs : hasC S p = true
    · rw [if_pos (hasC_take.2 ⟨hs, hp⟩), if_pos hs, if_neg hp]; rfl
    · rw [if_neg (fun e => hs (hasC_take.1 e).1), if_neg hs, if_neg hp]; rfl
theorem cnt_sp {S : List CoinD} {t : TxD} (h : spE S t = 0) (p : PointD) : cnt (spS S t) p = cnt S p - ((ptsD t).count p : Int) + (((madeC t).map (·.at_)).count p : Int) := by
  obtain ⟨h1, h2, h3⟩ := sp0 h
  have hc := check0 (fee_check h2)
  have e : spS S t = putC (takeC S (ptsD t)) (madeC t) := by unfold spS; rw [if_pos h]
  rw [e, cnt_put h3, cnt_take h1 hc.2.2.2.1]
theorem cnt_run {K : List HashD} (p : PointD) : ∀ (l : List TxD) (s : StD), (runT K l s).1 = 0 → cnt (runT K l s).2.S p = cnt s.S p - ((l.flatMap ptsD).count p : Int) + ((l.flatMap fun t => (madeC t).map (·.at_)).count p : Int)
  | [], s, _ => by simp [runT]
  | t :: l, s, h => by
    by_cases h0 : txE K s t = 0
    · rw [runT_good h0] at h ⊢
      rw [cnt_run p l (txS s t) h]
      have : cnt (txS s t).S p = _ := cnt_sp (tx0 h0).2.2.2 p
      rw [this]
      simp only [List.flatMap_cons, List.count_append]
      omega
    · rw [runT_bad h0] at h
      exact absurd h h0
/-- Behind a block: what was there, less what was spent, and what was made. -/
theorem spends {K : List HashD} {S : List CoinD} {b : BlkD} (h : (doR K S b).E = 0) (p : PointD) : cnt (doR K S b).S p = cnt S p - ((b.txs.flatMap ptsD).count p : Int) + (((payD b).map (·.at_) ++ b.txs.flatMap fun t => (madeC t).map (·.at_)).count p : Int) := by
  obtain ⟨h1, h2, h3, h4⟩ := doR0 h
  rw [h3, cnt_put h2, cnt_run p _ _ h1, List.count_append]
  show cnt S p - _ + _ + _ = _
  omega
/-! ### twice -/
theorem gone_after {S : List CoinD} {t : TxD} (h : spE S t = 0) {p : PointD} (hp : p ∈ ptsD t) (hm : p ∉ (madeC t).map (·.at_)) : hasC (spS S t) p = false := by
  have := cnt_sp h p
  obtain ⟨h1, h2, h3⟩ := sp0 h
  have hc := check0 (fee_check h2)
  rw [count_one hc.2.2.2.1, if_pos hp, List.count_eq_zero.2 hm] at this
  unfold cnt at this
  rw [if_pos (List.all_eq_true.1 h1 p hp)] at this
  split at this
  · simp at this
  · rename_i hh; exact (Bool.not_eq_true _).mp hh
theorem sp_lost {S : List CoinD} {t : TxD} {p : PointD} (hp : p ∈ ptsD t) (h : hasC S p = false) : spE S t ≠ 0 := fun e => by
  have := List.all_eq_true.1 (sp0 e).1 p hp
  rw [h] at this
  cases this
/-- Two that spend one coin, in a block. -/
theorem twice_in {K : List HashD} {S : List CoinD} {t v : TxD} {p : PointD} (ht : p ∈ ptsD t) (hv : p ∈ ptsD v) (hm : p ∉ (madeC t).map (·.at_)) {b : BlkD} (hb : b.txs = [t, v]) : (doR K S b).E ≠ 0 := fun e => by
  obtain ⟨h1, -⟩ := doR0 e
  rw [hb] at h1
  by_cases h0 : txE K (st0 S) t = 0
  · rw [runT_good h0] at h1
    have hg := gone_after (tx0 h0).2.2.2 ht hm
    by_cases h2 : txE K (txS (st0 S) t) v = 0
    · exact sp_lost hv hg (tx0 h2).2.2.2
    · rw [runT_bad h2] at h1
      exact h2 h1
  · rw [runT_bad h0] at h1
    exact h0 h1
/-- Two that spend one coin, in two blocks. -/
theorem twice_out {K K' : List HashD} {S : List CoinD} {t v : TxD} {p : PointD} (ht : p ∈ ptsD t) (hv : p ∈ ptsD v) (hm : p ∉ (madeC t).map (·.at_)) {a b : BlkD} (ha : a.txs = [t]) (hp : a.pay = []) (hb : b.txs = [v]) (h : (doR K S a).E = 0) : (doR K' (doR K S a).S b).E ≠ 0 := fun e => by
  obtain ⟨h1, h2, h3, -⟩ := doR0 h
  obtain ⟨k1, -⟩ := doR0 e
  rw [ha] at h1 h3
  rw [hb] at k1
  have hpd : payD a = [] := by unfold payD; rw [hp]; rfl
  by_cases h0 : txE K (st0 S) t = 0
  · rw [runT_good h0] at h3
    have hg := gone_after (tx0 h0).2.2.2 ht hm
    have e3 : (doR K S a).S = spS S t := by rw [h3, hpd]; rfl
    rw [e3] at k1
    by_cases h2 : txE K' (st0 (spS S t)) v = 0
    · exact sp_lost hv hg (tx0 h2).2.2.2
    · rw [runT_bad h2] at k1
      exact h2 k1
  · rw [runT_bad h0] at h1
    exact h0 h1
/-! ### the same block again -/
theorem again {K : List HashD} {S : List CoinD} {b : BlkD} {t : TxD} {l : List TxD} (hb : b.txs = t :: l) (hc : checkE t = 0) (hk : idH t ∈ K) : (doR K S b).E = 19 := by
  have h0 : txE K (st0 S) t = 19 := by unfold txE; rw [if_pos hc, if_pos (.inl hk)]
  unfold doR
  rw [hb, runT_bad (by rw [h0]; decide), h0, if_neg (show ¬ ((19 : Int) = 0) by decide)]
end Go.Proofs.YtmpamcnlineceaaDoor
