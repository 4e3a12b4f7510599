/- The document's graph of kin: its memory; Has, All. -/
import Derived.Test.YtnjkpjcnmdgoeaaKinV
import Derived.Test.YtnjkpjcnmdgoeaaSeq
import Derived.Test.YtnjkpjcnmdgoeaaRowB
namespace Go.Proofs.Ytnjkpjcnmdgoeaa
open Go Go.RowKit Go.Maps Go.MapKept

/-- A node of the document's graph: its id, its parents as they came, where they lie. -/
structure RN where
  id : HashD
  ps : List HashD
  pv : Value
def Sim : List RN → List NodeD → Prop
  | [], [] => True
  | r :: R, n :: G => (r.id = n.id ∧ ∀ x, x ∈ r.ps ↔ x ∈ n.ps) ∧ Sim R G
  | _, _ => False
theorem Sim.len : ∀ {R : List RN} {G : List NodeD}, Sim R G → R.length = G.length
  | [], [], _ => rfl
  | _ :: _, _ :: _, h => by simp [Sim.len h.2]
theorem Sim.ids : ∀ {R : List RN} {G : List NodeD}, Sim R G → R.map (·.id) = ids G
  | [], [], _ => rfl
  | _ :: _, _ :: _, h => by
    have := Sim.ids h.2
    simp only [Go.Proofs.Ytnjkpjcnmdgoeaa.ids, List.map_cons] at this ⊢
    rw [h.1.1, this]
theorem Sim.at_ : ∀ {R : List RN} {G : List NodeD}, Sim R G → ∀ {i : Nat} {r : RN}, R[i]? = some r → ∃ n, G[i]? = some n ∧ r.id = n.id ∧ ∀ x, x ∈ r.ps ↔ x ∈ n.ps
  | _ :: _, _ :: _, h, 0, r, e => by
    simp at e
    subst e
    exact ⟨_, rfl, h.1.1, h.1.2⟩
  | _ :: _, _ :: _, h, i + 1, r, e => by
    simp only [List.getElem?_cons_succ] at e ⊢
    exact Sim.at_ h.2 e
theorem Sim.app : ∀ {R R' : List RN} {G G' : List NodeD}, Sim R G → Sim R' G' → Sim (R ++ R') (G ++ G')
  | [], _, [], _, _, h => h
  | _ :: _, _, _ :: _, _, h, h' => ⟨h.1, Sim.app h.2 h'⟩
def nodeC (h : HashD) (v : Value) : List Value := hashC h ++ [v]
theorem nodeC_len {h : HashD} {v : Value} (ok : hashOk h) : (nodeC h v).length = 33 := by simp [nodeC, hashC_len ok]
theorem nodeC_one {h : HashD} {a : Option Addr} {n c : Nat} : ∀ u ∈ nodeC h (.slice a n c), u.oneCell' = true := by
  intro u hu
  simp only [nodeC, List.mem_append, List.mem_singleton] at hu
  rcases hu with hu | rfl
  · exact hashC_one u hu
  · rfl
theorem node_at {w : World} {b off : Nat} {h : HashD} {v : Value} (r : w.rangeAt b off (nodeC h v)) (ok : hashOk h) : w.rangeAt b off (hashC h) ∧ w.cell? ⟨b, off + 32, none⟩ = some v := by
  have hl := hashC_len ok
  refine ⟨fun j u hj => r j u ?_, r 32 v ?_⟩
  · rw [nodeC, List.getElem?_append_left (List.getElem?_eq_some_iff.1 hj).1]; exact hj
  · rw [nodeC, List.getElem?_append_right (by omega), hl]; rfl
def RN.cells (r : RN) : List Value := nodeC r.id r.pv
def nodesC (R : List RN) : List Value := R.flatMap RN.cells
theorem infoRN : (Try.prog.info? 63).map (·.size) = some 33 := by kernel_rfl
theorem descRN : ∃ d, Try.prog.underlying 63 = some d ∧ d.isRow = true := row_of (by kernel_rfl)
theorem zeroRN (w : World) : (zeroValue 63).run Try.prog w = .ok (.agg (nodeC hash0 (.slice none 0 0)).toArray) w := by kernel_rfl
theorem undRNs : Try.prog.underlying 41 = some (.slice 63) := by kernel_rfl
/-- The same, for longer rows. -/
theorem append_many (w : World) {B : Nat} {v x : Value} {S T : List HashD} (ho : w.ownsRow B 30 32 v S.length (S.flatMap hashC)) (hx : IdsIs w x T) (hn : S.length + T.length ≤ 100000) (hB : B ≤ w.heap.size) :
    ∃ v' w', (Builtin.append_ #[27, 27] 27 #[v, x]).run Try.prog w = .ok v' w' ∧ w'.ownsRow B 30 32 v' (S ++ T).length ((S ++ T).flatMap hashC) ∧ Fr (fun j => v.ownBlock = some j) w w' ∧ (∀ k, v'.ownBlock = some k → v.ownBlock = some k ∨ w.heap.size ≤ k) := by
  by_cases hnil : x = .slice none 0 0
  · obtain ⟨a, c, h⟩ := hx.2.form
    rw [hnil] at h
    injection h with h1 h2 h3
    have hT : T = [] := List.eq_nil_of_length_eq_zero h2.symm
    subst hT
    obtain ⟨v', w', a1, a2, a3, a4⟩ := append_sl (P := Try.prog) w B 27 27 30 32 32 _ undIds infoHashZ rfl (by decide) v S.length (S.flatMap hashC) ho x 0 [] (.inl ⟨hnil, rfl, rfl⟩) rfl (by simp) (by simp at hn ⊢; omega) (by unfold maxLen; simp at hn; omega) hB
    exact ⟨v', w', a1, by simpa using a2, a3, a4⟩
  · obtain ⟨v', w', a1, a2, a3, -, a4⟩ := append_own (P := Try.prog) w B 27 27 30 32 32 _ undIds infoHashZ rfl (by decide) v S.length (S.flatMap hashC) ho x T.length (T.flatMap hashC) hx.2 (ids_flat_len hx.1) ids_flat_one (by omega) (by unfold maxLen; omega) hB hnil
    refine ⟨v', w', a1, ?_, (Fr.refl _ w).grown a3 (fun k e => .inr e), a4⟩
    rw [List.length_append, List.flatMap_append]
    exact a2
structure RnAt (B : Nat) (w : World) (r : RN) : Prop where
  ok : hashOk r.id
  own : w.ownsRow B 30 32 r.pv r.ps.length (r.ps.flatMap hashC)
  pok : ∀ c ∈ r.ps, hashOk c
  len : r.ps.length ≤ 30
theorem RnAt.keep {B : Nat} {w w' : World} {r : RN} (h : RnAt B w r) {W : Nat → Prop} (f : Fr W w w') (hW : ∀ j, r.pv.ownBlock = some j → ¬ W j) : RnAt B w' r := ⟨h.ok, ownsRow_keep h.own f hW, h.pok, h.len⟩
/-- The document's graph at q, made behind w0; its blocks are in U. -/
structure RG (w0 w : World) (q : Nat) (U : Nat → Prop) (G : List NodeD) : Prop where
  ex : ∃ lv R, w.heap[q]? = some (.cells #[lv] 43 (0, 0)) ∧ w.ownsRow w0.heap.size 63 33 lv R.length (nodesC R) ∧ Sim R G ∧ (∀ r ∈ R, RnAt w0.heap.size w r) ∧ (∀ j, lv.ownBlock = some j → U j ∧ j ≠ q) ∧ ∀ r ∈ R, ∀ j, r.pv.ownBlock = some j → U j ∧ j ≠ q
  uq : U q
  lo : ∀ j, U j → w0.heap.size ≤ j
  hi : ∀ j, U j → j < w.heap.size
  fr : Fr No w0 w
section
variable {w0 w w' : World} {q : Nat} {U : Nat → Prop} {G : List NodeD}
theorem RG.frV (h : RG w0 w q U G) {W : Nat → Prop} (f : Fr W w w') (hW : ∀ j, U j → ¬ W j) (h0 : ∀ j, W j → w0.heap.size ≤ j) : RG w0 w' q U G := by
  obtain ⟨lv, R, h1, h2, h3, h4, h5, h6⟩ := h.ex
  exact ⟨⟨lv, R, f.obj h1 (hW q h.uq), ownsRow_keep h2 f (fun j e => hW j (h5 j e).1), h3, fun r hr => (h4 r hr).keep f (fun j e => hW j (h6 r hr j e).1), h5, h6⟩, h.uq, h.lo, fun j hj => Nat.lt_of_lt_of_le (h.hi j hj) f.size, h.fr.trans f (fun i hi e => by have := h0 i e; omega)⟩
theorem RG.fr0 (h : RG w0 w q U G) (f : Fr No w w') : RG w0 w' q U G := h.frV f (fun _ _ => id) (fun _ h => h.elim)
theorem nodes_elem {B : Nat} {lv : Value} {R : List RN} (h : w.ownsRow B 63 33 lv R.length (nodesC R)) (ok : ∀ r ∈ R, RnAt B w r) {i : Nat} {r : RN} (hx : R[i]? = some r) :
    ∃ b off cap, lv = .slice (some ⟨b, off, none⟩) R.length cap ∧ w.rangeAt b (off + i * 33) (nodeC r.id r.pv) ∧ b < w.heap.size :=
  h.slice.arg.elem (f := RN.cells) (by decide) (fun x hx => nodeC_len (ok x hx).ok) hx
end
section
variable {w0 w : World} {q : Nat} {U : Nat → Prop} {G : List NodeD}
/-- The first ids. -/
def idsN (R : List RN) (n : Nat) : List HashD := (R.take n).map (·.id)
theorem idsN_succ {R : List RN} {n : Nat} {r : RN} (h : R[n]? = some r) : idsN R (n + 1) = idsN R n ++ [r.id] := by unfold idsN; rw [List.take_add_one, h]; simp
theorem idsN_all (R : List RN) : idsN R R.length = R.map (·.id) := by unfold idsN; rw [List.take_length]
theorem idsN_len (R : List RN) (n : Nat) : (idsN R n).length ≤ R.length := by unfold idsN; rw [List.length_map]; exact List.length_take_le' n R
/-- What the walks over the nodes hold: the row, its nodes. -/
structure RgAt (B : Nat) (w : World) (q : Nat) (lv : Value) (R : List RN) : Prop where
  obj : w.cell? ⟨q, 0, none⟩ = some lv
  row : w.ownsRow B 63 33 lv R.length (nodesC R)
  rn : ∀ r ∈ R, RnAt B w r
theorem RgAt.keep {B : Nat} {w w' : World} {q : Nat} {lv : Value} {R : List RN} (h : RgAt B w q lv R) (f : Fr No w w') : RgAt B w' q lv R := ⟨f.cell h.obj id, ownsRow_keep h.row f (fun _ _ => id), fun r hr => (h.rn r hr).keep f (fun _ _ => id)⟩
theorem RG.form (h : RG w0 w q U G) : ∃ lc R la, RgAt w0.heap.size w q (.slice la R.length lc) R ∧ Sim R G := by
  obtain ⟨lv, R, h1, h2, h3, h4, -, -⟩ := h.ex
  obtain ⟨la, lc, rfl⟩ := h2.slice.arg.form
  exact ⟨lc, R, la, ⟨by simp [World.cell?, h1], h2, h4⟩, h3⟩
set_option maxRecDepth 20000 in
set_option maxHeartbeats 4000000 in
theorem has_R (h : RG w0 w q U G) (hG : G.length ≤ 1000) {x : HashD} (hx : hashOk x) : Calls Try.prog 29 #[.pointer (some ⟨q, 0, none⟩), .agg (hashC x).toArray] w fun e w' => e = .returned (.bool (decide (x ∈ ids G))) ∧ Fr No w w' := by
  obtain ⟨dK, uK, rK⟩ := descHash
  obtain ⟨dN, uN, rN⟩ := descRN
  have zn := zeroRN
  obtain ⟨lc, R, la, ha, hs⟩ := h.form
  have HX := Lib.hid (hashC_len hx)
  have XOK := Lib.hid hx
  have f1 : Fr No w (w.alloc (.cells (hashC x).toArray 30)) := (Fr.refl No w).alloc _
  have RX := Lib.hid (range_new w (hashC x) 30)
  have A1 := Lib.hid (ha.keep f1)
  have F1 := Lib.hid f1
  have c0 := A1.out.obj
  have HI := Lib.hid (show ids G = R.map (·.id) from hs.ids.symm)
  have hl : R.length ≤ 1000 := by rw [hs.len]; exact hG
  clear h ha hs hx f1
  go_enter Try.func29, Try.ntmps29
  go_wp2
  generalize hq : w.heap.size = q0 at *
  generalize w.alloc (.cells (hashC x).toArray 30) = w1 at *
  go_loopw [12] (fun iv wr => ∃ n : Nat, iv = .int .i64 n ∧ n ≤ R.length ∧ x ∉ (R.take n).map (·.id) ∧ Fr No w1 wr) (fun iv _ => R.length - (intOf iv).toNat)
  case atStart => exact ⟨0, rfl, Nat.zero_le _, by simp, Fr.refl _ _⟩
  case round =>
    obtain ⟨n, rfl, hn, hni, fr⟩ := hrel
    have FR := Lib.hid fr
    have NI := Lib.hid hni
    clear fr hni
    by_cases h : n < R.length
    · have i1 : (n : Int) < (R.length : Int) := by omega
      obtain ⟨r, hr⟩ : ∃ r, R[n]? = some r := ⟨_, List.getElem?_eq_getElem h⟩
      have A2 := Lib.hid (A1.out.keep FR.out)
      obtain ⟨b, off, cap, hv, hrg, -⟩ := nodes_elem A2.out.row A2.out.rn hr
      cases hv
      have RA := Lib.hid (A2.out.rn r (List.mem_of_getElem? hr))
      obtain ⟨pa, pc, hpv⟩ := RA.out.own.slice.arg.form
      rw [hpv] at hrg
      have NL := Lib.hid (nodeC_len (v := .slice pa r.ps.length pc) RA.out.ok)
      have RL := Lib.hid (hashC_len RA.out.ok)
      have R1 := Lib.hid hrg
      have fa := (Fr.refl No wr).alloc (.cells (nodeC r.id (.slice pa r.ps.length pc)).toArray 63)
      have R2 := Lib.hid (node_at (range_new wr (nodeC r.id (.slice pa r.ps.length pc)) 63) RA.out.ok).1
      have FA := Lib.hid (FR.out.trans0 fa)
      have RX2 := Lib.hid (range_keep RX.out FA.out id)
      have HT := Lib.hid (show (R.take (n + 1)).map (·.id) = (R.take n).map (·.id) ++ [r.id] by rw [List.take_add_one, hr]; simp)
      have HM := Lib.hid (show r.id ∈ ids G by rw [HI.out]; exact List.mem_map.2 ⟨r, List.mem_of_getElem? hr, rfl⟩)
      clear hrg hpv fa hr A2
      by_cases hrx : r.id = x
      · have D := Lib.hid (show decide (x ∈ ids G) = true by rw [← hrx]; exact decide_eq_true HM.out)
        have E := Lib.hid (show (true = true ↔ (hashC r.id).toArray = (hashC x).toArray) by simp [hrx])
        clear hrx
        go_wp2_with (first | ((with_reducible refine at_dst 15 ?_); refine wpList_vG rfl (exec_load (ty := 63) rfl rfl R1.out uN rN (by rw [NL.out]; exact infoRN)) ?_) | ((with_reducible refine at_store ?_); refine wpList_done rfl (exec_store_new (w := wr) (ty := 63) (cs := nodeC r.id (.slice pa r.ps.length pc)) rfl rfl rfl (by rw [NL.out]; rfl) (by rw [NL.out]; exact infoRN) nodeC_one) ?_; generalize wr.alloc (.cells (nodeC r.id (.slice pa r.ps.length pc)).toArray 63) = w2 at *; generalize wr.heap.size = q2 at *) | ((with_reducible refine at_dst 17 ?_); refine wpList_vG rfl (exec_load (ty := 30) rfl rfl R2.out uK rK (by rw [RL.out]; exact infoHash)) ?_) | ((with_reducible refine at_dst 18 ?_); refine wpList_vG rfl (exec_load (ty := 30) rfl rfl RX2.out uK rK (by rw [HX.out]; exact infoHash)) ?_) | ((with_reducible refine at_dst 19 ?_); refine wpList_vG rfl (eqHash.exec_eql rfl rfl rfl (keyOfHash RA.out.ok) (keyOfHash XOK.out) true E.out _) ?_))
        go_ret
        exact ⟨by rw [D.out]; rfl, F1.out.trans0 FA.out⟩
      · have NI2 := Lib.hid (show x ∉ (R.take (n + 1)).map (·.id) by rw [HT.out]; simp only [List.mem_append, List.mem_singleton, not_or]; exact ⟨NI.out, fun e => hrx e.symm⟩)
        have E := Lib.hid (show (false = true ↔ (hashC r.id).toArray = (hashC x).toArray) from ⟨fun e => (by cases e), fun e => absurd (hashV_inj (congrArg Value.agg e)) hrx⟩)
        clear hrx
        go_wp2_with (first | ((with_reducible refine at_dst 15 ?_); refine wpList_vG rfl (exec_load (ty := 63) rfl rfl R1.out uN rN (by rw [NL.out]; exact infoRN)) ?_) | ((with_reducible refine at_store ?_); refine wpList_done rfl (exec_store_new (w := wr) (ty := 63) (cs := nodeC r.id (.slice pa r.ps.length pc)) rfl rfl rfl (by rw [NL.out]; rfl) (by rw [NL.out]; exact infoRN) nodeC_one) ?_; generalize wr.alloc (.cells (nodeC r.id (.slice pa r.ps.length pc)).toArray 63) = w2 at *; generalize wr.heap.size = q2 at *) | ((with_reducible refine at_dst 17 ?_); refine wpList_vG rfl (exec_load (ty := 30) rfl rfl R2.out uK rK (by rw [RL.out]; exact infoHash)) ?_) | ((with_reducible refine at_dst 18 ?_); refine wpList_vG rfl (exec_load (ty := 30) rfl rfl RX2.out uK rK (by rw [HX.out]; exact infoHash)) ?_) | ((with_reducible refine at_dst 19 ?_); refine wpList_vG rfl (eqHash.exec_eql rfl rfl rfl (keyOfHash RA.out.ok) (keyOfHash XOK.out) false E.out _) ?_))
        go_roundw
        case rel => exact ⟨n + 1, by simp, by omega, NI2.out, FA.out⟩
        case measure => show R.length - (n + 1) < R.length - n; omega
    · have i1 : ¬ (n : Int) < (R.length : Int) := by omega
      have D := Lib.hid (show decide (x ∈ ids G) = false by
        refine decide_eq_false ?_
        rw [HI.out]
        have := NI.out
        rwa [show n = R.length by omega, List.take_length] at this)
      go_wp2
      go_ret
      exact ⟨by rw [D.out]; rfl, F1.out.trans0 FR.out⟩
set_option maxRecDepth 20000 in
set_option maxHeartbeats 4000000 in
theorem all_R (h : RG w0 w q U G) (hG : G.length ≤ 900) : Calls Try.prog 27 #[.pointer (some ⟨q, 0, none⟩)] w fun e w' => ∃ v', e = .returned v' ∧ RowK w w' v' (ids G) := by
  obtain ⟨dK, uK, rK⟩ := descHash
  obtain ⟨dN, uN, rN⟩ := descRN
  have zn := zeroRN
  obtain ⟨lc, R, la, ha, hs⟩ := h.form
  have A1 := Lib.hid ha
  have c0 := A1.out.obj
  have HI := Lib.hid (show R.map (·.id) = ids G from hs.ids)
  have hl : R.length ≤ 900 := by rw [hs.len]; exact hG
  clear h ha hs
  go_enter Try.func27, Try.ntmps27
  go_wp2
  go_loopw [3, 11] (fun rv iv wr => ∃ n : Nat, iv = .int .i64 n ∧ n ≤ R.length ∧ wr.ownsRow w.heap.size 30 32 rv (idsN R n).length ((idsN R n).flatMap hashC) ∧ Fr No w wr) (fun _ iv _ => R.length - (intOf iv).toNat)
  case atStart => exact ⟨0, rfl, Nat.zero_le _, World.ownsRow_nil _ _ _ _, Fr.refl _ _⟩
  case round =>
    obtain ⟨n, rfl, hn, ho, fr⟩ := hrel
    have FR := Lib.hid fr
    have HO := Lib.hid ho
    obtain ⟨ra, rc, rfl⟩ := ho.slice.arg.form
    have LT := Lib.hid (show (idsN R n).length ≤ 900 by have := idsN_len R n; omega)
    clear fr ho
    by_cases h : n < R.length
    · have i1 : (n : Int) < (R.length : Int) := by omega
      obtain ⟨r, hr⟩ : ∃ r, R[n]? = some r := ⟨_, List.getElem?_eq_getElem h⟩
      have A2 := Lib.hid (A1.out.keep FR.out)
      obtain ⟨b, off, cap, hv, hrg, -⟩ := nodes_elem A2.out.row A2.out.rn hr
      cases hv
      have RA := Lib.hid (A2.out.rn r (List.mem_of_getElem? hr))
      obtain ⟨pa, pc, hpv⟩ := RA.out.own.slice.arg.form
      rw [hpv] at hrg
      have NL := Lib.hid (nodeC_len (v := .slice pa r.ps.length pc) RA.out.ok)
      have RL := Lib.hid (hashC_len RA.out.ok)
      have ROK := Lib.hid RA.out.ok
      have R1 := Lib.hid hrg
      have fa := (Fr.refl No wr).alloc (.cells (nodeC r.id (.slice pa r.ps.length pc)).toArray 63)
      have R2 := Lib.hid (node_at (range_new wr (nodeC r.id (.slice pa r.ps.length pc)) 63) RA.out.ok).1
      have FA := Lib.hid (FR.out.trans0 fa)
      have HO2 := Lib.hid (HO.out.alloc (.cells (nodeC r.id (.slice pa r.ps.length pc)).toArray 63))
      have HT := Lib.hid (idsN_succ hr)
      clear hrg hpv fa hr A2 RA
      go_wp2_with (first | ((with_reducible refine at_dst 14 ?_); refine wpList_vG rfl (exec_load (ty := 63) rfl rfl R1.out uN rN (by rw [NL.out]; exact infoRN)) ?_) | ((with_reducible refine at_store ?_); refine wpList_done rfl (exec_store_new (w := wr) (ty := 63) (cs := nodeC r.id (.slice pa r.ps.length pc)) rfl rfl rfl (by rw [NL.out]; rfl) (by rw [NL.out]; exact infoRN) nodeC_one) ?_; generalize wr.alloc (.cells (nodeC r.id (.slice pa r.ps.length pc)).toArray 63) = w2 at *; generalize wr.heap.size = q2 at *) | ((with_reducible refine at_dst 17 ?_); refine wpList_vG rfl (exec_load (ty := 30) rfl rfl R2.out uK rK (by rw [RL.out]; exact infoHash)) ?_) | ((with_reducible refine at_dst 18 ?_); refine wpList_vG rfl (exec_buildSliceA (t := 27) rfl rfl undIds infoHashZ2 rfl (by decide) (by decide) RL.out) ?_) | (at_builtin; obtain ⟨v3, w3, ap, oo, ff⟩ := append_ids (w2.alloc (.cells (hashC r.id).toArray 30)) (HO2.out.alloc _) (ids_new1 w2 ROK.out) (by have := LT.out; simp only [List.length_singleton]; omega) (by have := FA.out.size; simp; omega); refine wpList_append_run rfl rfl rfl rfl ap ?_; have F3 := Lib.hid (own_fr (FA.out.alloc _) (HO2.out.alloc _) (Nat.le_refl _) ff); rw [← HT.out] at oo; have O3 := Lib.hid oo; obtain ⟨a3, c3, rfl⟩ := oo.slice.arg.form; clear ap oo ff))
      go_roundw
      case rel => exact ⟨n + 1, by simp, by omega, O3.out, F3.out⟩
      case measure => show R.length - (n + 1) < R.length - n; omega
    · have i1 : ¬ (n : Int) < (R.length : Int) := by omega
      obtain rfl : n = R.length := by omega
      rw [idsN_all, HI.out] at HO ⊢
      go_wp2
      go_ret
      exact ⟨_, rfl, HO.out, FR.out⟩
end
end Go.Proofs.Ytnjkpjcnmdgoeaa
