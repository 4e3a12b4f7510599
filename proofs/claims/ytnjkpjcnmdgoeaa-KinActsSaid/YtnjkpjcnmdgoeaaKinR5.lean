/- The document's graph of kin: without, Lift, Drop. -/
import Derived.Test.YtnjkpjcnmdgoeaaKinR4
namespace Go.Proofs.Ytnjkpjcnmdgoeaa
open Go Go.RowKit Go.Maps Go.MapKept

theorem built_z {P : Program} {t : TypeId} {n : Nat} {pl : List (Nat × Nat)} {vs : List (Nat × Value)} {z : Value} (h : buildPlaces P t = some (n, pl)) (hz : (P.info? t).bind (·.zero) = some z) (hf : FillOk (pl.toArray[·]?) 0 vs) (hn : (partsC vs).length ≤ z.cells.size) : P.built t vs = some (partsC vs ++ z.cells.toList.drop (partsC vs).length).toArray := by
  unfold buildPlaces at h
  unfold Program.built
  cases hi : P.info? t with
  | none => simp [hi] at h
  | some it =>
    cases hu : P.underlying t with
    | none => simp [hi, hu] at h
    | some d =>
      cases d <;> try (simp [hi, hu] at h; done)
      rename_i fs
      rw [hi] at hz
      simp only [Option.bind_some] at hz
      cases hp : fs.toList.mapM (fun f => (P.info? f.type).map fun i => (f.offset, i.size)) with
      | none => simp [hi, hu, hz, hp] at h
      | some places =>
        simp [hi, hu, hz, hp] at h
        obtain ⟨rfl, rfl⟩ := h
        simp only [hz, hp]
        have := fill_seq (places.toArray[·]?) vs [] z.cells.toList hf (by rw [Array.length_toList]; exact hn)
        simp only [List.nil_append, Array.toArray_toList] at this
        rw [this]
theorem exec_buildB {P : Program} {t : TypeId} {w : World} {o : Oper} {ev : Operand → Value} {parts : Array (Nat × Operand)} {vs : List (Nat × Value)} {cs : List Value} (ho : o.op = .build t parts) (hv : (parts.toList.map fun (i, x) => (i, ev x)) = vs) (h : P.built t vs = some cs.toArray) :
    (execOp ev o).run P w = .ok (.value (.agg cs.toArray)) w := by
  have := run_build w t (parts.map fun (i, x) => (i, ev x)) _ (by rw [Array.toList_map, hv]; exact h)
  simp only [execOp, ho, Sem.run_bind, this, Result.andThen_ok, Sem.run_pure]
theorem built_RN {x : HashD} (hx : hashOk x) : Try.prog.built 63 [(0, .agg (hashC x).toArray)] = some (nodeC x (.slice none 0 0)).toArray := by
  have e : partsC [(0, .agg (hashC x).toArray)] = hashC x := by simp [partsC, Value.cells]
  have := built_z (P := Try.prog) (t := 63) (n := 33) (pl := [(0, 32), (32, 1)]) (vs := [(0, .agg (hashC x).toArray)]) (z := .agg (nodeC hash0 (.slice none 0 0)).toArray) (by kernel_rfl) (by kernel_rfl) (by
    refine ⟨?_, trivial⟩
    simp [Value.cells, hashC_len hx]) (by rw [e, hashC_len hx]; decide)
  rw [this, e, hashC_len hx]
  congr 2
theorem infoRNZ : (Try.prog.info? 63).map (fun i => (i.zero, i.size, i.bytes)) = some (some (.agg (nodeC hash0 (.slice none 0 0)).toArray), 33, 56) := by kernel_rfl
theorem infoRNZ2 : (Try.prog.info? 63).map (fun i => (i.zero, i.size)) = some (some (.agg (nodeC hash0 (.slice none 0 0)).toArray), 33) := by kernel_rfl
theorem range_obj {w : World} {b : Nat} {cs : List Value} {T : TypeId} {fz : Nat × Nat} (h : w.heap[b]? = some (.cells cs.toArray T fz)) : w.rangeAt b 0 cs := fun j v hj => by
  simp only [World.cell?, h]
  simpa using hj
theorem node_set {h : HashD} (ok : hashOk h) (v v' : Value) : (nodeC h v).toArray.setIfInBounds 32 v' = (nodeC h v').toArray := by
  have := hashC_len ok
  simp only [List.setIfInBounds_toArray, nodeC]
  rw [List.set_append_right _ _ (by omega), this]
  rfl
theorem own_types {w : World} {B1 B2 k1 k2 n1 n2 : Nat} {e1 e2 : TypeId} {v1 v2 : Value} {x1 x2 : List Value} (h1 : w.ownsRow B1 e1 k1 v1 n1 x1) (h2 : w.ownsRow B2 e2 k2 v2 n2 x2) (hne : e1 ≠ e2) : ∀ j, v1.ownBlock = some j → v2.ownBlock = some j → False := by
  intro j a b
  rcases h1.2 with ⟨rfl, -⟩ | ⟨g, cap, cur, rfl, -, hg, -⟩
  · simp [Value.ownBlock] at a
  · rcases h2.2 with ⟨rfl, -⟩ | ⟨g', cap', cur', rfl, -, hg', -⟩
    · simp [Value.ownBlock] at b
    · simp only [Value.ownBlock, Option.some.injEq] at a b
      subst a
      subst b
      rw [hg] at hg'
      simp only [Option.some.injEq, Obj.cells.injEq] at hg'
      exact hne hg'.2.1
theorem unfrozen {w : World} {b i : Nat} {c : Array Value} {T : TypeId} (h : w.heap[b]? = some (.cells c T (0, 0))) : w.frozen? ⟨b, i, none⟩ = false := by simp [World.frozen?, h]
theorem obj_no_own {w : World} {B n k qm : Nat} {v : Value} {xs : List Value} {c : Array Value} (h : w.ownsRow B 30 k v n xs) (hb : w.heap[qm]? = some (.cells c 63 (0, 0))) : ∀ j, v.ownBlock = some j → j = qm → False := by
  intro j a b
  rcases h.2 with ⟨rfl, -⟩ | ⟨g, cap, cur, rfl, -, hg, -⟩
  · simp [Value.ownBlock] at a
  · simp only [Value.ownBlock, Option.some.injEq] at a
    subst a
    subst b
    rw [hg] at hb
    simp only [Option.some.injEq, Obj.cells.injEq] at hb
    exact absurd hb.2.1 (by decide)
/-- What is left without D. -/
def restW (D l : List HashD) : List HashD := l.filter fun y => decide (y ∉ D)
theorem restW_in {D l : List HashD} {y : HashD} (h : y ∈ D) : restW D (l ++ [y]) = restW D l := by simp [restW, List.filter_append, h]
theorem restW_out {D l : List HashD} {y : HashD} (h : y ∉ D) : restW D (l ++ [y]) = restW D l ++ [y] := by simp [restW, List.filter_append, h]
theorem restW_len (D l : List HashD) : (restW D l).length ≤ l.length := List.length_filter_le _ _
theorem mem_restW {D l : List HashD} {x : HashD} : x ∈ restW D l ↔ x ∈ l ∧ x ∉ D := by simp [restW]
/-- The nodes that are left, as they lie; all blocks under B. -/
structure WoAt (w wr : World) (B : Nat) (rv : Value) (R : List RN) (G : List NodeD) : Prop where
  row : wr.ownsRow w.heap.size 63 33 rv R.length (nodesC R)
  rn : ∀ r ∈ R, RnAt w.heap.size wr r
  sim : Sim R G
  lo : ∀ j, rv.ownBlock = some j → j < B
  lp : ∀ r ∈ R, ∀ j, r.pv.ownBlock = some j → j < B
  fr : Fr No w wr
  b0 : w.heap.size ≤ B
theorem WoAt.keepB {w wr w' : World} {B : Nat} {rv : Value} {R : List RN} {G : List NodeD} (h : WoAt w wr B rv R G) (f : Fr (fun j => B ≤ j) wr w') : WoAt w w' B rv R G :=
  ⟨ownsRow_keep h.row f (fun j e h1 => by have := h.lo j e; omega), fun r hr => (h.rn r hr).keep f (fun j e h1 => by have := h.lp r hr j e; omega), h.sim, h.lo, h.lp, h.fr.trans f (fun i hi e => by have := h.b0; omega), h.b0⟩
theorem WoAt.up {w wr : World} {B B' : Nat} {rv : Value} {R : List RN} {G : List NodeD} (h : WoAt w wr B rv R G) (hB : B ≤ B') : WoAt w wr B' rv R G :=
  ⟨h.row, h.rn, h.sim, fun j e => Nat.lt_of_lt_of_le (h.lo j e) hB, fun r hr j e => Nat.lt_of_lt_of_le (h.lp r hr j e) hB, h.fr, Nat.le_trans h.b0 hB⟩
/-- One more. -/
theorem WoAt.snoc {w wr w' : World} {B : Nat} {rv rv' : Value} {R : List RN} {G : List NodeD} (h : WoAt w wr B rv R G) {r : RN} {n : NodeD} (hr : RnAt w.heap.size wr r) (hid : r.id = n.id) (hps : ∀ x, x ∈ r.ps ↔ x ∈ n.ps) (f : Fr (fun j => rv.ownBlock = some j) wr w')
    (ho : w'.ownsRow w.heap.size 63 33 rv' (R.length + 1) (nodesC R ++ nodeC r.id r.pv)) : WoAt w w' w'.heap.size rv' (R ++ [r]) (G ++ [n]) := by
  have kp : ∀ x ∈ R ++ [r], RnAt w.heap.size w' x := fun x hx => by
    rcases List.mem_append.1 hx with hx | hx
    · exact (h.rn x hx).keep f (fun j e h1 => own_types h.row (h.rn x hx).own (by decide) j h1 e)
    · rw [List.mem_singleton.1 hx]
      exact hr.keep f (fun j e h1 => own_types h.row hr.own (by decide) j h1 e)
  refine ⟨?_, kp, h.sim.app ⟨⟨hid, hps⟩, trivial⟩, fun j e => (ho.lt j e).2, fun x hx j e => ((kp x hx).own.lt j e).2, h.fr.trans f (fun i hi e => by have := (h.row.lt i e).1; omega), Nat.le_trans h.fr.size f.size⟩
  have e1 : (R ++ [r]).length = R.length + 1 := by simp
  have e2 : nodesC (R ++ [r]) = nodesC R ++ nodeC r.id r.pv := by simp [nodesC, RN.cells]
  rw [e1, e2]
  exact ho
section
variable {w0 w : World} {q : Nat} {U : Nat → Prop} {G : List NodeD}
def WithoutOk (w0 w : World) (q : Nat) (U : Nat → Prop) (G : List NodeD) (l : List HashD) (e : Ending) (w' : World) : Prop := e = .returned (.tuple #[]) ∧ ∃ U', RG w0 w' q U' (cutL G l) ∧ Fr U w w' ∧ ∀ j, U' j → U j ∨ w.heap.size ≤ j
set_option maxRecDepth 20000 in
set_option maxHeartbeats 8000000 in
theorem without_R (h : RG w0 w q U G) (hG : G.length ≤ 900) {v : Value} {l : List HashD} (hl : IdsIs w v l) (hl2 : l.length ≤ 100000) : Calls Try.prog 34 #[.pointer (some ⟨q, 0, none⟩), v] w (WithoutOk w0 w q U G l) := by
  obtain ⟨dK, uK, rK⟩ := descHash
  obtain ⟨dN, uN, rN⟩ := descRN
  have zn := zeroRN
  have zh := zeroHash
  obtain ⟨lv0, R, hobj, hrow, hs, hrn, hU, hUp⟩ := h.ex
  obtain ⟨la, lc, rfl⟩ := hrow.slice.arg.form
  have A1 := Lib.hid (show RgAt w0.heap.size w q (.slice la R.length lc) R from ⟨by simp [World.cell?, hobj], hrow, hrn⟩)
  have c0 := A1.out.obj
  have HOBJ := Lib.hid hobj
  have HR := Lib.hid h
  have HS := Lib.hid hs
  have HL := Lib.hid hl
  have lG : R.length = G.length := hs.len
  clear h hs hl hobj hrow hrn hU hUp
  have hr9 : R.length ≤ 900 := by omega
  go_enter Try.func34, Try.ntmps34
  go_wp2
  go_loopw [4, 15] (fun rv iv wr => ∃ (n : Nat) (R' : List RN), iv = .int .i64 n ∧ n ≤ R.length ∧ R'.length ≤ n ∧ WoAt w wr wr.heap.size rv R' (cutL (G.take n) l)) (fun _ iv _ => R.length - (intOf iv).toNat)
  case atStart => exact ⟨0, [], rfl, Nat.zero_le _, Nat.zero_le _, ⟨World.ownsRow_nil _ _ _ _, by simp, by simp [cutL, Sim], fun j h => by simp [Value.ownBlock] at h, by simp, Fr.refl _ _, Nat.le_refl _⟩⟩
  case round =>
    obtain ⟨n, R', rfl, hn, hn2, hwo⟩ := hrel
    have WO := Lib.hid hwo
    have FR := Lib.hid hwo.fr
    obtain ⟨ra, rc, rfl⟩ := hwo.row.slice.arg.form
    clear hwo
    by_cases h : n < R.length
    · have i1 : (n : Int) < (R.length : Int) := by omega
      obtain ⟨r, hr⟩ : ∃ r, R[n]? = some r := ⟨_, List.getElem?_eq_getElem h⟩
      have A2 := Lib.hid (A1.out.keep FR.out)
      have c2 := A2.out.obj
      obtain ⟨b, off, cap, hv, hrg, -⟩ := nodes_elem A2.out.row A2.out.rn hr
      cases hv
      have RM := Lib.hid (List.mem_of_getElem? hr)
      have RA := Lib.hid (A2.out.rn r RM.out)
      obtain ⟨nd, hnd, hid, hps⟩ := HS.out.at_ hr
      obtain ⟨pa, pc, hpv⟩ := RA.out.own.slice.arg.form
      rw [hpv] at hrg
      have PV := Lib.hid hpv
      have PL := RA.out.len
      have NL := Lib.hid (nodeC_len (v := .slice pa r.ps.length pc) RA.out.ok)
      have NL0 := Lib.hid (nodeC_len (v := .slice none 0 0) RA.out.ok)
      have RL := Lib.hid (hashC_len RA.out.ok)
      have ROK := Lib.hid RA.out.ok
      have R1 := Lib.hid hrg
      have fa := (Fr.refl No wr).alloc (.cells (nodeC r.id (.slice pa r.ps.length pc)).toArray 63)
      obtain ⟨r2, c32⟩ := node_at (range_new wr (nodeC r.id (.slice pa r.ps.length pc)) 63) RA.out.ok
      have R2 := Lib.hid r2
      have FA := Lib.hid fa
      have HL2 := Lib.hid (HL.out.keep (FR.out.trans0 fa))
      have CT := Lib.hid (show cutL (G.take (n + 1)) l = cutL (G.take n) l ++ (if r.id ∈ l then [] else [⟨nd.id, nd.ps.filter fun p => decide (p ∉ l)⟩]) by
        rw [List.take_add_one, hnd, hid]
        exact cutL_snocG _ _ _)
      have HPS := Lib.hid hps
      have HID := Lib.hid hid
      clear hrg hpv fa hr A2 RA hnd hid hps r2
      have S1 := Lib.hid True.intro
      have S2 := Lib.hid True.intro
      by_cases h1 : r.id ∈ l
      · have B1 := Lib.hid (show true = true ↔ r.id ∈ l by simp [h1])
        have CE := Lib.hid (show cutL (G.take (n + 1)) l = cutL (G.take n) l by rw [CT.out, if_pos h1, List.append_nil])
        clear h1
        go_wp2_with (first | ((with_reducible refine at_dst 18 ?_); refine wpList_vG rfl (exec_load (ty := 63) rfl rfl R1.out uN rN (by rw [NL.out]; exact infoRN)) ?_) | (have mk := S1.out; (with_reducible refine at_store ?_); refine wpList_done rfl (exec_store_new (w := wr) (ty := 63) (cs := (nodeC r.id (.slice pa r.ps.length pc))) rfl rfl rfl (by rw [NL.out]; rfl) (by rw [NL.out]; exact infoRN) nodeC_one) ?_; generalize wr.alloc (.cells (nodeC r.id (.slice pa r.ps.length pc)).toArray 63) = w2 at *; generalize hq2 : wr.heap.size = q2 at *; clear mk S1) | ((with_reducible refine at_dst 21 ?_); refine wpList_vG rfl (exec_load (ty := 30) rfl rfl R2.out uK rK (by rw [RL.out]; exact infoHash)) ?_) | (go_at_call 15; refine (has_b HL2.out hl2 ROK.out B1.out).mono ?_; rintro e w3 ⟨rfl, f3⟩; have F3 := Lib.hid (FA.out.trans0 f3); have W3 := Lib.hid (show WoAt w w3 w3.heap.size (.slice ra R'.length rc) R' (cutL (G.take n) l) from (WO.out.keepB (F3.out.mono (fun _ h => h.elim))).up (by have := F3.out.size; omega)); clear f3))
        go_roundw
        case rel => exact ⟨n + 1, R', by simp, by omega, by omega, by rw [CE.out]; exact W3.out⟩
        case measure => show R.length - (n + 1) < R.length - n; omega
      · have B1 := Lib.hid (show false = true ↔ r.id ∈ l by simp [h1])
        have CE := Lib.hid (show cutL (G.take (n + 1)) l = cutL (G.take n) l ++ [⟨nd.id, nd.ps.filter fun p => decide (p ∉ l)⟩] by rw [CT.out, if_neg h1])
        clear h1
        have B0 := Lib.hid (show wr.heap.size ≤ wr.heap.size from Nat.le_refl _)
        go_wp2_with (first | ((with_reducible refine at_dst 18 ?_); refine wpList_vG rfl (exec_load (ty := 63) rfl rfl R1.out uN rN (by rw [NL.out]; exact infoRN)) ?_) | (have mk := S1.out; (with_reducible refine at_store ?_); refine wpList_done rfl (exec_store_new (w := wr) (ty := 63) (cs := (nodeC r.id (.slice pa r.ps.length pc))) rfl rfl rfl (by rw [NL.out]; rfl) (by rw [NL.out]; exact infoRN) nodeC_one) ?_; generalize wr.alloc (.cells (nodeC r.id (.slice pa r.ps.length pc)).toArray 63) = w2 at *; generalize hq2 : wr.heap.size = q2 at *; clear mk S1) | ((with_reducible refine at_dst 21 ?_); refine wpList_vG rfl (exec_load (ty := 30) rfl rfl R2.out uK rK (by rw [RL.out]; exact infoHash)) ?_) | (go_at_call 15; refine (has_b HL2.out hl2 ROK.out B1.out).mono ?_; rintro e w3 ⟨rfl, f3⟩; have F3 := Lib.hid (FA.out.trans0 f3); have R3 := Lib.hid (range_keep R2.out f3 id); have C3 := f3.cell c32 id; clear f3) | ((with_reducible refine at_dst 24 ?_); refine wpList_vG rfl (exec_load (ty := 30) rfl rfl R3.out uK rK (by rw [RL.out]; exact infoHash)) ?_) | ((with_reducible refine at_dst 25 ?_); refine wpList_vG rfl (exec_buildB (t := 63) rfl rfl (built_RN ROK.out)) ?_) | (have mk := S2.out; (with_reducible refine at_store ?_); refine wpList_done rfl (exec_store_new (w := w3) (ty := 63) (cs := nodeC r.id (.slice none 0 0)) rfl rfl rfl (by rw [NL0.out]; rfl) (by rw [NL0.out]; exact infoRN) nodeC_one) ?_; have BM := Lib.hid (heap_alloc_new w3 (.cells (nodeC r.id (.slice none 0 0)).toArray 63)); have F4 := Lib.hid (F3.out.alloc (.cells (nodeC r.id (.slice none 0 0)).toArray 63)); have C4 := ((Fr.refl No w3).alloc (.cells (nodeC r.id (.slice none 0 0)).toArray 63)).cell C3 id; have QM := Lib.hid F3.out.size; have QL := Lib.hid (show w3.heap.size < (w3.alloc (.cells (nodeC r.id (.slice none 0 0)).toArray 63)).heap.size by simp); generalize w3.alloc (.cells (nodeC r.id (.slice none 0 0)).toArray 63) = w4 at *; generalize w3.heap.size = qm at *; clear mk S2))
        have W4 := Lib.hid (WO.out.keepB (F4.out.mono (fun _ h => h.elim)))
        have WF := Lib.hid F4.out.size
        rw [hq2] at WF QM
        go_loopw [29] (fun iv wi => ∃ (k : Nat) (mv : Value), iv = .int .i64 k ∧ k ≤ r.ps.length ∧ wi.heap[qm]? = some (.cells (nodeC r.id mv).toArray 63 (0, 0)) ∧ wi.ownsRow q2 30 32 mv (restW l (r.ps.take k)).length ((restW l (r.ps.take k)).flatMap hashC) ∧ Fr (fun j => q2 ≤ j) w4 wi) (fun iv _ => r.ps.length - (intOf iv).toNat)
        case atStart => exact ⟨0, .slice none 0 0, rfl, Nat.zero_le _, BM.out, World.ownsRow_nil _ _ _ _, Fr.refl _ _⟩
        case round =>
          obtain ⟨k, mv, rfl, hk, hbm, hmo, fi⟩ := hrel
          have FI := Lib.hid fi
          have BI := Lib.hid hbm
          have MO := Lib.hid hmo
          have WI := Lib.hid (W4.out.keepB fi)
          have FW := Lib.hid WI.out.fr
          obtain ⟨ma, mc, rfl⟩ := hmo.slice.arg.form
          obtain ⟨-, c5⟩ := node_at (range_obj hbm) ROK.out
          have CM := Lib.hid c5
          clear fi hbm hmo c5
          by_cases hkt : k < r.ps.length
          · have i2 : (k : Int) < (r.ps.length : Int) := by omega
            obtain ⟨y, hy⟩ : ∃ y, r.ps[k]? = some y := ⟨_, List.getElem?_eq_getElem hkt⟩
            have A5 := (A1.out.keep FW.out).rn r RM.out
            obtain ⟨b2, off2, cap2, hv, hrg, -⟩ := (IdsIs.own A5.own A5.pok).at_ hy
            rw [PV.out] at hv
            cases hv
            have YOK := Lib.hid (A5.pok y (List.mem_of_getElem? hy))
            have YL := Lib.hid (hashC_len YOK.out)
            have R5 := Lib.hid hrg
            have RN5 := Lib.hid (range_new wr (hashC y) 30)
            have fa := (Fr.refl No wr).alloc (.cells (hashC y).toArray 30)
            have FA5 := Lib.hid fa
            have HL5 := Lib.hid (HL.out.keep (FW.out.trans0 fa))
            have RT := Lib.hid (show r.ps.take (k + 1) = r.ps.take k ++ [y] by rw [List.take_add_one, hy]; rfl)
            have LM := Lib.hid (show (restW l (r.ps.take k)).length ≤ 30 by have := restW_len l (r.ps.take k); have := List.length_take_le k r.ps; omega)
            have S3 := Lib.hid True.intro
            clear hrg hy A5 fa
            by_cases h2 : y ∈ l
            · have B2 := Lib.hid (show true = true ↔ y ∈ l by simp [h2])
              have RT2 := Lib.hid (show restW l (r.ps.take (k + 1)) = restW l (r.ps.take k) by rw [RT.out, restW_in h2])
              clear h2
              go_wp2_with (first | ((with_reducible refine at_dst 32 ?_); refine wpList_vG rfl (exec_load (ty := 30) rfl rfl R5.out uK rK (by rw [YL.out]; exact infoHash)) ?_) | (have mk := S3.out; (with_reducible refine at_store ?_); refine wpList_done rfl (exec_store_new (w := wr) (ty := 30) (cs := hashC y) rfl rfl rfl (by rw [YL.out]; rfl) (by rw [YL.out]; exact infoHash) hashC_one) ?_; generalize wr.alloc (.cells (hashC y).toArray 30) = w5 at *; generalize hq5 : wr.heap.size = q5 at *; clear mk S3) | ((with_reducible refine at_dst 34 ?_); refine wpList_vG rfl (exec_load (ty := 30) rfl rfl RN5.out uK rK (by rw [YL.out]; exact infoHash)) ?_) | (go_at_call 15; refine (has_b HL5.out hl2 YOK.out B2.out).mono ?_; rintro e w6 ⟨rfl, f6⟩; have F6 := Lib.hid (FA5.out.trans0 f6); have R6 := Lib.hid (range_keep RN5.out f6 id); have CM6 := F6.out.cell CM.out id; have BI6 := Lib.hid (F6.out.obj BI.out id); have MO6 := Lib.hid (ownsRow_keep MO.out F6.out (fun _ _ => id)); clear f6))
              go_roundw
              case rel => exact ⟨k + 1, _, by simp, by omega, F6.out.obj BI.out id, by rw [RT2.out]; exact ownsRow_keep MO.out F6.out (fun _ _ => id), FI.out.trans0 F6.out⟩
              case measure => show r.ps.length - (k + 1) < r.ps.length - k; omega
            · have B2 := Lib.hid (show false = true ↔ y ∈ l by simp [h2])
              have RT2 := Lib.hid (show restW l (r.ps.take (k + 1)) = restW l (r.ps.take k) ++ [y] by rw [RT.out, restW_out h2])
              clear h2
              go_wp2_with (first | ((with_reducible refine at_dst 32 ?_); refine wpList_vG rfl (exec_load (ty := 30) rfl rfl R5.out uK rK (by rw [YL.out]; exact infoHash)) ?_) | (have mk := S3.out; (with_reducible refine at_store ?_); refine wpList_done rfl (exec_store_new (w := wr) (ty := 30) (cs := hashC y) rfl rfl rfl (by rw [YL.out]; rfl) (by rw [YL.out]; exact infoHash) hashC_one) ?_; generalize wr.alloc (.cells (hashC y).toArray 30) = w5 at *; generalize hq5 : wr.heap.size = q5 at *; clear mk S3) | ((with_reducible refine at_dst 34 ?_); refine wpList_vG rfl (exec_load (ty := 30) rfl rfl RN5.out uK rK (by rw [YL.out]; exact infoHash)) ?_) | (go_at_call 15; refine (has_b HL5.out hl2 YOK.out B2.out).mono ?_; rintro e w6 ⟨rfl, f6⟩; have F6 := Lib.hid (FA5.out.trans0 f6); have R6 := Lib.hid (range_keep RN5.out f6 id); have CM6 := F6.out.cell CM.out id; have BI6 := Lib.hid (F6.out.obj BI.out id); have MO6 := Lib.hid (ownsRow_keep MO.out F6.out (fun _ _ => id)); clear f6) | ((with_reducible refine at_dst 39 ?_); refine wpList_vG rfl (exec_load (ty := 30) rfl rfl R6.out uK rK (by rw [YL.out]; exact infoHash)) ?_) | ((with_reducible refine at_dst 40 ?_); refine wpList_vG rfl (exec_buildSliceA (t := 27) rfl rfl undIds infoHashZ2 rfl (by decide) (by decide) YL.out) ?_) | (at_builtin; obtain ⟨v7, w7, ap, oo, ff, nn⟩ := append_many (w6.alloc (.cells (hashC y).toArray 30)) (World.ownsRow.alloc MO6.out _) (ids_new1 w6 YOK.out) (by have := LM.out; simp only [List.length_singleton]; omega) (by have := WF.out; have := FI.out.size; have := F6.out.size; simp; omega); refine wpList_append_run rfl rfl rfl rfl ap ?_; have f67 : Fr (fun j => q2 ≤ j) w6 w7 := (((Fr.refl No w6).alloc (.cells (hashC y).toArray 30)).of0 (W := fun j => q2 ≤ j)).trans ff (fun i _ e => (MO6.out.lt i e).1); have B7 := Lib.hid (((Fr.refl No w6).alloc (.cells (hashC y).toArray 30)).obj BI6.out id); have NQM := Lib.hid (show ∀ j, Value.ownBlock (.slice ma (restW l (r.ps.take k)).length mc) = some j → j ≠ qm from fun j e e2 => obj_no_own MO6.out BI6.out j e e2); have C7 : w7.cell? ⟨qm, 32, none⟩ = some (.slice ma (restW l (r.ps.take k)).length mc) := (by simpa using (node_at (range_obj (ff.obj B7.out (fun e => NQM.out qm e rfl))) ROK.out).2); have Z7 := unfrozen (i := 32) (ff.obj B7.out (fun e => NQM.out qm e rfl)); have QV := Lib.hid (show qm < w6.heap.size from obj_lt BI6.out); rw [← RT2.out] at oo; obtain ⟨a7, c7, rfl⟩ := oo.slice.arg.form; have NV := Lib.hid (show ∀ j, Value.ownBlock (.slice a7 (restW l (r.ps.take (k + 1))).length c7) = some j → ¬ j = qm from fun j e e2 => by rcases nn j e with h | h; exact NQM.out j h e2; (simp at h; have := QV.out; omega)); have fs : Fr (fun j => j = qm) w7 (w7.setCell ⟨qm, 32, none⟩ (.slice a7 (restW l (r.ps.take (k + 1))).length c7)) := (Fr.refl (fun j => j = qm) w7).setCell ⟨qm, 32, none⟩ (.inr rfl) _; have O8 := Lib.hid (ownsRow_keep oo fs NV.out); have B8 := Lib.hid (show (w7.setCell ⟨qm, 32, none⟩ (.slice a7 (restW l (r.ps.take (k + 1))).length c7)).heap[qm]? = some (.cells (nodeC r.id (.slice a7 (restW l (r.ps.take (k + 1))).length c7)).toArray 63 (0, 0)) by rw [← node_set ROK.out (.slice ma (restW l (r.ps.take k)).length mc)]; exact heap_setCell_same w7 qm 32 _ _ _ (ff.obj B7.out (fun e => NQM.out qm e rfl))); have F8 := Lib.hid ((((F6.out.of0 (W := fun j => q2 ≤ j)).trans f67 (fun _ _ h => h))).trans fs (fun i _ e => by rw [e]; exact QM.out)); clear ap oo ff nn fs f67))
              go_roundw
              case rel => exact ⟨k + 1, _, by simp, by omega, B8.out, O8.out, FI.out.trans F8.out (fun _ _ h => h)⟩
              case measure => show r.ps.length - (k + 1) < r.ps.length - k; omega
          · have i2 : ¬ (k : Int) < (r.ps.length : Int) := by omega
            obtain rfl : k = r.ps.length := by omega
            rw [List.take_length] at MO CM BI
            have RM5 := Lib.hid (range_obj BI.out)
            have NM := Lib.hid (nodeC_len (v := .slice ma (restW l r.ps).length mc) ROK.out)
            have RNA := Lib.hid (show RnAt w.heap.size wr ⟨r.id, restW l r.ps, .slice ma (restW l r.ps).length mc⟩ from ⟨ROK.out, own_base MO.out WI.out.b0, fun c hc => ((A1.out.keep FW.out).rn r RM.out).pok c (mem_restW.1 hc).1, Nat.le_trans (restW_len _ _) PL⟩)
            have ln9 : R'.length ≤ 900 := by omega
            obtain ⟨v9, w9, ap, oo, ff, -, -⟩ := append_blk (P := Try.prog) wr w.heap.size 41 41 63 33 56 _ undRNs infoRNZ rfl (by decide) WI.out.row (nodeC r.id (.slice ma (restW l r.ps).length mc)) NM.out nodeC_one (by omega) (by unfold maxLen; omega) FW.out.size
            have W9 := Lib.hid (WI.out.snoc (n := ⟨nd.id, nd.ps.filter fun p => decide (p ∉ l)⟩) RNA.out HID.out (fun x => by rw [mem_restW, List.mem_filter, HPS.out x, decide_eq_true_eq]) ff oo)
            rw [← CE.out] at W9
            obtain ⟨a9, c9, rfl⟩ := oo.slice.arg.form
            have AP := Lib.hid ap
            clear ap oo ff
            go_wp2_with (first | ((with_reducible refine at_dst 45 ?_); refine wpList_vG rfl (exec_load (ty := 63) rfl rfl RM5.out uN rN (by rw [NM.out]; exact infoRN)) ?_) | ((with_reducible refine at_dst 46 ?_); refine wpList_vG rfl (exec_buildSliceA (t := 41) rfl rfl undRNs infoRNZ2 rfl (by decide) (by decide) NM.out) ?_) | (at_builtin; refine wpList_append_run rfl rfl rfl rfl AP.out ?_))
            go_roundw
            case rel => exact ⟨n + 1, R' ++ [⟨r.id, restW l r.ps, .slice ma (restW l r.ps).length mc⟩], by simp, by omega, by rw [List.length_append, List.length_singleton]; omega, W9.out⟩
            case measure => show R.length - (n + 1) < R.length - n; omega
    · have i1 : ¬ (n : Int) < (R.length : Int) := by omega
      have c2 := FR.out.cell c0 id
      have WE := Lib.hid (show WoAt w wr wr.heap.size (.slice ra R'.length rc) R' (cutL G l) by
        have := WO.out
        rwa [show G.take n = G by rw [show n = G.length by omega, List.take_length]] at this)
      have OB := Lib.hid (FR.out.obj HOBJ.out id)
      have z2 := unfrozen (i := 0) OB.out
      go_wp2
      (try simp only [Exit.inBlock, Exit.then])
      refine bodyPost_ret (results_none rfl _ _ _) rfl ?_
      have ql := HR.out.hi q HR.out.uq
      have fs : Fr (fun j => j = q) wr (wr.setCell ⟨q, 0, none⟩ (.slice ra R'.length rc)) := (Fr.refl (fun j => j = q) wr).setCell ⟨q, 0, none⟩ (.inr rfl) _
      have nq : ∀ {e : TypeId} {k m : Nat} {v : Value} {xs : List Value}, wr.ownsRow w.heap.size e k v m xs → ∀ j, v.ownBlock = some j → ¬ j = q := fun ho j e => by have := (ho.lt j e).1; omega
      refine ⟨rfl, fun j => U j ∨ w.heap.size ≤ j ∧ j < wr.heap.size, ⟨⟨.slice ra R'.length rc, R', ?_, ?_, WE.out.sim, fun r hr => ?_, fun j e => ⟨.inr ((WE.out.row.lt j e)), nq WE.out.row j e⟩, fun r hr j e => ⟨.inr ((WE.out.rn r hr).own.lt j e), nq (WE.out.rn r hr).own j e⟩⟩, .inl HR.out.uq, fun j hj => ?_, fun j hj => ?_, ?_⟩, ?_, fun j hj => hj.imp id (fun h => h.1)⟩
      · have := heap_setCell_same wr q 0 _ _ (.slice ra R'.length rc) OB.out
        simpa using this
      · exact own_base (ownsRow_keep WE.out.row fs (nq WE.out.row)) HR.out.fr.size
      · have := (WE.out.rn r hr).keep fs (nq (WE.out.rn r hr).own)
        exact ⟨this.ok, own_base this.own HR.out.fr.size, this.pok, this.len⟩
      · rcases hj with hj | hj
        · exact HR.out.lo j hj
        · have := HR.out.fr.size; omega
      · have := fs.size
        rcases hj with hj | hj
        · have := HR.out.hi j hj; have := FR.out.size; omega
        · omega
      · exact (HR.out.fr.trans0 FR.out).trans fs (fun i hi e => by have := HR.out.lo q HR.out.uq; omega)
      · exact (FR.out.of0 (W := U)).trans fs (fun i hi e => by rw [e]; exact HR.out.uq)
theorem RG.okId {w0 w : World} {q : Nat} {U : Nat → Prop} {G : List NodeD} (h : RG w0 w q U G) : ∀ c ∈ ids G, hashOk c := fun c hc => by
  obtain ⟨_, R, _, ha, hs⟩ := h.form
  rw [← hs.ids] at hc
  obtain ⟨r, hr, rfl⟩ := List.mem_map.1 hc
  exact (ha.rn r hr).ok
theorem cutL_none {G : List NodeD} (_ : GOk G) {x : HashD} (h : x ∉ ids G) : cutL G (downS G [x]) = G := by rw [down_none h]; exact cutL_nil G
def LiftRk (w0 w : World) (q : Nat) (U : Nat → Prop) (G : List NodeD) (x : HashD) (e : Ending) (w' : World) : Prop :=
  e = .returned (.int .i64 (if x ∈ ids G then 0 else 9)) ∧ ∃ U', RG w0 w' q U' (cutL G [x]) ∧ Fr U w w' ∧ ∀ j, U' j → U j ∨ w.heap.size ≤ j
def DropRk (w0 w : World) (q : Nat) (U : Nat → Prop) (G : List NodeD) (x : HashD) (e : Ending) (w' : World) : Prop :=
  ∃ v, e = .returned (.tuple #[v, .int .i64 (if x ∈ ids G then 0 else 9)]) ∧ IdsIs w' v (downS G [x]) ∧ ∃ U', RG w0 w' q U' (cutL G (downS G [x])) ∧ Fr U w w' ∧ ∀ j, U' j → U j ∨ w.heap.size ≤ j
set_option maxRecDepth 20000 in
set_option maxHeartbeats 4000000 in
theorem lift_R (h : RG w0 w q U G) (ok : GOk G) (hG : G.length ≤ 900) {x : HashD} (hx : hashOk x) : Calls Try.prog 24 #[.pointer (some ⟨q, 0, none⟩), .agg (hashC x).toArray] w (LiftRk w0 w q U G x) := by
  obtain ⟨dK, uK, rK⟩ := descHash
  have HX := Lib.hid (hashC_len hx)
  have XOK := Lib.hid hx
  have f1 : Fr No w (w.alloc (.cells (hashC x).toArray 30)) := (Fr.refl No w).alloc _
  have RX := Lib.hid (range_new w (hashC x) 30)
  have F1 := Lib.hid f1
  have H1 := Lib.hid (h.fr0 f1)
  have OK := Lib.hid ok
  clear h ok f1 hx
  by_cases hin : x ∈ ids G
  · have D := Lib.hid (decide_eq_true hin)
    go_enter Try.func24, Try.ntmps24
    go_wp2_with (first | ((with_reducible refine at_dst 6 ?_); refine wpList_vG rfl (exec_load (ty := 30) rfl rfl RX.out uK rK (by rw [HX.out]; exact infoHash)) ?_; generalize w.alloc (.cells (hashC x).toArray 30) = w1 at *; generalize hq : w.heap.size = q0 at *) | (go_at_call 29; refine (has_R H1.out (by omega) XOK.out).mono ?_; rintro e w2 ⟨rfl, f2⟩; rw [D.out]; have F12 := Lib.hid f2; have H2 := Lib.hid (H1.out.fr0 f2); have RX2 := Lib.hid (range_keep RX.out f2 id); have f3 := (Fr.refl No w2).alloc (.cells (hashC x).toArray 30); have F3 := Lib.hid f3; clear f2 f3) | ((with_reducible refine at_dst 10 ?_); refine wpList_vG rfl (exec_load (ty := 30) rfl rfl RX2.out uK rK (by rw [HX.out]; exact infoHash)) ?_) | ((with_reducible refine at_dst 11 ?_); refine wpList_vG rfl (exec_buildSliceA (t := 27) rfl rfl undIds infoHashZ2 rfl (by decide) (by decide) HX.out) ?_) | (go_at_call 34; refine (without_R (H2.out.fr0 F3.out) hG (ids_new1 w2 XOK.out) (by simp)).mono ?_; rintro e w4 ⟨rfl, U4, g4, f4, s4⟩; have G4 := Lib.hid g4; have F4 := Lib.hid f4; have S4 := Lib.hid s4; clear g4 f4 s4))
    go_ret
    exact ⟨by rw [if_pos hin]; rfl, U4, G4.out, (((F1.out.trans0 F12.out).trans0 F3.out).of0 (W := U)).trans F4.out (fun _ _ h => h), fun j hj => (S4.out j hj).imp id (fun h => by have := F3.out.size; have := F12.out.size; have := F1.out.size; omega)⟩
  · have D := Lib.hid (decide_eq_false hin)
    go_enter Try.func24, Try.ntmps24
    go_wp2_with (first | ((with_reducible refine at_dst 6 ?_); refine wpList_vG rfl (exec_load (ty := 30) rfl rfl RX.out uK rK (by rw [HX.out]; exact infoHash)) ?_; generalize w.alloc (.cells (hashC x).toArray 30) = w1 at *; generalize hq : w.heap.size = q0 at *) | (go_at_call 29; refine (has_R H1.out (by omega) XOK.out).mono ?_; rintro e w2 ⟨rfl, f2⟩; rw [D.out]; have F12 := Lib.hid f2; have H2 := Lib.hid (H1.out.fr0 f2); clear f2))
    go_ret
    exact ⟨by rw [if_neg hin]; rfl, U, by rw [cutL_not OK.out hin]; exact H2.out, (F1.out.trans0 F12.out).of0, fun j hj => .inl hj⟩
set_option maxRecDepth 20000 in
set_option maxHeartbeats 4000000 in
theorem drop_R (h : RG w0 w q U G) (ok : GOk G) (hG : G.length ≤ 900) {x : HashD} (hx : hashOk x) : Calls Try.prog 22 #[.pointer (some ⟨q, 0, none⟩), .agg (hashC x).toArray] w (DropRk w0 w q U G x) := by
  obtain ⟨dK, uK, rK⟩ := descHash
  have HX := Lib.hid (hashC_len hx)
  have XOK := Lib.hid hx
  have f1 : Fr No w (w.alloc (.cells (hashC x).toArray 30)) := (Fr.refl No w).alloc _
  have RX := Lib.hid (range_new w (hashC x) 30)
  have F1 := Lib.hid f1
  have H1 := Lib.hid (h.fr0 f1)
  have OK := Lib.hid ok
  clear h ok f1 hx
  by_cases hin : x ∈ ids G
  · have D := Lib.hid (decide_eq_true hin)
    go_enter Try.func22, Try.ntmps22
    go_wp2_with (first | ((with_reducible refine at_dst 8 ?_); refine wpList_vG rfl (exec_load (ty := 30) rfl rfl RX.out uK rK (by rw [HX.out]; exact infoHash)) ?_; generalize w.alloc (.cells (hashC x).toArray 30) = w1 at *; generalize hq : w.heap.size = q0 at *) | (go_at_call 29; refine (has_R H1.out (by omega) XOK.out).mono ?_; rintro e w2 ⟨rfl, f2⟩; rw [D.out]; have F12 := Lib.hid f2; have H2 := Lib.hid (H1.out.fr0 f2); have RX2 := Lib.hid (range_keep RX.out f2 id); have f3 := (Fr.refl No w2).alloc (.cells (hashC x).toArray 30); have F3 := Lib.hid f3; clear f2 f3) | ((with_reducible refine at_dst 12 ?_); refine wpList_vG rfl (exec_load (ty := 30) rfl rfl RX2.out uK rK (by rw [HX.out]; exact infoHash)) ?_) | ((with_reducible refine at_dst 13 ?_); refine wpList_vG rfl (exec_buildSliceA (t := 27) rfl rfl undIds infoHashZ2 rfl (by decide) (by decide) HX.out) ?_) | (go_at_call 26; refine (down_R (H2.out.fr0 F3.out) OK.out hG (ids_new1 w2 XOK.out) (by simp)).mono ?_; rintro e w4 ⟨v4, rfl, o4⟩; have OKD := Lib.hid (show ∀ c ∈ downS G [x], hashOk c from fun c hc => H2.out.okId c (down_sub _ c hc)); have O4 := Lib.hid o4; have F4 := Lib.hid o4.2; have H4 := Lib.hid ((H2.out.fr0 F3.out).fr0 o4.2); obtain ⟨a4, c4, rfl⟩ := (IdsIs.own o4.1 OKD.out).2.form; clear o4) | (go_at_call 34; refine (without_R H4.out hG (IdsIs.own O4.out.1 OKD.out) (by have := down_len (G := G) [x]; omega)).mono ?_; rintro e w5 ⟨rfl, U5, g5, f5, s5⟩; have G5 := Lib.hid g5; have F5 := Lib.hid f5; have S5 := Lib.hid s5; clear g5 f5 s5))
    go_ret2
    have fa := (F1.out.trans0 F12.out).trans0 (F3.out.trans0 F4.out)
    refine ⟨_, by rw [if_pos hin]; rfl, IdsIs.own (ownsRow_keep O4.out.1 F5.out (fun j e h => by have := (O4.out.1.lt j e).1; have := H2.out.hi j h; have := F3.out.size; omega)) OKD.out, U5, G5.out, (fa.of0 (W := U)).trans F5.out (fun _ _ h => h), fun j hj => (S5.out j hj).imp id (fun h => by have := fa.size; omega)⟩
  · have D := Lib.hid (decide_eq_false hin)
    go_enter Try.func22, Try.ntmps22
    go_wp2_with (first | ((with_reducible refine at_dst 8 ?_); refine wpList_vG rfl (exec_load (ty := 30) rfl rfl RX.out uK rK (by rw [HX.out]; exact infoHash)) ?_; generalize w.alloc (.cells (hashC x).toArray 30) = w1 at *; generalize hq : w.heap.size = q0 at *) | (go_at_call 29; refine (has_R H1.out (by omega) XOK.out).mono ?_; rintro e w2 ⟨rfl, f2⟩; rw [D.out]; have F12 := Lib.hid f2; have H2 := Lib.hid (H1.out.fr0 f2); clear f2))
    go_ret2
    exact ⟨_, by rw [if_neg hin]; rfl, by rw [down_none hin]; exact ⟨by simp, .inl (.inl ⟨rfl, rfl, rfl⟩)⟩, U, by rw [cutL_none OK.out hin]; exact H2.out, (F1.out.trans0 F12.out).of0, fun j hj => .inl hj⟩
end
end Go.Proofs.Ytnjkpjcnmdgoeaa
