/- sha: add. -/
import Derived.Test.YtmpamcnlineceaaDoorMG9
import Derived.Test.YtmpamcnlineceaaDoorMG5
set_option linter.unusedVariables false
set_option linter.unusedSimpArgs false
namespace Go.Proofs.YtmpamcnlineceaaDoor
open Go Go.RowKit Go.Maps Go.MapKept

theorem wpList_copy_eq {P : Program} {ops : Array Oper} {rest : List Oper} {o : Oper} {a : Act} {w w' : World} {Q : Exit → Act → World → Prop} {s x : Operand} {ts : Array TypeId} {sv xv v : Value} (hg : o.guard = none)
    (hop : o.op = .call { callee := .builtin .copy, args := #[s, x], argTypes := ts }) (hs : a.eval s = sv) (hx : a.eval x = xv)
    (hrun : (Builtin.copy_ ts o.type #[sv, xv]).run P w = .ok v w') (h : wpList P ops Q rest (a.put o.dst v) w') : wpList P ops Q (o :: rest) a w := by
  refine wpList_plain hg fun K' hK' => ?_
  unfold Oper.wp
  have he : (execOp a.eval o).run P w = .ok (.value v) w' := by
    simp [execOp, hop, resolve, hs, hx, invoke, builtin, hrun, Result.andThen]
  rw [he]
  exact hK' _ _ h
theorem u64_and63 {n : Int} (h0 : 0 ≤ n) (h1 : n < 18446744073709551616) : bits .and .u64 n 63 = n % 64 := bits_mask .u64 64 (by decide) (fun n h0 h1 => by simp [IntKind.wrap, IntKind.bits, IntKind.signed]; omega) 6 (by decide) n h0 (by omega)
/-- Bytes that may be read, in another block than p. -/
def BytesAt (w : World) (p : Nat) (v : Value) (l : List Int) : Prop := (l = [] ∧ ∃ a c, v = .slice a 0 c) ∨ ∃ b o c, v = .slice (some ⟨b, o, none⟩) l.length c ∧ b ≠ p ∧ w.rangeAt b o (l.map byteV) ∧ l.length ≤ c
theorem BytesAt.keep {w w' : World} {p : Nat} {v : Value} {l : List Int} (h : BytesAt w p v l) (f : Fr (fun j => j = p) w w') : BytesAt w' p v l := by
  rcases h with h | ⟨b, o, c, h1, h2, h3, h4⟩
  · exact .inl h
  · exact .inr ⟨b, o, c, h1, h2, range_keep h3 f h2, h4⟩
theorem BytesAt.form {w : World} {p : Nat} {v : Value} {l : List Int} (h : BytesAt w p v l) : ∃ a c, v = .slice a l.length c := by
  rcases h with ⟨rfl, a, c, h⟩ | ⟨b, o, c, h1, -⟩
  · exact ⟨a, c, h⟩
  · exact ⟨_, c, h1⟩
theorem info8 : (Tryd.prog.info? 140).map (·.size) = some 8 := by kernel_rfl
theorem desc8 : ∃ d, Tryd.prog.underlying 140 = some d ∧ d.isRow = true := row_of (by kernel_rfl)
def sliceN : Value → Nat
  | .slice _ n _ => n
  | _ => 0
set_option maxRecDepth 20000 in
set_option maxHeartbeats 8000000 in
theorem add_any {w : World} (hg : ShaAt w) (hw2 : 2 < w.heap.size) {p : Nat} {h : HashS} (ok : HashOk h) (hb : w.heap[p]? = some (.cells (hasherC h).toArray 143 (0, 0))) (hp : p ≠ 0 ∧ p ≠ 2) {v : Value} {l : List Int} (hl : BytesAt w p v l) (hn : h.n + l.length ≤ 4611686018427387904) :
    Calls Tryd.prog 64 #[.pointer (some ⟨p, 0, none⟩), v] w fun e w' => e = .returned (.tuple #[]) ∧ w'.heap[p]? = some (.cells (hasherC (l.foldl addB h)).toArray 143 (0, 0)) ∧ Fr (fun j => j = p) w w' := by
  have HG := Lib.hid hg
  have HW := Lib.hid hw2
  have HP := Lib.hid hp
  have OK := Lib.hid ok
  have HB := Lib.hid hb
  have HL := Lib.hid hl
  clear hg hw2 hp ok hb
  obtain ⟨va, vc, rfl⟩ := hl.form
  clear hl
  go_enter Tryd.func64, Tryd.ntmps64
  refine wp_block ?_
  go_loopw [1] (fun pv wr => ∃ d r : List Int, l = d ++ r ∧ BytesAt wr p pv r ∧ wr.heap[p]? = some (.cells (hasherC (d.foldl addB h)).toArray 143 (0, 0)) ∧ Fr (fun j => j = p) w wr) (fun pv _ => sliceN pv)
  case atStart => exact ⟨[], l, rfl, HL.out, HB.out, Fr.refl _ _⟩
  case round =>
    obtain ⟨d, r, rfl, hby, hb, fr⟩ := hrel
    have FR := Lib.hid fr
    have HBr := Lib.hid hb
    have BY := Lib.hid hby
    have OKd := Lib.hid (OK.out.adds (l := d))
    have ND := Lib.hid (addsB_n d h)
    have FD := Lib.hid (List.foldl_append (f := addB) (b := h) (l := d) (l' := r))
    clear fr hb
    generalize hhd : d.foldl addB h = hd at *
    by_cases hr : r = []
    · subst hr
      obtain ⟨a0, c0, rfl⟩ := hby.form
      have E := Lib.hid (show (d ++ []).foldl addB h = hd by rw [List.append_nil, hhd])
      clear hby
      have j0 : ¬ (0 : Int) < 0 := by omega
      go_wp2
      (try simp only [Exit.inBlock, Exit.then])
      refine bodyPost_end (results_none rfl _ _ _) rfl ?_
      exact ⟨rfl, HBr.out, FR.out⟩
    · obtain ⟨b, o, c, rfl, hbp, hrg, hrc⟩ := hby.resolve_left (fun e => hr e.1)
      have r0 : 0 < r.length := by cases r with | nil => exact absurd rfl hr | cons _ _ => simp
      have i1 : (0 : Int) < (r.length : Int) := by omega
      have hln : hd.n + r.length ≤ 4611686018427387904 := by rw [ND.out]; simp only [List.length_append] at hn; omega
      obtain ⟨t, ht⟩ : ∃ t, t = hd.n % 64 := ⟨_, rfl⟩
      have t64 : t < 64 := by omega
      have e1 : bits .and .u64 (hd.n : Int) 63 = (t : Int) := by rw [u64_and63 (by omega) (by omega), ht]; omega
      have al : Tryd.prog.arrayLen 141 = 64 := by kernel_rfl
      have t0 : (0 : Int) ≤ (t : Int) := by omega
      have t1 : (t : Int) ≤ 64 := by omega
      have tn : (t : Int).toNat = t := by omega
      have tm : ¬ (64 = t) := by omega
      have S1 := Lib.hid (show ∀ w, (Instr.sliceAt 141 (.pointer (some ⟨p, 8, none⟩)) (some (.int .i64 t)) none none).run Tryd.prog w = .ok (.slice (some ⟨p, 8 + t, none⟩) (64 - t) (64 - t)) w from fun w => by
        have i8 : (sizeOf (Tryd.prog.elem 141)).run Tryd.prog w = .ok 1 w := by kernel_rfl
        rw [run_sliceAt_array_l w _ _ (by kernel_rfl) .i64 t t0 (by rw [al]; exact t1), i8]
        simp [slicedAt, al, tm, addr_add])
      have s1 := S1.out
      obtain ⟨h8, h64, c72⟩ := hasher_at OKd.out HBr.out
      obtain ⟨k, hk⟩ : ∃ k, k = Nat.min r.length (64 - t) := ⟨_, rfl⟩
      have k1 : 0 < k ∧ k ≤ r.length ∧ k ≤ 64 - t := by rw [hk]; refine ⟨?_, Nat.min_le_left _ _, Nat.min_le_right _ _⟩; exact Nat.lt_min.2 ⟨r0, by omega⟩
      have CL := Lib.hid (show ((r.take k).map byteV).length = k by rw [List.length_map, List.length_take]; omega)
      have CP := Lib.hid (run_copy_cells (P := Tryd.prog) wr 48 48 3 5 p (8 + t) (64 - t) (64 - t) ⟨b, o, none⟩ r.length c ((r.take k).map byteV) Tryd.underlying48 (by kernel_rfl) (by rw [CL.out, hk]) (fun j v hj => by
          rw [addr_add]
          refine hrg j v ?_
          rw [List.getElem?_map] at hj ⊢
          rw [List.getElem?_take] at hj
          split at hj
          · exact hj
          · simp at hj) (fun j hj => by
          have hj2 : t + j < 64 := by rw [CL.out] at hj; omega
          have := h64 (t + j) _ (List.getElem?_eq_getElem (by rw [List.length_map, OKd.out.op]; exact hj2))
          rw [show 8 + t + j = 8 + (t + j) by omega, this]
          rfl) (fun j hj => u32_unfrozen HBr.out) (fun v hv => by obtain ⟨x, -, rfl⟩ := List.mem_map.1 hv; rfl))
      rw [CL.out] at CP
      obtain ⟨a2, ha2⟩ : ∃ a2 : Option Addr, a2 = if c = k then some ⟨b, o, none⟩ else some ⟨b, o + k, none⟩ := ⟨_, rfl⟩
      have S2 := Lib.hid (show ∀ w, (Instr.slice 48 (.slice (some ⟨b, o, none⟩) r.length c) (some (.int .i64 k)) none none).run Tryd.prog w = .ok (.slice a2 (r.length - k) (c - k)) w from fun w => by
        have i8 : (sizeOf (Tryd.prog.elem 48)).run Tryd.prog w = .ok 1 w := by kernel_rfl
        rw [Go.run_slice_l (P := Tryd.prog) w 48 (some ⟨b, o, none⟩) r.length c (by kernel_rfl) IntKind.i64 (k : Int) (by omega) (by omega), i8, ha2]
        simp [sliced, addr_add])
      have A2 := Lib.hid (show c ≠ k → a2 = some ⟨b, o + k, none⟩ from fun h => by rw [ha2, if_neg h])
      clear ha2
      have s2 := S2.out
      have kk : (0 : Int) ≤ (k : Int) := by omega
      have OP := Lib.hid (show (wr.setCells p (8 + t) ((r.take k).map byteV)).heap[p]? = some (.cells (hasherC ⟨hd.st, setI hd.op t (r.take k), hd.n⟩).toArray 143 (0, 0)) by
        have := setCells_heap p 143 ((r.take k).map byteV) (8 + t) wr _ HBr.out
        rw [this]
        have e := setI_map (r.take k) hd.op t (hd.st.map u32V) [.int .u64 hd.n] (by rw [List.length_take, OKd.out.op]; omega)
        rw [List.length_map, OKd.out.st] at e
        unfold hasherC
        rw [List.toList_toArray, e])
      have FC := Lib.hid (setCells_fr p ((r.take k).map byteV) (8 + t) wr)
      have OKc := Lib.hid (show HashOk ⟨hd.st, setI hd.op t (r.take k), hd.n⟩ from ⟨OKd.out.st, by rw [setI_len]; exact OKd.out.op⟩)
      obtain ⟨z, hz⟩ : ∃ z, z = (hd.n + k) % 64 := ⟨_, rfl⟩
      have e3 : ((hd.n : Int) + (k : Int)) % 18446744073709551616 = (hd.n : Int) + (k : Int) := by omega
      have e2 : bits .and .u64 ((hd.n : Int) + (k : Int)) 63 = (z : Int) := by rw [u64_and63 (by omega) (by omega), hz]; omega
      have NX := Lib.hid (show (d ++ r.take k).foldl addB h = addC hd (r.take k) by
        rw [List.foldl_append, hhd]
        exact addB_chunk _ _ (by intro e; have := CL.out; rw [e] at this; simp at this; omega) (by rw [List.length_take]; omega))
      have AC := Lib.hid (show addC hd (r.take k) = ⟨if z = 0 then shaBlock hd.st (setI hd.op t (r.take k)) else hd.st, setI hd.op t (r.take k), hd.n + k⟩ by
        have hlk : (r.take k).length = k := by rw [List.length_take]; omega
        unfold addC
        rw [hlk, ← hz, ← ht])
      have SP := Lib.hid (show d ++ r = (d ++ r.take k) ++ r.drop k by rw [List.append_assoc, List.take_append_drop])
      have BN := Lib.hid (show ∀ W, Fr (fun j => j = p) wr W → BytesAt W p (.slice a2 (r.length - k) (c - k)) (r.drop k) from fun W f => by
        have hrl : (r.drop k).length = r.length - k := List.length_drop
        by_cases hck : c = k
        · exact .inl ⟨List.eq_nil_of_length_eq_zero (by omega), a2, c - k, by rw [show r.length - k = 0 by omega]⟩
        · refine .inr ⟨b, o + k, c - k, by rw [A2.out hck, hrl], hbp, ?_, by omega⟩
          refine range_keep (fun j v hj => ?_) f hbp
          rw [List.getElem?_map, List.getElem?_drop] at hj
          have := hrg (k + j) v (by rw [List.getElem?_map]; exact hj)
          rwa [show o + (k + j) = o + k + j by omega] at this)
      have hk2 := k1.1
      clear ht hk
      by_cases hz0 : z = 0
      · have j2 : ((z : Int) == 0) = true := by rw [hz0]; rfl
        have hst : hd.st = hd.st := rfl
        clear hz
        go_upto_region 6 with ((with_reducible refine at_dst 21 ?_); refine wpList_copy_eq rfl rfl rfl rfl CP.out ?_; generalize wr.setCells p (8 + t) ((r.take k).map byteV) = wc at *; have c72c := (hasher_at OKc.out OP.out).2.2; have fzc := u32_unfrozen (i := 72) OP.out)
        have AC2 := Lib.hid (show (d ++ r.take k).foldl addB h = ⟨shaBlock hd.st (setI hd.op t (r.take k)), setI hd.op t (r.take k), hd.n + k⟩ by rw [NX.out, AC.out, if_pos hz0])
        have fs : Fr (fun j => j = p) wc (wc.setCell ⟨p, 72, none⟩ (.int .u64 ((hd.n : Int) + (k : Int)))) := (Fr.refl (fun j => j = p) wc).setCell ⟨p, 72, none⟩ (.inr rfl) _
        have F9 := Lib.hid (show Fr (fun j => j = p) wr (wc.setCell ⟨p, 72, none⟩ (.int .u64 ((hd.n : Int) + (k : Int)))) from FC.out.trans fs (fun _ _ h => h))
        have OK9 := Lib.hid (show HashOk ⟨hd.st, setI hd.op t (r.take k), hd.n + k⟩ from ⟨OKc.out.st, OKc.out.op⟩)
        have H9 := Lib.hid (show (wc.setCell ⟨p, 72, none⟩ (.int .u64 ((hd.n : Int) + (k : Int)))).heap[p]? = some (.cells (hasherC ⟨hd.st, setI hd.op t (r.take k), hd.n + k⟩).toArray 143 (0, 0)) by
          have := heap_setCell_same wc p 72 _ _ (.int .u64 ((hd.n : Int) + (k : Int))) OP.out
          rw [this]
          congr 2
          simp only [hasherC, List.setIfInBounds_toArray]
          rw [List.set_append_right _ _ (by simp [OKd.out.st, setI_len, OKd.out.op])]
          simp [OKd.out.st, setI_len, OKd.out.op])
        have HST := Lib.hid OKd.out.st
        have HOP := Lib.hid OK9.out.op
        generalize setI hd.op t (r.take k) = op9 at *
        generalize wc.setCell ⟨p, 72, none⟩ (.int .u64 ((hd.n : Int) + (k : Int))) = w9 at *
        have BK := Lib.hid (fun (w : World) (h1 : ShaAt w) (h2 : 2 < w.heap.size) => block_any h1 h2 HST.out HOP.out)
        have SBL := Lib.hid (shaBlock_len hd.st op9)
        generalize shaBlock hd.st op9 = sb at *
        have HD := Lib.hid ((Fr.refl No w9).drew.obj H9.out id)
        have GD := Lib.hid (show ShaAt w9.drew from (((HG.out.keep FR.out (fun e => HP.out.1 e.symm) (fun e => HP.out.2 e.symm)).keep F9.out (fun e => HP.out.1 e.symm) (fun e => HP.out.2 e.symm)).keep (Fr.refl No w9).drew id id))
        have SZ := Lib.hid (show 2 < w9.drew.heap.size by have := HW.out; have := FR.out.size; have := F9.out.size; have := (Fr.refl No w9).drew.size; omega)
        obtain ⟨d8, y8, r8⟩ := desc8
        obtain ⟨d64, y64, r64⟩ := desc64
        have L8 := Lib.hid (show (hd.st.map u32V).length = 8 by rw [List.length_map]; exact HST.out)
        have L64 := Lib.hid (show (op9.map byteV).length = 64 by rw [List.length_map]; exact HOP.out)
        refine wp_region_lexM [false, false, false, false, false, false, false, false, false, true, false, false, true] (fun w' => w'.rangeAt p 0 (hd.st.map u32V) ∧ w'.rangeAt p 8 (op9.map byteV)) (by kernel_rfl) (by kernel_rfl) 12 (by kernel_rfl) (by kernel_rfl) ?_ (fun K hK => ?_)
        · exact ⟨(hasher_at OK9.out HD.out).1, (hasher_at OK9.out HD.out).2.1⟩
        repeat (first | ((first | with_reducible refine lexM_read ?_ | ((with_reducible refine lexM_readG ?_ ?_); (focus rfl))); apply Exists.intro; refine ⟨?_, ?_⟩; (focus (first | exact lex_load (ty := 140) rfl (fun w h => h.1) y8 r8 (by rw [L8.out]; exact info8) | exact lex_load (ty := 141) rfl (fun w h => h.2) y64 r64 (by rw [L64.out]; exact info64) | (intro w' hS; obtain _ := hS; go_simp; (try with_reducible rfl); done))); try simp only [Act.put, List.setIfInBounds_toArray, List.set_cons_zero, List.set_cons_succ]) | ((first | ((with_reducible refine lexM_skip (c := false) ?_ ?_ ?_); (focus rfl); (focus rfl)) | ((with_reducible refine lexM_skip (c := true) ?_ ?_ ?_); (focus rfl); (focus rfl)) | ((with_reducible refine lexM_skipU ?_ ?_); (focus rfl))); try simp only [Act.put, List.setIfInBounds_toArray, List.set_cons_zero, List.set_cons_succ]))
        (first | with_reducible refine lexM_eff (fun K' hK' => ?_) | ((with_reducible refine lexM_effG ?_ (fun K' hK' => ?_)); (focus rfl)))
        go_simp
        refine (BK.out _ GD.out SZ.out).mono ?_
        rintro e' w6 ⟨rfl, f6⟩
        have F6 := Lib.hid f6
        have H6 := Lib.hid (f6.obj HD.out id)
        clear f6
        refine hK'.out _ _ (fun _ => ?_) (fun hS => ?_)
        · exact ⟨(hasher_at OK9.out H6.out).1, (hasher_at OK9.out H6.out).2.1⟩
        try simp only [Act.put, List.setIfInBounds_toArray, List.set_cons_zero, List.set_cons_succ]
        repeat (first | ((first | with_reducible refine lexM_read ?_ | ((with_reducible refine lexM_readG ?_ ?_); (focus rfl))); apply Exists.intro; refine ⟨?_, ?_⟩; (focus (first | (intro w' hS; obtain _ := hS; go_simp; (try with_reducible rfl); done))); try simp only [Act.put, List.setIfInBounds_toArray, List.set_cons_zero, List.set_cons_succ]) | ((first | ((with_reducible refine lexM_skip (c := false) ?_ ?_ ?_); (focus rfl); (focus rfl)) | ((with_reducible refine lexM_skip (c := true) ?_ ?_ ?_); (focus rfl); (focus rfl)) | ((with_reducible refine lexM_skipU ?_ ?_); (focus rfl))); try simp only [Act.put, List.setIfInBounds_toArray, List.set_cons_zero, List.set_cons_succ]))
        (first | with_reducible refine lexM_eff (fun K' hK' => ?_) | ((with_reducible refine lexM_effG ?_ (fun K' hK' => ?_)); (focus rfl)))
        refine wp_done (exec_store (ty := 140) (b := p) (off := 0) (cs := sb.map u32V) rfl rfl rfl (there_obj H6.out (by simp [hasherC, HST.out, HOP.out, SBL.out])) (by rw [List.length_map, SBL.out]; exact info8) (fun v hv => by obtain ⟨x, -, rfl⟩ := List.mem_map.1 hv; rfl)) ?_
        refine hK'.out _ _ (fun h => absurd rfl h) (fun hS => ?_)
        refine lexM_nil (hK.out _ _ ?_)
        have FE := Lib.hid (show Fr (fun j => j = p) wr (w6.setCells p 0 (sb.map u32V)) from ((F9.out.trans0 (Fr.refl No w9).drew).trans0 F6.out).trans (setCells_fr p _ 0 w6) (fun _ _ h => h))
        have HE := Lib.hid (show (w6.setCells p 0 (sb.map u32V)).heap[p]? = some (.cells (hasherC ((d ++ r.take k).foldl addB h)).toArray 143 (0, 0)) by
          rw [AC2.out]
          have := setCells_heap p 143 (sb.map u32V) 0 w6 _ H6.out
          refine this.trans ?_
          congr 2
          have e := setM_mid (sb.map u32V) [] (hd.st.map u32V) (op9.map byteV ++ [.int .u64 ((hd.n + k : Nat) : Int)]) (by rw [List.length_map, List.length_map, SBL.out, HST.out])
          simp only [List.nil_append, List.length_nil] at e
          simp only [hasherC, List.append_assoc]
          rw [e])
        go_wp2
        go_roundw
        case rel => exact ⟨d ++ r.take k, r.drop k, SP.out, BN.out _ FE.out, HE.out, FR.out.trans FE.out (fun _ _ h => h)⟩
        case measure => show r.length - k < r.length; omega
      · have j2 : ((z : Int) == 0) = false := by rw [beq_eq_false_iff_ne]; omega
        have AC2 := Lib.hid (show (d ++ r.take k).foldl addB h = ⟨hd.st, setI hd.op t (r.take k), hd.n + k⟩ by rw [NX.out, AC.out, if_neg hz0])
        clear hz
        go_wp2_with ((with_reducible refine at_dst 21 ?_); refine wpList_copy_eq rfl rfl rfl rfl CP.out ?_; generalize wr.setCells p (8 + t) ((r.take k).map byteV) = wc at *; have c72c := (hasher_at OKc.out OP.out).2.2; have fzc := u32_unfrozen (i := 72) OP.out)
        have fs : Fr (fun j => j = p) wc (wc.setCell ⟨p, 72, none⟩ (.int .u64 ((hd.n : Int) + (k : Int)))) := (Fr.refl (fun j => j = p) wc).setCell ⟨p, 72, none⟩ (.inr rfl) _
        have F9 := Lib.hid (show Fr (fun j => j = p) wr (wc.setCell ⟨p, 72, none⟩ (.int .u64 ((hd.n : Int) + (k : Int)))) from FC.out.trans fs (fun _ _ h => h))
        have H9 := Lib.hid (show (wc.setCell ⟨p, 72, none⟩ (.int .u64 ((hd.n : Int) + (k : Int)))).heap[p]? = some (.cells (hasherC ((d ++ r.take k).foldl addB h)).toArray 143 (0, 0)) by
          rw [AC2.out]
          have := heap_setCell_same wc p 72 _ _ (.int .u64 ((hd.n : Int) + (k : Int))) OP.out
          rw [this]
          congr 2
          simp only [hasherC, List.setIfInBounds_toArray]
          rw [List.set_append_right _ _ (by simp [OKd.out.st, setI_len, OKd.out.op])]
          simp [OKd.out.st, setI_len, OKd.out.op])
        go_roundw
        case rel => exact ⟨d ++ r.take k, r.drop k, SP.out, BN.out _ F9.out, H9.out, FR.out.trans F9.out (fun _ _ h => h)⟩
        case measure => show r.length - k < r.length; omega
end Go.Proofs.YtmpamcnlineceaaDoor

/- A struct literal of its first parts; the rest is zero. -/
namespace Go
open Go.RowKit Go.Maps Go.MapKept

theorem built_zero {P : Program} {t : TypeId} {n : Nat} {pl : List (Nat × Nat)} {vs : List (Nat × Value)} {z : Value} (h : buildPlaces P t = some (n, pl)) (hz : (P.info? t).bind (·.zero) = some z) (hf : FillOk (pl.toArray[·]?) 0 vs) (hn : (partsC vs).length ≤ z.cells.size) : P.built t vs = some (partsC vs ++ z.cells.toList.drop (partsC vs).length).toArray := by
  unfold buildPlaces at h
  unfold Program.built
  cases hi : P.info? t with
  | none => simp [hi] at h
  | some it =>
    cases hu : P.underlying t with
    | none => simp [hi, hu] at h
    | some d =>
      cases d <;> try (simp [hi, hu] at h; done)
      rename_i fs
      rw [hi] at hz
      simp only [Option.bind_some] at hz
      cases hp : fs.toList.mapM (fun f => (P.info? f.type).map fun i => (f.offset, i.size)) with
      | none => simp [hi, hu, hz, hp] at h
      | some places =>
        simp [hi, hu, hz, hp] at h
        obtain ⟨rfl, rfl⟩ := h
        simp only [hz, hp]
        have := fill_seq (places.toArray[·]?) vs [] z.cells.toList hf (by rw [Array.length_toList]; exact hn)
        simp only [List.nil_append, Array.toArray_toList] at this
        rw [this]
theorem exec_buildZ {P : Program} {t : TypeId} {w : World} {o : Oper} {ev : Operand → Value} {parts : Array (Nat × Operand)} {vs : List (Nat × Value)} {cs : List Value} (ho : o.op = .build t parts) (hv : (parts.toList.map fun (i, x) => (i, ev x)) = vs) (h : P.built t vs = some cs.toArray) :
    (execOp ev o).run P w = .ok (.value (.agg cs.toArray)) w := by
  have := run_build w t (parts.map fun (i, x) => (i, ev x)) _ (by rw [Array.toList_map, hv]; exact h)
  simp only [execOp, ho, Sem.run_bind, this, Result.andThen_ok, Sem.run_pure]
end Go

/- sha: New, Write. -/
namespace Go.Proofs.YtmpamcnlineceaaDoor
open Go Go.RowKit Go.Maps Go.MapKept

def hash0S : HashS := ⟨shaI, List.replicate 64 0, 0⟩
theorem hash0S_ok : HashOk hash0S := ⟨rfl, by simp [hash0S]⟩
theorem shaI_at {w : World} (h : ShaAt w) : w.rangeAt 0 0 (shaI.map u32V) := fun j v hj => by
  rw [List.getElem?_map] at hj
  cases hx : shaI[j]? with
  | none => rw [hx] at hj; cases hj
  | some x =>
    rw [hx] at hj
    cases hj
    have := h.i j x hx
    rw [Nat.zero_add]
    exact this
theorem built_hasher : Tryd.prog.built 143 [(0, .agg (shaI.map u32V).toArray)] = some (hasherC hash0S).toArray := by kernel_rfl
set_option maxRecDepth 20000 in
set_option maxHeartbeats 4000000 in
theorem newS_any {w : World} (hg : ShaAt w) : Calls Tryd.prog 55 #[] w fun e w' => e = .returned (.pointer (some ⟨w.heap.size, 0, none⟩)) ∧ w' = w.alloc (.cells (hasherC hash0S).toArray 143) := by
  have R := Lib.hid (shaI_at hg)
  clear hg
  obtain ⟨d8, y8, r8⟩ := desc8
  go_enter Tryd.func55, Tryd.ntmps55
  go_wp2_with (first | ((with_reducible refine at_dst 1 ?_); refine wpList_value rfl (exec_load (ty := 140) rfl rfl R.out y8 r8 (by kernel_rfl)) ?_) | ((with_reducible refine at_dst 2 ?_); refine wpList_value rfl (exec_buildZ (t := 143) rfl rfl built_hasher) ?_))
  go_ret
  exact ⟨rfl, rfl⟩
/-- Slices of bytes that may be read, in other blocks than p. -/
def PiecesAt (w : World) (p : Nat) (v : Value) (L : List (List Int)) : Prop :=
  ∃ va vc, v = .slice va L.length vc ∧ ∀ (i : Nat) (l : List Int), L[i]? = some l → ∃ b off pv, va = some ⟨b, off, none⟩ ∧ b ≠ p ∧ w.cell? ⟨b, off + i, none⟩ = some pv ∧ BytesAt w p pv l
theorem PiecesAt.keep {w w' : World} {p : Nat} {v : Value} {L : List (List Int)} (h : PiecesAt w p v L) (f : Fr (fun j => j = p) w w') : PiecesAt w' p v L := by
  obtain ⟨va, vc, e, h⟩ := h
  refine ⟨va, vc, e, fun i l hi => ?_⟩
  obtain ⟨b, off, pv, h1, h2, h3, h4⟩ := h i l hi
  exact ⟨b, off, pv, h1, h2, f.cell h3 h2, h4.keep f⟩
set_option maxRecDepth 20000 in
set_option maxHeartbeats 4000000 in
theorem write_any {w : World} (hg : ShaAt w) (hw2 : 2 < w.heap.size) {p : Nat} {h : HashS} (ok : HashOk h) (hb : w.heap[p]? = some (.cells (hasherC h).toArray 143 (0, 0))) (hp : p ≠ 0 ∧ p ≠ 2) {v : Value} {L : List (List Int)} (hl : PiecesAt w p v L) (hL : L.length ≤ 1000000) (hn : h.n + L.flatten.length ≤ 4611686018427387904) :
    Calls Tryd.prog 56 #[.pointer (some ⟨p, 0, none⟩), v] w fun e w' => e = .returned (.int .i64 0) ∧ w'.heap[p]? = some (.cells (hasherC (L.flatten.foldl addB h)).toArray 143 (0, 0)) ∧ Fr (fun j => j = p) w w' := by
  have HG := Lib.hid hg
  have HW := Lib.hid hw2
  have HP := Lib.hid hp
  have OK := Lib.hid ok
  have HB := Lib.hid hb
  have HL := Lib.hid hl
  obtain ⟨va, vc, rfl, -⟩ := hl
  clear hg hw2 hp ok hb
  go_enter Tryd.func56, Tryd.ntmps56
  go_wp2
  go_loopw [11] (fun iv wr => ∃ n : Nat, iv = .int .i64 n ∧ n ≤ L.length ∧ wr.heap[p]? = some (.cells (hasherC ((L.take n).flatten.foldl addB h)).toArray 143 (0, 0)) ∧ Fr (fun j => j = p) w wr) (fun iv _ => L.length - (intOf iv).toNat)
  case atStart => exact ⟨0, rfl, Nat.zero_le _, HB.out, Fr.refl _ _⟩
  case round =>
    obtain ⟨n, rfl, hnn, hb, fr⟩ := hrel
    have FR := Lib.hid fr
    have HBr := Lib.hid hb
    clear fr hb
    by_cases hlt : n < L.length
    · have i1 : (n : Int) < (L.length : Int) := by omega
      obtain ⟨l, hx⟩ : ∃ l, L[n]? = some l := ⟨_, List.getElem?_eq_getElem hlt⟩
      obtain ⟨va', vc', hv, hel⟩ := HL.out.keep FR.out
      obtain ⟨b, off, pv, hva, hbp, c1, hby⟩ := hel n l hx
      cases hv
      subst hva
      obtain ⟨pa, pc, rfl⟩ := hby.form
      have BY := Lib.hid hby
      have FT := Lib.hid (show (L.take (n + 1)).flatten.foldl addB h = l.foldl addB ((L.take n).flatten.foldl addB h) by rw [List.take_add_one, hx]; simp)
      have NT := Lib.hid (show ((L.take n).flatten.foldl addB h).n + l.length ≤ 4611686018427387904 by
        rw [addsB_n]
        have : L = L.take n ++ l :: L.drop (n + 1) := by
          have h2 := (List.take_append_drop n L).symm
          rw [List.drop_eq_getElem_cons hlt, (List.getElem?_eq_some_iff.1 hx).2] at h2
          exact h2
        have h3 := congrArg (fun X => X.flatten.length) this
        simp only [List.flatten_append, List.flatten_cons, List.length_append] at h3
        omega)
      have OKn := Lib.hid (OK.out.adds (l := (L.take n).flatten))
      have GN := Lib.hid (HG.out.keep FR.out (fun e => HP.out.1 e.symm) (fun e => HP.out.2 e.symm))
      have WN := Lib.hid (show 2 < wr.heap.size by have := HW.out; have := FR.out.size; omega)
      generalize (L.take n).flatten.foldl addB h = hd at *
      clear hby hel hx
      go_wp2_with (go_at_call 64; refine (add_any GN.out WN.out OKn.out HBr.out HP.out BY.out NT.out).mono ?_; rintro e w2 ⟨rfl, hb2, f2⟩; rw [← FT.out] at hb2; have HB2 := Lib.hid hb2; have F2 := Lib.hid (FR.out.trans f2 (fun _ _ h => h)); clear hb2 f2)
      go_roundw
      case rel => exact ⟨n + 1, by simp, by omega, HB2.out, F2.out⟩
      case measure => show L.length - (n + 1) < L.length - n; omega
    · have i1 : ¬ (n : Int) < (L.length : Int) := by omega
      have HE := Lib.hid (show wr.heap[p]? = some (.cells (hasherC (L.flatten.foldl addB h)).toArray 143 (0, 0)) by
        have := HBr.out
        rwa [show L.take n = L by rw [show n = L.length by omega, List.take_length]] at this)
      go_wp2
      go_ret
      exact ⟨rfl, HE.out, FR.out⟩
end Go.Proofs.YtmpamcnlineceaaDoor

/- sha: the sum, plain. -/
namespace Go.Proofs.YtmpamcnlineceaaDoor
open Go Go.RowKit Go.Maps Go.MapKept

/-- How many zeros fill a block up to its last eight bytes. -/
def padN (n : Nat) : Nat := (120 - n % 64) % 64
theorem padN_end (n : Nat) : (n + padN n) % 64 = 56 := by unfold padN; omega
theorem padN_lt {n z : Nat} (h : z < padN n) : (n + z) % 64 ≠ 56 := by unfold padN at h; omega
def sizeB (n : Nat) : List Int := [((n : Int) * 8 % 18446744073709551616) / 72057594037927936 % 256, ((n : Int) * 8 % 18446744073709551616) / 281474976710656 % 256, ((n : Int) * 8 % 18446744073709551616) / 1099511627776 % 256, ((n : Int) * 8 % 18446744073709551616) / 4294967296 % 256, ((n : Int) * 8 % 18446744073709551616) / 16777216 % 256, ((n : Int) * 8 % 18446744073709551616) / 65536 % 256, ((n : Int) * 8 % 18446744073709551616) / 256 % 256, ((n : Int) * 8 % 18446744073709551616) % 256]
def wordB (x : Int) : List Int := [x / 16777216 % 256, x / 65536 % 256, x / 256 % 256, x % 256]
def padded (h : HashS) : HashS := (sizeB h.n).foldl addB ((List.replicate (padN (h.n + 1)) 0).foldl addB (addB h 128))
def sumS (h : HashS) : List Int := (padded h).st.flatMap wordB
/-- The sum of bytes; the sum of their sum. -/
def shaSum (l : List Int) : List Int := sumS (l.foldl addB hash0S)
def shaTwice (l : List Int) : List Int := shaSum (shaSum l)
set_option maxRecDepth 100000 in
theorem try1 : (shaSum [97, 98, 99]).take 4 = [0xba, 0x78, 0x16, 0xbf] := by decide +kernel
end Go.Proofs.YtmpamcnlineceaaDoor
