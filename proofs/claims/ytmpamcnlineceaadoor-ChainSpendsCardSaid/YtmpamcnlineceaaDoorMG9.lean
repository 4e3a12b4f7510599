/- Quick looks at the goal, ahead of an arm of a walk: each fails at once where the next operation is another one. -/
import Derived.Maps.RangeWalk
import Derived.Tactics2
import Derived.Laws.IdiomCopy
import Derived.Test.YtmpamcnlineceaaDoorMG8
set_option linter.unusedVariables false
set_option linter.unusedSimpArgs false
namespace Go
section
variable {P : Program} {ops : Array Oper} {Q : Exit → Act → World → Prop} {a : Act} {w : World} {rest : List Oper} {o : Oper}
theorem at_dst (d : Tmp) {op : Op} {t : TypeId} {pos : String} {after : Array Edge} {guard : Option (Nat × Bool)} (h : wpList P ops Q ({ dst := some d, op := op, type := t, pos := pos, after := after, guard := guard } :: rest) a w) : wpList P ops Q ({ dst := some d, op := op, type := t, pos := pos, after := after, guard := guard } :: rest) a w := h
theorem at_store {op : Op} {t : TypeId} {pos : String} {after : Array Edge} {guard : Option (Nat × Bool)} (h : wpList P ops Q ({ dst := none, op := op, type := t, pos := pos, after := after, guard := guard } :: rest) a w) : wpList P ops Q ({ dst := none, op := op, type := t, pos := pos, after := after, guard := guard } :: rest) a w := h
theorem at_list (h : wpList P ops Q (o :: rest) a w) : wpList P ops Q (o :: rest) a w := h
end
end Go

/- sha: a block taken into a state. -/
namespace Go.Proofs.YtmpamcnlineceaaDoor
open Go Go.RowKit Go.Maps Go.MapKept

/-- What the two tables hold. -/
structure ShaAt (w : World) : Prop where
  k : ∀ (j : Nat) (x : Int), shaK[j]? = some x → w.cell? ⟨2, j, none⟩ = some (.int .u32 x)
  i : ∀ (j : Nat) (x : Int), shaI[j]? = some x → w.cell? ⟨0, j, none⟩ = some (.int .u32 x)
theorem ShaAt.keep {w w' : World} (h : ShaAt w) {W : Nat → Prop} (f : Fr W w w') (h0 : ¬ W 0) (h2 : ¬ W 2) : ShaAt w' := ⟨fun j x e => f.cell (h.k j x e) h2, fun j x e => f.cell (h.i j x e) h0⟩
theorem shaK_at {w : World} (h : ShaAt w) {t : Nat} (ht : t < 64) : w.cell? ⟨2, t, none⟩ = some (.int .u32 (shaK.getD t 0)) := h.k t _ (by
  have : t < shaK.length := ht
  rw [List.getD_eq_getElem?_getD, List.getElem?_eq_getElem this]
  rfl)
theorem bytes64_index {B : List Int} (hB : B.length = 64) {i : Nat} (hi : i < 64) : ((B.map byteV).toArray)[i]? = some (.int .u8 (B.getD i 0)) := by
  simp [hB, hi, byteV]
theorem blocks4 (w : World) (o1 o2 o3 o4 : Obj) : ((((w.alloc o1).alloc o2).alloc o3).alloc o4).heap[w.heap.size]? = some o1 ∧ ((((w.alloc o1).alloc o2).alloc o3).alloc o4).heap[w.heap.size + 1]? = some o2 ∧ ((((w.alloc o1).alloc o2).alloc o3).alloc o4).heap[w.heap.size + 1 + 1]? = some o3 ∧ ((((w.alloc o1).alloc o2).alloc o3).alloc o4).heap[w.heap.size + 1 + 1 + 1]? = some o4 ∧ Fr No w ((((w.alloc o1).alloc o2).alloc o3).alloc o4) :=
  ⟨old_obj (old_obj (old_obj (new_obj w o1) o2) o3) o4, old_obj (old_obj (new_obj' (w.alloc o1) o2 (by simp)) o3) o4, old_obj (new_obj' ((w.alloc o1).alloc o2) o3 (by simp)) o4, new_obj' (((w.alloc o1).alloc o2).alloc o3) o4 (by simp), (((((Fr.refl No w).alloc o1).alloc o2).alloc o3).alloc o4)⟩
theorem range_objS {w : World} {b : Nat} {cs : List Value} {T : TypeId} {fz : Nat × Nat} (h : w.heap[b]? = some (.cells cs.toArray T fz)) : w.rangeAt b 0 cs := fun j v hj => by
  simp only [World.cell?, h]
  simpa using hj
theorem info64 : (Tryd.prog.info? 141).map (·.size) = some 64 := by kernel_rfl
theorem desc64 : ∃ d, Tryd.prog.underlying 141 = some d ∧ d.isRow = true := row_of (by kernel_rfl)
theorem index64 {B : List Int} (hB : B.length = 64) {i : Nat} (hi : i < 64) (w : World) : (Instr.index 141 (.agg (B.map byteV).toArray) (.int .i64 i)).run Tryd.prog w = .ok (.int .u8 (B.getD i 0)) w := by
  have hn : (0 ≤ (i : Int) ∧ (i : Int) < ((64 : Nat) : Int)) := by omega
  have i8 : (sizeOf 5).run Tryd.prog w = .ok 1 w := by kernel_rfl
  simp [Instr.index, run_underlying Tryd.underlying141, asIntOf, hn, i8, part, go_sem]
  have hl : i < B.length := by omega
  rw [List.getElem?_eq_getElem hl]
  simp [hi, byteV]
set_option maxRecDepth 20000 in
set_option maxHeartbeats 4000000 in
theorem block_any {w : World} (hg : ShaAt w) (hw2 : 2 < w.heap.size) {S B : List Int} (hS : S.length = 8) (hB : B.length = 64) :
    Calls Tryd.prog 78 #[.agg (u32s S), .agg (B.map byteV).toArray] w fun e w' => e = .returned (.agg (u32s (shaBlock S B))) ∧ Fr No w w' := by
  have z8 : ∀ w, (zeroValue 140).run Tryd.prog w = .ok (.agg (u32s [0, 0, 0, 0, 0, 0, 0, 0])) w := fun w => by kernel_rfl
  have z16 : ∀ w, (zeroValue 164).run Tryd.prog w = .ok (.agg (u32s [0, 0, 0, 0, 0, 0, 0, 0, 0, 0, 0, 0, 0, 0, 0, 0])) w := fun w => by kernel_rfl
  obtain ⟨d64, y64, r64⟩ := desc64
  obtain ⟨b1, b2, b3, b4, f4⟩ := blocks4 w (.cells (u32s S) 140) (.cells (B.map byteV).toArray 141) (.cells (u32s [0, 0, 0, 0, 0, 0, 0, 0]) 140) (.cells (u32s [0, 0, 0, 0, 0, 0, 0, 0, 0, 0, 0, 0, 0, 0, 0, 0]) 164)
  have B1 := Lib.hid b1
  have R2 := Lib.hid (range_objS b2)
  have B3 := Lib.hid b3
  have B4 := Lib.hid b4
  have F4 := Lib.hid f4
  have HG := Lib.hid hg
  have HW := Lib.hid hw2
  have BL := Lib.hid (show (B.map byteV).length = 64 by simp [hB])
  have HS := Lib.hid hS
  have HBL := Lib.hid hB
  clear hg b1 b2 b3 b4 f4 hw2 hS hB
  go_enter Tryd.func78, Tryd.ntmps78
  go_wp2_with ((with_reducible refine at_dst 19 ?_); refine wpList_value rfl (exec_load (ty := 141) rfl rfl R2.out y64 r64 (by rw [BL.out]; exact info64)) ?_; generalize (((w.alloc (.cells (u32s S) 140)).alloc (.cells (B.map byteV).toArray 141)).alloc (.cells (u32s [0, 0, 0, 0, 0, 0, 0, 0]) 140)).alloc (.cells (u32s [0, 0, 0, 0, 0, 0, 0, 0, 0, 0, 0, 0, 0, 0, 0, 0]) 164) = w4 at *)
  go_loopw [20] (fun iv wr => ∃ i : Nat, iv = .int .i64 i ∧ i ≤ 64 ∧ wr.heap[w.heap.size + 1 + 1 + 1]? = some (.cells (u32s (shaFill B i)) 164 (0, 0)) ∧ Fr (fun j => j = w.heap.size + 1 + 1 + 1) w4 wr) (fun iv _ => 64 - (intOf iv).toNat)
  case atStart => exact ⟨0, rfl, by omega, B4.out, Fr.refl _ _⟩
  case round =>
    obtain ⟨i, rfl, hi, hb, fr⟩ := hrel
    have FR := Lib.hid fr
    have HB := Lib.hid hb
    clear fr hb
    by_cases h : i < 64
    · have i1 : (i : Int) < 64 := by omega
      have hx := index64 HBL.out h
      obtain ⟨k, hk⟩ : ∃ k, k = i / 4 := ⟨_, rfl⟩
      have k16 : k < 16 := by omega
      have ki : (k : Int) < 16 := by omega
      have k0 : (0 : Int) ≤ (k : Int) := by omega
      have kn : (k : Int).toNat = k := by omega
      have kd : (i : Int) / 4 = (k : Int) := by omega
      have ck := u32_cell (k := k) HB.out (by rw [shaFill_len]; exact k16)
      have fz := u32_unfrozen (i := k) HB.out
      have FS := Lib.hid (show shaFill B (i + 1) = (shaFill B i).set k (bits .or .u32 ((shaFill B i).getD k 0 * 256 % 4294967296) (B.getD i 0 % 4294967296)) by rw [shaFill, ← hk])
      have HS2 := Lib.hid (fun v => heap_setCell_same wr (w.heap.size + 1 + 1 + 1) k _ _ (.int .u32 v) HB.out)
      generalize (shaFill B i).getD k 0 = c at *
      generalize B.getD i 0 = y at *
      clear hk
      go_wp2
      go_roundw
      case rel => exact ⟨i + 1, by simp, by omega, by rw [FS.out, ← u32s_set]; exact HS2.out _, FR.out.setCell _ (.inr rfl) _⟩
      case measure => show 64 - (i + 1) < 64 - i; omega
    · have i1 : ¬ (i : Int) < 64 := by omega
      obtain rfl : i = 64 := by omega
      have hs1 := FR.out.obj B1.out (by omega)
      have hs3 := FR.out.obj B3.out (by omega)
      have sc : ∀ k, k < 8 → wr.cell? ⟨w.heap.size, k, none⟩ = some (.int .u32 (S.getD k 0)) := fun k hk => u32_cell hs1 (by rw [HS.out]; exact hk)
      generalize hS0 : S.getD 0 0 = s0 at *
      generalize hS1 : S.getD 1 0 = s1 at *
      generalize hS2 : S.getD 2 0 = s2 at *
      generalize hS3 : S.getD 3 0 = s3 at *
      generalize hS4 : S.getD 4 0 = s4 at *
      generalize hS5 : S.getD 5 0 = s5 at *
      generalize hS6 : S.getD 6 0 = s6 at *
      generalize hS7 : S.getD 7 0 = s7 at *
      have CS := Lib.hid (show ∀ W', Fr No wr W' → W'.cell? ⟨w.heap.size, 0, none⟩ = some (.int .u32 s0) ∧ W'.cell? ⟨w.heap.size, 1, none⟩ = some (.int .u32 s1) ∧ W'.cell? ⟨w.heap.size, 2, none⟩ = some (.int .u32 s2) ∧ W'.cell? ⟨w.heap.size, 3, none⟩ = some (.int .u32 s3) ∧ W'.cell? ⟨w.heap.size, 4, none⟩ = some (.int .u32 s4) ∧ W'.cell? ⟨w.heap.size, 5, none⟩ = some (.int .u32 s5) ∧ W'.cell? ⟨w.heap.size, 6, none⟩ = some (.int .u32 s6) ∧ W'.cell? ⟨w.heap.size, 7, none⟩ = some (.int .u32 s7) from fun W' f => by
        have hc := fun k hk => f.cell (sc k hk) id
        have c0 := hc 0 (by omega)
        have c1 := hc 1 (by omega)
        have c2 := hc 2 (by omega)
        have c3 := hc 3 (by omega)
        have c4 := hc 4 (by omega)
        have c5 := hc 5 (by omega)
        have c6 := hc 6 (by omega)
        have c7 := hc 7 (by omega)
        simp only [hS0, hS1, hS2, hS3, hS4, hS5, hS6, hS7] at *
        exact ⟨c0, c1, c2, c3, c4, c5, c6, c7⟩)
      have HB3 := Lib.hid hs3
      have HW4 := Lib.hid HB.out
      clear hs1 hs3 sc
      go_upto_region 7 with fail
      refine wp_region_lexL [false, false, false, false, false, false, false, false, false, false, false, false, false, false, false, false, false, false, false, false, false, false, false, false] (fun W => W.cell? ⟨w.heap.size, 0, none⟩ = some (.int .u32 s0) ∧ W.cell? ⟨w.heap.size, 1, none⟩ = some (.int .u32 s1) ∧ W.cell? ⟨w.heap.size, 2, none⟩ = some (.int .u32 s2) ∧ W.cell? ⟨w.heap.size, 3, none⟩ = some (.int .u32 s3) ∧ W.cell? ⟨w.heap.size, 4, none⟩ = some (.int .u32 s4) ∧ W.cell? ⟨w.heap.size, 5, none⟩ = some (.int .u32 s5) ∧ W.cell? ⟨w.heap.size, 6, none⟩ = some (.int .u32 s6) ∧ W.cell? ⟨w.heap.size, 7, none⟩ = some (.int .u32 s7)) (by kernel_rfl) (by kernel_rfl) ?_ (fun K hK => ?_)
      · exact CS.out _ (Fr.refl No _).drew
      repeat (first | ((first | with_reducible refine lexL_read ?_ | ((with_reducible refine lexL_readG ?_ ?_); (focus rfl))); apply Exists.intro; refine ⟨fun w' hS => ?_, ?_⟩; (focus (obtain ⟨c0, c1, c2, c3, c4, c5, c6, c7⟩ := hS; go_simp; (try with_reducible rfl); done)); try simp only [Act.put, List.setIfInBounds_toArray, List.set_cons_zero, List.set_cons_succ]) | ((first | ((with_reducible refine lexL_skip (c := false) ?_ ?_ ?_); (focus rfl); (focus rfl)) | ((with_reducible refine lexL_skip (c := true) ?_ ?_ ?_); (focus rfl); (focus rfl)) | ((with_reducible refine lexL_skipU ?_ ?_); (focus rfl))); try simp only [Act.put, List.setIfInBounds_toArray, List.set_cons_zero, List.set_cons_succ]))
      refine lexL_nil (hK.out _ _ ?_)
      have FB := Lib.hid (Fr.refl No wr).drew
      generalize wr.drew = wb at *
      have wfl := shaFill_len B 64
      generalize hWF : shaFill B 64 = WF at *
      have HWF := Lib.hid hWF
      clear hWF
      obtain ⟨st, hst⟩ : ∃ st : ShaS, st = ⟨s0, s1, s2, s3, s4, s5, s6, s7, WF⟩ := ⟨_, rfl⟩
      have ST := Lib.hid hst
      have SL := Lib.hid (show st.W.length = 16 by rw [hst]; exact wfl)
      clear hst wfl
      go_wp2
      go_loopw [8, 9, 10, 11, 12, 13, 14, 15, 52] (fun va vb vc vd ve vf vg vh iv wi => ∃ t : Nat, iv = .int .i64 t ∧ t ≤ 64 ∧ va = .int .u32 (shaRun st t).a ∧ vb = .int .u32 (shaRun st t).b ∧ vc = .int .u32 (shaRun st t).c ∧ vd = .int .u32 (shaRun st t).d ∧ ve = .int .u32 (shaRun st t).e ∧ vf = .int .u32 (shaRun st t).f ∧ vg = .int .u32 (shaRun st t).g ∧ vh = .int .u32 (shaRun st t).h ∧ wi.heap[w.heap.size + 1 + 1 + 1]? = some (.cells (u32s (shaRun st t).W) 164 (0, 0)) ∧ Fr (fun j => j = w.heap.size + 1 + 1 + 1) wb wi) (fun _ _ _ _ _ _ _ _ iv _ => 64 - (intOf iv).toNat)
      case atStart => exact ⟨0, rfl, by omega, by rw [ST.out]; rfl, by rw [ST.out]; rfl, by rw [ST.out]; rfl, by rw [ST.out]; rfl, by rw [ST.out]; rfl, by rw [ST.out]; rfl, by rw [ST.out]; rfl, by rw [ST.out]; rfl, by rw [ST.out]; exact FB.out.obj HW4.out id, Fr.refl _ _⟩
      case round =>
        obtain ⟨t, rfl, ht, rfl, rfl, rfl, rfl, rfl, rfl, rfl, rfl, hb, fr⟩ := hrel
        have FI := Lib.hid fr
        have HBt := Lib.hid hb
        have WL := Lib.hid (shaRun_len SL.out t)
        clear fr hb
        by_cases h : t < 64
        · have i1 : (t : Int) < 64 := by omega
          have i0 : (0 : Int) ≤ (t : Int) := by omega
          have tn : (t : Int).toNat = t := by omega
          have SN := Lib.hid (show shaRun st (t + 1) = shaStep (shaRun st t) t from rfl)
          generalize shaRun st t = s at *
          obtain ⟨a, b, c, d, e, f, g, hh, W⟩ := s
          generalize hkt : shaK.getD t 0 = kt at *
          generalize hwt : (wordW W t).getD (t % 16) 0 = wt at *
          have hk := shaK_at HG.out h
          rw [hkt] at hk
          have hw2 := HW.out
          have CK := Lib.hid (show ∀ W', Fr (fun j => j = w.heap.size + 1 + 1 + 1) wb W' → W'.cell? ⟨2, t, none⟩ = some (.int .u32 kt) from fun W' f => by
            have c1 := F4.out.cell hk id
            have c2 := FR.out.cell c1 (show ¬ (2 : Nat) = _ by omega)
            exact f.cell (FB.out.cell c2 id) (show ¬ (2 : Nat) = _ by omega))
          clear hk hw2
          have M0 := Lib.hid True.intro
          have M1 := Lib.hid True.intro
          have M2 := Lib.hid True.intro
          have M3 := Lib.hid True.intro
          have M4 := Lib.hid True.intro
          have M5 := Lib.hid True.intro
          go_upto_region 12 with (first | (have mk := M0.out; go_at_call 84; refine (rotl_6 _ _).mono ?_; rintro e w2 ⟨rfl, rfl⟩; clear mk M0) | (have mk := M1.out; go_at_call 84; refine (rotl_11 _ _).mono ?_; rintro e w2 ⟨rfl, rfl⟩; clear mk M1) | (have mk := M2.out; go_at_call 84; refine (rotl_25 _ _).mono ?_; rintro e w2 ⟨rfl, rfl⟩; clear mk M2))
          have fd := (Fr.refl No wr).drew
          refine wp_region_lexL [false, false, false, false, false, false, false, false, false, false, false, false, false, true, false, false, false] (fun W' => W'.cell? ⟨2, t, none⟩ = some (.int .u32 kt)) (by kernel_rfl) (by kernel_rfl) ?_ (fun K hK => ?_)
          · exact CK.out _ (FI.out.trans0 fd)
          repeat (first | ((first | with_reducible refine lexL_read ?_ | ((with_reducible refine lexL_readG ?_ ?_); (focus rfl))); apply Exists.intro; refine ⟨fun w' hS => ?_, ?_⟩; (focus (obtain _ := hS; go_simp; (try with_reducible rfl); done)); try simp only [Act.put, List.setIfInBounds_toArray, List.set_cons_zero, List.set_cons_succ]) | ((first | ((with_reducible refine lexL_skip (c := false) ?_ ?_ ?_); (focus rfl); (focus rfl)) | ((with_reducible refine lexL_skip (c := true) ?_ ?_ ?_); (focus rfl); (focus rfl)) | ((with_reducible refine lexL_skipU ?_ ?_); (focus rfl))); try simp only [Act.put, List.setIfInBounds_toArray, List.set_cons_zero, List.set_cons_succ]))
          (first | with_reducible refine lexL_eff (fun K' hK' => ?_) | ((with_reducible refine lexL_effG ?_ (fun K' hK' => ?_)); (focus rfl)))
          go_simp
          refine (word_any WL.out (fd.obj HBt.out id) h).mono ?_
          rintro e' w6 ⟨rfl, hb6, f6⟩
          rw [hwt]
          have F6 := Lib.hid ((FI.out.trans0 fd).trans f6 (fun _ _ h => h))
          have HB6 := Lib.hid hb6
          clear hb6 f6 fd
          refine hK'.out _ _ ?_ (fun hS => ?_)
          · exact CK.out _ F6.out
          try simp only [Act.put, List.setIfInBounds_toArray, List.set_cons_zero, List.set_cons_succ]
          repeat (first | ((first | with_reducible refine lexL_read ?_ | ((with_reducible refine lexL_readG ?_ ?_); (focus rfl))); apply Exists.intro; refine ⟨fun w' hS => ?_, ?_⟩; (focus (obtain _ := hS; go_simp; (try with_reducible rfl); done)); try simp only [Act.put, List.setIfInBounds_toArray, List.set_cons_zero, List.set_cons_succ]) | ((first | ((with_reducible refine lexL_skip (c := false) ?_ ?_ ?_); (focus rfl); (focus rfl)) | ((with_reducible refine lexL_skip (c := true) ?_ ?_ ?_); (focus rfl); (focus rfl)) | ((with_reducible refine lexL_skipU ?_ ?_); (focus rfl))); try simp only [Act.put, List.setIfInBounds_toArray, List.set_cons_zero, List.set_cons_succ]))
          refine lexL_nil (hK.out _ _ ?_)
          generalize hP : IntKind.u32.wrap ((hh + bits .xor .u32 (bits .xor .u32 (rot6 e) (rot11 e)) (rot25 e)) % 4294967296 + IntKind.u32.wrap (IntKind.u32.wrap (bits .xor .u32 g (bits .and .u32 e (bits .xor .u32 f g)) + kt) + wt)) = P at *
          have SP := Lib.hid (show shaP ⟨a, b, c, d, e, f, g, hh, W⟩ t = P by unfold shaP; simp only []; rw [hkt, hwt]; exact hP)
          clear hP hkt hwt
          go_wp2_with (first | (have mk := M3.out; go_at_call 84; refine (rotl_2 _ _).mono ?_; rintro e w2 ⟨rfl, rfl⟩; clear mk M3) | (have mk := M4.out; go_at_call 84; refine (rotl_13 _ _).mono ?_; rintro e w2 ⟨rfl, rfl⟩; clear mk M4) | (have mk := M5.out; go_at_call 84; refine (rotl_22 _ _).mono ?_; rintro e w2 ⟨rfl, rfl⟩; clear mk M5))
          have SQ := Lib.hid (show shaRun st (t + 1) = ⟨(P + shaQ ⟨a, b, c, d, e, f, g, hh, W⟩) % 4294967296, a, b, c, (d + P) % 4294967296, e, f, g, wordW W t⟩ by rw [SN.out]; unfold shaStep; rw [SP.out])
          go_roundw
          case rel => exact ⟨t + 1, by simp, by omega, by rw [SQ.out]; rfl, by rw [SQ.out], by rw [SQ.out], by rw [SQ.out], by rw [SQ.out], by rw [SQ.out], by rw [SQ.out], by rw [SQ.out], by rw [SQ.out]; exact HB6.out, F6.out⟩
          case measure => show 64 - (t + 1) < 64 - t; omega
        · have i1 : ¬ (t : Int) < 64 := by omega
          obtain rfl : t = 64 := by omega
          have SB := Lib.hid (show shaBlock S B = [(s0 + (shaRun st 64).a) % 4294967296, (s1 + (shaRun st 64).b) % 4294967296, (s2 + (shaRun st 64).c) % 4294967296, (s3 + (shaRun st 64).d) % 4294967296, (s4 + (shaRun st 64).e) % 4294967296, (s5 + (shaRun st 64).f) % 4294967296, (s6 + (shaRun st 64).g) % 4294967296, (s7 + (shaRun st 64).h) % 4294967296] by
            unfold shaBlock
            simp only [hS0, hS1, hS2, hS3, hS4, hS5, hS6, hS7, HWF.out, ← ST.out])
          generalize shaRun st 64 = ra at *
          obtain ⟨k0, k1, k2, k3, k4, k5, k6, k7⟩ := CS.out _ FB.out
          have q0 := FI.out.cell k0 (show ¬ w.heap.size = _ by omega)
          have q1 := FI.out.cell k1 (show ¬ w.heap.size = _ by omega)
          have q2 := FI.out.cell k2 (show ¬ w.heap.size = _ by omega)
          have q3 := FI.out.cell k3 (show ¬ w.heap.size = _ by omega)
          have q4 := FI.out.cell k4 (show ¬ w.heap.size = _ by omega)
          have q5 := FI.out.cell k5 (show ¬ w.heap.size = _ by omega)
          have q6 := FI.out.cell k6 (show ¬ w.heap.size = _ by omega)
          have q7 := FI.out.cell k7 (show ¬ w.heap.size = _ by omega)
          have HR := Lib.hid (FI.out.obj (FB.out.obj HB3.out id) (show ¬ w.heap.size + 1 + 1 = _ by omega))
          have FF := Lib.hid (show Fr No w wr from (F4.out.trans (FR.out.trans (FB.out.of0 (W := fun j => j = w.heap.size + 1 + 1 + 1)) (fun _ _ h => h)) (fun i hi e => by omega)).trans FI.out (fun i hi e => by omega))
          have bl : ∀ (x0 x1 x2 x3 x4 x5 x6 x7 : Int) (w : World), (Instr.build 140 #[(0, .int .u32 x0), (1, .int .u32 x1), (2, .int .u32 x2), (3, .int .u32 x3), (4, .int .u32 x4), (5, .int .u32 x5), (6, .int .u32 x6), (7, .int .u32 x7)]).run Tryd.prog w = .ok (.agg [.int .u32 x0, .int .u32 x1, .int .u32 x2, .int .u32 x3, .int .u32 x4, .int .u32 x5, .int .u32 x6, .int .u32 x7].toArray) w := by
            intros
            kernel_rfl
          clear k0 hS0 k1 hS1 k2 hS2 k3 hS3 k4 hS4 k5 hS5 k6 hS6 k7 hS7
          go_wp2_with (first | ((with_reducible refine at_dst 144 ?_); refine wpList_value rfl (exec_bld (t := 140) rfl rfl (bl _ _ _ _ _ _ _ _ _)) ?_) | ((with_reducible refine at_store ?_); refine wpList_done rfl (exec_store (ty := 140) (b := w.heap.size + 1 + 1) (off := 0) (cs := [(.int .u32 ((s0 + ra.a) % 4294967296) : Value), (.int .u32 ((s1 + ra.b) % 4294967296) : Value), (.int .u32 ((s2 + ra.c) % 4294967296) : Value), (.int .u32 ((s3 + ra.d) % 4294967296) : Value), (.int .u32 ((s4 + ra.e) % 4294967296) : Value), (.int .u32 ((s5 + ra.f) % 4294967296) : Value), (.int .u32 ((s6 + ra.g) % 4294967296) : Value), (.int .u32 ((s7 + ra.h) % 4294967296) : Value)]) rfl rfl rfl (there_obj HR.out (by simp [u32s])) (by kernel_rfl) (by intro u hu; simp only [List.mem_cons, List.not_mem_nil, or_false] at hu; rcases hu with rfl | rfl | rfl | rfl | rfl | rfl | rfl | rfl <;> rfl)) ?_))
          have HE := Lib.hid (show (wr.setCells (w.heap.size + 1 + 1) 0 [(.int .u32 ((s0 + ra.a) % 4294967296) : Value), (.int .u32 ((s1 + ra.b) % 4294967296) : Value), (.int .u32 ((s2 + ra.c) % 4294967296) : Value), (.int .u32 ((s3 + ra.d) % 4294967296) : Value), (.int .u32 ((s4 + ra.e) % 4294967296) : Value), (.int .u32 ((s5 + ra.f) % 4294967296) : Value), (.int .u32 ((s6 + ra.g) % 4294967296) : Value), (.int .u32 ((s7 + ra.h) % 4294967296) : Value)]).heap[w.heap.size + 1 + 1]? = some (.cells (u32s (shaBlock S B)) 140 (0, 0)) by
            have := setCells_heap (w.heap.size + 1 + 1) 140 [(.int .u32 ((s0 + ra.a) % 4294967296) : Value), (.int .u32 ((s1 + ra.b) % 4294967296) : Value), (.int .u32 ((s2 + ra.c) % 4294967296) : Value), (.int .u32 ((s3 + ra.d) % 4294967296) : Value), (.int .u32 ((s4 + ra.e) % 4294967296) : Value), (.int .u32 ((s5 + ra.f) % 4294967296) : Value), (.int .u32 ((s6 + ra.g) % 4294967296) : Value), (.int .u32 ((s7 + ra.h) % 4294967296) : Value)] 0 wr _ HR.out
            rw [this, SB.out]
            simp [u32s, setM, u32V])
          exact bodyPost_ret (v := .agg (u32s (shaBlock S B))) (results_cell_row (P := Tryd.prog) (fn := Tryd.f78) rfl _ _ (w.heap.size + 1 + 1) 140 (u32s (shaBlock S B)) (0, 0) _ rfl HE.out Tryd.underlying140 rfl (by kernel_rfl)) rfl ⟨rfl, FF.out.trans (setCells_fr _ _ _ _) (fun i hi e => by omega)⟩
end Go.Proofs.YtmpamcnlineceaaDoor

/- sha: bytes taken into a hasher. -/
namespace Go.Proofs.YtmpamcnlineceaaDoor
open Go Go.RowKit Go.Maps Go.MapKept

/-- A hasher: its state, the open block, how many bytes there were. -/
structure HashS where
  st : List Int
  op : List Int
  n : Nat
def addB (h : HashS) (x : Int) : HashS := ⟨if (h.n + 1) % 64 = 0 then shaBlock h.st (h.op.set (h.n % 64) x) else h.st, h.op.set (h.n % 64) x, h.n + 1⟩
def setI (xs : List Int) : Nat → List Int → List Int
  | _, [] => xs
  | o, c :: cs => setI (xs.set o c) (o + 1) cs
theorem setI_len : ∀ (cs xs : List Int) (o : Nat), (setI xs o cs).length = xs.length
  | [], _, _ => rfl
  | c :: cs, xs, o => by rw [setI, setI_len cs, List.length_set]
theorem setI_map : ∀ (cs xs : List Int) (o : Nat) (A C : List Value), o + cs.length ≤ xs.length → setM (A ++ xs.map byteV ++ C) (A.length + o) (cs.map byteV) = A ++ (setI xs o cs).map byteV ++ C
  | [], _, _, _, _, _ => by simp [setM, setI]
  | c :: cs, xs, o, A, C, h => by
    simp only [List.length_cons] at h
    rw [List.map_cons, setM, setI]
    have := setI_map cs (xs.set o c) (o + 1) A C (by rw [List.length_set]; omega)
    rw [List.map_set] at this
    rw [← this]
    congr 1
    rw [List.append_assoc, List.set_append_right _ _ (by omega), List.append_assoc]
    congr 1
    rw [show A.length + o - A.length = o by omega, List.set_append_left _ _ (by rw [List.length_map]; omega)]
def addC (h : HashS) (c : List Int) : HashS := ⟨if (h.n + c.length) % 64 = 0 then shaBlock h.st (setI h.op (h.n % 64) c) else h.st, setI h.op (h.n % 64) c, h.n + c.length⟩
theorem addB_chunk : ∀ (c : List Int) (h : HashS), c ≠ [] → h.n % 64 + c.length ≤ 64 → c.foldl addB h = addC h c
  | [], _, hn, _ => absurd rfl hn
  | [x], h, _, _ => by simp [addB, addC, setI]
  | x :: y :: r, h, _, hl => by
    simp only [List.length_cons] at hl
    have h1 : (h.n + 1) % 64 = h.n % 64 + 1 := by omega
    rw [List.foldl_cons, addB_chunk (y :: r) (addB h x) (by simp) (by simp only [addB, List.length_cons]; omega)]
    have e1 : (addB h x).n = h.n + 1 := rfl
    have e2 : (addB h x).op = h.op.set (h.n % 64) x := rfl
    have e3 : (addB h x).st = h.st := by unfold addB; simp only []; rw [if_neg (by omega)]
    unfold addC
    rw [e1, e2, e3, h1, show h.n + 1 + (y :: r).length = h.n + (x :: y :: r).length by simp only [List.length_cons]; omega]
    rfl
def hasherC (h : HashS) : List Value := h.st.map u32V ++ h.op.map byteV ++ [.int .u64 h.n]
structure HashOk (h : HashS) : Prop where
  st : h.st.length = 8
  op : h.op.length = 64
theorem shaBlock_len (S B : List Int) : (shaBlock S B).length = 8 := rfl
theorem HashOk.add {h : HashS} (ok : HashOk h) (x : Int) : HashOk (addB h x) := ⟨by unfold addB; simp only []; split; exact shaBlock_len _ _; exact ok.st, by simp [addB, ok.op]⟩
theorem HashOk.adds : ∀ {l : List Int} {h : HashS}, HashOk h → HashOk (l.foldl addB h)
  | [], _, ok => ok
  | x :: r, _, ok => HashOk.adds (l := r) (ok.add x)
theorem addsB_n : ∀ (l : List Int) (h : HashS), (l.foldl addB h).n = h.n + l.length
  | [], _ => rfl
  | x :: r, h => by
    rw [List.foldl_cons, addsB_n r]
    simp only [addB, List.length_cons]
    omega
theorem hasherC_len {h : HashS} (ok : HashOk h) : (hasherC h).length = 73 := by simp [hasherC, ok.st, ok.op]
theorem hasher_at {w : World} {p : Nat} {h : HashS} {T : TypeId} (ok : HashOk h) (hb : w.heap[p]? = some (.cells (hasherC h).toArray T (0, 0))) :
    w.rangeAt p 0 (h.st.map u32V) ∧ w.rangeAt p 8 (h.op.map byteV) ∧ w.cell? ⟨p, 72, none⟩ = some (.int .u64 h.n) := by
  have r := range_objS hb
  refine ⟨fun j v hj => r j v ?_, fun j v hj => ?_, ?_⟩
  · have := (List.getElem?_eq_some_iff.1 hj).1
    rw [hasherC, List.append_assoc, List.getElem?_append_left this]; exact hj
  · have hj1 := (List.getElem?_eq_some_iff.1 hj).1
    have := r (8 + j) v (by
      rw [hasherC, List.append_assoc, List.getElem?_append_right (by simp [ok.st]), List.getElem?_append_left (by simp [ok.st] at hj1 ⊢; omega)]
      simpa [ok.st] using hj)
    rwa [Nat.zero_add] at this
  · have := r 72 (.int .u64 h.n) (by
      rw [hasherC, List.getElem?_append_right (by simp [ok.st, ok.op])]
      simp [ok.st, ok.op])
    simpa using this
end Go.Proofs.YtmpamcnlineceaaDoor
