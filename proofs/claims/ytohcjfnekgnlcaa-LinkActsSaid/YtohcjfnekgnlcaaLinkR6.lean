/- The document's links: Push, all ways. -/
import Derived.Test.YtohcjfnekgnlcaaLinkR5
namespace Go.Proofs.Ytohcjfnekgnlcaa
open Go Go.RowKit Go.Maps Go.MapKept

theorem pushR_none (w : World) (g : RfG) (h : RfAt w g) (a b k : Int) (v : Value) (h1 : vld a b) (hk : k = 0 ∨ k = 1) (hn : (lo a b, hi a b) ∉ g.ps) :
    Calls Try.prog 38 #[.pointer (some ⟨g.bl, 0, none⟩), .int .i64 a, .int .i64 b, .int .i64 k, v] w fun e w' => e = .returned (.int .i64 9) ∧ Fr No w w' := by
  have hf := fitR_any w a b
  rw [fitB_vld.2 h1] at hf
  have hkb : ((k == 0) || (k == 1)) = true := by rcases hk with rfl | rfl <;> rfl
  have hl := laneR_any w k
  rw [hkb] at hl
  have hh := hasR_any w g h a b
  rw [show decide ((lo a b, hi a b) ∈ g.ps) = false by simp [hn]] at hh
  have HF := Lib.hid hf
  have HL := Lib.hid hl
  have HH := Lib.hid hh
  clear hf hl hkb hh h hn hk
  go_enter Try.func38, Try.ntmps38
  go_wp2_with fail
  refine HF.out.mono ?_
  rintro e w1 ⟨rfl, rfl⟩
  go_wp2_with fail
  refine HL.out.mono ?_
  rintro e w2 ⟨rfl, rfl⟩
  go_wp2_with fail
  refine HH.out.mono ?_
  rintro e w3 ⟨rfl, f3⟩
  go_wp2
  go_ret
  exact ⟨rfl, f3⟩

set_option maxHeartbeats 1000000 in
theorem pushR_full (w : World) (g : RfG) (h : RfAt w g) (hle : g.ms.length ≤ 1000000) (a b k : Int) (v : Value) (h1 : vld a b) (hk : k = 0 ∨ k = 1) (hn : (lo a b, hi a b) ∈ g.ps) (hfull : 64 ≤ (laneR g.ms (a, b, k)).length) :
    Calls Try.prog 38 #[.pointer (some ⟨g.bl, 0, none⟩), .int .i64 a, .int .i64 b, .int .i64 k, v] w fun e w' => e = .returned (.int .i64 18) ∧ Fr No w w' := by
  have hf := fitR_any w a b
  rw [fitB_vld.2 h1] at hf
  have hkb : ((k == 0) || (k == 1)) = true := by rcases hk with rfl | rfl <;> rfl
  have hl := laneR_any w k
  rw [hkb] at hl
  have hh := hasR_any w g h a b
  rw [show decide ((lo a b, hi a b) ∈ g.ps) = true by simp [hn]] at hh
  have HF := Lib.hid hf
  have HL := Lib.hid hl
  have HH := Lib.hid hh
  have R := Lib.hid h
  clear hf hl hkb hh h hn hk
  go_enter Try.func38, Try.ntmps38
  go_wp2_with fail
  refine HF.out.mono ?_
  rintro e w1 ⟨rfl, rfl⟩
  go_wp2_with fail
  refine HL.out.mono ?_
  rintro e w2 ⟨rfl, rfl⟩
  go_wp2_with fail
  refine HH.out.mono ?_
  rintro e w3 ⟨rfl, f3⟩
  have hln := laneR_go w3 g (R.out.keep f3) hle a b k
  have HLN := Lib.hid hln
  clear hln
  go_wp2_with fail
  refine HLN.out.mono ?_
  rintro e w4 ⟨v4, rfl, ho4, f4⟩
  obtain ⟨a4, c4, rfl, -⟩ := own_slice (ownsRow_zero ho4)
  clear ho4 HLN HF HL HH
  have i1 : (64 : Int) ≤ ((laneR g.ms (a, b, k)).length : Int) := by omega
  clear hfull
  go_wp2
  go_ret
  exact ⟨rfl, f3.trans0 f4⟩

/-- What Push leaves. -/
def PushR (w : World) (g : RfG) (k : Int × Int × Int) (bs : List Int) (e : Ending) (w' : World) : Prop :=
  e = .returned (.int .i64 0) ∧ ∃ v v2, RfAt w' (g.addM ⟨k, v2, bs⟩ v) ∧ (∀ k, v.ownBlock = some k → w.heap.size ≤ k) ∧ (∀ k, v2.ownBlock = some k → w.heap.size ≤ k) ∧ Fr (fun i => i = g.bl) w w'

set_option maxHeartbeats 1000000 in
theorem pushR_ok (w : World) (g : RfG) (h : RfAt w g) (hle : g.ms.length ≤ 1000000) (a b k : Int) (v : Value) (bs : List Int) (hv : ArgIs w v bs.length (bs.map byteV)) (hbl : bs.length ≤ 140737488355328) (h1 : vld a b) (hk : k = 0 ∨ k = 1) (hn : (lo a b, hi a b) ∈ g.ps) (hfull : (laneR g.ms (a, b, k)).length < 64) :
    Calls Try.prog 38 #[.pointer (some ⟨g.bl, 0, none⟩), .int .i64 a, .int .i64 b, .int .i64 k, v] w (PushR w g (a, b, k) bs) := by
  obtain ⟨va, vc, rfl⟩ := hv.form
  have HV := Lib.hid hv
  clear hv
  unfold PushR
  have hf := fitR_any w a b
  rw [fitB_vld.2 h1] at hf
  have hkb : ((k == 0) || (k == 1)) = true := by rcases hk with rfl | rfl <;> rfl
  have hl := laneR_any w k
  rw [hkb] at hl
  have hh := hasR_any w g h a b
  rw [show decide ((lo a b, hi a b) ∈ g.ps) = true by simp [hn]] at hh
  have HF := Lib.hid hf
  have HL := Lib.hid hl
  have HH := Lib.hid hh
  have R := Lib.hid h
  clear hf hl hkb hh h hn hk
  go_enter Try.func38, Try.ntmps38
  go_wp2_with fail
  refine HF.out.mono ?_
  rintro e w1 ⟨rfl, rfl⟩
  go_wp2_with fail
  refine HL.out.mono ?_
  rintro e w2 ⟨rfl, rfl⟩
  go_wp2_with fail
  refine HH.out.mono ?_
  rintro e w3 ⟨rfl, f3⟩
  have hln := laneR_go w3 g (R.out.keep f3) hle a b k
  have HLN := Lib.hid hln
  clear hln
  go_wp2_with fail
  refine HLN.out.mono ?_
  rintro e w4 ⟨v4, rfl, ho4, f4⟩
  obtain ⟨a4, c4, rfl, -⟩ := own_slice (ownsRow_zero ho4)
  clear ho4 HLN HF HL HH
  have i1 : ((laneR g.ms (a, b, k)).length : Int) < 64 := by omega
  clear hfull
  have R4 := Lib.hid ((R.out.keep f3).keep f4)
  have HV4 := Lib.hid ((HV.out.keep f3).keep f4)
  obtain ⟨c0, c1⟩ := R4.out.cells
  obtain ⟨la, lc, hlv, -⟩ := own_slice R4.out.hm
  rw [hlv] at c1
  obtain ⟨v5, w5, hap, ho5, f5⟩ := copy_own (P := Try.prog) w4 54 76 4 48 (.agg #[.int .i64 0, .int .i64 0, .int .i64 0, .slice none 0 0]) undMsgs infoMsg rfl (by decide) R4.out.hm (fun u hu => by
    obtain ⟨x, hxm, hx⟩ := List.mem_flatMap.1 hu
    obtain ⟨xa, xc, hxv⟩ := (R4.out.hv x hxm).arg.form
    unfold msC at hx
    simp at hx
    rcases hx with rfl | rfl | rfl | rfl
    · rfl
    · rfl
    · rfl
    · rw [hxv]; rfl) (by omega) (by unfold maxLen; omega)
  rw [hlv] at hap
  obtain ⟨gb, gc, w6, hap2, ho6, f6⟩ := copy_run w5 _ bs (HV4.out.keep f5) hbl
  obtain ⟨v7, w7, hap3, ho7, f7, -, hb7⟩ := append_blk (P := Try.prog) w6 w4.heap.size 54 54 76 4 48 (.agg #[.int .i64 0, .int .i64 0, .int .i64 0, .slice none 0 0]) undMsgs infoMsg rfl (by decide) (ownsRow_keep ho5 f6 (fun _ _ => id)) [.int .i64 a, .int .i64 b, .int .i64 k, .slice (some ⟨gb, 0, none⟩) bs.length gc] rfl (by simp; exact ⟨rfl, rfl, rfl, rfl⟩) (by omega) (by unfold maxLen; omega) (f5.trans0 f6).size
  have hbl7 : w7.heap[g.bl]? = some (.cells #[g.lv, g.mv] 56 (0, 0)) := f7.obj (f6.obj (f5.obj R4.out.hb id) id) (fun e => by have := (ho5.lt _ e).1; have := obj_lt R4.out.hb; omega)
  have k0 : w7.cell? ⟨g.bl, 1, none⟩ = some g.mv := by simp [World.cell?, hbl7]
  have k1 : w7.frozen? ⟨g.bl, 1, none⟩ = false := by simp [World.frozen?, hbl7]
  obtain ⟨a7, c7, rfl⟩ := ho7.slice.arg.form
  rw [hlv] at k0
  have kA : (w4.alloc (.cells #[] 76)).cell? ⟨g.bl, 1, none⟩ = some (.slice la g.ms.length lc) := ((Fr.refl No _).alloc _).cell c1 id
  have HB7 := Lib.hid hbl7
  have HO7 := Lib.hid ho7
  have HO6 := Lib.hid ho6
  have NV := Lib.hid (fun k (e : v5.ownBlock = some k) => ho5.lt k e)
  clear hbl7 ho7 ho6 ho5
  go_wp2_with (at_builtin; first | refine wpList_append_run rfl rfl rfl rfl hap ?_ | refine wpList_append_run rfl rfl rfl rfl hap2 ?_ | refine wpList_append_run rfl rfl rfl rfl hap3 ?_)
  go_ret
  have f46 := f5.trans0 f6
  have hgb := (HO6.out.lt gb rfl).1
  have hblt := obj_lt R4.out.hb
  have fV : Fr (fun i => v5.ownBlock = some i) w4 w7 := (f46.of0 (W := fun i => v5.ownBlock = some i)).trans f7 (fun _ _ h => h)
  refine ⟨rfl, .slice a7 (g.ms.length + 1) c7, .slice (some ⟨gb, 0, none⟩) bs.length gc, putM HB7.out HO7.out R4.out fV (fun k hk e => by have := (NV.out k e).1; omega) (Nat.le_refl _) (HO6.out.slice.keep f7 (fun i hi e => ?_)) (fun e => ?_), fun k hk => by have := (HO7.out.lt k hk).1; have := (f3.trans0 f4).size; omega, fun k hk => by have := (HO6.out.lt k hk).1; have := (f3.trans0 (f4.trans0 f5)).size; omega, ?_⟩
  · have h1 := (HO6.out.lt i hi).1
    have h2 := (NV.out i e).2
    omega
  · have := (HO6.out.lt _ e).1
    have := f5.size
    omega
  · refine ((f3.trans0 f4).of0.trans fV (fun i hi e => ?_)).trans (Fr.setCell (W := fun i => i = g.bl) (Fr.refl _ w7) ⟨g.bl, 1, none⟩ (.inr rfl) (.slice a7 (g.ms.length + 1) c7)) (fun _ _ h => h)
    have := (NV.out i e).1
    have := (f3.trans0 f4).size
    omega
end Go.Proofs.Ytohcjfnekgnlcaa
