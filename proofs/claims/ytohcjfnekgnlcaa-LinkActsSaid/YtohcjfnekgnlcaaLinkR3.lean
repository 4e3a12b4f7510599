/- The document's links: Open. -/
import Derived.Test.YtohcjfnekgnlcaaLinkR2
namespace Go.Proofs.Ytohcjfnekgnlcaa
open Go Go.RowKit Go.Maps Go.MapKept

/-- append onto a new empty row, of an own row: a copy. -/
theorem copy_own {P : Program} (w : World) (t e : TypeId) (size bytes : Nat) (z : Value) (ht : P.underlying t = some (.slice e)) (hinfo : (P.info? e).map (fun i => (i.zero, i.size, i.bytes)) = some (some z, size, bytes)) (hzs : z.cells.size = size) (hsz : 0 < size)
    {v : Value} {n : Nat} {xs : List Value} (h : w.ownsRow 0 e size v n xs) (h1 : ∀ u ∈ xs, u.oneCell' = true) (hbytes : n * bytes ≤ 140737488355328) (h63 : n ≤ maxLen) :
    ∃ v' w', (Builtin.append_ #[t, t] t #[.slice (some ⟨w.heap.size, 0, none⟩) 0 0, v]).run P (w.alloc (.cells #[] e)) = .ok v' w' ∧ w'.ownsRow w.heap.size e size v' n xs ∧ Fr No w w' := by
  have hown := World.ownsRow_made (e := e) (size := size) w #[] 0 (Nat.le_refl w.heap.size) (by unfold maxLen; omega) (by simp)
  obtain ⟨i, hi, hz, hs, hb⟩ := info_parts hinfo
  rcases h.2 with ⟨rfl, rfl⟩ | ⟨g, cap, cur, rfl, hbg, hg, hnc, hcm, hcs, htake⟩
  · have hxs : xs = [] := List.eq_nil_of_length_eq_zero (by simpa using h.1)
    subst hxs
    exact ⟨_, _, run_append_owned_none (P := P) _ w.heap.size t t e i size ht hi _ _ _ hown, hown, (Fr.refl No w).alloc _⟩
  · have h' := h.alloc (.cells #[] e)
    obtain ⟨v', w', hrun, hown', hg', -, -⟩ := append_at (P := P) (w.alloc (.cells #[] e)) w.heap.size t t e size bytes z ht i hi hz hs hb hzs hsz (.slice (some ⟨w.heap.size, 0, none⟩) 0 0) 0 [] hown ⟨g, 0, none⟩ n cap xs (h'.cells (g := g) rfl) h.1 h1 (by rw [Nat.zero_add]; exact hbytes) (by omega) (by simp)
    rw [Nat.zero_add, List.nil_append] at hown'
    exact ⟨v', w', hrun, hown', ((Fr.refl No w).alloc _).grown hg' (by simp [Value.ownBlock])⟩

theorem undPairs : Try.prog.underlying 53 = some (.slice 74) := by kernel_rfl
theorem infoPair : (Try.prog.info? 74).map (fun i => (i.zero, i.size, i.bytes)) = some (some (.agg #[.int .i64 0, .int .i64 0]), 2, 16) := by kernel_rfl
theorem undMsgs : Try.prog.underlying 54 = some (.slice 76) := by kernel_rfl
theorem infoMsg : (Try.prog.info? 76).map (fun i => (i.zero, i.size, i.bytes)) = some (some (.agg #[.int .i64 0, .int .i64 0, .int .i64 0, .slice none 0 0]), 4, 48) := by kernel_rfl

def RfG.addP (g : RfG) (p : Int × Int) (v : Value) : RfG := { g with lv := v, ps := g.ps ++ [p] }
/-- What Open leaves. -/
def OpenR (w : World) (g : RfG) (a b : Int) (e : Ending) (w' : World) : Prop :=
  e = .returned (.int .i64 0) ∧ ∃ v, RfAt w' (g.addP (lo a b, hi a b) v) ∧ (∀ k, v.ownBlock = some k → w.heap.size ≤ k) ∧ Fr (fun i => i = g.bl) w w'

theorem ownsRow_zero {w : World} {B : Nat} {e : TypeId} {s : Nat} {v : Value} {n : Nat} {xs : List Value} (h : w.ownsRow B e s v n xs) : w.ownsRow 0 e s v n xs :=
  ⟨h.1, h.2.imp id fun ⟨g, c, cur, a1, _, a3⟩ => ⟨g, c, cur, a1, Nat.zero_le _, a3⟩⟩
theorem putP {w w4 : World} {g : RfG} {p : Int × Int} {v : Value} {B : Nat} (hb : w4.heap[g.bl]? = some (.cells #[g.lv, g.mv] 56 (0, 0))) (ho : w4.ownsRow B 74 2 v (g.ps.length + 1) (g.ps.flatMap pairC ++ [.int .i64 p.1, .int .i64 p.2])) (h : RfAt w g)
    {V : Nat → Prop} (f : Fr V w w4) (hV : ∀ k, k < w.heap.size → ¬ V k) (hB : w.heap.size ≤ B) : RfAt (w4.setCell ⟨g.bl, 0, none⟩ v) (g.addP p v) := by
  have hbl := obj_lt h.hb
  have hnv : v.ownBlock ≠ some g.bl := fun e => by have := (ho.lt _ e).1; omega
  have f2 : Fr (fun i => i = g.bl) w4 (w4.setCell ⟨g.bl, 0, none⟩ v) := Fr.setCell (W := fun i => i = g.bl) (Fr.refl _ w4) ⟨g.bl, 0, none⟩ (.inr rfl) v
  exact {
    hb := by have := heap_setCell_same w4 g.bl 0 _ _ v hb; simpa [RfG.addP] using this
    hl := by
      have h2 := ownsRow_keep ho f2 (fun i hi e => hnv (e ▸ hi))
      have e1 : (g.addP p v).ps.length = g.ps.length + 1 := by simp [RfG.addP]
      have e2 : (g.addP p v).ps.flatMap pairC = g.ps.flatMap pairC ++ [.int .i64 p.1, .int .i64 p.2] := by simp [RfG.addP, pairC]
      rw [e1, e2]
      exact ownsRow_zero h2
    hm := ownsRow_keep (ownsRow_keep h.hm f (fun i hi => hV i (h.hm.lt i hi).2)) f2 (fun i hi e => h.n2 (e ▸ hi))
    hv := fun m hm => ((h.hv m hm).keep f (fun i hi => hV i ((h.hv m hm).lt hi))).keep f2 (fun i hi e => h.n3 m hm (e ▸ hi))
    n1 := hnv
    n2 := h.n2
    n3 := h.n3 }

set_option maxHeartbeats 1000000 in
theorem openR_new (w : World) (g : RfG) (h : RfAt w g) (hle : g.ps.length ≤ 1000000) (a b : Int) (hv : vld a b) (hn : (lo a b, hi a b) ∉ g.ps) :
    Calls Try.prog 36 #[.pointer (some ⟨g.bl, 0, none⟩), .int .i64 a, .int .i64 b] w (OpenR w g a b) := by
  have hf := fitR_any w a b
  rw [fitB_vld.2 hv] at hf
  have hh := hasR_any w g h a b
  rw [show decide ((lo a b, hi a b) ∈ g.ps) = false by simp [hn]] at hh
  obtain ⟨la, lc, hlv, hz⟩ := own_slice h.hl
  have HF := Lib.hid hf
  have HH := Lib.hid hh
  have R := Lib.hid h
  clear hf hh h hn
  unfold OpenR lo hi
  rcases Int.lt_trichotomy a b with hab | hab | hab
  · have hab2 : a ≤ b := by omega
    rw [if_pos hab2, if_pos hab2]
    go_enter Try.func36, Try.ntmps36
    go_wp2_with fail
    refine HF.out.mono ?_
    rintro e w1 ⟨rfl, rfl⟩
    go_wp2_with fail
    refine HH.out.mono ?_
    rintro e w2 ⟨rfl, f2⟩
    have R2 := Lib.hid (R.out.keep f2)
    obtain ⟨c0, c1⟩ := R2.out.cells
    rw [hlv] at c0
    obtain ⟨v3, w3, hap, ho3, f3⟩ := copy_own (P := Try.prog) w2 53 74 2 16 (.agg #[.int .i64 0, .int .i64 0]) undPairs infoPair rfl (by decide) R2.out.hl (fun u hu => by
      obtain ⟨x, _, hx⟩ := List.mem_flatMap.1 hu
      unfold pairC at hx
      simp at hx
      rcases hx with rfl | rfl <;> rfl) (by omega) (by unfold maxLen; omega)
    rw [hlv] at hap
    obtain ⟨v4, w4, hap4, ho4, f4, -, hb4⟩ := append_blk (P := Try.prog) w3 w2.heap.size 53 53 74 2 16 (.agg #[.int .i64 0, .int .i64 0]) undPairs infoPair rfl (by decide) ho3 [.int .i64 a, .int .i64 b] rfl (by simp; exact ⟨rfl, rfl⟩) (by omega) (by unfold maxLen; omega) f3.size
    have hb5 : w4.heap[g.bl]? = some (.cells #[g.lv, g.mv] 56 (0, 0)) := f4.obj (f3.obj R2.out.hb id) (fun e => by have := (ho3.lt _ e).1; have := obj_lt R2.out.hb; omega)
    have k0 : w4.cell? ⟨g.bl, 0, none⟩ = some g.lv := by simp [World.cell?, hb5]
    have k1 : w4.frozen? ⟨g.bl, 0, none⟩ = false := by simp [World.frozen?, hb5]
    obtain ⟨a4, c4, rfl⟩ := ho4.slice.arg.form
    rw [hlv] at k0
    have kA : (w2.alloc (.cells #[] 74)).cell? ⟨g.bl, 0, none⟩ = some (.slice la g.ps.length lc) := ((Fr.refl No _).alloc _).cell c0 id
    have HB5 := Lib.hid hb5
    have HO4 := Lib.hid ho4
    have NV := Lib.hid (fun k (e : v3.ownBlock = some k) => (ho3.lt k e).1)
    clear hb5 ho4 ho3
    go_wp2_with (at_builtin; first | refine wpList_append_run rfl rfl rfl rfl hap ?_ | refine wpList_append_run rfl rfl rfl rfl hap4 ?_)
    go_ret
    refine ⟨rfl, .slice a4 (g.ps.length + 1) c4, putP HB5.out HO4.out R2.out ((f3.of0 (W := fun i => v3.ownBlock = some i)).trans f4 (fun _ _ h => h)) (fun k hk e => by have := NV.out k e; omega) (Nat.le_refl _), fun k hk => by have := (HO4.out.lt k hk).1; have := f2.size; omega, ?_⟩
    refine ((f2.trans0 f3).of0.trans f4 (fun i hi e => ?_)).trans (Fr.setCell (W := fun i => i = g.bl) (Fr.refl _ w4) ⟨g.bl, 0, none⟩ (.inr rfl) (.slice a4 (g.ps.length + 1) c4)) (fun _ _ h => h)
    have := NV.out i e
    have := f2.size
    omega
  · exact absurd hab hv.2.2.2.2
  · have hba : b ≤ a := by omega
    rw [if_neg (by omega), if_neg (by omega)]
    go_enter Try.func36, Try.ntmps36
    go_wp2_with fail
    refine HF.out.mono ?_
    rintro e w1 ⟨rfl, rfl⟩
    go_wp2_with fail
    refine HH.out.mono ?_
    rintro e w2 ⟨rfl, f2⟩
    have R2 := Lib.hid (R.out.keep f2)
    obtain ⟨c0, c1⟩ := R2.out.cells
    rw [hlv] at c0
    obtain ⟨v3, w3, hap, ho3, f3⟩ := copy_own (P := Try.prog) w2 53 74 2 16 (.agg #[.int .i64 0, .int .i64 0]) undPairs infoPair rfl (by decide) R2.out.hl (fun u hu => by
      obtain ⟨x, _, hx⟩ := List.mem_flatMap.1 hu
      unfold pairC at hx
      simp at hx
      rcases hx with rfl | rfl <;> rfl) (by omega) (by unfold maxLen; omega)
    rw [hlv] at hap
    obtain ⟨v4, w4, hap4, ho4, f4, -, hb4⟩ := append_blk (P := Try.prog) w3 w2.heap.size 53 53 74 2 16 (.agg #[.int .i64 0, .int .i64 0]) undPairs infoPair rfl (by decide) ho3 [.int .i64 b, .int .i64 a] rfl (by simp; exact ⟨rfl, rfl⟩) (by omega) (by unfold maxLen; omega) f3.size
    have hb5 : w4.heap[g.bl]? = some (.cells #[g.lv, g.mv] 56 (0, 0)) := f4.obj (f3.obj R2.out.hb id) (fun e => by have := (ho3.lt _ e).1; have := obj_lt R2.out.hb; omega)
    have k0 : w4.cell? ⟨g.bl, 0, none⟩ = some g.lv := by simp [World.cell?, hb5]
    have k1 : w4.frozen? ⟨g.bl, 0, none⟩ = false := by simp [World.frozen?, hb5]
    obtain ⟨a4, c4, rfl⟩ := ho4.slice.arg.form
    rw [hlv] at k0
    have kA : (w2.alloc (.cells #[] 74)).cell? ⟨g.bl, 0, none⟩ = some (.slice la g.ps.length lc) := ((Fr.refl No _).alloc _).cell c0 id
    have HB5 := Lib.hid hb5
    have HO4 := Lib.hid ho4
    have NV := Lib.hid (fun k (e : v3.ownBlock = some k) => (ho3.lt k e).1)
    clear hb5 ho4 ho3
    go_wp2_with (at_builtin; first | refine wpList_append_run rfl rfl rfl rfl hap ?_ | refine wpList_append_run rfl rfl rfl rfl hap4 ?_)
    go_ret
    refine ⟨rfl, .slice a4 (g.ps.length + 1) c4, putP HB5.out HO4.out R2.out ((f3.of0 (W := fun i => v3.ownBlock = some i)).trans f4 (fun _ _ h => h)) (fun k hk e => by have := NV.out k e; omega) (Nat.le_refl _), fun k hk => by have := (HO4.out.lt k hk).1; have := f2.size; omega, ?_⟩
    refine ((f2.trans0 f3).of0.trans f4 (fun i hi e => ?_)).trans (Fr.setCell (W := fun i => i = g.bl) (Fr.refl _ w4) ⟨g.bl, 0, none⟩ (.inr rfl) (.slice a4 (g.ps.length + 1) c4)) (fun _ _ h => h)
    have := NV.out i e
    have := f2.size
    omega
end Go.Proofs.Ytohcjfnekgnlcaa
