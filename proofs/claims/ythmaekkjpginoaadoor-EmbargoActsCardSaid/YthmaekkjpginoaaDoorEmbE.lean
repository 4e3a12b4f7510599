/- embargo: Due. -/
import Derived.Test.YthmaekkjpginoaaDoorEmbQ
namespace Go.Proofs.YthmaekkjpginoaaDoor
open Go Go.RowKit Go.Maps Go.MapKept Go.Sort

theorem Ck.head {w0 w : World} {p : Nat} {g : CkG} {x : HeldD} {S : List HeldD} {N : Nat} (h : Ck w0 w p g (x :: S) N) : g.H[0]? = some x := by
  have hne : g.H ≠ [] := fun e => by have := h.perm.length_eq; rw [e] at this; simp at this
  obtain ⟨m, T, hT⟩ := List.exists_cons_of_ne_nil hne
  have h0 : g.H[0]? = some m := by rw [hT]; rfl
  have hx : x ∈ g.H := h.mem.1 (by simp)
  obtain ⟨n, hn⟩ := List.mem_iff_getElem?.1 hx
  have h1 := h.heap.head swoB h0 n x hn
  have hm : m ∈ x :: S := h.mem.2 (by rw [hT]; simp)
  rcases List.mem_cons.1 hm with rfl | hm
  · exact h0
  · have := (List.pairwise_cons.1 h.srt).1 m hm
    rw [h1] at this
    cases this
theorem Ck.empty {w0 w : World} {p : Nat} {g : CkG} {N : Nat} (h : Ck w0 w p g [] N) : g.H = [] := List.eq_nil_of_length_eq_zero (by have := h.perm.length_eq; simpa using this.symm)
theorem Ck.tail {w0 w : World} {p : Nat} {g : CkG} {x : HeldD} {S : List HeldD} {N : Nat} (h : Ck w0 w p g (x :: S) N) : delS (x :: S) x.k = S := delS_one (A := []) (B := S) (x := x) (by have := h.keys; exact ((h.perm.map HeldD.k).nodup_iff).2 this)

def dueP (now : Int) (x : HeldD) : Bool := decide (x.till ≤ now)
theorem take_due {S : List HeldD} {now : Int} {n : Nat} (h1 : ∀ x ∈ S.take n, dueP now x = true) (h2 : ∀ x T, S.drop n = x :: T → dueP now x = false) : S.take n = S.takeWhile (dueP now) ∧ S.drop n = S.dropWhile (dueP now) := by
  have e : S = S.take n ++ S.drop n := (List.take_append_drop n S).symm
  have hd : (S.drop n).takeWhile (dueP now) = [] ∧ (S.drop n).dropWhile (dueP now) = S.drop n := by
    cases hT : S.drop n with
    | nil => simp
    | cons x T => simp [List.takeWhile_cons, List.dropWhile_cons, h2 x T hT]
  constructor
  · conv => rhs; rw [e]
    rw [List.takeWhile_append_of_pos h1, hd.1, List.append_nil]
  · conv => rhs; rw [e]
    rw [List.dropWhile_append_of_pos h1, hd.2]
theorem infoKeyZ : (Tryd.prog.info? 36).map (fun i => (i.zero, i.size, i.bytes)) = some (some (.agg (keyC key0).toArray), 33, 40) := by kernel_rfl
theorem infoKeyZ2 : (Tryd.prog.info? 36).map (fun i => (i.zero, i.size)) = some (some (.agg (keyC key0).toArray), 33) := by kernel_rfl
theorem undKeys : Tryd.prog.underlying 31 = some (.slice 36) := by kernel_rfl

/-- What Due leaves. -/
def DueOk (w0 w : World) (p : Nat) (g : CkG) (S : List HeldD) (N : Nat) (now : Int) (e : Ending) (w' : World) : Prop :=
  ∃ v g', e = .returned v ∧ w'.ownsRow w.heap.size 36 33 v (S.takeWhile (dueP now)).length (((S.takeWhile (dueP now)).map HeldD.k).flatMap keyC) ∧ Ck w0 w' p g' (S.dropWhile (dueP now)) N ∧ g'.W = g.W ∧ g'.sq = g.sq ∧ Fr g.W w w'

set_option maxRecDepth 20000 in
set_option maxHeartbeats 4000000 in
theorem due_any {w0 w : World} {p : Nat} {g : CkG} {S : List HeldD} {N : Nat} (hc : Ck w0 w p g S N) (hN : N ≤ 1000) (now : Int) :
    Calls Tryd.prog 14 #[.pointer (some ⟨g.bl, 0, none⟩), .int .u64 now] w (DueOk w0 w p g S N now) := by
  have hSN : S.length ≤ 1000 := by have := hc.len; have := hc.perm.length_eq; omega
  have WLT := Lib.hid hc.at_.wlt
  have HCK := Lib.hid hc
  obtain ⟨dK, uK, rK⟩ := descKey
  clear hc
  go_enter Tryd.func14, Tryd.ntmps14
  go_wp2_with fail
  go_loopw [5] (fun l wr => ∃ (n : Nat) (g' : CkG), n ≤ S.length ∧ (∀ x ∈ S.take n, dueP now x = true) ∧ wr.ownsRow w.heap.size 36 33 l n (((S.take n).map HeldD.k).flatMap keyC) ∧ Ck w0 wr p g' (S.drop n) N ∧ g'.W = g.W ∧ g'.bl = g.bl ∧ g'.sq = g.sq ∧ Fr g.W w wr) (fun l _ => match l with | .slice _ n _ => S.length - n | _ => 0)
  case atStart => exact ⟨0, g, Nat.zero_le _, by simp, World.ownsRow_nil _ _ _ _, HCK.out, rfl, rfl, rfl, Fr.refl _ _⟩
  case round =>
    obtain ⟨n, g', hn, hall, hro, hc, hW, hbl, hsq, fr⟩ := hrel
    obtain ⟨k0, k1, k2⟩ := hc.at_.cells
    rw [hbl] at k0 k1 k2
    have HALL := Lib.hid hall
    have HRO := Lib.hid hro
    have HC := Lib.hid hc
    have HWW := Lib.hid hW
    have HBL := Lib.hid hbl
    have HSQ := Lib.hid hsq
    clear hall hW hbl hsq
    obtain ⟨la, lc, rfl⟩ := hro.slice.arg.form
    clear hro
    cases hT : S.drop n with
    | nil =>
      rw [hT] at hc
      have hH := hc.empty
      obtain ⟨ha, hcp, hvf⟩ := hc.at_.hh.slice.arg.form
      rw [hH] at hvf
      rw [hvf] at k0
      have FIN : DueOk w0 w p g S N now (.returned (.slice la n lc)) wr := by
        obtain ⟨e1, e2⟩ := take_due HALL.out (fun x T h => by rw [hT] at h; cases h)
        refine ⟨_, g', rfl, ?_, by rw [← e2, hT]; exact hc, HWW.out, HSQ.out, fr⟩
        rw [← e1, List.length_take, Nat.min_eq_left hn]
        exact HRO.out
      have HFIN := Lib.hid FIN
      clear FIN hc hT hH hvf
      go_wp2
      go_ret
      exact HFIN.out
    | cons x T =>
      have HT := Lib.hid hT
      rw [hT] at hc
      clear hT
      have h0 := hc.head
      obtain ⟨gb, cap, hv, hr, hgl⟩ := hc.at_.at_ h0
      have hHl : 0 < g'.H.length := (List.getElem?_eq_some_iff.1 h0).1
      have hlm : g'.H.length ≤ 1000 := by have := hc.len; omega
      have okx := hc.at_.ok x (List.mem_of_getElem? h0)
      rw [hv] at k0
      have i1 : (0 : Int) < (g'.H.length : Int) := by omega
      have hr0 : wr.rangeAt gb 0 (heldC x) := by simpa using hr
      have t33 : wr.cell? ⟨gb, 33, none⟩ = some (.int .u64 x.till) := by have := hr0 33 _ (heldC_33 okx); simpa using this
      have HR := Lib.hid hr0
      have HCX := Lib.hid hc
      have LX := Lib.hid (keyC_len okx.1)
      clear hr0 hr hc h0 hv
      cases hd : dueP now x with
      | false =>
        have hle : decide (x.till ≤ now) = false := hd
        have FIN : DueOk w0 w p g S N now (.returned (.slice la n lc)) wr := by
          obtain ⟨e1, e2⟩ := take_due HALL.out (fun y T' h => by rw [HT.out] at h; cases h; exact hd)
          refine ⟨_, g', rfl, ?_, by rw [← e2, HT.out]; exact HCX.out, HWW.out, HSQ.out, fr⟩
          rw [← e1, List.length_take, Nat.min_eq_left hn]
          exact HRO.out
        have HFIN := Lib.hid FIN
        clear FIN hd
        go_wp2
        go_ret
        exact HFIN.out
      | true =>
        have hle : decide (x.till ≤ now) = true := hd
        have HD := Lib.hid hd
        clear hd
        have RK := Lib.hid (range_key HR.out)
        have RB := Lib.hid (range_new wr (keyC x.k) 36)
        have hro2 := HRO.out.alloc (.cells (keyC x.k).toArray 36)
        have hnlt : n < S.length := by
          have := congrArg List.length HT.out
          simp at this
          omega
        obtain ⟨v', w4, happ, hro', f4, -, hb4⟩ := append_blk (P := Tryd.prog) (wr.alloc (.cells (keyC x.k).toArray 36)) w.heap.size 31 31 36 33 40 _ undKeys infoKeyZ rfl (by decide) hro2 (keyC x.k) (keyC_len okx.1) keyC_one (by omega) (by unfold maxLen; omega) (by have := fr.size; simp; omega)
        obtain ⟨a4, c4, rfl⟩ := hro'.slice.arg.form
        have f40 : Fr (fun k => (Value.slice la n lc).ownBlock = some k) wr w4 := ((Fr.refl No wr).alloc _).of0.trans f4 (fun _ _ h => h)
        have hlb : ∀ k, (Value.slice la n lc).ownBlock = some k → w.heap.size ≤ k ∧ k < wr.heap.size := fun k e => HRO.out.lt k e
        have RB4 := Lib.hid (range_keep RB.out f4 (fun e => by have := (hlb _ e).2; omega))
        have hc4 := HCX.out.frV f40 (fun k hk e => by rw [HWW.out] at hk; have := WLT.out k hk; have := (hlb _ e).1; omega) (fun k e => Nat.le_trans HCK.out.fr.size (hlb _ e).1)
        have hdr := drop_ok hc4 hN x.k okx.1 ⟨x, by simp, rfl⟩
        rw [HBL.out] at hdr
        have TL := Lib.hid hc4.tail
        have HDR := Lib.hid hdr
        have HF40 := Lib.hid f40
        have HLB := Lib.hid hlb
        clear hc4 hdr f40 hlb
        have HAP := Lib.hid happ
        have HRO4 := Lib.hid hro'
        have HF4 := Lib.hid f4
        have HB4 := Lib.hid hb4
        clear hro2 happ hro' f4 hb4
        go_wp2_with (first | (refine wpList_value rfl (exec_load (ty := 36) rfl rfl RK.out uK rK (by rw [LX.out]; exact infoKey)) ?_) | (refine wpList_done rfl (exec_store_new (w := wr) (ty := 36) rfl rfl rfl (by rw [LX.out]; rfl) (by rw [LX.out]; exact infoKey) keyC_one) ?_) | (refine wpList_value rfl (exec_load (ty := 36) rfl rfl RB.out uK rK (by rw [LX.out]; exact infoKey)) ?_) | (refine wpList_value rfl (exec_load (ty := 36) rfl rfl RB4.out uK rK (by rw [LX.out]; exact infoKey)) ?_) | (refine wpList_value rfl (exec_buildSliceA (t := 31) rfl rfl undKeys infoKeyZ2 rfl (by decide) (by decide) (by rw [LX.out])) ?_) | (at_builtin; refine wpList_append_run rfl rfl rfl rfl HAP.out ?_))
        refine HDR.out.mono ?_
        rintro e w5 hdo
        obtain ⟨rfl, g5, hc5, st5, sq5, W5⟩ := hdo
        have hn1 : S.drop (n + 1) = T := by
          have := congrArg List.tail HT.out
          rw [List.tail_drop] at this
          simpa using this
        have ht1 : S.take (n + 1) = S.take n ++ [x] := by
          have h := HT.out
          rw [List.take_add_one]
          congr 1
          have : S[n]? = some x := by
            have h2 := congrArg (·[0]?) h
            simpa using h2
          rw [this]; rfl
        have fw5 : Fr g.W w w5 := (fr.trans HF40.out (fun k hk e => by have := (HLB.out k e).1; omega)).trans st5.fr (fun k _ e => by rw [HWW.out] at e; exact e)
        have hro5 : w5.ownsRow w.heap.size 36 33 (.slice a4 (n + 1) c4) (n + 1) (((S.take (n + 1)).map HeldD.k).flatMap keyC) := by
          rw [ht1, List.map_append, List.flatMap_append]
          simp only [List.map_cons, List.map_nil, List.flatMap_cons, List.flatMap_nil, List.append_nil]
          exact ownsRow_keep HRO4.out st5.fr (fun k hk e => by
            rw [HWW.out] at e
            have h1 := WLT.out k e
            have h2 := (HRO4.out.lt k hk).1
            omega)
        have hall5 : ∀ z ∈ S.take (n + 1), dueP now z = true := fun z hz => by
          rw [ht1] at hz
          rcases List.mem_append.1 hz with hz | hz
          · exact HALL.out z hz
          · simp at hz; subst hz; exact HD.out
        rw [TL.out, ← hn1] at hc5
        have R1 := Lib.hid hall5
        have R2 := Lib.hid hro5
        have R3 := Lib.hid hc5
        have R4 := Lib.hid fw5
        have R5 := Lib.hid (W5.trans HWW.out)
        have R6 := Lib.hid (st5.bl.trans HBL.out)
        have R7 := Lib.hid (sq5.trans HSQ.out)
        clear hall5 hro5 hc5 fw5 W5 sq5 st5 hn1 ht1
        go_wp2
        go_roundw
        case rel => exact ⟨n + 1, g5, by omega, R1.out, R2.out, R3.out, R5.out, R6.out, R7.out, R4.out⟩
        case measure => show S.length - (n + 1) < S.length - n; omega
end Go.Proofs.YthmaekkjpginoaaDoor
