/- pappusref16: the document's clock: Due; a new one. -/
import Derived.Test.YthmaekkjpginoaaDoorEmbW3
namespace Go.Proofs.YthmaekkjpginoaaDoor
open Go Go.RowKit Go.Maps Go.MapKept Go.Sort

/-- c.L[1:]. -/
theorem cut_rest {w : World} {b off n c : Nat} {x : KT} {R : List KT} (h : SliceIs w (.slice (some ⟨b, off, none⟩) n c) (R.length + 1) ((x :: R).flatMap rkC)) (hx : x.1.ok) (hn : n = R.length + 1) :
    SliceIs w (.slice (if c = 1 then some ⟨b, off, none⟩ else some ⟨b, off + 34, none⟩) R.length (c - 1)) R.length (R.flatMap rkC) ∧ (Value.slice (if c = 1 then some ⟨b, off, none⟩ else some ⟨b, off + 34, none⟩) R.length (c - 1)).ownBlock = some b := by
  subst hn
  rcases h with ⟨e, _⟩ | ⟨b', off', cap', e, h1, h2, h3, h4⟩
  · cases e
  · injection e with e1 e2 e3
    injection e1 with e1
    injection e1 with e1 e4
    subst e1 e3 e4
    refine ⟨?_, ?_⟩
    · by_cases hc : c = 1
      · have hR : R = [] := List.eq_nil_of_length_eq_zero (by omega)
        subst hR
        simp only [hc, if_true]
        exact .inr ⟨b, off, _, rfl, by simp, by omega, fun j u hj => by simp at hj, h4⟩
      · simp only [hc, if_false]
        refine .inr ⟨b, off + 34, _, rfl, by omega, by omega, fun j u hj => ?_, h4⟩
        rw [Nat.add_assoc]
        refine h3 (34 + j) u ?_
        rw [List.flatMap_cons, List.getElem?_append_right (by rw [rkC_len hx]; omega), rkC_len hx]
        rw [show 34 + j - 34 = j by omega]
        exact hj
    · by_cases hc : c = 1 <;> simp [hc, Value.ownBlock]

section
variable {w0 w : World} {p : Nat} {U : Nat → Prop} {T : List KT}
/-- c.L = l, in the same block. -/
theorem RT.shift (h : RT w0 w p U T) {rv l : Value} (hb : w.heap[p]? = some (.cells #[rv] 53 (0, 0))) {T' : List KT} (hs : SliceIs w l T'.length (T'.flatMap rkC)) (hl : l.ownBlock = rv.ownBlock) (ok : ∀ x ∈ T', x.1.ok) :
    RT w0 (w.setCell ⟨p, 0, none⟩ l) p U T' ∧ Fr U w (w.setCell ⟨p, 0, none⟩ l) := by
  have hlo := h.lo
  obtain ⟨rv', hb', -, rfl, hne⟩ := h.ex
  rw [hb] at hb'
  injection hb' with hb'
  injection hb' with e1
  injection e1 with e1
  injection e1 with e1
  subst e1
  have hset := setCells_heap p 53 [l] 0 w #[rv] hb
  have fs : Fr (fun j => j = p) w (w.setCell ⟨p, 0, none⟩ l) := Fr.setCell (W := fun j => j = p) (Fr.refl _ w) ⟨p, 0, none⟩ (.inr rfl) _
  have fu : Fr (fun j => j = p ∨ rv.ownBlock = some j) w (w.setCell ⟨p, 0, none⟩ l) := Fr.of0 (Fr.refl No w) |>.trans fs (fun _ _ e => .inl e)
  refine ⟨{ ex := ⟨l, hset, hs.keep fs (fun b h1 e => hne (by rw [← hl, ← show b = p from e]; exact h1)), by rw [hl], by rw [hl]; exact hne⟩, lo := hlo, fr := ?_, ok := ok }, fu⟩
  exact h.fr.trans fs (fun i hi e => by subst e; have := hlo i (.inl rfl); omega)
/-- &Clock{}. -/
theorem rnew_T (f : Fr No w0 w) : RT w0 (w.alloc (.cells #[.slice none 0 0] 53)) w.heap.size (fun j => j = w.heap.size ∨ (Value.slice none 0 0).ownBlock = some j) [] where
  ex := ⟨_, new_obj w (.cells #[.slice none 0 0] 53), .inl ⟨rfl, rfl, rfl⟩, rfl, by simp [Value.ownBlock]⟩
  lo := by
    rintro j (rfl | hj)
    · exact f.size
    · cases hj
  fr := f.alloc _
  ok := by simp

def lenOf : Value → Nat | .slice _ n _ => n | _ => 0
set_option maxRecDepth 20000 in
set_option maxHeartbeats 4000000 in
theorem rdue_T (h : RT w0 w p U T) (hN : T.length ≤ 1000) (now : Int) :
    Calls Tryd.prog 25 #[.pointer (some ⟨p, 0, none⟩), .int .u64 now] w fun e w' => ∃ v, e = .returned v ∧ w'.ownsRow w.heap.size 39 33 v (T.takeWhile (dueT now)).length (((T.takeWhile (dueT now)).map (·.1)).flatMap keyC) ∧ RT w0 w' p U (T.dropWhile (dueT now)) ∧ Fr U w w' := by
  obtain ⟨dR, uR, rR⟩ := descRKey
  have OKT := Lib.hid h.ok
  have UHI := Lib.hid h.hi
  have HRT := Lib.hid h
  clear h
  go_enter Tryd.func25, Tryd.ntmps25
  go_wp2_with fail
  go_loopw [5] (fun l wr => ∃ A R : List KT, T = A ++ R ∧ (∀ x ∈ A, dueT now x = true) ∧ wr.ownsRow w.heap.size 39 33 l A.length ((A.map (·.1)).flatMap keyC) ∧ RT w0 wr p U R ∧ Fr U w wr) (fun l _ => T.length - lenOf l)
  case atStart => exact ⟨[], T, rfl, by simp, World.ownsRow_nil _ _ _ _, HRT.out, Fr.refl _ _⟩
  case round =>
    obtain ⟨A, R, hT, hA, ho, hr, fr⟩ := hrel
    have HA := Lib.hid hA
    have FR := Lib.hid fr
    have HR := Lib.hid hr
    have HO := Lib.hid ho
    have hAl : A.length + R.length = T.length := by rw [hT, List.length_append]
    obtain ⟨la, lc, rfl⟩ := ho.slice.arg.form
    obtain ⟨rv, hb, hs, hU, hne⟩ := hr.ex
    obtain ⟨ra, rc, rfl⟩ := hs.arg.form
    have HB := Lib.hid hb
    have HS := Lib.hid hs
    have c0 : wr.cell? ⟨p, 0, none⟩ = some (.slice ra R.length rc) := by simp [World.cell?, hb]
    clear hA fr hr ho hne
    cases R with
    | nil =>
      have hD : T.takeWhile (dueT now) = A ∧ T.dropWhile (dueT now) = [] := by
        rw [hT, List.takeWhile_append_of_pos HA.out, List.dropWhile_append_of_pos HA.out]
        simp
      have HD := Lib.hid hD
      clear hD hb hs hT
      go_wp2
      go_ret
      exact ⟨_, rfl, by rw [HD.out.1]; exact HO.out, by rw [HD.out.2]; exact HR.out, FR.out⟩
    | cons x R =>
      obtain ⟨m, hm⟩ : ∃ m, m = (x :: R).length := ⟨_, rfl⟩
      rw [← hm] at c0
      have hR1 : 0 < m := by rw [hm]; simp
      have hR0 : (0 : Int) < (m : Int) := by omega
      have XOK := Lib.hid (OKT.out x (by rw [hT]; simp))
      have XK := Lib.hid (keyC_len XOK.out)
      obtain ⟨b, off, cap, hv, hr, -⟩ := hs.elem (i := 0) (x := x) (by decide) (fun y hy => rkC_len (HR.out.ok y hy)) rfl
      injection hv with e1 e2 e3
      subst e1 e3
      have hs2 : SliceIs wr (.slice (some ⟨b, off, none⟩) m rc) (R.length + 1) ((x :: R).flatMap rkC) := by rw [hm]; exact hs
      rw [Nat.zero_mul, Nat.add_zero] at hr
      have c33 : wr.cell? ⟨b, off + 33, none⟩ = some (.int .u64 x.2) := hr 33 _ (rkC_33 XOK.out)
      have RK := Lib.hid (rk_key hr)
      by_cases hc : x.2 ≤ now
      · obtain ⟨hs', hob⟩ := cut_rest (R := R) (x := x) hs2 XOK.out hm
        obtain ⟨v5, w5, hap1, ho5, f5, -, -⟩ := append_blk (P := Tryd.prog) wr w.heap.size 59 59 39 33 40 _ undRKeys infoRKeyZ rfl (by decide) HO.out (keyC x.1) XK.out keyC_one (by omega) (by unfold maxLen; simp at hAl; omega) FR.out.size
        have hbl : ∀ j, U j → ¬ (Value.slice la A.length lc).ownBlock = some j := fun j h1 h2 => by have := UHI.out j h1; have := (HO.out.lt j h2).1; omega
        have HR5 := Lib.hid (HR.out.frV f5 hbl (fun j h2 => Nat.le_trans HRT.out.fr.size (HO.out.lt j h2).1))
        have F5 := Lib.hid (FR.out.trans f5 (fun i hi e => by have := (HO.out.lt i e).1; omega))
        have HO5 := Lib.hid (show w5.ownsRow w.heap.size 39 33 v5 (A ++ [x]).length (((A ++ [x]).map (·.1)).flatMap keyC) by simpa using ho5)
        have hb5 := f5.obj hb (hbl p (by rw [hU]; exact .inl rfl))
        have c5 : w5.cell? ⟨p, 0, none⟩ = some (.slice (some ⟨b, off, none⟩) m rc) := by rw [hm]; simp [World.cell?, hb5]
        have fz := frozen_none hb5 0
        have hs5 := hs'.keep f5 (fun j hj => hbl j (by rw [hU]; exact .inr (hob.symm.trans hj)))
        have SH := Lib.hid (HR5.out.shift hb5 hs5 (hob.trans rfl) (fun y hy => HR.out.ok y (by simp [hy])))
        have HT2 := Lib.hid (show T = (A ++ [x]) ++ R by rw [hT]; simp)
        have HA2 := Lib.hid (show ∀ y ∈ A ++ [x], dueT now y = true by
          intro y hy
          rcases List.mem_append.1 hy with h | h
          · exact HA.out y h
          · obtain rfl := List.mem_singleton.1 h; exact decide_eq_true hc)
        obtain ⟨a5, lc5, rfl⟩ := ho5.slice.arg.form
        have HAP1 := Lib.hid hap1
        clear hap1 ho5 f5 hb hb5 hs hs2 hs' hs5 hr hT hob hU HB HS
        go_wp2_with (first | (refine wpList_value rfl (exec_load (ty := 39) rfl rfl RK.out uR rR (by rw [XK.out]; exact infoRKey)) ?_) | (refine wpList_value rfl (exec_buildSliceA (t := 59) rfl rfl undRKeys infoRKeyZ2 rfl (by decide) (by decide) XK.out) ?_) | (at_builtin; refine wpList_append_run rfl rfl rfl rfl HAP1.out ?_))
        go_roundw
        case rel => exact ⟨A ++ [x], R, HT2.out, HA2.out, ownsRow_keep HO5.out SH.out.2 (fun j e h => by have := (HO5.out.lt j e).1; have := UHI.out j h; omega), SH.out.1, F5.out.trans SH.out.2 (fun _ _ h => h)⟩
        case measure => simp only [lenOf, List.length_append, List.length_cons, List.length_nil] at hAl ⊢; omega
      · have hD : T.takeWhile (dueT now) = A ∧ T.dropWhile (dueT now) = x :: R := by
          have hx : dueT now x = false := decide_eq_false hc
          rw [hT, List.takeWhile_append_of_pos HA.out, List.dropWhile_append_of_pos HA.out, List.takeWhile_cons, List.dropWhile_cons, hx]
          simp
        have HD := Lib.hid hD
        clear hD hb hs hs2 hT hr HB HS hU
        go_wp2
        go_ret
        exact ⟨_, rfl, by rw [HD.out.1]; exact HO.out, by rw [HD.out.2]; exact HR.out, FR.out⟩
end
end Go.Proofs.YthmaekkjpginoaaDoor
