/- pappusref09: Twice. -/
import Derived.Test.YtoaefhjmpfchiaaCoiR1
namespace Go.Proofs.Ytoaefhjmpfchiaa
open Go Go.RowKit Go.Maps Go.MapKept Go.Sort

theorem undPoints' : Try.prog.underlying 52 = some (.slice (Try.prog.elem 52)) := by kernel_rfl
theorem sizePointE : ∀ w : World, (sizeOf (Try.prog.elem 52)).run Try.prog w = .ok 33 w := by
  intro w
  have h : (Try.prog.info? (Try.prog.elem 52)).map (fun i => (i.zero, i.size, i.bytes)) = some (some (.agg (pointC point0).toArray), 33, 36) := by kernel_rfl
  obtain ⟨i, hi, hz, hs, hb⟩ := info_parts h
  simp [sizeOf, typeInfo, hi, hs]
theorem cut_points (a : Addr) (n cap q : Nat) (hq : q ≤ cap) (w : World) :
    (Instr.slice 52 (.slice (some a) n cap) none (some (.int .i64 (q : Int))) none).run Try.prog w = .ok (.slice (some a) q cap) w := by
  rw [run_slice_h w 52 (some a) n cap undPoints' .i64 q (by omega) (by omega), sizePointE]
  simp [Result.andThen, sliced, Addr.add]
theorem ArgIs.cap {w : World} {a : Option Addr} {n c : Nat} {cs : List Value} (h : ArgIs w (.slice a n c) n cs) : n ≤ c := by
  rcases h with (⟨e, rfl, -⟩ | ⟨b, off, cap, e, h1, -⟩) | ⟨a', cap, e, rfl, -⟩
  · exact Nat.zero_le _
  · injection e with _ _ e3; subst e3; exact h1
  · exact Nat.zero_le _
theorem len_points (a : Option Addr) (n c : Nat) (w : World) : (Builtin.len_ #[52] 3 #[.slice a n c]).run Try.prog w = .ok (.int .i64 n) w := by
  simp [Builtin.len_, run_underlying undPoints]
  rfl
theorem twice_at {ps : List PointD} {n m : Nat} {x : PointD} (hx : ps[n]? = some x) (hm : ps[m]? = some x) (hlt : m < n) : ¬ ps.Nodup := by
  intro hnd
  have := (List.getElem?_inj (List.getElem?_eq_some_iff.1 hx).1 hnd).1 (hx.trans hm.symm)
  omega
set_option maxRecDepth 20000 in
set_option maxHeartbeats 2000000 in
theorem twice_any (w : World) {v : Value} {ps : List PointD} (hp : PointsIs w v ps) (hN : ps.length ≤ 100000) :
    Calls Try.prog 30 #[v] w fun e w' => e = .returned (.bool (!decide ps.Nodup)) ∧ Fr No w w' := by
  obtain ⟨dP, uP, rP⟩ := descPoint
  obtain ⟨va, vc, rfl⟩ := hp.2.form
  have zp := zeroPoint
  have hcap := ArgIs.cap hp.2
  have HP := Lib.hid hp
  have hlen := len_points
  clear hp
  go_enter Try.func30, Try.ntmps30
  go_wp2_with fail
  go_loopw [9] (fun iv wr => ∃ n : Nat, iv = .int .i64 n ∧ n ≤ ps.length ∧ (ps.take n).Nodup ∧ Fr No w wr) (fun iv _ => ps.length - (intOf iv).toNat)
  case atStart => exact ⟨0, rfl, Nat.zero_le _, by simp, Fr.refl _ _⟩
  case round =>
    obtain ⟨n, rfl, hn, hni, fr⟩ := hrel
    have FR := Lib.hid fr
    have NI := Lib.hid hni
    clear fr hni
    by_cases h : n < ps.length
    · have i1 : (n : Int) < (ps.length : Int) := by omega
      obtain ⟨x, hx⟩ : ∃ x, ps[n]? = some x := ⟨_, List.getElem?_eq_getElem h⟩
      obtain ⟨b, off, cap, hv, hr, -⟩ := (HP.out.keep FR.out).at_ hx
      cases hv
      have XOK := Lib.hid (HP.out.1 x (List.mem_of_getElem? hx))
      have XL := Lib.hid (pointC_len XOK.out)
      have R1 := Lib.hid hr
      have HX := Lib.hid hx
      have RX := Lib.hid (range_new wr (pointC x) 27)
      have FA := Lib.hid (FR.out.alloc (.cells (pointC x).toArray 27))
      have hsl := cut_points ⟨b, off, none⟩ ps.length vc n (by omega)
      clear hr hx
      go_wp2_with (first | (refine wpList_value rfl (exec_load (ty := 27) rfl rfl R1.out uP rP (by rw [XL.out]; exact infoPoint)) ?_) | (refine wpList_done rfl (exec_store_new (w := wr) (cs := pointC x) (ty := 27) rfl rfl rfl (by rw [XL.out]; rfl) (by rw [XL.out]; exact infoPoint) pointC_one) ?_))
      clear hsl
      generalize hq0 : wr.heap.size = q0 at *
      generalize wr.alloc (.cells (pointC x).toArray 27) = wa at *
      go_loopw [18] (fun iv wr2 => ∃ m : Nat, iv = .int .i64 m ∧ m ≤ n ∧ (∀ y ∈ ps.take m, y ≠ x) ∧ Fr No wa wr2) (fun iv _ => n - (intOf iv).toNat)
      case atStart => exact ⟨0, rfl, Nat.zero_le _, by simp, Fr.refl _ _⟩
      case round =>
        obtain ⟨m, rfl, hm, hmi, fr2⟩ := hrel
        have FR2 := Lib.hid fr2
        have MI := Lib.hid hmi
        clear fr2 hmi
        by_cases h2 : m < n
        · have i2 : (m : Int) < (n : Int) := by omega
          obtain ⟨y, hy⟩ : ∃ y, ps[m]? = some y := ⟨_, List.getElem?_eq_getElem (by omega)⟩
          obtain ⟨b2, off2, cap2, hv2, hr2, -⟩ := (HP.out.keep (FA.out.trans0 FR2.out)).at_ hy
          cases hv2
          have YOK := Lib.hid (HP.out.1 y (List.mem_of_getElem? hy))
          have YL := Lib.hid (pointC_len YOK.out)
          have R2 := Lib.hid hr2
          have RY := Lib.hid (range_new wr (pointC y) 27)
          have FB := Lib.hid (FR2.out.alloc (.cells (pointC y).toArray 27))
          have RX2 := Lib.hid (range_keep RX.out FB.out id)
          clear hr2
          by_cases hxy : y = x
          · have ND := Lib.hid (twice_at HX.out (hxy ▸ hy) h2)
            have HD := Lib.hid (show (!decide ps.Nodup) = true by rw [decide_eq_false ND.out]; rfl)
            subst hxy
            clear hy
            go_wp2_with (first | (refine wpList_value rfl (exec_load (ty := 27) rfl rfl RX2.out uP rP (by rw [XL.out]; exact infoPoint)) ?_) | (refine wpList_value rfl (exec_load (ty := 27) rfl rfl RY.out uP rP (by rw [YL.out]; exact infoPoint)) ?_) | (refine wpList_value rfl (exec_load (ty := 27) rfl rfl R2.out uP rP (by rw [YL.out]; exact infoPoint)) ?_) | (refine wpList_done rfl (exec_store_new (w := wr) (cs := pointC y) (ty := 27) rfl rfl rfl (by rw [YL.out]; rfl) (by rw [YL.out]; exact infoPoint) pointC_one) ?_) | (refine wpList_value rfl (eqPoint.exec_eql rfl rfl rfl (keyOfPoint YOK.out) (keyOfPoint YOK.out) true ⟨fun _ => rfl, fun _ => rfl⟩ _) ?_))
            go_ret
            exact ⟨by rw [HD.out]; rfl, FA.out.trans0 FB.out⟩
          · have NE := Lib.hid (show ¬ (pointC x).toArray = (pointC y).toArray from fun e => hxy (pointV_inj (congrArg Value.agg e.symm)))
            have MI2 := Lib.hid (show ∀ z ∈ ps.take (m + 1), z ≠ x by
              rw [List.take_add_one, hy]
              simp only [Option.toList_some, List.mem_append, List.mem_singleton]
              rintro z (hz | rfl)
              · exact MI.out z hz
              · exact hxy)
            clear hy
            go_wp2_with (first | (refine wpList_value rfl (exec_load (ty := 27) rfl rfl RX2.out uP rP (by rw [XL.out]; exact infoPoint)) ?_) | (refine wpList_value rfl (exec_load (ty := 27) rfl rfl RY.out uP rP (by rw [YL.out]; exact infoPoint)) ?_) | (refine wpList_value rfl (exec_load (ty := 27) rfl rfl R2.out uP rP (by rw [YL.out]; exact infoPoint)) ?_) | (refine wpList_done rfl (exec_store_new (w := wr) (cs := pointC y) (ty := 27) rfl rfl rfl (by rw [YL.out]; rfl) (by rw [YL.out]; exact infoPoint) pointC_one) ?_) | (refine wpList_value rfl (eqPoint.exec_eql rfl rfl rfl (keyOfPoint XOK.out) (keyOfPoint YOK.out) false ⟨fun e => (by cases e), fun e => absurd e NE.out⟩ _) ?_))
            go_roundw
            case rel => exact ⟨m + 1, by simp, by omega, MI2.out, FB.out⟩
            case measure => show n - (m + 1) < n - m; omega
        · have i2 : ¬ (m : Int) < (n : Int) := by omega
          have NI2 := Lib.hid (show (ps.take (n + 1)).Nodup by
            have hmi := MI.out
            rw [show m = n by omega] at hmi
            rw [List.take_add_one, HX.out]
            simp only [Option.toList_some]
            rw [List.nodup_append]
            exact ⟨NI.out, by simp, fun a ha b hb => by rw [List.mem_singleton.1 hb]; exact hmi a ha⟩)
          go_wp2
          go_roundw
          case rel => exact ⟨n + 1, by simp, by omega, NI2.out, FA.out.trans0 FR2.out⟩
          case measure => show ps.length - (n + 1) < ps.length - n; omega
    · have i1 : ¬ (n : Int) < (ps.length : Int) := by omega
      have HD := Lib.hid (show (!decide ps.Nodup) = false by
        have := NI.out
        rw [show n = ps.length by omega, List.take_length] at this
        rw [decide_eq_true this]; rfl)
      go_wp2
      go_ret
      exact ⟨by rw [HD.out]; rfl, FR.out⟩
end Go.Proofs.Ytoaefhjmpfchiaa
