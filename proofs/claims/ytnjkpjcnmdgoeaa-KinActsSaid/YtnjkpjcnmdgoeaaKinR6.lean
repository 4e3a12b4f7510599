/- The document's graph of kin: Add (printed by gen_kin6.py). -/
import Derived.Test.YtnjkpjcnmdgoeaaKinR5
import Derived.Test.YtnjkpjcnmdgoeaaKinO
import Derived.Test.YtnjkpjcnmdgoeaaTreeM
namespace Go.Proofs.Ytnjkpjcnmdgoeaa
open Go Go.RowKit Go.Maps Go.MapKept

theorem addE_casesR (G : List NodeD) (x : HashD) (ps : List HashD) : (addE G x ps = 10 ∧ x ∈ ids G) ∨ (addE G x ps = 9 ∧ x ∉ ids G ∧ ∃ p ∈ ps, p ∉ ids G) ∨ (addE G x ps = 16 ∧ x ∉ ids G ∧ (∀ p ∈ ps, p ∈ ids G) ∧ ¬ (upS G ps).length < 6) ∨ (addE G x ps = 0 ∧ x ∉ ids G ∧ (∀ p ∈ ps, p ∈ ids G) ∧ (upS G ps).length < 6) := by
  by_cases h1 : x ∈ ids G
  · exact .inl ⟨addE_there h1, h1⟩
  · by_cases h2 : ∀ p ∈ ps, p ∈ ids G
    · by_cases h3 : (upS G ps).length < 6
      · exact .inr (.inr (.inr ⟨addE_ok h1 h2 h3, h1, h2, h3⟩))
      · exact .inr (.inr (.inl ⟨addE_kin h1 h2 h3, h1, h2, h3⟩))
    · have h3 : ∃ p ∈ ps, p ∉ ids G := by simpa using h2
      exact .inr (.inl ⟨addE_none h1 h3, h1, h3⟩)
theorem own_madeN (w : World) : (w.alloc (.cells #[] 63)).ownsRow w.heap.size 63 33 (.slice (some ⟨w.heap.size, 0, none⟩) 0 0) 0 [] := World.ownsRow_made w #[] 0 (Nat.le_refl _) (Nat.zero_le _) rfl
theorem nodes_one {B : Nat} {w : World} {R : List RN} (h : ∀ r ∈ R, RnAt B w r) : ∀ u ∈ nodesC R, u.oneCell' = true := fun u hu => by
  obtain ⟨r, hr, hu⟩ := List.mem_flatMap.1 hu
  obtain ⟨a, c, e⟩ := (h r hr).own.slice.arg.form
  have : u ∈ nodeC r.id (.slice a r.ps.length c) := by rw [← e]; exact hu
  exact nodeC_one u this
theorem nodes_len {B : Nat} {w : World} {R : List RN} (h : ∀ r ∈ R, RnAt B w r) : (nodesC R).length = R.length * 33 := flatR_len RN.cells 33 R (fun r hr => nodeC_len (h r hr).ok)
section
variable {w0 w : World} {q : Nat} {U : Nat → Prop} {G : List NodeD}
def AddRk (w0 w : World) (q : Nat) (U : Nat → Prop) (G : List NodeD) (x : HashD) (l : List HashD) (e : Ending) (w' : World) : Prop :=
  e = .returned (.int .i64 (addE G x l)) ∧ ∃ U', RG w0 w' q U' (if addE G x l = 0 then addG G x l else G) ∧ Fr U w w' ∧ ∀ j, U' j → U j ∨ w.heap.size ≤ j
theorem AddRk.no {w' : World} {x : HashD} {l : List HashD} {c : Int} (h : RG w0 w q U G) (f : Fr No w w') (e : addE G x l = c) (hc : c ≠ 0) : AddRk w0 w q U G x l (.returned (.int .i64 c)) w' :=
  ⟨by rw [e], U, by rw [if_neg (by rw [e]; exact hc)]; exact h.fr0 f, f.of0, fun _ h => .inl h⟩
set_option maxRecDepth 20000 in
set_option maxHeartbeats 8000000 in
theorem add_R (h : RG w0 w q U G) (ok : GOk G) (hG : G.length ≤ 800) {x : HashD} (hx : hashOk x) {v : Value} {l : List HashD} (hl : IdsIs w v l) (hl2 : l.length ≤ 30) : Calls Try.prog 21 #[.pointer (some ⟨q, 0, none⟩), .agg (hashC x).toArray, v] w (AddRk w0 w q U G x l) := by
  obtain ⟨dK, uK, rK⟩ := descHash
  obtain ⟨va, vc, rfl⟩ := hl.2.form
  have HX := Lib.hid (hashC_len hx)
  have XOK := Lib.hid hx
  have f1 : Fr No w (w.alloc (.cells (hashC x).toArray 30)) := (Fr.refl No w).alloc _
  have RX := Lib.hid (range_new w (hashC x) 30)
  have F1 := Lib.hid f1
  have H0 := Lib.hid h
  have H1 := Lib.hid (h.fr0 f1)
  have HL := Lib.hid hl
  have OK := Lib.hid ok
  have zh := zeroHash
  clear h ok f1 hx hl
  rcases addE_casesR G x l with ⟨ae, hin⟩ | ⟨ae, hin, hkn⟩ | ⟨ae, hin, hkn, h6⟩ | ⟨ae, hin, hkn, h6⟩
  · have D := Lib.hid (decide_eq_true hin)
    have AE := Lib.hid ae
    go_enter Try.func21, Try.ntmps21
    go_wp2_with (first | ((with_reducible refine at_dst 10 ?_); refine wpList_vG rfl (exec_load (ty := 30) rfl rfl RX.out uK rK (by rw [HX.out]; exact infoHash)) ?_; generalize w.alloc (.cells (hashC x).toArray 30) = w1 at *; generalize hq : w.heap.size = q0 at *) | (go_at_call 29; refine (has_R H1.out (by omega) XOK.out).mono ?_; rintro e w2 ⟨rfl, f2⟩; rw [D.out]; have F2 := Lib.hid (F1.out.trans0 f2); have F12 := Lib.hid f2; have H2 := Lib.hid (H1.out.fr0 f2); have RX2 := Lib.hid (range_keep RX.out f2 id); have L2 := Lib.hid (HL.out.keep (F1.out.trans0 f2)); clear f2))
    go_ret
    exact AddRk.no H0.out F2.out AE.out (by decide)
  · have D := Lib.hid (decide_eq_false hin)
    have AE := Lib.hid ae
    have HKN := Lib.hid hkn
    clear ae hin hkn
    go_enter Try.func21, Try.ntmps21
    go_wp2_with (first | ((with_reducible refine at_dst 10 ?_); refine wpList_vG rfl (exec_load (ty := 30) rfl rfl RX.out uK rK (by rw [HX.out]; exact infoHash)) ?_; generalize w.alloc (.cells (hashC x).toArray 30) = w1 at *; generalize hq : w.heap.size = q0 at *) | (go_at_call 29; refine (has_R H1.out (by omega) XOK.out).mono ?_; rintro e w2 ⟨rfl, f2⟩; rw [D.out]; have F2 := Lib.hid (F1.out.trans0 f2); have F12 := Lib.hid f2; have H2 := Lib.hid (H1.out.fr0 f2); have RX2 := Lib.hid (range_keep RX.out f2 id); have L2 := Lib.hid (HL.out.keep (F1.out.trans0 f2)); clear f2))
    go_loopw [14] (fun iv wr => ∃ n : Nat, iv = .int .i64 n ∧ n ≤ l.length ∧ (∀ p ∈ l.take n, p ∈ ids G) ∧ Fr No w2 wr) (fun iv _ => l.length - (intOf iv).toNat)
    case atStart => exact ⟨0, rfl, Nat.zero_le _, by simp, Fr.refl _ _⟩
    case round =>
      obtain ⟨n, rfl, hn, hni, fr⟩ := hrel
      have FR := Lib.hid fr
      have NI := Lib.hid hni
      clear fr hni
      by_cases h : n < l.length
      · have i1 : (n : Int) < (l.length : Int) := by omega
        obtain ⟨y, hy⟩ : ∃ y, l[n]? = some y := ⟨_, List.getElem?_eq_getElem h⟩
        obtain ⟨b, off, cap, hv, hr, -⟩ := (L2.out.keep FR.out).at_ hy
        cases hv
        have YM := Lib.hid (List.mem_of_getElem? hy)
        have YOK := Lib.hid (L2.out.1 y YM.out)
        have YL := Lib.hid (hashC_len YOK.out)
        have R1 := Lib.hid hr
        have RN := Lib.hid (range_new wr (hashC y) 30)
        have fa := (Fr.refl No wr).alloc (.cells (hashC y).toArray 30)
        have FA := Lib.hid (FR.out.trans0 fa)
        have HA := Lib.hid ((H2.out.fr0 FR.out).fr0 fa)
        have HT := Lib.hid (show l.take (n + 1) = l.take n ++ [y] by rw [List.take_add_one, hy]; rfl)
        clear hy hr fa
        by_cases hyi : y ∈ ids G
        · have D2 := Lib.hid (decide_eq_true hyi)
          have NI2 := Lib.hid (show ∀ p ∈ l.take (n + 1), p ∈ ids G by rw [HT.out]; intro p hp; rcases List.mem_append.1 hp with hp | hp; exact NI.out p hp; rw [List.mem_singleton.1 hp]; exact hyi)
          go_wp2_with (first | ((with_reducible refine at_dst 17 ?_); refine wpList_vG rfl (exec_load (ty := 30) rfl rfl R1.out uK rK (by rw [YL.out]; exact infoHash)) ?_) | ((with_reducible refine at_store ?_); refine wpList_done rfl (exec_store_new (w := wr) (ty := 30) (cs := hashC y) rfl rfl rfl (by rw [YL.out]; rfl) (by rw [YL.out]; exact infoHash) hashC_one) ?_; generalize wr.alloc (.cells (hashC y).toArray 30) = w5 at *; generalize wr.heap.size = q5 at *) | ((with_reducible refine at_dst 19 ?_); refine wpList_vG rfl (exec_load (ty := 30) rfl rfl RN.out uK rK (by rw [YL.out]; exact infoHash)) ?_) | (go_at_call 29; refine (has_R HA.out (by omega) YOK.out).mono ?_; rintro e w6 ⟨rfl, f6⟩; rw [D2.out]; have F6 := Lib.hid (FA.out.trans0 f6); clear f6))
          go_roundw
          case rel => exact ⟨n + 1, by simp, by omega, NI2.out, F6.out⟩
          case measure => show l.length - (n + 1) < l.length - n; omega
        · have D2 := Lib.hid (decide_eq_false hyi)
          go_wp2_with (first | ((with_reducible refine at_dst 17 ?_); refine wpList_vG rfl (exec_load (ty := 30) rfl rfl R1.out uK rK (by rw [YL.out]; exact infoHash)) ?_) | ((with_reducible refine at_store ?_); refine wpList_done rfl (exec_store_new (w := wr) (ty := 30) (cs := hashC y) rfl rfl rfl (by rw [YL.out]; rfl) (by rw [YL.out]; exact infoHash) hashC_one) ?_; generalize wr.alloc (.cells (hashC y).toArray 30) = w5 at *; generalize wr.heap.size = q5 at *) | ((with_reducible refine at_dst 19 ?_); refine wpList_vG rfl (exec_load (ty := 30) rfl rfl RN.out uK rK (by rw [YL.out]; exact infoHash)) ?_) | (go_at_call 29; refine (has_R HA.out (by omega) YOK.out).mono ?_; rintro e w6 ⟨rfl, f6⟩; rw [D2.out]; have F6 := Lib.hid (FA.out.trans0 f6); clear f6))
          go_ret
          exact AddRk.no H0.out (F2.out.trans0 F6.out) AE.out (by decide)
      · have i1 : ¬ (n : Int) < (l.length : Int) := by omega
        exfalso
        obtain ⟨y, hy, hn2⟩ := HKN.out
        have := NI.out
        rw [show n = l.length by omega, List.take_length] at this
        exact hn2 (this y hy)
  · have D := Lib.hid (decide_eq_false hin)
    have AE := Lib.hid ae
    have HKN := Lib.hid hkn
    have e6 : (6 : Int) ≤ ((upS G l).length : Int) := by omega
    have e7 : ¬ ((upS G l).length : Int) < 6 := by omega
    clear ae hin hkn h6
    go_enter Try.func21, Try.ntmps21
    go_wp2_with (first | ((with_reducible refine at_dst 10 ?_); refine wpList_vG rfl (exec_load (ty := 30) rfl rfl RX.out uK rK (by rw [HX.out]; exact infoHash)) ?_; generalize w.alloc (.cells (hashC x).toArray 30) = w1 at *; generalize hq : w.heap.size = q0 at *) | (go_at_call 29; refine (has_R H1.out (by omega) XOK.out).mono ?_; rintro e w2 ⟨rfl, f2⟩; rw [D.out]; have F2 := Lib.hid (F1.out.trans0 f2); have F12 := Lib.hid f2; have H2 := Lib.hid (H1.out.fr0 f2); have RX2 := Lib.hid (range_keep RX.out f2 id); have L2 := Lib.hid (HL.out.keep (F1.out.trans0 f2)); clear f2))
    go_loopw [14] (fun iv wr => ∃ n : Nat, iv = .int .i64 n ∧ n ≤ l.length ∧ (∀ p ∈ l.take n, p ∈ ids G) ∧ Fr No w2 wr) (fun iv _ => l.length - (intOf iv).toNat)
    case atStart => exact ⟨0, rfl, Nat.zero_le _, by simp, Fr.refl _ _⟩
    case round =>
      obtain ⟨n, rfl, hn, hni, fr⟩ := hrel
      have FR := Lib.hid fr
      have NI := Lib.hid hni
      clear fr hni
      by_cases h : n < l.length
      · have i1 : (n : Int) < (l.length : Int) := by omega
        obtain ⟨y, hy⟩ : ∃ y, l[n]? = some y := ⟨_, List.getElem?_eq_getElem h⟩
        obtain ⟨b, off, cap, hv, hr, -⟩ := (L2.out.keep FR.out).at_ hy
        cases hv
        have YM := Lib.hid (List.mem_of_getElem? hy)
        have YOK := Lib.hid (L2.out.1 y YM.out)
        have YL := Lib.hid (hashC_len YOK.out)
        have R1 := Lib.hid hr
        have RN := Lib.hid (range_new wr (hashC y) 30)
        have fa := (Fr.refl No wr).alloc (.cells (hashC y).toArray 30)
        have FA := Lib.hid (FR.out.trans0 fa)
        have HA := Lib.hid ((H2.out.fr0 FR.out).fr0 fa)
        have HT := Lib.hid (show l.take (n + 1) = l.take n ++ [y] by rw [List.take_add_one, hy]; rfl)
        clear hy hr fa
        have hyi : y ∈ ids G := HKN.out y YM.out
        have D2 := Lib.hid (decide_eq_true hyi)
        have NI2 := Lib.hid (show ∀ p ∈ l.take (n + 1), p ∈ ids G by rw [HT.out]; intro p hp; rcases List.mem_append.1 hp with hp | hp; exact NI.out p hp; rw [List.mem_singleton.1 hp]; exact hyi)
        go_wp2_with (first | ((with_reducible refine at_dst 17 ?_); refine wpList_vG rfl (exec_load (ty := 30) rfl rfl R1.out uK rK (by rw [YL.out]; exact infoHash)) ?_) | ((with_reducible refine at_store ?_); refine wpList_done rfl (exec_store_new (w := wr) (ty := 30) (cs := hashC y) rfl rfl rfl (by rw [YL.out]; rfl) (by rw [YL.out]; exact infoHash) hashC_one) ?_; generalize wr.alloc (.cells (hashC y).toArray 30) = w5 at *; generalize wr.heap.size = q5 at *) | ((with_reducible refine at_dst 19 ?_); refine wpList_vG rfl (exec_load (ty := 30) rfl rfl RN.out uK rK (by rw [YL.out]; exact infoHash)) ?_) | (go_at_call 29; refine (has_R HA.out (by omega) YOK.out).mono ?_; rintro e w6 ⟨rfl, f6⟩; rw [D2.out]; have F6 := Lib.hid (FA.out.trans0 f6); clear f6))
        go_roundw
        case rel => exact ⟨n + 1, by simp, by omega, NI2.out, F6.out⟩
        case measure => show l.length - (n + 1) < l.length - n; omega
      · have i1 : ¬ (n : Int) < (l.length : Int) := by omega
        go_wp2_with (first | (go_at_call 25; refine (up_R (H2.out.fr0 FR.out) OK.out (by omega) (L2.out.keep FR.out) (by omega)).mono ?_; rintro e w7 ⟨v7, rfl, o7⟩; have F7 := Lib.hid (F2.out.trans0 (FR.out.trans0 o7.2)); have F27 := Lib.hid (FR.out.trans0 o7.2); obtain ⟨a7, c7, rfl⟩ := o7.1.slice.arg.form; clear o7))
        go_ret
        exact AddRk.no H0.out F7.out AE.out (by decide)
  · have D := Lib.hid (decide_eq_false hin)
    have AE := Lib.hid ae
    have HKN := Lib.hid hkn
    have e6 : ¬ (6 : Int) ≤ ((upS G l).length : Int) := by omega
    have e7 : ((upS G l).length : Int) < 6 := by omega
    clear ae hin hkn h6
    go_enter Try.func21, Try.ntmps21
    go_wp2_with (first | ((with_reducible refine at_dst 10 ?_); refine wpList_vG rfl (exec_load (ty := 30) rfl rfl RX.out uK rK (by rw [HX.out]; exact infoHash)) ?_; generalize w.alloc (.cells (hashC x).toArray 30) = w1 at *; generalize hq : w.heap.size = q0 at *) | (go_at_call 29; refine (has_R H1.out (by omega) XOK.out).mono ?_; rintro e w2 ⟨rfl, f2⟩; rw [D.out]; have F2 := Lib.hid (F1.out.trans0 f2); have F12 := Lib.hid f2; have H2 := Lib.hid (H1.out.fr0 f2); have RX2 := Lib.hid (range_keep RX.out f2 id); have L2 := Lib.hid (HL.out.keep (F1.out.trans0 f2)); clear f2))
    go_loopw [14] (fun iv wr => ∃ n : Nat, iv = .int .i64 n ∧ n ≤ l.length ∧ (∀ p ∈ l.take n, p ∈ ids G) ∧ Fr No w2 wr) (fun iv _ => l.length - (intOf iv).toNat)
    case atStart => exact ⟨0, rfl, Nat.zero_le _, by simp, Fr.refl _ _⟩
    case round =>
      obtain ⟨n, rfl, hn, hni, fr⟩ := hrel
      have FR := Lib.hid fr
      have NI := Lib.hid hni
      clear fr hni
      by_cases h : n < l.length
      · have i1 : (n : Int) < (l.length : Int) := by omega
        obtain ⟨y, hy⟩ : ∃ y, l[n]? = some y := ⟨_, List.getElem?_eq_getElem h⟩
        obtain ⟨b, off, cap, hv, hr, -⟩ := (L2.out.keep FR.out).at_ hy
        cases hv
        have YM := Lib.hid (List.mem_of_getElem? hy)
        have YOK := Lib.hid (L2.out.1 y YM.out)
        have YL := Lib.hid (hashC_len YOK.out)
        have R1 := Lib.hid hr
        have RN := Lib.hid (range_new wr (hashC y) 30)
        have fa := (Fr.refl No wr).alloc (.cells (hashC y).toArray 30)
        have FA := Lib.hid (FR.out.trans0 fa)
        have HA := Lib.hid ((H2.out.fr0 FR.out).fr0 fa)
        have HT := Lib.hid (show l.take (n + 1) = l.take n ++ [y] by rw [List.take_add_one, hy]; rfl)
        clear hy hr fa
        have hyi : y ∈ ids G := HKN.out y YM.out
        have D2 := Lib.hid (decide_eq_true hyi)
        have NI2 := Lib.hid (show ∀ p ∈ l.take (n + 1), p ∈ ids G by rw [HT.out]; intro p hp; rcases List.mem_append.1 hp with hp | hp; exact NI.out p hp; rw [List.mem_singleton.1 hp]; exact hyi)
        go_wp2_with (first | ((with_reducible refine at_dst 17 ?_); refine wpList_vG rfl (exec_load (ty := 30) rfl rfl R1.out uK rK (by rw [YL.out]; exact infoHash)) ?_) | ((with_reducible refine at_store ?_); refine wpList_done rfl (exec_store_new (w := wr) (ty := 30) (cs := hashC y) rfl rfl rfl (by rw [YL.out]; rfl) (by rw [YL.out]; exact infoHash) hashC_one) ?_; generalize wr.alloc (.cells (hashC y).toArray 30) = w5 at *; generalize wr.heap.size = q5 at *) | ((with_reducible refine at_dst 19 ?_); refine wpList_vG rfl (exec_load (ty := 30) rfl rfl RN.out uK rK (by rw [YL.out]; exact infoHash)) ?_) | (go_at_call 29; refine (has_R HA.out (by omega) YOK.out).mono ?_; rintro e w6 ⟨rfl, f6⟩; rw [D2.out]; have F6 := Lib.hid (FA.out.trans0 f6); clear f6))
        go_roundw
        case rel => exact ⟨n + 1, by simp, by omega, NI2.out, F6.out⟩
        case measure => show l.length - (n + 1) < l.length - n; omega
      · have i1 : ¬ (n : Int) < (l.length : Int) := by omega
        go_upto_region 11 with (first | (go_at_call 25; refine (up_R (H2.out.fr0 FR.out) OK.out (by omega) (L2.out.keep FR.out) (by omega)).mono ?_; rintro e w7 ⟨v7, rfl, o7⟩; have F7 := Lib.hid (F2.out.trans0 (FR.out.trans0 o7.2)); have F27 := Lib.hid (FR.out.trans0 o7.2); obtain ⟨a7, c7, rfl⟩ := o7.1.slice.arg.form; clear o7))
        have f := (Fr.refl No w7).drew
        have F0 := Lib.hid (F27.out.trans0 f)
        have FW := Lib.hid (F7.out.trans0 f)
        obtain ⟨lv0, R, hobj, hrow, hs, hrn, hU, hUp⟩ := (H2.out.fr0 F0.out).ex
        obtain ⟨la, lc, rfl⟩ := hrow.slice.arg.form
        have OB := Lib.hid hobj
        have c0 : w7.drew.cell? ⟨q, 0, none⟩ = some (.slice la R.length lc) := by simp [World.cell?, hobj]
        have C0 := Lib.hid c0
        have RW := Lib.hid hrow
        have SM := Lib.hid hs
        have RNS := Lib.hid hrn
        have HU := Lib.hid hU
        have HUp := Lib.hid hUp
        have RX0 := Lib.hid (range_keep RX2.out F0.out id)
        have L0 := Lib.hid (L2.out.keep F0.out)
        have rl : R.length ≤ 800 := by rw [hs.len]; exact hG
        have N1 := Lib.hid (nodes_one hrn)
        have NLEN := Lib.hid (nodes_len hrn)
        have HQ := Lib.hid (H2.out.fr0 F0.out)
        clear hobj hrow hs hrn hU hUp c0 f F27 F12 FR RX2 L2 H1 H2 RX
        refine wp_region_lexU 17 16 [0, 1, 2, 3, 4, 5, 6, 7, 8, 9, 10, 11, 12, 13, 14, 15, 16] (fun w' => w'.cell? ⟨q, 0, none⟩ = some (.slice la R.length lc) ∧ w'.rangeAt q0 0 (hashC x)) (by kernel_rfl) (by kernel_rfl) (by kernel_rfl) (by kernel_rfl) (by kernel_rfl) ?_ (fun K hK => ?_)
        · exact ⟨C0.out, RX0.out⟩
        have F := Lib.hid (Fr.refl No w7.drew)
        generalize w7.drew = kb at *
        have LB := Lib.hid (Nat.le_refl kb.heap.size)
        have FIN := Lib.hid (show ∀ (a10 : Option Addr) (c10 : Nat) (a13 : Option Addr) (c13 : Nat) (w13 : World), Fr No kb w13 → w13.ownsRow kb.heap.size 30 32 (.slice a10 l.length c10) l.length (l.flatMap hashC) → w13.ownsRow kb.heap.size 63 33 (.slice a13 (R.length + 1) c13) (R.length + 1) (nodesC R ++ nodeC x (.slice a10 l.length c10)) → AddRk w0 w q U G x l (.returned (.int .i64 0)) (w13.setCell ⟨q, 0, none⟩ (.slice a13 (R.length + 1) c13)) from by
          intro a10 c10 a13 c13 w13 F P13 OO
          have fs : Fr (fun j => j = q) w13 (w13.setCell ⟨q, 0, none⟩ (.slice a13 (R.length + 1) c13)) := (Fr.refl (fun j => j = q) w13).setCell ⟨q, 0, none⟩ (.inr rfl) _
          have ql := HQ.out.hi q HQ.out.uq
          have kw := FW.out.size
          have kb0 := H0.out.fr.size
          have nq : ∀ {e : TypeId} {k m : Nat} {v : Value} {xs : List Value}, w13.ownsRow kb.heap.size e k v m xs → ∀ j, v.ownBlock = some j → ¬ j = q := fun ho j e => by have := (ho.lt j e).1; omega
          have e1 : (R ++ [(⟨x, l, .slice a10 l.length c10⟩ : RN)]).length = R.length + 1 := by simp
          have e2 : nodesC (R ++ [(⟨x, l, .slice a10 l.length c10⟩ : RN)]) = nodesC R ++ nodeC x (.slice a10 l.length c10) := by simp [nodesC, RN.cells]
          refine ⟨by rw [AE.out], fun j => U j ∨ kb.heap.size ≤ j ∧ j < w13.heap.size, ?_, ?_, fun j hj => hj.imp id (fun h => by omega)⟩
          · rw [if_pos AE.out]
            refine ⟨⟨.slice a13 (R.length + 1) c13, R ++ [⟨x, l, .slice a10 l.length c10⟩], ?_, ?_, SM.out.app ⟨⟨rfl, fun y => mem_dedup.symm⟩, trivial⟩, fun r hr => ?_, fun j e => ⟨.inr (OO.lt j e), nq OO j e⟩, fun r hr j e => ?_⟩, .inl HQ.out.uq, fun j hj => ?_, fun j hj => ?_, ?_⟩
            · have := heap_setCell_same w13 q 0 _ _ (.slice a13 (R.length + 1) c13) (F.obj OB.out id)
              simpa using this
            · rw [e1, e2]
              exact own_base (ownsRow_keep OO fs (nq OO)) (by have := F.size; omega)
            · rcases List.mem_append.1 hr with hr | hr
              · exact (((RNS.out r hr).keep F (fun _ _ => id)).keep fs (fun j e h => (HUp.out r hr j e).2 h))
              · rw [List.mem_singleton.1 hr]
                exact ⟨XOK.out, own_base (ownsRow_keep P13 fs (nq P13)) (by have := F.size; omega), L0.out.1, hl2⟩
            · rcases List.mem_append.1 hr with hr | hr
              · exact ⟨.inl (HUp.out r hr j e).1, (HUp.out r hr j e).2⟩
              · rw [List.mem_singleton.1 hr] at e
                exact ⟨.inr (P13.lt j e), nq P13 j e⟩
            · rcases hj with hj | hj
              · exact HQ.out.lo j hj
              · omega
            · have := fs.size
              rcases hj with hj | hj
              · have := HQ.out.hi j hj; have := F.size; omega
              · omega
            · exact (HQ.out.fr.trans0 F).trans fs (fun i hi e => by have := HQ.out.lo q HQ.out.uq; omega)
          · exact ((FW.out.trans0 F).of0 (W := U)).trans fs (fun i hi e => by rw [e]; exact HQ.out.uq))
        (((first | (refine lexU_rd 0 (by kernel_rfl) rfl rfl ?_; apply Exists.intro; refine ⟨?_, ?_⟩; (focus (first | exact lex_load (ty := 30) rfl (fun w h => h.2) uK rK (by rw [HX.out]; exact infoHash) | exact fun w' h => exec_build (t := 63) (n := 33) (pl := [(0, 32), (32, 1)]) (vs := [(0, .agg (hashC x).toArray), (1, .slice a10 l.length c10)]) (cs := nodeC x (.slice a10 l.length c10)) rfl rfl (by kernel_rfl) ⟨by simp [Value.cells, HX.out], ⟨by simp [Value.cells, HX.out], trivial⟩⟩ (by simp [partsC, Value.cells, nodeC]) NL.out | (intro w' hS; obtain ⟨s1, s2⟩ := hS; go_simp; (try with_reducible rfl); done)))) | (refine lexU_sk 0 (by kernel_rfl) rfl rfl ?_)); try simp only [Act.put, List.setIfInBounds_toArray, List.set_cons_zero, List.set_cons_succ]); ((first | (refine lexU_rd 2 (by kernel_rfl) rfl rfl ?_; apply Exists.intro; refine ⟨?_, ?_⟩; (focus (first | exact lex_load (ty := 30) rfl (fun w h => h.2) uK rK (by rw [HX.out]; exact infoHash) | exact fun w' h => exec_build (t := 63) (n := 33) (pl := [(0, 32), (32, 1)]) (vs := [(0, .agg (hashC x).toArray), (1, .slice a10 l.length c10)]) (cs := nodeC x (.slice a10 l.length c10)) rfl rfl (by kernel_rfl) ⟨by simp [Value.cells, HX.out], ⟨by simp [Value.cells, HX.out], trivial⟩⟩ (by simp [partsC, Value.cells, nodeC]) NL.out | (intro w' hS; obtain ⟨s1, s2⟩ := hS; go_simp; (try with_reducible rfl); done)))) | (refine lexU_sk 2 (by kernel_rfl) rfl rfl ?_)); try simp only [Act.put, List.setIfInBounds_toArray, List.set_cons_zero, List.set_cons_succ]); ((first | (refine lexU_rd 3 (by kernel_rfl) rfl rfl ?_; apply Exists.intro; refine ⟨?_, ?_⟩; (focus (first | exact lex_load (ty := 30) rfl (fun w h => h.2) uK rK (by rw [HX.out]; exact infoHash) | exact fun w' h => exec_build (t := 63) (n := 33) (pl := [(0, 32), (32, 1)]) (vs := [(0, .agg (hashC x).toArray), (1, .slice a10 l.length c10)]) (cs := nodeC x (.slice a10 l.length c10)) rfl rfl (by kernel_rfl) ⟨by simp [Value.cells, HX.out], ⟨by simp [Value.cells, HX.out], trivial⟩⟩ (by simp [partsC, Value.cells, nodeC]) NL.out | (intro w' hS; obtain ⟨s1, s2⟩ := hS; go_simp; (try with_reducible rfl); done)))) | (refine lexU_sk 3 (by kernel_rfl) rfl rfl ?_)); try simp only [Act.put, List.setIfInBounds_toArray, List.set_cons_zero, List.set_cons_succ]); ((first | (refine lexU_rd 4 (by kernel_rfl) rfl rfl ?_; apply Exists.intro; refine ⟨?_, ?_⟩; (focus (first | exact lex_load (ty := 30) rfl (fun w h => h.2) uK rK (by rw [HX.out]; exact infoHash) | exact fun w' h => exec_build (t := 63) (n := 33) (pl := [(0, 32), (32, 1)]) (vs := [(0, .agg (hashC x).toArray), (1, .slice a10 l.length c10)]) (cs := nodeC x (.slice a10 l.length c10)) rfl rfl (by kernel_rfl) ⟨by simp [Value.cells, HX.out], ⟨by simp [Value.cells, HX.out], trivial⟩⟩ (by simp [partsC, Value.cells, nodeC]) NL.out | (intro w' hS; obtain ⟨s1, s2⟩ := hS; go_simp; (try with_reducible rfl); done)))) | (refine lexU_sk 4 (by kernel_rfl) rfl rfl ?_)); try simp only [Act.put, List.setIfInBounds_toArray, List.set_cons_zero, List.set_cons_succ]); ((first | (refine lexU_rd 5 (by kernel_rfl) rfl rfl ?_; apply Exists.intro; refine ⟨?_, ?_⟩; (focus (first | exact lex_load (ty := 30) rfl (fun w h => h.2) uK rK (by rw [HX.out]; exact infoHash) | exact fun w' h => exec_build (t := 63) (n := 33) (pl := [(0, 32), (32, 1)]) (vs := [(0, .agg (hashC x).toArray), (1, .slice a10 l.length c10)]) (cs := nodeC x (.slice a10 l.length c10)) rfl rfl (by kernel_rfl) ⟨by simp [Value.cells, HX.out], ⟨by simp [Value.cells, HX.out], trivial⟩⟩ (by simp [partsC, Value.cells, nodeC]) NL.out | (intro w' hS; obtain ⟨s1, s2⟩ := hS; go_simp; (try with_reducible rfl); done)))) | (refine lexU_sk 5 (by kernel_rfl) rfl rfl ?_)); try simp only [Act.put, List.setIfInBounds_toArray, List.set_cons_zero, List.set_cons_succ]); ((first | (refine lexU_rd 7 (by kernel_rfl) rfl rfl ?_; apply Exists.intro; refine ⟨?_, ?_⟩; (focus (first | exact lex_load (ty := 30) rfl (fun w h => h.2) uK rK (by rw [HX.out]; exact infoHash) | exact fun w' h => exec_build (t := 63) (n := 33) (pl := [(0, 32), (32, 1)]) (vs := [(0, .agg (hashC x).toArray), (1, .slice a10 l.length c10)]) (cs := nodeC x (.slice a10 l.length c10)) rfl rfl (by kernel_rfl) ⟨by simp [Value.cells, HX.out], ⟨by simp [Value.cells, HX.out], trivial⟩⟩ (by simp [partsC, Value.cells, nodeC]) NL.out | (intro w' hS; obtain ⟨s1, s2⟩ := hS; go_simp; (try with_reducible rfl); done)))) | (refine lexU_sk 7 (by kernel_rfl) rfl rfl ?_)); try simp only [Act.put, List.setIfInBounds_toArray, List.set_cons_zero, List.set_cons_succ]); ((first | (refine lexU_rd 9 (by kernel_rfl) rfl rfl ?_; apply Exists.intro; refine ⟨?_, ?_⟩; (focus (first | exact lex_load (ty := 30) rfl (fun w h => h.2) uK rK (by rw [HX.out]; exact infoHash) | exact fun w' h => exec_build (t := 63) (n := 33) (pl := [(0, 32), (32, 1)]) (vs := [(0, .agg (hashC x).toArray), (1, .slice a10 l.length c10)]) (cs := nodeC x (.slice a10 l.length c10)) rfl rfl (by kernel_rfl) ⟨by simp [Value.cells, HX.out], ⟨by simp [Value.cells, HX.out], trivial⟩⟩ (by simp [partsC, Value.cells, nodeC]) NL.out | (intro w' hS; obtain ⟨s1, s2⟩ := hS; go_simp; (try with_reducible rfl); done)))) | (refine lexU_sk 9 (by kernel_rfl) rfl rfl ?_)); try simp only [Act.put, List.setIfInBounds_toArray, List.set_cons_zero, List.set_cons_succ]))
        refine lexU_ef2 1 8 (by kernel_rfl) rfl rfl rfl rfl (fun K' hK' => ?_) (fun K' hK' => ?_)
        · go_simp
          have f := (Fr.refl No kb).alloc (.cells #[] 63)
          (try replace E8 := Lib.hid (ownsRow_keep E8.out f (fun _ _ => id)))
          have E1 := Lib.hid (own_base (own_madeN kb) (show kb.heap.size ≤ kb.heap.size from F.out.size))
          replace F := Lib.hid (F.out.trans0 f)
          clear f
          refine hK'.out _ _ (fun _ => ?_) (fun hS => ?_)
          · exact ⟨F.out.cell C0.out id, range_keep RX0.out F.out id⟩
          try simp only [Act.put, List.setIfInBounds_toArray, List.set_cons_zero, List.set_cons_succ]
          clear hS hK' K'
          generalize kb.alloc (.cells #[] 63) = k1 at *
          refine lexU_ef2 6 8 (by kernel_rfl) rfl rfl rfl rfl (fun K' hK' => ?_) (fun K' hK' => ?_)
          · obtain ⟨v6, k2, ap, oo, ff, -⟩ := append_sl (P := Try.prog) k1 kb.heap.size 41 41 63 33 56 _ undRNs infoRNZ rfl (by decide) _ 0 [] E1.out (.slice la R.length lc) R.length (nodesC R) (ownsRow_keep RW.out F.out (fun _ _ => id)).slice NLEN.out N1.out (by omega) (by unfold maxLen; omega) F.out.size
            refine wp_append_run rfl rfl rfl ap ?_
            (try replace E8 := Lib.hid (ownsRow_keep E8.out ff (fun j e h => own_types E8.out E1.out (by decide) j e h)))
            replace F := Lib.hid (own_fr F.out E1.out (Nat.le_refl _) ff)
            have N6 := Lib.hid (show k2.ownsRow kb.heap.size 63 33 v6 R.length (nodesC R) by have := oo; rw [Nat.zero_add, List.nil_append] at this; exact this)
            clear ap oo ff E1
            refine hK'.out _ _ (fun _ => ?_) (fun hS => ?_)
            · exact ⟨F.out.cell C0.out id, range_keep RX0.out F.out id⟩
            try simp only [Act.put, List.setIfInBounds_toArray, List.set_cons_zero, List.set_cons_succ]
            clear hS hK' K'
            refine lexU_ef1 8 (by kernel_rfl) rfl rfl (fun K' hK' => ?_)
            go_simp
            have f := (Fr.refl No k2).alloc (.cells #[] 30)
            (try replace E1 := Lib.hid (ownsRow_keep E1.out f (fun _ _ => id)))
            (try replace N6 := Lib.hid (ownsRow_keep N6.out f (fun _ _ => id)))
            have E8 := Lib.hid (own_base (own_made k2) (show kb.heap.size ≤ k2.heap.size from F.out.size))
            replace F := Lib.hid (F.out.trans0 f)
            clear f
            refine hK'.out _ _ (fun _ => ?_) (fun hS => ?_)
            · exact ⟨F.out.cell C0.out id, range_keep RX0.out F.out id⟩
            try simp only [Act.put, List.setIfInBounds_toArray, List.set_cons_zero, List.set_cons_succ]
            clear hS hK' K'
            generalize k2.alloc (.cells #[] 30) = k3 at *
            generalize k2.heap.size = q4 at *
            refine lexU_ef1 10 (by kernel_rfl) rfl rfl (fun K' hK' => ?_)
            obtain ⟨v10, k5, ap, oo, ff, -⟩ := append_many k3 E8.out (L0.out.keep F.out) (by simp; omega) F.out.size
            refine wp_append_run rfl rfl rfl ap ?_
            replace N6 := Lib.hid (ownsRow_keep N6.out ff (fun j e h => own_types N6.out E8.out (by decide) j e h))
            replace F := Lib.hid (own_fr F.out E8.out (Nat.le_refl _) ff)
            rw [List.nil_append] at oo
            have P10 := Lib.hid oo
            obtain ⟨a10, c10, rfl⟩ := oo.slice.arg.form
            have NL := Lib.hid (nodeC_len (v := .slice a10 l.length c10) XOK.out)
            clear ap oo ff E8
            refine hK'.out _ _ (fun _ => ?_) (fun hS => ?_)
            · exact ⟨F.out.cell C0.out id, range_keep RX0.out F.out id⟩
            try simp only [Act.put, List.setIfInBounds_toArray, List.set_cons_zero, List.set_cons_succ]
            clear hS hK' K'
            (((first | (refine lexU_rd 11 (by kernel_rfl) rfl rfl ?_; apply Exists.intro; refine ⟨?_, ?_⟩; (focus (first | exact lex_load (ty := 30) rfl (fun w h => h.2) uK rK (by rw [HX.out]; exact infoHash) | exact fun w' h => exec_build (t := 63) (n := 33) (pl := [(0, 32), (32, 1)]) (vs := [(0, .agg (hashC x).toArray), (1, .slice a10 l.length c10)]) (cs := nodeC x (.slice a10 l.length c10)) rfl rfl (by kernel_rfl) ⟨by simp [Value.cells, HX.out], ⟨by simp [Value.cells, HX.out], trivial⟩⟩ (by simp [partsC, Value.cells, nodeC]) NL.out | (intro w' hS; obtain ⟨s1, s2⟩ := hS; go_simp; (try with_reducible rfl); done)))) | (refine lexU_sk 11 (by kernel_rfl) rfl rfl ?_)); try simp only [Act.put, List.setIfInBounds_toArray, List.set_cons_zero, List.set_cons_succ]))
            refine lexU_ef1 12 (by kernel_rfl) rfl rfl (fun K' hK' => ?_)
            refine wp_value (exec_buildSliceA (t := 41) rfl rfl undRNs infoRNZ2 rfl (by decide) (by decide) NL.out) ?_
            have f := (Fr.refl No k5).alloc (.cells (nodeC x (.slice a10 l.length c10)).toArray 63)
            obtain ⟨v13, w13, ap, oo, ff, -, -⟩ := append_blk (P := Try.prog) k5 kb.heap.size 41 41 63 33 56 _ undRNs infoRNZ rfl (by decide) N6.out (nodeC x (.slice a10 l.length c10)) NL.out nodeC_one (by omega) (by unfold maxLen; omega) F.out.size
            have AP := Lib.hid ap
            have OO := Lib.hid oo
            have P13 := Lib.hid (ownsRow_keep P10.out ff (fun j e h => own_types P10.out N6.out (by decide) j e h))
            have F13 := Lib.hid (own_fr F.out N6.out (Nat.le_refl _) ff)
            replace F := Lib.hid (F.out.trans0 f)
            clear ap oo ff f P10 N6
            refine hK'.out _ _ (fun _ => ?_) (fun hS => ?_)
            · exact ⟨F.out.cell C0.out id, range_keep RX0.out F.out id⟩
            try simp only [Act.put, List.setIfInBounds_toArray, List.set_cons_zero, List.set_cons_succ]
            clear hS hK' K'
            generalize k5.alloc (.cells (nodeC x (.slice a10 l.length c10)).toArray 63) = k6 at *
            generalize k5.heap.size = q7 at *
            refine lexU_ef1 13 (by kernel_rfl) rfl rfl (fun K' hK' => ?_)
            refine wp_append_run rfl rfl rfl AP.out ?_
            clear AP F
            have F := F13
            refine hK'.out _ _ (fun _ => ?_) (fun hS => ?_)
            · exact ⟨F.out.cell C0.out id, range_keep RX0.out F.out id⟩
            try simp only [Act.put, List.setIfInBounds_toArray, List.set_cons_zero, List.set_cons_succ]
            clear hS hK' K'
            have z3 := unfrozen (i := 0) (F.out.obj OB.out id)
            have c3 := F.out.cell C0.out id
            obtain ⟨a13, c13, rfl⟩ := OO.out.slice.arg.form
            (((first | (refine lexU_rd 14 (by kernel_rfl) rfl rfl ?_; apply Exists.intro; refine ⟨?_, ?_⟩; (focus (first | exact lex_load (ty := 30) rfl (fun w h => h.2) uK rK (by rw [HX.out]; exact infoHash) | exact fun w' h => exec_build (t := 63) (n := 33) (pl := [(0, 32), (32, 1)]) (vs := [(0, .agg (hashC x).toArray), (1, .slice a10 l.length c10)]) (cs := nodeC x (.slice a10 l.length c10)) rfl rfl (by kernel_rfl) ⟨by simp [Value.cells, HX.out], ⟨by simp [Value.cells, HX.out], trivial⟩⟩ (by simp [partsC, Value.cells, nodeC]) NL.out | (intro w' hS; obtain ⟨s1, s2⟩ := hS; go_simp; (try with_reducible rfl); done)))) | (refine lexU_sk 14 (by kernel_rfl) rfl rfl ?_)); try simp only [Act.put, List.setIfInBounds_toArray, List.set_cons_zero, List.set_cons_succ]); ((first | (refine lexU_rd 15 (by kernel_rfl) rfl rfl ?_; apply Exists.intro; refine ⟨?_, ?_⟩; (focus (first | exact lex_load (ty := 30) rfl (fun w h => h.2) uK rK (by rw [HX.out]; exact infoHash) | exact fun w' h => exec_build (t := 63) (n := 33) (pl := [(0, 32), (32, 1)]) (vs := [(0, .agg (hashC x).toArray), (1, .slice a10 l.length c10)]) (cs := nodeC x (.slice a10 l.length c10)) rfl rfl (by kernel_rfl) ⟨by simp [Value.cells, HX.out], ⟨by simp [Value.cells, HX.out], trivial⟩⟩ (by simp [partsC, Value.cells, nodeC]) NL.out | (intro w' hS; obtain ⟨s1, s2⟩ := hS; go_simp; (try with_reducible rfl); done)))) | (refine lexU_sk 15 (by kernel_rfl) rfl rfl ?_)); try simp only [Act.put, List.setIfInBounds_toArray, List.set_cons_zero, List.set_cons_succ]))
            refine lexU_ef1 16 (by kernel_rfl) rfl rfl (fun K' hK' => ?_)
            go_simp
            refine hK'.out _ _ (fun h => absurd rfl h) (fun hS => ?_)
            try simp only [Act.put, List.setIfInBounds_toArray, List.set_cons_zero, List.set_cons_succ]
            clear hS hK' K'
            refine lexU_nil (hK.out _ _ ?_)
            go_wp2
            go_ret
            exact FIN.out a10 c10 a13 c13 w13 F.out P13.out OO.out
          · go_simp
            have f := (Fr.refl No k1).alloc (.cells #[] 30)
            (try replace E1 := Lib.hid (ownsRow_keep E1.out f (fun _ _ => id)))
            (try replace N6 := Lib.hid (ownsRow_keep N6.out f (fun _ _ => id)))
            have E8 := Lib.hid (own_base (own_made k1) (show kb.heap.size ≤ k1.heap.size from F.out.size))
            replace F := Lib.hid (F.out.trans0 f)
            clear f
            refine hK'.out _ _ (fun _ => ?_) (fun hS => ?_)
            · exact ⟨F.out.cell C0.out id, range_keep RX0.out F.out id⟩
            try simp only [Act.put, List.setIfInBounds_toArray, List.set_cons_zero, List.set_cons_succ]
            clear hS hK' K'
            generalize k1.alloc (.cells #[] 30) = k8 at *
            generalize k1.heap.size = q9 at *
            refine lexU_ef1 6 (by kernel_rfl) rfl rfl (fun K' hK' => ?_)
            obtain ⟨v6, k10, ap, oo, ff, -⟩ := append_sl (P := Try.prog) k8 kb.heap.size 41 41 63 33 56 _ undRNs infoRNZ rfl (by decide) _ 0 [] E1.out (.slice la R.length lc) R.length (nodesC R) (ownsRow_keep RW.out F.out (fun _ _ => id)).slice NLEN.out N1.out (by omega) (by unfold maxLen; omega) F.out.size
            refine wp_append_run rfl rfl rfl ap ?_
            (try replace E8 := Lib.hid (ownsRow_keep E8.out ff (fun j e h => own_types E8.out E1.out (by decide) j e h)))
            replace F := Lib.hid (own_fr F.out E1.out (Nat.le_refl _) ff)
            have N6 := Lib.hid (show k10.ownsRow kb.heap.size 63 33 v6 R.length (nodesC R) by have := oo; rw [Nat.zero_add, List.nil_append] at this; exact this)
            clear ap oo ff E1
            refine hK'.out _ _ (fun _ => ?_) (fun hS => ?_)
            · exact ⟨F.out.cell C0.out id, range_keep RX0.out F.out id⟩
            try simp only [Act.put, List.setIfInBounds_toArray, List.set_cons_zero, List.set_cons_succ]
            clear hS hK' K'
            refine lexU_ef1 10 (by kernel_rfl) rfl rfl (fun K' hK' => ?_)
            obtain ⟨v10, k11, ap, oo, ff, -⟩ := append_many k10 E8.out (L0.out.keep F.out) (by simp; omega) F.out.size
            refine wp_append_run rfl rfl rfl ap ?_
            replace N6 := Lib.hid (ownsRow_keep N6.out ff (fun j e h => own_types N6.out E8.out (by decide) j e h))
            replace F := Lib.hid (own_fr F.out E8.out (Nat.le_refl _) ff)
            rw [List.nil_append] at oo
            have P10 := Lib.hid oo
            obtain ⟨a10, c10, rfl⟩ := oo.slice.arg.form
            have NL := Lib.hid (nodeC_len (v := .slice a10 l.length c10) XOK.out)
            clear ap oo ff E8
            refine hK'.out _ _ (fun _ => ?_) (fun hS => ?_)
            · exact ⟨F.out.cell C0.out id, range_keep RX0.out F.out id⟩
            try simp only [Act.put, List.setIfInBounds_toArray, List.set_cons_zero, List.set_cons_succ]
            clear hS hK' K'
            (((first | (refine lexU_rd 11 (by kernel_rfl) rfl rfl ?_; apply Exists.intro; refine ⟨?_, ?_⟩; (focus (first | exact lex_load (ty := 30) rfl (fun w h => h.2) uK rK (by rw [HX.out]; exact infoHash) | exact fun w' h => exec_build (t := 63) (n := 33) (pl := [(0, 32), (32, 1)]) (vs := [(0, .agg (hashC x).toArray), (1, .slice a10 l.length c10)]) (cs := nodeC x (.slice a10 l.length c10)) rfl rfl (by kernel_rfl) ⟨by simp [Value.cells, HX.out], ⟨by simp [Value.cells, HX.out], trivial⟩⟩ (by simp [partsC, Value.cells, nodeC]) NL.out | (intro w' hS; obtain ⟨s1, s2⟩ := hS; go_simp; (try with_reducible rfl); done)))) | (refine lexU_sk 11 (by kernel_rfl) rfl rfl ?_)); try simp only [Act.put, List.setIfInBounds_toArray, List.set_cons_zero, List.set_cons_succ]))
            refine lexU_ef1 12 (by kernel_rfl) rfl rfl (fun K' hK' => ?_)
            refine wp_value (exec_buildSliceA (t := 41) rfl rfl undRNs infoRNZ2 rfl (by decide) (by decide) NL.out) ?_
            have f := (Fr.refl No k11).alloc (.cells (nodeC x (.slice a10 l.length c10)).toArray 63)
            obtain ⟨v13, w13, ap, oo, ff, -, -⟩ := append_blk (P := Try.prog) k11 kb.heap.size 41 41 63 33 56 _ undRNs infoRNZ rfl (by decide) N6.out (nodeC x (.slice a10 l.length c10)) NL.out nodeC_one (by omega) (by unfold maxLen; omega) F.out.size
            have AP := Lib.hid ap
            have OO := Lib.hid oo
            have P13 := Lib.hid (ownsRow_keep P10.out ff (fun j e h => own_types P10.out N6.out (by decide) j e h))
            have F13 := Lib.hid (own_fr F.out N6.out (Nat.le_refl _) ff)
            replace F := Lib.hid (F.out.trans0 f)
            clear ap oo ff f P10 N6
            refine hK'.out _ _ (fun _ => ?_) (fun hS => ?_)
            · exact ⟨F.out.cell C0.out id, range_keep RX0.out F.out id⟩
            try simp only [Act.put, List.setIfInBounds_toArray, List.set_cons_zero, List.set_cons_succ]
            clear hS hK' K'
            generalize k11.alloc (.cells (nodeC x (.slice a10 l.length c10)).toArray 63) = k12 at *
            generalize k11.heap.size = q13 at *
            refine lexU_ef1 13 (by kernel_rfl) rfl rfl (fun K' hK' => ?_)
            refine wp_append_run rfl rfl rfl AP.out ?_
            clear AP F
            have F := F13
            refine hK'.out _ _ (fun _ => ?_) (fun hS => ?_)
            · exact ⟨F.out.cell C0.out id, range_keep RX0.out F.out id⟩
            try simp only [Act.put, List.setIfInBounds_toArray, List.set_cons_zero, List.set_cons_succ]
            clear hS hK' K'
            have z3 := unfrozen (i := 0) (F.out.obj OB.out id)
            have c3 := F.out.cell C0.out id
            obtain ⟨a13, c13, rfl⟩ := OO.out.slice.arg.form
            (((first | (refine lexU_rd 14 (by kernel_rfl) rfl rfl ?_; apply Exists.intro; refine ⟨?_, ?_⟩; (focus (first | exact lex_load (ty := 30) rfl (fun w h => h.2) uK rK (by rw [HX.out]; exact infoHash) | exact fun w' h => exec_build (t := 63) (n := 33) (pl := [(0, 32), (32, 1)]) (vs := [(0, .agg (hashC x).toArray), (1, .slice a10 l.length c10)]) (cs := nodeC x (.slice a10 l.length c10)) rfl rfl (by kernel_rfl) ⟨by simp [Value.cells, HX.out], ⟨by simp [Value.cells, HX.out], trivial⟩⟩ (by simp [partsC, Value.cells, nodeC]) NL.out | (intro w' hS; obtain ⟨s1, s2⟩ := hS; go_simp; (try with_reducible rfl); done)))) | (refine lexU_sk 14 (by kernel_rfl) rfl rfl ?_)); try simp only [Act.put, List.setIfInBounds_toArray, List.set_cons_zero, List.set_cons_succ]); ((first | (refine lexU_rd 15 (by kernel_rfl) rfl rfl ?_; apply Exists.intro; refine ⟨?_, ?_⟩; (focus (first | exact lex_load (ty := 30) rfl (fun w h => h.2) uK rK (by rw [HX.out]; exact infoHash) | exact fun w' h => exec_build (t := 63) (n := 33) (pl := [(0, 32), (32, 1)]) (vs := [(0, .agg (hashC x).toArray), (1, .slice a10 l.length c10)]) (cs := nodeC x (.slice a10 l.length c10)) rfl rfl (by kernel_rfl) ⟨by simp [Value.cells, HX.out], ⟨by simp [Value.cells, HX.out], trivial⟩⟩ (by simp [partsC, Value.cells, nodeC]) NL.out | (intro w' hS; obtain ⟨s1, s2⟩ := hS; go_simp; (try with_reducible rfl); done)))) | (refine lexU_sk 15 (by kernel_rfl) rfl rfl ?_)); try simp only [Act.put, List.setIfInBounds_toArray, List.set_cons_zero, List.set_cons_succ]))
            refine lexU_ef1 16 (by kernel_rfl) rfl rfl (fun K' hK' => ?_)
            go_simp
            refine hK'.out _ _ (fun h => absurd rfl h) (fun hS => ?_)
            try simp only [Act.put, List.setIfInBounds_toArray, List.set_cons_zero, List.set_cons_succ]
            clear hS hK' K'
            refine lexU_nil (hK.out _ _ ?_)
            go_wp2
            go_ret
            exact FIN.out a10 c10 a13 c13 w13 F.out P13.out OO.out
        · go_simp
          have f := (Fr.refl No kb).alloc (.cells #[] 30)
          (try replace E1 := Lib.hid (ownsRow_keep E1.out f (fun _ _ => id)))
          (try replace N6 := Lib.hid (ownsRow_keep N6.out f (fun _ _ => id)))
          have E8 := Lib.hid (own_base (own_made kb) (show kb.heap.size ≤ kb.heap.size from F.out.size))
          replace F := Lib.hid (F.out.trans0 f)
          clear f
          refine hK'.out _ _ (fun _ => ?_) (fun hS => ?_)
          · exact ⟨F.out.cell C0.out id, range_keep RX0.out F.out id⟩
          try simp only [Act.put, List.setIfInBounds_toArray, List.set_cons_zero, List.set_cons_succ]
          clear hS hK' K'
          generalize kb.alloc (.cells #[] 30) = k14 at *
          refine lexU_ef1 1 (by kernel_rfl) rfl rfl (fun K' hK' => ?_)
          go_simp
          have f := (Fr.refl No k14).alloc (.cells #[] 63)
          (try replace E8 := Lib.hid (ownsRow_keep E8.out f (fun _ _ => id)))
          have E1 := Lib.hid (own_base (own_madeN k14) (show kb.heap.size ≤ k14.heap.size from F.out.size))
          replace F := Lib.hid (F.out.trans0 f)
          clear f
          refine hK'.out _ _ (fun _ => ?_) (fun hS => ?_)
          · exact ⟨F.out.cell C0.out id, range_keep RX0.out F.out id⟩
          try simp only [Act.put, List.setIfInBounds_toArray, List.set_cons_zero, List.set_cons_succ]
          clear hS hK' K'
          generalize k14.alloc (.cells #[] 63) = k15 at *
          generalize k14.heap.size = q16 at *
          refine lexU_ef1 6 (by kernel_rfl) rfl rfl (fun K' hK' => ?_)
          obtain ⟨v6, k17, ap, oo, ff, -⟩ := append_sl (P := Try.prog) k15 kb.heap.size 41 41 63 33 56 _ undRNs infoRNZ rfl (by decide) _ 0 [] E1.out (.slice la R.length lc) R.length (nodesC R) (ownsRow_keep RW.out F.out (fun _ _ => id)).slice NLEN.out N1.out (by omega) (by unfold maxLen; omega) F.out.size
          refine wp_append_run rfl rfl rfl ap ?_
          (try replace E8 := Lib.hid (ownsRow_keep E8.out ff (fun j e h => own_types E8.out E1.out (by decide) j e h)))
          replace F := Lib.hid (own_fr F.out E1.out (Nat.le_refl _) ff)
          have N6 := Lib.hid (show k17.ownsRow kb.heap.size 63 33 v6 R.length (nodesC R) by have := oo; rw [Nat.zero_add, List.nil_append] at this; exact this)
          clear ap oo ff E1
          refine hK'.out _ _ (fun _ => ?_) (fun hS => ?_)
          · exact ⟨F.out.cell C0.out id, range_keep RX0.out F.out id⟩
          try simp only [Act.put, List.setIfInBounds_toArray, List.set_cons_zero, List.set_cons_succ]
          clear hS hK' K'
          refine lexU_ef1 10 (by kernel_rfl) rfl rfl (fun K' hK' => ?_)
          obtain ⟨v10, k18, ap, oo, ff, -⟩ := append_many k17 E8.out (L0.out.keep F.out) (by simp; omega) F.out.size
          refine wp_append_run rfl rfl rfl ap ?_
          replace N6 := Lib.hid (ownsRow_keep N6.out ff (fun j e h => own_types N6.out E8.out (by decide) j e h))
          replace F := Lib.hid (own_fr F.out E8.out (Nat.le_refl _) ff)
          rw [List.nil_append] at oo
          have P10 := Lib.hid oo
          obtain ⟨a10, c10, rfl⟩ := oo.slice.arg.form
          have NL := Lib.hid (nodeC_len (v := .slice a10 l.length c10) XOK.out)
          clear ap oo ff E8
          refine hK'.out _ _ (fun _ => ?_) (fun hS => ?_)
          · exact ⟨F.out.cell C0.out id, range_keep RX0.out F.out id⟩
          try simp only [Act.put, List.setIfInBounds_toArray, List.set_cons_zero, List.set_cons_succ]
          clear hS hK' K'
          (((first | (refine lexU_rd 11 (by kernel_rfl) rfl rfl ?_; apply Exists.intro; refine ⟨?_, ?_⟩; (focus (first | exact lex_load (ty := 30) rfl (fun w h => h.2) uK rK (by rw [HX.out]; exact infoHash) | exact fun w' h => exec_build (t := 63) (n := 33) (pl := [(0, 32), (32, 1)]) (vs := [(0, .agg (hashC x).toArray), (1, .slice a10 l.length c10)]) (cs := nodeC x (.slice a10 l.length c10)) rfl rfl (by kernel_rfl) ⟨by simp [Value.cells, HX.out], ⟨by simp [Value.cells, HX.out], trivial⟩⟩ (by simp [partsC, Value.cells, nodeC]) NL.out | (intro w' hS; obtain ⟨s1, s2⟩ := hS; go_simp; (try with_reducible rfl); done)))) | (refine lexU_sk 11 (by kernel_rfl) rfl rfl ?_)); try simp only [Act.put, List.setIfInBounds_toArray, List.set_cons_zero, List.set_cons_succ]))
          refine lexU_ef1 12 (by kernel_rfl) rfl rfl (fun K' hK' => ?_)
          refine wp_value (exec_buildSliceA (t := 41) rfl rfl undRNs infoRNZ2 rfl (by decide) (by decide) NL.out) ?_
          have f := (Fr.refl No k18).alloc (.cells (nodeC x (.slice a10 l.length c10)).toArray 63)
          obtain ⟨v13, w13, ap, oo, ff, -, -⟩ := append_blk (P := Try.prog) k18 kb.heap.size 41 41 63 33 56 _ undRNs infoRNZ rfl (by decide) N6.out (nodeC x (.slice a10 l.length c10)) NL.out nodeC_one (by omega) (by unfold maxLen; omega) F.out.size
          have AP := Lib.hid ap
          have OO := Lib.hid oo
          have P13 := Lib.hid (ownsRow_keep P10.out ff (fun j e h => own_types P10.out N6.out (by decide) j e h))
          have F13 := Lib.hid (own_fr F.out N6.out (Nat.le_refl _) ff)
          replace F := Lib.hid (F.out.trans0 f)
          clear ap oo ff f P10 N6
          refine hK'.out _ _ (fun _ => ?_) (fun hS => ?_)
          · exact ⟨F.out.cell C0.out id, range_keep RX0.out F.out id⟩
          try simp only [Act.put, List.setIfInBounds_toArray, List.set_cons_zero, List.set_cons_succ]
          clear hS hK' K'
          generalize k18.alloc (.cells (nodeC x (.slice a10 l.length c10)).toArray 63) = k19 at *
          generalize k18.heap.size = q20 at *
          refine lexU_ef1 13 (by kernel_rfl) rfl rfl (fun K' hK' => ?_)
          refine wp_append_run rfl rfl rfl AP.out ?_
          clear AP F
          have F := F13
          refine hK'.out _ _ (fun _ => ?_) (fun hS => ?_)
          · exact ⟨F.out.cell C0.out id, range_keep RX0.out F.out id⟩
          try simp only [Act.put, List.setIfInBounds_toArray, List.set_cons_zero, List.set_cons_succ]
          clear hS hK' K'
          have z3 := unfrozen (i := 0) (F.out.obj OB.out id)
          have c3 := F.out.cell C0.out id
          obtain ⟨a13, c13, rfl⟩ := OO.out.slice.arg.form
          (((first | (refine lexU_rd 14 (by kernel_rfl) rfl rfl ?_; apply Exists.intro; refine ⟨?_, ?_⟩; (focus (first | exact lex_load (ty := 30) rfl (fun w h => h.2) uK rK (by rw [HX.out]; exact infoHash) | exact fun w' h => exec_build (t := 63) (n := 33) (pl := [(0, 32), (32, 1)]) (vs := [(0, .agg (hashC x).toArray), (1, .slice a10 l.length c10)]) (cs := nodeC x (.slice a10 l.length c10)) rfl rfl (by kernel_rfl) ⟨by simp [Value.cells, HX.out], ⟨by simp [Value.cells, HX.out], trivial⟩⟩ (by simp [partsC, Value.cells, nodeC]) NL.out | (intro w' hS; obtain ⟨s1, s2⟩ := hS; go_simp; (try with_reducible rfl); done)))) | (refine lexU_sk 14 (by kernel_rfl) rfl rfl ?_)); try simp only [Act.put, List.setIfInBounds_toArray, List.set_cons_zero, List.set_cons_succ]); ((first | (refine lexU_rd 15 (by kernel_rfl) rfl rfl ?_; apply Exists.intro; refine ⟨?_, ?_⟩; (focus (first | exact lex_load (ty := 30) rfl (fun w h => h.2) uK rK (by rw [HX.out]; exact infoHash) | exact fun w' h => exec_build (t := 63) (n := 33) (pl := [(0, 32), (32, 1)]) (vs := [(0, .agg (hashC x).toArray), (1, .slice a10 l.length c10)]) (cs := nodeC x (.slice a10 l.length c10)) rfl rfl (by kernel_rfl) ⟨by simp [Value.cells, HX.out], ⟨by simp [Value.cells, HX.out], trivial⟩⟩ (by simp [partsC, Value.cells, nodeC]) NL.out | (intro w' hS; obtain ⟨s1, s2⟩ := hS; go_simp; (try with_reducible rfl); done)))) | (refine lexU_sk 15 (by kernel_rfl) rfl rfl ?_)); try simp only [Act.put, List.setIfInBounds_toArray, List.set_cons_zero, List.set_cons_succ]))
          refine lexU_ef1 16 (by kernel_rfl) rfl rfl (fun K' hK' => ?_)
          go_simp
          refine hK'.out _ _ (fun h => absurd rfl h) (fun hS => ?_)
          try simp only [Act.put, List.setIfInBounds_toArray, List.set_cons_zero, List.set_cons_succ]
          clear hS hK' K'
          refine lexU_nil (hK.out _ _ ?_)
          go_wp2
          go_ret
          exact FIN.out a10 c10 a13 c13 w13 F.out P13.out OO.out
end
end Go.Proofs.Ytnjkpjcnmdgoeaa
