/- internal/bytealg.Compare of two byte rows. -/
import Derived.Lib.Bytealg
import Derived.Sort.Grow
import Derived.Laws.Externs
import Derived.Shelf.SlSortCmp.WholeK
import Derived.Test.YtmpamcnlineceaaDoorProg
import Derived.Shelf.SlSortCmp.NoneTotal
import Derived.Laws.MakeOwn
import Derived.Test.YtmpamcnlineceaaDoorMG13
import Derived.Test.YtmpamcnlineceaaDoorMG4
import Derived.Test.YtmpamcnlineceaaDoorMG15
import Derived.Test.YtmpamcnlineceaaDoorMG17
import Derived.Test.YtmpamcnlineceaaDoorMG16
set_option linter.unusedVariables false
set_option linter.unusedSimpArgs false
namespace Go
open Go.RowKit Go.Sort

/-- Some draws and new blocks behind w. -/
def GrewBy (w w' : World) : Prop := ∃ q os, w' = grow (w.drewN q) os
theorem GrewBy.refl (w : World) : GrewBy w w := ⟨0, #[], by simp [grow]; rfl⟩
theorem GrewBy.drew {w w' : World} (h : GrewBy w w') : GrewBy w w'.drew := by
  obtain ⟨q, os, rfl⟩ := h
  exact ⟨q + 1, os, rfl⟩
theorem GrewBy.alloc {w w' : World} (h : GrewBy w w') (o : Obj) : GrewBy w (w'.alloc o) := by
  obtain ⟨q, os, rfl⟩ := h
  exact ⟨q, os ++ #[o], by rw [alloc_eq_grow, grow_grow]⟩

def u8 (x : Int) : UInt8 := x.toNat.toUInt8
theorem u8_lt {x y : Int} (hx : 0 ≤ x ∧ x ≤ 255) (hy : 0 ≤ y ∧ y ≤ 255) : u8 x < u8 y ↔ x < y := by
  unfold u8
  rw [UInt8.lt_iff_toNat_lt]
  have e : ∀ z : Int, 0 ≤ z ∧ z ≤ 255 → (z.toNat.toUInt8).toNat = z.toNat := fun z hz => by
    rw [Nat.toUInt8_eq, UInt8.toNat_ofNat']
    exact Nat.mod_eq_of_lt (by omega)
  rw [e x hx, e y hy]
  omega
theorem compare_u8 : ∀ {a b : List Int}, (∀ x ∈ a, 0 ≤ x ∧ x ≤ 255) → (∀ x ∈ b, 0 ≤ x ∧ x ≤ 255) → Lib.compareBytes (a.map u8) (b.map u8) = cmpI a b
  | [], [], _, _ => rfl
  | [], _ :: _, _, _ => rfl
  | _ :: _, [], _, _ => rfl
  | x :: a, y :: b, ha, hb => by
    have h1 := u8_lt (ha x (by simp)) (hb y (by simp))
    have h2 := u8_lt (hb y (by simp)) (ha x (by simp))
    simp only [List.map_cons, Lib.compareBytes, cmpI, h1, h2]
    rw [compare_u8 (fun z hz => ha z (by simp [hz])) (fun z hz => hb z (by simp [hz]))]

theorem run_loadBytes {P : Program} {w : World} {b : Nat} : ∀ (l : List Int) (o : Nat) (acc : ByteArray), w.rangeAt b o (l.map byteV) →
    (Extern.Bytes.loadBytes ⟨b, o, none⟩ l.length acc).run P w = .ok (l.foldl (fun a x => a.push (u8 x)) acc) w
  | [], o, acc, _ => rfl
  | x :: l, o, acc, h => by
    have h0 := h 0 (byteV x) rfl
    rw [Nat.add_zero] at h0
    have h1 : w.rangeAt b (o + 1) (l.map byteV) := fun j v hj => by
      have := h (j + 1) v (by simpa using hj)
      rw [show o + (j + 1) = o + 1 + j by omega] at this
      exact this
    have ih := run_loadBytes (P := P) l (o + 1) (acc.push (u8 x)) h1
    have hadd : (⟨b, o, none⟩ : Addr).add 1 = ⟨b, o + 1, none⟩ := by unfold Addr.add; split <;> simp_all
    show (Sem.run P (do match ← load ⟨b, o, none⟩ with | .int .u8 b' => Extern.Bytes.loadBytes ((⟨b, o, none⟩ : Addr).add 1) l.length (acc.push b'.toNat.toUInt8) | _ => stuck "loadBytes: a byte expected") w) = _
    rw [Sem.run_bind, run_load]
    simp only [h0, byteV, Result.andThen, hadd]
    exact ih
theorem push_list : ∀ (l : List Int) (acc : ByteArray), (l.foldl (fun a x => a.push (u8 x)) acc).data.toList = acc.data.toList ++ l.map u8
  | [], acc => by simp
  | x :: l, acc => by
    rw [List.foldl_cons, push_list l]
    simp
theorem run_compareSl {P : Program} {w : World} {b1 o1 c1 b2 o2 c2 : Nat} {la lb : List Int} (h1 : w.rangeAt b1 o1 (la.map byteV)) (h2 : w.rangeAt b2 o2 (lb.map byteV)) (ha : ∀ x ∈ la, 0 ≤ x ∧ x ≤ 255) (hb : ∀ x ∈ lb, 0 ≤ x ∧ x ≤ 255) :
    (Extern.BytealgCompare.compare #[.slice (some ⟨b1, o1, none⟩) la.length c1, .slice (some ⟨b2, o2, none⟩) lb.length c2]).run P w = .ok (.int .i64 (cmpI la lb)) w := by
  change Sem.run P (do pure (goInt (Extern.BytealgCompare.cmp (← Extern.Bytes.loadBytes ⟨b1, o1, none⟩ la.length .empty) (← Extern.Bytes.loadBytes ⟨b2, o2, none⟩ lb.length .empty)))) w = _
  simp only [Sem.run_bind, run_loadBytes la o1 _ h1, run_loadBytes lb o2 _ h2, Result.andThen, Sem.run_pure]
  rw [Lib.cmp_eq, push_list, push_list]
  have e : (ByteArray.empty).data.toList = [] := rfl
  rw [e, List.nil_append, List.nil_append, compare_u8 ha hb]
  rfl
end Go

/- coin: order. -/
namespace Go.Proofs.YtmpamcnlineceaaDoor
open Go Go.RowKit Go.Maps Go.MapKept

theorem bcmp_any (w : World) {b1 o1 c1 b2 o2 c2 : Nat} {la lb : List Int} (h1 : w.rangeAt b1 o1 (la.map byteV)) (h2 : w.rangeAt b2 o2 (lb.map byteV)) (ha : ∀ x ∈ la, 0 ≤ x ∧ x ≤ 255) (hb : ∀ x ∈ lb, 0 ≤ x ∧ x ≤ 255) :
    Calls Tryd.prog 62 #[.slice (some ⟨b1, o1, none⟩) la.length c1, .slice (some ⟨b2, o2, none⟩) lb.length c2] w fun e w' => e = .returned (.int .i64 (cmpI la lb)) ∧ w' = w := by
  go_enter Tryd.func62, Tryd.ntmps62
  go_wp2
  rw [run_callFunc_extern Tryd.func76 (by kernel_rfl) (by kernel_rfl) (by kernel_rfl) (e := Extern.BytealgCompare.compare) (by kernel_rfl), run_compareSl h1 h2 ha hb]
  simp only [Result.andThen]
  rw [Oper.upon_value]
  go_wp2
  go_ret
  exact ⟨rfl, rfl⟩
theorem ncmp_any (w : World) (x y : Int) : Calls Tryd.prog 63 #[.int .u32 x, .int .u32 y] w fun e w' => e = .returned (.int .i64 (cmpN x y)) ∧ w' = w := by
  have HC := Lib.hid (show (x < y ∧ cmpN x y = -1) ∨ (¬ x < y ∧ y < x ∧ cmpN x y = 1) ∨ (¬ x < y ∧ ¬ y < x ∧ cmpN x y = 0) by
    unfold cmpN
    by_cases h1 : x < y
    · exact .inl ⟨h1, if_pos h1⟩
    · by_cases h2 : y < x
      · exact .inr (.inl ⟨h1, h2, by rw [if_neg h1, if_pos h2]⟩)
      · exact .inr (.inr ⟨h1, h2, by rw [if_neg h1, if_neg h2]⟩))
  rcases HC.out with ⟨h1, h⟩ | ⟨h1, h2, h⟩ | ⟨h1, h2, h⟩
  all_goals
    have H := Lib.hid h
    clear h HC
    go_enter Tryd.func63, Tryd.ntmps63
    go_wp2
    go_ret
    exact ⟨by rw [H.out]; rfl, rfl⟩
theorem tx_at {w : World} {b o : Nat} {c : CoinD} (h : w.rangeAt b o (coinC c)) : w.rangeAt b o (c.at_.tx.map byteV) := fun j v hj => h j v (by
  unfold coinC pointC
  rw [List.append_assoc, List.getElem?_append_left (List.getElem?_eq_some_iff.1 hj).1]
  exact hj)
theorem n_at {w : World} {b : Nat} {c : CoinD} (hc : c.ok) (h : w.rangeAt b 0 (coinC c)) : w.cell? ⟨b, 32, none⟩ = some (.int .u32 c.at_.n) := by
  have := coin_at h 32 _ (pointC_32 hc.1)
  simpa using this
set_option maxRecDepth 20000 in
set_option maxHeartbeats 2000000 in
theorem order_any (w : World) (a b : CoinD) (ha : a.ok) (hb : b.ok) :
    Calls Tryd.prog 51 #[.agg (coinC a).toArray, .agg (coinC b).toArray] w fun e w' => e = .returned (.int .i64 (cmpPt a.at_ b.at_)) ∧ GrewBy w w' := by
  have ra : ((w.alloc (.cells (coinC a).toArray 57)).alloc (.cells (coinC b).toArray 57)).drew.rangeAt w.heap.size 0 (coinC a) := range_keep (range_new w (coinC a) 57) ((Fr.refl No _).alloc _).drew id
  have rb : ((w.alloc (.cells (coinC a).toArray 57)).alloc (.cells (coinC b).toArray 57)).drew.rangeAt (w.heap.size + 1) 0 (coinC b) := by
    have := range_new (w.alloc (.cells (coinC a).toArray 57)) (coinC b) 57
    simpa using range_keep this (Fr.refl No _).drew id
  have GW := Lib.hid (((GrewBy.refl w).alloc (.cells (coinC a).toArray 57)).alloc (.cells (coinC b).toArray 57)).drew
  have ca := n_at ha ra
  have cb := n_at hb rb
  have RA := Lib.hid (tx_at ra)
  have RB := Lib.hid (tx_at rb)
  have LA := Lib.hid ha.1.1.1
  have LB := Lib.hid hb.1.1.1
  have OA := Lib.hid ha.1.1.2
  have OB := Lib.hid hb.1.1.2
  have HE := Lib.hid (show cmpPt a.at_ b.at_ = if cmpI a.at_.tx b.at_.tx = 0 then cmpN a.at_.n b.at_.n else cmpI a.at_.tx b.at_.tx from rfl)
  have CA := Lib.hid ca
  have CB := Lib.hid cb
  have bc := bcmp_any _ (c1 := 32) (c2 := 32) RA.out RB.out OA.out OB.out
  rw [LA.out, LB.out] at bc
  have BC := Lib.hid bc
  clear ra rb ha hb ca cb bc
  generalize cmpI a.at_.tx b.at_.tx = c at *
  generalize cmpPt a.at_ b.at_ = r at *
  go_enter Tryd.func51, Tryd.ntmps51
  go_wp2_with fail
  refine wp_region_lexL [false, false, false, false, false, false, true, false] (fun w' => True) (by kernel_rfl) (by kernel_rfl) ?_ (fun K hK => ?_)
  · trivial
  repeat (first | ((first | with_reducible refine lexL_read ?_ | ((with_reducible refine lexL_readG ?_ ?_); (focus rfl))); apply Exists.intro; refine ⟨?_, ?_⟩; (focus (first | (intro w' hS; obtain _ := hS; go_simp; (try with_reducible rfl); done))); try simp only [Act.put, List.setIfInBounds_toArray, List.set_cons_zero, List.set_cons_succ]) | ((first | ((with_reducible refine lexL_skip (c := false) ?_ ?_ ?_); (focus rfl); (focus rfl)) | ((with_reducible refine lexL_skip (c := true) ?_ ?_ ?_); (focus rfl); (focus rfl)) | ((with_reducible refine lexL_skipU ?_ ?_); (focus rfl))); try simp only [Act.put, List.setIfInBounds_toArray, List.set_cons_zero, List.set_cons_succ]))
  (first | with_reducible refine lexL_eff (fun K' hK' => ?_) | ((with_reducible refine lexL_effG ?_ (fun K' hK' => ?_)); (focus rfl)))
  go_simp
  refine BC.out.mono ?_
  rintro e w2 ⟨rfl, rfl⟩
  refine hK'.out _ _ ?_ (fun hS => ?_)
  · trivial
  try simp only [Act.put, List.setIfInBounds_toArray, List.set_cons_zero, List.set_cons_succ]
  repeat (first | ((first | with_reducible refine lexL_read ?_ | ((with_reducible refine lexL_readG ?_ ?_); (focus rfl))); apply Exists.intro; refine ⟨?_, ?_⟩; (focus (first | (intro w' hS; obtain _ := hS; go_simp; (try with_reducible rfl); done))); try simp only [Act.put, List.setIfInBounds_toArray, List.set_cons_zero, List.set_cons_succ]) | ((first | ((with_reducible refine lexL_skip (c := false) ?_ ?_ ?_); (focus rfl); (focus rfl)) | ((with_reducible refine lexL_skip (c := true) ?_ ?_ ?_); (focus rfl); (focus rfl)) | ((with_reducible refine lexL_skipU ?_ ?_); (focus rfl))); try simp only [Act.put, List.setIfInBounds_toArray, List.set_cons_zero, List.set_cons_succ]))
  refine lexL_nil (hK.out _ _ ?_)
  by_cases h0 : c = 0
  · subst h0
    have HE2 := Lib.hid (show r = cmpN a.at_.n b.at_.n from HE.out)
    have c1 := CA.out
    have c2 := CB.out
    clear HE
    go_wp2_with (go_at_call 63; refine (ncmp_any _ a.at_.n b.at_.n).mono ?_; rintro e w3 ⟨rfl, rfl⟩)
    go_ret
    exact ⟨by rw [HE2.out]; rfl, GW.out⟩
  · have HE2 := Lib.hid (show r = c by rw [HE.out, if_neg h0])
    clear HE
    go_wp2
    go_ret
    exact ⟨by rw [HE2.out]; rfl, GW.out⟩
end Go.Proofs.YtmpamcnlineceaaDoor

/- slices.SortFunc's bodies at this dump (written by laysort.py and the kit's lay-plain.mjs). -/
namespace Go.Proofs
open Go.Shelf
def Tryd.laysF_ren : Go.Shelf.Ren := ⟨fun | 6 => 50 | 15 => 61 | 14 => 60 | 28 => 74 | 29 => 75 | 20 => 66 | 21 => 67 | 22 => 68 | 23 => 69 | 24 => 70 | 25 => 71 | 26 => 72 | 27 => 73 | 46 => 79 | 47 => 80 | 48 => 81 | 49 => 82 | 50 => 83 | 57 => 86 | n => n, fun | 22 => 51 | 24 => 57 | 25 => 125 | 3 => 3 | 39 => 108 | 0 => 0 | 53 => 38 | 55 => 24 | 4 => 4 | 46 => 149 | 45 => 148 | 50 => 153 | 5 => 5 | 9 => 9 | 66 => 158 | 70 => 162 | 76 => 169 | 77 => 170 | n => n, fun | n => n⟩
theorem Tryd.laysF : Go.Proofs.SlLaysF0.n6 Tryd.prog Tryd.laysF_ren := {
  mixed := by kernel_rfl
  f6 := ⟨Tryd.f50.name, by decide, Tryd.func50.trans (congrArg some (by kernel_rfl))⟩
  f14 := ⟨Tryd.f60.name, by decide, Tryd.func60.trans (congrArg some (by kernel_rfl))⟩
  f15 := Tryd.func61.trans (congrArg some (by kernel_rfl))
  f20 := ⟨Tryd.f66.name, by decide, Tryd.func66.trans (congrArg some (by kernel_rfl))⟩
  f21 := ⟨Tryd.f67.name, by decide, Tryd.func67.trans (congrArg some (by kernel_rfl))⟩
  f22 := ⟨Tryd.f68.name, by decide, Tryd.func68.trans (congrArg some (by kernel_rfl))⟩
  f23 := ⟨Tryd.f69.name, by decide, Tryd.func69.trans (congrArg some (by kernel_rfl))⟩
  f24 := ⟨Tryd.f70.name, by decide, Tryd.func70.trans (congrArg some (by kernel_rfl))⟩
  f25 := ⟨Tryd.f71.name, by decide, Tryd.func71.trans (congrArg some (by kernel_rfl))⟩
  f26 := ⟨Tryd.f72.name, by decide, Tryd.func72.trans (congrArg some (by kernel_rfl))⟩
  f27 := ⟨Tryd.f73.name, by decide, Tryd.func73.trans (congrArg some (by kernel_rfl))⟩
  f28 := Tryd.func74.trans (congrArg some (by kernel_rfl))
  f29 := Tryd.func75.trans (congrArg some (by kernel_rfl))
  f46 := ⟨Tryd.f79.name, by decide, Tryd.func79.trans (congrArg some (by kernel_rfl))⟩
  f47 := Tryd.func80.trans (congrArg some (by kernel_rfl))
  f48 := Tryd.func81.trans (congrArg some (by kernel_rfl))
  f49 := ⟨Tryd.f82.name, by decide, Tryd.func82.trans (congrArg some (by kernel_rfl))⟩
  f50 := ⟨Tryd.f83.name, by decide, Tryd.func83.trans (congrArg some (by kernel_rfl))⟩
  f57 := ⟨Tryd.f86.name, by decide, Tryd.func86.trans (congrArg some (by kernel_rfl))⟩
  t0 := Tryd.underlying0
  a0 := Tryd.isAgg0
  z0 := Tryd.sizeOf0
  v0 := Tryd.zeroValue0
  t3 := Tryd.underlying3
  a3 := Tryd.isAgg3
  z3 := Tryd.sizeOf3
  v3 := Tryd.zeroValue3
  t4 := Tryd.underlying4
  a4 := Tryd.isAgg4
  z4 := Tryd.sizeOf4
  v4 := Tryd.zeroValue4
  t5 := Tryd.underlying5
  a5 := Tryd.isAgg5
  z5 := Tryd.sizeOf5
  v5 := Tryd.zeroValue5
  t9 := Tryd.underlying9
  a9 := Tryd.isAgg9
  z9 := Tryd.sizeOf9
  v9 := Tryd.zeroValue9
  t22 := Tryd.underlying51
  a22 := Tryd.isAgg51
  z22 := Tryd.sizeOf51
  v22 := Tryd.zeroValue51
  t25 := Tryd.underlying125
  a25 := Tryd.isAgg125
  z25 := Tryd.sizeOf125
  v25 := Tryd.zeroValue125
  t39 := Tryd.underlying108
  a39 := Tryd.isAgg108
  z39 := Tryd.sizeOf108
  v39 := Tryd.zeroValue108
  t45 := Tryd.underlying148
  a45 := Tryd.isAgg148
  z45 := Tryd.sizeOf148
  v45 := Tryd.zeroValue148
  t46 := Tryd.underlying149
  a46 := Tryd.isAgg149
  z46 := Tryd.sizeOf149
  v46 := Tryd.zeroValue149
  t50 := Tryd.underlying153
  a50 := Tryd.isAgg153
  z50 := Tryd.sizeOf153
  v50 := Tryd.zeroValue153
  t53 := Tryd.underlying38
  a53 := Tryd.isAgg38
  z53 := Tryd.sizeOf38
  v53 := Tryd.zeroValue38
  t55 := Tryd.underlying24
  a55 := Tryd.isAgg24
  z55 := Tryd.sizeOf24
  v55 := Tryd.zeroValue24
  t66 := Tryd.underlying158
  a66 := Tryd.isAgg158
  z66 := Tryd.sizeOf158
  v66 := Tryd.zeroValue158
  t70 := Tryd.underlying162
  a70 := Tryd.isAgg162
  z70 := Tryd.sizeOf162
  v70 := Tryd.zeroValue162
  t76 := Tryd.underlying169
  a76 := Tryd.isAgg169
  z76 := Tryd.sizeOf169
  v76 := Tryd.zeroValue169
  t77 := Tryd.underlying170
  a77 := Tryd.isAgg170
  z77 := Tryd.sizeOf170
  v77 := Tryd.zeroValue170 }
end Go.Proofs

/- coin: All sorts its coins. -/
namespace Go.Proofs.YtmpamcnlineceaaDoor
open Go Go.RowKit Go.Maps Go.MapKept Go.Sort

theorem point0_ok : point0.ok := ⟨⟨rfl, fun x hx => by have : x = 0 := List.eq_of_mem_replicate hx; omega⟩, by decide, by decide⟩
abbrev CoinO : Type := { c : CoinD // c.ok }
instance : Inhabited CoinO := ⟨⟨coin0, point0_ok, out0_ok⟩⟩
def coinE (x : CoinO) : List Value := coinC x.1
def cmpCO (x y : CoinO) : Int := cmpPt x.1.at_ y.1.at_
theorem ptLt_ntrans {p q r : PointD} (h1 : ptLt p q = false) (h2 : ptLt q r = false) : ptLt p r = false := by
  cases h : ptLt p r with
  | false => rfl
  | true =>
    cases h3 : ptLt q p with
    | true => rw [ptLt_trans h3 h] at h2; cases h2
    | false =>
      have := ptLt_total h1 h3
      subst this
      rw [h] at h2; cases h2
theorem lt_cmpCO (x y : CoinO) : ltOf cmpCO x y = ptLt x.1.at_ y.1.at_ := by
  unfold ltOf cmpCO ptLt
  rcases cmpPt_vals x.1.at_ y.1.at_ with h | h | h <;> simp [h]
theorem swoCO : SWO (ltOf cmpCO) where
  irrefl x := by rw [lt_cmpCO]; exact ptLt_irrefl _
  trans x y z h1 h2 := by rw [lt_cmpCO] at *; exact ptLt_trans h1 h2
  ntrans x y z h1 h2 := by rw [lt_cmpCO] at *; exact ptLt_ntrans h1 h2
theorem isAggCoin : ∀ w, (isAgg (Tryd.laysF_ren.t 24)).run Tryd.prog w = .ok true w := fun w => by kernel_rfl
theorem sizeCoinS : ∀ w, (Go.sizeOf (Tryd.laysF_ren.t 24)).run Tryd.prog w = .ok 66 w := fun w => by kernel_rfl
theorem cmpLaysC (blk off size : Nat) (w : World) : CmpLays Tryd.prog 51 #[] coinE 66 cmpCO blk off size w :=
  fun _ _ _ _ x y => (order_any _ x.1 y.1 x.2 y.2).mono fun _ _ ⟨he, hg⟩ => ⟨he, hg⟩

theorem sortC_any {w : World} {B : Nat} {v : Value} {H S : List CoinD} (hh : w.ownsRow B 57 66 v H.length (H.flatMap coinC)) (ok : ∀ h ∈ H, h.ok) (hp : S.Perm H) (srt : SrtC S) (hN : H.length ≤ 100000) :
    Calls Tryd.prog 50 #[v, .func (.func 51) #[] #[]] w fun e w' => e = .returned (.tuple #[]) ∧ w'.ownsRow B 57 66 v H.length (S.flatMap coinC) ∧ Fr (fun j => v.ownBlock = some j) w w' := by
  have h2 := hh.2
  rcases h2 with ⟨rfl, hn⟩ | ⟨g, cap, cur, rfl, hb, hg, -⟩
  · have hH := List.eq_nil_of_length_eq_zero hn
    subst hH
    have hS : S = [] := hp.eq_nil
    subst hS
    refine (AnyF.slices_SortFunc_none Tryd.laysF none 0 (.func (.func 51) #[] #[]) w).mono ?_
    rintro e w' ⟨rfl, rfl⟩
    exact ⟨rfl, hh, Fr.refl _ _⟩
  · obtain ⟨L, rfl⟩ := lift_list H ok
    have hf : (L.map Subtype.val).flatMap coinC = L.flatMap coinE := by rw [List.flatMap_map]; rfl
    rw [hf, List.length_map] at hh
    rw [List.length_map] at hN ⊢
    have eg : ∀ args w, (callFunc 51 args).run Tryd.prog w = .ok (.enter 51 args) w := enters_of Tryd.func51 (by kernel_rfl) rfl
    have hk : ∀ x : CoinO, (coinE x).length = 66 := fun x => coinC_len x.2
    have hcon := AnyQ.slices_SortFunc Tryd.laysF 66 isAggCoin sizeCoinS coinE hk (fun x => coinC_one) cmpCO swoCO 51 #[] g 0 cap L.toArray w eg (cmpLaysC _ _ _ _) (holds_own coinE 66 hk hh) (obj_lt hg) (by rw [List.size_toArray]; show L.length < _; omega)
    rw [List.size_toArray] at hcon
    refine hcon.mono ?_
    rintro e w' ⟨rfl, d', n, os, hpi, hso, rfl⟩
    have hd : d'.toList.map Subtype.val = S := sorted_perm Subtype.val (r := fun a b => ptLt a.at_ b.at_) lt_cmpCO (d := L.toArray) (by rw [List.size_toArray]; exact hpi) (by rw [List.size_toArray]; exact hso) hp
      (by unfold SrtC at srt; exact srt.imp (fun {a b} h => ptLt_asymm h))
      (fun a ha b hb h1 h2 => srt.uniq ha hb (ptLt_total h1 h2))
    have hsz : d'.size = L.length := by have := hpi.1; rw [List.size_toArray] at this; exact this
    obtain ⟨ho, fo⟩ := sorted_own coinE 66 hk hh hsz n os
    have hf2 : d'.toList.flatMap coinE = S.flatMap coinC := by rw [← hd, List.flatMap_map]; rfl
    rw [hf2] at ho
    exact ⟨rfl, ho, fo.mono (fun j hj => by rw [hj]; rfl)⟩
end Go.Proofs.YtmpamcnlineceaaDoor

/- coin: All. -/
namespace Go.Proofs.YtmpamcnlineceaaDoor
open Go Go.RowKit Go.Maps Go.MapKept Go.Sort

theorem placesCoin : buildPlaces Tryd.prog 57 = some (66, [(0, 33), (33, 33)]) := by kernel_rfl
theorem fill_coin {c : CoinD} (hc : c.ok) : FillOk (([(0, 33), (33, 33)] : List (Nat × Nat)).toArray[·]?) 0 [(0, .agg (pointC c.at_).toArray), (1, .agg (outC c.out).toArray)] := by
  have h : (Value.agg (pointC c.at_).toArray).cells.size = 33 := by show (pointC c.at_).toArray.size = 33; simpa using pointC_len hc.1
  have h1 : (Value.agg (outC c.out).toArray).cells.size = 33 := by show (outC c.out).toArray.size = 33; simpa using outC_len hc.2
  simp only [FillOk, h, h1]
  exact ⟨rfl, rfl, trivial⟩
theorem parts_coin (c : CoinD) : partsC [(0, .agg (pointC c.at_).toArray), (1, .agg (outC c.out).toArray)] = coinC c := by
  have h : (Value.agg (pointC c.at_).toArray).cells.toList = pointC c.at_ := by show (pointC c.at_).toArray.toList = _; simp
  have h1 : (Value.agg (outC c.out).toArray).cells.toList = outC c.out := by show (outC c.out).toArray.toList = _; simp
  simp [partsC, coinC, h, h1]
def coinOf (x : PointD × OutD) : CoinD := ⟨x.1, x.2⟩
theorem pairs_perm {M : List (PointD × OutD)} {S : List CoinD} (hm : (M.map (·.1)).Nodup) (hs : ∀ k v, (k, v) ∈ M ↔ (⟨k, v⟩ : CoinD) ∈ S) (srt : SrtC S) : S.Perm (M.map coinOf) := by
  have h1 : (M.map coinOf).Nodup := by
    unfold List.Nodup at *
    rw [List.pairwise_map] at *
    exact hm.imp (fun h e => h (by unfold coinOf at e; injection e))
  have h2 : S.Nodup := by
    have := srt.nodup
    unfold List.Nodup at *
    rw [List.pairwise_map] at this
    exact this.imp (fun h e => h (by rw [e]))
  refine (List.perm_ext_iff_of_nodup h2 h1).2 (fun x => ?_)
  rw [← show (⟨x.at_, x.out⟩ : CoinD) = x from rfl, ← hs]
  constructor
  · intro h
    exact List.mem_map.2 ⟨_, h, rfl⟩
  · intro h
    obtain ⟨y, hy, e⟩ := List.mem_map.1 h
    unfold coinOf at e
    injection e with e1 e2
    rw [← e1, ← e2]
    exact hy
theorem own_no_iter {w : World} {B k n : Nat} {e : TypeId} {v : Value} {xs : List Value} {r b : Nat} {M R : List (PointD × OutD)} (h : w.ownsRow B e k v n xs) (hI : AtIter w r b M R) : ∀ j, v.ownBlock = some j → j ≠ r := by
  obtain ⟨es, clk, seen, -, -, -, -, -, -, h7, -⟩ := hI
  rcases h.2 with ⟨rfl, _⟩ | ⟨g, cap, cur, rfl, _, hg, _⟩
  · intro j hj; cases hj
  · intro j hj e
    simp [Value.ownBlock] at hj
    subst hj e
    rw [hg] at h7
    cases h7
section
variable {w0 w : World} {p : Nat} {V : Nat → Prop} {S : List CoinD}
set_option maxRecDepth 20000 in
set_option maxHeartbeats 4000000 in
theorem all_C (h : CS w0 w p V S) (hN : S.length ≤ 100000) :
    Calls Tryd.prog 37 #[.pointer (some ⟨p, 0, none⟩)] w fun e w' => ∃ v, e = .returned v ∧ w'.ownsRow w.heap.size 57 66 v S.length (S.flatMap coinC) ∧ Fr No w w' := by
  obtain ⟨dP, uP, rP⟩ := descPoint
  obtain ⟨dO, uO, rO⟩ := descOut
  obtain ⟨m, M, hb, hm, hs, hne, hVe⟩ := h.ex
  have LM := Lib.hid (pairs_len hm hs h.srt)
  have LR := Lib.hid (fun ty => hm.lenRun undAtMap ty)
  obtain ⟨iK, hi, hz, hsz, hby⟩ := info_parts infoCoinZ
  obtain ⟨w2, hmk, ho2, hg2⟩ := run_makeSlice_owned (P := Tryd.prog) (w := w) w.heap.size 51 57 iK _ 66 undCoins hi hz hsz .i64 .i64 M.length (by rw [LM.out]; omega) (by rw [hby, LM.out]; omega) (by rw [LM.out]; unfold maxLen; omega) (Nat.le_refl _)
  have f2 : Fr No w w2 := Fr.of_grown hg2 (fun k e => by cases e)
  have hm2 := hm.keep f2 id
  obtain ⟨clk, hrng, hit⟩ := hm2.rangeI undAtMap
  have c0 : w.cell? ⟨p, 0, none⟩ = some (.map (some m)) := (blk1 hb).1
  have c2 : w2.cell? ⟨p, 0, none⟩ = some (.map (some m)) := (blk1 (f2.obj hb id)).1
  have HS := Lib.hid hs
  have OKS := Lib.hid (show ∀ x ∈ M, x.1.ok ∧ x.2.ok from fun x hx => h.ok _ ((hs x.1 x.2).1 hx))
  have SRT := Lib.hid h.srt
  have HND := Lib.hid hm.nodup
  have HI0 := Lib.hid hit
  have F0 := Lib.hid (f2.alloc (.mapIter (some m) clk #[] clk))
  have HO0 := Lib.hid (ho2.alloc (.mapIter (some m) clk #[] clk))
  have HSZ := Lib.hid (show w.heap.size ≤ w2.heap.size from f2.size)
  have HSA := Lib.hid (show w2.heap.size < (w2.alloc (.mapIter (some m) clk #[] clk)).heap.size by simp)
  have SOK := Lib.hid h.ok
  have MLT := Lib.hid hm.lt
  have zp := zeroPoint
  have zo := zeroOutC
  clear h hb hm hm2 hs hne hVe hi hz hsz hby ho2 hg2 f2 hit
  go_enter Tryd.func37, Tryd.ntmps37
  go_wp2_with (first | (refine wpList_value rfl (exec_len rfl rfl (LR.out _)) ?_) | (refine wpList_range_run rfl rfl rfl hrng ?_))
  generalize hq : w2.heap.size = r at *
  generalize w2.alloc (.mapIter (some m) clk #[] clk) = W at *
  clear hrng hmk LR c0 c2
  try simp only [Act.put, List.setIfInBounds_toArray, List.set_cons_zero, List.set_cons_succ]
  go_loopg [3] M.length (fun n l wr => ∃ (D R : List (PointD × OutD)), (D ++ R).Perm M ∧ R.length = n ∧ AtIter wr r m M R ∧ wr.ownsRow w.heap.size 57 66 l D.length ((D.map coinOf).flatMap coinC) ∧ Fr No w wr)
  case atStart => exact ⟨[], M, List.Perm.refl _, rfl, HI0.out, HO0.out, F0.out⟩
  case round =>
    obtain ⟨D, R, hperm, hm, hI, ho, hfr⟩ := hrel
    cases R with
    | nil =>
      have hnx := hI.stop
      rw [List.append_nil] at hperm
      have hp := pairs_perm HND.out HS.out SRT.out
      have hp2 : S.Perm (D.map coinOf) := hp.trans (hperm.symm.map _)
      have hDl : D.length = S.length := by rw [hp2.length_eq, List.length_map]
      have hsort := sortC_any (H := D.map coinOf) (by rw [List.length_map]; exact ho) (fun c hc => SOK.out c (hp2.mem_iff.2 hc)) hp2 SRT.out (by rw [List.length_map, hDl]; exact hN)
      rw [List.length_map, hDl] at hsort
      have HSORT := Lib.hid hsort
      have FR := Lib.hid hfr
      have HO := Lib.hid ho
      obtain ⟨la, lc, hlv⟩ := ho.slice.arg.form
      rw [hDl] at hlv
      subst hlv
      clear hI ho hperm hm hfr hp hp2 hsort hDl
      go_wp2_with (first | (refine wpList_next_run rfl rfl rfl (hnx _) ?_) | (go_at_call 50; refine HSORT.out.mono ?_; rintro e w5 ⟨rfl, ho5, f5⟩))
      go_ret
      exact ⟨_, rfl, ho5, FR.out.trans f5 (fun i hi e => by have := (HO.out.lt i e).1; omega)⟩
    | cons x0 R0 =>
      obtain ⟨A, x, B, w3, hAB, hnx, hI2, f3, hent⟩ := hI.step (by simp) 0
      have hx : x ∈ M := hperm.subset (by rw [hAB]; simp)
      have XOK := Lib.hid (OKS.out x hx)
      have COK := Lib.hid (show (coinOf x).ok from XOK.out)
      have PL := Lib.hid (pointC_len XOK.out.1)
      have OL := Lib.hid (outC_len XOK.out.2)
      have CL := Lib.hid (coinC_len COK.out)
      have hp2 : ((D ++ [x]) ++ (A ++ B)).Perm M := by
        refine List.Perm.trans ?_ hperm
        rw [hAB, List.append_assoc]
        exact List.Perm.append_left _ (show (x :: (A ++ B)).Perm (A ++ x :: B) from List.perm_middle.symm)
      have hDl : D.length ≤ 100000 := by have := hp2.length_eq; have := LM.out; simp at this ⊢; simp at *; omega
      obtain ⟨t1, t2, t3, t4, t5⟩ := two_blocks w3 (T1 := 47) (T2 := 55) (z1 := (pointC point0).toArray) (z2 := (outC out0).toArray) (c1 := pointC x.1) (c2 := outC x.2) (by rw [PL.out]; rfl) (by rw [OL.out]; exact out0_size)
      have hni := own_no_iter ho hI
      have ho3 := ownsRow_keep (ownsRow_keep ho f3 (fun j e e' => hni j e e')) t5 (fun _ _ => id)
      have hlt := fun j e => ho.lt j e
      have fr4 : Fr No w ((((w3.alloc (.cells (pointC point0).toArray 47)).alloc (.cells (outC out0).toArray 55)).setCells w3.heap.size 0 (pointC x.1)).setCells (w3.heap.size + 1) 0 (outC x.2)) := (hfr.trans f3 (fun i hi e => by have := HSZ.out; omega)).trans0 t5
      obtain ⟨v5, w5, hap, ho5, f5, -, -⟩ := append_blk (P := Tryd.prog) _ w.heap.size 51 51 57 66 80 _ undCoins infoCoinZ rfl (by decide) ho3 (coinC (coinOf x)) CL.out coinC_one (by omega) (by unfold maxLen; omega) fr4.size
      have HO5 := Lib.hid (show w5.ownsRow w.heap.size 57 66 v5 (D ++ [x]).length (((D ++ [x]).map coinOf).flatMap coinC) by simpa using ho5)
      have HI5 := Lib.hid ((hI2.keep t5 id id).keep f5 (fun e => by have := (hlt m e).1; have := MLT.out; omega) (fun e => hni r e rfl))
      have F5 := Lib.hid (fr4.trans f5 (fun i hi e => by have := (hlt i e).1; omega))
      obtain ⟨la, lc, rfl⟩ := ho.slice.arg.form
      obtain ⟨a5, c5, rfl⟩ := ho5.slice.arg.form
      have HAP := Lib.hid hap
      have HP := Lib.hid hp2
      have HR := Lib.hid (show (A ++ B).length < gk by rw [← hm, hAB]; simp)
      have T1 := Lib.hid t1
      have T2 := Lib.hid t2
      have T3 := Lib.hid t3
      have T4 := Lib.hid t4
      clear hI hI2 ho ho3 ho5 hfr fr4 hx hp2 hDl t1 t2 t3 t4 t5 hap f5 hAB hperm hm f3 hni hlt
      unfold pointV outV at hnx hent
      go_wp2_with (first | refine wpList_next_run rfl rfl rfl hnx ?_ | refine wpList_entry_run rfl rfl rfl hent ?_ | (refine wpList_done rfl (exec_store (ty := 47) (b := w3.heap.size) rfl rfl rfl T1.out (by rw [PL.out]; exact infoPoint) pointC_one) ?_) | (refine wpList_done rfl (exec_store (ty := 55) (b := w3.heap.size + 1) rfl (by show Value.pointer (some ⟨_, 0, none⟩) = _; simp) rfl T2.out (by rw [OL.out]; exact infoOut) outC_one) ?_) | (refine wpList_value rfl (exec_load (ty := 47) rfl rfl T3.out uP rP (by rw [PL.out]; exact infoPoint)) ?_) | (refine wpList_value rfl (exec_load (ty := 55) rfl rfl T4.out uO rO (by rw [OL.out]; exact infoOut)) ?_) | (refine wpList_value rfl (exec_build (t := 57) rfl rfl placesCoin (fill_coin COK.out) (parts_coin (coinOf x)) CL.out) ?_) | (refine wpList_value rfl (exec_buildSliceA (t := 51) rfl rfl undCoins infoCoinZ2 rfl (by decide) (by decide) CL.out) ?_) | (at_builtin; refine wpList_append_run rfl rfl rfl rfl HAP.out ?_))
      go_roundg (A ++ B).length
      case measure => exact HR.out
      case rel => exact ⟨D ++ [x], A ++ B, HP.out, rfl, HI5.out, HO5.out, F5.out⟩
end
end Go.Proofs.YtmpamcnlineceaaDoor
