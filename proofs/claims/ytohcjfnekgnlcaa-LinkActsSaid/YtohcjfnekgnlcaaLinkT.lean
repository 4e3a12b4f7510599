/- What is done to links: an act, as the law's do has it. -/
import Derived.Test.YtohcjfnekgnlcaaLinkL
namespace Go.Proofs.Ytohcjfnekgnlcaa
open Go Go.RowKit Go.Maps Go.MapKept

structure ActD where
  kind : Int
  a : Int
  b : Int
  lane : Int
  pick : Int
  bytes : List Int

/-- Links as the document sees them. -/
structure LM where
  op : List (Int × Int)
  lane : Int × Int × Int → List (List Int)

def LkG.lm (g : LkG) : LM := ⟨g.op, g.lane⟩

open Classical in
noncomputable def errOp (op : List (Int × Int)) (k : Int × Int × Int) : Int := if vld k.1 k.2.1 ∧ (k.2.2 = 0 ∨ k.2.2 = 1) then (if (lo k.1 k.2.1, hi k.1 k.2.1) ∈ op then 0 else 9) else 2

open Classical in
noncomputable def openM (m : LM) (a b : Int) : LM × Int := if vld a b then (if (lo a b, hi a b) ∈ m.op then (m, 10) else (⟨m.op ++ [(lo a b, hi a b)], m.lane⟩, 0)) else (m, 2)
open Classical in
noncomputable def closeM (m : LM) (a b : Int) : LM × Int :=
  if vld a b then (if (lo a b, hi a b) ∈ m.op then (⟨opDrop m.op (lo a b, hi a b), fun k => if k = (b, a, 1) then [] else if k = (a, b, 1) then [] else if k = (b, a, 0) then [] else if k = (a, b, 0) then [] else m.lane k⟩, 0) else (m, 9)) else (m, 2)
open Classical in
noncomputable def pushM (m : LM) (k : Int × Int × Int) (bs : List Int) : LM × Int :=
  if okWay m.op k then (if (m.lane k).length < 64 then (⟨m.op, fun k' => if k' = k then m.lane k ++ [bs] else m.lane k'⟩, 0) else (m, 18)) else (m, errOp m.op k)
open Classical in
noncomputable def takeM (m : LM) (k : Int × Int × Int) (p : Int) : LM × List Int × Int :=
  if okWay m.op k then (if 0 ≤ p ∧ p < ((m.lane k).length : Int) then (⟨m.op, fun k' => if k' = k then (m.lane k).eraseIdx p.toNat else m.lane k'⟩, (m.lane k).getD p.toNat [], 0) else (m, [], 9)) else (m, [], errOp m.op k)

/-- A step on the memory: what it leaves. -/
structure Went (w : World) (g : LkG) (w' : World) (g' : LkG) (m' : LM) : Prop where
  at_ : LinksAt w' g'
  lm : g'.lm = m'
  mv : Moved g g' w.heap.size
  fr : Fr g.W w w'
  n1 : g'.op.length ≤ g.op.length + 1
  n2 : g'.ln.length ≤ g.ln.length + 1

theorem Went.same {w w' : World} {g : LkG} (h : LinksAt w g) (f : Fr No w w') : Went w g w' g g.lm :=
  ⟨h.keep0 f, rfl, Moved.refl _ _, f.of0, by omega, by omega⟩

/-- What a call leaves that answers a number. -/
def Ans (w : World) (g : LkG) (r : LM × Int) (e : Ending) (w' : World) : Prop := e = .returned (.int .i64 r.2) ∧ ∃ g', Went w g w' g' r.1

theorem open_any (w : World) (g : LkG) (h : LinksAt w g) (hroom : g.op.length < maxLen) (a b : Int) :
    Calls Try.prog 13 #[.pointer (some ⟨g.bl, 0, none⟩), .int .i64 a, .int .i64 b] w (Ans w g (openM g.lm a b)) := by
  unfold openM
  by_cases hv : vld a b
  · by_cases hin : (lo a b, hi a b) ∈ g.op
    · rw [if_pos hv, if_pos (show (lo a b, hi a b) ∈ g.lm.op from hin)]
      refine (open_there w g h a b hv hin).mono ?_
      rintro e w' ⟨rfl, f⟩
      exact ⟨rfl, g, Went.same h f⟩
    · rw [if_pos hv, if_neg (show ¬ (lo a b, hi a b) ∈ g.lm.op from hin)]
      refine (open_ok w g h hroom a b hv hin).mono ?_
      rintro e w' ⟨rfl, h', f⟩
      exact ⟨rfl, _, h', rfl, ⟨rfl, fun _ h => .inl h, fun _ h => .inl h⟩, f, by simp [LkG.opened], by simp [LkG.opened]⟩
  · rw [if_neg hv]
    refine (open_arg w g.bl a b hv).mono ?_
    rintro e w' ⟨rfl, f⟩
    exact ⟨rfl, g, Went.same h f⟩

theorem drop_len (ln : List ((Int × Int × Int) × LG)) (k : Int × Int × Int) : (drop ln k).length ≤ ln.length := List.length_filter_le _ _

theorem close_any (w : World) (g : LkG) (h : LinksAt w g) (a b : Int) :
    Calls Try.prog 19 #[.pointer (some ⟨g.bl, 0, none⟩), .int .i64 a, .int .i64 b] w (Ans w g (closeM g.lm a b)) := by
  unfold closeM
  by_cases hv : vld a b
  · by_cases hin : (lo a b, hi a b) ∈ g.op
    · rw [if_pos hv, if_pos (show (lo a b, hi a b) ∈ g.lm.op from hin)]
      refine (close_ok w g h a b hv hin).mono ?_
      rintro e w' ⟨rfl, h', hm, f⟩
      refine ⟨rfl, _, h', ?_, hm, f, ?_, ?_⟩
      · unfold LkG.lm LkG.closed LkG.lane
        simp only []
        congr 1
        funext k
        simp only [laneOf_drop]
      · exact Nat.le_succ_of_le (List.length_filter_le _ _)
      · have h1 := drop_len (drop (drop (drop g.ln (a, b, 0)) (b, a, 0)) (a, b, 1)) (b, a, 1)
        have h2 := drop_len (drop (drop g.ln (a, b, 0)) (b, a, 0)) (a, b, 1)
        have h3 := drop_len (drop g.ln (a, b, 0)) (b, a, 0)
        have h4 := drop_len g.ln (a, b, 0)
        simp only [LkG.closed]
        omega
    · rw [if_pos hv, if_neg (show ¬ (lo a b, hi a b) ∈ g.lm.op from hin)]
      refine (close_none w g h a b hv hin).mono ?_
      rintro e w' ⟨rfl, f⟩
      exact ⟨rfl, g, Went.same h f⟩
  · rw [if_neg hv]
    refine (close_arg w g.bl a b hv).mono ?_
    rintro e w' ⟨rfl, f⟩
    exact ⟨rfl, g, Went.same h f⟩

theorem errOf_errOp (g : LkG) (k : Int × Int × Int) : errOf g k = errOp g.op k := rfl

theorem push_any (w : World) (g : LkG) (h : LinksAt w g) (hroom : g.ln.length < maxLen) (a b k : Int) (v : Value) (bs : List Int) (hv : ArgIs w v bs.length (bs.map byteV)) (hl : bs.length ≤ 140737488355328) :
    Calls Try.prog 12 #[.pointer (some ⟨g.bl, 0, none⟩), .int .i64 a, .int .i64 b, .int .i64 k, v] w (Ans w g (pushM g.lm (a, b, k) bs)) := by
  unfold pushM
  by_cases hk : okWay g.op (a, b, k)
  · rw [if_pos (show okWay g.lm.op (a, b, k) from hk)]
    by_cases hf : (g.lane (a, b, k)).length < 64
    · rw [if_pos (show (g.lm.lane (a, b, k)).length < 64 from hf)]
      refine (push_ok w g h hroom a b k hk hf v bs hv hl).mono ?_
      rintro e w' ⟨rfl, g', h1, h2, h3, h4, h5, h6⟩
      refine ⟨rfl, g', h1, ?_, h2, h3, by rw [h4]; omega, h5⟩
      unfold LkG.lm
      simp only [h4, LM.mk.injEq, true_and]
      exact funext h6
    · rw [if_neg (show ¬ (g.lm.lane (a, b, k)).length < 64 from hf)]
      refine (push_full w g h a b k hk hf v).mono ?_
      rintro e w' ⟨rfl, f⟩
      exact ⟨rfl, g, Went.same h f⟩
  · rw [if_neg (show ¬ okWay g.lm.op (a, b, k) from hk)]
    refine (push_err w g h a b k hk v).mono ?_
    rintro e w' ⟨rfl, f⟩
    exact ⟨rfl, g, Went.same h f⟩

/-- What a call leaves that answers bytes and a number. -/
def AnsB (w : World) (g : LkG) (r : LM × List Int × Int) (e : Ending) (w' : World) : Prop :=
  ∃ v, e = .returned (.tuple #[v, .int .i64 r.2.2]) ∧ SliceIs w' v r.2.1.length (r.2.1.map byteV) ∧ (∀ j, v.ownBlock = some j → g.C j) ∧ ∃ g', Went w g w' g' r.1

theorem take_any (w : World) (g : LkG) (h : LinksAt w g) (a b k p : Int) :
    Calls Try.prog 15 #[.pointer (some ⟨g.bl, 0, none⟩), .int .i64 a, .int .i64 b, .int .i64 k, .int .i64 p] w (AnsB w g (takeM g.lm (a, b, k) p)) := by
  unfold takeM
  by_cases hk : okWay g.op (a, b, k)
  · rw [if_pos (show okWay g.lm.op (a, b, k) from hk)]
    by_cases hp : 0 ≤ p ∧ p < ((g.lane (a, b, k)).length : Int)
    · rw [if_pos (show 0 ≤ p ∧ p < ((g.lm.lane (a, b, k)).length : Int) from hp)]
      obtain ⟨n, rfl⟩ := Int.eq_ofNat_of_zero_le hp.1
      refine (take_ok w g h a b k hk n (by omega)).mono ?_
      rintro e w' ⟨g', v, bs, rfl, h0, h1, h2, h3, h4, h5, h6, h7, h8⟩
      have e0 : (g.lm.lane (a, b, k)).getD (n : Int).toNat [] = bs := by
        show (g.lane (a, b, k)).getD n [] = bs
        rw [List.getD, h0]; rfl
      simp only [e0]
      refine ⟨v, rfl, h1, h2, g', h3, ?_, h4, h5, by rw [h6]; omega, by omega⟩
      unfold LkG.lm
      simp only [h6, LM.mk.injEq, true_and]
      exact funext h8
    · rw [if_neg (show ¬ (0 ≤ p ∧ p < ((g.lm.lane (a, b, k)).length : Int)) from hp)]
      refine (take_none w g h a b k hk p (by omega)).mono ?_
      rintro e w' ⟨rfl, f⟩
      exact ⟨_, rfl, .inl ⟨rfl, rfl, rfl⟩, by simp [Value.ownBlock], g, Went.same h f⟩
  · rw [if_neg (show ¬ okWay g.lm.op (a, b, k) from hk)]
    refine (take_err w g h a b k p hk).mono ?_
    rintro e w' ⟨rfl, f⟩
    exact ⟨_, rfl, .inl ⟨rfl, rfl, rfl⟩, by simp [Value.ownBlock], g, Went.same h f⟩

/-- An act, on links as the document sees them. -/
noncomputable def doM (m : LM) (d : ActD) : LM × List Int × Int :=
  if d.kind = 0 then ((openM m d.a d.b).1, [], (openM m d.a d.b).2)
  else if d.kind = 1 then ((closeM m d.a d.b).1, [], (closeM m d.a d.b).2)
  else if d.kind = 2 then ((pushM m (d.a, d.b, d.lane) d.bytes).1, [], (pushM m (d.a, d.b, d.lane) d.bytes).2)
  else if d.kind = 3 then takeM m (d.a, d.b, d.lane) d.pick
  else (m, [], 0)

def actV (d : ActD) (bv : Value) : Value := .agg #[.int .i64 d.kind, .int .i64 d.a, .int .i64 d.b, .int .i64 d.lane, .int .i64 d.pick, bv]

set_option maxHeartbeats 2000000 in
theorem do_any (w : World) (g : LkG) (h : LinksAt w g) (hr1 : g.op.length < maxLen) (hr2 : g.ln.length < maxLen) (d : ActD) (bv : Value) (hb : ArgIs w bv d.bytes.length (d.bytes.map byteV)) (hl : d.bytes.length ≤ 140737488355328) :
    Calls Try.prog 22 #[.pointer (some ⟨g.bl, 0, none⟩), actV d bv] w (AnsB w g (doM g.lm d)) := by
  obtain ⟨kd, a, b, ln, pk, bs⟩ := d
  obtain ⟨ba, bc, hbv⟩ := hb.form
  simp only [] at hbv
  subst hbv
  unfold doM actV
  simp only [] at hb hl ⊢
  have F0 : Fr No w (w.alloc (.cells #[.int .i64 kd, .int .i64 a, .int .i64 b, .int .i64 ln, .int .i64 pk, .slice ba bs.length bc] 40)) := by (repeat (first | with_reducible exact Fr.refl _ _ | with_reducible assumption | with_reducible refine Fr.drew ?_ | with_reducible refine Fr.drewN ?_ _ | with_reducible refine Fr.alloc ?_ _ | with_reducible refine Fr.setCell ?_ _ (.inl (by simp <;> omega)) _))
  have h0 := h.keep0 F0
  have hb0 := hb.keep F0
  have lift : ∀ {w' : World} {g' : LkG} {m' : LM}, Went (w.alloc (.cells #[.int .i64 kd, .int .i64 a, .int .i64 b, .int .i64 ln, .int .i64 pk, .slice ba bs.length bc] 40)) g w' g' m' → Went w g w' g' m' := fun hw =>
    ⟨hw.at_, hw.lm, (Moved.refl g w.heap.size).trans hw.mv F0.size, F0.of0.trans hw.fr (fun _ _ h => h), hw.n1, hw.n2⟩
  by_cases k0 : kd = 0
  · rw [if_pos k0]
    have e0 : (kd == 0) = true := by simp [k0]
    clear k0
    have hc := open_any _ g h0 hr1 a b
    have HC := Lib.hid hc
    clear hc
    go_enter Try.func22, Try.ntmps22
    go_wp2_with fail
    refine HC.out.mono ?_
    rintro e w1 ⟨rfl, g', hw⟩
    have HF := Lib.hid (show AnsB w g ((openM g.lm a b).1, [], (openM g.lm a b).2) (.returned (.tuple #[.slice none 0 0, .int .i64 (openM g.lm a b).2])) w1 from ⟨_, rfl, .inl ⟨rfl, rfl, rfl⟩, by simp [Value.ownBlock], g', lift hw⟩)
    clear hw
    go_wp2
    go_ret2
    exact HF.out
  · rw [if_neg k0]
    have e0 : (kd == 0) = false := by simp [k0]
    clear k0
    by_cases k1 : kd = 1
    · rw [if_pos k1]
      have e1 : (kd == 1) = true := by simp [k1]
      clear k1
      have hc := close_any _ g h0 a b
      have HC := Lib.hid hc
      clear hc
      go_enter Try.func22, Try.ntmps22
      go_wp2_with fail
      refine HC.out.mono ?_
      rintro e w1 ⟨rfl, g', hw⟩
      have HF := Lib.hid (show AnsB w g ((closeM g.lm a b).1, [], (closeM g.lm a b).2) (.returned (.tuple #[.slice none 0 0, .int .i64 (closeM g.lm a b).2])) w1 from ⟨_, rfl, .inl ⟨rfl, rfl, rfl⟩, by simp [Value.ownBlock], g', lift hw⟩)
      clear hw
      go_wp2
      go_ret2
      exact HF.out
    · rw [if_neg k1]
      have e1 : (kd == 1) = false := by simp [k1]
      clear k1
      by_cases k2 : kd = 2
      · rw [if_pos k2]
        have e2 : (kd == 2) = true := by simp [k2]
        clear k2
        have hc := push_any _ g h0 hr2 a b ln (.slice ba bs.length bc) bs hb0 hl
        have HC := Lib.hid hc
        clear hc hb hb0
        go_enter Try.func22, Try.ntmps22
        go_wp2_with fail
        refine HC.out.mono ?_
        rintro e w1 ⟨rfl, g', hw⟩
        have HF := Lib.hid (show AnsB w g ((pushM g.lm (a, b, ln) bs).1, [], (pushM g.lm (a, b, ln) bs).2) (.returned (.tuple #[.slice none 0 0, .int .i64 (pushM g.lm (a, b, ln) bs).2])) w1 from ⟨_, rfl, .inl ⟨rfl, rfl, rfl⟩, by simp [Value.ownBlock], g', lift hw⟩)
        clear hw
        go_wp2
        go_ret2
        exact HF.out
      · rw [if_neg k2]
        have e2 : (kd == 2) = false := by simp [k2]
        clear k2
        by_cases k3 : kd = 3
        · rw [if_pos k3]
          have e3 : (kd == 3) = true := by simp [k3]
          clear k3
          have hc := take_any _ g h0 a b ln pk
          have HC := Lib.hid hc
          clear hc hb hb0
          go_enter Try.func22, Try.ntmps22
          go_wp2_with fail
          refine HC.out.mono ?_
          rintro e w1 ⟨v, rfl, hv1, hv2, g', hw⟩
          have HF := Lib.hid (show AnsB w g (takeM g.lm (a, b, ln) pk) (.returned (.tuple #[v, .int .i64 (takeM g.lm (a, b, ln) pk).2.2])) w1 from ⟨_, rfl, hv1, hv2, g', lift hw⟩)
          clear hw hv1
          go_wp2
          go_ret2
          exact HF.out
        · rw [if_neg k3]
          have e3 : (kd == 3) = false := by simp [k3]
          clear k3
          have HF := Lib.hid (show AnsB w g (g.lm, [], 0) (.returned (.tuple #[.slice none 0 0, .int .i64 0])) (w.alloc (.cells #[.int .i64 kd, .int .i64 a, .int .i64 b, .int .i64 ln, .int .i64 pk, .slice ba bs.length bc] 40)) from ⟨_, rfl, .inl ⟨rfl, rfl, rfl⟩, by simp [Value.ownBlock], g, Went.same h F0⟩)
          clear hb hb0
          go_enter Try.func22, Try.ntmps22
          go_wp2
          go_ret2
          exact HF.out
end Go.Proofs.Ytohcjfnekgnlcaa
