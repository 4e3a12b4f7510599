/- pappuslaw15: alive. -/
import Derived.Test.YtdkkjchclkjleaaGreatDoorSG44
import Derived.Test.YtdkkjchclkjleaaGreatDoorSG7
set_option linter.unusedVariables false
set_option linter.unusedSimpArgs false
set_option linter.unnecessarySimpa false
set_option linter.all false
namespace Go.Proofs.YtdkkjchclkjleaaGreatDoor
open Go Go.RowKit Go.Maps Go.MapKept
theorem Qq {P : Program} {t : TypeId} {n : Nat} {pl : List (Nat × Nat)} {vs : List (Nat × Value)} {z : Value} (h : xu P t = some (n, pl)) (hz : (P.info? t).bind (·.zero) = some z) (hf : jY (pl.toArray[·]?) 0 vs) (hn : (xp vs).length ≤ z.cells.size) : P.built t vs = some (xp vs ++ z.cells.toList.drop (xp vs).length).toArray := by
 unfold xu at h
 unfold Program.built
 cases hi : P.info? t with
 | none => simp [hi] at h
 | some it =>
  cases hu : P.underlying t with
  | none => simp [hi, hu] at h
  | some d =>
   cases d <;> try (simp [hi, hu] at h; done)
   rename_i fs
   rw [hi] at hz
   simp only [Option.bind_some] at hz
   cases hp : fs.toList.mapM (fun f => (P.info? f.type).map fun i => (f.offset, i.size)) with
   | none => simp [hi, hu, hz, hp] at h
   | some places =>
    simp [hi, hu, hz, hp] at h
    obtain ⟨rfl, rfl⟩ := h
    simp only [hz, hp]
    have := Y9 (places.toArray[·]?) vs [] z.cells.toList hf (by rw [Array.length_toList]; exact hn)
    simp only [List.nil_append, Array.toArray_toList] at this
    rw [this]
theorem zcq {w0 wb w1 w2 w3 : World} {pc pp ps ma ms g ka ks : Nat} {VC VG : Nat → Prop} {S0 : List zy} (hc : Gd wb w1 pc VC S0 S0 []) (fb : Fr No w0 wb) (f2 : Fr No w1 w2) (hpv : ∀ j, poV pp ma ms VG j → w1.heap.size ≤ j) (hpo : ∀ X : Nat → Prop, (∀ j, poV pp ma ms VG j → X j) → ∀ C, yf w0 w2 pp ma ms g VG X C [] 0)
  (f3 : Fr No w2 w3) (hsv : ∀ j, stV ps ka ks RZ0 j → w2.heap.size ≤ j) (hst : ∀ X : Nat → Prop, (∀ j, stV ps ka ks RZ0 j → X j) → ∀ C, yz w0 w3 ps ka ks RZ0 X C (fun _ => [])) :
  ∃ T : Nat → Prop, (∀ X : Nat → Prop, (∀ j, T j → X j) → (∀ j, X j → j < w3.heap.size) → WS w0 w3 pc pp ps T X 0 ⟨S0, S0, [], [], fun _ => []⟩) ∧ ∀ j, T j → wb.heap.size ≤ j ∧ j < w3.heap.size := by
 obtain ⟨css, hx⟩ := hc.x
 have hcl := hx.cl
 have hc0 : css = [] := List.eq_nil_of_length_eq_zero hcl
 subst hc0
 have PO := hpo (poV pp ma ms VG) (fun _ h => h) (fun _ => [])
 have hpl : ∀ j, poV pp ma ms VG j → j < w2.heap.size := PO.hi
 have ST := hst (stV ps ka ks RZ0) (fun _ h => h) (fun _ _ => [])
 have hsl : ∀ j, stV ps ka ks RZ0 j → j < w3.heap.size := ST.hi
 have hcl2 : ∀ j, VC j → j < w1.heap.size := hc.hi
 refine ⟨wT VC pp ma ms VG ps ka ks RZ0, fun X hX hl => ⟨VC, [], ma, ms, g, VG, fun _ => [], ka, ks, RZ0, fun _ _ => [], ?_, rfl⟩, fun j hj => ?_⟩
 ·have CH : CX w0 w3 pc VC X S0 S0 [] [] := zjz ⟨(hx.fr0 f2).fr0 f3, hc.srt0, hc.ok0, hc.len0, fun i d cs h1 h2 => by simp at h1⟩ fb
  exact
   {ch := CH
    po := (hpo X (fun j hj => hX j (.inr (.inl hj))) _).fr0 f3
    st := hst X (fun j hj => hX j (.inr (.inr hj))) _
    cp := fun j h1 h2 => by have := hcl2 j h1; have := hpv j h2; omega
    csd := fun j h1 h2 => by have := hcl2 j h1; have := hsv j h2; have := f2.size; omega
    psd := fun j h1 h2 => by have := hpl j h1; have := hsv j h2; omega
    cx := fun j hj => hX j (.inl hj)
    xl := hl
    val := .nil
    l32 := by simp
    ad := fun e he => by cases he }
 ·rcases hj with e | e | e
  ·have := hcl2 j e; have := f2.size; have := f3.size
   exact ⟨hc.lo j e, by omega⟩
  ·have := hpl j e; have := f3.size; have := hpv j e; have := hc.fr.size
   exact ⟨by omega, by omega⟩
  ·have := hsv j e; have := hc.fr.size; have := f2.size
   exact ⟨by omega, hsl j e⟩
theorem zai {S0 S : List zy} {Q : StQ} {n : Nat} (hn : n < 65) {l : List StE} (hq : Q n = l) {t : TxD} (h : qV S [] [] l t = 0) : Zw ⟨S0, S, [], [], Q⟩ n t = 0 ∧ JG ⟨S0, S, [], [], Q⟩ n t = ⟨S0, S, [], [], qU Q n (l ++ [⟨idH t, t⟩])⟩ := by
 have hi : ¬ ((n : Int) < 0 ∨ 64 < (n : Int)) := by omega
 subst hq
 unfold Zw JG
 rw [if_neg hi, if_neg hi]
 dsimp only
 rw [Int.toNat_natCast]
 have h' : qV S (jj []) [] (Q n) t = 0 := h
 refine ⟨h', ?_⟩
 unfold JJ
 rw [if_pos h']
theorem zcY {S0 S : List zy} {Q : StQ} {n : Nat} (hn : n < 65) {l : List StE} (hq : Q n = l) {t : TxD} {c : Int} (hc : c ≠ 0) (h : qV S [] [] l t = c) : Zw ⟨S0, S, [], [], Q⟩ n t = c ∧ JG ⟨S0, S, [], [], Q⟩ n t = ⟨S0, S, [], [], Q⟩ := by
 have hi : ¬ ((n : Int) < 0 ∨ 64 < (n : Int)) := by omega
 subst hq
 unfold Zw JG
 rw [if_neg hi, if_neg hi]
 dsimp only
 rw [Int.toNat_natCast]
 have h' : qV S (jj []) [] (Q n) t = c := h
 refine ⟨h', ?_⟩
 unfold JJ
 rw [if_neg (by rw [h']; exact hc), zbK]
def zhm : StQ := fun _ => []
def zc8 : StQ := qU zhm 3 [eA]
def zc1 : StQ := qU zc8 64 [eB]
def XY : StQ := qU zc1 3 [eA, eD]
def zbS : StQ := qU XY 3 []
theorem zgf : Jo zbS = [64] := by
 have h : ∀ i ∈ List.range 65, decide (zbS i ≠ []) = decide (i = 64) := by
  intro i _
  unfold zbS XY zc1 zc8 zhm qU
  by_cases h3 : i = 3
  ·subst h3; simp
  ·by_cases h64 : i = 64
   ·subst h64; simp
   ·simp [h3, h64]
 unfold Jo
 rw [List.filter_congr h]
 decide
theorem zaU : xu Tryz.prog 103 = some (33, [(0, 1), (1, 32)]) := by kernel_rfl
theorem zcm (v : Int) {x : zi} (h : zQ x) : jY (([(0, 1), (1, 32)] : List (Nat × Nat)).toArray[·]?) 0 [(0, .int .u64 v), (1, .agg (zj x).toArray)] := by
 have h : (Value.agg (zj x).toArray).cells.size = 32 := by show (zj x).toArray.size = 32; simpa using zE h
 exact ⟨rfl, by rw [h]; rfl, trivial⟩
theorem zbg (v : Int) (x : zi) : xp [(0, .int .u64 v), (1, .agg (zj x).toArray)] = zG ⟨v, x⟩ := by simp [xp, Value.cells, zG, zj]
theorem zgu (w : World) : (Instr.build 108 #[]).run Tryz.prog w = .ok (.agg (inC xO (.slice none 0 0)).toArray) w := by kernel_rfl
theorem zhN (w : World) : (Instr.build 103 #[(0, .int .u64 400)]).run Tryz.prog w = .ok (.agg (zG ⟨400, yN⟩).toArray) w := by kernel_rfl
theorem ziF (w : World) : (Instr.build 103 #[(0, .int .u64 300)]).run Tryz.prog w = .ok (.agg (zG ⟨300, yN⟩).toArray) w := by kernel_rfl
theorem zhn (a b : Option Addr) (n c m d : Nat) (w : World) : (Instr.build 34 #[(1, .slice a n c), (2, .slice b m d)]).run Tryz.prog w = .ok (.agg [.int .u32 0, .slice a n c, .slice b m d].toArray) w := by kernel_rfl
theorem zjb (a b : Option Addr) (n c m d : Nat) (w : World) : (Instr.build 34 #[(0, .int .u32 1), (1, .slice a n c), (2, .slice b m d)]).run Tryz.prog w = .ok (.agg [.int .u32 1, .slice a n c, .slice b m d].toArray) w := by kernel_rfl
theorem zeS : xu Tryz.prog 95 = some (33, [(0, 32), (32, 1)]) := by kernel_rfl
theorem zh1 : (Tryz.prog.info? 95).bind (·.zero) = some (.agg (zB xO).toArray) := by kernel_rfl
theorem zhp {x : zi} (h : zQ x) : Tryz.prog.built 95 [(0, .agg (zj x).toArray)] = some (zB ⟨x, 0⟩).toArray := by
 have hs : (Value.agg (zj x).toArray).cells.size = 32 := by show (zj x).toArray.size = 32; simpa using zE h
 have e : xp [(0, .agg (zj x).toArray)] = zj x := by simp [xp, Value.cells]
 have := Qq (P := Tryz.prog) (t := 95) (vs := [(0, .agg (zj x).toArray)]) zeS zh1 ⟨by rw [hs]; rfl, trivial⟩ (by rw [e, zE h]; decide)
 rw [this, e, zE h]
 rfl
theorem zfL : xu Tryz.prog 108 = some (34, [(0, 33), (33, 1)]) := by kernel_rfl
theorem zia : (Tryz.prog.info? 108).bind (·.zero) = some (.agg (inC xO (.slice none 0 0)).toArray) := by kernel_rfl
theorem zfZ {q : zF} (h : q.ok) : Tryz.prog.built 108 [(0, .agg (zB q).toArray)] = some (inC q (.slice none 0 0)).toArray := by
 have hs : (Value.agg (zB q).toArray).cells.size = 33 := by show (zB q).toArray.size = 33; simpa using yb h
 have e : xp [(0, .agg (zB q).toArray)] = zB q := by simp [xp, Value.cells]
 have := Qq (P := Tryz.prog) (t := 108) (vs := [(0, .agg (zB q).toArray)]) zfL zia ⟨by rw [hs]; rfl, trivial⟩ (by rw [e, yb h]; decide)
 rw [this, e, yb h]
 rfl
theorem za2 {w : World} {b : Nat} {o : yF} (h : w.heap[b]? = some (.cells (zG o).toArray 103 (0, 0))) (ok : o.ok) : xz w (.slice (some ⟨b, 0, none⟩) 1 1) [o] :=
 ⟨fun x hx => by simp at hx; subst hx; exact ok, .inl (.inr ⟨b, 0, 1, rfl, Nat.le_refl _, by decide, fun j u hj => by
  have := ya h j u (by simpa using hj)
  simpa using this, xf h⟩)⟩
theorem zf6 {w : World} {b1 b2 : Nat} {v : Int} {p : zF} {o : yF} (h1 : w.heap[b1]? = some (.cells (inC p (.slice none 0 0)).toArray 108 (0, 0))) (h2 : w.heap[b2]? = some (.cells (zG o).toArray 103 (0, 0))) (hp : p.ok) (ho : o.ok) (hv : 0 ≤ v ∧ v ≤ 4294967295) : TxQ w ⟨v, [⟨p, []⟩], [o]⟩ [.int .u32 v, .slice (some ⟨b1, 0, none⟩) 1 1, .slice (some ⟨b2, 0, none⟩) 1 1] := by
 refine ⟨some ⟨b1, 0, none⟩, 1, some ⟨b2, 0, none⟩, 1, rfl, hv, ?_, za2 h2 ho⟩
 refine ⟨some ⟨b1, 0, none⟩, 1, rfl, by unfold maxLen; simp, fun i d hi => ?_⟩
 cases i with
 | zero =>
  simp at hi
  subst hi
  refine ⟨b1, 0, inC p (.slice none 0 0), rfl, by have := ya h1; simpa using this, none, 0, rfl, hp, by simp, ?_⟩
  exact .inl (.inl ⟨rfl, rfl, rfl⟩)
 | succ i => simp at hi
theorem zbJ {w : World} {X : Nat → Prop} {b1 b2 : Nat} {v : Int} {p : zF} {o : yF} (h1 : w.heap[b1]? = some (.cells (inC p (.slice none 0 0)).toArray 108 (0, 0))) (h2 : w.heap[b2]? = some (.cells (zG o).toArray 103 (0, 0))) (hp : p.ok) (ho : o.ok) (hv : 0 ≤ v ∧ v ≤ 4294967295) (n1 : ¬ X b1) (n2 : ¬ X b2) : Kept X w (fun w => TxQ w ⟨v, [⟨p, []⟩], [o]⟩ [.int .u32 v, .slice (some ⟨b1, 0, none⟩) 1 1, .slice (some ⟨b2, 0, none⟩) 1 1]) :=
 fun _ f => zf6 (f.obj h1 n1) (f.obj h2 n2) hp ho hv
end Go.Proofs.YtdkkjchclkjleaaGreatDoor
