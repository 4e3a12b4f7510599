/- As Tree, where the operation numbered m waits for all others: behind it nothing is asked of the world. -/
import Derived.Test.YtmpamcnlineceaaDoorProg
import Derived.Lib.Hide
import Derived.Deep.Cut
import Derived.Test.YtmpamcnlineceaaDoorMG6
import Derived.Test.YtmpamcnlineceaaDoorMG7
import Derived.Test.YtmpamcnlineceaaDoorMG5
set_option linter.unusedVariables false
set_option linter.unusedSimpArgs false
namespace Go
section
variable {P : Program} {ops : Array Oper} {S : World → Prop}
def lexU (P : Program) (ops : Array Oper) (S : World → Prop) (Q : Act → World → Prop) (m : Nat) : Nat → List Nat → Act → World → Prop
  | 0, _, a, w => Q a w
  | n + 1, L, a, w =>
    (∃ i o v, i ∈ L ∧ i ≠ m ∧ m ∈ L ∧ avail ops L i = true ∧ ops[i]? = some o ∧ YieldsIf P ops S o v a ∧ lexU P ops S Q m n (L.erase i) (a.put o.dst v) w) ∨
    (∀ j ∈ L, avail ops L j = true → ∃ o, ops[j]? = some o ∧ Region.wanted o (yielded ops a.tmps) = true ∧ o.wp P a w (fun a' w' => (j ≠ m → S w') ∧ lexU P ops S Q m n (L.erase j) a' w') NoQ)

theorem lexU_sound {m : Nat} (hok : lexTOk ops = true) (hsink : sinkM ops m = true) {Q : Exit → Act → World → Prop} (hQ : ∀ c a d v w, Q (.panic c) (Act.put a d v) w → Q (.panic c) a w) :
    ∀ (n : Nat) (listed : Array Bool) (a : Act) (w : World), listed.size = ops.size → LClosed ops listed → (unl ops listed).length = n → (m ∈ unl ops listed → S w) →
      lexU P ops S (Q .normal) m n (unl ops listed) a w → wpAnyM P ops Q S m n listed a w := by
  simp only [lexTOk, Bool.and_eq_true] at hok
  obtain ⟨⟨⟨hns, hap⟩, hord⟩, hin⟩ := hok
  have hsel := Region.noSelect_spec hns
  have hon : ∀ (i : Nat) (oi : Oper), ops[i]? = some oi → ∀ e ∈ oi.after, Region.binds .any e = true → e.on < ops.size := fun i oi hoi e he hb => by
    have h2 := List.all_eq_true.1 hin i (List.mem_range.2 (Array.getElem?_eq_some_iff.1 hoi).1)
    rw [hoi] at h2
    have h3 := Array.all_eq_true'.1 h2 e he
    simpa only [hb, Bool.not_true, Bool.false_or, decide_eq_true_eq] using h3
  have hlow : ∀ i j, i < ops.size → Region.waitsFor .any ops i j = true → j < i := fun i j hi hw => by
    obtain ⟨oi, hoi, e, he, hb, hon'⟩ := Region.waitsFor_spec hw
    have h4 := List.all_eq_true.1 (List.all_eq_true.1 hord i (List.mem_range.2 hi)) j (List.mem_range.2 (hon' ▸ hon i oi hoi e he hb))
    simpa [hw] using h4
  intro n
  induction n with
  | zero =>
    intro listed a w hsz hc hlen hS H
    have hnil : unl ops listed = [] := List.eq_nil_of_length_eq_zero hlen
    refine ⟨?_, H⟩
    by_cases hr : Region.ready .any ops listed = []
    · exact hr
    · obtain ⟨j, hj⟩ := List.exists_mem_of_ne_nil _ hr
      obtain ⟨h0, o, ho, _⟩ := mem_ready.1 hj
      have : j ∈ unl ops listed := List.mem_filter.2 ⟨List.mem_range.2 (Array.getElem?_eq_some_iff.1 ho).1, by rw [h0]; rfl⟩
      rw [hnil] at this
      cases this
  | succ n ih =>
    intro listed a w hsz hc hlen hS H
    have memU : ∀ {j}, j ∈ unl ops listed ↔ j < ops.size ∧ listed.getD j true = false := fun {j} => by
      unfold unl
      rw [List.mem_filter, List.mem_range]
      simp
    have rdy : ∀ {j}, j ∈ Region.ready .any ops listed → j ∈ unl ops listed := fun {j} hj => by
      obtain ⟨h0, o, ho, _⟩ := mem_ready.1 hj
      exact memU.2 ⟨(Array.getElem?_eq_some_iff.1 ho).1, h0⟩
    have next : ∀ j, j ∈ Region.ready .any ops listed → ∀ a' w', (j ≠ m → m ∈ unl ops listed → S w') → lexU P ops S (Q .normal) m n ((unl ops listed).erase j) a' w' → wpAnyM P ops Q S m n (listed.setIfInBounds j true) a' w' := fun j hjr a' w' hS' hl => by
      have hj := rdy hjr
      refine ih _ a' w' (by simp [hsz]) (hc.set hjr) ?_ (fun hm => ?_) (by rw [unl_set hsz]; exact hl)
      · rw [unl_set hsz, List.length_erase_of_mem hj, hlen]
        rfl
      · rw [unl_set hsz] at hm
        by_cases e : j = m
        · subst e
          exact absurd hm (List.Nodup.not_mem_erase ((unl_pw (ops := ops) listed).imp (fun h => Nat.ne_of_lt h)))
        · exact hS' e (List.mem_of_mem_erase hm)
    have waitsReady : ∀ j, j ∈ Region.ready .any ops listed → ∀ k, k ∈ unl ops listed → Region.waitsFor .any ops j k = false := fun j hj k hk => by
      obtain ⟨_, oj, hoj, hall⟩ := mem_ready.1 hj
      refine waitsFor_false hoj fun e he hb hek => ?_
      have h1 := hall e he hb
      rw [hek] at h1
      have h2 := (memU.1 hk).2
      have hk' : k < listed.size := by rw [hsz]; exact (memU.1 hk).1
      simp [hk'] at h1 h2
      rw [h1] at h2
      cases h2
    have toReady : ∀ i, i ∈ unl ops listed → avail ops (unl ops listed) i = true → i ∈ Region.ready .any ops listed := fun i hi hav => by
      have hi' := memU.1 hi
      obtain ⟨oi, hoi⟩ : ∃ o, ops[i]? = some o := ⟨_, Array.getElem?_eq_getElem hi'.1⟩
      refine mem_ready.2 ⟨hi'.2, oi, hoi, fun e he hb => ?_⟩
      have h1 := hon i oi hoi e he hb
      cases hl : listed.getD e.on true with
      | true =>
        have : e.on < listed.size := by rw [hsz]; exact h1
        simp [this] at hl ⊢
        exact hl
      | false =>
        have h2 := List.all_eq_true.1 hav e.on (memU.2 ⟨h1, hl⟩)
        have h3 : Region.waitsFor .any ops i e.on = true := by
          unfold Region.waitsFor
          rw [hoi]
          exact Array.any_eq_true'.2 ⟨e, he, by simp [hb]⟩
        rw [h3] at h2
        cases h2
    have toAvail : ∀ j, j ∈ Region.ready .any ops listed → avail ops (unl ops listed) j = true := fun j hj =>
      List.all_eq_true.2 fun k hk => by rw [waitsReady j hj k hk]; rfl
    rcases H with ⟨i, oi, v, hi, him, hmL, hav, hoi, hy, hl⟩ | H
    · have hir := toReady i hi hav
      refine wpAnyM_first hsink hoi him hsel (fun c a w => hQ c a oi.dst v w) n listed a w hsz hc (fun j oj hoj hji hun hno => ?_) hir hy (hS hmL) (next i hir _ _ (fun _ _ => hS hmL) hl)
      have hjU := memU.2 ⟨(Array.getElem?_eq_some_iff.1 hoj).1, hun⟩
      exact lexApart_spec hap hoi hoj (fun e => hji e.symm) (waitsFor_false hoj hno) (waitsReady i hir j hjU)
    · have hne : Region.ready .any ops listed ≠ [] := by
        obtain ⟨i, L, hiL⟩ : ∃ i L, unl ops listed = i :: L := by
          cases hu : unl ops listed with
          | nil => rw [hu] at hlen; cases hlen
          | cons i L => exact ⟨i, L, rfl⟩
        have hpw := unl_pw (ops := ops) listed
        have hiU : i ∈ unl ops listed := by rw [hiL]; simp
        have hmin : ∀ k, k ∈ unl ops listed → i ≤ k := fun k hk => by
          rw [hiL] at hk hpw
          rcases List.mem_cons.1 hk with rfl | hk
          · exact Nat.le_refl _
          · exact Nat.le_of_lt ((List.pairwise_cons.1 hpw).1 k hk)
        have := toReady i hiU (List.all_eq_true.2 fun k hk => by
          cases hw : Region.waitsFor .any ops i k with
          | false => rfl
          | true => have h1 := hlow i k (memU.1 hiU).1 hw; have h2 := hmin k hk; omega)
        exact fun h0 => by rw [h0] at this; cases this
      refine ⟨fun h0 => absurd h0 hne, fun j hj => ?_⟩
      obtain ⟨oj, hoj, hwj, hwp⟩ := H j (rdy hj) (toAvail j hj)
      unfold wpOp
      rw [hoj]
      simp only [hwj, if_true]
      refine .inl ?_
      have H' := Oper.wp_mono (K' := fun a' w' => ((listed.setIfInBounds j true).getD m false = false → S w') ∧ wpAnyM P ops Q S m n (listed.setIfInBounds j true) a' w') (fun a' w' ⟨hS', hl⟩ => ⟨fun hf => hS' (fun e => by
        subst e
        have hjl : j < listed.size := by rw [hsz]; exact (memU.1 (rdy hj)).1
        simp [hjl] at hf), next j hj a' w' (fun e _ => hS' e) hl⟩) hwp
      unfold Oper.wp at H' ⊢
      generalize (execOp a.eval oj).run P w = r at *
      cases r with
      | ok m w' =>
        cases m <;> simp only [Oper.upon] at H' ⊢ <;> first
          | exact H'
          | exact Calls.mono H' (fun e w'' he => by
              cases e with
              | returned u => exact he
              | panicked c => exact he.elim
              | outgrown => obtain ⟨_, _, hf⟩ := he; exact hf.elim)
      | halt x w' => cases x <;> simp only [Oper.upon] at H' ⊢ <;> exact H'.elim

theorem wp_region_lexU {id : Nat} {a : Act} {w : World} {Q : Exit → Act → World → Prop} {l : List Oper} (n : Nat) (m : Nat) (L : List Nat) (S : World → Prop) (hm : P.follows .mixedOrders = true) (hok : lexTOk l.toArray = true) (hsink : sinkM l.toArray m = true) (hn : l.length = n) (hL : List.range n = L)
    (hS : S w.drew)
    (h : ∀ K : Act → World → Prop, Shut (∀ a w, Q .normal a w → K a w) → lexU P l.toArray S K m n L a w.drew) : (Code.region id l.toArray true).wp P Q a w := by
  refine wp_region_noPanic (wp_region_any hm (wpAny_of_M (S := S) (m := m) _ _ _ _ ?_))
  have hu : unl l.toArray (Array.replicate l.toArray.size false) = List.range l.toArray.size := by
    unfold unl
    rw [List.filter_eq_self]
    intro i hi
    have := List.mem_range.1 hi
    simp at this
    simp [this]
  have hsz : l.toArray.size = n := by simpa using hn
  refine lexU_sound hok hsink (fun _ _ _ _ _ h => h) _ _ a _ (by simp) (fun j oj hj hl => ?_) (by rw [hu]; simp) (fun _ => hS) (by rw [hu, hsz, hL]; exact h _ (fun _ _ h => h))
  by_cases hjs : j < l.toArray.size
  · simp at hjs
    simp [hjs] at hl
  · simp at hjs
    simp [hjs] at hl

section
variable {K : Act → World → Prop} {a : Act} {w : World} {n m : Nat} {L : List Nat} {o : Oper}
theorem lexU_nil (h : K a w) : lexU P ops S K m 0 L a w := h
theorem lexU_rd (i : Nat) (hm : (L.contains i && avail ops L i && L.contains m && i != m) = true) (ho : ops.toList[i]? = some o) (hw : Region.wanted o (yielded ops a.tmps) = true) (h : ∃ v, (∀ w, S w → (execOp a.eval o).run P w = .ok (.value v) w) ∧ lexU P ops S K m n (L.erase i) (a.put o.dst v) w) : lexU P ops S K m (n + 1) L a w := by
  simp only [Bool.and_eq_true, List.contains_iff_mem, bne_iff_ne] at hm
  obtain ⟨v, hy, h⟩ := h
  exact .inl ⟨i, o, v, hm.1.1.1, hm.2, hm.1.2, hm.1.1.2, by simpa using ho, .inl ⟨hw, hy⟩, h⟩
theorem lexU_sk (i : Nat) (hm : (L.contains i && avail ops L i && L.contains m && i != m) = true) (ho : ops.toList[i]? = some o) (hw : Region.wanted o (yielded ops a.tmps) = false) (h : lexU P ops S K m n (L.erase i) (a.put o.dst undef) w) : lexU P ops S K m (n + 1) L a w := by
  simp only [Bool.and_eq_true, List.contains_iff_mem, bne_iff_ne] at hm
  exact .inl ⟨i, o, undef, hm.1.1.1, hm.2, hm.1.2, hm.1.1.2, by simpa using ho, .inr ⟨hw, rfl⟩, h⟩
theorem lexU_ef (js : List Nat) (hj : L.filter (avail ops L) = js) (h : ∀ j ∈ js, ∃ o, ops[j]? = some o ∧ Region.wanted o (yielded ops a.tmps) = true ∧ ∀ K', Shut (∀ a' w', (j ≠ m → S w') → ((j ≠ m → S w') → lexU P ops S K m n (L.erase j) a' w') → K' a' w') → o.wp P a w K' NoQ) : lexU P ops S K m (n + 1) L a w := by
  refine .inr fun j hjL hav => ?_
  obtain ⟨o, ho, hw, hwp⟩ := h j (by rw [← hj]; exact List.mem_filter.2 ⟨hjL, hav⟩)
  exact ⟨o, ho, hw, hwp _ (fun _ _ h1 h2 => ⟨h1, h2 h1⟩)⟩
theorem lexU_ef1 (j : Nat) (hj : L.filter (avail ops L) = [j]) (ho : ops.toList[j]? = some o) (hw : Region.wanted o (yielded ops a.tmps) = true) (h : ∀ K', Shut (∀ a' w', (j ≠ m → S w') → ((j ≠ m → S w') → lexU P ops S K m n (L.erase j) a' w') → K' a' w') → o.wp P a w K' NoQ) : lexU P ops S K m (n + 1) L a w :=
  lexU_ef [j] hj (fun j' hj' => by
    have := List.mem_singleton.1 hj'
    subst this
    exact ⟨o, by simpa using ho, hw, h⟩)
theorem lexU_ef2 (j k : Nat) {o2 : Oper} (hj : L.filter (avail ops L) = [j, k]) (ho : ops.toList[j]? = some o) (hw : Region.wanted o (yielded ops a.tmps) = true) (ho2 : ops.toList[k]? = some o2) (hw2 : Region.wanted o2 (yielded ops a.tmps) = true)
    (h : ∀ K', Shut (∀ a' w', (j ≠ m → S w') → ((j ≠ m → S w') → lexU P ops S K m n (L.erase j) a' w') → K' a' w') → o.wp P a w K' NoQ)
    (h2 : ∀ K', Shut (∀ a' w', (k ≠ m → S w') → ((k ≠ m → S w') → lexU P ops S K m n (L.erase k) a' w') → K' a' w') → o2.wp P a w K' NoQ) : lexU P ops S K m (n + 1) L a w :=
  lexU_ef [j, k] hj (fun j' hj' => by
    rcases List.mem_cons.1 hj' with rfl | hj'
    · exact ⟨o, by simpa using ho, hw, h⟩
    · have := List.mem_singleton.1 hj'
      subst this
      exact ⟨o2, by simpa using ho2, hw2, h2⟩)
end
end
attribute [irreducible] lexU
end Go

/- Sums of 256 bits, plain, as the program reckons them; a number's bits turned (printed by gen_sha.py). -/
namespace Go.Proofs.YtmpamcnlineceaaDoor
open Go Go.RowKit Go.Maps Go.MapKept

def shaK : List Int := [1116352408, 1899447441, 3049323471, 3921009573, 961987163, 1508970993, 2453635748, 2870763221, 3624381080, 310598401, 607225278, 1426881987, 1925078388, 2162078206, 2614888103, 3248222580, 3835390401, 4022224774, 264347078, 604807628, 770255983, 1249150122, 1555081692, 1996064986, 2554220882, 2821834349, 2952996808, 3210313671, 3336571891, 3584528711, 113926993, 338241895, 666307205, 773529912, 1294757372, 1396182291, 1695183700, 1986661051, 2177026350, 2456956037, 2730485921, 2820302411, 3259730800, 3345764771, 3516065817, 3600352804, 4094571909, 275423344, 430227734, 506948616, 659060556, 883997877, 958139571, 1322822218, 1537002063, 1747873779, 1955562222, 2024104815, 2227730452, 2361852424, 2428436474, 2756734187, 3204031479, 3329325298]
def shaI : List Int := [1779033703, 3144134277, 1013904242, 2773480762, 1359893119, 2600822924, 528734635, 1541459225]
/-- The bits of x turned: m and d are the two powers of two. -/
def rot (m d x : Int) : Int := bits .or .u32 (x * m % 4294967296) (x / d)
abbrev rot2 (x : Int) : Int := rot 1073741824 4 x
abbrev rot6 (x : Int) : Int := rot 67108864 64 x
abbrev rot7 (x : Int) : Int := rot 33554432 128 x
abbrev rot11 (x : Int) : Int := rot 2097152 2048 x
abbrev rot13 (x : Int) : Int := rot 524288 8192 x
abbrev rot17 (x : Int) : Int := rot 32768 131072 x
abbrev rot18 (x : Int) : Int := rot 16384 262144 x
abbrev rot19 (x : Int) : Int := rot 8192 524288 x
abbrev rot22 (x : Int) : Int := rot 1024 4194304 x
abbrev rot25 (x : Int) : Int := rot 128 33554432 x
/-- The t-th number of a schedule's next sixteen, of x, y, u and what stood there. -/
def wordV (x y u c : Int) : Int := IntKind.u32.wrap (c + IntKind.u32.wrap (IntKind.u32.wrap (bits .xor .u32 (bits .xor .u32 (rot17 x) (rot19 x)) (x / 1024) + u) + bits .xor .u32 (bits .xor .u32 (rot7 y) (rot18 y)) (y / 8)))
def wordW (W : List Int) (t : Nat) : List Int := if t < 16 then W else W.set (t % 16) (wordV (W.getD ((t - 2) % 16) 0) (W.getD ((t - 15) % 16) 0) (W.getD ((t - 7) % 16) 0) (W.getD (t % 16) 0))
theorem wordW_len (W : List Int) (t : Nat) : (wordW W t).length = W.length := by unfold wordW; split <;> simp
def u32V (x : Int) : Value := .int .u32 x
theorem i64_and15 {n : Int} (h0 : 0 ≤ n) (h1 : n < 9223372036854775808) : bits .and .i64 n 15 = n % 16 := bits_mask .i64 63 (by decide) (fun n h0 h1 => IntWalk.i64_in _ (by omega)) 4 (by decide) n h0 (by omega)
/-- The state of the rounds: eight numbers, the schedule. -/
structure ShaS where
  a : Int
  b : Int
  c : Int
  d : Int
  e : Int
  f : Int
  g : Int
  h : Int
  W : List Int
def shaP (s : ShaS) (t : Nat) : Int := IntKind.u32.wrap ((s.h + bits .xor .u32 (bits .xor .u32 (rot6 s.e) (rot11 s.e)) (rot25 s.e)) % 4294967296 + IntKind.u32.wrap (IntKind.u32.wrap (bits .xor .u32 s.g (bits .and .u32 s.e (bits .xor .u32 s.f s.g)) + shaK.getD t 0) + (wordW s.W t).getD (t % 16) 0))
def shaQ (s : ShaS) : Int := (bits .xor .u32 (bits .xor .u32 (rot2 s.a) (rot13 s.a)) (rot22 s.a) + bits .or .u32 (bits .and .u32 s.a s.b) (bits .and .u32 s.c (bits .or .u32 s.a s.b))) % 4294967296
def shaStep (s : ShaS) (t : Nat) : ShaS := ⟨(shaP s t + shaQ s) % 4294967296, s.a, s.b, s.c, (s.d + shaP s t) % 4294967296, s.e, s.f, s.g, wordW s.W t⟩
def shaRun (s : ShaS) : Nat → ShaS
  | 0 => s
  | n + 1 => shaStep (shaRun s n) n
/-- A block's bytes as the schedule's first sixteen numbers, as far as i bytes go. -/
def shaFill (B : List Int) : Nat → List Int
  | 0 => List.replicate 16 0
  | i + 1 => (shaFill B i).set (i / 4) (bits .or .u32 ((shaFill B i).getD (i / 4) 0 * 256 % 4294967296) (B.getD i 0 % 4294967296))
theorem shaFill_len (B : List Int) : ∀ i, (shaFill B i).length = 16
  | 0 => by simp [shaFill]
  | i + 1 => by simp [shaFill, shaFill_len B i]
theorem shaRun_len {s : ShaS} (h : s.W.length = 16) : ∀ n, (shaRun s n).W.length = 16
  | 0 => h
  | n + 1 => by simp [shaRun, shaStep, wordW_len, shaRun_len h n]
def shaBlock (S B : List Int) : List Int :=
  let r := shaRun ⟨S.getD 0 0, S.getD 1 0, S.getD 2 0, S.getD 3 0, S.getD 4 0, S.getD 5 0, S.getD 6 0, S.getD 7 0, shaFill B 64⟩ 64
  [(S.getD 0 0 + r.a) % 4294967296, (S.getD 1 0 + r.b) % 4294967296, (S.getD 2 0 + r.c) % 4294967296, (S.getD 3 0 + r.d) % 4294967296, (S.getD 4 0 + r.e) % 4294967296, (S.getD 5 0 + r.f) % 4294967296, (S.getD 6 0 + r.g) % 4294967296, (S.getD 7 0 + r.h) % 4294967296]
theorem rotl_2 (w : World) (x : Int) : Calls Tryd.prog 84 #[.int .u32 x, .int .i64 (-2)] w fun e w' => e = .returned (.int .u32 (rot2 x)) ∧ w = w' := by
  have e1 : bits .and .u64 (IntKind.u64.wrap (-2)) 31 = 30 := by decide +kernel
  go_enter Tryd.func84, Tryd.ntmps84
  go_wp2
  go_ret
  exact ⟨rfl, rfl⟩
theorem rotl_6 (w : World) (x : Int) : Calls Tryd.prog 84 #[.int .u32 x, .int .i64 (-6)] w fun e w' => e = .returned (.int .u32 (rot6 x)) ∧ w = w' := by
  have e1 : bits .and .u64 (IntKind.u64.wrap (-6)) 31 = 26 := by decide +kernel
  go_enter Tryd.func84, Tryd.ntmps84
  go_wp2
  go_ret
  exact ⟨rfl, rfl⟩
theorem rotl_7 (w : World) (x : Int) : Calls Tryd.prog 84 #[.int .u32 x, .int .i64 (-7)] w fun e w' => e = .returned (.int .u32 (rot7 x)) ∧ w = w' := by
  have e1 : bits .and .u64 (IntKind.u64.wrap (-7)) 31 = 25 := by decide +kernel
  go_enter Tryd.func84, Tryd.ntmps84
  go_wp2
  go_ret
  exact ⟨rfl, rfl⟩
theorem rotl_11 (w : World) (x : Int) : Calls Tryd.prog 84 #[.int .u32 x, .int .i64 (-11)] w fun e w' => e = .returned (.int .u32 (rot11 x)) ∧ w = w' := by
  have e1 : bits .and .u64 (IntKind.u64.wrap (-11)) 31 = 21 := by decide +kernel
  go_enter Tryd.func84, Tryd.ntmps84
  go_wp2
  go_ret
  exact ⟨rfl, rfl⟩
theorem rotl_13 (w : World) (x : Int) : Calls Tryd.prog 84 #[.int .u32 x, .int .i64 (-13)] w fun e w' => e = .returned (.int .u32 (rot13 x)) ∧ w = w' := by
  have e1 : bits .and .u64 (IntKind.u64.wrap (-13)) 31 = 19 := by decide +kernel
  go_enter Tryd.func84, Tryd.ntmps84
  go_wp2
  go_ret
  exact ⟨rfl, rfl⟩
theorem rotl_17 (w : World) (x : Int) : Calls Tryd.prog 84 #[.int .u32 x, .int .i64 (-17)] w fun e w' => e = .returned (.int .u32 (rot17 x)) ∧ w = w' := by
  have e1 : bits .and .u64 (IntKind.u64.wrap (-17)) 31 = 15 := by decide +kernel
  go_enter Tryd.func84, Tryd.ntmps84
  go_wp2
  go_ret
  exact ⟨rfl, rfl⟩
theorem rotl_18 (w : World) (x : Int) : Calls Tryd.prog 84 #[.int .u32 x, .int .i64 (-18)] w fun e w' => e = .returned (.int .u32 (rot18 x)) ∧ w = w' := by
  have e1 : bits .and .u64 (IntKind.u64.wrap (-18)) 31 = 14 := by decide +kernel
  go_enter Tryd.func84, Tryd.ntmps84
  go_wp2
  go_ret
  exact ⟨rfl, rfl⟩
theorem rotl_19 (w : World) (x : Int) : Calls Tryd.prog 84 #[.int .u32 x, .int .i64 (-19)] w fun e w' => e = .returned (.int .u32 (rot19 x)) ∧ w = w' := by
  have e1 : bits .and .u64 (IntKind.u64.wrap (-19)) 31 = 13 := by decide +kernel
  go_enter Tryd.func84, Tryd.ntmps84
  go_wp2
  go_ret
  exact ⟨rfl, rfl⟩
theorem rotl_22 (w : World) (x : Int) : Calls Tryd.prog 84 #[.int .u32 x, .int .i64 (-22)] w fun e w' => e = .returned (.int .u32 (rot22 x)) ∧ w = w' := by
  have e1 : bits .and .u64 (IntKind.u64.wrap (-22)) 31 = 10 := by decide +kernel
  go_enter Tryd.func84, Tryd.ntmps84
  go_wp2
  go_ret
  exact ⟨rfl, rfl⟩
theorem rotl_25 (w : World) (x : Int) : Calls Tryd.prog 84 #[.int .u32 x, .int .i64 (-25)] w fun e w' => e = .returned (.int .u32 (rot25 x)) ∧ w = w' := by
  have e1 : bits .and .u64 (IntKind.u64.wrap (-25)) 31 = 7 := by decide +kernel
  go_enter Tryd.func84, Tryd.ntmps84
  go_wp2
  go_ret
  exact ⟨rfl, rfl⟩
end Go.Proofs.YtmpamcnlineceaaDoor

/- sha: a schedule's next number. -/
namespace Go.Proofs.YtmpamcnlineceaaDoor
open Go Go.RowKit Go.Maps Go.MapKept

def u32s (W : List Int) : Array Value := (W.map u32V).toArray
theorem u32s_set (W : List Int) (k : Nat) (v : Int) : (u32s W).setIfInBounds k (.int .u32 v) = u32s (W.set k v) := by
  unfold u32s
  rw [List.setIfInBounds_toArray, List.map_set]
  rfl
theorem u32_cell {w : World} {q k : Nat} {W : List Int} {T : TypeId} {f : Nat × Nat} (h : w.heap[q]? = some (.cells (u32s W) T f)) (hk : k < W.length) : w.cell? ⟨q, k, none⟩ = some (.int .u32 (W.getD k 0)) := by
  simp only [World.cell?, h, u32s]
  simp [hk, u32V]
theorem u32_unfrozen {w : World} {b i : Nat} {c : Array Value} {T : TypeId} (h : w.heap[b]? = some (.cells c T (0, 0))) : w.frozen? ⟨b, i, none⟩ = false := by simp [World.frozen?, h]
set_option maxRecDepth 20000 in
set_option maxHeartbeats 4000000 in
theorem word_any {w : World} {q : Nat} {W : List Int} (hW : W.length = 16) (hb : w.heap[q]? = some (.cells (u32s W) 164 (0, 0))) {t : Nat} (ht : t < 64) :
    Calls Tryd.prog 85 #[.pointer (some ⟨q, 0, none⟩), .int .i64 t] w fun e w' => e = .returned (.int .u32 ((wordW W t).getD (t % 16) 0)) ∧ w'.heap[q]? = some (.cells (u32s (wordW W t)) 164 (0, 0)) ∧ Fr (fun j => j = q) w w' := by
  have HB := Lib.hid hb
  obtain ⟨k, hk⟩ : ∃ k, k = t % 16 := ⟨_, rfl⟩
  have hk16 : k < 16 := by omega
  have e1 : bits .and .i64 (t : Int) 15 = (k : Int) := by rw [i64_and15 (by omega) (by omega), hk]; omega
  have ck := u32_cell (k := k) hb (by omega)
  have hkn : (k : Int).toNat = k := by omega
  have hki : (k : Int) < 16 := by omega
  have hk0 : (0 : Int) ≤ (k : Int) := by omega
  have hk1 : ¬ (k : Int) < 0 := by omega
  by_cases h16 : t < 16
  · have j1 : decide ((16 : Int) ≤ (t : Int)) = false := by simp; omega
    have j2 : (t : Int) < 16 := by omega
    have WW := Lib.hid (show wordW W t = W by unfold wordW; rw [if_pos h16])
    rw [← hk, WW.out]
    generalize W.getD k 0 = c at *
    clear hb hk WW
    go_enter Tryd.func85, Tryd.ntmps85
    go_wp2
    go_ret
    exact ⟨by rfl, HB.out, Fr.refl _ _⟩
  · have j1 : decide ((16 : Int) ≤ (t : Int)) = true := by simp; omega
    have j2 : ¬ (t : Int) < 16 := by omega
    obtain ⟨k2, hk2⟩ : ∃ k, k = (t - 2) % 16 := ⟨_, rfl⟩
    obtain ⟨k15, hk15⟩ : ∃ k, k = (t - 15) % 16 := ⟨_, rfl⟩
    obtain ⟨k7, hk7⟩ : ∃ k, k = (t - 7) % 16 := ⟨_, rfl⟩
    have w2e : IntKind.i64.wrap ((t : Int) - 2) = (t : Int) - 2 := IntWalk.i64_in _ (by omega)
    have w15e : IntKind.i64.wrap ((t : Int) - 15) = (t : Int) - 15 := IntWalk.i64_in _ (by omega)
    have w7e : IntKind.i64.wrap ((t : Int) - 7) = (t : Int) - 7 := IntWalk.i64_in _ (by omega)
    have e2 : bits .and .i64 ((t : Int) - 2) 15 = (k2 : Int) := by rw [i64_and15 (by omega) (by omega), hk2]; omega
    have e15 : bits .and .i64 ((t : Int) - 15) 15 = (k15 : Int) := by rw [i64_and15 (by omega) (by omega), hk15]; omega
    have e7 : bits .and .i64 ((t : Int) - 7) 15 = (k7 : Int) := by rw [i64_and15 (by omega) (by omega), hk7]; omega
    have l2 : k2 < 16 := by omega
    have l15 : k15 < 16 := by omega
    have l7 : k7 < 16 := by omega
    have i2 : (k2 : Int) < 16 := by omega
    have i15 : (k15 : Int) < 16 := by omega
    have i7 : (k7 : Int) < 16 := by omega
    have o2 : (0 : Int) ≤ (k2 : Int) := by omega
    have o15 : (0 : Int) ≤ (k15 : Int) := by omega
    have o7 : (0 : Int) ≤ (k7 : Int) := by omega
    have n2 : (k2 : Int).toNat = k2 := by omega
    have n15 : (k15 : Int).toNat = k15 := by omega
    have n7 : (k7 : Int).toNat = k7 := by omega
    have C2 := Lib.hid (u32_cell (k := k2) hb (by omega))
    have C15 := Lib.hid (u32_cell (k := k15) hb (by omega))
    have C7 := Lib.hid (u32_cell (k := k7) hb (by omega))
    have CK := Lib.hid ck
    have WW := Lib.hid (show wordW W t = W.set k (wordV (W.getD k2 0) (W.getD k15 0) (W.getD k7 0) (W.getD k 0)) by unfold wordW; rw [if_neg h16, hk, hk2, hk15, hk7])
    have SG := Lib.hid (show (W.set k (wordV (W.getD k2 0) (W.getD k15 0) (W.getD k7 0) (W.getD k 0))).getD k 0 = wordV (W.getD k2 0) (W.getD k15 0) (W.getD k7 0) (W.getD k 0) by
      have : k < W.length := by omega
      simp [this])
    rw [← hk]
    generalize W.getD k2 0 = x at *
    generalize W.getD k15 0 = y at *
    generalize W.getD k7 0 = u at *
    generalize W.getD k 0 = c at *
    clear ck hk hk2 hk15 hk7
    go_enter Tryd.func85, Tryd.ntmps85
    go_wp2
    refine wp_region_lexL [false, false, false, false, false, false, false, false, false, false, false, false, false, false, false, false] (fun w' => w'.cell? ⟨q, k2, none⟩ = some (.int .u32 x) ∧ w'.cell? ⟨q, k15, none⟩ = some (.int .u32 y)) (by kernel_rfl) (by kernel_rfl) ?_ (fun K hK => ?_)
    · exact ⟨(Fr.refl No w).drew.cell C2.out id, (Fr.refl No w).drew.cell C15.out id⟩
    repeat (first | ((first | with_reducible refine lexL_read ?_ | ((with_reducible refine lexL_readG ?_ ?_); (focus rfl))); apply Exists.intro; refine ⟨fun w' hS => ?_, ?_⟩; (focus (obtain ⟨s1, s2⟩ := hS; go_simp; (try with_reducible rfl); done)); try simp only [Act.put, List.setIfInBounds_toArray, List.set_cons_zero, List.set_cons_succ]) | ((first | ((with_reducible refine lexL_skip (c := false) ?_ ?_ ?_); (focus rfl); (focus rfl)) | ((with_reducible refine lexL_skip (c := true) ?_ ?_ ?_); (focus rfl); (focus rfl)) | ((with_reducible refine lexL_skipU ?_ ?_); (focus rfl))); try simp only [Act.put, List.setIfInBounds_toArray, List.set_cons_zero, List.set_cons_succ]))
    refine lexL_nil (hK.out _ _ ?_)
    have F1 := Lib.hid (Fr.refl No w).drew
    generalize w.drew = w1 at *
    have M0 := Lib.hid True.intro
    have M1 := Lib.hid True.intro
    have M2 := Lib.hid True.intro
    have M3 := Lib.hid True.intro
    go_upto_region 5 with (first | (have mk := M0.out; go_at_call 84; refine (rotl_17 _ _).mono ?_; rintro e w2 ⟨rfl, rfl⟩; clear mk M0) | (have mk := M1.out; go_at_call 84; refine (rotl_19 _ _).mono ?_; rintro e w2 ⟨rfl, rfl⟩; clear mk M1) | (have mk := M2.out; go_at_call 84; refine (rotl_7 _ _).mono ?_; rintro e w2 ⟨rfl, rfl⟩; clear mk M2) | (have mk := M3.out; go_at_call 84; refine (rotl_18 _ _).mono ?_; rintro e w2 ⟨rfl, rfl⟩; clear mk M3))
    have HB1 := Lib.hid ((F1.out.trans0 (Fr.refl No w1).drew).obj HB.out id)
    have FK := u32_unfrozen (i := k) HB1.out
    have CK1 := (F1.out.trans0 (Fr.refl No w1).drew).cell CK.out id
    refine wp_region_lexM [false, false, false, false, false, false, false, false, false, false, false, false, false, false, false, false, false, false, false, false, true] (fun w' => w'.cell? ⟨q, k, none⟩ = some (.int .u32 c) ∧ w'.cell? ⟨q, k7, none⟩ = some (.int .u32 u)) (by kernel_rfl) (by kernel_rfl) 20 (by kernel_rfl) (by kernel_rfl) ?_ (fun K hK => ?_)
    · exact ⟨CK1, (F1.out.trans0 (Fr.refl No w1).drew).cell C7.out id⟩
    repeat (first | ((first | with_reducible refine lexM_read ?_ | ((with_reducible refine lexM_readG ?_ ?_); (focus rfl))); apply Exists.intro; refine ⟨?_, ?_⟩; (focus (first | (intro w' hS; obtain ⟨s1, s2⟩ := hS; go_simp; (try with_reducible rfl); done))); try simp only [Act.put, List.setIfInBounds_toArray, List.set_cons_zero, List.set_cons_succ]) | ((first | ((with_reducible refine lexM_skip (c := false) ?_ ?_ ?_); (focus rfl); (focus rfl)) | ((with_reducible refine lexM_skip (c := true) ?_ ?_ ?_); (focus rfl); (focus rfl)) | ((with_reducible refine lexM_skipU ?_ ?_); (focus rfl))); try simp only [Act.put, List.setIfInBounds_toArray, List.set_cons_zero, List.set_cons_succ]))
    (first | with_reducible refine lexM_eff (fun K' hK' => ?_) | ((with_reducible refine lexM_effG ?_ (fun K' hK' => ?_)); (focus rfl)))
    go_simp
    refine hK'.out _ _ (fun h => absurd rfl h) (fun hS => ?_)
    refine lexM_nil (hK.out _ _ ?_)
    generalize hv : IntKind.u32.wrap (c + IntKind.u32.wrap (IntKind.u32.wrap (bits .xor .u32 (bits .xor .u32 (rot17 x) (rot19 x)) (x / 1024) + u) + bits .xor .u32 (bits .xor .u32 (rot7 y) (rot18 y)) (y / 8))) = v at *
    have hv2 : wordV x y u c = v := hv
    rw [hv2] at WW SG
    have HB2 := Lib.hid (show (w1.setCell ⟨q, k, none⟩ (.int .u32 v)).heap[q]? = some (.cells (u32s (W.set k v)) 164 (0, 0)) by
      have := heap_setCell_same w1 q k _ _ (.int .u32 v) HB1.out
      rw [u32s_set] at this
      exact this)
    have c9 : (w1.setCell ⟨q, k, none⟩ (.int .u32 v)).drew.cell? ⟨q, k, none⟩ = some (.int .u32 v) := by
      have := u32_cell (k := k) HB2.out (by simp; omega)
      rw [SG.out] at this
      exact this
    have FZ := Lib.hid (show Fr (fun j => j = q) w (w1.setCell ⟨q, k, none⟩ (.int .u32 v)).drew from ((F1.out.of0 (W := fun j => j = q)).setCell ⟨q, k, none⟩ (.inr rfl) _).drew)
    have HB3 := Lib.hid (show (w1.setCell ⟨q, k, none⟩ (.int .u32 v)).drew.heap[q]? = some (.cells (u32s (W.set k v)) 164 (0, 0)) from HB2.out)
    clear hv hv2 HB2
    generalize (w1.setCell ⟨q, k, none⟩ (.int .u32 v)).drew = w9 at *
    go_wp2
    go_ret
    exact ⟨by rw [WW.out, SG.out]; rfl, by rw [WW.out]; exact HB3.out, FZ.out⟩
end Go.Proofs.YtmpamcnlineceaaDoor
