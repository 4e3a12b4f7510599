/- embargo: rows of keys cut and counted. -/
import Derived.Test.YthmaekkjpginoaaDoorEmbDropsW
import Derived.Test.YthmaekkjpginoaaDoorEmbR
namespace Go.Proofs.YthmaekkjpginoaaDoor
open Go Go.RowKit Go.Maps Go.MapKept Go.Sort

theorem keys_take {w : World} {a : Option Addr} {n c c' q : Nat} {ks : List KeyD} (h : KeysIs w (.slice a n c) ks) (hq : q ≤ ks.length) : KeysIs w (.slice a q c') (ks.take q) := by
  refine ⟨fun k hk => h.1 k (List.mem_of_mem_take hk), ?_⟩
  rcases h.2 with ⟨rfl, -⟩ | ⟨b, off, c2, e, hb, hr⟩
  · have : q = 0 := by simpa using hq
    subst this
    exact .inl ⟨rfl, _, _, rfl⟩
  · injection e with e1 e2 e3
    subst e1
    refine .inr ⟨b, off, c', by rw [List.length_take, Nat.min_eq_left hq], hb, fun i k hk => hr i k ?_⟩
    have hi : i < q := by have := (List.getElem?_eq_some_iff.1 hk).1; rw [List.length_take] at this; omega
    rwa [List.getElem?_take_of_lt hi] at hk

theorem own_cap {w : World} {B k n c m : Nat} {e : TypeId} {a : Option Addr} {xs : List Value} (h : w.ownsRow B e k (.slice a n c) m xs) : n ≤ c := by
  rcases h.2 with ⟨e1, _⟩ | ⟨g, cap, cur, e1, _, _, h1, _⟩
  · cases e1; exact Nat.le_refl _
  · cases e1; exact h1
theorem undKeys' : Tryd.prog.underlying 31 = some (.slice (Tryd.prog.elem 31)) := by kernel_rfl
theorem sizeKeyE : ∀ w : World, (sizeOf (Tryd.prog.elem 31)).run Tryd.prog w = .ok 33 w := by
  intro w
  have h : (Tryd.prog.info? (Tryd.prog.elem 31)).map (fun i => (i.zero, i.size, i.bytes)) = some (some (.agg (keyC key0).toArray), 33, 40) := by kernel_rfl
  obtain ⟨i, hi, hz, hs, hb⟩ := info_parts h
  simp [sizeOf, typeInfo, hi, hs]
theorem cut_keys (a : Addr) (n cap q : Nat) (hq : q ≤ cap) (w : World) :
    (Instr.slice 31 (.slice (some a) n cap) none (some (.int .i64 (q : Int))) none).run Tryd.prog w = .ok (.slice (some a) q cap) w := by
  rw [run_slice_h w 31 (some a) n cap undKeys' .i64 q (by omega) (by omega), sizeKeyE]
  simp [Result.andThen, sliced, Addr.add]
theorem len_keys (a : Option Addr) (n c : Nat) (w : World) : (Builtin.len_ #[31] 3 #[.slice a n c]).run Tryd.prog w = .ok (.int .i64 n) w := by
  simp [Builtin.len_, run_underlying undKeys]
  rfl
theorem nodup_take {T : List KT} (h : (T.map (·.1)).Nodup) {n : Nat} {x : KT} (hx : T[n]? = some x) : x.1 ∉ (T.map (·.1)).take n := by
  intro hm
  have hg : ∀ (L : List KeyD) (hl : n < L.length), L = L.take n ++ L[n] :: L.drop (n + 1) := fun L hl => by simp
  have hx' : (T.map (·.1))[n]? = some x.1 := by rw [List.getElem?_map, hx]; rfl
  obtain ⟨hl, he⟩ := List.getElem?_eq_some_iff.1 hx'
  have e := hg (T.map (·.1)) hl
  rw [he] at e
  rw [e] at h
  have := (List.nodup_append.1 h).2.2 _ hm _ (List.mem_cons_self ..)
  exact this rfl
theorem drop_drop_due (T : List KT) (now : Int) : (T.dropWhile (dueT now)).dropWhile (dueT now) = T.dropWhile (dueT now) := by
  induction T with
  | nil => rfl
  | cons x T ih =>
    cases e : dueT now x with
    | true => simp [List.dropWhile_cons, e, ih]
    | false => simp [List.dropWhile_cons, e]
theorem drop_head {T : List KT} {now : Int} {x : KT} {R : List KT} (h : T.dropWhile (dueT now) = x :: R) : now < x.2 := by
  have h1 : dueT now x = false := by
    have := List.head?_dropWhile_not (dueT now) T
    rw [h] at this
    simpa using this
  unfold dueT at h1
  simp at h1
  omega
theorem due_apart {T : List KT} (h : (T.map (·.1)).Nodup) {now : Int} {x : KT} (hx : x ∈ T.takeWhile (dueT now)) : hasT (T.dropWhile (dueT now)) x.1 = false := by
  rw [Bool.eq_false_iff]
  intro hh
  rw [← List.takeWhile_append_dropWhile (p := dueT now) (l := T), List.map_append] at h
  exact (List.nodup_append.1 h).2.2 _ (List.mem_map.2 ⟨x, hx, rfl⟩) _ (hasT_mem.1 hh) rfl
theorem due_count (T : List KT) (now : Int) : (T.dropWhile (dueT now)).length + (T.takeWhile (dueT now)).length = T.length := by
  have := congrArg List.length (List.takeWhile_append_dropWhile (p := dueT now) (l := T))
  rw [List.length_append] at this
  omega
end Go.Proofs.YthmaekkjpginoaaDoor
