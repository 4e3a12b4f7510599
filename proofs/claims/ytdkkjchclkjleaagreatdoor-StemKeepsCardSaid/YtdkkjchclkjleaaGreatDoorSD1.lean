/- Frames, slices that are read, and maps as lists of keys and values. -/
import Derived.WalkKit
import Derived.Maps.Own
import Derived.DeepKeys4
import Derived.Deep.Draws
import Derived.Lib.SliceRun
import Derived.OrdersHeld
import Derived.StillTail
import Derived.Deep.RegionHeld3
import Derived.Deep.MidRow
import Derived.Laws.StructEq
import Derived.DeepKeys
import Derived.Laws.Tables
import Derived.Great.BuildSlice
import Derived.Laws.ResultCell
import Derived.Shelf.GgSortFunc.InsertionK
import Derived.Test.YtdkkjchclkjleaaGreatDoorProg
import Derived.Lib.Hide
import Derived.Deep.Cut
import Derived.Maps.RangeWalk
import Derived.Tactics2
import Derived.Laws.IdiomCopy
set_option linter.unusedVariables false
set_option linter.unusedSimpArgs false
set_option linter.unnecessarySimpa false
set_option linter.all false
set_option maxRecDepth 20000
set_option maxHeartbeats 16000000
namespace Go
open Go.MapKept Go.RowKit Go.Maps
structure Fr (W:Nat→Prop) (w w':World):Prop where
 os:w'.os=w.os
 tape:w'.tape=w.tape
 output:w'.output=w.output
 size:w.heap.size≤w'.heap.size
 block:∀k,k<w.heap.size→¬W k→w'.heap[k]? =w.heap[k]?
abbrev No:Nat→Prop:=λ_=>False
theorem Fr.refl (W:Nat→Prop) (w:World):Fr W w w:=⟨rfl,rfl,rfl,Nat.le_refl _,λ_ _ _=>rfl⟩
theorem Fr.trans {W V:Nat→Prop} {a b c:World} (h:Fr W a b) (k:Fr V b c) (e:∀i,i<a.heap.size→V i→W i):Fr W a c:=
 ⟨k.os.trans h.os,k.tape.trans h.tape,k.output.trans h.output,Nat.le_trans h.size k.size,λi hi d=>(k.block i (Nat.lt_of_lt_of_le hi h.size) (λf=>d (e i hi f))).trans (h.block i hi d)⟩
theorem Fr.trans0 {W:Nat→Prop} {a b c:World} (h:Fr W a b) (k:Fr No b c):Fr W a c:=h.trans k (λ_ _ h=>h.elim)
theorem Fr.mono {W V:Nat→Prop} {a b:World} (h:Fr W a b) (c:∀i,W i→V i):Fr V a b:=
 ⟨h.os,h.tape,h.output,h.size,λi hi d=>h.block i hi (λe=>d (c i e))⟩
theorem Fr.of0 {W:Nat→Prop} {a b:World} (h:Fr No a b):Fr W a b:=h.mono (λ_ h=>h.elim)
theorem Fr.drew {W:Nat→Prop} {a b:World} (h:Fr W a b):Fr W a b.drew:=⟨h.os,h.tape,h.output,h.size,h.block⟩
theorem Fr.drewN {W:Nat→Prop} {a b:World} (h:Fr W a b) (n:Nat):Fr W a (b.drewN n):=⟨h.os,h.tape,h.output,h.size,h.block⟩
theorem Fr.alloc {W:Nat→Prop} {a b:World} (h:Fr W a b) (o:Obj):Fr W a (b.alloc o):=
 ⟨h.os,h.tape,h.output,by simp;have:=h.size;omega,λi hi c=>by rw[Below.heap_alloc _ _ _ (Nat.lt_of_lt_of_le hi h.size)];exact h.block i hi c⟩
theorem Fr.setCell {W:Nat→Prop} {a b:World} (h:Fr W a b) (p:Addr) (c:a.heap.size≤p.block∨W p.block) (u:Value):Fr W a (b.setCell p u):=
 ⟨h.os,h.tape,h.output,by simp[World.setCell];exact h.size,λi hi d=>by
  rw[Below.heap_setCell _ _ _ _ (by rintro rfl;rcases c with c|c;omega;exact d c)];exact h.block i hi d⟩
theorem Fr.grown {W:Nat→Prop} {a b c:World} {f:Option Nat} (h:Fr W a b) (d:b.grownBy c f) (j:∀k,f=some k→a.heap.size≤k∨W k):Fr W a c:=
 ⟨d.os.trans h.os,d.tape.trans h.tape,d.output.trans h.output,Nat.le_trans h.size d.size,λi hi g=>by
  rw[d.block i (Nat.lt_of_lt_of_le hi h.size) (λe=>by rcases j i e.symm with h1|h1;omega;exact g h1)];exact h.block i hi g⟩
theorem Fr.cell {W:Nat→Prop} {w w':World} (h:Fr W w w') {a:Addr} {v:Value} (c:w.cell? a=some v) (d:¬W a.block):w'.cell? a=some v:=
 (World.cell?_of_block (h.block a.block (World.block_lt_of_cell? w a c) d)).trans c
theorem Fr.obj {W:Nat→Prop} {w w':World} (h:Fr W w w') {b:Nat} {o:Obj} (c:w.heap[b]? =some o) (d:¬W b):w'.heap[b]? =some o:=
 (h.block b (Array.getElem?_eq_some_iff.1 c).1 d).trans c
theorem yF {w:World} {b:Nat} {o:Obj} (h:w.heap[b]? =some o):b<w.heap.size:=(Array.getElem?_eq_some_iff.1 h).1
def jS (w:World) (v:Value) (n:Nat) (cs:List Value):Prop:=
 (v=.slice none 0 0∧n=0∧cs=[])∨
 ∃b off cap,v=.slice (some ⟨b,off,none⟩) n cap∧n≤cap∧cap≤maxLen∧(∀j u,cs[j]? =some u→w.cell? ⟨b,off+j,none⟩=some u)∧b<w.heap.size
theorem jS.keep {w w':World} {v:Value} {n:Nat} {cs:List Value} (h:jS w v n cs) {W:Nat→Prop} (f:Fr W w w') (k:∀b,v.ownBlock=some b→¬W b):jS w' v n cs:=by
 rcases h with h|⟨b,off,c,rfl,d,e,g,i⟩
 ·exact .inl h
 ·exact .inr ⟨b,off,c,rfl,d,e,λj u l=>f.cell (g j u l) (k b rfl),Nat.lt_of_lt_of_le i f.size⟩
theorem World.ownsRow.slice {w:World} {base:Nat} {e:TypeId} {size:Nat} {v:Value} {n:Nat} {xs:List Value} (h:w.ownsRow base e size v n xs):jS w v n xs:=by
 have k:=λg f=>h.cells (g:=g) f
 rcases h.2 with⟨rfl,rfl⟩|⟨g,d,i,rfl,q,f,p,m,r,s⟩
 ·exact .inl ⟨rfl,rfl,List.eq_nil_of_length_eq_zero (by simpa using h.1)⟩
 ·refine .inr ⟨g,0,d,rfl,p,m,λj u l=>?_,yF f⟩
  have:=k g rfl j u l
  have c:(⟨g,0,none⟩:Addr).add j=⟨g,j,none⟩:=by unfold Addr.add;split<;>simp_all
  rw[c] at this
  simpa using this
def xG (w:World) (v:Value) (n:Nat) (cs:List Value):Prop:=
 jS w v n cs∨∃a cap,v=.slice (some a) 0 cap∧n=0∧cs=[]∧cap≤maxLen
theorem jS.arg {w:World} {v:Value} {n:Nat} {cs:List Value} (h:jS w v n cs):xG w v n cs:=.inl h
theorem xG.keep {w w':World} {v:Value} {n:Nat} {cs:List Value} (h:xG w v n cs) (f:Fr No w w'):xG w' v n cs:=h.imp (λh=>h.keep f (λ_ _=>id)) id
theorem jS.len {w:World} {v:Value} {n:Nat} {cs:List Value} (h:jS w v n cs):n≤maxLen:=by
 rcases h with⟨_,rfl,_⟩|⟨_,_,_,_,c,d,_⟩
 ·exact Nat.zero_le _
 ·exact Nat.le_trans c d
theorem xG.len {w:World} {v:Value} {n:Nat} {cs:List Value} (h:xG w v n cs):n≤maxLen:=by
 rcases h with h|⟨_,_,_,rfl,_⟩
 ·exact h.len
 ·exact Nat.zero_le _
theorem xG.form {w:World} {v:Value} {n:Nat} {cs:List Value} (h:xG w v n cs):∃a c,v=.slice a n c:=by
 rcases h with(⟨rfl,rfl,_⟩|⟨_,_,_,rfl,_⟩)|⟨_,_,rfl,rfl,_⟩
 ·exact⟨none,0,rfl⟩
 ·exact⟨_,_,rfl⟩
 ·exact⟨_,_,rfl⟩
def zN (x:Int):Value:=.int .u8 x
def kv (es:Array MapEntry):List (Value×Value):=es.toList.map λe=>(e.key,e.val)
def xh (P:Program) (kt:TypeId) (w:World) (b:Nat) (L:List (Value×Value)):Prop:=
 ∃es clk,w.heap[b]? =some (.map es clk)∧Stamped es clk∧es.size≤maxLen∧kv es=L∧∀e∈es.toList,∃l,keyOf P kt e.key=some l
section
variable {P:Program} {kt et t:TypeId} {w:World} {b:Nat} {L:List (Value×Value)}
theorem xh.lt (h:xh P kt w b L):b<w.heap.size:=by obtain⟨es,c,d,_⟩:=h;exact yF d
theorem xh.keep {w':World} {W:Nat→Prop} (h:xh P kt w b L) (f:Fr W w w') (e:¬W b):xh P kt w' b L:=by
 obtain⟨es,c,d,r⟩:=h
 exact⟨es,c,f.obj d e,r⟩
theorem xh.made (w:World):xh P kt (w.alloc (.map #[] 0)) w.heap.size []:=
 ⟨#[],0,(MapKept.heap_alloc w _).1,stamped_empty 0,by simp,rfl,by simp⟩
theorem xh.nodup (h:xh P kt w b L):(L.map (·.1)).Nodup:=by
 obtain⟨es,c,e,d,g,rfl,f⟩:=h
 simpa[kv,Function.comp_def] using d.2.2
theorem zdG {es:Array MapEntry} {e:MapEntry} (h:e∈es.toList):(e.key,e.val)∈kv es:=List.mem_map.2 ⟨e,h,rfl⟩
inductive zgI (L:List (Value×Value)) (key:Value):Option Value→Prop where
 |hit {v:Value} (h:(key,v)∈L):zgI L key (some v)
 |miss (h:∀p∈L,p.1≠key):zgI L key none
theorem xh.lookup (K:Keyed P kt) (G:P.underlying t=some (.map kt et)) {z:Value} (Q:∀w,(zeroValue et).run P w=.ok z w) (h:xh P kt w b L) {g:Value} (N:∃l,keyOf P kt g=some l) (c:Bool) {r:Option Value} (F:zgI L g r):
  (Instr.lookup t (.map (some b)) g c).run P w=.ok (if c then .tuple #[r.getD z,.bool r.isSome] else r.getD z) w:=by
 obtain⟨es,H,E,O,R,rfl,s⟩:=h
 obtain⟨l,u⟩:=N
 rcases K.find w u es.toList s with⟨n,i⟩|⟨j,e,n,i,D⟩
 ·cases F with
  |hit hv=>
   obtain⟨e,M,d⟩:=List.mem_map.1 hv
   exact absurd (congrArg Prod.fst d) (i e M)
  |miss _=>simp[Instr.lookup,run_underlying G,MapKept.run_getObj_map E,K.check w _ u,n,Q,Result.andThen]
 ·have y:e∈es.toList:=List.mem_of_getElem? i
  cases F with
  |miss hno=>exact absurd D (hno _ (zdG y))
  |hit hv=>
   rename_i v
   obtain⟨C,p,d⟩:=List.mem_map.1 hv
   have q:C.key=e.key:=(congrArg Prod.fst d).trans D.symm
   have:C=e:=by
    have A:=O.2.2
    obtain⟨k,f⟩:=List.mem_iff_getElem?.1 p
    have m:(es.toList.map (·.key))[k]? =some e.key:=by rw[List.getElem?_map,f];simp[q]
    have I:(es.toList.map (·.key))[j]? =some e.key:=by rw[List.getElem?_map,i];rfl
    have x:k<(es.toList.map (·.key)).length:=by
     rcases Nat.lt_or_ge k (es.toList.map (·.key)).length with h'|h'
     ·exact h'
     ·rw[List.getElem?_eq_none h'] at m;cases m
    have:k=j:=(List.getElem?_inj x A).1 (m.trans I.symm)
    rw[this] at f
    rw[i] at f
    exact(Option.some.inj f).symm
   have B:v=e.val:=by rw[←this];exact(congrArg Prod.snd d).symm
   simp[Instr.lookup,run_underlying G,MapKept.run_getObj_map E,K.check w _ u,n,Result.andThen,B]
structure Jy (b:Nat) (w w':World):Prop where
 os:w'.os=w.os
 tape:w'.tape=w.tape
 output:w'.output=w.output
 size:w'.heap.size=w.heap.size
 block:∀k,k≠b→w'.heap[k]? =w.heap[k]?
theorem Jy.fr {w':World} (h:Jy b w w'):Fr (· =b) w w':=⟨h.os,h.tape,h.output,by rw[h.size];exact Nat.le_refl _,λk _ c=>h.block k c⟩
theorem Jn (w:World) (b:Nat) (o:Obj):Jy b w {w with heap:=w.heap.setIfInBounds b o}:=
 ⟨rfl,rfl,rfl,by simp,λk c=>by simp[Array.getElem?_setIfInBounds_ne (Ne.symm c)]⟩
theorem xW {w:World} {b:Nat} {o c:Obj} (d:w.heap[b]? =some o):({w with heap:=w.heap.setIfInBounds b c}:World).heap[b]? =some c:=(heap_set d).1
theorem QJ (K:Keyed P kt) (w:World) {es:Array MapEntry} {i:Nat} (E:Stamped es i) (p:∀e∈es.toList,∃l,keyOf P kt e.key=some l) {c:Value} {l:Lit} (C:keyOf P kt c=some l) {f x:List (Value×Value)} {h:Value} (m:kv es=f++(c,h)::x):
  ∃e,(Instr.findKey kt c es.toList).run P w=.ok (some (f.length,e.val)) w∧es[f.length]? =some e∧e.key=c∧e.val=h:=by
 rcases K.find w C es.toList p with⟨u,g⟩|⟨j,e,u,g,v⟩
 ·have D:(c,h)∈kv es:=by rw[m];simp
  obtain⟨e,A,n⟩:=List.mem_map.1 D
  exact absurd (congrArg Prod.fst n) (g e A)
 ·have k:((kv es).map (·.1))[j]? =some c:=by
   have d:es.toList[j]? =some e:=g
   rw[List.getElem?_map,kv,List.getElem?_map,d];simp[v]
  have y:((kv es).map (·.1))[f.length]? =some c:=by rw[m];simp
  have r:((kv es).map (·.1)).Nodup:=by simpa[kv,Function.comp_def] using E.2.2
  have q:j<((kv es).map (·.1)).length:=by
   rcases Nat.lt_or_ge j ((kv es).map (·.1)).length with h'|h'
   ·exact h'
   ·rw[List.getElem?_eq_none h'] at k;cases k
  have B:j=f.length:=(List.getElem?_inj q r).1 (k.trans y.symm)
  subst B
  have d:es.toList[f.length]? =some e:=g
  have s:(kv es)[f.length]? =some (c,h):=by rw[m];simp
  rw[kv,List.getElem?_map,d] at s
  have z:=Option.some.inj s
  exact⟨e,u,by simpa using d,v,congrArg Prod.snd z⟩
theorem zcZ {es:Array MapEntry} {i:Nat} {e:MapEntry} (k:es[i]? =some e) (f:MapEntry→MapEntry) {c d:List (Value×Value)} {p:Value×Value} (h:kv es=c++p::d) (hi:i=c.length):
  kv (es.modify i f)=c++((f e).key,(f e).val)::d:=by
 subst hi
 apply List.ext_getElem?
 intro j
 have g:=congrArg (λl=>l[j]?) h
 simp only[kv,List.getElem?_map,Array.getElem?_toList,Array.getElem?_modify] at g⊢
 by_cases hji:c.length=j
 ·subst hji
  simp[k]
 ·rw[if_neg hji,g]
  rcases Nat.lt_or_ge j c.length with h'|h'
  ·rw[List.getElem?_append_left h',List.getElem?_append_left h']
  ·rw[List.getElem?_append_right h',List.getElem?_append_right h']
   obtain⟨m,n⟩:∃m,j-c.length=m+1:=⟨j-c.length-1,by omega⟩
   rw[n]
   simp
theorem xh.update_hit (K:Keyed P kt) (B:P.underlying t=some (.map kt et)) {n q:List (Value×Value)} {key C:Value} (h:xh P kt w b (n++(key,C)::q)) (z:∃l,keyOf P kt key=some l) (v:Value):
  ∃w',(Instr.mapUpdate t (.map (some b)) key v).run P w=.ok () w'∧xh P kt w' b (n++(key,v)::q)∧Jy b w w':=by
 obtain⟨es,d,p,x,A,u,g⟩:=h
 obtain⟨l,m⟩:=z
 obtain⟨e,y,k,s,D⟩:=QJ K w x g m u
 have i:(Instr.mapUpdate t (.map (some b)) key v).run P w=.ok () {w with heap:=w.heap.setIfInBounds b (.map (es.modify n.length λe=>{e with key:=key,val:=v}) d)}:=by
  simp[Instr.mapUpdate,run_underlying B,MapKept.run_getObj_map p,K.check w false m,y,k,s,K.stays w m,MapKept.run_setObj_map _ p,Result.andThen]
 refine⟨_,i,⟨_,d,xW p,stamped_modify x _ _ (λ_ _=>rfl) (λr _ c=>?_),by simpa using A,?_,?_⟩,Jn _ _ _⟩
 ·rw[k] at c;cases c;exact s.symm
 ·rw[zcZ k _ u rfl]
 ·intro r c
  obtain⟨j,f⟩:=List.mem_iff_getElem?.1 c
  rw[Array.getElem?_toList,Array.getElem?_modify] at f
  split at f
  ·rename_i hij
   subst hij
   rw[k] at f
   cases f
   exact⟨l,m⟩
  ·exact g r (List.mem_of_getElem? (by simpa using f))
theorem xh.update_miss (K:Keyed P kt) (y:P.underlying t=some (.map kt et)) (h:xh P kt w b L) {key:Value} (u:∃l,keyOf P kt key=some l) (q:∀p∈L,p.1≠key) (c:L.length<maxLen) (v:Value):
  ∃w',(Instr.mapUpdate t (.map (some b)) key v).run P w=.ok () w'∧xh P kt w' b (L++[(key,v)])∧Jy b w w':=by
 obtain⟨es,d,m,x,z,rfl,f⟩:=h
 obtain⟨l,n⟩:=u
 rcases K.find w n es.toList f with⟨r,k⟩|⟨j,e,r,k,s⟩
 ·have g:(Instr.mapUpdate t (.map (some b)) key v).run P w=.ok () {w with heap:=w.heap.setIfInBounds b (.map (es.push {key,val:=v,born:=d}) (d+1))}:=by
   simp[Instr.mapUpdate,run_underlying y,MapKept.run_getObj_map m,K.check w false n,r,MapKept.run_setObj_map _ m,Result.andThen]
  refine⟨_,g,⟨_,_,xW m,stamped_push x k,?_,by simp[kv],?_⟩,Jn _ _ _⟩
  ·simp[kv] at c⊢;omega
  ·intro e i
   simp only[Array.toList_push,List.mem_append,List.mem_singleton] at i
   rcases i with i|rfl
   ·exact f e i
   ·exact⟨l,n⟩
 ·exact absurd s (q _ (zdG (List.mem_of_getElem? k)))
theorem Qn {α β:Type} (f:α→β):∀(l:List α) (i:Nat),(l.eraseIdx i).map f=(l.map f).eraseIdx i
 |[],_=>rfl
 |_::_,0=>rfl
 |x::l,i+1=>by simp[Qn f l i]
theorem zeQ {es:Array MapEntry} {c e:List (Value×Value)} {p:Value×Value} (f:kv es=c++p::e):kv (es.eraseIdxIfInBounds c.length)=c++e:=by
 have d:c.length<es.size:=by
  have:=congrArg List.length f
  simp[kv] at this
  omega
 unfold kv Array.eraseIdxIfInBounds
 rw[dif_pos d,Array.toList_eraseIdx]
 rw[Qn]
 show(kv es).eraseIdx c.length=_
 rw[f,List.eraseIdx_append_of_length_le (Nat.le_refl _)]
 simp
theorem xh.delete_hit (K:Keyed P kt) (z:P.underlying t=some (.map kt et)) {j q:List (Value×Value)} {c A:Value} (h:xh P kt w b (j++(c,A)::q)) (y:∃l,keyOf P kt c=some l) (ty:TypeId) (x:TypeId):
  ∃w',(Builtin.delete_ #[t,x] ty #[.map (some b),c]).run P w=.ok (.tuple #[]) w'∧xh P kt w' b (j++q)∧Jy b w w':=by
 obtain⟨es,d,n,s,E,k,f⟩:=h
 obtain⟨l,r⟩:=y
 obtain⟨e,m,B,C,D⟩:=QJ K w s f r k
 have g:(Builtin.delete_ #[t,x] ty #[.map (some b),c]).run P w=.ok (.tuple #[]) {w with heap:=w.heap.setIfInBounds b (.map (es.eraseIdxIfInBounds j.length) d)}:=by
  simp[Builtin.delete_,run_underlying z,MapKept.run_getObj_map n,K.check w _ r,m,MapKept.run_setObj_map _ n,Result.andThen]
 refine⟨_,g,⟨_,d,xW n,stamped_erase s _,?_,zeQ k,?_⟩,Jn _ _ _⟩
 ·have m:=congrArg List.length (zeQ k)
  have v:=congrArg List.length k
  simp only[kv,List.length_map,Array.length_toList,List.length_append,List.length_cons] at m v
  omega
 ·intro u p
  have i:(es.eraseIdxIfInBounds j.length).toList.Sublist es.toList:=by
   unfold Array.eraseIdxIfInBounds
   split
   ·rw[Array.toList_eraseIdx];exact List.eraseIdx_sublist ..
   ·exact List.Sublist.refl _
  exact f u (i.subset p)
theorem xh.delete_miss (K:Keyed P kt) (y:P.underlying t=some (.map kt et)) (h:xh P kt w b L) {c:Value} (s:∃l,keyOf P kt c=some l) (k:∀p∈L,p.1≠c) (ty:TypeId) (x:TypeId):
  ∃w',(Builtin.delete_ #[t,x] ty #[.map (some b),c]).run P w=.ok (.tuple #[]) w'∧xh P kt w' b L∧Jy b w w':=by
 obtain⟨es,d,i,v,u,rfl,f⟩:=h
 obtain⟨l,q⟩:=s
 rcases K.find w q es.toList f with⟨m,n⟩|⟨j,e,m,n,r⟩
 ·have g:(Builtin.delete_ #[t,x] ty #[.map (some b),c]).run P w=.ok (.tuple #[]) {w with heap:=w.heap.setIfInBounds b (.map es d)}:=by
   simp[Builtin.delete_,run_underlying y,MapKept.run_getObj_map i,K.check w _ q,m,MapKept.run_setObj_map _ i,Result.andThen]
  exact⟨_,g,⟨es,d,xW i,v,u,rfl,f⟩,Jn _ _ _⟩
 ·exact absurd r (k _ (zdG (List.mem_of_getElem? n)))
def Entry (P:Program) (kt:TypeId) (w:World) (b:Nat) (L1:List (Value×Value)) (key:Value) (L2:List (Value×Value)) (stamp:Int):Prop:=
 ∃es clk e,w.heap[b]? =some (.map es clk)∧Stamped es clk∧es.size≤maxLen∧(∃v,kv es=L1++(key,v)::L2)∧(∀e∈es.toList,∃l,keyOf P kt e.key=some l)∧es[L1.length]? =some e∧stamp=(e.born:Int)
theorem Entry.keep {w':World} {W:Nat→Prop} {g i:List (Value×Value)} {c:Value} {s:Int} (h:Entry P kt w b g c i s) (f:Fr W w w') (k:¬W b):Entry P kt w' b g c i s:=by
 obtain⟨es,d,e,j,r⟩:=h
 exact⟨es,d,e,f.obj j k,r⟩
theorem Entry.store {d z:List (Value×Value)} {f:Value} {s:Int} (h:Entry P kt w b d f z s) (t:TypeId) (v:Value):
  ∃w',(Instr.entryStore t (.map (some b)) (.int .i64 s) v).run P w=.ok () w'∧xh P kt w' b (d++(f,v)::z)∧Jy b w w':=by
 obtain⟨es,m,e,u,C,G,⟨I,B⟩,q,g,rfl⟩:=h
 have l:d.length<es.size:=(Array.getElem?_eq_some_iff.1 g).1
 have i:es.findIdx? (λx=>(x.born:Int)==(e.born:Int))=some d.length:=by
  rw[Array.findIdx?_eq_some_iff_getElem]
  have c:es.toList[d.length]? =some e:=by simpa using g
  refine⟨l,?_,λj k=>?_⟩
  ·have:es[d.length]=e:=by rw[Array.getElem?_eq_getElem l] at g;exact Option.some.inj g
   rw[this];simp
  ·have n:j<es.size:=Nat.lt_trans k l
   have H:es[j].born≠e.born:=λy=>by
    have E:(es.toList.map (·.born))[j]? =some e.born:=by rw[List.getElem?_map,List.getElem?_eq_getElem (by simpa using n)];simp[y]
    have F:(es.toList.map (·.born))[d.length]? =some e.born:=by rw[List.getElem?_map,c];rfl
    have:=(List.getElem?_inj (by simpa using n) C.2.1).1 (E.trans F.symm)
    omega
   simp only[beq_iff_eq];omega
 have p:e.key=f:=by
  have A:(kv es)[d.length]? =some (f,I):=by rw[B];simp
  have c:es.toList[d.length]? =some e:=by simpa using g
  rw[kv,List.getElem?_map,c] at A
  exact congrArg Prod.fst (Option.some.inj A)
 have r:(Instr.entryStore t (.map (some b)) (.int .i64 (e.born:Int)) v).run P w=.ok () {w with heap:=w.heap.setIfInBounds b (.map (es.modify d.length λe=>{e with val:=v}) m)}:=by
  simp[Instr.entryStore,MapKept.run_getObj_map u,asInt,asIntOf,i,MapKept.run_setObj_map _ u,Result.andThen]
 refine⟨_,r,⟨_,m,xW u,stamped_modify C _ _ (λ_ _=>rfl) (λ_ _ _=>rfl),by simpa using G,?_,?_⟩,Jn _ _ _⟩
 ·rw[zcZ g _ B rfl];simp[p]
 ·intro D c
  obtain⟨j,k⟩:=List.mem_iff_getElem?.1 c
  rw[Array.getElem?_toList,Array.getElem?_modify] at k
  split at k
  ·rename_i hij
   subst hij
   rw[g] at k
   cases k
   exact q e (List.mem_of_getElem? (by simpa using g))
  ·exact q D (List.mem_of_getElem? (by simpa using k))
theorem xh.lenRun (f:P.underlying t=some (.map kt et)) (h:xh P kt w b L) (ty:TypeId):(Builtin.len_ #[t] ty #[.map (some b)]).run P w=.ok (.int .i64 (L.length:Int)) w:=by
 obtain⟨es,c,d,i,g,rfl,e⟩:=h
 simp[Builtin.len_,run_underlying f,MapKept.run_getObj_map d,Result.andThen,goInt,kv]
end
section
variable {P:Program}
theorem mapM_some {α β:Type} {f:α→Option β}:∀ {l:List α},(∀x∈l,∃y,f x=some y)→∃d,l.mapM f=some d
 |[],_=>⟨[],rfl⟩
 |x::l,h=>by
  obtain⟨y,e⟩:=h x (by simp)
  obtain⟨d,c⟩:=mapM_some (l:=l) (λz g=>h z (by simp[g]))
  exact⟨y::d,by simp[List.mapM_cons,e,c]⟩
theorem ZH {t:TypeId} {q:IntKind} (c:P.underlying t=some (.int q)) (d:Nat) {n:Int} (e:(Lit.int q n).wf=true):P.keyLits (d+1) t [.int q n]=some [.int q n]:=by
 simp[Program.keyLits,c,e]
theorem Vt {t e:TypeId} {q:IntKind} {n:Nat} (m:P.underlying t=some (.array n e)) (j:P.cellsOf t=n) (k:P.cellsOf e=1) (f:P.underlying e=some (.int q)) (d:Nat) (xs:List Int) (h:xs.length=n)
  (p:∀x∈xs,(Lit.int q x).wf=true):∃l,P.keyLits (d+2) t (xs.map (Value.int q))=some l:=by
 unfold Program.keyLits
 simp only[m,j,k,List.length_map,h,if_true]
 obtain⟨g,hys⟩:∃g,(List.range n).mapM (λi=>P.keyLits (d+1) e (((xs.map (Value.int q)).drop (i*1)).take 1))=some g:=by
  refine mapM_some λi hi=>?_
  have c:i<xs.length:=by rw[h];exact List.mem_range.1 hi
  refine⟨[.int q xs[i]],?_⟩
  rw[Nat.mul_one,←List.map_drop,←List.map_take,List.drop_eq_getElem_cons c]
  exact ZH f d (p _ (List.getElem_mem c))
 exact⟨g.flatten,by rw[hys];rfl⟩
def qG (P:Program) (k:TypeId):List (TypeId×Nat×Bool):=
 match P.underlying k with
 |some (.struct fs)=>fs.toList.map λf=>(f.type,f.offset,f.name != "_")
 |_=>[]
theorem Zl {k:TypeId} {d:List (TypeId×Nat×Bool)} (hsh:qG P k=d) (g:d≠[]) (i:d.all (·.2.2)=true) (e:P.keyType k=true) {cs:List Value} (j:P.cellsOf k=cs.length)
  (m:∀x∈d,∃l,P.keyLits P.types.size x.1 ((cs.drop x.2.1).take (P.cellsOf x.1))=some l):∃l,keyOf P k (.agg cs.toArray)=some l:=by
 unfold qG at hsh
 split at hsh
 ·rename_i fs hu
  subst hsh
  obtain⟨h,hys⟩:∃h,fs.toList.mapM (λf=>P.keyLits P.types.size f.type ((cs.drop f.offset).take (P.cellsOf f.type)))=some h:=
   mapM_some λf n=>m (f.type,f.offset,f.name != "_") (List.mem_map.2 ⟨f,n,rfl⟩)
  have c:fs.all (·.name != "_")=true:=by
   rw[←Array.all_toList]
   rw[List.all_map] at i
   exact i
  refine⟨.string (keyBytes h.flatten),?_⟩
  unfold keyOf
  rw[hu]
  simp only[e,Value.formed,hu,List.size_toArray,j,beq_self_eq_true,Bool.and_self,if_true,Value.cells]
  unfold Program.keyLits
  simp only[hu,j,c,and_self,if_true,hys]
  rfl
 ·exact absurd hsh.symm g
theorem zeO {k e:TypeId} {q:IntKind} {n:Nat} (f:P.underlying k=some (.array n e)) (c:P.keyType k=true) (i:P.cellsOf k=n) (p:P.cellsOf e=1) (g:P.underlying e=some (.int q)) (r:1≤P.types.size) (xs:List Int) (j:xs.length=n)
  (s:∀x∈xs,(Lit.int q x).wf=true):∃l,keyOf P k (.agg (xs.map (Value.int q)).toArray)=some l:=by
 obtain⟨d,m⟩:∃d,P.types.size=d+1:=⟨P.types.size-1,by omega⟩
 obtain⟨l,h⟩:=Vt f i p g d xs j s
 refine⟨.string (keyBytes l),?_⟩
 unfold keyOf
 rw[f]
 simp only[c,Value.formed,f,List.size_toArray,i,List.length_map,j,beq_self_eq_true,Bool.and_self,if_true,Value.cells,m,h]
 rfl
end
theorem zaV {w:World} {b:Nat} {x:Value} {T:TypeId} (h:w.heap[b]? =some (.cells #[x] T (0,0))):w.cell? ⟨b,0,none⟩=some x∧w.frozen? ⟨b,0,none⟩=false:=by simp[World.cell?,World.frozen?,h]
theorem Vf {w:World} {b:Nat} {x y:Value} {T:TypeId} (h:w.heap[b]? =some (.cells #[x,y] T (0,0))):
  w.cell? ⟨b,0,none⟩=some x∧w.cell? ⟨b,1,none⟩=some y∧w.frozen? ⟨b,0,none⟩=false∧w.frozen? ⟨b,1,none⟩=false:=by simp[World.cell?,World.frozen?,h]
theorem Y7 {w:World} {b:Nat} {x y z:Value} {T:TypeId} (h:w.heap[b]? =some (.cells #[x,y,z] T (0,0))):
  w.cell? ⟨b,0,none⟩=some x∧w.cell? ⟨b,1,none⟩=some y∧w.cell? ⟨b,2,none⟩=some z∧w.frozen? ⟨b,0,none⟩=false∧w.frozen? ⟨b,1,none⟩=false∧w.frozen? ⟨b,2,none⟩=false:=by simp[World.cell?,World.frozen?,h]
theorem yj (w:World) (o:Obj):(w.alloc o).heap[w.heap.size]? =some o:=(MapKept.heap_alloc w o).1
theorem yJ (w:World) (o:Obj) {n:Nat} (h:n=w.heap.size):(w.alloc o).heap[n]? =some o:=by subst h;exact yj w o
theorem JE {w:World} {b:Nat} {o:Obj} (h:w.heap[b]? =some o) (c:Obj):(w.alloc c).heap[b]? =some o:=(Below.heap_alloc w c b (yF h)).trans h
section
variable {P:Program} {o:Oper} {a:Act} {w w':World}
theorem yr {K:Act→World→Prop} {Q:Exit→Act→World→Prop} {s x:Operand} {f:Array TypeId} {e g v:Value}
  (d:o.op=.call {callee:=.builtin .append,args:= #[s,x],argTypes:=f}) (j:a.eval s=e) (k:a.eval x=g)
  (c:(Builtin.append_ f o.type #[e,g]).run P w=.ok v w') (h:K (a.put o.dst v) w'):o.wp P a w K Q:=by
 unfold Oper.wp
 have i:(execOp a.eval o).run P w=.ok (.value v) w':=by
  simp[execOp,d,resolve,j,k,invoke,builtin,c,Result.andThen]
 rw[i]
 exact h
theorem zd8 {K:Act→World→Prop} {Q:Exit→Act→World→Prop} {s:Operand} {f:Array TypeId} {e v:Value}
  (d:o.op=.call {callee:=.builtin .clear,args:= #[s],argTypes:=f}) (i:a.eval s=e)
  (c:(Builtin.clear_ f o.type #[e]).run P w=.ok v w') (h:K (a.put o.dst v) w'):o.wp P a w K Q:=by
 unfold Oper.wp
 have g:(execOp a.eval o).run P w=.ok (.value v) w':=by
  simp[execOp,d,resolve,i,invoke,builtin,c,Result.andThen]
 rw[g]
 exact h
variable {ops:Array Oper} {rest:List Oper}
theorem zQ {Q:Exit→Act→World→Prop} {s x:Operand} {f:Array TypeId} {e g v:Value} (i:o.guard=none)
  (d:o.op=.call {callee:=.builtin .append,args:= #[s,x],argTypes:=f}) (j:a.eval s=e) (k:a.eval x=g)
  (c:(Builtin.append_ f o.type #[e,g]).run P w=.ok v w') (h:wpList P ops Q rest (a.put o.dst v) w'):wpList P ops Q (o::rest) a w:=by
 refine wpList_plain i λK' hK'=>?_
 exact yr d j k c (hK' _ _ h)
theorem jX {Q:Exit→Act→World→Prop} {s:Operand} {f:Array TypeId} {e v:Value} (g:o.guard=none)
  (d:o.op=.call {callee:=.builtin .clear,args:= #[s],argTypes:=f}) (i:a.eval s=e)
  (c:(Builtin.clear_ f o.type #[e]).run P w=.ok v w') (h:wpList P ops Q rest (a.put o.dst v) w'):wpList P ops Q (o::rest) a w:=by
 refine wpList_plain g λK' hK'=>?_
 exact zd8 d i c (hK' _ _ h)
end
end Go
namespace Go
open Go.RowKit Go.Maps Go.MapKept
theorem Fr.of_grown {W:Nat→Prop} {w w':World} {a:Option Nat} (b:w.grownBy w' a) (c:∀k,a=some k→w.heap.size≤k∨W k):Fr W w w':=(Fr.refl W w).grown b c
theorem Zv (b off j:Nat):(⟨b,off,none⟩:Addr).add j=⟨b,off+j,none⟩:=by unfold Addr.add;split<;>simp_all
theorem zae {P:Program} (w:World) (base:Nat) (t ty e:TypeId) (size bytes:Nat) (z:Value) (F:P.underlying t=some (.slice e)) (i:TypeInfo) (hi:P.info? e=some i) (O:i.zero=some z) (r:i.size=size) (I:i.bytes=bytes) (E:z.cells.size=size) (D:0<size)
  (v:Value) (n:Nat) (xs:List Value) (c:w.ownsRow base e size v n xs) (q:Addr) (m f:Nat) (news:List Value) (b:∀j u,news[j]? =some u→w.cell? (q.add j)=some u) (C:news.length=m*size) (H:∀u∈news,u.oneCell'=true)
  (a:(n+m)*bytes≤140737488355328) (h:n+m≤maxLen) (l:base≤w.heap.size):
  ∃s w',(Builtin.append_ #[t,t] ty #[v,.slice (some q) m f]).run P w=.ok s w'∧w'.ownsRow base e size s (n+m) (xs++news)∧w.grownBy w' v.ownBlock∧(s=.slice none 0 0↔v=.slice none 0 0∧m=0)∧(∀k,s.ownBlock=some k→v.ownBlock=some k∨w.heap.size≤k):=by
 obtain⟨s,w',d,V,W,X⟩:=run_append_own (P:=P) w base t ty e i z size bytes F hi O r I E D v n xs c q m f news C b H h a l
 refine⟨s,w',d,V,W,X,?_⟩
 rcases c.2 with⟨rfl,rfl⟩|⟨g,G,x,rfl,Q,S,T,R,K,M⟩
 ·have N:xs=[]:=List.eq_nil_of_length_eq_zero (by simpa using c.1)
  subst N
  obtain⟨Y,Z,p,U,_,_⟩:=run_append_own (P:=P) w w.heap.size t ty e i z size bytes F hi O r I E D (.slice none 0 0) 0 [] (World.ownsRow_nil _ _ _ _) q m f news C b H h a (Nat.le_refl _)
  have y:=d.symm.trans p
  injection y with e2 e3
  subst e2
  exact λk B=>.inr (U.lt k B).1
 ·by_cases hroom:n+m≤G
  ·have A:n*i.size+news.length≤x.size:=by rw[C,K,r,←Nat.add_mul];exact Nat.mul_le_mul_right _ hroom
   have L:=run_append_room (P:=P) w t ty e i F hi g n G x S q m f news (by rw[r];exact C) b H hroom A
   have y:=d.symm.trans L
   injection y with e2 e3
   subst e2
   exact λk B=>.inl B
  ·have o:∀j u,xs[j]? =some u→w.cell? ((⟨g,0,none⟩:Addr).add j)=some u:=c.cells (g:=g) rfl
   have L:=run_append_grow (P:=P) w t ty e i z F hi O ⟨g,0,none⟩ n G xs (by rw[r];exact c.1) o q m f news (by rw[r];exact C) b (by omega) (by simp only[maxLen] at h;omega) (growslice_fits (by omega) (by rw[I];exact a))
   have y:=d.symm.trans L
   injection y with e2 e3
   subst e2
   intro k B
   simp[Value.ownBlock] at B
   exact .inr (by omega)
theorem jH {P:Program} (w:World) (base:Nat) (t ty e:TypeId) (size bytes:Nat) (z:Value) (C:P.underlying t=some (.slice e)) (g:(P.info? e).map (λi=>(i.zero,i.size,i.bytes))=some (some z,size,bytes)) (p:z.cells.size=size) (o:0<size)
  (v:Value) (n:Nat) (xs:List Value) (d:w.ownsRow base e size v n xs) (x:Value) (m:Nat) (news:List Value) (G:xG w x m news) (A:news.length=m*size) (s:∀u∈news,u.oneCell'=true)
  (a:(n+m)*bytes≤140737488355328) (h:n+m≤maxLen) (c:base≤w.heap.size) (l:x≠.slice none 0 0):
  ∃q w',(Builtin.append_ #[t,t] ty #[v,x]).run P w=.ok q w'∧w'.ownsRow base e size q (n+m) (xs++news)∧w.grownBy w' v.ownBlock∧(q=.slice none 0 0↔v=.slice none 0 0∧m=0)∧(∀k,q.ownBlock=some k→v.ownBlock=some k∨w.heap.size≤k):=by
 obtain⟨i,hi,D,B,y⟩:=info_parts g
 rcases G with(⟨rfl,_⟩|⟨b,off,f,rfl,H,E,F,I⟩)|⟨a0,f,rfl,rfl,rfl,E⟩
 ·exact absurd rfl l
 ·exact zae w base t ty e size bytes z C i hi D B y p o v n xs d ⟨b,off,none⟩ m f news (λj u r=>by rw[Zv];exact F j u r) A s a h c
 ·exact zae w base t ty e size bytes z C i hi D B y p o v n xs d a0 0 f [] (λj u r=>by simp at r) A s a h c
theorem yY {P:Program} (w:World) (B:Nat) (t ty e:TypeId) (size bytes:Nat) (z:Value) (C:P.underlying t=some (.slice e)) (b:(P.info? e).map (λi=>(i.zero,i.size,i.bytes))=some (some z,size,bytes)) (o:z.cells.size=size) (m:0<size)
  {v:Value} {n:Nat} {xs:List Value} (f:w.ownsRow B e size v n xs) (news:List Value) (E:news.length=size) (p:∀u∈news,u.oneCell'=true)
  (a:(n+1)*bytes≤140737488355328) (g:n+1≤maxLen) (h:B≤w.heap.size):
  ∃c w',(Builtin.append_ #[t,t] ty #[v,.slice (some ⟨w.heap.size,0,none⟩) 1 1]).run P (w.alloc (.cells news.toArray e))=.ok c w'∧w'.ownsRow B e size c (n+1) (xs++news)∧Fr (λj=>v.ownBlock=some j) w w'∧
   (c≠.slice none 0 0)∧(∀k,c.ownBlock=some k→v.ownBlock=some k∨w.heap.size≤k):=by
 have D:jS (w.alloc (.cells news.toArray e)) (.slice (some ⟨w.heap.size,0,none⟩) 1 1) 1 news:=
  .inr ⟨w.heap.size,0,1,rfl,Nat.le_refl _,by unfold maxLen;omega,λj u s=>by
   have q:=yj w (.cells news.toArray e)
   simp only[World.cell?,q]
   simpa using s,by simp⟩
 obtain⟨c,w',d,A,r,y,l⟩:=jH (P:=P) (w.alloc (.cells news.toArray e)) B t ty e size bytes z C b o m v n xs (f.alloc _) _ 1 news D.arg (by omega) p a g (by simp;omega) (by simp)
 refine⟨c,w',d,A,((Fr.refl _ w).alloc _).grown r (λk e=>.inr e),λe=>by simpa using(y.1 e).2,λk x=>(l k x).imp id (λe=>by simp at e;omega)⟩
end Go
namespace Go
section
variable {P:Program} {ops:Array Oper} {S:World→Prop}
def NoQ:Exit→Act→World→Prop:=λ_ _ _=>False
def Xe (ops:Array Oper) (dst:Option Tmp) (a a':Act):Prop:=
 ∀o:Oper,(∀cs b,o.op≠.select cs b)→(∀d,dst=some d→d∉o.looksAt ops)→
  execOp a'.eval o=execOp a.eval o∧Region.wanted o (yielded ops a'.tmps)=Region.wanted o (yielded ops a.tmps)
theorem Xe.put (a:Act) (dst:Option Tmp) (v:Value):Xe ops dst a (a.put dst v):=
 λo c h=>⟨execOp_put o c a dst v h,wanted_put o a dst v h⟩
theorem zg7 {o:Oper} {a:Act} {w:World} {K:Act→World→Prop} (h:o.wp P a w K NoQ):
  o.wp P a w (λk w'=>K k w'∧Xe ops o.dst a k) NoQ:=by
 unfold Oper.wp at*
 generalize (execOp a.eval o).run P w=r at*
 cases r with
 |ok n w'=>
  cases n<;>simp only[Oper.upon] at h⊢
  case value u=>exact⟨h,Xe.put _ _ _⟩
  case skip=>exact⟨h,Xe.put _ _ _⟩
  case defer d=>exact⟨h,λm p l=>by exact⟨(execOp_put m p _ o.dst undef l).trans rfl,(wanted_put m _ o.dst undef l).trans rfl⟩⟩
  case enter f args=>
   refine Calls.mono h λe i g=>?_
   cases e with
   |returned u=>exact⟨g,Xe.put _ _ _⟩
   |panicked c=>exact g
   |outgrown=>exact g
  case row row args=>exact Rows.mono h λu i g=>⟨g,Xe.put _ _ _⟩
 |halt x w'=>cases x<;>simp only[Oper.upon] at h⊢ <;>exact h
theorem zeU {o:Oper} {a:Act} {w:World} {K:Act→World→Prop} (h:o.wp P a w K NoQ):∃k w',K k w':=by
 unfold Oper.wp at*
 generalize (execOp a.eval o).run P w=r at*
 cases r with
 |ok n w'=>
  cases n<;>simp only[Oper.upon] at h
  case value u=>exact⟨_,_,h⟩
  case skip=>exact⟨_,_,h⟩
  case defer d=>exact⟨_,_,h⟩
  case enter f args=>
   obtain⟨e,i,fr,g,_⟩:=h []
   cases e with
   |returned u=>exact⟨_,_,g⟩
   |panicked c=>exact g.elim
   |outgrown=>obtain⟨_,_,l⟩:=g;exact l.elim
  case row row args=>
   obtain⟨v,i,g,_⟩:=h default []
   exact⟨_,_,g⟩
 |halt x w'=>cases x<;>simp only[Oper.upon] at h<;>exact h.elim
theorem zg6 {l g:Oper} {v:Value} (m:l.apart ops g=true) (o:∀cs b,g.op≠.select cs b) {a:Act} {w:World} {K:Act→World→Prop}
  (h:g.wp P a w (λq w'=>K (q.put l.dst v) w') NoQ):g.wp P (a.put l.dst v) w K NoQ:=by
 obtain⟨s,i,t⟩:=Oper.apart_spec m
 unfold Oper.wp at*
 rw[execOp_put g o a l.dst v s]
 generalize (execOp a.eval g).run P w=r at*
 cases r with
 |ok n w'=>
  cases n<;>simp only[Oper.upon] at h⊢
  case value u=>rw[Act.put_comm a v u i];exact h
  case skip=>rw[Act.put_comm a v undef i];exact h
  case defer d=>rw[Act.put_defers,Act.put_comm _ v undef i];exact h
  case enter f args=>
   refine Calls.mono h λe p k=>?_
   cases e with
   |returned u=>simp only[];rw[Act.put_comm a v u i];exact k
   |panicked c=>exact k
   |outgrown=>exact k
  case row row args=>exact Rows.mono h λu p k=>by rw[Act.put_comm a v u i];exact k
 |halt x w'=>cases x<;>simp only[Oper.upon] at h⊢ <;>exact h
def zbP (P:Program) (ops:Array Oper) (eff:List Nat) (S:World→Prop) (Q:Act→World→Prop):List Nat→Act→World→Prop
 |[],a,w=>Q a w
 |i::rest,a,w=>∃o,ops[i]? =some o∧
   (if eff.contains i=true∧Region.wanted o (yielded ops a.tmps)=true then o.wp P a w (λa' w'=>S w'∧zbP P ops eff S Q rest a' w') NoQ
    else ∃v,YieldsIf P ops S o v a∧zbP P ops eff S Q rest (a.put o.dst v) w)
theorem YieldsIf.uniq {o:Oper} {v f:Value} {a:Act} {w:World} (hS:S w) (h:YieldsIf P ops S o v a) (g:YieldsIf P ops S o f a):v=f:=by
 rcases h with⟨h1,h2⟩|⟨h1,h2⟩<;>rcases g with⟨c,d⟩|⟨c,d⟩
 ·have e:=(h2 w hS).symm.trans (d w hS)
  injection e with e1 e2
  injection e1
 ·rw[h1] at c;cases c
 ·rw[h1] at c;cases c
 ·rw[h2,d]
def Yp (ops:Array Oper):Bool:=
 (List.range ops.size).all λi=>(List.range ops.size).all λj=>i==j||Region.waitsFor .any ops j i||Region.waitsFor .any ops i j||
  (match ops[i]?,ops[j]? with|some oi,some oj=>oi.apart ops oj|_,_=>true)
theorem vu (h:Yp ops=true) {i j:Nat} {e f:Oper} (hi:ops[i]? =some e) (d:ops[j]? =some f) (c:i≠j)
  (l:Region.waitsFor .any ops j i=false) (m:Region.waitsFor .any ops i j=false):e.apart ops f=true:=by
 unfold Yp at h
 have g:=List.all_eq_true.1 h i (List.mem_range.2 (Array.getElem?_eq_some_iff.1 hi).1)
 have k:=List.all_eq_true.1 g j (List.mem_range.2 (Array.getElem?_eq_some_iff.1 d).1)
 simpa[c,l,m,hi,d] using k
theorem vO {i j:Nat} {c:Oper} (f:ops[j]? =some c) (h:∀e∈c.after,Region.binds .any e=true→e.on≠i):Region.waitsFor .any ops j i=false:=by
 unfold Region.waitsFor
 rw[f]
 simp only[]
 rw[Array.any_eq_false']
 intro e d
 simp only[Bool.and_eq_true,beq_iff_eq,not_and]
 exact h e d
theorem zjO (m:∀(j:Nat) (o:Oper) cs b,ops[j]? =some o→o.op≠.select cs b) (u:Yp ops=true) {eff:List Nat} {Q:Act→World→Prop} {j:Nat} {c:Oper} (F:ops[j]? =some c):
  ∀(L:List Nat) (a:Act) (w:World),S w→j∈L→L.Nodup→(∀i∈L,Region.waitsFor .any ops j i=false)→(∀i∈L,i<j→Region.waitsFor .any ops i j=false)→
   (∀i∈L,i≠j→i<j∨True)→L.Pairwise (· < ·)→(eff.contains j=false∨Region.wanted c (yielded ops a.tmps)=false)→
   zbP P ops eff S Q L a w→∃v,YieldsIf P ops S c v a∧zbP P ops eff S Q (L.erase j) (a.put c.dst v) w:=by
 intro L
 induction L with
 |nil=>intro a w _ T;cases T
 |cons h L ih=>
  intro a w hS T U D E _ z k H
  obtain⟨g,d,H⟩:=H
  by_cases hhj:h=j
  ·subst hhj
   rw[F] at d
   cases d
   rw[if_neg (by rintro⟨e1,e2⟩;rcases k with e|e<;>simp_all)] at H
   obtain⟨v,q,A⟩:=H
   exact⟨v,q,by simpa using A⟩
  ·have y:j∈L:=by
    rcases List.mem_cons.1 T with e|e
    ·exact absurd e.symm hhj
    ·exact e
   have R:h<j:=(List.pairwise_cons.1 z).1 j y
   have p:Region.waitsFor .any ops j h=false:=D h (by simp)
   have n:Region.waitsFor .any ops h j=false:=E h (by simp) R
   have aj:c.apart ops g=true:=vu u F d (λe=>hhj e.symm) n p
   have ah:g.apart ops c=true:=vu u d F hhj p n
   obtain⟨X,p2,p3⟩:=Oper.apart_spec aj
   have C:=λcs b=>m j c cs b F
   have hsh:=λcs b=>m h g cs b d
   have back:∀ {f:Act} {v:Value},Xe ops g.dst a f→YieldsIf P ops S c v f→YieldsIf P ops S c v a:=fun {f v} A q=>
    let ⟨Y,Z⟩:=A c C p3
    q.of_same Y.symm Z.symm
   have t:∀(f:Act) (w':World),S w'→Xe ops g.dst a f→zbP P ops eff S Q L f w'→∃v,YieldsIf P ops S c v f∧zbP P ops eff S Q (L.erase j) (f.put c.dst v) w':=λf w' l A N=>
    ih f w' l y (List.nodup_cons.1 U).2 (λi hi=>D i (by simp[hi])) (λi hi=>E i (by simp[hi])) (λ_ _ _=>.inr trivial) (List.pairwise_cons.1 z).2 (k.imp id (λe=>(A c C p3).2.trans e)) N
   have M:(h::L).erase j=h::L.erase j:=by rw[List.erase_cons_tail];simpa using hhj
   rw[M]
   split at H
   ·rename_i hc
    have H2:=zg7 (ops:=ops) H
    obtain⟨a0,w0,⟨⟨I,O⟩,B⟩⟩:=zeU H2
    obtain⟨v,V,_⟩:=t a0 w0 I B O
    have q:=back B V
    refine⟨v,q,g,d,?_⟩
    rw[if_pos ⟨hc.1,by rw[wanted_put g a c.dst v X];exact hc.2⟩]
    refine zg6 aj hsh (Oper.wp_mono (λf w' ⟨⟨l,r⟩,hr'⟩=>?_) H2)
    obtain⟨v',s,x⟩:=t f w' l hr' r
    have:v'=v:=YieldsIf.uniq hS (back hr' s) q
    subst this
    exact⟨l,x⟩
   ·rename_i hc
    obtain⟨G,W,N⟩:=H
    obtain⟨v,s,r⟩:=t _ w hS (Xe.put a g.dst G) N
    have q:=back (Xe.put a g.dst G) s
    refine⟨v,q,g,d,?_⟩
    rw[if_neg (by rw[wanted_put g a c.dst v X];exact hc)]
    obtain⟨Y,Z⟩:=Xe.put (ops:=ops) a c.dst v g hsh X
    exact⟨G,W.of_same Y Z,by rw[←Act.put_comm a G v (Oper.apart_spec ah).2.1];exact r⟩
def QQ (ops:Array Oper):Nat→Nat→Nat→Bool
 |0,_,_=>false
 |f+1,j,i=>(List.range ops.size).any λk=>Region.waitsFor .any ops j k && (k==i||QQ ops f k i)
def ZW (ops:Array Oper) (listed:Array Bool):Prop:=
 ∀j oj,ops[j]? =some oj→listed.getD j false=true→∀e∈oj.after,Region.binds .any e=true→listed.getD e.on false=true
theorem JT {listed:Array Bool} (n:ZW ops listed):∀(f j i:Nat),QQ ops f j i=true→
  (∀k,Region.waitsFor .any ops j k=true→listed.getD k false=true)→listed.getD i false=true
 |0,_,_,h,_=>by cases h
 |f+1,j,i,h,hd=>by
  unfold QQ at h
  obtain⟨k,_,g⟩:=List.any_eq_true.1 h
  simp only[Bool.and_eq_true,Bool.or_eq_true,beq_iff_eq] at g
  have c:=hd k g.1
  rcases g.2 with e|e
  ·exact e▸c
  ·refine JT n f k i e λm q=>?_
   obtain⟨ok,hok,o,d,p,l⟩:=Region.waitsFor_spec q
   exact l▸n k ok hok c o d p
def zaQ (ops:Array Oper) (eff:List Nat):Bool:=
 Region.noSelect ops && Yp ops &&
 ((List.range ops.size).all λi=>(List.range ops.size).all λj=>decide (j<i)|| !Region.waitsFor .any ops i j) &&
 ((List.range ops.size).all λj=>(ops[j]?).any λo=>o.after.all λe=> !Region.binds .any e||decide (e.on<ops.size)) &&
 (eff.all λj=>eff.all λi=>decide (j≤i)||QQ ops ops.size j i)
def unl (ops:Array Oper) (listed:Array Bool):List Nat:=(List.range ops.size).filter λi=> !listed.getD i true
theorem zd5 (listed:Array Bool):(unl ops listed).Pairwise (· < ·):=List.Pairwise.filter _ List.pairwise_lt_range
theorem Qg {listed:Array Bool} {j:Nat} (f:listed.size=ops.size):unl ops (listed.setIfInBounds j true)=(unl ops listed).erase j:=by
 have d:(unl ops listed).Nodup:=(zd5 listed).imp (λh=>Nat.ne_of_lt h)
 rw[d.erase_eq_filter]
 unfold unl
 rw[List.filter_filter]
 apply List.filter_congr
 intro i hi
 have c:=List.mem_range.1 hi
 by_cases hij:i=j
 ·subst hij
  simp[f,c]
 ·rw[getD_set_ne true (λe=>hij e.symm)]
  simp[hij]
theorem ZW.set {listed:Array Bool} {j:Nat} (l:ZW ops listed) (m:j∈Region.ready .any ops listed):ZW ops (listed.setIfInBounds j true):=by
 obtain⟨_,n,f,c⟩:=mem_ready.1 m
 intro k ok d i e h g
 by_cases hkj:j=k
 ·subst hkj
  rw[f] at d
  cases d
  exact getD_set_true (c e h g)
 ·rw[getD_set_ne false hkj] at i
  exact getD_set_true (l k ok d i e h g)
theorem zh3 {eff:List Nat} (hok:zaQ ops eff=true) {Q:Exit→Act→World→Prop} (hQ:∀c a d v w,Q (.panic c) (Act.put a d v) w→Q (.panic c) a w):
  ∀(n:Nat) (listed:Array Bool) (a:Act) (w:World),listed.size=ops.size→ZW ops listed→(unl ops listed).length=n→S w→
   zbP P ops eff S (Q .normal) (unl ops listed) a w→wpAnyH P .any ops Q S n listed a w:=by
 simp only[zaQ,Bool.and_eq_true] at hok
 obtain⟨⟨⟨⟨ao,ad⟩,ag⟩,ak⟩,ae⟩:=hok
 have U:=Region.noSelect_spec ao
 have N:∀i j,i<ops.size→Region.waitsFor .any ops i j=true→j<i:=λi j hi hw=>by
  obtain⟨oi,q,e,C,X,ab⟩:=Region.waitsFor_spec hw
  have A:=List.all_eq_true.1 ak i (List.mem_range.2 hi)
  rw[q] at A
  have h3:=Array.all_eq_true'.1 A e C
  simp only[X,Bool.not_true,Bool.false_or,decide_eq_true_eq] at h3
  have h4:=List.all_eq_true.1 (List.all_eq_true.1 ag i (List.mem_range.2 hi)) j (List.mem_range.2 (ab▸h3))
  simpa[hw] using h4
 intro n
 induction n with
 |zero=>
  intro listed a w t hc p hS H
  have R:unl ops listed=[]:=List.eq_nil_of_length_eq_zero p
  rw[R] at H
  refine⟨?_,H⟩
  by_cases hr:Region.ready .any ops listed=[]
  ·exact hr
  ·obtain⟨j,z⟩:=List.exists_mem_of_ne_nil _ hr
   obtain⟨W,o,ho,_⟩:=mem_ready.1 z
   have:j∈unl ops listed:=List.mem_filter.2 ⟨List.mem_range.2 (Array.getElem?_eq_some_iff.1 ho).1,by rw[W];rfl⟩
   rw[R] at this
   cases this
 |succ n ih=>
  intro listed a w t hc p hS H
  have g:∀ {j},j∈unl ops listed↔j<ops.size∧listed.getD j true=false:=fun {j}=>by
   unfold unl
   rw[List.mem_filter,List.mem_range]
   simp
  have ah:∀ {j},j∈Region.ready .any ops listed→j∈unl ops listed:=fun {j} z=>by
   obtain⟨W,o,ho,_⟩:=mem_ready.1 z
   exact g.2 ⟨(Array.getElem?_eq_some_iff.1 ho).1,W⟩
  have next:∀j,j∈Region.ready .any ops listed→∀M w',S w'→zbP P ops eff S (Q .normal) ((unl ops listed).erase j) M w'→wpAnyH P .any ops Q S n (listed.setIfInBounds j true) M w':=λj z M w' F E=>by
   refine ih _ M w' (by simp[t]) (hc.set z) ?_ F (by rw[Qg t];exact E)
   rw[Qg t,List.length_erase_of_mem (ah z),p]
   rfl
  obtain⟨i,L,hiL⟩:∃i L,unl ops listed=i::L:=by
   cases hu:unl ops listed with
   |nil=>rw[hu] at p;cases p
   |cons i L=>exact⟨i,L,rfl⟩
  have I:=zd5 (ops:=ops) listed
  have aj:i∈unl ops listed:=by rw[hiL];simp
  have hi:=g.1 aj
  have O:∀k,k∈unl ops listed→i≤k:=λk s=>by
   rw[hiL] at s I
   rcases List.mem_cons.1 s with rfl|s
   ·exact Nat.le_refl _
   ·exact Nat.le_of_lt ((List.pairwise_cons.1 I).1 k s)
  have y:∀k,k<i→listed.getD k false=true:=λk s=>by
   cases E:listed.getD k true with
   |false=>exact absurd (O k (g.2 ⟨Nat.lt_trans s hi.1,E⟩)) (by omega)
   |true=>
    have:k<listed.size:=by rw[t];exact Nat.lt_trans s hi.1
    simp[this] at E⊢
    exact E
  rw[hiL] at H
  obtain⟨oi,q,H⟩:=H
  have D:i∈Region.ready .any ops listed:=mem_ready.2 ⟨hi.2,oi,q,λe C X=>
   y _ (N i e.on hi.1 (by
    unfold Region.waitsFor
    rw[q]
    exact Array.any_eq_true'.2 ⟨e,C,by simp[X]⟩))⟩
  have al:Region.ready .any ops listed≠[]:=λW=>by rw[W] at D;cases D
  have af:(unl ops listed).erase i=L:=by rw[hiL];simp
  have f:∀j,j∈Region.ready .any ops listed→∀k,k∈unl ops listed→Region.waitsFor .any ops j k=false:=λj z k s=>by
   obtain⟨_,oj,l,B⟩:=mem_ready.1 z
   refine vO l λe C X ai=>?_
   have h1:=B e C X
   rw[ai] at h1
   have A:=(g.1 s).2
   have Z:k<listed.size:=by rw[t];exact(g.1 s).1
   simp[Z] at h1 A
   rw[h1] at A
   cases A
  split at H
  ·rename_i hcond
   refine⟨λW=>absurd W al,λj z=>?_⟩
   by_cases Y:j=i
   ·subst Y
    unfold wpOp
    rw[q]
    simp only[hcond.2,if_true]
    refine .inl ?_
    have H':=Oper.wp_mono (K':=λM w'=>S w'∧wpAnyH P .any ops Q S n (listed.setIfInBounds j true) M w') (λM w' ⟨F,E⟩=>⟨F,next j z M w' F (by rw[af];exact E)⟩) H
    unfold Oper.wp at H'⊢
    generalize (execOp a.eval oi).run P w=r at*
    cases r with
    |ok m w'=>
     cases m<;>simp only[Oper.upon] at H'⊢ <;>first
      |exact H'
      |exact Calls.mono H' (λe aw C=>by
        cases e with
        |returned u=>exact C
        |panicked c=>exact C.elim
        |outgrown=>obtain⟨_,_,hf⟩:=C;exact hf.elim)
    |halt x w'=>cases x<;>simp only[Oper.upon] at H'⊢ <;>exact H'.elim
   ·-- a read that may come up
    obtain⟨_,oj,l,B⟩:=mem_ready.1 z
    have G:=ah z
    have aa:eff.contains j=false:=by
     cases hcj:eff.contains j with
     |false=>rfl
     |true=>
      have h1:=List.all_eq_true.1 ae j (by simpa using hcj)
      have A:=List.all_eq_true.1 h1 i (by simpa using hcond.1)
      have au:=O j G
      simp only[Bool.or_eq_true,decide_eq_true_eq] at A
      have h3:QQ ops ops.size j i=true:=by rcases A with A|A<;>first|omega|exact A
      have h4:=JT hc _ j i h3 (λk s=>by
       obtain⟨av,T,e,C,X,ab⟩:=Region.waitsFor_spec s
       rw[l] at T
       cases T
       exact ab▸B e C X)
      have Z:i<listed.size:=by rw[t];exact hi.1
      have h5:=hi.2
      simp[Z] at h4 h5
      rw[h4] at h5
      cases h5
    have V:zbP P ops eff S (Q .normal) (unl ops listed) a w:=by
     rw[hiL]
     exact⟨oi,q,by rw[if_pos hcond];exact H⟩
    obtain⟨v,hy,E⟩:=zjO U ad l (unl ops listed) a w hS G (I.imp (λh=>Nat.ne_of_lt h)) (λk s=>f j z k s)
     (λk s ar=>by
      cases hwk:Region.waitsFor .any ops k j with
      |false=>rfl
      |true=>have:=N k j (g.1 s).1 hwk;omega)
     (λ_ _ _=>.inr trivial) I (.inl aa) V
    exact hy.wpOp l hS ⟨hS,next j z _ _ hS E⟩
  ·rename_i hcond
   obtain⟨v,hy,E⟩:=H
   refine wpAnyH_first q U (λc a w=>hQ c a oi.dst v w) n listed a w (λj oj l Y aq an=>?_) D hy hS (next i D _ _ hS (by rw[af];exact E))
   have G:=g.2 ⟨(Array.getElem?_eq_some_iff.1 l).1,aq⟩
   exact vu ad q l (λe=>Y e.symm) (vO l an) (f i D j G)
theorem zcv {id:Nat} {a:Act} {w:World} {Q:Exit→Act→World→Prop} (eff:List Nat) (S:World→Prop) (f:P.follows .mixedOrders=true) (hok:zaQ ops eff=true)
  (hS:S w.drew) (L:List Nat) (e:List.range ops.size=L)
  (h:∀K:Act→World→Prop,Shut (∀a w,Q .normal a w→K a w)→zbP P ops eff S K L a w.drew):(Code.region id ops true).wp P Q a w:=by
 refine wp_region_noPanic (wp_region_held (S:=S) f ?_)
 have d:unl ops (Array.replicate ops.size false)=List.range ops.size:=by
  unfold unl
  rw[List.filter_eq_self]
  intro i hi
  have:=List.mem_range.1 hi
  simp[this]
 refine zh3 hok (λ_ _ _ _ _ h=>h) _ _ a _ (by simp) (λj k g c=>?_) (by rw[d];simp) hS (by rw[d,e];exact h _ (λ_ _ h=>h))
 by_cases hjs:j<ops.size
 ·simp[hjs] at c
 ·simp[hjs] at c
def JK (P:Program) (ops:Array Oper) (S:World→Prop) (Q:Act→World→Prop):List Bool→List Oper→Act→World→Prop
 |_,[],a,w=>Q a w
 |es,o::rest,a,w=>
   if es.headD false=true∧Region.wanted o (yielded ops a.tmps)=true then o.wp P a w (λa' w'=>S w'∧JK P ops S Q es.tail rest a' w') NoQ
    else ∃v,YieldsIf P ops S o v a∧JK P ops S Q es.tail rest (a.put o.dst v) w
def zaL (es:List Bool):List Nat:=(List.range es.length).filter λi=>es.getD i false
theorem Xl (es:List Bool) (i:Nat):(zaL es).contains i=es.getD i false:=by
 rw[Bool.eq_iff_iff]
 simp only[zaL,List.contains_iff_mem,List.mem_filter,List.mem_range]
 constructor
 ·exact λh=>h.2
 ·intro h
  refine⟨?_,h⟩
  rcases Nat.lt_or_ge i es.length with h'|h'
  ·exact h'
  ·simp[List.getD,List.getElem?_eq_none h'] at h
theorem YN {es:List Bool} {K:Act→World→Prop}:∀(l:List Oper) (i:Nat) (a:Act) (w:World),(∀k o,l[k]? =some o→ops[i+k]? =some o)→
  JK P ops S K (es.drop i) l a w→zbP P ops (zaL es) S K (List.range' i l.length) a w
 |[],i,a,w,_,h=>h
 |o::rest,i,a,w,ho,h=>by
  have g:ops[i]? =some o:=ho 0 o rfl
  have c:∀k d,rest[k]? =some d→ops[i+1+k]? =some d:=λk d n=>by
   have:=ho (k+1) d (by simpa using n)
   rwa [show i+1+k=i+(k+1) by omega]
  have m:(es.drop i).headD false=es.getD i false:=by simp[List.getD,List.headD_eq_head?_getD]
  have p:(es.drop i).tail=es.drop (i+1):=by simp[List.tail_drop]
  rw[JK,m,p] at h
  rw[List.length_cons,List.range'_succ]
  refine⟨o,g,?_⟩
  rw[Xl]
  split at h
  ·rename_i hc
   rw[if_pos hc]
   exact Oper.wp_mono (λf w' ⟨hS,e⟩=>⟨hS,YN rest (i+1) f w' c e⟩) h
  ·rename_i hc
   rw[if_neg hc]
   obtain⟨v,q,e⟩:=h
   exact⟨v,q,YN rest (i+1) _ w c e⟩
theorem zkC {id:Nat} {a:Act} {w:World} {Q:Exit→Act→World→Prop} {l:List Oper} (es:List Bool) (S:World→Prop) (d:P.follows .mixedOrders=true) (hok:zaQ l.toArray (zaL es)=true)
  (hS:S w.drew)
  (h:∀K:Act→World→Prop,Shut (∀a w,Q .normal a w→K a w)→JK P l.toArray S K es l a w.drew):(Code.region id l.toArray true).wp P Q a w:=by
 refine zcv (zaL es) S d hok hS _ rfl (λK hK=>?_)
 have:=YN (P:=P) (ops:=l.toArray) (S:=S) (es:=es) (K:=K) l 0 a w.drew (λk o c=>by simpa using c) (by simpa using h K hK)
 simpa[List.range_eq_range'] using this
theorem zL {es:List Bool} {K:Act→World→Prop} {a:Act} {w:World} (h:K a w):JK P ops S K es [] a w:=h
theorem zl {es:List Bool} {K:Act→World→Prop} {a:Act} {w:World} {o:Oper} {rest:List Oper}
  (c:Region.wanted o (yielded ops a.tmps)=true) (h:∃v,(∀w,S w→(execOp a.eval o).run P w=.ok (.value v) w)∧JK P ops S K es rest (a.put o.dst v) w):JK P ops S K (false::es) (o::rest) a w:=by
 obtain⟨v,d,h⟩:=h
 rw[JK,if_neg (by simp)]
 exact⟨v,.inl ⟨c,d⟩,h⟩
theorem zm {e:Bool} {es:List Bool} {K:Act→World→Prop} {a:Act} {w:World} {o:Oper} {rest:List Oper}
  (c:Region.wanted o (yielded ops a.tmps)=false) (h:JK P ops S K es rest (a.put o.dst undef) w):JK P ops S K (e::es) (o::rest) a w:=by
 rw[JK,if_neg (by rw[c];simp)]
 exact⟨undef,.inr ⟨c,rfl⟩,h⟩
theorem zF {es:List Bool} {K:Act→World→Prop} {a:Act} {w:World} {o:Oper} {rest:List Oper}
  (f:Region.wanted o (yielded ops a.tmps)=true) (h:∀K',Shut (∀c w',S w'→(S w'→JK P ops S K es rest c w')→K' c w')→o.wp P a w K' NoQ):JK P ops S K (true::es) (o::rest) a w:=by
 rw[JK,if_pos ⟨rfl,f⟩]
 exact h _ (λ_ _ d e=>⟨d,e d⟩)
section
variable {es:List Bool} {K:Act→World→Prop} {a:Act} {w:World} {rest:List Oper} {dst:Option Tmp} {op:Op} {ty:TypeId} {pos:String} {after:Array Edge} {j:Nat} {b:Bool}
theorem zng (h:∃v,(∀w,S w→(execOp a.eval {dst:=dst,op:=op,type:=ty,pos:=pos,after:=after,guard:=none}).run P w=.ok (.value v) w)∧JK P ops S K es rest (a.put dst v) w):
  JK P ops S K (false::es) ({dst:=dst,op:=op,type:=ty,pos:=pos,after:=after,guard:=none}::rest) a w:=zl rfl h
theorem zmR (c:yielded ops a.tmps j=some b) (h:∃v,(∀w,S w→(execOp a.eval {dst:=dst,op:=op,type:=ty,pos:=pos,after:=after,guard:=some (j,b)}).run P w=.ok (.value v) w)∧JK P ops S K es rest (a.put dst v) w):
  JK P ops S K (false::es) ({dst:=dst,op:=op,type:=ty,pos:=pos,after:=after,guard:=some (j,b)}::rest) a w:=zl (by simp[Region.wanted,c]) h
theorem znh {e c:Bool} (f:yielded ops a.tmps j=some c) (d:c= !b) (h:JK P ops S K es rest (a.put dst undef) w):
  JK P ops S K (e::es) ({dst:=dst,op:=op,type:=ty,pos:=pos,after:=after,guard:=some (j,b)}::rest) a w:=zm (by subst d;simp[Region.wanted,f]) h
theorem zmS {e:Bool} (c:yielded ops a.tmps j=none) (h:JK P ops S K es rest (a.put dst undef) w):
  JK P ops S K (e::es) ({dst:=dst,op:=op,type:=ty,pos:=pos,after:=after,guard:=some (j,b)}::rest) a w:=zm (by simp[Region.wanted,c]) h
theorem znR (h:∀K',Shut (∀c w',S w'→(S w'→JK P ops S K es rest c w')→K' c w')→Oper.wp P {dst:=dst,op:=op,type:=ty,pos:=pos,after:=after,guard:=none} a w K' NoQ):
  JK P ops S K (true::es) ({dst:=dst,op:=op,type:=ty,pos:=pos,after:=after,guard:=none}::rest) a w:=zF rfl h
theorem znf (d:yielded ops a.tmps j=some b) (h:∀K',Shut (∀c w',S w'→(S w'→JK P ops S K es rest c w')→K' c w')→Oper.wp P {dst:=dst,op:=op,type:=ty,pos:=pos,after:=after,guard:=some (j,b)} a w K' NoQ):
  JK P ops S K (true::es) ({dst:=dst,op:=op,type:=ty,pos:=pos,after:=after,guard:=some (j,b)}::rest) a w:=zF (by simp[Region.wanted,d]) h
end
end
attribute [irreducible] JK
end Go
namespace Go
open Go.RowKit
theorem frN (w:World):Fr No w w:=Fr.refl No w
end Go
namespace Go
open Go.RowKit Go.Maps Go.MapKept
theorem zb {w w':World} {base:Nat} {e:TypeId} {size:Nat} {v:Value} {n:Nat} {xs:List Value} (h:w.ownsRow base e size v n xs) {W:Nat→Prop} (f:Fr W w w') (j:∀b,v.ownBlock=some b→¬W b):w'.ownsRow base e size v n xs:=by
 refine⟨h.1,?_⟩
 rcases h.2 with hn|⟨g,c,d,rfl,i,l,rest⟩
 ·exact .inl hn
 ·exact .inr ⟨g,c,d,rfl,i,f.obj l (j g rfl),rest⟩
theorem jf {P:Program} {t:TypeId} (h:(P.underlying t).map (·.isRow)=some true):∃d,P.underlying t=some d∧d.isRow=true:=by
 cases e:P.underlying t with
 |none=>rw[e] at h;cases h
 |some d=>rw[e] at h;exact⟨d,rfl,by simpa using h⟩
theorem za {w w':World} {b o:Nat} {cs:List Value} (h:w.rangeAt b o cs) {W:Nat→Prop} (f:Fr W w w') (c:¬W b):w'.rangeAt b o cs:=λj v d=>f.cell (h j v d) c
theorem zy (w:World) (cs:List Value) (T:TypeId):(w.alloc (.cells cs.toArray T)).rangeAt w.heap.size 0 cs:=λj v c=>by
 have b:=yj w (.cells cs.toArray T)
 simp only[World.cell?,b]
 simpa using c
theorem zq {w:World} {b:Nat} {c:Array Value} {T:TypeId} {fr:Nat×Nat} (d:w.heap[b]? =some (.cells c T fr)):w.rangeAt b 0 c.toList:=λj v e=>by
 simp only[World.cell?,d]
 simpa using e
theorem Zy {α β:Type} (f:α→List β) (k:Nat):∀(L:List α),(∀x∈L,(f x).length=k)→∀(i:Nat) (x:α),L[i]? =some x→∀r,r<k→(L.flatMap f)[i*k+r]? =(f x)[r]?
 |[],_,i,x,h,_,_=>by simp at h
 |y::L,hk,0,x,h,r,hr=>by
  simp at h
  subst h
  rw[List.flatMap_cons,Nat.zero_mul,Nat.zero_add,List.getElem?_append_left (by rw[hk y (by simp)];exact hr)]
 |y::L,hk,i+1,x,h,r,hr=>by
  rw[List.flatMap_cons,List.getElem?_append_right (by rw[hk y (by simp),Nat.succ_mul];omega),hk y (by simp)]
  rw[show(i+1)*k+r-k=i*k+r by rw[Nat.succ_mul];omega]
  exact Zy f k L (λx b=>hk x (by simp[b])) i x (by simpa using h) r hr
theorem xI {α β:Type} (f:α→List β) (k:Nat):∀(L:List α),(∀x∈L,(f x).length=k)→(L.flatMap f).length=L.length*k
 |[],_=>by simp
 |y::L,hk=>by rw[List.flatMap_cons,List.length_append,hk y (by simp),xI f k L (λx b=>hk x (by simp[b])),List.length_cons,Nat.succ_mul];omega
def setM (xs:List Value):Nat→List Value→List Value
 |_,[]=>xs
 |o,v::r=>setM (xs.set o v) (o+1) r
theorem jq:∀(cs A B C:List Value),B.length=cs.length→setM (A++B++C) A.length cs=A++cs++C
 |[],A,B,C,h=>by
  have:B=[]:=List.eq_nil_of_length_eq_zero h
  subst this
  rfl
 |v::r,A,[],C,h=>by simp at h
 |v::r,A,b::B,C,h=>by
  unfold setM
  rw[List.append_assoc,List.set_append_right _ _ (Nat.le_refl _),Nat.sub_self,List.cons_append,List.set_cons_zero]
  have e:A++v::(B++C)=(A++[v])++B++C:=by simp
  rw[e,show A.length+1=(A++[v]).length by simp,jq r (A++[v]) B C (by simpa using h)]
  simp
theorem xw (g:Nat) (T:TypeId):∀(cs:List Value) (o:Nat) (w:World) (cur:Array Value),w.heap[g]? =some (.cells cur T (0,0))→(w.setCells g o cs).heap[g]? =some (.cells (setM cur.toList o cs).toArray T (0,0))
 |[],o,w,cur,h=>by simpa[World.setCells,setM] using h
 |v::r,o,w,cur,h=>by
  have b:=heap_setCell_same w g o _ _ v h
  have:=xw g T r (o+1) _ _ b
  simp only[World.setCells,setM]
  rw[this]
  simp
theorem zu (g:Nat):∀(cs:List Value) (o:Nat) (w:World),Fr (λi=>i=g) w (w.setCells g o cs)
 |[],_,_=>Fr.refl _ _
 |v::r,o,w=>(Fr.setCell (W:=λi=>i=g) (Fr.refl _ w) ⟨g,o,none⟩ (.inr rfl) v).trans (zu g r (o+1) _) (λ_ _ h=>h)
theorem zdU (w:World) (z cs:List Value) (T:TypeId) (h:z.length=cs.length):(w.alloc (.cells z.toArray T)).setCells w.heap.size 0 cs=w.alloc (.cells cs.toArray T):=by
 have c:∀(cs:List Value) (o:Nat) (b:Array Value),(w.alloc (.cells b T)).setCells w.heap.size o cs=w.alloc (.cells (setM b.toList o cs).toArray T):=by
  intro cs
  induction cs with
  |nil=>intro o b;simp[World.setCells,setM]
  |cons v r ih=>
   intro o b
   have e:(w.alloc (.cells b T)).setCell ⟨w.heap.size,o,none⟩ v=w.alloc (.cells (b.setIfInBounds o v) T):=by
    exact World.setCell_alloc_at _ _ _ _ _ rfl
   simp only[World.setCells,setM,e]
   rw[ih]
   simp
 rw[c]
 have:=jq cs [] z [] h
 simp at this
 simp[this]
section
variable {α:Type} {f:α→List Value} {k:Nat}
theorem jS.elem {w:World} {v:Value} {n:Nat} {L:List α} (r:0<k) (g:∀x∈L,(f x).length=k) (h:jS w v n (L.flatMap f)) {i:Nat} {x:α} (m:L[i]? =some x):
  ∃b off d,v=.slice (some ⟨b,off,none⟩) n d∧w.rangeAt b (off+i*k) (f x)∧b<w.heap.size:=by
 have c:=List.mem_of_getElem? m
 rcases h with⟨_,_,e⟩|⟨b,off,d,rfl,s,t,p,q⟩
 ·have:=Zy f k L g i x m 0 (by omega)
  rw[e] at this
  have z:=g x c
  rw[List.getElem?_nil] at this
  have:=List.getElem?_eq_none_iff.1 this.symm
  omega
 ·refine⟨b,off,d,rfl,λj u o=>?_,q⟩
  have l:j<k:=by have:=(List.getElem?_eq_some_iff.1 o).1;rw[g x c] at this;exact this
  rw[Nat.add_assoc]
  exact p _ _ (by rw[Zy f k L g i x m j l];exact o)
theorem xG.elem {w:World} {v:Value} {n:Nat} {L:List α} (j:0<k) (g:∀x∈L,(f x).length=k) (h:xG w v n (L.flatMap f)) {i:Nat} {x:α} (l:L[i]? =some x):
  ∃b off c,v=.slice (some ⟨b,off,none⟩) n c∧w.rangeAt b (off+i*k) (f x)∧b<w.heap.size:=by
 rcases h with h|⟨a,c,rfl,rfl,e,_⟩
 ·exact h.elem j g l
 ·have d:=List.mem_of_getElem? l
  have:=Zy f k L g i x l 0 (by omega)
  rw[e] at this
  have m:=g x d
  rw[List.getElem?_nil] at this
  have:=List.getElem?_eq_none_iff.1 this.symm
  omega
theorem JF {w:World} {B n:Nat} {T:TypeId} {v:Value} {L:List α} (d:0<k) (l:∀x∈L,(f x).length=k) (h:w.ownsRow B T k v n (L.flatMap f)) {i:Nat} {x:α} (o:L[i]? =some x):
  ∃g c,v=.slice (some ⟨g,0,none⟩) n c∧w.rangeAt g (i*k) (f x)∧g<w.heap.size:=by
 rcases h.2 with⟨rfl,s⟩|⟨g,c,p,rfl,_⟩
 ·have q:=h.1
  rw[xI f k L l,s] at q
  have:i<L.length:=(List.getElem?_eq_some_iff.1 o).1
  have:L.length*k=0:=by omega
  rcases Nat.mul_eq_zero.1 this with h|h<;>omega
 ·obtain⟨b,off,j,e,m,r⟩:=h.slice.elem d l o
  injection e with e1 e2 e3
  injection e1 with e1
  injection e1 with e4 e5
  subst e4 e5
  rw[Nat.zero_add] at m
  exact⟨_,c,rfl,m,r⟩
theorem Xo {L:List α} (b:∀x∈L,(f x).length=k) (i:Nat) (y:α) (m:(f y).length=k) (hi:i<L.length):setM (L.flatMap f) (i*k) (f y)=(L.set i y).flatMap f:=by
 have c:L=L.take i++L[i]::L.drop (i+1):=by simp
 have j:(List.flatMap f (L.take i)).length=i*k:=by rw[xI f k _ (λx l=>b x (List.mem_of_mem_take l)),List.length_take,Nat.min_eq_left (by omega)]
 have h:=jq (f y) ((L.take i).flatMap f) (f L[i]) ((L.drop (i+1)).flatMap f) (by rw[b _ (List.getElem_mem hi),m])
 rw[j] at h
 have d:L.flatMap f=(L.take i).flatMap f++f L[i]++(L.drop (i+1)).flatMap f:=by
  have e:=congrArg (List.flatMap f) c
  rw[List.flatMap_append,List.flatMap_cons] at e
  rw[e,List.append_assoc]
 have g:L.set i y=L.take i++y::L.drop (i+1):=by rw[List.set_eq_take_append_cons_drop,if_pos hi]
 rw[d,h,g]
 simp[List.flatMap_append,List.flatMap_cons]
theorem Qb:∀(cs xs:List Value) (o n:Nat),o+cs.length≤n→n≤xs.length→(setM xs o cs).take n=setM (xs.take n) o cs
 |[],xs,o,n,h1,h2=>rfl
 |v::r,xs,o,n,h1,h2=>by
  simp only[setM]
  rw[Qb r _ _ _ (by simp at h1;omega) (by simpa using h2),List.take_set]
theorem Xx:∀(cs xs:List Value) (o:Nat),(setM xs o cs).length=xs.length
 |[],xs,o=>rfl
 |v::r,xs,o=>by simp only[setM];rw[Xx r];simp
theorem zg9 {w:World} {B:Nat} {T:TypeId} {g b:Nat} {L:List α} (m:∀x∈L,(f x).length=k) (h:w.ownsRow B T k (.slice (some ⟨g,0,none⟩) L.length b) L.length (L.flatMap f)) {i:Nat} (hi:i<L.length) (y:α) (j:(f y).length=k):
  (w.setCells g (i*k) (f y)).ownsRow B T k (.slice (some ⟨g,0,none⟩) L.length b) L.length ((L.set i y).flatMap f):=by
 have z:=h.1
 rcases h.2 with⟨e,_⟩|⟨v,l,c,e,o,q,n,r,s,t⟩
 ·cases e
 ·injection e with e1 e2 e3
  injection e1 with e1
  injection e1 with e4 e5
  subst e4 e3
  have d:i*k+k≤L.length*k:=by rw[←Nat.succ_mul];exact Nat.mul_le_mul_right _ hi
  have p:L.length*k≤b*k:=Nat.mul_le_mul_right _ n
  refine⟨by rw[xI f k _ (λx u=>(List.mem_or_eq_of_mem_set u).elim (m x) (λe=>e▸j))];simp,.inr ⟨g,b,(setM c.toList (i*k) (f y)).toArray,rfl,o,xw g T (f y) (i*k) w c q,n,r,?_,?_⟩⟩
  ·rw[List.size_toArray,Xx,Array.length_toList,s]
  ·rw[Qb _ _ _ _ (by rw[j];exact d) (by have:=Array.length_toList (xs:=c);omega),t,Xo m i y j hi]
theorem Js {w:World} {B:Nat} {T:TypeId} {g b n:Nat} {xs:List Value} (h:w.ownsRow B T k (.slice (some ⟨g,0,none⟩) n b) n xs) {i:Nat} (hi:i<n):w.there g (i*k) k:=λj d=>by
 have c:i*k+k≤n*k:=by rw[←Nat.succ_mul];exact Nat.mul_le_mul_right _ hi
 refine⟨?_,h.frozenAt _⟩
 rw[h.cellAt (i*k+j) (by omega),List.getElem?_eq_getElem (by rw[h.1];omega)]
 rfl
end
section
variable {P:Program} {S:World→Prop} {a:Act} {dst:Option Tmp} {ty ty2:TypeId} {pos:String} {after:Array Edge} {gd:Option (Nat×Bool)} {x y:Operand}
theorem xB {i:TypeId} {b o:Nat} {cs:List Value} {d:TypeDesc} (h:a.eval x=.pointer (some ⟨b,o,none⟩)) (hS:∀w,S w→w.rangeAt b o cs) (e:P.underlying ty=some d) (c:d.isRow=true) (hi:(P.info? ty).map (·.size)=some cs.length):
  ∀w,S w→(execOp a.eval {dst:=dst,op:=.load ty x,type:=i,pos:=pos,after:=after,guard:=gd}).run P w=.ok (.value (.agg cs.toArray)) w:=λw g=>by
 unfold execOp
 simp only[h,Instr.loadAt,Instr.sureAddr,Sem.run_bind,Sem.run_pure,Result.andThen_ok,run_loadVar_mid w b o ty cs d (hS w g) e c hi]
structure znr (P:Program) (k:TypeId):Prop where
 keyed:Keyed P k
 deep:P.keyTypeAt 3 k=true
 wide:(match P.underlying k with|some (.array _ _)|some (.struct _)=>true|_=>false)=true
 guard:P.eqGuardType P.depth k=false
theorem znr.run {k:TypeId} (h:znr P k) (w:World) {u v:Array Value} (n:∃l,keyOf P k (.agg u)=some l) (o:∃l,keyOf P k (.agg v)=some l) (b:Bool) (i:b=true↔u=v):
  (Op.equal k (.agg u) (.agg v)).run P w=.ok b w:=by
 obtain⟨p,g⟩:=n
 obtain⟨q,d⟩:=o
 obtain⟨r,j,c⟩:=run_equal_deep w (m:=3) (by omega) h.deep h.wide g d
 have:r=b:=by
  rw[Bool.eq_iff_iff,c,i]
  constructor
  ·intro e
   subst e
   have:=h.keyed.inj g d
   injection this
  ·intro e
   subst e
   rw[g] at d
   exact Option.some.inj d
 rw[j,this]
end
end Go
namespace Go
open Go.RowKit Go.Maps Go.MapKept
def Upd {κ ι:Type} (M:List (κ×ι)) (k:κ) (v:ι) (M':List (κ×ι)):Prop:=∀k' v',(k',v')∈M'↔(k'=k∧v'=v)∨(k'≠k∧(k',v')∈M)
def Del {κ ι:Type} (M:List (κ×ι)) (k:κ) (M':List (κ×ι)):Prop:=∀k' v',(k',v')∈M'↔k'≠k∧(k',v')∈M
section
variable {P:Program} {kt et t:TypeId} {w:World} {b:Nat} {κ ι:Type} {kV:κ→Value} {vV:ι→Value}
def yD (P:Program) (kt:TypeId) (kV:κ→Value) (vV:ι→Value) (w:World) (b:Nat) (M:List (κ×ι)):Prop:=xh P kt w b (M.map λx=>(kV x.1,vV x.2))
variable {M:List (κ×ι)}
theorem yD.lt (h:yD P kt kV vV w b M):b<w.heap.size:=xh.lt h
theorem yD.keep {w':World} {W:Nat→Prop} (h:yD P kt kV vV w b M) (f:Fr W w w') (c:¬W b):yD P kt kV vV w' b M:=xh.keep h f c
theorem yD.nodup (h:yD P kt kV vV w b M):(M.map (·.1)).Nodup:=by
 have:=xh.nodup h
 rw[List.map_map] at this
 exact(List.pairwise_map.2 ((List.pairwise_map.1 this).imp λc e=>c (by simp only[Function.comp];rw[e])))
theorem yD.uniq (h:yD P kt kV vV w b M) {k:κ} {v f:ι} (l:(k,v)∈M) (n:(k,f)∈M):v=f:=by
 have d:=h.nodup
 obtain⟨i,hi⟩:=List.mem_iff_getElem?.1 l
 obtain⟨j,c⟩:=List.mem_iff_getElem?.1 n
 have e:(M.map (·.1))[i]? =some k:=by rw[List.getElem?_map,hi];rfl
 have g:(M.map (·.1))[j]? =some k:=by rw[List.getElem?_map,c];rfl
 have:=(List.getElem?_inj (List.getElem?_eq_some_iff.1 e).1 d).1 (e.trans g.symm)
 subst this
 rw[hi] at c
 exact congrArg Prod.snd (Option.some.inj c)
theorem yD.made (w:World):yD P kt kV vV (w.alloc (.map #[] 0)) w.heap.size ([]:List (κ×ι)):=xh.made w
theorem yD.upd (h:yD P kt kV vV w b M) (K:Keyed P kt) (E:P.underlying t=some (.map kt et)) (A:∀a b,kV a=kV b→a=b) {k:κ} (C:∃l,keyOf P kt (kV k)=some l) (room:M.length<maxLen) (v:ι):
  ∃w' M',(Instr.mapUpdate t (.map (some b)) (kV k) (vV v)).run P w=.ok () w'∧yD P kt kV vV w' b M'∧Upd M k v M'∧Jy b w w'∧M'.length≤M.length+1:=by
 by_cases hin:∃B,(k,B)∈M
 ·obtain⟨B,D⟩:=hin
  obtain⟨j,n,rfl⟩:=List.append_of_mem D
  have N:=λi (h':(k,i)∈j++(k,B)::n)=>h.uniq h' D
  have f:=h.nodup
  unfold yD at h
  rw[List.map_append,List.map_cons] at h
  obtain⟨w',r,q,s⟩:=xh.update_hit K E h C (vV v)
  refine⟨w',j++(k,v)::n,r,by unfold yD;rw[List.map_append,List.map_cons];exact q,λG i=>?_,s,by simp⟩
  rw[List.map_append,List.map_cons] at f
  obtain⟨O,H,I⟩:=List.nodup_append.1 f
  obtain⟨L,R⟩:=List.nodup_cons.1 H
  have u:∀x,(k,x)∉j:=λx g=>I k (List.mem_map.2 ⟨_,g,rfl⟩) k (by simp) rfl
  have y:∀x,(k,x)∉n:=λx g=>L (List.mem_map.2 ⟨_,g,rfl⟩)
  simp only[List.mem_append,List.mem_cons,Prod.mk.injEq]
  constructor
  ·rintro(c|c|c)
   ·exact .inr ⟨λe=>u _ (e▸c),.inl c⟩
   ·exact .inl c
   ·exact .inr ⟨λe=>y _ (e▸c),.inr (.inr c)⟩
  ·rintro(c|⟨c,d|d|d⟩)
   ·exact .inr (.inl c)
   ·exact .inl d
   ·exact absurd d.1 c
   ·exact .inr (.inr d)
 ·have z:∀p∈M.map λx=>(kV x.1,vV x.2),p.1≠kV k:=by
   intro p F
   obtain⟨x,g,rfl⟩:=List.mem_map.1 F
   exact λe=>hin ⟨x.2,by rw[←A _ _ e];exact g⟩
  obtain⟨w',r,q,s⟩:=xh.update_miss K E h C z (by simpa using room) (vV v)
  refine⟨w',M++[(k,v)],r,by unfold yD;rw[List.map_append];exact q,λG i=>?_,s,by simp⟩
  simp only[List.mem_append,List.mem_singleton,Prod.mk.injEq]
  constructor
  ·rintro(c|c)
   ·exact .inr ⟨λe=>hin ⟨i,e▸c⟩,c⟩
   ·exact .inl c
  ·rintro(c|⟨_,d⟩)
   ·exact .inr c
   ·exact .inl d
theorem yD.look (h:yD P kt kV vV w b M) (K:Keyed P kt) (n:P.underlying t=some (.map kt et)) (d:∀a b,kV a=kV b→a=b) {z:Value} (s:∀w,(zeroValue et).run P w=.ok z w) {k:κ} (i:∃l,keyOf P kt (kV k)=some l) (c:Bool) {r:Option ι} (f:∀v,r=some v↔(k,v)∈M):
  (Instr.lookup t (.map (some b)) (kV k) c).run P w=.ok (if c then .tuple #[(r.map vV).getD z,.bool r.isSome] else(r.map vV).getD z) w:=by
 have g:zgI (M.map λx=>(kV x.1,vV x.2)) (kV k) (r.map vV):=by
  cases r with
  |none=>
   refine .miss λp j e=>?_
   obtain⟨x,q,rfl⟩:=List.mem_map.1 j
   have:=(f x.2).2 (by rw[←d _ _ e];exact q)
   cases this
  |some v=>exact .hit (List.mem_map.2 ⟨(k,v),(f v).1 rfl,rfl⟩)
 have:=xh.lookup K n s h i c g
 simpa using this
theorem yD.del (h:yD P kt kV vV w b M) (K:Keyed P kt) (B:P.underlying t=some (.map kt et)) (u:∀a b,kV a=kV b→a=b) {k:κ} (A:∃l,keyOf P kt (kV k)=some l) (ty x:TypeId):
  ∃w' M',(Builtin.delete_ #[t,x] ty #[.map (some b),kV k]).run P w=.ok (.tuple #[]) w'∧yD P kt kV vV w' b M'∧Del M k M'∧Jy b w w'∧M'.length≤M.length:=by
 by_cases hin:∃D,(k,D)∈M
 ·obtain⟨D,E⟩:=hin
  obtain⟨y,z,rfl⟩:=List.append_of_mem E
  have f:=h.nodup
  unfold yD at h
  rw[List.map_append,List.map_cons] at h
  obtain⟨w',r,i,j⟩:=xh.delete_hit K B h A ty x
  refine⟨w',y++z,r,by unfold yD;rw[List.map_append];exact i,λG C=>?_,j,by simp⟩
  rw[List.map_append,List.map_cons] at f
  obtain⟨N,H,I⟩:=List.nodup_append.1 f
  obtain⟨L,O⟩:=List.nodup_cons.1 H
  have n:∀x,(k,x)∉y:=λx g=>I k (List.mem_map.2 ⟨_,g,rfl⟩) k (by simp) rfl
  have q:∀x,(k,x)∉z:=λx g=>L (List.mem_map.2 ⟨_,g,rfl⟩)
  simp only[List.mem_append,List.mem_cons,Prod.mk.injEq]
  constructor
  ·rintro(c|c)
   ·exact⟨λe=>n _ (e▸c),.inl c⟩
   ·exact⟨λe=>q _ (e▸c),.inr (.inr c)⟩
  ·rintro⟨c,d|d|d⟩
   ·exact .inl d
   ·exact absurd d.1 c
   ·exact .inr d
 ·have s:∀p∈M.map λx=>(kV x.1,vV x.2),p.1≠kV k:=by
   intro p F
   obtain⟨x,g,rfl⟩:=List.mem_map.1 F
   exact λe=>hin ⟨x.2,by rw[←u _ _ e];exact g⟩
  obtain⟨w',r,i,j⟩:=xh.delete_miss K B h A s ty x
  exact⟨w',M,r,i,λG C=>⟨λc=>⟨λe=>hin ⟨C,e▸c⟩,c⟩,λc=>c.2⟩,j,Nat.le_refl _⟩
theorem yD.lenRun (h:yD P kt kV vV w b M) (c:P.underlying t=some (.map kt et)) (ty:TypeId):(Builtin.len_ #[t] ty #[.map (some b)]).run P w=.ok (.int .i64 (M.length:Int)) w:=by
 have:=xh.lenRun c h ty
 simpa using this
end
section
variable {P:Program} {o:Oper} {a:Act} {w w':World} {K:Act→World→Prop} {Q:Exit→Act→World→Prop} {ops:Array Oper} {rest:List Oper} {v:Value}
theorem yN (c:(execOp a.eval o).run P w=.ok .skip w') (h:K (a.put o.dst undef) w'):o.wp P a w K Q:=by
 unfold Oper.wp
 rw[c]
 exact h
theorem yg (c:(execOp a.eval o).run P w=.ok (.value v) w') (h:K (a.put o.dst v) w'):o.wp P a w K Q:=by
 unfold Oper.wp
 rw[c]
 exact h
theorem zi (d:o.guard=none) (c:(execOp a.eval o).run P w=.ok .skip w') (h:wpList P ops Q rest (a.put o.dst undef) w'):wpList P ops Q (o::rest) a w:=
 wpList_plain d λ_ hK=>yN c (hK _ _ h)
theorem zg (d:o.guard=none) (c:(execOp a.eval o).run P w=.ok (.value v) w') (h:wpList P ops Q rest (a.put o.dst v) w'):wpList P ops Q (o::rest) a w:=
 wpList_plain d λ_ hK=>yg c (hK _ _ h)
variable {ev:Operand→Value} {t ty:TypeId} {m k x:Operand} {mv kv' xv:Value}
theorem y4 (e:o.op=.mapUpdate t m k x) (d:ev m=mv) (c:ev k=kv') (g:ev x=xv) (f:(Instr.mapUpdate t mv kv' xv).run P w=.ok () w'):(execOp ev o).run P w=.ok .skip w':=by
 simp only[execOp,e,d,c,g,Sem.run_bind,f,Result.andThen_ok,Sem.run_pure]
theorem zM {c:Bool} (f:o.op=.lookup t m k c) (e:ev m=mv) (d:ev k=kv') (g:(Instr.lookup t mv kv' c).run P w=.ok v w'):(execOp ev o).run P w=.ok (.value v) w':=by
 simp only[execOp,f,e,d,Sem.run_bind,g,Result.andThen_ok,Sem.run_pure]
theorem jI {c:Array TypeId} (f:o.op=.call {callee:=.builtin .delete,args:= #[m,k],argTypes:=c}) (e:ev m=mv) (d:ev k=kv') (g:(Builtin.delete_ c o.type #[mv,kv']).run P w=.ok v w'):(execOp ev o).run P w=.ok (.value v) w':=by
 simp[execOp,f,resolve,e,d,invoke,builtin,g,Result.andThen]
theorem jj {c:Array TypeId} (e:o.op=.call {callee:=.builtin .len,args:= #[m],argTypes:=c}) (d:ev m=mv) (f:(Builtin.len_ c o.type #[mv]).run P w=.ok v w'):(execOp ev o).run P w=.ok (.value v) w':=by
 simp[execOp,e,resolve,d,invoke,builtin,f,Result.andThen]
theorem zK {b off:Nat} {cs:List Value} (f:o.op=.store ty m k) (e:ev m=.pointer (some ⟨b,off,none⟩)) (d:ev k=.agg cs.toArray) (g:w.there b off cs.length) (hi:(P.info? ty).map (·.size)=some cs.length) (c:∀v∈cs,v.oneCell'=true):(execOp ev o).run P w=.ok .skip (w.setCells b off cs):=by
 have h:=run_storeAt_mid (P:=P) w b off ty cs.toArray (by simpa using g) (by simpa using hi) (all_oneCell_toArray c)
 simp only at h
 simp only[execOp,f,e,d,Sem.run_bind,h,Result.andThen_ok,Sem.run_pure]
theorem zj {Z:Array Value} {T:TypeId} {cs:List Value} (i:o.op=.store ty m k) (g:ev m=.pointer (some ⟨w.heap.size,0,none⟩)) (f:ev k=.agg cs.toArray) (n:Z.size=cs.length) (hi:(P.info? ty).map (·.size)=some cs.length) (c:∀v∈cs,v.oneCell'=true):(execOp ev o).run P (w.alloc (.cells Z T))=.ok .skip (w.alloc (.cells cs.toArray T)):=by
 have l:(w.alloc (.cells Z T)).there w.heap.size 0 cs.length:=λj p=>by
  have d:=yj w (.cells Z T)
  simp only[World.cell?,World.frozen?,d,Nat.zero_add]
  rw[Array.getElem?_eq_getElem (by omega)]
  simp
 have h:=zK (P:=P) (w:=w.alloc (.cells Z T)) i g f l hi c
 have e:=zdU w Z.toList cs T (by simpa using n)
 simp only[Array.toArray_toList] at e
 rw[h,e]
theorem z7 {b off:Nat} {cs:List Value} {d:TypeDesc} (g:o.op=.load ty m) (f:ev m=.pointer (some ⟨b,off,none⟩)) (c:w.rangeAt b off cs) (h:P.underlying ty=some d) (e:d.isRow=true) (hi:(P.info? ty).map (·.size)=some cs.length):(execOp ev o).run P w=.ok (.value (.agg cs.toArray)) w:=by
 simp only[execOp,g,f,Sem.run_bind,run_loadAt_mid w b off ty cs d c h e hi,Result.andThen_ok,Sem.run_pure]
end
end Go
namespace Go
open Go.RowKit
abbrev ff:=false
abbrev tt:=true
end Go
namespace Go
open Go.RowKit
theorem nXt {S:World→Prop} {L K:Act→World→Prop} {a:Act} {w:World} (h:Shut (∀a w,S w→(S w→L a w)→K a w)) (s:S w) (k:S w→L a w):K a w:=h.out _ _ s k
end Go
namespace Go
open Go.RowKit
theorem goS {p:Prop} (h:p:=by go_simp;(try with_reducible rfl);done):p:=h
end Go
namespace Go
open Go.RowKit
theorem wrLx {P:Program} {id:Nat} {a:Act} {w:World} {Q:Exit→Act→World→Prop} {l:List Oper} (es:List Bool) (S:World→Prop) (hS:S w.drew) (h:∀K:Act→World→Prop,Shut (∀a w,Q .normal a w→K a w)→JK P l.toArray S K es l a w.drew) (hm:P.follows .mixedOrders=true:=by kernel_rfl) (hok:zaQ l.toArray (zaL es)=true:=by kernel_rfl):(Code.region id l.toArray true).wp P Q a w:=zkC es S hm hok hS h
end Go
namespace Go
open Go.RowKit
theorem pA {α:Type _} {xs:List α} {i:Nat} {a:α}:xs.toArray.setIfInBounds i a=(xs.set i a).toArray:=List.setIfInBounds_toArray ..
theorem pB {α:Type _} {x:α} {xs:List α} {a:α}:(x::xs).set 0 a=a::xs:=List.set_cons_zero
theorem pC {α:Type _} {x:α} {xs:List α} {n:Nat} {a:α}:(x::xs).set (n+1) a=x::xs.set n a:=List.set_cons_succ
end Go
namespace Go
open Go.RowKit
theorem RowKit.Hid.o {p:Prop} (h:Hid p):p:=h
theorem J {p:Prop} (h:p):Hid p:=h
theorem tru:Hid True:=True.intro
abbrev HTr:=Hid True
theorem tZ2:HTr∧HTr:=⟨tru,tru⟩
theorem tZ3:HTr∧HTr∧HTr:=⟨tru,tZ2⟩
theorem tZ4:HTr∧HTr∧HTr∧HTr:=⟨tru,tZ3⟩
theorem tZ5:HTr∧HTr∧HTr∧HTr∧HTr:=⟨tru,tZ4⟩
theorem tZ6:HTr∧HTr∧HTr∧HTr∧HTr∧HTr:=⟨tru,tZ5⟩
theorem tZ7:HTr∧HTr∧HTr∧HTr∧HTr∧HTr∧HTr:=⟨tru,tZ6⟩
theorem tZ8:HTr∧HTr∧HTr∧HTr∧HTr∧HTr∧HTr∧HTr:=⟨tru,tZ7⟩
theorem tZ9:HTr∧HTr∧HTr∧HTr∧HTr∧HTr∧HTr∧HTr∧HTr:=⟨tru,tZ8⟩
theorem tZ10:HTr∧HTr∧HTr∧HTr∧HTr∧HTr∧HTr∧HTr∧HTr∧HTr:=⟨tru,tZ9⟩
theorem tZ11:HTr∧HTr∧HTr∧HTr∧HTr∧HTr∧HTr∧HTr∧HTr∧HTr∧HTr:=⟨tru,tZ10⟩
theorem tZ12:HTr∧HTr∧HTr∧HTr∧HTr∧HTr∧HTr∧HTr∧HTr∧HTr∧HTr∧HTr:=⟨tru,tZ11⟩
theorem tZ13:HTr∧HTr∧HTr∧HTr∧HTr∧HTr∧HTr∧HTr∧HTr∧HTr∧HTr∧HTr∧HTr:=⟨tru,tZ12⟩
theorem tZ14:HTr∧HTr∧HTr∧HTr∧HTr∧HTr∧HTr∧HTr∧HTr∧HTr∧HTr∧HTr∧HTr∧HTr:=⟨tru,tZ13⟩
theorem tZ16:HTr∧HTr∧HTr∧HTr∧HTr∧HTr∧HTr∧HTr∧HTr∧HTr∧HTr∧HTr∧HTr∧HTr∧HTr∧HTr:=⟨tru,tru,tru,tru,tru,tru,tru,tru,tru,tru,tru,tru,tru,tru,tru,tru⟩
theorem tZ45:HTr∧HTr∧HTr∧HTr∧HTr∧HTr∧HTr∧HTr∧HTr∧HTr∧HTr∧HTr∧HTr∧HTr∧HTr∧HTr∧HTr∧HTr∧HTr∧HTr∧HTr∧HTr∧HTr∧HTr∧HTr∧HTr∧HTr∧HTr∧HTr∧HTr∧HTr∧HTr∧HTr∧HTr∧HTr∧HTr∧HTr∧HTr∧HTr∧HTr∧HTr∧HTr∧HTr∧HTr∧HTr:=⟨tru,tru,tru,tru,tru,tru,tru,tru,tru,tru,tru,tru,tru,tru,tru,tru,tru,tru,tru,tru,tru,tru,tru,tru,tru,tru,tru,tru,tru,tru,tru,tru,tru,tru,tru,tru,tru,tru,tru,tru,tru,tru,tru,tru,tru⟩
end Go
namespace Go
open Go.RowKit Go.Maps Go.MapKept
theorem zcR:∀(cs:List Value) (k off:Nat) (xs:Array Value),(cs.zipIdx k).foldl (λ(ys:Array Value) (c:Value×Nat)=>ys.setIfInBounds (off+c.2) c.1) xs=(setM xs.toList (off+k) cs).toArray
 |[],k,off,xs=>by simp[setM]
 |c::cs,k,off,xs=>by
  rw[List.zipIdx_cons,List.foldl_cons,zcR cs (k+1) off]
  simp[setM,Nat.add_assoc]
def Jx (pl:Nat→Option (Nat×Nat)):Nat→List (Nat×Value)→Prop
 |_,[]=>True
 |off,(i,v)::r=>pl i=some (off,v.cells.size)∧Jx pl (off+v.cells.size) r
def xE (vs:List (Nat×Value)):List Value:=vs.flatMap λx=>x.2.cells.toList
theorem Vo (a:Nat→Option (Nat×Nat)):∀(vs:List (Nat×Value)) (A Z:List Value),Jx a A.length vs→(xE vs).length≤Z.length→Instr.fill a (A++Z).toArray vs=some (A++xE vs++Z.drop (xE vs).length).toArray
 |[],A,Z,_,_=>by simp[Instr.fill,xE]
 |(i,v)::r,A,Z,h,hl=>by
  obtain⟨f,g⟩:=h
  have d:xE ((i,v)::r)=v.cells.toList++xE r:=by simp[xE]
  rw[d,List.length_append,Array.length_toList] at hl
  unfold Instr.fill
  rw[f]
  have j:¬(v.cells.size≠v.cells.size∨A.length+v.cells.size>(A++Z).toArray.size):=by
   simp only[List.size_toArray,List.length_append]
   omega
  simp only[Bool.or_eq_true,decide_eq_true_eq]
  rw[if_neg (by simpa using j)]
  have m:Z=Z.take v.cells.size++Z.drop v.cells.size:=(List.take_append_drop _ _).symm
  have l:=jq v.cells.toList A (Z.take v.cells.size) (Z.drop v.cells.size) (by have:=Array.length_toList (xs:=v.cells);rw[List.length_take];omega)
  have k:(v.cells.zipIdx.foldl (λ(cs:Array Value) (x:Value×Nat)=>cs.setIfInBounds (A.length+x.2) x.1) (A++Z).toArray)=(A++v.cells.toList++Z.drop v.cells.size).toArray:=by
   rw[←Array.foldl_toList,Array.toList_zipIdx,zcR,Nat.add_zero,List.toList_toArray]
   conv=>lhs;rw[m]
   rw[←List.append_assoc,l]
  have ih:=Vo a r (A++v.cells.toList) (Z.drop v.cells.size) (by rw[List.length_append,Array.length_toList];exact g) (by rw[List.length_drop];omega)
  refine Eq.trans (congrArg (λc=>Instr.fill a c r) k) ?_
  rw[ih,d,List.drop_drop,List.length_append,Array.length_toList]
  simp[List.append_assoc]
def xH (P:Program) (t:TypeId):Option (Nat×List (Nat×Nat)):=
 match P.info? t,P.underlying t with
 |some it,some (.struct fields)=>
  match it.zero,fields.toList.mapM (λf=>(P.info? f.type).map λi=>(f.offset,i.size)) with
  |some z,some places=>some (z.cells.size,places)
  |_,_=>none
 |_,_=>none
section
variable {P:Program} {t e ty:TypeId} {w:World} {o:Oper} {ev:Operand→Value}
theorem zi9 {n:Nat} {c:List (Nat×Nat)} {vs:List (Nat×Value)} (h:xH P t=some (n,c)) (j:Jx (c.toArray[·]?) 0 vs) (a:(xE vs).length=n):P.built t vs=some (xE vs).toArray:=by
 unfold xH at h
 unfold Program.built
 cases hi:P.info? t with
 |none=>simp[hi] at h
 |some it=>
  cases hu:P.underlying t with
  |none=>simp[hi,hu] at h
  |some d=>
   cases d<;>try(simp[hi,hu] at h;done)
   rename_i fs
   cases hz:it.zero with
   |none=>simp[hi,hu,hz] at h
   |some z=>
    cases hp:fs.toList.mapM (λf=>(P.info? f.type).map λi=>(f.offset,i.size)) with
    |none=>simp[hi,hu,hz,hp] at h
    |some places=>
     simp[hi,hu,hz,hp] at h
     obtain⟨rfl,rfl⟩:=h
     simp only[hz,hp]
     have:=Vo (places.toArray[·]?) vs [] z.cells.toList j (by rw[a,Array.length_toList];exact Nat.le_refl _)
     simp only[List.nil_append,Array.toArray_toList] at this
     rw[this,a]
     have g:List.drop z.cells.size z.cells.toList=[]:=List.drop_eq_nil_of_le (by rw[Array.length_toList];exact Nat.le_refl _)
     rw[g,List.append_nil]
theorem yQ {parts:Array (Nat×Operand)} {n:Nat} {a:List (Nat×Nat)} {vs:List (Nat×Value)} {cs:List Value} (g:o.op=.build t parts) (j:(parts.toList.map λ(i,x)=>(i,ev x))=vs) (h:xH P t=some (n,a)) (d:Jx (a.toArray[·]?) 0 vs) (c:xE vs=cs) (f:cs.length=n):
  (execOp ev o).run P w=.ok (.value (.agg cs.toArray)) w:=by
 subst c
 have:=run_build w t (parts.map λ(i,x)=>(i,ev x)) _ (by rw[Array.toList_map,j];exact zi9 h d f)
 simp only[execOp,g,Sem.run_bind,this,Result.andThen_ok,Sem.run_pure]
theorem JQ {x:Operand} {v z:Value} {k:Nat} (l:o.op=.buildSlice t 1 #[(0,x)]) (q:ev x=v) (p:P.underlying t=some (.slice e)) (hi:(P.info? e).map (λi=>(i.zero,i.size))=some (some z,k)) (_:z.cells.size=k) (r:0<k) (h:k≤16777216) (c:v.cells.size=k):
  (execOp ev o).run P w=.ok (.value (.slice (some ⟨w.heap.size,0,none⟩) 1 1)) (w.alloc (.cells v.cells e)):=by
 cases hie:P.info? e with
 |none=>rw[hie] at hi;cases hi
 |some ie=>
  rw[hie] at hi
  simp only[Option.map_some,Option.some.injEq,Prod.mk.injEq] at hi
  obtain⟨f,a⟩:=hi
  have g:Instr.fill (λi=>some (i*ie.size,ie.size)) ((Array.range (1*ie.size)).map (z.cells[· % z.cells.size]!)) [(0,v)]=some v.cells:=by
   have j:((Array.range (1*ie.size)).map (z.cells[· % z.cells.size]!)).toList.length=k:=by simp[a]
   have:=Vo (λi=>some (i*ie.size,ie.size)) [(0,v)] [] ((Array.range (1*ie.size)).map (z.cells[· % z.cells.size]!)).toList ⟨by simp[a,c],trivial⟩ (by simp[xE,a,c])
   simp only[List.nil_append,Array.toArray_toList] at this
   rw[this]
   have d:xE [(0,v)]=v.cells.toList:=by simp[xE]
   rw[d,List.drop_eq_nil_of_le (by rw[j,Array.length_toList,c];exact Nat.le_refl _)]
   simp
  have n:=run_buildSlice (P:=P) w t e 1 #[(0,v)] v.cells ie z p hie f (by omega) (by omega) g
  have m:(#[(0,x)]:Array (Nat×Operand)).map (λ(i,x)=>(i,ev x))= #[(0,v)]:=by simp[q]
  simp only[execOp,l,m,Sem.run_bind,n,Result.andThen_ok,Sem.run_pure]
theorem zS {x:Operand} {cs:List Value} {z:Value} {k:Nat} (f:o.op=.buildSlice t 1 #[(0,x)]) (h:ev x=.agg cs.toArray) (g:P.underlying t=some (.slice e)) (hi:(P.info? e).map (λi=>(i.zero,i.size))=some (some z,k)) (j:z.cells.size=k) (d:0<k) (a:k≤16777216) (c:cs.length=k):
  (execOp ev o).run P w=.ok (.value (.slice (some ⟨w.heap.size,0,none⟩) 1 1)) (w.alloc (.cells cs.toArray e)):=JQ (v:=.agg cs.toArray) f h g hi j d a (by show cs.toArray.size=k;simpa using c)
end
section
variable {P:Program} {kt et t:TypeId} {w:World} {b:Nat} {κ ι:Type} {kV:κ→Value} {vV:ι→Value} {M:List (κ×ι)}
theorem yD.hit (h:yD P kt kV vV w b M) (K:Keyed P kt) (i:P.underlying t=some (.map kt et)) (c:∀a b,kV a=kV b→a=b) {z:Value} (m:∀w,(zeroValue et).run P w=.ok z w) {k:κ} (f:∃l,keyOf P kt (kV k)=some l) {v:ι} (j:(k,v)∈M):
  (Instr.lookup t (.map (some b)) (kV k) true).run P w=.ok (.tuple #[vV v,.bool true]) w∧(Instr.lookup t (.map (some b)) (kV k) false).run P w=.ok (vV v) w:=by
 have g:∀d,some v=some d↔(k,d)∈M:=λd=>⟨λe=>by cases e;exact j,λe=>by rw[h.uniq j e]⟩
 have n:=h.look K i c m f true g
 have p:=h.look K i c m f false g
 simpa using⟨n,p⟩
theorem yD.miss (h:yD P kt kV vV w b M) (K:Keyed P kt) (i:P.underlying t=some (.map kt et)) (c:∀a b,kV a=kV b→a=b) {z:Value} (j:∀w,(zeroValue et).run P w=.ok z w) {k:κ} (f:∃l,keyOf P kt (kV k)=some l) (p:∀v,(k,v)∉M):
  (Instr.lookup t (.map (some b)) (kV k) true).run P w=.ok (.tuple #[z,.bool false]) w∧(Instr.lookup t (.map (some b)) (kV k) false).run P w=.ok z w:=by
 have g:∀d,(none:Option ι)=some d↔(k,d)∈M:=λd=>⟨λe=>(by cases e),λe=>absurd e (p d)⟩
 have m:=h.look K i c j f true g
 have n:=h.look K i c j f false g
 simpa using⟨m,n⟩
end
end Go
namespace Go
open Go.RowKit
section
variable {P:Program} {o:Oper} {w:World} {ev:Operand→Value} {ty:TypeId}
theorem yw {z:Array Value} (a:o.op=.alloc ty) (b:(zeroValue ty).run P w=.ok (.agg z) w):(execOp ev o).run P w=.ok (.value (.pointer (some ⟨w.heap.size,0,none⟩))) (w.alloc (.cells z ty)):=by
 simp[execOp,a,Instr.alloc,b,Result.andThen,newVar,newRow,newObj,Value.cells,Sem.run]
theorem zX {b k:Nat} {c:Array Value} {T:TypeId} (a:w.heap[b]? =some (.cells c T (0,0))) (e:k≤c.size):w.there b 0 k:=λj d=>by
 simp only[World.cell?,World.frozen?,a,Nat.zero_add]
 rw[Array.getElem?_eq_getElem (by omega)]
 simp
theorem yx {b:Nat} {c:Array Value} {cs:List Value} {T:TypeId} (a:w.heap[b]? =some (.cells c T (0,0))) (d:c.size=cs.length):(w.setCells b 0 cs).rangeAt b 0 cs:=by
 have h:=xw b T cs 0 w c a
 have e:=jq cs [] c.toList [] (by simpa using d)
 simp only[List.nil_append,List.append_nil,List.length_nil] at e
 rw[e] at h
 have:=zq h
 simpa using this
theorem yk {t:TypeId} {v:Value} {parts:Array (Nat×Operand)} {vs:List (Nat×Value)} (a:o.op=.build t parts) (c:(parts.toList.map λ(i,x)=>(i,ev x))=vs) (b:(Instr.build t vs.toArray).run P w=.ok v w):(execOp ev o).run P w=.ok (.value v) w:=by
 have e:(parts.map λ(i,x)=>(i,ev x))=vs.toArray:=by rw[←c,←Array.toList_map,Array.toArray_toList]
 simp only[execOp,a,e,Sem.run_bind,b,Result.andThen_ok,Sem.run_pure]
theorem xU {w':World} {v:Value} {a:Act} {ops:Array Oper} {rest:List Oper} {Q:Exit→Act→World→Prop} (c:Region.wanted o (yielded ops a.tmps)=true) (b:(execOp a.eval o).run P w=.ok (.value v) w') (h:wpList P ops Q rest (a.put o.dst v) w'):wpList P ops Q (o::rest) a w:=by
 unfold wpList
 rw[if_pos c]
 exact .inl (yg b h)
theorem zgD (w:World) {z1 z2:Array Value} {T1 T2:TypeId} {c1 c2:List Value} (f:z1.size=c1.length) (g:z2.size=c2.length):
  ((w.alloc (.cells z1 T1)).alloc (.cells z2 T2)).there w.heap.size 0 c1.length∧
  (((w.alloc (.cells z1 T1)).alloc (.cells z2 T2)).setCells w.heap.size 0 c1).there (w.heap.size+1) 0 c2.length∧
  ((((w.alloc (.cells z1 T1)).alloc (.cells z2 T2)).setCells w.heap.size 0 c1).setCells (w.heap.size+1) 0 c2).rangeAt w.heap.size 0 c1∧
  ((((w.alloc (.cells z1 T1)).alloc (.cells z2 T2)).setCells w.heap.size 0 c1).setCells (w.heap.size+1) 0 c2).rangeAt (w.heap.size+1) 0 c2∧
  Fr No w ((((w.alloc (.cells z1 T1)).alloc (.cells z2 T2)).setCells w.heap.size 0 c1).setCells (w.heap.size+1) 0 c2):=by
 have b:((w.alloc (.cells z1 T1)).alloc (.cells z2 T2)).heap[w.heap.size]? =some (.cells z1 T1 (0,0)):=((frN _).alloc _).obj (yj w (.cells z1 T1)) id
 have h:((w.alloc (.cells z1 T1)).alloc (.cells z2 T2)).heap[w.heap.size+1]? =some (.cells z2 T2 (0,0)):=yJ (w.alloc (.cells z1 T1)) (.cells z2 T2) (n:=w.heap.size+1) (by simp)
 have c:=zu w.heap.size c1 0 ((w.alloc (.cells z1 T1)).alloc (.cells z2 T2))
 have a:=c.obj h (λe=>by omega)
 have d:=zu (w.heap.size+1) c2 0 (((w.alloc (.cells z1 T1)).alloc (.cells z2 T2)).setCells w.heap.size 0 c1)
 refine⟨zX b (Nat.le_of_eq f.symm),zX a (Nat.le_of_eq g.symm),za (yx b f) d (λe=>by omega),yx a g,?_⟩
 exact((((frN w).alloc _).alloc _).trans c (λi hi e=>by omega)).trans d (λi hi e=>by omega)
theorem ym {fn:Func} {p u:Tmp} (h:fn.results= #[.cell p ty,.tmp u]) (tmps:Array Value) {g:Nat} {cs:List Value} {d:TypeDesc} {x:Value} (b:tmps.getD p undef=.pointer (some ⟨g,0,none⟩)) (c:w.rangeAt g 0 cs)
  (e:P.underlying ty=some d) (a:d.isRow=true) (hi:(P.info? ty).map (·.size)=some cs.length) (f:tmps.getD u undef=x):
  (results fn tmps).run P w=.ok (.tuple #[.agg cs.toArray,x]) w:=by
 rw[results_cell_tmp h,b,f]
 simp only[asAddr,Sem.run_pure,Result.andThen_ok,run_loadVar_mid w g 0 ty cs d c e a hi]
end
end Go
namespace Go
open Go.RowKit Go.Maps Go.MapKept
section
variable {P:Program} {kt et t:TypeId} {w:World} {b:Nat} {L:List (Value×Value)}
theorem xh.entry_hitM (K:Keyed P kt) (E:P.underlying t=some (.map kt et)) {i p:List (Value×Value)} {key g:Value} (h:xh P kt w b (i++(key,g)::p)) (D:∃l,keyOf P kt key=some l):
  ∃w' s,(Instr.mapEntry t (.map (some b)) key).run P w=.ok (.tuple #[g,.int .i64 s]) w'∧Entry P kt w' b i key p s∧Jy b w w'∧xh P kt w' b (i++(key,g)::p):=by
 obtain⟨es,a,n,y,A,r,c⟩:=h
 obtain⟨l,u⟩:=D
 obtain⟨e,B,q,z,C⟩:=QJ K w y c u r
 have d:es.modify i.length (λe=>{e with key:=key})=es:=by
  apply Array.ext_getElem?
  intro j
  rw[Array.getElem?_modify]
  split
  ·rename_i hj;subst hj;rw[q];simp[←z]
  ·rfl
 have f:(Instr.mapEntry t (.map (some b)) key).run P w=.ok (.tuple #[g,.int .i64 (e.born:Int)]) {w with heap:=w.heap.setIfInBounds b (.map es a)}:=by
  simp[Instr.mapEntry,run_underlying E,MapKept.run_getObj_map n,K.check w false u,B,q,z,C,K.stays w u,MapKept.run_setObj_map _ n,Result.andThen,goInt,d]
 exact⟨_,_,f,⟨es,a,e,xW n,y,A,⟨g,r⟩,c,q,rfl⟩,Jn _ _ _,⟨es,a,xW n,y,A,r,c⟩⟩
theorem xh.entry_missM (K:Keyed P kt) (E:P.underlying t=some (.map kt et)) {z:Value} (F:∀w,(zeroValue et).run P w=.ok z w) (h:xh P kt w b L) {key:Value} (D:∃l,keyOf P kt key=some l) (r:∀p∈L,p.1≠key) (c:L.length<maxLen):
  ∃w' s,(Instr.mapEntry t (.map (some b)) key).run P w=.ok (.tuple #[z,.int .i64 s]) w'∧Entry P kt w' b L key [] s∧Jy b w w'∧xh P kt w' b (L++[(key,z)]):=by
 obtain⟨es,a,i,B,G,rfl,d⟩:=h
 obtain⟨l,q⟩:=D
 rcases K.find w q es.toList d with⟨A,g⟩|⟨j,e,A,g,C⟩
 ·have f:(Instr.mapEntry t (.map (some b)) key).run P w=.ok (.tuple #[z,.int .i64 (a:Int)]) {w with heap:=w.heap.setIfInBounds b (.map (es.push {key,val:=z,born:=a}) (a+1))}:=by
   simp[Instr.mapEntry,run_underlying E,MapKept.run_getObj_map i,K.check w false q,A,F,MapKept.run_setObj_map _ i,Result.andThen,goInt]
  have u:(es.push {key,val:=z,born:=a}).size≤maxLen:=by simp[kv] at c⊢;omega
  have y:∀e∈(es.push {key,val:=z,born:=a}).toList,∃l,keyOf P kt e.key=some l:=by
   intro e n
   simp only[Array.toList_push,List.mem_append,List.mem_singleton] at n
   rcases n with n|rfl
   ·exact d e n
   ·exact⟨l,q⟩
  refine⟨_,_,f,⟨_,_,⟨key,z,a⟩,xW i,stamped_push B g,u,⟨z,by simp[kv]⟩,y,?_,rfl⟩,Jn _ _ _,⟨_,_,xW i,stamped_push B g,u,by simp[kv],y⟩⟩
  simp[kv]
 ·exact absurd C (r _ (zdG (List.mem_of_getElem? g)))
end
section
variable {P:Program} {kt et t:TypeId} {w:World} {b:Nat} {κ ι:Type} {kV:κ→Value} {vV:ι→Value} {M:List (κ×ι)}
theorem yD.bump (h:yD P kt kV vV w b M) (K:Keyed P kt) (H:P.underlying t=some (.map kt et)) (j:∀a b,kV a=kV b→a=b) {z:ι} (O:∀w,(zeroValue et).run P w=.ok (vV z) w) {k:κ} (E:∃l,keyOf P kt (kV k)=some l) (room:M.length<maxLen):
  ∃(d:ι) (i:World) (s:Int) (M1:List (κ×ι)),(d=z∨(k,d)∈M)∧(Instr.mapEntry t (.map (some b)) (kV k)).run P w=.ok (.tuple #[vV d,.int .i64 s]) i∧Jy b w i∧yD P kt kV vV i b M1∧
   (∀w',yD P kt kV vV w' b M→(Instr.lookup t (.map (some b)) (kV k) false).run P w'=.ok (vV d) w')∧
   (∀w',yD P kt kV vV w' b M1→(Instr.lookup t (.map (some b)) (kV k) false).run P w'=.ok (vV d) w')∧
   (∀(v:ι) (N:World) (W:Nat→Prop),Fr W i N→¬W b→∃n M',(Instr.entryStore t (.map (some b)) (.int .i64 s) (vV v)).run P N=.ok () n∧yD P kt kV vV n b M'∧Upd M k v M'∧Jy b N n∧M'.length≤M.length+1):=by
 by_cases hin:∃d,(k,d)∈M
 ·obtain⟨d,U⟩:=hin
  obtain⟨A,B,rfl⟩:=List.append_of_mem U
  have h0:=h
  unfold yD at h
  rw[List.map_append,List.map_cons] at h
  obtain⟨i,s,Z,Q,S,R⟩:=xh.entry_hitM K H h E
  have r:yD P kt kV vV i b (A++(k,d)::B):=by unfold yD;rw[List.map_append,List.map_cons];exact R
  have F:∀w',yD P kt kV vV w' b (A++(k,d)::B)→(Instr.lookup t (.map (some b)) (kV k) false).run P w'=.ok (vV d) w':=λw' D=>(D.hit K H j O E U).2
  refine⟨d,i,s,_,.inr U,Z,S,r,F,F,λv N W f T=>?_⟩
  obtain⟨n,C,u,y⟩:=(Q.keep f T).store t (vV v)
  have g:yD P kt kV vV n b (A++(k,v)::B):=by unfold yD;rw[List.map_append,List.map_cons];exact u
  refine⟨n,_,C,g,?_,y,by simp⟩
  have G:=h0.nodup
  rw[List.map_append,List.map_cons] at G
  obtain⟨n1,n2,n3⟩:=List.nodup_append.1 G
  obtain⟨n4,n5⟩:=List.nodup_cons.1 n2
  have V:∀x,(k,x)∉A:=λx I=>n3 k (List.mem_map.2 ⟨_,I,rfl⟩) k (by simp) rfl
  have X:∀x,(k,x)∉B:=λx I=>n4 (List.mem_map.2 ⟨_,I,rfl⟩)
  intro k' v'
  simp only[List.mem_append,List.mem_cons,Prod.mk.injEq]
  constructor
  ·rintro(c|c|c)
   ·exact .inr ⟨λe=>V _ (e▸c),.inl c⟩
   ·exact .inl c
   ·exact .inr ⟨λe=>X _ (e▸c),.inr (.inr c)⟩
  ·rintro(c|⟨c,q|q|q⟩)
   ·exact .inr (.inl c)
   ·exact .inl q
   ·exact absurd q.1 c
   ·exact .inr (.inr q)
 ·have Y:∀v,(k,v)∉M:=λv hv=>hin ⟨v,hv⟩
  obtain⟨i,s,Z,Q,S,R⟩:=xh.entry_missM K H O h E (λp hp e=>by
   obtain⟨x,I,rfl⟩:=List.mem_map.1 hp
   exact hin ⟨x.2,by rw[←j _ _ e];exact I⟩) (by simpa using room)
  have r:yD P kt kV vV i b (M++[(k,z)]):=by unfold yD;rw[List.map_append];exact R
  refine⟨z,i,s,_,.inl rfl,Z,S,r,λw' D=>(D.miss K H j O E Y).2,λw' D=>(D.hit K H j O E (v:=z) (by simp)).2,λv N W f T=>?_⟩
  obtain⟨n,C,u,y⟩:=(Q.keep f T).store t (vV v)
  have g:yD P kt kV vV n b (M++[(k,v)]):=by unfold yD;rw[List.map_append];exact u
  refine⟨n,_,C,g,?_,y,by simp⟩
  intro k' v'
  simp only[List.mem_append,List.mem_singleton,Prod.mk.injEq]
  constructor
  ·rintro(c|c)
   ·exact .inr ⟨λe=>hin ⟨v',e▸c⟩,c⟩
   ·exact .inl c
  ·rintro(c|⟨_,q⟩)
   ·exact .inr c
   ·exact .inl q
variable {o:Oper} {w':World} {ev:Operand→Value} {m k x:Operand} {mv kv' xv v:Value}
theorem Qm (d:o.op=.mapEntry t m k) (c:ev m=mv) (a:ev k=kv') (e:(Instr.mapEntry t mv kv').run P w=.ok v w'):(execOp ev o).run P w=.ok (.value v) w':=by
 simp only[execOp,d,c,a,Sem.run_bind,e,Result.andThen_ok,Sem.run_pure]
theorem Y1 {i:Operand} {a:Value} (d:o.op=.entryStore t m i x) (c:ev m=mv) (hi:ev i=a) (f:ev x=xv) (e:(Instr.entryStore t mv a xv).run P w=.ok () w'):(execOp ev o).run P w=.ok .skip w':=by
 simp only[execOp,d,c,hi,f,Sem.run_bind,e,Result.andThen_ok,Sem.run_pure]
end
end Go
namespace Go
open Go.RowKit Go.Maps Go.MapKept Go.Sort Go.Proofs
theorem Fr.growW {W:Nat→Prop} {a b:World} (h:Fr W a b) (os:Array Obj):Fr W a (grow b os):=
 ⟨h.os,h.tape,h.output,by rw[size_grow];have:=h.size;omega,λi hi c=>by rw[heap_grow_old b os (Nat.lt_of_lt_of_le hi h.size)];exact h.block i hi c⟩
theorem zdM {w:World} {B n k:Nat} {T:TypeId} {v:Value} {xs:List Value} (h:w.ownsRow B T k v n xs) (os:Array Obj):(grow w os).ownsRow B T k v n xs:=
 zb h ((frN w).growW os) (λ_ _=>id)
theorem zgk {w:World} {B n k:Nat} {T:TypeId} {g a:Nat} {xs cs:List Value} (h:w.ownsRow B T k (.slice (some ⟨g,0,none⟩) n a) n xs) (c:cs.length=n*k):
  (w.setCells g 0 cs).ownsRow B T k (.slice (some ⟨g,0,none⟩) n a) n cs:=by
 rcases h.2 with⟨e,_⟩|⟨r,d,b,e,j,m,f,o,i,q⟩
 ·cases e
 ·injection e with e1 e2 e3
  injection e1 with e1
  injection e1 with e4 e5
  subst e4 e3
  have l:n*k≤a*k:=Nat.mul_le_mul_right _ f
  have p:b.toList.length=a*k:=by rw[Array.length_toList,i]
  refine⟨c,.inr ⟨g,a,(setM b.toList 0 cs).toArray,rfl,j,xw g T cs 0 w b m,f,o,?_,?_⟩⟩
  ·rw[List.size_toArray,Xx,Array.length_toList,i]
  ·rw[Qb _ _ _ _ (by rw[c];omega) (by omega),q]
   have:=jq cs [] xs [] (by rw[h.1,c])
   simpa using this
theorem qX {w:World} {B n k:Nat} {T:TypeId} {g a:Nat} {xs cs:List Value} (h:w.ownsRow B T k (.slice (some ⟨g,0,none⟩) n a) n xs) (o:Nat) (j:o+cs.length≤n*k):
  (w.setCells g o cs).ownsRow B T k (.slice (some ⟨g,0,none⟩) n a) n (setM xs o cs):=by
 rcases h.2 with⟨e,_⟩|⟨s,c,b,e,i,m,d,p,f,r⟩
 ·cases e
 ·injection e with e1 e2 e3
  injection e1 with e1
  injection e1 with e4 e5
  subst e4 e3
  have l:n*k≤a*k:=Nat.mul_le_mul_right _ d
  have q:b.toList.length=a*k:=by rw[Array.length_toList,f]
  refine⟨by rw[Xx,h.1],.inr ⟨g,a,(setM b.toList o cs).toArray,rfl,i,xw g T cs o w b m,d,p,?_,?_⟩⟩
  ·rw[List.size_toArray,Xx,Array.length_toList,f]
  ·rw[Qb _ _ _ _ j (by omega),r]
theorem VP (xs cs:List Value) (o:Nat) (h:o+cs.length≤xs.length):(setM xs o cs).take (o+cs.length)=xs.take o++cs:=by
 have e:xs=xs.take o++(xs.drop o).take cs.length++(xs.drop o).drop cs.length:=by
  rw[List.append_assoc,List.take_append_drop,List.take_append_drop]
 have a:(xs.take o).length=o:=by rw[List.length_take];omega
 have b:=jq cs (xs.take o) ((xs.drop o).take cs.length) ((xs.drop o).drop cs.length) (by rw[List.length_take,List.length_drop];omega)
 rw[a,←e] at b
 rw[b,List.take_append_of_le_length (by rw[List.length_append,a];omega)]
 exact List.take_of_length_le (by rw[List.length_append,a];omega)
section
variable {α:Type} [Inhabited α] (enc:α→List Value) (k:Nat) (hk:∀x,(enc x).length=k)
include hk
theorem zbB (L:List α):(flatK enc k L.toArray).toList=L.flatMap enc:=by
 apply List.ext_getElem?
 intro t
 have j:(L.flatMap enc).length=L.length*k:=xI enc k L (λx _=>hk x)
 by_cases ht:t<L.length*k
 ·have i:0<k:=by rcases Nat.eq_zero_or_pos k with h|h;(subst h;simp at ht);exact h
  have d:t / k<L.length:=Nat.div_lt_of_lt_mul (by rw[Nat.mul_comm];exact ht)
  have e:t % k<k:=Nat.mod_lt _ i
  have a:=get_flatK enc k L.toArray t (by simpa using ht)
  have b:=Zy enc k L (λx _=>hk x) (t / k) L[t / k] (List.getElem?_eq_getElem d) (t % k) e
  rw[Nat.div_add_mod' t k] at b
  rw[b]
  have f:t<(flatK enc k L.toArray).size:=by simpa using ht
  rw[getElem!_pos _ t f] at a
  rw[Array.getElem?_toList,Array.getElem?_eq_getElem f,a]
  have g:L.toArray[t / k]! =L[t / k]:=by rw[getElem!_pos L.toArray (t / k) (by simpa using d)];simp
  rw[g]
  have c:t % k<(enc L[t / k]).length:=by rw[hk];exact e
  rw[getElem!_pos (enc L[t / k]) (t % k) c,List.getElem?_eq_getElem c]
 ·rw[List.getElem?_eq_none (by simp;omega),List.getElem?_eq_none (by omega)]
theorem zcS {w:World} {B:Nat} {T:TypeId} {g b:Nat} {L:List α} (h:w.ownsRow B T k (.slice (some ⟨g,0,none⟩) L.length b) L.length (L.flatMap enc)):HoldsK enc k w g 0 L.toArray:=by
 rcases h.2 with⟨e,_⟩|⟨s,i,a,e,t,m,q,u,v,r⟩
 ·cases e
 ·injection e with e1 e2 e3
  injection e1 with e1
  injection e1 with e4 e5
  subst e4 e3
  intro j d
  have f:j<L.length*k:=by simpa using d
  have p:L.length*k≤b*k:=Nat.mul_le_mul_right _ q
  have c:j<a.size:=by omega
  have n:(flatK enc k L.toArray)[j]! =a[j]:=by
   rw[getElem!_pos _ j d]
   have o:=zbB enc k hk L
   have l:(flatK enc k L.toArray).toList[j]? =some a[j]:=by
    rw[o,←r,List.getElem?_take_of_lt f,Array.getElem?_toList,Array.getElem?_eq_getElem c]
   rw[Array.getElem?_toList,Array.getElem?_eq_getElem d] at l
   exact Option.some.inj l
  rw[Nat.zero_add,n]
  refine⟨?_,?_⟩
  ·simp only[World.cell?,m]
   exact Array.getElem?_eq_getElem c
  ·simp only[World.frozen?,m]
   simp
theorem zdY {w:World} {g:Nat} {d d':Array α} (h:HoldsK enc k w g 0 d) (a:d'.size=d.size) (m:Nat) (os:Array Obj):
  sortWorldK enc k w g 0 m d' os=grow ((Go.Sort.ahead w m).setCells g 0 (d'.toList.flatMap enc)) os:=by
 unfold sortWorldK putRowK
 have j:putRow id (Go.Sort.ahead w m) g 0 (flatK enc k d)=Go.Sort.ahead w m:=putRow_self id _ g 0 _ h
 have i:((d'.toList).flatMap enc).length=d.size*k:=by rw[xI enc k _ (λx _=>hk x),Array.length_toList,a]
 have e:=setCells_putRow (Go.Sort.ahead w m) g 0 (d'.toList.flatMap enc) 0 (flatK enc k d) (by rw[size_flatK,i];omega)
 rw[Nat.add_zero,j] at e
 rw[e]
 congr 2
 refine ext_get! (by simp[a]) λt b=>?_
 have c:t<d'.size*k:=by simpa using b
 rw[get_setMany _ _ _ t (by simpa[a] using c),if_pos ⟨Nat.zero_le _,by rw[i,←a];omega⟩,Nat.sub_zero]
 have f:=zbB enc k hk d'.toList
 rw[Array.toArray_toList] at f
 rw[←f]
 rw[getElem!_pos _ t b,getElem!_pos _ t (by simpa using b),Array.getElem_toList]
theorem zcg {w:World} {B:Nat} {T:TypeId} {g a:Nat} {L:List α} {d':Array α} (h:w.ownsRow B T k (.slice (some ⟨g,0,none⟩) L.length a) L.length (L.flatMap enc)) (b:d'.size=L.length) (m:Nat) (os:Array Obj):
  (sortWorldK enc k w g 0 m d' os).ownsRow B T k (.slice (some ⟨g,0,none⟩) L.length a) L.length (d'.toList.flatMap enc)∧Fr (λj=>j=g) w (sortWorldK enc k w g 0 m d' os):=by
 rw[zdY enc k hk (zcS enc k hk h) (by simpa using b) m os]
 have c:(Go.Sort.ahead w m).ownsRow B T k (.slice (some ⟨g,0,none⟩) L.length a) L.length (L.flatMap enc):=h
 exact⟨zdM (zgk c (by rw[xI enc k _ (λx _=>hk x),Array.length_toList,b])) os,((Fr.drewN (Fr.refl _ w) m).trans (zu g _ 0 (Go.Sort.ahead w m)) (λ_ _ h=>h)).growW os⟩
end
theorem sorted_perm {α β:Type} [Inhabited α] (f:α→β) {n:α→α→Bool} {r:β→β→Bool} (z:∀x y,n x y=r (f x) (f y)) {d d':Array α} {S:List β} (w:PermIn 0 d.size d d') (A:SortedIn n 0 d.size d') (hS:S.Perm (d.toList.map f)) (p:S.Pairwise (λa b=>r b a=false)) (t:∀a∈S,∀b∈S,r a b=false→r b a=false→a=b):d'.toList.map f=S:=by
 obtain⟨g,_,c⟩:=w
 have o:d'.extract 0 d.size=d':=by rw[←g];exact Array.extract_size
 rw[o,Array.extract_size] at c
 have e:(d'.toList.map f).Perm S:=(c.map f).trans hS.symm
 refine List.Perm.eq_of_pairwise (le:=λx y=>r y x=false) ?_ ?_ p e
 ·intro a b u v q s
  exact t a (e.mem_iff.1 u) b v s q
 ·rw[List.pairwise_map,List.pairwise_iff_getElem]
  intro i j hi m h
  have l:=A i j (Nat.zero_le _) h (by rw[←g];simpa using m)
  rw[getElem!_pos _ i (by simpa using hi),getElem!_pos _ j (by simpa using m),z] at l
  simpa using l
theorem zc0 {α:Type} {q:α→Prop}:∀(H:List α),(∀h∈H,q h)→∃L:List {h:α // q h},L.map Subtype.val=H
 |[],_=>⟨[],rfl⟩
 |h::H,ok=>by
  obtain⟨L,a⟩:=zc0 H (λx b=>ok x (List.mem_cons_of_mem _ b))
  exact⟨⟨h,ok h (List.mem_cons_self ..)⟩::L,by rw[List.map_cons,a]⟩
end Go
namespace Go
section
variable {P:Program} {ops:Array Oper} {S:World→Prop}
def Ve (ops:Array Oper) (L:List Nat) (i:Nat):Bool:=L.all λk=> !Region.waitsFor .any ops i k
def Y8 (P:Program) (ops:Array Oper) (eff:List Nat) (S:World→Prop) (Q:Act→World→Prop):Nat→List Nat→Act→World→Prop
 |0,_,a,w=>Q a w
 |n+1,L,a,w=>
  (∃i o v,i∈L∧Ve ops L i=true∧ops[i]? =some o∧YieldsIf P ops S o v a∧Y8 P ops eff S Q n (L.erase i) (a.put o.dst v) w)∨
  (∀j∈L,Ve ops L j=true→∃o,ops[j]? =some o∧Region.wanted o (yielded ops a.tmps)=true∧o.wp P a w (λa' w'=>S w'∧Y8 P ops eff S Q n (L.erase j) a' w') NoQ)
def zgg (ops:Array Oper):Bool:=
 Region.noSelect ops && Yp ops &&
 ((List.range ops.size).all λi=>(List.range ops.size).all λj=>decide (j<i)|| !Region.waitsFor .any ops i j) &&
 ((List.range ops.size).all λj=>(ops[j]?).any λo=>o.after.all λe=> !Region.binds .any e||decide (e.on<ops.size))
theorem zgh {eff:List Nat} (hok:zgg ops=true) {Q:Exit→Act→World→Prop} (hQ:∀c a d v w,Q (.panic c) (Act.put a d v) w→Q (.panic c) a w):
  ∀(n:Nat) (listed:Array Bool) (a:Act) (w:World),listed.size=ops.size→(unl ops listed).length=n→S w→
   Y8 P ops eff S (Q .normal) n (unl ops listed) a w→wpAnyH P .any ops Q S n listed a w:=by
 simp only[zgg,Bool.and_eq_true] at hok
 obtain⟨⟨⟨ao,af⟩,aa⟩,ah⟩:=hok
 have ad:=Region.noSelect_spec ao
 have Y:∀(i:Nat) (B:Oper),ops[i]? =some B→∀e∈B.after,Region.binds .any e=true→e.on<ops.size:=λi B f e t F=>by
  have A:=List.all_eq_true.1 ah i (List.mem_range.2 (Array.getElem?_eq_some_iff.1 f).1)
  rw[f] at A
  have h3:=Array.all_eq_true'.1 A e t
  simpa only[F,Bool.not_true,Bool.false_or,decide_eq_true_eq] using h3
 have V:∀i j,i<ops.size→Region.waitsFor .any ops i j=true→j<i:=λi j hi hw=>by
  obtain⟨B,f,e,t,F,Z⟩:=Region.waitsFor_spec hw
  have h4:=List.all_eq_true.1 (List.all_eq_true.1 aa i (List.mem_range.2 hi)) j (List.mem_range.2 (Z▸Y i B f e t F))
  simpa[hw] using h4
 intro n
 induction n with
 |zero=>
  intro listed a w s h hS H
  have X:unl ops listed=[]:=List.eq_nil_of_length_eq_zero h
  refine⟨?_,H⟩
  by_cases hr:Region.ready .any ops listed=[]
  ·exact hr
  ·obtain⟨j,q⟩:=List.exists_mem_of_ne_nil _ hr
   obtain⟨G,o,ho,_⟩:=mem_ready.1 q
   have:j∈unl ops listed:=List.mem_filter.2 ⟨List.mem_range.2 (Array.getElem?_eq_some_iff.1 ho).1,by rw[G];rfl⟩
   rw[X] at this
   cases this
 |succ n ih=>
  intro listed a w s h hS H
  have g:∀ {j},j∈unl ops listed↔j<ops.size∧listed.getD j true=false:=fun {j}=>by
   unfold unl
   rw[List.mem_filter,List.mem_range]
   simp
  have ae:∀ {j},j∈Region.ready .any ops listed→j∈unl ops listed:=fun {j} q=>by
   obtain⟨G,o,ho,_⟩:=mem_ready.1 q
   exact g.2 ⟨(Array.getElem?_eq_some_iff.1 ho).1,G⟩
  have next:∀j,j∈unl ops listed→∀E w',S w'→Y8 P ops eff S (Q .normal) n ((unl ops listed).erase j) E w'→wpAnyH P .any ops Q S n (listed.setIfInBounds j true) E w':=λj q E w' C D=>by
   refine ih _ E w' (by simp[s]) ?_ C (by rw[Qg s];exact D)
   rw[Qg s,List.length_erase_of_mem q,h]
   rfl
  have b:∀j,j∈Region.ready .any ops listed→∀k,k∈unl ops listed→Region.waitsFor .any ops j k=false:=λj q k y=>by
   obtain⟨_,oj,p,O⟩:=mem_ready.1 q
   refine vO p λe t F ag=>?_
   have I:=O e t F
   rw[ag] at I
   have A:=(g.1 y).2
   have ak:k<listed.size:=by rw[s];exact(g.1 y).1
   simp[ak] at I A
   rw[I] at A
   cases A
  have l:∀i,i∈unl ops listed→Ve ops (unl ops listed) i=true→i∈Region.ready .any ops listed:=λi hi M=>by
   have R:=g.1 hi
   obtain⟨B,f⟩:∃o,ops[i]? =some o:=⟨_,Array.getElem?_eq_getElem R.1⟩
   refine mem_ready.2 ⟨R.2,B,f,λe t F=>?_⟩
   have I:=Y i B f e t F
   cases D:listed.getD e.on true with
   |true=>
    have:e.on<listed.size:=by rw[s];exact I
    simp[this] at D⊢
    exact D
   |false=>
    have A:=List.all_eq_true.1 M e.on (g.2 ⟨I,D⟩)
    have h3:Region.waitsFor .any ops i e.on=true:=by
     unfold Region.waitsFor
     rw[f]
     exact Array.any_eq_true'.2 ⟨e,t,by simp[F]⟩
    rw[h3] at A
    cases A
  have z:∀j,j∈Region.ready .any ops listed→Ve ops (unl ops listed) j=true:=λj q=>
   List.all_eq_true.2 λk y=>by rw[b j q k y];rfl
  rcases H with⟨i,B,v,hi,M,f,hy,D⟩|H
  ·have U:=l i hi M
   refine wpAnyH_first f ad (λc a w=>hQ c a B.dst v w) n listed a w (λj oj p aj aq an=>?_) U hy hS (next i hi _ _ hS D)
   have ai:=g.2 ⟨(Array.getElem?_eq_some_iff.1 p).1,aq⟩
   exact vu af f p (λe=>aj e.symm) (vO p an) (b i U j ai)
  ·have al:Region.ready .any ops listed≠[]:=by
    obtain⟨i,L,hiL⟩:∃i L,unl ops listed=i::L:=by
     cases hu:unl ops listed with
     |nil=>rw[hu] at h;cases h
     |cons i L=>exact⟨i,L,rfl⟩
    have ab:=zd5 (ops:=ops) listed
    have T:i∈unl ops listed:=by rw[hiL];simp
    have W:∀k,k∈unl ops listed→i≤k:=λk y=>by
     rw[hiL] at y ab
     rcases List.mem_cons.1 y with rfl|y
     ·exact Nat.le_refl _
     ·exact Nat.le_of_lt ((List.pairwise_cons.1 ab).1 k y)
    have:=l i T (List.all_eq_true.2 λk y=>by
     cases hw:Region.waitsFor .any ops i k with
     |false=>rfl
     |true=>have I:=V i k (g.1 T).1 hw;have A:=W k y;omega)
    exact λG=>by rw[G] at this;cases this
   refine⟨λG=>absurd G al,λj q=>?_⟩
   obtain⟨oj,p,ar,au⟩:=H j (ae q) (z j q)
   unfold wpOp
   rw[p]
   simp only[ar,if_true]
   refine .inl ?_
   have N:=Oper.wp_mono (K':=λE w'=>S w'∧wpAnyH P .any ops Q S n (listed.setIfInBounds j true) E w') (λE w' ⟨C,D⟩=>⟨C,next j (ae q) E w' C D⟩) au
   unfold Oper.wp at N⊢
   generalize (execOp a.eval oj).run P w=r at*
   cases r with
   |ok m w'=>
    cases m<;>simp only[Oper.upon] at N⊢ <;>first
     |exact N
     |exact Calls.mono N (λe av t=>by
       cases e with
       |returned u=>exact t
       |panicked c=>exact t.elim
       |outgrown=>obtain⟨_,_,hf⟩:=t;exact hf.elim)
   |halt x w'=>cases x<;>simp only[Oper.upon] at N⊢ <;>exact N.elim
theorem vQ {id:Nat} {a:Act} {w:World} {Q:Exit→Act→World→Prop} {l:List Oper} (n:Nat) (L:List Nat) (S:World→Prop) (e:P.follows .mixedOrders=true) (hok:zgg l.toArray=true) (f:l.length=n) (d:List.range n=L)
  (hS:S w.drew)
  (h:∀K:Act→World→Prop,Shut (∀a w,Q .normal a w→K a w)→Y8 P l.toArray [] S K n L a w.drew):(Code.region id l.toArray true).wp P Q a w:=by
 refine wp_region_noPanic (wp_region_held (S:=S) e ?_)
 have c:unl l.toArray (Array.replicate l.toArray.size false)=List.range l.toArray.size:=by
  unfold unl
  rw[List.filter_eq_self]
  intro i hi
  have:=List.mem_range.1 hi
  simp at this
  simp[this]
 have b:l.toArray.size=n:=by simpa using f
 refine zgh (eff:=[]) hok (λ_ _ _ _ _ h=>h) _ _ a _ (by simp) (by rw[c];simp) hS (by rw[c,b,d];exact h _ (λ_ _ h=>h))
section
variable {K:Act→World→Prop} {a:Act} {w:World} {n:Nat} {L:List Nat} {o:Oper}
theorem vn (h:K a w):Y8 P ops [] S K 0 L a w:=h
theorem zV (i:Nat) (b:(L.contains i && Ve ops L i)=true) (c:ops.toList[i]? =some o) (d:Region.wanted o (yielded ops a.tmps)=true) (h:∃v,(∀w,S w→(execOp a.eval o).run P w=.ok (.value v) w)∧Y8 P ops [] S K n (L.erase i) (a.put o.dst v) w):Y8 P ops [] S K (n+1) L a w:=by
 simp only[Bool.and_eq_true,List.contains_iff_mem] at b
 obtain⟨v,e,h⟩:=h
 exact .inl ⟨i,o,v,b.1,b.2,by simpa using c,.inl ⟨d,e⟩,h⟩
theorem zW (i:Nat) (b:(L.contains i && Ve ops L i)=true) (c:ops.toList[i]? =some o) (d:Region.wanted o (yielded ops a.tmps)=false) (h:Y8 P ops [] S K n (L.erase i) (a.put o.dst undef) w):Y8 P ops [] S K (n+1) L a w:=by
 simp only[Bool.and_eq_true,List.contains_iff_mem] at b
 exact .inl ⟨i,o,undef,b.1,b.2,by simpa using c,.inr ⟨d,rfl⟩,h⟩
theorem zg5 (g:List Nat) (k:L.filter (Ve ops L)=g) (h:∀j∈g,∃o,ops[j]? =some o∧Region.wanted o (yielded ops a.tmps)=true∧∀K',Shut (∀e w',S w'→(S w'→Y8 P ops [] S K n (L.erase j) e w')→K' e w')→o.wp P a w K' NoQ):Y8 P ops [] S K (n+1) L a w:=by
 refine .inr λj c b=>?_
 obtain⟨o,l,m,d⟩:=h j (by rw[←k];exact List.mem_filter.2 ⟨c,b⟩)
 exact⟨o,l,m,d _ (λ_ _ f i=>⟨f,i f⟩)⟩
theorem yE (j:Nat) (d:L.filter (Ve ops L)=[j]) (e:ops.toList[j]? =some o) (f:Region.wanted o (yielded ops a.tmps)=true) (h:∀K',Shut (∀c w',S w'→(S w'→Y8 P ops [] S K n (L.erase j) c w')→K' c w')→o.wp P a w K' NoQ):Y8 P ops [] S K (n+1) L a w:=
 zg5 [j] d (λg b=>by
  have:=List.mem_singleton.1 b
  subst this
  exact⟨o,by simpa using e,f,h⟩)
theorem J0 (j k:Nat) {d:Oper} (i:L.filter (Ve ops L)=[j,k]) (l:ops.toList[j]? =some o) (m:Region.wanted o (yielded ops a.tmps)=true) (e:ops.toList[k]? =some d) (f:Region.wanted d (yielded ops a.tmps)=true)
  (h:∀K',Shut (∀c w',S w'→(S w'→Y8 P ops [] S K n (L.erase j) c w')→K' c w')→o.wp P a w K' NoQ)
  (g:∀K',Shut (∀c w',S w'→(S w'→Y8 P ops [] S K n (L.erase k) c w')→K' c w')→d.wp P a w K' NoQ):Y8 P ops [] S K (n+1) L a w:=
 zg5 [j,k] i (λp b=>by
  rcases List.mem_cons.1 b with rfl|b
  ·exact⟨o,by simpa using l,m,h⟩
  ·have:=List.mem_singleton.1 b
   subst this
   exact⟨d,by simpa using e,f,g⟩)
end
end
attribute [irreducible] Y8
end Go
namespace Go
section
variable {P:Program} {ops:Array Oper} {S:World→Prop}
def Va (P:Program) (ops:Array Oper) (Q:Exit→Act→World→Prop) (S:World→Prop) (m:Nat):Nat→Array Bool→Act→World→Prop
 |0,listed,a,w=>Region.ready .any ops listed=[]∧Q .normal a w
 |fuel+1,listed,a,w=>
  (Region.ready .any ops listed=[]→Q .normal a w)∧
  ∀i∈Region.ready .any ops listed,wpOp P ops Q i (λa' w'=>((listed.setIfInBounds i true).getD m false=false→S w')∧Va P ops Q S m fuel (listed.setIfInBounds i true) a' w') a w
theorem zco {Q:Exit→Act→World→Prop} {m:Nat}:∀(fuel:Nat) (listed:Array Bool) (a:Act) (w:World),Va P ops Q S m fuel listed a w→wpAny P .any ops Q fuel listed a w
 |0,_,_,_,h=>h
 |fuel+1,_,_,_,h=>⟨h.1,λi hi=>wpOp_mono (λc w' d=>zco fuel _ c w' d.2) (h.2 i hi)⟩
def zfp (ops:Array Oper) (m:Nat):Bool:=(List.range ops.size).all λi=>i==m||QQ ops ops.size m i
theorem zcd {m:Nat} (h:zfp ops m=true) {listed:Array Bool} (g:ZW ops listed) (d:listed.size=ops.size) (l:∀k,Region.waitsFor .any ops m k=true→listed.getD k false=true) {i:Nat} (hi:i<ops.size) (c:i≠m):listed.getD i true=true:=by
 have e:=List.all_eq_true.1 h i (List.mem_range.2 hi)
 simp only[Bool.or_eq_true,beq_iff_eq] at e
 have f:=JT g _ m i (e.resolve_left c) l
 have:i<listed.size:=by rw[d];exact hi
 simp[this] at f⊢
 exact f
theorem zfk {listed:Array Bool} {m:Nat} (h:m∈Region.ready .any ops listed):∀k,Region.waitsFor .any ops m k=true→listed.getD k false=true:=λk l=>by
 obtain⟨_,o,n,c⟩:=mem_ready.1 h
 obtain⟨p,d,e,i,g,f⟩:=Region.waitsFor_spec l
 rw[n] at d
 cases d
 exact f▸c e i g
theorem zd7 {Q:Exit→Act→World→Prop} {m:Nat} (g:zfp ops m=true) {i:Nat} {x:Oper} {v:Value} (hi:ops[i]? =some x) (s:i≠m) (q:∀(j:Nat) (o:Oper) cs b,ops[j]? =some o→o.op≠.select cs b)
  (hQ:∀c a w,Q (.panic c) (a.put x.dst v) w→Q (.panic c) a w):
  ∀(fuel:Nat) (listed:Array Bool) (a:Act) (w:World),listed.size=ops.size→ZW ops listed→
   (∀j y,ops[j]? =some y→j≠i→listed.getD j true=false→(∀e∈y.after,Region.binds .any e=true→e.on≠i)→x.apart ops y=true)→
   i∈Region.ready .any ops listed→YieldsIf P ops S x v a→S w→
   Va P ops Q S m fuel (listed.setIfInBounds i true) (a.put x.dst v) w→Va P ops Q S m (fuel+1) listed a w:=by
 intro fuel
 induction fuel with
 |zero=>
  intro listed a w l C _ u I hS H
  refine⟨λh=>(by rw[h] at u;cases u),λj A=>?_⟩
  by_cases hji:j=i
  ·subst hji;exact I.wpOp hi hS ⟨λ_=>hS,H⟩
  ·have:=ready_mono A hji
   rw[H.1] at this
   cases this
 |succ fuel ih=>
  intro listed a w l C f u I hS H
  refine⟨λh=>(by rw[h] at u;cases u),λj A=>?_⟩
  by_cases hji:j=i
  ·subst hji;exact I.wpOp hi hS ⟨λ_=>hS,H⟩
  ·have z:=H.2 j (ready_mono A hji)
   obtain⟨p,y,t,B⟩:=mem_ready.1 A
   have d:=(mem_ready.1 u).1
   have r:i<ops.size:=(Array.getElem?_eq_some_iff.1 hi).1
   have O:j≠m:=λe=>by
    subst e
    have:=zcd g C l (zfk A) r s
    rw[d] at this
    cases this
   have E:∀e∈y.after,Region.binds .any e=true→e.on≠i:=λe M L N=>by
    have z:=B e M L
    rw[N] at z
    have h':i<listed.size:=by rw[l];exact r
    simp[h'] at d z
    rw[d] at z
    cases z
   have h2:=wpOp_putIf t (f j y t hji p E) (λcs b=>q i x cs b hi) (λcs b=>q j y cs b t) hQ I z
   have n:∀k ok,ops[k]? =some ok→k≠i→(listed.setIfInBounds j true).getD k true=false→
     (∀e∈ok.after,Region.binds .any e=true→e.on≠i)→x.apart ops ok=true:=λk ok R T F W=>by
    refine f k ok R T ?_ W
    by_cases hjk:j=k
    ·subst hjk;exact p
    ·rw[getD_set_ne true hjk] at F;exact F
   have U:i∈Region.ready .any ops (listed.setIfInBounds j true):=ready_mono u (Ne.symm hji)
   have D:((listed.setIfInBounds i true).setIfInBounds j true).getD m false=false:=by
    rw[getD_set_ne false O,getD_set_ne false s]
    cases hml:listed.getD m false with
    |false=>rfl
    |true=>
     have V:∀k,Region.waitsFor .any ops m k=true→listed.getD k false=true:=λk R=>by
      obtain⟨om,X,e,M,L,Y⟩:=Region.waitsFor_spec R
      exact Y▸C m om X hml e M L
     have:=zcd g C l V r s
     rw[d] at this
     cases this
   refine wpOp_mono (λZ w' G=>⟨λ_=>G.2.1 D,ih (listed.setIfInBounds j true) Z w' (by simp[l]) (C.set A) n U G.1 (G.2.1 D) ?_⟩) h2
   rw[Array.setIfInBounds_comm _ _ hji]
   exact G.2.2
def Xt (P:Program) (ops:Array Oper) (eff:List Nat) (S:World→Prop) (Q:Act→World→Prop):List Nat→Act→World→Prop
 |[],a,w=>Q a w
 |i::rest,a,w=>∃o,ops[i]? =some o∧
   (if eff.contains i=true∧Region.wanted o (yielded ops a.tmps)=true then o.wp P a w (λa' w'=>(rest≠[]→S w')∧Xt P ops eff S Q rest a' w') NoQ
    else ∃v,YieldsIf P ops S o v a∧Xt P ops eff S Q rest (a.put o.dst v) w)
theorem zh2 (n:∀(j:Nat) (o:Oper) cs b,ops[j]? =some o→o.op≠.select cs b) (z:Yp ops=true) {eff:List Nat} {Q:Act→World→Prop} {j:Nat} {c:Oper} (I:ops[j]? =some c):
  ∀(L:List Nat) (a:Act) (w:World),S w→j∈L→L.Nodup→(∀i∈L,Region.waitsFor .any ops j i=false)→(∀i∈L,i<j→Region.waitsFor .any ops i j=false)→
   (∀i∈L,i≠j→i<j∨True)→L.Pairwise (· < ·)→(eff.contains j=false∨Region.wanted c (yielded ops a.tmps)=false)→
   Xt P ops eff S Q L a w→∃v,YieldsIf P ops S c v a∧Xt P ops eff S Q (L.erase j) (a.put c.dst v) w:=by
 intro L
 induction L with
 |nil=>intro a w _ V;cases V
 |cons h L ih=>
  intro a w hS V W F G _ B k H
  obtain⟨g,d,H⟩:=H
  by_cases hhj:h=j
  ·subst hhj
   rw[I] at d
   cases d
   rw[if_neg (by rintro⟨e1,e2⟩;rcases k with e|e<;>simp_all)] at H
   obtain⟨v,r,C⟩:=H
   exact⟨v,r,by simpa using C⟩
  ·have t:j∈L:=by
    rcases List.mem_cons.1 V with e|e
    ·exact absurd e.symm hhj
    ·exact e
   have U:h<j:=(List.pairwise_cons.1 B).1 j t
   have q:Region.waitsFor .any ops j h=false:=F h (by simp)
   have p:Region.waitsFor .any ops h j=false:=G h (by simp) U
   have aj:c.apart ops g=true:=vu z I d (λe=>hhj e.symm) p q
   have ah:g.apart ops c=true:=vu z d I hhj q p
   obtain⟨Z,p2,p3⟩:=Oper.apart_spec aj
   have E:=λcs b=>n j c cs b I
   have hsh:=λcs b=>n h g cs b d
   have back:∀ {f:Act} {v:Value},Xe ops g.dst a f→YieldsIf P ops S c v f→YieldsIf P ops S c v a:=fun {f v} C r=>
    let ⟨r1,r2⟩:=C c E p3
    r.of_same r1.symm r2.symm
   have x:∀(f:Act) (w':World),S w'→Xe ops g.dst a f→Xt P ops eff S Q L f w'→∃v,YieldsIf P ops S c v f∧Xt P ops eff S Q (L.erase j) (f.put c.dst v) w':=λf w' l C R=>
    ih f w' l t (List.nodup_cons.1 W).2 (λi hi=>F i (by simp[hi])) (λi hi=>G i (by simp[hi])) (λ_ _ _=>.inr trivial) (List.pairwise_cons.1 B).2 (k.imp id (λe=>(C c E p3).2.trans e)) R
   have O:(h::L).erase j=h::L.erase j:=by rw[List.erase_cons_tail];simpa using hhj
   rw[O]
   split at H
   ·rename_i hc
    have H2:=zg7 (ops:=ops) H
    have m:L≠[]:=List.ne_nil_of_mem t
    obtain⟨a0,w0,⟨⟨y,T⟩,D⟩⟩:=zeU H2
    have N:=y m
    obtain⟨v,X,_⟩:=x a0 w0 N D T
    have r:=back D X
    refine⟨v,r,g,d,?_⟩
    rw[if_pos ⟨hc.1,by rw[wanted_put g a c.dst v Z];exact hc.2⟩]
    refine zg6 aj hsh (Oper.wp_mono (λf w' ⟨⟨hS'',s⟩,hr'⟩=>?_) H2)
    have l:=hS'' m
    obtain⟨v',u,A⟩:=x f w' l hr' s
    have:v'=v:=YieldsIf.uniq hS (back hr' u) r
    subst this
    exact⟨λ_=>l,A⟩
   ·rename_i hc
    obtain⟨M,Y,R⟩:=H
    obtain⟨v,u,s⟩:=x _ w hS (Xe.put a g.dst M) R
    have r:=back (Xe.put a g.dst M) u
    refine⟨v,r,g,d,?_⟩
    rw[if_neg (by rw[wanted_put g a c.dst v Z];exact hc)]
    obtain⟨r1,r2⟩:=Xe.put (ops:=ops) a c.dst v g hsh Z
    exact⟨M,Y.of_same r1 r2,by rw[←Act.put_comm a M v (Oper.apart_spec ah).2.1];exact s⟩
theorem zgi {eff:List Nat} {m:Nat} (hok:zaQ ops eff=true) (O:zfp ops m=true) (hm:m+1=ops.size) {Q:Exit→Act→World→Prop} (hQ:∀c a d v w,Q (.panic c) (Act.put a d v) w→Q (.panic c) a w):
  ∀(n:Nat) (listed:Array Bool) (a:Act) (w:World),listed.size=ops.size→ZW ops listed→(unl ops listed).length=n→(listed.getD m false=false→S w)→
   Xt P ops eff S (Q .normal) (unl ops listed) a w→Va P ops Q S m n listed a w:=by
 simp only[zaQ,Bool.and_eq_true] at hok
 obtain⟨⟨⟨⟨az,ak⟩,ao⟩,av⟩,al⟩:=hok
 have aa:=Region.noSelect_spec az
 have W:∀i j,i<ops.size→Region.waitsFor .any ops i j=true→j<i:=λi j hi hw=>by
  obtain⟨oi,p,e,B,T,N⟩:=Region.waitsFor_spec hw
  have D:=List.all_eq_true.1 av i (List.mem_range.2 hi)
  rw[p] at D
  have h3:=Array.all_eq_true'.1 D e B
  simp only[T,Bool.not_true,Bool.false_or,decide_eq_true_eq] at h3
  have h4:=List.all_eq_true.1 (List.all_eq_true.1 ao i (List.mem_range.2 hi)) j (List.mem_range.2 (N▸h3))
  simpa[hw] using h4
 intro n
 induction n with
 |zero=>
  intro listed a w l hc z hS H
  have Y:unl ops listed=[]:=List.eq_nil_of_length_eq_zero z
  rw[Y] at H
  refine⟨?_,H⟩
  by_cases hr:Region.ready .any ops listed=[]
  ·exact hr
  ·obtain⟨j,t⟩:=List.exists_mem_of_ne_nil _ hr
   obtain⟨F,o,ho,_⟩:=mem_ready.1 t
   have:j∈unl ops listed:=List.mem_filter.2 ⟨List.mem_range.2 (Array.getElem?_eq_some_iff.1 ho).1,by rw[F];rfl⟩
   rw[Y] at this
   cases this
 |succ n ih=>
  intro listed a w l hc z aq H
  have f:∀ {j},j∈unl ops listed↔j<ops.size∧listed.getD j true=false:=fun {j}=>by
   unfold unl
   rw[List.mem_filter,List.mem_range]
   simp
  have ai:∀ {j},j∈Region.ready .any ops listed→j∈unl ops listed:=fun {j} t=>by
   obtain⟨F,o,ho,_⟩:=mem_ready.1 t
   exact f.2 ⟨(Array.getElem?_eq_some_iff.1 ho).1,F⟩
  have next:∀j,j∈Region.ready .any ops listed→∀U w',((listed.setIfInBounds j true).getD m false=false→S w')→Xt P ops eff S (Q .normal) ((unl ops listed).erase j) U w'→Va P ops Q S m n (listed.setIfInBounds j true) U w':=λj t U w' R E=>by
   refine ih _ U w' (by simp[l]) (hc.set t) ?_ R (by rw[Qg l];exact E)
   rw[Qg l,List.length_erase_of_mem (ai t),z]
   rfl
  obtain⟨i,L,hiL⟩:∃i L,unl ops listed=i::L:=by
   cases hu:unl ops listed with
   |nil=>rw[hu] at z;cases z
   |cons i L=>exact⟨i,L,rfl⟩
  have C:=zd5 (ops:=ops) listed
  have M:listed.getD m false=false:=by
   cases hml:listed.getD m false with
   |false=>rfl
   |true=>
    have ax:∀k,Region.waitsFor .any ops m k=true→listed.getD k false=true:=λk s=>by
     obtain⟨om,aA,e,B,T,N⟩:=Region.waitsFor_spec s
     exact N▸hc m om aA hml e B T
    have aw:i∈unl ops listed:=by rw[hiL];simp
    have V:=f.1 aw
    by_cases him:i=m
    ·subst him
     have h6:=V.2
     have:i<listed.size:=by rw[l];exact V.1
     simp[this] at h6 hml
     rw[h6] at hml
     cases hml
    ·have:=zcd O hc l ax V.1 him
     rw[V.2] at this
     cases this
  have hS:=aq M
  have ag:m∈unl ops listed:=f.2 ⟨by omega,by
   have:m<listed.size:=by rw[l];omega
   simp[this] at M⊢
   exact M⟩
  have au:i∈unl ops listed:=by rw[hiL];simp
  have hi:=f.1 au
  have X:∀k,k∈unl ops listed→i≤k:=λk s=>by
   rw[hiL] at s C
   rcases List.mem_cons.1 s with rfl|s
   ·exact Nat.le_refl _
   ·exact Nat.le_of_lt ((List.pairwise_cons.1 C).1 k s)
  have A:∀k,k<i→listed.getD k false=true:=λk s=>by
   cases E:listed.getD k true with
   |false=>exact absurd (X k (f.2 ⟨Nat.lt_trans s hi.1,E⟩)) (by omega)
   |true=>
    have:k<listed.size:=by rw[l];exact Nat.lt_trans s hi.1
    simp[this] at E⊢
    exact E
  rw[hiL] at H
  obtain⟨oi,p,H⟩:=H
  have I:i∈Region.ready .any ops listed:=mem_ready.2 ⟨hi.2,oi,p,λe B T=>
   A _ (W i e.on hi.1 (by
    unfold Region.waitsFor
    rw[p]
    exact Array.any_eq_true'.2 ⟨e,B,by simp[T]⟩))⟩
  have an:Region.ready .any ops listed≠[]:=λF=>by rw[F] at I;cases I
  have ad:(unl ops listed).erase i=L:=by rw[hiL];simp
  have g:∀j,j∈Region.ready .any ops listed→∀k,k∈unl ops listed→Region.waitsFor .any ops j k=false:=λj t k s=>by
   obtain⟨_,oj,q,G⟩:=mem_ready.1 t
   refine vO q λe B T ar=>?_
   have h1:=G e B T
   rw[ar] at h1
   have D:=(f.1 s).2
   have af:k<listed.size:=by rw[l];exact(f.1 s).1
   simp[af] at h1 D
   rw[h1] at D
   cases D
  split at H
  ·rename_i hcond
   refine⟨λF=>absurd F an,λj t=>?_⟩
   by_cases ae:j=i
   ·subst ae
    unfold wpOp
    rw[p]
    simp only[hcond.2,if_true]
    refine .inl ?_
    have aj:∀w',(L≠[]→S w')→((listed.setIfInBounds j true).getD m false=false→S w'):=λw' F h1=>F (λe=>by
     rw[hiL,e] at ag
     simp at ag
     subst ag
     have:m<listed.size:=by rw[l];omega
     simp[this] at h1)
    have H':=Oper.wp_mono (K':=λU w'=>((listed.setIfInBounds j true).getD m false=false→S w')∧Va P ops Q S m n (listed.setIfInBounds j true) U w') (λU w' ⟨R,E⟩=>⟨aj w' R,next j t U w' (aj w' R) (by rw[ad];exact E)⟩) H
    unfold Oper.wp at H'⊢
    generalize (execOp a.eval oi).run P w=r at*
    cases r with
    |ok m w'=>
     cases m<;>simp only[Oper.upon] at H'⊢ <;>first
      |exact H'
      |exact Calls.mono H' (λe aF B=>by
        cases e with
        |returned u=>exact B
        |panicked c=>exact B.elim
        |outgrown=>obtain⟨_,_,hf⟩:=B;exact hf.elim)
    |halt x w'=>cases x<;>simp only[Oper.upon] at H'⊢ <;>exact H'.elim
   ·-- a read that may come up
    obtain⟨_,oj,q,G⟩:=mem_ready.1 t
    have y:=ai t
    have ah:eff.contains j=false:=by
     cases hcj:eff.contains j with
     |false=>rfl
     |true=>
      have h1:=List.all_eq_true.1 al j (by simpa using hcj)
      have D:=List.all_eq_true.1 h1 i (by simpa using hcond.1)
      have aD:=X j y
      simp only[Bool.or_eq_true,decide_eq_true_eq] at D
      have h3:QQ ops ops.size j i=true:=by rcases D with D|D<;>first|omega|exact D
      have h4:=JT hc _ j i h3 (λk s=>by
       obtain⟨aE,Z,e,B,T,N⟩:=Region.waitsFor_spec s
       rw[q] at Z
       cases Z
       exact N▸G e B T)
      have af:i<listed.size:=by rw[l];exact hi.1
      have V:=hi.2
      simp[af] at h4 V
      rw[h4] at V
      cases V
    have ab:Xt P ops eff S (Q .normal) (unl ops listed) a w:=by
     rw[hiL]
     exact⟨oi,p,by rw[if_pos hcond];exact H⟩
    obtain⟨v,hy,E⟩:=zh2 aa ak q (unl ops listed) a w hS y (C.imp (λh=>Nat.ne_of_lt h)) (λk s=>g j t k s)
     (λk s aC=>by
      cases hwk:Region.waitsFor .any ops k j with
      |false=>rfl
      |true=>have:=W k j (f.1 s).1 hwk;omega)
     (λ_ _ _=>.inr trivial) C (.inl ah) ab
    exact hy.wpOp q hS ⟨λ_=>hS,next j t _ _ (λ_=>hS) E⟩
  ·rename_i hcond
   obtain⟨v,hy,E⟩:=H
   by_cases him:i=m
   ·subst him
    have hL:L=[]:=by
     cases L with
     |nil=>rfl
     |cons x L'=>
      have hx:x∈unl ops listed:=by rw[hiL];simp
      have h7:=(f.1 hx).1
      rw[hiL] at C
      have:=(List.pairwise_cons.1 C).1 x (by simp)
      omega
    refine⟨λF=>absurd F an,λj t=>?_⟩
    have y:=ai t
    rw[hiL,hL] at y
    simp at y
    subst y
    exact hy.wpOp p hS ⟨λ_=>hS,next j t _ _ (λ_=>hS) (by rw[ad];exact E)⟩
   ·refine zd7 O p him aa (λc a w=>hQ c a oi.dst v w) n listed a w l hc (λj oj q ae aB ay=>?_) I hy hS (next i I _ _ (λ_=>hS) (by rw[ad];exact E))
    have y:=f.2 ⟨(Array.getElem?_eq_some_iff.1 q).1,aB⟩
    exact vu ak p q (λe=>ae e.symm) (vO q ay) (g i I j y)
theorem za2 {id:Nat} {a:Act} {w:World} {Q:Exit→Act→World→Prop} (eff:List Nat) (S:World→Prop) (k:P.follows .mixedOrders=true) (hok:zaQ ops eff=true) (m:Nat) (c:zfp ops m=true) (d:m+1=ops.size)
  (hS:S w.drew) (L:List Nat) (g:List.range ops.size=L)
  (h:∀K:Act→World→Prop,Shut (∀a w,Q .normal a w→K a w)→Xt P ops eff S K L a w.drew):(Code.region id ops true).wp P Q a w:=by
 refine wp_region_noPanic (wp_region_any k (zco (S:=S) (m:=m) _ _ _ _ ?_))
 have f:unl ops (Array.replicate ops.size false)=List.range ops.size:=by
  unfold unl
  rw[List.filter_eq_self]
  intro i hi
  have:=List.mem_range.1 hi
  simp[this]
 refine zgi hok c d (λ_ _ _ _ _ h=>h) _ _ a _ (by simp) (λj n l e=>?_) (by rw[f];simp) (λ_=>hS) (by rw[f,g];exact h _ (λ_ _ h=>h))
 by_cases hjs:j<ops.size
 ·simp[hjs] at e
 ·simp[hjs] at e
def vA (P:Program) (ops:Array Oper) (S:World→Prop) (Q:Act→World→Prop):List Bool→List Oper→Act→World→Prop
 |_,[],a,w=>Q a w
 |es,o::rest,a,w=>
   if es.headD false=true∧Region.wanted o (yielded ops a.tmps)=true then o.wp P a w (λa' w'=>(rest≠[]→S w')∧vA P ops S Q es.tail rest a' w') NoQ
    else ∃v,YieldsIf P ops S o v a∧vA P ops S Q es.tail rest (a.put o.dst v) w
theorem ZI {es:List Bool} {K:Act→World→Prop}:∀(l:List Oper) (i:Nat) (a:Act) (w:World),(∀k o,l[k]? =some o→ops[i+k]? =some o)→
  vA P ops S K (es.drop i) l a w→Xt P ops (zaL es) S K (List.range' i l.length) a w
 |[],i,a,w,_,h=>h
 |o::rest,i,a,w,ho,h=>by
  have n:ops[i]? =some o:=ho 0 o rfl
  have c:∀k d,rest[k]? =some d→ops[i+1+k]? =some d:=λk d q=>by
   have:=ho (k+1) d (by simpa using q)
   rwa [show i+1+k=i+(k+1) by omega]
  have p:(es.drop i).headD false=es.getD i false:=by simp[List.getD,List.headD_eq_head?_getD]
  have r:(es.drop i).tail=es.drop (i+1):=by simp[List.tail_drop]
  rw[vA,p,r] at h
  rw[List.length_cons,List.range'_succ]
  refine⟨o,n,?_⟩
  rw[Xl]
  split at h
  ·rename_i hc
   rw[if_pos hc]
   exact Oper.wp_mono (λm w' ⟨hS,f⟩=>⟨λg=>hS (λe=>g (by rw[e];rfl)),ZI rest (i+1) m w' c f⟩) h
  ·rename_i hc
   rw[if_neg hc]
   obtain⟨v,s,f⟩:=h
   exact⟨v,s,ZI rest (i+1) _ w c f⟩
theorem yp {id:Nat} {a:Act} {w:World} {Q:Exit→Act→World→Prop} {l:List Oper} (es:List Bool) (S:World→Prop) (f:P.follows .mixedOrders=true) (hok:zaQ l.toArray (zaL es)=true) (m:Nat) (c:zfp l.toArray m=true) (d:m+1=l.toArray.size)
  (hS:S w.drew)
  (h:∀K:Act→World→Prop,Shut (∀a w,Q .normal a w→K a w)→vA P l.toArray S K es l a w.drew):(Code.region id l.toArray true).wp P Q a w:=by
 refine za2 (zaL es) S f hok m c d hS _ rfl (λK hK=>?_)
 have:=ZI (P:=P) (ops:=l.toArray) (S:=S) (es:=es) (K:=K) l 0 a w.drew (λk o e=>by simpa using e) (by simpa using h K hK)
 simpa[List.range_eq_range'] using this
theorem xA {es:List Bool} {K:Act→World→Prop} {a:Act} {w:World} (h:K a w):vA P ops S K es [] a w:=h
theorem yb {es:List Bool} {K:Act→World→Prop} {a:Act} {w:World} {o:Oper} {rest:List Oper}
  (c:Region.wanted o (yielded ops a.tmps)=true) (h:∃v,(∀w,S w→(execOp a.eval o).run P w=.ok (.value v) w)∧vA P ops S K es rest (a.put o.dst v) w):vA P ops S K (false::es) (o::rest) a w:=by
 obtain⟨v,d,h⟩:=h
 rw[vA,if_neg (by simp)]
 exact⟨v,.inl ⟨c,d⟩,h⟩
theorem yc {e:Bool} {es:List Bool} {K:Act→World→Prop} {a:Act} {w:World} {o:Oper} {rest:List Oper}
  (c:Region.wanted o (yielded ops a.tmps)=false) (h:vA P ops S K es rest (a.put o.dst undef) w):vA P ops S K (e::es) (o::rest) a w:=by
 rw[vA,if_neg (by rw[c];simp)]
 exact⟨undef,.inr ⟨c,rfl⟩,h⟩
theorem ya {es:List Bool} {K:Act→World→Prop} {a:Act} {w:World} {o:Oper} {rest:List Oper}
  (f:Region.wanted o (yielded ops a.tmps)=true) (h:∀K',Shut (∀c w',(rest≠[]→S w')→((rest≠[]→S w')→vA P ops S K es rest c w')→K' c w')→o.wp P a w K' NoQ):vA P ops S K (true::es) (o::rest) a w:=by
 rw[vA,if_pos ⟨rfl,f⟩]
 exact h _ (λ_ _ d e=>⟨d,e d⟩)
section
variable {es:List Bool} {K:Act→World→Prop} {a:Act} {w:World} {rest:List Oper} {dst:Option Tmp} {op:Op} {ty:TypeId} {pos:String} {after:Array Edge} {j:Nat} {b:Bool}
theorem znj (h:∃v,(∀w,S w→(execOp a.eval {dst:=dst,op:=op,type:=ty,pos:=pos,after:=after,guard:=none}).run P w=.ok (.value v) w)∧vA P ops S K es rest (a.put dst v) w):
  vA P ops S K (false::es) ({dst:=dst,op:=op,type:=ty,pos:=pos,after:=after,guard:=none}::rest) a w:=yb rfl h
theorem zmT (c:yielded ops a.tmps j=some b) (h:∃v,(∀w,S w→(execOp a.eval {dst:=dst,op:=op,type:=ty,pos:=pos,after:=after,guard:=some (j,b)}).run P w=.ok (.value v) w)∧vA P ops S K es rest (a.put dst v) w):
  vA P ops S K (false::es) ({dst:=dst,op:=op,type:=ty,pos:=pos,after:=after,guard:=some (j,b)}::rest) a w:=yb (by simp[Region.wanted,c]) h
theorem znk {e c:Bool} (f:yielded ops a.tmps j=some c) (d:c= !b) (h:vA P ops S K es rest (a.put dst undef) w):
  vA P ops S K (e::es) ({dst:=dst,op:=op,type:=ty,pos:=pos,after:=after,guard:=some (j,b)}::rest) a w:=yc (by subst d;simp[Region.wanted,f]) h
theorem zmU {e:Bool} (c:yielded ops a.tmps j=none) (h:vA P ops S K es rest (a.put dst undef) w):
  vA P ops S K (e::es) ({dst:=dst,op:=op,type:=ty,pos:=pos,after:=after,guard:=some (j,b)}::rest) a w:=yc (by simp[Region.wanted,c]) h
theorem znS (h:∀K',Shut (∀c w',(rest≠[]→S w')→((rest≠[]→S w')→vA P ops S K es rest c w')→K' c w')→Oper.wp P {dst:=dst,op:=op,type:=ty,pos:=pos,after:=after,guard:=none} a w K' NoQ):
  vA P ops S K (true::es) ({dst:=dst,op:=op,type:=ty,pos:=pos,after:=after,guard:=none}::rest) a w:=ya rfl h
theorem zni (d:yielded ops a.tmps j=some b) (h:∀K',Shut (∀c w',(rest≠[]→S w')→((rest≠[]→S w')→vA P ops S K es rest c w')→K' c w')→Oper.wp P {dst:=dst,op:=op,type:=ty,pos:=pos,after:=after,guard:=some (j,b)} a w K' NoQ):
  vA P ops S K (true::es) ({dst:=dst,op:=op,type:=ty,pos:=pos,after:=after,guard:=some (j,b)}::rest) a w:=ya (by simp[Region.wanted,d]) h
end
end
attribute [irreducible] vA
end Go
namespace Go.Proofs.YtdkkjchclkjleaaGreatDoor
open Go Go.RowKit Go.Maps Go.MapKept
open Go.Proofs.Tryz(prog)
open List(mem_map getElem?_eq_getElem mem_append mem_of_getElem? mem_cons length_append length_map mem_singleton mem_filter map_append length_take getElem?_map all_eq_true nodup_cons map_cons length_cons mem_range append_assoc getElem?_append_left nil_append size_toArray getElem?_append_right eq_nil_of_length_eq_zero flatMap_cons mem_iff_getElem? take_append_drop pairwise_cons getElem?_eq_none length_drop getElem?_inj)
open Nat(le_refl zero_le le_trans zero_add lt_of_lt_of_le mul_le_mul_right)
variable {w:World}
def ziu:List Int:=[1116352408,1899447441,3049323471,3921009573,961987163,1508970993,2453635748,2870763221,3624381080,310598401,607225278,1426881987,1925078388,2162078206,2614888103,3248222580,3835390401,4022224774,264347078,604807628,770255983,1249150122,1555081692,1996064986,2554220882,2821834349,2952996808,3210313671,3336571891,3584528711,113926993,338241895,666307205,773529912,1294757372,1396182291,1695183700,1986661051,2177026350,2456956037,2730485921,2820302411,3259730800,3345764771,3516065817,3600352804,4094571909,275423344,430227734,506948616,659060556,883997877,958139571,1322822218,1537002063,1747873779,1955562222,2024104815,2227730452,2361852424,2428436474,2756734187,3204031479,3329325298]
def zit:List Int:=[1779033703,3144134277,1013904242,2773480762,1359893119,2600822924,528734635,1541459225]
def rot (m d x:Int):Int:=bits .or .u32 (x*m % 4294967296) (x / d)
abbrev znX (x:Int):Int:=rot 1073741824 4 x
abbrev zmZ (x:Int):Int:=rot 67108864 64 x
abbrev zm0 (x:Int):Int:=rot 33554432 128 x
abbrev zkc (x:Int):Int:=rot 2097152 2048 x
abbrev zme (x:Int):Int:=rot 524288 8192 x
abbrev zkd (x:Int):Int:=rot 32768 131072 x
abbrev zke (x:Int):Int:=rot 16384 262144 x
abbrev zkf (x:Int):Int:=rot 8192 524288 x
abbrev zmf (x:Int):Int:=rot 1024 4194304 x
abbrev zkg (x:Int):Int:=rot 128 33554432 x
def zfC (x y u c:Int):Int:=IntKind.u32.wrap (c+IntKind.u32.wrap (IntKind.u32.wrap (bits .xor .u32 (bits .xor .u32 (zkd x) (zkf x)) (x / 1024)+u)+bits .xor .u32 (bits .xor .u32 (zm0 y) (zke y)) (y / 8)))
def Y6 (W:List Int) (t:Nat):List Int:=if t<16 then W else W.set (t % 16) (zfC (W.getD ((t-2) % 16) 0) (W.getD ((t-15) % 16) 0) (W.getD ((t-7) % 16) 0) (W.getD (t % 16) 0))
theorem ziJ (W:List Int) (t:Nat):(Y6 W t).length=W.length:=by unfold Y6;split<;>simp
def YV (x:Int):Value:=.int .u32 x
theorem XV {n:Int} (a:0≤n) (b:n<9223372036854775808):bits .and .i64 n 15=n % 16:=bits_mask .i64 63 (by decide) (λn a b=>IntWalk.i64_in _ (by omega)) 4 (by decide) n a (by omega)
structure zed where
 a:Int
 b:Int
 c:Int
 d:Int
 e:Int
 f:Int
 g:Int
 h:Int
 W:List Int
def zlB (s:zed) (t:Nat):Int:=IntKind.u32.wrap ((s.h+bits .xor .u32 (bits .xor .u32 (zmZ s.e) (zkc s.e)) (zkg s.e)) % 4294967296+IntKind.u32.wrap (IntKind.u32.wrap (bits .xor .u32 s.g (bits .and .u32 s.e (bits .xor .u32 s.f s.g))+ziu.getD t 0)+(Y6 s.W t).getD (t % 16) 0))
def znY (s:zed):Int:=(bits .xor .u32 (bits .xor .u32 (znX s.a) (zme s.a)) (zmf s.a)+bits .or .u32 (bits .and .u32 s.a s.b) (bits .and .u32 s.c (bits .or .u32 s.a s.b))) % 4294967296
def zbh (s:zed) (t:Nat):zed:=⟨(zlB s t+znY s) % 4294967296,s.a,s.b,s.c,(s.d+zlB s t) % 4294967296,s.e,s.f,s.g,Y6 s.W t⟩
def xZ (s:zed):Nat→zed
 |0=>s
 |n+1=>zbh (xZ s n) n
def jW (B:List Int):Nat→List Int
 |0=>List.replicate 16 0
 |i+1=>(jW B i).set (i / 4) (bits .or .u32 ((jW B i).getD (i / 4) 0*256 % 4294967296) (B.getD i 0 % 4294967296))
theorem Xy (B:List Int):∀i,(jW B i).length=16
 |0=>by simp[jW]
 |i+1=>by simp[jW,Xy B i]
theorem zcc {s:zed} (h:s.W.length=16):∀n,(xZ s n).W.length=16
 |0=>h
 |n+1=>by simp[xZ,zbh,ziJ,zcc h n]
def jr (S B:List Int):List Int:=
 let r:=xZ ⟨S.getD 0 0,S.getD 1 0,S.getD 2 0,S.getD 3 0,S.getD 4 0,S.getD 5 0,S.getD 6 0,S.getD 7 0,jW B 64⟩ 64
 [(S.getD 0 0+r.a) % 4294967296,(S.getD 1 0+r.b) % 4294967296,(S.getD 2 0+r.c) % 4294967296,(S.getD 3 0+r.d) % 4294967296,(S.getD 4 0+r.e) % 4294967296,(S.getD 5 0+r.f) % 4294967296,(S.getD 6 0+r.g) % 4294967296,(S.getD 7 0+r.h) % 4294967296]
theorem zm1 (w:World) (x:Int):Calls prog 201 #[.int .u32 x,.int .i64 (-2)] w λe w'=>e=.returned (.int .u32 (znX x))∧w=w':=by
 have a:bits .and .u64 (IntKind.u64.wrap (-2)) 31=30:=by decide+kernel
 go_enter Tryz.func201,Tryz.ntmps201
 go_wp2
 go_ret
 exact⟨rfl,rfl⟩
theorem zm2 (w:World) (x:Int):Calls prog 201 #[.int .u32 x,.int .i64 (-6)] w λe w'=>e=.returned (.int .u32 (zmZ x))∧w=w':=by
 have a:bits .and .u64 (IntKind.u64.wrap (-6)) 31=26:=by decide+kernel
 go_enter Tryz.func201,Tryz.ntmps201
 go_wp2
 go_ret
 exact⟨rfl,rfl⟩
theorem zm3 (w:World) (x:Int):Calls prog 201 #[.int .u32 x,.int .i64 (-7)] w λe w'=>e=.returned (.int .u32 (zm0 x))∧w=w':=by
 have a:bits .and .u64 (IntKind.u64.wrap (-7)) 31=25:=by decide+kernel
 go_enter Tryz.func201,Tryz.ntmps201
 go_wp2
 go_ret
 exact⟨rfl,rfl⟩
theorem zlr (w:World) (x:Int):Calls prog 201 #[.int .u32 x,.int .i64 (-11)] w λe w'=>e=.returned (.int .u32 (zkc x))∧w=w':=by
 have a:bits .and .u64 (IntKind.u64.wrap (-11)) 31=21:=by decide+kernel
 go_enter Tryz.func201,Tryz.ntmps201
 go_wp2
 go_ret
 exact⟨rfl,rfl⟩
theorem zls (w:World) (x:Int):Calls prog 201 #[.int .u32 x,.int .i64 (-13)] w λe w'=>e=.returned (.int .u32 (zme x))∧w=w':=by
 have a:bits .and .u64 (IntKind.u64.wrap (-13)) 31=19:=by decide+kernel
 go_enter Tryz.func201,Tryz.ntmps201
 go_wp2
 go_ret
 exact⟨rfl,rfl⟩
theorem zlt (w:World) (x:Int):Calls prog 201 #[.int .u32 x,.int .i64 (-17)] w λe w'=>e=.returned (.int .u32 (zkd x))∧w=w':=by
 have a:bits .and .u64 (IntKind.u64.wrap (-17)) 31=15:=by decide+kernel
 go_enter Tryz.func201,Tryz.ntmps201
 go_wp2
 go_ret
 exact⟨rfl,rfl⟩
theorem zlu (w:World) (x:Int):Calls prog 201 #[.int .u32 x,.int .i64 (-18)] w λe w'=>e=.returned (.int .u32 (zke x))∧w=w':=by
 have a:bits .and .u64 (IntKind.u64.wrap (-18)) 31=14:=by decide+kernel
 go_enter Tryz.func201,Tryz.ntmps201
 go_wp2
 go_ret
 exact⟨rfl,rfl⟩
theorem zlv (w:World) (x:Int):Calls prog 201 #[.int .u32 x,.int .i64 (-19)] w λe w'=>e=.returned (.int .u32 (zkf x))∧w=w':=by
 have a:bits .and .u64 (IntKind.u64.wrap (-19)) 31=13:=by decide+kernel
 go_enter Tryz.func201,Tryz.ntmps201
 go_wp2
 go_ret
 exact⟨rfl,rfl⟩
theorem zlw (w:World) (x:Int):Calls prog 201 #[.int .u32 x,.int .i64 (-22)] w λe w'=>e=.returned (.int .u32 (zmf x))∧w=w':=by
 have a:bits .and .u64 (IntKind.u64.wrap (-22)) 31=10:=by decide+kernel
 go_enter Tryz.func201,Tryz.ntmps201
 go_wp2
 go_ret
 exact⟨rfl,rfl⟩
theorem zlx (w:World) (x:Int):Calls prog 201 #[.int .u32 x,.int .i64 (-25)] w λe w'=>e=.returned (.int .u32 (zkg x))∧w=w':=by
 have a:bits .and .u64 (IntKind.u64.wrap (-25)) 31=7:=by decide+kernel
 go_enter Tryz.func201,Tryz.ntmps201
 go_wp2
 go_ret
 exact⟨rfl,rfl⟩
def J7 (W:List Int):Array Value:=(W.map YV).toArray
theorem zfz (W:List Int) (k:Nat) (v:Int):(J7 W).setIfInBounds k (.int .u32 v)=J7 (W.set k v):=by
 unfold J7
 rw[List.setIfInBounds_toArray,List.map_set]
 rfl
theorem ZO {q k:Nat} {W:List Int} {T:TypeId} {f:Nat×Nat} (h:w.heap[q]? =some (.cells (J7 W) T f)) (a:k<W.length):w.cell? ⟨q,k,none⟩=some (.int .u32 (W.getD k 0)):=by
 simp only[World.cell?,h,J7]
 simp[a,YV]
theorem yn {b i:Nat} {c:Array Value} {T:TypeId} (h:w.heap[b]? =some (.cells c T (0,0))):w.frozen? ⟨b,i,none⟩=false:=by simp[World.frozen?,h]
theorem zkB {q:Nat} {W:List Int} (hW:W.length=16) (p:w.heap[q]? =some (.cells (J7 W) 315 (0,0))) {t:Nat} (ht:t<64):
  Calls prog 202 #[.pointer (some ⟨q,0,none⟩),.int .i64 t] w λe w'=>e=.returned (.int .u32 ((Y6 W t).getD (t % 16) 0))∧w'.heap[q]? =some (.cells (J7 (Y6 W t)) 315 (0,0))∧Fr (λj=>j=q) w w':=by
 have G:=J p
 obtain⟨k,r⟩:∃k,k=t % 16:=⟨_,rfl⟩
 have O:k<16:=by omega
 have e1:bits .and .i64 (t:Int) 15=(k:Int):=by rw[XV (by omega) (by omega),r];omega
 have N:=ZO (k:=k) p (by omega)
 have aa:(k:Int).toNat=k:=by omega
 have Z:(k:Int)<16:=by omega
 have X:(0:Int)≤(k:Int):=by omega
 have Y:¬(k:Int)<0:=by omega
 by_cases h16:t<16
 ·have j1:decide ((16:Int)≤(t:Int))=false:=by simp;omega
  have j2:(t:Int)<16:=by omega
  have o:=@J (Y6 W t=W) (by unfold Y6;rw[if_pos h16])
  rw[←r,o.o]
  generalize W.getD k 0=c at*
  clear p r o
  go_enter Tryz.func202,Tryz.ntmps202
  go_wp2
  go_ret
  exact⟨by rfl,G.o,Fr.refl _ _⟩
 ·have j1:decide ((16:Int)≤(t:Int))=true:=by simp;omega
  have j2:¬(t:Int)<16:=by omega
  obtain⟨b,m⟩:∃k,k=(t-2) % 16:=⟨_,rfl⟩
  obtain⟨a,f⟩:∃k,k=(t-15) % 16:=⟨_,rfl⟩
  obtain⟨d,n⟩:∃k,k=(t-7) % 16:=⟨_,rfl⟩
  have ag:IntKind.i64.wrap ((t:Int)-2)=(t:Int)-2:=IntWalk.i64_in _ (by omega)
  have Q:IntKind.i64.wrap ((t:Int)-15)=(t:Int)-15:=IntWalk.i64_in _ (by omega)
  have ah:IntKind.i64.wrap ((t:Int)-7)=(t:Int)-7:=IntWalk.i64_in _ (by omega)
  have e2:bits .and .i64 ((t:Int)-2) 15=(b:Int):=by rw[XV (by omega) (by omega),m];omega
  have V:bits .and .i64 ((t:Int)-15) 15=(a:Int):=by rw[XV (by omega) (by omega),f];omega
  have e7:bits .and .i64 ((t:Int)-7) 15=(d:Int):=by rw[XV (by omega) (by omega),n];omega
  have l2:b<16:=by omega
  have ad:a<16:=by omega
  have l7:d<16:=by omega
  have i2:(b:Int)<16:=by omega
  have ab:(a:Int)<16:=by omega
  have i7:(d:Int)<16:=by omega
  have o2:(0:Int)≤(b:Int):=by omega
  have af:(0:Int)≤(a:Int):=by omega
  have o7:(0:Int)≤(d:Int):=by omega
  have n2:(b:Int).toNat=b:=by omega
  have ae:(a:Int).toNat=a:=by omega
  have n7:(d:Int).toNat=d:=by omega
  have R:=J (ZO (k:=b) p (by omega))
  have B:=J (ZO (k:=a) p (by omega))
  have S:=J (ZO (k:=d) p (by omega))
  have T:=J N
  have o:=@J (Y6 W t=W.set k (zfC (W.getD b 0) (W.getD a 0) (W.getD d 0) (W.getD k 0))) (by unfold Y6;rw[if_neg h16,r,m,f,n])
  have E:=@J ((W.set k (zfC (W.getD b 0) (W.getD a 0) (W.getD d 0) (W.getD k 0))).getD k 0=zfC (W.getD b 0) (W.getD a 0) (W.getD d 0) (W.getD k 0)) (by
   have:k<W.length:=by omega
   simp[this])
  rw[←r]
  generalize W.getD b 0=x at*
  generalize W.getD a 0=y at*
  generalize W.getD d 0=u at*
  generalize W.getD k 0=c at*
  clear N r m f n
  go_enter Tryz.func202,Tryz.ntmps202
  go_wp2
  refine wrLx [ff,ff,ff,ff,ff,ff,ff,ff,ff,ff,ff,ff,ff,ff,ff,ff] (λw'=>w'.cell? ⟨q,b,none⟩=some (.int .u32 x)∧w'.cell? ⟨q,a,none⟩=some (.int .u32 y)) ?_ (λK hK=>?_)
  ·exact⟨(frN w).drew.cell R.o id,(frN w).drew.cell B.o id⟩
  repeat((first|(refine zl rfl ?_;constructor;constructor;(focus(rintro w' ⟨s1,s2⟩;exact goS)))|(refine zm rfl ?_));try simp only[Act.put,pA,pB,pC])
  refine zL (hK.out _ _ ?_)
  have A:=J (frN w).drew
  generalize w.drew=g at*
  have H:=tru
  have I:=tru
  have L:=tru
  have M:=tru
  go_upto_region 5 with(first|(have mk:=H.o;go_at_call 201;refine(zlt _ _).mono ?_;rintro e F ⟨rfl,rfl⟩;clear mk H)|(have mk:=I.o;go_at_call 201;refine(zlv _ _).mono ?_;rintro e F ⟨rfl,rfl⟩;clear mk I)|(have mk:=L.o;go_at_call 201;refine(zm3 _ _).mono ?_;rintro e F ⟨rfl,rfl⟩;clear mk L)|(have mk:=M.o;go_at_call 201;refine(zlu _ _).mono ?_;rintro e F ⟨rfl,rfl⟩;clear mk M))
  have s:=J ((A.o.trans0 (frN g).drew).obj G.o id)
  have FK:=yn (i:=k) s.o
  have C:=(A.o.trans0 (frN g).drew).cell T.o id
  refine yp [ff,ff,ff,ff,ff,ff,ff,ff,ff,ff,ff,ff,ff,ff,ff,ff,ff,ff,ff,ff,tt] (λw'=>w'.cell? ⟨q,k,none⟩=some (.int .u32 c)∧w'.cell? ⟨q,d,none⟩=some (.int .u32 u)) (by kernel_rfl) (by kernel_rfl) 20 (by kernel_rfl) (by kernel_rfl) ?_ (λK hK=>?_)
  ·exact⟨C,(A.o.trans0 (frN g).drew).cell S.o id⟩
  repeat((first|(refine yb rfl ?_;constructor;constructor;(focus(first|(rintro w' ⟨s1,s2⟩;exact goS))))|(refine yc rfl ?_));try simp only[Act.put,pA,pB,pC])
  (refine ya rfl (λK' hK'=>?_))
  go_simp
  refine hK'.out _ _ (λh=>absurd rfl h) (λhS=>?_)
  refine xA (hK.out _ _ ?_)
  generalize P:IntKind.u32.wrap (c+IntKind.u32.wrap (IntKind.u32.wrap (bits .xor .u32 (bits .xor .u32 (zkd x) (zkf x)) (x / 1024)+u)+bits .xor .u32 (bits .xor .u32 (zm0 y) (zke y)) (y / 8)))=v at*
  have z:zfC x y u c=v:=P
  rw[z] at o E
  have l:=@J ((g.setCell ⟨q,k,none⟩ (.int .u32 v)).heap[q]? =some (.cells (J7 (W.set k v)) 315 (0,0))) (by
   have:=heap_setCell_same g q k _ _ (.int .u32 v) s.o
   rw[zfz] at this
   exact this)
  have c9:(g.setCell ⟨q,k,none⟩ (.int .u32 v)).drew.cell? ⟨q,k,none⟩=some (.int .u32 v):=by
   have:=ZO (k:=k) l.o (by simp;omega)
   rw[E.o] at this
   exact this
  have U:=@J (Fr (λj=>j=q) w (g.setCell ⟨q,k,none⟩ (.int .u32 v)).drew) (((A.o.of0 (W:=λj=>j=q)).setCell ⟨q,k,none⟩ (.inr rfl) _).drew)
  have D:=@J ((g.setCell ⟨q,k,none⟩ (.int .u32 v)).drew.heap[q]? =some (.cells (J7 (W.set k v)) 315 (0,0))) (l.o)
  clear P z l
  generalize (g.setCell ⟨q,k,none⟩ (.int .u32 v)).drew=w9 at*
  go_wp2
  go_ret
  exact⟨by rw[o.o,E.o];rfl,by rw[o.o];exact D.o,U.o⟩
end Go.Proofs.YtdkkjchclkjleaaGreatDoor
namespace Go
section
variable {P:Program} {ops:Array Oper} {Q:Exit→Act→World→Prop} {a:Act} {w:World} {rest:List Oper} {o:Oper}
theorem yv (d:Tmp) {op:Op} {t:TypeId} {pos:String} {after:Array Edge} {guard:Option (Nat×Bool)} (h:wpList P ops Q ({dst:=some d,op:=op,type:=t,pos:=pos,after:=after,guard:=guard}::rest) a w):wpList P ops Q ({dst:=some d,op:=op,type:=t,pos:=pos,after:=after,guard:=guard}::rest) a w:=h
theorem zv {op:Op} {t:TypeId} {pos:String} {after:Array Edge} {guard:Option (Nat×Bool)} (h:wpList P ops Q ({dst:=none,op:=op,type:=t,pos:=pos,after:=after,guard:=guard}::rest) a w):wpList P ops Q ({dst:=none,op:=op,type:=t,pos:=pos,after:=after,guard:=guard}::rest) a w:=h
theorem zt (h:wpList P ops Q (o::rest) a w):wpList P ops Q (o::rest) a w:=h
end
end Go
namespace Go.Proofs.YtdkkjchclkjleaaGreatDoor
open Go Go.RowKit Go.Maps Go.MapKept
open Go.Proofs.Tryz(prog)
open List(mem_map getElem?_eq_getElem mem_append mem_of_getElem? mem_cons length_append length_map mem_singleton mem_filter map_append length_take getElem?_map all_eq_true nodup_cons map_cons length_cons mem_range append_assoc getElem?_append_left nil_append size_toArray getElem?_append_right eq_nil_of_length_eq_zero flatMap_cons mem_iff_getElem? take_append_drop pairwise_cons getElem?_eq_none length_drop getElem?_inj)
open Nat(le_refl zero_le le_trans zero_add lt_of_lt_of_le mul_le_mul_right)
variable {w:World}
structure Ze (w:World):Prop where
 k:∀(j:Nat) (x:Int),ziu[j]? =some x→w.cell? ⟨3,j,none⟩=some (.int .u32 x)
 i:∀(j:Nat) (x:Int),zit[j]? =some x→w.cell? ⟨0,j,none⟩=some (.int .u32 x)
theorem Ze.keep {w w':World} (h:Ze w) {W:Nat→Prop} (f:Fr W w w') (a:¬W 0) (b:¬W 3):Ze w':=⟨λj x e=>f.cell (h.k j x e) b,λj x e=>f.cell (h.i j x e) a⟩
theorem zlA (h:Ze w) {t:Nat} (a:t<64):w.cell? ⟨3,t,none⟩=some (.int .u32 (ziu.getD t 0)):=h.k t _ (by
 have:t<ziu.length:=a
 rw[List.getD_eq_getElem?_getD,getElem?_eq_getElem this]
 rfl)
theorem zkP (w:World) (a b c d:Obj):((((w.alloc a).alloc b).alloc c).alloc d).heap[w.heap.size]? =some a∧((((w.alloc a).alloc b).alloc c).alloc d).heap[w.heap.size+1]? =some b∧((((w.alloc a).alloc b).alloc c).alloc d).heap[w.heap.size+1+1]? =some c∧((((w.alloc a).alloc b).alloc c).alloc d).heap[w.heap.size+1+1+1]? =some d∧Fr No w ((((w.alloc a).alloc b).alloc c).alloc d):=
 ⟨JE (JE (JE (yj w a) b) c) d,JE (JE (yJ (w.alloc a) b (by simp)) c) d,JE (yJ ((w.alloc a).alloc b) c (by simp)) d,yJ (((w.alloc a).alloc b).alloc c) d (by simp),(((((frN w).alloc a).alloc b).alloc c).alloc d)⟩
theorem vx {b:Nat} {cs:List Value} {T:TypeId} {a:Nat×Nat} (h:w.heap[b]? =some (.cells cs.toArray T a)):w.rangeAt b 0 cs:=λj v c=>by
 simp only[World.cell?,h]
 simpa using c
theorem zjD:(prog.info? 268).map (·.size)=some 64:=by kernel_rfl
theorem zjl:∃d,prog.underlying 268=some d∧d.isRow=true:=jf (by kernel_rfl)
theorem zk4 {B:List Int} (d:B.length=64) {i:Nat} (hi:i<64) (w:World):(Instr.index 268 (.agg (B.map zN).toArray) (.int .i64 i)).run prog w=.ok (.int .u8 (B.getD i 0)) w:=by
 have b:(0≤(i:Int)∧(i:Int)<((64:Nat):Int)):=by omega
 have c:(sizeOf 5).run prog w=.ok 1 w:=by kernel_rfl
 simp[Instr.index,run_underlying Tryz.underlying268,asIntOf,b,c,part,go_sem]
 have a:i<B.length:=by omega
 rw[getElem?_eq_getElem a]
 simp[hi,zN]
theorem zhx (hg:Ze w) (x:3<w.heap.size) {S B:List Int} (hS:S.length=8) (hB:B.length=64):
  Calls prog 183 #[.agg (J7 S),.agg (B.map zN).toArray] w λe w'=>e=.returned (.agg (J7 (jr S B)))∧Fr No w w':=by
 have z8:∀w,(zeroValue 267).run prog w=.ok (.agg (J7 [0,0,0,0,0,0,0,0])) w:=λw=>by kernel_rfl
 have av:∀w,(zeroValue 315).run prog w=.ok (.agg (J7 [0,0,0,0,0,0,0,0,0,0,0,0,0,0,0,0])) w:=λw=>by kernel_rfl
 obtain⟨au,ar,aq⟩:=zjl
 obtain⟨b1,b2,b3,b4,f4⟩:=zkP w (.cells (J7 S) 267) (.cells (B.map zN).toArray 268) (.cells (J7 [0,0,0,0,0,0,0,0]) 267) (.cells (J7 [0,0,0,0,0,0,0,0,0,0,0,0,0,0,0,0]) 315)
 have B1:=J b1
 have R2:=J (vx b2)
 have B3:=J b3
 have B4:=J b4
 have F4:=J f4
 have HG:=J hg
 have HW:=J x
 have BL:=@J ((B.map zN).length=64) (by simp[hB])
 have HS:=J hS
 have ai:=J hB
 clear hg b1 b2 b3 b4 f4 x hS hB
 go_enter Tryz.func183,Tryz.ntmps183
 go_wp2_with ((with_reducible refine yv 19 ?_);refine zg rfl (z7 (ty:=268) rfl rfl R2.o ar aq (by rw[BL.o];exact zjD)) ?_;generalize (((w.alloc (.cells (J7 S) 267)).alloc (.cells (B.map zN).toArray 268)).alloc (.cells (J7 [0,0,0,0,0,0,0,0]) 267)).alloc (.cells (J7 [0,0,0,0,0,0,0,0,0,0,0,0,0,0,0,0]) 315)=w4 at*)
 go_loopw [20] (λO wr=>∃i:Nat,O=.int .i64 i∧i≤64∧wr.heap[w.heap.size+1+1+1]? =some (.cells (J7 (jW B i)) 315 (0,0))∧Fr (λj=>j=w.heap.size+1+1+1) w4 wr) (λO _=>64-(intOf O).toNat)
 case atStart=>exact⟨0,rfl,by omega,B4.o,Fr.refl _ _⟩
 case round=>
  obtain⟨i,rfl,hi,hb,fr⟩:=hrel
  have FR:=J fr
  have HB:=J hb
  clear fr hb
  by_cases h:i<64
  ·have i1:(i:Int)<64:=by omega
   have hx:=zk4 ai.o h
   obtain⟨k,q⟩:∃k,k=i / 4:=⟨_,rfl⟩
   have ao:k<16:=by omega
   have ki:(k:Int)<16:=by omega
   have k0:(0:Int)≤(k:Int):=by omega
   have kn:(k:Int).toNat=k:=by omega
   have kd:(i:Int) / 4=(k:Int):=by omega
   have ck:=ZO (k:=k) HB.o (by rw[Xy];exact ao)
   have fz:=yn (i:=k) HB.o
   have FS:=@J (jW B (i+1)=(jW B i).set k (bits .or .u32 ((jW B i).getD k 0*256 % 4294967296) (B.getD i 0 % 4294967296))) (by rw[jW,←q])
   have ak:=J (λv=>heap_setCell_same wr (w.heap.size+1+1+1) k _ _ (.int .u32 v) HB.o)
   generalize (jW B i).getD k 0=c at*
   generalize B.getD i 0=y at*
   clear q
   go_wp2
   go_roundw
   case rel=>exact⟨i+1,by simp,by omega,by rw[FS.o,←zfz];exact ak.o _,FR.o.setCell _ (.inr rfl) _⟩
   case measure=>show 64-(i+1)<64-i;omega
  ·have i1:¬(i:Int)<64:=by omega
   obtain rfl:i=64:=by omega
   have ad:=FR.o.obj B1.o (by omega)
   have ae:=FR.o.obj B3.o (by omega)
   have sc:∀k,k<8→wr.cell? ⟨w.heap.size,k,none⟩=some (.int .u32 (S.getD k 0)):=λk q=>ZO ad (by rw[HS.o];exact q)
   generalize A:S.getD 0 0=Q at*
   generalize C:S.getD 1 0=R at*
   generalize D:S.getD 2 0=T at*
   generalize E:S.getD 3 0=U at*
   generalize F:S.getD 4 0=V at*
   generalize G:S.getD 5 0=X at*
   generalize H:S.getD 6 0=Y at*
   generalize I:S.getD 7 0=Z at*
   have CS:=@J (∀n,Fr No wr n→n.cell? ⟨w.heap.size,0,none⟩=some (.int .u32 Q)∧n.cell? ⟨w.heap.size,1,none⟩=some (.int .u32 R)∧n.cell? ⟨w.heap.size,2,none⟩=some (.int .u32 T)∧n.cell? ⟨w.heap.size,3,none⟩=some (.int .u32 U)∧n.cell? ⟨w.heap.size,4,none⟩=some (.int .u32 V)∧n.cell? ⟨w.heap.size,5,none⟩=some (.int .u32 X)∧n.cell? ⟨w.heap.size,6,none⟩=some (.int .u32 Y)∧n.cell? ⟨w.heap.size,7,none⟩=some (.int .u32 Z)) (λn f=>by
    have z:=λk q=>f.cell (sc k q) id
    have c0:=z 0 (by omega)
    have c1:=z 1 (by omega)
    have c2:=z 2 (by omega)
    have c3:=z 3 (by omega)
    have c4:=z 4 (by omega)
    have c5:=z 5 (by omega)
    have c6:=z 6 (by omega)
    have c7:=z 7 (by omega)
    simp only[A,C,D,E,F,G,H,I] at*
    exact⟨c0,c1,c2,c3,c4,c5,c6,c7⟩)
   have ag:=J ae
   have al:=J HB.o
   clear ad ae sc
   go_upto_region 7 with fail
   refine wrLx [ff,ff,ff,ff,ff,ff,ff,ff,ff,ff,ff,ff,ff,ff,ff,ff,ff,ff,ff,ff,ff,ff,ff,ff] (λW=>W.cell? ⟨w.heap.size,0,none⟩=some (.int .u32 Q)∧W.cell? ⟨w.heap.size,1,none⟩=some (.int .u32 R)∧W.cell? ⟨w.heap.size,2,none⟩=some (.int .u32 T)∧W.cell? ⟨w.heap.size,3,none⟩=some (.int .u32 U)∧W.cell? ⟨w.heap.size,4,none⟩=some (.int .u32 V)∧W.cell? ⟨w.heap.size,5,none⟩=some (.int .u32 X)∧W.cell? ⟨w.heap.size,6,none⟩=some (.int .u32 Y)∧W.cell? ⟨w.heap.size,7,none⟩=some (.int .u32 Z)) ?_ (λK hK=>?_)
   ·exact CS.o _ (frN _).drew
   repeat((first|(refine zl rfl ?_;constructor;constructor;(focus(rintro w' ⟨c0,c1,c2,c3,c4,c5,c6,c7⟩;exact goS)))|(refine zm rfl ?_));try simp only[Act.put,pA,pB,pC])
   refine zL (hK.out _ _ ?_)
   have FB:=J (frN wr).drew
   generalize wr.drew=wb at*
   have af:=Xy B 64
   generalize aa:jW B 64=WF at*
   have an:=J aa
   clear aa
   obtain⟨l,M⟩:∃l:zed,l=⟨Q,R,T,U,V,X,Y,Z,WF⟩:=⟨_,rfl⟩
   have p:=J M
   have SL:=@J (l.W.length=16) (by rw[M];exact af)
   clear M af
   go_wp2
   go_loopw [8,9,10,11,12,13,14,15,52] (λva vb vc vd ve vf vg vh O wi=>∃t:Nat,O=.int .i64 t∧t≤64∧va=.int .u32 (xZ l t).a∧vb=.int .u32 (xZ l t).b∧vc=.int .u32 (xZ l t).c∧vd=.int .u32 (xZ l t).d∧ve=.int .u32 (xZ l t).e∧vf=.int .u32 (xZ l t).f∧vg=.int .u32 (xZ l t).g∧vh=.int .u32 (xZ l t).h∧wi.heap[w.heap.size+1+1+1]? =some (.cells (J7 (xZ l t).W) 315 (0,0))∧Fr (λj=>j=w.heap.size+1+1+1) wb wi) (λ_ _ _ _ _ _ _ _ O _=>64-(intOf O).toNat)
   case atStart=>exact⟨0,rfl,by omega,by rw[p.o];rfl,by rw[p.o];rfl,by rw[p.o];rfl,by rw[p.o];rfl,by rw[p.o];rfl,by rw[p.o];rfl,by rw[p.o];rfl,by rw[p.o];rfl,by rw[p.o];exact FB.o.obj al.o id,Fr.refl _ _⟩
   case round=>
    obtain⟨t,rfl,ht,rfl,rfl,rfl,rfl,rfl,rfl,rfl,rfl,hb,fr⟩:=hrel
    have o:=J fr
    have aj:=J hb
    have WL:=J (zcc SL.o t)
    clear fr hb
    by_cases h:t<64
    ·have i1:(t:Int)<64:=by omega
     have i0:(0:Int)≤(t:Int):=by omega
     have tn:(t:Int).toNat=t:=by omega
     have SN:=@J (xZ l (t+1)=zbh (xZ l t) t) (rfl)
     generalize xZ l t=s at*
     obtain⟨a,b,c,d,e,f,g,hh,W⟩:=s
     generalize L:ziu.getD t 0=kt at*
     generalize N:(Y6 W t).getD (t % 16) 0=wt at*
     have q:=zlA HG.o h
     rw[L] at q
     have x:=HW.o
     have CK:=@J (∀n,Fr (λj=>j=w.heap.size+1+1+1) wb n→n.cell? ⟨3,t,none⟩=some (.int .u32 kt)) (λn f=>by
      have c1:=F4.o.cell q id
      have c2:=FR.o.cell c1 (show ¬(3:Nat)=_ by omega)
      exact f.cell (FB.o.cell c2 id) (show ¬(3:Nat)=_ by omega))
     clear q x
     have M0:=tru
     have M1:=tru
     have M2:=tru
     have M3:=tru
     have M4:=tru
     have M5:=tru
     go_upto_region 12 with(first|(have mk:=M0.o;go_at_call 201;refine(zm2 _ _).mono ?_;rintro e w2 ⟨rfl,rfl⟩;clear mk M0)|(have mk:=M1.o;go_at_call 201;refine(zlr _ _).mono ?_;rintro e w2 ⟨rfl,rfl⟩;clear mk M1)|(have mk:=M2.o;go_at_call 201;refine(zlx _ _).mono ?_;rintro e w2 ⟨rfl,rfl⟩;clear mk M2))
     have fd:=(frN wr).drew
     refine wrLx [ff,ff,ff,ff,ff,ff,ff,ff,ff,ff,ff,ff,ff,tt,ff,ff,ff] (λn=>n.cell? ⟨3,t,none⟩=some (.int .u32 kt)) ?_ (λK hK=>?_)
     ·exact CK.o _ (o.o.trans0 fd)
     repeat((first|(refine zl rfl ?_;constructor;constructor;(focus(rintro w' _;exact goS)))|(refine zm rfl ?_));try simp only[Act.put,pA,pB,pC])
     (refine zF rfl (λK' hK'=>?_))
     go_simp
     refine(zkB WL.o (fd.obj aj.o id) h).mono ?_
     rintro e' w6 ⟨rfl,ab,f6⟩
     rw[N]
     have F6:=J ((o.o.trans0 fd).trans f6 (λ_ _ h=>h))
     have ah:=J ab
     clear ab f6 fd
     refine nXt hK' ?_ λhS=>?_
     ·exact CK.o _ F6.o
     try simp only[Act.put,pA,pB,pC]
     repeat((first|(refine zl rfl ?_;constructor;constructor;(focus(rintro w' _;exact goS)))|(refine zm rfl ?_));try simp only[Act.put,pA,pB,pC])
     refine zL (hK.out _ _ ?_)
     generalize hP:IntKind.u32.wrap ((hh+bits .xor .u32 (bits .xor .u32 (zmZ e) (zkc e)) (zkg e)) % 4294967296+IntKind.u32.wrap (IntKind.u32.wrap (bits .xor .u32 g (bits .and .u32 e (bits .xor .u32 f g))+kt)+wt))=P at*
     have SP:=@J (zlB ⟨a,b,c,d,e,f,g,hh,W⟩ t=P) (by unfold zlB;simp only[];rw[L,N];exact hP)
     clear hP L N
     go_wp2_with (first|(have mk:=M3.o;go_at_call 201;refine(zm1 _ _).mono ?_;rintro e w2 ⟨rfl,rfl⟩;clear mk M3)|(have mk:=M4.o;go_at_call 201;refine(zls _ _).mono ?_;rintro e w2 ⟨rfl,rfl⟩;clear mk M4)|(have mk:=M5.o;go_at_call 201;refine(zlw _ _).mono ?_;rintro e w2 ⟨rfl,rfl⟩;clear mk M5))
     have r:=@J (xZ l (t+1)=⟨(P+znY ⟨a,b,c,d,e,f,g,hh,W⟩) % 4294967296,a,b,c,(d+P) % 4294967296,e,f,g,Y6 W t⟩) (by rw[SN.o];unfold zbh;rw[SP.o])
     go_roundw
     case rel=>exact⟨t+1,by simp,by omega,by rw[r.o];rfl,by rw[r.o],by rw[r.o],by rw[r.o],by rw[r.o],by rw[r.o],by rw[r.o],by rw[r.o],by rw[r.o];exact ah.o,F6.o⟩
     case measure=>show 64-(t+1)<64-t;omega
    ·have i1:¬(t:Int)<64:=by omega
     obtain rfl:t=64:=by omega
     have SB:=@J (jr S B=[(Q+(xZ l 64).a) % 4294967296,(R+(xZ l 64).b) % 4294967296,(T+(xZ l 64).c) % 4294967296,(U+(xZ l 64).d) % 4294967296,(V+(xZ l 64).e) % 4294967296,(X+(xZ l 64).f) % 4294967296,(Y+(xZ l 64).g) % 4294967296,(Z+(xZ l 64).h) % 4294967296]) (by
      unfold jr
      simp only[A,C,D,E,F,G,H,I,an.o,←p.o])
     generalize xZ l 64=m at*
     obtain⟨k0,k1,k2,k3,k4,k5,k6,k7⟩:=CS.o _ FB.o
     have q0:=o.o.cell k0 (show ¬w.heap.size=_ by omega)
     have q1:=o.o.cell k1 (show ¬w.heap.size=_ by omega)
     have q2:=o.o.cell k2 (show ¬w.heap.size=_ by omega)
     have q3:=o.o.cell k3 (show ¬w.heap.size=_ by omega)
     have q4:=o.o.cell k4 (show ¬w.heap.size=_ by omega)
     have q5:=o.o.cell k5 (show ¬w.heap.size=_ by omega)
     have q6:=o.o.cell k6 (show ¬w.heap.size=_ by omega)
     have q7:=o.o.cell k7 (show ¬w.heap.size=_ by omega)
     have HR:=J (o.o.obj (FB.o.obj ag.o id) (show ¬w.heap.size+1+1=_ by omega))
     have FF:=@J (Fr No w wr) ((F4.o.trans (FR.o.trans (FB.o.of0 (W:=λj=>j=w.heap.size+1+1+1)) (λ_ _ h=>h)) (λi hi e=>by omega)).trans o.o (λi hi e=>by omega))
     have bl:∀(x0 x1 x2 x3 x4 x5 x6 x7:Int) (w:World),(Instr.build 267 #[(0,.int .u32 x0),(1,.int .u32 x1),(2,.int .u32 x2),(3,.int .u32 x3),(4,.int .u32 x4),(5,.int .u32 x5),(6,.int .u32 x6),(7,.int .u32 x7)]).run prog w=.ok (.agg [.int .u32 x0,.int .u32 x1,.int .u32 x2,.int .u32 x3,.int .u32 x4,.int .u32 x5,.int .u32 x6,.int .u32 x7].toArray) w:=by
      intros
      kernel_rfl
     clear k0 A k1 C k2 D k3 E k4 F k5 G k6 H k7 I
     go_wp2_with (first|((with_reducible refine yv 144 ?_);refine zg rfl (yk (t:=267) rfl rfl (bl _ _ _ _ _ _ _ _ _)) ?_)|((with_reducible refine zv ?_);refine zi rfl (zK (ty:=267) (b:=w.heap.size+1+1) (off:=0) (cs:=[(.int .u32 ((Q+m.a) % 4294967296):Value),(.int .u32 ((R+m.b) % 4294967296):Value),(.int .u32 ((T+m.c) % 4294967296):Value),(.int .u32 ((U+m.d) % 4294967296):Value),(.int .u32 ((V+m.e) % 4294967296):Value),(.int .u32 ((X+m.f) % 4294967296):Value),(.int .u32 ((Y+m.g) % 4294967296):Value),(.int .u32 ((Z+m.h) % 4294967296):Value)]) rfl rfl rfl (zX HR.o (by simp[J7])) (by kernel_rfl) (by intro u hu;simp only[mem_cons,List.not_mem_nil,or_false] at hu;rcases hu with rfl|rfl|rfl|rfl|rfl|rfl|rfl|rfl<;>rfl)) ?_))
     have HE:=@J ((wr.setCells (w.heap.size+1+1) 0 [(.int .u32 ((Q+m.a) % 4294967296):Value),(.int .u32 ((R+m.b) % 4294967296):Value),(.int .u32 ((T+m.c) % 4294967296):Value),(.int .u32 ((U+m.d) % 4294967296):Value),(.int .u32 ((V+m.e) % 4294967296):Value),(.int .u32 ((X+m.f) % 4294967296):Value),(.int .u32 ((Y+m.g) % 4294967296):Value),(.int .u32 ((Z+m.h) % 4294967296):Value)]).heap[w.heap.size+1+1]? =some (.cells (J7 (jr S B)) 267 (0,0))) (by
      have:=xw (w.heap.size+1+1) 267 [(.int .u32 ((Q+m.a) % 4294967296):Value),(.int .u32 ((R+m.b) % 4294967296):Value),(.int .u32 ((T+m.c) % 4294967296):Value),(.int .u32 ((U+m.d) % 4294967296):Value),(.int .u32 ((V+m.e) % 4294967296):Value),(.int .u32 ((X+m.f) % 4294967296):Value),(.int .u32 ((Y+m.g) % 4294967296):Value),(.int .u32 ((Z+m.h) % 4294967296):Value)] 0 wr _ HR.o
      rw[this,SB.o]
      simp[J7,setM,YV])
     exact bodyPost_ret (v:=.agg (J7 (jr S B))) (results_cell_row (P:=prog) (fn:=Tryz.f183) rfl _ _ (w.heap.size+1+1) 267 (J7 (jr S B)) (0,0) _ rfl HE.o Tryz.underlying267 rfl (by kernel_rfl)) rfl ⟨rfl,FF.o.trans (zu _ _ _ _) (λi hi e=>by omega)⟩
structure j4 where
 st:List Int
 op:List Int
 n:Nat
def xY (h:j4) (x:Int):j4:=⟨if(h.n+1) % 64=0 then jr h.st (h.op.set (h.n % 64) x) else h.st,h.op.set (h.n % 64) x,h.n+1⟩
def YQ (xs:List Int):Nat→List Int→List Int
 |_,[]=>xs
 |o,c::cs=>YQ (xs.set o c) (o+1) cs
theorem Yx:∀(cs xs:List Int) (o:Nat),(YQ xs o cs).length=xs.length
 |[],_,_=>rfl
 |c::cs,xs,o=>by rw[YQ,Yx cs,List.length_set]
theorem zfn:∀(cs xs:List Int) (o:Nat) (A C:List Value),o+cs.length≤xs.length→setM (A++xs.map zN++C) (A.length+o) (cs.map zN)=A++(YQ xs o cs).map zN++C
 |[],_,_,_,_,_=>by simp[setM,YQ]
 |c::cs,xs,o,A,C,h=>by
  simp only[length_cons] at h
  rw[map_cons,setM,YQ]
  have:=zfn cs (xs.set o c) (o+1) A C (by rw[List.length_set];omega)
  rw[List.map_set] at this
  rw[←this]
  congr 1
  rw[append_assoc,List.set_append_right _ _ (by omega),append_assoc]
  congr 1
  rw[show A.length+o-A.length=o by omega,List.set_append_left _ _ (by rw[length_map];omega)]
def zhs (h:j4) (c:List Int):j4:=⟨if(h.n+c.length) % 64=0 then jr h.st (YQ h.op (h.n % 64) c) else h.st,YQ h.op (h.n % 64) c,h.n+c.length⟩
theorem zbq:∀(c:List Int) (h:j4),c≠[]→h.n % 64+c.length≤64→c.foldl xY h=zhs h c
 |[],_,hn,_=>absurd rfl hn
 |[x],h,_,_=>by simp[xY,zhs,YQ]
 |x::y::r,h,_,hl=>by
  simp only[length_cons] at hl
  have e:(h.n+1) % 64=h.n % 64+1:=by omega
  rw[List.foldl_cons,zbq (y::r) (xY h x) (by simp) (by simp only[xY,length_cons];omega)]
  have a:(xY h x).n=h.n+1:=rfl
  have b:(xY h x).op=h.op.set (h.n % 64) x:=rfl
  have d:(xY h x).st=h.st:=by unfold xY;simp only[];rw[if_neg (by omega)]
  unfold zhs
  rw[a,b,d,e,show h.n+1+(y::r).length=h.n+(x::y::r).length by simp only[length_cons];omega]
  rfl
def yV (h:j4):List Value:=h.st.map YV++h.op.map zN++[.int .u64 h.n]
structure vW (h:j4):Prop where
 st:h.st.length=8
 op:h.op.length=64
theorem VQ (S B:List Int):(jr S B).length=8:=rfl
theorem vW.add {h:j4} (ok:vW h) (x:Int):vW (xY h x):=⟨by unfold xY;simp only[];split;exact VQ _ _;exact ok.st,by simp[xY,ok.op]⟩
theorem vW.adds:∀ {l:List Int} {h:j4},vW h→vW (l.foldl xY h)
 |[],_,ok=>ok
 |x::r,_,ok=>vW.adds (l:=r) (ok.add x)
theorem XE:∀(l:List Int) (h:j4),(l.foldl xY h).n=h.n+l.length
 |[],_=>rfl
 |x::r,h=>by
  rw[List.foldl_cons,XE r]
  simp only[xY,length_cons]
  omega
theorem zeF {h:j4} (ok:vW h):(yV h).length=73:=by simp[yV,ok.st,ok.op]
theorem vG {p:Nat} {h:j4} {T:TypeId} (ok:vW h) (c:w.heap[p]? =some (.cells (yV h).toArray T (0,0))):
  w.rangeAt p 0 (h.st.map YV)∧w.rangeAt p 8 (h.op.map zN)∧w.cell? ⟨p,72,none⟩=some (.int .u64 h.n):=by
 have r:=vx c
 refine⟨λj v a=>r j v ?_,λj v a=>?_,?_⟩
 ·have:=(List.getElem?_eq_some_iff.1 a).1
  rw[yV,append_assoc,getElem?_append_left this];exact a
 ·have b:=(List.getElem?_eq_some_iff.1 a).1
  have:=r (8+j) v (by
   rw[yV,append_assoc,getElem?_append_right (by simp[ok.st]),getElem?_append_left (by simp[ok.st] at b⊢;omega)]
   simpa[ok.st] using a)
  rwa [zero_add] at this
 ·have:=r 72 (.int .u64 h.n) (by
   rw[yV,getElem?_append_right (by simp[ok.st,ok.op])]
   simp[ok.st,ok.op])
  simpa using this
end Go.Proofs.YtdkkjchclkjleaaGreatDoor
namespace Go
open Go.RowKit Go.Maps Go.MapKept
theorem Xm {P:Program} {t:TypeId} {w:World} {o:Oper} {a:Operand→Value} {parts:Array (Nat×Operand)} {vs:List (Nat×Value)} {cs:List Value} (b:o.op=.build t parts) (c:(parts.toList.map λ(i,x)=>(i,a x))=vs) (h:P.built t vs=some cs.toArray):
  (execOp a o).run P w=.ok (.value (.agg cs.toArray)) w:=by
 have:=run_build w t (parts.map λ(i,x)=>(i,a x)) _ (by rw[Array.toList_map,c];exact h)
 simp only[execOp,b,Sem.run_bind,this,Result.andThen_ok,Sem.run_pure]
end Go
namespace Go.Proofs.YtdkkjchclkjleaaGreatDoor
open Go Go.RowKit Go.Maps Go.MapKept
open Go.Proofs.Tryz(prog)
open List(mem_map getElem?_eq_getElem mem_append mem_of_getElem? mem_cons length_append length_map mem_singleton mem_filter map_append length_take getElem?_map all_eq_true nodup_cons map_cons length_cons mem_range append_assoc getElem?_append_left nil_append size_toArray getElem?_append_right eq_nil_of_length_eq_zero flatMap_cons mem_iff_getElem? take_append_drop pairwise_cons getElem?_eq_none length_drop getElem?_inj)
open Nat(le_refl zero_le le_trans zero_add lt_of_lt_of_le mul_le_mul_right)
variable {B l:List Int} {m p:Nat} {v:Value} {w w':World}
theorem XD {P:Program} {ops:Array Oper} {rest:List Oper} {o:Oper} {a:Act} {Q:Exit→Act→World→Prop} {s x:Operand} {e:Array TypeId} {d f v:Value} (i:o.guard=none)
  (c:o.op=.call {callee:=.builtin .copy,args:= #[s,x],argTypes:=e}) (j:a.eval s=d) (k:a.eval x=f)
  (b:(Builtin.copy_ e o.type #[d,f]).run P w=.ok v w') (h:wpList P ops Q rest (a.put o.dst v) w'):wpList P ops Q (o::rest) a w:=by
 refine wpList_plain i λK' hK'=>?_
 unfold Oper.wp
 have g:(execOp a.eval o).run P w=.ok (.value v) w':=by
  simp[execOp,c,resolve,j,k,invoke,builtin,b,Result.andThen]
 rw[g]
 exact hK' _ _ h
theorem zaE {n:Int} (a:0≤n) (b:n<18446744073709551616):bits .and .u64 n 63=n % 64:=bits_mask .u64 64 (by decide) (λn a b=>by simp[IntKind.wrap,IntKind.bits,IntKind.signed];omega) 6 (by decide) n a (by omega)
def Jg (w:World) (p:Nat) (v:Value) (l:List Int):Prop:=(l=[]∧∃a c,v=.slice a 0 c)∨∃b o c,v=.slice (some ⟨b,o,none⟩) l.length c∧b≠p∧w.rangeAt b o (l.map zN)∧l.length≤c
theorem Jg.keep (h:Jg w p v l) (f:Fr (λj=>j=p) w w'):Jg w' p v l:=by
 rcases h with h|⟨b,o,c,d,a,e,g⟩
 ·exact .inl h
 ·exact .inr ⟨b,o,c,d,a,za e f a,g⟩
theorem Jg.form (h:Jg w p v l):∃a c,v=.slice a l.length c:=by
 rcases h with⟨rfl,a,c,h⟩|⟨b,o,c,d,-⟩
 ·exact⟨a,c,h⟩
 ·exact⟨_,c,d⟩
theorem zjE:(prog.info? 267).map (·.size)=some 8:=by kernel_rfl
theorem zjm:∃d,prog.underlying 267=some d∧d.isRow=true:=jf (by kernel_rfl)
def zm6:Value→Nat
 |.slice _ n _=>n
 |_=>0
theorem za4 (hg:Ze w) (R:3<w.heap.size) {h:j4} (ok:vW h) (N:w.heap[p]? =some (.cells (yV h).toArray 270 (0,0))) (hp:p≠0∧p≠3) (hl:Jg w p v l) (hn:h.n+l.length≤4611686018427387904):
  Calls prog 156 #[.pointer (some ⟨p,0,none⟩),v] w λe w'=>e=.returned (.tuple #[])∧w'.heap[p]? =some (.cells (yV (l.foldl xY h)).toArray 270 (0,0))∧Fr (λj=>j=p) w w':=by
 have HG:=J hg
 have HW:=J R
 have V:=J hp
 have OK:=J ok
 have HB:=J N
 have HL:=J hl
 clear hg R hp ok N
 obtain⟨va,vc,rfl⟩:=hl.form
 clear hl
 go_enter Tryz.func156,Tryz.ntmps156
 refine wp_block ?_
 go_loopw [1] (λpv wr=>∃d r:List Int,l=d++r∧Jg wr p pv r∧wr.heap[p]? =some (.cells (yV (d.foldl xY h)).toArray 270 (0,0))∧Fr (λj=>j=p) w wr) (λpv _=>zm6 pv)
 case atStart=>exact⟨[],l,rfl,HL.o,HB.o,Fr.refl _ _⟩
 case round=>
  obtain⟨d,r,rfl,E,N,fr⟩:=hrel
  have L:=J fr
  have s:=J N
  have g:=J (OK.o.adds (l:=d))
  have ND:=J (XE d h)
  clear fr N
  generalize ae:d.foldl xY h=a at*
  by_cases hr:r=[]
  ·subst hr
   obtain⟨a0,c0,rfl⟩:=E.form
   clear E
   have j0:¬(0:Int)<0:=by omega
   go_wp2
   (try simp only[Exit.inBlock,Exit.then])
   refine bodyPost_end (results_none rfl _ _ _) rfl ?_
   exact⟨rfl,s.o,L.o⟩
  ·obtain⟨b,o,c,rfl,O,Q,ar⟩:=E.resolve_left (λe=>hr e.1)
   have r0:0<r.length:=by cases r with|nil=>exact absurd rfl hr|cons _ _=>simp
   have i1:(0:Int)<(r.length:Int):=by omega
   have aq:a.n+r.length≤4611686018427387904:=by rw[ND.o];simp only[length_append] at hn;omega
   obtain⟨t,ht⟩:∃t,t=a.n % 64:=⟨_,rfl⟩
   have av:t<64:=by omega
   have e1:bits .and .u64 (a.n:Int) 63=(t:Int):=by rw[zaE (by omega) (by omega),ht];omega
   have al:prog.arrayLen 268=64:=by kernel_rfl
   have t0:(0:Int)≤(t:Int):=by omega
   have t1:(t:Int)≤64:=by omega
   have tn:(t:Int).toNat=t:=by omega
   have tm:¬(64=t):=by omega
   have S1:=@J (∀w,(Instr.sliceAt 268 (.pointer (some ⟨p,8,none⟩)) (some (.int .i64 t)) none none).run prog w=.ok (.slice (some ⟨p,8+t,none⟩) (64-t) (64-t)) w) (λw=>by
    have i8:(sizeOf (prog.elem 268)).run prog w=.ok 1 w:=by kernel_rfl
    rw[run_sliceAt_array_l w _ _ (by kernel_rfl) .i64 t t0 (by rw[al];exact t1),i8]
    simp[slicedAt,al,tm,Zv])
   have s1:=S1.o
   obtain⟨h8,ad,ak⟩:=vG g.o s.o
   obtain⟨k,hk⟩:∃k,k=Nat.min r.length (64-t):=⟨_,rfl⟩
   have k1:0<k∧k≤r.length∧k≤64-t:=by rw[hk];refine⟨?_,Nat.min_le_left _ _,Nat.min_le_right _ _⟩;exact Nat.lt_min.2 ⟨r0,by omega⟩
   have T:=@J (((r.take k).map zN).length=k) (by rw[length_map,length_take];omega)
   have Z:=J (run_copy_cells (P:=prog) wr 106 106 3 5 p (8+t) (64-t) (64-t) ⟨b,o,none⟩ r.length c ((r.take k).map zN) Tryz.underlying106 (by kernel_rfl) (by rw[T.o,hk]) (λj v n=>by
     rw[Zv]
     refine Q j v ?_
     rw[getElem?_map] at n⊢
     rw[List.getElem?_take] at n
     split at n
     ·exact n
     ·simp at n) (λj n=>by
     have af:t+j<64:=by rw[T.o] at n;omega
     have:=ad (t+j) _ (getElem?_eq_getElem (by rw[length_map,g.o.op];exact af))
     rw[show 8+t+j=8+(t+j) by omega,this]
     rfl) (λj n=>yn s.o) (λv hv=>by obtain⟨x,-,rfl⟩:=mem_map.1 hv;rfl))
   rw[T.o] at Z
   obtain⟨H,D⟩:∃H:Option Addr,H=if c=k then some ⟨b,o,none⟩ else some ⟨b,o+k,none⟩:=⟨_,rfl⟩
   have S2:=@J (∀w,(Instr.slice 106 (.slice (some ⟨b,o,none⟩) r.length c) (some (.int .i64 k)) none none).run prog w=.ok (.slice H (r.length-k) (c-k)) w) (λw=>by
    have i8:(sizeOf (prog.elem 106)).run prog w=.ok 1 w:=by kernel_rfl
    rw[Go.run_slice_l (P:=prog) w 106 (some ⟨b,o,none⟩) r.length c (by kernel_rfl) IntKind.i64 (k:Int) (by omega) (by omega),i8,D]
    simp[sliced,Zv])
   have A2:=@J (c≠k→H=some ⟨b,o+k,none⟩) (λh=>by rw[D,if_neg h])
   clear D
   have s2:=S2.o
   have kk:(0:Int)≤(k:Int):=by omega
   have G:=@J ((wr.setCells p (8+t) ((r.take k).map zN)).heap[p]? =some (.cells (yV ⟨a.st,YQ a.op t (r.take k),a.n⟩).toArray 270 (0,0))) (by
    have:=xw p 270 ((r.take k).map zN) (8+t) wr _ s.o
    rw[this]
    have e:=zfn (r.take k) a.op t (a.st.map YV) [.int .u64 a.n] (by rw[length_take,g.o.op];omega)
    rw[length_map,g.o.st] at e
    unfold yV
    rw[List.toList_toArray,e])
   have FC:=J (zu p ((r.take k).map zN) (8+t) wr)
   have y:=@J (vW ⟨a.st,YQ a.op t (r.take k),a.n⟩) (⟨g.o.st,by rw[Yx];exact g.o.op⟩)
   obtain⟨z,X⟩:∃z,z=(a.n+k) % 64:=⟨_,rfl⟩
   have e3:((a.n:Int)+(k:Int)) % 18446744073709551616=(a.n:Int)+(k:Int):=by omega
   have e2:bits .and .u64 ((a.n:Int)+(k:Int)) 63=(z:Int):=by rw[zaE (by omega) (by omega),X];omega
   have NX:=@J ((d++r.take k).foldl xY h=zhs a (r.take k)) (by
    rw[List.foldl_append,ae]
    exact zbq _ _ (by intro e;have:=T.o;rw[e] at this;simp at this;omega) (by rw[length_take];omega))
   have AC:=@J (zhs a (r.take k)=⟨if z=0 then jr a.st (YQ a.op t (r.take k)) else a.st,YQ a.op t (r.take k),a.n+k⟩) (by
    have ag:(r.take k).length=k:=by rw[length_take];omega
    unfold zhs
    rw[ag,←X,←ht])
   have SP:=@J (d++r=(d++r.take k)++r.drop k) (by rw[append_assoc,take_append_drop])
   have BN:=@J (∀W,Fr (λj=>j=p) wr W→Jg W p (.slice H (r.length-k) (c-k)) (r.drop k)) (λW f=>by
    have ah:(r.drop k).length=r.length-k:=length_drop
    by_cases hck:c=k
    ·exact .inl ⟨eq_nil_of_length_eq_zero (by omega),H,c-k,by rw[show r.length-k=0 by omega]⟩
    ·refine .inr ⟨b,o+k,c-k,by rw[A2.o hck,ah],O,?_,by omega⟩
     refine za (λj v n=>?_) f O
     rw[getElem?_map,List.getElem?_drop] at n
     have:=Q (k+j) v (by rw[getElem?_map];exact n)
     rwa [show o+(k+j)=o+k+j by omega] at this)
   have ao:=k1.1
   clear ht hk
   by_cases hz0:z=0
   ·have j2:((z:Int)==0)=true:=by rw[hz0];rfl
    have au:a.st=a.st:=rfl
    clear X
    go_upto_region 6 with((with_reducible refine yv 21 ?_);refine XD rfl rfl rfl rfl Z.o ?_;generalize wr.setCells p (8+t) ((r.take k).map zN)=wc at*;have M:=(vG y.o G.o).2.2;have ab:=yn (i:=72) G.o)
    have A:=@J ((d++r.take k).foldl xY h=⟨jr a.st (YQ a.op t (r.take k)),YQ a.op t (r.take k),a.n+k⟩) (by rw[NX.o,AC.o,if_pos hz0])
    have fs:Fr (λj=>j=p) wc (wc.setCell ⟨p,72,none⟩ (.int .u64 ((a.n:Int)+(k:Int)))):=(Fr.refl (λj=>j=p) wc).setCell ⟨p,72,none⟩ (.inr rfl) _
    have F:=@J (Fr (λj=>j=p) wr (wc.setCell ⟨p,72,none⟩ (.int .u64 ((a.n:Int)+(k:Int))))) (FC.o.trans fs (λ_ _ h=>h))
    have m:=@J (vW ⟨a.st,YQ a.op t (r.take k),a.n+k⟩) (⟨y.o.st,y.o.op⟩)
    have H9:=@J ((wc.setCell ⟨p,72,none⟩ (.int .u64 ((a.n:Int)+(k:Int)))).heap[p]? =some (.cells (yV ⟨a.st,YQ a.op t (r.take k),a.n+k⟩).toArray 270 (0,0))) (by
     have:=heap_setCell_same wc p 72 _ _ (.int .u64 ((a.n:Int)+(k:Int))) G.o
     rw[this]
     congr 2
     simp only[yV,List.setIfInBounds_toArray]
     rw[List.set_append_right _ _ (by simp[g.o.st,Yx,g.o.op])]
     simp[g.o.st,Yx,g.o.op])
    have u:=J g.o.st
    have B:=J m.o.op
    generalize YQ a.op t (r.take k)=q at*
    generalize wc.setCell ⟨p,72,none⟩ (.int .u64 ((a.n:Int)+(k:Int)))=I at*
    have BK:=J (λ(w:World) (h1:Ze w) (h2:3<w.heap.size)=>zhx h1 h2 u.o B.o)
    have C:=J (VQ a.st q)
    generalize jr a.st q=S at*
    have HD:=J ((frN I).drew.obj H9.o id)
    have GD:=@J (Ze I.drew) ((((HG.o.keep L.o (λe=>V.o.1 e.symm) (λe=>V.o.2 e.symm)).keep F.o (λe=>V.o.1 e.symm) (λe=>V.o.2 e.symm)).keep (frN I).drew id id))
    have SZ:=@J (3<I.drew.heap.size) (by have:=HW.o;have:=L.o.size;have:=F.o.size;have:=(frN I).drew.size;omega)
    obtain⟨d8,y8,r8⟩:=zjm
    obtain⟨an,aj,ai⟩:=zjl
    have L8:=@J ((a.st.map YV).length=8) (by rw[length_map];exact u.o)
    have aa:=@J ((q.map zN).length=64) (by rw[length_map];exact B.o)
    refine yp [ff,ff,ff,ff,ff,ff,ff,ff,ff,tt,ff,ff,tt] (λw'=>w'.rangeAt p 0 (a.st.map YV)∧w'.rangeAt p 8 (q.map zN)) (by kernel_rfl) (by kernel_rfl) 12 (by kernel_rfl) (by kernel_rfl) ?_ (λK hK=>?_)
    ·exact⟨(vG m.o HD.o).1,(vG m.o HD.o).2.1⟩
    repeat((first|(refine yb rfl ?_;constructor;constructor;(focus(first|exact xB (ty:=267) rfl (λw h=>h.1) y8 r8 (by rw[L8.o];exact zjE)|exact xB (ty:=268) rfl (λw h=>h.2) aj ai (by rw[aa.o];exact zjD)|(rintro w' -;exact goS))))|(refine yc rfl ?_));try simp only[Act.put,pA,pB,pC])
    (refine ya rfl (λK' hK'=>?_))
    go_simp
    refine(BK.o _ GD.o SZ.o).mono ?_
    rintro e' Y ⟨rfl,f6⟩
    have F6:=J f6
    have U:=J (f6.obj HD.o id)
    clear f6
    refine hK'.out _ _ (λ_=>?_) (λhS=>?_)
    ·exact⟨(vG m.o U.o).1,(vG m.o U.o).2.1⟩
    try simp only[Act.put,pA,pB,pC]
    repeat((first|(refine yb rfl ?_;constructor;constructor;(focus(first|(rintro w' -;exact goS))))|(refine yc rfl ?_));try simp only[Act.put,pA,pB,pC])
    (refine ya rfl (λK' hK'=>?_))
    refine yN (zK (ty:=267) (b:=p) (off:=0) (cs:=S.map YV) rfl rfl rfl (zX U.o (by simp[yV,u.o,B.o,C.o])) (by rw[length_map,C.o];exact zjE) (λv hv=>by obtain⟨x,-,rfl⟩:=mem_map.1 hv;rfl)) ?_
    refine hK'.out _ _ (λh=>absurd rfl h) (λhS=>?_)
    refine xA (hK.out _ _ ?_)
    have FE:=@J (Fr (λj=>j=p) wr (Y.setCells p 0 (S.map YV))) (((F.o.trans0 (frN I).drew).trans0 F6.o).trans (zu p _ 0 Y) (λ_ _ h=>h))
    have HE:=@J ((Y.setCells p 0 (S.map YV)).heap[p]? =some (.cells (yV ((d++r.take k).foldl xY h)).toArray 270 (0,0))) (by
     rw[A.o]
     have:=xw p 270 (S.map YV) 0 Y _ U.o
     refine this.trans ?_
     congr 2
     have e:=jq (S.map YV) [] (a.st.map YV) (q.map zN++[.int .u64 ((a.n+k:Nat):Int)]) (by rw[length_map,length_map,C.o,u.o])
     simp only[nil_append,List.length_nil] at e
     simp only[yV,append_assoc]
     rw[e])
    go_wp2
    go_roundw
    case rel=>exact⟨d++r.take k,r.drop k,SP.o,BN.o _ FE.o,HE.o,L.o.trans FE.o (λ_ _ h=>h)⟩
    case measure=>show r.length-k<r.length;omega
   ·have j2:((z:Int)==0)=false:=by rw[beq_eq_false_iff_ne];omega
    have A:=@J ((d++r.take k).foldl xY h=⟨a.st,YQ a.op t (r.take k),a.n+k⟩) (by rw[NX.o,AC.o,if_neg hz0])
    clear X
    go_wp2_with ((with_reducible refine yv 21 ?_);refine XD rfl rfl rfl rfl Z.o ?_;generalize wr.setCells p (8+t) ((r.take k).map zN)=wc at*;have M:=(vG y.o G.o).2.2;have ab:=yn (i:=72) G.o)
    have fs:Fr (λj=>j=p) wc (wc.setCell ⟨p,72,none⟩ (.int .u64 ((a.n:Int)+(k:Int)))):=(Fr.refl (λj=>j=p) wc).setCell ⟨p,72,none⟩ (.inr rfl) _
    have F:=@J (Fr (λj=>j=p) wr (wc.setCell ⟨p,72,none⟩ (.int .u64 ((a.n:Int)+(k:Int))))) (FC.o.trans fs (λ_ _ h=>h))
    have H9:=@J ((wc.setCell ⟨p,72,none⟩ (.int .u64 ((a.n:Int)+(k:Int)))).heap[p]? =some (.cells (yV ((d++r.take k).foldl xY h)).toArray 270 (0,0))) (by
     rw[A.o]
     have:=heap_setCell_same wc p 72 _ _ (.int .u64 ((a.n:Int)+(k:Int))) G.o
     rw[this]
     congr 2
     simp only[yV,List.setIfInBounds_toArray]
     rw[List.set_append_right _ _ (by simp[g.o.st,Yx,g.o.op])]
     simp[g.o.st,Yx,g.o.op])
    go_roundw
    case rel=>exact⟨d++r.take k,r.drop k,SP.o,BN.o _ F.o,H9.o,L.o.trans F.o (λ_ _ h=>h)⟩
    case measure=>show r.length-k<r.length;omega
def Yg:j4:=⟨zit,List.replicate 64 0,0⟩
theorem XU:vW Yg:=⟨rfl,by simp[Yg]⟩
theorem zlz (h:Ze w):w.rangeAt 0 0 (zit.map YV):=λj v a=>by
 rw[getElem?_map] at a
 cases hx:zit[j]? with
 |none=>rw[hx] at a;cases a
 |some x=>
  rw[hx] at a
  cases a
  have:=h.i j x hx
  rw[zero_add]
  exact this
theorem zds:prog.built 270 [(0,.agg (zit.map YV).toArray)]=some (yV Yg).toArray:=by kernel_rfl
theorem zjS (a:Ze w):Calls prog 122 #[] w λe w'=>e=.returned (.pointer (some ⟨w.heap.size,0,none⟩))∧w'=w.alloc (.cells (yV Yg).toArray 270):=by
 have R:=J (zlz a)
 clear a
 obtain⟨d,c,b⟩:=zjm
 go_enter Tryz.func122,Tryz.ntmps122
 go_wp2_with (first|((with_reducible refine yv 1 ?_);refine zg rfl (z7 (ty:=267) rfl rfl R.o c b (by kernel_rfl)) ?_)|((with_reducible refine yv 2 ?_);refine zg rfl (Xm (t:=270) rfl rfl zds) ?_))
 go_ret
 exact⟨rfl,rfl⟩
def Zu (w:World) (p:Nat) (v:Value) (L:List (List Int)):Prop:=
 ∃va vc,v=.slice va L.length vc∧∀(i:Nat) (l:List Int),L[i]? =some l→∃b off pv,va=some ⟨b,off,none⟩∧b≠p∧w.cell? ⟨b,off+i,none⟩=some pv∧Jg w p pv l
theorem Zu.keep {L:List (List Int)} (h:Zu w p v L) (f:Fr (λj=>j=p) w w'):Zu w' p v L:=by
 obtain⟨m,n,e,h⟩:=h
 refine⟨m,n,e,λi l hi=>?_⟩
 obtain⟨b,off,k,c,a,d,g⟩:=h i l hi
 exact⟨b,off,k,c,a,f.cell d a,g.keep f⟩
theorem ziL (z:Ze w) (m:3<w.heap.size) {h:j4} (ok:vW h) (g:w.heap[p]? =some (.cells (yV h).toArray 270 (0,0))) (B:p≠0∧p≠3) {L:List (List Int)} (A:Zu w p v L) (Y:L.length≤1000000) (hn:h.n+L.flatten.length≤4611686018427387904):
  Calls prog 123 #[.pointer (some ⟨p,0,none⟩),v] w λe w'=>e=.returned (.int .i64 0)∧w'.heap[p]? =some (.cells (yV (L.flatten.foldl xY h)).toArray 270 (0,0))∧Fr (λj=>j=p) w w':=by
 have I:=J z
 have M:=J m
 have r:=J B
 have O:=J ok
 have G:=J g
 have K:=J A
 obtain⟨va,vc,rfl,-⟩:=A
 clear z m B ok g
 go_enter Tryz.func123,Tryz.ntmps123
 go_wp2
 go_loopw [11] (λu wr=>∃n:Nat,u=.int .i64 n∧n≤L.length∧wr.heap[p]? =some (.cells (yV ((L.take n).flatten.foldl xY h)).toArray 270 (0,0))∧Fr (λj=>j=p) w wr) (λu _=>L.length-(intOf u).toNat)
 case atStart=>exact⟨0,rfl,zero_le _,G.o,Fr.refl _ _⟩
 case round=>
  obtain⟨n,rfl,S,g,fr⟩:=hrel
  have d:=J fr
  have f:=J g
  clear fr g
  by_cases k:n<L.length
  ·have U:(n:Int)<(L.length:Int):=by omega
   obtain⟨l,o⟩:∃l,L[n]? =some l:=⟨_,getElem?_eq_getElem k⟩
   obtain⟨V,W,T,i⟩:=K.o.keep d.o
   obtain⟨b,off,pv,t,R,c1,c⟩:=i n l o
   cases T
   subst t
   obtain⟨pa,pc,rfl⟩:=c.form
   have C:=J c
   have E:=@J ((L.take (n+1)).flatten.foldl xY h=l.foldl xY ((L.take n).flatten.foldl xY h)) (by rw[List.take_add_one,o];simp)
   have N:=@J (((L.take n).flatten.foldl xY h).n+l.length≤4611686018427387904) (by
    rw[XE]
    have:L=L.take n++l::L.drop (n+1):=by
     have y:=(take_append_drop n L).symm
     rw[List.drop_eq_getElem_cons k,(List.getElem?_eq_some_iff.1 o).2] at y
     exact y
    have Q:=congrArg (λX=>X.flatten.length) this
    simp only[List.flatten_append,List.flatten_cons,length_append] at Q
    omega)
   have s:=J (O.o.adds (l:=(L.take n).flatten))
   have F:=J (I.o.keep d.o (λe=>r.o.1 e.symm) (λe=>r.o.2 e.symm))
   have P:=@J (3<wr.heap.size) (by have:=M.o;have:=d.o.size;omega)
   generalize (L.take n).flatten.foldl xY h=Z at*
   clear c i o
   go_wp2_with (go_at_call 156;refine(za4 F.o P.o s.o f.o r.o C.o N.o).mono ?_;rintro e w2 ⟨rfl,a,x⟩;rw[←E.o] at a;have q:=J a;have D:=J (d.o.trans x (λ_ _ h=>h));clear a x)
   go_roundw
   case rel=>exact⟨n+1,by simp,by omega,q.o,D.o⟩
   case measure=>show L.length-(n+1)<L.length-n;omega
  ·have U:¬(n:Int)<(L.length:Int):=by omega
   have H:=@J (wr.heap[p]? =some (.cells (yV (L.flatten.foldl xY h)).toArray 270 (0,0))) (by
    have:=f.o
    rwa [show L.take n=L by rw[show n=L.length by omega,List.take_length]] at this)
   go_wp2
   go_ret
   exact⟨rfl,H.o,d.o⟩
def Vx (n:Nat):Nat:=(120-n % 64) % 64
theorem zj2 (n:Nat):(n+Vx n) % 64=56:=by unfold Vx;omega
theorem zli {n z:Nat} (h:z<Vx n):(n+z) % 64≠56:=by unfold Vx at h;omega
def zce (n:Nat):List Int:=[((n:Int)*8 % 18446744073709551616) / 72057594037927936 % 256,((n:Int)*8 % 18446744073709551616) / 281474976710656 % 256,((n:Int)*8 % 18446744073709551616) / 1099511627776 % 256,((n:Int)*8 % 18446744073709551616) / 4294967296 % 256,((n:Int)*8 % 18446744073709551616) / 16777216 % 256,((n:Int)*8 % 18446744073709551616) / 65536 % 256,((n:Int)*8 % 18446744073709551616) / 256 % 256,((n:Int)*8 % 18446744073709551616) % 256]
def Qw (x:Int):List Int:=[x / 16777216 % 256,x / 65536 % 256,x / 256 % 256,x % 256]
def Yh (h:j4):j4:=(zce h.n).foldl xY ((List.replicate (Vx (h.n+1)) 0).foldl xY (xY h 128))
def zd2 (h:j4):List Int:=(Yh h).st.flatMap Qw
def x9 (l:List Int):List Int:=zd2 (l.foldl xY Yg)
def vN (l:List Int):List Int:=x9 (x9 l)
def Yt (B:List Int) (m:Nat):List Int:=B.take m++List.replicate (32-m) 0
theorem ze6 (a:B.length=32) (b:m≤32):(Yt B m).length=32:=by simp[Yt];omega
theorem Vw (c:B.length=32) (d:m<32):(Yt B m).set m (B.getD m 0)=Yt B (m+1):=by
 unfold Yt
 have a:32-m=(32-(m+1))+1:=by omega
 have b:(B.take m).length=m:=by simp;omega
 rw[a,List.replicate_succ,List.set_append_right _ _ (by omega),b,Nat.sub_self,List.set_cons_zero,List.take_add_one,append_assoc]
 simp[List.getD_eq_getElem?_getD,getElem?_eq_getElem (show m<B.length by omega)]
theorem zbC:∀(S:List Int),(S.flatMap Qw).length=4*S.length
 |[]=>rfl
 |x::S=>by
  rw[flatMap_cons,length_append,zbC S,length_cons]
  have:(Qw x).length=4:=rfl
  omega
theorem flat_get:∀(S:List Int) (i k:Nat),k<4→i<S.length→(S.flatMap Qw).getD (4*i+k) 0=(Qw (S.getD i 0)).getD k 0
 |[],_,_,_,h=>absurd h (by simp)
 |x::S,0,k,hk,_=>by
  rcases(show k=0∨k=1∨k=2∨k=3 by omega) with rfl|rfl|rfl|rfl<;>rfl
 |x::S,i+1,k,hk,h=>by
  have ih:=flat_get S i k hk (by simpa using h)
  have e:4*(i+1)+k=(4*i+k)+4:=by omega
  rw[flatMap_cons,e]
  exact ih
theorem zj0 (a:B.length=32):Yt B 32=B:=by
 unfold Yt
 rw[List.take_of_length_le (by omega)]
 simp
theorem zbf (a:B.length=32) (b:m<32):∃x,((Yt B m).map zN)[m]? =some (.int .u8 x):=
 ⟨(Yt B m)[m]'(by rw[ze6 a (by omega)];exact b),by rw[getElem?_map,getElem?_eq_getElem (by rw[ze6 a (by omega)];exact b)];rfl⟩
theorem zk6 {S:List Int} (hS:S.length=8) {i:Nat} (hi:i<8) (w:World):(Instr.index 267 (.agg (S.map YV).toArray) (.int .i64 i)).run prog w=.ok (.int .u32 (S.getD i 0)) w:=by
 have b:(0≤(i:Int)∧(i:Int)<((8:Nat):Int)):=by omega
 have c:(sizeOf 31).run prog w=.ok 1 w:=by kernel_rfl
 simp[Instr.index,run_underlying Tryz.underlying267,asIntOf,b,c,part,go_sem]
 have a:i<S.length:=by omega
 rw[getElem?_eq_getElem a]
 simp[hi,YV]
end Go.Proofs.YtdkkjchclkjleaaGreatDoor
