/- Frames, slices that are read, and maps as lists of keys and values. -/
import Derived.WalkKit
import Derived.Maps.Own
import Derived.DeepKeys4
import Derived.Deep.Draws
import Derived.Lib.SliceRun
import Derived.OrdersHeld
import Derived.StillTail
import Derived.Deep.RegionHeld3
import Derived.Deep.MidRow
import Derived.Laws.StructEq
import Derived.DeepKeys
import Derived.Laws.Tables
import Derived.Great.BuildSlice
import Derived.Laws.ResultCell
import Derived.Shelf.GgSortFunc.InsertionK
set_option linter.unusedVariables false
set_option linter.unusedSimpArgs false
set_option linter.unnecessarySimpa false
set_option linter.all false
set_option maxRecDepth 20000
set_option maxHeartbeats 16000000
namespace Go
open Go.MapKept Go.RowKit Go.Maps
structure Fr (W:Nat→Prop) (w w':World):Prop where
 os:w'.os=w.os
 tape:w'.tape=w.tape
 output:w'.output=w.output
 size:w.heap.size≤w'.heap.size
 block:∀k,k<w.heap.size→¬W k→w'.heap[k]? =w.heap[k]?
abbrev No:Nat→Prop:=λ_=>False
theorem Fr.refl (W:Nat→Prop) (w:World):Fr W w w:=⟨rfl,rfl,rfl,Nat.le_refl _,λ_ _ _=>rfl⟩
theorem Fr.trans {W V:Nat→Prop} {a b c:World} (h:Fr W a b) (k:Fr V b c) (e:∀i,i<a.heap.size→V i→W i):Fr W a c:=
 ⟨k.os.trans h.os,k.tape.trans h.tape,k.output.trans h.output,Nat.le_trans h.size k.size,λi hi d=>(k.block i (Nat.lt_of_lt_of_le hi h.size) (λf=>d (e i hi f))).trans (h.block i hi d)⟩
theorem Fr.trans0 {W:Nat→Prop} {a b c:World} (h:Fr W a b) (k:Fr No b c):Fr W a c:=h.trans k (λ_ _ h=>h.elim)
theorem Fr.mono {W V:Nat→Prop} {a b:World} (h:Fr W a b) (c:∀i,W i→V i):Fr V a b:=
 ⟨h.os,h.tape,h.output,h.size,λi hi d=>h.block i hi (λe=>d (c i e))⟩
theorem Fr.of0 {W:Nat→Prop} {a b:World} (h:Fr No a b):Fr W a b:=h.mono (λ_ h=>h.elim)
theorem Fr.drew {W:Nat→Prop} {a b:World} (h:Fr W a b):Fr W a b.drew:=⟨h.os,h.tape,h.output,h.size,h.block⟩
theorem Fr.drewN {W:Nat→Prop} {a b:World} (h:Fr W a b) (n:Nat):Fr W a (b.drewN n):=⟨h.os,h.tape,h.output,h.size,h.block⟩
theorem Fr.alloc {W:Nat→Prop} {a b:World} (h:Fr W a b) (o:Obj):Fr W a (b.alloc o):=
 ⟨h.os,h.tape,h.output,by simp;have:=h.size;omega,λi hi c=>by rw[Below.heap_alloc _ _ _ (Nat.lt_of_lt_of_le hi h.size)];exact h.block i hi c⟩
theorem Fr.setCell {W:Nat→Prop} {a b:World} (h:Fr W a b) (p:Addr) (c:a.heap.size≤p.block∨W p.block) (u:Value):Fr W a (b.setCell p u):=
 ⟨h.os,h.tape,h.output,by simp[World.setCell];exact h.size,λi hi d=>by
  rw[Below.heap_setCell _ _ _ _ (by rintro rfl;rcases c with c|c;omega;exact d c)];exact h.block i hi d⟩
theorem Fr.grown {W:Nat→Prop} {a b c:World} {f:Option Nat} (h:Fr W a b) (d:b.grownBy c f) (j:∀k,f=some k→a.heap.size≤k∨W k):Fr W a c:=
 ⟨d.os.trans h.os,d.tape.trans h.tape,d.output.trans h.output,Nat.le_trans h.size d.size,λi hi g=>by
  rw[d.block i (Nat.lt_of_lt_of_le hi h.size) (λe=>by rcases j i e.symm with h1|h1;omega;exact g h1)];exact h.block i hi g⟩
theorem Fr.cell {W:Nat→Prop} {w w':World} (h:Fr W w w') {a:Addr} {v:Value} (c:w.cell? a=some v) (d:¬W a.block):w'.cell? a=some v:=
 (World.cell?_of_block (h.block a.block (World.block_lt_of_cell? w a c) d)).trans c
theorem Fr.obj {W:Nat→Prop} {w w':World} (h:Fr W w w') {b:Nat} {o:Obj} (c:w.heap[b]? =some o) (d:¬W b):w'.heap[b]? =some o:=
 (h.block b (Array.getElem?_eq_some_iff.1 c).1 d).trans c
theorem yG {w:World} {b:Nat} {o:Obj} (h:w.heap[b]? =some o):b<w.heap.size:=(Array.getElem?_eq_some_iff.1 h).1
def jO (w:World) (v:Value) (n:Nat) (cs:List Value):Prop:=
 (v=.slice none 0 0∧n=0∧cs=[])∨
 ∃b off cap,v=.slice (some ⟨b,off,none⟩) n cap∧n≤cap∧cap≤maxLen∧(∀j u,cs[j]? =some u→w.cell? ⟨b,off+j,none⟩=some u)∧b<w.heap.size
theorem jO.keep {w w':World} {v:Value} {n:Nat} {cs:List Value} (h:jO w v n cs) {W:Nat→Prop} (f:Fr W w w') (k:∀b,v.ownBlock=some b→¬W b):jO w' v n cs:=by
 rcases h with h|⟨b,off,c,rfl,d,e,g,i⟩
 ·exact .inl h
 ·exact .inr ⟨b,off,c,rfl,d,e,λj u l=>f.cell (g j u l) (k b rfl),Nat.lt_of_lt_of_le i f.size⟩
theorem World.ownsRow.slice {w:World} {base:Nat} {e:TypeId} {size:Nat} {v:Value} {n:Nat} {xs:List Value} (h:w.ownsRow base e size v n xs):jO w v n xs:=by
 have k:=λg f=>h.cells (g:=g) f
 rcases h.2 with⟨rfl,rfl⟩|⟨g,d,i,rfl,q,f,p,m,r,s⟩
 ·exact .inl ⟨rfl,rfl,List.eq_nil_of_length_eq_zero (by simpa using h.1)⟩
 ·refine .inr ⟨g,0,d,rfl,p,m,λj u l=>?_,yG f⟩
  have:=k g rfl j u l
  have c:(⟨g,0,none⟩:Addr).add j=⟨g,j,none⟩:=by unfold Addr.add;split<;>simp_all
  rw[c] at this
  simpa using this
def y7 (w:World) (v:Value) (n:Nat) (cs:List Value):Prop:=
 jO w v n cs∨∃a cap,v=.slice (some a) 0 cap∧n=0∧cs=[]∧cap≤maxLen
theorem jO.arg {w:World} {v:Value} {n:Nat} {cs:List Value} (h:jO w v n cs):y7 w v n cs:=.inl h
theorem y7.keep {w w':World} {v:Value} {n:Nat} {cs:List Value} (h:y7 w v n cs) (f:Fr No w w'):y7 w' v n cs:=h.imp (λh=>h.keep f (λ_ _=>id)) id
theorem jO.len {w:World} {v:Value} {n:Nat} {cs:List Value} (h:jO w v n cs):n≤maxLen:=by
 rcases h with⟨_,rfl,_⟩|⟨_,_,_,_,c,d,_⟩
 ·exact Nat.zero_le _
 ·exact Nat.le_trans c d
theorem y7.len {w:World} {v:Value} {n:Nat} {cs:List Value} (h:y7 w v n cs):n≤maxLen:=by
 rcases h with h|⟨_,_,_,rfl,_⟩
 ·exact h.len
 ·exact Nat.zero_le _
theorem y7.form {w:World} {v:Value} {n:Nat} {cs:List Value} (h:y7 w v n cs):∃a c,v=.slice a n c:=by
 rcases h with(⟨rfl,rfl,_⟩|⟨_,_,_,rfl,_⟩)|⟨_,_,rfl,rfl,_⟩
 ·exact⟨none,0,rfl⟩
 ·exact⟨_,_,rfl⟩
 ·exact⟨_,_,rfl⟩
def zM (x:Int):Value:=.int .u8 x
def kv (es:Array MapEntry):List (Value×Value):=es.toList.map λe=>(e.key,e.val)
def xt (P:Program) (kt:TypeId) (w:World) (b:Nat) (L:List (Value×Value)):Prop:=
 ∃es clk,w.heap[b]? =some (.map es clk)∧Stamped es clk∧es.size≤maxLen∧kv es=L∧∀e∈es.toList,∃l,keyOf P kt e.key=some l
section
variable {P:Program} {kt et t:TypeId} {w:World} {b:Nat} {L:List (Value×Value)}
theorem xt.lt (h:xt P kt w b L):b<w.heap.size:=by obtain⟨es,c,d,_⟩:=h;exact yG d
theorem xt.keep {w':World} {W:Nat→Prop} (h:xt P kt w b L) (f:Fr W w w') (e:¬W b):xt P kt w' b L:=by
 obtain⟨es,c,d,r⟩:=h
 exact⟨es,c,f.obj d e,r⟩
theorem xt.made (w:World):xt P kt (w.alloc (.map #[] 0)) w.heap.size []:=
 ⟨#[],0,(MapKept.heap_alloc w _).1,stamped_empty 0,by simp,rfl,by simp⟩
theorem xt.nodup (h:xt P kt w b L):(L.map (·.1)).Nodup:=by
 obtain⟨es,c,e,d,g,rfl,f⟩:=h
 simpa[kv,Function.comp_def] using d.2.2
theorem zdF {es:Array MapEntry} {e:MapEntry} (h:e∈es.toList):(e.key,e.val)∈kv es:=List.mem_map.2 ⟨e,h,rfl⟩
inductive zgA (L:List (Value×Value)) (key:Value):Option Value→Prop where
 |hit {v:Value} (h:(key,v)∈L):zgA L key (some v)
 |miss (h:∀p∈L,p.1≠key):zgA L key none
theorem xt.lookup (K:Keyed P kt) (G:P.underlying t=some (.map kt et)) {z:Value} (Q:∀w,(zeroValue et).run P w=.ok z w) (h:xt P kt w b L) {g:Value} (N:∃l,keyOf P kt g=some l) (c:Bool) {r:Option Value} (F:zgA L g r):
  (Instr.lookup t (.map (some b)) g c).run P w=.ok (if c then .tuple #[r.getD z,.bool r.isSome] else r.getD z) w:=by
 obtain⟨es,H,E,O,R,rfl,s⟩:=h
 obtain⟨l,u⟩:=N
 rcases K.find w u es.toList s with⟨n,i⟩|⟨j,e,n,i,D⟩
 ·cases F with
  |hit hv=>
   obtain⟨e,M,d⟩:=List.mem_map.1 hv
   exact absurd (congrArg Prod.fst d) (i e M)
  |miss _=>simp[Instr.lookup,run_underlying G,MapKept.run_getObj_map E,K.check w _ u,n,Q,Result.andThen]
 ·have y:e∈es.toList:=List.mem_of_getElem? i
  cases F with
  |miss hno=>exact absurd D (hno _ (zdF y))
  |hit hv=>
   rename_i v
   obtain⟨C,p,d⟩:=List.mem_map.1 hv
   have q:C.key=e.key:=(congrArg Prod.fst d).trans D.symm
   have:C=e:=by
    have A:=O.2.2
    obtain⟨k,f⟩:=List.mem_iff_getElem?.1 p
    have m:(es.toList.map (·.key))[k]? =some e.key:=by rw[List.getElem?_map,f];simp[q]
    have I:(es.toList.map (·.key))[j]? =some e.key:=by rw[List.getElem?_map,i];rfl
    have x:k<(es.toList.map (·.key)).length:=by
     rcases Nat.lt_or_ge k (es.toList.map (·.key)).length with h'|h'
     ·exact h'
     ·rw[List.getElem?_eq_none h'] at m;cases m
    have:k=j:=(List.getElem?_inj x A).1 (m.trans I.symm)
    rw[this] at f
    rw[i] at f
    exact(Option.some.inj f).symm
   have B:v=e.val:=by rw[←this];exact(congrArg Prod.snd d).symm
   simp[Instr.lookup,run_underlying G,MapKept.run_getObj_map E,K.check w _ u,n,Result.andThen,B]
structure Jy (b:Nat) (w w':World):Prop where
 os:w'.os=w.os
 tape:w'.tape=w.tape
 output:w'.output=w.output
 size:w'.heap.size=w.heap.size
 block:∀k,k≠b→w'.heap[k]? =w.heap[k]?
theorem Jy.fr {w':World} (h:Jy b w w'):Fr (· =b) w w':=⟨h.os,h.tape,h.output,by rw[h.size];exact Nat.le_refl _,λk _ c=>h.block k c⟩
theorem Jm (w:World) (b:Nat) (o:Obj):Jy b w {w with heap:=w.heap.setIfInBounds b o}:=
 ⟨rfl,rfl,rfl,by simp,λk c=>by simp[Array.getElem?_setIfInBounds_ne (Ne.symm c)]⟩
theorem xW {w:World} {b:Nat} {o c:Obj} (d:w.heap[b]? =some o):({w with heap:=w.heap.setIfInBounds b c}:World).heap[b]? =some c:=(heap_set d).1
theorem Qy (K:Keyed P kt) (w:World) {es:Array MapEntry} {i:Nat} (E:Stamped es i) (p:∀e∈es.toList,∃l,keyOf P kt e.key=some l) {c:Value} {l:Lit} (C:keyOf P kt c=some l) {f x:List (Value×Value)} {h:Value} (m:kv es=f++(c,h)::x):
  ∃e,(Instr.findKey kt c es.toList).run P w=.ok (some (f.length,e.val)) w∧es[f.length]? =some e∧e.key=c∧e.val=h:=by
 rcases K.find w C es.toList p with⟨u,g⟩|⟨j,e,u,g,v⟩
 ·have D:(c,h)∈kv es:=by rw[m];simp
  obtain⟨e,A,n⟩:=List.mem_map.1 D
  exact absurd (congrArg Prod.fst n) (g e A)
 ·have k:((kv es).map (·.1))[j]? =some c:=by
   have d:es.toList[j]? =some e:=g
   rw[List.getElem?_map,kv,List.getElem?_map,d];simp[v]
  have y:((kv es).map (·.1))[f.length]? =some c:=by rw[m];simp
  have r:((kv es).map (·.1)).Nodup:=by simpa[kv,Function.comp_def] using E.2.2
  have q:j<((kv es).map (·.1)).length:=by
   rcases Nat.lt_or_ge j ((kv es).map (·.1)).length with h'|h'
   ·exact h'
   ·rw[List.getElem?_eq_none h'] at k;cases k
  have B:j=f.length:=(List.getElem?_inj q r).1 (k.trans y.symm)
  subst B
  have d:es.toList[f.length]? =some e:=g
  have s:(kv es)[f.length]? =some (c,h):=by rw[m];simp
  rw[kv,List.getElem?_map,d] at s
  have z:=Option.some.inj s
  exact⟨e,u,by simpa using d,v,congrArg Prod.snd z⟩
theorem zcU {es:Array MapEntry} {i:Nat} {e:MapEntry} (k:es[i]? =some e) (f:MapEntry→MapEntry) {c d:List (Value×Value)} {p:Value×Value} (h:kv es=c++p::d) (hi:i=c.length):
  kv (es.modify i f)=c++((f e).key,(f e).val)::d:=by
 subst hi
 apply List.ext_getElem?
 intro j
 have g:=congrArg (λl=>l[j]?) h
 simp only[kv,List.getElem?_map,Array.getElem?_toList,Array.getElem?_modify] at g⊢
 by_cases hji:c.length=j
 ·subst hji
  simp[k]
 ·rw[if_neg hji,g]
  rcases Nat.lt_or_ge j c.length with h'|h'
  ·rw[List.getElem?_append_left h',List.getElem?_append_left h']
  ·rw[List.getElem?_append_right h',List.getElem?_append_right h']
   obtain⟨m,n⟩:∃m,j-c.length=m+1:=⟨j-c.length-1,by omega⟩
   rw[n]
   simp
theorem xt.update_hit (K:Keyed P kt) (B:P.underlying t=some (.map kt et)) {n q:List (Value×Value)} {key C:Value} (h:xt P kt w b (n++(key,C)::q)) (z:∃l,keyOf P kt key=some l) (v:Value):
  ∃w',(Instr.mapUpdate t (.map (some b)) key v).run P w=.ok () w'∧xt P kt w' b (n++(key,v)::q)∧Jy b w w':=by
 obtain⟨es,d,p,x,A,u,g⟩:=h
 obtain⟨l,m⟩:=z
 obtain⟨e,y,k,s,D⟩:=Qy K w x g m u
 have i:(Instr.mapUpdate t (.map (some b)) key v).run P w=.ok () {w with heap:=w.heap.setIfInBounds b (.map (es.modify n.length λe=>{e with key:=key,val:=v}) d)}:=by
  simp[Instr.mapUpdate,run_underlying B,MapKept.run_getObj_map p,K.check w false m,y,k,s,K.stays w m,MapKept.run_setObj_map _ p,Result.andThen]
 refine⟨_,i,⟨_,d,xW p,stamped_modify x _ _ (λ_ _=>rfl) (λr _ c=>?_),by simpa using A,?_,?_⟩,Jm _ _ _⟩
 ·rw[k] at c;cases c;exact s.symm
 ·rw[zcU k _ u rfl]
 ·intro r c
  obtain⟨j,f⟩:=List.mem_iff_getElem?.1 c
  rw[Array.getElem?_toList,Array.getElem?_modify] at f
  split at f
  ·rename_i hij
   subst hij
   rw[k] at f
   cases f
   exact⟨l,m⟩
  ·exact g r (List.mem_of_getElem? (by simpa using f))
theorem xt.update_miss (K:Keyed P kt) (y:P.underlying t=some (.map kt et)) (h:xt P kt w b L) {key:Value} (u:∃l,keyOf P kt key=some l) (q:∀p∈L,p.1≠key) (c:L.length<maxLen) (v:Value):
  ∃w',(Instr.mapUpdate t (.map (some b)) key v).run P w=.ok () w'∧xt P kt w' b (L++[(key,v)])∧Jy b w w':=by
 obtain⟨es,d,m,x,z,rfl,f⟩:=h
 obtain⟨l,n⟩:=u
 rcases K.find w n es.toList f with⟨r,k⟩|⟨j,e,r,k,s⟩
 ·have g:(Instr.mapUpdate t (.map (some b)) key v).run P w=.ok () {w with heap:=w.heap.setIfInBounds b (.map (es.push {key,val:=v,born:=d}) (d+1))}:=by
   simp[Instr.mapUpdate,run_underlying y,MapKept.run_getObj_map m,K.check w false n,r,MapKept.run_setObj_map _ m,Result.andThen]
  refine⟨_,g,⟨_,_,xW m,stamped_push x k,?_,by simp[kv],?_⟩,Jm _ _ _⟩
  ·simp[kv] at c⊢;omega
  ·intro e i
   simp only[Array.toList_push,List.mem_append,List.mem_singleton] at i
   rcases i with i|rfl
   ·exact f e i
   ·exact⟨l,n⟩
 ·exact absurd s (q _ (zdF (List.mem_of_getElem? k)))
theorem Qh {α β:Type} (f:α→β):∀(l:List α) (i:Nat),(l.eraseIdx i).map f=(l.map f).eraseIdx i
 |[],_=>rfl
 |_::_,0=>rfl
 |x::l,i+1=>by simp[Qh f l i]
theorem zeO {es:Array MapEntry} {c e:List (Value×Value)} {p:Value×Value} (f:kv es=c++p::e):kv (es.eraseIdxIfInBounds c.length)=c++e:=by
 have d:c.length<es.size:=by
  have:=congrArg List.length f
  simp[kv] at this
  omega
 unfold kv Array.eraseIdxIfInBounds
 rw[dif_pos d,Array.toList_eraseIdx]
 rw[Qh]
 show(kv es).eraseIdx c.length=_
 rw[f,List.eraseIdx_append_of_length_le (Nat.le_refl _)]
 simp
theorem xt.delete_hit (K:Keyed P kt) (z:P.underlying t=some (.map kt et)) {j q:List (Value×Value)} {c A:Value} (h:xt P kt w b (j++(c,A)::q)) (y:∃l,keyOf P kt c=some l) (ty:TypeId) (x:TypeId):
  ∃w',(Builtin.delete_ #[t,x] ty #[.map (some b),c]).run P w=.ok (.tuple #[]) w'∧xt P kt w' b (j++q)∧Jy b w w':=by
 obtain⟨es,d,n,s,E,k,f⟩:=h
 obtain⟨l,r⟩:=y
 obtain⟨e,m,B,C,D⟩:=Qy K w s f r k
 have g:(Builtin.delete_ #[t,x] ty #[.map (some b),c]).run P w=.ok (.tuple #[]) {w with heap:=w.heap.setIfInBounds b (.map (es.eraseIdxIfInBounds j.length) d)}:=by
  simp[Builtin.delete_,run_underlying z,MapKept.run_getObj_map n,K.check w _ r,m,MapKept.run_setObj_map _ n,Result.andThen]
 refine⟨_,g,⟨_,d,xW n,stamped_erase s _,?_,zeO k,?_⟩,Jm _ _ _⟩
 ·have m:=congrArg List.length (zeO k)
  have v:=congrArg List.length k
  simp only[kv,List.length_map,Array.length_toList,List.length_append,List.length_cons] at m v
  omega
 ·intro u p
  have i:(es.eraseIdxIfInBounds j.length).toList.Sublist es.toList:=by
   unfold Array.eraseIdxIfInBounds
   split
   ·rw[Array.toList_eraseIdx];exact List.eraseIdx_sublist ..
   ·exact List.Sublist.refl _
  exact f u (i.subset p)
theorem xt.delete_miss (K:Keyed P kt) (y:P.underlying t=some (.map kt et)) (h:xt P kt w b L) {c:Value} (s:∃l,keyOf P kt c=some l) (k:∀p∈L,p.1≠c) (ty:TypeId) (x:TypeId):
  ∃w',(Builtin.delete_ #[t,x] ty #[.map (some b),c]).run P w=.ok (.tuple #[]) w'∧xt P kt w' b L∧Jy b w w':=by
 obtain⟨es,d,i,v,u,rfl,f⟩:=h
 obtain⟨l,q⟩:=s
 rcases K.find w q es.toList f with⟨m,n⟩|⟨j,e,m,n,r⟩
 ·have g:(Builtin.delete_ #[t,x] ty #[.map (some b),c]).run P w=.ok (.tuple #[]) {w with heap:=w.heap.setIfInBounds b (.map es d)}:=by
   simp[Builtin.delete_,run_underlying y,MapKept.run_getObj_map i,K.check w _ q,m,MapKept.run_setObj_map _ i,Result.andThen]
  exact⟨_,g,⟨es,d,xW i,v,u,rfl,f⟩,Jm _ _ _⟩
 ·exact absurd r (k _ (zdF (List.mem_of_getElem? n)))
def Entry (P:Program) (kt:TypeId) (w:World) (b:Nat) (L1:List (Value×Value)) (key:Value) (L2:List (Value×Value)) (stamp:Int):Prop:=
 ∃es clk e,w.heap[b]? =some (.map es clk)∧Stamped es clk∧es.size≤maxLen∧(∃v,kv es=L1++(key,v)::L2)∧(∀e∈es.toList,∃l,keyOf P kt e.key=some l)∧es[L1.length]? =some e∧stamp=(e.born:Int)
theorem Entry.keep {w':World} {W:Nat→Prop} {g i:List (Value×Value)} {c:Value} {s:Int} (h:Entry P kt w b g c i s) (f:Fr W w w') (k:¬W b):Entry P kt w' b g c i s:=by
 obtain⟨es,d,e,j,r⟩:=h
 exact⟨es,d,e,f.obj j k,r⟩
theorem Entry.store {d z:List (Value×Value)} {f:Value} {s:Int} (h:Entry P kt w b d f z s) (t:TypeId) (v:Value):
  ∃w',(Instr.entryStore t (.map (some b)) (.int .i64 s) v).run P w=.ok () w'∧xt P kt w' b (d++(f,v)::z)∧Jy b w w':=by
 obtain⟨es,m,e,u,C,G,⟨I,B⟩,q,g,rfl⟩:=h
 have l:d.length<es.size:=(Array.getElem?_eq_some_iff.1 g).1
 have i:es.findIdx? (λx=>(x.born:Int)==(e.born:Int))=some d.length:=by
  rw[Array.findIdx?_eq_some_iff_getElem]
  have c:es.toList[d.length]? =some e:=by simpa using g
  refine⟨l,?_,λj k=>?_⟩
  ·have:es[d.length]=e:=by rw[Array.getElem?_eq_getElem l] at g;exact Option.some.inj g
   rw[this];simp
  ·have n:j<es.size:=Nat.lt_trans k l
   have H:es[j].born≠e.born:=λy=>by
    have E:(es.toList.map (·.born))[j]? =some e.born:=by rw[List.getElem?_map,List.getElem?_eq_getElem (by simpa using n)];simp[y]
    have F:(es.toList.map (·.born))[d.length]? =some e.born:=by rw[List.getElem?_map,c];rfl
    have:=(List.getElem?_inj (by simpa using n) C.2.1).1 (E.trans F.symm)
    omega
   simp only[beq_iff_eq];omega
 have p:e.key=f:=by
  have A:(kv es)[d.length]? =some (f,I):=by rw[B];simp
  have c:es.toList[d.length]? =some e:=by simpa using g
  rw[kv,List.getElem?_map,c] at A
  exact congrArg Prod.fst (Option.some.inj A)
 have r:(Instr.entryStore t (.map (some b)) (.int .i64 (e.born:Int)) v).run P w=.ok () {w with heap:=w.heap.setIfInBounds b (.map (es.modify d.length λe=>{e with val:=v}) m)}:=by
  simp[Instr.entryStore,MapKept.run_getObj_map u,asInt,asIntOf,i,MapKept.run_setObj_map _ u,Result.andThen]
 refine⟨_,r,⟨_,m,xW u,stamped_modify C _ _ (λ_ _=>rfl) (λ_ _ _=>rfl),by simpa using G,?_,?_⟩,Jm _ _ _⟩
 ·rw[zcU g _ B rfl];simp[p]
 ·intro D c
  obtain⟨j,k⟩:=List.mem_iff_getElem?.1 c
  rw[Array.getElem?_toList,Array.getElem?_modify] at k
  split at k
  ·rename_i hij
   subst hij
   rw[g] at k
   cases k
   exact q e (List.mem_of_getElem? (by simpa using g))
  ·exact q D (List.mem_of_getElem? (by simpa using k))
theorem xt.lenRun (f:P.underlying t=some (.map kt et)) (h:xt P kt w b L) (ty:TypeId):(Builtin.len_ #[t] ty #[.map (some b)]).run P w=.ok (.int .i64 (L.length:Int)) w:=by
 obtain⟨es,c,d,i,g,rfl,e⟩:=h
 simp[Builtin.len_,run_underlying f,MapKept.run_getObj_map d,Result.andThen,goInt,kv]
end
section
variable {P:Program}
theorem mapM_some {α β:Type} {f:α→Option β}:∀ {l:List α},(∀x∈l,∃y,f x=some y)→∃d,l.mapM f=some d
 |[],_=>⟨[],rfl⟩
 |x::l,h=>by
  obtain⟨y,e⟩:=h x (by simp)
  obtain⟨d,c⟩:=mapM_some (l:=l) (λz g=>h z (by simp[g]))
  exact⟨y::d,by simp[List.mapM_cons,e,c]⟩
theorem JO {t:TypeId} {q:IntKind} (c:P.underlying t=some (.int q)) (d:Nat) {n:Int} (e:(Lit.int q n).wf=true):P.keyLits (d+1) t [.int q n]=some [.int q n]:=by
 simp[Program.keyLits,c,e]
theorem Vm {t e:TypeId} {q:IntKind} {n:Nat} (m:P.underlying t=some (.array n e)) (j:P.cellsOf t=n) (k:P.cellsOf e=1) (f:P.underlying e=some (.int q)) (d:Nat) (xs:List Int) (h:xs.length=n)
  (p:∀x∈xs,(Lit.int q x).wf=true):∃l,P.keyLits (d+2) t (xs.map (Value.int q))=some l:=by
 unfold Program.keyLits
 simp only[m,j,k,List.length_map,h,if_true]
 obtain⟨g,hys⟩:∃g,(List.range n).mapM (λi=>P.keyLits (d+1) e (((xs.map (Value.int q)).drop (i*1)).take 1))=some g:=by
  refine mapM_some λi hi=>?_
  have c:i<xs.length:=by rw[h];exact List.mem_range.1 hi
  refine⟨[.int q xs[i]],?_⟩
  rw[Nat.mul_one,←List.map_drop,←List.map_take,List.drop_eq_getElem_cons c]
  exact JO f d (p _ (List.getElem_mem c))
 exact⟨g.flatten,by rw[hys];rfl⟩
def xS (P:Program) (k:TypeId):List (TypeId×Nat×Bool):=
 match P.underlying k with
 |some (.struct fs)=>fs.toList.map λf=>(f.type,f.offset,f.name != "_")
 |_=>[]
theorem JA {k:TypeId} {d:List (TypeId×Nat×Bool)} (hsh:xS P k=d) (g:d≠[]) (i:d.all (·.2.2)=true) (e:P.keyType k=true) {cs:List Value} (j:P.cellsOf k=cs.length)
  (m:∀x∈d,∃l,P.keyLits P.types.size x.1 ((cs.drop x.2.1).take (P.cellsOf x.1))=some l):∃l,keyOf P k (.agg cs.toArray)=some l:=by
 unfold xS at hsh
 split at hsh
 ·rename_i fs hu
  subst hsh
  obtain⟨h,hys⟩:∃h,fs.toList.mapM (λf=>P.keyLits P.types.size f.type ((cs.drop f.offset).take (P.cellsOf f.type)))=some h:=
   mapM_some λf n=>m (f.type,f.offset,f.name != "_") (List.mem_map.2 ⟨f,n,rfl⟩)
  have c:fs.all (·.name != "_")=true:=by
   rw[←Array.all_toList]
   rw[List.all_map] at i
   exact i
  refine⟨.string (keyBytes h.flatten),?_⟩
  unfold keyOf
  rw[hu]
  simp only[e,Value.formed,hu,List.size_toArray,j,beq_self_eq_true,Bool.and_self,if_true,Value.cells]
  unfold Program.keyLits
  simp only[hu,j,c,and_self,if_true,hys]
  rfl
 ·exact absurd hsh.symm g
theorem zeM {k e:TypeId} {q:IntKind} {n:Nat} (f:P.underlying k=some (.array n e)) (c:P.keyType k=true) (i:P.cellsOf k=n) (p:P.cellsOf e=1) (g:P.underlying e=some (.int q)) (r:1≤P.types.size) (xs:List Int) (j:xs.length=n)
  (s:∀x∈xs,(Lit.int q x).wf=true):∃l,keyOf P k (.agg (xs.map (Value.int q)).toArray)=some l:=by
 obtain⟨d,m⟩:∃d,P.types.size=d+1:=⟨P.types.size-1,by omega⟩
 obtain⟨l,h⟩:=Vm f i p g d xs j s
 refine⟨.string (keyBytes l),?_⟩
 unfold keyOf
 rw[f]
 simp only[c,Value.formed,f,List.size_toArray,i,List.length_map,j,beq_self_eq_true,Bool.and_self,if_true,Value.cells,m,h]
 rfl
end
theorem zaR {w:World} {b:Nat} {x:Value} {T:TypeId} (h:w.heap[b]? =some (.cells #[x] T (0,0))):w.cell? ⟨b,0,none⟩=some x∧w.frozen? ⟨b,0,none⟩=false:=by simp[World.cell?,World.frozen?,h]
theorem Q0 {w:World} {b:Nat} {x y:Value} {T:TypeId} (h:w.heap[b]? =some (.cells #[x,y] T (0,0))):
  w.cell? ⟨b,0,none⟩=some x∧w.cell? ⟨b,1,none⟩=some y∧w.frozen? ⟨b,0,none⟩=false∧w.frozen? ⟨b,1,none⟩=false:=by simp[World.cell?,World.frozen?,h]
theorem Y7 {w:World} {b:Nat} {x y z:Value} {T:TypeId} (h:w.heap[b]? =some (.cells #[x,y,z] T (0,0))):
  w.cell? ⟨b,0,none⟩=some x∧w.cell? ⟨b,1,none⟩=some y∧w.cell? ⟨b,2,none⟩=some z∧w.frozen? ⟨b,0,none⟩=false∧w.frozen? ⟨b,1,none⟩=false∧w.frozen? ⟨b,2,none⟩=false:=by simp[World.cell?,World.frozen?,h]
theorem ye (w:World) (o:Obj):(w.alloc o).heap[w.heap.size]? =some o:=(MapKept.heap_alloc w o).1
theorem yL (w:World) (o:Obj) {n:Nat} (h:n=w.heap.size):(w.alloc o).heap[n]? =some o:=by subst h;exact ye w o
theorem Jj {w:World} {b:Nat} {o:Obj} (h:w.heap[b]? =some o) (c:Obj):(w.alloc c).heap[b]? =some o:=(Below.heap_alloc w c b (yG h)).trans h
section
variable {P:Program} {o:Oper} {a:Act} {w w':World}
theorem yw {K:Act→World→Prop} {Q:Exit→Act→World→Prop} {s x:Operand} {f:Array TypeId} {e g v:Value}
  (d:o.op=.call {callee:=.builtin .append,args:= #[s,x],argTypes:=f}) (j:a.eval s=e) (k:a.eval x=g)
  (c:(Builtin.append_ f o.type #[e,g]).run P w=.ok v w') (h:K (a.put o.dst v) w'):o.wp P a w K Q:=by
 unfold Oper.wp
 have i:(execOp a.eval o).run P w=.ok (.value v) w':=by
  simp[execOp,d,resolve,j,k,invoke,builtin,c,Result.andThen]
 rw[i]
 exact h
theorem zd6 {K:Act→World→Prop} {Q:Exit→Act→World→Prop} {s:Operand} {f:Array TypeId} {e v:Value}
  (d:o.op=.call {callee:=.builtin .clear,args:= #[s],argTypes:=f}) (i:a.eval s=e)
  (c:(Builtin.clear_ f o.type #[e]).run P w=.ok v w') (h:K (a.put o.dst v) w'):o.wp P a w K Q:=by
 unfold Oper.wp
 have g:(execOp a.eval o).run P w=.ok (.value v) w':=by
  simp[execOp,d,resolve,i,invoke,builtin,c,Result.andThen]
 rw[g]
 exact h
variable {ops:Array Oper} {rest:List Oper}
theorem zR {Q:Exit→Act→World→Prop} {s x:Operand} {f:Array TypeId} {e g v:Value} (i:o.guard=none)
  (d:o.op=.call {callee:=.builtin .append,args:= #[s,x],argTypes:=f}) (j:a.eval s=e) (k:a.eval x=g)
  (c:(Builtin.append_ f o.type #[e,g]).run P w=.ok v w') (h:wpList P ops Q rest (a.put o.dst v) w'):wpList P ops Q (o::rest) a w:=by
 refine wpList_plain i λK' hK'=>?_
 exact yw d j k c (hK' _ _ h)
theorem jT {Q:Exit→Act→World→Prop} {s:Operand} {f:Array TypeId} {e v:Value} (g:o.guard=none)
  (d:o.op=.call {callee:=.builtin .clear,args:= #[s],argTypes:=f}) (i:a.eval s=e)
  (c:(Builtin.clear_ f o.type #[e]).run P w=.ok v w') (h:wpList P ops Q rest (a.put o.dst v) w'):wpList P ops Q (o::rest) a w:=by
 refine wpList_plain g λK' hK'=>?_
 exact zd6 d i c (hK' _ _ h)
end
end Go
namespace Go
open Go.RowKit Go.Maps Go.MapKept
theorem Fr.of_grown {W:Nat→Prop} {w w':World} {a:Option Nat} (b:w.grownBy w' a) (c:∀k,a=some k→w.heap.size≤k∨W k):Fr W w w':=(Fr.refl W w).grown b c
theorem Zw (b off j:Nat):(⟨b,off,none⟩:Addr).add j=⟨b,off+j,none⟩:=by unfold Addr.add;split<;>simp_all
theorem V6 {P:Program} (w:World) (base:Nat) (t ty e:TypeId) (size bytes:Nat) (z:Value) (F:P.underlying t=some (.slice e)) (i:TypeInfo) (hi:P.info? e=some i) (O:i.zero=some z) (r:i.size=size) (I:i.bytes=bytes) (E:z.cells.size=size) (D:0<size)
  (v:Value) (n:Nat) (xs:List Value) (c:w.ownsRow base e size v n xs) (q:Addr) (m f:Nat) (news:List Value) (b:∀j u,news[j]? =some u→w.cell? (q.add j)=some u) (C:news.length=m*size) (H:∀u∈news,u.oneCell'=true)
  (a:(n+m)*bytes≤140737488355328) (h:n+m≤maxLen) (l:base≤w.heap.size):
  ∃s w',(Builtin.append_ #[t,t] ty #[v,.slice (some q) m f]).run P w=.ok s w'∧w'.ownsRow base e size s (n+m) (xs++news)∧w.grownBy w' v.ownBlock∧(s=.slice none 0 0↔v=.slice none 0 0∧m=0)∧(∀k,s.ownBlock=some k→v.ownBlock=some k∨w.heap.size≤k):=by
 obtain⟨s,w',d,V,W,X⟩:=run_append_own (P:=P) w base t ty e i z size bytes F hi O r I E D v n xs c q m f news C b H h a l
 refine⟨s,w',d,V,W,X,?_⟩
 rcases c.2 with⟨rfl,rfl⟩|⟨g,G,x,rfl,Q,S,T,R,K,M⟩
 ·have N:xs=[]:=List.eq_nil_of_length_eq_zero (by simpa using c.1)
  subst N
  obtain⟨Y,Z,p,U,_,_⟩:=run_append_own (P:=P) w w.heap.size t ty e i z size bytes F hi O r I E D (.slice none 0 0) 0 [] (World.ownsRow_nil _ _ _ _) q m f news C b H h a (Nat.le_refl _)
  have y:=d.symm.trans p
  injection y with e2 e3
  subst e2
  exact λk B=>.inr (U.lt k B).1
 ·by_cases hroom:n+m≤G
  ·have A:n*i.size+news.length≤x.size:=by rw[C,K,r,←Nat.add_mul];exact Nat.mul_le_mul_right _ hroom
   have L:=run_append_room (P:=P) w t ty e i F hi g n G x S q m f news (by rw[r];exact C) b H hroom A
   have y:=d.symm.trans L
   injection y with e2 e3
   subst e2
   exact λk B=>.inl B
  ·have o:∀j u,xs[j]? =some u→w.cell? ((⟨g,0,none⟩:Addr).add j)=some u:=c.cells (g:=g) rfl
   have L:=run_append_grow (P:=P) w t ty e i z F hi O ⟨g,0,none⟩ n G xs (by rw[r];exact c.1) o q m f news (by rw[r];exact C) b (by omega) (by simp only[maxLen] at h;omega) (growslice_fits (by omega) (by rw[I];exact a))
   have y:=d.symm.trans L
   injection y with e2 e3
   subst e2
   intro k B
   simp[Value.ownBlock] at B
   exact .inr (by omega)
theorem Jk {P:Program} (w:World) (base:Nat) (t ty e:TypeId) (size bytes:Nat) (z:Value) (C:P.underlying t=some (.slice e)) (g:(P.info? e).map (λi=>(i.zero,i.size,i.bytes))=some (some z,size,bytes)) (p:z.cells.size=size) (o:0<size)
  (v:Value) (n:Nat) (xs:List Value) (d:w.ownsRow base e size v n xs) (x:Value) (m:Nat) (news:List Value) (G:y7 w x m news) (A:news.length=m*size) (s:∀u∈news,u.oneCell'=true)
  (a:(n+m)*bytes≤140737488355328) (h:n+m≤maxLen) (c:base≤w.heap.size) (l:x≠.slice none 0 0):
  ∃q w',(Builtin.append_ #[t,t] ty #[v,x]).run P w=.ok q w'∧w'.ownsRow base e size q (n+m) (xs++news)∧w.grownBy w' v.ownBlock∧(q=.slice none 0 0↔v=.slice none 0 0∧m=0)∧(∀k,q.ownBlock=some k→v.ownBlock=some k∨w.heap.size≤k):=by
 obtain⟨i,hi,D,B,y⟩:=info_parts g
 rcases G with(⟨rfl,_⟩|⟨b,off,f,rfl,H,E,F,I⟩)|⟨a0,f,rfl,rfl,rfl,E⟩
 ·exact absurd rfl l
 ·exact V6 w base t ty e size bytes z C i hi D B y p o v n xs d ⟨b,off,none⟩ m f news (λj u r=>by rw[Zw];exact F j u r) A s a h c
 ·exact V6 w base t ty e size bytes z C i hi D B y p o v n xs d a0 0 f [] (λj u r=>by simp at r) A s a h c
theorem yX {P:Program} (w:World) (B:Nat) (t ty e:TypeId) (size bytes:Nat) (z:Value) (C:P.underlying t=some (.slice e)) (b:(P.info? e).map (λi=>(i.zero,i.size,i.bytes))=some (some z,size,bytes)) (o:z.cells.size=size) (m:0<size)
  {v:Value} {n:Nat} {xs:List Value} (f:w.ownsRow B e size v n xs) (news:List Value) (E:news.length=size) (p:∀u∈news,u.oneCell'=true)
  (a:(n+1)*bytes≤140737488355328) (g:n+1≤maxLen) (h:B≤w.heap.size):
  ∃c w',(Builtin.append_ #[t,t] ty #[v,.slice (some ⟨w.heap.size,0,none⟩) 1 1]).run P (w.alloc (.cells news.toArray e))=.ok c w'∧w'.ownsRow B e size c (n+1) (xs++news)∧Fr (λj=>v.ownBlock=some j) w w'∧
   (c≠.slice none 0 0)∧(∀k,c.ownBlock=some k→v.ownBlock=some k∨w.heap.size≤k):=by
 have D:jO (w.alloc (.cells news.toArray e)) (.slice (some ⟨w.heap.size,0,none⟩) 1 1) 1 news:=
  .inr ⟨w.heap.size,0,1,rfl,Nat.le_refl _,by unfold maxLen;omega,λj u s=>by
   have q:=ye w (.cells news.toArray e)
   simp only[World.cell?,q]
   simpa using s,by simp⟩
 obtain⟨c,w',d,A,r,y,l⟩:=Jk (P:=P) (w.alloc (.cells news.toArray e)) B t ty e size bytes z C b o m v n xs (f.alloc _) _ 1 news D.arg (by omega) p a g (by simp;omega) (by simp)
 refine⟨c,w',d,A,((Fr.refl _ w).alloc _).grown r (λk e=>.inr e),λe=>by simpa using(y.1 e).2,λk x=>(l k x).imp id (λe=>by simp at e;omega)⟩
end Go
namespace Go
open Go.RowKit
abbrev ff:=false
abbrev tt:=true
end Go
namespace Go
open Go.RowKit
theorem pA {α:Type _} {xs:List α} {i:Nat} {a:α}:xs.toArray.setIfInBounds i a=(xs.set i a).toArray:=List.setIfInBounds_toArray ..
theorem pB {α:Type _} {x:α} {xs:List α} {a:α}:(x::xs).set 0 a=a::xs:=List.set_cons_zero
theorem pC {α:Type _} {x:α} {xs:List α} {n:Nat} {a:α}:(x::xs).set (n+1) a=x::xs.set n a:=List.set_cons_succ
end Go
namespace Go
open Go.RowKit
theorem RowKit.Hid.o {p:Prop} (h:Hid p):p:=h
theorem J {p:Prop} (h:p):Hid p:=h
theorem tru:Hid True:=True.intro
abbrev HTr:=Hid True
theorem tZ2:HTr∧HTr:=⟨tru,tru⟩
theorem tZ3:HTr∧HTr∧HTr:=⟨tru,tZ2⟩
theorem tZ4:HTr∧HTr∧HTr∧HTr:=⟨tru,tZ3⟩
theorem tZ5:HTr∧HTr∧HTr∧HTr∧HTr:=⟨tru,tZ4⟩
theorem tZ6:HTr∧HTr∧HTr∧HTr∧HTr∧HTr:=⟨tru,tZ5⟩
theorem tZ7:HTr∧HTr∧HTr∧HTr∧HTr∧HTr∧HTr:=⟨tru,tZ6⟩
theorem tZ8:HTr∧HTr∧HTr∧HTr∧HTr∧HTr∧HTr∧HTr:=⟨tru,tZ7⟩
theorem tZ9:HTr∧HTr∧HTr∧HTr∧HTr∧HTr∧HTr∧HTr∧HTr:=⟨tru,tZ8⟩
theorem tZ10:HTr∧HTr∧HTr∧HTr∧HTr∧HTr∧HTr∧HTr∧HTr∧HTr:=⟨tru,tZ9⟩
theorem tZ11:HTr∧HTr∧HTr∧HTr∧HTr∧HTr∧HTr∧HTr∧HTr∧HTr∧HTr:=⟨tru,tZ10⟩
theorem tZ12:HTr∧HTr∧HTr∧HTr∧HTr∧HTr∧HTr∧HTr∧HTr∧HTr∧HTr∧HTr:=⟨tru,tZ11⟩
theorem tZ13:HTr∧HTr∧HTr∧HTr∧HTr∧HTr∧HTr∧HTr∧HTr∧HTr∧HTr∧HTr∧HTr:=⟨tru,tZ12⟩
theorem tZ14:HTr∧HTr∧HTr∧HTr∧HTr∧HTr∧HTr∧HTr∧HTr∧HTr∧HTr∧HTr∧HTr∧HTr:=⟨tru,tZ13⟩
theorem tZ16:HTr∧HTr∧HTr∧HTr∧HTr∧HTr∧HTr∧HTr∧HTr∧HTr∧HTr∧HTr∧HTr∧HTr∧HTr∧HTr:=⟨tru,tru,tru,tru,tru,tru,tru,tru,tru,tru,tru,tru,tru,tru,tru,tru⟩
theorem tZ45:HTr∧HTr∧HTr∧HTr∧HTr∧HTr∧HTr∧HTr∧HTr∧HTr∧HTr∧HTr∧HTr∧HTr∧HTr∧HTr∧HTr∧HTr∧HTr∧HTr∧HTr∧HTr∧HTr∧HTr∧HTr∧HTr∧HTr∧HTr∧HTr∧HTr∧HTr∧HTr∧HTr∧HTr∧HTr∧HTr∧HTr∧HTr∧HTr∧HTr∧HTr∧HTr∧HTr∧HTr∧HTr:=⟨tru,tru,tru,tru,tru,tru,tru,tru,tru,tru,tru,tru,tru,tru,tru,tru,tru,tru,tru,tru,tru,tru,tru,tru,tru,tru,tru,tru,tru,tru,tru,tru,tru,tru,tru,tru,tru,tru,tru,tru,tru,tru,tru,tru,tru⟩
end Go
namespace Go
section
variable {P:Program} {ops:Array Oper} {S:World→Prop}
def NoQ:Exit→Act→World→Prop:=λ_ _ _=>False
def Xd (ops:Array Oper) (dst:Option Tmp) (a a':Act):Prop:=
 ∀o:Oper,(∀cs b,o.op≠.select cs b)→(∀d,dst=some d→d∉o.looksAt ops)→
  execOp a'.eval o=execOp a.eval o∧Region.wanted o (yielded ops a'.tmps)=Region.wanted o (yielded ops a.tmps)
theorem Xd.put (a:Act) (dst:Option Tmp) (v:Value):Xd ops dst a (a.put dst v):=
 λo c h=>⟨execOp_put o c a dst v h,wanted_put o a dst v h⟩
theorem zgZ {o:Oper} {a:Act} {w:World} {K:Act→World→Prop} (h:o.wp P a w K NoQ):
  o.wp P a w (λk w'=>K k w'∧Xd ops o.dst a k) NoQ:=by
 unfold Oper.wp at*
 generalize (execOp a.eval o).run P w=r at*
 cases r with
 |ok n w'=>
  cases n<;>simp only[Oper.upon] at h⊢
  case value u=>exact⟨h,Xd.put _ _ _⟩
  case skip=>exact⟨h,Xd.put _ _ _⟩
  case defer d=>exact⟨h,λm p l=>by exact⟨(execOp_put m p _ o.dst undef l).trans rfl,(wanted_put m _ o.dst undef l).trans rfl⟩⟩
  case enter f args=>
   refine Calls.mono h λe i g=>?_
   cases e with
   |returned u=>exact⟨g,Xd.put _ _ _⟩
   |panicked c=>exact g
   |outgrown=>exact g
  case row row args=>exact Rows.mono h λu i g=>⟨g,Xd.put _ _ _⟩
 |halt x w'=>cases x<;>simp only[Oper.upon] at h⊢ <;>exact h
theorem zeS {o:Oper} {a:Act} {w:World} {K:Act→World→Prop} (h:o.wp P a w K NoQ):∃k w',K k w':=by
 unfold Oper.wp at*
 generalize (execOp a.eval o).run P w=r at*
 cases r with
 |ok n w'=>
  cases n<;>simp only[Oper.upon] at h
  case value u=>exact⟨_,_,h⟩
  case skip=>exact⟨_,_,h⟩
  case defer d=>exact⟨_,_,h⟩
  case enter f args=>
   obtain⟨e,i,fr,g,_⟩:=h []
   cases e with
   |returned u=>exact⟨_,_,g⟩
   |panicked c=>exact g.elim
   |outgrown=>obtain⟨_,_,l⟩:=g;exact l.elim
  case row row args=>
   obtain⟨v,i,g,_⟩:=h default []
   exact⟨_,_,g⟩
 |halt x w'=>cases x<;>simp only[Oper.upon] at h<;>exact h.elim
theorem zgY {l g:Oper} {v:Value} (m:l.apart ops g=true) (o:∀cs b,g.op≠.select cs b) {a:Act} {w:World} {K:Act→World→Prop}
  (h:g.wp P a w (λq w'=>K (q.put l.dst v) w') NoQ):g.wp P (a.put l.dst v) w K NoQ:=by
 obtain⟨s,i,t⟩:=Oper.apart_spec m
 unfold Oper.wp at*
 rw[execOp_put g o a l.dst v s]
 generalize (execOp a.eval g).run P w=r at*
 cases r with
 |ok n w'=>
  cases n<;>simp only[Oper.upon] at h⊢
  case value u=>rw[Act.put_comm a v u i];exact h
  case skip=>rw[Act.put_comm a v undef i];exact h
  case defer d=>rw[Act.put_defers,Act.put_comm _ v undef i];exact h
  case enter f args=>
   refine Calls.mono h λe p k=>?_
   cases e with
   |returned u=>simp only[];rw[Act.put_comm a v u i];exact k
   |panicked c=>exact k
   |outgrown=>exact k
  case row row args=>exact Rows.mono h λu p k=>by rw[Act.put_comm a v u i];exact k
 |halt x w'=>cases x<;>simp only[Oper.upon] at h⊢ <;>exact h
def zbJ (P:Program) (ops:Array Oper) (eff:List Nat) (S:World→Prop) (Q:Act→World→Prop):List Nat→Act→World→Prop
 |[],a,w=>Q a w
 |i::rest,a,w=>∃o,ops[i]? =some o∧
   (if eff.contains i=true∧Region.wanted o (yielded ops a.tmps)=true then o.wp P a w (λa' w'=>S w'∧zbJ P ops eff S Q rest a' w') NoQ
    else ∃v,YieldsIf P ops S o v a∧zbJ P ops eff S Q rest (a.put o.dst v) w)
theorem YieldsIf.uniq {o:Oper} {v f:Value} {a:Act} {w:World} (hS:S w) (h:YieldsIf P ops S o v a) (g:YieldsIf P ops S o f a):v=f:=by
 rcases h with⟨h1,h2⟩|⟨h1,h2⟩<;>rcases g with⟨c,d⟩|⟨c,d⟩
 ·have e:=(h2 w hS).symm.trans (d w hS)
  injection e with e1 e2
  injection e1
 ·rw[h1] at c;cases c
 ·rw[h1] at c;cases c
 ·rw[h2,d]
def Yr (ops:Array Oper):Bool:=
 (List.range ops.size).all λi=>(List.range ops.size).all λj=>i==j||Region.waitsFor .any ops j i||Region.waitsFor .any ops i j||
  (match ops[i]?,ops[j]? with|some oi,some oj=>oi.apart ops oj|_,_=>true)
theorem vq (h:Yr ops=true) {i j:Nat} {e f:Oper} (hi:ops[i]? =some e) (d:ops[j]? =some f) (c:i≠j)
  (l:Region.waitsFor .any ops j i=false) (m:Region.waitsFor .any ops i j=false):e.apart ops f=true:=by
 unfold Yr at h
 have g:=List.all_eq_true.1 h i (List.mem_range.2 (Array.getElem?_eq_some_iff.1 hi).1)
 have k:=List.all_eq_true.1 g j (List.mem_range.2 (Array.getElem?_eq_some_iff.1 d).1)
 simpa[c,l,m,hi,d] using k
theorem vM {i j:Nat} {c:Oper} (f:ops[j]? =some c) (h:∀e∈c.after,Region.binds .any e=true→e.on≠i):Region.waitsFor .any ops j i=false:=by
 unfold Region.waitsFor
 rw[f]
 simp only[]
 rw[Array.any_eq_false']
 intro e d
 simp only[Bool.and_eq_true,beq_iff_eq,not_and]
 exact h e d
theorem zjG (m:∀(j:Nat) (o:Oper) cs b,ops[j]? =some o→o.op≠.select cs b) (u:Yr ops=true) {eff:List Nat} {Q:Act→World→Prop} {j:Nat} {c:Oper} (F:ops[j]? =some c):
  ∀(L:List Nat) (a:Act) (w:World),S w→j∈L→L.Nodup→(∀i∈L,Region.waitsFor .any ops j i=false)→(∀i∈L,i<j→Region.waitsFor .any ops i j=false)→
   (∀i∈L,i≠j→i<j∨True)→L.Pairwise (· < ·)→(eff.contains j=false∨Region.wanted c (yielded ops a.tmps)=false)→
   zbJ P ops eff S Q L a w→∃v,YieldsIf P ops S c v a∧zbJ P ops eff S Q (L.erase j) (a.put c.dst v) w:=by
 intro L
 induction L with
 |nil=>intro a w _ T;cases T
 |cons h L ih=>
  intro a w hS T U D E _ z k H
  obtain⟨g,d,H⟩:=H
  by_cases hhj:h=j
  ·subst hhj
   rw[F] at d
   cases d
   rw[if_neg (by rintro⟨e1,e2⟩;rcases k with e|e<;>simp_all)] at H
   obtain⟨v,q,A⟩:=H
   exact⟨v,q,by simpa using A⟩
  ·have y:j∈L:=by
    rcases List.mem_cons.1 T with e|e
    ·exact absurd e.symm hhj
    ·exact e
   have R:h<j:=(List.pairwise_cons.1 z).1 j y
   have p:Region.waitsFor .any ops j h=false:=D h (by simp)
   have n:Region.waitsFor .any ops h j=false:=E h (by simp) R
   have aj:c.apart ops g=true:=vq u F d (λe=>hhj e.symm) n p
   have ah:g.apart ops c=true:=vq u d F hhj p n
   obtain⟨X,p2,p3⟩:=Oper.apart_spec aj
   have C:=λcs b=>m j c cs b F
   have hsh:=λcs b=>m h g cs b d
   have back:∀ {f:Act} {v:Value},Xd ops g.dst a f→YieldsIf P ops S c v f→YieldsIf P ops S c v a:=fun {f v} A q=>
    let ⟨Y,Z⟩:=A c C p3
    q.of_same Y.symm Z.symm
   have t:∀(f:Act) (w':World),S w'→Xd ops g.dst a f→zbJ P ops eff S Q L f w'→∃v,YieldsIf P ops S c v f∧zbJ P ops eff S Q (L.erase j) (f.put c.dst v) w':=λf w' l A N=>
    ih f w' l y (List.nodup_cons.1 U).2 (λi hi=>D i (by simp[hi])) (λi hi=>E i (by simp[hi])) (λ_ _ _=>.inr trivial) (List.pairwise_cons.1 z).2 (k.imp id (λe=>(A c C p3).2.trans e)) N
   have M:(h::L).erase j=h::L.erase j:=by rw[List.erase_cons_tail];simpa using hhj
   rw[M]
   split at H
   ·rename_i hc
    have H2:=zgZ (ops:=ops) H
    obtain⟨a0,w0,⟨⟨I,O⟩,B⟩⟩:=zeS H2
    obtain⟨v,V,_⟩:=t a0 w0 I B O
    have q:=back B V
    refine⟨v,q,g,d,?_⟩
    rw[if_pos ⟨hc.1,by rw[wanted_put g a c.dst v X];exact hc.2⟩]
    refine zgY aj hsh (Oper.wp_mono (λf w' ⟨⟨l,r⟩,hr'⟩=>?_) H2)
    obtain⟨v',s,x⟩:=t f w' l hr' r
    have:v'=v:=YieldsIf.uniq hS (back hr' s) q
    subst this
    exact⟨l,x⟩
   ·rename_i hc
    obtain⟨G,W,N⟩:=H
    obtain⟨v,s,r⟩:=t _ w hS (Xd.put a g.dst G) N
    have q:=back (Xd.put a g.dst G) s
    refine⟨v,q,g,d,?_⟩
    rw[if_neg (by rw[wanted_put g a c.dst v X];exact hc)]
    obtain⟨Y,Z⟩:=Xd.put (ops:=ops) a c.dst v g hsh X
    exact⟨G,W.of_same Y Z,by rw[←Act.put_comm a G v (Oper.apart_spec ah).2.1];exact r⟩
def QF (ops:Array Oper):Nat→Nat→Nat→Bool
 |0,_,_=>false
 |f+1,j,i=>(List.range ops.size).any λk=>Region.waitsFor .any ops j k && (k==i||QF ops f k i)
def ZY (ops:Array Oper) (listed:Array Bool):Prop:=
 ∀j oj,ops[j]? =some oj→listed.getD j false=true→∀e∈oj.after,Region.binds .any e=true→listed.getD e.on false=true
theorem JR {listed:Array Bool} (n:ZY ops listed):∀(f j i:Nat),QF ops f j i=true→
  (∀k,Region.waitsFor .any ops j k=true→listed.getD k false=true)→listed.getD i false=true
 |0,_,_,h,_=>by cases h
 |f+1,j,i,h,hd=>by
  unfold QF at h
  obtain⟨k,_,g⟩:=List.any_eq_true.1 h
  simp only[Bool.and_eq_true,Bool.or_eq_true,beq_iff_eq] at g
  have c:=hd k g.1
  rcases g.2 with e|e
  ·exact e▸c
  ·refine JR n f k i e λm q=>?_
   obtain⟨ok,hok,o,d,p,l⟩:=Region.waitsFor_spec q
   exact l▸n k ok hok c o d p
def zaN (ops:Array Oper) (eff:List Nat):Bool:=
 Region.noSelect ops && Yr ops &&
 ((List.range ops.size).all λi=>(List.range ops.size).all λj=>decide (j<i)|| !Region.waitsFor .any ops i j) &&
 ((List.range ops.size).all λj=>(ops[j]?).any λo=>o.after.all λe=> !Region.binds .any e||decide (e.on<ops.size)) &&
 (eff.all λj=>eff.all λi=>decide (j≤i)||QF ops ops.size j i)
def unl (ops:Array Oper) (listed:Array Bool):List Nat:=(List.range ops.size).filter λi=> !listed.getD i true
theorem zd2 (listed:Array Bool):(unl ops listed).Pairwise (· < ·):=List.Pairwise.filter _ List.pairwise_lt_range
theorem X9 {listed:Array Bool} {j:Nat} (f:listed.size=ops.size):unl ops (listed.setIfInBounds j true)=(unl ops listed).erase j:=by
 have d:(unl ops listed).Nodup:=(zd2 listed).imp (λh=>Nat.ne_of_lt h)
 rw[d.erase_eq_filter]
 unfold unl
 rw[List.filter_filter]
 apply List.filter_congr
 intro i hi
 have c:=List.mem_range.1 hi
 by_cases hij:i=j
 ·subst hij
  simp[f,c]
 ·rw[getD_set_ne true (λe=>hij e.symm)]
  simp[hij]
theorem ZY.set {listed:Array Bool} {j:Nat} (l:ZY ops listed) (m:j∈Region.ready .any ops listed):ZY ops (listed.setIfInBounds j true):=by
 obtain⟨_,n,f,c⟩:=mem_ready.1 m
 intro k ok d i e h g
 by_cases hkj:j=k
 ·subst hkj
  rw[f] at d
  cases d
  exact getD_set_true (c e h g)
 ·rw[getD_set_ne false hkj] at i
  exact getD_set_true (l k ok d i e h g)
theorem zhX {eff:List Nat} (hok:zaN ops eff=true) {Q:Exit→Act→World→Prop} (hQ:∀c a d v w,Q (.panic c) (Act.put a d v) w→Q (.panic c) a w):
  ∀(n:Nat) (listed:Array Bool) (a:Act) (w:World),listed.size=ops.size→ZY ops listed→(unl ops listed).length=n→S w→
   zbJ P ops eff S (Q .normal) (unl ops listed) a w→wpAnyH P .any ops Q S n listed a w:=by
 simp only[zaN,Bool.and_eq_true] at hok
 obtain⟨⟨⟨⟨ao,ad⟩,ag⟩,ak⟩,ae⟩:=hok
 have U:=Region.noSelect_spec ao
 have N:∀i j,i<ops.size→Region.waitsFor .any ops i j=true→j<i:=λi j hi hw=>by
  obtain⟨oi,q,e,C,X,ab⟩:=Region.waitsFor_spec hw
  have A:=List.all_eq_true.1 ak i (List.mem_range.2 hi)
  rw[q] at A
  have h3:=Array.all_eq_true'.1 A e C
  simp only[X,Bool.not_true,Bool.false_or,decide_eq_true_eq] at h3
  have h4:=List.all_eq_true.1 (List.all_eq_true.1 ag i (List.mem_range.2 hi)) j (List.mem_range.2 (ab▸h3))
  simpa[hw] using h4
 intro n
 induction n with
 |zero=>
  intro listed a w t hc p hS H
  have R:unl ops listed=[]:=List.eq_nil_of_length_eq_zero p
  rw[R] at H
  refine⟨?_,H⟩
  by_cases hr:Region.ready .any ops listed=[]
  ·exact hr
  ·obtain⟨j,z⟩:=List.exists_mem_of_ne_nil _ hr
   obtain⟨W,o,ho,_⟩:=mem_ready.1 z
   have:j∈unl ops listed:=List.mem_filter.2 ⟨List.mem_range.2 (Array.getElem?_eq_some_iff.1 ho).1,by rw[W];rfl⟩
   rw[R] at this
   cases this
 |succ n ih=>
  intro listed a w t hc p hS H
  have g:∀ {j},j∈unl ops listed↔j<ops.size∧listed.getD j true=false:=fun {j}=>by
   unfold unl
   rw[List.mem_filter,List.mem_range]
   simp
  have ah:∀ {j},j∈Region.ready .any ops listed→j∈unl ops listed:=fun {j} z=>by
   obtain⟨W,o,ho,_⟩:=mem_ready.1 z
   exact g.2 ⟨(Array.getElem?_eq_some_iff.1 ho).1,W⟩
  have next:∀j,j∈Region.ready .any ops listed→∀M w',S w'→zbJ P ops eff S (Q .normal) ((unl ops listed).erase j) M w'→wpAnyH P .any ops Q S n (listed.setIfInBounds j true) M w':=λj z M w' F E=>by
   refine ih _ M w' (by simp[t]) (hc.set z) ?_ F (by rw[X9 t];exact E)
   rw[X9 t,List.length_erase_of_mem (ah z),p]
   rfl
  obtain⟨i,L,hiL⟩:∃i L,unl ops listed=i::L:=by
   cases hu:unl ops listed with
   |nil=>rw[hu] at p;cases p
   |cons i L=>exact⟨i,L,rfl⟩
  have I:=zd2 (ops:=ops) listed
  have aj:i∈unl ops listed:=by rw[hiL];simp
  have hi:=g.1 aj
  have O:∀k,k∈unl ops listed→i≤k:=λk s=>by
   rw[hiL] at s I
   rcases List.mem_cons.1 s with rfl|s
   ·exact Nat.le_refl _
   ·exact Nat.le_of_lt ((List.pairwise_cons.1 I).1 k s)
  have y:∀k,k<i→listed.getD k false=true:=λk s=>by
   cases E:listed.getD k true with
   |false=>exact absurd (O k (g.2 ⟨Nat.lt_trans s hi.1,E⟩)) (by omega)
   |true=>
    have:k<listed.size:=by rw[t];exact Nat.lt_trans s hi.1
    simp[this] at E⊢
    exact E
  rw[hiL] at H
  obtain⟨oi,q,H⟩:=H
  have D:i∈Region.ready .any ops listed:=mem_ready.2 ⟨hi.2,oi,q,λe C X=>
   y _ (N i e.on hi.1 (by
    unfold Region.waitsFor
    rw[q]
    exact Array.any_eq_true'.2 ⟨e,C,by simp[X]⟩))⟩
  have al:Region.ready .any ops listed≠[]:=λW=>by rw[W] at D;cases D
  have af:(unl ops listed).erase i=L:=by rw[hiL];simp
  have f:∀j,j∈Region.ready .any ops listed→∀k,k∈unl ops listed→Region.waitsFor .any ops j k=false:=λj z k s=>by
   obtain⟨_,oj,l,B⟩:=mem_ready.1 z
   refine vM l λe C X ai=>?_
   have h1:=B e C X
   rw[ai] at h1
   have A:=(g.1 s).2
   have Z:k<listed.size:=by rw[t];exact(g.1 s).1
   simp[Z] at h1 A
   rw[h1] at A
   cases A
  split at H
  ·rename_i hcond
   refine⟨λW=>absurd W al,λj z=>?_⟩
   by_cases Y:j=i
   ·subst Y
    unfold wpOp
    rw[q]
    simp only[hcond.2,if_true]
    refine .inl ?_
    have H':=Oper.wp_mono (K':=λM w'=>S w'∧wpAnyH P .any ops Q S n (listed.setIfInBounds j true) M w') (λM w' ⟨F,E⟩=>⟨F,next j z M w' F (by rw[af];exact E)⟩) H
    unfold Oper.wp at H'⊢
    generalize (execOp a.eval oi).run P w=r at*
    cases r with
    |ok m w'=>
     cases m<;>simp only[Oper.upon] at H'⊢ <;>first
      |exact H'
      |exact Calls.mono H' (λe aw C=>by
        cases e with
        |returned u=>exact C
        |panicked c=>exact C.elim
        |outgrown=>obtain⟨_,_,hf⟩:=C;exact hf.elim)
    |halt x w'=>cases x<;>simp only[Oper.upon] at H'⊢ <;>exact H'.elim
   ·-- a read that may come up
    obtain⟨_,oj,l,B⟩:=mem_ready.1 z
    have G:=ah z
    have aa:eff.contains j=false:=by
     cases hcj:eff.contains j with
     |false=>rfl
     |true=>
      have h1:=List.all_eq_true.1 ae j (by simpa using hcj)
      have A:=List.all_eq_true.1 h1 i (by simpa using hcond.1)
      have au:=O j G
      simp only[Bool.or_eq_true,decide_eq_true_eq] at A
      have h3:QF ops ops.size j i=true:=by rcases A with A|A<;>first|omega|exact A
      have h4:=JR hc _ j i h3 (λk s=>by
       obtain⟨av,T,e,C,X,ab⟩:=Region.waitsFor_spec s
       rw[l] at T
       cases T
       exact ab▸B e C X)
      have Z:i<listed.size:=by rw[t];exact hi.1
      have h5:=hi.2
      simp[Z] at h4 h5
      rw[h4] at h5
      cases h5
    have V:zbJ P ops eff S (Q .normal) (unl ops listed) a w:=by
     rw[hiL]
     exact⟨oi,q,by rw[if_pos hcond];exact H⟩
    obtain⟨v,hy,E⟩:=zjG U ad l (unl ops listed) a w hS G (I.imp (λh=>Nat.ne_of_lt h)) (λk s=>f j z k s)
     (λk s ar=>by
      cases hwk:Region.waitsFor .any ops k j with
      |false=>rfl
      |true=>have:=N k j (g.1 s).1 hwk;omega)
     (λ_ _ _=>.inr trivial) I (.inl aa) V
    exact hy.wpOp l hS ⟨hS,next j z _ _ hS E⟩
  ·rename_i hcond
   obtain⟨v,hy,E⟩:=H
   refine wpAnyH_first q U (λc a w=>hQ c a oi.dst v w) n listed a w (λj oj l Y aq an=>?_) D hy hS (next i D _ _ hS (by rw[af];exact E))
   have G:=g.2 ⟨(Array.getElem?_eq_some_iff.1 l).1,aq⟩
   exact vq ad q l (λe=>Y e.symm) (vM l an) (f i D j G)
theorem zcq {id:Nat} {a:Act} {w:World} {Q:Exit→Act→World→Prop} (eff:List Nat) (S:World→Prop) (f:P.follows .mixedOrders=true) (hok:zaN ops eff=true)
  (hS:S w.drew) (L:List Nat) (e:List.range ops.size=L)
  (h:∀K:Act→World→Prop,Shut (∀a w,Q .normal a w→K a w)→zbJ P ops eff S K L a w.drew):(Code.region id ops true).wp P Q a w:=by
 refine wp_region_noPanic (wp_region_held (S:=S) f ?_)
 have d:unl ops (Array.replicate ops.size false)=List.range ops.size:=by
  unfold unl
  rw[List.filter_eq_self]
  intro i hi
  have:=List.mem_range.1 hi
  simp[this]
 refine zhX hok (λ_ _ _ _ _ h=>h) _ _ a _ (by simp) (λj k g c=>?_) (by rw[d];simp) hS (by rw[d,e];exact h _ (λ_ _ h=>h))
 by_cases hjs:j<ops.size
 ·simp[hjs] at c
 ·simp[hjs] at c
def JG (P:Program) (ops:Array Oper) (S:World→Prop) (Q:Act→World→Prop):List Bool→List Oper→Act→World→Prop
 |_,[],a,w=>Q a w
 |es,o::rest,a,w=>
   if es.headD false=true∧Region.wanted o (yielded ops a.tmps)=true then o.wp P a w (λa' w'=>S w'∧JG P ops S Q es.tail rest a' w') NoQ
    else ∃v,YieldsIf P ops S o v a∧JG P ops S Q es.tail rest (a.put o.dst v) w
def zaH (es:List Bool):List Nat:=(List.range es.length).filter λi=>es.getD i false
theorem Xk (es:List Bool) (i:Nat):(zaH es).contains i=es.getD i false:=by
 rw[Bool.eq_iff_iff]
 simp only[zaH,List.contains_iff_mem,List.mem_filter,List.mem_range]
 constructor
 ·exact λh=>h.2
 ·intro h
  refine⟨?_,h⟩
  rcases Nat.lt_or_ge i es.length with h'|h'
  ·exact h'
  ·simp[List.getD,List.getElem?_eq_none h'] at h
theorem YP {es:List Bool} {K:Act→World→Prop}:∀(l:List Oper) (i:Nat) (a:Act) (w:World),(∀k o,l[k]? =some o→ops[i+k]? =some o)→
  JG P ops S K (es.drop i) l a w→zbJ P ops (zaH es) S K (List.range' i l.length) a w
 |[],i,a,w,_,h=>h
 |o::rest,i,a,w,ho,h=>by
  have g:ops[i]? =some o:=ho 0 o rfl
  have c:∀k d,rest[k]? =some d→ops[i+1+k]? =some d:=λk d n=>by
   have:=ho (k+1) d (by simpa using n)
   rwa [show i+1+k=i+(k+1) by omega]
  have m:(es.drop i).headD false=es.getD i false:=by simp[List.getD,List.headD_eq_head?_getD]
  have p:(es.drop i).tail=es.drop (i+1):=by simp[List.tail_drop]
  rw[JG,m,p] at h
  rw[List.length_cons,List.range'_succ]
  refine⟨o,g,?_⟩
  rw[Xk]
  split at h
  ·rename_i hc
   rw[if_pos hc]
   exact Oper.wp_mono (λf w' ⟨hS,e⟩=>⟨hS,YP rest (i+1) f w' c e⟩) h
  ·rename_i hc
   rw[if_neg hc]
   obtain⟨v,q,e⟩:=h
   exact⟨v,q,YP rest (i+1) _ w c e⟩
theorem zkw {id:Nat} {a:Act} {w:World} {Q:Exit→Act→World→Prop} {l:List Oper} (es:List Bool) (S:World→Prop) (d:P.follows .mixedOrders=true) (hok:zaN l.toArray (zaH es)=true)
  (hS:S w.drew)
  (h:∀K:Act→World→Prop,Shut (∀a w,Q .normal a w→K a w)→JG P l.toArray S K es l a w.drew):(Code.region id l.toArray true).wp P Q a w:=by
 refine zcq (zaH es) S d hok hS _ rfl (λK hK=>?_)
 have:=YP (P:=P) (ops:=l.toArray) (S:=S) (es:=es) (K:=K) l 0 a w.drew (λk o c=>by simpa using c) (by simpa using h K hK)
 simpa[List.range_eq_range'] using this
theorem zL {es:List Bool} {K:Act→World→Prop} {a:Act} {w:World} (h:K a w):JG P ops S K es [] a w:=h
theorem zj {es:List Bool} {K:Act→World→Prop} {a:Act} {w:World} {o:Oper} {rest:List Oper}
  (c:Region.wanted o (yielded ops a.tmps)=true) (h:∃v,(∀w,S w→(execOp a.eval o).run P w=.ok (.value v) w)∧JG P ops S K es rest (a.put o.dst v) w):JG P ops S K (false::es) (o::rest) a w:=by
 obtain⟨v,d,h⟩:=h
 rw[JG,if_neg (by simp)]
 exact⟨v,.inl ⟨c,d⟩,h⟩
theorem zl {e:Bool} {es:List Bool} {K:Act→World→Prop} {a:Act} {w:World} {o:Oper} {rest:List Oper}
  (c:Region.wanted o (yielded ops a.tmps)=false) (h:JG P ops S K es rest (a.put o.dst undef) w):JG P ops S K (e::es) (o::rest) a w:=by
 rw[JG,if_neg (by rw[c];simp)]
 exact⟨undef,.inr ⟨c,rfl⟩,h⟩
theorem zE {es:List Bool} {K:Act→World→Prop} {a:Act} {w:World} {o:Oper} {rest:List Oper}
  (f:Region.wanted o (yielded ops a.tmps)=true) (h:∀K',Shut (∀c w',S w'→(S w'→JG P ops S K es rest c w')→K' c w')→o.wp P a w K' NoQ):JG P ops S K (true::es) (o::rest) a w:=by
 rw[JG,if_pos ⟨rfl,f⟩]
 exact h _ (λ_ _ d e=>⟨d,e d⟩)
section
variable {es:List Bool} {K:Act→World→Prop} {a:Act} {w:World} {rest:List Oper} {dst:Option Tmp} {op:Op} {ty:TypeId} {pos:String} {after:Array Edge} {j:Nat} {b:Bool}
theorem zm9 (h:∃v,(∀w,S w→(execOp a.eval {dst:=dst,op:=op,type:=ty,pos:=pos,after:=after,guard:=none}).run P w=.ok (.value v) w)∧JG P ops S K es rest (a.put dst v) w):
  JG P ops S K (false::es) ({dst:=dst,op:=op,type:=ty,pos:=pos,after:=after,guard:=none}::rest) a w:=zj rfl h
theorem zmJ (c:yielded ops a.tmps j=some b) (h:∃v,(∀w,S w→(execOp a.eval {dst:=dst,op:=op,type:=ty,pos:=pos,after:=after,guard:=some (j,b)}).run P w=.ok (.value v) w)∧JG P ops S K es rest (a.put dst v) w):
  JG P ops S K (false::es) ({dst:=dst,op:=op,type:=ty,pos:=pos,after:=after,guard:=some (j,b)}::rest) a w:=zj (by simp[Region.wanted,c]) h
theorem zna {e c:Bool} (f:yielded ops a.tmps j=some c) (d:c= !b) (h:JG P ops S K es rest (a.put dst undef) w):
  JG P ops S K (e::es) ({dst:=dst,op:=op,type:=ty,pos:=pos,after:=after,guard:=some (j,b)}::rest) a w:=zl (by subst d;simp[Region.wanted,f]) h
theorem zmK {e:Bool} (c:yielded ops a.tmps j=none) (h:JG P ops S K es rest (a.put dst undef) w):
  JG P ops S K (e::es) ({dst:=dst,op:=op,type:=ty,pos:=pos,after:=after,guard:=some (j,b)}::rest) a w:=zl (by simp[Region.wanted,c]) h
theorem znJ (h:∀K',Shut (∀c w',S w'→(S w'→JG P ops S K es rest c w')→K' c w')→Oper.wp P {dst:=dst,op:=op,type:=ty,pos:=pos,after:=after,guard:=none} a w K' NoQ):
  JG P ops S K (true::es) ({dst:=dst,op:=op,type:=ty,pos:=pos,after:=after,guard:=none}::rest) a w:=zE rfl h
theorem zm8 (d:yielded ops a.tmps j=some b) (h:∀K',Shut (∀c w',S w'→(S w'→JG P ops S K es rest c w')→K' c w')→Oper.wp P {dst:=dst,op:=op,type:=ty,pos:=pos,after:=after,guard:=some (j,b)} a w K' NoQ):
  JG P ops S K (true::es) ({dst:=dst,op:=op,type:=ty,pos:=pos,after:=after,guard:=some (j,b)}::rest) a w:=zE (by simp[Region.wanted,d]) h
end
end
attribute [irreducible] JG
end Go
namespace Go
open Go.RowKit
theorem wrLx {P:Program} {id:Nat} {a:Act} {w:World} {Q:Exit→Act→World→Prop} {l:List Oper} (es:List Bool) (S:World→Prop) (hS:S w.drew) (h:∀K:Act→World→Prop,Shut (∀a w,Q .normal a w→K a w)→JG P l.toArray S K es l a w.drew) (hm:P.follows .mixedOrders=true:=by kernel_rfl) (hok:zaN l.toArray (zaH es)=true:=by kernel_rfl):(Code.region id l.toArray true).wp P Q a w:=zkw es S hm hok hS h
end Go
namespace Go
open Go.RowKit
theorem frN (w:World):Fr No w w:=Fr.refl No w
end Go
namespace Go
open Go.RowKit Go.Maps Go.MapKept
theorem zb {w w':World} {base:Nat} {e:TypeId} {size:Nat} {v:Value} {n:Nat} {xs:List Value} (h:w.ownsRow base e size v n xs) {W:Nat→Prop} (f:Fr W w w') (j:∀b,v.ownBlock=some b→¬W b):w'.ownsRow base e size v n xs:=by
 refine⟨h.1,?_⟩
 rcases h.2 with hn|⟨g,c,d,rfl,i,l,rest⟩
 ·exact .inl hn
 ·exact .inr ⟨g,c,d,rfl,i,f.obj l (j g rfl),rest⟩
theorem vK {P:Program} {t:TypeId} (h:(P.underlying t).map (·.isRow)=some true):∃d,P.underlying t=some d∧d.isRow=true:=by
 cases e:P.underlying t with
 |none=>rw[e] at h;cases h
 |some d=>rw[e] at h;exact⟨d,rfl,by simpa using h⟩
theorem za {w w':World} {b o:Nat} {cs:List Value} (h:w.rangeAt b o cs) {W:Nat→Prop} (f:Fr W w w') (c:¬W b):w'.rangeAt b o cs:=λj v d=>f.cell (h j v d) c
theorem zy (w:World) (cs:List Value) (T:TypeId):(w.alloc (.cells cs.toArray T)).rangeAt w.heap.size 0 cs:=λj v c=>by
 have b:=ye w (.cells cs.toArray T)
 simp only[World.cell?,b]
 simpa using c
theorem zq {w:World} {b:Nat} {c:Array Value} {T:TypeId} {fr:Nat×Nat} (d:w.heap[b]? =some (.cells c T fr)):w.rangeAt b 0 c.toList:=λj v e=>by
 simp only[World.cell?,d]
 simpa using e
theorem Zz {α β:Type} (f:α→List β) (k:Nat):∀(L:List α),(∀x∈L,(f x).length=k)→∀(i:Nat) (x:α),L[i]? =some x→∀r,r<k→(L.flatMap f)[i*k+r]? =(f x)[r]?
 |[],_,i,x,h,_,_=>by simp at h
 |y::L,hk,0,x,h,r,hr=>by
  simp at h
  subst h
  rw[List.flatMap_cons,Nat.zero_mul,Nat.zero_add,List.getElem?_append_left (by rw[hk y (by simp)];exact hr)]
 |y::L,hk,i+1,x,h,r,hr=>by
  rw[List.flatMap_cons,List.getElem?_append_right (by rw[hk y (by simp),Nat.succ_mul];omega),hk y (by simp)]
  rw[show(i+1)*k+r-k=i*k+r by rw[Nat.succ_mul];omega]
  exact Zz f k L (λx b=>hk x (by simp[b])) i x (by simpa using h) r hr
theorem xJ {α β:Type} (f:α→List β) (k:Nat):∀(L:List α),(∀x∈L,(f x).length=k)→(L.flatMap f).length=L.length*k
 |[],_=>by simp
 |y::L,hk=>by rw[List.flatMap_cons,List.length_append,hk y (by simp),xJ f k L (λx b=>hk x (by simp[b])),List.length_cons,Nat.succ_mul];omega
def setM (xs:List Value):Nat→List Value→List Value
 |_,[]=>xs
 |o,v::r=>setM (xs.set o v) (o+1) r
theorem ji:∀(cs A B C:List Value),B.length=cs.length→setM (A++B++C) A.length cs=A++cs++C
 |[],A,B,C,h=>by
  have:B=[]:=List.eq_nil_of_length_eq_zero h
  subst this
  rfl
 |v::r,A,[],C,h=>by simp at h
 |v::r,A,b::B,C,h=>by
  unfold setM
  rw[List.append_assoc,List.set_append_right _ _ (Nat.le_refl _),Nat.sub_self,List.cons_append,List.set_cons_zero]
  have e:A++v::(B++C)=(A++[v])++B++C:=by simp
  rw[e,show A.length+1=(A++[v]).length by simp,ji r (A++[v]) B C (by simpa using h)]
  simp
theorem xz (g:Nat) (T:TypeId):∀(cs:List Value) (o:Nat) (w:World) (cur:Array Value),w.heap[g]? =some (.cells cur T (0,0))→(w.setCells g o cs).heap[g]? =some (.cells (setM cur.toList o cs).toArray T (0,0))
 |[],o,w,cur,h=>by simpa[World.setCells,setM] using h
 |v::r,o,w,cur,h=>by
  have b:=heap_setCell_same w g o _ _ v h
  have:=xz g T r (o+1) _ _ b
  simp only[World.setCells,setM]
  rw[this]
  simp
theorem zu (g:Nat):∀(cs:List Value) (o:Nat) (w:World),Fr (λi=>i=g) w (w.setCells g o cs)
 |[],_,_=>Fr.refl _ _
 |v::r,o,w=>(Fr.setCell (W:=λi=>i=g) (Fr.refl _ w) ⟨g,o,none⟩ (.inr rfl) v).trans (zu g r (o+1) _) (λ_ _ h=>h)
theorem zdR (w:World) (z cs:List Value) (T:TypeId) (h:z.length=cs.length):(w.alloc (.cells z.toArray T)).setCells w.heap.size 0 cs=w.alloc (.cells cs.toArray T):=by
 have c:∀(cs:List Value) (o:Nat) (b:Array Value),(w.alloc (.cells b T)).setCells w.heap.size o cs=w.alloc (.cells (setM b.toList o cs).toArray T):=by
  intro cs
  induction cs with
  |nil=>intro o b;simp[World.setCells,setM]
  |cons v r ih=>
   intro o b
   have e:(w.alloc (.cells b T)).setCell ⟨w.heap.size,o,none⟩ v=w.alloc (.cells (b.setIfInBounds o v) T):=by
    exact World.setCell_alloc_at _ _ _ _ _ rfl
   simp only[World.setCells,setM,e]
   rw[ih]
   simp
 rw[c]
 have:=ji cs [] z [] h
 simp at this
 simp[this]
section
variable {α:Type} {f:α→List Value} {k:Nat}
theorem jO.elem {w:World} {v:Value} {n:Nat} {L:List α} (r:0<k) (g:∀x∈L,(f x).length=k) (h:jO w v n (L.flatMap f)) {i:Nat} {x:α} (m:L[i]? =some x):
  ∃b off d,v=.slice (some ⟨b,off,none⟩) n d∧w.rangeAt b (off+i*k) (f x)∧b<w.heap.size:=by
 have c:=List.mem_of_getElem? m
 rcases h with⟨_,_,e⟩|⟨b,off,d,rfl,s,t,p,q⟩
 ·have:=Zz f k L g i x m 0 (by omega)
  rw[e] at this
  have z:=g x c
  rw[List.getElem?_nil] at this
  have:=List.getElem?_eq_none_iff.1 this.symm
  omega
 ·refine⟨b,off,d,rfl,λj u o=>?_,q⟩
  have l:j<k:=by have:=(List.getElem?_eq_some_iff.1 o).1;rw[g x c] at this;exact this
  rw[Nat.add_assoc]
  exact p _ _ (by rw[Zz f k L g i x m j l];exact o)
theorem y7.elem {w:World} {v:Value} {n:Nat} {L:List α} (j:0<k) (g:∀x∈L,(f x).length=k) (h:y7 w v n (L.flatMap f)) {i:Nat} {x:α} (l:L[i]? =some x):
  ∃b off c,v=.slice (some ⟨b,off,none⟩) n c∧w.rangeAt b (off+i*k) (f x)∧b<w.heap.size:=by
 rcases h with h|⟨a,c,rfl,rfl,e,_⟩
 ·exact h.elem j g l
 ·have d:=List.mem_of_getElem? l
  have:=Zz f k L g i x l 0 (by omega)
  rw[e] at this
  have m:=g x d
  rw[List.getElem?_nil] at this
  have:=List.getElem?_eq_none_iff.1 this.symm
  omega
theorem JB {w:World} {B n:Nat} {T:TypeId} {v:Value} {L:List α} (d:0<k) (l:∀x∈L,(f x).length=k) (h:w.ownsRow B T k v n (L.flatMap f)) {i:Nat} {x:α} (o:L[i]? =some x):
  ∃g c,v=.slice (some ⟨g,0,none⟩) n c∧w.rangeAt g (i*k) (f x)∧g<w.heap.size:=by
 rcases h.2 with⟨rfl,s⟩|⟨g,c,p,rfl,_⟩
 ·have q:=h.1
  rw[xJ f k L l,s] at q
  have:i<L.length:=(List.getElem?_eq_some_iff.1 o).1
  have:L.length*k=0:=by omega
  rcases Nat.mul_eq_zero.1 this with h|h<;>omega
 ·obtain⟨b,off,j,e,m,r⟩:=h.slice.elem d l o
  injection e with e1 e2 e3
  injection e1 with e1
  injection e1 with e4 e5
  subst e4 e5
  rw[Nat.zero_add] at m
  exact⟨_,c,rfl,m,r⟩
theorem Xm {L:List α} (b:∀x∈L,(f x).length=k) (i:Nat) (y:α) (m:(f y).length=k) (hi:i<L.length):setM (L.flatMap f) (i*k) (f y)=(L.set i y).flatMap f:=by
 have c:L=L.take i++L[i]::L.drop (i+1):=by simp
 have j:(List.flatMap f (L.take i)).length=i*k:=by rw[xJ f k _ (λx l=>b x (List.mem_of_mem_take l)),List.length_take,Nat.min_eq_left (by omega)]
 have h:=ji (f y) ((L.take i).flatMap f) (f L[i]) ((L.drop (i+1)).flatMap f) (by rw[b _ (List.getElem_mem hi),m])
 rw[j] at h
 have d:L.flatMap f=(L.take i).flatMap f++f L[i]++(L.drop (i+1)).flatMap f:=by
  have e:=congrArg (List.flatMap f) c
  rw[List.flatMap_append,List.flatMap_cons] at e
  rw[e,List.append_assoc]
 have g:L.set i y=L.take i++y::L.drop (i+1):=by rw[List.set_eq_take_append_cons_drop,if_pos hi]
 rw[d,h,g]
 simp[List.flatMap_append,List.flatMap_cons]
theorem XX:∀(cs xs:List Value) (o n:Nat),o+cs.length≤n→n≤xs.length→(setM xs o cs).take n=setM (xs.take n) o cs
 |[],xs,o,n,h1,h2=>rfl
 |v::r,xs,o,n,h1,h2=>by
  simp only[setM]
  rw[XX r _ _ _ (by simp at h1;omega) (by simpa using h2),List.take_set]
theorem Xs:∀(cs xs:List Value) (o:Nat),(setM xs o cs).length=xs.length
 |[],xs,o=>rfl
 |v::r,xs,o=>by simp only[setM];rw[Xs r];simp
theorem zg1 {w:World} {B:Nat} {T:TypeId} {g b:Nat} {L:List α} (m:∀x∈L,(f x).length=k) (h:w.ownsRow B T k (.slice (some ⟨g,0,none⟩) L.length b) L.length (L.flatMap f)) {i:Nat} (hi:i<L.length) (y:α) (j:(f y).length=k):
  (w.setCells g (i*k) (f y)).ownsRow B T k (.slice (some ⟨g,0,none⟩) L.length b) L.length ((L.set i y).flatMap f):=by
 have z:=h.1
 rcases h.2 with⟨e,_⟩|⟨v,l,c,e,o,q,n,r,s,t⟩
 ·cases e
 ·injection e with e1 e2 e3
  injection e1 with e1
  injection e1 with e4 e5
  subst e4 e3
  have d:i*k+k≤L.length*k:=by rw[←Nat.succ_mul];exact Nat.mul_le_mul_right _ hi
  have p:L.length*k≤b*k:=Nat.mul_le_mul_right _ n
  refine⟨by rw[xJ f k _ (λx u=>(List.mem_or_eq_of_mem_set u).elim (m x) (λe=>e▸j))];simp,.inr ⟨g,b,(setM c.toList (i*k) (f y)).toArray,rfl,o,xz g T (f y) (i*k) w c q,n,r,?_,?_⟩⟩
  ·rw[List.size_toArray,Xs,Array.length_toList,s]
  ·rw[XX _ _ _ _ (by rw[j];exact d) (by have:=Array.length_toList (xs:=c);omega),t,Xm m i y j hi]
theorem Js {w:World} {B:Nat} {T:TypeId} {g b n:Nat} {xs:List Value} (h:w.ownsRow B T k (.slice (some ⟨g,0,none⟩) n b) n xs) {i:Nat} (hi:i<n):w.there g (i*k) k:=λj d=>by
 have c:i*k+k≤n*k:=by rw[←Nat.succ_mul];exact Nat.mul_le_mul_right _ hi
 refine⟨?_,h.frozenAt _⟩
 rw[h.cellAt (i*k+j) (by omega),List.getElem?_eq_getElem (by rw[h.1];omega)]
 rfl
end
section
variable {P:Program} {S:World→Prop} {a:Act} {dst:Option Tmp} {ty ty2:TypeId} {pos:String} {after:Array Edge} {gd:Option (Nat×Bool)} {x y:Operand}
theorem yK {i:TypeId} {b o:Nat} {cs:List Value} {d:TypeDesc} (h:a.eval x=.pointer (some ⟨b,o,none⟩)) (hS:∀w,S w→w.rangeAt b o cs) (e:P.underlying ty=some d) (c:d.isRow=true) (hi:(P.info? ty).map (·.size)=some cs.length):
  ∀w,S w→(execOp a.eval {dst:=dst,op:=.load ty x,type:=i,pos:=pos,after:=after,guard:=gd}).run P w=.ok (.value (.agg cs.toArray)) w:=λw g=>by
 unfold execOp
 simp only[h,Instr.loadAt,Instr.sureAddr,Sem.run_bind,Sem.run_pure,Result.andThen_ok,run_loadVar_mid w b o ty cs d (hS w g) e c hi]
end
end Go
namespace Go
open Go.RowKit Go.Maps Go.MapKept
def Upd {κ ι:Type} (M:List (κ×ι)) (k:κ) (v:ι) (M':List (κ×ι)):Prop:=∀k' v',(k',v')∈M'↔(k'=k∧v'=v)∨(k'≠k∧(k',v')∈M)
def Del {κ ι:Type} (M:List (κ×ι)) (k:κ) (M':List (κ×ι)):Prop:=∀k' v',(k',v')∈M'↔k'≠k∧(k',v')∈M
section
variable {P:Program} {kt et t:TypeId} {w:World} {b:Nat} {κ ι:Type} {kV:κ→Value} {vV:ι→Value}
def yD (P:Program) (kt:TypeId) (kV:κ→Value) (vV:ι→Value) (w:World) (b:Nat) (M:List (κ×ι)):Prop:=xt P kt w b (M.map λx=>(kV x.1,vV x.2))
variable {M:List (κ×ι)}
theorem yD.lt (h:yD P kt kV vV w b M):b<w.heap.size:=xt.lt h
theorem yD.keep {w':World} {W:Nat→Prop} (h:yD P kt kV vV w b M) (f:Fr W w w') (c:¬W b):yD P kt kV vV w' b M:=xt.keep h f c
theorem yD.nodup (h:yD P kt kV vV w b M):(M.map (·.1)).Nodup:=by
 have:=xt.nodup h
 rw[List.map_map] at this
 exact(List.pairwise_map.2 ((List.pairwise_map.1 this).imp λc e=>c (by simp only[Function.comp];rw[e])))
theorem yD.uniq (h:yD P kt kV vV w b M) {k:κ} {v f:ι} (l:(k,v)∈M) (n:(k,f)∈M):v=f:=by
 have d:=h.nodup
 obtain⟨i,hi⟩:=List.mem_iff_getElem?.1 l
 obtain⟨j,c⟩:=List.mem_iff_getElem?.1 n
 have e:(M.map (·.1))[i]? =some k:=by rw[List.getElem?_map,hi];rfl
 have g:(M.map (·.1))[j]? =some k:=by rw[List.getElem?_map,c];rfl
 have:=(List.getElem?_inj (List.getElem?_eq_some_iff.1 e).1 d).1 (e.trans g.symm)
 subst this
 rw[hi] at c
 exact congrArg Prod.snd (Option.some.inj c)
theorem yD.made (w:World):yD P kt kV vV (w.alloc (.map #[] 0)) w.heap.size ([]:List (κ×ι)):=xt.made w
theorem yD.upd (h:yD P kt kV vV w b M) (K:Keyed P kt) (E:P.underlying t=some (.map kt et)) (A:∀a b,kV a=kV b→a=b) {k:κ} (C:∃l,keyOf P kt (kV k)=some l) (room:M.length<maxLen) (v:ι):
  ∃w' M',(Instr.mapUpdate t (.map (some b)) (kV k) (vV v)).run P w=.ok () w'∧yD P kt kV vV w' b M'∧Upd M k v M'∧Jy b w w'∧M'.length≤M.length+1:=by
 by_cases hin:∃B,(k,B)∈M
 ·obtain⟨B,D⟩:=hin
  obtain⟨j,n,rfl⟩:=List.append_of_mem D
  have N:=λi (h':(k,i)∈j++(k,B)::n)=>h.uniq h' D
  have f:=h.nodup
  unfold yD at h
  rw[List.map_append,List.map_cons] at h
  obtain⟨w',r,q,s⟩:=xt.update_hit K E h C (vV v)
  refine⟨w',j++(k,v)::n,r,by unfold yD;rw[List.map_append,List.map_cons];exact q,λG i=>?_,s,by simp⟩
  rw[List.map_append,List.map_cons] at f
  obtain⟨O,H,I⟩:=List.nodup_append.1 f
  obtain⟨L,R⟩:=List.nodup_cons.1 H
  have u:∀x,(k,x)∉j:=λx g=>I k (List.mem_map.2 ⟨_,g,rfl⟩) k (by simp) rfl
  have y:∀x,(k,x)∉n:=λx g=>L (List.mem_map.2 ⟨_,g,rfl⟩)
  simp only[List.mem_append,List.mem_cons,Prod.mk.injEq]
  constructor
  ·rintro(c|c|c)
   ·exact .inr ⟨λe=>u _ (e▸c),.inl c⟩
   ·exact .inl c
   ·exact .inr ⟨λe=>y _ (e▸c),.inr (.inr c)⟩
  ·rintro(c|⟨c,d|d|d⟩)
   ·exact .inr (.inl c)
   ·exact .inl d
   ·exact absurd d.1 c
   ·exact .inr (.inr d)
 ·have z:∀p∈M.map λx=>(kV x.1,vV x.2),p.1≠kV k:=by
   intro p F
   obtain⟨x,g,rfl⟩:=List.mem_map.1 F
   exact λe=>hin ⟨x.2,by rw[←A _ _ e];exact g⟩
  obtain⟨w',r,q,s⟩:=xt.update_miss K E h C z (by simpa using room) (vV v)
  refine⟨w',M++[(k,v)],r,by unfold yD;rw[List.map_append];exact q,λG i=>?_,s,by simp⟩
  simp only[List.mem_append,List.mem_singleton,Prod.mk.injEq]
  constructor
  ·rintro(c|c)
   ·exact .inr ⟨λe=>hin ⟨i,e▸c⟩,c⟩
   ·exact .inl c
  ·rintro(c|⟨_,d⟩)
   ·exact .inr c
   ·exact .inl d
theorem yD.look (h:yD P kt kV vV w b M) (K:Keyed P kt) (n:P.underlying t=some (.map kt et)) (d:∀a b,kV a=kV b→a=b) {z:Value} (s:∀w,(zeroValue et).run P w=.ok z w) {k:κ} (i:∃l,keyOf P kt (kV k)=some l) (c:Bool) {r:Option ι} (f:∀v,r=some v↔(k,v)∈M):
  (Instr.lookup t (.map (some b)) (kV k) c).run P w=.ok (if c then .tuple #[(r.map vV).getD z,.bool r.isSome] else(r.map vV).getD z) w:=by
 have g:zgA (M.map λx=>(kV x.1,vV x.2)) (kV k) (r.map vV):=by
  cases r with
  |none=>
   refine .miss λp j e=>?_
   obtain⟨x,q,rfl⟩:=List.mem_map.1 j
   have:=(f x.2).2 (by rw[←d _ _ e];exact q)
   cases this
  |some v=>exact .hit (List.mem_map.2 ⟨(k,v),(f v).1 rfl,rfl⟩)
 have:=xt.lookup K n s h i c g
 simpa using this
theorem yD.del (h:yD P kt kV vV w b M) (K:Keyed P kt) (B:P.underlying t=some (.map kt et)) (u:∀a b,kV a=kV b→a=b) {k:κ} (A:∃l,keyOf P kt (kV k)=some l) (ty x:TypeId):
  ∃w' M',(Builtin.delete_ #[t,x] ty #[.map (some b),kV k]).run P w=.ok (.tuple #[]) w'∧yD P kt kV vV w' b M'∧Del M k M'∧Jy b w w'∧M'.length≤M.length:=by
 by_cases hin:∃D,(k,D)∈M
 ·obtain⟨D,E⟩:=hin
  obtain⟨y,z,rfl⟩:=List.append_of_mem E
  have f:=h.nodup
  unfold yD at h
  rw[List.map_append,List.map_cons] at h
  obtain⟨w',r,i,j⟩:=xt.delete_hit K B h A ty x
  refine⟨w',y++z,r,by unfold yD;rw[List.map_append];exact i,λG C=>?_,j,by simp⟩
  rw[List.map_append,List.map_cons] at f
  obtain⟨N,H,I⟩:=List.nodup_append.1 f
  obtain⟨L,O⟩:=List.nodup_cons.1 H
  have n:∀x,(k,x)∉y:=λx g=>I k (List.mem_map.2 ⟨_,g,rfl⟩) k (by simp) rfl
  have q:∀x,(k,x)∉z:=λx g=>L (List.mem_map.2 ⟨_,g,rfl⟩)
  simp only[List.mem_append,List.mem_cons,Prod.mk.injEq]
  constructor
  ·rintro(c|c)
   ·exact⟨λe=>n _ (e▸c),.inl c⟩
   ·exact⟨λe=>q _ (e▸c),.inr (.inr c)⟩
  ·rintro⟨c,d|d|d⟩
   ·exact .inl d
   ·exact absurd d.1 c
   ·exact .inr d
 ·have s:∀p∈M.map λx=>(kV x.1,vV x.2),p.1≠kV k:=by
   intro p F
   obtain⟨x,g,rfl⟩:=List.mem_map.1 F
   exact λe=>hin ⟨x.2,by rw[←u _ _ e];exact g⟩
  obtain⟨w',r,i,j⟩:=xt.delete_miss K B h A s ty x
  exact⟨w',M,r,i,λG C=>⟨λc=>⟨λe=>hin ⟨C,e▸c⟩,c⟩,λc=>c.2⟩,j,Nat.le_refl _⟩
theorem yD.lenRun (h:yD P kt kV vV w b M) (c:P.underlying t=some (.map kt et)) (ty:TypeId):(Builtin.len_ #[t] ty #[.map (some b)]).run P w=.ok (.int .i64 (M.length:Int)) w:=by
 have:=xt.lenRun c h ty
 simpa using this
end
section
variable {P:Program} {o:Oper} {a:Act} {w w':World} {K:Act→World→Prop} {Q:Exit→Act→World→Prop} {ops:Array Oper} {rest:List Oper} {v:Value}
theorem yN (c:(execOp a.eval o).run P w=.ok .skip w') (h:K (a.put o.dst undef) w'):o.wp P a w K Q:=by
 unfold Oper.wp
 rw[c]
 exact h
theorem yj (c:(execOp a.eval o).run P w=.ok (.value v) w') (h:K (a.put o.dst v) w'):o.wp P a w K Q:=by
 unfold Oper.wp
 rw[c]
 exact h
theorem zi (d:o.guard=none) (c:(execOp a.eval o).run P w=.ok .skip w') (h:wpList P ops Q rest (a.put o.dst undef) w'):wpList P ops Q (o::rest) a w:=
 wpList_plain d λ_ hK=>yN c (hK _ _ h)
theorem zg (d:o.guard=none) (c:(execOp a.eval o).run P w=.ok (.value v) w') (h:wpList P ops Q rest (a.put o.dst v) w'):wpList P ops Q (o::rest) a w:=
 wpList_plain d λ_ hK=>yj c (hK _ _ h)
variable {ev:Operand→Value} {t ty:TypeId} {m k x:Operand} {mv kv' xv:Value}
theorem y4 (e:o.op=.mapUpdate t m k x) (d:ev m=mv) (c:ev k=kv') (g:ev x=xv) (f:(Instr.mapUpdate t mv kv' xv).run P w=.ok () w'):(execOp ev o).run P w=.ok .skip w':=by
 simp only[execOp,e,d,c,g,Sem.run_bind,f,Result.andThen_ok,Sem.run_pure]
theorem zQ {c:Bool} (f:o.op=.lookup t m k c) (e:ev m=mv) (d:ev k=kv') (g:(Instr.lookup t mv kv' c).run P w=.ok v w'):(execOp ev o).run P w=.ok (.value v) w':=by
 simp only[execOp,f,e,d,Sem.run_bind,g,Result.andThen_ok,Sem.run_pure]
theorem jE {c:Array TypeId} (f:o.op=.call {callee:=.builtin .delete,args:= #[m,k],argTypes:=c}) (e:ev m=mv) (d:ev k=kv') (g:(Builtin.delete_ c o.type #[mv,kv']).run P w=.ok v w'):(execOp ev o).run P w=.ok (.value v) w':=by
 simp[execOp,f,resolve,e,d,invoke,builtin,g,Result.andThen]
theorem jb {c:Array TypeId} (e:o.op=.call {callee:=.builtin .len,args:= #[m],argTypes:=c}) (d:ev m=mv) (f:(Builtin.len_ c o.type #[mv]).run P w=.ok v w'):(execOp ev o).run P w=.ok (.value v) w':=by
 simp[execOp,e,resolve,d,invoke,builtin,f,Result.andThen]
theorem zK {b off:Nat} {cs:List Value} (f:o.op=.store ty m k) (e:ev m=.pointer (some ⟨b,off,none⟩)) (d:ev k=.agg cs.toArray) (g:w.there b off cs.length) (hi:(P.info? ty).map (·.size)=some cs.length) (c:∀v∈cs,v.oneCell'=true):(execOp ev o).run P w=.ok .skip (w.setCells b off cs):=by
 have h:=run_storeAt_mid (P:=P) w b off ty cs.toArray (by simpa using g) (by simpa using hi) (all_oneCell_toArray c)
 simp only at h
 simp only[execOp,f,e,d,Sem.run_bind,h,Result.andThen_ok,Sem.run_pure]
theorem zm {Z:Array Value} {T:TypeId} {cs:List Value} (i:o.op=.store ty m k) (g:ev m=.pointer (some ⟨w.heap.size,0,none⟩)) (f:ev k=.agg cs.toArray) (n:Z.size=cs.length) (hi:(P.info? ty).map (·.size)=some cs.length) (c:∀v∈cs,v.oneCell'=true):(execOp ev o).run P (w.alloc (.cells Z T))=.ok .skip (w.alloc (.cells cs.toArray T)):=by
 have l:(w.alloc (.cells Z T)).there w.heap.size 0 cs.length:=λj p=>by
  have d:=ye w (.cells Z T)
  simp only[World.cell?,World.frozen?,d,Nat.zero_add]
  rw[Array.getElem?_eq_getElem (by omega)]
  simp
 have h:=zK (P:=P) (w:=w.alloc (.cells Z T)) i g f l hi c
 have e:=zdR w Z.toList cs T (by simpa using n)
 simp only[Array.toArray_toList] at e
 rw[h,e]
theorem zZ {b off:Nat} {cs:List Value} {d:TypeDesc} (g:o.op=.load ty m) (f:ev m=.pointer (some ⟨b,off,none⟩)) (c:w.rangeAt b off cs) (h:P.underlying ty=some d) (e:d.isRow=true) (hi:(P.info? ty).map (·.size)=some cs.length):(execOp ev o).run P w=.ok (.value (.agg cs.toArray)) w:=by
 simp only[execOp,g,f,Sem.run_bind,run_loadAt_mid w b off ty cs d c h e hi,Result.andThen_ok,Sem.run_pure]
end
end Go
namespace Go
open Go.RowKit
theorem nXt {S:World→Prop} {L K:Act→World→Prop} {a:Act} {w:World} (h:Shut (∀a w,S w→(S w→L a w)→K a w)) (s:S w) (k:S w→L a w):K a w:=h.out _ _ s k
end Go
namespace Go
open Go.RowKit Go.Maps Go.MapKept
theorem zcL:∀(cs:List Value) (k off:Nat) (xs:Array Value),(cs.zipIdx k).foldl (λ(ys:Array Value) (c:Value×Nat)=>ys.setIfInBounds (off+c.2) c.1) xs=(setM xs.toList (off+k) cs).toArray
 |[],k,off,xs=>by simp[setM]
 |c::cs,k,off,xs=>by
  rw[List.zipIdx_cons,List.foldl_cons,zcL cs (k+1) off]
  simp[setM,Nat.add_assoc]
def Jw (pl:Nat→Option (Nat×Nat)):Nat→List (Nat×Value)→Prop
 |_,[]=>True
 |off,(i,v)::r=>pl i=some (off,v.cells.size)∧Jw pl (off+v.cells.size) r
def xG (vs:List (Nat×Value)):List Value:=vs.flatMap λx=>x.2.cells.toList
theorem Vi (a:Nat→Option (Nat×Nat)):∀(vs:List (Nat×Value)) (A Z:List Value),Jw a A.length vs→(xG vs).length≤Z.length→Instr.fill a (A++Z).toArray vs=some (A++xG vs++Z.drop (xG vs).length).toArray
 |[],A,Z,_,_=>by simp[Instr.fill,xG]
 |(i,v)::r,A,Z,h,hl=>by
  obtain⟨f,g⟩:=h
  have d:xG ((i,v)::r)=v.cells.toList++xG r:=by simp[xG]
  rw[d,List.length_append,Array.length_toList] at hl
  unfold Instr.fill
  rw[f]
  have j:¬(v.cells.size≠v.cells.size∨A.length+v.cells.size>(A++Z).toArray.size):=by
   simp only[List.size_toArray,List.length_append]
   omega
  simp only[Bool.or_eq_true,decide_eq_true_eq]
  rw[if_neg (by simpa using j)]
  have m:Z=Z.take v.cells.size++Z.drop v.cells.size:=(List.take_append_drop _ _).symm
  have l:=ji v.cells.toList A (Z.take v.cells.size) (Z.drop v.cells.size) (by have:=Array.length_toList (xs:=v.cells);rw[List.length_take];omega)
  have k:(v.cells.zipIdx.foldl (λ(cs:Array Value) (x:Value×Nat)=>cs.setIfInBounds (A.length+x.2) x.1) (A++Z).toArray)=(A++v.cells.toList++Z.drop v.cells.size).toArray:=by
   rw[←Array.foldl_toList,Array.toList_zipIdx,zcL,Nat.add_zero,List.toList_toArray]
   conv=>lhs;rw[m]
   rw[←List.append_assoc,l]
  have ih:=Vi a r (A++v.cells.toList) (Z.drop v.cells.size) (by rw[List.length_append,Array.length_toList];exact g) (by rw[List.length_drop];omega)
  refine Eq.trans (congrArg (λc=>Instr.fill a c r) k) ?_
  rw[ih,d,List.drop_drop,List.length_append,Array.length_toList]
  simp[List.append_assoc]
def xI (P:Program) (t:TypeId):Option (Nat×List (Nat×Nat)):=
 match P.info? t,P.underlying t with
 |some it,some (.struct fields)=>
  match it.zero,fields.toList.mapM (λf=>(P.info? f.type).map λi=>(f.offset,i.size)) with
  |some z,some places=>some (z.cells.size,places)
  |_,_=>none
 |_,_=>none
section
variable {P:Program} {t e ty:TypeId} {w:World} {o:Oper} {ev:Operand→Value}
theorem zi3 {n:Nat} {c:List (Nat×Nat)} {vs:List (Nat×Value)} (h:xI P t=some (n,c)) (j:Jw (c.toArray[·]?) 0 vs) (a:(xG vs).length=n):P.built t vs=some (xG vs).toArray:=by
 unfold xI at h
 unfold Program.built
 cases hi:P.info? t with
 |none=>simp[hi] at h
 |some it=>
  cases hu:P.underlying t with
  |none=>simp[hi,hu] at h
  |some d=>
   cases d<;>try(simp[hi,hu] at h;done)
   rename_i fs
   cases hz:it.zero with
   |none=>simp[hi,hu,hz] at h
   |some z=>
    cases hp:fs.toList.mapM (λf=>(P.info? f.type).map λi=>(f.offset,i.size)) with
    |none=>simp[hi,hu,hz,hp] at h
    |some places=>
     simp[hi,hu,hz,hp] at h
     obtain⟨rfl,rfl⟩:=h
     simp only[hz,hp]
     have:=Vi (places.toArray[·]?) vs [] z.cells.toList j (by rw[a,Array.length_toList];exact Nat.le_refl _)
     simp only[List.nil_append,Array.toArray_toList] at this
     rw[this,a]
     have g:List.drop z.cells.size z.cells.toList=[]:=List.drop_eq_nil_of_le (by rw[Array.length_toList];exact Nat.le_refl _)
     rw[g,List.append_nil]
theorem yP {parts:Array (Nat×Operand)} {n:Nat} {a:List (Nat×Nat)} {vs:List (Nat×Value)} {cs:List Value} (g:o.op=.build t parts) (j:(parts.toList.map λ(i,x)=>(i,ev x))=vs) (h:xI P t=some (n,a)) (d:Jw (a.toArray[·]?) 0 vs) (c:xG vs=cs) (f:cs.length=n):
  (execOp ev o).run P w=.ok (.value (.agg cs.toArray)) w:=by
 subst c
 have:=run_build w t (parts.map λ(i,x)=>(i,ev x)) _ (by rw[Array.toList_map,j];exact zi3 h d f)
 simp only[execOp,g,Sem.run_bind,this,Result.andThen_ok,Sem.run_pure]
theorem JN {x:Operand} {v z:Value} {k:Nat} (l:o.op=.buildSlice t 1 #[(0,x)]) (q:ev x=v) (p:P.underlying t=some (.slice e)) (hi:(P.info? e).map (λi=>(i.zero,i.size))=some (some z,k)) (_:z.cells.size=k) (r:0<k) (h:k≤16777216) (c:v.cells.size=k):
  (execOp ev o).run P w=.ok (.value (.slice (some ⟨w.heap.size,0,none⟩) 1 1)) (w.alloc (.cells v.cells e)):=by
 cases hie:P.info? e with
 |none=>rw[hie] at hi;cases hi
 |some ie=>
  rw[hie] at hi
  simp only[Option.map_some,Option.some.injEq,Prod.mk.injEq] at hi
  obtain⟨f,a⟩:=hi
  have g:Instr.fill (λi=>some (i*ie.size,ie.size)) ((Array.range (1*ie.size)).map (z.cells[· % z.cells.size]!)) [(0,v)]=some v.cells:=by
   have j:((Array.range (1*ie.size)).map (z.cells[· % z.cells.size]!)).toList.length=k:=by simp[a]
   have:=Vi (λi=>some (i*ie.size,ie.size)) [(0,v)] [] ((Array.range (1*ie.size)).map (z.cells[· % z.cells.size]!)).toList ⟨by simp[a,c],trivial⟩ (by simp[xG,a,c])
   simp only[List.nil_append,Array.toArray_toList] at this
   rw[this]
   have d:xG [(0,v)]=v.cells.toList:=by simp[xG]
   rw[d,List.drop_eq_nil_of_le (by rw[j,Array.length_toList,c];exact Nat.le_refl _)]
   simp
  have n:=run_buildSlice (P:=P) w t e 1 #[(0,v)] v.cells ie z p hie f (by omega) (by omega) g
  have m:(#[(0,x)]:Array (Nat×Operand)).map (λ(i,x)=>(i,ev x))= #[(0,v)]:=by simp[q]
  simp only[execOp,l,m,Sem.run_bind,n,Result.andThen_ok,Sem.run_pure]
theorem zU {x:Operand} {cs:List Value} {z:Value} {k:Nat} (f:o.op=.buildSlice t 1 #[(0,x)]) (h:ev x=.agg cs.toArray) (g:P.underlying t=some (.slice e)) (hi:(P.info? e).map (λi=>(i.zero,i.size))=some (some z,k)) (j:z.cells.size=k) (d:0<k) (a:k≤16777216) (c:cs.length=k):
  (execOp ev o).run P w=.ok (.value (.slice (some ⟨w.heap.size,0,none⟩) 1 1)) (w.alloc (.cells cs.toArray e)):=JN (v:=.agg cs.toArray) f h g hi j d a (by show cs.toArray.size=k;simpa using c)
end
section
variable {P:Program} {kt et t:TypeId} {w:World} {b:Nat} {κ ι:Type} {kV:κ→Value} {vV:ι→Value} {M:List (κ×ι)}
theorem yD.hit (h:yD P kt kV vV w b M) (K:Keyed P kt) (i:P.underlying t=some (.map kt et)) (c:∀a b,kV a=kV b→a=b) {z:Value} (m:∀w,(zeroValue et).run P w=.ok z w) {k:κ} (f:∃l,keyOf P kt (kV k)=some l) {v:ι} (j:(k,v)∈M):
  (Instr.lookup t (.map (some b)) (kV k) true).run P w=.ok (.tuple #[vV v,.bool true]) w∧(Instr.lookup t (.map (some b)) (kV k) false).run P w=.ok (vV v) w:=by
 have g:∀d,some v=some d↔(k,d)∈M:=λd=>⟨λe=>by cases e;exact j,λe=>by rw[h.uniq j e]⟩
 have n:=h.look K i c m f true g
 have p:=h.look K i c m f false g
 simpa using⟨n,p⟩
theorem yD.miss (h:yD P kt kV vV w b M) (K:Keyed P kt) (i:P.underlying t=some (.map kt et)) (c:∀a b,kV a=kV b→a=b) {z:Value} (j:∀w,(zeroValue et).run P w=.ok z w) {k:κ} (f:∃l,keyOf P kt (kV k)=some l) (p:∀v,(k,v)∉M):
  (Instr.lookup t (.map (some b)) (kV k) true).run P w=.ok (.tuple #[z,.bool false]) w∧(Instr.lookup t (.map (some b)) (kV k) false).run P w=.ok z w:=by
 have g:∀d,(none:Option ι)=some d↔(k,d)∈M:=λd=>⟨λe=>(by cases e),λe=>absurd e (p d)⟩
 have m:=h.look K i c j f true g
 have n:=h.look K i c j f false g
 simpa using⟨m,n⟩
end
end Go
namespace Go
open Go.RowKit
section
variable {P:Program} {o:Oper} {w:World} {ev:Operand→Value} {ty:TypeId}
theorem yA {z:Array Value} (a:o.op=.alloc ty) (b:(zeroValue ty).run P w=.ok (.agg z) w):(execOp ev o).run P w=.ok (.value (.pointer (some ⟨w.heap.size,0,none⟩))) (w.alloc (.cells z ty)):=by
 simp[execOp,a,Instr.alloc,b,Result.andThen,newVar,newRow,newObj,Value.cells,Sem.run]
theorem zV {b k:Nat} {c:Array Value} {T:TypeId} (a:w.heap[b]? =some (.cells c T (0,0))) (e:k≤c.size):w.there b 0 k:=λj d=>by
 simp only[World.cell?,World.frozen?,a,Nat.zero_add]
 rw[Array.getElem?_eq_getElem (by omega)]
 simp
theorem yv {b:Nat} {c:Array Value} {cs:List Value} {T:TypeId} (a:w.heap[b]? =some (.cells c T (0,0))) (d:c.size=cs.length):(w.setCells b 0 cs).rangeAt b 0 cs:=by
 have h:=xz b T cs 0 w c a
 have e:=ji cs [] c.toList [] (by simpa using d)
 simp only[List.nil_append,List.append_nil,List.length_nil] at e
 rw[e] at h
 have:=zq h
 simpa using this
theorem yf {t:TypeId} {v:Value} {parts:Array (Nat×Operand)} {vs:List (Nat×Value)} (a:o.op=.build t parts) (c:(parts.toList.map λ(i,x)=>(i,ev x))=vs) (b:(Instr.build t vs.toArray).run P w=.ok v w):(execOp ev o).run P w=.ok (.value v) w:=by
 have e:(parts.map λ(i,x)=>(i,ev x))=vs.toArray:=by rw[←c,←Array.toList_map,Array.toArray_toList]
 simp only[execOp,a,e,Sem.run_bind,b,Result.andThen_ok,Sem.run_pure]
theorem qz {w':World} {v:Value} {a:Act} {ops:Array Oper} {rest:List Oper} {Q:Exit→Act→World→Prop} (c:Region.wanted o (yielded ops a.tmps)=true) (b:(execOp a.eval o).run P w=.ok (.value v) w') (h:wpList P ops Q rest (a.put o.dst v) w'):wpList P ops Q (o::rest) a w:=by
 unfold wpList
 rw[if_pos c]
 exact .inl (yj b h)
theorem zgv (w:World) {z1 z2:Array Value} {T1 T2:TypeId} {c1 c2:List Value} (f:z1.size=c1.length) (g:z2.size=c2.length):
  ((w.alloc (.cells z1 T1)).alloc (.cells z2 T2)).there w.heap.size 0 c1.length∧
  (((w.alloc (.cells z1 T1)).alloc (.cells z2 T2)).setCells w.heap.size 0 c1).there (w.heap.size+1) 0 c2.length∧
  ((((w.alloc (.cells z1 T1)).alloc (.cells z2 T2)).setCells w.heap.size 0 c1).setCells (w.heap.size+1) 0 c2).rangeAt w.heap.size 0 c1∧
  ((((w.alloc (.cells z1 T1)).alloc (.cells z2 T2)).setCells w.heap.size 0 c1).setCells (w.heap.size+1) 0 c2).rangeAt (w.heap.size+1) 0 c2∧
  Fr No w ((((w.alloc (.cells z1 T1)).alloc (.cells z2 T2)).setCells w.heap.size 0 c1).setCells (w.heap.size+1) 0 c2):=by
 have b:((w.alloc (.cells z1 T1)).alloc (.cells z2 T2)).heap[w.heap.size]? =some (.cells z1 T1 (0,0)):=((frN _).alloc _).obj (ye w (.cells z1 T1)) id
 have h:((w.alloc (.cells z1 T1)).alloc (.cells z2 T2)).heap[w.heap.size+1]? =some (.cells z2 T2 (0,0)):=yL (w.alloc (.cells z1 T1)) (.cells z2 T2) (n:=w.heap.size+1) (by simp)
 have c:=zu w.heap.size c1 0 ((w.alloc (.cells z1 T1)).alloc (.cells z2 T2))
 have a:=c.obj h (λe=>by omega)
 have d:=zu (w.heap.size+1) c2 0 (((w.alloc (.cells z1 T1)).alloc (.cells z2 T2)).setCells w.heap.size 0 c1)
 refine⟨zV b (Nat.le_of_eq f.symm),zV a (Nat.le_of_eq g.symm),za (yv b f) d (λe=>by omega),yv a g,?_⟩
 exact((((frN w).alloc _).alloc _).trans c (λi hi e=>by omega)).trans d (λi hi e=>by omega)
theorem yk {fn:Func} {p u:Tmp} (h:fn.results= #[.cell p ty,.tmp u]) (tmps:Array Value) {g:Nat} {cs:List Value} {d:TypeDesc} {x:Value} (b:tmps.getD p undef=.pointer (some ⟨g,0,none⟩)) (c:w.rangeAt g 0 cs)
  (e:P.underlying ty=some d) (a:d.isRow=true) (hi:(P.info? ty).map (·.size)=some cs.length) (f:tmps.getD u undef=x):
  (results fn tmps).run P w=.ok (.tuple #[.agg cs.toArray,x]) w:=by
 rw[results_cell_tmp h,b,f]
 simp only[asAddr,Sem.run_pure,Result.andThen_ok,run_loadVar_mid w g 0 ty cs d c e a hi]
end
end Go
namespace Go
open Go.RowKit Go.Maps Go.MapKept
section
variable {P:Program} {kt et t:TypeId} {w:World} {b:Nat} {L:List (Value×Value)}
theorem xt.entry_hitM (K:Keyed P kt) (E:P.underlying t=some (.map kt et)) {i p:List (Value×Value)} {key g:Value} (h:xt P kt w b (i++(key,g)::p)) (D:∃l,keyOf P kt key=some l):
  ∃w' s,(Instr.mapEntry t (.map (some b)) key).run P w=.ok (.tuple #[g,.int .i64 s]) w'∧Entry P kt w' b i key p s∧Jy b w w'∧xt P kt w' b (i++(key,g)::p):=by
 obtain⟨es,a,n,y,A,r,c⟩:=h
 obtain⟨l,u⟩:=D
 obtain⟨e,B,q,z,C⟩:=Qy K w y c u r
 have d:es.modify i.length (λe=>{e with key:=key})=es:=by
  apply Array.ext_getElem?
  intro j
  rw[Array.getElem?_modify]
  split
  ·rename_i hj;subst hj;rw[q];simp[←z]
  ·rfl
 have f:(Instr.mapEntry t (.map (some b)) key).run P w=.ok (.tuple #[g,.int .i64 (e.born:Int)]) {w with heap:=w.heap.setIfInBounds b (.map es a)}:=by
  simp[Instr.mapEntry,run_underlying E,MapKept.run_getObj_map n,K.check w false u,B,q,z,C,K.stays w u,MapKept.run_setObj_map _ n,Result.andThen,goInt,d]
 exact⟨_,_,f,⟨es,a,e,xW n,y,A,⟨g,r⟩,c,q,rfl⟩,Jm _ _ _,⟨es,a,xW n,y,A,r,c⟩⟩
theorem xt.entry_missM (K:Keyed P kt) (E:P.underlying t=some (.map kt et)) {z:Value} (F:∀w,(zeroValue et).run P w=.ok z w) (h:xt P kt w b L) {key:Value} (D:∃l,keyOf P kt key=some l) (r:∀p∈L,p.1≠key) (c:L.length<maxLen):
  ∃w' s,(Instr.mapEntry t (.map (some b)) key).run P w=.ok (.tuple #[z,.int .i64 s]) w'∧Entry P kt w' b L key [] s∧Jy b w w'∧xt P kt w' b (L++[(key,z)]):=by
 obtain⟨es,a,i,B,G,rfl,d⟩:=h
 obtain⟨l,q⟩:=D
 rcases K.find w q es.toList d with⟨A,g⟩|⟨j,e,A,g,C⟩
 ·have f:(Instr.mapEntry t (.map (some b)) key).run P w=.ok (.tuple #[z,.int .i64 (a:Int)]) {w with heap:=w.heap.setIfInBounds b (.map (es.push {key,val:=z,born:=a}) (a+1))}:=by
   simp[Instr.mapEntry,run_underlying E,MapKept.run_getObj_map i,K.check w false q,A,F,MapKept.run_setObj_map _ i,Result.andThen,goInt]
  have u:(es.push {key,val:=z,born:=a}).size≤maxLen:=by simp[kv] at c⊢;omega
  have y:∀e∈(es.push {key,val:=z,born:=a}).toList,∃l,keyOf P kt e.key=some l:=by
   intro e n
   simp only[Array.toList_push,List.mem_append,List.mem_singleton] at n
   rcases n with n|rfl
   ·exact d e n
   ·exact⟨l,q⟩
  refine⟨_,_,f,⟨_,_,⟨key,z,a⟩,xW i,stamped_push B g,u,⟨z,by simp[kv]⟩,y,?_,rfl⟩,Jm _ _ _,⟨_,_,xW i,stamped_push B g,u,by simp[kv],y⟩⟩
  simp[kv]
 ·exact absurd C (r _ (zdF (List.mem_of_getElem? g)))
end
section
variable {P:Program} {kt et t:TypeId} {w:World} {b:Nat} {κ ι:Type} {kV:κ→Value} {vV:ι→Value} {M:List (κ×ι)}
theorem yD.bump (h:yD P kt kV vV w b M) (K:Keyed P kt) (H:P.underlying t=some (.map kt et)) (j:∀a b,kV a=kV b→a=b) {z:ι} (O:∀w,(zeroValue et).run P w=.ok (vV z) w) {k:κ} (E:∃l,keyOf P kt (kV k)=some l) (room:M.length<maxLen):
  ∃(d:ι) (i:World) (s:Int) (M1:List (κ×ι)),(d=z∨(k,d)∈M)∧(Instr.mapEntry t (.map (some b)) (kV k)).run P w=.ok (.tuple #[vV d,.int .i64 s]) i∧Jy b w i∧yD P kt kV vV i b M1∧
   (∀w',yD P kt kV vV w' b M→(Instr.lookup t (.map (some b)) (kV k) false).run P w'=.ok (vV d) w')∧
   (∀w',yD P kt kV vV w' b M1→(Instr.lookup t (.map (some b)) (kV k) false).run P w'=.ok (vV d) w')∧
   (∀(v:ι) (N:World) (W:Nat→Prop),Fr W i N→¬W b→∃n M',(Instr.entryStore t (.map (some b)) (.int .i64 s) (vV v)).run P N=.ok () n∧yD P kt kV vV n b M'∧Upd M k v M'∧Jy b N n∧M'.length≤M.length+1):=by
 by_cases hin:∃d,(k,d)∈M
 ·obtain⟨d,U⟩:=hin
  obtain⟨A,B,rfl⟩:=List.append_of_mem U
  have h0:=h
  unfold yD at h
  rw[List.map_append,List.map_cons] at h
  obtain⟨i,s,Z,Q,S,R⟩:=xt.entry_hitM K H h E
  have r:yD P kt kV vV i b (A++(k,d)::B):=by unfold yD;rw[List.map_append,List.map_cons];exact R
  have F:∀w',yD P kt kV vV w' b (A++(k,d)::B)→(Instr.lookup t (.map (some b)) (kV k) false).run P w'=.ok (vV d) w':=λw' D=>(D.hit K H j O E U).2
  refine⟨d,i,s,_,.inr U,Z,S,r,F,F,λv N W f T=>?_⟩
  obtain⟨n,C,u,y⟩:=(Q.keep f T).store t (vV v)
  have g:yD P kt kV vV n b (A++(k,v)::B):=by unfold yD;rw[List.map_append,List.map_cons];exact u
  refine⟨n,_,C,g,?_,y,by simp⟩
  have G:=h0.nodup
  rw[List.map_append,List.map_cons] at G
  obtain⟨n1,n2,n3⟩:=List.nodup_append.1 G
  obtain⟨n4,n5⟩:=List.nodup_cons.1 n2
  have V:∀x,(k,x)∉A:=λx I=>n3 k (List.mem_map.2 ⟨_,I,rfl⟩) k (by simp) rfl
  have X:∀x,(k,x)∉B:=λx I=>n4 (List.mem_map.2 ⟨_,I,rfl⟩)
  intro k' v'
  simp only[List.mem_append,List.mem_cons,Prod.mk.injEq]
  constructor
  ·rintro(c|c|c)
   ·exact .inr ⟨λe=>V _ (e▸c),.inl c⟩
   ·exact .inl c
   ·exact .inr ⟨λe=>X _ (e▸c),.inr (.inr c)⟩
  ·rintro(c|⟨c,q|q|q⟩)
   ·exact .inr (.inl c)
   ·exact .inl q
   ·exact absurd q.1 c
   ·exact .inr (.inr q)
 ·have Y:∀v,(k,v)∉M:=λv hv=>hin ⟨v,hv⟩
  obtain⟨i,s,Z,Q,S,R⟩:=xt.entry_missM K H O h E (λp hp e=>by
   obtain⟨x,I,rfl⟩:=List.mem_map.1 hp
   exact hin ⟨x.2,by rw[←j _ _ e];exact I⟩) (by simpa using room)
  have r:yD P kt kV vV i b (M++[(k,z)]):=by unfold yD;rw[List.map_append];exact R
  refine⟨z,i,s,_,.inl rfl,Z,S,r,λw' D=>(D.miss K H j O E Y).2,λw' D=>(D.hit K H j O E (v:=z) (by simp)).2,λv N W f T=>?_⟩
  obtain⟨n,C,u,y⟩:=(Q.keep f T).store t (vV v)
  have g:yD P kt kV vV n b (M++[(k,v)]):=by unfold yD;rw[List.map_append];exact u
  refine⟨n,_,C,g,?_,y,by simp⟩
  intro k' v'
  simp only[List.mem_append,List.mem_singleton,Prod.mk.injEq]
  constructor
  ·rintro(c|c)
   ·exact .inr ⟨λe=>hin ⟨v',e▸c⟩,c⟩
   ·exact .inl c
  ·rintro(c|⟨_,q⟩)
   ·exact .inr c
   ·exact .inl q
variable {o:Oper} {w':World} {ev:Operand→Value} {m k x:Operand} {mv kv' xv v:Value}
theorem Qf (d:o.op=.mapEntry t m k) (c:ev m=mv) (a:ev k=kv') (e:(Instr.mapEntry t mv kv').run P w=.ok v w'):(execOp ev o).run P w=.ok (.value v) w':=by
 simp only[execOp,d,c,a,Sem.run_bind,e,Result.andThen_ok,Sem.run_pure]
theorem Y1 {i:Operand} {a:Value} (d:o.op=.entryStore t m i x) (c:ev m=mv) (hi:ev i=a) (f:ev x=xv) (e:(Instr.entryStore t mv a xv).run P w=.ok () w'):(execOp ev o).run P w=.ok .skip w':=by
 simp only[execOp,d,c,hi,f,Sem.run_bind,e,Result.andThen_ok,Sem.run_pure]
end
end Go
namespace Go
open Go.RowKit Go.Maps Go.MapKept Go.Sort Go.Proofs
theorem Fr.growW {W:Nat→Prop} {a b:World} (h:Fr W a b) (os:Array Obj):Fr W a (grow b os):=
 ⟨h.os,h.tape,h.output,by rw[size_grow];have:=h.size;omega,λi hi c=>by rw[heap_grow_old b os (Nat.lt_of_lt_of_le hi h.size)];exact h.block i hi c⟩
theorem zdK {w:World} {B n k:Nat} {T:TypeId} {v:Value} {xs:List Value} (h:w.ownsRow B T k v n xs) (os:Array Obj):(grow w os).ownsRow B T k v n xs:=
 zb h ((frN w).growW os) (λ_ _=>id)
theorem zgc {w:World} {B n k:Nat} {T:TypeId} {g a:Nat} {xs cs:List Value} (h:w.ownsRow B T k (.slice (some ⟨g,0,none⟩) n a) n xs) (c:cs.length=n*k):
  (w.setCells g 0 cs).ownsRow B T k (.slice (some ⟨g,0,none⟩) n a) n cs:=by
 rcases h.2 with⟨e,_⟩|⟨r,d,b,e,j,m,f,o,i,q⟩
 ·cases e
 ·injection e with e1 e2 e3
  injection e1 with e1
  injection e1 with e4 e5
  subst e4 e3
  have l:n*k≤a*k:=Nat.mul_le_mul_right _ f
  have p:b.toList.length=a*k:=by rw[Array.length_toList,i]
  refine⟨c,.inr ⟨g,a,(setM b.toList 0 cs).toArray,rfl,j,xz g T cs 0 w b m,f,o,?_,?_⟩⟩
  ·rw[List.size_toArray,Xs,Array.length_toList,i]
  ·rw[XX _ _ _ _ (by rw[c];omega) (by omega),q]
   have:=ji cs [] xs [] (by rw[h.1,c])
   simpa using this
theorem qY {w:World} {B n k:Nat} {T:TypeId} {g a:Nat} {xs cs:List Value} (h:w.ownsRow B T k (.slice (some ⟨g,0,none⟩) n a) n xs) (o:Nat) (j:o+cs.length≤n*k):
  (w.setCells g o cs).ownsRow B T k (.slice (some ⟨g,0,none⟩) n a) n (setM xs o cs):=by
 rcases h.2 with⟨e,_⟩|⟨s,c,b,e,i,m,d,p,f,r⟩
 ·cases e
 ·injection e with e1 e2 e3
  injection e1 with e1
  injection e1 with e4 e5
  subst e4 e3
  have l:n*k≤a*k:=Nat.mul_le_mul_right _ d
  have q:b.toList.length=a*k:=by rw[Array.length_toList,f]
  refine⟨by rw[Xs,h.1],.inr ⟨g,a,(setM b.toList o cs).toArray,rfl,i,xz g T cs o w b m,d,p,?_,?_⟩⟩
  ·rw[List.size_toArray,Xs,Array.length_toList,f]
  ·rw[XX _ _ _ _ j (by omega),r]
theorem VD (xs cs:List Value) (o:Nat) (h:o+cs.length≤xs.length):(setM xs o cs).take (o+cs.length)=xs.take o++cs:=by
 have e:xs=xs.take o++(xs.drop o).take cs.length++(xs.drop o).drop cs.length:=by
  rw[List.append_assoc,List.take_append_drop,List.take_append_drop]
 have a:(xs.take o).length=o:=by rw[List.length_take];omega
 have b:=ji cs (xs.take o) ((xs.drop o).take cs.length) ((xs.drop o).drop cs.length) (by rw[List.length_take,List.length_drop];omega)
 rw[a,←e] at b
 rw[b,List.take_append_of_le_length (by rw[List.length_append,a];omega)]
 exact List.take_of_length_le (by rw[List.length_append,a];omega)
section
variable {α:Type} [Inhabited α] (enc:α→List Value) (k:Nat) (hk:∀x,(enc x).length=k)
include hk
theorem zbw (L:List α):(flatK enc k L.toArray).toList=L.flatMap enc:=by
 apply List.ext_getElem?
 intro t
 have j:(L.flatMap enc).length=L.length*k:=xJ enc k L (λx _=>hk x)
 by_cases ht:t<L.length*k
 ·have i:0<k:=by rcases Nat.eq_zero_or_pos k with h|h;(subst h;simp at ht);exact h
  have d:t / k<L.length:=Nat.div_lt_of_lt_mul (by rw[Nat.mul_comm];exact ht)
  have e:t % k<k:=Nat.mod_lt _ i
  have a:=get_flatK enc k L.toArray t (by simpa using ht)
  have b:=Zz enc k L (λx _=>hk x) (t / k) L[t / k] (List.getElem?_eq_getElem d) (t % k) e
  rw[Nat.div_add_mod' t k] at b
  rw[b]
  have f:t<(flatK enc k L.toArray).size:=by simpa using ht
  rw[getElem!_pos _ t f] at a
  rw[Array.getElem?_toList,Array.getElem?_eq_getElem f,a]
  have g:L.toArray[t / k]! =L[t / k]:=by rw[getElem!_pos L.toArray (t / k) (by simpa using d)];simp
  rw[g]
  have c:t % k<(enc L[t / k]).length:=by rw[hk];exact e
  rw[getElem!_pos (enc L[t / k]) (t % k) c,List.getElem?_eq_getElem c]
 ·rw[List.getElem?_eq_none (by simp;omega),List.getElem?_eq_none (by omega)]
theorem zcM {w:World} {B:Nat} {T:TypeId} {g b:Nat} {L:List α} (h:w.ownsRow B T k (.slice (some ⟨g,0,none⟩) L.length b) L.length (L.flatMap enc)):HoldsK enc k w g 0 L.toArray:=by
 rcases h.2 with⟨e,_⟩|⟨s,i,a,e,t,m,q,u,v,r⟩
 ·cases e
 ·injection e with e1 e2 e3
  injection e1 with e1
  injection e1 with e4 e5
  subst e4 e3
  intro j d
  have f:j<L.length*k:=by simpa using d
  have p:L.length*k≤b*k:=Nat.mul_le_mul_right _ q
  have c:j<a.size:=by omega
  have n:(flatK enc k L.toArray)[j]! =a[j]:=by
   rw[getElem!_pos _ j d]
   have o:=zbw enc k hk L
   have l:(flatK enc k L.toArray).toList[j]? =some a[j]:=by
    rw[o,←r,List.getElem?_take_of_lt f,Array.getElem?_toList,Array.getElem?_eq_getElem c]
   rw[Array.getElem?_toList,Array.getElem?_eq_getElem d] at l
   exact Option.some.inj l
  rw[Nat.zero_add,n]
  refine⟨?_,?_⟩
  ·simp only[World.cell?,m]
   exact Array.getElem?_eq_getElem c
  ·simp only[World.frozen?,m]
   simp
theorem zdV {w:World} {g:Nat} {d d':Array α} (h:HoldsK enc k w g 0 d) (a:d'.size=d.size) (m:Nat) (os:Array Obj):
  sortWorldK enc k w g 0 m d' os=grow ((Go.Sort.ahead w m).setCells g 0 (d'.toList.flatMap enc)) os:=by
 unfold sortWorldK putRowK
 have j:putRow id (Go.Sort.ahead w m) g 0 (flatK enc k d)=Go.Sort.ahead w m:=putRow_self id _ g 0 _ h
 have i:((d'.toList).flatMap enc).length=d.size*k:=by rw[xJ enc k _ (λx _=>hk x),Array.length_toList,a]
 have e:=setCells_putRow (Go.Sort.ahead w m) g 0 (d'.toList.flatMap enc) 0 (flatK enc k d) (by rw[size_flatK,i];omega)
 rw[Nat.add_zero,j] at e
 rw[e]
 congr 2
 refine ext_get! (by simp[a]) λt b=>?_
 have c:t<d'.size*k:=by simpa using b
 rw[get_setMany _ _ _ t (by simpa[a] using c),if_pos ⟨Nat.zero_le _,by rw[i,←a];omega⟩,Nat.sub_zero]
 have f:=zbw enc k hk d'.toList
 rw[Array.toArray_toList] at f
 rw[←f]
 rw[getElem!_pos _ t b,getElem!_pos _ t (by simpa using b),Array.getElem_toList]
theorem zca {w:World} {B:Nat} {T:TypeId} {g a:Nat} {L:List α} {d':Array α} (h:w.ownsRow B T k (.slice (some ⟨g,0,none⟩) L.length a) L.length (L.flatMap enc)) (b:d'.size=L.length) (m:Nat) (os:Array Obj):
  (sortWorldK enc k w g 0 m d' os).ownsRow B T k (.slice (some ⟨g,0,none⟩) L.length a) L.length (d'.toList.flatMap enc)∧Fr (λj=>j=g) w (sortWorldK enc k w g 0 m d' os):=by
 rw[zdV enc k hk (zcM enc k hk h) (by simpa using b) m os]
 have c:(Go.Sort.ahead w m).ownsRow B T k (.slice (some ⟨g,0,none⟩) L.length a) L.length (L.flatMap enc):=h
 exact⟨zdK (zgc c (by rw[xJ enc k _ (λx _=>hk x),Array.length_toList,b])) os,((Fr.drewN (Fr.refl _ w) m).trans (zu g _ 0 (Go.Sort.ahead w m)) (λ_ _ h=>h)).growW os⟩
end
theorem sorted_perm {α β:Type} [Inhabited α] (f:α→β) {n:α→α→Bool} {r:β→β→Bool} (z:∀x y,n x y=r (f x) (f y)) {d d':Array α} {S:List β} (w:PermIn 0 d.size d d') (A:SortedIn n 0 d.size d') (hS:S.Perm (d.toList.map f)) (p:S.Pairwise (λa b=>r b a=false)) (t:∀a∈S,∀b∈S,r a b=false→r b a=false→a=b):d'.toList.map f=S:=by
 obtain⟨g,_,c⟩:=w
 have o:d'.extract 0 d.size=d':=by rw[←g];exact Array.extract_size
 rw[o,Array.extract_size] at c
 have e:(d'.toList.map f).Perm S:=(c.map f).trans hS.symm
 refine List.Perm.eq_of_pairwise (le:=λx y=>r y x=false) ?_ ?_ p e
 ·intro a b u v q s
  exact t a (e.mem_iff.1 u) b v s q
 ·rw[List.pairwise_map,List.pairwise_iff_getElem]
  intro i j hi m h
  have l:=A i j (Nat.zero_le _) h (by rw[←g];simpa using m)
  rw[getElem!_pos _ i (by simpa using hi),getElem!_pos _ j (by simpa using m),z] at l
  simpa using l
theorem zcV {α:Type} {q:α→Prop}:∀(H:List α),(∀h∈H,q h)→∃L:List {h:α // q h},L.map Subtype.val=H
 |[],_=>⟨[],rfl⟩
 |h::H,ok=>by
  obtain⟨L,a⟩:=zcV H (λx b=>ok x (List.mem_cons_of_mem _ b))
  exact⟨⟨h,ok h (List.mem_cons_self ..)⟩::L,by rw[List.map_cons,a]⟩
end Go
namespace Go
section
variable {P:Program} {ops:Array Oper} {S:World→Prop}
def QV (ops:Array Oper) (L:List Nat) (i:Nat):Bool:=L.all λk=> !Region.waitsFor .any ops i k
def Y8 (P:Program) (ops:Array Oper) (eff:List Nat) (S:World→Prop) (Q:Act→World→Prop):Nat→List Nat→Act→World→Prop
 |0,_,a,w=>Q a w
 |n+1,L,a,w=>
  (∃i o v,i∈L∧QV ops L i=true∧ops[i]? =some o∧YieldsIf P ops S o v a∧Y8 P ops eff S Q n (L.erase i) (a.put o.dst v) w)∨
  (∀j∈L,QV ops L j=true→∃o,ops[j]? =some o∧Region.wanted o (yielded ops a.tmps)=true∧o.wp P a w (λa' w'=>S w'∧Y8 P ops eff S Q n (L.erase j) a' w') NoQ)
def zf8 (ops:Array Oper):Bool:=
 Region.noSelect ops && Yr ops &&
 ((List.range ops.size).all λi=>(List.range ops.size).all λj=>decide (j<i)|| !Region.waitsFor .any ops i j) &&
 ((List.range ops.size).all λj=>(ops[j]?).any λo=>o.after.all λe=> !Region.binds .any e||decide (e.on<ops.size))
theorem zf9 {eff:List Nat} (hok:zf8 ops=true) {Q:Exit→Act→World→Prop} (hQ:∀c a d v w,Q (.panic c) (Act.put a d v) w→Q (.panic c) a w):
  ∀(n:Nat) (listed:Array Bool) (a:Act) (w:World),listed.size=ops.size→(unl ops listed).length=n→S w→
   Y8 P ops eff S (Q .normal) n (unl ops listed) a w→wpAnyH P .any ops Q S n listed a w:=by
 simp only[zf8,Bool.and_eq_true] at hok
 obtain⟨⟨⟨ao,af⟩,aa⟩,ah⟩:=hok
 have ad:=Region.noSelect_spec ao
 have Y:∀(i:Nat) (B:Oper),ops[i]? =some B→∀e∈B.after,Region.binds .any e=true→e.on<ops.size:=λi B f e t F=>by
  have A:=List.all_eq_true.1 ah i (List.mem_range.2 (Array.getElem?_eq_some_iff.1 f).1)
  rw[f] at A
  have h3:=Array.all_eq_true'.1 A e t
  simpa only[F,Bool.not_true,Bool.false_or,decide_eq_true_eq] using h3
 have V:∀i j,i<ops.size→Region.waitsFor .any ops i j=true→j<i:=λi j hi hw=>by
  obtain⟨B,f,e,t,F,Z⟩:=Region.waitsFor_spec hw
  have h4:=List.all_eq_true.1 (List.all_eq_true.1 aa i (List.mem_range.2 hi)) j (List.mem_range.2 (Z▸Y i B f e t F))
  simpa[hw] using h4
 intro n
 induction n with
 |zero=>
  intro listed a w s h hS H
  have X:unl ops listed=[]:=List.eq_nil_of_length_eq_zero h
  refine⟨?_,H⟩
  by_cases hr:Region.ready .any ops listed=[]
  ·exact hr
  ·obtain⟨j,q⟩:=List.exists_mem_of_ne_nil _ hr
   obtain⟨G,o,ho,_⟩:=mem_ready.1 q
   have:j∈unl ops listed:=List.mem_filter.2 ⟨List.mem_range.2 (Array.getElem?_eq_some_iff.1 ho).1,by rw[G];rfl⟩
   rw[X] at this
   cases this
 |succ n ih=>
  intro listed a w s h hS H
  have g:∀ {j},j∈unl ops listed↔j<ops.size∧listed.getD j true=false:=fun {j}=>by
   unfold unl
   rw[List.mem_filter,List.mem_range]
   simp
  have ae:∀ {j},j∈Region.ready .any ops listed→j∈unl ops listed:=fun {j} q=>by
   obtain⟨G,o,ho,_⟩:=mem_ready.1 q
   exact g.2 ⟨(Array.getElem?_eq_some_iff.1 ho).1,G⟩
  have next:∀j,j∈unl ops listed→∀E w',S w'→Y8 P ops eff S (Q .normal) n ((unl ops listed).erase j) E w'→wpAnyH P .any ops Q S n (listed.setIfInBounds j true) E w':=λj q E w' C D=>by
   refine ih _ E w' (by simp[s]) ?_ C (by rw[X9 s];exact D)
   rw[X9 s,List.length_erase_of_mem q,h]
   rfl
  have b:∀j,j∈Region.ready .any ops listed→∀k,k∈unl ops listed→Region.waitsFor .any ops j k=false:=λj q k y=>by
   obtain⟨_,oj,p,O⟩:=mem_ready.1 q
   refine vM p λe t F ag=>?_
   have I:=O e t F
   rw[ag] at I
   have A:=(g.1 y).2
   have ak:k<listed.size:=by rw[s];exact(g.1 y).1
   simp[ak] at I A
   rw[I] at A
   cases A
  have l:∀i,i∈unl ops listed→QV ops (unl ops listed) i=true→i∈Region.ready .any ops listed:=λi hi M=>by
   have R:=g.1 hi
   obtain⟨B,f⟩:∃o,ops[i]? =some o:=⟨_,Array.getElem?_eq_getElem R.1⟩
   refine mem_ready.2 ⟨R.2,B,f,λe t F=>?_⟩
   have I:=Y i B f e t F
   cases D:listed.getD e.on true with
   |true=>
    have:e.on<listed.size:=by rw[s];exact I
    simp[this] at D⊢
    exact D
   |false=>
    have A:=List.all_eq_true.1 M e.on (g.2 ⟨I,D⟩)
    have h3:Region.waitsFor .any ops i e.on=true:=by
     unfold Region.waitsFor
     rw[f]
     exact Array.any_eq_true'.2 ⟨e,t,by simp[F]⟩
    rw[h3] at A
    cases A
  have z:∀j,j∈Region.ready .any ops listed→QV ops (unl ops listed) j=true:=λj q=>
   List.all_eq_true.2 λk y=>by rw[b j q k y];rfl
  rcases H with⟨i,B,v,hi,M,f,hy,D⟩|H
  ·have U:=l i hi M
   refine wpAnyH_first f ad (λc a w=>hQ c a B.dst v w) n listed a w (λj oj p aj aq an=>?_) U hy hS (next i hi _ _ hS D)
   have ai:=g.2 ⟨(Array.getElem?_eq_some_iff.1 p).1,aq⟩
   exact vq af f p (λe=>aj e.symm) (vM p an) (b i U j ai)
  ·have al:Region.ready .any ops listed≠[]:=by
    obtain⟨i,L,hiL⟩:∃i L,unl ops listed=i::L:=by
     cases hu:unl ops listed with
     |nil=>rw[hu] at h;cases h
     |cons i L=>exact⟨i,L,rfl⟩
    have ab:=zd2 (ops:=ops) listed
    have T:i∈unl ops listed:=by rw[hiL];simp
    have W:∀k,k∈unl ops listed→i≤k:=λk y=>by
     rw[hiL] at y ab
     rcases List.mem_cons.1 y with rfl|y
     ·exact Nat.le_refl _
     ·exact Nat.le_of_lt ((List.pairwise_cons.1 ab).1 k y)
    have:=l i T (List.all_eq_true.2 λk y=>by
     cases hw:Region.waitsFor .any ops i k with
     |false=>rfl
     |true=>have I:=V i k (g.1 T).1 hw;have A:=W k y;omega)
    exact λG=>by rw[G] at this;cases this
   refine⟨λG=>absurd G al,λj q=>?_⟩
   obtain⟨oj,p,ar,au⟩:=H j (ae q) (z j q)
   unfold wpOp
   rw[p]
   simp only[ar,if_true]
   refine .inl ?_
   have N:=Oper.wp_mono (K':=λE w'=>S w'∧wpAnyH P .any ops Q S n (listed.setIfInBounds j true) E w') (λE w' ⟨C,D⟩=>⟨C,next j (ae q) E w' C D⟩) au
   unfold Oper.wp at N⊢
   generalize (execOp a.eval oj).run P w=r at*
   cases r with
   |ok m w'=>
    cases m<;>simp only[Oper.upon] at N⊢ <;>first
     |exact N
     |exact Calls.mono N (λe av t=>by
       cases e with
       |returned u=>exact t
       |panicked c=>exact t.elim
       |outgrown=>obtain⟨_,_,hf⟩:=t;exact hf.elim)
   |halt x w'=>cases x<;>simp only[Oper.upon] at N⊢ <;>exact N.elim
theorem jM {id:Nat} {a:Act} {w:World} {Q:Exit→Act→World→Prop} {l:List Oper} (n:Nat) (L:List Nat) (S:World→Prop) (e:P.follows .mixedOrders=true) (hok:zf8 l.toArray=true) (f:l.length=n) (d:List.range n=L)
  (hS:S w.drew)
  (h:∀K:Act→World→Prop,Shut (∀a w,Q .normal a w→K a w)→Y8 P l.toArray [] S K n L a w.drew):(Code.region id l.toArray true).wp P Q a w:=by
 refine wp_region_noPanic (wp_region_held (S:=S) e ?_)
 have c:unl l.toArray (Array.replicate l.toArray.size false)=List.range l.toArray.size:=by
  unfold unl
  rw[List.filter_eq_self]
  intro i hi
  have:=List.mem_range.1 hi
  simp at this
  simp[this]
 have b:l.toArray.size=n:=by simpa using f
 refine zf9 (eff:=[]) hok (λ_ _ _ _ _ h=>h) _ _ a _ (by simp) (by rw[c];simp) hS (by rw[c,b,d];exact h _ (λ_ _ h=>h))
section
variable {K:Act→World→Prop} {a:Act} {w:World} {n:Nat} {L:List Nat} {o:Oper}
theorem jd (h:K a w):Y8 P ops [] S K 0 L a w:=h
theorem yB (i:Nat) (b:(L.contains i && QV ops L i)=true) (c:ops.toList[i]? =some o) (d:Region.wanted o (yielded ops a.tmps)=true) (h:∃v,(∀w,S w→(execOp a.eval o).run P w=.ok (.value v) w)∧Y8 P ops [] S K n (L.erase i) (a.put o.dst v) w):Y8 P ops [] S K (n+1) L a w:=by
 simp only[Bool.and_eq_true,List.contains_iff_mem] at b
 obtain⟨v,e,h⟩:=h
 exact .inl ⟨i,o,v,b.1,b.2,by simpa using c,.inl ⟨d,e⟩,h⟩
theorem yC (i:Nat) (b:(L.contains i && QV ops L i)=true) (c:ops.toList[i]? =some o) (d:Region.wanted o (yielded ops a.tmps)=false) (h:Y8 P ops [] S K n (L.erase i) (a.put o.dst undef) w):Y8 P ops [] S K (n+1) L a w:=by
 simp only[Bool.and_eq_true,List.contains_iff_mem] at b
 exact .inl ⟨i,o,undef,b.1,b.2,by simpa using c,.inr ⟨d,rfl⟩,h⟩
theorem zgX (g:List Nat) (k:L.filter (QV ops L)=g) (h:∀j∈g,∃o,ops[j]? =some o∧Region.wanted o (yielded ops a.tmps)=true∧∀K',Shut (∀e w',S w'→(S w'→Y8 P ops [] S K n (L.erase j) e w')→K' e w')→o.wp P a w K' NoQ):Y8 P ops [] S K (n+1) L a w:=by
 refine .inr λj c b=>?_
 obtain⟨o,l,m,d⟩:=h j (by rw[←k];exact List.mem_filter.2 ⟨c,b⟩)
 exact⟨o,l,m,d _ (λ_ _ f i=>⟨f,i f⟩)⟩
theorem y9 (j:Nat) (d:L.filter (QV ops L)=[j]) (e:ops.toList[j]? =some o) (f:Region.wanted o (yielded ops a.tmps)=true) (h:∀K',Shut (∀c w',S w'→(S w'→Y8 P ops [] S K n (L.erase j) c w')→K' c w')→o.wp P a w K' NoQ):Y8 P ops [] S K (n+1) L a w:=
 zgX [j] d (λg b=>by
  have:=List.mem_singleton.1 b
  subst this
  exact⟨o,by simpa using e,f,h⟩)
theorem ZI (j k:Nat) {d:Oper} (i:L.filter (QV ops L)=[j,k]) (l:ops.toList[j]? =some o) (m:Region.wanted o (yielded ops a.tmps)=true) (e:ops.toList[k]? =some d) (f:Region.wanted d (yielded ops a.tmps)=true)
  (h:∀K',Shut (∀c w',S w'→(S w'→Y8 P ops [] S K n (L.erase j) c w')→K' c w')→o.wp P a w K' NoQ)
  (g:∀K',Shut (∀c w',S w'→(S w'→Y8 P ops [] S K n (L.erase k) c w')→K' c w')→d.wp P a w K' NoQ):Y8 P ops [] S K (n+1) L a w:=
 zgX [j,k] i (λp b=>by
  rcases List.mem_cons.1 b with rfl|b
  ·exact⟨o,by simpa using l,m,h⟩
  ·have:=List.mem_singleton.1 b
   subst this
   exact⟨d,by simpa using e,f,g⟩)
end
end
attribute [irreducible] Y8
end Go
namespace Go
section
variable {P:Program} {ops:Array Oper} {S:World→Prop}
def QQ (P:Program) (ops:Array Oper) (Q:Exit→Act→World→Prop) (S:World→Prop) (m:Nat):Nat→Array Bool→Act→World→Prop
 |0,listed,a,w=>Region.ready .any ops listed=[]∧Q .normal a w
 |fuel+1,listed,a,w=>
  (Region.ready .any ops listed=[]→Q .normal a w)∧
  ∀i∈Region.ready .any ops listed,wpOp P ops Q i (λa' w'=>((listed.setIfInBounds i true).getD m false=false→S w')∧QQ P ops Q S m fuel (listed.setIfInBounds i true) a' w') a w
theorem zci {Q:Exit→Act→World→Prop} {m:Nat}:∀(fuel:Nat) (listed:Array Bool) (a:Act) (w:World),QQ P ops Q S m fuel listed a w→wpAny P .any ops Q fuel listed a w
 |0,_,_,_,h=>h
 |fuel+1,_,_,_,h=>⟨h.1,λi hi=>wpOp_mono (λc w' d=>zci fuel _ c w' d.2) (h.2 i hi)⟩
def zfk (ops:Array Oper) (m:Nat):Bool:=(List.range ops.size).all λi=>i==m||QF ops ops.size m i
theorem zb7 {m:Nat} (h:zfk ops m=true) {listed:Array Bool} (g:ZY ops listed) (d:listed.size=ops.size) (l:∀k,Region.waitsFor .any ops m k=true→listed.getD k false=true) {i:Nat} (hi:i<ops.size) (c:i≠m):listed.getD i true=true:=by
 have e:=List.all_eq_true.1 h i (List.mem_range.2 hi)
 simp only[Bool.or_eq_true,beq_iff_eq] at e
 have f:=JR g _ m i (e.resolve_left c) l
 have:i<listed.size:=by rw[d];exact hi
 simp[this] at f⊢
 exact f
theorem zff {listed:Array Bool} {m:Nat} (h:m∈Region.ready .any ops listed):∀k,Region.waitsFor .any ops m k=true→listed.getD k false=true:=λk l=>by
 obtain⟨_,o,n,c⟩:=mem_ready.1 h
 obtain⟨p,d,e,i,g,f⟩:=Region.waitsFor_spec l
 rw[n] at d
 cases d
 exact f▸c e i g
theorem zd5 {Q:Exit→Act→World→Prop} {m:Nat} (g:zfk ops m=true) {i:Nat} {x:Oper} {v:Value} (hi:ops[i]? =some x) (s:i≠m) (q:∀(j:Nat) (o:Oper) cs b,ops[j]? =some o→o.op≠.select cs b)
  (hQ:∀c a w,Q (.panic c) (a.put x.dst v) w→Q (.panic c) a w):
  ∀(fuel:Nat) (listed:Array Bool) (a:Act) (w:World),listed.size=ops.size→ZY ops listed→
   (∀j y,ops[j]? =some y→j≠i→listed.getD j true=false→(∀e∈y.after,Region.binds .any e=true→e.on≠i)→x.apart ops y=true)→
   i∈Region.ready .any ops listed→YieldsIf P ops S x v a→S w→
   QQ P ops Q S m fuel (listed.setIfInBounds i true) (a.put x.dst v) w→QQ P ops Q S m (fuel+1) listed a w:=by
 intro fuel
 induction fuel with
 |zero=>
  intro listed a w l C _ u I hS H
  refine⟨λh=>(by rw[h] at u;cases u),λj A=>?_⟩
  by_cases hji:j=i
  ·subst hji;exact I.wpOp hi hS ⟨λ_=>hS,H⟩
  ·have:=ready_mono A hji
   rw[H.1] at this
   cases this
 |succ fuel ih=>
  intro listed a w l C f u I hS H
  refine⟨λh=>(by rw[h] at u;cases u),λj A=>?_⟩
  by_cases hji:j=i
  ·subst hji;exact I.wpOp hi hS ⟨λ_=>hS,H⟩
  ·have z:=H.2 j (ready_mono A hji)
   obtain⟨p,y,t,B⟩:=mem_ready.1 A
   have d:=(mem_ready.1 u).1
   have r:i<ops.size:=(Array.getElem?_eq_some_iff.1 hi).1
   have O:j≠m:=λe=>by
    subst e
    have:=zb7 g C l (zff A) r s
    rw[d] at this
    cases this
   have E:∀e∈y.after,Region.binds .any e=true→e.on≠i:=λe M L N=>by
    have z:=B e M L
    rw[N] at z
    have h':i<listed.size:=by rw[l];exact r
    simp[h'] at d z
    rw[d] at z
    cases z
   have h2:=wpOp_putIf t (f j y t hji p E) (λcs b=>q i x cs b hi) (λcs b=>q j y cs b t) hQ I z
   have n:∀k ok,ops[k]? =some ok→k≠i→(listed.setIfInBounds j true).getD k true=false→
     (∀e∈ok.after,Region.binds .any e=true→e.on≠i)→x.apart ops ok=true:=λk ok R T F W=>by
    refine f k ok R T ?_ W
    by_cases hjk:j=k
    ·subst hjk;exact p
    ·rw[getD_set_ne true hjk] at F;exact F
   have U:i∈Region.ready .any ops (listed.setIfInBounds j true):=ready_mono u (Ne.symm hji)
   have D:((listed.setIfInBounds i true).setIfInBounds j true).getD m false=false:=by
    rw[getD_set_ne false O,getD_set_ne false s]
    cases hml:listed.getD m false with
    |false=>rfl
    |true=>
     have V:∀k,Region.waitsFor .any ops m k=true→listed.getD k false=true:=λk R=>by
      obtain⟨om,X,e,M,L,Y⟩:=Region.waitsFor_spec R
      exact Y▸C m om X hml e M L
     have:=zb7 g C l V r s
     rw[d] at this
     cases this
   refine wpOp_mono (λZ w' G=>⟨λ_=>G.2.1 D,ih (listed.setIfInBounds j true) Z w' (by simp[l]) (C.set A) n U G.1 (G.2.1 D) ?_⟩) h2
   rw[Array.setIfInBounds_comm _ _ hji]
   exact G.2.2
def Xo (P:Program) (ops:Array Oper) (eff:List Nat) (S:World→Prop) (Q:Act→World→Prop):List Nat→Act→World→Prop
 |[],a,w=>Q a w
 |i::rest,a,w=>∃o,ops[i]? =some o∧
   (if eff.contains i=true∧Region.wanted o (yielded ops a.tmps)=true then o.wp P a w (λa' w'=>(rest≠[]→S w')∧Xo P ops eff S Q rest a' w') NoQ
    else ∃v,YieldsIf P ops S o v a∧Xo P ops eff S Q rest (a.put o.dst v) w)
theorem zhW (n:∀(j:Nat) (o:Oper) cs b,ops[j]? =some o→o.op≠.select cs b) (z:Yr ops=true) {eff:List Nat} {Q:Act→World→Prop} {j:Nat} {c:Oper} (I:ops[j]? =some c):
  ∀(L:List Nat) (a:Act) (w:World),S w→j∈L→L.Nodup→(∀i∈L,Region.waitsFor .any ops j i=false)→(∀i∈L,i<j→Region.waitsFor .any ops i j=false)→
   (∀i∈L,i≠j→i<j∨True)→L.Pairwise (· < ·)→(eff.contains j=false∨Region.wanted c (yielded ops a.tmps)=false)→
   Xo P ops eff S Q L a w→∃v,YieldsIf P ops S c v a∧Xo P ops eff S Q (L.erase j) (a.put c.dst v) w:=by
 intro L
 induction L with
 |nil=>intro a w _ V;cases V
 |cons h L ih=>
  intro a w hS V W F G _ B k H
  obtain⟨g,d,H⟩:=H
  by_cases hhj:h=j
  ·subst hhj
   rw[I] at d
   cases d
   rw[if_neg (by rintro⟨e1,e2⟩;rcases k with e|e<;>simp_all)] at H
   obtain⟨v,r,C⟩:=H
   exact⟨v,r,by simpa using C⟩
  ·have t:j∈L:=by
    rcases List.mem_cons.1 V with e|e
    ·exact absurd e.symm hhj
    ·exact e
   have U:h<j:=(List.pairwise_cons.1 B).1 j t
   have q:Region.waitsFor .any ops j h=false:=F h (by simp)
   have p:Region.waitsFor .any ops h j=false:=G h (by simp) U
   have aj:c.apart ops g=true:=vq z I d (λe=>hhj e.symm) p q
   have ah:g.apart ops c=true:=vq z d I hhj q p
   obtain⟨Z,p2,p3⟩:=Oper.apart_spec aj
   have E:=λcs b=>n j c cs b I
   have hsh:=λcs b=>n h g cs b d
   have back:∀ {f:Act} {v:Value},Xd ops g.dst a f→YieldsIf P ops S c v f→YieldsIf P ops S c v a:=fun {f v} C r=>
    let ⟨r1,r2⟩:=C c E p3
    r.of_same r1.symm r2.symm
   have x:∀(f:Act) (w':World),S w'→Xd ops g.dst a f→Xo P ops eff S Q L f w'→∃v,YieldsIf P ops S c v f∧Xo P ops eff S Q (L.erase j) (f.put c.dst v) w':=λf w' l C R=>
    ih f w' l t (List.nodup_cons.1 W).2 (λi hi=>F i (by simp[hi])) (λi hi=>G i (by simp[hi])) (λ_ _ _=>.inr trivial) (List.pairwise_cons.1 B).2 (k.imp id (λe=>(C c E p3).2.trans e)) R
   have O:(h::L).erase j=h::L.erase j:=by rw[List.erase_cons_tail];simpa using hhj
   rw[O]
   split at H
   ·rename_i hc
    have H2:=zgZ (ops:=ops) H
    have m:L≠[]:=List.ne_nil_of_mem t
    obtain⟨a0,w0,⟨⟨y,T⟩,D⟩⟩:=zeS H2
    have N:=y m
    obtain⟨v,X,_⟩:=x a0 w0 N D T
    have r:=back D X
    refine⟨v,r,g,d,?_⟩
    rw[if_pos ⟨hc.1,by rw[wanted_put g a c.dst v Z];exact hc.2⟩]
    refine zgY aj hsh (Oper.wp_mono (λf w' ⟨⟨hS'',s⟩,hr'⟩=>?_) H2)
    have l:=hS'' m
    obtain⟨v',u,A⟩:=x f w' l hr' s
    have:v'=v:=YieldsIf.uniq hS (back hr' u) r
    subst this
    exact⟨λ_=>l,A⟩
   ·rename_i hc
    obtain⟨M,Y,R⟩:=H
    obtain⟨v,u,s⟩:=x _ w hS (Xd.put a g.dst M) R
    have r:=back (Xd.put a g.dst M) u
    refine⟨v,r,g,d,?_⟩
    rw[if_neg (by rw[wanted_put g a c.dst v Z];exact hc)]
    obtain⟨r1,r2⟩:=Xd.put (ops:=ops) a c.dst v g hsh Z
    exact⟨M,Y.of_same r1 r2,by rw[←Act.put_comm a M v (Oper.apart_spec ah).2.1];exact s⟩
theorem zga {eff:List Nat} {m:Nat} (hok:zaN ops eff=true) (O:zfk ops m=true) (hm:m+1=ops.size) {Q:Exit→Act→World→Prop} (hQ:∀c a d v w,Q (.panic c) (Act.put a d v) w→Q (.panic c) a w):
  ∀(n:Nat) (listed:Array Bool) (a:Act) (w:World),listed.size=ops.size→ZY ops listed→(unl ops listed).length=n→(listed.getD m false=false→S w)→
   Xo P ops eff S (Q .normal) (unl ops listed) a w→QQ P ops Q S m n listed a w:=by
 simp only[zaN,Bool.and_eq_true] at hok
 obtain⟨⟨⟨⟨az,ak⟩,ao⟩,av⟩,al⟩:=hok
 have aa:=Region.noSelect_spec az
 have W:∀i j,i<ops.size→Region.waitsFor .any ops i j=true→j<i:=λi j hi hw=>by
  obtain⟨oi,p,e,B,T,N⟩:=Region.waitsFor_spec hw
  have D:=List.all_eq_true.1 av i (List.mem_range.2 hi)
  rw[p] at D
  have h3:=Array.all_eq_true'.1 D e B
  simp only[T,Bool.not_true,Bool.false_or,decide_eq_true_eq] at h3
  have h4:=List.all_eq_true.1 (List.all_eq_true.1 ao i (List.mem_range.2 hi)) j (List.mem_range.2 (N▸h3))
  simpa[hw] using h4
 intro n
 induction n with
 |zero=>
  intro listed a w l hc z hS H
  have Y:unl ops listed=[]:=List.eq_nil_of_length_eq_zero z
  rw[Y] at H
  refine⟨?_,H⟩
  by_cases hr:Region.ready .any ops listed=[]
  ·exact hr
  ·obtain⟨j,t⟩:=List.exists_mem_of_ne_nil _ hr
   obtain⟨F,o,ho,_⟩:=mem_ready.1 t
   have:j∈unl ops listed:=List.mem_filter.2 ⟨List.mem_range.2 (Array.getElem?_eq_some_iff.1 ho).1,by rw[F];rfl⟩
   rw[Y] at this
   cases this
 |succ n ih=>
  intro listed a w l hc z aq H
  have f:∀ {j},j∈unl ops listed↔j<ops.size∧listed.getD j true=false:=fun {j}=>by
   unfold unl
   rw[List.mem_filter,List.mem_range]
   simp
  have ai:∀ {j},j∈Region.ready .any ops listed→j∈unl ops listed:=fun {j} t=>by
   obtain⟨F,o,ho,_⟩:=mem_ready.1 t
   exact f.2 ⟨(Array.getElem?_eq_some_iff.1 ho).1,F⟩
  have next:∀j,j∈Region.ready .any ops listed→∀U w',((listed.setIfInBounds j true).getD m false=false→S w')→Xo P ops eff S (Q .normal) ((unl ops listed).erase j) U w'→QQ P ops Q S m n (listed.setIfInBounds j true) U w':=λj t U w' R E=>by
   refine ih _ U w' (by simp[l]) (hc.set t) ?_ R (by rw[X9 l];exact E)
   rw[X9 l,List.length_erase_of_mem (ai t),z]
   rfl
  obtain⟨i,L,hiL⟩:∃i L,unl ops listed=i::L:=by
   cases hu:unl ops listed with
   |nil=>rw[hu] at z;cases z
   |cons i L=>exact⟨i,L,rfl⟩
  have C:=zd2 (ops:=ops) listed
  have M:listed.getD m false=false:=by
   cases hml:listed.getD m false with
   |false=>rfl
   |true=>
    have ax:∀k,Region.waitsFor .any ops m k=true→listed.getD k false=true:=λk s=>by
     obtain⟨om,aA,e,B,T,N⟩:=Region.waitsFor_spec s
     exact N▸hc m om aA hml e B T
    have aw:i∈unl ops listed:=by rw[hiL];simp
    have V:=f.1 aw
    by_cases him:i=m
    ·subst him
     have h6:=V.2
     have:i<listed.size:=by rw[l];exact V.1
     simp[this] at h6 hml
     rw[h6] at hml
     cases hml
    ·have:=zb7 O hc l ax V.1 him
     rw[V.2] at this
     cases this
  have hS:=aq M
  have ag:m∈unl ops listed:=f.2 ⟨by omega,by
   have:m<listed.size:=by rw[l];omega
   simp[this] at M⊢
   exact M⟩
  have au:i∈unl ops listed:=by rw[hiL];simp
  have hi:=f.1 au
  have X:∀k,k∈unl ops listed→i≤k:=λk s=>by
   rw[hiL] at s C
   rcases List.mem_cons.1 s with rfl|s
   ·exact Nat.le_refl _
   ·exact Nat.le_of_lt ((List.pairwise_cons.1 C).1 k s)
  have A:∀k,k<i→listed.getD k false=true:=λk s=>by
   cases E:listed.getD k true with
   |false=>exact absurd (X k (f.2 ⟨Nat.lt_trans s hi.1,E⟩)) (by omega)
   |true=>
    have:k<listed.size:=by rw[l];exact Nat.lt_trans s hi.1
    simp[this] at E⊢
    exact E
  rw[hiL] at H
  obtain⟨oi,p,H⟩:=H
  have I:i∈Region.ready .any ops listed:=mem_ready.2 ⟨hi.2,oi,p,λe B T=>
   A _ (W i e.on hi.1 (by
    unfold Region.waitsFor
    rw[p]
    exact Array.any_eq_true'.2 ⟨e,B,by simp[T]⟩))⟩
  have an:Region.ready .any ops listed≠[]:=λF=>by rw[F] at I;cases I
  have ad:(unl ops listed).erase i=L:=by rw[hiL];simp
  have g:∀j,j∈Region.ready .any ops listed→∀k,k∈unl ops listed→Region.waitsFor .any ops j k=false:=λj t k s=>by
   obtain⟨_,oj,q,G⟩:=mem_ready.1 t
   refine vM q λe B T ar=>?_
   have h1:=G e B T
   rw[ar] at h1
   have D:=(f.1 s).2
   have af:k<listed.size:=by rw[l];exact(f.1 s).1
   simp[af] at h1 D
   rw[h1] at D
   cases D
  split at H
  ·rename_i hcond
   refine⟨λF=>absurd F an,λj t=>?_⟩
   by_cases ae:j=i
   ·subst ae
    unfold wpOp
    rw[p]
    simp only[hcond.2,if_true]
    refine .inl ?_
    have aj:∀w',(L≠[]→S w')→((listed.setIfInBounds j true).getD m false=false→S w'):=λw' F h1=>F (λe=>by
     rw[hiL,e] at ag
     simp at ag
     subst ag
     have:m<listed.size:=by rw[l];omega
     simp[this] at h1)
    have H':=Oper.wp_mono (K':=λU w'=>((listed.setIfInBounds j true).getD m false=false→S w')∧QQ P ops Q S m n (listed.setIfInBounds j true) U w') (λU w' ⟨R,E⟩=>⟨aj w' R,next j t U w' (aj w' R) (by rw[ad];exact E)⟩) H
    unfold Oper.wp at H'⊢
    generalize (execOp a.eval oi).run P w=r at*
    cases r with
    |ok m w'=>
     cases m<;>simp only[Oper.upon] at H'⊢ <;>first
      |exact H'
      |exact Calls.mono H' (λe aF B=>by
        cases e with
        |returned u=>exact B
        |panicked c=>exact B.elim
        |outgrown=>obtain⟨_,_,hf⟩:=B;exact hf.elim)
    |halt x w'=>cases x<;>simp only[Oper.upon] at H'⊢ <;>exact H'.elim
   ·-- a read that may come up
    obtain⟨_,oj,q,G⟩:=mem_ready.1 t
    have y:=ai t
    have ah:eff.contains j=false:=by
     cases hcj:eff.contains j with
     |false=>rfl
     |true=>
      have h1:=List.all_eq_true.1 al j (by simpa using hcj)
      have D:=List.all_eq_true.1 h1 i (by simpa using hcond.1)
      have aD:=X j y
      simp only[Bool.or_eq_true,decide_eq_true_eq] at D
      have h3:QF ops ops.size j i=true:=by rcases D with D|D<;>first|omega|exact D
      have h4:=JR hc _ j i h3 (λk s=>by
       obtain⟨aE,Z,e,B,T,N⟩:=Region.waitsFor_spec s
       rw[q] at Z
       cases Z
       exact N▸G e B T)
      have af:i<listed.size:=by rw[l];exact hi.1
      have V:=hi.2
      simp[af] at h4 V
      rw[h4] at V
      cases V
    have ab:Xo P ops eff S (Q .normal) (unl ops listed) a w:=by
     rw[hiL]
     exact⟨oi,p,by rw[if_pos hcond];exact H⟩
    obtain⟨v,hy,E⟩:=zhW aa ak q (unl ops listed) a w hS y (C.imp (λh=>Nat.ne_of_lt h)) (λk s=>g j t k s)
     (λk s aC=>by
      cases hwk:Region.waitsFor .any ops k j with
      |false=>rfl
      |true=>have:=W k j (f.1 s).1 hwk;omega)
     (λ_ _ _=>.inr trivial) C (.inl ah) ab
    exact hy.wpOp q hS ⟨λ_=>hS,next j t _ _ (λ_=>hS) E⟩
  ·rename_i hcond
   obtain⟨v,hy,E⟩:=H
   by_cases him:i=m
   ·subst him
    have hL:L=[]:=by
     cases L with
     |nil=>rfl
     |cons x L'=>
      have hx:x∈unl ops listed:=by rw[hiL];simp
      have h7:=(f.1 hx).1
      rw[hiL] at C
      have:=(List.pairwise_cons.1 C).1 x (by simp)
      omega
    refine⟨λF=>absurd F an,λj t=>?_⟩
    have y:=ai t
    rw[hiL,hL] at y
    simp at y
    subst y
    exact hy.wpOp p hS ⟨λ_=>hS,next j t _ _ (λ_=>hS) (by rw[ad];exact E)⟩
   ·refine zd5 O p him aa (λc a w=>hQ c a oi.dst v w) n listed a w l hc (λj oj q ae aB ay=>?_) I hy hS (next i I _ _ (λ_=>hS) (by rw[ad];exact E))
    have y:=f.2 ⟨(Array.getElem?_eq_some_iff.1 q).1,aB⟩
    exact vq ak p q (λe=>ae e.symm) (vM q ay) (g i I j y)
theorem zaY {id:Nat} {a:Act} {w:World} {Q:Exit→Act→World→Prop} (eff:List Nat) (S:World→Prop) (k:P.follows .mixedOrders=true) (hok:zaN ops eff=true) (m:Nat) (c:zfk ops m=true) (d:m+1=ops.size)
  (hS:S w.drew) (L:List Nat) (g:List.range ops.size=L)
  (h:∀K:Act→World→Prop,Shut (∀a w,Q .normal a w→K a w)→Xo P ops eff S K L a w.drew):(Code.region id ops true).wp P Q a w:=by
 refine wp_region_noPanic (wp_region_any k (zci (S:=S) (m:=m) _ _ _ _ ?_))
 have f:unl ops (Array.replicate ops.size false)=List.range ops.size:=by
  unfold unl
  rw[List.filter_eq_self]
  intro i hi
  have:=List.mem_range.1 hi
  simp[this]
 refine zga hok c d (λ_ _ _ _ _ h=>h) _ _ a _ (by simp) (λj n l e=>?_) (by rw[f];simp) (λ_=>hS) (by rw[f,g];exact h _ (λ_ _ h=>h))
 by_cases hjs:j<ops.size
 ·simp[hjs] at e
 ·simp[hjs] at e
def vy (P:Program) (ops:Array Oper) (S:World→Prop) (Q:Act→World→Prop):List Bool→List Oper→Act→World→Prop
 |_,[],a,w=>Q a w
 |es,o::rest,a,w=>
   if es.headD false=true∧Region.wanted o (yielded ops a.tmps)=true then o.wp P a w (λa' w'=>(rest≠[]→S w')∧vy P ops S Q es.tail rest a' w') NoQ
    else ∃v,YieldsIf P ops S o v a∧vy P ops S Q es.tail rest (a.put o.dst v) w
theorem ZH {es:List Bool} {K:Act→World→Prop}:∀(l:List Oper) (i:Nat) (a:Act) (w:World),(∀k o,l[k]? =some o→ops[i+k]? =some o)→
  vy P ops S K (es.drop i) l a w→Xo P ops (zaH es) S K (List.range' i l.length) a w
 |[],i,a,w,_,h=>h
 |o::rest,i,a,w,ho,h=>by
  have n:ops[i]? =some o:=ho 0 o rfl
  have c:∀k d,rest[k]? =some d→ops[i+1+k]? =some d:=λk d q=>by
   have:=ho (k+1) d (by simpa using q)
   rwa [show i+1+k=i+(k+1) by omega]
  have p:(es.drop i).headD false=es.getD i false:=by simp[List.getD,List.headD_eq_head?_getD]
  have r:(es.drop i).tail=es.drop (i+1):=by simp[List.tail_drop]
  rw[vy,p,r] at h
  rw[List.length_cons,List.range'_succ]
  refine⟨o,n,?_⟩
  rw[Xk]
  split at h
  ·rename_i hc
   rw[if_pos hc]
   exact Oper.wp_mono (λm w' ⟨hS,f⟩=>⟨λg=>hS (λe=>g (by rw[e];rfl)),ZH rest (i+1) m w' c f⟩) h
  ·rename_i hc
   rw[if_neg hc]
   obtain⟨v,s,f⟩:=h
   exact⟨v,s,ZH rest (i+1) _ w c f⟩
theorem ym {id:Nat} {a:Act} {w:World} {Q:Exit→Act→World→Prop} {l:List Oper} (es:List Bool) (S:World→Prop) (f:P.follows .mixedOrders=true) (hok:zaN l.toArray (zaH es)=true) (m:Nat) (c:zfk l.toArray m=true) (d:m+1=l.toArray.size)
  (hS:S w.drew)
  (h:∀K:Act→World→Prop,Shut (∀a w,Q .normal a w→K a w)→vy P l.toArray S K es l a w.drew):(Code.region id l.toArray true).wp P Q a w:=by
 refine zaY (zaH es) S f hok m c d hS _ rfl (λK hK=>?_)
 have:=ZH (P:=P) (ops:=l.toArray) (S:=S) (es:=es) (K:=K) l 0 a w.drew (λk o e=>by simpa using e) (by simpa using h K hK)
 simpa[List.range_eq_range'] using this
theorem xD {es:List Bool} {K:Act→World→Prop} {a:Act} {w:World} (h:K a w):vy P ops S K es [] a w:=h
theorem z7 {es:List Bool} {K:Act→World→Prop} {a:Act} {w:World} {o:Oper} {rest:List Oper}
  (c:Region.wanted o (yielded ops a.tmps)=true) (h:∃v,(∀w,S w→(execOp a.eval o).run P w=.ok (.value v) w)∧vy P ops S K es rest (a.put o.dst v) w):vy P ops S K (false::es) (o::rest) a w:=by
 obtain⟨v,d,h⟩:=h
 rw[vy,if_neg (by simp)]
 exact⟨v,.inl ⟨c,d⟩,h⟩
theorem ya {e:Bool} {es:List Bool} {K:Act→World→Prop} {a:Act} {w:World} {o:Oper} {rest:List Oper}
  (c:Region.wanted o (yielded ops a.tmps)=false) (h:vy P ops S K es rest (a.put o.dst undef) w):vy P ops S K (e::es) (o::rest) a w:=by
 rw[vy,if_neg (by rw[c];simp)]
 exact⟨undef,.inr ⟨c,rfl⟩,h⟩
theorem z6 {es:List Bool} {K:Act→World→Prop} {a:Act} {w:World} {o:Oper} {rest:List Oper}
  (f:Region.wanted o (yielded ops a.tmps)=true) (h:∀K',Shut (∀c w',(rest≠[]→S w')→((rest≠[]→S w')→vy P ops S K es rest c w')→K' c w')→o.wp P a w K' NoQ):vy P ops S K (true::es) (o::rest) a w:=by
 rw[vy,if_pos ⟨rfl,f⟩]
 exact h _ (λ_ _ d e=>⟨d,e d⟩)
section
variable {es:List Bool} {K:Act→World→Prop} {a:Act} {w:World} {rest:List Oper} {dst:Option Tmp} {op:Op} {ty:TypeId} {pos:String} {after:Array Edge} {j:Nat} {b:Bool}
theorem znc (h:∃v,(∀w,S w→(execOp a.eval {dst:=dst,op:=op,type:=ty,pos:=pos,after:=after,guard:=none}).run P w=.ok (.value v) w)∧vy P ops S K es rest (a.put dst v) w):
  vy P ops S K (false::es) ({dst:=dst,op:=op,type:=ty,pos:=pos,after:=after,guard:=none}::rest) a w:=z7 rfl h
theorem zmL (c:yielded ops a.tmps j=some b) (h:∃v,(∀w,S w→(execOp a.eval {dst:=dst,op:=op,type:=ty,pos:=pos,after:=after,guard:=some (j,b)}).run P w=.ok (.value v) w)∧vy P ops S K es rest (a.put dst v) w):
  vy P ops S K (false::es) ({dst:=dst,op:=op,type:=ty,pos:=pos,after:=after,guard:=some (j,b)}::rest) a w:=z7 (by simp[Region.wanted,c]) h
theorem znd {e c:Bool} (f:yielded ops a.tmps j=some c) (d:c= !b) (h:vy P ops S K es rest (a.put dst undef) w):
  vy P ops S K (e::es) ({dst:=dst,op:=op,type:=ty,pos:=pos,after:=after,guard:=some (j,b)}::rest) a w:=ya (by subst d;simp[Region.wanted,f]) h
theorem zmM {e:Bool} (c:yielded ops a.tmps j=none) (h:vy P ops S K es rest (a.put dst undef) w):
  vy P ops S K (e::es) ({dst:=dst,op:=op,type:=ty,pos:=pos,after:=after,guard:=some (j,b)}::rest) a w:=ya (by simp[Region.wanted,c]) h
theorem znK (h:∀K',Shut (∀c w',(rest≠[]→S w')→((rest≠[]→S w')→vy P ops S K es rest c w')→K' c w')→Oper.wp P {dst:=dst,op:=op,type:=ty,pos:=pos,after:=after,guard:=none} a w K' NoQ):
  vy P ops S K (true::es) ({dst:=dst,op:=op,type:=ty,pos:=pos,after:=after,guard:=none}::rest) a w:=z6 rfl h
theorem znb (d:yielded ops a.tmps j=some b) (h:∀K',Shut (∀c w',(rest≠[]→S w')→((rest≠[]→S w')→vy P ops S K es rest c w')→K' c w')→Oper.wp P {dst:=dst,op:=op,type:=ty,pos:=pos,after:=after,guard:=some (j,b)} a w K' NoQ):
  vy P ops S K (true::es) ({dst:=dst,op:=op,type:=ty,pos:=pos,after:=after,guard:=some (j,b)}::rest) a w:=z6 (by simp[Region.wanted,d]) h
end
end
attribute [irreducible] vy
end Go
