/- Frames, slices that are read, and maps as lists of keys and values. -/
import Derived.WalkKit
import Derived.Maps.Own
import Derived.DeepKeys4
import Derived.Deep.Draws
import Derived.Lib.SliceRun
import Derived.OrdersHeld
import Derived.StillTail
import Derived.Deep.RegionHeld3
set_option linter.unusedVariables false
set_option linter.unusedSimpArgs false
set_option linter.unnecessarySimpa false
set_option linter.all false
set_option maxRecDepth 20000
set_option maxHeartbeats 16000000
namespace Go
open Go.MapKept Go.RowKit Go.Maps
structure Fr (W:Nat→Prop) (w w':World):Prop where
 os:w'.os=w.os
 tape:w'.tape=w.tape
 output:w'.output=w.output
 size:w.heap.size≤w'.heap.size
 block:∀k,k<w.heap.size→¬W k→w'.heap[k]? =w.heap[k]?
abbrev No:Nat→Prop:=λ_=>False
theorem Fr.refl (W:Nat→Prop) (w:World):Fr W w w:=⟨rfl,rfl,rfl,Nat.le_refl _,λ_ _ _=>rfl⟩
theorem Fr.trans {W V:Nat→Prop} {a b c:World} (h:Fr W a b) (k:Fr V b c) (e:∀i,i<a.heap.size→V i→W i):Fr W a c:=
 ⟨k.os.trans h.os,k.tape.trans h.tape,k.output.trans h.output,Nat.le_trans h.size k.size,λi hi d=>(k.block i (Nat.lt_of_lt_of_le hi h.size) (λf=>d (e i hi f))).trans (h.block i hi d)⟩
theorem Fr.trans0 {W:Nat→Prop} {a b c:World} (h:Fr W a b) (k:Fr No b c):Fr W a c:=h.trans k (λ_ _ h=>h.elim)
theorem Fr.mono {W V:Nat→Prop} {a b:World} (h:Fr W a b) (c:∀i,W i→V i):Fr V a b:=
 ⟨h.os,h.tape,h.output,h.size,λi hi d=>h.block i hi (λe=>d (c i e))⟩
theorem Fr.of0 {W:Nat→Prop} {a b:World} (h:Fr No a b):Fr W a b:=h.mono (λ_ h=>h.elim)
theorem Fr.drew {W:Nat→Prop} {a b:World} (h:Fr W a b):Fr W a b.drew:=⟨h.os,h.tape,h.output,h.size,h.block⟩
theorem Fr.drewN {W:Nat→Prop} {a b:World} (h:Fr W a b) (n:Nat):Fr W a (b.drewN n):=⟨h.os,h.tape,h.output,h.size,h.block⟩
theorem Fr.alloc {W:Nat→Prop} {a b:World} (h:Fr W a b) (o:Obj):Fr W a (b.alloc o):=
 ⟨h.os,h.tape,h.output,by simp;have:=h.size;omega,λi hi c=>by rw[Below.heap_alloc _ _ _ (Nat.lt_of_lt_of_le hi h.size)];exact h.block i hi c⟩
theorem Fr.setCell {W:Nat→Prop} {a b:World} (h:Fr W a b) (p:Addr) (c:a.heap.size≤p.block∨W p.block) (u:Value):Fr W a (b.setCell p u):=
 ⟨h.os,h.tape,h.output,by simp[World.setCell];exact h.size,λi hi d=>by
  rw[Below.heap_setCell _ _ _ _ (by rintro rfl;rcases c with c|c;omega;exact d c)];exact h.block i hi d⟩
theorem Fr.grown {W:Nat→Prop} {a b c:World} {f:Option Nat} (h:Fr W a b) (d:b.grownBy c f) (j:∀k,f=some k→a.heap.size≤k∨W k):Fr W a c:=
 ⟨d.os.trans h.os,d.tape.trans h.tape,d.output.trans h.output,Nat.le_trans h.size d.size,λi hi g=>by
  rw[d.block i (Nat.lt_of_lt_of_le hi h.size) (λe=>by rcases j i e.symm with h1|h1;omega;exact g h1)];exact h.block i hi g⟩
theorem Fr.cell {W:Nat→Prop} {w w':World} (h:Fr W w w') {a:Addr} {v:Value} (c:w.cell? a=some v) (d:¬W a.block):w'.cell? a=some v:=
 (World.cell?_of_block (h.block a.block (World.block_lt_of_cell? w a c) d)).trans c
theorem Fr.obj {W:Nat→Prop} {w w':World} (h:Fr W w w') {b:Nat} {o:Obj} (c:w.heap[b]? =some o) (d:¬W b):w'.heap[b]? =some o:=
 (h.block b (Array.getElem?_eq_some_iff.1 c).1 d).trans c
theorem yu {w:World} {b:Nat} {o:Obj} (h:w.heap[b]? =some o):b<w.heap.size:=(Array.getElem?_eq_some_iff.1 h).1
def yP (w:World) (v:Value) (n:Nat) (cs:List Value):Prop:=
 (v=.slice none 0 0∧n=0∧cs=[])∨
 ∃b off cap,v=.slice (some ⟨b,off,none⟩) n cap∧n≤cap∧cap≤maxLen∧(∀j u,cs[j]? =some u→w.cell? ⟨b,off+j,none⟩=some u)∧b<w.heap.size
theorem yP.keep {w w':World} {v:Value} {n:Nat} {cs:List Value} (h:yP w v n cs) {W:Nat→Prop} (f:Fr W w w') (k:∀b,v.ownBlock=some b→¬W b):yP w' v n cs:=by
 rcases h with h|⟨b,off,c,rfl,d,e,g,i⟩
 ·exact .inl h
 ·exact .inr ⟨b,off,c,rfl,d,e,λj u l=>f.cell (g j u l) (k b rfl),Nat.lt_of_lt_of_le i f.size⟩
theorem yP.lt {w:World} {v:Value} {n:Nat} {cs:List Value} (h:yP w v n cs) {b:Nat} (c:v.ownBlock=some b):b<w.heap.size:=by
 rcases h with⟨rfl,_⟩|⟨f,off,d,rfl,g,i,j,e⟩
 ·cases c
 ·simp[Value.ownBlock] at c;subst c;exact e
theorem World.ownsRow.slice {w:World} {base:Nat} {e:TypeId} {size:Nat} {v:Value} {n:Nat} {xs:List Value} (h:w.ownsRow base e size v n xs):yP w v n xs:=by
 have k:=λg f=>h.cells (g:=g) f
 rcases h.2 with⟨rfl,rfl⟩|⟨g,d,i,rfl,q,f,p,m,r,s⟩
 ·exact .inl ⟨rfl,rfl,List.eq_nil_of_length_eq_zero (by simpa using h.1)⟩
 ·refine .inr ⟨g,0,d,rfl,p,m,λj u l=>?_,yu f⟩
  have:=k g rfl j u l
  have c:(⟨g,0,none⟩:Addr).add j=⟨g,j,none⟩:=by unfold Addr.add;split<;>simp_all
  rw[c] at this
  simpa using this
def xG (w:World) (v:Value) (n:Nat) (cs:List Value):Prop:=
 yP w v n cs∨∃a cap,v=.slice (some a) 0 cap∧n=0∧cs=[]∧cap≤maxLen
theorem yP.arg {w:World} {v:Value} {n:Nat} {cs:List Value} (h:yP w v n cs):xG w v n cs:=.inl h
theorem xG.keep {w w':World} {v:Value} {n:Nat} {cs:List Value} (h:xG w v n cs) (f:Fr No w w'):xG w' v n cs:=h.imp (λh=>h.keep f (λ_ _=>id)) id
theorem yP.len {w:World} {v:Value} {n:Nat} {cs:List Value} (h:yP w v n cs):n≤maxLen:=by
 rcases h with⟨_,rfl,_⟩|⟨_,_,_,_,c,d,_⟩
 ·exact Nat.zero_le _
 ·exact Nat.le_trans c d
theorem xG.len {w:World} {v:Value} {n:Nat} {cs:List Value} (h:xG w v n cs):n≤maxLen:=by
 rcases h with h|⟨_,_,_,rfl,_⟩
 ·exact h.len
 ·exact Nat.zero_le _
theorem xG.form {w:World} {v:Value} {n:Nat} {cs:List Value} (h:xG w v n cs):∃a c,v=.slice a n c:=by
 rcases h with(⟨rfl,rfl,_⟩|⟨_,_,_,rfl,_⟩)|⟨_,_,rfl,rfl,_⟩
 ·exact⟨none,0,rfl⟩
 ·exact⟨_,_,rfl⟩
 ·exact⟨_,_,rfl⟩
def zu (x:Int):Value:=.int .u8 x
def kv (es:Array MapEntry):List (Value×Value):=es.toList.map λe=>(e.key,e.val)
def xf (P:Program) (kt:TypeId) (w:World) (b:Nat) (L:List (Value×Value)):Prop:=
 ∃es clk,w.heap[b]? =some (.map es clk)∧Stamped es clk∧es.size≤maxLen∧kv es=L∧∀e∈es.toList,∃l,keyOf P kt e.key=some l
section
variable {P:Program} {kt et t:TypeId} {w:World} {b:Nat} {L:List (Value×Value)}
theorem xf.lt (h:xf P kt w b L):b<w.heap.size:=by obtain⟨es,c,d,_⟩:=h;exact yu d
theorem xf.keep {w':World} {W:Nat→Prop} (h:xf P kt w b L) (f:Fr W w w') (e:¬W b):xf P kt w' b L:=by
 obtain⟨es,c,d,r⟩:=h
 exact⟨es,c,f.obj d e,r⟩
theorem xf.made (w:World):xf P kt (w.alloc (.map #[] 0)) w.heap.size []:=
 ⟨#[],0,(MapKept.heap_alloc w _).1,stamped_empty 0,by simp,rfl,by simp⟩
theorem xf.nodup (h:xf P kt w b L):(L.map (·.1)).Nodup:=by
 obtain⟨es,c,e,d,g,rfl,f⟩:=h
 simpa[kv,Function.comp_def] using d.2.2
theorem zaH {es:Array MapEntry} {e:MapEntry} (h:e∈es.toList):(e.key,e.val)∈kv es:=List.mem_map.2 ⟨e,h,rfl⟩
inductive zdj (L:List (Value×Value)) (key:Value):Option Value→Prop where
 |hit {v:Value} (h:(key,v)∈L):zdj L key (some v)
 |miss (h:∀p∈L,p.1≠key):zdj L key none
theorem xf.lookup (K:Keyed P kt) (G:P.underlying t=some (.map kt et)) {z:Value} (Q:∀w,(zeroValue et).run P w=.ok z w) (h:xf P kt w b L) {g:Value} (N:∃l,keyOf P kt g=some l) (c:Bool) {r:Option Value} (F:zdj L g r):
  (Instr.lookup t (.map (some b)) g c).run P w=.ok (if c then .tuple #[r.getD z,.bool r.isSome] else r.getD z) w:=by
 obtain⟨es,H,E,O,R,rfl,s⟩:=h
 obtain⟨l,u⟩:=N
 rcases K.find w u es.toList s with⟨n,i⟩|⟨j,e,n,i,D⟩
 ·cases F with
  |hit hv=>
   obtain⟨e,M,d⟩:=List.mem_map.1 hv
   exact absurd (congrArg Prod.fst d) (i e M)
  |miss _=>simp[Instr.lookup,run_underlying G,MapKept.run_getObj_map E,K.check w _ u,n,Q,Result.andThen]
 ·have y:e∈es.toList:=List.mem_of_getElem? i
  cases F with
  |miss hno=>exact absurd D (hno _ (zaH y))
  |hit hv=>
   rename_i v
   obtain⟨C,p,d⟩:=List.mem_map.1 hv
   have q:C.key=e.key:=(congrArg Prod.fst d).trans D.symm
   have:C=e:=by
    have A:=O.2.2
    obtain⟨k,f⟩:=List.mem_iff_getElem?.1 p
    have m:(es.toList.map (·.key))[k]? =some e.key:=by rw[List.getElem?_map,f];simp[q]
    have I:(es.toList.map (·.key))[j]? =some e.key:=by rw[List.getElem?_map,i];rfl
    have x:k<(es.toList.map (·.key)).length:=by
     rcases Nat.lt_or_ge k (es.toList.map (·.key)).length with h'|h'
     ·exact h'
     ·rw[List.getElem?_eq_none h'] at m;cases m
    have:k=j:=(List.getElem?_inj x A).1 (m.trans I.symm)
    rw[this] at f
    rw[i] at f
    exact(Option.some.inj f).symm
   have B:v=e.val:=by rw[←this];exact(congrArg Prod.snd d).symm
   simp[Instr.lookup,run_underlying G,MapKept.run_getObj_map E,K.check w _ u,n,Result.andThen,B]
structure jq (b:Nat) (w w':World):Prop where
 os:w'.os=w.os
 tape:w'.tape=w.tape
 output:w'.output=w.output
 size:w'.heap.size=w.heap.size
 block:∀k,k≠b→w'.heap[k]? =w.heap[k]?
theorem jq.fr {w':World} (h:jq b w w'):Fr (· =b) w w':=⟨h.os,h.tape,h.output,by rw[h.size];exact Nat.le_refl _,λk _ c=>h.block k c⟩
theorem vY (w:World) (b:Nat) (o:Obj):jq b w {w with heap:=w.heap.setIfInBounds b o}:=
 ⟨rfl,rfl,rfl,by simp,λk c=>by simp[Array.getElem?_setIfInBounds_ne (Ne.symm c)]⟩
theorem qe {w:World} {b:Nat} {o c:Obj} (d:w.heap[b]? =some o):({w with heap:=w.heap.setIfInBounds b c}:World).heap[b]? =some c:=(heap_set d).1
theorem YU (K:Keyed P kt) (w:World) {es:Array MapEntry} {i:Nat} (E:Stamped es i) (p:∀e∈es.toList,∃l,keyOf P kt e.key=some l) {c:Value} {l:Lit} (C:keyOf P kt c=some l) {f x:List (Value×Value)} {h:Value} (m:kv es=f++(c,h)::x):
  ∃e,(Instr.findKey kt c es.toList).run P w=.ok (some (f.length,e.val)) w∧es[f.length]? =some e∧e.key=c∧e.val=h:=by
 rcases K.find w C es.toList p with⟨u,g⟩|⟨j,e,u,g,v⟩
 ·have D:(c,h)∈kv es:=by rw[m];simp
  obtain⟨e,A,n⟩:=List.mem_map.1 D
  exact absurd (congrArg Prod.fst n) (g e A)
 ·have k:((kv es).map (·.1))[j]? =some c:=by
   have d:es.toList[j]? =some e:=g
   rw[List.getElem?_map,kv,List.getElem?_map,d];simp[v]
  have y:((kv es).map (·.1))[f.length]? =some c:=by rw[m];simp
  have r:((kv es).map (·.1)).Nodup:=by simpa[kv,Function.comp_def] using E.2.2
  have q:j<((kv es).map (·.1)).length:=by
   rcases Nat.lt_or_ge j ((kv es).map (·.1)).length with h'|h'
   ·exact h'
   ·rw[List.getElem?_eq_none h'] at k;cases k
  have B:j=f.length:=(List.getElem?_inj q r).1 (k.trans y.symm)
  subst B
  have d:es.toList[f.length]? =some e:=g
  have s:(kv es)[f.length]? =some (c,h):=by rw[m];simp
  rw[kv,List.getElem?_map,d] at s
  have z:=Option.some.inj s
  exact⟨e,u,by simpa using d,v,congrArg Prod.snd z⟩
theorem zag {es:Array MapEntry} {i:Nat} {e:MapEntry} (k:es[i]? =some e) (f:MapEntry→MapEntry) {c d:List (Value×Value)} {p:Value×Value} (h:kv es=c++p::d) (hi:i=c.length):
  kv (es.modify i f)=c++((f e).key,(f e).val)::d:=by
 subst hi
 apply List.ext_getElem?
 intro j
 have g:=congrArg (λl=>l[j]?) h
 simp only[kv,List.getElem?_map,Array.getElem?_toList,Array.getElem?_modify] at g⊢
 by_cases hji:c.length=j
 ·subst hji
  simp[k]
 ·rw[if_neg hji,g]
  rcases Nat.lt_or_ge j c.length with h'|h'
  ·rw[List.getElem?_append_left h',List.getElem?_append_left h']
  ·rw[List.getElem?_append_right h',List.getElem?_append_right h']
   obtain⟨m,n⟩:∃m,j-c.length=m+1:=⟨j-c.length-1,by omega⟩
   rw[n]
   simp
theorem xf.update_hit (K:Keyed P kt) (B:P.underlying t=some (.map kt et)) {n q:List (Value×Value)} {key C:Value} (h:xf P kt w b (n++(key,C)::q)) (z:∃l,keyOf P kt key=some l) (v:Value):
  ∃w',(Instr.mapUpdate t (.map (some b)) key v).run P w=.ok () w'∧xf P kt w' b (n++(key,v)::q)∧jq b w w':=by
 obtain⟨es,d,p,x,A,u,g⟩:=h
 obtain⟨l,m⟩:=z
 obtain⟨e,y,k,s,D⟩:=YU K w x g m u
 have i:(Instr.mapUpdate t (.map (some b)) key v).run P w=.ok () {w with heap:=w.heap.setIfInBounds b (.map (es.modify n.length λe=>{e with key:=key,val:=v}) d)}:=by
  simp[Instr.mapUpdate,run_underlying B,MapKept.run_getObj_map p,K.check w false m,y,k,s,K.stays w m,MapKept.run_setObj_map _ p,Result.andThen]
 refine⟨_,i,⟨_,d,qe p,stamped_modify x _ _ (λ_ _=>rfl) (λr _ c=>?_),by simpa using A,?_,?_⟩,vY _ _ _⟩
 ·rw[k] at c;cases c;exact s.symm
 ·rw[zag k _ u rfl]
 ·intro r c
  obtain⟨j,f⟩:=List.mem_iff_getElem?.1 c
  rw[Array.getElem?_toList,Array.getElem?_modify] at f
  split at f
  ·rename_i hij
   subst hij
   rw[k] at f
   cases f
   exact⟨l,m⟩
  ·exact g r (List.mem_of_getElem? (by simpa using f))
theorem xf.update_miss (K:Keyed P kt) (y:P.underlying t=some (.map kt et)) (h:xf P kt w b L) {key:Value} (u:∃l,keyOf P kt key=some l) (q:∀p∈L,p.1≠key) (c:L.length<maxLen) (v:Value):
  ∃w',(Instr.mapUpdate t (.map (some b)) key v).run P w=.ok () w'∧xf P kt w' b (L++[(key,v)])∧jq b w w':=by
 obtain⟨es,d,m,x,z,rfl,f⟩:=h
 obtain⟨l,n⟩:=u
 rcases K.find w n es.toList f with⟨r,k⟩|⟨j,e,r,k,s⟩
 ·have g:(Instr.mapUpdate t (.map (some b)) key v).run P w=.ok () {w with heap:=w.heap.setIfInBounds b (.map (es.push {key,val:=v,born:=d}) (d+1))}:=by
   simp[Instr.mapUpdate,run_underlying y,MapKept.run_getObj_map m,K.check w false n,r,MapKept.run_setObj_map _ m,Result.andThen]
  refine⟨_,g,⟨_,_,qe m,stamped_push x k,?_,by simp[kv],?_⟩,vY _ _ _⟩
  ·simp[kv] at c⊢;omega
  ·intro e i
   simp only[Array.toList_push,List.mem_append,List.mem_singleton] at i
   rcases i with i|rfl
   ·exact f e i
   ·exact⟨l,n⟩
 ·exact absurd s (q _ (zaH (List.mem_of_getElem? k)))
theorem YJ {α β:Type} (f:α→β):∀(l:List α) (i:Nat),(l.eraseIdx i).map f=(l.map f).eraseIdx i
 |[],_=>rfl
 |_::_,0=>rfl
 |x::l,i+1=>by simp[YJ f l i]
theorem zbz {es:Array MapEntry} {c e:List (Value×Value)} {p:Value×Value} (f:kv es=c++p::e):kv (es.eraseIdxIfInBounds c.length)=c++e:=by
 have d:c.length<es.size:=by
  have:=congrArg List.length f
  simp[kv] at this
  omega
 unfold kv Array.eraseIdxIfInBounds
 rw[dif_pos d,Array.toList_eraseIdx]
 rw[YJ]
 show(kv es).eraseIdx c.length=_
 rw[f,List.eraseIdx_append_of_length_le (Nat.le_refl _)]
 simp
theorem xf.delete_hit (K:Keyed P kt) (z:P.underlying t=some (.map kt et)) {j q:List (Value×Value)} {c A:Value} (h:xf P kt w b (j++(c,A)::q)) (y:∃l,keyOf P kt c=some l) (ty:TypeId) (x:TypeId):
  ∃w',(Builtin.delete_ #[t,x] ty #[.map (some b),c]).run P w=.ok (.tuple #[]) w'∧xf P kt w' b (j++q)∧jq b w w':=by
 obtain⟨es,d,n,s,E,k,f⟩:=h
 obtain⟨l,r⟩:=y
 obtain⟨e,m,B,C,D⟩:=YU K w s f r k
 have g:(Builtin.delete_ #[t,x] ty #[.map (some b),c]).run P w=.ok (.tuple #[]) {w with heap:=w.heap.setIfInBounds b (.map (es.eraseIdxIfInBounds j.length) d)}:=by
  simp[Builtin.delete_,run_underlying z,MapKept.run_getObj_map n,K.check w _ r,m,MapKept.run_setObj_map _ n,Result.andThen]
 refine⟨_,g,⟨_,d,qe n,stamped_erase s _,?_,zbz k,?_⟩,vY _ _ _⟩
 ·have m:=congrArg List.length (zbz k)
  have v:=congrArg List.length k
  simp only[kv,List.length_map,Array.length_toList,List.length_append,List.length_cons] at m v
  omega
 ·intro u p
  have i:(es.eraseIdxIfInBounds j.length).toList.Sublist es.toList:=by
   unfold Array.eraseIdxIfInBounds
   split
   ·rw[Array.toList_eraseIdx];exact List.eraseIdx_sublist ..
   ·exact List.Sublist.refl _
  exact f u (i.subset p)
theorem xf.delete_miss (K:Keyed P kt) (y:P.underlying t=some (.map kt et)) (h:xf P kt w b L) {c:Value} (s:∃l,keyOf P kt c=some l) (k:∀p∈L,p.1≠c) (ty:TypeId) (x:TypeId):
  ∃w',(Builtin.delete_ #[t,x] ty #[.map (some b),c]).run P w=.ok (.tuple #[]) w'∧xf P kt w' b L∧jq b w w':=by
 obtain⟨es,d,i,v,u,rfl,f⟩:=h
 obtain⟨l,q⟩:=s
 rcases K.find w q es.toList f with⟨m,n⟩|⟨j,e,m,n,r⟩
 ·have g:(Builtin.delete_ #[t,x] ty #[.map (some b),c]).run P w=.ok (.tuple #[]) {w with heap:=w.heap.setIfInBounds b (.map es d)}:=by
   simp[Builtin.delete_,run_underlying y,MapKept.run_getObj_map i,K.check w _ q,m,MapKept.run_setObj_map _ i,Result.andThen]
  exact⟨_,g,⟨es,d,qe i,v,u,rfl,f⟩,vY _ _ _⟩
 ·exact absurd r (k _ (zaH (List.mem_of_getElem? n)))
def Entry (P:Program) (kt:TypeId) (w:World) (b:Nat) (L1:List (Value×Value)) (key:Value) (L2:List (Value×Value)) (stamp:Int):Prop:=
 ∃es clk e,w.heap[b]? =some (.map es clk)∧Stamped es clk∧es.size≤maxLen∧(∃v,kv es=L1++(key,v)::L2)∧(∀e∈es.toList,∃l,keyOf P kt e.key=some l)∧es[L1.length]? =some e∧stamp=(e.born:Int)
theorem Entry.keep {w':World} {W:Nat→Prop} {g i:List (Value×Value)} {c:Value} {s:Int} (h:Entry P kt w b g c i s) (f:Fr W w w') (k:¬W b):Entry P kt w' b g c i s:=by
 obtain⟨es,d,e,j,r⟩:=h
 exact⟨es,d,e,f.obj j k,r⟩
theorem Entry.store {d z:List (Value×Value)} {f:Value} {s:Int} (h:Entry P kt w b d f z s) (t:TypeId) (v:Value):
  ∃w',(Instr.entryStore t (.map (some b)) (.int .i64 s) v).run P w=.ok () w'∧xf P kt w' b (d++(f,v)::z)∧jq b w w':=by
 obtain⟨es,m,e,u,C,G,⟨I,B⟩,q,g,rfl⟩:=h
 have l:d.length<es.size:=(Array.getElem?_eq_some_iff.1 g).1
 have i:es.findIdx? (λx=>(x.born:Int)==(e.born:Int))=some d.length:=by
  rw[Array.findIdx?_eq_some_iff_getElem]
  have c:es.toList[d.length]? =some e:=by simpa using g
  refine⟨l,?_,λj k=>?_⟩
  ·have:es[d.length]=e:=by rw[Array.getElem?_eq_getElem l] at g;exact Option.some.inj g
   rw[this];simp
  ·have n:j<es.size:=Nat.lt_trans k l
   have H:es[j].born≠e.born:=λy=>by
    have E:(es.toList.map (·.born))[j]? =some e.born:=by rw[List.getElem?_map,List.getElem?_eq_getElem (by simpa using n)];simp[y]
    have F:(es.toList.map (·.born))[d.length]? =some e.born:=by rw[List.getElem?_map,c];rfl
    have:=(List.getElem?_inj (by simpa using n) C.2.1).1 (E.trans F.symm)
    omega
   simp only[beq_iff_eq];omega
 have p:e.key=f:=by
  have A:(kv es)[d.length]? =some (f,I):=by rw[B];simp
  have c:es.toList[d.length]? =some e:=by simpa using g
  rw[kv,List.getElem?_map,c] at A
  exact congrArg Prod.fst (Option.some.inj A)
 have r:(Instr.entryStore t (.map (some b)) (.int .i64 (e.born:Int)) v).run P w=.ok () {w with heap:=w.heap.setIfInBounds b (.map (es.modify d.length λe=>{e with val:=v}) m)}:=by
  simp[Instr.entryStore,MapKept.run_getObj_map u,asInt,asIntOf,i,MapKept.run_setObj_map _ u,Result.andThen]
 refine⟨_,r,⟨_,m,qe u,stamped_modify C _ _ (λ_ _=>rfl) (λ_ _ _=>rfl),by simpa using G,?_,?_⟩,vY _ _ _⟩
 ·rw[zag g _ B rfl];simp[p]
 ·intro D c
  obtain⟨j,k⟩:=List.mem_iff_getElem?.1 c
  rw[Array.getElem?_toList,Array.getElem?_modify] at k
  split at k
  ·rename_i hij
   subst hij
   rw[g] at k
   cases k
   exact q e (List.mem_of_getElem? (by simpa using g))
  ·exact q D (List.mem_of_getElem? (by simpa using k))
theorem xf.lenRun (f:P.underlying t=some (.map kt et)) (h:xf P kt w b L) (ty:TypeId):(Builtin.len_ #[t] ty #[.map (some b)]).run P w=.ok (.int .i64 (L.length:Int)) w:=by
 obtain⟨es,c,d,i,g,rfl,e⟩:=h
 simp[Builtin.len_,run_underlying f,MapKept.run_getObj_map d,Result.andThen,goInt,kv]
end
section
variable {P:Program}
theorem mapM_some {α β:Type} {f:α→Option β}:∀ {l:List α},(∀x∈l,∃y,f x=some y)→∃d,l.mapM f=some d
 |[],_=>⟨[],rfl⟩
 |x::l,h=>by
  obtain⟨y,e⟩:=h x (by simp)
  obtain⟨d,c⟩:=mapM_some (l:=l) (λz g=>h z (by simp[g]))
  exact⟨y::d,by simp[List.mapM_cons,e,c]⟩
theorem YV {t:TypeId} {q:IntKind} (c:P.underlying t=some (.int q)) (d:Nat) {n:Int} (e:(Lit.int q n).wf=true):P.keyLits (d+1) t [.int q n]=some [.int q n]:=by
 simp[Program.keyLits,c,e]
theorem Y8 {t e:TypeId} {q:IntKind} {n:Nat} (m:P.underlying t=some (.array n e)) (j:P.cellsOf t=n) (k:P.cellsOf e=1) (f:P.underlying e=some (.int q)) (d:Nat) (xs:List Int) (h:xs.length=n)
  (p:∀x∈xs,(Lit.int q x).wf=true):∃l,P.keyLits (d+2) t (xs.map (Value.int q))=some l:=by
 unfold Program.keyLits
 simp only[m,j,k,List.length_map,h,if_true]
 obtain⟨g,hys⟩:∃g,(List.range n).mapM (λi=>P.keyLits (d+1) e (((xs.map (Value.int q)).drop (i*1)).take 1))=some g:=by
  refine mapM_some λi hi=>?_
  have c:i<xs.length:=by rw[h];exact List.mem_range.1 hi
  refine⟨[.int q xs[i]],?_⟩
  rw[Nat.mul_one,←List.map_drop,←List.map_take,List.drop_eq_getElem_cons c]
  exact YV f d (p _ (List.getElem_mem c))
 exact⟨g.flatten,by rw[hys];rfl⟩
def qM (P:Program) (k:TypeId):List (TypeId×Nat×Bool):=
 match P.underlying k with
 |some (.struct fs)=>fs.toList.map λf=>(f.type,f.offset,f.name != "_")
 |_=>[]
theorem Zx {k:TypeId} {e:List (TypeId×Nat×Bool)} (c:qM P k=e) (h:e≠[]) (j:e.all (·.2.2)=true) (g:P.keyType k=true) {cs:List Value} (m:P.cellsOf k=cs.length)
  (n:∀x∈e,∃l,P.keyLits P.types.size x.1 ((cs.drop x.2.1).take (P.cellsOf x.1))=some l):∃l,keyOf P k (.agg cs.toArray)=some l:=by
 unfold qM at c
 split at c
 ·rename_i fs hu
  subst c
  obtain⟨i,hys⟩:∃i,fs.toList.mapM (λf=>P.keyLits P.types.size f.type ((cs.drop f.offset).take (P.cellsOf f.type)))=some i:=
   mapM_some λf p=>n (f.type,f.offset,f.name != "_") (List.mem_map.2 ⟨f,p,rfl⟩)
  have d:fs.all (·.name != "_")=true:=by
   rw[←Array.all_toList]
   rw[List.all_map] at j
   exact j
  refine⟨.string (keyBytes i.flatten),?_⟩
  unfold keyOf
  rw[hu]
  simp only[g,Value.formed,hu,List.size_toArray,m,beq_self_eq_true,Bool.and_self,if_true,Value.cells]
  unfold Program.keyLits
  simp only[hu,m,d,and_self,if_true,hys]
  rfl
 ·exact absurd c.symm h
theorem zby {k e:TypeId} {q:IntKind} {n:Nat} (f:P.underlying k=some (.array n e)) (c:P.keyType k=true) (i:P.cellsOf k=n) (p:P.cellsOf e=1) (g:P.underlying e=some (.int q)) (r:1≤P.types.size) (xs:List Int) (j:xs.length=n)
  (s:∀x∈xs,(Lit.int q x).wf=true):∃l,keyOf P k (.agg (xs.map (Value.int q)).toArray)=some l:=by
 obtain⟨d,m⟩:∃d,P.types.size=d+1:=⟨P.types.size-1,by omega⟩
 obtain⟨l,h⟩:=Y8 f i p g d xs j s
 refine⟨.string (keyBytes l),?_⟩
 unfold keyOf
 rw[f]
 simp only[c,Value.formed,f,List.size_toArray,i,List.length_map,j,beq_self_eq_true,Bool.and_self,if_true,Value.cells,m,h]
 rfl
end
theorem qZ {w:World} {b:Nat} {c:Array Value} {T:TypeId} (h:w.heap[b]? =some (.cells c T (0,0))) (o:Nat):w.frozen? ⟨b,o,none⟩=false:=by simp[World.frozen?,h]
theorem Qg {w:World} {b:Nat} {x:Value} {T:TypeId} (h:w.heap[b]? =some (.cells #[x] T (0,0))):w.cell? ⟨b,0,none⟩=some x∧w.frozen? ⟨b,0,none⟩=false:=by simp[World.cell?,World.frozen?,h]
theorem Qh {w:World} {b:Nat} {x y:Value} {T:TypeId} (h:w.heap[b]? =some (.cells #[x,y] T (0,0))):
  w.cell? ⟨b,0,none⟩=some x∧w.cell? ⟨b,1,none⟩=some y∧w.frozen? ⟨b,0,none⟩=false∧w.frozen? ⟨b,1,none⟩=false:=by simp[World.cell?,World.frozen?,h]
theorem zS (w:World) (o:Obj):(w.alloc o).heap[w.heap.size]? =some o:=(MapKept.heap_alloc w o).1
theorem xK (w:World) (o:Obj) {n:Nat} (h:n=w.heap.size):(w.alloc o).heap[n]? =some o:=by subst h;exact zS w o
theorem jC {w:World} {b:Nat} {o:Obj} (h:w.heap[b]? =some o) (c:Obj):(w.alloc c).heap[b]? =some o:=(Below.heap_alloc w c b (yu h)).trans h
section
variable {P:Program} {o:Oper} {a:Act} {w w':World}
theorem zQ {K:Act→World→Prop} {Q:Exit→Act→World→Prop} {s x:Operand} {f:Array TypeId} {e g v:Value}
  (d:o.op=.call {callee:=.builtin .append,args:= #[s,x],argTypes:=f}) (j:a.eval s=e) (k:a.eval x=g)
  (c:(Builtin.append_ f o.type #[e,g]).run P w=.ok v w') (h:K (a.put o.dst v) w'):o.wp P a w K Q:=by
 unfold Oper.wp
 have i:(execOp a.eval o).run P w=.ok (.value v) w':=by
  simp[execOp,d,resolve,j,k,invoke,builtin,c,Result.andThen]
 rw[i]
 exact h
variable {ops:Array Oper} {rest:List Oper}
theorem zk {Q:Exit→Act→World→Prop} {s x:Operand} {f:Array TypeId} {e g v:Value} (i:o.guard=none)
  (d:o.op=.call {callee:=.builtin .append,args:= #[s,x],argTypes:=f}) (j:a.eval s=e) (k:a.eval x=g)
  (c:(Builtin.append_ f o.type #[e,g]).run P w=.ok v w') (h:wpList P ops Q rest (a.put o.dst v) w'):wpList P ops Q (o::rest) a w:=by
 refine wpList_plain i λK' hK'=>?_
 exact zQ d j k c (hK' _ _ h)
end
end Go
namespace Go
open Go.RowKit Go.Maps Go.MapKept
theorem Fr.of_grown {W:Nat→Prop} {w w':World} {a:Option Nat} (b:w.grownBy w' a) (c:∀k,a=some k→w.heap.size≤k∨W k):Fr W w w':=(Fr.refl W w).grown b c
theorem Jp (b off j:Nat):(⟨b,off,none⟩:Addr).add j=⟨b,off+j,none⟩:=by unfold Addr.add;split<;>simp_all
theorem VX {P:Program} (w:World) (base:Nat) (t ty e:TypeId) (size bytes:Nat) (z:Value) (F:P.underlying t=some (.slice e)) (i:TypeInfo) (hi:P.info? e=some i) (O:i.zero=some z) (r:i.size=size) (I:i.bytes=bytes) (E:z.cells.size=size) (D:0<size)
  (v:Value) (n:Nat) (xs:List Value) (c:w.ownsRow base e size v n xs) (q:Addr) (m f:Nat) (news:List Value) (b:∀j u,news[j]? =some u→w.cell? (q.add j)=some u) (C:news.length=m*size) (H:∀u∈news,u.oneCell'=true)
  (a:(n+m)*bytes≤140737488355328) (h:n+m≤maxLen) (l:base≤w.heap.size):
  ∃s w',(Builtin.append_ #[t,t] ty #[v,.slice (some q) m f]).run P w=.ok s w'∧w'.ownsRow base e size s (n+m) (xs++news)∧w.grownBy w' v.ownBlock∧(s=.slice none 0 0↔v=.slice none 0 0∧m=0)∧(∀k,s.ownBlock=some k→v.ownBlock=some k∨w.heap.size≤k):=by
 obtain⟨s,w',d,V,W,X⟩:=run_append_own (P:=P) w base t ty e i z size bytes F hi O r I E D v n xs c q m f news C b H h a l
 refine⟨s,w',d,V,W,X,?_⟩
 rcases c.2 with⟨rfl,rfl⟩|⟨g,G,x,rfl,Q,S,T,R,K,M⟩
 ·have N:xs=[]:=List.eq_nil_of_length_eq_zero (by simpa using c.1)
  subst N
  obtain⟨Y,Z,p,U,_,_⟩:=run_append_own (P:=P) w w.heap.size t ty e i z size bytes F hi O r I E D (.slice none 0 0) 0 [] (World.ownsRow_nil _ _ _ _) q m f news C b H h a (Nat.le_refl _)
  have y:=d.symm.trans p
  injection y with e2 e3
  subst e2
  exact λk B=>.inr (U.lt k B).1
 ·by_cases hroom:n+m≤G
  ·have A:n*i.size+news.length≤x.size:=by rw[C,K,r,←Nat.add_mul];exact Nat.mul_le_mul_right _ hroom
   have L:=run_append_room (P:=P) w t ty e i F hi g n G x S q m f news (by rw[r];exact C) b H hroom A
   have y:=d.symm.trans L
   injection y with e2 e3
   subst e2
   exact λk B=>.inl B
  ·have o:∀j u,xs[j]? =some u→w.cell? ((⟨g,0,none⟩:Addr).add j)=some u:=c.cells (g:=g) rfl
   have L:=run_append_grow (P:=P) w t ty e i z F hi O ⟨g,0,none⟩ n G xs (by rw[r];exact c.1) o q m f news (by rw[r];exact C) b (by omega) (by simp only[maxLen] at h;omega) (growslice_fits (by omega) (by rw[I];exact a))
   have y:=d.symm.trans L
   injection y with e2 e3
   subst e2
   intro k B
   simp[Value.ownBlock] at B
   exact .inr (by omega)
theorem Jq {P:Program} (w:World) (base:Nat) (t ty e:TypeId) (size bytes:Nat) (z:Value) (C:P.underlying t=some (.slice e)) (g:(P.info? e).map (λi=>(i.zero,i.size,i.bytes))=some (some z,size,bytes)) (p:z.cells.size=size) (o:0<size)
  (v:Value) (n:Nat) (xs:List Value) (d:w.ownsRow base e size v n xs) (x:Value) (m:Nat) (news:List Value) (G:xG w x m news) (A:news.length=m*size) (s:∀u∈news,u.oneCell'=true)
  (a:(n+m)*bytes≤140737488355328) (h:n+m≤maxLen) (c:base≤w.heap.size) (l:x≠.slice none 0 0):
  ∃q w',(Builtin.append_ #[t,t] ty #[v,x]).run P w=.ok q w'∧w'.ownsRow base e size q (n+m) (xs++news)∧w.grownBy w' v.ownBlock∧(q=.slice none 0 0↔v=.slice none 0 0∧m=0)∧(∀k,q.ownBlock=some k→v.ownBlock=some k∨w.heap.size≤k):=by
 obtain⟨i,hi,D,B,y⟩:=info_parts g
 rcases G with(⟨rfl,_⟩|⟨b,off,f,rfl,H,E,F,I⟩)|⟨a0,f,rfl,rfl,rfl,E⟩
 ·exact absurd rfl l
 ·exact VX w base t ty e size bytes z C i hi D B y p o v n xs d ⟨b,off,none⟩ m f news (λj u r=>by rw[Jp];exact F j u r) A s a h c
 ·exact VX w base t ty e size bytes z C i hi D B y p o v n xs d a0 0 f [] (λj u r=>by simp at r) A s a h c
theorem yw {P:Program} (w:World) (B:Nat) (t ty e:TypeId) (size bytes:Nat) (z:Value) (C:P.underlying t=some (.slice e)) (b:(P.info? e).map (λi=>(i.zero,i.size,i.bytes))=some (some z,size,bytes)) (o:z.cells.size=size) (m:0<size)
  {v:Value} {n:Nat} {xs:List Value} (f:w.ownsRow B e size v n xs) (news:List Value) (E:news.length=size) (p:∀u∈news,u.oneCell'=true)
  (a:(n+1)*bytes≤140737488355328) (g:n+1≤maxLen) (h:B≤w.heap.size):
  ∃c w',(Builtin.append_ #[t,t] ty #[v,.slice (some ⟨w.heap.size,0,none⟩) 1 1]).run P (w.alloc (.cells news.toArray e))=.ok c w'∧w'.ownsRow B e size c (n+1) (xs++news)∧Fr (λj=>v.ownBlock=some j) w w'∧
   (c≠.slice none 0 0)∧(∀k,c.ownBlock=some k→v.ownBlock=some k∨w.heap.size≤k):=by
 have D:yP (w.alloc (.cells news.toArray e)) (.slice (some ⟨w.heap.size,0,none⟩) 1 1) 1 news:=
  .inr ⟨w.heap.size,0,1,rfl,Nat.le_refl _,by unfold maxLen;omega,λj u s=>by
   have q:=zS w (.cells news.toArray e)
   simp only[World.cell?,q]
   simpa using s,by simp⟩
 obtain⟨c,w',d,A,r,y,l⟩:=Jq (P:=P) (w.alloc (.cells news.toArray e)) B t ty e size bytes z C b o m v n xs (f.alloc _) _ 1 news D.arg (by omega) p a g (by simp;omega) (by simp)
 refine⟨c,w',d,A,((Fr.refl _ w).alloc _).grown r (λk e=>.inr e),λe=>by simpa using(y.1 e).2,λk x=>(l k x).imp id (λe=>by simp at e;omega)⟩
end Go
namespace Go
open Go.RowKit
abbrev ff:=false
abbrev tt:=true
end Go
namespace Go
open Go.RowKit
theorem pA {α:Type _} {xs:List α} {i:Nat} {a:α}:xs.toArray.setIfInBounds i a=(xs.set i a).toArray:=List.setIfInBounds_toArray ..
theorem pB {α:Type _} {x:α} {xs:List α} {a:α}:(x::xs).set 0 a=a::xs:=List.set_cons_zero
theorem pC {α:Type _} {x:α} {xs:List α} {n:Nat} {a:α}:(x::xs).set (n+1) a=x::xs.set n a:=List.set_cons_succ
end Go
namespace Go
open Go.RowKit
theorem RowKit.Hid.o {p:Prop} (h:Hid p):p:=h
theorem J {p:Prop} (h:p):Hid p:=h
theorem tru:Hid True:=True.intro
abbrev HTr:=Hid True
theorem tZ2:HTr∧HTr:=⟨tru,tru⟩
theorem tZ3:HTr∧HTr∧HTr:=⟨tru,tZ2⟩
theorem tZ4:HTr∧HTr∧HTr∧HTr:=⟨tru,tZ3⟩
theorem tZ5:HTr∧HTr∧HTr∧HTr∧HTr:=⟨tru,tZ4⟩
theorem tZ6:HTr∧HTr∧HTr∧HTr∧HTr∧HTr:=⟨tru,tZ5⟩
theorem tZ7:HTr∧HTr∧HTr∧HTr∧HTr∧HTr∧HTr:=⟨tru,tZ6⟩
theorem tZ8:HTr∧HTr∧HTr∧HTr∧HTr∧HTr∧HTr∧HTr:=⟨tru,tZ7⟩
theorem tZ11:HTr∧HTr∧HTr∧HTr∧HTr∧HTr∧HTr∧HTr∧HTr∧HTr∧HTr:=⟨tru,tru,tru,tru,tru,tru,tru,tru,tru,tru,tru⟩
theorem tZ14:HTr∧HTr∧HTr∧HTr∧HTr∧HTr∧HTr∧HTr∧HTr∧HTr∧HTr∧HTr∧HTr∧HTr:=⟨tru,tru,tru,tru,tru,tru,tru,tru,tru,tru,tru,tru,tru,tru⟩
end Go
namespace Go
section
variable {P:Program} {ops:Array Oper} {S:World→Prop}
def NoQ:Exit→Act→World→Prop:=λ_ _ _=>False
def ZV (ops:Array Oper) (dst:Option Tmp) (a a':Act):Prop:=
 ∀o:Oper,(∀cs b,o.op≠.select cs b)→(∀d,dst=some d→d∉o.looksAt ops)→
  execOp a'.eval o=execOp a.eval o∧Region.wanted o (yielded ops a'.tmps)=Region.wanted o (yielded ops a.tmps)
theorem ZV.put (a:Act) (dst:Option Tmp) (v:Value):ZV ops dst a (a.put dst v):=
 λo c h=>⟨execOp_put o c a dst v h,wanted_put o a dst v h⟩
theorem zdx {o:Oper} {a:Act} {w:World} {K:Act→World→Prop} (h:o.wp P a w K NoQ):
  o.wp P a w (λk w'=>K k w'∧ZV ops o.dst a k) NoQ:=by
 unfold Oper.wp at*
 generalize (execOp a.eval o).run P w=r at*
 cases r with
 |ok n w'=>
  cases n<;>simp only[Oper.upon] at h⊢
  case value u=>exact⟨h,ZV.put _ _ _⟩
  case skip=>exact⟨h,ZV.put _ _ _⟩
  case defer d=>exact⟨h,λm p l=>by exact⟨(execOp_put m p _ o.dst undef l).trans rfl,(wanted_put m _ o.dst undef l).trans rfl⟩⟩
  case enter f args=>
   refine Calls.mono h λe i g=>?_
   cases e with
   |returned u=>exact⟨g,ZV.put _ _ _⟩
   |panicked c=>exact g
   |outgrown=>exact g
  case row row args=>exact Rows.mono h λu i g=>⟨g,ZV.put _ _ _⟩
 |halt x w'=>cases x<;>simp only[Oper.upon] at h⊢ <;>exact h
theorem zbD {o:Oper} {a:Act} {w:World} {K:Act→World→Prop} (h:o.wp P a w K NoQ):∃k w',K k w':=by
 unfold Oper.wp at*
 generalize (execOp a.eval o).run P w=r at*
 cases r with
 |ok n w'=>
  cases n<;>simp only[Oper.upon] at h
  case value u=>exact⟨_,_,h⟩
  case skip=>exact⟨_,_,h⟩
  case defer d=>exact⟨_,_,h⟩
  case enter f args=>
   obtain⟨e,i,fr,g,_⟩:=h []
   cases e with
   |returned u=>exact⟨_,_,g⟩
   |panicked c=>exact g.elim
   |outgrown=>obtain⟨_,_,l⟩:=g;exact l.elim
  case row row args=>
   obtain⟨v,i,g,_⟩:=h default []
   exact⟨_,_,g⟩
 |halt x w'=>cases x<;>simp only[Oper.upon] at h<;>exact h.elim
theorem zdw {l g:Oper} {v:Value} (m:l.apart ops g=true) (o:∀cs b,g.op≠.select cs b) {a:Act} {w:World} {K:Act→World→Prop}
  (h:g.wp P a w (λq w'=>K (q.put l.dst v) w') NoQ):g.wp P (a.put l.dst v) w K NoQ:=by
 obtain⟨s,i,t⟩:=Oper.apart_spec m
 unfold Oper.wp at*
 rw[execOp_put g o a l.dst v s]
 generalize (execOp a.eval g).run P w=r at*
 cases r with
 |ok n w'=>
  cases n<;>simp only[Oper.upon] at h⊢
  case value u=>rw[Act.put_comm a v u i];exact h
  case skip=>rw[Act.put_comm a v undef i];exact h
  case defer d=>rw[Act.put_defers,Act.put_comm _ v undef i];exact h
  case enter f args=>
   refine Calls.mono h λe p k=>?_
   cases e with
   |returned u=>simp only[];rw[Act.put_comm a v u i];exact k
   |panicked c=>exact k
   |outgrown=>exact k
  case row row args=>exact Rows.mono h λu p k=>by rw[Act.put_comm a v u i];exact k
 |halt x w'=>cases x<;>simp only[Oper.upon] at h⊢ <;>exact h
def Ve (P:Program) (ops:Array Oper) (eff:List Nat) (S:World→Prop) (Q:Act→World→Prop):List Nat→Act→World→Prop
 |[],a,w=>Q a w
 |i::rest,a,w=>∃o,ops[i]? =some o∧
   (if eff.contains i=true∧Region.wanted o (yielded ops a.tmps)=true then o.wp P a w (λa' w'=>S w'∧Ve P ops eff S Q rest a' w') NoQ
    else ∃v,YieldsIf P ops S o v a∧Ve P ops eff S Q rest (a.put o.dst v) w)
theorem YieldsIf.uniq {o:Oper} {v f:Value} {a:Act} {w:World} (hS:S w) (h:YieldsIf P ops S o v a) (g:YieldsIf P ops S o f a):v=f:=by
 rcases h with⟨h1,h2⟩|⟨h1,h2⟩<;>rcases g with⟨c,d⟩|⟨c,d⟩
 ·have e:=(h2 w hS).symm.trans (d w hS)
  injection e with e1 e2
  injection e1
 ·rw[h1] at c;cases c
 ·rw[h1] at c;cases c
 ·rw[h2,d]
def J5 (ops:Array Oper):Bool:=
 (List.range ops.size).all λi=>(List.range ops.size).all λj=>i==j||Region.waitsFor .any ops j i||Region.waitsFor .any ops i j||
  (match ops[i]?,ops[j]? with|some oi,some oj=>oi.apart ops oj|_,_=>true)
theorem qf (h:J5 ops=true) {i j:Nat} {e f:Oper} (hi:ops[i]? =some e) (d:ops[j]? =some f) (c:i≠j)
  (l:Region.waitsFor .any ops j i=false) (m:Region.waitsFor .any ops i j=false):e.apart ops f=true:=by
 unfold J5 at h
 have g:=List.all_eq_true.1 h i (List.mem_range.2 (Array.getElem?_eq_some_iff.1 hi).1)
 have k:=List.all_eq_true.1 g j (List.mem_range.2 (Array.getElem?_eq_some_iff.1 d).1)
 simpa[c,l,m,hi,d] using k
theorem xD {i j:Nat} {c:Oper} (f:ops[j]? =some c) (h:∀e∈c.after,Region.binds .any e=true→e.on≠i):Region.waitsFor .any ops j i=false:=by
 unfold Region.waitsFor
 rw[f]
 simp only[]
 rw[Array.any_eq_false']
 intro e d
 simp only[Bool.and_eq_true,beq_iff_eq,not_and]
 exact h e d
theorem zfp (m:∀(j:Nat) (o:Oper) cs b,ops[j]? =some o→o.op≠.select cs b) (u:J5 ops=true) {eff:List Nat} {Q:Act→World→Prop} {j:Nat} {c:Oper} (G:ops[j]? =some c):
  ∀(L:List Nat) (a:Act) (w:World),S w→j∈L→L.Nodup→(∀i∈L,Region.waitsFor .any ops j i=false)→(∀i∈L,i<j→Region.waitsFor .any ops i j=false)→
   (∀i∈L,i≠j→i<j∨True)→L.Pairwise (· < ·)→(eff.contains j=false∨Region.wanted c (yielded ops a.tmps)=false)→
   Ve P ops eff S Q L a w→∃v,YieldsIf P ops S c v a∧Ve P ops eff S Q (L.erase j) (a.put c.dst v) w:=by
 intro L
 induction L with
 |nil=>intro a w _ U;cases U
 |cons h L ih=>
  intro a w hS U V E F _ z k H
  obtain⟨g,d,H⟩:=H
  by_cases hhj:h=j
  ·subst hhj
   rw[G] at d
   cases d
   rw[if_neg (by rintro⟨e1,e2⟩;rcases k with e|e<;>simp_all)] at H
   obtain⟨v,q,A⟩:=H
   exact⟨v,q,by simpa using A⟩
  ·have y:j∈L:=by
    rcases List.mem_cons.1 U with e|e
    ·exact absurd e.symm hhj
    ·exact e
   have T:h<j:=(List.pairwise_cons.1 z).1 j y
   have p:Region.waitsFor .any ops j h=false:=E h (by simp)
   have n:Region.waitsFor .any ops h j=false:=F h (by simp) T
   have aj:c.apart ops g=true:=qf u G d (λe=>hhj e.symm) n p
   have ah:g.apart ops c=true:=qf u d G hhj p n
   obtain⟨Y,p2,p3⟩:=Oper.apart_spec aj
   have D:=λcs b=>m j c cs b G
   have C:=λcs b=>m h g cs b d
   have back:∀ {f:Act} {v:Value},ZV ops g.dst a f→YieldsIf P ops S c v f→YieldsIf P ops S c v a:=fun {f v} A q=>
    let ⟨Z,r2⟩:=A c D p3
    q.of_same Z.symm r2.symm
   have t:∀(f:Act) (w':World),S w'→ZV ops g.dst a f→Ve P ops eff S Q L f w'→∃v,YieldsIf P ops S c v f∧Ve P ops eff S Q (L.erase j) (f.put c.dst v) w':=λf w' l A O=>
    ih f w' l y (List.nodup_cons.1 V).2 (λi hi=>E i (by simp[hi])) (λi hi=>F i (by simp[hi])) (λ_ _ _=>.inr trivial) (List.pairwise_cons.1 z).2 (k.imp id (λe=>(A c D p3).2.trans e)) O
   have N:(h::L).erase j=h::L.erase j:=by rw[List.erase_cons_tail];simpa using hhj
   rw[N]
   split at H
   ·rename_i hc
    have H2:=zdx (ops:=ops) H
    obtain⟨a0,w0,⟨⟨M,R⟩,B⟩⟩:=zbD H2
    obtain⟨v,W,_⟩:=t a0 w0 M B R
    have q:=back B W
    refine⟨v,q,g,d,?_⟩
    rw[if_pos ⟨hc.1,by rw[wanted_put g a c.dst v Y];exact hc.2⟩]
    refine zdw aj C (Oper.wp_mono (λf w' ⟨⟨l,r⟩,hr'⟩=>?_) H2)
    obtain⟨v',s,x⟩:=t f w' l hr' r
    have:v'=v:=YieldsIf.uniq hS (back hr' s) q
    subst this
    exact⟨l,x⟩
   ·rename_i hc
    obtain⟨I,X,O⟩:=H
    obtain⟨v,s,r⟩:=t _ w hS (ZV.put a g.dst I) O
    have q:=back (ZV.put a g.dst I) s
    refine⟨v,q,g,d,?_⟩
    rw[if_neg (by rw[wanted_put g a c.dst v Y];exact hc)]
    obtain⟨Z,r2⟩:=ZV.put (ops:=ops) a c.dst v g C Y
    exact⟨I,X.of_same Z r2,by rw[←Act.put_comm a I v (Oper.apart_spec ah).2.1];exact r⟩
def YW (ops:Array Oper):Nat→Nat→Nat→Bool
 |0,_,_=>false
 |f+1,j,i=>(List.range ops.size).any λk=>Region.waitsFor .any ops j k && (k==i||YW ops f k i)
def jU (ops:Array Oper) (listed:Array Bool):Prop:=
 ∀j oj,ops[j]? =some oj→listed.getD j false=true→∀e∈oj.after,Region.binds .any e=true→listed.getD e.on false=true
theorem jX {listed:Array Bool} (n:jU ops listed):∀(f j i:Nat),YW ops f j i=true→
  (∀k,Region.waitsFor .any ops j k=true→listed.getD k false=true)→listed.getD i false=true
 |0,_,_,h,_=>by cases h
 |f+1,j,i,h,hd=>by
  unfold YW at h
  obtain⟨k,_,g⟩:=List.any_eq_true.1 h
  simp only[Bool.and_eq_true,Bool.or_eq_true,beq_iff_eq] at g
  have c:=hd k g.1
  rcases g.2 with e|e
  ·exact e▸c
  ·refine jX n f k i e λm q=>?_
   obtain⟨ok,hok,o,d,p,l⟩:=Region.waitsFor_spec q
   exact l▸n k ok hok c o d p
def Qc (ops:Array Oper) (eff:List Nat):Bool:=
 Region.noSelect ops && J5 ops &&
 ((List.range ops.size).all λi=>(List.range ops.size).all λj=>decide (j<i)|| !Region.waitsFor .any ops i j) &&
 ((List.range ops.size).all λj=>(ops[j]?).any λo=>o.after.all λe=> !Region.binds .any e||decide (e.on<ops.size)) &&
 (eff.all λj=>eff.all λi=>decide (j≤i)||YW ops ops.size j i)
def unl (ops:Array Oper) (listed:Array Bool):List Nat:=(List.range ops.size).filter λi=> !listed.getD i true
theorem Yi (listed:Array Bool):(unl ops listed).Pairwise (· < ·):=List.Pairwise.filter _ List.pairwise_lt_range
theorem vW {listed:Array Bool} {j:Nat} (f:listed.size=ops.size):unl ops (listed.setIfInBounds j true)=(unl ops listed).erase j:=by
 have d:(unl ops listed).Nodup:=(Yi listed).imp (λh=>Nat.ne_of_lt h)
 rw[d.erase_eq_filter]
 unfold unl
 rw[List.filter_filter]
 apply List.filter_congr
 intro i hi
 have c:=List.mem_range.1 hi
 by_cases hij:i=j
 ·subst hij
  simp[f,c]
 ·rw[getD_set_ne true (λe=>hij e.symm)]
  simp[hij]
theorem jU.set {listed:Array Bool} {j:Nat} (l:jU ops listed) (m:j∈Region.ready .any ops listed):jU ops (listed.setIfInBounds j true):=by
 obtain⟨_,n,f,c⟩:=mem_ready.1 m
 intro k ok d i e h g
 by_cases hkj:j=k
 ·subst hkj
  rw[f] at d
  cases d
  exact getD_set_true (c e h g)
 ·rw[getD_set_ne false hkj] at i
  exact getD_set_true (l k ok d i e h g)
theorem zeh {eff:List Nat} (hok:Qc ops eff=true) {Q:Exit→Act→World→Prop} (hQ:∀c a d v w,Q (.panic c) (Act.put a d v) w→Q (.panic c) a w):
  ∀(n:Nat) (listed:Array Bool) (a:Act) (w:World),listed.size=ops.size→jU ops listed→(unl ops listed).length=n→S w→
   Ve P ops eff S (Q .normal) (unl ops listed) a w→wpAnyH P .any ops Q S n listed a w:=by
 simp only[Qc,Bool.and_eq_true] at hok
 obtain⟨⟨⟨⟨ao,ad⟩,ag⟩,ak⟩,ae⟩:=hok
 have U:=Region.noSelect_spec ao
 have N:∀i j,i<ops.size→Region.waitsFor .any ops i j=true→j<i:=λi j hi hw=>by
  obtain⟨oi,q,e,C,X,ab⟩:=Region.waitsFor_spec hw
  have A:=List.all_eq_true.1 ak i (List.mem_range.2 hi)
  rw[q] at A
  have h3:=Array.all_eq_true'.1 A e C
  simp only[X,Bool.not_true,Bool.false_or,decide_eq_true_eq] at h3
  have h4:=List.all_eq_true.1 (List.all_eq_true.1 ag i (List.mem_range.2 hi)) j (List.mem_range.2 (ab▸h3))
  simpa[hw] using h4
 intro n
 induction n with
 |zero=>
  intro listed a w t hc p hS H
  have R:unl ops listed=[]:=List.eq_nil_of_length_eq_zero p
  rw[R] at H
  refine⟨?_,H⟩
  by_cases hr:Region.ready .any ops listed=[]
  ·exact hr
  ·obtain⟨j,z⟩:=List.exists_mem_of_ne_nil _ hr
   obtain⟨W,o,ho,_⟩:=mem_ready.1 z
   have:j∈unl ops listed:=List.mem_filter.2 ⟨List.mem_range.2 (Array.getElem?_eq_some_iff.1 ho).1,by rw[W];rfl⟩
   rw[R] at this
   cases this
 |succ n ih=>
  intro listed a w t hc p hS H
  have g:∀ {j},j∈unl ops listed↔j<ops.size∧listed.getD j true=false:=fun {j}=>by
   unfold unl
   rw[List.mem_filter,List.mem_range]
   simp
  have ah:∀ {j},j∈Region.ready .any ops listed→j∈unl ops listed:=fun {j} z=>by
   obtain⟨W,o,ho,_⟩:=mem_ready.1 z
   exact g.2 ⟨(Array.getElem?_eq_some_iff.1 ho).1,W⟩
  have next:∀j,j∈Region.ready .any ops listed→∀M w',S w'→Ve P ops eff S (Q .normal) ((unl ops listed).erase j) M w'→wpAnyH P .any ops Q S n (listed.setIfInBounds j true) M w':=λj z M w' F E=>by
   refine ih _ M w' (by simp[t]) (hc.set z) ?_ F (by rw[vW t];exact E)
   rw[vW t,List.length_erase_of_mem (ah z),p]
   rfl
  obtain⟨i,L,hiL⟩:∃i L,unl ops listed=i::L:=by
   cases hu:unl ops listed with
   |nil=>rw[hu] at p;cases p
   |cons i L=>exact⟨i,L,rfl⟩
  have I:=Yi (ops:=ops) listed
  have aj:i∈unl ops listed:=by rw[hiL];simp
  have hi:=g.1 aj
  have O:∀k,k∈unl ops listed→i≤k:=λk s=>by
   rw[hiL] at s I
   rcases List.mem_cons.1 s with rfl|s
   ·exact Nat.le_refl _
   ·exact Nat.le_of_lt ((List.pairwise_cons.1 I).1 k s)
  have y:∀k,k<i→listed.getD k false=true:=λk s=>by
   cases E:listed.getD k true with
   |false=>exact absurd (O k (g.2 ⟨Nat.lt_trans s hi.1,E⟩)) (by omega)
   |true=>
    have:k<listed.size:=by rw[t];exact Nat.lt_trans s hi.1
    simp[this] at E⊢
    exact E
  rw[hiL] at H
  obtain⟨oi,q,H⟩:=H
  have D:i∈Region.ready .any ops listed:=mem_ready.2 ⟨hi.2,oi,q,λe C X=>
   y _ (N i e.on hi.1 (by
    unfold Region.waitsFor
    rw[q]
    exact Array.any_eq_true'.2 ⟨e,C,by simp[X]⟩))⟩
  have al:Region.ready .any ops listed≠[]:=λW=>by rw[W] at D;cases D
  have af:(unl ops listed).erase i=L:=by rw[hiL];simp
  have f:∀j,j∈Region.ready .any ops listed→∀k,k∈unl ops listed→Region.waitsFor .any ops j k=false:=λj z k s=>by
   obtain⟨_,oj,l,B⟩:=mem_ready.1 z
   refine xD l λe C X ai=>?_
   have h1:=B e C X
   rw[ai] at h1
   have A:=(g.1 s).2
   have Z:k<listed.size:=by rw[t];exact(g.1 s).1
   simp[Z] at h1 A
   rw[h1] at A
   cases A
  split at H
  ·rename_i hcond
   refine⟨λW=>absurd W al,λj z=>?_⟩
   by_cases Y:j=i
   ·subst Y
    unfold wpOp
    rw[q]
    simp only[hcond.2,if_true]
    refine .inl ?_
    have H':=Oper.wp_mono (K':=λM w'=>S w'∧wpAnyH P .any ops Q S n (listed.setIfInBounds j true) M w') (λM w' ⟨F,E⟩=>⟨F,next j z M w' F (by rw[af];exact E)⟩) H
    unfold Oper.wp at H'⊢
    generalize (execOp a.eval oi).run P w=r at*
    cases r with
    |ok m w'=>
     cases m<;>simp only[Oper.upon] at H'⊢ <;>first
      |exact H'
      |exact Calls.mono H' (λe aw C=>by
        cases e with
        |returned u=>exact C
        |panicked c=>exact C.elim
        |outgrown=>obtain⟨_,_,hf⟩:=C;exact hf.elim)
    |halt x w'=>cases x<;>simp only[Oper.upon] at H'⊢ <;>exact H'.elim
   ·-- a read that may come up
    obtain⟨_,oj,l,B⟩:=mem_ready.1 z
    have G:=ah z
    have aa:eff.contains j=false:=by
     cases hcj:eff.contains j with
     |false=>rfl
     |true=>
      have h1:=List.all_eq_true.1 ae j (by simpa using hcj)
      have A:=List.all_eq_true.1 h1 i (by simpa using hcond.1)
      have au:=O j G
      simp only[Bool.or_eq_true,decide_eq_true_eq] at A
      have h3:YW ops ops.size j i=true:=by rcases A with A|A<;>first|omega|exact A
      have h4:=jX hc _ j i h3 (λk s=>by
       obtain⟨av,T,e,C,X,ab⟩:=Region.waitsFor_spec s
       rw[l] at T
       cases T
       exact ab▸B e C X)
      have Z:i<listed.size:=by rw[t];exact hi.1
      have h5:=hi.2
      simp[Z] at h4 h5
      rw[h4] at h5
      cases h5
    have V:Ve P ops eff S (Q .normal) (unl ops listed) a w:=by
     rw[hiL]
     exact⟨oi,q,by rw[if_pos hcond];exact H⟩
    obtain⟨v,hy,E⟩:=zfp U ad l (unl ops listed) a w hS G (I.imp (λh=>Nat.ne_of_lt h)) (λk s=>f j z k s)
     (λk s ar=>by
      cases hwk:Region.waitsFor .any ops k j with
      |false=>rfl
      |true=>have:=N k j (g.1 s).1 hwk;omega)
     (λ_ _ _=>.inr trivial) I (.inl aa) V
    exact hy.wpOp l hS ⟨hS,next j z _ _ hS E⟩
  ·rename_i hcond
   obtain⟨v,hy,E⟩:=H
   refine wpAnyH_first q U (λc a w=>hQ c a oi.dst v w) n listed a w (λj oj l Y aq an=>?_) D hy hS (next i D _ _ hS (by rw[af];exact E))
   have G:=g.2 ⟨(Array.getElem?_eq_some_iff.1 l).1,aq⟩
   exact qf ad q l (λe=>Y e.symm) (xD l an) (f i D j G)
theorem VS {id:Nat} {a:Act} {w:World} {Q:Exit→Act→World→Prop} (eff:List Nat) (S:World→Prop) (f:P.follows .mixedOrders=true) (hok:Qc ops eff=true)
  (hS:S w.drew) (L:List Nat) (e:List.range ops.size=L)
  (h:∀K:Act→World→Prop,Shut (∀a w,Q .normal a w→K a w)→Ve P ops eff S K L a w.drew):(Code.region id ops true).wp P Q a w:=by
 refine wp_region_noPanic (wp_region_held (S:=S) f ?_)
 have d:unl ops (Array.replicate ops.size false)=List.range ops.size:=by
  unfold unl
  rw[List.filter_eq_self]
  intro i hi
  have:=List.mem_range.1 hi
  simp[this]
 refine zeh hok (λ_ _ _ _ _ h=>h) _ _ a _ (by simp) (λj k g c=>?_) (by rw[d];simp) hS (by rw[d,e];exact h _ (λ_ _ h=>h))
 by_cases hjs:j<ops.size
 ·simp[hjs] at c
 ·simp[hjs] at c
def jJ (P:Program) (ops:Array Oper) (S:World→Prop) (Q:Act→World→Prop):List Bool→List Oper→Act→World→Prop
 |_,[],a,w=>Q a w
 |es,o::rest,a,w=>
   if es.headD false=true∧Region.wanted o (yielded ops a.tmps)=true then o.wp P a w (λa' w'=>S w'∧jJ P ops S Q es.tail rest a' w') NoQ
    else ∃v,YieldsIf P ops S o v a∧jJ P ops S Q es.tail rest (a.put o.dst v) w
def X9 (es:List Bool):List Nat:=(List.range es.length).filter λi=>es.getD i false
theorem ZY (es:List Bool) (i:Nat):(X9 es).contains i=es.getD i false:=by
 rw[Bool.eq_iff_iff]
 simp only[X9,List.contains_iff_mem,List.mem_filter,List.mem_range]
 constructor
 ·exact λh=>h.2
 ·intro h
  refine⟨?_,h⟩
  rcases Nat.lt_or_ge i es.length with h'|h'
  ·exact h'
  ·simp[List.getD,List.getElem?_eq_none h'] at h
theorem Zy {es:List Bool} {K:Act→World→Prop}:∀(l:List Oper) (i:Nat) (a:Act) (w:World),(∀k o,l[k]? =some o→ops[i+k]? =some o)→
  jJ P ops S K (es.drop i) l a w→Ve P ops (X9 es) S K (List.range' i l.length) a w
 |[],i,a,w,_,h=>h
 |o::rest,i,a,w,ho,h=>by
  have g:ops[i]? =some o:=ho 0 o rfl
  have c:∀k d,rest[k]? =some d→ops[i+1+k]? =some d:=λk d n=>by
   have:=ho (k+1) d (by simpa using n)
   rwa [show i+1+k=i+(k+1) by omega]
  have m:(es.drop i).headD false=es.getD i false:=by simp[List.getD,List.headD_eq_head?_getD]
  have p:(es.drop i).tail=es.drop (i+1):=by simp[List.tail_drop]
  rw[jJ,m,p] at h
  rw[List.length_cons,List.range'_succ]
  refine⟨o,g,?_⟩
  rw[ZY]
  split at h
  ·rename_i hc
   rw[if_pos hc]
   exact Oper.wp_mono (λf w' ⟨hS,e⟩=>⟨hS,Zy rest (i+1) f w' c e⟩) h
  ·rename_i hc
   rw[if_neg hc]
   obtain⟨v,q,e⟩:=h
   exact⟨v,q,Zy rest (i+1) _ w c e⟩
theorem zf6 {id:Nat} {a:Act} {w:World} {Q:Exit→Act→World→Prop} {l:List Oper} (es:List Bool) (S:World→Prop) (d:P.follows .mixedOrders=true) (hok:Qc l.toArray (X9 es)=true)
  (hS:S w.drew)
  (h:∀K:Act→World→Prop,Shut (∀a w,Q .normal a w→K a w)→jJ P l.toArray S K es l a w.drew):(Code.region id l.toArray true).wp P Q a w:=by
 refine VS (X9 es) S d hok hS _ rfl (λK hK=>?_)
 have:=Zy (P:=P) (ops:=l.toArray) (S:=S) (es:=es) (K:=K) l 0 a w.drew (λk o c=>by simpa using c) (by simpa using h K hK)
 simpa[List.range_eq_range'] using this
theorem zZ {es:List Bool} {K:Act→World→Prop} {a:Act} {w:World} (h:K a w):jJ P ops S K es [] a w:=h
theorem zn {es:List Bool} {K:Act→World→Prop} {a:Act} {w:World} {o:Oper} {rest:List Oper}
  (c:Region.wanted o (yielded ops a.tmps)=true) (h:∃v,(∀w,S w→(execOp a.eval o).run P w=.ok (.value v) w)∧jJ P ops S K es rest (a.put o.dst v) w):jJ P ops S K (false::es) (o::rest) a w:=by
 obtain⟨v,d,h⟩:=h
 rw[jJ,if_neg (by simp)]
 exact⟨v,.inl ⟨c,d⟩,h⟩
theorem zq {e:Bool} {es:List Bool} {K:Act→World→Prop} {a:Act} {w:World} {o:Oper} {rest:List Oper}
  (c:Region.wanted o (yielded ops a.tmps)=false) (h:jJ P ops S K es rest (a.put o.dst undef) w):jJ P ops S K (e::es) (o::rest) a w:=by
 rw[jJ,if_neg (by rw[c];simp)]
 exact⟨undef,.inr ⟨c,rfl⟩,h⟩
theorem zN {es:List Bool} {K:Act→World→Prop} {a:Act} {w:World} {o:Oper} {rest:List Oper}
  (f:Region.wanted o (yielded ops a.tmps)=true) (h:∀K',Shut (∀c w',S w'→(S w'→jJ P ops S K es rest c w')→K' c w')→o.wp P a w K' NoQ):jJ P ops S K (true::es) (o::rest) a w:=by
 rw[jJ,if_pos ⟨rfl,f⟩]
 exact h _ (λ_ _ d e=>⟨d,e d⟩)
section
variable {es:List Bool} {K:Act→World→Prop} {a:Act} {w:World} {rest:List Oper} {dst:Option Tmp} {op:Op} {ty:TypeId} {pos:String} {after:Array Edge} {j:Nat} {b:Bool}
theorem zh5 (h:∃v,(∀w,S w→(execOp a.eval {dst:=dst,op:=op,type:=ty,pos:=pos,after:=after,guard:=none}).run P w=.ok (.value v) w)∧jJ P ops S K es rest (a.put dst v) w):
  jJ P ops S K (false::es) ({dst:=dst,op:=op,type:=ty,pos:=pos,after:=after,guard:=none}::rest) a w:=zn rfl h
theorem zhF (c:yielded ops a.tmps j=some b) (h:∃v,(∀w,S w→(execOp a.eval {dst:=dst,op:=op,type:=ty,pos:=pos,after:=after,guard:=some (j,b)}).run P w=.ok (.value v) w)∧jJ P ops S K es rest (a.put dst v) w):
  jJ P ops S K (false::es) ({dst:=dst,op:=op,type:=ty,pos:=pos,after:=after,guard:=some (j,b)}::rest) a w:=zn (by simp[Region.wanted,c]) h
theorem zh6 {e c:Bool} (f:yielded ops a.tmps j=some c) (d:c= !b) (h:jJ P ops S K es rest (a.put dst undef) w):
  jJ P ops S K (e::es) ({dst:=dst,op:=op,type:=ty,pos:=pos,after:=after,guard:=some (j,b)}::rest) a w:=zq (by subst d;simp[Region.wanted,f]) h
theorem zhG {e:Bool} (c:yielded ops a.tmps j=none) (h:jJ P ops S K es rest (a.put dst undef) w):
  jJ P ops S K (e::es) ({dst:=dst,op:=op,type:=ty,pos:=pos,after:=after,guard:=some (j,b)}::rest) a w:=zq (by simp[Region.wanted,c]) h
theorem zir (h:∀K',Shut (∀c w',S w'→(S w'→jJ P ops S K es rest c w')→K' c w')→Oper.wp P {dst:=dst,op:=op,type:=ty,pos:=pos,after:=after,guard:=none} a w K' NoQ):
  jJ P ops S K (true::es) ({dst:=dst,op:=op,type:=ty,pos:=pos,after:=after,guard:=none}::rest) a w:=zN rfl h
theorem zh4 (d:yielded ops a.tmps j=some b) (h:∀K',Shut (∀c w',S w'→(S w'→jJ P ops S K es rest c w')→K' c w')→Oper.wp P {dst:=dst,op:=op,type:=ty,pos:=pos,after:=after,guard:=some (j,b)} a w K' NoQ):
  jJ P ops S K (true::es) ({dst:=dst,op:=op,type:=ty,pos:=pos,after:=after,guard:=some (j,b)}::rest) a w:=zN (by simp[Region.wanted,d]) h
end
end
attribute [irreducible] jJ
end Go
namespace Go
open Go.RowKit
theorem wrLx {P:Program} {id:Nat} {a:Act} {w:World} {Q:Exit→Act→World→Prop} {l:List Oper} (es:List Bool) (S:World→Prop) (hS:S w.drew) (h:∀K:Act→World→Prop,Shut (∀a w,Q .normal a w→K a w)→jJ P l.toArray S K es l a w.drew) (hm:P.follows .mixedOrders=true:=by kernel_rfl) (hok:Qc l.toArray (X9 es)=true:=by kernel_rfl):(Code.region id l.toArray true).wp P Q a w:=zf6 es S hm hok hS h
end Go
namespace Go
open Go.RowKit
theorem goS {p:Prop} (h:p:=by go_simp;(try with_reducible rfl);done):p:=h
end Go
