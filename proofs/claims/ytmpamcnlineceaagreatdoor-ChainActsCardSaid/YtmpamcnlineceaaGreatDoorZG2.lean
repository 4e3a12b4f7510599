/- Values of many cells: ranges of cells, loads, stores, comparisons. -/
import Derived.Deep.MidRow
import Derived.Laws.StructEq
import Derived.DeepKeys
import Derived.Laws.Tables
import Derived.Great.BuildSlice
import Derived.Laws.ResultCell
import Derived.Shelf.GgSortFunc.InsertionK
import Derived.Test.YtmpamcnlineceaaGreatDoorZG1
set_option linter.unusedVariables false
set_option linter.unusedSimpArgs false
set_option linter.unnecessarySimpa false
set_option linter.all false
set_option maxRecDepth 20000
set_option maxHeartbeats 16000000
namespace Go
open Go.RowKit
theorem frN (w:World):Fr No w w:=Fr.refl No w
end Go
namespace Go
open Go.RowKit Go.Maps Go.MapKept
theorem zf {w w':World} {base:Nat} {e:TypeId} {size:Nat} {v:Value} {n:Nat} {xs:List Value} (h:w.ownsRow base e size v n xs) {W:Nat→Prop} (f:Fr W w w') (j:∀b,v.ownBlock=some b→¬W b):w'.ownsRow base e size v n xs:=by
 refine⟨h.1,?_⟩
 rcases h.2 with hn|⟨g,c,d,rfl,i,l,rest⟩
 ·exact .inl hn
 ·exact .inr ⟨g,c,d,rfl,i,f.obj l (j g rfl),rest⟩
theorem vq {P:Program} {t:TypeId} (h:(P.underlying t).map (·.isRow)=some true):∃d,P.underlying t=some d∧d.isRow=true:=by
 cases e:P.underlying t with
 |none=>rw[e] at h;cases h
 |some d=>rw[e] at h;exact⟨d,rfl,by simpa using h⟩
theorem zb {w w':World} {b o:Nat} {cs:List Value} (h:w.rangeAt b o cs) {W:Nat→Prop} (f:Fr W w w') (c:¬W b):w'.rangeAt b o cs:=λj v d=>f.cell (h j v d) c
theorem zK (w:World) (cs:List Value) (T:TypeId):(w.alloc (.cells cs.toArray T)).rangeAt w.heap.size 0 cs:=λj v c=>by
 have b:=zS w (.cells cs.toArray T)
 simp only[World.cell?,b]
 simpa using c
theorem zm {w:World} {b:Nat} {c:Array Value} {T:TypeId} {fr:Nat×Nat} (d:w.heap[b]? =some (.cells c T fr)):w.rangeAt b 0 c.toList:=λj v e=>by
 simp only[World.cell?,d]
 simpa using e
theorem JY {α β:Type} (f:α→List β) (k:Nat):∀(L:List α),(∀x∈L,(f x).length=k)→∀(i:Nat) (x:α),L[i]? =some x→∀r,r<k→(L.flatMap f)[i*k+r]? =(f x)[r]?
 |[],_,i,x,h,_,_=>by simp at h
 |y::L,hk,0,x,h,r,hr=>by
  simp at h
  subst h
  rw[List.flatMap_cons,Nat.zero_mul,Nat.zero_add,List.getElem?_append_left (by rw[hk y (by simp)];exact hr)]
 |y::L,hk,i+1,x,h,r,hr=>by
  rw[List.flatMap_cons,List.getElem?_append_right (by rw[hk y (by simp),Nat.succ_mul];omega),hk y (by simp)]
  rw[show(i+1)*k+r-k=i*k+r by rw[Nat.succ_mul];omega]
  exact JY f k L (λx b=>hk x (by simp[b])) i x (by simpa using h) r hr
theorem qU {α β:Type} (f:α→List β) (k:Nat):∀(L:List α),(∀x∈L,(f x).length=k)→(L.flatMap f).length=L.length*k
 |[],_=>by simp
 |y::L,hk=>by rw[List.flatMap_cons,List.length_append,hk y (by simp),qU f k L (λx b=>hk x (by simp[b])),List.length_cons,Nat.succ_mul];omega
def setM (xs:List Value):Nat→List Value→List Value
 |_,[]=>xs
 |o,v::r=>setM (xs.set o v) (o+1) r
theorem qL:∀(cs A B C:List Value),B.length=cs.length→setM (A++B++C) A.length cs=A++cs++C
 |[],A,B,C,h=>by
  have:B=[]:=List.eq_nil_of_length_eq_zero h
  subst this
  rfl
 |v::r,A,[],C,h=>by simp at h
 |v::r,A,b::B,C,h=>by
  unfold setM
  rw[List.append_assoc,List.set_append_right _ _ (Nat.le_refl _),Nat.sub_self,List.cons_append,List.set_cons_zero]
  have e:A++v::(B++C)=(A++[v])++B++C:=by simp
  rw[e,show A.length+1=(A++[v]).length by simp,qL r (A++[v]) B C (by simpa using h)]
  simp
theorem yN (g:Nat) (T:TypeId):∀(cs:List Value) (o:Nat) (w:World) (cur:Array Value),w.heap[g]? =some (.cells cur T (0,0))→(w.setCells g o cs).heap[g]? =some (.cells (setM cur.toList o cs).toArray T (0,0))
 |[],o,w,cur,h=>by simpa[World.setCells,setM] using h
 |v::r,o,w,cur,h=>by
  have b:=heap_setCell_same w g o _ _ v h
  have:=yN g T r (o+1) _ _ b
  simp only[World.setCells,setM]
  rw[this]
  simp
theorem zv (g:Nat):∀(cs:List Value) (o:Nat) (w:World),Fr (λi=>i=g) w (w.setCells g o cs)
 |[],_,_=>Fr.refl _ _
 |v::r,o,w=>(Fr.setCell (W:=λi=>i=g) (Fr.refl _ w) ⟨g,o,none⟩ (.inr rfl) v).trans (zv g r (o+1) _) (λ_ _ h=>h)
theorem zaS (w:World) (z cs:List Value) (T:TypeId) (h:z.length=cs.length):(w.alloc (.cells z.toArray T)).setCells w.heap.size 0 cs=w.alloc (.cells cs.toArray T):=by
 have c:∀(cs:List Value) (o:Nat) (b:Array Value),(w.alloc (.cells b T)).setCells w.heap.size o cs=w.alloc (.cells (setM b.toList o cs).toArray T):=by
  intro cs
  induction cs with
  |nil=>intro o b;simp[World.setCells,setM]
  |cons v r ih=>
   intro o b
   have e:(w.alloc (.cells b T)).setCell ⟨w.heap.size,o,none⟩ v=w.alloc (.cells (b.setIfInBounds o v) T):=by
    exact World.setCell_alloc_at _ _ _ _ _ rfl
   simp only[World.setCells,setM,e]
   rw[ih]
   simp
 rw[c]
 have:=qL cs [] z [] h
 simp at this
 simp[this]
section
variable {α:Type} {f:α→List Value} {k:Nat}
theorem yP.elem {w:World} {v:Value} {n:Nat} {L:List α} (r:0<k) (g:∀x∈L,(f x).length=k) (h:yP w v n (L.flatMap f)) {i:Nat} {x:α} (m:L[i]? =some x):
  ∃b off d,v=.slice (some ⟨b,off,none⟩) n d∧w.rangeAt b (off+i*k) (f x)∧b<w.heap.size:=by
 have c:=List.mem_of_getElem? m
 rcases h with⟨_,_,e⟩|⟨b,off,d,rfl,s,t,p,q⟩
 ·have:=JY f k L g i x m 0 (by omega)
  rw[e] at this
  have z:=g x c
  rw[List.getElem?_nil] at this
  have:=List.getElem?_eq_none_iff.1 this.symm
  omega
 ·refine⟨b,off,d,rfl,λj u o=>?_,q⟩
  have l:j<k:=by have:=(List.getElem?_eq_some_iff.1 o).1;rw[g x c] at this;exact this
  rw[Nat.add_assoc]
  exact p _ _ (by rw[JY f k L g i x m j l];exact o)
theorem xG.elem {w:World} {v:Value} {n:Nat} {L:List α} (j:0<k) (g:∀x∈L,(f x).length=k) (h:xG w v n (L.flatMap f)) {i:Nat} {x:α} (l:L[i]? =some x):
  ∃b off c,v=.slice (some ⟨b,off,none⟩) n c∧w.rangeAt b (off+i*k) (f x)∧b<w.heap.size:=by
 rcases h with h|⟨a,c,rfl,rfl,e,_⟩
 ·exact h.elem j g l
 ·have d:=List.mem_of_getElem? l
  have:=JY f k L g i x l 0 (by omega)
  rw[e] at this
  have m:=g x d
  rw[List.getElem?_nil] at this
  have:=List.getElem?_eq_none_iff.1 this.symm
  omega
theorem J6 {w:World} {B n:Nat} {T:TypeId} {v:Value} {L:List α} (d:0<k) (l:∀x∈L,(f x).length=k) (h:w.ownsRow B T k v n (L.flatMap f)) {i:Nat} {x:α} (o:L[i]? =some x):
  ∃g c,v=.slice (some ⟨g,0,none⟩) n c∧w.rangeAt g (i*k) (f x)∧g<w.heap.size:=by
 rcases h.2 with⟨rfl,s⟩|⟨g,c,p,rfl,_⟩
 ·have q:=h.1
  rw[qU f k L l,s] at q
  have:i<L.length:=(List.getElem?_eq_some_iff.1 o).1
  have:L.length*k=0:=by omega
  rcases Nat.mul_eq_zero.1 this with h|h<;>omega
 ·obtain⟨b,off,j,e,m,r⟩:=h.slice.elem d l o
  injection e with e1 e2 e3
  injection e1 with e1
  injection e1 with e4 e5
  subst e4 e5
  rw[Nat.zero_add] at m
  exact⟨_,c,rfl,m,r⟩
theorem XN:∀(cs xs:List Value) (o n:Nat),o+cs.length≤n→n≤xs.length→(setM xs o cs).take n=setM (xs.take n) o cs
 |[],xs,o,n,h1,h2=>rfl
 |v::r,xs,o,n,h1,h2=>by
  simp only[setM]
  rw[XN r _ _ _ (by simp at h1;omega) (by simpa using h2),List.take_set]
theorem Xj:∀(cs xs:List Value) (o:Nat),(setM xs o cs).length=xs.length
 |[],xs,o=>rfl
 |v::r,xs,o=>by simp only[setM];rw[Xj r];simp
theorem J8 {w:World} {B:Nat} {T:TypeId} {g b n:Nat} {xs:List Value} (h:w.ownsRow B T k (.slice (some ⟨g,0,none⟩) n b) n xs) {i:Nat} (hi:i<n):w.there g (i*k) k:=λj d=>by
 have c:i*k+k≤n*k:=by rw[←Nat.succ_mul];exact Nat.mul_le_mul_right _ hi
 refine⟨?_,h.frozenAt _⟩
 rw[h.cellAt (i*k+j) (by omega),List.getElem?_eq_getElem (by rw[h.1];omega)]
 rfl
end
section
variable {P:Program} {S:World→Prop} {a:Act} {dst:Option Tmp} {ty ty2:TypeId} {pos:String} {after:Array Edge} {gd:Option (Nat×Bool)} {x y:Operand}
theorem yY {i:TypeId} {b o:Nat} {cs:List Value} {d:TypeDesc} (h:a.eval x=.pointer (some ⟨b,o,none⟩)) (hS:∀w,S w→w.rangeAt b o cs) (e:P.underlying ty=some d) (c:d.isRow=true) (hi:(P.info? ty).map (·.size)=some cs.length):
  ∀w,S w→(execOp a.eval {dst:=dst,op:=.load ty x,type:=i,pos:=pos,after:=after,guard:=gd}).run P w=.ok (.value (.agg cs.toArray)) w:=λw g=>by
 unfold execOp
 simp only[h,Instr.loadAt,Instr.sureAddr,Sem.run_bind,Sem.run_pure,Result.andThen_ok,run_loadVar_mid w b o ty cs d (hS w g) e c hi]
end
end Go
namespace Go
open Go.RowKit Go.Maps Go.MapKept
def Upd {κ ι:Type} (M:List (κ×ι)) (k:κ) (v:ι) (M':List (κ×ι)):Prop:=∀k' v',(k',v')∈M'↔(k'=k∧v'=v)∨(k'≠k∧(k',v')∈M)
def Del {κ ι:Type} (M:List (κ×ι)) (k:κ) (M':List (κ×ι)):Prop:=∀k' v',(k',v')∈M'↔k'≠k∧(k',v')∈M
section
variable {P:Program} {kt et t:TypeId} {w:World} {b:Nat} {κ ι:Type} {kV:κ→Value} {vV:ι→Value}
def yS (P:Program) (kt:TypeId) (kV:κ→Value) (vV:ι→Value) (w:World) (b:Nat) (M:List (κ×ι)):Prop:=xf P kt w b (M.map λx=>(kV x.1,vV x.2))
variable {M:List (κ×ι)}
theorem yS.lt (h:yS P kt kV vV w b M):b<w.heap.size:=xf.lt h
theorem yS.keep {w':World} {W:Nat→Prop} (h:yS P kt kV vV w b M) (f:Fr W w w') (c:¬W b):yS P kt kV vV w' b M:=xf.keep h f c
theorem yS.nodup (h:yS P kt kV vV w b M):(M.map (·.1)).Nodup:=by
 have:=xf.nodup h
 rw[List.map_map] at this
 exact(List.pairwise_map.2 ((List.pairwise_map.1 this).imp λc e=>c (by simp only[Function.comp];rw[e])))
theorem yS.uniq (h:yS P kt kV vV w b M) {k:κ} {v f:ι} (l:(k,v)∈M) (n:(k,f)∈M):v=f:=by
 have d:=h.nodup
 obtain⟨i,hi⟩:=List.mem_iff_getElem?.1 l
 obtain⟨j,c⟩:=List.mem_iff_getElem?.1 n
 have e:(M.map (·.1))[i]? =some k:=by rw[List.getElem?_map,hi];rfl
 have g:(M.map (·.1))[j]? =some k:=by rw[List.getElem?_map,c];rfl
 have:=(List.getElem?_inj (List.getElem?_eq_some_iff.1 e).1 d).1 (e.trans g.symm)
 subst this
 rw[hi] at c
 exact congrArg Prod.snd (Option.some.inj c)
theorem yS.made (w:World):yS P kt kV vV (w.alloc (.map #[] 0)) w.heap.size ([]:List (κ×ι)):=xf.made w
theorem yS.upd (h:yS P kt kV vV w b M) (K:Keyed P kt) (F:P.underlying t=some (.map kt et)) (B:∀a b,kV a=kV b→a=b) {k:κ} (D:∃l,keyOf P kt (kV k)=some l) (room:M.length<maxLen) (v:ι):
  ∃w' j,(Instr.mapUpdate t (.map (some b)) (kV k) (vV v)).run P w=.ok () w'∧yS P kt kV vV w' b j∧Upd M k v j∧jq b w w'∧j.length≤M.length+1:=by
 by_cases hin:∃C,(k,C)∈M
 ·obtain⟨C,E⟩:=hin
  obtain⟨n,q,rfl⟩:=List.append_of_mem E
  have O:=λi (h':(k,i)∈n++(k,C)::q)=>h.uniq h' E
  have f:=h.nodup
  unfold yS at h
  rw[List.map_append,List.map_cons] at h
  obtain⟨w',r,s,u⟩:=xf.update_hit K F h D (vV v)
  refine⟨w',n++(k,v)::q,r,by unfold yS;rw[List.map_append,List.map_cons];exact s,λH i=>?_,u,by simp⟩
  rw[List.map_append,List.map_cons] at f
  obtain⟨R,I,L⟩:=List.nodup_append.1 f
  obtain⟨N,S⟩:=List.nodup_cons.1 I
  have y:∀x,(k,x)∉n:=λx g=>L k (List.mem_map.2 ⟨_,g,rfl⟩) k (by simp) rfl
  have z:∀x,(k,x)∉q:=λx g=>N (List.mem_map.2 ⟨_,g,rfl⟩)
  simp only[List.mem_append,List.mem_cons,Prod.mk.injEq]
  constructor
  ·rintro(c|c|c)
   ·exact .inr ⟨λe=>y _ (e▸c),.inl c⟩
   ·exact .inl c
   ·exact .inr ⟨λe=>z _ (e▸c),.inr (.inr c)⟩
  ·rintro(c|⟨c,d|d|d⟩)
   ·exact .inr (.inl c)
   ·exact .inl d
   ·exact absurd d.1 c
   ·exact .inr (.inr d)
 ·have A:∀p∈M.map λx=>(kV x.1,vV x.2),p.1≠kV k:=by
   intro p G
   obtain⟨x,g,rfl⟩:=List.mem_map.1 G
   exact λe=>hin ⟨x.2,by rw[←B _ _ e];exact g⟩
  obtain⟨w',r,s,u⟩:=xf.update_miss K F h D A (by simpa using room) (vV v)
  refine⟨w',M++[(k,v)],r,by unfold yS;rw[List.map_append];exact s,λH i=>?_,u,by simp⟩
  simp only[List.mem_append,List.mem_singleton,Prod.mk.injEq]
  constructor
  ·rintro(c|c)
   ·exact .inr ⟨λe=>hin ⟨i,e▸c⟩,c⟩
   ·exact .inl c
  ·rintro(c|⟨_,d⟩)
   ·exact .inr c
   ·exact .inl d
theorem yS.look (h:yS P kt kV vV w b M) (K:Keyed P kt) (n:P.underlying t=some (.map kt et)) (d:∀a b,kV a=kV b→a=b) {z:Value} (s:∀w,(zeroValue et).run P w=.ok z w) {k:κ} (i:∃l,keyOf P kt (kV k)=some l) (c:Bool) {r:Option ι} (f:∀v,r=some v↔(k,v)∈M):
  (Instr.lookup t (.map (some b)) (kV k) c).run P w=.ok (if c then .tuple #[(r.map vV).getD z,.bool r.isSome] else(r.map vV).getD z) w:=by
 have g:zdj (M.map λx=>(kV x.1,vV x.2)) (kV k) (r.map vV):=by
  cases r with
  |none=>
   refine .miss λp j e=>?_
   obtain⟨x,q,rfl⟩:=List.mem_map.1 j
   have:=(f x.2).2 (by rw[←d _ _ e];exact q)
   cases this
  |some v=>exact .hit (List.mem_map.2 ⟨(k,v),(f v).1 rfl,rfl⟩)
 have:=xf.lookup K n s h i c g
 simpa using this
theorem yS.del (h:yS P kt kV vV w b M) (K:Keyed P kt) (C:P.underlying t=some (.map kt et)) (y:∀a b,kV a=kV b→a=b) {k:κ} (B:∃l,keyOf P kt (kV k)=some l) (ty x:TypeId):
  ∃w' i,(Builtin.delete_ #[t,x] ty #[.map (some b),kV k]).run P w=.ok (.tuple #[]) w'∧yS P kt kV vV w' b i∧Del M k i∧jq b w w'∧i.length≤M.length:=by
 by_cases hin:∃E,(k,E)∈M
 ·obtain⟨E,F⟩:=hin
  obtain⟨z,A,rfl⟩:=List.append_of_mem F
  have f:=h.nodup
  unfold yS at h
  rw[List.map_append,List.map_cons] at h
  obtain⟨w',r,j,n⟩:=xf.delete_hit K C h B ty x
  refine⟨w',z++A,r,by unfold yS;rw[List.map_append];exact j,λH D=>?_,n,by simp⟩
  rw[List.map_append,List.map_cons] at f
  obtain⟨O,I,L⟩:=List.nodup_append.1 f
  obtain⟨N,R⟩:=List.nodup_cons.1 I
  have q:∀x,(k,x)∉z:=λx g=>L k (List.mem_map.2 ⟨_,g,rfl⟩) k (by simp) rfl
  have s:∀x,(k,x)∉A:=λx g=>N (List.mem_map.2 ⟨_,g,rfl⟩)
  simp only[List.mem_append,List.mem_cons,Prod.mk.injEq]
  constructor
  ·rintro(c|c)
   ·exact⟨λe=>q _ (e▸c),.inl c⟩
   ·exact⟨λe=>s _ (e▸c),.inr (.inr c)⟩
  ·rintro⟨c,d|d|d⟩
   ·exact .inl d
   ·exact absurd d.1 c
   ·exact .inr d
 ·have u:∀p∈M.map λx=>(kV x.1,vV x.2),p.1≠kV k:=by
   intro p G
   obtain⟨x,g,rfl⟩:=List.mem_map.1 G
   exact λe=>hin ⟨x.2,by rw[←y _ _ e];exact g⟩
  obtain⟨w',r,j,n⟩:=xf.delete_miss K C h B u ty x
  exact⟨w',M,r,j,λH D=>⟨λc=>⟨λe=>hin ⟨D,e▸c⟩,c⟩,λc=>c.2⟩,n,Nat.le_refl _⟩
theorem yS.lenRun (h:yS P kt kV vV w b M) (c:P.underlying t=some (.map kt et)) (ty:TypeId):(Builtin.len_ #[t] ty #[.map (some b)]).run P w=.ok (.int .i64 (M.length:Int)) w:=by
 have:=xf.lenRun c h ty
 simpa using this
end
section
variable {P:Program} {o:Oper} {a:Act} {w w':World} {K:Act→World→Prop} {Q:Exit→Act→World→Prop} {ops:Array Oper} {rest:List Oper} {v:Value}
theorem xx (c:(execOp a.eval o).run P w=.ok .skip w') (h:K (a.put o.dst undef) w'):o.wp P a w K Q:=by
 unfold Oper.wp
 rw[c]
 exact h
theorem yg (c:(execOp a.eval o).run P w=.ok (.value v) w') (h:K (a.put o.dst v) w'):o.wp P a w K Q:=by
 unfold Oper.wp
 rw[c]
 exact h
theorem ze (d:o.guard=none) (c:(execOp a.eval o).run P w=.ok .skip w') (h:wpList P ops Q rest (a.put o.dst undef) w'):wpList P ops Q (o::rest) a w:=
 wpList_plain d λ_ hK=>xx c (hK _ _ h)
theorem zg (d:o.guard=none) (c:(execOp a.eval o).run P w=.ok (.value v) w') (h:wpList P ops Q rest (a.put o.dst v) w'):wpList P ops Q (o::rest) a w:=
 wpList_plain d λ_ hK=>yg c (hK _ _ h)
variable {ev:Operand→Value} {t ty:TypeId} {m k x:Operand} {mv kv' xv:Value}
theorem Ju (e:o.op=.mapUpdate t m k x) (d:ev m=mv) (c:ev k=kv') (g:ev x=xv) (f:(Instr.mapUpdate t mv kv' xv).run P w=.ok () w'):(execOp ev o).run P w=.ok .skip w':=by
 simp only[execOp,e,d,c,g,Sem.run_bind,f,Result.andThen_ok,Sem.run_pure]
theorem qY {c:Bool} (f:o.op=.lookup t m k c) (e:ev m=mv) (d:ev k=kv') (g:(Instr.lookup t mv kv' c).run P w=.ok v w'):(execOp ev o).run P w=.ok (.value v) w':=by
 simp only[execOp,f,e,d,Sem.run_bind,g,Result.andThen_ok,Sem.run_pure]
theorem Qa {c:Array TypeId} (f:o.op=.call {callee:=.builtin .delete,args:= #[m,k],argTypes:=c}) (e:ev m=mv) (d:ev k=kv') (g:(Builtin.delete_ c o.type #[mv,kv']).run P w=.ok v w'):(execOp ev o).run P w=.ok (.value v) w':=by
 simp[execOp,f,resolve,e,d,invoke,builtin,g,Result.andThen]
theorem j4 {c:Array TypeId} (e:o.op=.call {callee:=.builtin .len,args:= #[m],argTypes:=c}) (d:ev m=mv) (f:(Builtin.len_ c o.type #[mv]).run P w=.ok v w'):(execOp ev o).run P w=.ok (.value v) w':=by
 simp[execOp,e,resolve,d,invoke,builtin,f,Result.andThen]
theorem zy {b off:Nat} {cs:List Value} (f:o.op=.store ty m k) (e:ev m=.pointer (some ⟨b,off,none⟩)) (d:ev k=.agg cs.toArray) (g:w.there b off cs.length) (hi:(P.info? ty).map (·.size)=some cs.length) (c:∀v∈cs,v.oneCell'=true):(execOp ev o).run P w=.ok .skip (w.setCells b off cs):=by
 have h:=run_storeAt_mid (P:=P) w b off ty cs.toArray (by simpa using g) (by simpa using hi) (all_oneCell_toArray c)
 simp only at h
 simp only[execOp,f,e,d,Sem.run_bind,h,Result.andThen_ok,Sem.run_pure]
theorem zj {Z:Array Value} {T:TypeId} {cs:List Value} (i:o.op=.store ty m k) (g:ev m=.pointer (some ⟨w.heap.size,0,none⟩)) (f:ev k=.agg cs.toArray) (n:Z.size=cs.length) (hi:(P.info? ty).map (·.size)=some cs.length) (c:∀v∈cs,v.oneCell'=true):(execOp ev o).run P (w.alloc (.cells Z T))=.ok .skip (w.alloc (.cells cs.toArray T)):=by
 have l:(w.alloc (.cells Z T)).there w.heap.size 0 cs.length:=λj p=>by
  have d:=zS w (.cells Z T)
  simp only[World.cell?,World.frozen?,d,Nat.zero_add]
  rw[Array.getElem?_eq_getElem (by omega)]
  simp
 have h:=zy (P:=P) (w:=w.alloc (.cells Z T)) i g f l hi c
 have e:=zaS w Z.toList cs T (by simpa using n)
 simp only[Array.toArray_toList] at e
 rw[h,e]
theorem ye {b off:Nat} {cs:List Value} {d:TypeDesc} (g:o.op=.load ty m) (f:ev m=.pointer (some ⟨b,off,none⟩)) (c:w.rangeAt b off cs) (h:P.underlying ty=some d) (e:d.isRow=true) (hi:(P.info? ty).map (·.size)=some cs.length):(execOp ev o).run P w=.ok (.value (.agg cs.toArray)) w:=by
 simp only[execOp,g,f,Sem.run_bind,run_loadAt_mid w b off ty cs d c h e hi,Result.andThen_ok,Sem.run_pure]
end
end Go
namespace Go
open Go.RowKit
theorem nXt {S:World→Prop} {L K:Act→World→Prop} {a:Act} {w:World} (h:Shut (∀a w,S w→(S w→L a w)→K a w)) (s:S w) (k:S w→L a w):K a w:=h.out _ _ s k
end Go
namespace Go
open Go.RowKit Go.Maps Go.MapKept
theorem zac:∀(cs:List Value) (k off:Nat) (xs:Array Value),(cs.zipIdx k).foldl (λ(ys:Array Value) (c:Value×Nat)=>ys.setIfInBounds (off+c.2) c.1) xs=(setM xs.toList (off+k) cs).toArray
 |[],k,off,xs=>by simp[setM]
 |c::cs,k,off,xs=>by
  rw[List.zipIdx_cons,List.foldl_cons,zac cs (k+1) off]
  simp[setM,Nat.add_assoc]
def Jb (pl:Nat→Option (Nat×Nat)):Nat→List (Nat×Value)→Prop
 |_,[]=>True
 |off,(i,v)::r=>pl i=some (off,v.cells.size)∧Jb pl (off+v.cells.size) r
def qB (vs:List (Nat×Value)):List Value:=vs.flatMap λx=>x.2.cells.toList
theorem Y4 (a:Nat→Option (Nat×Nat)):∀(vs:List (Nat×Value)) (A Z:List Value),Jb a A.length vs→(qB vs).length≤Z.length→Instr.fill a (A++Z).toArray vs=some (A++qB vs++Z.drop (qB vs).length).toArray
 |[],A,Z,_,_=>by simp[Instr.fill,qB]
 |(i,v)::r,A,Z,h,hl=>by
  obtain⟨f,g⟩:=h
  have d:qB ((i,v)::r)=v.cells.toList++qB r:=by simp[qB]
  rw[d,List.length_append,Array.length_toList] at hl
  unfold Instr.fill
  rw[f]
  have j:¬(v.cells.size≠v.cells.size∨A.length+v.cells.size>(A++Z).toArray.size):=by
   simp only[List.size_toArray,List.length_append]
   omega
  simp only[Bool.or_eq_true,decide_eq_true_eq]
  rw[if_neg (by simpa using j)]
  have m:Z=Z.take v.cells.size++Z.drop v.cells.size:=(List.take_append_drop _ _).symm
  have l:=qL v.cells.toList A (Z.take v.cells.size) (Z.drop v.cells.size) (by have:=Array.length_toList (xs:=v.cells);rw[List.length_take];omega)
  have k:(v.cells.zipIdx.foldl (λ(cs:Array Value) (x:Value×Nat)=>cs.setIfInBounds (A.length+x.2) x.1) (A++Z).toArray)=(A++v.cells.toList++Z.drop v.cells.size).toArray:=by
   rw[←Array.foldl_toList,Array.toList_zipIdx,zac,Nat.add_zero,List.toList_toArray]
   conv=>lhs;rw[m]
   rw[←List.append_assoc,l]
  have ih:=Y4 a r (A++v.cells.toList) (Z.drop v.cells.size) (by rw[List.length_append,Array.length_toList];exact g) (by rw[List.length_drop];omega)
  refine Eq.trans (congrArg (λc=>Instr.fill a c r) k) ?_
  rw[ih,d,List.drop_drop,List.length_append,Array.length_toList]
  simp[List.append_assoc]
def vz (P:Program) (t:TypeId):Option (Nat×List (Nat×Nat)):=
 match P.info? t,P.underlying t with
 |some it,some (.struct fields)=>
  match it.zero,fields.toList.mapM (λf=>(P.info? f.type).map λi=>(f.offset,i.size)) with
  |some z,some places=>some (z.cells.size,places)
  |_,_=>none
 |_,_=>none
section
variable {P:Program} {t e ty:TypeId} {w:World} {o:Oper} {ev:Operand→Value}
theorem zeU {n:Nat} {c:List (Nat×Nat)} {vs:List (Nat×Value)} (h:vz P t=some (n,c)) (j:Jb (c.toArray[·]?) 0 vs) (a:(qB vs).length=n):P.built t vs=some (qB vs).toArray:=by
 unfold vz at h
 unfold Program.built
 cases hi:P.info? t with
 |none=>simp[hi] at h
 |some it=>
  cases hu:P.underlying t with
  |none=>simp[hi,hu] at h
  |some d=>
   cases d<;>try(simp[hi,hu] at h;done)
   rename_i fs
   cases hz:it.zero with
   |none=>simp[hi,hu,hz] at h
   |some z=>
    cases hp:fs.toList.mapM (λf=>(P.info? f.type).map λi=>(f.offset,i.size)) with
    |none=>simp[hi,hu,hz,hp] at h
    |some places=>
     simp[hi,hu,hz,hp] at h
     obtain⟨rfl,rfl⟩:=h
     simp only[hz,hp]
     have:=Y4 (places.toArray[·]?) vs [] z.cells.toList j (by rw[a,Array.length_toList];exact Nat.le_refl _)
     simp only[List.nil_append,Array.toArray_toList] at this
     rw[this,a]
     have g:List.drop z.cells.size z.cells.toList=[]:=List.drop_eq_nil_of_le (by rw[Array.length_toList];exact Nat.le_refl _)
     rw[g,List.append_nil]
theorem qj {parts:Array (Nat×Operand)} {n:Nat} {a:List (Nat×Nat)} {vs:List (Nat×Value)} {cs:List Value} (g:o.op=.build t parts) (j:(parts.toList.map λ(i,x)=>(i,ev x))=vs) (h:vz P t=some (n,a)) (d:Jb (a.toArray[·]?) 0 vs) (c:qB vs=cs) (f:cs.length=n):
  (execOp ev o).run P w=.ok (.value (.agg cs.toArray)) w:=by
 subst c
 have:=run_build w t (parts.map λ(i,x)=>(i,ev x)) _ (by rw[Array.toList_map,j];exact zeU h d f)
 simp only[execOp,g,Sem.run_bind,this,Result.andThen_ok,Sem.run_pure]
theorem Xw {x:Operand} {v z:Value} {k:Nat} (l:o.op=.buildSlice t 1 #[(0,x)]) (q:ev x=v) (p:P.underlying t=some (.slice e)) (hi:(P.info? e).map (λi=>(i.zero,i.size))=some (some z,k)) (_:z.cells.size=k) (r:0<k) (h:k≤16777216) (c:v.cells.size=k):
  (execOp ev o).run P w=.ok (.value (.slice (some ⟨w.heap.size,0,none⟩) 1 1)) (w.alloc (.cells v.cells e)):=by
 cases hie:P.info? e with
 |none=>rw[hie] at hi;cases hi
 |some ie=>
  rw[hie] at hi
  simp only[Option.map_some,Option.some.injEq,Prod.mk.injEq] at hi
  obtain⟨f,a⟩:=hi
  have g:Instr.fill (λi=>some (i*ie.size,ie.size)) ((Array.range (1*ie.size)).map (z.cells[· % z.cells.size]!)) [(0,v)]=some v.cells:=by
   have j:((Array.range (1*ie.size)).map (z.cells[· % z.cells.size]!)).toList.length=k:=by simp[a]
   have:=Y4 (λi=>some (i*ie.size,ie.size)) [(0,v)] [] ((Array.range (1*ie.size)).map (z.cells[· % z.cells.size]!)).toList ⟨by simp[a,c],trivial⟩ (by simp[qB,a,c])
   simp only[List.nil_append,Array.toArray_toList] at this
   rw[this]
   have d:qB [(0,v)]=v.cells.toList:=by simp[qB]
   rw[d,List.drop_eq_nil_of_le (by rw[j,Array.length_toList,c];exact Nat.le_refl _)]
   simp
  have n:=run_buildSlice (P:=P) w t e 1 #[(0,v)] v.cells ie z p hie f (by omega) (by omega) g
  have m:(#[(0,x)]:Array (Nat×Operand)).map (λ(i,x)=>(i,ev x))= #[(0,v)]:=by simp[q]
  simp only[execOp,l,m,Sem.run_bind,n,Result.andThen_ok,Sem.run_pure]
theorem zL {x:Operand} {cs:List Value} {z:Value} {k:Nat} (f:o.op=.buildSlice t 1 #[(0,x)]) (h:ev x=.agg cs.toArray) (g:P.underlying t=some (.slice e)) (hi:(P.info? e).map (λi=>(i.zero,i.size))=some (some z,k)) (j:z.cells.size=k) (d:0<k) (a:k≤16777216) (c:cs.length=k):
  (execOp ev o).run P w=.ok (.value (.slice (some ⟨w.heap.size,0,none⟩) 1 1)) (w.alloc (.cells cs.toArray e)):=Xw (v:=.agg cs.toArray) f h g hi j d a (by show cs.toArray.size=k;simpa using c)
end
section
variable {P:Program} {kt et t:TypeId} {w:World} {b:Nat} {κ ι:Type} {kV:κ→Value} {vV:ι→Value} {M:List (κ×ι)}
theorem yS.hit (h:yS P kt kV vV w b M) (K:Keyed P kt) (i:P.underlying t=some (.map kt et)) (c:∀a b,kV a=kV b→a=b) {z:Value} (m:∀w,(zeroValue et).run P w=.ok z w) {k:κ} (f:∃l,keyOf P kt (kV k)=some l) {v:ι} (j:(k,v)∈M):
  (Instr.lookup t (.map (some b)) (kV k) true).run P w=.ok (.tuple #[vV v,.bool true]) w∧(Instr.lookup t (.map (some b)) (kV k) false).run P w=.ok (vV v) w:=by
 have g:∀d,some v=some d↔(k,d)∈M:=λd=>⟨λe=>by cases e;exact j,λe=>by rw[h.uniq j e]⟩
 have n:=h.look K i c m f true g
 have p:=h.look K i c m f false g
 simpa using⟨n,p⟩
theorem yS.miss (h:yS P kt kV vV w b M) (K:Keyed P kt) (i:P.underlying t=some (.map kt et)) (c:∀a b,kV a=kV b→a=b) {z:Value} (j:∀w,(zeroValue et).run P w=.ok z w) {k:κ} (f:∃l,keyOf P kt (kV k)=some l) (p:∀v,(k,v)∉M):
  (Instr.lookup t (.map (some b)) (kV k) true).run P w=.ok (.tuple #[z,.bool false]) w∧(Instr.lookup t (.map (some b)) (kV k) false).run P w=.ok z w:=by
 have g:∀d,(none:Option ι)=some d↔(k,d)∈M:=λd=>⟨λe=>(by cases e),λe=>absurd e (p d)⟩
 have m:=h.look K i c j f true g
 have n:=h.look K i c j f false g
 simpa using⟨m,n⟩
end
end Go
namespace Go
open Go.RowKit
section
variable {P:Program} {o:Oper} {w:World} {ev:Operand→Value} {ty:TypeId}
theorem y4 {z:Array Value} (a:o.op=.alloc ty) (b:(zeroValue ty).run P w=.ok (.agg z) w):(execOp ev o).run P w=.ok (.value (.pointer (some ⟨w.heap.size,0,none⟩))) (w.alloc (.cells z ty)):=by
 simp[execOp,a,Instr.alloc,b,Result.andThen,newVar,newRow,newObj,Value.cells,Sem.run]
theorem zM {b k:Nat} {c:Array Value} {T:TypeId} (a:w.heap[b]? =some (.cells c T (0,0))) (e:k≤c.size):w.there b 0 k:=λj d=>by
 simp only[World.cell?,World.frozen?,a,Nat.zero_add]
 rw[Array.getElem?_eq_getElem (by omega)]
 simp
theorem yE {b:Nat} {c:Array Value} {cs:List Value} {T:TypeId} (a:w.heap[b]? =some (.cells c T (0,0))) (d:c.size=cs.length):(w.setCells b 0 cs).rangeAt b 0 cs:=by
 have h:=yN b T cs 0 w c a
 have e:=qL cs [] c.toList [] (by simpa using d)
 simp only[List.nil_append,List.append_nil,List.length_nil] at e
 rw[e] at h
 have:=zm h
 simpa using this
theorem yl {t:TypeId} {v:Value} {parts:Array (Nat×Operand)} {vs:List (Nat×Value)} (a:o.op=.build t parts) (c:(parts.toList.map λ(i,x)=>(i,ev x))=vs) (b:(Instr.build t vs.toArray).run P w=.ok v w):(execOp ev o).run P w=.ok (.value v) w:=by
 have e:(parts.map λ(i,x)=>(i,ev x))=vs.toArray:=by rw[←c,←Array.toList_map,Array.toArray_toList]
 simp only[execOp,a,e,Sem.run_bind,b,Result.andThen_ok,Sem.run_pure]
theorem xM {w':World} {v:Value} {a:Act} {ops:Array Oper} {rest:List Oper} {Q:Exit→Act→World→Prop} (c:Region.wanted o (yielded ops a.tmps)=true) (b:(execOp a.eval o).run P w=.ok (.value v) w') (h:wpList P ops Q rest (a.put o.dst v) w'):wpList P ops Q (o::rest) a w:=by
 unfold wpList
 rw[if_pos c]
 exact .inl (yg b h)
theorem VE (w:World) {z1 z2:Array Value} {T1 T2:TypeId} {c1 c2:List Value} (f:z1.size=c1.length) (g:z2.size=c2.length):
  ((w.alloc (.cells z1 T1)).alloc (.cells z2 T2)).there w.heap.size 0 c1.length∧
  (((w.alloc (.cells z1 T1)).alloc (.cells z2 T2)).setCells w.heap.size 0 c1).there (w.heap.size+1) 0 c2.length∧
  ((((w.alloc (.cells z1 T1)).alloc (.cells z2 T2)).setCells w.heap.size 0 c1).setCells (w.heap.size+1) 0 c2).rangeAt w.heap.size 0 c1∧
  ((((w.alloc (.cells z1 T1)).alloc (.cells z2 T2)).setCells w.heap.size 0 c1).setCells (w.heap.size+1) 0 c2).rangeAt (w.heap.size+1) 0 c2∧
  Fr No w ((((w.alloc (.cells z1 T1)).alloc (.cells z2 T2)).setCells w.heap.size 0 c1).setCells (w.heap.size+1) 0 c2):=by
 have b:((w.alloc (.cells z1 T1)).alloc (.cells z2 T2)).heap[w.heap.size]? =some (.cells z1 T1 (0,0)):=((frN _).alloc _).obj (zS w (.cells z1 T1)) id
 have h:((w.alloc (.cells z1 T1)).alloc (.cells z2 T2)).heap[w.heap.size+1]? =some (.cells z2 T2 (0,0)):=xK (w.alloc (.cells z1 T1)) (.cells z2 T2) (n:=w.heap.size+1) (by simp)
 have c:=zv w.heap.size c1 0 ((w.alloc (.cells z1 T1)).alloc (.cells z2 T2))
 have a:=c.obj h (λe=>by omega)
 have d:=zv (w.heap.size+1) c2 0 (((w.alloc (.cells z1 T1)).alloc (.cells z2 T2)).setCells w.heap.size 0 c1)
 refine⟨zM b (Nat.le_of_eq f.symm),zM a (Nat.le_of_eq g.symm),zb (yE b f) d (λe=>by omega),yE a g,?_⟩
 exact((((frN w).alloc _).alloc _).trans c (λi hi e=>by omega)).trans d (λi hi e=>by omega)
theorem zR {fn:Func} {p u:Tmp} (h:fn.results= #[.cell p ty,.tmp u]) (tmps:Array Value) {g:Nat} {cs:List Value} {d:TypeDesc} {x:Value} (b:tmps.getD p undef=.pointer (some ⟨g,0,none⟩)) (c:w.rangeAt g 0 cs)
  (e:P.underlying ty=some d) (a:d.isRow=true) (hi:(P.info? ty).map (·.size)=some cs.length) (f:tmps.getD u undef=x):
  (results fn tmps).run P w=.ok (.tuple #[.agg cs.toArray,x]) w:=by
 rw[results_cell_tmp h,b,f]
 simp only[asAddr,Sem.run_pure,Result.andThen_ok,run_loadVar_mid w g 0 ty cs d c e a hi]
end
end Go
namespace Go
open Go.RowKit Go.Maps Go.MapKept
section
variable {P:Program} {kt et t:TypeId} {w:World} {b:Nat} {L:List (Value×Value)}
theorem xf.entry_hitM (K:Keyed P kt) (E:P.underlying t=some (.map kt et)) {i p:List (Value×Value)} {key g:Value} (h:xf P kt w b (i++(key,g)::p)) (D:∃l,keyOf P kt key=some l):
  ∃w' s,(Instr.mapEntry t (.map (some b)) key).run P w=.ok (.tuple #[g,.int .i64 s]) w'∧Entry P kt w' b i key p s∧jq b w w'∧xf P kt w' b (i++(key,g)::p):=by
 obtain⟨es,a,n,y,A,r,c⟩:=h
 obtain⟨l,u⟩:=D
 obtain⟨e,B,q,z,C⟩:=YU K w y c u r
 have d:es.modify i.length (λe=>{e with key:=key})=es:=by
  apply Array.ext_getElem?
  intro j
  rw[Array.getElem?_modify]
  split
  ·rename_i hj;subst hj;rw[q];simp[←z]
  ·rfl
 have f:(Instr.mapEntry t (.map (some b)) key).run P w=.ok (.tuple #[g,.int .i64 (e.born:Int)]) {w with heap:=w.heap.setIfInBounds b (.map es a)}:=by
  simp[Instr.mapEntry,run_underlying E,MapKept.run_getObj_map n,K.check w false u,B,q,z,C,K.stays w u,MapKept.run_setObj_map _ n,Result.andThen,goInt,d]
 exact⟨_,_,f,⟨es,a,e,qe n,y,A,⟨g,r⟩,c,q,rfl⟩,vY _ _ _,⟨es,a,qe n,y,A,r,c⟩⟩
theorem xf.entry_missM (K:Keyed P kt) (E:P.underlying t=some (.map kt et)) {z:Value} (F:∀w,(zeroValue et).run P w=.ok z w) (h:xf P kt w b L) {key:Value} (D:∃l,keyOf P kt key=some l) (r:∀p∈L,p.1≠key) (c:L.length<maxLen):
  ∃w' s,(Instr.mapEntry t (.map (some b)) key).run P w=.ok (.tuple #[z,.int .i64 s]) w'∧Entry P kt w' b L key [] s∧jq b w w'∧xf P kt w' b (L++[(key,z)]):=by
 obtain⟨es,a,i,B,G,rfl,d⟩:=h
 obtain⟨l,q⟩:=D
 rcases K.find w q es.toList d with⟨A,g⟩|⟨j,e,A,g,C⟩
 ·have f:(Instr.mapEntry t (.map (some b)) key).run P w=.ok (.tuple #[z,.int .i64 (a:Int)]) {w with heap:=w.heap.setIfInBounds b (.map (es.push {key,val:=z,born:=a}) (a+1))}:=by
   simp[Instr.mapEntry,run_underlying E,MapKept.run_getObj_map i,K.check w false q,A,F,MapKept.run_setObj_map _ i,Result.andThen,goInt]
  have u:(es.push {key,val:=z,born:=a}).size≤maxLen:=by simp[kv] at c⊢;omega
  have y:∀e∈(es.push {key,val:=z,born:=a}).toList,∃l,keyOf P kt e.key=some l:=by
   intro e n
   simp only[Array.toList_push,List.mem_append,List.mem_singleton] at n
   rcases n with n|rfl
   ·exact d e n
   ·exact⟨l,q⟩
  refine⟨_,_,f,⟨_,_,⟨key,z,a⟩,qe i,stamped_push B g,u,⟨z,by simp[kv]⟩,y,?_,rfl⟩,vY _ _ _,⟨_,_,qe i,stamped_push B g,u,by simp[kv],y⟩⟩
  simp[kv]
 ·exact absurd C (r _ (zaH (List.mem_of_getElem? g)))
end
section
variable {P:Program} {kt et t:TypeId} {w:World} {b:Nat} {κ ι:Type} {kV:κ→Value} {vV:ι→Value} {M:List (κ×ι)}
theorem yS.bump (h:yS P kt kV vV w b M) (K:Keyed P kt) (H:P.underlying t=some (.map kt et)) (j:∀a b,kV a=kV b→a=b) {z:ι} (O:∀w,(zeroValue et).run P w=.ok (vV z) w) {k:κ} (E:∃l,keyOf P kt (kV k)=some l) (room:M.length<maxLen):
  ∃(d:ι) (i:World) (s:Int) (M1:List (κ×ι)),(d=z∨(k,d)∈M)∧(Instr.mapEntry t (.map (some b)) (kV k)).run P w=.ok (.tuple #[vV d,.int .i64 s]) i∧jq b w i∧yS P kt kV vV i b M1∧
   (∀w',yS P kt kV vV w' b M→(Instr.lookup t (.map (some b)) (kV k) false).run P w'=.ok (vV d) w')∧
   (∀w',yS P kt kV vV w' b M1→(Instr.lookup t (.map (some b)) (kV k) false).run P w'=.ok (vV d) w')∧
   (∀(v:ι) (N:World) (W:Nat→Prop),Fr W i N→¬W b→∃n Q,(Instr.entryStore t (.map (some b)) (.int .i64 s) (vV v)).run P N=.ok () n∧yS P kt kV vV n b Q∧Upd M k v Q∧jq b N n∧Q.length≤M.length+1):=by
 by_cases hin:∃d,(k,d)∈M
 ·obtain⟨d,V⟩:=hin
  obtain⟨A,B,rfl⟩:=List.append_of_mem V
  have h0:=h
  unfold yS at h
  rw[List.map_append,List.map_cons] at h
  obtain⟨i,s,hr,R,T,S⟩:=xf.entry_hitM K H h E
  have r:yS P kt kV vV i b (A++(k,d)::B):=by unfold yS;rw[List.map_append,List.map_cons];exact S
  have F:∀w',yS P kt kV vV w' b (A++(k,d)::B)→(Instr.lookup t (.map (some b)) (kV k) false).run P w'=.ok (vV d) w':=λw' D=>(D.hit K H j O E V).2
  refine⟨d,i,s,_,.inr V,hr,T,r,F,F,λv N W f U=>?_⟩
  obtain⟨n,C,u,y⟩:=(R.keep f U).store t (vV v)
  have g:yS P kt kV vV n b (A++(k,v)::B):=by unfold yS;rw[List.map_append,List.map_cons];exact u
  refine⟨n,_,C,g,?_,y,by simp⟩
  have G:=h0.nodup
  rw[List.map_append,List.map_cons] at G
  obtain⟨n1,n2,n3⟩:=List.nodup_append.1 G
  obtain⟨n4,n5⟩:=List.nodup_cons.1 n2
  have X:∀x,(k,x)∉A:=λx I=>n3 k (List.mem_map.2 ⟨_,I,rfl⟩) k (by simp) rfl
  have Y:∀x,(k,x)∉B:=λx I=>n4 (List.mem_map.2 ⟨_,I,rfl⟩)
  intro k' v'
  simp only[List.mem_append,List.mem_cons,Prod.mk.injEq]
  constructor
  ·rintro(c|c|c)
   ·exact .inr ⟨λe=>X _ (e▸c),.inl c⟩
   ·exact .inl c
   ·exact .inr ⟨λe=>Y _ (e▸c),.inr (.inr c)⟩
  ·rintro(c|⟨c,q|q|q⟩)
   ·exact .inr (.inl c)
   ·exact .inl q
   ·exact absurd q.1 c
   ·exact .inr (.inr q)
 ·have Z:∀v,(k,v)∉M:=λv hv=>hin ⟨v,hv⟩
  obtain⟨i,s,hr,R,T,S⟩:=xf.entry_missM K H O h E (λp hp e=>by
   obtain⟨x,I,rfl⟩:=List.mem_map.1 hp
   exact hin ⟨x.2,by rw[←j _ _ e];exact I⟩) (by simpa using room)
  have r:yS P kt kV vV i b (M++[(k,z)]):=by unfold yS;rw[List.map_append];exact S
  refine⟨z,i,s,_,.inl rfl,hr,T,r,λw' D=>(D.miss K H j O E Z).2,λw' D=>(D.hit K H j O E (v:=z) (by simp)).2,λv N W f U=>?_⟩
  obtain⟨n,C,u,y⟩:=(R.keep f U).store t (vV v)
  have g:yS P kt kV vV n b (M++[(k,v)]):=by unfold yS;rw[List.map_append];exact u
  refine⟨n,_,C,g,?_,y,by simp⟩
  intro k' v'
  simp only[List.mem_append,List.mem_singleton,Prod.mk.injEq]
  constructor
  ·rintro(c|c)
   ·exact .inr ⟨λe=>hin ⟨v',e▸c⟩,c⟩
   ·exact .inl c
  ·rintro(c|⟨_,q⟩)
   ·exact .inr c
   ·exact .inl q
variable {o:Oper} {w':World} {ev:Operand→Value} {m k x:Operand} {mv kv' xv v:Value}
theorem YF (d:o.op=.mapEntry t m k) (c:ev m=mv) (a:ev k=kv') (e:(Instr.mapEntry t mv kv').run P w=.ok v w'):(execOp ev o).run P w=.ok (.value v) w':=by
 simp only[execOp,d,c,a,Sem.run_bind,e,Result.andThen_ok,Sem.run_pure]
theorem ZN {i:Operand} {a:Value} (d:o.op=.entryStore t m i x) (c:ev m=mv) (hi:ev i=a) (f:ev x=xv) (e:(Instr.entryStore t mv a xv).run P w=.ok () w'):(execOp ev o).run P w=.ok .skip w':=by
 simp only[execOp,d,c,hi,f,Sem.run_bind,e,Result.andThen_ok,Sem.run_pure]
end
end Go
namespace Go
open Go.RowKit Go.Maps Go.MapKept Go.Sort Go.Proofs
theorem Fr.growW {W:Nat→Prop} {a b:World} (h:Fr W a b) (os:Array Obj):Fr W a (grow b os):=
 ⟨h.os,h.tape,h.output,by rw[size_grow];have:=h.size;omega,λi hi c=>by rw[heap_grow_old b os (Nat.lt_of_lt_of_le hi h.size)];exact h.block i hi c⟩
theorem zaN {w:World} {B n k:Nat} {T:TypeId} {v:Value} {xs:List Value} (h:w.ownsRow B T k v n xs) (os:Array Obj):(grow w os).ownsRow B T k v n xs:=
 zf h ((frN w).growW os) (λ_ _=>id)
theorem zcU {w:World} {B n k:Nat} {T:TypeId} {g a:Nat} {xs cs:List Value} (h:w.ownsRow B T k (.slice (some ⟨g,0,none⟩) n a) n xs) (c:cs.length=n*k):
  (w.setCells g 0 cs).ownsRow B T k (.slice (some ⟨g,0,none⟩) n a) n cs:=by
 rcases h.2 with⟨e,_⟩|⟨r,d,b,e,j,m,f,o,i,q⟩
 ·cases e
 ·injection e with e1 e2 e3
  injection e1 with e1
  injection e1 with e4 e5
  subst e4 e3
  have l:n*k≤a*k:=Nat.mul_le_mul_right _ f
  have p:b.toList.length=a*k:=by rw[Array.length_toList,i]
  refine⟨c,.inr ⟨g,a,(setM b.toList 0 cs).toArray,rfl,j,yN g T cs 0 w b m,f,o,?_,?_⟩⟩
  ·rw[List.size_toArray,Xj,Array.length_toList,i]
  ·rw[XN _ _ _ _ (by rw[c];omega) (by omega),q]
   have:=qL cs [] xs [] (by rw[h.1,c])
   simpa using this
theorem J7 {w:World} {B n k:Nat} {T:TypeId} {g a:Nat} {xs cs:List Value} (h:w.ownsRow B T k (.slice (some ⟨g,0,none⟩) n a) n xs) (o:Nat) (j:o+cs.length≤n*k):
  (w.setCells g o cs).ownsRow B T k (.slice (some ⟨g,0,none⟩) n a) n (setM xs o cs):=by
 rcases h.2 with⟨e,_⟩|⟨s,c,b,e,i,m,d,p,f,r⟩
 ·cases e
 ·injection e with e1 e2 e3
  injection e1 with e1
  injection e1 with e4 e5
  subst e4 e3
  have l:n*k≤a*k:=Nat.mul_le_mul_right _ d
  have q:b.toList.length=a*k:=by rw[Array.length_toList,f]
  refine⟨by rw[Xj,h.1],.inr ⟨g,a,(setM b.toList o cs).toArray,rfl,i,yN g T cs o w b m,d,p,?_,?_⟩⟩
  ·rw[List.size_toArray,Xj,Array.length_toList,f]
  ·rw[XN _ _ _ _ j (by omega),r]
theorem Vv (xs cs:List Value) (o:Nat) (h:o+cs.length≤xs.length):(setM xs o cs).take (o+cs.length)=xs.take o++cs:=by
 have e:xs=xs.take o++(xs.drop o).take cs.length++(xs.drop o).drop cs.length:=by
  rw[List.append_assoc,List.take_append_drop,List.take_append_drop]
 have a:(xs.take o).length=o:=by rw[List.length_take];omega
 have b:=qL cs (xs.take o) ((xs.drop o).take cs.length) ((xs.drop o).drop cs.length) (by rw[List.length_take,List.length_drop];omega)
 rw[a,←e] at b
 rw[b,List.take_append_of_le_length (by rw[List.length_append,a];omega)]
 exact List.take_of_length_le (by rw[List.length_append,a];omega)
section
variable {α:Type} [Inhabited α] (enc:α→List Value) (k:Nat) (hk:∀x,(enc x).length=k)
include hk
theorem QV (L:List α):(flatK enc k L.toArray).toList=L.flatMap enc:=by
 apply List.ext_getElem?
 intro t
 have j:(L.flatMap enc).length=L.length*k:=qU enc k L (λx _=>hk x)
 by_cases ht:t<L.length*k
 ·have i:0<k:=by rcases Nat.eq_zero_or_pos k with h|h;(subst h;simp at ht);exact h
  have d:t / k<L.length:=Nat.div_lt_of_lt_mul (by rw[Nat.mul_comm];exact ht)
  have e:t % k<k:=Nat.mod_lt _ i
  have a:=get_flatK enc k L.toArray t (by simpa using ht)
  have b:=JY enc k L (λx _=>hk x) (t / k) L[t / k] (List.getElem?_eq_getElem d) (t % k) e
  rw[Nat.div_add_mod' t k] at b
  rw[b]
  have f:t<(flatK enc k L.toArray).size:=by simpa using ht
  rw[getElem!_pos _ t f] at a
  rw[Array.getElem?_toList,Array.getElem?_eq_getElem f,a]
  have g:L.toArray[t / k]! =L[t / k]:=by rw[getElem!_pos L.toArray (t / k) (by simpa using d)];simp
  rw[g]
  have c:t % k<(enc L[t / k]).length:=by rw[hk];exact e
  rw[getElem!_pos (enc L[t / k]) (t % k) c,List.getElem?_eq_getElem c]
 ·rw[List.getElem?_eq_none (by simp;omega),List.getElem?_eq_none (by omega)]
theorem zaf {w:World} {B:Nat} {T:TypeId} {g b:Nat} {L:List α} (h:w.ownsRow B T k (.slice (some ⟨g,0,none⟩) L.length b) L.length (L.flatMap enc)):HoldsK enc k w g 0 L.toArray:=by
 rcases h.2 with⟨e,_⟩|⟨s,i,a,e,t,m,q,u,v,r⟩
 ·cases e
 ·injection e with e1 e2 e3
  injection e1 with e1
  injection e1 with e4 e5
  subst e4 e3
  intro j d
  have f:j<L.length*k:=by simpa using d
  have p:L.length*k≤b*k:=Nat.mul_le_mul_right _ q
  have c:j<a.size:=by omega
  have n:(flatK enc k L.toArray)[j]! =a[j]:=by
   rw[getElem!_pos _ j d]
   have o:=QV enc k hk L
   have l:(flatK enc k L.toArray).toList[j]? =some a[j]:=by
    rw[o,←r,List.getElem?_take_of_lt f,Array.getElem?_toList,Array.getElem?_eq_getElem c]
   rw[Array.getElem?_toList,Array.getElem?_eq_getElem d] at l
   exact Option.some.inj l
  rw[Nat.zero_add,n]
  refine⟨?_,?_⟩
  ·simp only[World.cell?,m]
   exact Array.getElem?_eq_getElem c
  ·simp only[World.frozen?,m]
   simp
theorem zaU {w:World} {g:Nat} {d a:Array α} (h:HoldsK enc k w g 0 d) (b:a.size=d.size) (m:Nat) (os:Array Obj):
  sortWorldK enc k w g 0 m a os=grow ((Go.Sort.ahead w m).setCells g 0 (a.toList.flatMap enc)) os:=by
 unfold sortWorldK putRowK
 have l:putRow id (Go.Sort.ahead w m) g 0 (flatK enc k d)=Go.Sort.ahead w m:=putRow_self id _ g 0 _ h
 have j:((a.toList).flatMap enc).length=d.size*k:=by rw[qU enc k _ (λx _=>hk x),Array.length_toList,b]
 have f:=setCells_putRow (Go.Sort.ahead w m) g 0 (a.toList.flatMap enc) 0 (flatK enc k d) (by rw[size_flatK,j];omega)
 rw[Nat.add_zero,l] at f
 rw[f]
 congr 2
 refine ext_get! (by simp[b]) λt c=>?_
 have e:t<a.size*k:=by simpa using c
 rw[get_setMany _ _ _ t (by simpa[b] using e),if_pos ⟨Nat.zero_le _,by rw[j,←b];omega⟩,Nat.sub_zero]
 have i:=QV enc k hk a.toList
 rw[Array.toArray_toList] at i
 rw[←i]
 rw[getElem!_pos _ t c,getElem!_pos _ t (by simpa using c),Array.getElem_toList]
theorem zc9 {w:World} {B:Nat} {T:TypeId} {g a:Nat} {L:List α} {b:Array α} (h:w.ownsRow B T k (.slice (some ⟨g,0,none⟩) L.length a) L.length (L.flatMap enc)) (c:b.size=L.length) (m:Nat) (os:Array Obj):
  (sortWorldK enc k w g 0 m b os).ownsRow B T k (.slice (some ⟨g,0,none⟩) L.length a) L.length (b.toList.flatMap enc)∧Fr (λj=>j=g) w (sortWorldK enc k w g 0 m b os):=by
 rw[zaU enc k hk (zaf enc k hk h) (by simpa using c) m os]
 have d:(Go.Sort.ahead w m).ownsRow B T k (.slice (some ⟨g,0,none⟩) L.length a) L.length (L.flatMap enc):=h
 exact⟨zaN (zcU d (by rw[qU enc k _ (λx _=>hk x),Array.length_toList,c])) os,((Fr.drewN (Fr.refl _ w) m).trans (zv g _ 0 (Go.Sort.ahead w m)) (λ_ _ h=>h)).growW os⟩
end
theorem sorted_perm {α β:Type} [Inhabited α] (f:α→β) {o:α→α→Bool} {r:β→β→Bool} (A:∀x y,o x y=r (f x) (f y)) {d e:Array α} {S:List β} (z:PermIn 0 d.size d e) (B:SortedIn o 0 d.size e) (hS:S.Perm (d.toList.map f)) (q:S.Pairwise (λa b=>r b a=false)) (u:∀a∈S,∀b∈S,r a b=false→r b a=false→a=b):e.toList.map f=S:=by
 obtain⟨h,_,c⟩:=z
 have p:e.extract 0 d.size=e:=by rw[←h];exact Array.extract_size
 rw[p,Array.extract_size] at c
 have g:(e.toList.map f).Perm S:=(c.map f).trans hS.symm
 refine List.Perm.eq_of_pairwise (le:=λx y=>r y x=false) ?_ ?_ q g
 ·intro a b v w s t
  exact u a (g.mem_iff.1 v) b w t s
 ·rw[List.pairwise_map,List.pairwise_iff_getElem]
  intro i j hi n l
  have m:=B i j (Nat.zero_le _) l (by rw[←h];simpa using n)
  rw[getElem!_pos _ i (by simpa using hi),getElem!_pos _ j (by simpa using n),A] at m
  simpa using m
theorem zai {α:Type} {q:α→Prop}:∀(H:List α),(∀h∈H,q h)→∃L:List {h:α // q h},L.map Subtype.val=H
 |[],_=>⟨[],rfl⟩
 |h::H,ok=>by
  obtain⟨L,a⟩:=zai H (λx b=>ok x (List.mem_cons_of_mem _ b))
  exact⟨⟨h,ok h (List.mem_cons_self ..)⟩::L,by rw[List.map_cons,a]⟩
end Go
namespace Go
section
variable {P:Program} {ops:Array Oper} {S:World→Prop}
def qR (ops:Array Oper) (L:List Nat) (i:Nat):Bool:=L.all λk=> !Region.waitsFor .any ops i k
def ZQ (P:Program) (ops:Array Oper) (eff:List Nat) (S:World→Prop) (Q:Act→World→Prop):Nat→List Nat→Act→World→Prop
 |0,_,a,w=>Q a w
 |n+1,L,a,w=>
  (∃i o v,i∈L∧qR ops L i=true∧ops[i]? =some o∧YieldsIf P ops S o v a∧ZQ P ops eff S Q n (L.erase i) (a.put o.dst v) w)∨
  (∀j∈L,qR ops L j=true→∃o,ops[j]? =some o∧Region.wanted o (yielded ops a.tmps)=true∧o.wp P a w (λa' w'=>S w'∧ZQ P ops eff S Q n (L.erase j) a' w') NoQ)
def Zz (ops:Array Oper):Bool:=
 Region.noSelect ops && J5 ops &&
 ((List.range ops.size).all λi=>(List.range ops.size).all λj=>decide (j<i)|| !Region.waitsFor .any ops i j) &&
 ((List.range ops.size).all λj=>(ops[j]?).any λo=>o.after.all λe=> !Region.binds .any e||decide (e.on<ops.size))
theorem zcN {eff:List Nat} (hok:Zz ops=true) {Q:Exit→Act→World→Prop} (hQ:∀c a d v w,Q (.panic c) (Act.put a d v) w→Q (.panic c) a w):
  ∀(n:Nat) (listed:Array Bool) (a:Act) (w:World),listed.size=ops.size→(unl ops listed).length=n→S w→
   ZQ P ops eff S (Q .normal) n (unl ops listed) a w→wpAnyH P .any ops Q S n listed a w:=by
 simp only[Zz,Bool.and_eq_true] at hok
 obtain⟨⟨⟨ao,af⟩,aa⟩,ah⟩:=hok
 have ad:=Region.noSelect_spec ao
 have Y:∀(i:Nat) (B:Oper),ops[i]? =some B→∀e∈B.after,Region.binds .any e=true→e.on<ops.size:=λi B f e t F=>by
  have A:=List.all_eq_true.1 ah i (List.mem_range.2 (Array.getElem?_eq_some_iff.1 f).1)
  rw[f] at A
  have h3:=Array.all_eq_true'.1 A e t
  simpa only[F,Bool.not_true,Bool.false_or,decide_eq_true_eq] using h3
 have V:∀i j,i<ops.size→Region.waitsFor .any ops i j=true→j<i:=λi j hi hw=>by
  obtain⟨B,f,e,t,F,Z⟩:=Region.waitsFor_spec hw
  have h4:=List.all_eq_true.1 (List.all_eq_true.1 aa i (List.mem_range.2 hi)) j (List.mem_range.2 (Z▸Y i B f e t F))
  simpa[hw] using h4
 intro n
 induction n with
 |zero=>
  intro listed a w s h hS H
  have X:unl ops listed=[]:=List.eq_nil_of_length_eq_zero h
  refine⟨?_,H⟩
  by_cases hr:Region.ready .any ops listed=[]
  ·exact hr
  ·obtain⟨j,q⟩:=List.exists_mem_of_ne_nil _ hr
   obtain⟨G,o,ho,_⟩:=mem_ready.1 q
   have:j∈unl ops listed:=List.mem_filter.2 ⟨List.mem_range.2 (Array.getElem?_eq_some_iff.1 ho).1,by rw[G];rfl⟩
   rw[X] at this
   cases this
 |succ n ih=>
  intro listed a w s h hS H
  have g:∀ {j},j∈unl ops listed↔j<ops.size∧listed.getD j true=false:=fun {j}=>by
   unfold unl
   rw[List.mem_filter,List.mem_range]
   simp
  have ae:∀ {j},j∈Region.ready .any ops listed→j∈unl ops listed:=fun {j} q=>by
   obtain⟨G,o,ho,_⟩:=mem_ready.1 q
   exact g.2 ⟨(Array.getElem?_eq_some_iff.1 ho).1,G⟩
  have next:∀j,j∈unl ops listed→∀E w',S w'→ZQ P ops eff S (Q .normal) n ((unl ops listed).erase j) E w'→wpAnyH P .any ops Q S n (listed.setIfInBounds j true) E w':=λj q E w' C D=>by
   refine ih _ E w' (by simp[s]) ?_ C (by rw[vW s];exact D)
   rw[vW s,List.length_erase_of_mem q,h]
   rfl
  have b:∀j,j∈Region.ready .any ops listed→∀k,k∈unl ops listed→Region.waitsFor .any ops j k=false:=λj q k y=>by
   obtain⟨_,oj,p,O⟩:=mem_ready.1 q
   refine xD p λe t F ag=>?_
   have I:=O e t F
   rw[ag] at I
   have A:=(g.1 y).2
   have ak:k<listed.size:=by rw[s];exact(g.1 y).1
   simp[ak] at I A
   rw[I] at A
   cases A
  have l:∀i,i∈unl ops listed→qR ops (unl ops listed) i=true→i∈Region.ready .any ops listed:=λi hi M=>by
   have R:=g.1 hi
   obtain⟨B,f⟩:∃o,ops[i]? =some o:=⟨_,Array.getElem?_eq_getElem R.1⟩
   refine mem_ready.2 ⟨R.2,B,f,λe t F=>?_⟩
   have I:=Y i B f e t F
   cases D:listed.getD e.on true with
   |true=>
    have:e.on<listed.size:=by rw[s];exact I
    simp[this] at D⊢
    exact D
   |false=>
    have A:=List.all_eq_true.1 M e.on (g.2 ⟨I,D⟩)
    have h3:Region.waitsFor .any ops i e.on=true:=by
     unfold Region.waitsFor
     rw[f]
     exact Array.any_eq_true'.2 ⟨e,t,by simp[F]⟩
    rw[h3] at A
    cases A
  have z:∀j,j∈Region.ready .any ops listed→qR ops (unl ops listed) j=true:=λj q=>
   List.all_eq_true.2 λk y=>by rw[b j q k y];rfl
  rcases H with⟨i,B,v,hi,M,f,hy,D⟩|H
  ·have U:=l i hi M
   refine wpAnyH_first f ad (λc a w=>hQ c a B.dst v w) n listed a w (λj oj p aj aq an=>?_) U hy hS (next i hi _ _ hS D)
   have ai:=g.2 ⟨(Array.getElem?_eq_some_iff.1 p).1,aq⟩
   exact qf af f p (λe=>aj e.symm) (xD p an) (b i U j ai)
  ·have al:Region.ready .any ops listed≠[]:=by
    obtain⟨i,L,hiL⟩:∃i L,unl ops listed=i::L:=by
     cases hu:unl ops listed with
     |nil=>rw[hu] at h;cases h
     |cons i L=>exact⟨i,L,rfl⟩
    have ab:=Yi (ops:=ops) listed
    have T:i∈unl ops listed:=by rw[hiL];simp
    have W:∀k,k∈unl ops listed→i≤k:=λk y=>by
     rw[hiL] at y ab
     rcases List.mem_cons.1 y with rfl|y
     ·exact Nat.le_refl _
     ·exact Nat.le_of_lt ((List.pairwise_cons.1 ab).1 k y)
    have:=l i T (List.all_eq_true.2 λk y=>by
     cases hw:Region.waitsFor .any ops i k with
     |false=>rfl
     |true=>have I:=V i k (g.1 T).1 hw;have A:=W k y;omega)
    exact λG=>by rw[G] at this;cases this
   refine⟨λG=>absurd G al,λj q=>?_⟩
   obtain⟨oj,p,ar,au⟩:=H j (ae q) (z j q)
   unfold wpOp
   rw[p]
   simp only[ar,if_true]
   refine .inl ?_
   have N:=Oper.wp_mono (K':=λE w'=>S w'∧wpAnyH P .any ops Q S n (listed.setIfInBounds j true) E w') (λE w' ⟨C,D⟩=>⟨C,next j (ae q) E w' C D⟩) au
   unfold Oper.wp at N⊢
   generalize (execOp a.eval oj).run P w=r at*
   cases r with
   |ok m w'=>
    cases m<;>simp only[Oper.upon] at N⊢ <;>first
     |exact N
     |exact Calls.mono N (λe av t=>by
       cases e with
       |returned u=>exact t
       |panicked c=>exact t.elim
       |outgrown=>obtain⟨_,_,hf⟩:=t;exact hf.elim)
   |halt x w'=>cases x<;>simp only[Oper.upon] at N⊢ <;>exact N.elim
theorem jH {id:Nat} {a:Act} {w:World} {Q:Exit→Act→World→Prop} {l:List Oper} (n:Nat) (L:List Nat) (S:World→Prop) (e:P.follows .mixedOrders=true) (hok:Zz l.toArray=true) (f:l.length=n) (d:List.range n=L)
  (hS:S w.drew)
  (h:∀K:Act→World→Prop,Shut (∀a w,Q .normal a w→K a w)→ZQ P l.toArray [] S K n L a w.drew):(Code.region id l.toArray true).wp P Q a w:=by
 refine wp_region_noPanic (wp_region_held (S:=S) e ?_)
 have c:unl l.toArray (Array.replicate l.toArray.size false)=List.range l.toArray.size:=by
  unfold unl
  rw[List.filter_eq_self]
  intro i hi
  have:=List.mem_range.1 hi
  simp at this
  simp[this]
 have b:l.toArray.size=n:=by simpa using f
 refine zcN (eff:=[]) hok (λ_ _ _ _ _ h=>h) _ _ a _ (by simp) (by rw[c];simp) hS (by rw[c,b,d];exact h _ (λ_ _ h=>h))
section
variable {K:Act→World→Prop} {a:Act} {w:World} {n:Nat} {L:List Nat} {o:Oper}
theorem j7 (h:K a w):ZQ P ops [] S K 0 L a w:=h
theorem y5 (i:Nat) (b:(L.contains i && qR ops L i)=true) (c:ops.toList[i]? =some o) (d:Region.wanted o (yielded ops a.tmps)=true) (h:∃v,(∀w,S w→(execOp a.eval o).run P w=.ok (.value v) w)∧ZQ P ops [] S K n (L.erase i) (a.put o.dst v) w):ZQ P ops [] S K (n+1) L a w:=by
 simp only[Bool.and_eq_true,List.contains_iff_mem] at b
 obtain⟨v,e,h⟩:=h
 exact .inl ⟨i,o,v,b.1,b.2,by simpa using c,.inl ⟨d,e⟩,h⟩
theorem y6 (i:Nat) (b:(L.contains i && qR ops L i)=true) (c:ops.toList[i]? =some o) (d:Region.wanted o (yielded ops a.tmps)=false) (h:ZQ P ops [] S K n (L.erase i) (a.put o.dst undef) w):ZQ P ops [] S K (n+1) L a w:=by
 simp only[Bool.and_eq_true,List.contains_iff_mem] at b
 exact .inl ⟨i,o,undef,b.1,b.2,by simpa using c,.inr ⟨d,rfl⟩,h⟩
theorem zdu (g:List Nat) (k:L.filter (qR ops L)=g) (h:∀j∈g,∃o,ops[j]? =some o∧Region.wanted o (yielded ops a.tmps)=true∧∀K',Shut (∀e w',S w'→(S w'→ZQ P ops [] S K n (L.erase j) e w')→K' e w')→o.wp P a w K' NoQ):ZQ P ops [] S K (n+1) L a w:=by
 refine .inr λj c b=>?_
 obtain⟨o,l,m,d⟩:=h j (by rw[←k];exact List.mem_filter.2 ⟨c,b⟩)
 exact⟨o,l,m,d _ (λ_ _ f i=>⟨f,i f⟩)⟩
theorem qq (j:Nat) (d:L.filter (qR ops L)=[j]) (e:ops.toList[j]? =some o) (f:Region.wanted o (yielded ops a.tmps)=true) (h:∀K',Shut (∀c w',S w'→(S w'→ZQ P ops [] S K n (L.erase j) c w')→K' c w')→o.wp P a w K' NoQ):ZQ P ops [] S K (n+1) L a w:=
 zdu [j] d (λg b=>by
  have:=List.mem_singleton.1 b
  subst this
  exact⟨o,by simpa using e,f,h⟩)
theorem Xb (j k:Nat) {d:Oper} (i:L.filter (qR ops L)=[j,k]) (l:ops.toList[j]? =some o) (m:Region.wanted o (yielded ops a.tmps)=true) (e:ops.toList[k]? =some d) (f:Region.wanted d (yielded ops a.tmps)=true)
  (h:∀K',Shut (∀c w',S w'→(S w'→ZQ P ops [] S K n (L.erase j) c w')→K' c w')→o.wp P a w K' NoQ)
  (g:∀K',Shut (∀c w',S w'→(S w'→ZQ P ops [] S K n (L.erase k) c w')→K' c w')→d.wp P a w K' NoQ):ZQ P ops [] S K (n+1) L a w:=
 zdu [j,k] i (λp b=>by
  rcases List.mem_cons.1 b with rfl|b
  ·exact⟨o,by simpa using l,m,h⟩
  ·have:=List.mem_singleton.1 b
   subst this
   exact⟨d,by simpa using e,f,g⟩)
end
end
attribute [irreducible] ZQ
end Go
