/- pappuslaw13: what PoolApart and PoolPays say, plain. -/
import Derived.Test.YtbcllfjmabiafaaGreatDoorPG28
set_option linter.unusedVariables false
set_option linter.unusedSimpArgs false
set_option linter.unnecessarySimpa false
set_option linter.all false
set_option maxRecDepth 20000
set_option maxHeartbeats 16000000
namespace Go.Proofs.YtbcllfjmabiafaaGreatDoor
open Go Go.RowKit Go.Maps Go.MapKept
open Go.Proofs.Tryz(prog)
open List(mem_flatMap)
section
theorem zaX:vU prog 58=[(42,0,true),(45,1,true)]:=by kernel_rfl
theorem zlL {x:Int} (h:0≤x∧x≤18446744073709551615):(Lit.int .u64 x).wf=true:=by
 simp[Lit.wf,IntKind.min,IntKind.max,IntKind.signed,IntKind.bits]
 omega
theorem ziv {o:yC} (h:o.ok) (d:Nat):∀x∈vU prog 58,∃l,prog.keyLits (d+2) x.1 (((zF o).drop x.2.1).take (prog.cellsOf x.1))=some l:=by
 rw[zaX]
 intro x a
 simp only[List.mem_cons,List.not_mem_nil,or_false] at a
 rcases a with rfl|rfl
 ·have e:((zF o).drop 0).take (prog.cellsOf 42)=[.int .u64 o.value]:=by
   rw[show prog.cellsOf 42=1 by kernel_rfl];rfl
  simp only[e]
  exact⟨_,Y4 (by kernel_rfl) _ (zlL h.1)⟩
 ·have e:((zF o).drop 1).take (prog.cellsOf 45)=o.lock.map zQ:=by
   rw[show prog.cellsOf 45=32 by kernel_rfl]
   show(o.lock.map zQ).take 32=o.lock.map zQ
   rw[List.take_of_length_le (by simp[h.2.1])]
  simp only[e]
  exact zb9 h.2 d
theorem zdp {o:yC} (h:o.ok):∃l,keyOf prog 58 (zcP o)=some l:=by
 have a:prog.types.size=prog.types.size-2+2:=by kernel_rfl
 refine Y5 zaX (by simp) (by decide) (by kernel_rfl) (cs:=zF o) (by rw[yq h];kernel_rfl) ?_
 rw[a,←zaX]
 exact ziv h _
theorem zms:EqN prog 58:=⟨Keyed.of_law (deep_law_laid V3 (m:=3) (by decide) (of_decide_eq_true (by kernel_rfl)) (by kernel_rfl) (by kernel_rfl)),⟨3,by decide,by kernel_rfl⟩,by kernel_rfl,by kernel_rfl⟩
end
def Vr (L:List zL):List zx:=L.flatMap λe=>z6 e.tx
def Jb (L:List zL):List zn:=L.flatMap λe=>yN e.tx
section
variable {S:List zn} {I:List zf} {L:List zL}
theorem xy.pts (h:xy S I L):(Vr L).Nodup:=by
 show List.Pairwise (· ≠ ·) (L.flatMap λe=>z6 e.tx)
 rw[List.pairwise_flatMap]
 exact⟨λe b=>(jd (h.ent e b).1).2.2.2.1,h.apart.imp (λa x c y d e=>a x c (by rw[e];exact d))⟩
theorem zj8 (k:Nat) {e:zL} (h:L[k]? =some e):Vr (L.take (k+1))=Vr (L.take k)++z6 e.tx:=by
 rw[List.take_add_one,h]
 simp[Vr]
theorem zf8 (k:Nat) {e:zL} (h:L[k]? =some e):Jb (L.take (k+1))=Jb (L.take k)++yN e.tx:=by
 rw[List.take_add_one,h]
 simp[Jb]
theorem zlD (h:(Vr L).Nodup) (k:Nat):(Vr (L.take k)).Nodup:=by
 have e:=congrArg (λl=>l.flatMap (λe=>z6 e.tx)) (List.take_append_drop k L)
 simp only[List.flatMap_append] at e
 unfold Vr at h⊢
 rw[←e] at h
 exact(List.nodup_append.1 h).1
theorem zd4 {α β:Type} {f:α→List β} {b:Nat}:∀ {l:List α},(∀e∈l,(f e).length≤b)→(l.flatMap f).length≤b*l.length
 |[],_=>by simp
 |a::l,h=>by
  have d:=h a (List.mem_cons_self ..)
  have g:=zd4 (l:=l) (f:=f) (b:=b) (λe c=>h e (List.mem_cons_of_mem _ c))
  rw[List.flatMap_cons,List.length_append,List.length_cons,Nat.mul_add]
  omega
theorem xy.finds (h:xy S I L) {e:zL} (a:e∈L) {c:zn} (f:c∈yN e.tx):yS L c.at_=some c.out:=by
 obtain⟨i,b,d⟩:=vO.1 f
 rw[d]
 exact ZK h.nd a (h.ent e a).2.1 (by simpa using b)
theorem zj7 {a PS:List zx} {i j:Nat} {q o:zx} (h:(a++PS).Nodup) (f:(a++PS)[a.length+j]? =some q) (b:(a++PS.take j)[i]? =some o) (hi:i<a.length+j):¬(zm q).toArray=(zm o).toArray:=λe=>by
 have d:q=o:=Vo (Array.mk.inj e)
 have c:(a++PS)[i]? =some o:=by
  by_cases hi0:i<a.length
  ·rw[List.getElem?_append_left hi0] at b⊢
   exact b
  ·rw[List.getElem?_append_right (by omega),List.getElem?_take] at b
   rw[List.getElem?_append_right (by omega)]
   split at b
   ·exact b
   ·cases b
 have g:=(List.getElem?_inj (List.getElem?_eq_some_iff.1 c).1 h).1 (c.trans (by rw[←d];exact f.symm))
 omega
def JO (S:List zn) (l:List zn) (q:zx):Bool×yC:=if yV S q=true then(true,zZ S q) else match l.find? (λc=>decide (c.at_=q)) with
 |some c=>(true,c.out)
 |none=>(false,zZ S q)
theorem zj3 (S:List zn) (q:zx):JO S [] q=(yV S q,zZ S q):=by
 unfold JO
 split
 ·rename_i h;rw[h]
 ·rename_i h;simp at h;rw[h];rfl
theorem ziy {l:List zn} {q:zx} {c:zn} (h:(JO S l q).1=true):JO S (l++[c]) q=JO S l q:=by
 unfold JO at*
 split
 ·rfl
 ·rename_i h0
  rw[if_neg h0] at h
  rw[List.find?_append]
  cases hf:l.find? (λc=>decide (c.at_=q)) with
  |none=>rw[hf] at h;simp at h
  |some d=>rfl
theorem zld {l:List zn} {q:zx} {c:zn} (h:(JO S l q).1=false):JO S (l++[c]) q=if c.at_=q then(true,c.out) else JO S l q:=by
 unfold JO at*
 split
 ·rename_i h0
  rw[if_pos h0] at h
  cases h
 ·rename_i h0
  rw[if_neg h0] at h
  rw[List.find?_append]
  cases hf:l.find? (λc=>decide (c.at_=q)) with
  |none=>
   by_cases hc:c.at_=q
   ·simp[hc]
   ·simp[hc]
  |some d=>rw[hf] at h;cases h
theorem zhr {l:List zn} {q:zx} (hS:∀c∈S,c.ok) (a:∀c∈l,c.ok):(JO S l q).2.ok:=by
 unfold JO
 split
 ·exact qB hS q
 ·cases hf:l.find? (λc=>decide (c.at_=q)) with
  |none=>exact qB hS q
  |some d=>exact(a d (List.mem_of_find?_eq_some hf)).2
theorem zfn (j:xy S I L) (hok:∀e∈L,∀q∈z6 e.tx,0≤q.n) {A C:List zL} {e:zL} (d:L=A++e::C) {q:zx} (t:q∈z6 e.tx):JO S (Jb A) q=(true,(xF S A q).getD xN):=by
 rcases j.spends d t with⟨g,h⟩|⟨g,p,n,hi,-,o,m,h⟩
 ·unfold JO
  rw[if_pos g,h]
  rfl
 ·have b:=j.nd
  rw[d,xq] at b
  have u:=(List.nodup_append.1 b).1
  have s:∀x∈A,x.id=idH x.tx:=λx f=>(j.ent x (by rw[d];simp[f])).2.1
  have y:((q.n.toNat:Nat):Int)=q.n:=Int.toNat_of_nonneg (hok e (by rw[d];simp) q t)
  unfold JO
  rw[if_neg (by rw[g];decide),h]
  cases hf:(Jb A).find? (λc=>decide (c.at_=q)) with
  |none=>
   have:=List.find?_eq_none.1 hf ⟨q,o⟩ (mem_flatMap.2 ⟨p,n,vO.2 ⟨q.n.toNat,m,by
    show q=⟨idH p.tx,_⟩
    rw[←s p n,hi,y]⟩⟩)
   simp at this
  |some c=>
   have v:c.at_=q:=by simpa using List.find?_some hf
   obtain⟨x,f,k⟩:=mem_flatMap.1 (List.mem_of_find?_eq_some hf)
   obtain⟨i,l,a⟩:=vO.1 k
   rw[v] at a
   have r:x=p:=Jf u f n (by rw[s x f,hi,a])
   subst r
   have:q.n.toNat=i:=by rw[a];rfl
   rw[this,l] at m
   exact congrArg (Prod.mk true) (Option.some.inj m)
theorem xy.pays (a:xy S I L) {A C:List zL} {e:zL} (b:L=A++e::C):Jc e.tx (xj S A e.tx)=0∧Jp e.tx (xj S A e.tx)=e.fee∧Jq (vF e.tx)≤e.fee:=by
 obtain⟨-,-,c,d⟩:=a.split b
 exact⟨(XK c).2.2.2.1,(Y8 d).2.2.1.symm,(a.ent e (by rw[b];simp)).2.2.2.2⟩
theorem ziC (a:xy S I L) (hok:∀e∈L,∀q∈z6 e.tx,0≤q.n) {A C:List zL} {e:zL} (c:L=A++e::C):(z6 e.tx).map (λq=>(JO S (Jb A) q).2)=xj S A e.tx:=
 List.map_congr_left λq b=>by rw[zfn a hok c b]
end
section
variable {w:World}
theorem zjp:∀m:List zn,(∀x∈m,x.ok)→(m.flatMap z7).length=m.length*66
 |[],_=>rfl
 |x::m,h=>by
  rw[List.flatMap_cons,List.length_append,xI (h x (List.mem_cons_self ..)),zjp m (λy a=>h y (List.mem_cons_of_mem _ a)),List.length_cons]
  omega
theorem zdR {B B2:Nat} {u v:Value} {k m:List zn} (g:w.ownsRow B 60 66 v k.length (k.flatMap z7)) (i:w.ownsRow B2 60 66 u m.length (m.flatMap z7)) (ok:∀x∈m,x.ok) (n:k.length+m.length≤100000) (f:B≤w.heap.size) (ty:TypeId):
  ∃a w',(Builtin.append_ #[52,52] ty #[v,u]).run prog w=.ok a w'∧w'.ownsRow B 60 66 a (k.length+m.length) ((k++m).flatMap z7)∧Fr (λj=>v.ownBlock=some j) w w'∧∀j,a.ownBlock=some j→v.ownBlock=some j∨w.heap.size≤j:=by
 obtain⟨a,w',b,c,d,e⟩:=Zq (P:=prog) w B 52 ty 60 66 80 _ Qc Qs (by decide) (by decide) v k.length _ g u m.length _ i.slice (zjp m ok) (λy l=>by obtain⟨x,-,h⟩:=mem_flatMap.1 l;exact qi y h) (by omega) (by unfold maxLen;omega) f
 exact⟨a,w',b,by rw[List.flatMap_append];exact c,d,e⟩
end
end Go.Proofs.YtbcllfjmabiafaaGreatDoor
