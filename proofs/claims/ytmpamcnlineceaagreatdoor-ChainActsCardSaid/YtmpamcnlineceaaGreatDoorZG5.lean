/- Points, outputs and coins in memory. -/
import Derived.Test.YtmpamcnlineceaaGreatDoorProg
import Derived.Lib.Hide
import Derived.Maps.RangeRun
import Derived.Outline
import Derived.Test.YtmpamcnlineceaaGreatDoorZG4
import Derived.Test.YtmpamcnlineceaaGreatDoorZG1
import Derived.Test.YtmpamcnlineceaaGreatDoorZG2
set_option linter.unusedVariables false
set_option linter.unusedSimpArgs false
set_option linter.unnecessarySimpa false
set_option linter.all false
set_option maxRecDepth 20000
set_option maxHeartbeats 16000000
namespace Go.Proofs.YtmpamcnlineceaaGreatDoor
open Go Go.RowKit Go.Maps Go.MapKept
open Go.Proofs.Tryz(prog)
open List(mem_map getElem?_eq_getElem mem_append mem_of_getElem? mem_cons length_map take_add_one take_length map_append nodup_cons map_cons not_mem_nil)
open Nat(le_refl zero_le)
variable {v:Value} {w:World} {x:Int}
theorem Y9:laidOutB prog=true:=by kernel_rfl
theorem zhi (h:0≤x∧x≤255):(Lit.int .u8 x).wf=true:=by
 simp[Lit.wf,IntKind.min,IntKind.max,IntKind.signed,IntKind.bits]
 omega
theorem zh1 (h:0≤x∧x≤4294967295):(Lit.int .u32 x).wf=true:=by
 simp[Lit.wf,IntKind.min,IntKind.max,IntKind.signed,IntKind.bits]
 omega
theorem zh2 (h:0≤x∧x≤18446744073709551615):(Lit.int .u64 x).wf=true:=by
 simp[Lit.wf,IntKind.min,IntKind.max,IntKind.signed,IntKind.bits]
 omega
theorem Yl:∀ {a b:List Int},a.map zu=b.map zu→a=b
 |[],[],_=>rfl
 |[],_::_,h=>by simp at h
 |_::_,[],h=>by simp at h
 |x::a,y::b,h=>by
  simp only[map_cons,List.cons.injEq,zu,Value.int.injEq,true_and] at h
  rw[h.1,Yl h.2]
theorem zbE {l:List Int} (h:xU l) (d:Nat):∃ls,prog.keyLits (d+2) 40 (l.map zu)=some ls:=
 Y8 (show prog.underlying 40=some (.array 32 5) by kernel_rfl) (by kernel_rfl) (by kernel_rfl) (by kernel_rfl) d l h.1 (λx a=>zhi (h.2 x a))
def zi (p:zE):List Value:=p.tx.map zu++[.int .u32 p.n]
def jR (p:zE):Value:=.agg (zi p).toArray
theorem zF {p:zE} (h:p.ok):(zi p).length=33:=by simp[zi,h.1.1]
theorem Ze {p:zE} (h:p.ok):(zi p)[32]? =some (.int .u32 p.n):=by
 unfold zi
 rw[List.getElem?_append_right (by simp[h.1.1]),length_map,h.1.1];rfl
theorem yB {p:zE}:∀v∈zi p,v.oneCell'=true:=by
 intro v a
 unfold zi at a
 simp only[mem_append,mem_map,List.mem_singleton] at a
 rcases a with⟨y,_,rfl⟩|rfl<;>rfl
theorem Vo {a b:zE} (h:zi a=zi b):a=b:=by
 obtain⟨x,l⟩:=a
 obtain⟨y,m⟩:=b
 simp only[zi] at h
 obtain⟨d,c⟩:=List.append_inj' h rfl
 simp only[List.cons.injEq,Value.int.injEq,true_and,and_true] at c
 rw[Yl d,c]
theorem qO {a b:zE} (h:jR a=jR b):a=b:=by
 unfold jR at h
 injection h with h
 exact Vo (by simpa using congrArg Array.toList h)
theorem JB:qM prog 72=[(40,0,true),(59,32,true)]:=by kernel_rfl
theorem Vp {p:zE} (h:p.ok) (d:Nat):∀x∈qM prog 72,∃l,prog.keyLits (d+2) x.1 (((zi p).drop x.2.1).take (prog.cellsOf x.1))=some l:=by
 rw[JB]
 intro x a
 simp only[mem_cons,not_mem_nil,or_false] at a
 rcases a with rfl|rfl
 ·have e:((zi p).drop 0).take (prog.cellsOf 40)=p.tx.map zu:=by
   rw[show prog.cellsOf 40=32 by kernel_rfl]
   unfold zi
   rw[List.drop_zero,List.take_append_of_le_length (by simp[h.1.1]),List.take_of_length_le (by simp[h.1.1])]
  simp only[e]
  exact zbE h.1 d
 ·have e:((zi p).drop 32).take (prog.cellsOf 59)=[.int .u32 p.n]:=by
   rw[show prog.cellsOf 59=1 by kernel_rfl]
   unfold zi
   rw[List.drop_append_of_le_length (by simp[h.1.1]),List.drop_of_length_le (by simp[h.1.1])];rfl
  simp only[e]
  exact⟨_,YV (by kernel_rfl) _ (zh1 h.2)⟩
theorem yF {p:zE} (h:p.ok):∃l,keyOf prog 72 (jR p)=some l:=by
 have a:prog.types.size=prog.types.size-2+2:=by kernel_rfl
 refine Zx JB (by simp) (by decide) (by kernel_rfl) (cs:=zi p) (by rw[zF h];kernel_rfl) ?_
 rw[a,←JB]
 exact Vp h _
theorem vi:EqN prog 72:=⟨Keyed.of_law (deep_law_laid Y9 (m:=3) (by decide) (of_decide_eq_true (by kernel_rfl)) (by kernel_rfl) (by kernel_rfl)),⟨3,by decide,by kernel_rfl⟩,by kernel_rfl,by kernel_rfl⟩
theorem zaa:∃d,prog.underlying 72=some d∧d.isRow=true:=vq (by kernel_rfl)
theorem yL:(prog.info? 72).map (·.size)=some 33:=by kernel_rfl
def vn:zE:=⟨List.replicate 32 0,0⟩
theorem qH:prog.underlying 115=some (.slice 72):=by kernel_rfl
theorem jP:(prog.info? 72).map (λi=>(i.zero,i.size,i.bytes))=some (some (.agg (zi vn).toArray),33,36):=by kernel_rfl
theorem j6:(prog.info? 72).map (λi=>(i.zero,i.size))=some (some (.agg (zi vn).toArray),33):=by kernel_rfl
def zx (x:yk):List Value:=.int .u64 x.value::x.lock.map zu
def VO (x:yk):Value:=.agg (zx x).toArray
theorem z6 {x:yk} (h:x.ok):(zx x).length=33:=by simp[zx,h.2.1]
theorem zV {x:yk}:∀v∈zx x,v.oneCell'=true:=by
 intro v a
 unfold zx at a
 simp only[mem_cons,mem_map] at a
 rcases a with rfl|⟨y,_,rfl⟩<;>rfl
theorem zbL {a b:yk} (h:zx a=zx b):a=b:=by
 obtain⟨x,l⟩:=a
 obtain⟨y,m⟩:=b
 simp only[zx,List.cons.injEq,Value.int.injEq,true_and] at h
 rw[h.1,Yl h.2]
theorem Yf:qM prog 68=[(33,0,true),(40,1,true)]:=by kernel_rfl
theorem zbN {o:yk} (h:o.ok) (d:Nat):∀x∈qM prog 68,∃l,prog.keyLits (d+2) x.1 (((zx o).drop x.2.1).take (prog.cellsOf x.1))=some l:=by
 rw[Yf]
 intro x a
 simp only[mem_cons,not_mem_nil,or_false] at a
 rcases a with rfl|rfl
 ·have e:((zx o).drop 0).take (prog.cellsOf 33)=[.int .u64 o.value]:=by
   rw[show prog.cellsOf 33=1 by kernel_rfl];rfl
  simp only[e]
  exact⟨_,YV (by kernel_rfl) _ (zh2 h.1)⟩
 ·have e:((zx o).drop 1).take (prog.cellsOf 40)=o.lock.map zu:=by
   rw[show prog.cellsOf 40=32 by kernel_rfl]
   show(o.lock.map zu).take 32=o.lock.map zu
   rw[List.take_of_length_le (by simp[h.2.1])]
  simp only[e]
  exact zbE h.2 d
theorem J4 {o:yk} (h:o.ok):∃l,keyOf prog 68 (VO o)=some l:=by
 have a:prog.types.size=prog.types.size-2+2:=by kernel_rfl
 refine Zx Yf (by simp) (by decide) (by kernel_rfl) (cs:=zx o) (by rw[z6 h];kernel_rfl) ?_
 rw[a,←Yf]
 exact zbN h _
theorem zfc:EqN prog 68:=⟨Keyed.of_law (deep_law_laid Y9 (m:=3) (by decide) (of_decide_eq_true (by kernel_rfl)) (by kernel_rfl) (by kernel_rfl)),⟨3,by decide,by kernel_rfl⟩,by kernel_rfl,by kernel_rfl⟩
theorem Zt:∃d,prog.underlying 68=some d∧d.isRow=true:=vq (by kernel_rfl)
theorem yW:(prog.info? 68).map (·.size)=some 33:=by kernel_rfl
def vF:yk:=⟨0,List.replicate 32 0⟩
theorem Xd:vF.ok:=⟨by decide,rfl,λx a=>by have:x=0:=List.eq_of_mem_replicate a;omega⟩
theorem zg9 (w:World):(zeroValue 68).run prog w=.ok (VO vF) w:=by kernel_rfl
theorem vU:prog.underlying 22=some (.slice 68):=by kernel_rfl
theorem Jw:(prog.info? 68).map (λi=>(i.zero,i.size,i.bytes))=some (some (.agg (zx vF).toArray),33,40):=by kernel_rfl
theorem JZ:(prog.info? 68).map (λi=>(i.zero,i.size))=some (some (.agg (zx vF).toArray),33):=by kernel_rfl
def zw (c:zh):List Value:=zi c.at_++zx c.out
def ziq (c:zh):Value:=.agg (zw c).toArray
theorem yv {c:zh} (h:c.ok):(zw c).length=66:=by simp[zw,zF h.1,z6 h.2]
theorem yz {c:zh}:∀v∈zw c,v.oneCell'=true:=by
 intro v a
 rcases mem_append.1 a with h|h
 ·exact yB v h
 ·exact zV v h
theorem zdR {a b:zh} (e:a.ok) (f:b.ok) (h:zw a=zw b):a=b:=by
 unfold zw at h
 obtain⟨c,d⟩:=List.append_inj h (by rw[zF e.1,zF f.1])
 cases a;cases b
 simp only[zh.mk.injEq] at*
 exact⟨Vo c,zbL d⟩
theorem ju {b o:Nat} {c:zh} (h:w.rangeAt b o (zw c)):w.rangeAt b o (zi c.at_):=λj v a=>h j v (by
 unfold zw
 rw[List.getElem?_append_left (List.getElem?_eq_some_iff.1 a).1]
 exact a)
theorem zbi {b o:Nat} {c:zh} (a:c.ok) (h:w.rangeAt b o (zw c)):w.rangeAt b (o+33) (zx c.out):=λj v d=>by
 have:=h (33+j) v (by
  unfold zw
  rw[List.getElem?_append_right (by rw[zF a.1];omega),zF a.1]
  rw[show 33+j-33=j by omega]
  exact d)
 rw[Nat.add_assoc]
 exact this
theorem zew:qM prog 103=[(72,0,true),(68,33,true)]:=by kernel_rfl
theorem Yu {c:zh} (h:c.ok):∃l,keyOf prog 103 (ziq c)=some l:=by
 have b:prog.types.size=prog.types.size-3+2+1:=by kernel_rfl
 refine Zx zew (by simp) (by decide) (by kernel_rfl) (cs:=zw c) (by rw[yv h];kernel_rfl) ?_
 rw[b]
 intro x a
 simp only[mem_cons,not_mem_nil,or_false] at a
 rcases a with rfl|rfl
 ·have e:((zw c).drop 0).take (prog.cellsOf 72)=zi c.at_:=by
   rw[show prog.cellsOf 72=33 by kernel_rfl]
   unfold zw
   rw[List.drop_zero,List.take_append_of_le_length (by rw[zF h.1];omega),List.take_of_length_le (by rw[zF h.1];omega)]
  simp only[e]
  exact YH rfl (by rw[JB];simp) (by rw[JB];decide) (by rw[zF h.1];kernel_rfl) _ (Vp h.1 _)
 ·have e:((zw c).drop 33).take (prog.cellsOf 68)=zx c.out:=by
   rw[show prog.cellsOf 68=33 by kernel_rfl]
   unfold zw
   rw[List.drop_append_of_le_length (by rw[zF h.1];omega),List.drop_of_length_le (by rw[zF h.1];omega),List.nil_append,List.take_of_length_le (by rw[z6 h.2];omega)]
  simp only[e]
  exact YH rfl (by rw[Yf];simp) (by rw[Yf];decide) (by rw[z6 h.2];kernel_rfl) _ (zbN h.2 _)
theorem zfb:EqN prog 103:=⟨Keyed.of_law (deep_law_laid Y9 (m:=4) (by decide) (of_decide_eq_true (by kernel_rfl)) (by kernel_rfl) (by kernel_rfl)),⟨4,by decide,by kernel_rfl⟩,by kernel_rfl,by kernel_rfl⟩
theorem ze6:∃d,prog.underlying 103=some d∧d.isRow=true:=vq (by kernel_rfl)
theorem xI:(prog.info? 103).map (·.size)=some 66:=by kernel_rfl
def QI:zh:=⟨vn,vF⟩
theorem jI (w:World):(zeroValue 103).run prog w=.ok (.agg (zw QI).toArray) w:=by kernel_rfl
theorem jk (w:World):(zeroValue 72).run prog w=.ok (.agg (zi vn).toArray) w:=by kernel_rfl
theorem yA (w:World):(zeroValue 68).run prog w=.ok (.agg (zx vF).toArray) w:=by kernel_rfl
theorem yQ:prog.underlying 49=some (.slice 103):=by kernel_rfl
theorem xR:(prog.info? 103).map (λi=>(i.zero,i.size,i.bytes))=some (some (.agg (zw QI).toArray),66,80):=by kernel_rfl
theorem qA:(prog.info? 103).map (λi=>(i.zero,i.size))=some (some (.agg (zw QI).toArray),66):=by kernel_rfl
def xz (w:World) (v:Value) (l:List zh):Prop:=(∀c∈l,c.ok)∧xG w v l.length (l.flatMap zw)
theorem xz.keep {w w':World} {l:List zh} (h:xz w v l) (f:Fr No w w'):xz w' v l:=⟨h.1,h.2.keep f⟩
theorem xz.at_ {l:List zh} (h:xz w v l) {i:Nat} {c:zh} (d:l[i]? =some c):∃b off a,v=.slice (some ⟨b,off,none⟩) l.length a∧w.rangeAt b (off+i*66) (zw c)∧b<w.heap.size:=
 h.2.elem (by decide) (λx d=>yv (h.1 x d)) d
def qz (w:World) (v:Value) (l:List zE):Prop:=(∀p∈l,p.ok)∧xG w v l.length (l.flatMap zi)
theorem qz.keep {w w':World} {l:List zE} (h:qz w v l) (f:Fr No w w'):qz w' v l:=⟨h.1,h.2.keep f⟩
theorem qz.at_ {l:List zE} (h:qz w v l) {i:Nat} {p:zE} (c:l[i]? =some p):∃b off a,v=.slice (some ⟨b,off,none⟩) l.length a∧w.rangeAt b (off+i*33) (zi p)∧b<w.heap.size:=
 h.2.elem (by decide) (λx c=>zF (h.1 x c)) c
theorem jG:prog.underlying 107=some (.map 72 68):=by kernel_rfl
theorem ZI:prog.underlying 138=some (.map 72 3):=by kernel_rfl
theorem Zo (w:World):(zeroValue 3).run prog w=.ok (.int .i64 0) w:=by kernel_rfl
end Go.Proofs.YtmpamcnlineceaaGreatDoor
namespace Go
open Go.MapKept Go.RowKit Go.Maps
def vK (P:Program) (kt:TypeId) (w:World) (r b:Nat) (L R:List (Value×Value)):Prop:=
 ∃es clk seen,w.heap[b]? =some (.map es clk)∧Stamped es clk∧es.size≤maxLen∧kv es=L∧(∀e∈es.toList,∃l,keyOf P kt e.key=some l)∧r≠b∧
  w.heap[r]? =some (.mapIter (some b) clk seen clk)∧(es.toList.filter λe=> !seen.contains e.born).map (λe=>(e.key,e.val))=R
section
variable {P:Program} {kt et t:TypeId} {w:World} {r b:Nat} {L R:List (Value×Value)}
theorem vK.map (h:vK P kt w r b L R):xf P kt w b L:=by
 obtain⟨es,c,seen,d,e,f,g,i,_⟩:=h
 exact⟨es,c,d,e,f,g,i⟩
theorem vK.keep {w':World} {W:Nat→Prop} (h:vK P kt w r b L R) (f:Fr W w w') (n:¬W b) (p:¬W r):vK P kt w' r b L R:=by
 obtain⟨es,c,seen,d,e,g,i,j,k,l,m⟩:=h
 exact⟨es,c,seen,f.obj d n,e,g,i,j,k,f.obj l p,m⟩
theorem xf.range (j:P.underlying t=some (.map kt et)) (h:xf P kt w b L):
  ∃c,(Instr.range t (.map (some b))).run P w=.ok (.pointer (some ⟨w.heap.size,0,none⟩)) (w.alloc (.mapIter (some b) c #[] c))∧vK P kt (w.alloc (.mapIter (some b) c #[] c)) w.heap.size b L L:=by
 have f:=h.lt
 obtain⟨es,c,d,i,g,rfl,e⟩:=h
 refine⟨c,?_,es,c,#[],jC d _,i,g,rfl,e,by omega,zS w _,?_⟩
 ·simp[Instr.range,run_underlying j,MapKept.run_getObj_map d,Result.andThen,newObj,Sem.run]
 ·rw[List.filter_eq_self.2 (by simp)];rfl
theorem vK.nextNone (h:vK P kt w r b L []) (ty:TypeId):(Instr.next (.pointer (some ⟨r,0,none⟩)) false ty).run P w=.ok (.tuple #[.bool false]) w:=by
 obtain⟨es,c,seen,g,l,p,m,n,j,k,f⟩:=h
 rcases run_next_at (P:=P) w ty r b c c seen es c k g l.1 (Nat.le_refl _) with⟨_,h⟩|⟨e,i,_⟩
 ·exact h
 ·have d:e∈es.toList.filter λe=> !seen.contains e.born:=by simpa[leftOf] using i
  have:(e.key,e.val)∈(es.toList.filter λe=> !seen.contains e.born).map (λe=>(e.key,e.val)):=List.mem_map.2 ⟨e,d,rfl⟩
  rw[f] at this
  cases this
theorem vK.nextSome (h:vK P kt w r b L R) (F:R≠[]) (ty:TypeId):
  ∃G p H w',R=G++p::H∧(Instr.next (.pointer (some ⟨r,0,none⟩)) false ty).run P w=.ok (.tuple #[.bool true,p.1,p.2]) w'∧vK P kt w' r b L (G++H)∧Fr (· =r) w w'∧
   ∀d,d.heap[r]? =w'.heap[r]? →d.heap[b]? =w'.heap[b]? →(Instr.entry (.pointer (some ⟨r,0,none⟩))).run P d=.ok (.tuple #[p.1,p.2]) d:=by
 obtain⟨es,c,seen,M,v,V,T,E,m,N,D⟩:=h
 rcases run_next_at (P:=P) w ty r b c c seen es c N M v.1 (Nat.le_refl _) with⟨S,_⟩|⟨e,U,y,s,q⟩
 ·have z:(leftOf es seen).toList=[]:=by simpa using S
  have C:es.toList.filter (λe=> !seen.contains e.born)=[]:=by simpa[leftOf] using z
  rw[C] at D
  exact absurd D.symm F
 ·have i:e∈es.toList.filter λe=> !seen.contains e.born:=by simpa[leftOf] using U
  have j:e∈es.toList:=(List.mem_filter.1 i).1
  obtain⟨A,B,f⟩:=List.append_of_mem i
  have l:((A++e::B).map (·.born)).Nodup:=by rw[←f];exact v.2.1.sublist (List.filter_sublist.map _)
  simp only[List.map_append,List.map_cons] at l
  obtain⟨Z,W,X⟩:=List.nodup_append.1 l
  obtain⟨Y,n5⟩:=List.nodup_cons.1 W
  have g:y.heap=w.heap:=by rcases s with rfl|rfl<;>rfl
  have Q:Fr (· =r) w y:=by
   rcases s with rfl|rfl
   ·exact Fr.refl _ _
   ·exact(Fr.refl _ _).drew
  have n:=yu N
  have I:(ChangeMaps.setBlock y r (.mapIter (some b) c (seen.push e.born) c)).heap[r]? =some (.mapIter (some b) c (seen.push e.born) c):=by
   simp[ChangeMaps.setBlock,g,n]
  have K:(ChangeMaps.setBlock y r (.mapIter (some b) c (seen.push e.born) c)).heap[b]? =some (.map es c):=by
   simp only[ChangeMaps.setBlock,g]
   rw[Array.getElem?_setIfInBounds_ne m]
   exact M
  refine⟨A.map (λe=>(e.key,e.val)),(e.key,e.val),B.map (λe=>(e.key,e.val)),_,by rw[←D,f];simp,q,⟨es,c,seen.push e.born,K,v,V,T,E,m,I,?_⟩,?_,?_⟩
  ·have O:(es.toList.filter λx=> !(seen.push e.born).contains x.born)=(es.toList.filter λx=> !seen.contains x.born).filter λx=>decide (x.born≠e.born):=by
    rw[List.filter_filter]
    apply List.filter_congr
    intro x _
    by_cases u:x.born=e.born<;>simp[u]
   rw[O,f,List.filter_append,List.filter_cons,if_neg (by simp),List.filter_eq_self.2,List.filter_eq_self.2,List.map_append]
   ·intro x u;simp only[decide_eq_true_eq];exact λh=>Y (h▸List.mem_map.2 ⟨x,u,rfl⟩)
   ·intro x u;simp only[decide_eq_true_eq];exact λh=>X x.born (List.mem_map.2 ⟨x,u,rfl⟩) e.born (by simp) h
  ·refine Q.trans ⟨rfl,rfl,rfl,by simp[ChangeMaps.setBlock],λk _ E=>?_⟩ (λ_ _ h=>h)
   simp only[ChangeMaps.setBlock]
   rw[Array.getElem?_setIfInBounds_ne (Ne.symm E)]
  ·intro d z C
   exact run_entry_at d r b c seen es c e (z.trans I) (C.trans K) j v.2.1
end
section
variable {P:Program} {o:Oper} {a:Act} {w w':World} {ops:Array Oper} {rest:List Oper}
theorem jT {Q:Exit→Act→World→Prop} {x:Operand} {t:TypeId} {e v:Value} (g:o.guard=none) (d:o.op=.range t x) (i:a.eval x=e)
  (c:(Instr.range t e).run P w=.ok v w') (h:wpList P ops Q rest (a.put o.dst v) w'):wpList P ops Q (o::rest) a w:=by
 refine wpList_plain g λK' hK'=>?_
 unfold Oper.wp
 have f:(execOp a.eval o).run P w=.ok (.value v) w':=by simp[execOp,d,i,c,Result.andThen]
 rw[f]
 exact hK' _ _ h
theorem qn {Q:Exit→Act→World→Prop} {x:Operand} {s:Bool} {e v:Value} (g:o.guard=none) (d:o.op=.next x s) (i:a.eval x=e)
  (c:(Instr.next e s o.type).run P w=.ok v w') (h:wpList P ops Q rest (a.put o.dst v) w'):wpList P ops Q (o::rest) a w:=by
 refine wpList_plain g λK' hK'=>?_
 unfold Oper.wp
 have f:(execOp a.eval o).run P w=.ok (.value v) w':=by simp[execOp,d,i,c,Result.andThen]
 rw[f]
 exact hK' _ _ h
theorem vH {Q:Exit→Act→World→Prop} {x:Operand} {e v:Value} (g:o.guard=none) (d:o.op=.entry x) (i:a.eval x=e)
  (c:(Instr.entry e).run P w=.ok v w') (h:wpList P ops Q rest (a.put o.dst v) w'):wpList P ops Q (o::rest) a w:=by
 refine wpList_plain g λK' hK'=>?_
 unfold Oper.wp
 have f:(execOp a.eval o).run P w=.ok (.value v) w':=by simp[execOp,d,i,c,Result.andThen]
 rw[f]
 exact hK' _ _ h
end
end Go
namespace Go
open Go.RowKit
theorem ziS {ops:Array Oper} {Q:Exit→Act→World→Prop} {a:Act} {w:World} {rest:List Oper} {o:Oper} {cs:List Value} {m:Operand} {b i:Nat} (hg:o.guard=none) (ho:o.op=.load 36 m) (hm:a.eval m=.pointer (some ⟨b,i,none⟩)) (hc:w.rangeAt b i cs) (hl:cs.length=3) (h:wpList Go.Proofs.Tryz.prog ops Q rest (a.put o.dst (.agg cs.toArray)) w):wpList Go.Proofs.Tryz.prog ops Q (o::rest) a w:=
  have⟨_,u,r⟩:=vq (P:=Go.Proofs.Tryz.prog) (t:=36) (by kernel_rfl)
  zg hg (ye ho hm hc u r (by rw[hl];kernel_rfl)) h
theorem ziT {ops:Array Oper} {Q:Exit→Act→World→Prop} {a:Act} {w:World} {rest:List Oper} {o:Oper} {cs:List Value} {m:Operand} {b i:Nat} (hg:o.guard=none) (ho:o.op=.load 40 m) (hm:a.eval m=.pointer (some ⟨b,i,none⟩)) (hc:w.rangeAt b i cs) (hl:cs.length=32) (h:wpList Go.Proofs.Tryz.prog ops Q rest (a.put o.dst (.agg cs.toArray)) w):wpList Go.Proofs.Tryz.prog ops Q (o::rest) a w:=
  have⟨_,u,r⟩:=vq (P:=Go.Proofs.Tryz.prog) (t:=40) (by kernel_rfl)
  zg hg (ye ho hm hc u r (by rw[hl];kernel_rfl)) h
theorem ziU {ops:Array Oper} {Q:Exit→Act→World→Prop} {a:Act} {w:World} {rest:List Oper} {o:Oper} {cs:List Value} {m:Operand} {b i:Nat} (hg:o.guard=none) (ho:o.op=.load 62 m) (hm:a.eval m=.pointer (some ⟨b,i,none⟩)) (hc:w.rangeAt b i cs) (hl:cs.length=3) (h:wpList Go.Proofs.Tryz.prog ops Q rest (a.put o.dst (.agg cs.toArray)) w):wpList Go.Proofs.Tryz.prog ops Q (o::rest) a w:=
  have⟨_,u,r⟩:=vq (P:=Go.Proofs.Tryz.prog) (t:=62) (by kernel_rfl)
  zg hg (ye ho hm hc u r (by rw[hl];kernel_rfl)) h
theorem ziV {ops:Array Oper} {Q:Exit→Act→World→Prop} {a:Act} {w:World} {rest:List Oper} {o:Oper} {cs:List Value} {m:Operand} {b i:Nat} (hg:o.guard=none) (ho:o.op=.load 106 m) (hm:a.eval m=.pointer (some ⟨b,i,none⟩)) (hc:w.rangeAt b i cs) (hl:cs.length=34) (h:wpList Go.Proofs.Tryz.prog ops Q rest (a.put o.dst (.agg cs.toArray)) w):wpList Go.Proofs.Tryz.prog ops Q (o::rest) a w:=
  have⟨_,u,r⟩:=vq (P:=Go.Proofs.Tryz.prog) (t:=106) (by kernel_rfl)
  zg hg (ye ho hm hc u r (by rw[hl];kernel_rfl)) h
theorem ziW {ops:Array Oper} {Q:Exit→Act→World→Prop} {a:Act} {w:World} {rest:List Oper} {o:Oper} {cs:List Value} {m:Operand} {b i:Nat} (hg:o.guard=none) (ho:o.op=.load 68 m) (hm:a.eval m=.pointer (some ⟨b,i,none⟩)) (hc:w.rangeAt b i cs) (hl:cs.length=33) (h:wpList Go.Proofs.Tryz.prog ops Q rest (a.put o.dst (.agg cs.toArray)) w):wpList Go.Proofs.Tryz.prog ops Q (o::rest) a w:=
  have⟨_,u,r⟩:=vq (P:=Go.Proofs.Tryz.prog) (t:=68) (by kernel_rfl)
  zg hg (ye ho hm hc u r (by rw[hl];kernel_rfl)) h
theorem ziX {ops:Array Oper} {Q:Exit→Act→World→Prop} {a:Act} {w:World} {rest:List Oper} {o:Oper} {cs:List Value} {m:Operand} {b i:Nat} (hg:o.guard=none) (ho:o.op=.load 72 m) (hm:a.eval m=.pointer (some ⟨b,i,none⟩)) (hc:w.rangeAt b i cs) (hl:cs.length=33) (h:wpList Go.Proofs.Tryz.prog ops Q rest (a.put o.dst (.agg cs.toArray)) w):wpList Go.Proofs.Tryz.prog ops Q (o::rest) a w:=
  have⟨_,u,r⟩:=vq (P:=Go.Proofs.Tryz.prog) (t:=72) (by kernel_rfl)
  zg hg (ye ho hm hc u r (by rw[hl];kernel_rfl)) h
theorem ziY {ops:Array Oper} {Q:Exit→Act→World→Prop} {a:Act} {w:World} {rest:List Oper} {o:Oper} {cs:List Value} {m:Operand} {b i:Nat} (hg:o.guard=none) (ho:o.op=.load 103 m) (hm:a.eval m=.pointer (some ⟨b,i,none⟩)) (hc:w.rangeAt b i cs) (hl:cs.length=66) (h:wpList Go.Proofs.Tryz.prog ops Q rest (a.put o.dst (.agg cs.toArray)) w):wpList Go.Proofs.Tryz.prog ops Q (o::rest) a w:=
  have⟨_,u,r⟩:=vq (P:=Go.Proofs.Tryz.prog) (t:=103) (by kernel_rfl)
  zg hg (ye ho hm hc u r (by rw[hl];kernel_rfl)) h
theorem ziZ {S:World→Prop} {a:Act} {dst:Option Tmp} {t0:TypeId} {pos:String} {after:Array Edge} {gd:Option (Nat×Bool)} {x:Operand} {cs:List Value} {b i:Nat} (hx:a.eval x=.pointer (some ⟨b,i,none⟩)) (hS:∀w,S w→w.rangeAt b i cs) (hl:cs.length=3):∀w,S w→(execOp a.eval {dst:=dst,op:=.load 36 x,type:=t0,pos:=pos,after:=after,guard:=gd}).run Go.Proofs.Tryz.prog w=.ok (.value (.agg cs.toArray)) w:=
  have⟨_,u,r⟩:=vq (P:=Go.Proofs.Tryz.prog) (t:=36) (by kernel_rfl)
  yY hx hS u r (by rw[hl];kernel_rfl)
theorem zi0 {S:World→Prop} {a:Act} {dst:Option Tmp} {t0:TypeId} {pos:String} {after:Array Edge} {gd:Option (Nat×Bool)} {x:Operand} {cs:List Value} {b i:Nat} (hx:a.eval x=.pointer (some ⟨b,i,none⟩)) (hS:∀w,S w→w.rangeAt b i cs) (hl:cs.length=32):∀w,S w→(execOp a.eval {dst:=dst,op:=.load 40 x,type:=t0,pos:=pos,after:=after,guard:=gd}).run Go.Proofs.Tryz.prog w=.ok (.value (.agg cs.toArray)) w:=
  have⟨_,u,r⟩:=vq (P:=Go.Proofs.Tryz.prog) (t:=40) (by kernel_rfl)
  yY hx hS u r (by rw[hl];kernel_rfl)
theorem zi1 {S:World→Prop} {a:Act} {dst:Option Tmp} {t0:TypeId} {pos:String} {after:Array Edge} {gd:Option (Nat×Bool)} {x:Operand} {cs:List Value} {b i:Nat} (hx:a.eval x=.pointer (some ⟨b,i,none⟩)) (hS:∀w,S w→w.rangeAt b i cs) (hl:cs.length=33):∀w,S w→(execOp a.eval {dst:=dst,op:=.load 72 x,type:=t0,pos:=pos,after:=after,guard:=gd}).run Go.Proofs.Tryz.prog w=.ok (.value (.agg cs.toArray)) w:=
  have⟨_,u,r⟩:=vq (P:=Go.Proofs.Tryz.prog) (t:=72) (by kernel_rfl)
  yY hx hS u r (by rw[hl];kernel_rfl)
theorem zi2 {S:World→Prop} {a:Act} {dst:Option Tmp} {t0:TypeId} {pos:String} {after:Array Edge} {gd:Option (Nat×Bool)} {x:Operand} {cs:List Value} {b i:Nat} (hx:a.eval x=.pointer (some ⟨b,i,none⟩)) (hS:∀w,S w→w.rangeAt b i cs) (hl:cs.length=1):∀w,S w→(execOp a.eval {dst:=dst,op:=.load 51 x,type:=t0,pos:=pos,after:=after,guard:=gd}).run Go.Proofs.Tryz.prog w=.ok (.value (.agg cs.toArray)) w:=
  have⟨_,u,r⟩:=vq (P:=Go.Proofs.Tryz.prog) (t:=51) (by kernel_rfl)
  yY hx hS u r (by rw[hl];kernel_rfl)
theorem zi3 {ops:Array Oper} {Q:Exit→Act→World→Prop} {a:Act} {w:World} {rest:List Oper} {o:Oper} {cs:List Value} {m:Operand} {k:Operand} {Z:Array Value} {U:TypeId} (hg:o.guard=none) (ho:o.op=.store 40 m k) (hm:a.eval m=.pointer (some ⟨w.heap.size,0,none⟩)) (hk:a.eval k=.agg cs.toArray) (hz:cs.length=32) (h1:∀v∈cs,v.oneCell'=true) (h:wpList Go.Proofs.Tryz.prog ops Q rest (a.put o.dst undef) (w.alloc (.cells cs.toArray U))) (hZ:Z.size=32:=by rfl):wpList Go.Proofs.Tryz.prog ops Q (o::rest) a (w.alloc (.cells Z U)):=
  ze hg (zj ho hm hk (hZ.trans hz.symm) (by rw[hz];kernel_rfl) h1) h
theorem zi4 {ops:Array Oper} {Q:Exit→Act→World→Prop} {a:Act} {w:World} {rest:List Oper} {o:Oper} {cs:List Value} {m:Operand} {k:Operand} {Z:Array Value} {U:TypeId} (hg:o.guard=none) (ho:o.op=.store 106 m k) (hm:a.eval m=.pointer (some ⟨w.heap.size,0,none⟩)) (hk:a.eval k=.agg cs.toArray) (hz:cs.length=34) (h1:∀v∈cs,v.oneCell'=true) (h:wpList Go.Proofs.Tryz.prog ops Q rest (a.put o.dst undef) (w.alloc (.cells cs.toArray U))) (hZ:Z.size=34:=by rfl):wpList Go.Proofs.Tryz.prog ops Q (o::rest) a (w.alloc (.cells Z U)):=
  ze hg (zj ho hm hk (hZ.trans hz.symm) (by rw[hz];kernel_rfl) h1) h
theorem zi5 {ops:Array Oper} {Q:Exit→Act→World→Prop} {a:Act} {w:World} {rest:List Oper} {o:Oper} {cs:List Value} {m:Operand} {k:Operand} {Z:Array Value} {U:TypeId} (hg:o.guard=none) (ho:o.op=.store 68 m k) (hm:a.eval m=.pointer (some ⟨w.heap.size,0,none⟩)) (hk:a.eval k=.agg cs.toArray) (hz:cs.length=33) (h1:∀v∈cs,v.oneCell'=true) (h:wpList Go.Proofs.Tryz.prog ops Q rest (a.put o.dst undef) (w.alloc (.cells cs.toArray U))) (hZ:Z.size=33:=by rfl):wpList Go.Proofs.Tryz.prog ops Q (o::rest) a (w.alloc (.cells Z U)):=
  ze hg (zj ho hm hk (hZ.trans hz.symm) (by rw[hz];kernel_rfl) h1) h
end Go
namespace Go.Proofs.YtmpamcnlineceaaGreatDoor
open Go Go.RowKit Go.Maps Go.MapKept
open Go.Proofs.Tryz(prog)
open List(mem_map getElem?_eq_getElem mem_append mem_of_getElem? mem_cons length_map take_add_one take_length map_append nodup_cons map_cons not_mem_nil)
open Nat(le_refl zero_le)
variable {v:Value}
theorem Xo {α:Type}:∀ {A B:List α},A.Nodup→(∀x∈A,x∈B)→A.length≤B.length∧(A.length=B.length→A.Perm B)
 |[],B,_,_=>⟨zero_le _,λh=>by rw[List.eq_nil_of_length_eq_zero h.symm]⟩
 |a::A,B,hn,hs=>by
  obtain⟨c,d,rfl⟩:=List.append_of_mem (hs a (by simp))
  obtain⟨e,f⟩:=nodup_cons.1 hn
  obtain⟨i,g⟩:=Xo (A:=A) (B:=c++d) f (λx b=>by
   have:=hs x (by simp[b])
   simp only[mem_append,mem_cons] at this⊢
   rcases this with h|rfl|h
   ·exact .inl h
   ·exact absurd b e
   ·exact .inr h)
  simp only[List.length_append,List.length_cons] at*
  refine⟨by omega,λh=>?_⟩
  exact(List.Perm.cons a (g (by omega))).trans List.perm_middle.symm
theorem XC {α:Type} {A B:List α} (b:A.Nodup) (h:∀x,x∈A↔x∈B):A.length=B.length↔B.Nodup:=by
 constructor
 ·intro e
  exact((Xo b (λx a=>(h x).1 a)).2 e).nodup_iff.1 b
 ·intro c
  exact Nat.le_antisymm (Xo b (λx a=>(h x).1 a)).1 (Xo c (λx a=>(h x).2 a)).1
abbrev vN (w:World) (m:Nat) (M:List (zE×yk)):Prop:=yS prog 72 jR VO w m M
structure CS (w0 w:World) (p:Nat) (V:Nat→Prop) (S:List zh):Prop where
 ex:∃m M,w.heap[p]? =some (.cells #[.map (some m)] 109 (0,0))∧vN w m M∧(∀k v,(k,v)∈M↔(⟨k,v⟩:zh)∈S)∧p≠m∧V=λj=>j=p∨j=m
 srt:qg S
 ok:∀c∈S,c.ok
 lo:∀j,V j→w0.heap.size≤j
 fr:Fr No w0 w
section
variable {w0 w:World} {p:Nat} {V:Nat→Prop} {S:List zh}
theorem CS.hi (h:CS w0 w p V S):∀j,V j→j<w.heap.size:=by
 obtain⟨m,M,a,b,-,-,rfl⟩:=h.ex
 rintro j (rfl|rfl)
 ·exact yu a
 ·exact b.lt
theorem CS.frV {w':World} (h:CS w0 w p V S) {U:Nat→Prop} (f:Fr U w w') (b:∀j,V j→¬U j) (c:∀j,U j→w0.heap.size≤j):CS w0 w' p V S:=by
 obtain⟨m,M,d,g,k,a,rfl⟩:=h.ex
 exact {h with
  ex:=⟨m,M,f.obj d (b p (.inl rfl)),g.keep f (b m (.inr rfl)),k,a,rfl⟩
  fr:=h.fr.trans f (λi hi e=>by have:=c i e;omega)}
theorem CS.fr0 {w':World} (h:CS w0 w p V S) (f:Fr No w w'):CS w0 w' p V S:=h.frV f (λ_ _=>id) (λ_ h=>h.elim)
theorem CS.base {a:World} (h:CS w0 w p V S) (f:Fr No a w0):CS a w p V S:={h with lo:=λj b=>Nat.le_trans f.size (h.lo j b),fr:=f.trans0 h.fr}
omit w0 w p V S in
theorem XH {w:World} {m:Nat} {M:List (zE×yk)} {S:List zh} (f:vN w m M) (g:∀k v,(k,v)∈M↔(⟨k,v⟩:zh)∈S) (a:qg S):M.length=S.length:=by
 have b:(M.map λx=>(⟨x.1,x.2⟩:zh)).Nodup:=by
  have:=f.nodup
  unfold List.Nodup at*
  rw[List.pairwise_map] at*
  exact this.imp (λh e=>h (by injection e))
 have c:S.Nodup:=by
  have:=a.nodup
  unfold List.Nodup at*
  rw[List.pairwise_map] at this
  exact this.imp (λh e=>h (by rw[e]))
 have d:=(List.perm_ext_iff_of_nodup b c).2 (λx=>by
  rw[←show(⟨x.at_,x.out⟩:zh)=x from rfl,←g]
  constructor
  ·intro h
   obtain⟨y,i,e⟩:=mem_map.1 h
   injection e with e1 e2
   rw[←e1,←e2]
   exact i
  ·intro h
   exact mem_map.2 ⟨_,h,rfl⟩)
 rw[←d.length_eq,length_map]
omit w0 w p V S in
theorem zc3 (w:World):(Instr.makeMap 107 none).run prog w=.ok (.map (some w.heap.size)) (w.alloc (.map #[] 0)):=by kernel_rfl
omit w0 w p V S in
theorem zgD (w:World):∃a,a=(w.alloc (.map #[] 0)).alloc (.cells #[.map (some w.heap.size)] 109)∧Fr No w a∧vN a w.heap.size []∧a.heap[w.heap.size+1]? =some (.cells #[.map (some w.heap.size)] 109 (0,0)):=by
 refine⟨_,rfl,((frN w).alloc _).alloc _,(yS.made w).keep (W:=No) ((Fr.refl _ _).alloc _) id,?_⟩
 exact xK (w.alloc (.map #[] 0)) (.cells #[.map (some w.heap.size)] 109) (n:=w.heap.size+1) (by simp)
omit w0 w p V S in
def zhp (w:World) (l:List zh) (e:Ending) (w':World):Prop:=∃M,e=.returned (if(l.map (·.at_)).Nodup then .tuple #[.pointer (some ⟨w.heap.size+1,0,none⟩),.int .i64 0] else .tuple #[.pointer none,.int .i64 12])∧vN w' w.heap.size M∧w'.heap[w.heap.size+1]? =some (.cells #[.map (some w.heap.size)] 109 (0,0))∧Fr No w w'∧((l.map (·.at_)).Nodup→∀k v,(k,v)∈M↔(⟨k,v⟩:zh)∈l)
omit w0 w p V S in
theorem zdy (w:World) {l:List zh} (hl:xz w v l) (hN:l.length≤100000):
  Calls prog 23 #[v] w (zhp w l):=by
 obtain⟨dO,uO,rO⟩:=Zt
 obtain⟨va,vc,rfl⟩:=hl.2.form
 have HL:=J hl
 obtain⟨w1,R,f1,I,F⟩:=zgD w
 have F1:=J f1
 have A:=J I
 have u:=J F
 have m1:=zc3
 clear hl f1 I F
 go_enter Tryz.func23,Tryz.ntmps23
 go_wp2_with fail
 rw[←R]
 clear R m1
 generalize N:w.heap.size=q at*
 go_loopw [12] (λiv wr=>∃(n:Nat) (M:List (zE×yk)),iv=.int .i64 n∧n≤l.length∧vN wr q M∧wr.heap[q+1]? =some (.cells #[.map (some q)] 109 (0,0))∧(∀k v,(k,v)∈M→(⟨k,v⟩:zh)∈l.take n)∧(∀c∈l.take n,∃v,(c.at_,v)∈M)∧M.length≤n∧Fr No w wr) (λiv _=>l.length-(intOf iv).toNat)
 case atStart=>exact⟨0,[],rfl,zero_le _,A.o,u.o,by simp,by simp,le_refl _,F1.o⟩
 case round=>
  obtain⟨n,M,rfl,hn,hm,m,h1,h2,ad,fr⟩:=hrel
  have r:=J hm
  have HB:=J m
  have T:=J fr
  have H1:=J h1
  have H2:=J h2
  clear h1 h2 fr hm
  by_cases h:n<l.length
  ·have i1:(n:Int)<(l.length:Int):=by omega
   obtain⟨c,hx⟩:∃c,l[n]? =some c:=⟨_,getElem?_eq_getElem h⟩
   obtain⟨b,off,ab,P,hr,-⟩:=(HL.o.keep T.o).at_ hx
   cases P
   have f:=J (HL.o.1 c (mem_of_getElem? hx))
   have W:=J (yv f.o)
   have PL:=J (zF f.o.1)
   have OL:=J (z6 f.o.2)
   have R1:=J hr
   have nb:=zK wr (zw c) 103
   have RP:=J (ju nb)
   have RO:=@J ((wr.alloc (.cells (zw c).toArray 103)).rangeAt wr.heap.size 33 (zx c.out)) (by have:=zbi f.o nb;rwa [Nat.zero_add] at this)
   have zc:=jI
   have E:l.take (n+1)=l.take n++[c]:=by rw[take_add_one,hx];rfl
   have U:=(frN wr).alloc (.cells (zw c).toArray 103)
   have FA:=J (T.o.trans0 U)
   have o:=U.obj m id
   have cA:(wr.alloc (.cells (zw c).toArray 103)).cell? ⟨q+1,0,none⟩=some (.map (some q)):=(Qg o).1
   have CA:=J cA
   have ae:q<wr.heap.size:=r.o.lt
   obtain⟨w3,M',O,D,hU,s,H⟩:=((r.o.keep U id).keep (frN _).drew id).upd vi.keyed jG (λ_ _=>qO) (yF f.o.1) (by unfold maxLen;omega) c.out
   have C:=s.fr
   have HR:=J O
   have Y:=J D
   have z:=J (C.obj (show(wr.alloc (.cells (zw c).toArray 103)).drew.heap[q+1]? =_ from o) (λe=>by omega))
   have S3:=@J (w3.cell? ⟨q+1,0,none⟩=some (.map (some q))∧w3.rangeAt wr.heap.size 0 (zi c.at_)∧w3.rangeAt wr.heap.size 33 (zx c.out)) (⟨(Qg z.o).1,zb (zb RP.o (frN _).drew id) C (λe=>by omega),zb (zb RO.o (frN _).drew id) C (λe=>by omega)⟩)
   have F3:=J (FA.o.drew.trans C (λi hi e=>by omega))
   have Z:=J hU
   have X:=J H
   clear hr nb cA O D hU s H C U m o
   go_wp2_with (first|(refine ziY rfl rfl rfl R1.o W.o ?_)|(refine ze rfl (zj (w:=wr) (ty:=103) rfl rfl rfl (by rw[W.o];rfl) (by rw[W.o];exact xI) yz) ?_))
   refine wrLx [ff,ff,ff,ff,ff,ff,ff,ff,tt] (λw'=>w'.cell? ⟨q+1,0,none⟩=some (.map (some q))∧w'.rangeAt wr.heap.size 0 (zi c.at_)∧w'.rangeAt wr.heap.size 33 (zx c.out)) ?_ (λK hK=>?_)
   ·exact⟨CA.o,zb RP.o (frN _).drew id,zb RO.o (frN _).drew id⟩
   repeat((first|(refine zn rfl ?_;constructor;constructor;(focus(first|exact zi1 rfl (λw h=>h.2.1) PL.o|exact yY (ty:=68) rfl (λw h=>h.2.2) uO rO (by rw[OL.o];exact yW)|(rintro w' ⟨s1,s2,s3⟩;exact goS))))|(refine zq rfl ?_));try simp only[Act.put,pA,pB,pC])
   (refine zN rfl (λK' hK'=>?_))
   refine xx (Ju rfl rfl rfl rfl HR.o) ?_
   refine nXt hK' ?_ λhS=>?_
   ·exact S3.o
   refine zZ (hK.out _ _ ?_)
   go_wp2
   go_roundw
   case rel=>
    refine⟨n+1,M',by simp,by omega,Y.o,z.o,?_,?_,by have:=X.o;omega,F3.o⟩
    ·intro k v aa
     rw[E]
     rcases(Z.o k v).1 aa with⟨rfl,rfl⟩|⟨_,h⟩
     ·simp
     ·exact mem_append.2 (.inl (H1.o k v h))
    ·intro c' G
     rw[E] at G
     by_cases e:c'.at_=c.at_
     ·exact⟨c.out,by rw[e];exact(Z.o _ _).2 (.inl ⟨rfl,rfl⟩)⟩
     ·rcases mem_append.1 G with h|h
      ·obtain⟨v,P⟩:=H2.o c' h
       exact⟨v,(Z.o _ _).2 (.inr ⟨e,P⟩)⟩
      ·rw[List.mem_singleton.1 h] at e;exact absurd rfl e
   case measure=>show l.length-(n+1)<l.length-n;omega
  ·have i1:¬(n:Int)<(l.length:Int):=by omega
   have s:l.take n=l:=by rw[show n=l.length by omega,take_length]
   have j:=@J (∀k v,(k,v)∈M→(⟨k,v⟩:zh)∈l) (by have:=H1.o;rwa [s] at this)
   have t:=@J (∀c∈l,∃v,(c.at_,v)∈M) (by have:=H2.o;rwa [s] at this)
   have g:∀x,x∈M.map (·.1)↔x∈l.map (·.at_):=by
    intro x
    constructor
    ·intro h
     obtain⟨y,hy,rfl⟩:=mem_map.1 h
     exact mem_map.2 ⟨_,j.o y.1 y.2 hy,rfl⟩
    ·intro h
     obtain⟨c,hc,rfl⟩:=mem_map.1 h
     obtain⟨v,P⟩:=t.o c hc
     exact mem_map.2 ⟨_,P,rfl⟩
   have d:=XC r.o.nodup g
   rw[length_map,length_map] at d
   have c0:wr.cell? ⟨q+1,0,none⟩=some (.map (some q)):=(Qg m).1
   have LR:=J (λty=>r.o.lenRun jG ty)
   clear s g A u F1 m
   by_cases hnd:(l.map (·.at_)).Nodup
   ·have j1:(M.length:Int)=(l.length:Int):=by have:=d.2 hnd;omega
    have B:=J hnd
    clear d hnd
    go_wp2_with (refine zg rfl (j4 rfl rfl (LR.o _)) ?_)
    go_ret2
    refine⟨M,by rw[if_pos B.o,N];rfl,by rw[N];exact r.o,by rw[N];exact HB.o,T.o,λ_ k v=>⟨j.o k v,λh=>?_⟩⟩
    obtain⟨v',Q⟩:=t.o _ h
    have h':=j.o _ _ Q
    have:∀ {L:List zh},(L.map (·.at_)).Nodup→∀a∈L,∀b∈L,a.at_=b.at_→a=b:=by
     intro L
     induction L with
     |nil=>intro _ a ha;cases ha
     |cons x L ih=>
      intro hn a ha b m e
      obtain⟨n1,n2⟩:=nodup_cons.1 hn
      rcases mem_cons.1 ha with rfl|ha'<;>rcases mem_cons.1 m with rfl|hb'
      ·rfl
      ·exact absurd (mem_map.2 ⟨b,hb',e.symm⟩) n1
      ·exact absurd (mem_map.2 ⟨a,ha',e⟩) n1
      ·exact ih n2 a ha' b hb' e
    have:=this B.o _ h' _ h rfl
    injection this with _ e
    rw[←e]
    exact Q
   ·have j1:¬(M.length:Int)=(l.length:Int):=λe=>hnd (d.1 (by omega))
    have B:=J hnd
    clear d hnd
    go_wp2_with (refine zg rfl (j4 rfl rfl (LR.o _)) ?_)
    go_ret2
    exact⟨M,by rw[if_neg B.o];rfl,by rw[N];exact r.o,by rw[N];exact HB.o,T.o,λh=>absurd h B.o⟩
end
theorem xq:(zx vF).toArray.size=33:=by rw[List.size_toArray,z6 Xd]
theorem zhd (w0 w:World) (f:Fr No w0 w) {l:List zh} (b:xz w v l) (d:l.length≤100000) (a:(l.map (·.at_)).Nodup):
  Calls prog 23 #[v] w λe w'=>∃p,e=.returned (.tuple #[.pointer (some ⟨p,0,none⟩),.int .i64 0])∧∃V,CS w0 w' p V (qP [] l)∧Fr No w w'∧(∀k,V k→w.heap.size≤k):=by
 refine(zdy w b d).mono ?_
 rintro e w' ⟨M,rfl,m,g,fr,n⟩
 refine⟨w.heap.size+1,by rw[if_pos a],λj=>j=w.heap.size+1∨j=w.heap.size,⟨⟨_,M,g,m,λk v=>?_,by omega,rfl⟩,vD List.Pairwise.nil a (λ_ _=>rfl),λc i=>?_,?_,f.trans0 fr⟩,fr,?_⟩
 ·rw[n a,vo];simp
 ·rcases vo.1 i with h|h
  ·cases h
  ·exact b.1 c h
 ·have:=f.size;rintro j (rfl|rfl)<;>omega
 ·rintro j (rfl|rfl)<;>omega
theorem zek (w:World) {l:List zh} (c:xz w v l) (b:l.length≤100000) (a:¬(l.map (·.at_)).Nodup):
  Calls prog 23 #[v] w λe w'=>e=.returned (.tuple #[.pointer none,.int .i64 12])∧Fr No w w':=by
 refine(zdy w c b).mono ?_
 rintro e w' ⟨M,rfl,-,-,fr,-⟩
 exact⟨by rw[if_neg a],fr⟩
theorem zfe {S:List zh} (h:qg S) {q:zE} {v:yk}:JX S q=some v↔(⟨q,v⟩:zh)∈S:=by
 constructor
 ·intro e
  cases hh:xE S q with
  |false=>rw[QS hh] at e;cases e
  |true=>
   obtain⟨c,a,rfl⟩:=Z0.1 hh
   rw[Zu h a] at e
   injection e with e
   rw[←e]
   exact a
 ·intro b
  exact Zu (c:=⟨q,v⟩) h b
def yj (S:List zh) (q:zE):yk:=(JX S q).getD vF
theorem vQ {S:List zh} (ok:∀c∈S,c.ok) (q:zE):(yj S q).ok:=by
 unfold yj JX
 cases e:S.find? λc=>decide (c.at_=q) with
 |none=>exact Xd
 |some c=>exact(ok c (List.mem_of_find?_eq_some e)).2
section
variable {w0 w:World} {p:Nat} {V:Nat→Prop} {S:List zh}
theorem zaJ {m:Nat} {M:List (zE×yk)} (d:∀k v,(k,v)∈M↔(⟨k,v⟩:zh)∈S) (a:qg S) {q:zE} (c:q.ok) (b:vN w m M):
  (Instr.lookup 107 (.map (some m)) (jR q) true).run prog w=.ok (.tuple #[.agg (zx (yj S q)).toArray,.bool (xE S q)]) w:=by
 have h:=b.look vi.keyed jG (λ_ _=>qO) zg9 (yF c) true (r:=JX S q) (λv=>by rw[d,zfe a])
 rw[h,zaF]
 have:((JX S q).map VO).getD (VO vF)=VO (yj S q):=by
  unfold yj
  cases JX S q<;>rfl
 simp only[if_true,this]
 rfl
theorem zcH (h:CS w0 w p V S) {q:zE} (v:q.ok):Calls prog 41 #[.pointer (some ⟨p,0,none⟩),.agg (zi q).toArray] w λe w'=>e=.returned (.tuple #[.agg (zx (yj S q)).toArray,.bool (xE S q)])∧Fr No w w':=by
 obtain⟨G,F,E⟩:=Zt
 obtain⟨m,M,s,u,x,r,rfl⟩:=h.ex
 have c:=J (λw' (h':vN w' m M)=>zaJ (w:=w') x h.srt v h')
 have o:=J (vQ h.ok q)
 have d:=J (z6 o.o)
 have A:=J (zF v)
 have N:=yA
 have l:Fr No w ((w.alloc (.cells (zi q).toArray 72)).alloc (.cells (zx vF).toArray 68)):=((frN w).alloc _).alloc _
 have k:=(Qg (l.obj s id)).1
 have j:=J (zb (zK w (zi q) 72) ((frN _).alloc (.cells (zx vF).toArray 68)) id)
 have g:=J (u.keep l id)
 have f:=J (xK (w.alloc (.cells (zi q).toArray 72)) (.cells (zx vF).toArray 68) (n:=w.heap.size+1) (by simp))
 have y:=J l
 generalize xE S q=C at*
 generalize yj S q=X at*
 clear h s u x r l
 go_enter Tryz.func41,Tryz.ntmps41
 go_wp2_with fail
 generalize D:w.heap.size=n at*
 generalize (w.alloc (.cells (zi q).toArray 72)).alloc (.cells (zx vF).toArray 68)=a at*
 refine wrLx [ff,ff,ff,ff,ff,ff,ff,ff,ff,tt,tt,ff] (λw'=>w'.cell? ⟨p,0,none⟩=some (.map (some m))∧w'.rangeAt n 0 (zi q)∧vN w' m M) ?_ (λK hK=>?_)
 ·exact⟨k,zb j.o (frN _).drew id,g.o.keep (frN _).drew id⟩
 repeat((first|(refine zn rfl ?_;constructor;constructor;(focus(first|exact zi1 rfl (λw h=>h.2.1) A.o|exact λw' h=>qY (t:=107) rfl rfl rfl (c.o w' h.2.2)|(rintro w' ⟨H,I,L⟩;exact goS))))|(refine zq rfl ?_));try simp only[Act.put,pA,pB,pC])
 (refine zN rfl (λK' hK'=>?_))
 refine yg (y4 rfl (yA _)) ?_
 refine nXt hK' ?_ λhS=>?_
 ·exact⟨(((frN a).drew).alloc _).cell k id,zb j.o (((frN a).drew).alloc _) id,g.o.keep (((frN a).drew).alloc _) id⟩
 try simp only[Act.put,pA,pB,pC]
 (refine zN rfl (λK' hK'=>?_))
 refine xx (zj (w:=a.drew) (ty:=68) (cs:=zx X) rfl rfl rfl (by rw[d.o];rfl) (by rw[d.o];exact yW) zV) ?_
 refine nXt hK' ?_ λhS=>?_
 ·exact⟨(((frN a).drew).alloc _).cell k id,zb j.o (((frN a).drew).alloc _) id,g.o.keep (((frN a).drew).alloc _) id⟩
 try simp only[Act.put]
 repeat((first|(refine zn rfl ?_;constructor;constructor;(focus(first|(rintro w' -;exact goS))))|(refine zq rfl ?_));try simp only[Act.put,pA,pB,pC])
 refine zZ (hK.out _ _ ?_)
 have B:=@J ((a.alloc (.cells (zx X).toArray 68)).drew.rangeAt a.heap.size 0 (zx X)) (zK a (zx X) 68)
 have b:=J (((frN a).alloc (.cells (zx X).toArray 68)).drew.obj f.o id)
 have z:=J ((y.o.alloc (.cells (zx X).toArray 68)).drew)
 clear k j g c f
 go_wp2_with (first|(refine ziW rfl rfl rfl B.o d.o ?_)|(refine ze rfl (zy (ty:=68) rfl rfl rfl (by rw[d.o];exact zM b.o (Nat.le_of_eq xq.symm)) (by rw[d.o];exact yW) zV) ?_))
 refine bodyPost_ret (zR (P:=prog) (fn:=Tryz.f41) rfl _ rfl (yE b.o (by rw[d.o];exact xq)) F E (by rw[d.o];exact yW) rfl) rfl ⟨rfl,?_⟩
 exact z.o.trans (zv _ _ _ _) (λi hi e=>by omega)
end
end Go.Proofs.YtmpamcnlineceaaGreatDoor
namespace Go
open Go.MapKept Go.RowKit Go.Maps
section
variable {P:Program} {kt et t:TypeId} {w:World} {r b:Nat} {κ ι:Type} {kV:κ→Value} {vV:ι→Value} {M R:List (κ×ι)}
def jL (P:Program) (kt:TypeId) (kV:κ→Value) (vV:ι→Value) (w:World) (r b:Nat) (M R:List (κ×ι)):Prop:=
 vK P kt w r b (M.map λx=>(kV x.1,vV x.2)) (R.map λx=>(kV x.1,vV x.2))
theorem jL.map (h:jL P kt kV vV w r b M R):yS P kt kV vV w b M:=vK.map h
theorem jL.keep {w':World} {W:Nat→Prop} (h:jL P kt kV vV w r b M R) (f:Fr W w w') (a:¬W b) (c:¬W r):jL P kt kV vV w' r b M R:=vK.keep h f a c
theorem yS.rangeI (c:P.underlying t=some (.map kt et)) (h:yS P kt kV vV w b M):
  ∃a,(Instr.range t (.map (some b))).run P w=.ok (.pointer (some ⟨w.heap.size,0,none⟩)) (w.alloc (.mapIter (some b) a #[] a))∧jL P kt kV vV (w.alloc (.mapIter (some b) a #[] a)) w.heap.size b M M:=xf.range c h
theorem jL.stop (h:jL P kt kV vV w r b M []) (ty:TypeId):(Instr.next (.pointer (some ⟨r,0,none⟩)) false ty).run P w=.ok (.tuple #[.bool false]) w:=vK.nextNone h ty
theorem jL.step (h:jL P kt kV vV w r b M R) (f:R≠[]) (ty:TypeId):
  ∃A x B w',R=A++x::B∧(Instr.next (.pointer (some ⟨r,0,none⟩)) false ty).run P w=.ok (.tuple #[.bool true,kV x.1,vV x.2]) w'∧jL P kt kV vV w' r b M (A++B)∧Fr (· =r) w w'∧
   (Instr.entry (.pointer (some ⟨r,0,none⟩))).run P w'=.ok (.tuple #[kV x.1,vV x.2]) w':=by
 obtain⟨m,p,n,i,l,g,e,j,c⟩:=vK.nextSome h (by simpa using f) ty
 obtain⟨A,B,d,k,a⟩:=List.map_eq_append_iff.1 l
 cases B with
 |nil=>simp at a
 |cons x B=>
  simp only[List.map_cons,List.cons.injEq] at a
  obtain⟨rfl,a⟩:=a
  subst k
  subst a
  exact⟨A,x,B,i,d,g,by unfold jL;rw[List.map_append];exact e,j,c i rfl rfl⟩
end
end Go
namespace Go
open Go.RowKit Go.Maps Go.MapKept
theorem append_nil {P:Program} (w:World) (t ty e:TypeId) (c:P.underlying t=some (.slice e)) (i:TypeInfo) (hi:P.info? e=some i) (base:Option Addr) (n a:Nat) (b:n≤a):
  (Builtin.append_ #[t,t] ty #[.slice base n a,.slice none 0 0]).run P w=.ok (.slice base n a) w:=by
 cases base<;>simp[Builtin.append_,run_underlying c,sizeOf,typeInfo,hi,b,storeCells,loadCells,Builtin.lenOf,Builtin.firstCells]
theorem qT {P:Program} (w:World) (base:Nat) (t ty e:TypeId) (size bytes:Nat) (z:Value) (E:P.underlying t=some (.slice e)) (d:(P.info? e).map (λi=>(i.zero,i.size,i.bytes))=some (some z,size,bytes)) (D:z.cells.size=size) (C:0<size)
  (v:Value) (n:Nat) (xs:List Value) (f:w.ownsRow base e size v n xs) (x:Value) (m:Nat) (news:List Value) (F:yP w x m news) (M:news.length=m*size) (r:∀u∈news,u.oneCell'=true)
  (l:(n+m)*bytes≤140737488355328) (A:n+m≤maxLen) (p:base≤w.heap.size):
  ∃q w',(Builtin.append_ #[t,t] ty #[v,x]).run P w=.ok q w'∧w'.ownsRow base e size q (n+m) (xs++news)∧Fr (λj=>v.ownBlock=some j) w w'∧(∀k,q.ownBlock=some k→v.ownBlock=some k∨w.heap.size≤k):=by
 by_cases hnil:x=.slice none 0 0
 ·subst hnil
  have N:m=0∧news=[]:=by
   rcases F with⟨_,r,y⟩|⟨b,o,c,h,_⟩
   ·exact⟨r,y⟩
   ·cases h
  obtain⟨rfl,rfl⟩:=N
  obtain⟨i,hi,_⟩:=info_parts d
  have L:∃a c,v=.slice a n c∧n≤c:=by
   rcases f.2 with⟨rfl,rfl⟩|⟨g,G,H,rfl,_,_,h,_⟩
   ·exact⟨none,0,rfl,Nat.le_refl _⟩
   ·exact⟨_,_,rfl,h⟩
  obtain⟨a,c,rfl,B⟩:=L
  refine⟨_,w,append_nil w t ty e E i hi a n c B,by simpa using f,Fr.refl _ _,λk h=>.inl h⟩
 ·obtain⟨q,w',s,y,I,_,K⟩:=Jq (P:=P) w base t ty e size bytes z E d D C v n xs f x m news F.arg M r l A p hnil
  exact⟨q,w',s,y,(Fr.refl _ w).grown I (λk e=>.inr e),K⟩
end Go
namespace Go.Proofs.YtmpamcnlineceaaGreatDoor
open Go Go.RowKit Go.Maps Go.MapKept
open Go.Proofs.Tryz(prog)
open List(mem_map getElem?_eq_getElem mem_append mem_of_getElem? mem_cons length_map take_add_one take_length map_append nodup_cons map_cons not_mem_nil)
open Nat(le_refl zero_le)
variable {B:Nat} {l:List Int} {v:Value} {w w':World}
abbrev zY:=List Int
def zl (h:zY):List Value:=h.map zu
def YG (h:zY):Value:=.agg (zl h).toArray
theorem yr {h:zY} (k:xU h):(zl h).length=32:=by simp[zl,k.1]
theorem zX {h:zY}:∀v∈zl h,v.oneCell'=true:=by
 intro v a
 obtain⟨y,_,rfl⟩:=mem_map.1 a
 rfl
theorem Yr {a b:zY} (h:zl a=zl b):a=b:=Yl h
theorem Jj {a b:zY} (h:YG a=YG b):a=b:=by
 unfold YG at h
 injection h with h
 exact Yr (by simpa using congrArg Array.toList h)
theorem zg2:prog.underlying 40=some (.array 32 5):=by kernel_rfl
theorem xn {h:zY} (k:xU h):∃l,keyOf prog 40 (YG h)=some l:=
 zby zg2 (by kernel_rfl) (by kernel_rfl) (by kernel_rfl) (by kernel_rfl) (of_decide_eq_true (by kernel_rfl)) h k.1 (λx a=>zhi (k.2 x a))
theorem jN:EqN prog 40:=⟨Keyed.of_law (deep_law_laid Y9 (m:=2) (by decide) (of_decide_eq_true (by kernel_rfl)) (by kernel_rfl) (by kernel_rfl)),⟨2,by decide,by kernel_rfl⟩,by kernel_rfl,by kernel_rfl⟩
theorem JW:∃d,prog.underlying 40=some d∧d.isRow=true:=vq (by kernel_rfl)
theorem yG:(prog.info? 40).map (·.size)=some 32:=by kernel_rfl
def z7:zY:=List.replicate 32 0
theorem j5:xU z7:=⟨rfl,λx a=>by have:x=0:=List.eq_of_mem_replicate a;omega⟩
theorem jS:prog.underlying 52=some (.slice 40):=by kernel_rfl
theorem qW:(prog.info? 40).map (λi=>(i.zero,i.size,i.bytes))=some (some (.agg (zl z7).toArray),32,32):=by kernel_rfl
theorem Va:(prog.info? 40).map (λi=>(i.zero,i.size))=some (some (.agg (zl z7).toArray),32):=by kernel_rfl
theorem qt (w:World):(zeroValue 40).run prog w=.ok (.agg (zl z7).toArray) w:=by kernel_rfl
def ZM (w:World) (v:Value) (l:List zY):Prop:=(∀c∈l,xU c)∧xG w v l.length (l.flatMap zl)
theorem ZM.keep {l:List zY} (h:ZM w v l) (f:Fr No w w'):ZM w' v l:=⟨h.1,h.2.keep f⟩
theorem ZM.at_ {l:List zY} (h:ZM w v l) {i:Nat} {c:zY} (d:l[i]? =some c):∃b off a,v=.slice (some ⟨b,off,none⟩) l.length a∧w.rangeAt b (off+i*32) (zl c)∧b<w.heap.size:=
 h.2.elem (by decide) (λx d=>yr (h.1 x d)) d
theorem qI {l:List zY} (ok:∀c∈l,xU c):(l.flatMap zl).length=l.length*32:=qU zl 32 l (λx a=>yr (ok x a))
theorem qJ {l:List zY}:∀u∈l.flatMap zl,u.oneCell'=true:=λu a=>by
 obtain⟨x,_,b⟩:=List.mem_flatMap.1 a
 exact zX u b
theorem ZM.own {l:List zY} (h:w.ownsRow B 40 32 v l.length (l.flatMap zl)) (ok:∀c∈l,xU c):ZM w v l:=⟨ok,h.slice.arg⟩
theorem xG.cap {a:Option Addr} {n c:Nat} {cs:List Value} (h:xG w (.slice a n c) n cs):n≤c:=by
 rcases h with(⟨e,rfl,-⟩|⟨b,off,d,e,f,-⟩)|⟨a',d,e,rfl,-⟩
 ·exact zero_le _
 ·injection e with _ _ e3;subst e3;exact f
 ·exact zero_le _
theorem VF:prog.underlying 84=some (.slice 5):=by kernel_rfl
theorem XA:(prog.info? 5).map (λi=>(i.zero,i.size,i.bytes))=some (some (.int .u8 0),1,1):=by kernel_rfl
def yC (w:World) (B:Nat) (v:Value) (l:List Int):Prop:=w.ownsRow B 5 1 v l.length (l.map zu)
theorem V3:∀u∈l.map zu,u.oneCell'=true:=λu a=>by
 obtain⟨x,_,rfl⟩:=mem_map.1 a
 rfl
theorem yC.nil (w:World) (B:Nat):yC w B (.slice none 0 0) []:=World.ownsRow_nil w B _ 1
theorem yC.form (h:yC w B v l):∃a c,v=.slice a l.length c:=h.slice.arg.form
theorem yC.keep (h:yC w B v l) {W:Nat→Prop} (f:Fr W w w') (a:∀b,v.ownBlock=some b→¬W b):yC w' B v l:=zf h f a
theorem yC.keep0 (h:yC w B v l) (f:Fr No w w'):yC w' B v l:=zf h f (λ_ _=>id)
def Zq (w:World) (v v':Value):Prop:=∀k,v'.ownBlock=some k→v.ownBlock=some k∨w.heap.size≤k
theorem yq (w:World) {v x:Value} {l m:List Int} (p:yC w B v l) (q:xG w x m.length (m.map zu)) (o:l.length+m.length≤1000000) (n:B≤w.heap.size) (ty:TypeId):
  ∃b w',(Builtin.append_ #[84,84] ty #[v,x]).run prog w=.ok b w'∧yC w' B b (l++m)∧Fr (λj=>v.ownBlock=some j) w w'∧Zq w v b:=by
 have s:(l++m).length=l.length+m.length:=List.length_append
 by_cases hnil:x=.slice none 0 0
 ·obtain⟨a,c,h⟩:=q.form
  rw[hnil] at h
  injection h with h1 h2 h3
  have r:m=[]:=List.eq_nil_of_length_eq_zero h2.symm
  subst r
  obtain⟨b,w',d,f,g,i⟩:=qT (P:=prog) w B 84 ty 5 1 1 _ VF XA rfl (by decide) v l.length (l.map zu) p x 0 [] (.inl ⟨hnil,rfl,rfl⟩) rfl (by simp) (by simp at o⊢;omega) (by unfold maxLen;simp at o;omega) n
  exact⟨b,w',d,by unfold yC;simpa using f,g,i⟩
 ·obtain⟨b,w',d,f,g,-,i⟩:=Jq (P:=prog) w B 84 ty 5 1 1 _ VF XA rfl (by decide) v l.length (l.map zu) p x m.length (m.map zu) q (by simp) V3 (by omega) (by unfold maxLen;omega) n hnil
  refine⟨b,w',d,?_,(Fr.refl _ w).grown g (λk e=>.inr e),i⟩
  unfold yC
  rw[List.length_append,map_append]
  exact f
theorem yT (w:World) {x:Int} (q:yC w B v l) (p:l.length+1≤1000000) (r:B≤w.heap.size) (ty:TypeId):
  ∃a w',(Builtin.append_ #[84,84] ty #[v,.slice (some ⟨w.heap.size,0,none⟩) 1 1]).run prog (w.alloc (.cells #[zu x] 5))=.ok a w'∧yC w' B a (l++[x])∧Fr (λj=>v.ownBlock=some j) w w'∧Zq w v a:=by
 have g:=zS w (.cells #[zu x] 5)
 obtain⟨a,w',b,c,d,f⟩:=yq (w.alloc (.cells #[zu x] 5)) (q.keep0 ((frN w).alloc _)) (x:=.slice (some ⟨w.heap.size,0,none⟩) 1 1) (m:=[x]) (.inl (.inr ⟨w.heap.size,0,1,rfl,le_refl _,by unfold maxLen;omega,λj u n=>by
   have:=zm g j u n
   exact this,by simp⟩)) p (by simp;omega) ty
 exact⟨a,w',b,c,((Fr.refl _ w).alloc _).trans d (λi hi e=>e),λk o=>(f k o).imp id (λh=>by simp at h;omega)⟩
theorem VQ (w:World) {u v:Value} {ks ls:List zh} (G:xz w u ks) (H:xz w v ls) (hN:ks.length≤100000) (_:ls.length≤100000):
  Calls prog 16 #[u,v] w λe w'=>∃b,e=.returned (.bool b)∧(b=true↔ks=ls)∧Fr No w w':=by
 obtain⟨dK,A,z⟩:=ze6
 obtain⟨ua,uc,rfl⟩:=G.2.form
 obtain⟨va,vc,rfl⟩:=H.2.form
 have O:=J G
 have P:=J H
 clear G H
 by_cases hlen:ks.length=ls.length
 ·have j1:(ks.length:Int)=(ls.length:Int):=by omega
  have i:=J hlen
  clear hlen
  go_enter Tryz.func16,Tryz.ntmps16
  go_wp2
  go_loopw [13] (λN wr=>∃n:Nat,N=.int .i64 n∧n≤ks.length∧ks.take n=ls.take n∧Fr No w wr) (λN _=>ks.length-(intOf N).toNat)
  case atStart=>exact⟨0,rfl,zero_le _,by simp,Fr.refl _ _⟩
  case round=>
   obtain⟨n,rfl,hn,k,fr⟩:=hrel
   have c:=J fr
   have S:=J k
   clear fr k
   by_cases h:n<ks.length
   ·have i1:(n:Int)<(ks.length:Int):=by omega
    have M:(n:Int)<(ls.length:Int):=by omega
    obtain⟨x,r⟩:∃x,ks[n]? =some x:=⟨_,getElem?_eq_getElem h⟩
    obtain⟨y,hy⟩:∃y,ls[n]? =some y:=⟨_,getElem?_eq_getElem (by rw[←i.o];exact h)⟩
    obtain⟨q,s,cx,I,l,-⟩:=(O.o.keep c.o).at_ r
    cases I
    obtain⟨a,t,cy,L,m,-⟩:=(P.o.keep c.o).at_ hy
    cases L
    have o:=J (O.o.1 x (mem_of_getElem? r))
    have p:=J (P.o.1 y (mem_of_getElem? hy))
    have Q:=J (yv o.o)
    have R:=J (yv p.o)
    have T:=J l
    have U:=J m
    have V:=@J (ks.take (n+1)=ks.take n++[x]) (by rw[take_add_one,r];rfl)
    have X:=@J (ls.take (n+1)=ls.take n++[y]) (by rw[take_add_one,hy];rfl)
    clear l m r hy
    by_cases hxk:x=y
    ·have C:=@J ((zw x).toArray=(zw y).toArray) (by simp[hxk])
     have F:=@J (ks.take (n+1)=ls.take (n+1)) (by rw[V.o,X.o,S.o,hxk])
     clear hxk
     have d:Fr No wr wr.drew:=by(repeat(first|with_reducible exact Fr.refl _ _|with_reducible assumption|with_reducible refine Fr.drew ?_|with_reducible refine Fr.drewN ?_ _|with_reducible refine Fr.alloc ?_ _|with_reducible refine Fr.setCell ?_ _ (.inl (by simp<;>omega)) _))
     have j:=J (λ(W:World) (f:Fr No wr W)=>(⟨zb T.o f id,zb U.o f id⟩:W.rangeAt q (s+n*66) (zw x)∧W.rangeAt a (t+n*66) (zw y)))
     go_wp2
     refine wrLx [ff,ff,ff,ff,ff,ff,ff,ff,ff] (λW=>W.rangeAt q (s+n*66) (zw x)∧W.rangeAt a (t+n*66) (zw y)) ?_ (λK hK=>?_)
     ·exact j.o _ d
     repeat((first|(refine zn rfl ?_;constructor;constructor;(focus(first|exact yY (ty:=103) rfl (λw h=>h.1) A z (by rw[Q.o];exact xI)|exact yY (ty:=103) rfl (λw h=>h.2) A z (by rw[R.o];exact xI)|exact λw' h=>zfb.exec_neq (u:=(zw x).toArray) (v:=(zw y).toArray) rfl rfl rfl (Yu o.o) (Yu p.o) true ⟨λ_=>C.o,λ_=>rfl⟩ w'|(rintro w' -;exact goS))))|(refine zq rfl ?_));try simp only[Act.put,pA,pB,pC])
     refine zZ (hK.out _ _ ?_)
     have B:=J d
     clear d j
     go_wp2
     go_roundw
     case rel=>exact⟨n+1,by simp,by omega,F.o,c.o.trans0 B.o⟩
     case measure=>show ks.length-(n+1)<ks.length-n;omega
    ·have C:=@J (¬(zw x).toArray=(zw y).toArray) (λe=>hxk (zdR o.o p.o (by simpa using e)))
     have E:=@J (ks≠ls) (λe=>hxk (by
      have Y:=V.o
      have Z:=X.o
      rw[e] at Y
      rw[Y] at Z
      have h3:=congrArg List.getLast? Z
      simpa using h3))
     clear hxk
     have d:Fr No wr wr.drew:=by(repeat(first|with_reducible exact Fr.refl _ _|with_reducible assumption|with_reducible refine Fr.drew ?_|with_reducible refine Fr.drewN ?_ _|with_reducible refine Fr.alloc ?_ _|with_reducible refine Fr.setCell ?_ _ (.inl (by simp<;>omega)) _))
     have j:=J (λ(W:World) (f:Fr No wr W)=>(⟨zb T.o f id,zb U.o f id⟩:W.rangeAt q (s+n*66) (zw x)∧W.rangeAt a (t+n*66) (zw y)))
     go_wp2
     refine wrLx [ff,ff,ff,ff,ff,ff,ff,ff,ff] (λW=>W.rangeAt q (s+n*66) (zw x)∧W.rangeAt a (t+n*66) (zw y)) ?_ (λK hK=>?_)
     ·exact j.o _ d
     repeat((first|(refine zn rfl ?_;constructor;constructor;(focus(first|exact yY (ty:=103) rfl (λw h=>h.1) A z (by rw[Q.o];exact xI)|exact yY (ty:=103) rfl (λw h=>h.2) A z (by rw[R.o];exact xI)|exact λw' h=>zfb.exec_neq (u:=(zw x).toArray) (v:=(zw y).toArray) rfl rfl rfl (Yu o.o) (Yu p.o) false ⟨λe=>(by cases e),λe=>absurd e C.o⟩ w'|(rintro w' -;exact goS))))|(refine zq rfl ?_));try simp only[Act.put,pA,pB,pC])
     refine zZ (hK.out _ _ ?_)
     have B:=J d
     clear d j
     go_wp2
     go_ret
     exact⟨false,rfl,by simp[E.o],c.o.trans0 B.o⟩
   ·have i1:¬(n:Int)<(ks.length:Int):=by omega
    have M:n=ks.length:=by omega
    have g:ks=ls:=by have:=S.o;rw[M,take_length,i.o,take_length] at this;exact this
    have D:=J g
    clear g M
    go_wp2
    go_ret
    first|exact⟨true,rfl,by simp[D.o],c.o⟩|exact .inr ⟨rfl,D.o,c.o⟩|exact .inl ⟨rfl,D.o,c.o⟩
 ·have j1:¬(ks.length:Int)=(ls.length:Int):=by omega
  have E:=@J (ks≠ls) (λe=>hlen (by rw[e]))
  clear hlen
  go_enter Tryz.func16,Tryz.ntmps16
  go_wp2
  go_ret
  exact⟨false,rfl,by simp[E.o],Fr.refl _ _⟩
def xA (w:World) (v:Value) (l:List yk):Prop:=(∀c∈l,c.ok)∧xG w v l.length (l.flatMap zx)
theorem xA.keep {l:List yk} (h:xA w v l) (f:Fr No w w'):xA w' v l:=⟨h.1,h.2.keep f⟩
theorem xA.at_ {l:List yk} (h:xA w v l) {i:Nat} {c:yk} (d:l[i]? =some c):∃b off a,v=.slice (some ⟨b,off,none⟩) l.length a∧w.rangeAt b (off+i*33) (zx c)∧b<w.heap.size:=
 h.2.elem (by decide) (λx d=>z6 (h.1 x d)) d
theorem zaR (w:World) {u v:Value} {ks ls:List yk} (G:xA w u ks) (H:xA w v ls) (hN:ks.length≤100000) (hM:ls.length≤100000):
  Calls prog 37 #[u,v] w λe w'=>∃b,e=.returned (.bool b)∧(b=true↔ks=ls)∧Fr No w w':=by
 obtain⟨dK,t,s⟩:=Zt
 obtain⟨ua,uc,rfl⟩:=G.2.form
 obtain⟨va,vc,rfl⟩:=H.2.form
 have O:=J G
 have P:=J H
 clear G H
 by_cases hlen:ks.length=ls.length
 ·have j1:(ks.length:Int)=(ls.length:Int):=by omega
  have i:=J hlen
  clear hlen
  go_enter Tryz.func37,Tryz.ntmps37
  go_wp2
  go_loopw [13] (λN wr=>∃n:Nat,N=.int .i64 n∧n≤ks.length∧ks.take n=ls.take n∧Fr No w wr) (λN _=>ks.length-(intOf N).toNat)
  case atStart=>exact⟨0,rfl,zero_le _,by simp,Fr.refl _ _⟩
  case round=>
   obtain⟨n,rfl,hn,k,fr⟩:=hrel
   have c:=J fr
   have S:=J k
   clear fr k
   by_cases h:n<ks.length
   ·have i1:(n:Int)<(ks.length:Int):=by omega
    have M:(n:Int)<(ls.length:Int):=by omega
    obtain⟨x,p⟩:∃x,ks[n]? =some x:=⟨_,getElem?_eq_getElem h⟩
    obtain⟨y,hy⟩:∃y,ls[n]? =some y:=⟨_,getElem?_eq_getElem (by rw[←i.o];exact h)⟩
    obtain⟨o,q,cx,I,l,-⟩:=(O.o.keep c.o).at_ p
    cases I
    obtain⟨a,r,cy,L,m,-⟩:=(P.o.keep c.o).at_ hy
    cases L
    have E:=J (O.o.1 x (mem_of_getElem? p))
    have F:=J (P.o.1 y (mem_of_getElem? hy))
    have Q:=J (z6 E.o)
    have R:=J (z6 F.o)
    have T:=J l
    have U:=J m
    have V:=@J (ks.take (n+1)=ks.take n++[x]) (by rw[take_add_one,p];rfl)
    have X:=@J (ls.take (n+1)=ls.take n++[y]) (by rw[take_add_one,hy];rfl)
    clear l m p hy
    by_cases hxk:x=y
    ·have A:=@J ((zx x).toArray=(zx y).toArray) (by simp[hxk])
     have D:=@J (ks.take (n+1)=ls.take (n+1)) (by rw[V.o,X.o,S.o,hxk])
     clear hxk
     have d:Fr No wr wr.drew:=by(repeat(first|with_reducible exact Fr.refl _ _|with_reducible assumption|with_reducible refine Fr.drew ?_|with_reducible refine Fr.drewN ?_ _|with_reducible refine Fr.alloc ?_ _|with_reducible refine Fr.setCell ?_ _ (.inl (by simp<;>omega)) _))
     have j:=J (λ(W:World) (f:Fr No wr W)=>(⟨zb T.o f id,zb U.o f id⟩:W.rangeAt o (q+n*33) (zx x)∧W.rangeAt a (r+n*33) (zx y)))
     go_wp2
     refine wrLx [ff,ff,ff,ff,ff,ff,ff,ff,ff] (λW=>W.rangeAt o (q+n*33) (zx x)∧W.rangeAt a (r+n*33) (zx y)) ?_ (λK hK=>?_)
     ·exact j.o _ d
     repeat((first|(refine zn rfl ?_;constructor;constructor;(focus(first|exact yY (ty:=68) rfl (λw h=>h.1) t s (by rw[Q.o];exact yW)|exact yY (ty:=68) rfl (λw h=>h.2) t s (by rw[R.o];exact yW)|exact λw' h=>zfc.exec_neq (u:=(zx x).toArray) (v:=(zx y).toArray) rfl rfl rfl (J4 E.o) (J4 F.o) true ⟨λ_=>A.o,λ_=>rfl⟩ w'|(rintro w' -;exact goS))))|(refine zq rfl ?_));try simp only[Act.put,pA,pB,pC])
     refine zZ (hK.out _ _ ?_)
     have z:=J d
     clear d j
     go_wp2
     go_roundw
     case rel=>exact⟨n+1,by simp,by omega,D.o,c.o.trans0 z.o⟩
     case measure=>show ks.length-(n+1)<ks.length-n;omega
    ·have A:=@J (¬(zx x).toArray=(zx y).toArray) (λe=>hxk (zbL (by simpa using e)))
     have C:=@J (ks≠ls) (λe=>hxk (by
      have Y:=V.o
      have Z:=X.o
      rw[e] at Y
      rw[Y] at Z
      have h3:=congrArg List.getLast? Z
      simpa using h3))
     clear hxk
     have d:Fr No wr wr.drew:=by(repeat(first|with_reducible exact Fr.refl _ _|with_reducible assumption|with_reducible refine Fr.drew ?_|with_reducible refine Fr.drewN ?_ _|with_reducible refine Fr.alloc ?_ _|with_reducible refine Fr.setCell ?_ _ (.inl (by simp<;>omega)) _))
     have j:=J (λ(W:World) (f:Fr No wr W)=>(⟨zb T.o f id,zb U.o f id⟩:W.rangeAt o (q+n*33) (zx x)∧W.rangeAt a (r+n*33) (zx y)))
     go_wp2
     refine wrLx [ff,ff,ff,ff,ff,ff,ff,ff,ff] (λW=>W.rangeAt o (q+n*33) (zx x)∧W.rangeAt a (r+n*33) (zx y)) ?_ (λK hK=>?_)
     ·exact j.o _ d
     repeat((first|(refine zn rfl ?_;constructor;constructor;(focus(first|exact yY (ty:=68) rfl (λw h=>h.1) t s (by rw[Q.o];exact yW)|exact yY (ty:=68) rfl (λw h=>h.2) t s (by rw[R.o];exact yW)|exact λw' h=>zfc.exec_neq (u:=(zx x).toArray) (v:=(zx y).toArray) rfl rfl rfl (J4 E.o) (J4 F.o) false ⟨λe=>(by cases e),λe=>absurd e A.o⟩ w'|(rintro w' -;exact goS))))|(refine zq rfl ?_));try simp only[Act.put,pA,pB,pC])
     refine zZ (hK.out _ _ ?_)
     have z:=J d
     clear d j
     go_wp2
     go_ret
     exact⟨false,rfl,by simp[C.o],c.o.trans0 z.o⟩
   ·have i1:¬(n:Int)<(ks.length:Int):=by omega
    have M:n=ks.length:=by omega
    have g:ks=ls:=by have:=S.o;rw[M,take_length,i.o,take_length] at this;exact this
    have B:=J g
    clear g M
    go_wp2
    go_ret
    first|exact⟨true,rfl,by simp[B.o],c.o⟩|exact .inr ⟨rfl,B.o,c.o⟩|exact .inl ⟨rfl,B.o,c.o⟩
 ·have j1:¬(ks.length:Int)=(ls.length:Int):=by omega
  have C:=@J (ks≠ls) (λe=>hlen (by rw[e]))
  clear hlen
  go_enter Tryz.func37,Tryz.ntmps37
  go_wp2
  go_ret
  exact⟨false,rfl,by simp[C.o],Fr.refl _ _⟩
end Go.Proofs.YtmpamcnlineceaaGreatDoor
