/- stem: the sources' pools in memory. -/
import Derived.ArgAppend
import Derived.Test.YtdkkjchclkjleaaGreatDoorSB9
import Derived.Test.YtdkkjchclkjleaaGreatDoorSB8
import Derived.Test.YtdkkjchclkjleaaGreatDoorSB7
import Derived.Test.YtdkkjchclkjleaaGreatDoorSB6
import Derived.Test.YtdkkjchclkjleaaGreatDoorSB3
import Derived.Test.YtdkkjchclkjleaaGreatDoorSB4
set_option linter.unusedVariables false
set_option linter.unusedSimpArgs false
set_option linter.unnecessarySimpa false
set_option linter.all false
set_option maxRecDepth 20000
set_option maxHeartbeats 16000000
namespace Go.Proofs.YtdkkjchclkjleaaGreatDoor
open Go Go.RowKit Go.Maps Go.MapKept
open Go.Proofs.Tryz(prog)
open List(mem_map getElem?_eq_getElem mem_of_getElem? mem_cons take_add_one take_length mem_filter getElem?_map nodup_cons filter_append getElem?_cons_succ getElem_of_mem)
open Nat(le_refl zero_le le_of_eq add_comm)
def skC (k:Int×zd):List Value:=.int .i64 k.1::zf k.2
def skV (k:Int×zd):Value:=.agg (skC k).toArray
def spC (k:Int×zE):List Value:=.int .i64 k.1::zn k.2
def spV (k:Int×zE):Value:=.agg (spC k).toArray
def YZ (x:Int):Prop:= -9223372036854775808≤x∧x≤9223372036854775807
theorem zhi {x:Int} (h:YZ x):(Lit.int .i64 x).wf=true:=by
 unfold YZ at h
 simp[Lit.wf,IntKind.min,IntKind.max,IntKind.signed,IntKind.bits]
 omega
theorem JL {k:Int×zd} (h:zW k.2):(skC k).length=33:=by simp[skC,zu h]
theorem zbd {k:Int×zE} (h:k.2.ok):(spC k).length=34:=by simp[spC,zY h]
theorem zdR {k:Int×zd}:∀v∈skC k,v.oneCell'=true:=by
 intro v a
 rcases mem_cons.1 a with rfl|a
 ·rfl
 ·exact zM v a
theorem zdS {a b:Int×zd} (h:skV a=skV b):a=b:=by
 obtain⟨x,l⟩:=a
 obtain⟨y,m⟩:=b
 unfold skV at h
 injection h with h
 have c:skC (x,l)=skC (y,m):=by simpa using congrArg Array.toList h
 simp only[skC,List.cons.injEq,Value.int.injEq,true_and] at c
 rw[c.1,yW (show y9 l=y9 m by unfold y9;rw[c.2])]
theorem zbe {a b:Int×zE} (h:spV a=spV b):a=b:=by
 obtain⟨x,l⟩:=a
 obtain⟨y,m⟩:=b
 unfold spV at h
 injection h with h
 have c:spC (x,l)=spC (y,m):=by simpa using congrArg Array.toList h
 simp only[spC,List.cons.injEq,Value.int.injEq,true_and] at c
 rw[c.1,zbY c.2]
theorem zdA {k:Int×zd} (hi:YZ k.1) (h:zW k.2):∃l,keyOf prog 110 (skV k)=some l:=by
 have shape:qy prog 110=[(3,0,true),(41,1,true)]:=by kernel_rfl
 have b:prog.types.size=prog.types.size-2+2:=by kernel_rfl
 refine Zk shape (by simp) (by decide) (by kernel_rfl) (cs:=skC k) (by rw[JL h];kernel_rfl) ?_
 intro x a
 rw[b]
 simp only[mem_cons,List.not_mem_nil,or_false] at a
 rcases a with rfl|rfl
 ·have e:((skC k).drop 0).take (prog.cellsOf 3)=[.int .i64 k.1]:=by
   rw[show prog.cellsOf 3=1 by kernel_rfl];rfl
  exact⟨_,by rw[e];exact Zy (by kernel_rfl) _ (zhi hi)⟩
 ·have e:((skC k).drop 1).take (prog.cellsOf 41)=zf k.2:=by
   rw[show prog.cellsOf 41=32 by kernel_rfl]
   show(zf k.2).take 32=zf k.2
   rw[List.take_of_length_le (by rw[zu h];exact le_refl _)]
  simp only[e]
  exact zbI h _
theorem za5 {k:Int×zE} (hi:YZ k.1) (h:k.2.ok):∃l,keyOf prog 118 (spV k)=some l:=by
 have shape:qy prog 118=[(3,0,true),(95,1,true)]:=by kernel_rfl
 have b:prog.types.size=prog.types.size-3+3:=by kernel_rfl
 refine Zk shape (by simp) (by decide) (by kernel_rfl) (cs:=spC k) (by rw[zbd h];kernel_rfl) ?_
 intro x a
 rw[b]
 simp only[mem_cons,List.not_mem_nil,or_false] at a
 rcases a with rfl|rfl
 ·have e:((spC k).drop 0).take (prog.cellsOf 3)=[.int .i64 k.1]:=by
   rw[show prog.cellsOf 3=1 by kernel_rfl];rfl
  exact⟨_,by rw[e];exact Zy (by kernel_rfl) _ (zhi hi)⟩
 ·have e:((spC k).drop 1).take (prog.cellsOf 95)=zn k.2:=by
   rw[show prog.cellsOf 95=33 by kernel_rfl]
   show(zn k.2).take 33=zn k.2
   rw[List.take_of_length_le (by rw[zY h];exact le_refl _)]
  simp only[e]
  exact zco (hsh:=rfl) (by rw[ZI];simp) (by rw[ZI];decide) (by rw[zY h];kernel_rfl) _ (zbZ h _)
theorem zmA:EqN prog 110:=⟨Keyed.of_law (deep_law_laid Xl (m:=3) (by decide) (of_decide_eq_true (by kernel_rfl)) (by kernel_rfl) (by kernel_rfl)),⟨3,by decide,by kernel_rfl⟩,by kernel_rfl,by kernel_rfl⟩
theorem zkS:EqN prog 118:=⟨Keyed.of_law (deep_law_laid Xl (m:=4) (by decide) (of_decide_eq_true (by kernel_rfl)) (by kernel_rfl) (by kernel_rfl)),⟨4,by decide,by kernel_rfl⟩,by kernel_rfl,by kernel_rfl⟩
theorem zal:(prog.info? 110).map (·.size)=some 33:=by kernel_rfl
theorem zmq:∃d,prog.underlying 110=some d∧d.isRow=true:=vQ (by kernel_rfl)
theorem zce:prog.underlying 113=some (.map 110 34):=by kernel_rfl
theorem VR:prog.underlying 114=some (.map 118 41):=by kernel_rfl
def zfr:List Value:=[.int .u32 0,.slice none 0 0,.slice none 0 0]
theorem jq (w:World):(zeroValue 34).run prog w=.ok (Qx zfr) w:=by kernel_rfl
abbrev vr (w:World) (m:Nat) (M:List ((Int×zd)×List Value)):Prop:=yE prog 110 skV Qx w m M
abbrev Yg (w:World) (m:Nat) (M:List ((Int×zE)×zd)):Prop:=yE prog 118 spV y9 w m M
def stC (ma ms:Nat) (R:Nat→Value):List Value:=.map (some ma)::((List.range 65).map R++[.map (some ms)])
theorem zlB (ma ms:Nat) (R:Nat→Value):(stC ma ms R).length=67:=by simp[stC]
theorem VH {ma ms:Nat} {R:Nat→Value} {i:Nat} (h:i<65):(stC ma ms R)[i+1]? =some (R i):=by
 unfold stC
 rw[getElem?_cons_succ,List.getElem?_append_left (by simpa using h),getElem?_map,List.getElem?_range h]
 rfl
theorem zdU {ma ms:Nat} {R:Nat→Value}:(stC ma ms R)[66]? =some (.map (some ms)):=by
 unfold stC
 rw[getElem?_cons_succ,List.getElem?_append_right (by simp)]
 simp
theorem zha {ma ms:Nat} {R:Nat→Value} {i:Nat} (h:i<65) (v:Value):(stC ma ms R).set (i+1) v=stC ma ms (λj=>if j=i then v else R j):=by
 refine List.ext_getElem? λk=>?_
 by_cases hk:k=i+1
 ·subst hk
  rw[List.getElem?_set_self (by rw[zlB];omega),VH h,if_pos rfl]
 ·rw[List.getElem?_set_ne (λe=>hk e.symm)]
  unfold stC
  cases k with
  |zero=>rfl
  |succ k=>
   rw[getElem?_cons_succ,getElem?_cons_succ]
   by_cases h65:k<65
   ·rw[List.getElem?_append_left (by simpa using h65),List.getElem?_append_left (by simpa using h65),getElem?_map,getElem?_map,List.getElem?_range h65]
    simp only[Option.map_some]
    rw[if_neg (by omega)]
   ·rw[List.getElem?_append_right (by simp;omega),List.getElem?_append_right (by simp;omega)]
    simp
def stV (p ma ms:Nat) (R:Nat→Value):Nat→Prop:=λj=>j=p∨j=ma∨j=ms∨∃i,i<65∧(R i).ownBlock=some j
structure yM (w0 w:World) (p ma ms:Nat) (R:Nat→Value) (X:Nat→Prop) (C:Nat→zd→List Value) (Q:StQ):Prop where
 obj:w.heap[p]? =some (.cells (stC ma ms R).toArray 116 (0,0))
 row:∀i,i<65→w.ownsRow w0.heap.size 41 32 (R i) (yv (Q i)).length ((yv (Q i)).flatMap zf)
 am:∃M,vr w ma M∧∀k cs,(k,cs)∈M↔∃i:Nat,i<65∧k.1=(i:Int)∧∃e∈Q i,e.id=k.2∧cs=C i k.2
 sm:∃M,Yg w ms M∧∀k x,(k,x)∈M↔∃i:Nat,i<65∧k.1=(i:Int)∧∃e∈Q i,k.2∈zX e.tx∧e.id=x
 data:∀i,i<65→∀e∈Q i,Kept X w (λw=>TxQ w e.tx (C i e.id))
 val:∀i,SVal (Q i)
 apart:p≠ma∧p≠ms∧ma≠ms
 rnot:∀i,i<65→∀j,(R i).ownBlock=some j→j≠p∧j≠ma∧j≠ms
 rapart:∀i k,i<65→k<65→i≠k→∀j,(R i).ownBlock=some j→(R k).ownBlock≠some j
 lo3:w0.heap.size≤p∧w0.heap.size≤ma∧w0.heap.size≤ms
 fr:Fr No w0 w
 sub:∀j,stV p ma ms R j→X j
section
variable {w0 w w':World} {p ma ms:Nat} {R:Nat→Value} {X:Nat→Prop} {C:Nat→zd→List Value} {Q:StQ}
theorem yM.lo (h:yM w0 w p ma ms R X C Q):∀j,stV p ma ms R j→w0.heap.size≤j:=by
 obtain⟨b,c,d⟩:=h.lo3
 rintro j (rfl|rfl|rfl|⟨i,hi,a⟩)
 ·exact b
 ·exact c
 ·exact d
 ·exact((h.row i hi).lt j a).1
theorem yM.hi (h:yM w0 w p ma ms R X C Q):∀j,stV p ma ms R j→j<w.heap.size:=by
 obtain⟨M,b,-⟩:=h.am
 obtain⟨M',a,-⟩:=h.sm
 rintro j (rfl|rfl|rfl|⟨i,hi,c⟩)
 ·exact yr h.obj
 ·exact b.lt
 ·exact a.lt
 ·exact((h.row i hi).lt j c).2
theorem yM.frV (h:yM w0 w p ma ms R X C Q) {U X':Nat→Prop} (f:Fr U w w') (a:∀j,stV p ma ms R j→¬U j) (g:∀j,U j→w0.heap.size≤j) (c:∀j,U j→X j) (l:∀j,j<w.heap.size→X' j→X j) (q:∀j,stV p ma ms R j→X' j):yM w0 w' p ma ms R X' C Q:=by
 obtain⟨M,k,o⟩:=h.am
 obtain⟨M',b,d⟩:=h.sm
 exact {h with
  obj:=f.obj h.obj (a _ (.inl rfl))
  row:=λi hi=>zb (h.row i hi) f (λj n=>a j (.inr (.inr (.inr ⟨i,hi,n⟩))))
  am:=⟨M,k.keep f (a _ (.inr (.inl rfl))),o⟩
  sm:=⟨M',b.keep f (a _ (.inr (.inr (.inl rfl)))),d⟩
  data:=λi hi e m=>(h.data i hi e m).step (f.mono c) l
  fr:=h.fr.trans f (λi hi e=>by have:=g i e;omega)
  sub:=q}
theorem yM.fr0 (h:yM w0 w p ma ms R X C Q) (f:Fr No w w'):yM w0 w' p ma ms R X C Q:=
 h.frV f (λ_ _=>id) (λ_ h=>h.elim) (λ_ h=>h.elim) (λ_ _ h=>h) h.sub
theorem yM.idok (h:yM w0 w p ma ms R X C Q) (i:Nat):∀x∈yv (Q i),zW x:=λx b=>by
 obtain⟨e,a,rfl⟩:=mem_map.1 b
 rw[((h.val i).ent e a).2]
 exact vx _
theorem yM.cells (h:yM w0 w p ma ms R X C Q):w.cell? ⟨p,0,none⟩=some (.map (some ma))∧w.cell? ⟨p,66,none⟩=some (.map (some ms))∧∀i,i<65→w.cell? ⟨p,i+1,none⟩=some (R i):=by
 have:=zq h.obj
 refine⟨by simpa using this 0 _ rfl,by simpa using this 66 _ zdU,λi hi=>?_⟩
 have:=this (i+1) _ (VH hi)
 simpa using this
def qW (Q:StQ) (i:Int) (x:zd):Bool:=decide (0≤i∧i<65∧x∈yv (Q i.toNat))
def Yh (C:Nat→zd→List Value) (Q:StQ) (i:Int) (x:zd):List Value:=if qW Q i x=true then C i.toNat x else zfr
theorem ZV {i:Int} (hi:YZ i) {x:zd} (t:zW x) {M:List ((Int×zd)×List Value)} (o:vr w ma M) (s:∀k cs,(k,cs)∈M↔∃i:Nat,i<65∧k.1=(i:Int)∧∃e∈Q i,e.id=k.2∧cs=C i k.2) (c:Bool):
  (Instr.lookup 113 (.map (some ma)) (.agg (skC (i,x)).toArray) c).run prog w=.ok (if c then .tuple #[.agg (Yh C Q i x).toArray,.bool (qW Q i x)] else .agg (Yh C Q i x).toArray) w:=by
 have h:=o.look zmA.keyed zce (λ_ _=>zdS) jq (zdA (k:=(i,x)) hi t) c (r:=if qW Q i x=true then some (C i.toNat x) else none) (λv=>by
  rw[s]
  by_cases h:qW Q i x=true
  ·rw[if_pos h]
   unfold qW at h
   simp only[decide_eq_true_eq] at h
   obtain⟨u,y,m⟩:=h
   obtain⟨e,q,d⟩:=mem_map.1 m
   constructor
   ·intro b
    exact⟨i.toNat,by omega,by show i=_;omega,e,q,d,(Option.some.inj b).symm⟩
   ·rintro⟨k,n,a,f,g,j,l⟩
    have:i.toNat=k:=by have a:i=(k:Int):=a;omega
    rw[l,this]
  ·rw[if_neg h]
   refine⟨λb=>(by cases b),?_⟩
   rintro⟨k,n,a,f,g,j,l⟩
   have a:i=(k:Int):=a
   refine absurd ?_ h
   unfold qW
   simp only[decide_eq_true_eq]
   refine⟨by omega,by omega,?_⟩
   rw[show i.toNat=k by omega]
   exact mem_map.2 ⟨f,g,j⟩)
 unfold skV at h
 rw[h]
 unfold Yh
 by_cases hh:qW Q i x=true<;>simp[hh,Qx]
end
theorem vX:xB prog 110=some (33,[(0,1),(1,32)]):=by kernel_rfl
theorem zbW:xB prog 118=some (34,[(0,1),(1,33)]):=by kernel_rfl
theorem Jd (i:Int) {x:zd} (h:zW x):Js (([(0,1),(1,32)]:List (Nat×Nat)).toArray[·]?) 0 [(0,.int .i64 i),(1,.agg (zf x).toArray)]:=by
 have h:(Value.agg (zf x).toArray).cells.size=32:=by show(zf x).toArray.size=32;simpa using zu h
 exact⟨rfl,by rw[h];rfl,trivial⟩
theorem zdw (i:Int) {q:zE} (h:q.ok):Js (([(0,1),(1,33)]:List (Nat×Nat)).toArray[·]?) 0 [(0,.int .i64 i),(1,.agg (zn q).toArray)]:=by
 have h:(Value.agg (zn q).toArray).cells.size=33:=by show(zn q).toArray.size=33;simpa using zY h
 exact⟨rfl,by rw[h];rfl,trivial⟩
theorem vW (i:Int) (x:zd):xz [(0,.int .i64 i),(1,.agg (zf x).toArray)]=skC (i,x):=by simp[xz,Value.cells,skC]
theorem zbS (i:Int) (q:zE):xz [(0,.int .i64 i),(1,.agg (zn q).toArray)]=spC (i,q):=by simp[xz,Value.cells,spC]
theorem zah {n:Nat} (h:n<65):YZ (n:Int):=by unfold YZ;omega
theorem zij (w:World):(Instr.makeMap 113 none).run prog w=.ok (.map (some w.heap.size)) (w.alloc (.map #[] 0)):=by kernel_rfl
theorem zik (w:World):(Instr.makeMap 114 none).run prog w=.ok (.map (some w.heap.size)) (w.alloc (.map #[] 0)):=by kernel_rfl
def RZ0:Nat→Value:=λ_=>.slice none 0 0
theorem ziT (a b:Nat) (w:World):(Instr.build 116 #[(0,.map (some a)),(2,.map (some b))]).run prog w=.ok (.agg (stC a b RZ0).toArray) w:=by kernel_rfl
theorem zl3 (w0 w:World) (f:Fr No w0 w):
  Calls prog 38 #[] w λe w'=>∃p ma ms,e=.returned (.pointer (some ⟨p,0,none⟩))∧Fr No w w'∧(∀j,stV p ma ms RZ0 j→w.heap.size≤j)∧∀X:Nat→Prop,(∀j,stV p ma ms RZ0 j→X j)→∀C,yM w0 w' p ma ms RZ0 X C (λ_=>[]):=by
 have u:=zij
 have v:=zik
 have c:=@J (vr (w.alloc (.map #[] 0)) w.heap.size []) (yE.made w)
 have d:=@J (Yg ((w.alloc (.map #[] 0)).alloc (.map #[] 0)) (w.heap.size+1) []) (by have:=yE.made (P:=prog) (kt:=118) (kV:=spV) (vV:=y9) (w.alloc (.map #[] 0));rw[show(w.alloc (.map #[] 0)).heap.size=w.heap.size+1 by simp] at this;exact this)
 go_enter Tryz.func38,Tryz.ntmps38
 have l:=tru
 go_wp2_with ((with_reducible refine zt ?_);clear l;with_reducible refine yu 3 ?_;refine zg rfl (yf (t:=116) rfl rfl (ziT _ _ _)) ?_;go_frame)
 go_ret
 have g:Fr No (w.alloc (.map #[] 0)) (((w.alloc (.map #[] 0)).alloc (.map #[] 0)).alloc (.cells (stC w.heap.size (w.heap.size+1) RZ0).toArray 116)):=((frN _).alloc _).alloc _
 have h:Fr No ((w.alloc (.map #[] 0)).alloc (.map #[] 0)) (((w.alloc (.map #[] 0)).alloc (.map #[] 0)).alloc (.cells (stC w.heap.size (w.heap.size+1) RZ0).toArray 116)):=(frN _).alloc _
 have b:Fr No w (((w.alloc (.map #[] 0)).alloc (.map #[] 0)).alloc (.cells (stC w.heap.size (w.heap.size+1) RZ0).toArray 116)):=(((frN w).alloc _).alloc _).alloc _
 refine⟨w.heap.size+1+1,w.heap.size,w.heap.size+1,by simp,b,λj a=>?_,λX m C=>?_⟩
 ·rcases a with e|e|e|⟨i,hi,e⟩
  ·omega
  ·omega
  ·omega
  ·cases e
 ·have s:=f.size
  exact
   {obj:=by have:=yL ((w.alloc (.map #[] 0)).alloc (.map #[] 0)) (.cells (stC w.heap.size (w.heap.size+1) RZ0).toArray 116) (n:=w.heap.size+1+1) (by simp);exact this
    row:=λi hi=>World.ownsRow_nil _ _ _ _
    am:=⟨[],c.o.keep g id,λk cs=>by simp⟩
    sm:=⟨[],d.o.keep h id,λk x=>by simp⟩
    data:=λi hi e o=>(by cases o)
    val:=λi=>SVal.nil
    apart:=⟨by omega,by omega,by omega⟩
    rnot:=λi hi j a=>(by cases a)
    rapart:=λi k hi r q j a=>(by cases a)
    lo3:=⟨by omega,by omega,by omega⟩
    fr:=f.trans0 b
    sub:=m}
section
variable {w0 w:World} {p ma ms:Nat} {R:Nat→Value} {X:Nat→Prop} {C:Nat→zd→List Value} {Q:StQ}
theorem yM.row_form (h:yM w0 w p ma ms R X C Q) {n:Nat} (c:n<65):∃a b,R n=.slice a (Q n).length b:=by
 obtain⟨a,b,e⟩:=(h.row n c).slice.arg.form
 rw[jG] at e
 exact⟨a,b,e⟩
theorem znp (h:yM w0 w p ma ms R X C Q) {n:Nat} (c:n<65):
  Calls prog 13 #[.pointer (some ⟨p,0,none⟩),.int .i64 n] w λe w'=>∃a,e=.returned a∧RowK w w' a (yv (Q n)):=by
 have c2:=h.cells.2.2 n c
 have b:=YC w (y5.own (h.row n c) (h.idok n)) (by rw[jG];have:=(h.val n).len;omega)
 obtain⟨l,m,k⟩:=h.row_form c
 rw[k] at c2 b
 have g:=J b
 have q:¬(n:Int)<0:=by omega
 have r:¬(64:Int)<(n:Int):=by omega
 have s:(n:Int)<65:=by omega
 have t:(0:Int)≤(n:Int):=by omega
 have o:w.cell? ⟨p,1+n,none⟩=some (.slice l (Q n).length m):=by rw[add_comm];exact c2
 clear h b
 go_enter Tryz.func13,Tryz.ntmps13
 have i:=tru
 go_wp2_with (clear i;go_at_call 42;refine g.o.mono ?_;rintro e u ⟨a,rfl,f,d⟩;have j:=J (And.intro f d);clear f d;go_frame)
 go_ret
 exact⟨a,rfl,j.o⟩
end
theorem znG (f s:Int) (w:World):(Instr.field 127 (.agg #[.int .u64 f,.int .i64 s]) 0).run prog w=.ok (.int .u64 f) w:=by kernel_rfl
section
variable {w0 w:World} {p ma ms g N:Nat} {VG X:Nat→Prop} {C:zd→List Value} {L:List yb}
theorem znD (h:yp w0 w p ma ms g VG X C L N) {x:zd} (s:zW x):Calls prog 73 #[.pointer (some ⟨p,0,none⟩),.agg (zf x).toArray] w λe w'=>∃f,e=.returned (.tuple #[.int .u64 f,.bool (decide (x∈xu L))])∧Fr No w w':=by
 obtain⟨T,F,E⟩:=JP
 have r:=J (zu s)
 have k:=J ((frN w).alloc (.cells (zf x).toArray 41))
 have q:=J (zy w (zf x) 41)
 have d:=J (λw' (f:Fr No w w')=>zez (h.fr0 f) s)
 have G:=J h
 by_cases hin:x∈xu L
 ·have c:=@J (decide (x∈xu L)=true) (decide_eq_true hin)
  obtain⟨e,v,j⟩:=mem_map.1 hin
  obtain⟨M,u,y⟩:=h.am
  obtain⟨z,A,B,D,i⟩:=(h.data e v).now.form
  have a:YB C L x=[.int .u32 e.tx.ver,.slice z e.tx.ins.length A,.slice B e.tx.outs.length D,.int .u64 e.fee,.int .i64 e.size,.int .u64 e.added]:=by
   unfold YB
   rw[if_pos hin,←j,i]
  have I:=J (λw' (h':qC w' ma M)=>Ym (w:=w') s h' y a)
  have H:=J u
  clear h hin u y a i j v
  rw[c.o]
  go_enter Tryz.func73,Tryz.ntmps73
  have⟨n,o⟩:=tZ2
  go_wp2_with ((first|((with_reducible refine zt ?_);clear n;refine xP rfl (ya (ty:=41) rfl rfl q.o F E (by rw[r.o];exact yq)) ?_)|(clear o;go_at_call 99;refine(d.o _ k.o).mono ?_;rintro P S ⟨rfl,b⟩;rw[c.o];have l:=J (k.o.trans0 b);have O:=J (za q.o b id);clear b));go_frame)
  have m:=J l.o.drew
  generalize Q:w.heap.size=R at*
  refine wrLx [ff,ff,ff,ff,ff,ff,ff,ff,ff,ff] (λw'=>w'.cell? ⟨p,0,none⟩=some (.map (some ma))∧w'.rangeAt R 0 (zf x)∧qC w' ma M) ?_ (λK hK=>?_)
  ·exact⟨(G.o.fr0 m.o).cells.1,za O.o (frN _).drew id,H.o.keep m.o id⟩
  repeat((first|(refine zl rfl ?_;constructor;constructor;(focus(first|exact zn6 rfl (λw h=>h.2.1) r.o|exact λw' h=>zS (t:=133) rfl rfl rfl (I.o w' h.2.2)|exact λw' _=>vM (t:=129) (f:=1) rfl rfl (zlZ e.tx.ver z B e.tx.ins.length A e.tx.outs.length D e.fee e.size e.added w')|exact λw' _=>vM (t:=127) (f:=0) rfl rfl (znG e.fee e.size w')|(rintro w' ⟨U,V,W⟩;go_simp;(try with_reducible rfl);done))))|(refine zm rfl ?_));try simp only[Act.put,pA,pB,pC])
  refine zL (hK.out _ _ ?_)
  go_wp2_with fail
  go_ret2
  exact⟨_,rfl,m.o⟩
 ·have c:=@J (decide (x∈xu L)=false) (decide_eq_false hin)
  clear h hin
  rw[c.o]
  go_enter Tryz.func73,Tryz.ntmps73
  have⟨n,o⟩:=tZ2
  go_wp2_with ((first|((with_reducible refine zt ?_);clear n;refine xP rfl (ya (ty:=41) rfl rfl q.o F E (by rw[r.o];exact yq)) ?_)|(clear o;go_at_call 99;refine(d.o _ k.o).mono ?_;rintro P S ⟨rfl,b⟩;rw[c.o];have l:=J (k.o.trans0 b);clear b));go_frame)
  go_ret2
  exact⟨_,rfl,l.o⟩
end
theorem zmE (v:Int) (d a:Option Addr) (f e c b:Nat) (w:World):(Instr.field 34 (.agg #[.int .u32 v,.slice d f e,.slice a c b]) 2).run prog w=.ok (.slice a c b) w:=by kernel_rfl
def Xo (l:List StE) (x:zd):List yI:=((Qp l x).map (·.tx.outs)).getD []
theorem zgo (l:List StE) (q:zE):zc7 l q=(Xo l q.tx)[q.n.toNat]? :=by
 unfold zc7 Xo
 cases Qp l q.tx with
 |none=>rfl
 |some e=>rfl
section
variable {w0 w w0p w0c:World} {ps ma ms pp mp mq g N pc:Nat} {R:Nat→Value} {X Y VG VC:Nat→Prop} {C:Nat→zd→List Value} {CP:zd→List Value} {Q:StQ} {L:List yb} {S:List zr} {bs:List yB} {I:List zd}
theorem zcv (h:yM w0 w ps ma ms R X C Q) {n:Nat} (l:n<65) (x:zd):∃v d m f a b,Yh C Q n x=[.int .u32 v,.slice d m f,.slice a (Xo (Q n) x).length b]∧xj w (.slice a (Xo (Q n) x).length b) (Xo (Q n) x):=by
 unfold Yh qW
 by_cases hx:x∈yv (Q n)
 ·rw[if_pos (by simp only[decide_eq_true_eq];exact⟨by omega,by omega,by rw[Int.toNat_natCast];exact hx⟩),Int.toNat_natCast]
  obtain⟨e,i,rfl⟩:=mem_map.1 hx
  have c:Xo (Q n) e.id=e.tx.outs:=by unfold Xo;rw[zc6 (h.val n).nd i];rfl
  obtain⟨d,f,a,b,j,-,-,k⟩:=(h.data n l e i).now
  rw[c,j]
  exact⟨e.tx.ver,d,_,f,a,b,rfl,k⟩
 ·rw[if_neg (by simp only[decide_eq_true_eq];rw[Int.toNat_natCast];exact λh=>hx h.2.2)]
  have c:Xo (Q n) x=[]:=by unfold Xo;rw[zgl.2 hx];rfl
  rw[c]
  exact⟨0,none,0,0,none,0,rfl,zbP w⟩
theorem zfh (h:yM w0 w ps ma ms R X C Q) {n:Nat} (a:n<65) (q:zE):((zc7 (Q n) q).getD y4).ok:=by
 unfold zc7
 cases hs:Qp (Q n) q.tx with
 |none=>exact Zl
 |some e=>
  simp only[Option.bind_some]
  cases ho:e.tx.outs[q.n.toNat]? with
  |none=>exact Zl
  |some o=>
   exact(h.data n a e (zgm hs).1).now.oks.2 o (mem_of_getElem? ho)
theorem zk9 (h:yM w0 w ps ma ms R X C Q) (b:yp w0p w pp mp mq g VG Y CP L N) (hS:∀c∈S,c.ok) {n:Nat} (a:n<65) (q:zE):((ZO S L (Q n) q).getD y4).ok:=by
 unfold ZO qH
 by_cases hc:xD S q=true
 ·rw[if_pos hc]
  exact vz hS q
 ·rw[if_neg hc]
  have:=Yk b.outs_ok q
  cases hf:xg L q with
  |some o=>rw[hf] at this;exact this
  |none=>exact zfh h a q
def zlU (w:World) (S:List zr) (L:List yb) (l:List StE) (q:zE) (e:Ending) (w':World):Prop:=
 e=.returned (.tuple #[.agg (zF ((ZO S L l q).getD y4)).toArray,.bool (ZO S L l q).isSome])∧Fr No w w'
theorem znM (h:yM w0 w ps ma ms R X C Q) (hp:yp w0p w pp mp mq g VG Y CP L N) (hc:Cn w0c w pc VC S bs I) (hS:∀c∈S,c.ok) {n:Nat} (hn:n<65) {q:zE} (hq:q.ok):
  Calls prog 76 #[.pointer (some ⟨ps,0,none⟩),.pointer (some ⟨pc,0,none⟩),.pointer (some ⟨pp,0,none⟩),.int .i64 n,.agg (zn q).toArray] w (zlU w S L (Q n) q):=by
 obtain⟨dO,uO,rO⟩:=YE
 have zo:=xb
 have aA:(n:Int)<65:=by omega
 have i0:(0:Int)≤(n:Int):=by omega
 have HN:=J hn
 have f1:Fr No w ((w.alloc (.cells (zn q).toArray 95)).alloc (.cells (zF y4).toArray 103)):=((frN w).alloc _).alloc _
 have RB:=J (za (zy w (zn q) 95) ((frN _).alloc (.cells (zF y4).toArray 103)) id)
 have E:=J (yL (w.alloc (.cells (zn q).toArray 95)) (.cells (zF y4).toArray 103) (n:=w.heap.size+1) (by simp))
 have ad:=@J (((w.alloc (.cells (zn q).toArray 95)).alloc (.cells (zF y4).toArray 103)).heap.size=w.heap.size+2) (by simp)
 have PL:=J (zY hq)
 have QL:=J (zu hq.1)
 have p:=J hq
 have F1:=J f1
 have ab:=J (λw' (f:Fr No w w')=>zcK (hc.fr0 f) hq)
 have ag:=J (λw' (f:Fr No w w')=>zjo (hp.fr0 f) hq)
 have HH:=J h
 have j:=J (yw (vz hS q))
 have a:=J (yw (Yk hp.outs_ok q))
 have ar:=J (λw' (f:Fr No w w')=>zcv (h.fr0 f) hn q.tx)
 clear h hp hc hS hn hq f1
 by_cases hhas:xD S q=true
 ·have D:=J hhas
  have r:=@J (ZO S L (Q n) q=some (yg S q)) (by unfold ZO qH;rw[if_pos hhas])
  clear hhas
  go_enter Tryz.func76,Tryz.ntmps76
  have⟨F,G,K2,K3,K4⟩:=tZ5
  go_wp2_with ((first|((with_reducible refine zt ?_);first|(clear F;refine zn3 rfl rfl rfl RB.o PL.o ?_;generalize an:w.heap.size=A at*;generalize (w.alloc (.cells (zn q).toArray 95)).alloc (.cells (zF y4).toArray 103)=wz at*)|(clear K3;refine zn1 rfl rfl rfl RO.o j.o ?_))|(clear G;go_at_call 126;refine(ab.o wz F1.o).mono ?_;rintro e d ⟨rfl,l⟩;rw[D.o];have F3:=J (F1.o.trans0 l);have R3:=J (za RB.o l id);have x:=J (l.obj E.o id);have RO:=J (zy d (zF (yg S q)) 103);have u:=J ((frN d).alloc (.cells (zF (yg S q)).toArray 103));have Z3:=@J (A+2≤d.heap.size) (by have:=l.size;have:=ad.o;omega);clear l)|((with_reducible refine zx ?_);first|(clear K2;refine zn9 (w:=d) (cs:=zF (yg S q)) rfl rfl rfl rfl j.o yd ?_;generalize ao:d.heap.size=n3 at*;generalize d.alloc (.cells (zF (yg S q)).toArray 103)=w4 at*;have F4:=J (F3.o.trans0 u.o);have R4:=J (za R3.o u.o id);have s:=J (u.o.obj x.o id))|(clear K4;refine zi rfl (zK (ty:=103) (b:=A+1) (off:=0) (cs:=zF (yg S q)) rfl rfl rfl (by rw[j.o];exact zV s.o (le_of_eq yz.symm)) (by rw[j.o];exact yG) yd) ?_)));go_frame)
  refine bodyPost_ret (ym (P:=prog) (fn:=Tryz.f76) rfl _ rfl (yA s.o (by rw[j.o];exact yz)) uO rO (by rw[j.o];exact yG) rfl) rfl ⟨by rw[r.o];rfl,?_⟩
  exact F4.o.trans (zv _ _ _ _) (λi hi e=>by omega)
 ·have z:xD S q=false:=by simpa using hhas
  have D:=J z
  have ah:=J hhas
  clear hhas z
  cases hf:xg L q with
  |some o=>
   have aa:=J hf
   have r:=@J (ZO S L (Q n) q=some o) (by unfold ZO qH;rw[if_neg ah.o,hf])
   have aq:(zF o).length=33:=by have:=a.o;rw[hf] at this;exact this
   have a:=J aq
   clear aq
   clear hf
   go_enter Tryz.func76,Tryz.ntmps76
   have⟨F,G,K2,K3,K4,K5,K6,K7⟩:=tZ8
   go_wp2_with ((first|((with_reducible refine zt ?_);first|(clear F;refine zn3 rfl rfl rfl RB.o PL.o ?_;generalize an:w.heap.size=A at*;generalize (w.alloc (.cells (zn q).toArray 95)).alloc (.cells (zF y4).toArray 103)=wz at*)|(clear K3;refine zn3 rfl rfl rfl R4.o PL.o ?_)|(clear K6;refine zn1 rfl rfl rfl aj.o a.o ?_))|(clear G;go_at_call 126;refine(ab.o wz F1.o).mono ?_;rintro e d ⟨rfl,l⟩;rw[D.o];have F3:=J (F1.o.trans0 l);have R3:=J (za RB.o l id);have x:=J (l.obj E.o id);have RO:=J (zy d (zF (yg S q)) 103);have u:=J ((frN d).alloc (.cells (zF (yg S q)).toArray 103));have Z3:=@J (A+2≤d.heap.size) (by have:=l.size;have:=ad.o;omega);clear l)|(clear K4;go_at_call 127;refine(ag.o w4 F4.o).mono ?_;rintro e B ⟨rfl,U⟩;rw[aa.o];have F5:=J (F4.o.trans0 U);have R5:=J (za R4.o U id);have ae:=J (U.obj s.o id);have aj:=J (zy B (zF o) 103);have m:=J ((frN B).alloc (.cells (zF o).toArray 103));clear U)|((with_reducible refine zx ?_);first|(clear K2;refine zn9 (w:=d) (cs:=zF (yg S q)) rfl rfl rfl rfl j.o yd ?_;generalize ao:d.heap.size=n3 at*;generalize d.alloc (.cells (zF (yg S q)).toArray 103)=w4 at*;have F4:=J (F3.o.trans0 u.o);have R4:=J (za R3.o u.o id);have s:=J (u.o.obj x.o id))|(clear K5;refine zn9 (w:=B) (cs:=zF o) rfl rfl rfl rfl a.o yd ?_;generalize ay:B.heap.size=n5 at*;generalize B.alloc (.cells (zF o).toArray 103)=w6 at*;have F6:=J (F5.o.trans0 m.o);have R6:=J (za R5.o m.o id);have H:=J (m.o.obj ae.o id))|(clear K7;refine zi rfl (zK (ty:=103) (b:=A+1) (off:=0) (cs:=zF o) rfl rfl rfl (by rw[a.o];exact zV H.o (le_of_eq yz.symm)) (by rw[a.o];exact yG) yd) ?_)));go_frame)
   refine bodyPost_ret (ym (P:=prog) (fn:=Tryz.f76) rfl _ rfl (yA H.o (by rw[a.o];exact yz)) uO rO (by rw[a.o];exact yG) rfl) rfl ⟨by rw[r.o];rfl,?_⟩
   exact F6.o.trans (zv _ _ _ _) (λi hi e=>by omega)
  |none=>
   have aa:=J hf
   have r:=@J (ZO S L (Q n) q=zc7 (Q n) q) (by unfold ZO qH;rw[if_neg ah.o,hf])
   have a:=J (yw Zl)
   obtain⟨o,ho⟩:∃o,o=y4:=⟨_,rfl⟩
   clear hf
   go_enter Tryz.func76,Tryz.ntmps76
   have⟨F,G,K2,K3,K4,K5⟩:=tZ6
   go_wp2_with ((first|((with_reducible refine zt ?_);first|(clear F;refine zn3 rfl rfl rfl RB.o PL.o ?_;generalize an:w.heap.size=A at*;generalize (w.alloc (.cells (zn q).toArray 95)).alloc (.cells (zF y4).toArray 103)=wz at*)|(clear K3;refine zn3 rfl rfl rfl R4.o PL.o ?_))|(clear G;go_at_call 126;refine(ab.o wz F1.o).mono ?_;rintro e d ⟨rfl,l⟩;rw[D.o];have F3:=J (F1.o.trans0 l);have R3:=J (za RB.o l id);have x:=J (l.obj E.o id);have RO:=J (zy d (zF (yg S q)) 103);have u:=J ((frN d).alloc (.cells (zF (yg S q)).toArray 103));have Z3:=@J (A+2≤d.heap.size) (by have:=l.size;have:=ad.o;omega);clear l)|(clear K4;go_at_call 127;refine(ag.o w4 F4.o).mono ?_;rintro e B ⟨rfl,U⟩;rw[aa.o];have F5:=J (F4.o.trans0 U);have R5:=J (za R4.o U id);have ae:=J (U.obj s.o id);have aj:=J (zy B (zF y4) 103);have m:=J ((frN B).alloc (.cells (zF y4).toArray 103));clear U)|((with_reducible refine zx ?_);first|(clear K2;refine zn9 (w:=d) (cs:=zF (yg S q)) rfl rfl rfl rfl j.o yd ?_;generalize ao:d.heap.size=n3 at*;generalize d.alloc (.cells (zF (yg S q)).toArray 103)=w4 at*;have F4:=J (F3.o.trans0 u.o);have R4:=J (za R3.o u.o id);have s:=J (u.o.obj x.o id))|(clear K5;refine zn9 (w:=B) (cs:=zF y4) rfl rfl rfl rfl a.o yd ?_;generalize ay:B.heap.size=n5 at*;generalize B.alloc (.cells (zF y4).toArray 103)=w6 at*;have F6:=J (F5.o.trans0 m.o);have R6:=J (za R5.o m.o id);have H:=J (m.o.obj ae.o id))));go_frame)
   have FD:=J F6.o.drew
   have HD:=J (HH.o.fr0 FD.o)
   have RD:=J (za R6.o (frN w6).drew id)
   have T:=J ((frN w6).drew.obj H.o id)
   obtain⟨M,hM,hm⟩:=HD.o.am
   obtain⟨v,ia,il,ic,oa,oc,W,af⟩:=ar.o w6.drew FD.o
   have LK:=@J (∀w',vr w' ma M→(Instr.lookup 113 (.map (some ma)) (.agg (skC (n,q.tx)).toArray) false).run prog w'=.ok (.agg #[.int .u32 v,.slice ia il ic,.slice oa (Xo (Q n) q.tx).length oc]) w') (λw' h'=>by
    have:=ZV (w:=w') (zah HN.o) p.o.1 h' hm false
    rw[W] at this
    simpa using this)
   have HM:=J hM
   have HO:=J af
   have av:=J (JL (k:=((n:Int),q.tx)) p.o.1)
   have au:=J (zaP RD.o p.o).1
   have ai:=J QL.o
   have Z:=af.2.len
   have ak:=p.o.2.1
   have ax:=p.o.2.2
   rw[zgo] at r
   unfold zf at ai
   clear hM hm W af
   generalize Xo (Q n) q.tx=O at*
   refine wrLx [ff,ff,ff,ff,ff,ff,ff,ff,ff,ff,ff] (λw'=>w'.cell? ⟨ps,0,none⟩=some (.map (some ma))∧w'.rangeAt A 0 (q.tx.map zN)∧vr w' ma M) ?_ (λK hK=>?_)
   ·exact⟨HD.o.cells.1,au.o,HM.o⟩
   repeat((first|(refine zl rfl ?_;constructor;constructor;(focus(first|exact zn6 rfl (λw h=>h.2.1) ai.o|exact λw' _=>yR (t:=110) rfl rfl vX (Jd _ p.o.1) (vW _ _) av.o|exact λw' h=>zS (t:=113) rfl rfl rfl (LK.o w' h.2.2)|exact λw' _=>vM (t:=34) (f:=2) rfl rfl (zmE v ia oa il ic O.length oc w')|(rintro w' ⟨s1,s2,s3⟩;go_simp;(try with_reducible rfl);done))))|(refine zm rfl ?_));try simp only[Act.put,pA,pB,pC])
   refine zL (hK.out _ _ ?_)
   have aw:w6.drew.cell? ⟨A,32,none⟩=some (.int .u32 q.n):=by
    have:=(zaP RD.o p.o).2
    simpa using this
   clear RB HM LK E
   by_cases hb:q.n.toNat<O.length
   ·obtain⟨oo,V⟩:∃o,O[q.n.toNat]? =some o:=⟨_,getElem?_eq_getElem hb⟩
    obtain⟨b,off,az,e,hr,-⟩:=HO.o.at_ V
    injection e with e1 e2 e3
    subst e1
    subst e3
    have OK:=J (HO.o.1 oo (mem_of_getElem? V))
    have OL:=J (yw OK.o)
    obtain⟨k,hk⟩:∃k:Nat,q.n=(k:Int):=Int.eq_ofNat_of_zero_le ak
    have y:=J (r.o.trans V)
    rw[hk] at hb hr aw ax
    simp only[Int.toNat_natCast] at hb hr
    have i2:(k:Int)<IntKind.u64.wrap (O.length:Int):=by rw[QV Z];omega
    have i1:(k:Int)<(O.length:Int):=by omega
    have R1:=J hr
    clear hr V ak hk
    have⟨F,G⟩:=tZ2
    go_wp2_with ((first|((with_reducible refine zt ?_);clear F;with_reducible refine yu 54 ?_;refine zn1 rfl rfl rfl R1.o OL.o ?_)|((with_reducible refine zx ?_);clear G;refine zi rfl (zK (ty:=103) (b:=A+1) (off:=0) (cs:=zF oo) rfl rfl rfl (by rw[OL.o];exact zV T.o (le_of_eq yz.symm)) (by rw[OL.o];exact yG) yd) ?_));go_frame)
    refine bodyPost_ret (ym (P:=prog) (fn:=Tryz.f76) rfl _ rfl (yA T.o (by rw[OL.o];exact yz)) uO rO (by rw[OL.o];exact yG) rfl) rfl ⟨by rw[y.o];rfl,?_⟩
    exact FD.o.trans (zv _ _ _ _) (λi hi e=>by omega)
   ·have al:O[q.n.toNat]? =none:=List.getElem?_eq_none (by omega)
    have y:=J (r.o.trans al)
    have i1:¬q.n<IntKind.u64.wrap (O.length:Int):=by rw[QV Z];omega
    have i2:¬q.n<(O.length:Int):=by omega
    clear al hb
    have⟨F,G⟩:=tZ2
    go_wp2_with ((first|((with_reducible refine zt ?_);clear F;with_reducible refine yu 55 ?_;refine zg rfl (yf (t:=103) rfl rfl (zgL _)) ?_)|((with_reducible refine zx ?_);clear G;refine zi rfl (zK (ty:=103) (b:=A+1) (off:=0) (cs:=zF y4) rfl rfl rfl (by rw[a.o];exact zV T.o (le_of_eq yz.symm)) (by rw[a.o];exact yG) yd) ?_));go_frame)
    refine bodyPost_ret (ym (P:=prog) (fn:=Tryz.f76) rfl _ rfl (yA T.o (by rw[a.o];exact yz)) uO rO (by rw[a.o];exact yG) rfl) rfl ⟨by rw[y.o];rfl,?_⟩
    exact FD.o.trans (zv _ _ _ _) (λi hi e=>by omega)
end
theorem zaH {α:Type}:∀(l:List α) (p:Nat),l.take p++l.drop (p+1)=l.eraseIdx p
 |[],p=>by simp
 |x::l,0=>by simp
 |x::l,p+1=>by simp[zaH l p]
theorem Qq:∀(cs xs:List Value) (o:Nat),o+cs.length≤xs.length→(setM xs o cs).take (o+cs.length)=xs.take o++cs
 |[],xs,o,_=>by simp[setM]
 |v::r,xs,o,h=>by
  simp only[List.length_cons] at h
  simp only[setM]
  have:=Qq r (xs.set o v) (o+1) (by rw[List.length_set];omega)
  rw[show o+(v::r).length=o+1+r.length by simp;omega,this,take_add_one,List.getElem?_set_self (by omega),List.take_set_of_le (le_refl _)]
  simp
theorem zaI {l:List zd} (ok:∀x∈l,zW x) (p:Nat) (e:p≤l.length):(l.flatMap zf).take (p*32)=(l.take p).flatMap zf∧(l.flatMap zf).drop (p*32)=(l.drop p).flatMap zf:=by
 have b:((l.take p).flatMap zf).length=p*32:=by
  rw[xC zf 32 _ (λa d=>zu (ok a (List.mem_of_mem_take d))),List.length_take,Nat.min_eq_left e]
 have c:l.flatMap zf=(l.take p).flatMap zf++(l.drop p).flatMap zf:=by rw[←List.flatMap_append,List.take_append_drop]
 rw[c]
 exact⟨List.take_left' b,List.drop_left' b⟩
theorem zds {w:World} {B:Nat} {v:Value} {l:List zd} (y:w.ownsRow B 41 32 v l.length (l.flatMap zf)) (ok:∀x∈l,zW x) (U:l.length≤100000) {p:Nat} (R:p<l.length):
  Calls prog 84 #[v,.int .i64 p,.int .i64 (p+1)] w λe w'=>∃W,e=.returned W∧w'.ownsRow B 41 32 W (l.eraseIdx p).length ((l.eraseIdx p).flatMap zf)∧Fr (λj=>v.ownBlock=some j) w w'∧∀j,W.ownBlock=some j→v.ownBlock=some j:=by
 obtain⟨n,N⟩:∃n,n=l.length:=⟨_,rfl⟩
 have X:=@J ((l.eraseIdx p).length=n-1) (by rw[List.length_eraseIdx,if_pos R,N])
 obtain⟨g,f,rfl⟩:∃g f,v=.slice (some ⟨g,0,none⟩) n f:=by
  rcases y.2 with⟨_,e⟩|⟨g,c,ab,e,_⟩
  ·omega
  ·exact⟨g,c,by rw[e,N]⟩
 have Y:=J (zaI ok p (by omega)).1
 have T:=J (zaI ok (p+1) (by omega)).2
 rw[←N] at y R U
 have aa:n≤f:=xh.cap y.slice.arg
 obtain⟨i,hi,hz,S,hb⟩:=info_parts x9
 have o:(l.flatMap zf).length=n*32:=y.1
 have d:∀u∈(l.drop (p+1)).flatMap zf,u.oneCell'=true:=Zi
 rw[←T.o] at d
 have L:=@J ((l.take p).flatMap zf++(l.drop (p+1)).flatMap zf=(l.eraseIdx p).flatMap zf) (by rw[←zaH,List.flatMap_append])
 rw[←Y.o,←T.o] at L
 obtain⟨xs,O⟩:∃xs,xs=l.flatMap zf:=⟨_,rfl⟩
 rw[←O] at y o d L
 clear Y T O
 obtain⟨news,a⟩:∃news,news=xs.drop ((p+1)*32):=⟨_,rfl⟩
 have z:news.length=(n-(p+1))*32:=by rw[a,List.length_drop,o];omega
 have F:∀j u,news[j]? =some u→w.drew.cell? ⟨g,(p+1)*32+j,none⟩=some u:=λj u s=>by
  rw[a,List.getElem?_drop] at s
  have ae:=(List.getElem?_eq_some_iff.1 s).1
  show w.cell? _=_
  rw[y.cellAt _ (by omega),s]
 rw[←a] at d L
 have Q:=zb y (frN w).drew (λ_ _=>id)
 have q:=J (qO Q (p*32) (cs:=news) (by omega))
 have E:=J ((Fr.refl (λj=>(Value.slice (some ⟨g,0,none⟩) n f).ownBlock=some j) w).drew.trans (zv g news (p*32) w.drew) (λk _ V=>by rw[V];rfl))
 have b:∀(A:Addr) (c:Nat),(∀j u,news[j]? =some u→w.drew.cell? (A.add j)=some u)→∀ty,(Builtin.append_ #[38,38] ty #[.slice (some ⟨g,0,none⟩) p f,.slice (some A) (n-(p+1)) c]).run prog w.drew=.ok (.slice (some ⟨g,0,none⟩) (n-1) f) (w.drew.setCells g (p*32) news):=λA c hA ty=>by
  have:=run_append_room_cells (P:=prog) (w:=w.drew) 38 ty 41 i xK hi g 0 p f A (n-(p+1)) c news (by rw[S];exact z) hA d (by omega) (λj s=>by
   rw[S,z] at*
   rw[show(0+p*32+j)=p*32+j by omega,Q.cellAt _ (by omega),getElem?_eq_getElem (by omega)]
   rfl) (λj _=>Q.frozenAt _)
  rw[S,show p+(n-(p+1))=n-1 by omega,show 0+p*32=p*32 by omega] at this
  exact this
 obtain⟨I,H⟩:∃I,I=w.drew.setCells g (p*32) news:=⟨_,rfl⟩
 rw[←H] at q E
 simp only[←H] at b
 obtain⟨cs,G,C⟩:=ZH (P:=prog) I 38 41 0 (zf yO) xK yP zM (by rw[zu xH];decide) g ((n-1)*32) (n-(n-1)) (f-(n-1)) (by omega) (λj s=>by
  rw[zu xH] at s
  have ad:=q.o.1
  refine⟨?_,q.o.frozenAt _⟩
  rw[q.o.cellAt _ (by omega),getElem?_eq_getElem (by omega)]
  rfl)
 rw[zu xH] at G
 have M:=J (Zp (qO q.o ((n-1)*32) (cs:=cs) (by rw[G];omega)) (m:=n-1) (by omega))
 have HF:=@J ((setM (setM xs (p*32) news) ((n-1)*32) cs).take ((n-1)*32)=(l.eraseIdx p).flatMap zf) (by
  rw[YK _ _ _ _ (le_refl _)]
  have:=Qq news xs (p*32) (by omega)
  rw[show p*32+news.length=(n-1)*32 by omega] at this
  rw[this,L.o])
 have Z:=J (E.o.trans (zv g cs ((n-1)*32) I) (λk _ V=>by rw[V];rfl))
 have D:=J C
 have r:=@J ((I.setCells g ((n-1)*32) cs).ownsRow B 41 32 (.slice (some ⟨g,0,none⟩) (n-1) f) (l.eraseIdx p).length ((l.eraseIdx p).flatMap zf)∧Fr (λj=>(Value.slice (some ⟨g,0,none⟩) n f).ownBlock=some j) w (I.setCells g ((n-1)*32) cs)∧∀j,(Value.slice (some ⟨g,0,none⟩) (n-1) f).ownBlock=some j→(Value.slice (some ⟨g,0,none⟩) n f).ownBlock=some j) (⟨by rw[X.o,←HF.o];exact M.o,Z.o,λ_ h=>h⟩)
 have h1:p≤f:=by omega
 have h2:p+1≤n:=by omega
 have i1:(0:Int)≤(p:Int)+1:=by omega
 have i2:(p:Int)+1≤(n:Int):=by omega
 have h3:¬f=n-1:=by omega
 have i3:(0:Int)≤((n-1:Nat):Int):=by omega
 have i4:((n-1:Nat):Int)≤(n:Int):=by omega
 have i5:(n:Int)≤(f:Int):=by omega
 have n1:n-1≤n:=by omega
 clear q E G M HF Z C L X Q d H hz hb S hi
 by_cases hce:f=p+1
 ·obtain rfl:n=p+1:=by omega
  subst hce
  have t:=J (b ⟨g,0,none⟩ 0 (λj u s=>by
   rw[List.length_eq_zero_iff.1 (show news.length=0 by omega)] at s
   simp at s))
  clear b F z a o y N ok U R
  simp only[Nat.add_sub_cancel,Nat.sub_self,Nat.add_sub_cancel_left] at t D r
  have h5:¬(p+1=p):=by omega
  have i6:(0:Int)≤(p:Int):=by omega
  have i7:(p:Int)≤(p:Int)+1:=by omega
  have h6:p+1-p=1:=by omega
  go_enter Tryz.func84,Tryz.ntmps84
  go_wp2
  refine wrLx [ff,ff,ff,ff,ff,ff,tt,ff] (λw'=>True) ?_ (λK hK=>?_)
  ·trivial
  repeat((first|(refine zl rfl ?_;constructor;constructor;(focus(rintro w' _;go_simp;(try with_reducible rfl);done)))|(refine zm rfl ?_));try simp only[Act.put,pA,pB,pC])
  (refine zJ rfl (λK' hK'=>?_))
  refine yt rfl rfl rfl (t.o _) ?_
  refine nXt hK' ?_ λhS=>?_
  ·trivial
  try simp only[Act.put,pA,pB,pC]
  repeat((first|(refine zl rfl ?_;constructor;constructor;(focus(rintro w' _;go_simp;(try with_reducible rfl);done)))|(refine zm rfl ?_));try simp only[Act.put,pA,pB,pC])
  refine zL (hK.out _ _ ?_)
  go_wp2_with (refine jR rfl rfl rfl D.o ?_)
  go_ret
  exact⟨_,rfl,r.o⟩
 ·have t:=J (b ⟨g,(p+1)*32,none⟩ (f-(p+1)) (λj u s=>by rw[Zt];exact F j u s))
  clear b F z a o y N ok U R
  go_enter Tryz.func84,Tryz.ntmps84
  go_wp2
  refine wrLx [ff,ff,ff,ff,ff,ff,tt,ff] (λw'=>True) ?_ (λK hK=>?_)
  ·trivial
  repeat((first|(refine zl rfl ?_;constructor;constructor;(focus(rintro w' _;go_simp;(try with_reducible rfl);done)))|(refine zm rfl ?_));try simp only[Act.put,pA,pB,pC])
  (refine zJ rfl (λK' hK'=>?_))
  refine yt rfl rfl rfl (t.o _) ?_
  refine nXt hK' ?_ λhS=>?_
  ·trivial
  try simp only[Act.put,pA,pB,pC]
  repeat((first|(refine zl rfl ?_;constructor;constructor;(focus(rintro w' _;go_simp;(try with_reducible rfl);done)))|(refine zm rfl ?_));try simp only[Act.put,pA,pB,pC])
  refine zL (hK.out _ _ ?_)
  go_wp2_with (refine jR rfl rfl rfl D.o ?_)
  go_ret
  exact⟨_,rfl,r.o⟩
theorem erase_filter:∀ {l:List zd} {i:Nat} {x:zd},l.Nodup→l[i]? =some x→l.eraseIdx i=l.filter λy=>decide (y≠x)
 |[],i,x,_,h=>by simp at h
 |a::l,0,x,hn,h=>by
  obtain⟨b,c⟩:=nodup_cons.1 hn
  simp at h
  subst h
  rw[List.eraseIdx_cons_zero,List.filter_cons_of_neg (by simp),List.filter_eq_self.2]
  intro y d
  simp
  rintro rfl
  exact b d
 |a::l,i+1,x,hn,h=>by
  obtain⟨b,c⟩:=nodup_cons.1 hn
  simp only[getElem?_cons_succ] at h
  rw[List.eraseIdx_cons_succ,List.filter_cons_of_pos (by simp;rintro rfl;exact b (mem_of_getElem? h)),erase_filter c h]
theorem za3 {α:Type} {l:List α} {n:Nat} {e:α} (h:l[n]? =some e):l.drop n=e::l.drop (n+1):=by
 obtain⟨a,rfl⟩:=List.getElem?_eq_some_iff.1 h
 exact List.drop_eq_getElem_cons a
theorem zkb {α:Type} {l:List α} {n:Nat} {e:α} (h:l[n]? =some e):l=l.take n++e::l.drop (n+1):=by rw[←za3 h,List.take_append_drop]
def JW (l:List StE) (K:List zd) (n:Nat):List StE:=(l.take n).filter (λe=>decide (e.id∉K))++l.drop n
def jB (l:List StE) (K:List zd) (n:Nat):List StE:=(l.take n).filter λe=>decide (e.id∈K)
section
variable {l:List StE} {K:List zd} {n:Nat} {e:StE}
theorem zgr:JW l K 0=l:=by simp[JW]
theorem zix:JW l K l.length=l.filter λe=>decide (e.id∉K):=by simp[JW]
theorem zf2:jB l K 0=[]:=by simp[jB]
theorem zhJ:jB l K l.length=l.filter λe=>decide (e.id∈K):=by simp[jB]
theorem zhK:(jB l K n).length≤n:=by
 unfold jB
 have a:=List.length_filter_le (λe:StE=>decide (e.id∈K)) (l.take n)
 have b:(l.take n).length≤n:=by rw[List.length_take];omega
 omega
theorem zgq (h:l[n]? =some e) (a:e.id∉K):JW l K (n+1)=JW l K n∧jB l K (n+1)=jB l K n:=by
 unfold JW jB
 rw[take_add_one,h,za3 h]
 simp[filter_append,a]
theorem zhM (h:l[n]? =some e):yv l=yv (l.take n)++e.id::yv (l.drop (n+1)):=by
 conv=>lhs;rw[zkb h]
 simp[yv]
theorem ziy (f:(yv l).Nodup) (h:l[n]? =some e) (d:e.id∈K):JW l K (n+1)=J4 (JW l K n) e.id∧jB l K (n+1)=jB l K n++[e]:=by
 rw[zhM h] at f
 obtain⟨p,k,m⟩:=List.nodup_append.1 f
 obtain⟨o,q⟩:=nodup_cons.1 k
 constructor
 ·unfold JW J4
  have g:[e].filter (λa=>decide (a.id∉K))=[]:=by simp[d]
  have i:(e::l.drop (n+1)).filter (λa=>decide (a.id≠e.id))=l.drop (n+1):=by
   rw[List.filter_cons_of_neg (by simp),List.filter_eq_self]
   intro a c
   simp only[decide_eq_true_eq]
   exact λb=>o (by rw[←b];exact mem_map.2 ⟨a,c,rfl⟩)
  have j:((l.take n).filter (λa=>decide (a.id∉K))).filter (λa=>decide (a.id≠e.id))=(l.take n).filter (λa=>decide (a.id∉K)):=by
   rw[List.filter_eq_self]
   intro a c
   simp only[decide_eq_true_eq]
   exact λb=>m a.id (mem_map.2 ⟨a,(mem_filter.1 c).1,rfl⟩) e.id (.head _) b
  rw[take_add_one,h,za3 h,filter_append,filter_append,i,j]
  simp only[Option.toList_some]
  rw[g,List.append_nil]
 ·unfold jB
  rw[take_add_one,h]
  simp[filter_append,d]
theorem ziz (h:l[n]? =some e):e∈JW l K n:=by
 unfold JW
 rw[za3 h]
 simp
theorem zja {x:zd}:∀e∈J4 l x,e∈l:=λ_ h=>(mem_filter.1 h).1
end
def qA (R:Nat→Value) (n:Nat) (v:Value):Nat→Value:=λj=>if j=n then v else R j
def Vd (p ma ms:Nat) (v:Value):Nat→Prop:=λj=>j=p∨j=ma∨j=ms∨v.ownBlock=some j
theorem Qr {w:World} {q:Nat} {i:Int} {x:zd} (h:w.rangeAt q 0 (skC (i,x))):w.cell? ⟨q,0,none⟩=some (.int .i64 i)∧w.rangeAt q 1 (zf x):=by
 refine⟨by simpa using h 0 _ rfl,λj v a=>?_⟩
 have:=h (j+1) v (by unfold skC;rw[getElem?_cons_succ];exact a)
 rw[Nat.zero_add] at this
 rw[add_comm]
 exact this
section
variable {w0 w w':World} {p ma ms:Nat} {R:Nat→Value} {X:Nat→Prop} {C:Nat→zd→List Value} {Q:StQ}
theorem Jc {n:Nat} (a:n<65):∀j,Vd p ma ms (R n) j→stV p ma ms R j:=by
 rintro j (e|e|e|e)
 ·exact .inl e
 ·exact .inr (.inl e)
 ·exact .inr (.inr (.inl e))
 ·exact .inr (.inr (.inr ⟨n,a,e⟩))
theorem yM.upd (h:yM w0 w p ma ms R X C Q) {n:Nat} (s:n<65) {m:Value} {d:List StE} {o:Nat→zd→List Value} {X':Nat→Prop} (f:Fr (Vd p ma ms (R n)) w w')
  (obj:w'.heap[p]? =some (.cells (stC ma ms (qA R n m)).toArray 116 (0,0)))
  (row:w'.ownsRow w0.heap.size 41 32 m (yv d).length ((yv d).flatMap zf))
  (am:∃M,vr w' ma M∧∀k cs,(k,cs)∈M↔∃i:Nat,i<65∧k.1=(i:Int)∧∃e∈jh Q n d i,e.id=k.2∧cs=o i k.2)
  (sm:∃M,Yg w' ms M∧∀k x,(k,x)∈M↔∃i:Nat,i<65∧k.1=(i:Int)∧∃e∈jh Q n d i,k.2∈zX e.tx∧e.id=x)
  (data:∀e∈d,Kept X' w' (λw=>TxQ w e.tx (o n e.id))) (v:∀i,i≠n→o i=C i) (val:SVal d) (u:∀j,m.ownBlock=some j→(R n).ownBlock=some j∨w.heap.size≤j)
  (y:∀j,j<w.heap.size→X' j→X j) (z:∀j,stV p ma ms (qA R n m) j→X' j):yM w0 w' p ma ms (qA R n m) X' o (jh Q n d):=by
 have l:∀j,Vd p ma ms (R n) j→stV p ma ms R j:=Jc s
 refine {obj:=obj,row:=λi hi=>?_,am:=am,sm:=sm,data:=λi hi e r=>?_,val:=λi=>?_,apart:=h.apart,rnot:=λi hi j a=>?_,rapart:=λi k hi t g j a b=>?_,lo3:=h.lo3,fr:=h.fr.trans f (λj a e=>by have:=h.lo j (l j e);omega),sub:=z}
 ·by_cases e:i=n
  ·subst e
   unfold qA
   rw[if_pos rfl,xO]
   exact row
  ·unfold qA
   rw[if_neg e,qE Q d e]
   refine zb (h.row i hi) f (λj a c=>?_)
   have q:=h.rnot i hi j a
   rcases c with c|c|c|c
   ·exact q.1 c
   ·exact q.2.1 c
   ·exact q.2.2 c
   ·exact h.rapart i n hi s e j a c
 ·by_cases en:i=n
  ·subst en
   rw[xO] at r
   exact data e r
  ·rw[qE Q d en] at r
   rw[v i en]
   exact(h.data i hi e r).step (f.mono (λj c=>h.sub j (l j c))) y
 ·by_cases e:i=n
  ·subst e;rw[xO];exact val
  ·rw[qE Q d e];exact h.val i
 ·by_cases e:i=n
  ·subst e
   unfold qA at a
   rw[if_pos rfl] at a
   rcases u j a with c|c
   ·exact h.rnot i hi j c
   ·have A:=h.hi p (.inl rfl)
    have B:=h.hi ma (.inr (.inl rfl))
    have q:=h.hi ms (.inr (.inr (.inl rfl)))
    omega
  ·unfold qA at a
   rw[if_neg e] at a
   exact h.rnot i hi j a
 ·unfold qA at a b
  by_cases ei:i=n
  ·rw[if_pos ei] at a
   rw[if_neg (λe=>g (ei.trans e.symm))] at b
   rcases u j a with c|c
   ·exact h.rapart n k s t (λe=>g (ei.trans e)) j c b
   ·have:=((h.row k t).lt j b).2
    omega
  ·rw[if_neg ei] at a
   by_cases ek:k=n
   ·rw[if_pos ek] at b
    rcases u j b with c|c
    ·exact h.rapart n i s hi (λe=>ei e.symm) j c a
    ·have:=((h.row i hi).lt j a).2
     omega
   ·rw[if_neg ek] at b
    exact h.rapart i k hi t g j a b
structure zaB (w:World) (p ma ms:Nat) (R:Nat→Value) (C:Nat→zd→List Value) (Q:StQ) (n:Nat) (e:StE) (m:Nat):Prop where
 obj:w.heap[p]? =some (.cells (stC ma ms R).toArray 116 (0,0))
 am:∃M,vr w ma M∧∀k cs,(k,cs)∈M↔∃i:Nat,i<65∧k.1=(i:Int)∧∃e∈Q i,e.id=k.2∧cs=C i k.2
 sm:∃M,Yg w ms M∧∀k x,(k,x)∈M↔¬(k.1=(n:Int)∧k.2∈(zX e.tx).take m)∧∃i:Nat,i<65∧k.1=(i:Int)∧∃e∈Q i,k.2∈zX e.tx∧e.id=x
theorem zaB.cells {n m:Nat} {e:StE} (h:zaB w p ma ms R C Q n e m):w.cell? ⟨p,0,none⟩=some (.map (some ma))∧w.cell? ⟨p,66,none⟩=some (.map (some ms))∧∀i,i<65→w.cell? ⟨p,i+1,none⟩=some (R i):=by
 have:=zq h.obj
 refine⟨by simpa using this 0 _ rfl,by simpa using this 66 _ zdU,λi hi=>?_⟩
 have:=this (i+1) _ (VH hi)
 simpa using this
theorem zaB.fr0 {n m:Nat} {e:StE} (h:zaB w p ma ms R C Q n e m) (f:Fr No w w'):zaB w' p ma ms R C Q n e m:=by
 obtain⟨M,c,d⟩:=h.am
 obtain⟨M',a,b⟩:=h.sm
 exact⟨f.obj h.obj id,⟨M,c.keep f id,d⟩,⟨M',a.keep f id,b⟩⟩
theorem zjt {l:List StE} (n:(yv l).Nodup) {a e:StE} (g:a∈l) (j:e∈l) (h:a.id=e.id):a=e:=by
 obtain⟨i,hi,b⟩:=getElem_of_mem g
 obtain⟨k,m,c⟩:=getElem_of_mem j
 have d:(yv l)[i]? =some e.id:=by unfold yv;rw[getElem?_map,getElem?_eq_getElem hi,b];exact congrArg some h
 have f:(yv l)[k]? =some e.id:=by unfold yv;rw[getElem?_map,getElem?_eq_getElem m,c];rfl
 have:=(List.getElem?_inj (List.getElem?_eq_some_iff.1 d).1 n).1 (d.trans f.symm)
 subst this
 exact b.symm.trans c
theorem SVal.apart2 {l:List StE} (h:SVal l) {a e:StE} (m:a∈l) (n:e∈l) (d:a≠e):∀q∈zX e.tx,q∉zX a.tx:=λq j c=>by
 have f:=(List.pairwise_iff_getElem.1 h.apart)
 obtain⟨i,hi,rfl⟩:=getElem_of_mem m
 obtain⟨k,g,b⟩:=getElem_of_mem n
 rcases Nat.lt_trichotomy i k with hik|hik|hik
 ·exact f i k hi g hik q c (by rw[b];exact j)
 ·subst hik;exact d b
 ·exact f k i g hi hik q (by rw[b];exact j) c
theorem SVal.ins8 {l:List StE} (h:SVal l):∀e∈l,e.tx.ins.length≤8:=λe a=>(y7.1 (J1 (h.ent e a).1).1).2.1
theorem ziv {l:List StE} (h:SVal l) {e:StE} (j:e∈l) (q:zE) (x:zd):(q∉zX e.tx∧∃a∈l,q∈zX a.tx∧a.id=x)↔∃a∈J4 l e.id,q∈zX a.tx∧a.id=x:=by
 constructor
 ·rintro⟨f,a,c,b,rfl⟩
  refine⟨a,mem_filter.2 ⟨c,?_⟩,b,rfl⟩
  simp only[decide_eq_true_eq]
  intro d
  rw[zjt h.nd c j d] at b
  exact f b
 ·rintro⟨a,c,b,rfl⟩
  obtain⟨g,i⟩:=mem_filter.1 c
  simp only[decide_eq_true_eq] at i
  exact⟨λf=>h.apart2 g j (λk=>i (by rw[k])) q f b,a,g,b,rfl⟩
theorem zay (w:World) (i:Int) (x:zd):(w.alloc (.cells (skC (i,x)).toArray 110)).rangeAt w.heap.size 0 (skC (i,x)):=zy w _ _
theorem zlY (h:yM w0 w p ma ms R X C Q) {n:Nat} (hn:n<65) {e:StE} (he:e∈Q n):
  Calls prog 44 #[.pointer (some ⟨p,0,none⟩),.agg (skC (n,e.id)).toArray] w λe' w'=>e'=.returned (.tuple #[])∧Fr (Vd p ma ms (R n)) w w'∧∃v',(∀j,v'.ownBlock=some j→(R n).ownBlock=some j)∧yM w0 w' p ma ms (qA R n v') X C (jh Q n (J4 (Q n) e.id)):=by
 have zp:=vG
 have zh:=yP
 have F:=J h
 have HE:=J he
 have HV:=J (h.val n)
 have u:=J (h.idok n e.id (mem_map.2 ⟨e,he,rfl⟩))
 have XL:=J (zu u.o)
 have SL:=J (JL (k:=((n:Int),e.id)) u.o)
 have aq:=@J (e.tx.ins.length≤1000) (by have:=HV.o.ins8 e he;omega)
 have bn:=aq.o
 have bh:(n:Int)<65:=by omega
 have i0:(0:Int)≤(n:Int):=by omega
 have s:=J hn
 have AA:=J h.apart
 obtain⟨x,hx⟩:∃x,e.id=x:=⟨_,rfl⟩
 have EX:=J hx
 rw[hx] at u XL SL
 rw[hx]
 obtain⟨ra,rc,hR⟩:=h.row_form hn
 have g:=J hR
 have ae:=J (h.row n hn)
 have ab:=J (h.idok n)
 have F1:=J ((frN w).alloc (.cells (skC (n,x)).toArray 110))
 have RK:=J (zay w n x)
 have ag:=@J (p<w.heap.size∧ma<w.heap.size∧ms<w.heap.size) (⟨h.hi p (.inl rfl),h.hi ma (.inr (.inl rfl)),h.hi ms (.inr (.inr (.inl rfl)))⟩)
 clear h he hx hR
 go_enter Tryz.func44,Tryz.ntmps44
 go_wp2_with fail
 generalize bl:w.heap.size=q0 at*
 generalize bf:w.alloc (.cells (skC (n,x)).toArray 110)=wa at*
 clear bf
 have FD:=J F1.o.drew
 have HD:=J (F.o.fr0 FD.o)
 have RD:=J (za RK.o (frN wa).drew id)
 obtain⟨M,hM,hm⟩:=HD.o.am
 obtain⟨ia,ic,oa,oc,ak⟩:=(HD.o.data n s.o e HE.o).now.form
 have af:Yh C Q n x=[.int .u32 e.tx.ver,.slice ia e.tx.ins.length ic,.slice oa e.tx.outs.length oc]:=by
  unfold Yh
  rw[if_pos (show qW Q n x=true from by unfold qW;simp only[decide_eq_true_eq];exact⟨i0,bh,by rw[Int.toNat_natCast,←EX.o];exact mem_map.2 ⟨e,HE.o,rfl⟩⟩),Int.toNat_natCast,←EX.o,ak]
 have LK:=@J (∀w',vr w' ma M→(Instr.lookup 113 (.map (some ma)) (.agg (skC (n,x)).toArray) false).run prog w'=.ok (.agg #[.int .u32 e.tx.ver,.slice ia e.tx.ins.length ic,.slice oa e.tx.outs.length oc]) w') (λw' h'=>by
  have:=ZV (w:=w') (zah s.o) u.o h' hm false
  rw[af] at this
  simpa using this)
 have HM:=J hM
 have TQ:=@J (TxQ wa.drew e.tx [.int .u32 e.tx.ver,.slice ia e.tx.ins.length ic,.slice oa e.tx.outs.length oc]) (by rw[←ak];exact(HD.o.data n s.o e HE.o).now)
 clear hM hm ak af
 refine wrLx [ff,ff,ff,ff,ff,ff,tt,ff,ff] (λw'=>w'.cell? ⟨p,0,none⟩=some (.map (some ma))∧w'.rangeAt q0 0 (skC (n,x))∧vr w' ma M) ?_ (λK hK=>?_)
 ·exact⟨HD.o.cells.1,RD.o,HM.o⟩
 generalize wa.drew=wd at*
 repeat((first|(refine zl rfl ?_;constructor;constructor;(focus(first|exact zn7 rfl (λw h=>h.2.1) SL.o|exact λw' h=>zS (t:=113) rfl rfl rfl (LK.o w' h.2.2)|(rintro w' ⟨s1,s2,s3⟩;go_simp;(try with_reducible rfl);done))))|(refine zm rfl ?_));try simp only[Act.put,pA,pB,pC])
 (refine zJ rfl (λK' hK'=>?_))
 go_simp
 refine(vP wd TQ.o aq.o).mono ?_
 rintro e' w3 ⟨pv,rfl,al,f3⟩
 obtain⟨pa,pc,bc⟩:=al.slice.arg.form
 subst bc
 have F3:=J f3
 have PO:=J al
 clear f3 al
 refine nXt hK' ?_ λhS=>?_
 ·exact⟨(HD.o.fr0 F3.o).cells.1,za RD.o F3.o id,HM.o.keep F3.o id⟩
 try simp only[Act.put,pA,pB,pC]
 repeat((first|(refine zl rfl ?_;constructor;constructor;(focus(first|(rintro w' ⟨s1,s2,s3⟩;go_simp;(try with_reducible rfl);done))))|(refine zm rfl ?_));try simp only[Act.put,pA,pB,pC])
 refine zL (hK.out _ _ ?_)
 have H3:=J (HD.o.fr0 F3.o)
 have aR:=J (FD.o.trans0 F3.o)
 have aB:=@J (∀q∈zX e.tx,q.ok) (λq hq=>by obtain⟨y,hy,rfl⟩:=mem_map.1 hq;exact TQ.o.oks.1 y hy)
 have aj:=J (vC e.tx)
 have R3:=J (za RD.o F3.o id)
 have aP:=@J (zaB w3 p ma ms R C Q n e 0) (⟨H3.o.obj,H3.o.am,by
  obtain⟨M',v,G⟩:=H3.o.sm
  exact⟨M',v,λq y=>by rw[G];simp⟩⟩)
 have aZ:=@J (∀j,(Value.slice pa e.tx.ins.length pc).ownBlock=some j→wd.heap.size≤j) (λj S=>(PO.o.lt j S).1)
 have ZD:=@J (ms<wd.heap.size) (HD.o.hi ms (.inr (.inr (.inl rfl))))
 go_wp2_with fail
 go_loopw [15] (λiv W=>∃m:Nat,iv=.int .i64 m∧m≤e.tx.ins.length∧zaB W p ma ms R C Q n e m∧Fr (λj=>j=ms) w3 W) (λiv _=>e.tx.ins.length-(intOf iv).toNat)
 case atStart=>exact⟨0,rfl,zero_le _,aP.o,Fr.refl _ _⟩
 case round=>
  obtain⟨m,rfl,hm,aG,aH⟩:=hrel
  rename World=>W
  have DI:=J aG
  have FI:=J aH
  have RI:=J (za R3.o FI.o (λe=>by have:=ag.o.2.2;omega))
  clear aG aH
  by_cases hmt:m<e.tx.ins.length
  ·have i2:(m:Int)<(e.tx.ins.length:Int):=by omega
   obtain⟨q,hq⟩:∃q,(zX e.tx)[m]? =some q:=⟨_,getElem?_eq_getElem (by rw[aj.o];exact hmt)⟩
   have Z:=J (aB.o q (mem_of_getElem? hq))
   have a1:=J (zb PO.o FI.o (λj S e=>by have:=aZ.o j S;have:=ZD.o;omega))
   have aK:xG W (.slice pa e.tx.ins.length pc) (zX e.tx):=⟨aB.o,by rw[aj.o];exact a1.o.slice.arg⟩
   obtain⟨b2,bk,bj,e2,aL,-⟩:=aK.at_ hq
   injection e2 with e3 e4 e5
   subst e3
   have R2:=J aL
   have PL:=J (zY Z.o)
   have RQ:=J (zy W (zn q) 95)
   have FQ:=J ((frN W).alloc (.cells (zn q).toArray 95))
   have TK:=@J (∀y,y∉(zX e.tx).take (m+1)↔y≠q∧y∉(zX e.tx).take m) (λy=>by
    rw[take_add_one,hq]
    simp[and_comm])
   clear aL hq e4 e5 aK
   have⟨K0,K1⟩:=tZ2
   go_wp2_with ((first|((with_reducible refine zt ?_);clear K0;refine zn3 rfl rfl rfl R2.o PL.o ?_)|((with_reducible refine zx ?_);clear K1;refine zob (w:=W) (cs:=zn q) rfl rfl rfl rfl PL.o yJ ?_));go_frame)
   generalize bm:W.heap.size=qq at*
   generalize bg:W.alloc (.cells (zn q).toArray 95)=wb at*
   have ai:=J FQ.o.drew
   have l:=J (DI.o.fr0 ai.o)
   have aE:=J (za RQ.o (frN wb).drew id)
   have aC:=J (Qr (za RI.o ai.o id)).1
   clear bg
   refine wrLx [ff,ff,ff,ff,ff,ff,ff,ff,tt] (λw'=>w'.cell? ⟨p,66,none⟩=some (.map (some ms))∧w'.rangeAt qq 0 (zn q)∧w'.cell? ⟨q0,0,none⟩=some (.int .i64 n)) ?_ (λK hK=>?_)
   ·exact⟨l.o.cells.2.1,aE.o,aC.o⟩
   generalize wb.drew=z1 at*
   obtain⟨M2,N,T⟩:=l.o.sm
   obtain⟨H,M5,r,U,L,O,-⟩:=N.del zkS.keyed VR (λ_ _=>zbe) (za5 (k:=((n:Int),q)) (zah s.o) Z.o) 0 118
   have I:=J r
   have Y:=J O.fr
   have ax:=@J (p≠ms∧ma≠ms) (⟨AA.o.2.1,AA.o.2.2⟩)
   have ao:=@J (zaB H p ma ms R C Q n e (m+1)) (⟨Y.o.obj l.o.obj ax.o.1,by
    obtain⟨Ma,v,G⟩:=l.o.am
    exact⟨Ma,v.keep Y.o ax.o.2,G⟩,⟨M5,U,λy z=>by
    rw[L y z,T]
    have t:=TK.o y.2
    constructor
    ·rintro⟨a,b,c⟩
     refine⟨λ⟨d1,d2⟩=>?_,c⟩
     refine Classical.byContradiction λ_=>?_
     have:y.2∉(zX e.tx).take (m+1):=t.2 ⟨λd3=>a (Prod.ext d1 d3),λd4=>b ⟨d1,d4⟩⟩
     exact this d2
    ·rintro⟨a,c⟩
     refine⟨λd=>a ⟨by rw[d],?_⟩,λ⟨d1,d2⟩=>a ⟨d1,?_⟩,c⟩
     ·exact Classical.byContradiction λd3=>(t.1 d3).1 (by rw[d])
     ·exact Classical.byContradiction λd3=>(t.1 d3).2 d2⟩⟩)
   have F5:=@J (Fr (λj=>j=ms) w3 H) ((FI.o.trans0 ai.o).trans Y.o (λj _ e=>e))
   have R5:=J (za aE.o Y.o (λe=>by have:=ZD.o;have:=F3.o.size;have:=FI.o.size;omega))
   have K5:=J (Y.o.cell aC.o (λe=>by have:=ag.o.2.2;have e:q0=ms:=e;omega))
   have a8:=J (zbd (k:=((n:Int),q)) Z.o)
   clear r U L O N T
   unfold spV at I
   repeat((first|(refine zl rfl ?_;constructor;constructor;(focus(first|exact zn5 rfl (λw h=>h.2.1) PL.o|exact λw' _=>yR (t:=118) rfl rfl zbW (zdw _ Z.o) (zbS _ _) a8.o|(rintro w' ⟨s1,s2,s3⟩;go_simp;(try with_reducible rfl);done))))|(refine zm rfl ?_));try simp only[Act.put,pA,pB,pC])
   (refine zJ rfl (λK' hK'=>?_))
   refine yj (jw rfl rfl rfl I.o) ?_
   refine nXt hK' ?_ λhS=>?_
   ·exact⟨ao.o.cells.2.1,R5.o,K5.o⟩
   try simp only[Act.put]
   refine zL (hK.out _ _ ?_)
   go_wp2_with fail
   go_roundw
   case rel=>exact⟨m+1,by go_num,by omega,ao.o,F5.o⟩
   case measure=>simp[intOf];omega
  ·have aI:m=e.tx.ins.length:=by omega
   have i2:¬(m:Int)<(e.tx.ins.length:Int):=by omega
   have ba:=@J ((zX e.tx).take m=zX e.tx) (by rw[aI,←aj.o,take_length])
   clear aI
   go_wp2_with fail
   have ah:=J ((frN W).drew)
   have l:=J (DI.o.fr0 ah.o)
   have aF:=J (za RI.o ah.o id)
   refine wrLx [ff,ff,ff,ff,ff,tt] (λw'=>w'.cell? ⟨p,0,none⟩=some (.map (some ma))∧w'.rangeAt q0 0 (skC (n,x))) ?_ (λK hK=>?_)
   ·exact⟨l.o.cells.1,aF.o⟩
   generalize W.drew=z1 at*
   obtain⟨M2,N,T⟩:=l.o.am
   obtain⟨H,M5,r,U,L,O,-⟩:=N.del zmA.keyed zce (λ_ _=>zdS) (zdA (k:=((n:Int),x)) (zah s.o) u.o) 0 110
   have I:=J r
   have Y:=J O.fr
   have aw:=@J (p≠ma∧ms≠ma) (⟨AA.o.1,λe=>AA.o.2.2 e.symm⟩)
   have aN:=@J (∃M,vr H ma M∧∀k cs,(k,cs)∈M↔∃i:Nat,i<65∧k.1=(i:Int)∧∃a∈jh Q n (J4 (Q n) x) i,a.id=k.2∧cs=C i k.2) (⟨M5,U,λk cs=>by
    rw[L k cs,T]
    constructor
    ·rintro⟨v,i,hi,f,a,o,A,aa⟩
     refine⟨i,hi,f,a,?_,A,aa⟩
     by_cases c:i=n
     ·subst c
      rw[xO]
      refine mem_filter.2 ⟨o,?_⟩
      simp only[decide_eq_true_eq]
      exact λbb=>v (Prod.ext f (by rw[←A,bb]))
     ·rw[qE Q _ c]
      exact o
    ·rintro⟨i,hi,f,a,o,A,aa⟩
     by_cases c:i=n
     ·subst c
      rw[xO] at o
      obtain⟨v,G⟩:=mem_filter.1 o
      simp only[decide_eq_true_eq] at G
      exact⟨λd=>G (by rw[A,d]),i,hi,f,a,v,A,aa⟩
     ·rw[qE Q _ c] at o
      exact⟨λd=>c (by have h:k.1=(n:Int):=(congrArg Prod.fst d);omega),i,hi,f,a,o,A,aa⟩⟩)
   have a7:=@J (∃M,Yg H ms M∧∀k y,(k,y)∈M↔∃i:Nat,i<65∧k.1=(i:Int)∧∃a∈jh Q n (J4 (Q n) x) i,k.2∈zX a.tx∧a.id=y) (by
    obtain⟨M6,v,G⟩:=l.o.sm
    refine⟨M6,v.keep Y.o aw.o.2,λk y=>?_⟩
    rw[G,ba.o]
    have sc:=ziv HV.o HE.o k.2 y
    rw[EX.o] at sc
    constructor
    ·rintro⟨hq,i,hi,f,a,o,V,P⟩
     refine⟨i,hi,f,?_⟩
     by_cases c:i=n
     ·subst c
      rw[xO]
      exact sc.1 ⟨λd=>hq ⟨f,d⟩,a,o,V,P⟩
     ·rw[qE Q _ c]
      exact⟨a,o,V,P⟩
    ·rintro⟨i,hi,f,a,o,V,P⟩
     by_cases c:i=n
     ·subst c
      rw[xO] at o
      obtain⟨s1,a',s2,s3,s4⟩:=sc.2 ⟨a,o,V,P⟩
      exact⟨λd=>s1 d.2,i,hi,f,a',s2,s3,s4⟩
     ·rw[qE Q _ c] at o
      exact⟨λd=>c (by have:=d.1;omega),i,hi,f,a,o,V,P⟩)
   have aU:=@J (Fr (λj=>j=ma∨j=ms) w H) (((aR.o.of0.trans FI.o (λj _ e=>.inr e)).trans0 ah.o).trans Y.o (λj _ e=>.inl e))
   have ay:=J (Y.o.obj l.o.obj aw.o.1)
   have R5:=J (za aF.o Y.o (λe=>by have:=ag.o.2.1;omega))
   have aO:=@J (H.cell? ⟨p,0,none⟩=some (.map (some ma))) (by have:=zq ay.o 0 _ rfl;simpa using this)
   clear r U L O N T
   unfold skV at I
   repeat((first|(refine zl rfl ?_;constructor;constructor;(focus(first|exact zn7 rfl (λw h=>h.2) SL.o|(rintro w' ⟨s1,s2⟩;go_simp;(try with_reducible rfl);done))))|(refine zm rfl ?_));try simp only[Act.put,pA,pB,pC])
   (refine zJ rfl (λK' hK'=>?_))
   refine yj (jw rfl rfl rfl I.o) ?_
   refine nXt hK' ?_ λhS=>?_
   ·exact⟨aO.o,R5.o⟩
   try simp only[Act.put]
   refine zL (hK.out _ _ ?_)
   go_wp2_with fail
   have F6:=J ((frN H).drew)
   have au:=J (aU.o.trans0 F6.o)
   have az:=J (F6.o.obj ay.o id)
   have R6:=J (Qr (za R5.o F6.o id))
   have ad:=J (zb ae.o au.o (λj S e=>by have:=F.o.rnot n s.o j S;rcases e with e|e;exact this.2.1 e;exact this.2.2 e))
   have C6:=@J (H.drew.cell? ⟨p,1+n,none⟩=some (.slice ra (Q n).length rc)) (by have:=zq az.o (1+n) _ (by rw[add_comm];exact VH s.o);rw[g.o] at this;simpa using this)
   obtain⟨B,hix⟩:∃B,(yv (Q n))[B]? =some x:=List.mem_iff_getElem?.1 (by rw[←EX.o];exact mem_map.2 ⟨e,HE.o,rfl⟩)
   have av:=@J (B<(yv (Q n)).length) ((List.getElem?_eq_some_iff.1 hix).1)
   have aW:=J (Vk hix (zcc HV.o.nd hix))
   have aQ:=@J ((yv (Q n)).eraseIdx B=yv (J4 (Q n) x)) (by rw[erase_filter HV.o.nd hix,Yj])
   have L4:=@J ((yv (Q n)).length≤100000) (by rw[jG];have:=HV.o.len;omega)
   clear hix
   refine wrLx [ff,ff,ff,ff,ff,ff,ff,ff,ff,tt,ff] (λw'=>w'.cell? ⟨p,1+n,none⟩=some (.slice ra (Q n).length rc)∧w'.cell? ⟨q0,0,none⟩=some (.int .i64 n)∧w'.rangeAt q0 1 (zf x)) ?_ (λK hK=>?_)
   ·exact⟨C6.o,R6.o.1,R6.o.2⟩
   generalize H.drew=w6 at*
   have aV:=@J (Calls prog 83 #[.slice ra (Q n).length rc,.agg (zf x).toArray] w6 λe w'=>e=.returned (.int .i64 B)∧Fr No w6 w') (by
    have:=zcP w6 (y5.own ad.o ab.o) L4.o x u.o
    rw[g.o,aW.o] at this
    exact this)
   repeat((first|(refine zl rfl ?_;constructor;constructor;(focus(first|exact zn6 rfl (λw h=>h.2.2) XL.o|(rintro w' ⟨s1,s2,s3⟩;go_simp;(try with_reducible rfl);done))))|(refine zm rfl ?_));try simp only[Act.put,pA,pB,pC])
   (refine zJ rfl (λK' hK'=>?_))
   go_simp
   refine aV.o.mono ?_
   rintro e' w7 ⟨rfl,f7⟩
   have F7:=J f7
   clear f7
   refine nXt hK' ?_ λhS=>?_
   ·exact⟨F7.o.cell C6.o id,F7.o.cell R6.o.1 id,za R6.o.2 F7.o id⟩
   try simp only[Act.put,pA,pB,pC]
   repeat((first|(refine zl rfl ?_;constructor;constructor;(focus(first|(rintro w' ⟨s1,s2,s3⟩;go_simp;(try with_reducible rfl);done))))|(refine zm rfl ?_));try simp only[Act.put,pA,pB,pC])
   refine zL (hK.out _ _ ?_)
   go_wp2_with fail
   have F8:=J (F7.o.drew)
   have aY:=J (F8.o.obj az.o id)
   have C8:=J (F8.o.cell C6.o id)
   have K8:=J (F8.o.cell R6.o.1 id)
   have aD:=J (zb ad.o F8.o (λ_ _=>id))
   have aT:=J (au.o.trans0 F8.o)
   have i9:IntKind.i64.wrap ((B:Int)+1)=(B:Int)+1:=IntWalk.i64_in _ (by have:=av.o;have:=L4.o;omega)
   refine yl [ff,ff,ff,ff,ff,ff,ff,ff,ff,ff,ff,ff,ff,tt,ff,ff,ff,tt] (λw'=>w'.cell? ⟨p,1+n,none⟩=some (.slice ra (Q n).length rc)∧w'.cell? ⟨q0,0,none⟩=some (.int .i64 n)) (by kernel_rfl) (by kernel_rfl) 17 (by kernel_rfl) (by kernel_rfl) ?_ (λK hK=>?_)
   ·exact⟨C8.o,K8.o⟩
   generalize w7.drew=w8 at*
   have an:=J (zds aD.o ab.o L4.o av.o)
   rw[g.o] at an
   repeat((first|(refine z6 rfl ?_;constructor;constructor;(focus(first|(rintro w' ⟨s1,s2⟩;go_simp;(try with_reducible rfl);done))))|(refine z7 rfl ?_));try simp only[Act.put,pA,pB,pC])
   (refine zZ rfl (λK' hK'=>?_))
   go_simp
   refine an.o.mono ?_
   rintro e' w9 ⟨v9,rfl,aJ,f9,aM⟩
   have O9:=J aJ
   have F9:=J f9
   have V9:=J aM
   have N9:=@J (¬(Value.slice ra (Q n).length rc).ownBlock=some p) (λe=>(F.o.rnot n s.o p (by rw[g.o];exact e)).1 rfl)
   have aX:=@J (¬(Value.slice ra (Q n).length rc).ownBlock=some q0) (λe=>by have:=(ae.o.lt q0 (by rw[g.o];exact e)).2;omega)
   clear aJ f9 aM
   obtain⟨D,E,bd⟩:=O9.o.slice.arg.form
   subst bd
   refine hK'.out _ _ (λ_=>?_) (λhS=>?_)
   ·exact⟨F9.o.cell C8.o N9.o,F9.o.cell K8.o aX.o⟩
   try simp only[Act.put,pA,pB,pC]
   repeat((first|(refine z6 rfl ?_;constructor;constructor;(focus(first|(rintro w' ⟨s1,s2⟩;go_simp;(try with_reducible rfl);done))))|(refine z7 rfl ?_));try simp only[Act.put,pA,pB,pC])
   have aA:=J (F9.o.obj aY.o N9.o)
   have fz:w9.frozen? ⟨p,1+n,none⟩=false:=yk aA.o
   have cz:=F9.o.cell C8.o N9.o
   (refine zZ rfl (λK' hK'=>?_))
   go_simp
   refine hK'.out _ _ (λh=>absurd rfl h) (λhS=>?_)
   refine xm (hK.out _ _ ?_)
   go_wp2_with fail
   refine bodyPost_end (results_none rfl _ _ _) rfl ?_
   have a6:=heap_setCell_same w9 p (1+n) _ _ (.slice D ((yv (Q n)).eraseIdx B).length E) aA.o
   have FS:Fr (λj=>j=p) w9 (w9.setCell ⟨p,1+n,none⟩ (.slice D ((yv (Q n)).eraseIdx B).length E)):=(Fr.refl (λj=>j=p) w9).setCell ⟨p,1+n,none⟩ (.inr rfl) _
   have FT:Fr (Vd p ma ms (R n)) w (w9.setCell ⟨p,1+n,none⟩ (.slice D ((yv (Q n)).eraseIdx B).length E)):=((aT.o.mono (λj e=>by rcases e with e|e;exact .inr (.inl e);exact .inr (.inr (.inl e)))).trans F9.o (λj _ e=>.inr (.inr (.inr (by rw[g.o];exact e))))).trans FS (λj _ e=>.inl e)
   have aS:=@J (Fr No H w8) (F6.o.trans0 F8.o)
   have NM:=F.o.rnot n s.o
   have ar:Fr (λj=>j=p∨(R n).ownBlock=some j) H (w9.setCell ⟨p,1+n,none⟩ (.slice D ((yv (Q n)).eraseIdx B).length E)):=((aS.o.of0.trans F9.o (λj _ e=>.inr (by rw[g.o];exact e))).trans FS (λj _ e=>.inl e))
   refine⟨rfl,FT,.slice D ((yv (Q n)).eraseIdx B).length E,λj S=>by rw[g.o];exact V9.o j S,F.o.upd s.o FT ?_ ?_ ?_ ?_ (λa o=>(F.o.data n s.o a (zja a o)).step (FT.mono (λj c=>F.o.sub j (Jc s.o j c))) (λ_ _ h=>h)) (λ_ _=>rfl) (HV.o.filter _) (λj S=>.inl (by rw[g.o];exact V9.o j S)) (λ_ _ h=>h) ?_⟩
   ·have:=zha (ma:=ma) (ms:=ms) (R:=R) s.o (.slice D ((yv (Q n)).eraseIdx B).length E)
    rw[a6,add_comm 1 n]
    unfold qA
    rw[←this]
    simp
   ·rw[←aQ.o]
    exact zb O9.o FS (λj S e=>N9.o (by rw[←e];exact V9.o j S))
   ·obtain⟨M6,v,G⟩:=aN.o
    exact⟨M6,v.keep ar (λe=>e.elim (λe=>AA.o.1 e.symm) (λe=>(NM ma e).2.1 rfl)),G⟩
   ·obtain⟨M6,v,G⟩:=a7.o
    exact⟨M6,v.keep ar (λe=>e.elim (λe=>AA.o.2.1 e.symm) (λe=>(NM ms e).2.2 rfl)),G⟩
   ·rintro j (e|e|e|⟨i,hi,e⟩)
    ·exact F.o.sub j (.inl e)
    ·exact F.o.sub j (.inr (.inl e))
    ·exact F.o.sub j (.inr (.inr (.inl e)))
    ·unfold qA at e
     by_cases c:i=n
     ·rw[if_pos c] at e
      exact F.o.sub j (.inr (.inr (.inr ⟨n,s.o,by rw[g.o];exact V9.o j e⟩)))
     ·rw[if_neg c] at e
      exact F.o.sub j (.inr (.inr (.inr ⟨i,hi,e⟩)))
end
theorem zes {P:Program} {o:Oper} {b:Operand→Value} {t:TypeId} {m k x:Operand} {c a d:Value} {w w':World} (g:o.op=.insert t m k x) (f:b m=c) (e:b k=a) (i:b x=d) (h:(Instr.mapUpdate t c a d).run P w=.ok () w'):(execOp b o).run P w=.ok .skip w':=by
 simp only[execOp,g,f,e,i,Sem.run_bind,h,Result.andThen_ok,Sem.run_pure]
structure zd5 (w wr:World) (b1 b2:Nat) (l:List StE) (x:zd) (c:Nat) (MI MW:List (zd×Int)) (I W:List zd):Prop where
 mi:JN wr b1 MI
 mw:JN wr b2 MW
 ci:∀y d,(y,d)∈MI↔d=1∧y∈I
 cw:∀y d,(y,d)∈MW↔d=1∧y∈W
 spl:∀y,y∈qj l x↔y∈I∨y∈Ya (l.take c).reverse W
 li:MI.length+c≤l.length
 lw:MW.length+8*c≤1+8*l.length
 fr:Fr No w wr
theorem zfn {l:List StE} {m:Nat} {e:StE} (h:l[m]? =some e):(l.take (m+1)).reverse=e::(l.take m).reverse:=by
 rw[take_add_one,h]
 simp
theorem zd5.skip {w wr wr':World} {c d:Nat} {l:List StE} {x:zd} {m:Nat} {a b:List (zd×Int)} {I W:List zd} {e:StE} (h:zd5 w wr c d l x (m+1) a b I W) (g:l[m]? =some e) (i:e.id∉W) (f:Fr No wr wr'):zd5 w wr' c d l x m a b I W:=by
 refine⟨h.mi.keep f id,h.mw.keep f id,h.ci,h.cw,λy=>?_,by have:=h.li;omega,by have:=h.lw;omega,h.fr.trans0 f⟩
 rw[h.spl,zfn g,show Ya (e::(l.take m).reverse) W=if e.id∈W then e.id::Ya (l.take m).reverse ((zX e.tx).map (·.tx)++W) else Ya (l.take m).reverse W by rw[Ya],if_neg i]
theorem zd5.step {w wr wr':World} {g i:Nat} {l:List StE} {x:zd} {m:Nat} {j k b c:List (zd×Int)} {I W:List zd} {e:StE} (h:zd5 w wr g i l x (m+1) j k I W) (s:l[m]? =some e) (t:e.id∈W) (f:Fr No w wr') (n:JN wr' g b) (o:JN wr' i c) (q:∀y d,(y,d)∈b↔d=1∧y∈e.id::I) (r:∀y d,(y,d)∈c↔d=1∧y∈(zX e.tx).map (·.tx)++W) (u:b.length≤j.length+1) (v:c.length≤k.length+8):zd5 w wr' g i l x m b c (e.id::I) ((zX e.tx).map (·.tx)++W):=by
 refine⟨n,o,q,r,λy=>?_,by have:=h.li;omega,by have:=h.lw;omega,f⟩
 rw[h.spl,zfn s]
 conv=>lhs;rw[Ya]
 rw[if_pos t]
 simp only[mem_cons]
 constructor
 ·rintro(a|a|a)
  ·exact .inl (.inr a)
  ·exact .inl (.inl a)
  ·exact .inr a
 ·rintro((a|a)|a)
  ·exact .inr (.inl a)
  ·exact .inl a
  ·exact .inr (.inr a)
theorem zd1 {M M':List (zd×Int)} {x:zd} {V V':List zd} (f:Upd M x 1 M') (g:∀y d,(y,d)∈M↔d=1∧y∈V) (b:∀y,y∈V'↔y=x∨y∈V):∀y d,(y,d)∈M'↔d=1∧y∈V':=λy d=>by
 rw[f,g,b]
 constructor
 ·rintro(⟨rfl,rfl⟩|⟨_,a,c⟩)
  ·exact⟨rfl,.inl rfl⟩
  ·exact⟨a,.inr c⟩
 ·rintro⟨rfl,a⟩
  by_cases e:y=x
  ·exact .inl ⟨e,rfl⟩
  ·exact .inr ⟨e,rfl,a.resolve_left e⟩
section
variable {w0 w w':World} {p ma ms:Nat} {R:Nat→Value} {X:Nat→Prop} {C:Nat→zd→List Value} {Q:StQ}
theorem zkB (h:yM w0 w p ma ms R X C Q) {n:Nat} (hn:n<65) {x:zd} (Y:zW x):
  Calls prog 43 #[.pointer (some ⟨p,0,none⟩),.agg (skC (n,x)).toArray] w λe' w'=>∃b M,e'=.returned (.map (some b))∧JN w' b M∧(∀k c,(k,c)∈M↔c=1∧k∈qj (Q n) x)∧w.heap.size≤b∧Fr No w w':=by
 have zp:=vG
 have zh:=yP
 have m1:=zau
 have HH:=J h
 have HV:=J (h.val n)
 have HN:=J hn
 have bz:=J Y
 have XL:=J (zu Y)
 have bC:(n:Int)<65:=by omega
 have i0:(0:Int)≤(n:Int):=by omega
 obtain⟨ra,rc,hR⟩:=h.row_form hn
 have T:=@J (w.ownsRow w0.heap.size 41 32 (.slice ra (Q n).length rc) (yv (Q n)).length ((yv (Q n)).flatMap zf)) (by rw[←hR];exact h.row n hn)
 have a7:=@J (w.cell? ⟨p,1+n,none⟩=some (.slice ra (Q n).length rc)) (by rw[←hR,add_comm];exact h.cells.2.2 n hn)
 have S:=J (h.idok n)
 have QL:=J (h.val n).len
 have ql:=(h.val n).len
 have bw:=J (jG (Q n))
 generalize aQ:w.heap.size=l at*
 have bs:=J (by have:=zay w n x;rw[aQ] at this;exact this)
 have F1:=J ((frN w).alloc (.cells (skC (n,x)).toArray 110))
 have af:=@J ((w.alloc (.cells (skC (n,x)).toArray 110)).heap.size=l+1) (by simp[aQ])
 clear h hn Y hR
 generalize bJ:w.alloc (.cells (skC (n,x)).toArray 110)=wa at*
 have bh:=@J (JN (wa.alloc (.map #[] 0)) (l+1) []) (by have:=yE.made (P:=prog) (kt:=41) (kV:=y9) (vV:=zaT) wa;rw[af.o] at this;exact this)
 have aH:=@J ((wa.alloc (.map #[] 0)).heap.size=l+2) (by simp[af.o])
 have F2:=J (F1.o.alloc (.map #[] 0))
 have bf:=@J (Fr No wa (wa.alloc (.map #[] 0))) ((frN wa).alloc (.map #[] 0))
 generalize bK:wa.alloc (.map #[] 0)=wb at*
 have bj:=@J (JN (wb.alloc (.map #[] 0)) (l+2) []) (by have:=yE.made (P:=prog) (kt:=41) (kV:=y9) (vV:=zaT) wb;rw[aH.o] at this;exact this)
 have F:=J (F2.o.alloc (.map #[] 0))
 have al:=@J (Fr No wb (wb.alloc (.map #[] 0))) ((frN wb).alloc (.map #[] 0))
 generalize bL:wb.alloc (.map #[] 0)=wc at*
 have RK:=J (za (za bs.o bf.o id) al.o id)
 have RX:=J (Qr RK.o).2
 have ao:=J (bh.o.keep al.o id)
 obtain⟨wd,az,s,E,f,r,o⟩:=bj.o.upd xF.keyed jb (λ_ _=>yW) (yn bz.o) (show([]:List (zd×Int)).length<maxLen by decide) 1
 have ay:=J s
 have FU:=J r.fr
 have bl:=J E
 have a8:=J (zd1 (V:=[]) (V':=[x]) f (by simp) (by simp))
 have bp:=@J (az.length≤1) (o)
 have bk:=J (ao.o.keep FU.o (by omega))
 have FD:=@J (Fr No w wd) (F.o.trans FU.o (λi hi e=>by rw[e] at hi;omega))
 have bt:=J (za RK.o FU.o (by omega))
 have aZ:=J (Qr bt.o).1
 clear s E f r o
 unfold y9 zaT at ay
 have bH:=af.o
 have bI:=aH.o
 go_enter Tryz.func43,Tryz.ntmps43
 have⟨K0,K1⟩:=tZ2
 go_wp2_with (((with_reducible refine zt ?_);first|(clear K0;refine zn2 rfl rfl rfl RX.o XL.o ?_)|(clear K1;refine zi rfl (zes rfl rfl rfl rfl ay.o) ?_));go_frame)
 have FE:=J (frN wd).drew
 have a6:=@J (wd.drew.cell? ⟨p,1+n,none⟩=some (.slice ra (Q n).length rc)) ((FD.o.trans0 FE.o).cell a7.o id)
 have aj:=J (FE.o.cell aZ.o id)
 refine wrLx [ff,ff,ff,ff,ff,ff,ff,ff] (λw'=>w'.cell? ⟨p,1+n,none⟩=some (.slice ra (Q n).length rc)∧w'.cell? ⟨l,0,none⟩=some (.int .i64 n)) ?_ (λK hK=>?_)
 ·exact⟨a6.o,aj.o⟩
 repeat((first|(refine zl rfl ?_;constructor;constructor;(focus(first|(rintro w' ⟨s1,s2⟩;go_simp;(try with_reducible rfl);done))))|(refine zm rfl ?_));try simp only[Act.put,pA,pB,pC])
 refine zL (hK.out _ _ ?_)
 have aV:=@J (zd5 w wd.drew (l+1) (l+2) (Q n) x (Q n).length [] az [] [x]) (⟨bk.o.keep FE.o id,bl.o.keep FE.o id,by simp,a8.o,λy=>by rw[take_length];unfold qj;simp,by simp,by have:=bp.o;omega,FD.o.trans0 FE.o⟩)
 generalize wd.drew=ws at*
 go_wp2_with fail
 go_loopw [8] (λiv wr=>∃(c:Nat) (MI MW:List (zd×Int)) (I W:List zd),iv=.int .i64 ((c:Int)-1)∧c≤(Q n).length∧zd5 w wr (l+1) (l+2) (Q n) x c MI MW I W∧wr.cell? ⟨l,0,none⟩=some (.int .i64 n)) (λiv _=>(intOf iv+1).toNat)
 case atStart=>exact⟨(Q n).length,_,_,_,_,by go_num,le_refl _,aV.o,aj.o⟩
 case round=>
  obtain⟨c,MI,MW,I,W,rfl,hc,ag,aI⟩:=hrel
  have u:=J ag
  have CK:=J aI
  have FW:=J ag.fr
  clear ag aI
  cases c with
  |zero=>
   have DN:=@J (∀y,y∈qj (Q n) x↔y∈I) (λy=>by rw[u.o.spl];simp[Ya])
   go_wp2_with fail
   go_ret
   exact⟨l+1,MI,rfl,u.o.mi,λk d=>by rw[u.o.ci,DN.o],by omega,FW.o⟩
  |succ m=>
   rw[show(((m+1:Nat):Int)-1)=(m:Int) by omega]
   have i1:(0:Int)≤(m:Int):=by omega
   have i2:(m:Int)<((Q n).length:Int):=by omega
   obtain⟨e,Y⟩:∃e,(Q n)[m]? =some e:=⟨_,getElem?_eq_getElem (by omega)⟩
   have L:=mem_of_getElem? Y
   have HX:=J Y
   have EM:=J L
   have v:=J (S.o e.id (mem_map.2 ⟨e,L,rfl⟩))
   have EL:=J (zu v.o)
   have aU:(yv (Q n))[m]? =some e.id:=by unfold yv;rw[getElem?_map,Y];rfl
   obtain⟨g,off,bG,aT,aR,-⟩:=(y5.own (zb T.o FW.o (λ_ _=>id)) S.o).at_ aU
   rw[bw.o] at aT
   cases aT
   have R1:=J aR
   have LW:=J (za7 u.o.mw u.o.cw v.o)
   have ab:=@J (e.tx.ins.length≤8) (HV.o.ins8 e L)
   have bD:e.tx.ins.length≤1000:=by have:=ab.o;omega
   unfold y9 at LW
   clear Y L aU aR
   by_cases hw:e.id∈W
   ·rw[if_pos hw] at LW
    have HW:=J hw
    clear hw
    obtain⟨G,bo,s,aN,f,r,o⟩:=u.o.mi.upd xF.keyed jb (λ_ _=>yW) (yn v.o) (show MI.length<maxLen by unfold maxLen;have:=u.o.li;have:=QL.o;omega) 1
    have N:=J s
    have B:=J r.fr
    have aq:=J aN
    have aW:=J (zd1 (V':=e.id::I) f u.o.ci (by simp))
    have bm:=@J (bo.length≤MI.length+1) (o)
    have av:=J (u.o.mw.keep B.o (by omega))
    have bb:=@J (Fr No w G) (FW.o.trans B.o (λi hi e=>by rw[e] at hi;omega))
    have R2:=@J (G.rangeAt g (off+m*32) (zf e.id)) (za R1.o B.o (λe=>by have:=(T.o.lt g rfl).2;have e:g=l+1:=e;omega))
    have aX:=J (B.o.cell CK.o (show ¬l=l+1 by omega))
    clear s aN f r o
    unfold y9 zaT at N
    have⟨K0,K1,K2,K3⟩:=tZ4
    go_wp2_with (((with_reducible refine zt ?_);first|(clear K0;refine zn2 rfl rfl rfl R1.o EL.o ?_)|(clear K1;refine zg rfl (zS (t:=120) rfl rfl rfl LW.o) ?_)|(clear K2;refine zn2 rfl rfl rfl R1.o EL.o ?_)|(clear K3;refine zi rfl (yX rfl rfl rfl rfl N.o) ?_));go_frame)
    have an:=J (bb.o.drew)
    have D:=J (HH.o.fr0 an.o)
    have aF:=J (za R2.o (frN G).drew id)
    have A:=J ((frN G).drew.cell aX.o id)
    have au:=J (aq.o.keep (frN G).drew id)
    have ax:=J (av.o.keep (frN G).drew id)
    have bA:=@J (l+3≤G.drew.heap.size) (by have:=B.o.size;have h2:l+2<wr.heap.size:=u.o.mw.lt;show l+3≤G.heap.size;omega)
    obtain⟨M,hM,hm⟩:=D.o.am
    obtain⟨ia,ic,oa,oc,ah⟩:=(D.o.data n HN.o e EM.o).now.form
    have U:Yh C Q n e.id=[.int .u32 e.tx.ver,.slice ia e.tx.ins.length ic,.slice oa e.tx.outs.length oc]:=by
     unfold Yh
     rw[if_pos (show qW Q n e.id=true from by unfold qW;simp only[decide_eq_true_eq];exact⟨i0,bC,by rw[Int.toNat_natCast];exact mem_map.2 ⟨e,EM.o,rfl⟩⟩),Int.toNat_natCast,ah]
    have LK:=@J (∀w',vr w' ma M→(Instr.lookup 113 (.map (some ma)) (.agg (skC (n,e.id)).toArray) false).run prog w'=.ok (.agg #[.int .u32 e.tx.ver,.slice ia e.tx.ins.length ic,.slice oa e.tx.outs.length oc]) w') (λw' h'=>by
     have:=ZV (w:=w') (zah HN.o) v.o h' hm false
     rw[U] at this
     simpa using this)
    have HM:=J hM
    have TQ:=@J (TxQ G.drew e.tx [.int .u32 e.tx.ver,.slice ia e.tx.ins.length ic,.slice oa e.tx.outs.length oc]) (by rw[←ah];exact(D.o.data n HN.o e EM.o).now)
    have bu:=J (JL (k:=((n:Int),e.id)) v.o)
    clear hM hm ah U
    refine wrLx [ff,ff,ff,ff,ff,ff,ff,ff,ff,ff,ff,ff,tt,ff,ff] (λw'=>w'.cell? ⟨p,0,none⟩=some (.map (some ma))∧w'.cell? ⟨l,0,none⟩=some (.int .i64 n)∧w'.rangeAt g (off+m*32) (zf e.id)∧vr w' ma M) ?_ (λK hK=>?_)
    ·exact⟨D.o.cells.1,A.o,aF.o,HM.o⟩
    generalize G.drew=wz at*
    repeat((first|(refine zl rfl ?_;constructor;constructor;(focus(first|exact zn6 rfl (λw h=>h.2.2.1) EL.o|exact λw' _=>yR (t:=110) rfl rfl vX (Jd _ v.o) (vW _ _) bu.o|exact λw' h=>zS (t:=113) rfl rfl rfl (LK.o w' h.2.2.2)|(rintro w' ⟨s1,s2,s3,s4⟩;go_simp;(try with_reducible rfl);done))))|(refine zm rfl ?_));try simp only[Act.put,pA,pB,pC])
    (refine zJ rfl (λK' hK'=>?_))
    go_simp
    refine(vP wz TQ.o bD).mono ?_
    rintro e' w3 ⟨pv,rfl,ai,f3⟩
    obtain⟨pa,pc,bB⟩:=ai.slice.arg.form
    subst bB
    have F:=J f3
    have PO:=J ai
    clear f3 ai
    refine nXt hK' ?_ λhS=>?_
    ·exact⟨(D.o.fr0 F.o).cells.1,F.o.cell A.o id,za aF.o F.o id,HM.o.keep F.o id⟩
    try simp only[Act.put,pA,pB,pC]
    repeat((first|(refine zl rfl ?_;constructor;constructor;(focus(first|(rintro w' ⟨s1,s2,s3,s4⟩;go_simp;(try with_reducible rfl);done))))|(refine zm rfl ?_));try simp only[Act.put,pA,pB,pC])
    refine zL (hK.out _ _ ?_)
    have aD:=@J (∀q∈zX e.tx,q.ok) (λq hq=>by obtain⟨y,hy,rfl⟩:=mem_map.1 hq;exact TQ.o.oks.1 y hy)
    have ae:=J (vC e.tx)
    have bq:=@J (∀j,(Value.slice pa e.tx.ins.length pc).ownBlock=some j→l+3≤j) (λj hj=>by have:=(PO.o.lt j hj).1;have:=bA.o;omega)
    have ar:=J (au.o.keep F.o id)
    have aw:=J (ax.o.keep F.o id)
    have aY:=J (F.o.cell A.o id)
    have bc:=J (an.o.trans0 F.o)
    go_wp2_with fail
    go_loopw [56] (λiv Z=>∃(j:Nat) (z:List (zd×Int)),iv=.int .i64 j∧j≤e.tx.ins.length∧JN Z (l+2) z∧(∀y d,(y,d)∈z↔d=1∧y∈((zX e.tx).take j).map (·.tx)++W)∧z.length≤MW.length+j∧Fr (λb=>b=l+2) w3 Z) (λiv _=>e.tx.ins.length-(intOf iv).toNat)
    case atStart=>exact⟨0,MW,rfl,zero_le _,aw.o,by simpa using u.o.cw,le_refl _,Fr.refl _ _⟩
    case round=>
     obtain⟨j,z,rfl,hj,E,aJ,aM,aK⟩:=hrel
     rename World=>Z
     have aC:=J E
     have ak:=J aJ
     have ad:=J aM
     have FI:=J aK
     clear E aJ aM aK
     by_cases hjt:j<e.tx.ins.length
     ·have i3:(j:Int)<(e.tx.ins.length:Int):=by omega
      obtain⟨q,hq⟩:∃q,(zX e.tx)[j]? =some q:=⟨_,getElem?_eq_getElem (by rw[ae.o];exact hjt)⟩
      have H:=J (aD.o q (mem_of_getElem? hq))
      have br:=J (zb PO.o FI.o (λj hj e=>by have:=bq.o j hj;omega))
      have aP:xG Z (.slice pa e.tx.ins.length pc) (zX e.tx):=⟨aD.o,by rw[ae.o];exact br.o.slice.arg⟩
      obtain⟨b2,bF,bE,e2,aS,-⟩:=aP.at_ hq
      injection e2 with e3 e4 e5
      subst e3
      have R3:=J aS
      have PL:=J (zY H.o)
      have aE:=J (zu H.o.1)
      have RQ:=J (zy Z (zn q) 95)
      have FQ:=J ((frN Z).alloc (.cells (zn q).toArray 95))
      have aG:=J (zaP RQ.o H.o).1
      obtain⟨w5,aA,s,aO,f,r,o⟩:=(aC.o.keep FQ.o id).upd xF.keyed jb (λ_ _=>yW) (yn H.o.1) (show z.length<maxLen by unfold maxLen;have:=ad.o;have:=u.o.lw;have:=QL.o;have:=ab.o;omega) 1
      have O:=J s
      have bg:=@J (Fr (λb=>b=l+2) w3 w5) ((FI.o.trans0 FQ.o).trans r.fr (λ_ _ e=>e))
      have aB:=J aO
      have ba:=J (zd1 (V':=((zX e.tx).take (j+1)).map (·.tx)++W) f ak.o (λy=>by
       rw[take_add_one,hq]
       simp only[Option.toList_some,List.map_append,List.map_cons,List.map_nil,List.mem_append,List.mem_singleton]
       constructor
       ·rintro((a|a)|a)
        ·exact .inr (.inl a)
        ·exact .inl a
        ·exact .inr (.inr a)
       ·rintro(a|a|a)
        ·exact .inl (.inr a)
        ·exact .inl (.inl a)
        ·exact .inr a))
      have bn:=@J (aA.length≤z.length+1) (o)
      clear s aO f r o aS hq e4 e5 aP
      unfold y9 zaT at O
      unfold zf at aG aE
      have⟨K0,K1,K2,K3⟩:=tZ4
      go_wp2_with ((first|((with_reducible refine zt ?_);first|(clear K0;refine zn3 rfl rfl rfl R3.o PL.o ?_)|(clear K2;refine zn2 rfl rfl rfl aG.o aE.o ?_)|(clear K3;refine zi rfl (yX rfl rfl rfl rfl O.o) ?_))|((with_reducible refine zx ?_);clear K1;refine zob (w:=Z) (cs:=zn q) rfl rfl rfl rfl PL.o yJ ?_));go_frame)
      go_roundw
      case rel=>exact⟨j+1,aA,by go_num,by omega,aB.o,ba.o,by have:=bn.o;have:=ad.o;omega,bg.o⟩
      case measure=>simp[intOf];omega
     ·have aL:j=e.tx.ins.length:=by omega
      have i3:¬(j:Int)<(e.tx.ins.length:Int):=by omega
      have bx:=@J ((zX e.tx).take j=zX e.tx) (by rw[aL,←ae.o,take_length])
      have bd:=@J (Fr No w Z) (bc.o.trans FI.o (λi hi e=>by omega))
      have aa:=J (u.o.step HX.o HW.o bd.o (ar.o.keep FI.o (by omega)) aC.o aW.o (by have:=ak.o;rw[bx.o] at this;exact this) bm.o (by have:=ad.o;have:=ab.o;omega))
      have a1:=J (FI.o.cell aY.o (show ¬l=l+2 by omega))
      clear aL
      go_wp2_with fail
      go_roundw
      case rel=>exact⟨m,_,_,_,_,by go_num,by omega,aa.o,a1.o⟩
      case measure=>simp[intOf]
   ·rw[if_neg hw] at LW
    have aa:=J (u.o.skip HX.o hw (frN wr))
    clear hw
    have⟨K0,K1⟩:=tZ2
    go_wp2_with (((with_reducible refine zt ?_);first|(clear K0;refine zn2 rfl rfl rfl R1.o EL.o ?_)|(clear K1;refine zg rfl (zS (t:=120) rfl rfl rfl LW.o) ?_));go_frame)
    go_roundw
    case rel=>exact⟨m,_,_,_,_,by go_num,by omega,aa.o,CK.o⟩
    case measure=>simp[intOf]
end
theorem zks (Q:StQ) (n:Nat) (a b:List StE):jh (jh Q n a) n b=jh Q n b:=by
 funext j
 unfold jh
 by_cases h:j=n<;>simp[h]
def zbw (C:Nat→zd→List Value) (n:Nat) (l:List StE):List Value:=l.flatMap λe=>C n e.id
theorem zf1 (C:Nat→zd→List Value) (n:Nat) (l:List StE) (e:StE):zbw C n (l++[e])=zbw C n l++C n e.id:=by simp[zbw]
def ziN (w:World) (e:Ending) (w':World):Prop:=e=.returned (.tuple #[.slice none 0 0,.int .i64 9])∧Fr No w w'
section
variable {w0 w w':World} {p ma ms:Nat} {R:Nat→Value} {X:Nat→Prop} {C:Nat→zd→List Value} {Q:StQ}
def zea (w0 w:World) (p ma ms:Nat) (R:Nat→Value) (X:Nat→Prop) (C:Nat→zd→List Value) (Q:StQ) (n:Nat) (K:List zd) (bi:Nat) (MI:List (zd×Int)) (k:Nat) (tv:Value) (wr:World):Prop:=
 ∃v',yM w0 wr p ma ms (qA R n v') X C (jh Q n (JW (Q n) K k))∧(∀j,v'.ownBlock=some j→(R n).ownBlock=some j)∧wr.ownsRow w.heap.size 34 3 tv (jB (Q n) K k).length (zbw C n (jB (Q n) K k))∧Fr (Vd p ma ms (R n)) w wr∧JN wr bi MI
theorem Qd (R:Nat→Value) (n:Nat) (v:Value):qA R n v n=v:=if_pos rfl
theorem zkt (R:Nat→Value) (n:Nat) (a b:Value):qA (qA R n a) n b=qA R n b:=by
 funext j
 unfold qA
 by_cases h:j=n<;>simp[h]
theorem zhh (R:Nat→Value) (n:Nat):qA R n (R n)=R:=by
 funext j
 unfold qA
 by_cases h:j=n<;>simp[h]
theorem zea.fr0 {n:Nat} {K:List zd} {i k:Nat} {g:List (zd×Int)} {tv:Value} {wr wr':World} (h:zea w0 w p ma ms R X C Q n K i g k tv wr) (f:Fr No wr wr'):zea w0 w p ma ms R X C Q n K i g k tv wr':=by
 obtain⟨j,a,b,c,d,e⟩:=h
 exact⟨j,a.fr0 f,b,zb c f (λ_ _=>id),d.trans0 f,e.keep f id⟩
theorem YQ {w:World} {t:TxD} {cs:List Value} (h:TxQ w t cs):cs.length=3∧∀v∈cs,v.oneCell'=true:=by
 obtain⟨a,b,c,d,rfl⟩:=h.form
 exact⟨rfl,qX rfl rfl rfl⟩
theorem zlE:∀v∈zfr,v.oneCell'=true:=qX rfl rfl rfl
theorem zlC (h:yM w0 w p ma ms R X C Q) {i:Int} (hi:YZ i) {x:zd} (f:zW x) (b:qW Q i x=false):
  Calls prog 14 #[.pointer (some ⟨p,0,none⟩),.int .i64 i,.agg (zf x).toArray] w (ziN w):=by
 have s:=J f
 have F:=J (zu f)
 have B:=J h
 have P:=jq
 have r:=J (JL (k:=(i,x)) f)
 have j:=J ((frN w).alloc (.cells (zf x).toArray 41))
 have E:=J (zy w (zf x) 41)
 obtain⟨cs,a⟩:∃cs,Yh C Q i x=cs:=⟨_,rfl⟩
 have d:=@J (cs=zfr) (by rw[←a];unfold Yh;rw[if_neg (by simp[b])])
 have e:=@J (cs.length=3) (by rw[d.o];rfl)
 have g:=@J (∀v∈cs,v.oneCell'=true) (by rw[d.o];exact zlE)
 obtain⟨M,y,z⟩:=(h.fr0 (j.o.drew)).am
 have D:=@J (∀w',vr w' ma M→(Instr.lookup 113 (.map (some ma)) (.agg (skC (i,x)).toArray) true).run prog w'=.ok (.tuple #[.agg cs.toArray,.bool false]) w') (λw' G=>by
  have:=ZV (w:=w') hi f G z true
  rw[a,b] at this
  simpa using this)
 have o:=J y
 clear h f b y z a
 go_enter Tryz.func14,Tryz.ntmps14
 go_wp2_with fail
 generalize H:w.heap.size=I at*
 generalize u:w.alloc (.cells (zf x).toArray 41)=A at*
 clear u
 have m:=J (B.o.fr0 j.o.drew)
 have q:=J (za E.o (frN A).drew id)
 have l:=J j.o.drew
 have n:=J o.o
 refine wrLx [ff,ff,ff,ff,ff,ff,ff,ff,ff,ff,ff,tt,tt,ff] (λw'=>w'.cell? ⟨p,0,none⟩=some (.map (some ma))∧w'.rangeAt I 0 (zf x)∧vr w' ma M) ?_ (λK hK=>?_)
 ·exact⟨m.o.cells.1,q.o,n.o⟩
 generalize A.drew=c at*
 repeat((first|(refine zl rfl ?_;constructor;constructor;(focus(first|exact zn6 rfl (λw h=>h.2.1) F.o|exact λw' _=>yR (t:=110) rfl rfl vX (Jd _ s.o) (vW _ _) r.o|exact λw' h=>zS (t:=113) rfl rfl rfl (D.o w' h.2.2)|(rintro w' ⟨L,N,O⟩;go_simp;(try with_reducible rfl);done))))|(refine zm rfl ?_));try simp only[Act.put,pA,pB,pC])
 (refine zJ rfl (λK' hK'=>?_))
 refine yj (yx rfl (jq _)) ?_
 refine nXt hK' ?_ λhS=>?_
 ·exact⟨((frN c).alloc _).cell m.o.cells.1 id,za q.o ((frN c).alloc _) id,n.o.keep ((frN c).alloc _) id⟩
 try simp only[Act.put,pA,pB,pC]
 (refine zJ rfl (λK' hK'=>?_))
 refine yN (zj (w:=c) (ty:=34) (cs:=cs) rfl rfl rfl (by rw[e.o];rfl) (by rw[e.o];exact y3) g.o) ?_
 refine nXt hK' ?_ λhS=>?_
 ·exact⟨((frN c).alloc _).cell m.o.cells.1 id,za q.o ((frN c).alloc _) id,n.o.keep ((frN c).alloc _) id⟩
 try simp only[Act.put]
 repeat((first|(refine zl rfl ?_;constructor;constructor;(focus(first|(rintro w' -;go_simp;(try with_reducible rfl);done))))|(refine zm rfl ?_));try simp only[Act.put,pA,pB,pC])
 refine zL (hK.out _ _ ?_)
 go_wp2_with fail
 go_ret2
 exact⟨rfl,l.o.alloc _⟩
theorem zm4 (h:yM w0 w p ma ms R X C Q) {n:Nat} (O:n<65) {x:zd} (E:x∈yv (Q n)):
  Calls prog 14 #[.pointer (some ⟨p,0,none⟩),.int .i64 n,.agg (zf x).toArray] w λe' w'=>∃tv,e'=.returned (.tuple #[tv,.int .i64 0])∧Fr (Vd p ma ms (R n)) w w'∧w'.ownsRow w.heap.size 34 3 tv (jI (Q n) x).length (zbw C n (jI (Q n) x))∧∃d,(∀j,d.ownBlock=some j→(R n).ownBlock=some j)∧yM w0 w' p ma ms (qA R n d) X C (jh Q n (Qo (Q n) x)):=by
 have zh:=yP
 have zT:=jq
 have B:=h.idok n x E
 have af:=J B
 have XL:=J (zu B)
 have HH:=J h
 have W:=J O
 have aK:(n:Int)<65:=by omega
 have i0:(0:Int)≤(n:Int):=by omega
 have HV:=J (h.val n)
 have ad:=J (jG (Q n))
 have QL:=J (h.val n).len
 have ql:=(h.val n).len
 have q:=J (h.idok n)
 have ax:=J (JL (k:=((n:Int),x)) B)
 have F1:=J ((frN w).alloc (.cells (zf x).toArray 41))
 have RK:=J (zy w (zf x) 41)
 have l:qW Q n x=true:=by unfold qW;simp only[decide_eq_true_eq];exact⟨i0,aK,by rw[Int.toNat_natCast];exact E⟩
 obtain⟨cs,ai⟩:∃cs,Yh C Q n x=cs:=⟨_,rfl⟩
 have ag:cs.length=3∧∀v∈cs,v.oneCell'=true:=by
  rw[←ai]
  unfold Yh
  rw[if_pos l,Int.toNat_natCast]
  obtain⟨e,he,rfl⟩:=mem_map.1 E
  exact YQ (h.data n O e he).now
 have al:=J ag.1
 have aP:=J ag.2
 obtain⟨M,hM,hm⟩:=(h.fr0 (F1.o.drew)).am
 have LK:=@J (∀w',vr w' ma M→(Instr.lookup 113 (.map (some ma)) (.agg (skC (n,x)).toArray) true).run prog w'=.ok (.tuple #[.agg cs.toArray,.bool true]) w') (λw' h'=>by
  have:=ZV (w:=w') (zah O) B h' hm true
  rw[ai,l] at this
  simpa using this)
 have aY:=J hM
 obtain⟨ra,rc,hR⟩:=h.row_form O
 have aQ:=@J (w.cell? ⟨p,1+n,none⟩=some (.slice ra (Q n).length rc)) (by rw[←hR,add_comm];exact h.cells.2.2 n O)
 have av:=@J (w.ownsRow w0.heap.size 41 32 (.slice ra (Q n).length rc) (yv (Q n)).length ((yv (Q n)).flatMap zf)) (by rw[←hR];exact h.row n O)
 have aM:=@J (∀j,Vd p ma ms (R n) j→j<w.heap.size) (λj a=>h.hi j (Jc O j a))
 clear h O B hM hm ai l E ag hR
 go_enter Tryz.func14,Tryz.ntmps14
 go_wp2_with fail
 generalize bh:w.heap.size=q0 at*
 generalize aI:w.alloc (.cells (zf x).toArray 41)=wa at*
 have ZA:=@J (wa.heap.size=q0+1) (by rw[←aI,←bh];simp)
 clear aI
 have HD:=J (HH.o.fr0 F1.o.drew)
 have RD:=J (za RK.o (frN wa).drew id)
 have aT:=J F1.o.drew
 have HM:=J aY.o
 have ZD:=@J (wa.drew.heap.size=q0+1) (ZA.o)
 refine wrLx [ff,ff,ff,ff,ff,ff,ff,ff,ff,ff,ff,tt,tt,ff] (λw'=>w'.cell? ⟨p,0,none⟩=some (.map (some ma))∧w'.rangeAt q0 0 (zf x)∧vr w' ma M) ?_ (λK hK=>?_)
 ·exact⟨HD.o.cells.1,RD.o,HM.o⟩
 generalize wa.drew=D at*
 repeat((first|(refine zl rfl ?_;constructor;constructor;(focus(first|exact zn6 rfl (λw h=>h.2.1) XL.o|exact λw' _=>yR (t:=110) rfl rfl vX (Jd _ af.o) (vW _ _) ax.o|exact λw' h=>zS (t:=113) rfl rfl rfl (LK.o w' h.2.2)|(rintro w' ⟨s1,s2,s3⟩;go_simp;(try with_reducible rfl);done))))|(refine zm rfl ?_));try simp only[Act.put,pA,pB,pC])
 (refine zJ rfl (λK' hK'=>?_))
 refine yj (yx rfl (jq _)) ?_
 refine nXt hK' ?_ λhS=>?_
 ·exact⟨((frN D).alloc _).cell HD.o.cells.1 id,za RD.o ((frN D).alloc _) id,HM.o.keep ((frN D).alloc _) id⟩
 try simp only[Act.put,pA,pB,pC]
 (refine zJ rfl (λK' hK'=>?_))
 refine yN (zj (w:=D) (ty:=34) (cs:=cs) rfl rfl rfl (by rw[al.o];rfl) (by rw[al.o];exact y3) aP.o) ?_
 refine nXt hK' ?_ λhS=>?_
 ·exact⟨((frN D).alloc _).cell HD.o.cells.1 id,za RD.o ((frN D).alloc _) id,HM.o.keep ((frN D).alloc _) id⟩
 try simp only[Act.put]
 repeat((first|(refine zl rfl ?_;constructor;constructor;(focus(first|(rintro w' -;go_simp;(try with_reducible rfl);done))))|(refine zm rfl ?_));try simp only[Act.put,pA,pB,pC])
 refine zL (hK.out _ _ ?_)
 have FE:=J (aT.o.alloc (.cells cs.toArray 34))
 have RE:=J (za RD.o ((frN D).alloc (.cells cs.toArray 34)) id)
 have ZE:=@J ((D.alloc (.cells cs.toArray 34)).heap.size=q0+2) (by simp[ZD.o])
 generalize D.alloc (.cells cs.toArray 34)=we at*
 have HE:=J (HH.o.fr0 FE.o)
 have aL:=J (zkB HE.o W.o af.o)
 have aN:=J (λw' (f:Fr No w w')=>YC w' (y5.own (zb av.o f (λ_ _=>id)) q.o) (by rw[ad.o];have:=QL.o;omega))
 have⟨Y,Z,K2,K3⟩:=tZ4
 go_wp2_with ((first|((with_reducible refine zt ?_);first|(clear Y;refine zn2 rfl rfl rfl RE.o XL.o ?_)|(clear Z;refine zg rfl (yR (t:=110) rfl rfl vX (Jd _ af.o) (vW _ _) ax.o) ?_))|(clear K2;go_at_call 43;refine aL.o.mono ?_;rintro e' w3 ⟨bi,MI,rfl,u,az,ay,f3⟩;have aq:=J u;have aX:=J az;have ao:=J ay;have F3:=J (FE.o.trans0 f3);have C3:=J (F3.o.cell aQ.o id);clear u az ay f3;have c3:=C3.o)|(clear K3;go_at_call 42;refine(aN.o w3 F3.o).mono ?_;rintro e' m ⟨cv,rfl,ak,f4⟩;obtain⟨ca,cc,aA⟩:=ak.slice.arg.form;rw[ad.o] at aA;subst aA;have O4:=J ak;have F4:=J (F3.o.trans0 f4);have G:=J (aq.o.keep f4 id);have Z4:=J f4.size;clear ak f4));go_frame)
 have H4:=J (HH.o.fr0 F4.o)
 have ZQ:=@J (q0≤w3.heap.size) (by have:=F3.o.size;omega)
 have aO:=@J (∀j,(Value.slice ca (Q n).length cc).ownBlock=some j→¬Vd p ma ms (R n) j) (λj a e=>by have:=(O4.o.lt j a).1;have:=aM.o j e;have:=ZQ.o;omega)
 have ae:=@J (q0+2≤w3.heap.size) (by have:=F3.o.size;have:=ZE.o;have:=aq.o.lt;have:=ao.o;omega)
 obtain⟨A,s⟩:∃A:Nat→Prop,A=λj=>X j∨m.heap.size≤j:=⟨_,rfl⟩
 have bd:=@J (∀j,m.heap.size≤j→A j) (λj a=>by rw[s];exact .inr a)
 have bf:=@J (∀j,X j→A j) (λj a=>by rw[s];exact .inl a)
 have aW:=@J (yM w0 m p ma ms R A C Q) (H4.o.frV (frN m) (λ_ _=>id) (λ_ h=>h.elim) (λ_ h=>h.elim) (λj a e=>by rw[s] at e;exact e.resolve_right (by omega)) (λj a=>by rw[s];exact .inl (H4.o.sub j a)))
 clear s
 have r:=@J (∀d,(∀j,d.ownBlock=some j→(R n).ownBlock=some j)→∀j,stV p ma ms (qA R n d) j→j<q0∧X j) (λd hv j a=>by
  have z:stV p ma ms R j:=by
   rcases a with e|e|e|⟨i,hi,e⟩
   ·exact .inl e
   ·exact .inr (.inl e)
   ·exact .inr (.inr (.inl e))
   ·unfold qA at e
    by_cases c:i=n
    ·rw[if_pos c] at e;exact .inr (.inr (.inr ⟨n,W.o,hv j e⟩))
    ·rw[if_neg c] at e;exact .inr (.inr (.inr ⟨i,hi,e⟩))
  exact⟨by have:=HH.o.hi j z;omega,HH.o.sub j z⟩)
 have ba:=@J (zea w0 m p ma ms R A C Q n (qj (Q n) x) bi MI 0 (.slice none 0 0) m) (⟨R n,by rw[zhh,zgr,zd0];exact aW.o,λj h=>h,by rw[zf2];exact World.ownsRow_nil _ _ _ _,Fr.refl _ _,G.o⟩)
 go_loopw [11,42] (λtv iv wr=>∃k:Nat,iv=.int .i64 k∧k≤(Q n).length∧zea w0 m p ma ms R A C Q n (qj (Q n) x) bi MI k tv wr) (λ_ iv _=>(Q n).length-(intOf iv).toNat)
 case atStart=>exact⟨0,rfl,zero_le _,ba.o⟩
 case round=>
  obtain⟨k,rfl,hk,aE⟩:=hrel
  have TK:=J aE
  obtain⟨d,z,aG,y,aC,u⟩:=aE
  obtain⟨ta,tc,bj⟩:=y.slice.arg.form
  subst bj
  have ST:=J z
  have I:=J aG
  have ab:=J y
  have FR:=J aC
  have ar:=J u
  clear z aG y aC u
  by_cases bg:k<(Q n).length
  ·have i1:(k:Int)<((Q n).length:Int):=by omega
   obtain⟨e,B⟩:∃e,(Q n)[k]? =some e:=⟨_,getElem?_eq_getElem bg⟩
   have HX:=J B
   have aB:=mem_of_getElem? B
   have o:=J (q.o e.id (mem_map.2 ⟨e,aB,rfl⟩))
   have F:=J (zu o.o)
   have aJ:(yv (Q n))[k]? =some e.id:=by unfold yv;rw[getElem?_map,B];rfl
   have aS:=@J (wr.ownsRow w3.heap.size 41 32 (.slice ca (Q n).length cc) (yv (Q n)).length ((yv (Q n)).flatMap zf)) (zb O4.o FR.o (λj a e=>aO.o j a e))
   obtain⟨g,off,bo,aH,aD,-⟩:=(y5.own aS.o q.o).at_ aJ
   rw[ad.o] at aH
   cases aH
   have R1:=J aD
   have RN:=J (zy wr (zf e.id) 41)
   have FA:=J ((frN wr).alloc (.cells (zf e.id).toArray 41))
   clear B aB aJ aD
   have LI:=J (za7 (ar.o.keep FA.o id) aX.o o.o)
   unfold y9 at LI
   have bb:=J (TK.o.fr0 FA.o)
   by_cases hw:e.id∈qj (Q n) x
   ·rw[if_pos hw] at LI
    have S:=J (ziy HV.o.nd HX.o hw)
    have T:=@J (e∈jh Q n (JW (Q n) (qj (Q n) x) k) n) (by rw[xO];exact ziz HX.o)
    have H:=J (JL (k:=((n:Int),e.id)) o.o)
    clear hw
    have⟨Y,Z,K2,K3⟩:=tZ4
    go_wp2_with ((first|((with_reducible refine zt ?_);first|(clear Y;refine zn2 rfl rfl rfl R1.o F.o ?_)|(clear K2;refine zn2 rfl rfl rfl RN.o F.o ?_)|(clear K3;refine zg rfl (zS (t:=120) rfl rfl rfl LI.o) ?_))|((with_reducible refine zx ?_);clear Z;refine zoa (w:=wr) (cs:=zf e.id) rfl rfl rfl rfl F.o zM ?_));go_frame)
    generalize bp:wr.heap.size=qx at*
    generalize bl:wr.alloc (.cells (zf e.id).toArray 41)=wn at*
    clear bl
    have FN:=J (FA.o.drew)
    have SN:=J (ST.o.fr0 FN.o)
    have aa:=J (za RN.o (frN wn).drew id)
    have aw:=J (zb ab.o FN.o (λ_ _=>id))
    have U:=J (FR.o.trans0 FN.o)
    have a7:=J (ar.o.keep FN.o id)
    obtain⟨M,hM,hm⟩:=SN.o.am
    have N:=(SN.o.data n W.o e T.o).now
    obtain⟨ia,ic,oa,oc,ah⟩:=N.form
    have L:Yh C (jh Q n (JW (Q n) (qj (Q n) x) k)) n e.id=[.int .u32 e.tx.ver,.slice ia e.tx.ins.length ic,.slice oa e.tx.outs.length oc]:=by
     unfold Yh
     rw[if_pos (show qW _ n e.id=true from by unfold qW;simp only[decide_eq_true_eq];exact⟨i0,aK,by rw[Int.toNat_natCast];exact mem_map.2 ⟨e,T.o,rfl⟩⟩),Int.toNat_natCast,ah]
    have a1:=@J (∀w',vr w' ma M→(Instr.lookup 113 (.map (some ma)) (.agg (skC (n,e.id)).toArray) false).run prog w'=.ok (.agg #[.int .u32 e.tx.ver,.slice ia e.tx.ins.length ic,.slice oa e.tx.outs.length oc]) w') (λw' h'=>by
     have:=ZV (w:=w') (zah W.o) o.o h' hm false
     rw[L] at this
     simpa using this)
    have V:=J hM
    have aV:=@J (zbw C n (jB (Q n) (qj (Q n) x) (k+1))=zbw C n (jB (Q n) (qj (Q n) x) k)++[.int .u32 e.tx.ver,.slice ia e.tx.ins.length ic,.slice oa e.tx.outs.length oc]) (by rw[S.o.2,zf1,ah])
    have aU:=@J ((jB (Q n) (qj (Q n) x) (k+1)).length=(jB (Q n) (qj (Q n) x) k).length+1) (by rw[S.o.2];simp)
    have an:=@J ((jB (Q n) (qj (Q n) x) k).length≤4) (Nat.le_trans zhK (by have:=QL.o;omega))
    clear hM hm ah L N
    refine wrLx [ff,ff,ff,ff,ff,ff,ff,ff,ff,tt,tt,ff] (λw'=>w'.cell? ⟨p,0,none⟩=some (.map (some ma))∧w'.rangeAt qx 0 (zf e.id)∧vr w' ma M) ?_ (λK hK=>?_)
    ·exact⟨SN.o.cells.1,aa.o,V.o⟩
    generalize wn.drew=wm at*
    obtain⟨v8,w8,b1,b2,b3,-,b5⟩:=yQ (P:=prog) wm m.heap.size 23 23 34 3 56 _ zdY zgY rfl (by decide) aw.o [.int .u32 e.tx.ver,.slice ia e.tx.ins.length ic,.slice oa e.tx.outs.length oc] rfl (qX rfl rfl rfl) (by have:=an.o;omega) (by have:=an.o;unfold maxLen;omega) U.o.size
    obtain⟨bm,bn,bk⟩:=b2.slice.arg.form
    subst bk
    have B1:=J b1
    have B2:=J b2
    have B3:=J b3
    have B5:=J b5
    clear b1 b2 b3 b5
    have b:=@J (∀j,(Value.slice ta (jB (Q n) (qj (Q n) x) k).length tc).ownBlock=some j→m.heap.size≤j∧j<qx) (λj a=>by have:=ab.o.lt j a;omega)
    have bc:=@J (w0.heap.size≤m.heap.size) (H4.o.fr.size)
    have S8:=@J (yM w0 w8 p ma ms (qA R n d) A C (jh Q n (JW (Q n) (qj (Q n) x) k))) (SN.o.frV B3.o (λj a e=>by have h1:=(b.o j e).1;have h2:=(r.o d I.o j a).1;have:=ae.o;have:=Z4.o;omega) (λj e=>by have:=(b.o j e).1;have:=bc.o;omega) (λj e=>bd.o j (b.o j e).1) (λ_ _ h=>h) SN.o.sub)
    have ct:=zlY S8.o W.o T.o
    rw[Qd,xO,←S.o.1] at ct
    simp only[zkt,zks] at ct
    have CT:=J ct
    have au:=J (za aa.o B3.o (λe=>by have:=(b.o _ e).2;omega))
    have aZ:=J (V.o.keep B3.o (λe=>by have h1:=(b.o _ e).1;have h2:=(r.o d I.o ma (.inr (.inl rfl))).1;have:=ae.o;have:=Z4.o;omega))
    have a6:=J (a7.o.keep B3.o (λe=>by have h1:=(b.o _ e).1;have:=G.o.lt;omega))
    have aR:=@J (Fr (Vd p ma ms (R n)) m w8) (U.o.trans B3.o (λj a e=>by have:=(b.o j e).1;omega))
    clear ct
    repeat((first|(refine zl rfl ?_;constructor;constructor;(focus(first|exact zn6 rfl (λw h=>h.2.1) F.o|exact λw' _=>yR (t:=110) rfl rfl vX (Jd _ o.o) (vW _ _) H.o|exact λw' h=>zS (t:=113) rfl rfl rfl (a1.o w' h.2.2)|(rintro w' ⟨s1,s2,s3⟩;go_simp;(try with_reducible rfl);done))))|(refine zm rfl ?_));try simp only[Act.put,pA,pB,pC])
    (refine zJ rfl (λK' hK'=>?_))
    refine yj (zU (t:=23) (cs:=[.int .u32 e.tx.ver,.slice ia e.tx.ins.length ic,.slice oa e.tx.outs.length oc]) rfl rfl zdY zeF rfl (by decide) (by decide) rfl) ?_
    have FB:=J ((frN wm).alloc (.cells #[.int .u32 e.tx.ver,.slice ia e.tx.ins.length ic,.slice oa e.tx.outs.length oc] 34))
    refine nXt hK' ?_ λhS=>?_
    ·exact⟨FB.o.cell SN.o.cells.1 id,za aa.o FB.o id,V.o.keep FB.o id⟩
    try simp only[Act.put,pA,pB,pC]
    (refine zJ rfl (λK' hK'=>?_))
    refine yt rfl rfl rfl B1.o ?_
    refine nXt hK' ?_ λhS=>?_
    ·exact⟨S8.o.cells.1,au.o,aZ.o⟩
    try simp only[Act.put,pA,pB,pC]
    repeat((first|(refine zl rfl ?_;constructor;constructor;(focus(first|(rintro w' -;go_simp;(try with_reducible rfl);done))))|(refine zm rfl ?_));try simp only[Act.put,pA,pB,pC])
    refine zL (hK.out _ _ ?_)
    have⟨Y,Z,K2⟩:=tZ3
    go_wp2_with ((first|((with_reducible refine zt ?_);first|(clear Y;refine zn2 rfl rfl rfl au.o F.o ?_)|(clear Z;refine zg rfl (yR (t:=110) rfl rfl vX (Jd _ o.o) (vW _ _) H.o) ?_))|(clear K2;go_at_call 44;refine CT.o.mono ?_;rintro e' w9 ⟨rfl,f9,v9,aF,s9⟩;have F9:=J f9;have V9:=J aF;have S9:=J s9;clear f9 aF s9));go_frame)
    have a8:=@J (zea w0 m p ma ms R A C Q n (qj (Q n) x) bi MI (k+1) (.slice bm ((jB (Q n) (qj (Q n) x) k).length+1) bn) w9) (by
     refine⟨v9,S9.o,λj a=>I.o j (V9.o j a),?_,aR.o.trans F9.o (λj _ e=>?_),a6.o.keep F9.o (λe=>?_)⟩
     ·rw[aU.o,aV.o]
      refine zb B2.o F9.o (λj a e=>?_)
      have h1:m.heap.size≤j:=by
       rcases B5.o j a with h|h
       ·exact(b.o j h).1
       ·have:=U.o.size;omega
      have h2:=(r.o d I.o j (by have:=Jc (p:=p) (ma:=ma) (ms:=ms) (R:=qA R n d) W.o j (by rw[Qd];exact e);exact this)).1
      have:=ae.o
      have:=Z4.o
      omega
     ·rcases e with e|e|e|e
      ·exact .inl e
      ·exact .inr (.inl e)
      ·exact .inr (.inr (.inl e))
      ·exact .inr (.inr (.inr (I.o j e)))
     ·have h2:=(r.o d I.o bi (by have:=Jc (p:=p) (ma:=ma) (ms:=ms) (R:=qA R n d) W.o bi (by rw[Qd];exact e);exact this)).1
      have:=ao.o
      have:=ZE.o
      omega)
    go_roundw
    case rel=>exact⟨k+1,by go_num,by omega,a8.o⟩
    case measure=>simp[intOf];omega
   ·rw[if_neg hw] at LI
    have NX:=@J (zea w0 m p ma ms R A C Q n (qj (Q n) x) bi MI (k+1) (.slice ta (jB (Q n) (qj (Q n) x) k).length tc) (wr.alloc (.cells (zf e.id).toArray 41))) (by
     have:=zgq HX.o hw
     unfold zea
     rw[this.1,this.2]
     exact bb.o)
    clear hw
    have⟨Y,Z,K2,K3⟩:=tZ4
    go_wp2_with ((first|((with_reducible refine zt ?_);first|(clear Y;refine zn2 rfl rfl rfl R1.o F.o ?_)|(clear K2;refine zn2 rfl rfl rfl RN.o F.o ?_)|(clear K3;refine zg rfl (zS (t:=120) rfl rfl rfl LI.o) ?_))|((with_reducible refine zx ?_);clear Z;refine zoa (w:=wr) (cs:=zf e.id) rfl rfl rfl rfl F.o zM ?_));go_frame)
    go_roundw
    case rel=>exact⟨k+1,by go_num,by omega,NX.o⟩
    case measure=>simp[intOf];omega
  ·have aj:k=(Q n).length:=by omega
   have i1:¬(k:Int)<((Q n).length:Int):=by omega
   have GA:=@J (jB (Q n) (qj (Q n) x) k=jI (Q n) x) (by rw[aj,zhJ];rfl)
   have SA:=@J (JW (Q n) (qj (Q n) x) k=Qo (Q n) x) (by rw[aj,zix];rfl)
   clear aj
   go_wp2_with fail
   go_ret2
   refine⟨_,rfl,F4.o.of0.trans FR.o (λ_ _ e=>e),?_,d,I.o,?_⟩
   ·rw[←GA.o]
    exact yZ ab.o (by have:=F4.o.size;omega)
   ·rw[←SA.o]
    exact ST.o.frV (frN _) (λ_ _=>id) (λ_ h=>h.elim) (λ_ h=>h.elim) (λj _ e=>bf.o j e) (λj a=>(r.o d I.o j a).2)
end
section
variable {w0 w w0p w0c:World} {ps ma ms pp mp mq g N pc:Nat} {R:Nat→Value} {X Y VG VC:Nat→Prop} {C:Nat→zd→List Value} {CP:zd→List Value} {Q:StQ} {L:List yb} {S:List zr} {bs:List yB} {I:List zd}
theorem zmF (h:yM w0 w ps ma ms R X C Q) (hp:yp w0p w pp mp mq g VG Y CP L N) (hc:Cn w0c w pc VC S bs I) {n:Nat} (hn:n<65) {x:zd} (D:zW x):
  Calls prog 39 #[.pointer (some ⟨ps,0,none⟩),.pointer (some ⟨pc,0,none⟩),.pointer (some ⟨pp,0,none⟩),.agg (skC (n,x)).toArray] w λe w'=>e=.returned (.int .i64 (jV I L (Q n) x))∧Fr No w w':=by
 have zT:=jq
 have af:(n:Int)<65:=by omega
 have i0:(0:Int)≤(n:Int):=by omega
 have HH:=J h
 have Z:=J (zu D)
 have SL:=J (JL (k:=((n:Int),x)) D)
 have s:=J ((frN w).alloc (.cells (skC (n,x)).toArray 110))
 have RK:=J (zay w n x)
 have q:=J (λw' (f:Fr No w w')=>znD (hp.fr0 f) D)
 have A:=J (λw' (f:Fr No w w')=>zcF (hc.fr0 f) D)
 obtain⟨cs,U⟩:∃cs,Yh C Q n x=cs:=⟨_,rfl⟩
 have T:cs.length=3∧∀v∈cs,v.oneCell'=true:=by
  rw[←U]
  obtain⟨v,ia,il,ic,oa,oc,e,-⟩:=zcv h hn x
  rw[e]
  exact⟨rfl,qX rfl rfl rfl⟩
 have i:=J T.1
 have y:=J T.2
 obtain⟨M,hM,hm⟩:=h.am
 have HM:=J (λw' (f:Fr No w w')=>hM.keep f id)
 have MQ:=@J (qW Q n x=decide (x∈yv (Q n))) (by
  unfold qW
  rw[Int.toNat_natCast]
  by_cases D:x∈yv (Q n)
  ·simp[D,i0,af]
  ·simp[D])
 have B:=@J (∀w',vr w' ma M→(Instr.lookup 113 (.map (some ma)) (.agg (skC (n,x)).toArray) true).run prog w'=.ok (.tuple #[.agg cs.toArray,.bool (decide (x∈yv (Q n)))]) w') (λw' h'=>by
  have:=ZV (w:=w') (zah hn) D h' hm true
  rw[U,MQ.o] at this
  simpa using this)
 obtain⟨ra,rc,hR⟩:=h.row_form hn
 have ad:=@J (w.cell? ⟨ps,1+n,none⟩=some (.slice ra (Q n).length rc)) (by rw[←hR,add_comm];exact h.cells.2.2 n hn)
 clear h hp hc hn D hM hm U T hR
 by_cases hmine:x∈yv (Q n)
 ·have c:=@J (jV I L (Q n) x=10) (by unfold jV;rw[if_pos (.inl hmine)])
  have P:=B
  rw[decide_eq_true hmine] at P
  clear hmine B
  go_enter Tryz.func39,Tryz.ntmps39
  go_wp2_with fail
  generalize V:w.heap.size=F at*
  generalize o:w.alloc (.cells (skC (n,x)).toArray 110)=p at*
  clear o
  have m:=J (HH.o.fr0 s.o.drew)
  have d:=J (za RK.o (frN p).drew id)
  have l:=J s.o.drew
  have b:=J (HM.o p.drew s.o.drew)
  refine wrLx [ff,ff,ff,ff,ff,ff,ff,ff,ff,tt,tt,ff] (λw'=>w'.cell? ⟨ps,0,none⟩=some (.map (some ma))∧w'.rangeAt F 0 (skC (n,x))∧vr w' ma M) ?_ (λK hK=>?_)
  ·exact⟨m.o.cells.1,d.o,b.o⟩
  generalize p.drew=a at*
  repeat((first|(refine zl rfl ?_;constructor;constructor;(focus(first|exact zn7 rfl (λw h=>h.2.1) SL.o|exact λw' h=>zS (t:=113) rfl rfl rfl (P.o w' h.2.2)|(rintro w' ⟨s1,s2,s3⟩;go_simp;(try with_reducible rfl);done))))|(refine zm rfl ?_));try simp only[Act.put,pA,pB,pC])
  (refine zJ rfl (λK' hK'=>?_))
  refine yj (yx rfl (jq _)) ?_
  refine nXt hK' ?_ λhS=>?_
  ·exact⟨((frN a).alloc _).cell m.o.cells.1 id,za d.o ((frN a).alloc _) id,b.o.keep ((frN a).alloc _) id⟩
  try simp only[Act.put,pA,pB,pC]
  (refine zJ rfl (λK' hK'=>?_))
  refine yN (zj (w:=a) (ty:=34) (cs:=cs) rfl rfl rfl (by rw[i.o];rfl) (by rw[i.o];exact y3) y.o) ?_
  refine nXt hK' ?_ λhS=>?_
  ·exact⟨((frN a).alloc _).cell m.o.cells.1 id,za d.o ((frN a).alloc _) id,b.o.keep ((frN a).alloc _) id⟩
  try simp only[Act.put]
  repeat((first|(refine zl rfl ?_;constructor;constructor;(focus(first|(rintro w' -;go_simp;(try with_reducible rfl);done))))|(refine zm rfl ?_));try simp only[Act.put,pA,pB,pC])
  refine zL (hK.out _ _ ?_)
  have u:=J (l.o.alloc (.cells cs.toArray 34))
  have E:=J (za d.o ((frN a).alloc (.cells cs.toArray 34)) id)
  have j:=J (Qr E.o).2
  generalize a.alloc (.cells cs.toArray 34)=W at*
  have⟨H,O⟩:=tZ2
  go_wp2_with ((first|((with_reducible refine zt ?_);clear H;refine zn2 rfl rfl rfl j.o Z.o ?_)|(clear O;go_at_call 73;refine(q.o W u.o).mono ?_;rintro e w3 ⟨f,rfl,r⟩;have z:=J (u.o.trans0 r);clear r));go_frame)
  go_ret
  exact⟨by rw[c.o];rfl,z.o⟩
 ·have P:=B
  rw[decide_eq_false hmine] at P
  have NM:=J hmine
  clear hmine B
  by_cases hthere:x∈xu L
  ·have c:=@J (jV I L (Q n) x=10) (by unfold jV;rw[if_pos (.inr hthere)])
   rw[decide_eq_true hthere] at q
   clear hthere
   go_enter Tryz.func39,Tryz.ntmps39
   go_wp2_with fail
   generalize V:w.heap.size=F at*
   generalize o:w.alloc (.cells (skC (n,x)).toArray 110)=p at*
   clear o
   have m:=J (HH.o.fr0 s.o.drew)
   have d:=J (za RK.o (frN p).drew id)
   have l:=J s.o.drew
   have b:=J (HM.o p.drew s.o.drew)
   refine wrLx [ff,ff,ff,ff,ff,ff,ff,ff,ff,tt,tt,ff] (λw'=>w'.cell? ⟨ps,0,none⟩=some (.map (some ma))∧w'.rangeAt F 0 (skC (n,x))∧vr w' ma M) ?_ (λK hK=>?_)
   ·exact⟨m.o.cells.1,d.o,b.o⟩
   generalize p.drew=a at*
   repeat((first|(refine zl rfl ?_;constructor;constructor;(focus(first|exact zn7 rfl (λw h=>h.2.1) SL.o|exact λw' h=>zS (t:=113) rfl rfl rfl (P.o w' h.2.2)|(rintro w' ⟨s1,s2,s3⟩;go_simp;(try with_reducible rfl);done))))|(refine zm rfl ?_));try simp only[Act.put,pA,pB,pC])
   (refine zJ rfl (λK' hK'=>?_))
   refine yj (yx rfl (jq _)) ?_
   refine nXt hK' ?_ λhS=>?_
   ·exact⟨((frN a).alloc _).cell m.o.cells.1 id,za d.o ((frN a).alloc _) id,b.o.keep ((frN a).alloc _) id⟩
   try simp only[Act.put,pA,pB,pC]
   (refine zJ rfl (λK' hK'=>?_))
   refine yN (zj (w:=a) (ty:=34) (cs:=cs) rfl rfl rfl (by rw[i.o];rfl) (by rw[i.o];exact y3) y.o) ?_
   refine nXt hK' ?_ λhS=>?_
   ·exact⟨((frN a).alloc _).cell m.o.cells.1 id,za d.o ((frN a).alloc _) id,b.o.keep ((frN a).alloc _) id⟩
   try simp only[Act.put]
   repeat((first|(refine zl rfl ?_;constructor;constructor;(focus(first|(rintro w' -;go_simp;(try with_reducible rfl);done))))|(refine zm rfl ?_));try simp only[Act.put,pA,pB,pC])
   refine zL (hK.out _ _ ?_)
   have u:=J (l.o.alloc (.cells cs.toArray 34))
   have E:=J (za d.o ((frN a).alloc (.cells cs.toArray 34)) id)
   have j:=J (Qr E.o).2
   generalize a.alloc (.cells cs.toArray 34)=W at*
   have⟨H,O⟩:=tZ2
   go_wp2_with ((first|((with_reducible refine zt ?_);clear H;refine zn2 rfl rfl rfl j.o Z.o ?_)|(clear O;go_at_call 73;refine(q.o W u.o).mono ?_;rintro e w3 ⟨f,rfl,r⟩;have z:=J (u.o.trans0 r);clear r));go_frame)
   go_ret
   exact⟨by rw[c.o];rfl,z.o⟩
  ·have NT:=J hthere
   rw[decide_eq_false hthere] at q
   clear hthere
   have aa:=@J (jV I L (Q n) x=if x∈I then 19 else if 4≤(Q n).length then 18 else 0) (by unfold jV;rw[if_neg (λh=>h.elim NM.o NT.o)])
   by_cases hdone:x∈I
   ·have c:=@J (jV I L (Q n) x=19) (by rw[aa.o,if_pos hdone])
    rw[decide_eq_true hdone] at A
    clear hdone
    go_enter Tryz.func39,Tryz.ntmps39
    go_wp2_with fail
    generalize V:w.heap.size=F at*
    generalize o:w.alloc (.cells (skC (n,x)).toArray 110)=p at*
    clear o
    have m:=J (HH.o.fr0 s.o.drew)
    have d:=J (za RK.o (frN p).drew id)
    have l:=J s.o.drew
    have b:=J (HM.o p.drew s.o.drew)
    refine wrLx [ff,ff,ff,ff,ff,ff,ff,ff,ff,tt,tt,ff] (λw'=>w'.cell? ⟨ps,0,none⟩=some (.map (some ma))∧w'.rangeAt F 0 (skC (n,x))∧vr w' ma M) ?_ (λK hK=>?_)
    ·exact⟨m.o.cells.1,d.o,b.o⟩
    generalize p.drew=a at*
    repeat((first|(refine zl rfl ?_;constructor;constructor;(focus(first|exact zn7 rfl (λw h=>h.2.1) SL.o|exact λw' h=>zS (t:=113) rfl rfl rfl (P.o w' h.2.2)|(rintro w' ⟨s1,s2,s3⟩;go_simp;(try with_reducible rfl);done))))|(refine zm rfl ?_));try simp only[Act.put,pA,pB,pC])
    (refine zJ rfl (λK' hK'=>?_))
    refine yj (yx rfl (jq _)) ?_
    refine nXt hK' ?_ λhS=>?_
    ·exact⟨((frN a).alloc _).cell m.o.cells.1 id,za d.o ((frN a).alloc _) id,b.o.keep ((frN a).alloc _) id⟩
    try simp only[Act.put,pA,pB,pC]
    (refine zJ rfl (λK' hK'=>?_))
    refine yN (zj (w:=a) (ty:=34) (cs:=cs) rfl rfl rfl (by rw[i.o];rfl) (by rw[i.o];exact y3) y.o) ?_
    refine nXt hK' ?_ λhS=>?_
    ·exact⟨((frN a).alloc _).cell m.o.cells.1 id,za d.o ((frN a).alloc _) id,b.o.keep ((frN a).alloc _) id⟩
    try simp only[Act.put]
    repeat((first|(refine zl rfl ?_;constructor;constructor;(focus(first|(rintro w' -;go_simp;(try with_reducible rfl);done))))|(refine zm rfl ?_));try simp only[Act.put,pA,pB,pC])
    refine zL (hK.out _ _ ?_)
    have u:=J (l.o.alloc (.cells cs.toArray 34))
    have E:=J (za d.o ((frN a).alloc (.cells cs.toArray 34)) id)
    have j:=J (Qr E.o).2
    generalize a.alloc (.cells cs.toArray 34)=W at*
    have⟨H,O,K2,K3⟩:=tZ4
    go_wp2_with ((first|((with_reducible refine zt ?_);first|(clear H;refine zn2 rfl rfl rfl j.o Z.o ?_)|(clear K2;refine zn2 rfl rfl rfl R3.o Z.o ?_))|(clear O;go_at_call 73;refine(q.o W u.o).mono ?_;rintro e w3 ⟨f,rfl,r⟩;have z:=J (u.o.trans0 r);have R3:=J (za j.o r id);clear r)|(clear K3;go_at_call 74;refine(A.o w3 z.o).mono ?_;rintro e w4 ⟨rfl,f4⟩;have F4:=J (z.o.trans0 f4);clear f4));go_frame)
    go_ret
    exact⟨by rw[c.o];rfl,F4.o⟩
   ·have ab:=@J (jV I L (Q n) x=if 4≤(Q n).length then 18 else 0) (by rw[aa.o,if_neg hdone])
    rw[decide_eq_false hdone] at A
    clear hdone
    go_enter Tryz.func39,Tryz.ntmps39
    go_wp2_with fail
    generalize V:w.heap.size=F at*
    generalize o:w.alloc (.cells (skC (n,x)).toArray 110)=p at*
    clear o
    have m:=J (HH.o.fr0 s.o.drew)
    have d:=J (za RK.o (frN p).drew id)
    have l:=J s.o.drew
    have b:=J (HM.o p.drew s.o.drew)
    refine wrLx [ff,ff,ff,ff,ff,ff,ff,ff,ff,tt,tt,ff] (λw'=>w'.cell? ⟨ps,0,none⟩=some (.map (some ma))∧w'.rangeAt F 0 (skC (n,x))∧vr w' ma M) ?_ (λK hK=>?_)
    ·exact⟨m.o.cells.1,d.o,b.o⟩
    generalize p.drew=a at*
    repeat((first|(refine zl rfl ?_;constructor;constructor;(focus(first|exact zn7 rfl (λw h=>h.2.1) SL.o|exact λw' h=>zS (t:=113) rfl rfl rfl (P.o w' h.2.2)|(rintro w' ⟨s1,s2,s3⟩;go_simp;(try with_reducible rfl);done))))|(refine zm rfl ?_));try simp only[Act.put,pA,pB,pC])
    (refine zJ rfl (λK' hK'=>?_))
    refine yj (yx rfl (jq _)) ?_
    refine nXt hK' ?_ λhS=>?_
    ·exact⟨((frN a).alloc _).cell m.o.cells.1 id,za d.o ((frN a).alloc _) id,b.o.keep ((frN a).alloc _) id⟩
    try simp only[Act.put,pA,pB,pC]
    (refine zJ rfl (λK' hK'=>?_))
    refine yN (zj (w:=a) (ty:=34) (cs:=cs) rfl rfl rfl (by rw[i.o];rfl) (by rw[i.o];exact y3) y.o) ?_
    refine nXt hK' ?_ λhS=>?_
    ·exact⟨((frN a).alloc _).cell m.o.cells.1 id,za d.o ((frN a).alloc _) id,b.o.keep ((frN a).alloc _) id⟩
    try simp only[Act.put]
    repeat((first|(refine zl rfl ?_;constructor;constructor;(focus(first|(rintro w' -;go_simp;(try with_reducible rfl);done))))|(refine zm rfl ?_));try simp only[Act.put,pA,pB,pC])
    refine zL (hK.out _ _ ?_)
    have u:=J (l.o.alloc (.cells cs.toArray 34))
    have E:=J (za d.o ((frN a).alloc (.cells cs.toArray 34)) id)
    have j:=J (Qr E.o).2
    generalize a.alloc (.cells cs.toArray 34)=W at*
    have⟨H,O,K2,K3⟩:=tZ4
    go_wp2_with ((first|((with_reducible refine zt ?_);first|(clear H;refine zn2 rfl rfl rfl j.o Z.o ?_)|(clear K2;refine zn2 rfl rfl rfl ae.o Z.o ?_))|(clear O;go_at_call 73;refine(q.o W u.o).mono ?_;rintro e w3 ⟨f,rfl,r⟩;have z:=J (u.o.trans0 r);have R3:=J (za E.o r id);have ae:=J (Qr R3.o).2;clear r)|(clear K3;go_at_call 74;refine(A.o w3 z.o).mono ?_;rintro e w4 ⟨rfl,f4⟩;have F4:=J (z.o.trans0 f4);have R4:=J (za R3.o f4 id);clear f4));go_frame)
    have G:=J F4.o.drew
    have K4:=J (Qr (za R4.o (frN w4).drew id)).1
    refine wrLx [ff,ff,ff,ff,ff,ff,ff,ff,ff,ff] (λw'=>w'.cell? ⟨ps,1+n,none⟩=some (.slice ra (Q n).length rc)∧w'.cell? ⟨F,0,none⟩=some (.int .i64 n)) ?_ (λK hK=>?_)
    ·exact⟨G.o.cell ad.o id,K4.o⟩
    repeat((first|(refine zl rfl ?_;constructor;constructor;(focus(first|(rintro w' ⟨s1,s2⟩;go_simp;(try with_reducible rfl);done))))|(refine zm rfl ?_));try simp only[Act.put,pA,pB,pC])
    refine zL (hK.out _ _ ?_)
    by_cases h4:4≤(Q n).length
    ·have c:=@J (jV I L (Q n) x=18) (by rw[ab.o,if_pos h4])
     have i4:(4:Int)≤((Q n).length:Int):=by omega
     go_wp2_with fail
     go_ret
     exact⟨by rw[c.o];rfl,G.o⟩
    ·have c:=@J (jV I L (Q n) x=0) (by rw[ab.o,if_neg h4])
     have i4:¬(4:Int)≤((Q n).length:Int):=by omega
     go_wp2_with fail
     go_ret
     exact⟨by rw[c.o];rfl,G.o⟩
end
end Go.Proofs.YtdkkjchclkjleaaGreatDoor
