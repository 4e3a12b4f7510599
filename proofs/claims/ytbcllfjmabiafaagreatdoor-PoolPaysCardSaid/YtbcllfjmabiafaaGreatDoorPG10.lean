/- calc: Sum. -/
import Derived.Laws.Externs
import Derived.Test.YtbcllfjmabiafaaGreatDoorRows
import Derived.WalkKit
import Derived.ProofKit
import Derived.OpenShut
import Derived.Carry
import Derived.WideKeyArgs
import Derived.Deep.Slices
import Derived.Deep.Fields
import Derived.ChangeSame
import Derived.LaidMore
import Derived.Stop.Joined
import Derived.Test.YtbcllfjmabiafaaGreatDoorPG9
import Derived.Test.YtbcllfjmabiafaaGreatDoorPG1
import Derived.Test.YtbcllfjmabiafaaGreatDoorPG5
import Derived.Test.YtbcllfjmabiafaaGreatDoorPG2
import Derived.Test.YtbcllfjmabiafaaGreatDoorPG7
set_option linter.unusedVariables false
set_option linter.unusedSimpArgs false
set_option linter.unnecessarySimpa false
set_option linter.all false
set_option maxRecDepth 20000
set_option maxHeartbeats 16000000
namespace Go.Proofs.YtbcllfjmabiafaaGreatDoor
open Go Go.RowKit Go.Maps Go.MapKept
open Go.Proofs.Tryz(prog)
open List(mem_map getElem?_eq_getElem mem_append mem_of_getElem? length_append all_eq_true take_of_length_le take_append_drop length_drop take_zero drop_zero)
open Nat(le_refl zero_le)
variable {W w:World} {cs:List Value} {e t:TypeId} {fuel k n:Nat} {v:Value}
def zbj (x:Int):Value:=.int .u64 x
def zel (l:List Int):Int:=if l.sum<18446744073709551616 then 0 else 3
def zem (l:List Int):Int:=if l.sum<18446744073709551616 then l.sum else 0
theorem zeI (w:World) {l:List Int} (m:xQ w v l.length (l.map zbj)) (ok:∀x∈l,0≤x∧x≤18446744073709551615) (O:l.length≤100000):
  Calls prog 77 #[v] w λe w'=>e=.returned (.tuple #[.int .u64 (zem l),.int .i64 (zel l)])∧Fr No w w':=by
 have z:=Hd m
 have B:=Hd ok
 have j:=@Hd (∀n,n≤l.length→0≤(l.take n).sum∧(l.take n).sum≤18446744073709551615*(n:Int)) (λn=>by
  induction n with
  |zero=>intro _;simp
  |succ n ih=>
   intro t
   have D:=ih (by omega)
   have d:l[n]? =some l[n]:=getElem?_eq_getElem (by omega)
   have E:=ok l[n] (List.getElem_mem _)
   rw[List.take_add_one,d]
   simp only[Option.toList_some,List.sum_append,List.sum_cons,List.sum_nil]
   omega)
 obtain⟨K,L,rfl⟩:=m.form
 clear m ok
 go_enter Tryz.func77,Tryz.ntmps77
 go_wp2
 go_loopw [4,5,12] (λq I r wr=>∃n:Nat,r=.int .i64 n∧n≤l.length∧q=.int .u64 ((l.take n).sum / 18446744073709551616)∧I=.int .u64 ((l.take n).sum % 18446744073709551616)∧Fr No w wr) (λ_ _ r _=>l.length-(intOf r).toNat)
 case atStart=>exact⟨0,rfl,zero_le _,by simp,by simp,Fr.refl _ _⟩
 case round=>
  obtain⟨n,rfl,t,rfl,rfl,fr⟩:=hrel
  have i:=Hd fr
  clear fr
  have M:=j.o n t
  generalize g:(l.take n).sum=T at*
  by_cases o:n<l.length
  ·have G:(n:Int)<(l.length:Int):=by omega
   obtain⟨x,d⟩:∃x,l[n]? =some x:=⟨_,getElem?_eq_getElem o⟩
   have k:=B.o x (mem_of_getElem? d)
   have s:=@Hd ((l.take (n+1)).sum=T+x) (by rw[List.take_add_one,d,←g];simp)
   have c:∃b off cap,Value.slice K l.length L=.slice (some ⟨b,off,none⟩) l.length cap∧wr.cell? ⟨b,off+n,none⟩=some (.int .u64 x):=by
    rcases z.o.keep i.o with(⟨e,h,-⟩|⟨b,off,cap,e,D,E,F,N⟩)|⟨a,cap,e,h,-⟩
    ·omega
    ·exact⟨b,off,cap,e,F n _ (by rw[List.getElem?_map,d];rfl)⟩
    ·omega
   obtain⟨b,off,cap,q,P⟩:=c
   cases q
   have u:=@Hd ((T % 18446744073709551616+x+0) % 18446744073709551616=(T+x) % 18446744073709551616) (by omega)
   have y:=@Hd (T / 18446744073709551616+(T % 18446744073709551616+x) / 18446744073709551616=(T+x) / 18446744073709551616) (by omega)
   have A:0≤T % 18446744073709551616:=by omega
   have C:=k.1
   clear d g
   go_wp2
   rw[run_callFunc_extern Tryz.func103 (by kernel_rfl) (by kernel_rfl) (by kernel_rfl) (e:=add64Entry) (by kernel_rfl),run_add64 _ x 0 A C (by omega) (by omega)]
   simp only[Result.andThen]
   rw[Oper.upon_value]
   rw[u.o]
   go_wp2
   go_roundw
   case rel=>exact⟨n+1,by go_num,by omega,by rw[s.o];exact congrArg (Value.int .u64) y.o,by rw[s.o],i.o⟩
   case measure=>simp[intOf];omega
  ·have p:n=l.length:=by omega
   have G:¬(n:Int)<(l.length:Int):=by omega
   have hS:l.sum=T:=by rw[←g,p,List.take_length]
   by_cases ho:T<18446744073709551616
   ·have f:=@Hd (zel l=0∧zem l=T) (by unfold zel zem;rw[hS,if_pos ho,if_pos ho];exact⟨rfl,rfl⟩)
    have H:(T / 18446744073709551616==0)=true:=by rw[beq_iff_eq];omega
    have Q:T % 18446744073709551616=T:=by omega
    clear hS ho g
    go_wp2
    go_ret2
    exact⟨by rw[f.o.1,f.o.2];rfl,i.o⟩
   ·have f:=@Hd (zel l=3∧zem l=0) (by unfold zel zem;rw[hS,if_neg ho,if_neg ho];exact⟨rfl,rfl⟩)
    have H:(T / 18446744073709551616==0)=false:=by rw[beq_eq_false_iff_ne];omega
    clear hS ho g
    go_wp2
    go_ret2
    exact⟨by rw[f.o.1,f.o.2];rfl,i.o⟩
def opens:List InD→List yC→Bool
 |x::I,o::O=>decide (qE x.key=o.lock) && opens I O
 |_,_=>true
def jw (l:List yC):List Int:=l.map (·.value)
def Jc (t:TxD) (prev:List yC):Int:=
 if yR t=0 then
  (if prev.length=t.ins.length then
   (if opens t.ins prev=true then
    (if(jw prev).sum<18446744073709551616 then(if vq t.outs≤(jw prev).sum then 0 else 11) else 11)
    else 13)
   else 2)
 else yR t
def Jp (t:TxD) (prev:List yC):Int:=if Jc t prev=0 then(jw prev).sum-vq t.outs else 0
theorem zck:∀ {I:List InD} {O:List yC},opens I O=true↔∀(i:Nat) (x:InD) (o:yC),I[i]? =some x→O[i]? =some o→qE x.key=o.lock
 |[],O=>by simp[opens]
 |x::I,[]=>by simp[opens]
 |x::I,o::O=>by
  simp only[opens,Bool.and_eq_true,decide_eq_true_eq,zck (I:=I) (O:=O)]
  constructor
  ·rintro⟨c,d⟩ i y p b a
   cases i with
   |zero=>simp at b a;subst b;subst a;exact c
   |succ i=>exact d i y p (by simpa using b) (by simpa using a)
  ·intro h
   exact⟨h 0 x o rfl rfl,λi y p b a=>h (i+1) y p (by simpa using b) (by simpa using a)⟩
theorem zjL:(prog.info? 42).map (λi=>(i.zero,i.size,i.bytes))=some (some (.int .u64 0),1,8):=by kernel_rfl
theorem zes:prog.underlying 170=some (.slice 42):=by kernel_rfl
theorem zar:∀ {l:List yC},(∀x∈l,0≤x.value)→0≤vq l
 |[],_=>by simp[vq]
 |x::l,h=>by
  have:=zar (l:=l) (λy a=>h y (.tail _ a))
  have b:=h x (.head _)
  have e:vq (x::l)=x.value+vq l:=by simp[vq]
  omega
theorem ziT {l:List yC} (h:∀x∈l,0≤x.value) (n:Nat):vq (l.take n)≤vq l:=by
 have e:vq (l.take n++l.drop n)=vq (l.take n)+vq (l.drop n):=by simp only[vq,List.map_append,List.sum_append]
 rw[take_append_drop] at e
 have:=zar (l:=l.drop n) (λx a=>h x (List.mem_of_mem_drop a))
 omega
def zi2 (w:World) (t:TxD) (prev:List yC) (e:Ending) (w':World):Prop:=e=.returned (.tuple #[.int .u64 (Jp t prev),.int .i64 (Jc t prev)])∧Fr No w w'
theorem VO {t:TxD} {prev:List yC} {E:Int} (h:Jc t prev=E) (a:E≠0):∀w',Fr No w w'→zi2 w t prev (.returned (.tuple #[.int .u64 0,.int .i64 E])) w':=λw' f=>by
 refine⟨?_,f⟩
 have:Jp t prev=0:=by unfold Jp;rw[h,if_neg a]
 rw[this,h]
theorem Zt (hg:vp w) {t:TxD} (ht:TxQ w t cs) {prev:List yC} (hp:xg w v prev) (hN:prev.length≤1000):
  Calls prog 41 #[.agg cs.toArray,v] w (zi2 w t prev):=by
 have HG:=Hd hg
 have HT:=Hd ht
 have HP:=Hd hp
 obtain⟨ia,N,oa,oc,rfl,hv,hi,ho⟩:=ht
 obtain⟨va,vc,rfl⟩:=hp.2.form
 obtain⟨dH,uH,rH⟩:=jq
 have zO:=y3
 have F1:=Hd ((frN w).alloc (.cells #[.int .u32 t.ver,.slice ia t.ins.length N,.slice oa t.outs.length oc] 27))
 obtain⟨-,c1,c2,r0⟩:=qI w t.ver (.slice ia t.ins.length N) (.slice oa t.outs.length oc)
 have C1:=Hd c1
 have C2:=Hd c2
 have R0:=Hd r0
 have V:=Hd (Ql (w.alloc (.cells #[.int .u32 t.ver,.slice ia t.ins.length N,.slice oa t.outs.length oc] 27)) (HT.o.keep F1.o))
 clear hi ho hv c1 c2 r0 hp hg
 show Calls prog 41 #[.agg #[.int .u32 t.ver,.slice ia t.ins.length N,.slice oa t.outs.length oc],.slice va prev.length vc] w _
 by_cases hck:yR t=0
 rotate_left
 ·have b:=Hd (VO (t:=t) (prev:=prev) (w:=w) (E:=yR t) (by unfold Jc;rw[if_neg hck]) hck)
  have jz:(yR t==0)=false:=by rw[beq_eq_false_iff_ne];exact hck
  clear hck
  go_enter Tryz.func41,Tryz.ntmps41
  have⟨D,F⟩:=tZ2
  go_wp2_with ((first|((with_reducible refine zt ?_);clear D;refine znT rfl rfl rfl R0.o rfl ?_;generalize w.alloc (.cells #[.int .u32 t.ver,.slice ia t.ins.length N,.slice oa t.outs.length oc] 27)=w1 at*)|(clear F;go_at_call 29;refine V.o.mono ?_;rintro e w2 ⟨rfl,Q⟩;have c:=Hd Q;clear Q));go_frame)
  go_ret2
  exact b.o _ (F1.o.trans0 c.o)
 have bd:t.ins.length≤8:=by
  unfold yR at hck
  split at hck
  ·rename_i h;exact(xe.1 h).2.1
  ·cases hck
 have aI:=@Hd (∀x∈t.ins,x.key.length≤64) (by
  have A:=hck
  unfold yR at A
  split at A
  ·rename_i h;exact(xe.1 h).1
  ·cases A)
 by_cases hlen:prev.length=t.ins.length
 rotate_left
 ·have b:=Hd (VO (t:=t) (prev:=prev) (w:=w) (E:=2) (by unfold Jc;rw[if_pos hck,if_neg hlen]) (by decide))
  have jl:¬(prev.length:Int)=(t.ins.length:Int):=by omega
  have aA:((prev.length:Int)==(t.ins.length:Int))=false:=by rw[beq_eq_false_iff_ne];exact jl
  unfold Jk at V
  rw[hck] at V
  clear hck hlen
  go_enter Tryz.func41,Tryz.ntmps41
  have⟨D,F⟩:=tZ2
  go_wp2_with ((first|((with_reducible refine zt ?_);clear D;refine znT rfl rfl rfl R0.o rfl ?_;generalize w.alloc (.cells #[.int .u32 t.ver,.slice ia t.ins.length N,.slice oa t.outs.length oc] 27)=w1 at*)|(clear F;go_at_call 29;refine V.o.mono ?_;rintro e w2 ⟨rfl,Q⟩;have c:=Hd Q;clear Q;have d1:=c.o.cell C1.o id));go_frame)
  go_ret2
  exact b.o _ (F1.o.trans0 c.o)
 have aA:((prev.length:Int)==(t.ins.length:Int))=true:=by rw[beq_iff_eq];omega
 have bj:((prev.length:Int) !=(t.ins.length:Int))=false:=by rw[bne,aA];rfl
 obtain⟨iK,aq,hz,ax,al⟩:=info_parts zjL
 have MK:=Hd (λ(w3:World)=>run_makeSlice_full (P:=prog) (w:=w3) w3.heap.size 170 42 iK _ 1 zes aq hz ax .i64 .i64 prev.length (by omega) (by rw[al];omega) (by unfold maxLen;omega) (le_refl _))
 have FE:=@Hd (Jc t prev=if opens t.ins prev=true then(if(jw prev).sum<18446744073709551616 then(if vq t.outs≤(jw prev).sum then 0 else 11) else 11) else 13) (by unfold Jc;rw[if_pos hck,if_pos hlen])
 have O:=Hd hlen
 unfold Jk at V
 rw[hck] at V
 clear aq hz ax al hck hlen
 go_enter Tryz.func41,Tryz.ntmps41
 have⟨D,F⟩:=tZ2
 go_wp2_with ((first|((with_reducible refine zt ?_);clear D;refine znT rfl rfl rfl R0.o rfl ?_;generalize w.alloc (.cells #[.int .u32 t.ver,.slice ia t.ins.length N,.slice oa t.outs.length oc] 27)=w1 at*)|(clear F;go_at_call 29;refine V.o.mono ?_;rintro e w2 ⟨rfl,Q⟩;have c:=Hd Q;clear Q;have d1:=c.o.cell C1.o id;obtain⟨w4,aW,ar,an⟩:=MK.o w2;have ak:Fr No w2 w4:=Fr.of_grown an (λk e=>by cases e);have ad:=Hd ak;have aJ:=Hd ar;clear an ar ak));go_frame)
 have F4:=Hd (F1.o.trans0 (c.o.trans0 ad.o))
 have ab:=Hd (c.o.trans0 ad.o)
 have WL:=@Hd (w.heap.size<w2.heap.size) (by have q:=World.block_lt_of_cell? _ _ C1.o;have I:=c.o.size;simp only at q;omega)
 clear aW
 generalize w2.heap.size=g at*
 clear d1
 have jn:prev.length≤1000:=hN
 go_loopw [30] (λiv wr=>∃(n:Nat) (xs:List Value),iv=.int .i64 n∧n≤prev.length∧(∀i,i<n→∀x o,t.ins[i]? =some x→prev[i]? =some o→qE x.key=o.lock)∧wr.ownsRow g 42 1 (.slice (some ⟨g,0,none⟩) prev.length prev.length) prev.length xs∧xs.take n=((jw prev).take n).map zbj∧Fr (λj=>j=g) w4 wr) (λiv _=>prev.length-(intOf iv).toNat)
 case atStart=>exact⟨0,_,rfl,zero_le _,(λi hi=>by omega),aJ.o,by simp,Fr.refl _ _⟩
 case round=>
  obtain⟨n,xs,rfl,hn,au,av,az,fr⟩:=hrel
  have FR:=Hd fr
  have OP:=Hd au
  have W:=Hd av
  have ah:=Hd az
  have FW:=@Hd (Fr No w wr) (F4.o.trans fr (λi hi e=>by have:=WL.o;omega))
  clear fr au av az
  by_cases L:n<prev.length
  ·have i1:(n:Int)<(prev.length:Int):=by omega
   have i2:(n:Int)<(t.ins.length:Int):=by have:=O.o;omega
   obtain⟨o,m⟩:∃x,prev[n]? =some x:=⟨_,getElem?_eq_getElem L⟩
   obtain⟨x,hy⟩:∃x,t.ins[n]? =some x:=⟨_,getElem?_eq_getElem (by have:=O.o;omega)⟩
   obtain⟨bb,off,cap,hv,hr,-⟩:=(HP.o.keep FW.o).at_ m
   cases hv
   have d:=HP.o.1 o (mem_of_getElem? m)
   obtain⟨bg,bh,aY,aZ,z,-,ao,-⟩:=HT.o.keep FW.o
   simp only[txC,List.cons.injEq,and_true] at z
   obtain⟨-,z,-⟩:=z
   injection z with e21 _ e23
   subst e21;subst e23
   obtain⟨b3,p,a7,bc,aX,aw,ka,kc,rfl,aB,S⟩:=ao.at_ hy
   cases aX
   have R1:=Hd hr
   have Y:=Hd (yq d)
   have KC:=@Hd (wr.cell? ⟨b3,p+n*34+33,none⟩=some (.slice ka x.key.length kc)) ((zhe aw aB).2)
   have G:=Hd d.2
   have fA:=((frN wr).alloc (.cells (zF o).toArray 58)).drew
   have U:=Hd fA
   have aS:=(frN wr).alloc (.cells (zF o).toArray 58)
   obtain⟨n1,n2⟩:=Xb wr d
   have N1:=Hd n1
   have N2:=Hd n2
   have XW:=Hd (FR.o.cell (ab.o.cell C1.o id) (λe=>by have z:w.heap.size=g:=e;have:=WL.o;omega))
   have ai:=Hd (zca (HG.o.keep0 (FW.o.trans0 fA)) ((S.keep fA).2) (by have:=aI.o x (mem_of_getElem? hy);omega))
   have aj:=Hd (JA x.key)
   have KS:=@Hd (∀w',Fr No (wr.alloc (.cells (zF o).toArray 58)).drew w'→w'.cell? ⟨w.heap.size,1,none⟩=some (.slice (some ⟨b3,p,none⟩) t.ins.length N)∧w'.cell? ⟨b3,p+n*34+33,none⟩=some (.slice ka x.key.length kc)∧w'.rangeAt wr.heap.size 1 (zd o.lock)) (λw' f=>⟨f.cell (U.o.cell XW.o id) id,f.cell (U.o.cell KC.o id) id,za (za N2.o (frN _).drew id) f id⟩)
   have aO:=@Hd (qE x.key≠o.lock→opens t.ins prev=false) (λaa=>by
    cases ho:opens t.ins prev with
    |false=>rfl
    |true=>exact absurd (zck.1 ho n x o hy m) aa)
   have TF:=@Hd (((jw prev).take (n+1)).map zbj=((jw prev).take n).map zbj++[zbj o.value]) (by
    have e3:(jw prev)[n]? =some o.value:=by simp[jw,m]
    rw[List.take_add_one,e3]
    simp)
   have aP:=@Hd (qE x.key=o.lock→∀i,i<n+1→∀x' o',t.ins[i]? =some x'→prev[i]? =some o'→qE x'.key=o'.lock) (λhe i hi x' o' q I=>by
    by_cases hin:i<n
    ·exact OP.o i hin x' o' q I
    ·obtain rfl:i=n:=by omega
     rw[hy] at q;rw[m] at I
     cases q;cases I
     exact he)
   have ag:=Hd (zb W.o fA (λ_ _=>id))
   clear hr aw S aB ao fA aS n1 n2 m hy d
   go_wp2_with (first|(refine znU rfl rfl rfl R1.o Y.o ?_)|(refine zn2 (w:=wr) (cs:=zF o) rfl rfl rfl rfl Y.o yd ?_))
   refine wrLx [ff,ff,ff,ff,ff,ff,tt,ff,ff,ff] (λw'=>w'.cell? ⟨w.heap.size,1,none⟩=some (.slice (some ⟨b3,p,none⟩) t.ins.length N)∧w'.cell? ⟨b3,p+n*34+33,none⟩=some (.slice ka x.key.length kc)∧w'.rangeAt wr.heap.size 1 (zd o.lock)) ?_ (λK hK=>?_)
   ·exact KS.o _ (Fr.refl _ _)
   repeat((first|(refine zk rfl ?_;constructor;constructor;(focus(first|(rintro w' ⟨s1,s2,s3⟩;exact goS))))|(refine zl rfl ?_));try simp only[Act.put,pA,pB,pC])
   (refine zM rfl (λK' hK'=>?_))
   go_simp
   refine ai.o.mono ?_
   rintro e wz ⟨rfl,fz⟩
   have FZ:=Hd fz
   have aF:=@Hd (Fr (λj=>j=g) w4 wz) ((FR.o.trans0 U.o).trans0 fz)
   have aE:=Hd ((FW.o.trans0 U.o).trans0 fz)
   have ba:=fz.cell ((frN _).drew.cell N1.o id) id
   have X:=Hd (zb ag.o fz (λ_ _=>id))
   clear fz
   refine nXt hK' ?_ λhS=>?_
   ·exact KS.o _ FZ.o
   try simp only[Act.put,pA,pB,pC]
   by_cases heq:qE x.key=o.lock
   ·repeat((first|(refine zk rfl ?_;constructor;constructor;(focus(first|exact y5 (ty:=45) rfl (λw h=>h.2.2) uH rH (by rw[zu G.o];exact yj)|exact λw' _=>xT.exec_neq rfl (u:=(zd (qE x.key)).toArray) (v:=(zd o.lock).toArray) rfl rfl (ym aj.o) (ym G.o) true (by rw[heq];simp) w'|(rintro w' ⟨s1,s2,s3⟩;exact goS))))|(refine zl rfl ?_));try simp only[Act.put,pA,pB,pC])
    refine zN (hK.out _ _ ?_)
    have aQ:=Hd (aP.o heq)
    obtain⟨aC,a1⟩:=Jx X.o L 0 (by decide)
    obtain⟨u0,a6⟩:=Option.isSome_iff_exists.1 aC
    simp only[Nat.mul_one,Nat.add_zero] at a1 a6
    have aK:=Hd (vP X.o n (cs:=[zbj o.value]) (by simp;omega))
    have aM:=@Hd ((setM xs n [zbj o.value]).take (n+1)=((jw prev).take (n+1)).map zbj) (by
     have q:=zam xs [zbj o.value] n (by rw[X.o.1];simp;omega)
     simp only[List.length_singleton] at q
     rw[q,ah.o,TF.o])
    have F6:=@Hd (Fr (λj=>j=g) w4 (wz.setCells g n [zbj o.value])) (aF.o.trans (zy g [zbj o.value] n wz) (λ_ _ h=>h))
    clear aC heq
    go_wp2_with fail
    go_roundw
    case rel=>exact⟨n+1,_,by go_num,by omega,aQ.o,aK.o,aM.o,F6.o⟩
    case measure=>simp[intOf];omega
   ·repeat((first|(refine zk rfl ?_;constructor;constructor;(focus(first|exact y5 (ty:=45) rfl (λw h=>h.2.2) uH rH (by rw[zu G.o];exact yj)|exact λw' _=>xT.exec_neq rfl (u:=(zd (qE x.key)).toArray) (v:=(zd o.lock).toArray) rfl rfl (ym aj.o) (ym G.o) false (by simp only[Bool.false_eq_true,false_iff];intro h;exact heq (zaM (by simpa using congrArg Array.toList h))) w'|(rintro w' ⟨s1,s2,s3⟩;exact goS))))|(refine zl rfl ?_));try simp only[Act.put,pA,pB,pC])
    refine zN (hK.out _ _ ?_)
    have b:=Hd (VO (t:=t) (prev:=prev) (w:=w) (E:=13) (by rw[FE.o,aO.o heq];rfl) (by decide))
    clear heq
    go_wp2_with fail
    go_ret2
    exact b.o _ aE.o
  ·have aa:n=prev.length:=by omega
   have i1:¬(n:Int)<(prev.length:Int):=by omega
   have C:opens t.ins prev=true:=zck.2 (λi x o q I=>OP.o i (by have:=(List.getElem?_eq_some_iff.1 I).1;omega) x o q I)
   rw[C] at FE
   have ay:xs=(jw prev).map zbj:=by
    have q:=ah.o
    rw[aa,take_of_length_le (by rw[W.o.1];omega),take_of_length_le (by simp[jw])] at q
    exact q
   have VL:=@Hd ((jw prev).length=prev.length) (by simp[jw])
   have H:=Hd (zeI wr (v:=.slice (some ⟨g,0,none⟩) prev.length prev.length) (l:=jw prev) (by rw[VL.o,←ay];exact W.o.slice.arg) (λy hy=>by
    obtain⟨o,ho,rfl⟩:=mem_map.1 hy
    exact(HP.o.1 o ho).1) (by rw[VL.o];omega))
   have OV:=@Hd (∀x∈t.outs,x.ok) ((HT.o.oks).2)
   have XW:=Hd (FR.o.cell (ab.o.cell C2.o id) (λe=>by have z:w.heap.size=g:=e;have:=WL.o;omega))
   obtain⟨a,R⟩:∃a,a=(jw prev).sum:=⟨_,rfl⟩
   have s:=R.symm
   have aT:=Hd s
   rw[s] at FE
   have aG:=@Hd (a<18446744073709551616→zel (jw prev)=0∧zem (jw prev)=a) (λh=>by unfold zel zem;rw[s,if_pos h,if_pos h];exact⟨rfl,rfl⟩)
   have aH:=@Hd (¬a<18446744073709551616→zel (jw prev)=3∧zem (jw prev)=0) (λh=>by unfold zel zem;rw[s,if_neg h,if_neg h];exact⟨rfl,rfl⟩)
   have aR:=@Hd (0≤a) (by
    rw[←s]
    exact zar (l:=prev) (λx m=>(HP.o.1 x m).1.1))
   clear C ay jn s R
   by_cases hov:a<18446744073709551616
   rotate_left
   ·have b:=Hd (VO (t:=t) (prev:=prev) (w:=w) (E:=11) (by rw[FE.o,if_pos rfl,if_neg hov]) (by decide))
    have r:=aH.o hov
    rw[r.1,r.2] at H
    clear hov r L hn
    go_wp2_with (go_at_call 77;refine H.o.mono ?_;rintro e w5 ⟨rfl,f5⟩;have F5:=Hd f5;clear f5)
    go_ret2
    exact b.o _ (FW.o.trans0 F5.o)
   have r:=aG.o hov
   rw[r.1,r.2] at H
   have ae:=@Hd (Jc t prev=if vq t.outs≤a then 0 else 11) (by rw[FE.o,if_pos rfl,if_pos hov])
   have aL:=Hd hov
   clear r L hn
   have bf:t.outs.length≤9223372036854775807:=by
    obtain⟨_,_,_,_,_,_,_,M⟩:=HT.o
    exact Nat.le_trans M.2.len (by unfold maxLen;decide)
   go_wp2_with (go_at_call 77;refine H.o.mono ?_;rintro e w5 ⟨rfl,f5⟩;have F5:=Hd (FW.o.trans0 f5);have yy:=f5.cell XW.o id;clear f5)
   clear yy
   go_loopw [10,61] (λlv iv wr=>∃n:Nat,iv=.int .i64 n∧n≤t.outs.length∧lv=.int .u64 (a-vq (t.outs.take n))∧vq (t.outs.take n)≤a∧Fr No w5 wr) (λ_ iv _=>t.outs.length-(intOf iv).toNat)
   case atStart=>exact⟨0,rfl,zero_le _,by simp[vq],by simpa[vq] using aR.o,Fr.refl _ _⟩
   case round=>
    obtain⟨k,rfl,hk,rfl,B,fr⟩:=hrel
    have FQ:=Hd (F5.o.trans0 fr)
    have aD:=Hd fr
    have NN:=zar (l:=t.outs.take k) (λx m=>(OV.o x (List.mem_of_mem_take m)).1.1)
    clear fr
    by_cases aV:k<t.outs.length
    ·have i3:(k:Int)<(t.outs.length:Int):=by omega
     obtain⟨x,m⟩:∃x,t.outs[k]? =some x:=⟨_,getElem?_eq_getElem aV⟩
     have SN:=Hd (zdC m)
     have MO:=Hd (ziT (l:=t.outs) (λx m=>(OV.o x m).1.1) (k+1))
     obtain⟨_,_,aY,aZ,z,-,-,M⟩:=HT.o.keep FQ.o
     simp only[txC,List.cons.injEq,and_true] at z
     obtain⟨-,-,z⟩:=z
     injection z with e21 _ e23
     subst e21;subst e23
     obtain⟨bb,off,cap,hv,hr,-⟩:=M.at_ m
     cases hv
     have d:=OV.o x (mem_of_getElem? m)
     have R1:=Hd hr
     have Y:=Hd (yq d)
     have U:=Hd ((frN wr).alloc (.cells (zF x).toArray 58))
     have n1:=(Xb wr d).1
     have vv:=d.1
     have a8:=aL.o
     clear hr m d M
     generalize hT:vq (t.outs.take k)=T at*
     by_cases hlx:a-T<x.value
     ·have b:=Hd (VO (t:=t) (prev:=prev) (w:=w) (E:=11) (by rw[ae.o,if_neg (by have:=MO.o;have:=SN.o;omega)]) (by decide))
      have jx:decide (a-T<x.value)=true:=by simpa using hlx
      clear vv NN B
      have⟨D,F⟩:=tZ2
      go_wp2_with ((first|((with_reducible refine zt ?_);clear D;refine znU rfl rfl rfl R1.o Y.o ?_)|((with_reducible refine zr ?_);clear F;refine zn2 (w:=wr) (cs:=zF x) rfl rfl rfl rfl Y.o yd ?_;generalize wr.alloc (.cells (zF x).toArray 58)=wA at*));go_frame)
      go_ret2
      exact b.o _ (FQ.o.trans0 U.o)
     ·have jx:¬a-T<x.value:=hlx
      have es:(a-T-x.value) % 18446744073709551616=a-T-x.value:=by omega
      have ES:=@Hd (a-T-x.value=a-vq (t.outs.take (k+1))) (by rw[SN.o];omega)
      have aN:=@Hd (vq (t.outs.take (k+1))≤a) (by rw[SN.o];omega)
      clear vv NN B hlx
      have⟨D,F⟩:=tZ2
      go_wp2_with ((first|((with_reducible refine zt ?_);clear D;refine znU rfl rfl rfl R1.o Y.o ?_)|((with_reducible refine zr ?_);clear F;refine zn2 (w:=wr) (cs:=zF x) rfl rfl rfl rfl Y.o yd ?_;generalize wr.alloc (.cells (zF x).toArray 58)=wA at*));go_frame)
      go_roundw
      case rel=>exact⟨k+1,by go_num,by omega,by rw[←ES.o],aN.o,aD.o.trans0 U.o⟩
      case measure=>simp[intOf];omega
    ·have aU:k=t.outs.length:=by omega
     have i3:¬(k:Int)<(t.outs.length:Int):=by omega
     have Z:t.outs.take k=t.outs:=by rw[aU,List.take_length]
     rw[Z] at B
     have af:=@Hd (zi2 w t prev (.returned (.tuple #[.int .u64 (a-vq t.outs),.int .i64 0])) wr) (⟨by
      have q:Jc t prev=0:=by rw[ae.o,if_pos B]
      have I:Jp t prev=a-vq t.outs:=by unfold Jp;rw[if_pos q,aT.o]
      rw[q,I],FQ.o⟩)
     rw[Z]
     clear B NN Z
     go_wp2
     go_ret2
     exact af.o
section
open Go.ChangeShapes Go.WideShapes Go.ChangeAt Go.Deep
theorem laid:laidOutB prog=true:=by kernel_rfl
theorem own:ownKnob prog.godebug=none:=by kernel_rfl
section
variable {H:Type} {enc:TypeId×Value→H} {P:Program}
theorem zeS {w w':World} (h:Fr No w w'):Below w.heap.size w w':=⟨h.os,h.tape,h.output,h.size,λk a=>h.block k a id⟩
theorem Vf (e:laidOutB P=true) {W b:World} (c:Below W.heap.size W b) {f:Nat→Bool}:∀ {ts:List TypeId} {vs:List Value} {ds:List (DataW H)} {ps:List MemPlace},
  (∀t∈ts,P.readableRec t=true∧t<P.types.size)→DataW.TrodAll enc P W 0 (λ_=>true) true ts vs ds ps→(∀p∈ps,p.block<W.heap.size)→(∀p∈ps,f p.block=true)→DataW.TrodAll enc P b 0 f true ts vs ds ps
 |[],_,_,_,_,h,_,_=>by
  obtain⟨rfl,rfl,rfl⟩:=trodAll_nil h
  exact trodAll_mk0
 |t::ts,_,_,_,hr,h,hlt,hs=>by
  obtain⟨v,o,d,g,p,q,rfl,rfl,rfl,i,j⟩:=trodAll_cons h
  obtain⟨l,m⟩:=hr t (List.mem_cons_self ..)
  exact trodAll_cons_mk (WideElems.Trod_stays e l m i (λx a=>c.same (hlt x (List.mem_append_left _ a))) (λx a=>hs x (List.mem_append_left _ a)))
   (Vf e c (λn k=>hr n (List.mem_cons_of_mem _ k)) j (λx a=>hlt x (List.mem_append_right _ a)) (λx a=>hs x (List.mem_append_right _ a)))
theorem Jr {f:Func} {s:ChangeSpec} {apart fresh a:Bool} {W j:World} {args:Array Value} {e:List (DataW H)} {before:List MemPlace}
  (z:laidOutB P=true) (B:∀t∈f.params.toList,P.readableRec t=true∧t<P.types.size) (r:s.vars=[])
  (k:DataW.Whole enc P f.params.toList s.vars apart W args.toList e [] before) (o:Fr No W j)
  (i:∀(b:Nat) (sp:Nat→Bool) (hd:Bool),DataW.TrodAll enc P j b sp hd f.resultTypes.toList (v.resultList f.resultTypes.size) (s.fn H (e++[])).results [])
  (d:(s.fn H (e++[])).args=e) (m:(s.fn H (e++[])).vars=[]):
  s.post enc P f apart fresh a false W args v j:=by
 have l:=k
 obtain⟨p,q,u,n,rfl,y,A⟩:=l
 rw[r] at n
 obtain⟨_,rfl⟩:=trodVars_none n
 have c:∀x∈p,x.block<W.heap.size:=λx g=>by simpa using k.lt x (List.mem_append_left _ g)
 refine⟨e,[],p++[],[],p,[],k,i _ _ _,?_,?_,World.keptBut_mono (λx g=>⟨g,.inr (by simpa using g)⟩) ((zeS o).frame _),λh=>by cases h⟩
 ·rw[d]
  exact Vf z (zeS o) B u c (λx g=>by simpa using c x g)
 ·rw[m,r]
  exact rfl
theorem zaH {w:World} {a:Addr} (h:w.cell? a=some v):a=⟨a.block,a.off,none⟩∧a.block<w.heap.size:=by
 unfold World.cell? at h
 split at h
 ·rename_i c x y e
  split at h
  ·cases h
  ·rename_i hs
   refine⟨?_,(Array.getElem?_eq_some_iff.1 e).1⟩
   obtain⟨b,o,s⟩:=a
   cases s<;>simp_all
 ·cases h
variable {w:World} {base:Nat} {spare:Nat→Bool} {held:Bool}
end
end
section
open Go.ChangeShapes Go.WideShapes Go.ChangeAt Go.WideMaps Go.WideElems
def jK:List (String×DataW Unit):=[("pappus/sha.constants",Rows.laid_pappus_sha_constants),("pappus/sha.first",Rows.laid_pappus_sha_first)]
theorem gK:prog.globalNamed "pappus/sha.constants" =some 3:=by kernel_rfl
theorem tK:(prog.globals[3]?).map (·.type)=some 284:=by kernel_rfl
theorem gI:prog.globalNamed "pappus/sha.first" =some 2:=by kernel_rfl
theorem tI:(prog.globals[2]?).map (·.type)=some 245:=by kernel_rfl
theorem ZI (os:Os) (args:Array Value):laidMetH prog jK ((World.doorLaid prog 400 os).forCall (λ_ _=>0) ⟨#[],args,[]⟩).memory:=
 laidMetH_of_parts3 (fuel:=8) (laidMet_of_run' 8 (by kernel_rfl) (by kernel_rfl)) (by kernel_rfl) (by kernel_rfl)
theorem zks {g n:Nat} {T:TypeId} {a:List Value} {t:Nat} {c:List Int} {u:Nat→Bool} {E:List MemPlace} {p:Nat} {h:Bool} {enc:TypeId×Value→Unit} (v:prog.underlying T=some (.array n 24)) (C:∀j,W.cell? ⟨g,j,none⟩=a[j]?) (w:DataW.trod enc prog W p u h t T a=some (.agg (c.map λx=>DataW.lit (.int .u32 x)),E)) (A:c.length=n):
  ∀(j:Nat) (x:Int),c[j]? =some x→W.cell? ⟨g,j,none⟩=some (.int .u32 x):=by
 obtain⟨xs,F,D,i,o,B,b⟩:=DataW.trod_array v w
 have q:prog.cellsOf 24=1:=by kernel_rfl
 rw[q] at b
 have d:(c.map λx=>DataW.lit (H:=Unit) (.int .u32 x))=xs.map (·.1):=by
  have e:=congrArg Prod.fst i
  exact DataW.agg.inj e
 intro j x m
 have f:j<n:=by rw[←A];exact(List.getElem?_eq_some_iff.1 m).1
 have e:=congrArg (·[j]?) d
 simp only[List.getElem?_map,m,Option.map_some] at e
 cases hy:xs[j]? with
 |none=>rw[hy] at e;cases e
 |some y=>
  rw[hy] at e
  have l:=b j f
  rw[hy] at l
  obtain⟨k,r,s,_⟩:=DataW.trod_int Tryz.underlying24 l
  simp only[Option.map_some,Option.some.injEq] at e
  rw[s] at e
  have z:x=k:=by simpa using e
  subst z
  have:=congrArg (·[0]?) r
  simp at this
  rw[C j]
  simpa using this
theorem zmy:Rows.laid_pappus_sha_constants (H:=Unit)=.agg (ziO.map λx=>DataW.lit (.int .u32 x)):=by kernel_rfl
theorem zmx:Rows.laid_pappus_sha_first (H:=Unit)=.agg (ziN.map λx=>DataW.lit (.int .u32 x)):=by kernel_rfl
theorem Y9 (h:laidMetH prog jK W):vp W:=by
 rw[MakeChecks.laidMetH_plain _ _ _ (by kernel_rfl)] at h
 obtain⟨ps,⟨p,v,l,n,r,t,c,e,i,a,⟨q,w,m,o,s,u,d,f,k,b,_,_⟩,_⟩,_,_⟩:=h
 obtain rfl:=Option.some.inj (gK.symm.trans c)
 obtain rfl:=Option.some.inj (tK.symm.trans e)
 obtain rfl:=Option.some.inj (gI.symm.trans d)
 obtain rfl:=Option.some.inj (tI.symm.trans f)
 rw[zmy] at a
 rw[zmx] at b
 have K:=zks (g:=3) Tryz.underlying284 (λj=>by rw[Array.getElem?_toList];exact World.var?_cell c i j) a rfl
 have I:=zks (g:=2) Tryz.underlying245 (λj=>by rw[Array.getElem?_toList];exact World.var?_cell d k j) b rfl
 exact⟨⟨K,I⟩,(zaH (K 0 _ rfl)).2⟩
end
section
open Go.ChangeShapes Go.WideShapes Go.Deep
theorem YQ {b o k:Nat}:(⟨b,o,none⟩:Addr).add k=⟨b,o+k,none⟩:=by
 unfold Addr.add
 split
 ·subst_vars;rfl
 ·rfl
theorem Vi {α:Type} {p:Nat→α→Prop} (h:∀i,i<n→∃a,p i a):∃L:List α,L.length=n∧∀i a,L[i]? =some a→p i a:=by
 induction n with
 |zero=>exact⟨[],rfl,λi a h=>by simp at h⟩
 |succ n ih=>
  obtain⟨L,c,e⟩:=ih (λi hi=>h i (by omega))
  obtain⟨a,d⟩:=h n (by omega)
  refine⟨L++[a],by simp[c],λi x b=>?_⟩
  by_cases hi:i<n
  ·rw[List.getElem?_append_left (by omega)] at b;exact e i x b
  ·have:i=n:=by have:=(List.getElem?_eq_some_iff.1 b).1;simp at this;omega
   subst this
   rw[List.getElem?_append_right (by omega)] at b
   simp[c] at b
   exact b▸d
section
variable {H:Type} {enc:TypeId×Value→H} {P:Program} {w:World} {base:Nat} {spare:Nat→Bool} {held:Bool}
theorem zgO {x:DataW H×List MemPlace} (u:P.underlying t=some (.array n e)) (r:P.cellsOf t=n) (q:P.cellsOf e=1) (s:P.underlying e=some (.int .u8))
  (h:DataW.trod enc P w base spare held fuel t cs=some x):∃l:List Int,l.length=n∧(∀y∈l,0≤y∧y≤255)∧cs=l.map (Value.int .u8):=by
 obtain⟨xs,m,_,_,z,v,hi⟩:=DataW.trod_array u h
 obtain⟨l,f,j⟩:=Vi (n:=n) (p:=λi (y:Int)=>cs[i]? =some (.int .u8 y)∧0≤y∧y≤255) (λi d=>by
  have b:=hi i d
  rw[q,getElem?_eq_getElem (by omega)] at b
  obtain⟨y,a,_,g⟩:=DataW.trod_int s b
  have k:IntKind.u8.min=0:=rfl
  have o:IntKind.u8.max=255:=rfl
  simp[Lit.wf,k,o] at g
  refine⟨y,?_,g.1,g.2⟩
  rw[Nat.mul_one] at a
  have c:i<cs.length:=by omega
  rw[List.drop_eq_getElem_cons c] at a
  simp only[List.take_succ_cons,take_zero,List.cons.injEq,and_true] at a
  rw[getElem?_eq_getElem c,a])
 refine⟨l,f,λy a=>?_,?_⟩
 ·obtain⟨i,hi⟩:=List.mem_iff_getElem?.1 a
  exact(j i y hi).2
 ·apply List.ext_getElem?
  intro i
  by_cases d:i<n
  ·have b:l[i]? =some (l[i]'(by omega)):=getElem?_eq_getElem (by omega)
   rw[(j i _ b).1,List.getElem?_map,b]
   rfl
  ·rw[List.getElem?_eq_none (by omega),List.getElem?_eq_none (by simp;omega)]
theorem zdv {α:Type} {f:α→List Value} {ok:α→Prop} {x:DataW H×List MemPlace} (ht:P.underlying t=some (.slice e)) (W:P.cellsOf e=k) (M:0<k) (B:∀a,ok a→(f a).length=k)
  (s:∀(fuel:Nat) (cs:List Value) (x:DataW H×List MemPlace),DataW.trod enc P w base spare held fuel e cs=some x→∃a,ok a∧cs=f a)
  (h:DataW.trod enc P w base spare held fuel t [v]=some x):∃L:List α,(∀a∈L,ok a)∧xQ w v L.length (L.flatMap f):=by
 rcases open_slice ht h with⟨O,_⟩|⟨a,q,cap,m,n,D,Pl,g,hb,hl,S,K,hx,hi⟩
 ·simp only[List.cons.injEq,and_true] at O
  exact⟨[],(λa b=>by cases b),.inl (.inl ⟨O,rfl,rfl⟩)⟩
 ·simp only[List.cons.injEq,and_true] at g
  rw[W] at hi
  have Z:q≤m:=by rw[K];split<;>omega
  by_cases hl0:q=0
  ·subst hl0
   exact⟨[],(λa b=>by cases b),.inr ⟨a,cap,g,rfl,rfl,S⟩⟩
  have hs:a.spot=none∧a.block<w.heap.size:=by
   obtain⟨E,G,o⟩:=hi 0 (by omega)
   obtain⟨y,C,rfl⟩:=s _ _ _ o
   obtain⟨_,I,d⟩:=World.cells?_some G
   have r:=d 0 M
   rw[getElem?_eq_getElem (by rw[B y C];exact M)] at r
   have c:=zaH r
   rw[Nat.zero_mul] at c
   exact⟨by simpa[Addr.add] using congrArg Addr.spot c.1,by simpa[Addr.add] using c.2⟩
  obtain⟨N,A,V⟩:=a
  obtain⟨rfl,F⟩:=hs
  obtain⟨L,X,T⟩:=Vi (n:=q) (p:=λi (y:α)=>ok y∧w.rangeAt N (A+i*k) (f y)) (λi Y=>by
   obtain⟨E,G,o⟩:=hi i (by omega)
   obtain⟨y,C,rfl⟩:=s _ _ _ o
   obtain⟨_,I,d⟩:=World.cells?_some G
   refine⟨y,C,λj u z=>?_⟩
   have l:j<k:=by have:=(List.getElem?_eq_some_iff.1 z).1;rw[B y C] at this;exact this
   have r:=d j l
   rw[YQ,YQ] at r
   rw[r]
   exact z)
  have hok:∀a∈L,ok a:=λa b=>by
   obtain⟨i,hi⟩:=List.mem_iff_getElem?.1 b
   exact(T i a hi).1
  refine⟨L,hok,.inl (.inr ⟨N,A,cap,by rw[X];exact g,by omega,S,λj u z=>?_,F⟩)⟩
  have l:j<L.length*k:=by
   have:=(List.getElem?_eq_some_iff.1 z).1
   rwa [xY f k L (λa b=>B a (hok a b))] at this
  have U:j / k<L.length:=Nat.div_lt_of_lt_mul (by rw[Nat.mul_comm];exact l)
  have hr:j % k<k:=Nat.mod_lt _ M
  have Q:=ZM f k L (λa b=>B a (hok a b)) (j / k) L[j / k] (getElem?_eq_getElem U) (j % k) hr
  rw[Nat.div_add_mod' j k,z] at Q
  have R:=(T (j / k) _ (getElem?_eq_getElem U)).2 (j % k) u Q.symm
  rw[show A+j / k*k+j % k=A+(j / k*k+j % k) by omega,Nat.div_add_mod' j k] at R
  exact R
end
end
section
open Go.ChangeShapes Go.WideShapes Go.Deep
section
variable {H:Type} {enc:TypeId×Value→H} {P:Program} {w:World} {base:Nat} {spare:Nat→Bool} {held:Bool}
theorem zaS {α:Type} {q:α→List Value→Prop} {x:DataW H×List MemPlace} (Y:P.underlying t=some (.slice e)) (S:P.cellsOf e=k) (R:0<k) (Q:∀a cs,q a cs→cs.length=k)
  (z:∀(fuel:Nat) (cs:List Value) (x:DataW H×List MemPlace),DataW.trod enc P w base spare held fuel e cs=some x→∃a,q a cs)
  (h:DataW.trod enc P w base spare held fuel t [v]=some x):∃(L:List α) (va:Option Addr) (vc:Nat),v=.slice va L.length vc∧L.length≤maxLen∧∀(i:Nat) (d:α),L[i]? =some d→∃b off cs,va=some ⟨b,off,none⟩∧w.rangeAt b (off+i*k) cs∧q d cs:=by
 rcases open_slice Y h with⟨N,_⟩|⟨a,o,cap,m,n,D,Z,g,hb,hl,hm,M,hx,hi⟩
 ·simp only[List.cons.injEq,and_true] at N
  exact⟨[],none,0,N,zero_le _,λi d I=>by simp at I⟩
 ·simp only[List.cons.injEq,and_true] at g
  rw[S] at hi
  have V:o≤m:=by rw[M];split<;>omega
  by_cases hl0:o=0
  ·subst hl0
   exact⟨[],some a,cap,g,zero_le _,λi d I=>by simp at I⟩
  have X:a.spot=none:=by
   obtain⟨r,F,l⟩:=hi 0 (by omega)
   obtain⟨y,A⟩:=z _ _ _ l
   obtain⟨_,G,f⟩:=World.cells?_some F
   have s:=f 0 R
   rw[getElem?_eq_getElem (by rw[Q y _ A];exact R)] at s
   have c:=zaH s
   rw[Nat.zero_mul] at c
   simpa[Addr.add] using congrArg Addr.spot c.1
  obtain⟨B,C,E⟩:=a
  obtain rfl:E=none:=X
  obtain⟨L,T,W⟩:=Vi (n:=o) (p:=λi (y:α)=>∃b off cs,(some ⟨B,C,none⟩:Option Addr)=some ⟨b,off,none⟩∧w.rangeAt b (off+i*k) cs∧q y cs) (λi U=>by
   obtain⟨r,F,l⟩:=hi i (by omega)
   obtain⟨y,A⟩:=z _ _ _ l
   obtain⟨_,G,f⟩:=World.cells?_some F
   refine⟨y,B,C,r,rfl,λj u O=>?_,A⟩
   have K:j<k:=by have:=(List.getElem?_eq_some_iff.1 O).1;rw[Q y _ A] at this;exact this
   have s:=f j K
   rw[O,YQ,YQ] at s
   exact s)
  exact⟨L,some ⟨B,C,none⟩,cap,by rw[T];exact g,by omega,W⟩
end
end
section
open Go.ChangeShapes Go.WideShapes Go.Deep
section
variable {H:Type} {enc:TypeId×Value→H} {w:World} {base:Nat} {spare:Nat→Bool} {held:Bool}
theorem zlM {n:Int} (h:(Lit.int .u32 n).wf=true):0≤n∧n≤4294967295:=by
 simp[Lit.wf,IntKind.min,IntKind.max,IntKind.signed,IntKind.bits] at h
 omega
theorem zlN {n:Int} (h:(Lit.int .u64 n).wf=true):0≤n∧n≤18446744073709551615:=by
 simp[Lit.wf,IntKind.min,IntKind.max,IntKind.signed,IntKind.bits] at h
 omega
theorem zcE {x:DataW H×List MemPlace} (h:DataW.trod enc prog w base spare held fuel 45 cs=some x):∃l:List Int,zV l∧cs=l.map zQ:=by
 have d:prog.cellsOf 45=32:=by kernel_rfl
 have c:prog.cellsOf 5=1:=by kernel_rfl
 obtain⟨l,b,a,e⟩:=zgO Tryz.underlying45 d c Tryz.underlying5 h
 exact⟨l,⟨b,a⟩,e⟩
theorem zfJ {x:DataW H×List MemPlace} (h:DataW.trod enc prog w base spare held fuel 56 cs=some x):∃p:zx,p.ok∧cs=zm p:=by
 have i:prog.cellsOf 45=32:=by kernel_rfl
 have j:prog.cellsOf 56=33:=by kernel_rfl
 have k:prog.cellsOf 24=1:=by kernel_rfl
 obtain⟨e,n,_,_,q,d,g⟩:=DataW.trod_struct Tryz.underlying56 h
 have a:DataW.trod enc prog w base spare held n 45 ((cs.drop 0).take (prog.cellsOf 45))=e[0]? :=g 0 _ rfl
 have b:DataW.trod enc prog w base spare held n 24 ((cs.drop 32).take (prog.cellsOf 24))=e[1]? :=g 1 _ rfl
 rw[i] at a
 rw[k] at b
 rw[j] at q
 have r:e.length=2:=d
 rw[getElem?_eq_getElem (by omega)] at a b
 obtain⟨l,c,f⟩:=zcE a
 obtain⟨s,m,_,t⟩:=DataW.trod_int Tryz.underlying24 b
 refine⟨⟨l,s⟩,⟨c,zlM t⟩,?_⟩
 rw[drop_zero] at f
 have o:cs.drop 32=[.int .u32 s]:=by rw[←m,take_of_length_le (by rw[length_drop];omega)]
 show cs=l.map zQ++[.int .u32 s]
 rw[←f,←o,take_append_drop]
theorem ziW {x:DataW H×List MemPlace} (h:DataW.trod enc prog w base spare held fuel 58 cs=some x):∃o:yC,o.ok∧cs=zF o:=by
 have i:prog.cellsOf 45=32:=by kernel_rfl
 have j:prog.cellsOf 58=33:=by kernel_rfl
 have k:prog.cellsOf 42=1:=by kernel_rfl
 obtain⟨e,n,_,_,q,d,g⟩:=DataW.trod_struct Tryz.underlying58 h
 have a:DataW.trod enc prog w base spare held n 42 ((cs.drop 0).take (prog.cellsOf 42))=e[0]? :=g 0 _ rfl
 have b:DataW.trod enc prog w base spare held n 45 ((cs.drop 1).take (prog.cellsOf 45))=e[1]? :=g 1 _ rfl
 rw[k] at a
 rw[i] at b
 rw[j] at q
 have r:e.length=2:=d
 rw[getElem?_eq_getElem (by omega)] at a b
 obtain⟨s,f,_,t⟩:=DataW.trod_int Tryz.underlying42 a
 obtain⟨l,c,m⟩:=zcE b
 refine⟨⟨s,l⟩,⟨zlN t,c⟩,?_⟩
 rw[drop_zero] at f
 have p:cs.drop 1=l.map zQ:=by rw[←m,take_of_length_le (by rw[length_drop];omega)]
 show cs=[.int .u64 s]++l.map zQ
 rw[←f,←p,take_append_drop]
end
end
section
open Go.ChangeShapes Go.WideShapes Go.Deep
section
variable {H:Type} {enc:TypeId×Value→H} {w:World} {base:Nat} {spare:Nat→Bool} {held:Bool}
theorem jW {x:DataW H×List MemPlace} (h:DataW.trod enc prog w base spare held fuel 22 [v]=some x):∃L,xg w v L:=
 zdv Tryz.underlying22 (k:=33) (by kernel_rfl) (by decide) (λa=>yq) (λ_ _ _ h=>ziW h) h
theorem zjV {x:DataW H×List MemPlace} (h:DataW.trod enc prog w base spare held fuel 110 [v]=some x):∃k,zbE w v k:=by
 obtain⟨L,ok,d⟩:=zdv (f:=λb:Int=>[zQ b]) (ok:=λb:Int=>0≤b∧b≤255) Tryz.underlying110 (k:=1) (by kernel_rfl) (by decide) (λa _=>rfl) (λfuel cs x h=>by
  obtain⟨k,e,_,c⟩:=DataW.trod_int Tryz.underlying5 h
  have g:IntKind.u8.min=0:=rfl
  have i:IntKind.u8.max=255:=rfl
  simp[Lit.wf,g,i] at c
  exact⟨k,⟨c.1,c.2⟩,e⟩) h
 refine⟨L,ok,?_⟩
 have:L.flatMap (λb:Int=>[zQ b])=L.map zQ:=by
  clear d ok
  induction L with
  |nil=>rfl
  |cons a l ih=>simp[ih]
 rwa [this] at d
theorem zmD (b:cs.length=n) (a:k+1=n):∃u,cs.drop k=[u]:=by
 have:(cs.drop k).length=1:=by rw[length_drop];omega
 exact List.length_eq_one_iff.1 this
theorem zlE {x:DataW H×List MemPlace} (h:DataW.trod enc prog w base spare held fuel 112 cs=some x):∃d,InQ w d cs:=by
 have c1:prog.cellsOf 56=33:=by kernel_rfl
 have c2:prog.cellsOf 110=1:=by kernel_rfl
 have q:prog.cellsOf 112=34:=by kernel_rfl
 obtain⟨f,n,_,_,l,c,i⟩:=DataW.trod_struct Tryz.underlying112 h
 have b:DataW.trod enc prog w base spare held n 56 ((cs.drop 0).take (prog.cellsOf 56))=f[0]? :=i 0 _ rfl
 have a:DataW.trod enc prog w base spare held n 110 ((cs.drop 33).take (prog.cellsOf 110))=f[1]? :=i 1 _ rfl
 rw[c1] at b
 rw[c2] at a
 rw[q] at l
 have s:f.length=2:=c
 rw[getElem?_eq_getElem (by omega)] at b a
 obtain⟨p,e,r⟩:=zfJ b
 obtain⟨u,g⟩:=zmD l (k:=33) rfl
 rw[g,take_of_length_le (by simp)] at a
 obtain⟨k,j⟩:=zjV a
 obtain⟨m,o,rfl⟩:=j.2.form
 refine⟨⟨p,k⟩,m,o,?_,e,j⟩
 show cs=zm p++[.slice m k.length o]
 rw[←r,←g,drop_zero,take_append_drop]
theorem zjU {x:DataW H×List MemPlace} (h:DataW.trod enc prog w base spare held fuel 25 [v]=some x):∃L,Vw w v L:=by
 obtain⟨L,d,f,e,b,c⟩:=zaS (q:=InQ w) Tryz.underlying25 (k:=34) (by kernel_rfl) (by decide) (λa cs ⟨_,_,e,ok,_⟩=>by rw[e];exact jf ok _) (λ_ _ _ h=>zlE h) h
 exact⟨L,d,f,e,b,c⟩
theorem zep {x:DataW H×List MemPlace} (h:DataW.trod enc prog w base spare held fuel 27 cs=some x):∃d,TxQ w d cs:=by
 have c1:prog.cellsOf 24=1:=by kernel_rfl
 have c2:prog.cellsOf 25=1:=by kernel_rfl
 have s:prog.cellsOf 22=1:=by kernel_rfl
 have t:prog.cellsOf 27=3:=by kernel_rfl
 obtain⟨i,n,_,_,r,m,j⟩:=DataW.trod_struct Tryz.underlying27 h
 have e:DataW.trod enc prog w base spare held n 24 ((cs.drop 0).take (prog.cellsOf 24))=i[0]? :=j 0 _ rfl
 have f:DataW.trod enc prog w base spare held n 25 ((cs.drop 1).take (prog.cellsOf 25))=i[1]? :=j 1 _ rfl
 have g:DataW.trod enc prog w base spare held n 22 ((cs.drop 2).take (prog.cellsOf 22))=i[2]? :=j 2 _ rfl
 rw[c1] at e
 rw[c2] at f
 rw[s] at g
 rw[t] at r
 have y:i.length=3:=m
 rw[getElem?_eq_getElem (by omega)] at e f g
 match cs,r with
 |[a,b,c],_=>
  simp only[drop_zero,List.drop_succ_cons,List.take_succ_cons,take_zero] at e f g
  obtain⟨k,o,_,l⟩:=DataW.trod_int Tryz.underlying24 e
  simp only[List.cons.injEq,and_true] at o
  subst o
  obtain⟨I,p⟩:=zjU f
  obtain⟨O,q⟩:=jW g
  obtain⟨z,A,rfl⟩:=p.form
  obtain⟨B,C,rfl⟩:=q.2.form
  have u:IntKind.u32.min=0:=rfl
  have v:IntKind.u32.max=4294967295:=rfl
  simp[Lit.wf,u,v] at l
  exact⟨⟨k,I,O⟩,z,A,B,C,rfl,⟨l.1,l.2⟩,p,q⟩
theorem TxQ.len3 {w:World} {t:TxD} (h:TxQ w t cs):cs.length=3:=by
 obtain⟨_,_,_,_,rfl,_⟩:=h
 rfl
theorem zjW {x:DataW H×List MemPlace} (h:DataW.trod enc prog w base spare held fuel 50 [v]=some x):∃L,j7 w v L:=by
 obtain⟨L,d,f,e,b,c⟩:=zaS (q:=TxQ w) Tryz.underlying50 (k:=3) (by kernel_rfl) (by decide) (λa cs h=>h.len3) (λ_ _ _ h=>zep h) h
 exact⟨L,d,f,e,b,c⟩
theorem zkw {x:DataW H×List MemPlace} (h:DataW.trod enc prog w base spare held fuel 65 cs=some x):∃d,vG w d cs:=by
 have c1:prog.cellsOf 42=1:=by kernel_rfl
 have c2:prog.cellsOf 22=1:=by kernel_rfl
 have s:prog.cellsOf 50=1:=by kernel_rfl
 have t:prog.cellsOf 65=3:=by kernel_rfl
 obtain⟨i,n,_,_,r,m,j⟩:=DataW.trod_struct Tryz.underlying65 h
 have e:DataW.trod enc prog w base spare held n 42 ((cs.drop 0).take (prog.cellsOf 42))=i[0]? :=j 0 _ rfl
 have f:DataW.trod enc prog w base spare held n 22 ((cs.drop 1).take (prog.cellsOf 22))=i[1]? :=j 1 _ rfl
 have g:DataW.trod enc prog w base spare held n 50 ((cs.drop 2).take (prog.cellsOf 50))=i[2]? :=j 2 _ rfl
 rw[c1] at e
 rw[c2] at f
 rw[s] at g
 rw[t] at r
 have y:i.length=3:=m
 rw[getElem?_eq_getElem (by omega)] at e f g
 match cs,r with
 |[a,b,c],_=>
  simp only[drop_zero,List.drop_succ_cons,List.take_succ_cons,take_zero] at e f g
  obtain⟨k,o,_,l⟩:=DataW.trod_int Tryz.underlying42 e
  simp only[List.cons.injEq,and_true] at o
  subst o
  obtain⟨O,q⟩:=jW f
  obtain⟨I,p⟩:=zjW g
  obtain⟨B,C,rfl⟩:=q.2.form
  obtain⟨z,A,rfl⟩:=p.form
  have u:IntKind.u64.min=0:=rfl
  have v:IntKind.u64.max=18446744073709551615:=rfl
  simp[Lit.wf,u,v] at l
  exact⟨⟨k,O,I⟩,B,C,z,A,rfl,⟨l.1,l.2⟩,q,p⟩
end
end
def j8 (S:List zn) (t:TxD):List zn:=(z6 t).map λq=>⟨q,zZ S q⟩
def JI (S:List zn) (t:TxD):List yC:=(z6 t).map (zZ S)
def yN (t:TxD):List zn:=Zn (idH t) t.outs
def spE (S:List zn) (t:TxD):Int:=
 if(z6 t).all (yV S)=true then
  (if Jc t (JI S t)=0 then(if jD (x9 S (z6 t)) (yN t)=0 then 0 else 10) else Jc t (JI S t))
 else 15
def spS (S:List zn) (t:TxD):List zn:=if spE S t=0 then jQ (x9 S (z6 t)) (yN t) else S
def spG (S:List zn) (t:TxD):YM:=⟨j8 S t,(yN t).map (·.at_)⟩
theorem jP (t:TxD):(z6 t).length=t.ins.length:=by simp[z6]
theorem zaQ (t:TxD):(yN t).length=t.outs.length:=qZ _ _
theorem Qw (S:List zn) (t:TxD):(JI S t).length=t.ins.length:=by simp[JI,z6]
theorem JB (S:List zn) (t:TxD):(j8 S t).length=t.ins.length:=by simp[j8,z6]
theorem za8 (t:TxD):((yN t).map (·.at_)).Nodup:=Xd _ _
theorem zfG (S:List zn) (t:TxD):(j8 S t).map (·.at_)=z6 t:=by simp[j8,Function.comp_def]
theorem jd {t:TxD} (h:yR t=0):qK t=true∧t.ins≠[]∧t.outs≠[]∧(z6 t).Nodup∧(∀x∈t.outs,jb x=false)∧vq t.outs≤1125899906842624:=by
 unfold yR at h
 split at h
 ·rename_i h1
  split at h
  ·cases h
  ·rename_i h2
   split at h
   ·cases h
   ·rename_i h3
    split at h
    ·cases h
    ·rename_i h4
     split at h
     ·rename_i h5
      have a:t.outs.any jb=false:=by simpa using h3
      exact⟨h1,λe=>h2 (.inl (by rw[e];rfl)),λe=>h2 (.inr (by rw[e];rfl)),h5,λx b=>by simpa using List.any_eq_false.1 a x b,by omega⟩
     ·cases h
 ·cases h
theorem zdd {t:TxD} {prev:List yC} (h:Jc t prev=0):yR t=0:=by
 unfold Jc at h
 split at h
 ·rename_i h1;exact h1
 ·exact h
theorem Qu {S:List zn} (srt:qF S) {q:zx} (h:yV S q=true):(⟨q,zZ S q⟩:zn)∈S:=by
 obtain⟨c,b,e⟩:=qt.1 h
 have a:=YW srt b
 rw[e] at a
 have:zZ S q=c.out:=by unfold zZ;rw[a];rfl
 rw[this,←e]
 exact b
theorem zdt {S:List zn} (srt:qF S) {t:TxD} (h:(z6 t).all (yV S)=true) {x:zn}:x∈j8 S t↔x∈S∧x.at_∈z6 t:=by
 unfold j8
 rw[mem_map]
 constructor
 ·rintro⟨q,a,rfl⟩
  exact⟨Qu srt (all_eq_true.1 h q a),a⟩
 ·rintro⟨b,c⟩
  refine⟨x.at_,c,?_⟩
  have:=YW srt b
  have e:zZ S x.at_=x.out:=by unfold zZ;rw[this];rfl
  rw[e]
theorem zfH {S:List zn} (ok:∀c∈S,c.ok) {t:TxD} (d:∀x∈t.ins,x.from_.ok):∀c∈j8 S t,c.ok:=by
 intro c a
 obtain⟨q,b,rfl⟩:=mem_map.1 a
 obtain⟨x,e,rfl⟩:=mem_map.1 b
 exact⟨d x e,qB ok _⟩
theorem zj6 {S:List zn} (ok:∀c∈S,c.ok) (t:TxD):∀x∈JI S t,x.ok:=by
 intro x a
 obtain⟨q,_,rfl⟩:=mem_map.1 a
 exact qB ok q
theorem Yw {t:TxD} (a:∀x∈t.outs,x.ok) (b:t.outs.length≤1000):∀c∈yN t,c.ok:=zad (jJ t) a (by omega)
theorem zfF {S:List zn} {ps:List zx} (a:ps.Nodup) (b:ps.all (yV S)=true):Xo S ps=0∧JK S ps=x9 S ps:=by
 have e:Xo S ps=0:=by unfold Xo;rw[if_pos a,if_pos b]
 exact⟨e,by unfold JK;rw[if_pos e]⟩
theorem zfs {S:List zn} (srt:qF S) {t:TxD} (h:(z6 t).all (yV S)=true) (g:(z6 t).Nodup):jD (x9 S (z6 t)) (j8 S t)=0∧JQ (x9 S (z6 t)) (j8 S t)=S:=by
 have b:∀c∈j8 S t,yV (x9 S (z6 t)) c.at_=false:=λc j=>by
  rw[ZN]
  intro d k e
  have:=(jV.1 k).2
  rw[e] at this
  exact this ((zdt srt h).1 j).2
 have f:=zeg (by rw[zfG];exact g) b
 refine⟨f.1,?_⟩
 rw[f.2]
 refine qF.same (JJ (Zv srt) (by rw[zfG];exact g) b) srt (λx=>?_)
 rw[qL,jV,zdt srt h]
 constructor
 ·rintro(⟨a,_⟩|⟨a,_⟩)<;>exact a
 ·intro i
  by_cases hp:x.at_∈z6 t
  ·exact .inr ⟨i,hp⟩
  ·exact .inl ⟨i,hp⟩
theorem zaf {S l:List zn} (h:jD S l=0):(l.map (·.at_)).Nodup∧∀c∈l,yV S c.at_=false:=by
 unfold jD at h
 split at h
 ·rename_i h1
  split at h
  ·cases h
  ·rename_i h2
   refine⟨h1,λc b=>?_⟩
   have a:l.any (λc=>yV S c.at_)=false:=by simpa using h2
   simpa using List.any_eq_false.1 a c b
 ·cases h
theorem zdE {S l:List zn} (srt:qF S) (h:jD S l=0):JK (jQ S l) (l.map (·.at_))=S:=by
 obtain⟨g,f⟩:=zaf h
 have j:(l.map (·.at_)).all (yV (jQ S l))=true:=all_eq_true.2 λq m=>by
  obtain⟨c,d,rfl⟩:=mem_map.1 m
  exact qt.2 ⟨c,qL.2 (.inr d),rfl⟩
 rw[(zfF g j).2]
 refine qF.same (Zv (JJ srt g f)) srt (λx=>?_)
 rw[jV,qL]
 constructor
 ·rintro⟨a|a,b⟩
  ·exact a
  ·exact absurd (mem_map.2 ⟨x,a,rfl⟩) b
 ·intro i
  refine⟨.inl i,λk=>?_⟩
  obtain⟨c,d,e⟩:=mem_map.1 k
  exact(ZN.1 (f c d)) x i e.symm
theorem sp0 {S:List zn} {t:TxD} (h:spE S t=0):(z6 t).all (yV S)=true∧Jc t (JI S t)=0∧jD (x9 S (z6 t)) (yN t)=0:=by
 unfold spE at h
 split at h
 ·rename_i h1
  split at h
  ·rename_i h2
   split at h
   ·rename_i h3
    exact⟨h1,h2,h3⟩
   ·cases h
  ·rename_i h2
   exact absurd h h2
 ·cases h
theorem zlA {S:List zn} (srt:qF S) (t:TxD):qF (spS S t):=by
 unfold spS
 split
 ·rename_i h
  obtain⟨_,_,c⟩:=sp0 h
  obtain⟨a,b⟩:=zaf c
  exact JJ (Zv srt) a b
 ·exact srt
theorem zmM {S:List zn} (ok:∀c∈S,c.ok) {t:TxD} (d:∀x∈t.outs,x.ok) (b:t.outs.length≤1000):∀c∈spS S t,c.ok:=by
 unfold spS
 split
 ·intro c a
  rcases qL.1 a with h|h
  ·exact ok c (jV.1 h).1
  ·exact Yw d b c h
 ·exact ok
theorem zlz (S:List zn) (t:TxD):(spS S t).length≤S.length+t.outs.length:=by
 unfold spS
 split
 ·rw[(Zu _ _).length_eq,length_append,zaQ]
  have:(x9 S (z6 t)).length≤S.length:=List.length_filter_le _ _
  omega
 ·omega
theorem zlB {S:List zn} (srt:qF S) {t:TxD} (h:spE S t=0):JQ (JK (spS S t) (spG S t).made) (spG S t).took=S:=by
 obtain⟨a,b,c⟩:=sp0 h
 have d:=jd (zdd b)
 have e:spS S t=jQ (x9 S (z6 t)) (yN t):=by unfold spS;rw[if_pos h]
 rw[e]
 show JQ (JK (jQ (x9 S (z6 t)) (yN t)) ((yN t).map (·.at_))) (j8 S t)=S
 rw[zdE (Zv srt) c]
 exact(zfs srt a d.2.2.2.1).2
structure StD where
 S:List zn
 ids:List zf
 chg:List YM
def txE (K:List zf) (s:StD) (t:TxD):Int:=if yR t=0 then(if idH t∈K∨idH t∈s.ids then 19 else spE s.S t) else yR t
def txS (s:StD) (t:TxD):StD:=⟨spS s.S t,s.ids++[idH t],s.chg++[spG s.S t]⟩
def runT (K:List zf):List TxD→StD→Int×StD
 |[],s=>(0,s)
 |t::l,s=>if txE K s t=0 then runT K l (txS s t) else(txE K s t,s)
theorem Qy {K:List zf} {t:TxD} {l:List TxD} {s:StD} (h:txE K s t=0):runT K (t::l) s=runT K l (txS s t):=by
 rw[runT,if_pos h]
theorem zaj {K:List zf} {t:TxD} {l:List TxD} {s:StD} (h:txE K s t≠0):runT K (t::l) s=(txE K s t,s):=by
 rw[runT,if_neg h]
theorem tx0 {K:List zf} {s:StD} {t:TxD} (h:txE K s t=0):yR t=0∧idH t∉K∧idH t∉s.ids∧spE s.S t=0:=by
 unfold txE at h
 split at h
 ·rename_i h1
  split at h
  ·cases h
  ·rename_i h2
   exact⟨h1,λe=>h2 (.inl e),λe=>h2 (.inr e),h⟩
 ·rename_i h1
  exact absurd h h1
def st0 (S:List zn):StD:=⟨S,[],[]⟩
def doR (K:List zf) (S:List zn) (b:qf):DoR:=
 if(runT K b.txs (st0 S)).1=0 then
  (if jD (runT K b.txs (st0 S)).2.S (vH b)=0 then⟨0,jQ (runT K b.txs (st0 S)).2.S (vH b),⟨b,(runT K b.txs (st0 S)).2.ids,(runT K b.txs (st0 S)).2.chg++[⟨[],(vH b).map (·.at_)⟩]⟩⟩
   else⟨10,(runT K b.txs (st0 S)).2.S,⟨b,(runT K b.txs (st0 S)).2.ids,(runT K b.txs (st0 S)).2.chg⟩⟩)
 else⟨(runT K b.txs (st0 S)).1,(runT K b.txs (st0 S)).2.S,⟨b,(runT K b.txs (st0 S)).2.ids,(runT K b.txs (st0 S)).2.chg⟩⟩
structure zcL (S0:List zn) (K:List zf) (n:Nat) (s:StD):Prop where
 srt:qF s.S
 ok:∀c∈s.S,c.ok
 len:s.S.length≤S0.length+8*n
 undo:xP s.chg s.S=S0
 il:s.ids.length=n
 cl:s.chg.length=n
 took:Jh s.chg≤16*n
 new:∀x∈s.ids,x∉K
 iok:∀x∈s.ids,zV x
theorem zcD (l:List YM) (c:YM):Jh (l++[c])=Jh l+(c.took.length+c.made.length):=by simp[Jh]
theorem zcH (l:List YM) (c:YM) (S:List zn):xP (l++[c]) S=xP l (JQ (JK S c.made) c.took):=by simp[xP,List.foldr_append]
theorem zcL.start {S:List zn} (srt:qF S) (ok:∀c∈S,c.ok) (K:List zf):zcL S K 0 (st0 S):=
 ⟨srt,ok,le_refl _,rfl,rfl,rfl,le_refl _,λx h=>(by cases h),λx h=>(by cases h)⟩
theorem zlU {t:TxD} (h:qK t=true):t.ins.length≤8∧t.outs.length≤8:=⟨(xe.1 h).2.1,(xe.1 h).2.2⟩
theorem zcL.step {e:List zn} {K:List zf} {s:StD} (h:zcL e K n s) {t:TxD} (k:∀x∈t.outs,x.ok) (f:txE K s t=0):zcL e K (n+1) (txS s t):=by
 obtain⟨g,i,l,j⟩:=tx0 f
 have m:=zlU (jd g).1
 refine⟨zlA h.srt t,zmM h.ok k (by omega),?_,?_,?_,?_,?_,?_,?_⟩
 ·have a:=zlz s.S t
  have b:=h.len
  show(spS s.S t).length≤_
  omega
 ·show xP (s.chg++[spG s.S t]) (spS s.S t)=e
  rw[zcH,zlB h.srt j]
  exact h.undo
 ·show(s.ids++[idH t]).length=_
  rw[length_append,h.il];rfl
 ·show(s.chg++[spG s.S t]).length=_
  rw[length_append,h.cl];rfl
 ·show Jh (s.chg++[spG s.S t])≤_
  rw[zcD]
  have a:=h.took
  have b:(spG s.S t).took.length=t.ins.length:=JB _ _
  have c:(spG s.S t).made.length=t.outs.length:=by show((yN t).map (·.at_)).length=_;rw[List.length_map,zaQ]
  omega
 ·intro x d
  rcases mem_append.1 d with d|d
  ·exact h.new x d
  ·simp at d;subst d;exact i
 ·intro x d
  rcases mem_append.1 d with d|d
  ·exact h.iok x d
  ·simp at d;subst d;exact jJ t
theorem zhv {a:List zn} {K:List zf}:∀(l:List TxD) {n:Nat} {s:StD},zcL a K n s→(∀t∈l,∀x∈t.outs,x.ok)→∃m,m≤n+l.length∧zcL a K m (runT K l s).2
 |[],n,s,h,_=>⟨n,le_refl _,h⟩
 |t::l,n,s,h,ho=>by
  by_cases h0:txE K s t=0
  ·rw[Qy h0]
   obtain⟨m,d,b⟩:=zhv l (h.step (ho t (.head _)) h0) (λu c=>ho u (.tail _ c))
   exact⟨m,by simp only[List.length_cons];omega,b⟩
  ·rw[zaj h0]
   exact⟨n,by omega,h⟩
theorem zdZ {K:List zf} {S:List zn} (srt:qF S) (ok:∀c∈S,c.ok) {b:qf} (e:∀t∈b.txs,∀x∈t.outs,x.ok) (j:∀x∈b.pay,x.ok) (p:b.txs.length≤16) (g:b.pay.length≤8):
  qF (doR K S b).S∧(∀c∈(doR K S b).S,c.ok)∧(doR K S b).S.length≤S.length+136∧xP (doR K S b).d.chg (doR K S b).S=S∧(doR K S b).d.blk=b∧(doR K S b).d.ids.length≤16∧(doR K S b).d.chg.length≤17∧Jh (doR K S b).d.chg≤264∧(∀x∈(doR K S b).d.ids,x∉K)∧∀x∈(doR K S b).d.ids,zV x:=by
 obtain⟨m,q,h⟩:=zhv b.txs (zcL.start srt ok K) e
 have i:m≤16:=by omega
 have k:=h.len
 have l:=h.il
 have n:=h.cl
 have o:=h.took
 unfold doR
 split
 ·split
  ·rename_i hz hput
   obtain⟨a,c⟩:=zaf hput
   refine⟨JJ h.srt a c,?_,?_,?_,rfl,?_,?_,?_,h.new,h.iok⟩
   ·intro x d
    rcases qL.1 d with d|d
    ·exact h.ok x d
    ·exact zad (zbr b) j (by omega) x d
   ·show(jQ _ _).length≤_
    rw[(Zu _ _).length_eq,length_append,zcp]
    omega
   ·show xP (_++[_]) (jQ _ _)=S
    rw[zcH]
    show xP _ (JQ (JK (jQ _ _) ((vH b).map (·.at_))) [])=S
    rw[zdE h.srt hput]
    rw[show JQ (runT K b.txs (st0 S)).2.S []=(runT K b.txs (st0 S)).2.S from(zeg (by simp) (λc f=>by cases f)).2]
    exact h.undo
   ·dsimp only
    omega
   ·dsimp only
    rw[length_append]
    simp
    omega
   ·dsimp only
    rw[zcD]
    simp only[List.length_nil,List.length_map,zcp]
    omega
  ·exact⟨h.srt,h.ok,(by dsimp only;omega),h.undo,rfl,(by dsimp only;omega),(by dsimp only;omega),(by dsimp only;omega),h.new,h.iok⟩
 ·exact⟨h.srt,h.ok,(by dsimp only;omega),h.undo,rfl,(by dsimp only;omega),(by dsimp only;omega),(by dsimp only;omega),h.new,h.iok⟩
def qs (K:List zf) (S:List zn) (bs:List yx) (b:qf):Int:=if 1024≤bs.length then 18 else if vy b=true then(if b.pay.any jb=true then 11 else(doR K S b).E) else 5
def Ys (K:List zf) (S:List zn) (bs:List yx) (b:qf):List zn:=if qs K S bs b=0 then(doR K S b).S else S
def ZH (K:List zf) (S:List zn) (bs:List yx) (b:qf):List yx:=if qs K S bs b=0 then bs++[(doR K S b).d] else bs
theorem zjo {K:List zf} {S:List zn} {a:List yx} {b:qf} (h:qs K S a b=0):a.length<1024∧vy b=true∧b.pay.any jb=false∧(doR K S b).E=0:=by
 unfold qs at h
 split at h
 ·cases h
 ·split at h
  ·split at h
   ·cases h
   ·exact⟨by omega,‹_›,by simpa using ‹¬(b.pay.any jb=true)›,h⟩
  ·cases h
theorem zne {K:List zf} {S:List zn} {b:qf} (h:(doR K S b).E=0):(runT K b.txs (st0 S)).1=0∧jD (runT K b.txs (st0 S)).2.S (vH b)=0∧(doR K S b).S=jQ (runT K b.txs (st0 S)).2.S (vH b)∧(doR K S b).d=⟨b,(runT K b.txs (st0 S)).2.ids,(runT K b.txs (st0 S)).2.chg++[⟨[],(vH b).map (·.at_)⟩]⟩:=by
 unfold doR at h⊢
 split at h
 ·rename_i h1
  split at h
  ·rename_i h2
   rw[if_pos h1,if_pos h2]
   exact⟨h1,h2,rfl,rfl⟩
  ·cases h
 ·rename_i h1
  exact absurd h h1
def BOk (b:qf):Prop:=(∀t∈b.txs,(∀x∈t.ins,x.from_.ok)∧∀x∈t.outs,x.ok)∧∀x∈b.pay,x.ok
theorem j7.oks {L:List TxD} (h:j7 w v L):∀t∈L,(∀x∈t.ins,x.from_.ok)∧∀x∈t.outs,x.ok:=λt b=>by
 obtain⟨i,hi⟩:=List.mem_iff_getElem?.1 b
 obtain⟨_,_,_,_,_,_,a⟩:=h.at_ hi
 exact a.oks
theorem vG.oks {b:qf} (h:vG w b cs):BOk b:=by
 obtain⟨_,_,_,_,_,_,a,c⟩:=h
 exact⟨c.oks,a.1⟩
def zS (bs:List yx):List zf:=bs.flatMap (·.ids)
theorem Vl (a:List yx) (d:yx):zS (a++[d])=zS a++d.ids:=by simp[zS]
inductive zaw (S0:List zn):List yx→List zn→Prop
 |nil:zaw S0 [] S0
 |snoc {bs:List yx} {S:List zn} {b:qf} (h:zaw S0 bs S) (hb:BOk b) (hc:qs (zS bs) S bs b=0):zaw S0 (bs++[(doR (zS bs) S b).d]) (doR (zS bs) S b).S
theorem zaw.last {g:List zn} {a:List yx} {d:yx} {S:List zn} (h:zaw g (a++[d]) S):∃c,zaw g a c∧BOk d.blk∧qs (zS a) c a d.blk=0∧d=(doR (zS a) c d.blk).d∧S=(doR (zS a) c d.blk).S:=by
 generalize i:a++[d]=l at h
 cases h with
 |nil=>simp at i
 |@snoc bs' c b h hb hc=>
  obtain⟨j,f⟩:=List.append_inj' i rfl
  simp only[List.cons.injEq,and_true] at f
  subst j
  have e:d.blk=b:=by
   rw[f]
   rw[(zne (zjo hc).2.2.2).2.2.2]
  exact⟨c,h,by rw[e];exact hb,by rw[e];exact hc,by rw[e];exact f,by rw[e]⟩
theorem Qk {b:qf} (h:vy b=true):b.pay.length≤8∧b.txs.length≤16∧∀t∈b.txs,qK t=true:=by
 simp only[vy,Bool.and_eq_true,decide_eq_true_eq,all_eq_true] at h
 exact⟨h.1,h.2.1,h.2.2⟩
structure HOk (S0:List zn) (bs:List yx) (S:List zn):Prop where
 srt:qF S
 ok:∀c∈S,c.ok
 len:S.length≤S0.length+136*bs.length
 ds:∀d∈bs,d.ids.length≤16∧d.chg.length≤17∧Jh d.chg≤264∧(∀x∈d.ids,zV x)∧BOk d.blk∧vy d.blk=true
theorem zaw.good {e:List zn} {f:List yx} {S:List zn} (h:zaw e f S) (srt:qF e) (ok:∀c∈e,c.ok):HOk e f S:=by
 induction h with
 |nil=>exact⟨srt,ok,by simp,λd h=>by cases h⟩
 |@snoc f S b h hb hc ih=>
  obtain⟨u,j,v,w⟩:=zjo hc
  obtain⟨q,r,x⟩:=Qk j
  obtain⟨k,l,s,-,i,m,n,o,-,g⟩:=zdZ (K:=zS f) ih.srt ih.ok (λt p=>(hb.1 t p).2) hb.2 r q
  refine⟨k,l,?_,λd a=>?_⟩
  ·have:=ih.len
   rw[length_append]
   simp only[List.length_cons,List.length_nil]
   omega
  ·rcases mem_append.1 a with a|a
   ·exact ih.ds d a
   ·simp at a
    subst a
    exact⟨m,n,o,g,by rw[i];exact hb,by rw[i];exact j⟩
theorem zaw.undo {b:List zn} {a:List yx} {d:yx} {S:List zn} (h:zaw b (a++[d]) S) (srt:qF b) (ok:∀c∈b,c.ok):zaw b a (xP d.chg S)∧qs (zS a) (xP d.chg S) a d.blk=0∧d=(doR (zS a) (xP d.chg S) d.blk).d∧S=(doR (zS a) (xP d.chg S) d.blk).S∧BOk d.blk∧∀x∈d.ids,x∉zS a:=by
 obtain⟨m,j,f,k,e,i⟩:=h.last
 have l:=j.good srt ok
 obtain⟨v,p,w,y⟩:=zjo k
 obtain⟨s,u,z⟩:=Qk p
 obtain⟨-,-,-,g,-,-,-,-,n,-⟩:=zdZ (K:=zS a) l.srt l.ok (λt q=>(f.1 t q).2) f.2 u s
 have o:xP d.chg S=m:=by rw[←e,←i] at g;exact g
 rw[o]
 exact⟨j,k,e,i,f,λx r=>n x (by rw[←e];exact r)⟩
theorem VX {c:List yx} {d:yx} (h:∀x∈d.ids,x∉zS c):∀x,x∈(zS (c++[d])).filter (λx=> !decide (x∈d.ids))↔x∈zS c:=λx=>by
 rw[Vl]
 simp only[List.mem_filter,mem_append,Bool.not_eq_true',decide_eq_false_iff_not]
 constructor
 ·rintro⟨a|a,b⟩
  ·exact a
  ·exact absurd a b
 ·intro a
  exact⟨.inl a,λe=>h x e a⟩
def cnt (S:List zn) (p:zx):Int:=if yV S p=true then 1 else 0
theorem zc6 {l:List zx} (h:l.Nodup) (p:zx):(l.count p:Int)=if p∈l then 1 else 0:=by
 split
 ·rename_i hm
  have:=List.nodup_iff_count.1 h p
  have:=List.count_pos_iff.2 hm
  omega
 ·rename_i hm
  rw[List.count_eq_zero.2 hm];rfl
theorem zb1 {S l:List zn} {p:zx}:yV (jQ S l) p=true↔yV S p=true∨p∈l.map (·.at_):=by
 rw[qt,qt,mem_map]
 constructor
 ·rintro⟨c,a,e⟩
  rcases qL.1 a with h|h
  ·exact .inl ⟨c,h,e⟩
  ·exact .inr ⟨c,h,e⟩
 ·rintro(⟨c,a,e⟩|⟨c,a,e⟩)
  ·exact⟨c,qL.2 (.inl a),e⟩
  ·exact⟨c,qL.2 (.inr a),e⟩
theorem Qo {S:List zn} {ps:List zx} {p:zx}:yV (x9 S ps) p=true↔yV S p=true∧p∉ps:=by
 rw[qt,qt]
 constructor
 ·rintro⟨c,d,e⟩
  obtain⟨a,b⟩:=jV.1 d
  exact⟨⟨c,a,e⟩,e▸b⟩
 ·rintro⟨⟨c,d,e⟩,h⟩
  exact⟨c,jV.2 ⟨d,e▸h⟩,e⟩
theorem zg3 {S l:List zn} (h:jD S l=0) (p:zx):cnt (jQ S l) p=cnt S p+((l.map (·.at_)).count p:Int):=by
 obtain⟨a,b⟩:=zaf h
 rw[zc6 a]
 unfold cnt
 by_cases hp:p∈l.map (·.at_)
 ·have f:yV S p=false:=by
   obtain⟨c,d,rfl⟩:=mem_map.1 hp
   exact b c d
  rw[if_pos (zb1.2 (.inr hp)),f,if_pos hp]
  rfl
 ·by_cases hs:yV S p=true
  ·rw[if_pos (zb1.2 (.inl hs)),if_pos hs,if_neg hp];rfl
  ·rw[if_neg (λe=>(zb1.1 e).elim hs hp),if_neg hs,if_neg hp];rfl
theorem zjn {S:List zn} {ps:List zx} (h:ps.all (yV S)=true) (a:ps.Nodup) (p:zx):cnt (x9 S ps) p=cnt S p-(ps.count p:Int):=by
 rw[zc6 a]
 unfold cnt
 by_cases hp:p∈ps
 ·rw[if_neg (λe=>(Qo.1 e).2 hp),if_pos (all_eq_true.1 h p hp),if_pos hp];rfl
 ·by_cases hs:yV S p=true
  ·rw[if_pos (Qo.2 ⟨hs,hp⟩),if_pos hs,if_neg hp];rfl
  ·rw[if_neg (λe=>hs (Qo.1 e).1),if_neg hs,if_neg hp];rfl
theorem zmk {S:List zn} {t:TxD} (h:spE S t=0) (p:zx):cnt (spS S t) p=cnt S p-((z6 t).count p:Int)+(((yN t).map (·.at_)).count p:Int):=by
 obtain⟨a,b,c⟩:=sp0 h
 have d:=jd (zdd b)
 have e:spS S t=jQ (x9 S (z6 t)) (yN t):=by unfold spS;rw[if_pos h]
 rw[e,zg3 c,zjn a d.2.2.2.1]
theorem zg4 {K:List zf} (p:zx):∀(l:List TxD) (s:StD),(runT K l s).1=0→cnt (runT K l s).2.S p=cnt s.S p-((l.flatMap z6).count p:Int)+((l.flatMap λt=>(yN t).map (·.at_)).count p:Int)
 |[],s,_=>by simp[runT]
 |t::l,s,h=>by
  by_cases h0:txE K s t=0
  ·rw[Qy h0] at h⊢
   rw[zg4 p l (txS s t) h]
   have:cnt (txS s t).S p=_:=zmk (tx0 h0).2.2.2 p
   rw[this]
   simp only[List.flatMap_cons,List.count_append]
   omega
  ·rw[zaj h0] at h
   exact absurd h h0
theorem spends {K:List zf} {S:List zn} {b:qf} (h:(doR K S b).E=0) (p:zx):cnt (doR K S b).S p=cnt S p-((b.txs.flatMap z6).count p:Int)+(((vH b).map (·.at_)++b.txs.flatMap λt=>(yN t).map (·.at_)).count p:Int):=by
 obtain⟨a,c,d,e⟩:=zne h
 rw[d,zg3 c,zg4 p _ _ a,List.count_append]
 show cnt S p-_+_+_=_
 omega
theorem again {K:List zf} {S:List zn} {b:qf} {t:TxD} {l:List TxD} (c:b.txs=t::l) (d:yR t=0) (e:idH t∈K):(doR K S b).E=19:=by
 have a:txE K (st0 S) t=19:=by unfold txE;rw[if_pos d,if_pos (.inl e)]
 unfold doR
 rw[c,zaj (by rw[a];decide),a,if_neg (show ¬((19:Int)=0) by decide)]
end Go.Proofs.YtbcllfjmabiafaaGreatDoor
