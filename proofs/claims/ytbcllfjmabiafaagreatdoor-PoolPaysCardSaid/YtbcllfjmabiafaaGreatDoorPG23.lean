/- slices.SortStableFunc at places: symMerge. -/
import Derived.Deep.CutRange
import Derived.Test.YtbcllfjmabiafaaGreatDoorPG22
import Derived.Test.YtbcllfjmabiafaaGreatDoorPG17
import Derived.Test.YtbcllfjmabiafaaGreatDoorPG19
import Derived.Test.YtbcllfjmabiafaaGreatDoorPG21
set_option linter.unusedVariables false
set_option linter.unusedSimpArgs false
set_option linter.unnecessarySimpa false
set_option linter.all false
set_option maxRecDepth 20000
set_option maxHeartbeats 16000000
namespace Go.Proofs.YtbcllfjmabiafaaGreatDoor
open Go Go.RowKit Go.Maps Go.MapKept
open Go.Proofs.Tryz(prog)
open Nat(le_refl zero_le)
open List(getElem?_eq_getElem mem_of_getElem? length_append length_take length_cons append_assoc getElem?_append_right take_append_drop)
variable {B a b bx cap g m n nn:Nat}
def zeD (w:World) (B g nn cap:Nat) (cf:Nat→Nat→Int) (P A Bl Q:List Nat) (e:Ending) (w':World):Prop:=
 e=.returned (.tuple #[])∧∃M,Ja (ltC cf) M∧M.Perm (A++Bl)∧IR w' B g nn cap (P++(M++Q))∧Fr (λj=>j=g) w w'
theorem VU {i j:Nat} (h:i+j≤200000):IntKind.u64.wrap ((i:Int)+(j:Int))=(i:Int)+(j:Int):=by
 simp[IntKind.wrap,IntKind.signed,IntKind.bits]
 omega
theorem zkq (w:World) {cf:Nat→Nat→Int} (hs:SwL (ltC cf)) {x:Nat} {P d Q:List Nat} (M:IR w B g nn cap (P++(x::(d++Q)))) (hq:j9 (ltC cf) [x] d) (hx:x<n) (hn:∀y∈d,y<n) (ha:a=P.length) (ad:m=a+1) (hb:b=m+d.length) (hm:nn≤100000) (hc:zbD w g n bx cf):
  Calls prog 153 #[.slice (some ⟨g,0,none⟩) nn cap,.int .i64 a,.int .i64 m,.int .i64 b,Xa bx] w (zeD w B g nn cap cf P [x] d Q):=by
 have L:=M.len
 simp only[length_append,length_cons] at L
 have HR:=Hd M
 have HN:=Hd hn
 have HX:=Hd hx
 have HC:=Hd hc
 have HS:=Hd hs
 have HQ:=Hd hq
 have O:=@Hd (P.length=a∧m=a+1∧b=m+d.length∧b≤nn∧nn≤100000) (by omega)
 have r0:IntKind.i64.wrap ((m:Int)-(a:Int))=1:=by rw[IntKind.wrap_i64];omega
 unfold Xa
 clear M hn hx hc hs hq ha ad hb L hm
 go_enter Tryz.func153,Tryz.ntmps153
 go_wp2
 clear r0
 go_loopw [10,11] (λiv jv wr=>∃(i j p q:Nat),iv=.int .i64 (i:Int)∧jv=.int .i64 (j:Int)∧(i=m+p∧j=m+q∧p≤q∧q≤d.length∧(p=0∨∃y,d[p-1]? =some y∧ltC cf y x=true)∧(q=d.length∨∃y,d[q]? =some y∧ltC cf y x=false))∧Fr No w wr) (λiv jv _=>(intOf jv).toNat-(intOf iv).toNat)
 case atStart=>exact⟨m,b,0,d.length,rfl,rfl,⟨rfl,O.o.2.2.1,zero_le _,le_refl _,.inl rfl,.inl rfl⟩,Fr.refl _ _⟩
 case round=>
  obtain⟨i,j,p,q,rfl,rfl,hp,c⟩:=hrel
  have t:=Hd hp
  have f:=Hd c
  obtain⟨h1,h2,h3,h4,-,-⟩:=hp
  have ln:=O.o
  by_cases hij:i<j
  ·have i1:(i:Int)<(j:Int):=by omega
   obtain⟨r,M⟩:∃r,r=(i+j) / 2-m:=⟨_,rfl⟩
   obtain⟨h,hh⟩:∃h,h=(i+j) / 2:=⟨_,rfl⟩
   have w1:IntKind.i64.wrap ((i:Int)+(j:Int))=(i:Int)+(j:Int):=by rw[IntKind.wrap_i64];omega
   have w2:=VU (i:=i) (j:=j) (by omega)
   have w3:IntKind.i64.wrap (((i:Int)+(j:Int)) / 2)=(h:Int):=by rw[IntKind.wrap_i64];omega
   have R:=@Hd (h=m+r∧p≤r∧r<q∧i≤h∧h<j) (by omega)
   obtain⟨y,U⟩:∃y,d[r]? =some y:=⟨_,getElem?_eq_getElem (by omega)⟩
   have X:=Hd U
   have C:=Hd ((HR.o.keep c id).drew)
   have cx:wr.drew.cell? ⟨g,a,none⟩=some (.int .i64 (x:Int)):=C.o.at_ (by rw[←ln.1];exact zaC _ _ _)
   have cy:wr.drew.cell? ⟨g,h,none⟩=some (.int .i64 (y:Int)):=C.o.at_ (by
    rw[show h=P.length+(r+1) by omega,getElem?_append_right (by omega),Nat.add_sub_cancel_left,List.getElem?_cons_succ,List.getElem?_append_left (List.getElem?_eq_some_iff.1 U).1]
    exact U)
   have b1:(h:Int)<(nn:Int):=by omega
   have b2:(a:Int)<(nn:Int):=by omega
   have CM:=Hd (HC.o.fr (f.o.of0 (W:=λj=>j=g)))
   have G:=Hd hij
   have rh:IntKind.i64.wrap ((h:Int)+1)=((h+1:Nat):Int):=by rw[IntKind.wrap_i64];omega
   clear c h1 h2 h3 h4 hij M hh ln U
   go_wp2_with fail
   refine wrLx [ff,ff,ff,ff,ff,ff,ff,ff,ff,tt,ff] (λw'=>w'.cell? ⟨g,a,none⟩=some (.int .i64 (x:Int))∧w'.cell? ⟨g,h,none⟩=some (.int .i64 (y:Int))) ?_ (λK hK=>?_)
   ·exact⟨cx,cy⟩
   have V:=Hd ((frN wr).drew)
   repeat((first|(refine zk rfl ?_;constructor;constructor;(focus(rintro w' ⟨s1,E⟩;exact goS)))|(refine zl rfl ?_));try simp only[Act.put,pA,pB,pC])
   (refine zM rfl (λK' hK'=>?_))
   go_simp
   refine(CM.o _ V.o.of0 y x (HN.o y (mem_of_getElem? X.o)) HX.o).mono ?_
   rintro e w3 ⟨rfl,f3⟩
   have N:=Hd f3
   clear f3
   refine nXt hK' ?_ λhS=>?_
   ·exact⟨N.o.cell cx id,N.o.cell cy id⟩
   try simp only[Act.put,pA,pB,pC]
   have F:=Hd (f.o.trans0 (V.o.trans0 N.o))
   clear cx cy N V C
   by_cases hcf:cf y x<0
   ·repeat((first|(refine zk rfl ?_;constructor;constructor;(focus(rintro w' ⟨s1,E⟩;exact goS)))|(refine zl rfl ?_));try simp only[Act.put,pA,pB,pC])
    refine zN (hK.out _ _ ?_)
    have Y:=@Hd (ltC cf y x=true) (decide_eq_true hcf)
    go_wp2_with fail
    go_roundw
    case rel=>exact⟨h+1,j,r+1,q,by go_num,rfl,⟨by have:=R.o;omega,t.o.2.1,by have:=R.o;omega,t.o.2.2.2.1,.inr ⟨y,X.o,Y.o⟩,t.o.2.2.2.2.2⟩,F.o⟩
    case measure=>simp[intOf];have:=R.o;have:=G.o;omega
   ·repeat((first|(refine zk rfl ?_;constructor;constructor;(focus(rintro w' ⟨s1,E⟩;exact goS)))|(refine zl rfl ?_));try simp only[Act.put,pA,pB,pC])
    refine zN (hK.out _ _ ?_)
    have Y:=@Hd (ltC cf y x=false) (decide_eq_false hcf)
    go_wp2_with fail
    go_roundw
    case rel=>exact⟨i,h,p,r,rfl,by go_num,⟨t.o.1,R.o.1,R.o.2.1,by have:=R.o;have:=t.o;omega,t.o.2.2.2.2.1,.inr ⟨y,X.o,Y.o⟩⟩,F.o⟩
    case measure=>simp[intOf];have:=R.o;have:=G.o;omega
  ·have i1:¬(i:Int)<(j:Int):=by omega
   have ae:p=q:=by omega
   subst ae
   have Z:=Hd (HQ.o.find_left HS.o t.o.2.2.2.1 t.o.2.2.2.2.1 t.o.2.2.2.2.2)
   have HI:=Hd (HR.o.keep c id)
   have BT:=Hd (take_append_drop p d)
   have TL:=@Hd ((d.take p).length=p) (by rw[length_take];omega)
   have ri:IntKind.i64.wrap ((i:Int)-1)=((a+p:Nat):Int):=by rw[IntKind.wrap_i64];omega
   generalize aa:d.take p=B1 at*
   generalize ab:d.drop p=B2 at*
   have I0:=@Hd (IR wr B g nn cap (P++([]++(x::(B1++(B2++Q)))))) (by
    have:=HI.o
    rw[←BT.o] at this
    simpa using this)
   clear c h1 h2 h3 h4 hij HI aa ab
   go_wp2
   go_loopw [13] (λkv v=>∃(k:Nat) (l o:List Nat),kv=.int .i64 (k:Int)∧(l++o=B1∧k=a+l.length)∧IR v B g nn cap (P++(l++(x::(o++(B2++Q)))))∧Fr (λj=>j=g) w v) (λkv _=>a+p-(intOf kv).toNat)
   case atStart=>exact⟨a,[],B1,rfl,⟨rfl,rfl⟩,I0.o,f.o.of0⟩
   case round=>
    clear I0 f
    obtain⟨k,l,o,rfl,z,I,c⟩:=hrel
    rename World=>v
    have HK:=Hd z
    have H:=Hd I
    have f:=Hd c
    have T:l.length+o.length=p:=by rw[←TL.o,←z.1,length_append]
    clear c I
    rcases o with _|⟨y,o⟩
    ·have S:¬(k:Int)<((a+p:Nat):Int):=by have:=z.2;simp only[List.length_nil] at T;omega
     have D:=z.1
     rw[List.append_nil] at D
     have E1:=Hd D
     clear z T D
     push_cast at S
     go_wp2_with fail
     go_end0
     refine⟨rfl,_,Z.o,?_,by have:=H.o;rw[E1.o] at this;simpa using this,f.o⟩
     refine List.perm_middle.trans ?_
     rw[BT.o]
     exact .refl _
    ·simp only[length_cons] at T
     have S:(k:Int)<((a+p:Nat):Int):=by have:=z.2;omega
     have hD:P++(l++(x::(y::o++(B2++Q))))=(P++l)++x::([]++y::(o++(B2++Q))):=by simp
     have A:=H.o
     rw[hD] at A
     have D:(P++l).length=k:=by rw[length_append,O.o.1];exact z.2.symm
     have e2:(P++l).length+(([]:List Nat).length+1)=k+1:=by rw[D];rfl
     have s:=A.swap (zaC _ _ _) (zbq _ _ _ _ _)
     have E:=zhB (P++l) [] (o++(B2++Q)) x y
     rw[e2,D] at s E
     have ci:=s.ci
     have cj:=s.cj
     have fi:=s.fi
     have fj:=s.fj
     obtain⟨u,c2⟩:=s.c2
     have RW:=@Hd (IR _ B g nn cap (P++(l++[y]++(x::(o++(B2++Q)))))) (by
      have:=s.row.drew
      rw[E] at this
      simpa using this)
     have FW:=Hd ((f.o.trans s.fr (λ_ _ h=>h)).drew)
     have ea:((k:Int)).toNat=k:=by omega
     have eb:((k:Int)+1).toNat=k+1:=by omega
     have pb:(0:Int)≤(k:Int)+1:=by omega
     have ba:(k:Int)<(nn:Int):=by have:=s.li;omega
     have bb:(k:Int)+1<(nn:Int):=by have:=s.lj;omega
     have rb:IntKind.i64.wrap ((k:Int)+1)=(k:Int)+1:=by rw[IntKind.wrap_i64];have:=O.o;omega
     have G1:=Hd S
     clear hD A D e2 s E z T
     unfold nV at c2 RW FW
     push_cast at S
     go_wp2_with fail
     have mixed:prog.follows Departure.mixedOrders=true:=by kernel_rfl
     go_big_region_o
     clear mixed ci cj fi fj c2 ea eb
     generalize ((v.setCell ⟨g,k,none⟩ (.int .i64 (y:Int))).setCell ⟨g,k+1,none⟩ (.int .i64 (x:Int))).drew=w5 at*
     go_wp2
     go_roundw
     case rel=>exact⟨k+1,l++[y],o,by go_num,⟨by rw[←HK.o.1];simp,by rw[HK.o.2,length_append];rfl⟩,RW.o,FW.o⟩
     case measure=>simp[intOf];have:=G1.o;omega
theorem ziU (w:World) {cf:Nat→Nat→Int} (hs:SwL (ltC cf)) {y:Nat} {P A Q:List Nat} (T:IR w B g nn cap (P++(A++(y::Q)))) (hq:j9 (ltC cf) A [y]) (hy:y<n) (hn:∀x∈A,x<n) (ha:a=P.length) (af:m=a+A.length) (hA:A.length≠1) (hb:b=m+1) (hm:nn≤100000) (hc:zbD w g n bx cf):
  Calls prog 153 #[.slice (some ⟨g,0,none⟩) nn cap,.int .i64 a,.int .i64 m,.int .i64 b,Xa bx] w (zeD w B g nn cap cf P A [y] Q):=by
 have S:=T.len
 simp only[length_append,length_cons] at S
 have HR:=Hd T
 have HN:=Hd hn
 have HY:=Hd hy
 have HC:=Hd hc
 have HS:=Hd hs
 have HQ:=Hd hq
 have LN:=@Hd (P.length=a∧m=a+A.length∧b=m+1∧b≤nn∧nn≤100000) (by omega)
 obtain⟨U,ae⟩:∃U:Int,U=(A.length:Int):=⟨_,rfl⟩
 have r0:IntKind.i64.wrap ((m:Int)-(a:Int))=U:=by rw[IntKind.wrap_i64];omega
 have r1:(U==1)=false:=by simp;omega
 have ah:¬U=1:=by omega
 have r2:IntKind.i64.wrap ((b:Int)-(m:Int))=1:=by rw[IntKind.wrap_i64];omega
 unfold Xa
 clear T hn hy hc hs hq ha af hb S hm hA ae
 go_enter Tryz.func153,Tryz.ntmps153
 go_wp2
 clear r0 r2
 go_loopw [14,15,16] (λiv jv _ wr=>∃(i j p q:Nat),iv=.int .i64 (i:Int)∧jv=.int .i64 (j:Int)∧(i=a+p∧j=a+q∧p≤q∧q≤A.length∧(p=0∨∃x,A[p-1]? =some x∧ltC cf y x=false)∧(q=A.length∨∃x,A[q]? =some x∧ltC cf y x=true))∧Fr No w wr) (λiv jv _ _=>(intOf jv).toNat-(intOf iv).toNat)
 case atStart=>exact⟨a,m,0,A.length,rfl,rfl,⟨rfl,LN.o.2.1,zero_le _,le_refl _,.inl rfl,.inl rfl⟩,Fr.refl _ _⟩
 case round=>
  obtain⟨i,j,p,q,rfl,rfl,hp,c⟩:=hrel
  have t:=Hd hp
  have d:=Hd c
  obtain⟨E,h2,h3,h4,-,-⟩:=hp
  have ln:=LN.o
  by_cases hij:i<j
  ·have i1:(i:Int)<(j:Int):=by omega
   obtain⟨r,T⟩:∃r,r=(i+j) / 2-a:=⟨_,rfl⟩
   obtain⟨h,hh⟩:∃h,h=(i+j) / 2:=⟨_,rfl⟩
   have w1:IntKind.i64.wrap ((i:Int)+(j:Int))=(i:Int)+(j:Int):=by rw[IntKind.wrap_i64];omega
   have w2:=VU (i:=i) (j:=j) (by omega)
   have w3:IntKind.i64.wrap (((i:Int)+(j:Int)) / 2)=(h:Int):=by rw[IntKind.wrap_i64];omega
   have R:=@Hd (h=a+r∧p≤r∧r<q∧i≤h∧h<j) (by omega)
   obtain⟨x,Y⟩:∃x,A[r]? =some x:=⟨_,getElem?_eq_getElem (by omega)⟩
   have HX:=Hd Y
   have D:=Hd ((HR.o.keep c id).drew)
   have cy:wr.drew.cell? ⟨g,m,none⟩=some (.int .i64 (y:Int)):=D.o.at_ (by
    have h9:(P++(A++(y::Q)))[(P++A).length]? =some y:=by rw[←append_assoc];exact zaC (P++A) Q y
    rw[length_append] at h9
    rw[show m=P.length+A.length by omega]
    exact h9)
   have cx:wr.drew.cell? ⟨g,h,none⟩=some (.int .i64 (x:Int)):=D.o.at_ (by
    rw[show h=P.length+r by omega,getElem?_append_right (by omega),Nat.add_sub_cancel_left,List.getElem?_append_left (List.getElem?_eq_some_iff.1 Y).1]
    exact Y)
   have b1:(h:Int)<(nn:Int):=by omega
   have b2:(m:Int)<(nn:Int):=by omega
   have CM:=Hd (HC.o.fr (d.o.of0 (W:=λj=>j=g)))
   have I:=Hd hij
   have rh:IntKind.i64.wrap ((h:Int)+1)=((h+1:Nat):Int):=by rw[IntKind.wrap_i64];omega
   clear c E h2 h3 h4 hij T hh ln Y
   go_wp2_with fail
   refine wrLx [ff,ff,ff,ff,ff,ff,ff,ff,ff,tt,ff,ff] (λw'=>w'.cell? ⟨g,m,none⟩=some (.int .i64 (y:Int))∧w'.cell? ⟨g,h,none⟩=some (.int .i64 (x:Int))) ?_ (λK hK=>?_)
   ·exact⟨cy,cx⟩
   have Z:=Hd ((frN wr).drew)
   repeat((first|(refine zk rfl ?_;constructor;constructor;(focus(rintro w' ⟨s1,G⟩;exact goS)))|(refine zl rfl ?_));try simp only[Act.put,pA,pB,pC])
   (refine zM rfl (λK' hK'=>?_))
   go_simp
   refine(CM.o _ Z.o.of0 y x HY.o (HN.o x (mem_of_getElem? HX.o))).mono ?_
   rintro e w3 ⟨rfl,f3⟩
   have V:=Hd f3
   clear f3
   refine nXt hK' ?_ λhS=>?_
   ·exact⟨V.o.cell cy id,V.o.cell cx id⟩
   try simp only[Act.put,pA,pB,pC]
   have H:=Hd (d.o.trans0 (Z.o.trans0 V.o))
   clear cx cy V Z D
   by_cases hcf:cf y x<0
   ·repeat((first|(refine zk rfl ?_;constructor;constructor;(focus(rintro w' ⟨s1,G⟩;exact goS)))|(refine zl rfl ?_));try simp only[Act.put,pA,pB,pC])
    refine zN (hK.out _ _ ?_)
    have LT:=@Hd (ltC cf y x=true) (decide_eq_true hcf)
    go_wp2_with fail
    go_roundw
    case rel=>exact⟨i,h,p,r,rfl,by go_num,⟨t.o.1,R.o.1,R.o.2.1,by have:=R.o;have:=t.o;omega,t.o.2.2.2.2.1,.inr ⟨x,HX.o,LT.o⟩⟩,H.o⟩
    case measure=>simp[intOf];have:=R.o;have:=I.o;omega
   ·repeat((first|(refine zk rfl ?_;constructor;constructor;(focus(rintro w' ⟨s1,G⟩;exact goS)))|(refine zl rfl ?_));try simp only[Act.put,pA,pB,pC])
    refine zN (hK.out _ _ ?_)
    have LT:=@Hd (ltC cf y x=false) (decide_eq_false hcf)
    go_wp2_with fail
    go_roundw
    case rel=>exact⟨h+1,j,r+1,q,by go_num,rfl,⟨by have:=R.o;omega,t.o.2.1,by have:=R.o;omega,t.o.2.2.2.1,.inr ⟨x,HX.o,LT.o⟩,t.o.2.2.2.2.2⟩,H.o⟩
    case measure=>simp[intOf];have:=R.o;have:=I.o;omega
  ·have i1:¬(i:Int)<(j:Int):=by omega
   have ag:p=q:=by omega
   subst ag
   have aa:=Hd (HQ.o.find_right HS.o t.o.2.2.2.1 t.o.2.2.2.2.1 t.o.2.2.2.2.2)
   have HI:=Hd (HR.o.keep c id)
   have BT:=Hd (take_append_drop p A)
   have TL:=@Hd ((P++A.take p).length=i∧i+(A.drop p).length=m∧i≤m) (by rw[length_append,length_take,List.length_drop];omega)
   generalize ab:A.take p=A1 at*
   generalize ad:A.drop p=A2 at*
   have I0:=@Hd (IR wr B g nn cap (P++(A1++(A2++(y::([]++Q)))))) (by
    have:=HI.o
    rw[←BT.o] at this
    simpa using this)
   clear c E h2 h3 h4 hij HI ab ad ln
   go_wp2
   go_loopw [17] (λkv v=>∃(k:Nat) (M o:List Nat),kv=.int .i64 (k:Int)∧(M++o=A2∧k=i+M.length)∧IR v B g nn cap (P++(A1++(M++(y::(o++Q)))))∧Fr (λj=>j=g) w v) (λkv _=>(intOf kv).toNat)
   case atStart=>exact⟨m,A2,[],rfl,⟨by simp,TL.o.2.1.symm⟩,I0.o,d.o.of0⟩
   case round=>
    clear I0 d
    obtain⟨k,M,o,rfl,X,N,c⟩:=hrel
    rename World=>v
    have HK:=Hd X
    have L:=Hd N
    have d:=Hd c
    clear c N
    rcases List.eq_nil_or_concat M with E|⟨f,x,E⟩
    ·subst E
     obtain⟨z,F⟩:=X
     obtain rfl:k=i:=by simpa using F
     have g1:¬(k:Int)>(k:Int):=by omega
     rw[List.nil_append] at z
     have E1:=Hd z
     clear z F
     go_wp2_with fail
     go_end0
     refine⟨rfl,_,aa.o,?_,by have:=L.o;rw[E1.o] at this;simpa using this,d.o⟩
     refine List.perm_middle.trans ?_
     rw[BT.o]
     exact(List.perm_append_singleton y A).symm
    ·rw[List.concat_eq_append] at E
     subst E
     have kl:=X.2
     rw[length_append,List.length_singleton] at kl
     obtain⟨l,O⟩:∃l,l=i+f.length:=⟨_,rfl⟩
     have g1:(k:Int)>(i:Int):=by omega
     have hD:P++(A1++(f++[x]++(y::(o++Q))))=(P++A1++f)++x::([]++y::(o++Q)):=by simp
     have C:=L.o
     rw[hD] at C
     have z:(P++A1++f).length=l:=by rw[length_append,TL.o.1];exact O.symm
     have F:(P++A1++f).length+(([]:List Nat).length+1)=k:=by rw[z];simp;omega
     have my:=zaC (P++A1++f) ([]++y::(o++Q)) x
     have mx:=zbq (P++A1++f) [] (o++Q) x y
     rw[F] at mx
     rw[z] at my
     have s:=C.swap mx my
     have G:=zhB (P++A1++f) [] (o++Q) x y
     rw[F,z] at G
     have ci:=s.ci
     have cj:=s.cj
     have fi:=s.fi
     have fj:=s.fj
     obtain⟨u,c2⟩:=s.c2
     have RW:=@Hd (IR _ B g nn cap (P++(A1++(f++(y::(x::o++Q)))))) (by
      have:=s.row.drew
      rw[List.set_comm _ _ (by omega),G] at this
      simpa using this)
     have FW:=Hd ((d.o.trans s.fr (λ_ _ h=>h)).drew)
     have ea:((k:Int)).toNat=k:=by omega
     have eb:((l:Int)).toNat=l:=by omega
     have ba:(k:Int)<(nn:Int):=by have:=s.li;omega
     have bb:(l:Int)<(nn:Int):=by have:=s.lj;omega
     have rb:IntKind.i64.wrap ((k:Int)-1)=(l:Int):=by rw[IntKind.wrap_i64];have:=LN.o;omega
     have NK:=@Hd (l=i+f.length∧l<k) (by omega)
     clear hD C z F s G X kl O mx my
     unfold nV at c2 RW FW
     go_wp2_with fail
     have mixed:prog.follows Departure.mixedOrders=true:=by kernel_rfl
     go_big_region_o
     clear mixed ci cj fi fj c2 ea eb
     generalize ((v.setCell ⟨g,k,none⟩ (.int .i64 (x:Int))).setCell ⟨g,l,none⟩ (.int .i64 (y:Int))).drew=w5 at*
     go_wp2
     go_roundw
     case rel=>exact⟨l,f,x::o,by go_num,⟨by rw[←HK.o.1];simp,NK.o.1⟩,RW.o,FW.o⟩
     case measure=>simp[intOf];have:=NK.o;omega
def zm8 (B g nn cap n bx:Nat) (cf:Nat→Nat→Int) (N:Nat):Prop:=∀(w:World) (P A Bl Q:List Nat) (a m b:Nat),A.length+Bl.length≤N→IR w B g nn cap (P++(A++(Bl++Q)))→j9 (ltC cf) A Bl→A≠[]→Bl≠[]→(∀y∈A,y<n)→(∀y∈Bl,y<n)→a=P.length→m=a+A.length→b=m+Bl.length→zbD w g n bx cf→
 Calls prog 153 #[.slice (some ⟨g,0,none⟩) nn cap,.int .i64 a,.int .i64 m,.int .i64 b,Xa bx] w (zeD w B g nn cap cf P A Bl Q)
def zmd (w:World) (B g nn cap:Nat) (cf:Nat→Nat→Int) (P A Bl Q:List Nat) (w':World):Prop:=
 ∃M,Ja (ltC cf) M∧M.Perm (A++Bl)∧IR w' B g nn cap (P++(M++Q))∧Fr (λj=>j=g) w w'
theorem zcn {w:World} {cf:Nat→Nat→Int} {P A a Q:List Nat} (h:IR w B g nn cap (P++(A++(a++Q)))) (b:j9 (ltC cf) A a) (c:A=[]∨a=[]):zmd w B g nn cap cf P A a Q w:=by
 rcases c with rfl|rfl
 ·exact⟨a,b.sb,.refl _,by simpa using h,Fr.refl _ _⟩
 ·exact⟨A,b.sa,by simp,by simpa using h,Fr.refl _ _⟩
theorem zkr (w:World) {B g nn cap a m b n bx N:Nat} {cf:Nat→Nat→Int} (hs:SwL (ltC cf)) (IH:zm8 B g nn cap n bx cf N) {P A p Q:List Nat} (hr:IR w B g nn cap (P++(A++(p++Q)))) (hq:j9 (ltC cf) A p) (hA:2≤A.length) (hB:2≤p.length) (hN:A.length+p.length≤N+1) (ax:∀x∈A,x<n) (ay:∀x∈p,x<n) (ha:a=P.length) (aJ:m=a+A.length) (hb:b=m+p.length) (hm:nn≤100000) (hc:zbD w g n bx cf):
  Calls prog 153 #[.slice (some ⟨g,0,none⟩) nn cap,.int .i64 a,.int .i64 m,.int .i64 b,Xa bx] w (zeD w B g nn cap cf P A p Q):=by
 have av:=hr.len
 simp only[length_append,length_cons] at av
 have HR:=Hd hr
 have ad:=Hd ax
 have ae:=Hd ay
 have HC:=Hd hc
 have HS:=Hd hs
 have HQ:=Hd hq
 have HI:=Hd IH
 obtain⟨la,aH⟩:∃la:Int,la=(A.length:Int):=⟨_,rfl⟩
 obtain⟨lb,aI⟩:∃lb:Int,lb=(p.length:Int):=⟨_,rfl⟩
 obtain⟨f,aw⟩:∃f,f=(a+b) / 2:=⟨_,rfl⟩
 obtain⟨t,ht⟩:∃t,t=f+m:=⟨_,rfl⟩
 have r0:IntKind.i64.wrap ((m:Int)-(a:Int))=la:=by rw[IntKind.wrap_i64];omega
 have r1:(la==1)=false:=by simp;omega
 have aM:¬la=1:=by omega
 have r2:IntKind.i64.wrap ((b:Int)-(m:Int))=lb:=by rw[IntKind.wrap_i64];omega
 have r3:(lb==1)=false:=by simp;omega
 have aN:¬lb=1:=by omega
 have w1:IntKind.i64.wrap ((a:Int)+(b:Int))=(a:Int)+(b:Int):=by rw[IntKind.wrap_i64];omega
 have w2:=VU (i:=a) (j:=b) (by omega)
 have w3:IntKind.i64.wrap (((a:Int)+(b:Int)) / 2)=(f:Int):=by rw[IntKind.wrap_i64];omega
 have w4:IntKind.i64.wrap ((f:Int)+(m:Int))=(t:Int):=by rw[IntKind.wrap_i64];omega
 have w5:IntKind.i64.wrap ((t:Int)-1)=((t-1:Nat):Int):=by rw[IntKind.wrap_i64];omega
 obtain⟨t1,az⟩:∃t1,t1=t-1:=⟨_,rfl⟩
 rw[←az] at w5
 have F:=@Hd ((P.length=a∧m=a+A.length∧b=m+p.length∧b≤nn∧nn≤100000)∧(a+2≤m∧m+2≤b∧f=(a+b) / 2∧t=f+m∧t1+1=t)∧A.length+p.length≤N+1) (by omega)
 have aC:=Hd hm
 unfold Xa
 clear hr ax ay hc hs hq IH ha aJ hb av hm hA hB hN aH aI aw ht az
 go_enter Tryz.func153,Tryz.ntmps153
 go_upto_if 140 with fail
 go_cut [20,21] from 25 (λH rv wc=>∃lo hi:Nat,H=.int .i64 (lo:Int)∧rv=.int .i64 (hi:Int)∧((lo=a∧hi=m∧m≤f)∨(lo+b=t∧hi=f∧f<m))∧wc=w)
 case first=>
  by_cases hmm:f<m
  ·have i1:(m:Int)>(f:Int):=by omega
   have w6:IntKind.i64.wrap ((t:Int)-(b:Int))=((t-b:Nat):Int):=by rw[IntKind.wrap_i64];have:=F.o;omega
   have T:=@Hd (t-b+b=t) (by have:=F.o;omega)
   have ab:=Hd hmm
   generalize t-b=lo at*
   clear hmm
   go_wp2_with fail
   go_meet
   case rel=>exact⟨lo,f,rfl,rfl,.inr ⟨T.o,rfl,ab.o⟩,rfl⟩
  ·have i1:¬(m:Int)>(f:Int):=by omega
   have ab:=Hd hmm
   clear hmm
   go_wp2_with fail
   go_meet
   case rel=>exact⟨a,m,rfl,rfl,.inl ⟨rfl,rfl,by have:=ab.o;omega⟩,rfl⟩
 case rest=>
  obtain⟨lo,hi,rfl,rfl,au,rfl⟩:=hcut
  rename World=>w
  have LH:=Hd au
  have BD:=@Hd (a≤lo∧lo≤hi∧hi≤m∧m+hi≤t∧t≤lo+b) (by have:=F.o;omega)
  clear au
  go_wp2_with fail
  go_loopw [20,21] (λH rv wr=>∃(s r:Nat),H=.int .i64 (s:Int)∧rv=.int .i64 (r:Int)∧(lo≤s∧s≤r∧r≤hi∧(s=lo∨(0<s-a∧∃x y,A[s-a-1]? =some x∧p[t-s-m]? =some y∧ltC cf y x=false))∧(r=hi∨∃x y,A[r-a]? =some x∧p[t-1-r-m]? =some y∧ltC cf y x=true))∧Fr No w wr) (λH rv _=>(intOf rv).toNat-(intOf H).toNat)
  case atStart=>exact⟨lo,hi,rfl,rfl,⟨le_refl _,BD.o.2.1,le_refl _,.inl rfl,.inl rfl⟩,Fr.refl _ _⟩
  case round=>
   obtain⟨s,r,rfl,rfl,hp,k⟩:=hrel
   have X:=Hd hp
   have o:=Hd k
   obtain⟨h1,h2,h3,-,-⟩:=hp
   have ln:=F.o
   have bd:=BD.o
   by_cases hsr:s<r
   ·have i1:(s:Int)<(r:Int):=by omega
    obtain⟨c,hc⟩:∃c,c=(s+r) / 2:=⟨_,rfl⟩
    obtain⟨d,hd⟩:∃d,d=t1-c:=⟨_,rfl⟩
    have w1:IntKind.i64.wrap ((s:Int)+(r:Int))=(s:Int)+(r:Int):=by rw[IntKind.wrap_i64];omega
    have w2:=VU (i:=s) (j:=r) (by omega)
    have w3:IntKind.i64.wrap (((s:Int)+(r:Int)) / 2)=(c:Int):=by rw[IntKind.wrap_i64];omega
    have w4:IntKind.i64.wrap ((t1:Int)-(c:Int))=(d:Int):=by rw[IntKind.wrap_i64];omega
    have rh:IntKind.i64.wrap ((c:Int)+1)=((c+1:Nat):Int):=by rw[IntKind.wrap_i64];omega
    have v:=@Hd (s≤c∧c<r∧a≤c∧c<m∧m≤d∧d<b∧d+c=t1) (by omega)
    obtain⟨x,u⟩:∃x,A[c-a]? =some x:=⟨_,getElem?_eq_getElem (by have:=v.o;omega)⟩
    obtain⟨y,hy⟩:∃y,p[d-m]? =some y:=⟨_,getElem?_eq_getElem (by have:=v.o;omega)⟩
    have HX:=Hd u
    have HY:=Hd hy
    have af:=Hd ((HR.o.keep k id).drew)
    have cx:wr.drew.cell? ⟨g,c,none⟩=some (.int .i64 (x:Int)):=af.o.at_ (by
     have aK:=(List.getElem?_eq_some_iff.1 u).1
     rw[show c=P.length+(c-a) by have:=v.o;omega,getElem?_append_right (by omega),Nat.add_sub_cancel_left,List.getElem?_append_left aK]
     exact u)
    have cy:wr.drew.cell? ⟨g,d,none⟩=some (.int .i64 (y:Int)):=af.o.at_ (by
     have aL:=(List.getElem?_eq_some_iff.1 hy).1
     rw[show d=P.length+(A.length+(d-m)) by have:=v.o;omega,getElem?_append_right (by omega),Nat.add_sub_cancel_left,getElem?_append_right (by omega),Nat.add_sub_cancel_left,List.getElem?_append_left aL]
     exact hy)
    have b1:(c:Int)<(nn:Int):=by have:=v.o;omega
    have b2:(d:Int)<(nn:Int):=by have:=v.o;omega
    have V:=Hd (HC.o.fr (o.o.of0 (W:=λj=>j=g)))
    have al:=Hd hsr
    clear k h1 h2 h3 hsr hc hd ln bd u hy
    go_wp2_with fail
    refine wrLx [ff,ff,ff,ff,ff,ff,ff,ff,ff,ff,ff,tt,ff,ff] (λw'=>w'.cell? ⟨g,c,none⟩=some (.int .i64 (x:Int))∧w'.cell? ⟨g,d,none⟩=some (.int .i64 (y:Int))) ?_ (λK hK=>?_)
    ·exact⟨cx,cy⟩
    have FD:=Hd ((frN wr).drew)
    repeat((first|(refine zk rfl ?_;constructor;constructor;(focus(rintro w' ⟨s1,s2⟩;exact goS)))|(refine zl rfl ?_));try simp only[Act.put,pA,pB,pC])
    (refine zM rfl (λK' hK'=>?_))
    go_simp
    refine(V.o _ FD.o.of0 y x (ae.o y (mem_of_getElem? HY.o)) (ad.o x (mem_of_getElem? HX.o))).mono ?_
    rintro e w3 ⟨rfl,f3⟩
    have F3:=Hd f3
    clear f3
    refine nXt hK' ?_ λhS=>?_
    ·exact⟨F3.o.cell cx id,F3.o.cell cy id⟩
    try simp only[Act.put,pA,pB,pC]
    have ak:=Hd (o.o.trans0 (FD.o.trans0 F3.o))
    clear cx cy F3 FD af
    by_cases hcf:cf y x<0
    ·repeat((first|(refine zk rfl ?_;constructor;constructor;(focus(rintro w' ⟨s1,s2⟩;exact goS)))|(refine zl rfl ?_));try simp only[Act.put,pA,pB,pC])
     refine zN (hK.out _ _ ?_)
     have LT:=@Hd (ltC cf y x=true) (decide_eq_true hcf)
     go_wp2_with fail
     go_roundw
     case rel=>exact⟨s,c,rfl,by go_num,⟨X.o.1,v.o.1,by have:=v.o;have:=X.o;omega,X.o.2.2.2.1,.inr ⟨x,y,HX.o,by rw[show t-1-c-m=d-m by have:=v.o;have:=F.o;omega];exact HY.o,LT.o⟩⟩,ak.o⟩
     case measure=>simp[intOf];have:=v.o;have:=al.o;omega
    ·repeat((first|(refine zk rfl ?_;constructor;constructor;(focus(rintro w' ⟨s1,s2⟩;exact goS)))|(refine zl rfl ?_));try simp only[Act.put,pA,pB,pC])
     refine zN (hK.out _ _ ?_)
     have LT:=@Hd (ltC cf y x=false) (decide_eq_false hcf)
     go_wp2_with fail
     go_roundw
     case rel=>exact⟨c+1,r,by go_num,rfl,⟨by have:=v.o;have:=X.o;omega,by have:=v.o;omega,X.o.2.2.1,.inr ⟨by have:=v.o;omega,x,y,by rw[show c+1-a-1=c-a by omega];exact HX.o,by rw[show t-(c+1)-m=d-m by have:=v.o;have:=F.o;omega];exact HY.o,LT.o⟩,X.o.2.2.2.2⟩,ak.o⟩
     case measure=>simp[intOf];have:=v.o;have:=al.o;omega
   ·have i1:¬(s:Int)<(r:Int):=by omega
    obtain rfl:s=r:=by omega
    obtain⟨e,he⟩:∃e,e=t-s:=⟨_,rfl⟩
    have w4:IntKind.i64.wrap ((t:Int)-(s:Int))=(e:Int):=by rw[IntKind.wrap_i64];omega
    have E:=@Hd (a≤s∧s≤m∧m≤e∧e≤b∧s+e=t∧f=s+(e-m)) (by omega)
    have CQ:=@Hd (zmY (ltC cf) A p (s-a) (e-m)) (by
     refine⟨by omega,by omega,?_,?_⟩
     ·rcases X.o.2.2.2.1 with h|⟨h,x,y,u,hy,hl⟩
      ·have:=LH.o;omega
      ·exact .inr (.inr ⟨x,y,u,by rw[he];exact hy,hl⟩)
     ·rcases X.o.2.2.2.2 with h|⟨x,y,u,hy,hl⟩
      ·have:=LH.o;omega
      ·exact .inr (.inr ⟨x,y,u,by rw[show e-m-1=t-1-s-m by omega];exact hy,hl⟩))
    have U:=Hd (HQ.o.subs (s-a) (e-m))
    have aj:=Hd (λL R h1 h2 h3 h4=>HQ.o.cutQ HS.o CQ.o (L:=L) (R:=R) h1 h2 h3 h4)
    have ah:=Hd (take_append_drop (s-a) A)
    have ai:=Hd (take_append_drop (e-m) p)
    have q:=@Hd ((A.take (s-a)).length=s-a∧(A.drop (s-a)).length=m-s∧(p.take (e-m)).length=e-m∧(p.drop (e-m)).length=b-e) (by simp only[length_take,List.length_drop];omega)
    have an:=@Hd ((∀x∈A.take (s-a),x<n)∧∀x∈A.drop (s-a),x<n) (⟨λx h=>ad.o x (List.mem_of_mem_take h),λx h=>ad.o x (List.mem_of_mem_drop h)⟩)
    have ao:=@Hd ((∀x∈p.take (e-m),x<n)∧∀x∈p.drop (e-m),x<n) (⟨λx h=>ae.o x (List.mem_of_mem_take h),λx h=>ae.o x (List.mem_of_mem_drop h)⟩)
    have I0:=Hd (HR.o.keep k id)
    generalize aD:A.take (s-a)=A1 at*
    generalize aE:A.drop (s-a)=A2 at*
    generalize aF:p.take (e-m)=B1 at*
    generalize aG:p.drop (e-m)=B2 at*
    have O:=@Hd (IR wr B g nn cap (P++A1++(A2++(B1++(B2++Q))))) (by have:=I0.o;rw[←ah.o,←ai.o] at this;simpa using this)
    have V:=Hd (HC.o.fr (o.o.of0 (W:=λj=>j=g)))
    clear k h1 h2 h3 hsr he ln bd aD aE aF aG I0
    obtain⟨k1,aq⟩:∃k1:Bool,k1=decide (s<m∧m<e):=⟨_,rfl⟩
    have K1:=Hd aq
    clear aq
    go_upto_region 39 with fail
    go_cut [185] from 178 to 185 (λH wc=>H=.bool k1∧wc=wr)
    case first=>
     by_cases x1:s<m
     ·have z:(s:Int)<(m:Int):=by omega
      by_cases x2:m<e
      ·have i3:(m:Int)<(e:Int):=by omega
       go_wp2_with fail
       go_meet
       case rel=>exact⟨by rw[K1.o];simp[x1,x2],rfl⟩
      ·have i3:¬(m:Int)<(e:Int):=by omega
       go_wp2_with fail
       go_meet
       case rel=>exact⟨by rw[K1.o];simp[x2],rfl⟩
     ·have z:¬(s:Int)<(m:Int):=by omega
      go_wp2_with fail
      go_meet
      case rel=>exact⟨by rw[K1.o];simp[x1],rfl⟩
    case rest=>
     obtain⟨rfl,rfl⟩:=hcut
     rename World=>wr
     go_upto_if 185 with fail
     go_cut [24] from 178 (λH wc=>H=.int .i64 (e:Int)∧IR wc B g nn cap (P++(A1++(B1++(A2++(B2++Q)))))∧Fr (λj=>j=g) w wc)
     case first=>
      rcases Bool.eq_false_or_eq_true k1 with hk|hk
      ·have u:=of_decide_eq_true (K1.o.symm.trans hk)
       subst hk
       have Y:=Hd (zgF wr (a:=s) (m:=m) (b:=e) O.o (λh=>by have:=q.o;rw[h] at this;simp at this;omega) (λh=>by have:=q.o;rw[h] at this;simp at this;omega) aC.o (by have:=q.o;have:=F.o;have:=E.o;rw[length_append];omega) (by have:=q.o;have:=F.o;have:=E.o;rw[length_append];omega) (by have:=q.o;have:=E.o;omega) (Xa bx))
       unfold Xa at Y
       clear u
       go_wp2_with (go_at_call 183;refine Y.o.mono ?_;rintro e1 w2 ⟨rfl,z,Z⟩;have I2:=Hd z;have F2:=Hd Z;clear z Z)
       go_meet
       case rel=>exact⟨rfl,by have:=I2.o;simpa using this,o.o.of0.trans F2.o (λ_ _ h=>h)⟩
      ·have u:=of_decide_eq_false (K1.o.symm.trans hk)
       subst hk
       have I2:=@Hd (IR wr B g nn cap (P++(A1++(B1++(A2++(B2++Q)))))) (by
        have:=O.o
        have l:=q.o
        have ee:=E.o
        by_cases h:A2=[]
        ·subst h;simpa using this
        ·have h0:B1=[]:=by
          have:=List.length_pos_iff.2 h
          exact List.length_eq_zero_iff.1 (by omega)
         subst h0;simpa using this)
       clear u
       go_wp2_with fail
       go_meet
       case rel=>exact⟨rfl,I2.o,o.o.of0⟩
     case rest=>
      clear O V o
      obtain⟨rfl,M,k⟩:=hcut
      rename World=>wr
      have O:=Hd M
      have o:=Hd k
      have V:=Hd (HC.o.fr k)
      clear M k
      obtain⟨k2,ar⟩:∃k2:Bool,k2=decide (a<s∧s<f):=⟨_,rfl⟩
      have K2:=Hd ar
      clear ar
      go_upto_region 41 with fail
      go_cut [199] from 192 to 199 (λH wc=>H=.bool k2∧wc=wr)
      case first=>
       by_cases x1:a<s
       ·have z:(a:Int)<(s:Int):=by omega
        by_cases x2:s<f
        ·have i3:(s:Int)<(f:Int):=by omega
         go_wp2_with fail
         go_meet
         case rel=>exact⟨by rw[K2.o];simp[x1,x2],rfl⟩
        ·have i3:¬(s:Int)<(f:Int):=by omega
         go_wp2_with fail
         go_meet
         case rel=>exact⟨by rw[K2.o];simp[x2],rfl⟩
       ·have z:¬(a:Int)<(s:Int):=by omega
        go_wp2_with fail
        go_meet
        case rel=>exact⟨by rw[K2.o];simp[x1],rfl⟩
      case rest=>
       obtain⟨rfl,rfl⟩:=hcut
       rename World=>wr
       go_upto_if 199 with fail
       go_cut [24] from 192 (λH wc=>H=.int .i64 (e:Int)∧∃G,Ja (ltC cf) G∧G.Perm (A1++B1)∧IR wc B g nn cap (P++G++(A2++(B2++Q)))∧Fr (λj=>j=g) w wc)
       case first=>
        rcases Bool.eq_false_or_eq_true k2 with hk|hk
        ·have u:=of_decide_eq_true (K2.o.symm.trans hk)
         subst hk
         have Y:=Hd (HI.o wr P A1 B1 (A2++(B2++Q)) a s f (by have:=q.o;have:=F.o;have:=E.o;omega) O.o U.o.1 (λh=>by have:=q.o;rw[h] at this;simp at this;omega) (λh=>by have l:=q.o;have ee:=E.o;rw[h] at l;simp at l;omega) an.o.1 ao.o.1 F.o.1.1.symm (by have:=q.o;omega) (by have:=q.o;have:=E.o;omega) V.o)
         unfold Xa at Y
         clear u
         go_wp2_with (go_at_call 153;refine Y.o.mono ?_;rintro e1 w2 ⟨rfl,G,D,C,z,Z⟩;have I2:=Hd z;have F2:=Hd Z;have ag:=Hd D;have S:=Hd C;clear z Z D C)
         go_meet
         case rel=>exact⟨rfl,G,ag.o,S.o,by have:=I2.o;simpa using this,o.o.trans F2.o (λ_ _ h=>h)⟩
        ·have u:=of_decide_eq_false (K2.o.symm.trans hk)
         subst hk
         have PA:=Hd (zcn O.o U.o.1 (by
          have l:=q.o
          have ee:=E.o
          by_cases h:A1=[]
          ·exact .inl h
          ·have:=List.length_pos_iff.2 h
           exact .inr (List.length_eq_zero_iff.1 (by omega))))
         clear u
         go_wp2_with fail
         go_meet
         case rel=>
          obtain⟨G,D,C,m3,m4⟩:=PA.o
          exact⟨rfl,G,D,C,by simpa using m3,o.o.trans m4 (λ_ _ h=>h)⟩
       case rest=>
        clear O V o
        obtain⟨rfl,G,D,C,M,k⟩:=hcut
        rename World=>wr
        have O:=Hd M
        have o:=Hd k
        have V:=Hd (HC.o.fr k)
        have ag:=Hd D
        have S:=Hd C
        have ML:=@Hd ((P++G).length=f) (by
         have:=C.length_eq
         rw[length_append] at this
         rw[length_append]
         have:=q.o
         have:=F.o
         have:=E.o
         omega)
        have aa:=Hd (λ(I:List Nat) (h1:Ja (ltC cf) I) (h2:I.Perm (A2++B2)) (w2:World) (h3:IR w2 B g nn cap (P++G++(I++Q))) (h4:Fr (λj=>j=g) wr w2)=>show zeD w B g nn cap cf P A p Q (.returned (.tuple #[])) w2 from⟨rfl,G++I,aj.o G I S.o h2 ag.o h1,by
         rw[←ah.o,←ai.o]
         refine(S.o.append h2).trans ?_
         rw[append_assoc,append_assoc]
         refine List.Perm.append_left A1 ?_
         rw[←append_assoc,←append_assoc]
         exact List.Perm.append_right B2 List.perm_append_comm,by simpa using h3,o.o.trans h4 (λ_ _ h=>h)⟩)
        clear M k D C
        by_cases x1:f<e∧e<b
        ·have z:(f:Int)<(e:Int):=by omega
         have i3:(e:Int)<(b:Int):=by omega
         have Y:=Hd (HI.o wr (P++G) A2 B2 Q f e b (by have:=q.o;have:=F.o;have:=E.o;omega) O.o U.o.2 (λh=>by have l:=q.o;have ee:=E.o;rw[h] at l;simp at l;omega) (λh=>by have:=q.o;rw[h] at this;simp at this;omega) an.o.2 ao.o.2 ML.o.symm (by have:=q.o;have:=E.o;omega) (by have:=q.o;have:=E.o;omega) V.o)
         unfold Xa at Y
         clear x1
         go_wp2_with (go_at_call 153;refine Y.o.mono ?_;rintro e1 w2 ⟨rfl,I,D,C,z,Z⟩;have I2:=Hd z;have F2:=Hd Z;have aB:=Hd D;have aA:=Hd C;clear z Z D C)
         go_end0
         exact aa.o I aB.o aA.o _ I2.o F2.o
        ·have PA:=Hd (zcn O.o U.o.2 (by
          have l:=q.o
          have ee:=E.o
          have ln:=F.o
          by_cases h:B2=[]
          ·exact .inr h
          ·have:=List.length_pos_iff.2 h
           exact .inl (List.length_eq_zero_iff.1 (by omega))))
         by_cases x2:f<e
         ·have z:(f:Int)<(e:Int):=by omega
          have i3:¬(e:Int)<(b:Int):=by omega
          clear x1 x2
          go_wp2_with fail
          go_end0
          obtain⟨I,D,C,m3,m4⟩:=PA.o
          exact aa.o I D C _ m3 m4
         ·have z:¬(f:Int)<(e:Int):=by omega
          clear x1 x2
          go_wp2_with fail
          go_end0
          obtain⟨I,D,C,m3,m4⟩:=PA.o
          exact aa.o I D C _ m3 m4
theorem zhC {cf:Nat→Nat→Int} (j:SwL (ltC cf)) (f:nn≤100000):∀N,zm8 B g nn cap n bx cf N
 |0=>λw P A q Q a m b s i h k r=>by
  have:=List.length_pos_iff.2 k
  omega
 |N+1=>λw P A q Q a m b s i h k r d e l c o p=>by
  have t:=List.length_pos_iff.2 k
  have u:=List.length_pos_iff.2 r
  by_cases h1:A.length=1
  ·obtain⟨x,rfl⟩:=List.length_eq_one_iff.1 h1
   exact zkq w j (by simpa using i) h (d x (by simp)) e l (by simpa using c) o f p
  ·by_cases h2:q.length=1
   ·obtain⟨y,rfl⟩:=List.length_eq_one_iff.1 h2
    exact ziU w j (by simpa using i) h (e y (by simp)) d l c h1 (by simpa using o) f p
   ·exact zkr w j (zhC j f N) i h (by omega) (by omega) s d e l c o f p
def zlT (w:World) (B g nn cap:Nat) (cf:Nat→Nat→Int) (D:List Nat) (e:Ending) (w':World):Prop:=
 e=.returned (.tuple #[])∧∃M,Ja (ltC cf) M∧M.Perm D∧IR w' B g nn cap M∧Fr (λj=>j=g) w w'
theorem zgJ (w:World) {cf:Nat→Nat→Int} (S:SwL (ltC cf)) {D:List Nat} (P:IR w B g nn cap D) (R:D.Pairwise (· < ·)) (H:∀y∈D,y<nn) (X:nn<40) (K:zbD w g nn bx cf):
  Calls prog 126 #[.slice (some ⟨g,0,none⟩) nn cap,.int .i64 nn,Xa bx] w (zlT w B g nn cap cf D):=by
 have G:=P.len
 by_cases h20:nn<20
 ·have I:=Hd (Yi w S (a:=0) (b:=nn) (A:=[]) (M:=D) (Q:=[]) (by simpa using P) R H rfl (by omega) (by omega) K)
  unfold Xa at I⊢
  have i1:¬(20:Int)≤(nn:Int):=by omega
  have T:¬(20:Int)<(nn:Int):=by omega
  clear P R H K G h20 X
  go_enter Tryz.func126,Tryz.ntmps126
  go_wp2
  refine wp_loop_rounds 1 ?_
  rw[rounds_succ]
  go_wp2_with (go_at_call 152;refine I.o.mono ?_;rintro t u ⟨rfl,d,i,k,T,e⟩;have p:=Hd i;have c:=Hd k;have o:=Hd T;have l:=Hd e;clear i k T e)
  refine wp_loop_rounds 1 ?_
  rw[rounds_succ]
  go_wp2
  go_end0
  exact⟨rfl,d,p.o,c.o,by simpa using o.o,l.o⟩
 ·obtain⟨E,s,hD12,O⟩:∃E s,D=E++s∧E.length=20:=⟨D.take 20,D.drop 20,(take_append_drop _ _).symm,by rw[length_take];omega⟩
  subst hD12
  rw[length_append] at G
  obtain⟨Y,Z,p3⟩:=List.pairwise_append.1 R
  have I:=Hd (Yi w S (a:=0) (b:=20) (A:=[]) (M:=E) (Q:=s) (by simpa using P) Y (λy z=>H y (by simp[z])) rfl (by omega) (by omega) K)
  have U:=Hd (λ(u:World) (d:List Nat) (h1:IR u B g nn cap (d++s)) (h2:d.length=20) (f:Fr (λj=>j=g) w u)=>Yi u S (a:=20) (b:=nn) (A:=d) (M:=s) (Q:=[]) (by simpa using h1) Z (λy z=>H y (by simp[z])) h2.symm (by omega) (by omega) (K.fr f))
  have V:=Hd (λ(u:World) (d C:List Nat) (h1:IR u B g nn cap (d++C)) (q:j9 (ltC cf) d C) (t:d.Perm E) (e2:C.Perm s) (n0:s≠[]) (f:Fr (λj=>j=g) w u)=>zhC S (B:=B) (g:=g) (nn:=nn) (cap:=cap) (n:=nn) (bx:=bx) (cf:=cf) (by omega) 1000 u [] d C [] 0 20 nn (by have:=t.length_eq;have:=e2.length_eq;omega) (by simpa using h1) q (λh=>by have:=t.length_eq;rw[h] at this;simp at this;omega) (λh=>n0 (List.length_eq_zero_iff.1 (by have:=e2.length_eq;rw[h] at this;simp at this;omega))) (λy z=>H y (by simp[t.subset z])) (λy z=>H y (by simp[e2.subset z])) rfl (by have:=t.length_eq;omega) (by have:=e2.length_eq;omega) (K.fr f))
  have AB:=Hd p3
  have L:=@Hd (E.length=20∧E.length+s.length=nn) (⟨O,G⟩)
  unfold Xa at I U V⊢
  have i1:(20:Int)≤(nn:Int):=by omega
  have T:¬(40:Int)≤(nn:Int):=by omega
  have i3:¬(40:Int)<(nn:Int):=by omega
  clear P R H K X Y Z p3 O
  by_cases hgt:20<nn
  ·have i4:(20:Int)<(nn:Int):=by omega
   have N0:=@Hd (s≠[]) (λh=>by rw[h] at G;simp at G;have:=L.o;omega)
   clear G h20 hgt
   go_enter Tryz.func126,Tryz.ntmps126
   go_wp2
   refine wp_loop_rounds 2 ?_
   rw[rounds_succ]
   go_wp2_with (go_at_call 152;refine I.o.mono ?_;rintro t u ⟨rfl,d,i,k,m,e⟩;have p:=Hd i;have c:=Hd k;have o:=Hd m;have l:=Hd e;clear i k m e)
   rw[rounds_succ]
   go_wp2_with (go_at_call 152;refine(U.o _ d (by have:=o.o;simpa using this) (by have:=c.o.length_eq;have:=L.o;omega) l.o).mono ?_;rintro t w3 ⟨rfl,C,i,k,m,e⟩;have N:=Hd i;have r:=Hd k;have F:=Hd m;have v:=Hd (l.o.trans e (λ_ _ h=>h));clear i k m e)
   refine wp_loop_rounds 2 ?_
   rw[rounds_succ]
   go_wp2
   refine wp_loop_rounds 1 ?_
   rw[rounds_succ]
   have MQ:=@Hd (j9 (ltC cf) d C) (⟨p.o,N.o,λx hx y z=>AB.o x (c.o.subset hx) y (r.o.subset z)⟩)
   go_wp2_with (go_at_call 153;refine(V.o _ d C (by have:=F.o;simpa using this) MQ.o c.o r.o N0.o v.o).mono ?_;rintro t w4 ⟨rfl,M,i,k,m,e⟩;have MS:=Hd i;have MP:=Hd k;have MI:=Hd m;have MF:=Hd (v.o.trans e (λ_ _ h=>h));clear i k m e)
   rw[rounds_succ]
   go_wp2
   go_end0
   exact⟨rfl,M,MS.o,MP.o.trans (c.o.append r.o),by have:=MI.o;simpa using this,MF.o⟩
  ·have i4:¬(20:Int)<(nn:Int):=by omega
   have W:=@Hd (s=[]) (List.length_eq_zero_iff.1 (by have:=L.o;omega))
   clear G h20 hgt
   go_enter Tryz.func126,Tryz.ntmps126
   go_wp2
   refine wp_loop_rounds 2 ?_
   rw[rounds_succ]
   go_wp2_with (go_at_call 152;refine I.o.mono ?_;rintro t u ⟨rfl,d,i,k,m,e⟩;have p:=Hd i;have c:=Hd k;have o:=Hd m;have l:=Hd e;clear i k m e)
   rw[rounds_succ]
   go_wp2_with (go_at_call 152;refine(U.o _ d (by have:=o.o;simpa using this) (by have:=c.o.length_eq;have:=L.o;omega) l.o).mono ?_;rintro t w3 ⟨rfl,C,i,k,m,e⟩;have N:=Hd i;have r:=Hd k;have F:=Hd m;have v:=Hd (l.o.trans e (λ_ _ h=>h));clear i k m e)
   refine wp_loop_rounds 1 ?_
   rw[rounds_succ]
   go_wp2
   go_end0
   refine⟨rfl,d,p.o,?_,?_,v.o⟩
   ·rw[W.o,List.append_nil];exact c.o
   ·have h:=r.o
    rw[W.o] at h
    have:=F.o
    rw[h.eq_nil] at this
    simpa using this
theorem zcz (w:World) {cf:Nat→Nat→Int} (o:SwL (ltC cf)) {D:List Nat} (f:IR w B g nn cap D) (b:D.Pairwise (· < ·)) (e:∀y∈D,y<nn) (d:nn<40) (c:zbD w g nn bx cf):
  Calls prog 94 #[.slice (some ⟨g,0,none⟩) nn cap,Xa bx] w (zlT w B g nn cap cf D):=by
 have C:=Hd (zgJ w o f b e d c)
 unfold Xa at C⊢
 clear f b e d c
 go_enter Tryz.func94,Tryz.ntmps94
 go_wp2_with (go_at_call 126;refine C.o.mono ?_;rintro p q ⟨rfl,M,i,j,h,a⟩;have n:=Hd i;have m:=Hd j;have l:=Hd h;have k:=Hd a;clear i j h a)
 go_end0
 exact⟨rfl,M,n.o,m.o,l.o,k.o⟩
section
open Go.Lib
def cfW (l:List (Int×Int)) (i k:Nat):Int:=Yq (l[k]?.getD (0,0)) (l[i]?.getD (0,0))
theorem zk5 (l:List (Int×Int)):ltC (cfW l)=ltW l:=rfl
theorem zgx (w:World) {v:Value} {l:List (Int×Int)} (r:w.cell? ⟨bx,0,none⟩=some v) (c:Zz w v l) (q:l.length≤100000) {i k:Nat} (hi:i<l.length) (s:k<l.length):
  Calls prog 95 #[.int .i64 i,.int .i64 k,.pointer (some ⟨bx,0,none⟩)] w λe w'=>e=.returned (.int .i64 (cfW l i k))∧Fr No w w':=by
 obtain⟨I,z,u⟩:=Qn
 obtain⟨x,j⟩:∃x,l[i]? =some x:=⟨_,getElem?_eq_getElem hi⟩
 obtain⟨y,m⟩:∃y,l[k]? =some y:=⟨_,getElem?_eq_getElem s⟩
 have E:=@Hd (cfW l i k=Yq y x) (by unfold cfW;rw[j,m];rfl)
 obtain⟨b,off,cap,rfl,d,-⟩:=c.at_ j
 obtain⟨H,t,p,a,f,-⟩:=c.at_ m
 injection a with a e3 e4
 injection a with a
 injection a with e5 e6 e7
 subst e5
 subst e6
 have C:=Hd (λw=>Xy (c.1 y (mem_of_getElem? m)) (c.1 x (mem_of_getElem? j)) w)
 have n:=Hd d
 have o:=Hd f
 have B:=Hd r
 have L:(i:Int)<(l.length:Int):=by omega
 have M:(k:Int)<(l.length:Int):=by omega
 clear j m d f r c e4 hi s
 go_enter Tryz.func95,Tryz.ntmps95
 go_wp2_with fail
 refine wrLx [ff,ff,ff,ff,ff,ff,ff,ff,tt,ff] (λw'=>w'.cell? ⟨bx,0,none⟩=some (.slice (some ⟨b,off,none⟩) l.length cap)∧w'.rangeAt b (off+i*2) (y6 x)∧w'.rangeAt b (off+k*2) (y6 y)) ?_ (λK hK=>?_)
 ·exact⟨(frN _).drew.cell B.o id,za n.o (frN _).drew id,za o.o (frN _).drew id⟩
 repeat((first|(refine zk rfl ?_;constructor;constructor;(focus(first|exact y5 (ty:=118) rfl (λw h=>h.2.1) z u (show _=some (y6 x).length from xU)|exact y5 (ty:=118) rfl (λw h=>h.2.2) z u (show _=some (y6 y).length from xU)|(rintro w' ⟨D,F,G⟩;exact goS))))|(refine zl rfl ?_));try simp only[Act.put,pA,pB,pC])
 (refine zM rfl (λK' hK'=>?_))
 go_simp
 refine(C.o _).mono ?_
 rintro e N ⟨rfl,A⟩
 have g:=Hd ((frN _).drew.trans0 A)
 refine nXt hK' ?_ λhS=>?_
 ·exact⟨g.o.cell B.o id,za n.o g.o id,za o.o g.o id⟩
 try simp only[Act.put,pA,pB,pC]
 repeat((first|(refine zk rfl ?_;constructor;constructor;(focus(first|(rintro w' ⟨D,F,G⟩;exact goS))))|(refine zl rfl ?_));try simp only[Act.put,pA,pB,pC])
 refine zN (hK.out _ _ ?_)
 go_wp2_with fail
 go_ret
 exact⟨by rw[E.o];rfl,g.o⟩
theorem zlH:prog.underlying 132=some (.slice 3):=by kernel_rfl
theorem zjK:(prog.info? 3).map (λi=>(i.zero,i.size,i.bytes))=some (some (.int .i64 0),1,8):=by kernel_rfl
theorem zgD (n:Nat):(List.range (n+1)).map nV=(List.range n).map nV++[nV n]:=by rw[List.range_succ,List.map_append];rfl
theorem zka (n:Nat):(List.range n).Pairwise (· < ·):=List.pairwise_lt_range
theorem zit (w:World) {v:Value} {l:List (Int×Int)} (L:Zz w v l) (z:l.length<40):
  Calls prog 55 #[v] w λe w'=>∃g M,e=.returned (.slice (some ⟨g,0,none⟩) l.length l.length)∧Ja (ltW l) M∧M.Perm (List.range l.length)∧IR w' w.heap.size g l.length l.length M∧Fr No w w':=by
 obtain⟨d,m,rfl⟩:=L.2.form
 obtain⟨n,V⟩:∃n,l.length=n:=⟨_,rfl⟩
 have R:=Hd V
 rw[V] at z L⊢
 have FB:=Hd ((frN w).alloc (.cells #[.slice d n m] 131))
 have Z:=Hd (ye w (.cells #[.slice d n m] 131))
 have K:(w.alloc (.cells #[.slice d n m] 131)).cell? ⟨w.heap.size,0,none⟩=some (.slice d n m):=by simpa using zv Z.o 0 _ rfl
 have C0:=Hd K
 have LW:=@Hd (Zz (w.alloc (.cells #[.slice d n m] 131)) (.slice d n m) l) (L.keep FB.o)
 have T:=@Hd ((w.alloc (.cells #[.slice d n m] 131)).heap.size=w.heap.size+1) (by simp)
 obtain⟨iK,D,hz,G,A⟩:=info_parts zjK
 obtain⟨w2,c,E,C⟩:=run_makeSlice_full (P:=prog) (w:=w.alloc (.cells #[.slice d n m] 131)) w.heap.size 132 3 iK _ 1 zlH D hz G .i64 .i64 n (by omega) (by rw[A];omega) (by unfold maxLen;omega) (by rw[T.o];omega)
 have Q:=Hd (Fr.of_grown (W:=No) C (λk e=>by cases e))
 have HO:=Hd E
 have x:=Hd z
 have C2:=Hd (Q.o.cell C0.o id)
 have MK:=Hd c
 clear L C D hz G A E V c Z K
 go_enter Tryz.func55,Tryz.ntmps55
 go_upto_region 1 with fail
 have c:=MK.o
 have K:=C0.o
 rw[T.o] at c HO
 generalize U:w.heap.size=bx at*
 generalize w.alloc (.cells #[.slice d n m] 131)=w1 at*
 have aa:=x.o
 go_wp2_with fail
 clear c K MK
 have O:=Hd (FB.o.trans0 Q.o)
 go_loopw [10] (λY wr=>∃(i:Nat) (xs:List Value),Y=.int .i64 i∧i≤n∧wr.ownsRow bx 3 1 (.slice (some ⟨bx+1,0,none⟩) n n) n xs∧xs.take i=(List.range i).map nV∧Fr (λj=>j=bx+1) w2 wr) (λY _=>n-(intOf Y).toNat)
 case atStart=>exact⟨0,_,rfl,zero_le _,HO.o,by simp,Fr.refl _ _⟩
 case round=>
  obtain⟨i,xs,rfl,hi,F,H,B⟩:=hrel
  have b:=Hd F
  have t:=Hd H
  have I:=Hd B
  clear F H B
  by_cases hlt:i<n
  ·have i1:(i:Int)<(n:Int):=by omega
   have X:xs.length=n:=by simpa using b.o.1
   obtain⟨u,hu⟩:∃u,xs[i]? =some u:=⟨_,getElem?_eq_getElem (by omega)⟩
   have cz:wr.cell? ⟨bx+1,i,none⟩=some u:=by
    have r:=b.o
    have e:xs=xs.flatMap λv=>[v]:=by simp
    rw[e] at r
    obtain⟨g',ab,o,hr,-⟩:=yZ (f:=λv=>[v]) (by decide) (λ_ _=>rfl) r hu
    injection o with o
    injection o with o
    injection o with o
    subst o
    have:=hr 0 _ rfl
    simpa using this
   have fz:wr.frozen? ⟨bx+1,i,none⟩=false:=b.o.frozenAt _
   have q:=vP b.o i (cs:=[nV i]) (by simp;omega)
   have p:setM xs i [nV i]=xs.set i (nV i):=rfl
   rw[p] at q
   have s:=Hd q
   have HT:=@Hd ((xs.set i (nV i)).take (i+1)=(List.range (i+1)).map nV) (by
    rw[zgD,←t.o,List.take_add_one,List.getElem?_set_self (by omega),List.take_set_of_le (le_refl _)]
    rfl)
   have FS:=Hd (I.o.setCell ⟨bx+1,i,none⟩ (.inr rfl) (nV i))
   have ad:(i:Int)<(n:Int):=i1
   clear q p hu X
   unfold nV at s FS
   go_wp2
   go_roundw
   case rel=>exact⟨i+1,_,by go_num,by omega,s.o,HT.o,FS.o⟩
   case measure=>simp[intOf];omega
  ·have i1:¬(i:Int)<(n:Int):=by omega
   obtain rfl:i=n:=by omega
   have S:=@Hd (IR wr bx (bx+1) i i (List.range i)) (by
    have r:=b.o
    have hx:=t.o
    rw[List.take_of_length_le (by have:=r.1;simp at this;omega)] at hx
    rw[hx] at r
    exact r)
   have N:=@Hd (w.heap.size=bx) (U)
   have FW:=Hd (I.o.cell C2.o (λe=>by simp at e))
   have CM:=@Hd (zbD wr (bx+1) i bx (cfW l)) (λw' f a k ha hk=>zgx w' (f.cell FW.o (λe=>by simp at e)) ⟨LW.o.1,zcX LW.o.2 ((Q.o.of0.trans I.o (λ_ _ h=>h)).trans f (λ_ _ h=>h)) (λj hj e=>by have:=T.o;omega)⟩ (by rw[R.o];omega) (by rw[R.o];exact ha) (by rw[R.o];exact hk))
   have ST:=Hd (zcz wr (by rw[zk5];exact zcf l) S.o (zka i) (λy hy=>List.mem_range.1 hy) x.o CM.o)
   unfold Xa at ST
   go_wp2_with (go_at_call 94;refine ST.o.mono ?_;rintro o w5 ⟨rfl,M,m1,m2,j2,f2⟩;have MS:=Hd m1;have MP:=Hd m2;have MI:=Hd j2;have MF:=Hd f2;clear m1 m2 j2 f2)
   go_ret
   exact⟨bx+1,M,by rfl,MS.o,MP.o,by rw[N.o];exact MI.o,(O.o.trans I.o (λj hj e=>by have:=N.o;omega)).trans MF.o (λj hj e=>by have:=N.o;omega)⟩
end
end Go.Proofs.YtbcllfjmabiafaaGreatDoor
