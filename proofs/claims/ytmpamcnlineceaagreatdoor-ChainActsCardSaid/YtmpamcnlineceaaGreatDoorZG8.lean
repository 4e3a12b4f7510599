/- chain: Id. -/
import Derived.Laws.Externs
import Derived.Test.YtmpamcnlineceaaGreatDoorZG7
import Derived.Test.YtmpamcnlineceaaGreatDoorZG1
import Derived.Test.YtmpamcnlineceaaGreatDoorZG2
import Derived.Test.YtmpamcnlineceaaGreatDoorZG6
set_option linter.unusedVariables false
set_option linter.unusedSimpArgs false
set_option linter.unnecessarySimpa false
set_option linter.all false
set_option maxRecDepth 20000
set_option maxHeartbeats 16000000
namespace Go.Proofs.YtmpamcnlineceaaGreatDoor
open Go Go.RowKit Go.Maps Go.MapKept
open Go.Proofs.Tryz(prog)
open Nat(le_refl zero_le le_of_eq)
open List(getElem?_eq_getElem mem_append mem_of_getElem? length_append take_add_one take_length length_take)
variable {B:Nat} {V:Nat→Prop} {cs:List Value} {v:Value} {w:World}
def xC (b:y7):Bool:=decide (b.pay.length≤8) && (decide (b.txs.length≤16) && b.txs.all yV)
def zdM (b:y7):List Int:=leB 8 b.tag++((b.pay.length:Int)::(b.pay.flatMap vC++((b.txs.length:Int)::b.txs.flatMap idH)))
def zdO (b:y7):Int:=if xC b=true then 0 else 5
def xH (b:y7):zY:=if xC b=true then xL (zdM b) else z7
theorem Jg (b:y7):xU (xH b):=by
 unfold xH
 split
 ·exact jh _
 ·exact j5
theorem JH {b:y7} (h:xC b=false):zdO b=5∧xH b=z7:=by simp[zdO,xH,h]
theorem Jr {b:y7} (h:xC b=true):zdO b=0∧xH b=xL (zdM b):=by simp[zdO,xH,h]
theorem zds (l:List TxD):(l.flatMap idH).length=32*l.length:=by
 induction l with
 |nil=>rfl
 |cons x l ih=>
  have:=(vk x).1
  simp only[List.flatMap_cons,length_append,List.length_cons]
  omega
theorem qC (w:World) (a b c:Value) (T:TypeId):(w.alloc (.cells #[a,b,c] T)).cell? ⟨w.heap.size,0,none⟩=some a∧(w.alloc (.cells #[a,b,c] T)).cell? ⟨w.heap.size,1,none⟩=some b∧(w.alloc (.cells #[a,b,c] T)).cell? ⟨w.heap.size,2,none⟩=some c∧(w.alloc (.cells #[a,b,c] T)).rangeAt w.heap.size 0 [a,b,c]:=by
 have:=zK w [a,b,c] T
 exact⟨by simpa using this 0 _ rfl,by simpa using this 1 _ rfl,by simpa using this 2 _ rfl,this⟩
theorem Xq (w:World):(zeroValue 62).run prog w=.ok (.agg (txC 0 (.slice none 0 0) (.slice none 0 0)).toArray) w:=by kernel_rfl
theorem Zv (b o:Nat) (w:World):(Instr.sliceAt 40 (.pointer (some ⟨b,o,none⟩)) none none none).run prog w=.ok (.slice (some ⟨b,o,none⟩) 32 32) w:=by
 have a:prog.arrayLen 40=32:=by kernel_rfl
 have c:(sizeOf (prog.elem 40)).run prog w=.ok 1 w:=by kernel_rfl
 rw[run_sliceAt_array_all w _ _ (by kernel_rfl),c]
 simp[slicedAt,a,Jp]
theorem JU (hg:jM w) {b:y7} (ht:xT w b cs):
  Calls prog 8 #[.agg cs.toArray] w λe w'=>e=.returned (.tuple #[.agg (zl (xH b)).toArray,.int .i64 (zdO b)])∧Fr No w w':=by
 have zH:=qt
 have zo:=yA
 have zT:=Xq
 obtain⟨dH,uH,rH⟩:=JW
 obtain⟨ia,ic,oa,oc,rfl,Z,ho,m⟩:=ht
 have f1:Fr No w (w.alloc (.cells #[.int .u64 b.tag,.slice ia b.pay.length ic,.slice oa b.txs.length oc] 36)):=(frN w).alloc _
 have C:Fr No (w.alloc (.cells #[.int .u64 b.tag,.slice ia b.pay.length ic,.slice oa b.txs.length oc] 36)) _:=(frN _).alloc (.cells (zl z7).toArray 40)
 obtain⟨c0,c1,c2,-⟩:=qC w (.int .u64 b.tag) (.slice ia b.pay.length ic) (.slice oa b.txs.length oc) 36
 have C0:=J (C.cell c0 _root_.id)
 have C1:=J (C.cell c1 _root_.id)
 have C2:=J (C.cell c2 _root_.id)
 have Q:=J (f1.trans0 C)
 have B2:=J (xK (w.alloc (.cells #[.int .u64 b.tag,.slice ia b.pay.length ic,.slice oa b.txs.length oc] 36)) (.cells (zl z7).toArray 40) (n:=w.heap.size+1) (by simp))
 have G2:=J (hg.keep0 Q.o)
 have G:=@J (((w.alloc (.cells #[.int .u64 b.tag,.slice ia b.pay.length ic,.slice oa b.txs.length oc] 36)).alloc (.cells (zl z7).toArray 40)).heap.size=w.heap.size+2) (by simp)
 have HO:=J (ho.keep Q.o)
 have HX:=J (m.keep0 Q.o)
 have v1:=Z.1
 have v2:=Z.2
 have c0:=C0.o
 have c1:=C1.o
 have c2:=C2.o
 clear ho m f1 C hg Z
 show Calls prog 8 #[.agg #[.int .u64 b.tag,.slice ia b.pay.length ic,.slice oa b.txs.length oc]] w _
 by_cases hp8:8<b.pay.length
 ·have d:xC b=false:=by
   have:decide (b.pay.length≤8)=false:=by simp;omega
   simp[xC,this]
  have j1:decide ((8:Int)<(b.pay.length:Int))=true:=by simp;omega
  have z:=J (JH d)
  have c:=@J ((zl z7).length=32) (rfl)
  clear d
  clear hp8
  go_enter Tryz.func8,Tryz.ntmps8
  have⟨p,r⟩:=tZ2
  go_wp2_with ((first|((with_reducible refine zt ?_);clear p;with_reducible refine xF 24 ?_;refine zg rfl (yl (t:=40) rfl rfl (jt _)) ?_)|((with_reducible refine zr ?_);clear r;refine ze rfl (zy (ty:=40) (b:=w.heap.size+1) (off:=0) (cs:=zl z7) rfl rfl rfl (by rw[c.o];exact zM B2.o (le_of_eq xN.symm)) (by rw[c.o];exact yG) zX) ?_));go_frame)
  refine bodyPost_ret (zR (P:=prog) (fn:=Tryz.f8) rfl _ rfl (yE B2.o (by rw[c.o];exact xN)) uH rH (by rw[c.o];exact yG) rfl) rfl ⟨by rw[z.o.1,z.o.2];rfl,?_⟩
  exact Q.o.trans (zv _ _ _ _) (λi hi e=>by omega)
 by_cases ht16:16<b.txs.length
 ·have d:xC b=false:=by
   have:decide (b.txs.length≤16)=false:=by simp;omega
   simp[xC,this]
  have j1:decide ((8:Int)<(b.pay.length:Int))=false:=by simp;omega
  have j2:decide ((16:Int)<(b.txs.length:Int))=true:=by simp;omega
  have z:=J (JH d)
  have c:=@J ((zl z7).length=32) (rfl)
  clear d
  clear hp8 ht16
  go_enter Tryz.func8,Tryz.ntmps8
  have⟨p,r⟩:=tZ2
  go_wp2_with ((first|((with_reducible refine zt ?_);clear p;with_reducible refine xF 24 ?_;refine zg rfl (yl (t:=40) rfl rfl (jt _)) ?_)|((with_reducible refine zr ?_);clear r;refine ze rfl (zy (ty:=40) (b:=w.heap.size+1) (off:=0) (cs:=zl z7) rfl rfl rfl (by rw[c.o];exact zM B2.o (le_of_eq xN.symm)) (by rw[c.o];exact yG) zX) ?_));go_frame)
  refine bodyPost_ret (zR (P:=prog) (fn:=Tryz.f8) rfl _ rfl (yE B2.o (by rw[c.o];exact xN)) uH rH (by rw[c.o];exact yG) rfl) rfl ⟨by rw[z.o.1,z.o.2];rfl,?_⟩
  exact Q.o.trans (zv _ _ _ _) (λi hi e=>by omega)
 have p8:b.pay.length≤8:=by omega
 have aq:b.txs.length≤16:=by omega
 have j1:decide ((8:Int)<(b.pay.length:Int))=false:=by simp;omega
 have j2:decide ((16:Int)<(b.txs.length:Int))=false:=by simp;omega
 have e1:(b.pay.length:Int) % 256=(b.pay.length:Int):=by omega
 have e2:(b.txs.length:Int) % 256=(b.txs.length:Int):=by omega
 clear hp8 ht16
 go_enter Tryz.func8,Tryz.ntmps8
 have⟨p,r⟩:=tZ2
 go_wp2_with ((first|(clear p;go_at_call 26;generalize (w.alloc (.cells #[.int .u64 b.tag,.slice ia b.pay.length ic,.slice oa b.txs.length oc] 36)).alloc (.cells (zl z7).toArray 40)=w2 at*;refine(zbU w2 ⟨v1,v2⟩).mono ?_;rintro e w3 ⟨rfl,b3,f3⟩;have R:=J f3;have B3:=@J (yC w3 (w.heap.size+2) _ _) (qs b3 (by rw[G.o];exact le_refl _));clear b3 f3;have cA:=R.o.cell C1.o _root_.id;obtain⟨v4,w4,l,j,h,-⟩:=yT w3 (x:=b.pay.length) B3.o (by rw[xh];decide) (by have:=R.o.size;have:=G.o;omega) 84;have A4:=J l;have B4:=J j;have F4:=J (yC.step R.o B3.o (by have:=G.o;omega) h);clear l j h)|((with_reducible refine zt ?_);clear r;at_builtin;refine zk rfl rfl rfl rfl A4.o ?_;have cB:=F4.o.cell C1.o _root_.id));go_frame)
 have af:=@J ((leB 8 b.tag++[(b.pay.length:Int)]).length=9) (by rw[length_append,xh];rfl)
 have LE:=@J (zdM b=leB 8 b.tag++[(b.pay.length:Int)]++b.pay.flatMap vC++[(b.txs.length:Int)]++b.txs.flatMap idH) (by simp[zdM])
 generalize leB 8 b.tag++[(b.pay.length:Int)]=L0 at*
 go_loopw [4,41] (λbv iv wr=>∃n:Nat,iv=.int .i64 n∧n≤b.pay.length∧yC wr (w.heap.size+2) bv (L0++(b.pay.take n).flatMap vC)∧Fr No w2 wr) (λ_ iv _=>b.pay.length-(intOf iv).toNat)
 case atStart=>exact⟨0,rfl,zero_le _,by simpa using B4.o,F4.o⟩
 case round=>
  obtain⟨n,rfl,hn,V,fr⟩:=hrel
  have FS:=J fr
  have BS:=J V
  have SY:=@J (w.heap.size+2≤wr.heap.size) (by have:=fr.size;have:=G.o;omega)
  have B:=@J ((L0++(b.pay.take n).flatMap vC).length≤9+40*n) (by
   rw[length_append,Jl (λx m=>HO.o.1 x (List.mem_of_mem_take m)),length_take,af.o]
   omega)
  obtain⟨ba,bc,u⟩:=V.form
  clear fr V
  by_cases W:n<b.pay.length
  ·have i1:(n:Int)<(b.pay.length:Int):=by omega
   obtain⟨x,m⟩:∃x,b.pay[n]? =some x:=⟨_,getElem?_eq_getElem W⟩
   have TF:=J (vG vC m)
   obtain⟨bb,off,ai,Z,hr,-⟩:=HO.o.at_ m
   cases Z
   have y:=HO.o.1 x (mem_of_getElem? m)
   have R1:=J (zb hr FS.o id)
   have IL:=J (z6 y)
   have S:=J ((frN wr).alloc (.cells (zx x).toArray 68))
   have QA:=@J ((wr.alloc (.cells (zx x).toArray 68)).heap.size=wr.heap.size+1) (by simp)
   obtain⟨n1,n2⟩:=vt wr y
   have N2:=J n2
   have an:=y.1.1
   have ao:=y.1.2
   have LX:=J y.2.1
   have D0:=J (BS.o.ne (le_refl _))
   have FW:=J (FS.o.trans0 S.o)
   have BW:=J (BS.o.keep0 S.o)
   clear n2 hr y m
   subst u
   generalize U:L0++(b.pay.take n).flatMap vC=Lo at*
   have⟨p,r,K2⟩:=tZ3
   go_wp2_with ((first|((with_reducible refine zt ?_);clear p;refine ziW rfl rfl rfl R1.o IL.o ?_)|((with_reducible refine zr ?_);clear r;refine zi5 (w:=wr) (cs:=zx x) rfl rfl rfl rfl IL.o zV ?_;generalize wr.alloc (.cells (zx x).toArray 68)=wA at*)|(clear K2;go_at_call 26;refine(zbU wA ⟨an,ao⟩).mono ?_;rintro e f ⟨rfl,b5,D⟩;have F:=J D;have V5:=J b5;clear b5 D));go_frame)
   have o:=(frN f).drew
   have N5:=J (zb N2.o F.o id)
   have Q5:=@J (wr.heap.size<f.heap.size) (by have:=F.o.size;have:=QA.o;omega)
   obtain⟨v6,w6,l,j,h,a4⟩:=yq f.drew ((BW.o.keep0 F.o).keep0 o) (V5.o.keep0 o).slice.arg (by rw[xh];have:=B.o;omega) (show w.heap.size+2≤f.heap.size by have:=SY.o;have:=Q5.o;omega) 84
   have ar:(leB 8 x.value).length=8:=xh 8 x.value
   have D6:=a4.ne D0.o (show wr.heap.size<f.heap.size from Q5.o)
   have N6:=J (zb (zb N5.o o _root_.id) h D0.o)
   have A6:=J l
   have B6:=J j
   have F6:=J (yC.step ((FW.o.trans0 F.o).trans0 o) ((BW.o.keep0 F.o).keep0 o) (by have:=G.o;omega) h)
   have Q6:=@J (wr.heap.size<w6.heap.size) (by have:=h.size;have:=Q5.o;have:f.drew.heap.size=f.heap.size:=rfl;omega)
   obtain⟨aw,ax,al⟩:=j.form
   clear l j h a4 D6 o
   obtain⟨v7,w7,l,j,h,-⟩:=yq w6 B6.o (Jf N6.o LX.o Q6.o) (by simp only[length_append,LX.o,xh];have:=B.o;omega) (by have:=SY.o;have:=Q6.o;omega) 84
   have A7:=J l
   have B7:=J j
   have F7:=J (yC.step F6.o B6.o (by have:=G.o;omega) h)
   clear l j h al
   have ak:=Zv wr.heap.size 1
   refine wrLx [ff,ff,tt,ff,ff,tt,ff] (λ_=>True) ?_ (λK hK=>?_)
   ·trivial
   repeat((first|(refine zn rfl ?_;constructor;constructor;(focus(first|(rintro w' -;exact goS))))|(refine zq rfl ?_));try simp only[Act.put,pA,pB,pC])
   (refine zN rfl (λK' hK'=>?_))
   refine zQ rfl rfl rfl A6.o ?_
   refine nXt hK' ?_ λhS=>?_
   ·trivial
   try simp only[Act.put,pA,pB,pC]
   repeat((first|(refine zn rfl ?_;constructor;constructor;(focus(first|(rintro w' -;exact goS))))|(refine zq rfl ?_));try simp only[Act.put,pA,pB,pC])
   (refine zN rfl (λK' hK'=>?_))
   refine zQ rfl rfl rfl A7.o ?_
   refine nXt hK' ?_ λhS=>?_
   ·trivial
   try simp only[Act.put,pA,pB,pC]
   repeat((first|(refine zn rfl ?_;constructor;constructor;(focus(first|(rintro w' -;exact goS))))|(refine zq rfl ?_));try simp only[Act.put,pA,pB,pC])
   refine zZ (hK.out _ _ ?_)
   go_wp2_with fail
   go_roundw
   case rel=>exact⟨n+1,by go_num,by omega,by rw[TF.o,←List.append_assoc,U];simpa[vC] using B7.o,F7.o⟩
   case measure=>simp[intOf];omega
  ·have X:n=b.pay.length:=by omega
   subst X
   have i1:¬(b.pay.length:Int)<(b.pay.length:Int):=by omega
   rw[take_length] at BS B
   have c2:=FS.o.cell C2.o id
   obtain⟨v3,wy,l,j,h,a4⟩:=yT wr (x:=b.txs.length) BS.o (by have:=B.o;omega) SY.o 84
   have A1:=J l
   have BY:=J j
   have FY:=J (yC.step FS.o BS.o (by have:=G.o;omega) h)
   have cD:=FY.o.cell C2.o id
   have ag:=@J ((L0++b.pay.flatMap vC++[(b.txs.length:Int)]).length≤400) (by
    rw[length_append]
    have:=B.o
    simp only[List.length_singleton]
    omega)
   clear l j h a4 c2
   have c2:=FS.o.cell C2.o id
   subst u
   generalize av:L0++b.pay.flatMap vC=Ln at*
   go_wp2_with (first|(at_builtin;refine zk rfl rfl rfl rfl A1.o ?_))
   generalize au:Ln++[(b.txs.length:Int)]=A at*
   clear c2 cD
   go_loopw [4,68] (λbv iv wr=>∃n:Nat,iv=.int .i64 n∧n≤b.txs.length∧(∀t∈b.txs.take n,yV t=true)∧yC wr (w.heap.size+2) bv (A++(b.txs.take n).flatMap idH)∧Fr No w2 wr) (λ_ iv _=>b.txs.length-(intOf iv).toNat)
   case atStart=>exact⟨0,rfl,zero_le _,by simp,by simpa using BY.o,FY.o⟩
   case round=>
    obtain⟨n,rfl,hn,O,V,fr⟩:=hrel
    have FT:=J fr
    have BT:=J V
    have AL:=J O
    have GT:=J (G2.o.keep0 fr)
    have ah:=@J (w.heap.size+2≤wr.heap.size) (by have:=fr.size;have:=G.o;omega)
    have T:=@J ((A++(b.txs.take n).flatMap idH).length≤400+32*n) (by
     rw[length_append,zds,length_take]
     have:=ag.o
     omega)
    obtain⟨ba,bc,u⟩:=V.form
    clear fr V O
    by_cases W:n<b.txs.length
    ·have i1:(n:Int)<(b.txs.length:Int):=by omega
     obtain⟨t,m⟩:∃x,b.txs[n]? =some x:=⟨_,getElem?_eq_getElem W⟩
     have TF:=J (vG idH m)
     obtain⟨bb,off,ai,cs,Z,hr,hq⟩:=HX.o.at_ m
     cases Z
     have R1:=J (zb hr FT.o id)
     have TQ:=J (hq.keep FT.o)
     obtain⟨M,tc,g,k,aj⟩:=hq.form
     subst aj
     have S:=J ((frN wr).alloc (.cells #[.int .u32 t.ver,.slice M t.ins.length tc,.slice g t.outs.length k] 62))
     have QA:=@J ((wr.alloc (.cells #[.int .u32 t.ver,.slice M t.ins.length tc,.slice g t.outs.length k] 62)).heap.size=wr.heap.size+1) (by simp)
     have RT:=J (qC wr (.int .u32 t.ver) (.slice M t.ins.length tc) (.slice g t.outs.length k) 62).2.2.2
     have ID:=J (zcK (GT.o.keep0 S.o) (TQ.o.keep S.o))
     have ae:=J (yr (vk t))
     have ad:=J (vk t).1
     have D0:=J (BT.o.ne (le_refl _))
     have FW:=J (FT.o.trans0 S.o)
     have BW:=J (BT.o.keep0 S.o)
     have aa:=J m
     clear hr m hq
     subst u
     by_cases hfm:yV t=true
     ·have IE:=@J (idE t=0) (by simp[idE,hfm])
      have AN:=@J (∀s∈b.txs.take (n+1),yV s=true) (λs Y=>by
       rw[take_add_one,aa.o] at Y
       rcases mem_append.1 Y with Y|Y
       ·exact AL.o s Y
       ·simp at Y;subst Y;exact hfm)
      rw[IE.o] at ID
      clear hfm
      generalize idH t=I at*
      have ak:=λq=>Zv q 0
      generalize U:A++(b.txs.take n).flatMap idH=Lo at*
      have⟨p,r,K2,K3,K4,K5⟩:=tZ6
      go_wp2_with ((first|((with_reducible refine zt ?_);first|(clear p;refine ziU rfl rfl rfl R1.o rfl ?_)|(clear K2;refine ziU rfl rfl rfl RT.o rfl ?_;generalize wr.alloc (.cells #[.int .u32 t.ver,.slice M t.ins.length tc,.slice g t.outs.length k] 62)=wA at*)|(clear K5;at_builtin;refine zk rfl rfl rfl rfl A7.o ?_))|((with_reducible refine zr ?_);first|(clear r;refine ze rfl (zj (w:=wr) (ty:=62) (cs:=[.int .u32 t.ver,.slice M t.ins.length tc,.slice g t.outs.length k]) rfl rfl rfl rfl qN (jF (a:=M) (b:=g))) ?_)|(clear K4;refine zi3 (w:=f) (cs:=zl I) rfl rfl rfl rfl ae.o zX ?_;have F6:=@J (Fr No f (f.alloc (.cells (zl I).toArray 40))) ((frN f).alloc _);have B6:=J (zS f (.cells (zl I).toArray 40));have Q6:=@J ((f.alloc (.cells (zl I).toArray 40)).heap.size=f.heap.size+1) (by simp);generalize f.alloc (.cells (zl I).toArray 40)=w6 at*;have BX:=J ((BW.o.keep0 F.o).keep0 F6.o);have N:=J ((FW.o.trans0 F.o).trans0 F6.o);obtain⟨v7,w7,l,j,h,-⟩:=yq w6 BX.o (Jf (zm B6.o) ad.o (by have:=Q6.o;omega)) (by have:=T.o;have:=ad.o;omega) (by have:=ah.o;have:=N.o.size;have:=G.o;omega) 84;have A7:=J l;have B7:=J j;have F7:=J (yC.step N.o BX.o (by have:=G.o;omega) h);clear l j h))|(clear K3;go_at_call 27;refine ID.o.mono ?_;rintro e f ⟨rfl,D⟩;have F:=J D;clear D));go_frame)
      go_roundw
      case rel=>exact⟨n+1,by go_num,by omega,AN.o,by rw[TF.o,←List.append_assoc,U];exact B7.o,F7.o⟩
      case measure=>simp[intOf];omega
     ·have d:xC b=false:=by
       have:b.txs.all yV=false:=by
        rw[List.all_eq_false]
        exact⟨t,mem_of_getElem? aa.o,hfm⟩
       simp[xC,this]
      have IE:=@J (idE t=5) (by simp[idE,hfm])
      rw[IE.o] at ID
      have z:=J (JH d)
      have c:=@J ((zl z7).length=32) (rfl)
      clear d
      clear hfm
      generalize idH t=I at*
      generalize (A++(b.txs.take n).flatMap idH).length=zz at*
      have⟨p,r,K2,K3,K4,K5,K6⟩:=tZ7
      go_wp2_with ((first|((with_reducible refine zt ?_);first|(clear p;refine ziU rfl rfl rfl R1.o rfl ?_)|(clear K2;refine ziU rfl rfl rfl RT.o rfl ?_;generalize wr.alloc (.cells #[.int .u32 t.ver,.slice M t.ins.length tc,.slice g t.outs.length k] 62)=wA at*)|(clear K5;with_reducible refine xF 79 ?_;refine zg rfl (yl (t:=40) rfl rfl (jt _)) ?_))|((with_reducible refine zr ?_);first|(clear r;refine ze rfl (zj (w:=wr) (ty:=62) (cs:=[.int .u32 t.ver,.slice M t.ins.length tc,.slice g t.outs.length k]) rfl rfl rfl rfl qN (jF (a:=M) (b:=g))) ?_)|(clear K4;refine zi3 (w:=f) (cs:=zl I) rfl rfl rfl rfl ae.o zX ?_;have F6:=@J (Fr No f (f.alloc (.cells (zl I).toArray 40))) ((frN f).alloc _);generalize f.alloc (.cells (zl I).toArray 40)=w6 at*;have N:=J ((FW.o.trans0 F.o).trans0 F6.o);have BZ:=J (N.o.obj B2.o _root_.id))|(clear K6;refine ze rfl (zy (ty:=40) (b:=w.heap.size+1) (off:=0) (cs:=zl z7) rfl rfl rfl (by rw[c.o];exact zM BZ.o (le_of_eq xN.symm)) (by rw[c.o];exact yG) zX) ?_))|(clear K3;go_at_call 27;refine ID.o.mono ?_;rintro e f ⟨rfl,D⟩;have F:=J D;clear D));go_frame)
      refine bodyPost_ret (zR (P:=prog) (fn:=Tryz.f8) rfl _ rfl (yE BZ.o (by rw[c.o];exact xN)) uH rH (by rw[c.o];exact yG) rfl) rfl ⟨by rw[z.o.1,z.o.2];rfl,?_⟩
      exact(Q.o.trans0 N.o).trans (zv _ _ _ _) (λi hi e=>by omega)
    ·have X:n=b.txs.length:=by omega
     subst X
     have i1:¬(b.txs.length:Int)<(b.txs.length:Int):=by omega
     rw[take_length] at BT T AL u
     have E:xC b=true:=by
      have:b.txs.all yV=true:=List.all_eq_true.2 AL.o
      simp[xC,this,p8,aq]
     have z:=J (Jr E)
     rw[LE.o] at z
     have H:=@J ((zl (xL (A++b.txs.flatMap idH))).length=32) (yr (jh _))
     have F4:=@J (Fr No wr (wr.alloc (.cells #[.slice ba (A++b.txs.flatMap idH).length bc] 84))) ((frN wr).alloc _)
     subst u
     have ab:=J (zau (GT.o.keep0 F4.o) (v:=.slice (some ⟨wr.heap.size,0,none⟩) 1 1) (L:=[A++b.txs.flatMap idH]) (Vm BT.o.slice.arg) (by simp) (by have:=T.o;simp only[List.flatten_cons,List.flatten_nil,List.append_nil];omega))
     rw[show[A++b.txs.flatMap idH].flatten=A++b.txs.flatMap idH by simp] at ab
     clear E
     generalize xL (A++b.txs.flatMap idH)=TB at*
     generalize (A++b.txs.flatMap idH).length=zz at*
     have⟨p,r⟩:=tZ2
     go_wp2_with ((first|(clear p;go_at_call 28;refine ab.o.mono ?_;rintro e f ⟨rfl,D⟩;have N:=J ((FT.o.trans0 F4.o).trans0 D);clear D;have BZ:=J (N.o.obj B2.o _root_.id))|((with_reducible refine zr ?_);clear r;refine ze rfl (zy (ty:=40) (b:=w.heap.size+1) (off:=0) (cs:=zl TB) rfl rfl rfl (by rw[H.o];exact zM BZ.o (le_of_eq xN.symm)) (by rw[H.o];exact yG) zX) ?_));go_frame)
     refine bodyPost_ret (zR (P:=prog) (fn:=Tryz.f8) rfl _ rfl (yE BZ.o (by rw[H.o];exact xN)) uH rH (by rw[H.o];exact yG) rfl) rfl ⟨by rw[z.o.1,z.o.2];rfl,?_⟩
     exact(Q.o.trans0 N.o).trans (zv _ _ _ _) (λi hi e=>by omega)
def xX (x:yk):Bool:=decide (x.value=0)||decide (1125899906842624<x.value)
theorem zfB {l:List yk} (h:∀x∈l,x.ok):(l.flatMap zx).length=l.length*33:=qU zx 33 l (λx a=>z6 (h x a))
theorem zfC {l:List yk}:∀u∈l.flatMap zx,u.oneCell'=true:=λu a=>by
 obtain⟨x,_,b⟩:=List.mem_flatMap.1 a
 exact zV u b
theorem vy (w:World) {v x:Value} {k l:List yk} (p:w.ownsRow B 68 33 v k.length (k.flatMap zx)) (m:xA w x l) (o:k.length+l.length≤100000) (n:B≤w.heap.size) (ty:TypeId):
  ∃b w',(Builtin.append_ #[22,22] ty #[v,x]).run prog w=.ok b w'∧w'.ownsRow B 68 33 b (k.length+l.length) ((k++l).flatMap zx)∧Fr (λj=>v.ownBlock=some j) w w'∧Zq w v b:=by
 by_cases hnil:x=.slice none 0 0
 ·obtain⟨a,c,h⟩:=m.2.form
  rw[hnil] at h
  injection h with h1 h2 h3
  have q:l=[]:=List.eq_nil_of_length_eq_zero h2.symm
  subst q
  obtain⟨b,w',d,f,g,i⟩:=qT (P:=prog) w B 22 ty 68 33 40 _ vU Jw (by rw[←xq];rfl) (by decide) v k.length (k.flatMap zx) p x 0 [] (.inl ⟨hnil,rfl,rfl⟩) rfl (by simp) (by simp at o⊢;omega) (by unfold maxLen;simp at o;omega) n
  exact⟨b,w',d,by simpa using f,g,i⟩
 ·obtain⟨b,w',d,f,g,-,i⟩:=Jq (P:=prog) w B 22 ty 68 33 40 _ vU Jw (by rw[←xq];rfl) (by decide) v k.length (k.flatMap zx) p x l.length (l.flatMap zx) m.2 (zfB m.1) zfC (by omega) (by unfold maxLen;omega) n hnil
  refine⟨b,w',d,?_,(Fr.refl _ w).grown g (λk e=>.inr e),i⟩
  rw[List.flatMap_append]
  exact f
theorem Yt {l:List yk} (h:w.ownsRow B 68 33 v l.length (l.flatMap zx)) (ok:∀x∈l,x.ok) (a:∀j,V j→j<B):Kept V w (λw=>xA w v l):=
 λw' f=>⟨ok,(zf h f (λb c d=>by have:=(h.lt b c).1;have:=a b d;omega)).slice.arg⟩
def xY:List Value:=[.int .u64 0,.slice none 0 0,.slice none 0 0]
theorem jY (w:World):(zeroValue 36).run prog w=.ok (.agg xY.toArray) w:=by kernel_rfl
theorem Qm (t:Int) (a:Option Addr) (n c:Nat) (w:World):(Instr.build 36 #[(0,.int .u64 t),(1,.slice a n c)]).run prog w=.ok (.agg [.int .u64 t,.slice a n c,.slice none 0 0].toArray) w:=by kernel_rfl
def zeI (w:World) (b:y7) (e:Ending) (w':World):Prop:=∃cs,e=.returned (.agg cs.toArray)∧Fr No w w'∧∀V:Nat→Prop,(∀j,V j→j<w.heap.size)→Kept V w' (λw=>xT w b cs)
theorem zc4 {q:Nat} {T:TypeId} {z cs:List Value} (h:w.heap[q]? =some (.cells z.toArray T (0,0))) (b:z.length=cs.length):(w.setCells q 0 cs).heap[q]? =some (.cells cs.toArray T (0,0)):=by
 have a:=yN q T cs 0 w _ h
 have e:=qL cs [] z [] b
 simp only[List.nil_append,List.append_nil,List.length_nil] at e
 rw[List.toList_toArray,e] at a
 exact a
structure Zp where
 took:List zh
 made:List zE
structure zU where
 blk:y7
 ids:List zY
 chg:List Zp
structure ChD where
 S:List zh
 bs:List zU
 M:List (zY×Int)
def zaz (w:World) (c:Zp) (cs:List Value):Prop:=∃ta tc ma mc,cs=[.slice ta c.took.length tc,.slice ma c.made.length mc]∧xz w (.slice ta c.took.length tc) c.took∧qz w (.slice ma c.made.length mc) c.made
abbrev Qt (w:World) (v:Value) (L:List Zp):Prop:=xB 2 zaz w v L
def vr (w:World) (d:zU) (cs:List Value):Prop:=∃bcs ia ic ca cc,cs=bcs++[.slice ia d.ids.length ic,.slice ca d.chg.length cc]∧xT w d.blk bcs∧ZM w (.slice ia d.ids.length ic) d.ids∧Qt w (.slice ca d.chg.length cc) d.chg
theorem xT.len {b:y7} (h:xT w b cs):cs.length=3:=by
 obtain⟨a,c,d,e,rfl,_⟩:=h
 rfl
theorem xT.form {b:y7} (h:xT w b cs):∃f g i j,cs=[.int .u64 b.tag,.slice f b.pay.length g,.slice i b.txs.length j]:=by
 obtain⟨a,c,d,e,rfl,_⟩:=h
 exact⟨a,c,d,e,rfl⟩
theorem vr.form {d:zU} (h:vr w d cs):∃g i j k e f a c,cs=[.int .u64 d.blk.tag,.slice g d.blk.pay.length i,.slice j d.blk.txs.length k,.slice e d.ids.length f,.slice a d.chg.length c]:=by
 obtain⟨b,e,f,a,c,rfl,l,-⟩:=h
 obtain⟨g,i,j,k,rfl⟩:=l.form
 exact⟨g,i,j,k,e,f,a,c,rfl⟩
theorem vr.one {d:zU} (h:vr w d cs):cs.length=5∧∀u∈cs,u.oneCell'=true:=by
 obtain⟨g,i,j,k,e,f,b,c,rfl⟩:=h.form
 refine⟨rfl,λu a=>?_⟩
 simp only[List.mem_cons,List.not_mem_nil,or_false] at a
 rcases a with rfl|rfl|rfl|rfl|rfl<;>rfl
abbrev zeH (w:World) (m:Nat) (M:List (zY×Int)):Prop:=yS prog 40 YG zfR w m M
def chV (p:Nat) (U:Nat→Prop) (mi:Nat) (bv:Value):Nat→Prop:=λj=>j=p∨U j∨j=mi∨bv.ownBlock=some j
def qh (l:List Zp) (S:List zh):List zh:=l.foldr (λc S=>qQ (vu S c.made) c.took) S
def zdA:Nat→Int
 |0=> -1
 |m+1=>(m:Int)
def vw (l:List Zp):Nat:=(l.map λc=>c.took.length+c.made.length).sum
theorem zas (S:List zh) (ps:List zE):(vu S ps).length≤S.length:=by
 unfold vu
 split
 ·exact List.length_filter_le _ _
 ·exact le_refl _
theorem zbV (S l:List zh):(qQ S l).length≤S.length+l.length:=by
 unfold qQ
 split
 ·rw[(jd l S).length_eq,length_append];exact le_refl _
 ·omega
theorem zav:∀(l:List Zp) (S:List zh),(qh l S).length≤S.length+vw l
 |[],S=>le_refl _
 |c::l,S=>by
  have a:=zav l S
  have b:=zas (qh l S) c.made
  have d:=zbV (vu (qh l S) c.made) c.took
  show(qQ (vu (qh l S) c.made) c.took).length≤_
  simp only[vw,List.map_cons,List.sum_cons] at*
  omega
theorem zdg {l:List Zp} {m:Nat} {c:Zp} (S:List zh) (h:l[m]? =some c):qh (l.drop m) S=qQ (vu (qh (l.drop (m+1)) S) c.made) c.took:=by
 rw[List.drop_eq_getElem_cons (List.getElem?_eq_some_iff.1 h).1,(List.getElem?_eq_some_iff.1 h).2]
 rfl
theorem zdc (l:List Zp) (m:Nat):vw (l.drop m)≤vw l:=by
 have h:vw (l.take m++l.drop m)=vw (l.take m)+vw (l.drop m):=by simp only[vw,List.map_append,List.sum_append]
 rw[List.take_append_drop] at h
 omega
theorem zf0 {l:List Zp} {m:Nat} {c:Zp} (h:l[m]? =some c):vw (l.drop (m+1))+c.took.length+c.made.length≤vw l:=by
 have a:=zdc l m
 rw[List.drop_eq_getElem_cons (List.getElem?_eq_some_iff.1 h).1,(List.getElem?_eq_some_iff.1 h).2] at a
 simp only[vw,List.map_cons,List.sum_cons] at*
 omega
theorem vm (id:zY) (l:List yk):((xP id l).map (·.at_)).Nodup:=by
 unfold List.Nodup
 rw[List.pairwise_map,List.pairwise_iff_getElem]
 intro i j hi c d
 have a:=JI id (l:=l) (i:=i) (getElem?_eq_getElem (by rwa [xZ] at hi))
 have b:=JI id (l:=l) (i:=j) (getElem?_eq_getElem (by rwa [xZ] at c))
 rw[getElem?_eq_getElem hi] at a
 rw[getElem?_eq_getElem c] at b
 rw[Option.some.inj a,Option.some.inj b]
 intro e
 injection e with _ e
 omega
def yZ (b:y7):List zh:=xP (xH b) b.pay
theorem jD (b:y7):(yZ b).length=b.pay.length:=xZ _ _
structure DoR where
 E:Int
 S:List zh
 d:zU
theorem zed {b o:Nat} (h:Kept V w (λw=>∃u,w.cell? ⟨b,o,none⟩=some u)):¬V b:=λj=>by
 have f:Fr V w {w with heap:=w.heap.setIfInBounds b (.cells #[] 0 (0,0))}:=⟨rfl,rfl,rfl,by simp,λk l g=>by
  have:b≠k:=λe=>g (e▸j)
  simp[Array.getElem?_setIfInBounds_ne this]⟩
 obtain⟨u,i⟩:=h _ f
 have a:b<w.heap.size:=by
  obtain⟨m,c⟩:=h.now
  exact World.block_lt_of_cell? w _ c
 have d:({w with heap:=w.heap.setIfInBounds b (.cells #[] 0 (0,0))}:World).heap[b]? =some (.cells #[] 0 (0,0)):=by simp[a]
 have:=zm d
 simp[World.cell?,a] at i
theorem zaQ {α:Type} {k:Nat} {q:World→α→List Value→Prop} {L:List α} (F:0<k) (p:∀w d cs,q w d cs→cs.length=k) (h:Kept V w (λw=>xB k q w v L)) {i:Nat} {d:α} (y:L[i]? =some d):
  ∃b off l cs,v=.slice (some ⟨b,off,none⟩) L.length l∧¬V b∧q w d cs∧Kept V w (λw=>w.rangeAt b (off+i*k) cs∧q w d cs):=by
 obtain⟨b,off,l,cs,rfl,H,x⟩:=h.now.at_ y
 have m:∀w',Fr V w w'→∃a,w'.rangeAt b (off+i*k) a∧q w' d a:=λw' f=>by
  obtain⟨I,A,t,a,e,g,c⟩:=(h w' f).at_ y
  injection e with e1 e2 e3
  injection e1 with e1
  injection e1 with e1 e4
  subst e1
  subst e4
  exact⟨a,g,c⟩
 have z:¬V b:=zed (o:=off+i*k) λw' f=>by
  obtain⟨a,g,c⟩:=m w' f
  have G:=p _ _ _ c
  cases a with
  |nil=>simp at G;omega
  |cons u r=>exact⟨u,g 0 u rfl⟩
 refine⟨b,off,l,cs,rfl,z,x,λw' f=>?_⟩
 obtain⟨a,g,c⟩:=m w' f
 have:a=cs:=by
  have C:=p _ _ _ x
  have D:=p _ _ _ c
  apply List.ext_getElem (by rw[C,D])
  intro j E n
  have B:=f.cell (H j _ (getElem?_eq_getElem n)) z
  have s:=g j _ (getElem?_eq_getElem E)
  rw[B] at s
  exact(Option.some.inj s).symm
 subst this
 exact⟨g,c⟩
theorem Q0:(prog.info? 117).map (λi=>(i.zero,i.size,i.bytes))=some (some (.agg #[.slice none 0 0,.slice none 0 0]),2,48):=by kernel_rfl
theorem XB:(prog.info? 117).map (λi=>(i.zero,i.size))=some (some (.agg #[.slice none 0 0,.slice none 0 0]),2):=by kernel_rfl
theorem qK:(prog.info? 117).map (·.size)=some 2:=by kernel_rfl
theorem zaE:∃d,prog.underlying 117=some d∧d.isRow=true:=vq (by kernel_rfl)
theorem YA:prog.underlying 92=some (.slice 117):=by kernel_rfl
theorem zaY (w:World):(zeroValue 117).run prog w=.ok (.agg #[.slice none 0 0,.slice none 0 0]) w:=by kernel_rfl
theorem Z8 {l:List zE} (h:w.ownsRow B 72 33 v l.length (l.flatMap zi)) (ok:∀x∈l,x.ok) (a:∀j,v.ownBlock=some j→¬V j):Kept V w (λw=>qz w v l):=
 λw' f=>⟨ok,(zf h f a).slice.arg⟩
def xW (l:List yk):Int:=(l.map (·.value)).sum
theorem Yz {l:List yk} {n:Nat} {x:yk} (h:l[n]? =some x):xW (l.take (n+1))=xW (l.take n)+x.value:=by
 unfold xW
 rw[take_add_one,h]
 simp
theorem zdG:∀ {l:List yk},(∀x∈l,0≤x.value∧xX x=false)→0≤xW l∧xW l≤1125899906842624*(l.length:Int)
 |[],_=>by simp[xW]
 |x::l,h=>by
  have c:=zdG (l:=l) (λy b=>h y (.tail _ b))
  have a:=h x (.head _)
  have d:x.value≤1125899906842624:=by
   have:=a.2
   unfold xX at this
   rw[Bool.or_eq_false_iff] at this
   have:=this.2
   simp at this
   omega
  have e:xW (x::l)=x.value+xW l:=by simp[xW]
  rw[e]
  simp only[List.length_cons]
  omega
def yM (t:TxD):Int:=
 if yV t=true then
  (if t.ins.length=0∨t.outs.length=0 then 9
   else if t.outs.any xX=true then 11
   else if 1125899906842624<xW t.outs then 11
   else if(yI t).Nodup then 0 else 12)
 else 5
def xO (w:World) (t:TxD) (e:Ending) (w':World):Prop:=e=.returned (.int .i64 (yM t))∧Fr No w w'
theorem V4 (w:World) {t:TxD} (ht:TxQ w t cs):
  Calls prog 48 #[.agg cs.toArray] w (xO w t):=by
 have HT:=J ht
 obtain⟨I,L,Q,R,rfl,hv,hi,ho⟩:=ht
 have zI:=vX
 have zO:=yA
 have F1:=J ((frN w).alloc (.cells #[.int .u32 t.ver,.slice I t.ins.length L,.slice Q t.outs.length R] 62))
 obtain⟨-,c1,c2,r0⟩:=qF w t.ver (.slice I t.ins.length L) (.slice Q t.outs.length R)
 have S:=J c1
 have C2:=J c2
 have R0:=J r0
 have HO:=J (ho.keep F1.o)
 have HF:=J (zbr (w.alloc (.cells #[.int .u32 t.ver,.slice I t.ins.length L,.slice Q t.outs.length R] 62)) (HT.o.keep F1.o))
 clear hi ho hv c1 c2 r0
 show Calls prog 48 #[.agg #[.int .u32 t.ver,.slice I t.ins.length L,.slice Q t.outs.length R]] w _
 by_cases d:yV t=true
 rotate_left
 ·have B:yV t=false:=by simpa using d
  have r:=@J (∀w',Fr No w w'→xO w t (.returned (.int .i64 5)) w') (λw' f=>⟨by simp[yM,B],f⟩)
  rw[B] at HF
  clear d B
  go_enter Tryz.func48,Tryz.ntmps48
  go_wp2_with (first|(refine ziU rfl rfl rfl R0.o rfl ?_;generalize w.alloc (.cells #[.int .u32 t.ver,.slice I t.ins.length L,.slice Q t.outs.length R] 62)=w1 at*)|(go_at_call 59;refine HF.o.mono ?_;rintro e w2 ⟨rfl,p⟩;have a:=J p;have F:=J (F1.o.trans0 p);clear p;have d1:=a.o.cell S.o id;have d2:=a.o.cell C2.o id))
  go_ret
  exact r.o _ F.o
 obtain⟨hk,ak,aq⟩:=qi.1 d
 rw[d] at HF
 by_cases h0:t.ins.length=0
 ·have r:=@J (∀w',Fr No w w'→xO w t (.returned (.int .i64 9)) w') (λw' f=>⟨by simp[yM,d,h0],f⟩)
  have jz:((t.ins.length:Int)==0)=true:=by simp[h0]
  clear hk ak aq d h0
  go_enter Tryz.func48,Tryz.ntmps48
  go_wp2_with (first|(refine ziU rfl rfl rfl R0.o rfl ?_;generalize w.alloc (.cells #[.int .u32 t.ver,.slice I t.ins.length L,.slice Q t.outs.length R] 62)=w1 at*)|(go_at_call 59;refine HF.o.mono ?_;rintro e w2 ⟨rfl,p⟩;have a:=J p;have F:=J (F1.o.trans0 p);clear p;have d1:=a.o.cell S.o id;have d2:=a.o.cell C2.o id))
  go_ret
  exact r.o _ F.o
 have jz:((t.ins.length:Int)==0)=false:=by rw[beq_eq_false_iff_ne];omega
 by_cases h1:t.outs.length=0
 ·have r:=@J (∀w',Fr No w w'→xO w t (.returned (.int .i64 9)) w') (λw' f=>⟨by simp[yM,d,h1],f⟩)
  have jy:((t.outs.length:Int)==0)=true:=by simp[h1]
  clear hk ak aq d h0 h1
  go_enter Tryz.func48,Tryz.ntmps48
  go_wp2_with (first|(refine ziU rfl rfl rfl R0.o rfl ?_;generalize w.alloc (.cells #[.int .u32 t.ver,.slice I t.ins.length L,.slice Q t.outs.length R] 62)=w1 at*)|(go_at_call 59;refine HF.o.mono ?_;rintro e w2 ⟨rfl,p⟩;have a:=J p;have F:=J (F1.o.trans0 p);clear p;have d1:=a.o.cell S.o id;have d2:=a.o.cell C2.o id))
  go_ret
  exact r.o _ F.o
 have jy:((t.outs.length:Int)==0)=false:=by rw[beq_eq_false_iff_ne];omega
 have af:=@J ((∃x∈t.outs,xX x=true)→∀w',Fr No w w'→xO w t (.returned (.int .i64 11)) w') (λh w' f=>⟨by
  have:t.outs.any xX=true:=List.any_eq_true.2 h
  unfold yM
  rw[if_pos d,if_neg (by omega),if_pos this],f⟩)
 have aG:=@J (t.outs.any xX=false→1125899906842624<xW t.outs→∀w',Fr No w w'→xO w t (.returned (.int .i64 11)) w') (λh h' w' f=>⟨by
  unfold yM
  rw[if_pos d,if_neg (by omega),if_neg (by rw[h];simp),if_pos h'],f⟩)
 have aF:=@J (t.outs.any xX=false→¬1125899906842624<xW t.outs→∀w',Fr No w w'→xO w t (.returned (.int .i64 (if(yI t).Nodup then 0 else 12))) w') (λh h' w' f=>⟨by
  have e:yM t=if(yI t).Nodup then 0 else 12:=by
   unfold yM
   rw[if_pos d,if_neg (by omega),if_neg (by rw[h];simp),if_neg h']
  rw[e],f⟩)
 clear hk d h0 h1
 go_enter Tryz.func48,Tryz.ntmps48
 go_wp2_with (first|(refine ziU rfl rfl rfl R0.o rfl ?_;generalize w.alloc (.cells #[.int .u32 t.ver,.slice I t.ins.length L,.slice Q t.outs.length R] 62)=w1 at*)|(go_at_call 59;refine HF.o.mono ?_;rintro e w2 ⟨rfl,p⟩;have a:=J p;have F:=J (F1.o.trans0 p);clear p;have d1:=a.o.cell S.o id;have d2:=a.o.cell C2.o id))
 have FO:=J a.o
 clear d1 d2 jz jy
 go_loopw [3,25] (λsv iv wr=>∃n:Nat,iv=.int .i64 n∧n≤t.outs.length∧sv=.int .u64 (xW (t.outs.take n))∧(∀x∈t.outs.take n,xX x=false)∧Fr No w2 wr) (λ_ iv _=>t.outs.length-(intOf iv).toNat)
 case atStart=>exact⟨0,rfl,zero_le _,rfl,by simp,Fr.refl _ _⟩
 case round=>
  obtain⟨n,rfl,hn,rfl,A,fr⟩:=hrel
  have FR:=J fr
  have AL:=J A
  have aE:=J ((HO.o.keep a.o).keep fr)
  have E:=zdG (l:=t.outs.take n) (λx q=>⟨(HO.o.1 x (List.mem_of_mem_take q)).1.1,A x q⟩)
  rw[length_take] at E
  clear fr A
  by_cases X:n<t.outs.length
  ·have i1:(n:Int)<(t.outs.length:Int):=by omega
   obtain⟨x,q⟩:∃x,t.outs[n]? =some x:=⟨_,getElem?_eq_getElem X⟩
   obtain⟨bb,off,aO,hv,hr,-⟩:=aE.o.at_ q
   cases hv
   have g:=HO.o.1 x (mem_of_getElem? q)
   have R1:=J hr
   have G:=J (z6 g)
   have FA:=J (FR.o.trans0 ((frN wr).alloc (.cells (zx x).toArray 68)))
   have n1:=(vt wr g).1
   have SN:=J (Yz q)
   have HX:=J q
   have vv:=g.1
   clear hr g q
   by_cases u:xX x=true
   ·have r:=J (af.o ⟨x,mem_of_getElem? HX.o,u⟩)
    have aR:x.value=0∨(x.value≠0∧1125899906842624<x.value):=by
     simp only[xX,Bool.or_eq_true,decide_eq_true_eq] at u
     by_cases h:x.value=0
     ·exact .inl h
     ·exact .inr ⟨h,u.resolve_left h⟩
    clear u E
    rcases aR with hz|⟨hz,ax⟩
    ·have H:(x.value==0)=true:=by simpa using hz
     clear hz
     have⟨K0,K1⟩:=tZ2
     go_wp2_with ((first|((with_reducible refine zt ?_);clear K0;refine ziW rfl rfl rfl R1.o G.o ?_)|((with_reducible refine zr ?_);clear K1;refine zi5 (w:=wr) (cs:=zx x) rfl rfl rfl rfl G.o zV ?_;generalize wr.alloc (.cells (zx x).toArray 68)=wA at*));go_frame)
     go_ret
     exact r.o _ (F.o.trans0 FA.o)
    ·have H:(x.value==0)=false:=by simpa using hz
     have aw:decide (1125899906842624<x.value)=true:=by simpa using ax
     clear hz ax
     have⟨K0,K1⟩:=tZ2
     go_wp2_with ((first|((with_reducible refine zt ?_);clear K0;refine ziW rfl rfl rfl R1.o G.o ?_)|((with_reducible refine zr ?_);clear K1;refine zi5 (w:=wr) (cs:=zx x) rfl rfl rfl rfl G.o zV ?_;generalize wr.alloc (.cells (zx x).toArray 68)=wA at*));go_frame)
     go_ret
     exact r.o _ (F.o.trans0 FA.o)
   ·have b:xX x=false:=by simpa using u
    have H:(x.value==0)=false:=by
     unfold xX at b
     rw[Bool.or_eq_false_iff] at b
     simpa using b.1
    have aw:decide (1125899906842624<x.value)=false:=by
     unfold xX at b
     rw[Bool.or_eq_false_iff] at b
     exact b.2
    have aS:x.value≤1125899906842624:=by simp at aw;omega
    have es:(xW (t.outs.take n)+x.value) % 18446744073709551616=xW (t.outs.take n)+x.value:=by omega
    have AN:=@J (∀y∈t.outs.take (n+1),xX y=false) (λy Z=>by
     rw[take_add_one,HX.o] at Z
     rcases mem_append.1 Z with Z|Z
     ·exact AL.o y Z
     ·simp at Z;subst Z;exact b)
    clear u b E aS
    have⟨K0,K1⟩:=tZ2
    go_wp2_with ((first|((with_reducible refine zt ?_);clear K0;refine ziW rfl rfl rfl R1.o G.o ?_)|((with_reducible refine zr ?_);clear K1;refine zi5 (w:=wr) (cs:=zx x) rfl rfl rfl rfl G.o zV ?_;generalize wr.alloc (.cells (zx x).toArray 68)=wA at*));go_frame)
    go_roundw
    case rel=>exact⟨n+1,by go_num,by omega,by rw[SN.o],AN.o,FA.o⟩
    case measure=>simp[intOf];omega
  ·have Y:n=t.outs.length:=by omega
   have i1:¬(n:Int)<(t.outs.length:Int):=by omega
   rw[Y,take_length] at AL
   have m:t.outs.any xX=false:=List.any_eq_false.2 (λx q=>by rw[AL.o x q];decide)
   have V:t.outs.take n=t.outs:=by rw[Y,take_length]
   rw[V]
   have FW:=J (F.o.trans0 FR.o)
   have ab:=J (a.o.trans0 FR.o)
   by_cases hs:1125899906842624<xW t.outs
   ·have r:=J (aG.o m hs)
    have js:decide (1125899906842624<xW t.outs)=true:=by simpa using hs
    clear hs m E V
    go_wp2
    go_ret
    exact r.o _ FW.o
   have js:decide (1125899906842624<xW t.outs)=false:=by simpa using hs
   have r:=J (aF.o m (by omega))
   have cI:=ab.o.cell S.o id
   have ms:=Xi wr
   have aN:(wr.alloc (.map #[] 0)).cell? ⟨w.heap.size,1,none⟩=some (.slice I t.ins.length L):=((frN wr).alloc (.map #[] 0)).cell cI id
   clear hs m E V
   go_wp2_with fail
   clear ms cI aN
   have FM:=J ((frN wr).alloc (.map #[] 0))
   have aC:=@J (Qs (wr.alloc (.map #[] 0)) wr.heap.size []) (yS.made wr)
   have ay:=J (FW.o.trans0 FM.o)
   have aa:=J ((ab.o.trans0 FM.o).cell S.o id)
   generalize wr.alloc (.map #[] 0)=w3 at*
   generalize ao:wr.heap.size=mb at*
   have NM:=@J (w.heap.size<mb) (by have:=FO.o.size;have h2:=FR.o.size;have h3:=World.block_lt_of_cell? _ _ S.o;have:=ao;simp only at h3;omega)
   have aM:=aa.o
   go_wp2_with fail
   clear aM
   go_loopw [48] (λiv wr=>∃(n:Nat) (M:List (zE×Int)),iv=.int .i64 n∧n≤t.ins.length∧Qs wr mb M∧(∀k,(∃c,(k,c)∈M)↔k∈(yI t).take n)∧M.length≤n∧Fr (λj=>j=mb) w3 wr) (λiv _=>t.ins.length-(intOf iv).toNat)
   case atStart=>exact⟨0,[],rfl,zero_le _,aC.o,by simp,le_refl _,Fr.refl _ _⟩
   case round=>
    obtain⟨n,M,rfl,hn,ar,an,C,fr⟩:=hrel
    have FQ:=J fr
    have v:=J ar
    have ae:=J an
    have T:=J C
    have FB:=@J (Fr No w wr) (ay.o.trans fr (λi hi e=>by have:=NM.o;omega))
    clear fr ar an C
    by_cases X:n<t.ins.length
    ·have i1:(n:Int)<(t.ins.length:Int):=by omega
     obtain⟨x,q⟩:∃x,t.ins[n]? =some x:=⟨_,getElem?_eq_getElem X⟩
     have az:=HT.o.keep FB.o
     obtain⟨aU,aV,aW,aX,e2,-,aj,-⟩:=az
     simp only[txC,List.cons.injEq,and_true] at e2
     obtain⟨-,e2,-⟩:=e2
     injection e2 with e21 _ e23
     subst e21;subst e23
     obtain⟨bb,off,aO,cs,hv,hr,ka,kc,rfl,g,al⟩:=aj.at_ q
     cases hv
     have R1:=J hr
     have aK:=J g
     have G:=J (vl g (.slice ka x.key.length kc))
     have PL:=J (zF g)
     have aP:(yI t).take (n+1)=(yI t).take n++[x.from_]:=by rw[take_add_one];simp[yI,q]
     have fA:=((frN wr).alloc (.cells (inC x.from_ (.slice ka x.key.length kc)).toArray 106)).drew
     have RB:=J (zb (jO wr (kv:=.slice ka x.key.length kc) g).1 (frN _).drew id)
     have QW:=@J (mb<wr.heap.size) (v.o.lt)
     obtain⟨v0,w7,s,M1,H,N,W,ag,O,P,av⟩:=(v.o.keep fA id).bump vi.keyed ZI (λ_ _=>qO) (z:=0) Zo (yF aK.o) (by unfold maxLen;have:=T.o;omega)
     obtain⟨w8,M',au,ah,hU,ai,aQ⟩:=av (IntKind.i64.wrap (v0+1)) w7 No (Fr.refl _ _) id
     have aI:=J (O _ (v.o.keep fA id))
     have aJ:=J (P _ ag)
     have ad:=J N
     have aH:=J au
     have aL:=J (zb RB.o W.fr (λe=>by have:=QW.o;omega))
     have aD:=J ah
     have F8:=@J (Fr (λj=>j=mb) w3 w8) (((FQ.o.trans0 fA).trans W.fr (λi hi e=>e)).trans ai.fr (λi hi e=>e))
     have aA:=@J (∀k,(∃c,(k,c)∈M')↔k∈(yI t).take (n+1)) (λk=>by
      rw[aP,mem_append,List.mem_singleton,←ae.o k]
      constructor
      ·rintro⟨c,hc⟩
       rcases(hU k c).1 hc with⟨rfl,_⟩|⟨_,h⟩
       ·exact .inr rfl
       ·exact .inl ⟨c,h⟩
      ·rintro(⟨c,hc⟩|rfl)
       ·by_cases e:k=x.from_
        ·subst e;exact⟨_,(hU _ _).2 (.inl ⟨rfl,rfl⟩)⟩
        ·exact⟨c,(hU _ _).2 (.inr ⟨e,hc⟩)⟩
       ·exact⟨_,(hU _ _).2 (.inl ⟨rfl,rfl⟩)⟩)
     have aB:=@J (M'.length≤n+1) (by have:=T.o;omega)
     clear hr q al g aj fA N W ag O P av au ah hU ai aQ H
     go_wp2_with (first|(refine ziV rfl rfl rfl R1.o G.o ?_)|(refine zi4 (w:=wr) (cs:=inC x.from_ (.slice ka x.key.length kc)) rfl rfl rfl rfl G.o qD ?_))
     refine yD [ff,ff,ff,ff,ff,tt,ff,tt] (λw'=>w'.rangeAt wr.heap.size 0 (zi x.from_)∧(Instr.lookup 138 (.map (some mb)) (jR x.from_) false).run prog w'=.ok (.int .i64 v0) w') (by kernel_rfl) (by kernel_rfl) 7 (by kernel_rfl) (by kernel_rfl) ?_ (λK hK=>?_)
     ·exact⟨RB.o,aI.o⟩
     repeat((first|(refine ym rfl ?_;constructor;constructor;(focus(first|exact zi1 rfl (λw h=>h.1) PL.o|exact λw' h=>qY (t:=138) rfl rfl rfl h.2|(rintro w' ⟨s1,s2⟩;exact goS))))|(refine yn rfl ?_));try simp only[Act.put,pA,pB,pC])
     (refine yf rfl (λK' hK'=>?_))
     refine yg (YF rfl rfl rfl ad.o) ?_
     refine hK'.out _ _ (λ_=>?_) (λhS=>?_)
     ·exact⟨aL.o,aJ.o⟩
     try simp only[Act.put,pA,pB,pC]
     repeat((first|(refine ym rfl ?_;constructor;constructor;(focus(first|(rintro w' ⟨s1,s2⟩;exact goS))))|(refine yn rfl ?_));try simp only[Act.put,pA,pB,pC])
     (refine yf rfl (λK' hK'=>?_))
     refine xx (ZN rfl rfl rfl rfl aH.o) ?_
     refine hK'.out _ _ (λh=>absurd rfl h) (λhS=>?_)
     refine qp (hK.out _ _ ?_)
     go_wp2
     go_roundw
     case rel=>exact⟨n+1,M',by go_num,by omega,aD.o,aA.o,aB.o,F8.o⟩
     case measure=>simp[intOf];omega
    ·have Y:n=t.ins.length:=by omega
     have i1:¬(n:Int)<(t.ins.length:Int):=by omega
     have D:∀x,x∈M.map (·.1)↔x∈yI t:=by
      intro x
      rw[←show(yI t).take n=yI t from List.take_of_length_le (by simp[yI];omega),←ae.o x]
      simp
     have o:=XC v.o.nodup D
     rw[List.length_map,show(yI t).length=t.ins.length by simp[yI]] at o
     have LR:=J (λty=>v.o.lenRun ZI ty)
     have aT:=FQ.o.cell aa.o (λe=>by have:=NM.o;have e2:w.heap.size=mb:=e;omega)
     have C:=T.o
     by_cases hnd:(yI t).Nodup
     ·have j1:¬(M.length:Int)<(t.ins.length:Int):=by have:=o.2 hnd;omega
      have U:=@J (∀w',Fr No w w'→xO w t (.returned (.int .i64 0)) w') (λw' f=>by have:=r.o w' f;rwa [if_pos hnd] at this)
      clear o D hnd C
      go_wp2_with (refine zg rfl (j4 rfl rfl (LR.o _)) ?_)
      go_ret
      exact U.o _ FB.o
     ·have j1:(M.length:Int)<(t.ins.length:Int):=by have:M.length≠t.ins.length:=λe=>hnd (o.1 e);omega
      have U:=@J (∀w',Fr No w w'→xO w t (.returned (.int .i64 12)) w') (λw' f=>by have:=r.o w' f;rwa [if_neg hnd] at this)
      clear o D hnd C
      go_wp2_with (refine zg rfl (j4 rfl rfl (LR.o _)) ?_)
      go_ret
      exact U.o _ FB.o
def jK (x:Int):Value:=.int .u64 x
def Zl (l:List Int):Int:=if l.sum<18446744073709551616 then 0 else 3
def Zm (l:List Int):Int:=if l.sum<18446744073709551616 then l.sum else 0
theorem zbc (w:World) {l:List Int} (o:xG w v l.length (l.map jK)) (ok:∀x∈l,0≤x∧x≤18446744073709551615) (O:l.length≤100000):
  Calls prog 88 #[v] w λe w'=>e=.returned (.tuple #[.int .u64 (Zm l),.int .i64 (Zl l)])∧Fr No w w':=by
 have A:=J o
 have C:=J ok
 have k:=@J (∀n,n≤l.length→0≤(l.take n).sum∧(l.take n).sum≤18446744073709551615*(n:Int)) (λn=>by
  induction n with
  |zero=>intro _;simp
  |succ n ih=>
   intro u
   have D:=ih (by omega)
   have f:l[n]? =some l[n]:=getElem?_eq_getElem (by omega)
   have E:=ok l[n] (List.getElem_mem _)
   rw[take_add_one,f]
   simp only[Option.toList_some,List.sum_append,List.sum_cons,List.sum_nil]
   omega)
 obtain⟨K,L,rfl⟩:=o.form
 clear o ok
 go_enter Tryz.func88,Tryz.ntmps88
 go_wp2
 go_loopw [4,5,12] (λr I s wr=>∃n:Nat,s=.int .i64 n∧n≤l.length∧r=.int .u64 ((l.take n).sum / 18446744073709551616)∧I=.int .u64 ((l.take n).sum % 18446744073709551616)∧Fr No w wr) (λ_ _ s _=>l.length-(intOf s).toNat)
 case atStart=>exact⟨0,rfl,zero_le _,by simp,by simp,Fr.refl _ _⟩
 case round=>
  obtain⟨n,rfl,u,rfl,rfl,fr⟩:=hrel
  have j:=J fr
  clear fr
  have M:=k.o n u
  generalize i:(l.take n).sum=T at*
  by_cases p:n<l.length
  ·have G:(n:Int)<(l.length:Int):=by omega
   obtain⟨x,f⟩:∃x,l[n]? =some x:=⟨_,getElem?_eq_getElem p⟩
   have m:=C.o x (mem_of_getElem? f)
   have t:=@J ((l.take (n+1)).sum=T+x) (by rw[take_add_one,f,←i];simp)
   have d:∃b off c,Value.slice K l.length L=.slice (some ⟨b,off,none⟩) l.length c∧wr.cell? ⟨b,off+n,none⟩=some (.int .u64 x):=by
    rcases A.o.keep j.o with(⟨e,h,-⟩|⟨b,off,c,e,D,E,F,N⟩)|⟨a,c,e,h,-⟩
    ·omega
    ·exact⟨b,off,c,e,F n _ (by rw[List.getElem?_map,f];rfl)⟩
    ·omega
   obtain⟨b,off,c,r,P⟩:=d
   cases r
   have y:=@J ((T % 18446744073709551616+x+0) % 18446744073709551616=(T+x) % 18446744073709551616) (by omega)
   have z:=@J (T / 18446744073709551616+(T % 18446744073709551616+x) / 18446744073709551616=(T+x) / 18446744073709551616) (by omega)
   have B:0≤T % 18446744073709551616:=by omega
   have X0:=m.1
   clear f i
   go_wp2
   rw[run_callFunc_extern Tryz.func104 (by kernel_rfl) (by kernel_rfl) (by kernel_rfl) (e:=add64Entry) (by kernel_rfl),run_add64 _ x 0 B X0 (by omega) (by omega)]
   simp only[Result.andThen]
   rw[Oper.upon_value]
   rw[y.o]
   go_wp2
   go_roundw
   case rel=>exact⟨n+1,by go_num,by omega,by rw[t.o];exact congrArg (Value.int .u64) z.o,by rw[t.o],j.o⟩
   case measure=>simp[intOf];omega
  ·have q:n=l.length:=by omega
   have G:¬(n:Int)<(l.length:Int):=by omega
   have hS:l.sum=T:=by rw[←i,q,take_length]
   by_cases ho:T<18446744073709551616
   ·have g:=@J (Zl l=0∧Zm l=T) (by unfold Zl Zm;rw[hS,if_pos ho,if_pos ho];exact⟨rfl,rfl⟩)
    have H:(T / 18446744073709551616==0)=true:=by rw[beq_iff_eq];omega
    have Q:T % 18446744073709551616=T:=by omega
    clear hS ho i
    go_wp2
    go_ret2
    exact⟨by rw[g.o.1,g.o.2];rfl,j.o⟩
   ·have g:=@J (Zl l=3∧Zm l=0) (by unfold Zl Zm;rw[hS,if_neg ho,if_neg ho];exact⟨rfl,rfl⟩)
    have H:(T / 18446744073709551616==0)=false:=by rw[beq_eq_false_iff_ne];omega
    clear hS ho i
    go_wp2
    go_ret2
    exact⟨by rw[g.o.1,g.o.2];rfl,j.o⟩
def opens:List InD→List yk→Bool
 |x::I,o::O=>decide (y9 x.key=o.lock) && opens I O
 |_,_=>true
def yR (l:List yk):List Int:=l.map (·.value)
def jo (t:TxD) (prev:List yk):Int:=
 if yM t=0 then
  (if prev.length=t.ins.length then
   (if opens t.ins prev=true then
    (if(yR prev).sum<18446744073709551616 then(if xW t.outs≤(yR prev).sum then 0 else 11) else 11)
    else 13)
   else 2)
 else yM t
def zcG (t:TxD) (prev:List yk):Int:=if jo t prev=0 then(yR prev).sum-xW t.outs else 0
theorem Yb:∀ {I:List InD} {O:List yk},opens I O=true↔∀(i:Nat) (x:InD) (o:yk),I[i]? =some x→O[i]? =some o→y9 x.key=o.lock
 |[],O=>by simp[opens]
 |x::I,[]=>by simp[opens]
 |x::I,o::O=>by
  simp only[opens,Bool.and_eq_true,decide_eq_true_eq,Yb (I:=I) (O:=O)]
  constructor
  ·rintro⟨c,d⟩ i y p b a
   cases i with
   |zero=>simp at b a;subst b;subst a;exact c
   |succ i=>exact d i y p (by simpa using b) (by simpa using a)
  ·intro h
   exact⟨h 0 x o rfl rfl,λi y p b a=>h (i+1) y p (by simpa using b) (by simpa using a)⟩
theorem Vc:(prog.info? 33).map (λi=>(i.zero,i.size,i.bytes))=some (some (.int .u64 0),1,8):=by kernel_rfl
theorem zaX:prog.underlying 162=some (.slice 33):=by kernel_rfl
theorem Yy:∀ {l:List yk},(∀x∈l,0≤x.value)→0≤xW l
 |[],_=>by simp[xW]
 |x::l,h=>by
  have:=Yy (l:=l) (λy a=>h y (.tail _ a))
  have b:=h x (.head _)
  have e:xW (x::l)=x.value+xW l:=by simp[xW]
  omega
theorem zar {l:List yk} (h:∀x∈l,0≤x.value) (n:Nat):xW (l.take n)≤xW l:=by
 have e:xW (l.take n++l.drop n)=xW (l.take n)+xW (l.drop n):=by simp only[xW,List.map_append,List.sum_append]
 rw[List.take_append_drop] at e
 have:=Yy (l:=l.drop n) (λx a=>h x (List.mem_of_mem_drop a))
 omega
def Qu (w:World) (t:TxD) (prev:List yk) (e:Ending) (w':World):Prop:=e=.returned (.tuple #[.int .u64 (zcG t prev),.int .i64 (jo t prev)])∧Fr No w w'
theorem jW {t:TxD} {prev:List yk} {E:Int} (h:jo t prev=E) (a:E≠0):∀w',Fr No w w'→Qu w t prev (.returned (.tuple #[.int .u64 0,.int .i64 E])) w':=λw' f=>by
 refine⟨?_,f⟩
 have:zcG t prev=0:=by unfold zcG;rw[h,if_neg a]
 rw[this,h]
theorem zd2 (hg:jM w) {t:TxD} (ht:TxQ w t cs) {prev:List yk} (hp:xA w v prev) (hN:prev.length≤1000):
  Calls prog 67 #[.agg cs.toArray,v] w (Qu w t prev):=by
 have HG:=J hg
 have HT:=J ht
 have HP:=J hp
 obtain⟨ia,N,oa,oc,rfl,hv,hi,ho⟩:=ht
 obtain⟨va,vc,rfl⟩:=hp.2.form
 obtain⟨dH,uH,rH⟩:=JW
 have zO:=yA
 have F1:=J ((frN w).alloc (.cells #[.int .u32 t.ver,.slice ia t.ins.length N,.slice oa t.outs.length oc] 62))
 obtain⟨-,c1,c2,r0⟩:=qF w t.ver (.slice ia t.ins.length N) (.slice oa t.outs.length oc)
 have C1:=J c1
 have C2:=J c2
 have R0:=J r0
 have V:=J (V4 (w.alloc (.cells #[.int .u32 t.ver,.slice ia t.ins.length N,.slice oa t.outs.length oc] 62)) (HT.o.keep F1.o))
 clear hi ho hv c1 c2 r0 hp hg
 show Calls prog 67 #[.agg #[.int .u32 t.ver,.slice ia t.ins.length N,.slice oa t.outs.length oc],.slice va prev.length vc] w _
 by_cases hck:yM t=0
 rotate_left
 ·have b:=J (jW (t:=t) (prev:=prev) (w:=w) (E:=yM t) (by unfold jo;rw[if_neg hck]) hck)
  have jz:(yM t==0)=false:=by rw[beq_eq_false_iff_ne];exact hck
  clear hck
  go_enter Tryz.func67,Tryz.ntmps67
  have⟨D,F⟩:=tZ2
  go_wp2_with ((first|((with_reducible refine zt ?_);clear D;refine ziU rfl rfl rfl R0.o rfl ?_;generalize w.alloc (.cells #[.int .u32 t.ver,.slice ia t.ins.length N,.slice oa t.outs.length oc] 62)=w1 at*)|(clear F;go_at_call 48;refine V.o.mono ?_;rintro e w2 ⟨rfl,Q⟩;have c:=J Q;clear Q));go_frame)
  go_ret2
  exact b.o _ (F1.o.trans0 c.o)
 have bf:t.ins.length≤8:=by
  unfold yM at hck
  split at hck
  ·rename_i h;exact(qi.1 h).2.1
  ·cases hck
 have aI:=@J (∀x∈t.ins,x.key.length≤64) (by
  have A:=hck
  unfold yM at A
  split at A
  ·rename_i h;exact(qi.1 h).1
  ·cases A)
 by_cases hlen:prev.length=t.ins.length
 rotate_left
 ·have b:=J (jW (t:=t) (prev:=prev) (w:=w) (E:=2) (by unfold jo;rw[if_pos hck,if_neg hlen]) (by decide))
  have jl:¬(prev.length:Int)=(t.ins.length:Int):=by omega
  have aA:((prev.length:Int)==(t.ins.length:Int))=false:=by rw[beq_eq_false_iff_ne];exact jl
  unfold xO at V
  rw[hck] at V
  clear hck hlen
  go_enter Tryz.func67,Tryz.ntmps67
  have⟨D,F⟩:=tZ2
  go_wp2_with ((first|((with_reducible refine zt ?_);clear D;refine ziU rfl rfl rfl R0.o rfl ?_;generalize w.alloc (.cells #[.int .u32 t.ver,.slice ia t.ins.length N,.slice oa t.outs.length oc] 62)=w1 at*)|(clear F;go_at_call 48;refine V.o.mono ?_;rintro e w2 ⟨rfl,Q⟩;have c:=J Q;clear Q;have d1:=c.o.cell C1.o id));go_frame)
  go_ret2
  exact b.o _ (F1.o.trans0 c.o)
 have aA:((prev.length:Int)==(t.ins.length:Int))=true:=by rw[beq_iff_eq];omega
 have bk:((prev.length:Int) !=(t.ins.length:Int))=false:=by rw[bne,aA];rfl
 obtain⟨iK,aq,hz,ax,al⟩:=info_parts Vc
 have MK:=J (λ(w3:World)=>run_makeSlice_full (P:=prog) (w:=w3) w3.heap.size 162 33 iK _ 1 zaX aq hz ax .i64 .i64 prev.length (by omega) (by rw[al];omega) (by unfold maxLen;omega) (le_refl _))
 have FE:=@J (jo t prev=if opens t.ins prev=true then(if(yR prev).sum<18446744073709551616 then(if xW t.outs≤(yR prev).sum then 0 else 11) else 11) else 13) (by unfold jo;rw[if_pos hck,if_pos hlen])
 have O:=J hlen
 unfold xO at V
 rw[hck] at V
 clear aq hz ax al hck hlen
 go_enter Tryz.func67,Tryz.ntmps67
 have⟨D,F⟩:=tZ2
 go_wp2_with ((first|((with_reducible refine zt ?_);clear D;refine ziU rfl rfl rfl R0.o rfl ?_;generalize w.alloc (.cells #[.int .u32 t.ver,.slice ia t.ins.length N,.slice oa t.outs.length oc] 62)=w1 at*)|(clear F;go_at_call 48;refine V.o.mono ?_;rintro e w2 ⟨rfl,Q⟩;have c:=J Q;clear Q;have d1:=c.o.cell C1.o id;obtain⟨w4,aX,ar,an⟩:=MK.o w2;have ak:Fr No w2 w4:=Fr.of_grown an (λk e=>by cases e);have ad:=J ak;have aJ:=J ar;clear an ar ak));go_frame)
 have F4:=J (F1.o.trans0 (c.o.trans0 ad.o))
 have ab:=J (c.o.trans0 ad.o)
 have WL:=@J (w.heap.size<w2.heap.size) (by have q:=World.block_lt_of_cell? _ _ C1.o;have I:=c.o.size;simp only at q;omega)
 clear aX
 generalize w2.heap.size=g at*
 clear d1
 have jn:prev.length≤1000:=hN
 go_loopw [30] (λiv wr=>∃(n:Nat) (xs:List Value),iv=.int .i64 n∧n≤prev.length∧(∀i,i<n→∀x o,t.ins[i]? =some x→prev[i]? =some o→y9 x.key=o.lock)∧wr.ownsRow g 33 1 (.slice (some ⟨g,0,none⟩) prev.length prev.length) prev.length xs∧xs.take n=((yR prev).take n).map jK∧Fr (λj=>j=g) w4 wr) (λiv _=>prev.length-(intOf iv).toNat)
 case atStart=>exact⟨0,_,rfl,zero_le _,(λi hi=>by omega),aJ.o,by simp,Fr.refl _ _⟩
 case round=>
  obtain⟨n,xs,rfl,hn,au,av,az,fr⟩:=hrel
  have FR:=J fr
  have OP:=J au
  have W:=J av
  have ah:=J az
  have FW:=@J (Fr No w wr) (F4.o.trans fr (λi hi e=>by have:=WL.o;omega))
  clear fr au av az
  by_cases L:n<prev.length
  ·have i1:(n:Int)<(prev.length:Int):=by omega
   have i2:(n:Int)<(t.ins.length:Int):=by have:=O.o;omega
   obtain⟨o,m⟩:∃x,prev[n]? =some x:=⟨_,getElem?_eq_getElem L⟩
   obtain⟨x,hy⟩:∃x,t.ins[n]? =some x:=⟨_,getElem?_eq_getElem (by have:=O.o;omega)⟩
   obtain⟨bb,off,aS,hv,hr,-⟩:=(HP.o.keep FW.o).at_ m
   cases hv
   have d:=HP.o.1 o (mem_of_getElem? m)
   obtain⟨bh,bj,aZ,a1,z,-,ao,-⟩:=HT.o.keep FW.o
   simp only[txC,List.cons.injEq,and_true] at z
   obtain⟨-,z,-⟩:=z
   injection z with e21 _ e23
   subst e21;subst e23
   obtain⟨b3,p,a8,bd,aY,aw,ka,kc,rfl,aB,S⟩:=ao.at_ hy
   cases aY
   have R1:=J hr
   have Y:=J (z6 d)
   have KC:=@J (wr.cell? ⟨b3,p+n*34+33,none⟩=some (.slice ka x.key.length kc)) ((zfg aw aB).2)
   have G:=J d.2
   have fA:=((frN wr).alloc (.cells (zx o).toArray 68)).drew
   have U:=J fA
   have aT:=(frN wr).alloc (.cells (zx o).toArray 68)
   obtain⟨n1,n2⟩:=vt wr d
   have N1:=J n1
   have N2:=J n2
   have XW:=J (FR.o.cell (ab.o.cell C1.o id) (λe=>by have z:w.heap.size=g:=e;have:=WL.o;omega))
   have ai:=J (zfr (HG.o.keep0 (FW.o.trans0 fA)) ((S.keep fA).2) (by have:=aI.o x (mem_of_getElem? hy);omega))
   have aj:=J (vp x.key)
   have KS:=@J (∀w',Fr No (wr.alloc (.cells (zx o).toArray 68)).drew w'→w'.cell? ⟨w.heap.size,1,none⟩=some (.slice (some ⟨b3,p,none⟩) t.ins.length N)∧w'.cell? ⟨b3,p+n*34+33,none⟩=some (.slice ka x.key.length kc)∧w'.rangeAt wr.heap.size 1 (zl o.lock)) (λw' f=>⟨f.cell (U.o.cell XW.o id) id,f.cell (U.o.cell KC.o id) id,zb (zb N2.o (frN _).drew id) f id⟩)
   have aO:=@J (y9 x.key≠o.lock→opens t.ins prev=false) (λaa=>by
    cases ho:opens t.ins prev with
    |false=>rfl
    |true=>exact absurd (Yb.1 ho n x o hy m) aa)
   have TF:=@J (((yR prev).take (n+1)).map jK=((yR prev).take n).map jK++[jK o.value]) (by
    have e3:(yR prev)[n]? =some o.value:=by simp[yR,m]
    rw[take_add_one,e3]
    simp)
   have aP:=@J (y9 x.key=o.lock→∀i,i<n+1→∀x' o',t.ins[i]? =some x'→prev[i]? =some o'→y9 x'.key=o'.lock) (λhe i hi x' o' q I=>by
    by_cases hin:i<n
    ·exact OP.o i hin x' o' q I
    ·obtain rfl:i=n:=by omega
     rw[hy] at q;rw[m] at I
     cases q;cases I
     exact he)
   have ag:=J (zf W.o fA (λ_ _=>id))
   clear hr aw S aB ao fA aT n1 n2 m hy d
   go_wp2_with (first|(refine ziW rfl rfl rfl R1.o Y.o ?_)|(refine zi5 (w:=wr) (cs:=zx o) rfl rfl rfl rfl Y.o zV ?_))
   refine wrLx [ff,ff,ff,ff,ff,ff,tt,ff,ff,ff] (λw'=>w'.cell? ⟨w.heap.size,1,none⟩=some (.slice (some ⟨b3,p,none⟩) t.ins.length N)∧w'.cell? ⟨b3,p+n*34+33,none⟩=some (.slice ka x.key.length kc)∧w'.rangeAt wr.heap.size 1 (zl o.lock)) ?_ (λK hK=>?_)
   ·exact KS.o _ (Fr.refl _ _)
   repeat((first|(refine zn rfl ?_;constructor;constructor;(focus(first|(rintro w' ⟨s1,s2,s3⟩;exact goS))))|(refine zq rfl ?_));try simp only[Act.put,pA,pB,pC])
   (refine zN rfl (λK' hK'=>?_))
   go_simp
   refine ai.o.mono ?_
   rintro e wz ⟨rfl,fz⟩
   have FZ:=J fz
   have aF:=@J (Fr (λj=>j=g) w4 wz) ((FR.o.trans0 U.o).trans0 fz)
   have aE:=J ((FW.o.trans0 U.o).trans0 fz)
   have bc:=fz.cell ((frN _).drew.cell N1.o id) id
   have X:=J (zf ag.o fz (λ_ _=>id))
   clear fz
   refine nXt hK' ?_ λhS=>?_
   ·exact KS.o _ FZ.o
   try simp only[Act.put,pA,pB,pC]
   by_cases heq:y9 x.key=o.lock
   ·repeat((first|(refine zn rfl ?_;constructor;constructor;(focus(first|exact yY (ty:=40) rfl (λw h=>h.2.2) uH rH (by rw[yr G.o];exact yG)|exact λw' _=>jN.exec_neq rfl (u:=(zl (y9 x.key)).toArray) (v:=(zl o.lock).toArray) rfl rfl (xn aj.o) (xn G.o) true (by rw[heq];simp) w'|(rintro w' ⟨s1,s2,s3⟩;exact goS))))|(refine zq rfl ?_));try simp only[Act.put,pA,pB,pC])
    refine zZ (hK.out _ _ ?_)
    have aQ:=J (aP.o heq)
    obtain⟨aC,a6⟩:=J8 X.o L 0 (by decide)
    obtain⟨u0,a7⟩:=Option.isSome_iff_exists.1 aC
    simp only[Nat.mul_one,Nat.add_zero] at a6 a7
    have aK:=J (J7 X.o n (cs:=[jK o.value]) (by simp;omega))
    have aM:=@J ((setM xs n [jK o.value]).take (n+1)=((yR prev).take (n+1)).map jK) (by
     have q:=Vv xs [jK o.value] n (by rw[X.o.1];simp;omega)
     simp only[List.length_singleton] at q
     rw[q,ah.o,TF.o])
    have F6:=@J (Fr (λj=>j=g) w4 (wz.setCells g n [jK o.value])) (aF.o.trans (zv g [jK o.value] n wz) (λ_ _ h=>h))
    clear aC heq
    go_wp2_with fail
    go_roundw
    case rel=>exact⟨n+1,_,by go_num,by omega,aQ.o,aK.o,aM.o,F6.o⟩
    case measure=>simp[intOf];omega
   ·repeat((first|(refine zn rfl ?_;constructor;constructor;(focus(first|exact yY (ty:=40) rfl (λw h=>h.2.2) uH rH (by rw[yr G.o];exact yG)|exact λw' _=>jN.exec_neq rfl (u:=(zl (y9 x.key)).toArray) (v:=(zl o.lock).toArray) rfl rfl (xn aj.o) (xn G.o) false (by simp only[Bool.false_eq_true,false_iff];intro h;exact heq (Yr (by simpa using congrArg Array.toList h))) w'|(rintro w' ⟨s1,s2,s3⟩;exact goS))))|(refine zq rfl ?_));try simp only[Act.put,pA,pB,pC])
    refine zZ (hK.out _ _ ?_)
    have b:=J (jW (t:=t) (prev:=prev) (w:=w) (E:=13) (by rw[FE.o,aO.o heq];rfl) (by decide))
    clear heq
    go_wp2_with fail
    go_ret2
    exact b.o _ aE.o
  ·have aa:n=prev.length:=by omega
   have i1:¬(n:Int)<(prev.length:Int):=by omega
   have C:opens t.ins prev=true:=Yb.2 (λi x o q I=>OP.o i (by have:=(List.getElem?_eq_some_iff.1 I).1;omega) x o q I)
   rw[C] at FE
   have ay:xs=(yR prev).map jK:=by
    have q:=ah.o
    rw[aa,List.take_of_length_le (by rw[W.o.1];omega),List.take_of_length_le (by simp[yR])] at q
    exact q
   have VL:=@J ((yR prev).length=prev.length) (by simp[yR])
   have H:=J (zbc wr (v:=.slice (some ⟨g,0,none⟩) prev.length prev.length) (l:=yR prev) (by rw[VL.o,←ay];exact W.o.slice.arg) (λy hy=>by
    obtain⟨o,ho,rfl⟩:=List.mem_map.1 hy
    exact(HP.o.1 o ho).1) (by rw[VL.o];omega))
   have OV:=@J (∀x∈t.outs,x.ok) ((HT.o.oks).2)
   have XW:=J (FR.o.cell (ab.o.cell C2.o id) (λe=>by have z:w.heap.size=g:=e;have:=WL.o;omega))
   obtain⟨a,R⟩:∃a,a=(yR prev).sum:=⟨_,rfl⟩
   have s:=R.symm
   have aU:=J s
   rw[s] at FE
   have aG:=@J (a<18446744073709551616→Zl (yR prev)=0∧Zm (yR prev)=a) (λh=>by unfold Zl Zm;rw[s,if_pos h,if_pos h];exact⟨rfl,rfl⟩)
   have aH:=@J (¬a<18446744073709551616→Zl (yR prev)=3∧Zm (yR prev)=0) (λh=>by unfold Zl Zm;rw[s,if_neg h,if_neg h];exact⟨rfl,rfl⟩)
   have aR:=@J (0≤a) (by
    rw[←s]
    exact Yy (l:=prev) (λx m=>(HP.o.1 x m).1.1))
   clear C ay jn s R
   by_cases hov:a<18446744073709551616
   rotate_left
   ·have b:=J (jW (t:=t) (prev:=prev) (w:=w) (E:=11) (by rw[FE.o,if_pos rfl,if_neg hov]) (by decide))
    have r:=aH.o hov
    rw[r.1,r.2] at H
    clear hov r L hn
    go_wp2_with (go_at_call 88;refine H.o.mono ?_;rintro e w5 ⟨rfl,f5⟩;have F5:=J f5;clear f5)
    go_ret2
    exact b.o _ (FW.o.trans0 F5.o)
   have r:=aG.o hov
   rw[r.1,r.2] at H
   have ae:=@J (jo t prev=if xW t.outs≤a then 0 else 11) (by rw[FE.o,if_pos rfl,if_pos hov])
   have aL:=J hov
   clear r L hn
   have bg:t.outs.length≤9223372036854775807:=by
    obtain⟨_,_,_,_,_,_,_,M⟩:=HT.o
    exact Nat.le_trans M.2.len (by unfold maxLen;decide)
   go_wp2_with (go_at_call 88;refine H.o.mono ?_;rintro e w5 ⟨rfl,f5⟩;have F5:=J (FW.o.trans0 f5);have yy:=f5.cell XW.o id;clear f5)
   clear yy
   go_loopw [10,61] (λlv iv wr=>∃n:Nat,iv=.int .i64 n∧n≤t.outs.length∧lv=.int .u64 (a-xW (t.outs.take n))∧xW (t.outs.take n)≤a∧Fr No w5 wr) (λ_ iv _=>t.outs.length-(intOf iv).toNat)
   case atStart=>exact⟨0,rfl,zero_le _,by simp[xW],by simpa[xW] using aR.o,Fr.refl _ _⟩
   case round=>
    obtain⟨k,rfl,hk,rfl,B,fr⟩:=hrel
    have FQ:=J (F5.o.trans0 fr)
    have aD:=J fr
    have NN:=Yy (l:=t.outs.take k) (λx m=>(OV.o x (List.mem_of_mem_take m)).1.1)
    clear fr
    by_cases aW:k<t.outs.length
    ·have i3:(k:Int)<(t.outs.length:Int):=by omega
     obtain⟨x,m⟩:∃x,t.outs[k]? =some x:=⟨_,getElem?_eq_getElem aW⟩
     have SN:=J (Yz m)
     have MO:=J (zar (l:=t.outs) (λx m=>(OV.o x m).1.1) (k+1))
     obtain⟨_,_,aZ,a1,z,-,-,M⟩:=HT.o.keep FQ.o
     simp only[txC,List.cons.injEq,and_true] at z
     obtain⟨-,-,z⟩:=z
     injection z with e21 _ e23
     subst e21;subst e23
     obtain⟨bb,off,aS,hv,hr,-⟩:=M.at_ m
     cases hv
     have d:=OV.o x (mem_of_getElem? m)
     have R1:=J hr
     have Y:=J (z6 d)
     have U:=J ((frN wr).alloc (.cells (zx x).toArray 68))
     have n1:=(vt wr d).1
     have vv:=d.1
     have ba:=aL.o
     clear hr m d M
     generalize hT:xW (t.outs.take k)=T at*
     by_cases hlx:a-T<x.value
     ·have b:=J (jW (t:=t) (prev:=prev) (w:=w) (E:=11) (by rw[ae.o,if_neg (by have:=MO.o;have:=SN.o;omega)]) (by decide))
      have jx:decide (a-T<x.value)=true:=by simpa using hlx
      clear vv NN B
      have⟨D,F⟩:=tZ2
      go_wp2_with ((first|((with_reducible refine zt ?_);clear D;refine ziW rfl rfl rfl R1.o Y.o ?_)|((with_reducible refine zr ?_);clear F;refine zi5 (w:=wr) (cs:=zx x) rfl rfl rfl rfl Y.o zV ?_;generalize wr.alloc (.cells (zx x).toArray 68)=wA at*));go_frame)
      go_ret2
      exact b.o _ (FQ.o.trans0 U.o)
     ·have jx:¬a-T<x.value:=hlx
      have es:(a-T-x.value) % 18446744073709551616=a-T-x.value:=by omega
      have ES:=@J (a-T-x.value=a-xW (t.outs.take (k+1))) (by rw[SN.o];omega)
      have aN:=@J (xW (t.outs.take (k+1))≤a) (by rw[SN.o];omega)
      clear vv NN B hlx
      have⟨D,F⟩:=tZ2
      go_wp2_with ((first|((with_reducible refine zt ?_);clear D;refine ziW rfl rfl rfl R1.o Y.o ?_)|((with_reducible refine zr ?_);clear F;refine zi5 (w:=wr) (cs:=zx x) rfl rfl rfl rfl Y.o zV ?_;generalize wr.alloc (.cells (zx x).toArray 68)=wA at*));go_frame)
      go_roundw
      case rel=>exact⟨k+1,by go_num,by omega,by rw[←ES.o],aN.o,aD.o.trans0 U.o⟩
      case measure=>simp[intOf];omega
    ·have aV:k=t.outs.length:=by omega
     have i3:¬(k:Int)<(t.outs.length:Int):=by omega
     have Z:t.outs.take k=t.outs:=by rw[aV,take_length]
     rw[Z] at B
     have af:=@J (Qu w t prev (.returned (.tuple #[.int .u64 (a-xW t.outs),.int .i64 0])) wr) (⟨by
      have q:jo t prev=0:=by rw[ae.o,if_pos B]
      have I:zcG t prev=a-xW t.outs:=by unfold zcG;rw[if_pos q,aU.o]
      rw[q,I],FQ.o⟩)
     rw[Z]
     clear B NN Z
     go_wp2
     go_ret2
     exact af.o
end Go.Proofs.YtmpamcnlineceaaGreatDoor
