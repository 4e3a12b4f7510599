/- chain: Id. -/
import Derived.Laws.MakeOwn
import Derived.Deep.CutRange
import Derived.Test.YtdkkjchclkjleaaGreatDoorSC3
import Derived.Test.YtdkkjchclkjleaaGreatDoorSC1
import Derived.Test.YtdkkjchclkjleaaGreatDoorSC2
set_option linter.unusedVariables false
set_option linter.unusedSimpArgs false
set_option linter.unnecessarySimpa false
set_option linter.all false
set_option maxRecDepth 20000
set_option maxHeartbeats 16000000
namespace Go.Proofs.YtdkkjchclkjleaaGreatDoor
open Go Go.RowKit Go.Maps Go.MapKept
open Go.Proofs.Tryz(prog)
open Nat(le_refl zero_le zero_add le_of_eq min_eq_left sub_self)
open List(getElem?_eq_getElem mem_append mem_of_getElem? mem_cons length_append take_add_one take_length length_take flatMap_append getElem?_append_left nil_append not_mem_nil length_nil length_singleton)
def vD (b:qA):Bool:=decide (b.pay.length≤8) && (decide (b.txs.length≤16) && b.txs.all qE)
def zkI (b:qA):List Int:=leB 8 b.tag++((b.pay.length:Int)::(b.pay.flatMap Yu++((b.txs.length:Int)::b.txs.flatMap idH)))
def zi0 (b:qA):Int:=if vD b=true then 0 else 5
def ZT (b:qA):zd:=if vD b=true then vL (zkI b) else yO
theorem za2 (b:qA):zX (ZT b):=by
 unfold ZT
 split
 ·exact Yd _
 ·exact xO
theorem za3 {b:qA} (h:vD b=false):zi0 b=5∧ZT b=yO:=by simp[zi0,ZT,h]
theorem Va {b:qA} (h:vD b=true):zi0 b=0∧ZT b=vL (zkI b):=by simp[zi0,ZT,h]
theorem zkY (l:List TxD):(l.flatMap idH).length=32*l.length:=by
 induction l with
 |nil=>rfl
 |cons x l ih=>
  have:=(vG x).1
  simp only[List.flatMap_cons,length_append,List.length_cons]
  omega
theorem J1 (w:World) (a b c:Value) (T:TypeId):(w.alloc (.cells #[a,b,c] T)).cell? ⟨w.heap.size,0,none⟩=some a∧(w.alloc (.cells #[a,b,c] T)).cell? ⟨w.heap.size,1,none⟩=some b∧(w.alloc (.cells #[a,b,c] T)).cell? ⟨w.heap.size,2,none⟩=some c∧(w.alloc (.cells #[a,b,c] T)).rangeAt w.heap.size 0 [a,b,c]:=by
 have:=zy w [a,b,c] T
 exact⟨by simpa using this 0 _ rfl,by simpa using this 1 _ rfl,by simpa using this 2 _ rfl,this⟩
theorem zlR (w:World):(zeroValue 34).run prog w=.ok (.agg (txC 0 (.slice none 0 0) (.slice none 0 0)).toArray) w:=by kernel_rfl
theorem zbB (b o:Nat) (w:World):(Instr.sliceAt 41 (.pointer (some ⟨b,o,none⟩)) none none none).run prog w=.ok (.slice (some ⟨b,o,none⟩) 32 32) w:=by
 have a:prog.arrayLen 41=32:=by kernel_rfl
 have c:(sizeOf (prog.elem 41)).run prog w=.ok 1 w:=by kernel_rfl
 rw[run_sliceAt_array_all w _ _ (by kernel_rfl),c]
 simp[slicedAt,a,Zw]
theorem zaa {w:World} (hg:vj w) {b:qA} {cs:List Value} (ht:jB w b cs):
  Calls prog 94 #[.agg cs.toArray] w λe w'=>e=.returned (.tuple #[.agg (zf (ZT b)).toArray,.int .i64 (zi0 b)])∧Fr No w w':=by
 have zH:=yR
 have zo:=xm
 have zT:=zlR
 obtain⟨dH,uH,rH⟩:=Zx
 obtain⟨ia,ic,oa,oc,rfl,Z,ho,m⟩:=ht
 have f1:Fr No w (w.alloc (.cells #[.int .u64 b.tag,.slice ia b.pay.length ic,.slice oa b.txs.length oc] 55)):=(frN w).alloc _
 have C:Fr No (w.alloc (.cells #[.int .u64 b.tag,.slice ia b.pay.length ic,.slice oa b.txs.length oc] 55)) _:=(frN _).alloc (.cells (zf yO).toArray 41)
 obtain⟨c0,c1,c2,-⟩:=J1 w (.int .u64 b.tag) (.slice ia b.pay.length ic) (.slice oa b.txs.length oc) 55
 have C0:=J (C.cell c0 _root_.id)
 have C1:=J (C.cell c1 _root_.id)
 have C2:=J (C.cell c2 _root_.id)
 have Q:=J (f1.trans0 C)
 have B2:=J (yL (w.alloc (.cells #[.int .u64 b.tag,.slice ia b.pay.length ic,.slice oa b.txs.length oc] 55)) (.cells (zf yO).toArray 41) (n:=w.heap.size+1) (by simp))
 have G2:=J (hg.keep0 Q.o)
 have G:=@J (((w.alloc (.cells #[.int .u64 b.tag,.slice ia b.pay.length ic,.slice oa b.txs.length oc] 55)).alloc (.cells (zf yO).toArray 41)).heap.size=w.heap.size+2) (by simp)
 have HO:=J (ho.keep Q.o)
 have HX:=J (m.keep0 Q.o)
 have v1:=Z.1
 have v2:=Z.2
 have c0:=C0.o
 have c1:=C1.o
 have c2:=C2.o
 clear ho m f1 C hg Z
 show Calls prog 94 #[.agg #[.int .u64 b.tag,.slice ia b.pay.length ic,.slice oa b.txs.length oc]] w _
 by_cases hp8:8<b.pay.length
 ·have d:vD b=false:=by
   have:decide (b.pay.length≤8)=false:=by simp;omega
   simp[vD,this]
  have j1:decide ((8:Int)<(b.pay.length:Int))=true:=by simp;omega
  have z:=J (za3 d)
  have c:=@J ((zf yO).length=32) (rfl)
  clear d
  clear hp8
  go_enter Tryz.func94,Tryz.ntmps94
  have⟨p,r⟩:=tZ2
  go_wp2_with ((first|((with_reducible refine zt ?_);clear p;with_reducible refine yt 24 ?_;refine zg rfl (yf (t:=41) rfl rfl (Xg _)) ?_)|((with_reducible refine zv ?_);clear r;refine zi rfl (zK (ty:=41) (b:=w.heap.size+1) (off:=0) (cs:=zf yO) rfl rfl rfl (by rw[c.o];exact zV B2.o (le_of_eq Jh.symm)) (by rw[c.o];exact yp) zS) ?_));go_frame)
  refine bodyPost_ret (yk (P:=prog) (fn:=Tryz.f94) rfl _ rfl (yv B2.o (by rw[c.o];exact Jh)) uH rH (by rw[c.o];exact yp) rfl) rfl ⟨by rw[z.o.1,z.o.2];rfl,?_⟩
  exact Q.o.trans (zu _ _ _ _) (λi hi e=>by omega)
 by_cases ht16:16<b.txs.length
 ·have d:vD b=false:=by
   have:decide (b.txs.length≤16)=false:=by simp;omega
   simp[vD,this]
  have j1:decide ((8:Int)<(b.pay.length:Int))=false:=by simp;omega
  have j2:decide ((16:Int)<(b.txs.length:Int))=true:=by simp;omega
  have z:=J (za3 d)
  have c:=@J ((zf yO).length=32) (rfl)
  clear d
  clear hp8 ht16
  go_enter Tryz.func94,Tryz.ntmps94
  have⟨p,r⟩:=tZ2
  go_wp2_with ((first|((with_reducible refine zt ?_);clear p;with_reducible refine yt 24 ?_;refine zg rfl (yf (t:=41) rfl rfl (Xg _)) ?_)|((with_reducible refine zv ?_);clear r;refine zi rfl (zK (ty:=41) (b:=w.heap.size+1) (off:=0) (cs:=zf yO) rfl rfl rfl (by rw[c.o];exact zV B2.o (le_of_eq Jh.symm)) (by rw[c.o];exact yp) zS) ?_));go_frame)
  refine bodyPost_ret (yk (P:=prog) (fn:=Tryz.f94) rfl _ rfl (yv B2.o (by rw[c.o];exact Jh)) uH rH (by rw[c.o];exact yp) rfl) rfl ⟨by rw[z.o.1,z.o.2];rfl,?_⟩
  exact Q.o.trans (zu _ _ _ _) (λi hi e=>by omega)
 have p8:b.pay.length≤8:=by omega
 have aq:b.txs.length≤16:=by omega
 have j1:decide ((8:Int)<(b.pay.length:Int))=false:=by simp;omega
 have j2:decide ((16:Int)<(b.txs.length:Int))=false:=by simp;omega
 have e1:(b.pay.length:Int) % 256=(b.pay.length:Int):=by omega
 have e2:(b.txs.length:Int) % 256=(b.txs.length:Int):=by omega
 clear hp8 ht16
 go_enter Tryz.func94,Tryz.ntmps94
 have⟨p,r⟩:=tZ2
 go_wp2_with ((first|(clear p;go_at_call 133;generalize (w.alloc (.cells #[.int .u64 b.tag,.slice ia b.pay.length ic,.slice oa b.txs.length oc] 55)).alloc (.cells (zf yO).toArray 41)=w2 at*;refine(zfc w2 ⟨v1,v2⟩).mono ?_;rintro e w3 ⟨rfl,b3,f3⟩;have R:=J f3;have B3:=@J (qJ w3 (w.heap.size+2) _ _) (xj b3 (by rw[G.o];exact le_refl _));clear b3 f3;have cA:=R.o.cell C1.o _root_.id;obtain⟨v4,w4,l,j,h,-⟩:=Jn w3 (x:=b.pay.length) B3.o (by rw[vW];decide) (by have:=R.o.size;have:=G.o;omega) 106;have A4:=J l;have B4:=J j;have F4:=J (qJ.step R.o B3.o (by have:=G.o;omega) h);clear l j h)|((with_reducible refine zt ?_);clear r;at_builtin;refine zR rfl rfl rfl rfl A4.o ?_;have cB:=F4.o.cell C1.o _root_.id));go_frame)
 have af:=@J ((leB 8 b.tag++[(b.pay.length:Int)]).length=9) (by rw[length_append,vW];rfl)
 have LE:=@J (zkI b=leB 8 b.tag++[(b.pay.length:Int)]++b.pay.flatMap Yu++[(b.txs.length:Int)]++b.txs.flatMap idH) (by simp[zkI])
 generalize leB 8 b.tag++[(b.pay.length:Int)]=L0 at*
 go_loopw [4,41] (λbv iv wr=>∃n:Nat,iv=.int .i64 n∧n≤b.pay.length∧qJ wr (w.heap.size+2) bv (L0++(b.pay.take n).flatMap Yu)∧Fr No w2 wr) (λ_ iv _=>b.pay.length-(intOf iv).toNat)
 case atStart=>exact⟨0,rfl,zero_le _,by simpa using B4.o,F4.o⟩
 case round=>
  obtain⟨n,rfl,hn,V,fr⟩:=hrel
  have FS:=J fr
  have BS:=J V
  have SY:=@J (w.heap.size+2≤wr.heap.size) (by have:=fr.size;have:=G.o;omega)
  have B:=@J ((L0++(b.pay.take n).flatMap Yu).length≤9+40*n) (by
   rw[length_append,XT (λx m=>HO.o.1 x (List.mem_of_mem_take m)),length_take,af.o]
   omega)
  obtain⟨ba,bc,u⟩:=V.form
  clear fr V
  by_cases W:n<b.pay.length
  ·have i1:(n:Int)<(b.pay.length:Int):=by omega
   obtain⟨x,m⟩:∃x,b.pay[n]? =some x:=⟨_,getElem?_eq_getElem W⟩
   have TF:=J (XZ Yu m)
   obtain⟨bb,off,ai,Z,hr,-⟩:=HO.o.at_ m
   cases Z
   have y:=HO.o.1 x (mem_of_getElem? m)
   have R1:=J (za hr FS.o id)
   have IL:=J (yr y)
   have S:=J ((frN wr).alloc (.cells (zJ x).toArray 103))
   have QA:=@J ((wr.alloc (.cells (zJ x).toArray 103)).heap.size=wr.heap.size+1) (by simp)
   obtain⟨n1,n2⟩:=YQ wr y
   have N2:=J n2
   have an:=y.1.1
   have ao:=y.1.2
   have LX:=J y.2.1
   have D0:=J (BS.o.ne (le_refl _))
   have FW:=J (FS.o.trans0 S.o)
   have BW:=J (BS.o.keep0 S.o)
   clear n2 hr y m
   subst u
   generalize U:L0++(b.pay.take n).flatMap Yu=Lo at*
   have⟨p,r,K2⟩:=tZ3
   go_wp2_with ((first|((with_reducible refine zt ?_);clear p;refine zn2 rfl rfl rfl R1.o IL.o ?_)|((with_reducible refine zv ?_);clear r;refine zoa (w:=wr) (cs:=zJ x) rfl rfl rfl rfl IL.o yc ?_;generalize wr.alloc (.cells (zJ x).toArray 103)=wA at*)|(clear K2;go_at_call 133;refine(zfc wA ⟨an,ao⟩).mono ?_;rintro e f ⟨rfl,b5,D⟩;have F:=J D;have V5:=J b5;clear b5 D));go_frame)
   have o:=(frN f).drew
   have N5:=J (za N2.o F.o id)
   have Q5:=@J (wr.heap.size<f.heap.size) (by have:=F.o.size;have:=QA.o;omega)
   obtain⟨v6,w6,l,j,h,a4⟩:=vk f.drew ((BW.o.keep0 F.o).keep0 o) (V5.o.keep0 o).slice.arg (by rw[vW];have:=B.o;omega) (show w.heap.size+2≤f.heap.size by have:=SY.o;have:=Q5.o;omega) 106
   have ar:(leB 8 x.value).length=8:=vW 8 x.value
   have D6:=a4.ne D0.o (show wr.heap.size<f.heap.size from Q5.o)
   have N6:=J (za (za N5.o o _root_.id) h D0.o)
   have A6:=J l
   have B6:=J j
   have F6:=J (qJ.step ((FW.o.trans0 F.o).trans0 o) ((BW.o.keep0 F.o).keep0 o) (by have:=G.o;omega) h)
   have Q6:=@J (wr.heap.size<w6.heap.size) (by have:=h.size;have:=Q5.o;have:f.drew.heap.size=f.heap.size:=rfl;omega)
   obtain⟨aw,ax,al⟩:=j.form
   clear l j h a4 D6 o
   obtain⟨v7,w7,l,j,h,-⟩:=vk w6 B6.o (za1 N6.o LX.o Q6.o) (by simp only[length_append,LX.o,vW];have:=B.o;omega) (by have:=SY.o;have:=Q6.o;omega) 106
   have A7:=J l
   have B7:=J j
   have F7:=J (qJ.step F6.o B6.o (by have:=G.o;omega) h)
   clear l j h al
   have ak:=zbB wr.heap.size 1
   refine wrLx [ff,ff,tt,ff,ff,tt,ff] (λ_=>True) ?_ (λK hK=>?_)
   ·trivial
   repeat((first|(refine zj rfl ?_;constructor;constructor;(focus(first|(rintro w' -;go_simp;(try with_reducible rfl);done))))|(refine zl rfl ?_));try simp only[Act.put,pA,pB,pC])
   (refine zE rfl (λK' hK'=>?_))
   refine yw rfl rfl rfl A6.o ?_
   refine nXt hK' ?_ λhS=>?_
   ·trivial
   try simp only[Act.put,pA,pB,pC]
   repeat((first|(refine zj rfl ?_;constructor;constructor;(focus(first|(rintro w' -;go_simp;(try with_reducible rfl);done))))|(refine zl rfl ?_));try simp only[Act.put,pA,pB,pC])
   (refine zE rfl (λK' hK'=>?_))
   refine yw rfl rfl rfl A7.o ?_
   refine nXt hK' ?_ λhS=>?_
   ·trivial
   try simp only[Act.put,pA,pB,pC]
   repeat((first|(refine zj rfl ?_;constructor;constructor;(focus(first|(rintro w' -;go_simp;(try with_reducible rfl);done))))|(refine zl rfl ?_));try simp only[Act.put,pA,pB,pC])
   refine zL (hK.out _ _ ?_)
   go_wp2_with fail
   go_roundw
   case rel=>exact⟨n+1,by go_num,by omega,by rw[TF.o,←List.append_assoc,U];simpa[Yu] using B7.o,F7.o⟩
   case measure=>simp[intOf];omega
  ·have X:n=b.pay.length:=by omega
   subst X
   have i1:¬(b.pay.length:Int)<(b.pay.length:Int):=by omega
   rw[take_length] at BS B
   have c2:=FS.o.cell C2.o id
   obtain⟨v3,wy,l,j,h,a4⟩:=Jn wr (x:=b.txs.length) BS.o (by have:=B.o;omega) SY.o 106
   have A1:=J l
   have BY:=J j
   have FY:=J (qJ.step FS.o BS.o (by have:=G.o;omega) h)
   have cD:=FY.o.cell C2.o id
   have ag:=@J ((L0++b.pay.flatMap Yu++[(b.txs.length:Int)]).length≤400) (by
    rw[length_append]
    have:=B.o
    simp only[length_singleton]
    omega)
   clear l j h a4 c2
   have c2:=FS.o.cell C2.o id
   subst u
   generalize av:L0++b.pay.flatMap Yu=Ln at*
   go_wp2_with (first|(at_builtin;refine zR rfl rfl rfl rfl A1.o ?_))
   generalize au:Ln++[(b.txs.length:Int)]=A at*
   clear c2 cD
   go_loopw [4,68] (λbv iv wr=>∃n:Nat,iv=.int .i64 n∧n≤b.txs.length∧(∀t∈b.txs.take n,qE t=true)∧qJ wr (w.heap.size+2) bv (A++(b.txs.take n).flatMap idH)∧Fr No w2 wr) (λ_ iv _=>b.txs.length-(intOf iv).toNat)
   case atStart=>exact⟨0,rfl,zero_le _,by simp,by simpa using BY.o,FY.o⟩
   case round=>
    obtain⟨n,rfl,hn,O,V,fr⟩:=hrel
    have FT:=J fr
    have BT:=J V
    have AL:=J O
    have GT:=J (G2.o.keep0 fr)
    have ah:=@J (w.heap.size+2≤wr.heap.size) (by have:=fr.size;have:=G.o;omega)
    have T:=@J ((A++(b.txs.take n).flatMap idH).length≤400+32*n) (by
     rw[length_append,zkY,length_take]
     have:=ag.o
     omega)
    obtain⟨ba,bc,u⟩:=V.form
    clear fr V O
    by_cases W:n<b.txs.length
    ·have i1:(n:Int)<(b.txs.length:Int):=by omega
     obtain⟨t,m⟩:∃x,b.txs[n]? =some x:=⟨_,getElem?_eq_getElem W⟩
     have TF:=J (XZ idH m)
     obtain⟨bb,off,ai,cs,Z,hr,hq⟩:=HX.o.at_ m
     cases Z
     have R1:=J (za hr FT.o id)
     have TQ:=J (hq.keep FT.o)
     obtain⟨M,tc,g,k,aj⟩:=hq.form
     subst aj
     have S:=J ((frN wr).alloc (.cells #[.int .u32 t.ver,.slice M t.ins.length tc,.slice g t.outs.length k] 34))
     have QA:=@J ((wr.alloc (.cells #[.int .u32 t.ver,.slice M t.ins.length tc,.slice g t.outs.length k] 34)).heap.size=wr.heap.size+1) (by simp)
     have RT:=J (J1 wr (.int .u32 t.ver) (.slice M t.ins.length tc) (.slice g t.outs.length k) 34).2.2.2
     have ID:=J (Qz (GT.o.keep0 S.o) (TQ.o.keep S.o))
     have ae:=J (zx (vG t))
     have ad:=J (vG t).1
     have D0:=J (BT.o.ne (le_refl _))
     have FW:=J (FT.o.trans0 S.o)
     have BW:=J (BT.o.keep0 S.o)
     have aa:=J m
     clear hr m hq
     subst u
     by_cases hfm:qE t=true
     ·have IE:=@J (idE t=0) (by simp[idE,hfm])
      have AN:=@J (∀s∈b.txs.take (n+1),qE s=true) (λs Y=>by
       rw[take_add_one,aa.o] at Y
       rcases mem_append.1 Y with Y|Y
       ·exact AL.o s Y
       ·simp at Y;subst Y;exact hfm)
      rw[IE.o] at ID
      clear hfm
      generalize idH t=I at*
      have ak:=λq=>zbB q 0
      generalize U:A++(b.txs.take n).flatMap idH=Lo at*
      have⟨p,r,K2,K3,K4,K5⟩:=tZ6
      go_wp2_with ((first|((with_reducible refine zt ?_);first|(clear p;refine zn1 rfl rfl rfl R1.o rfl ?_)|(clear K2;refine zn1 rfl rfl rfl RT.o rfl ?_;generalize wr.alloc (.cells #[.int .u32 t.ver,.slice M t.ins.length tc,.slice g t.outs.length k] 34)=wA at*)|(clear K5;at_builtin;refine zR rfl rfl rfl rfl A7.o ?_))|((with_reducible refine zv ?_);first|(clear r;refine zi rfl (zm (w:=wr) (ty:=34) (cs:=[.int .u32 t.ver,.slice M t.ins.length tc,.slice g t.outs.length k]) rfl rfl rfl rfl yZ (zhc (a:=M) (b:=g))) ?_)|(clear K4;refine zob (w:=f) (cs:=zf I) rfl rfl rfl rfl ae.o zS ?_;have F6:=@J (Fr No f (f.alloc (.cells (zf I).toArray 41))) ((frN f).alloc _);have B6:=J (ye f (.cells (zf I).toArray 41));have Q6:=@J ((f.alloc (.cells (zf I).toArray 41)).heap.size=f.heap.size+1) (by simp);generalize f.alloc (.cells (zf I).toArray 41)=w6 at*;have BX:=J ((BW.o.keep0 F.o).keep0 F6.o);have N:=J ((FW.o.trans0 F.o).trans0 F6.o);obtain⟨v7,w7,l,j,h,-⟩:=vk w6 BX.o (za1 (zq B6.o) ad.o (by have:=Q6.o;omega)) (by have:=T.o;have:=ad.o;omega) (by have:=ah.o;have:=N.o.size;have:=G.o;omega) 106;have A7:=J l;have B7:=J j;have F7:=J (qJ.step N.o BX.o (by have:=G.o;omega) h);clear l j h))|(clear K3;go_at_call 15;refine ID.o.mono ?_;rintro e f ⟨rfl,D⟩;have F:=J D;clear D));go_frame)
      go_roundw
      case rel=>exact⟨n+1,by go_num,by omega,AN.o,by rw[TF.o,←List.append_assoc,U];exact B7.o,F7.o⟩
      case measure=>simp[intOf];omega
     ·have d:vD b=false:=by
       have:b.txs.all qE=false:=by
        rw[List.all_eq_false]
        exact⟨t,mem_of_getElem? aa.o,hfm⟩
       simp[vD,this]
      have IE:=@J (idE t=5) (by simp[idE,hfm])
      rw[IE.o] at ID
      have z:=J (za3 d)
      have c:=@J ((zf yO).length=32) (rfl)
      clear d
      clear hfm
      generalize idH t=I at*
      generalize (A++(b.txs.take n).flatMap idH).length=zz at*
      have⟨p,r,K2,K3,K4,K5,K6⟩:=tZ7
      go_wp2_with ((first|((with_reducible refine zt ?_);first|(clear p;refine zn1 rfl rfl rfl R1.o rfl ?_)|(clear K2;refine zn1 rfl rfl rfl RT.o rfl ?_;generalize wr.alloc (.cells #[.int .u32 t.ver,.slice M t.ins.length tc,.slice g t.outs.length k] 34)=wA at*)|(clear K5;with_reducible refine yt 79 ?_;refine zg rfl (yf (t:=41) rfl rfl (Xg _)) ?_))|((with_reducible refine zv ?_);first|(clear r;refine zi rfl (zm (w:=wr) (ty:=34) (cs:=[.int .u32 t.ver,.slice M t.ins.length tc,.slice g t.outs.length k]) rfl rfl rfl rfl yZ (zhc (a:=M) (b:=g))) ?_)|(clear K4;refine zob (w:=f) (cs:=zf I) rfl rfl rfl rfl ae.o zS ?_;have F6:=@J (Fr No f (f.alloc (.cells (zf I).toArray 41))) ((frN f).alloc _);generalize f.alloc (.cells (zf I).toArray 41)=w6 at*;have N:=J ((FW.o.trans0 F.o).trans0 F6.o);have BZ:=J (N.o.obj B2.o _root_.id))|(clear K6;refine zi rfl (zK (ty:=41) (b:=w.heap.size+1) (off:=0) (cs:=zf yO) rfl rfl rfl (by rw[c.o];exact zV BZ.o (le_of_eq Jh.symm)) (by rw[c.o];exact yp) zS) ?_))|(clear K3;go_at_call 15;refine ID.o.mono ?_;rintro e f ⟨rfl,D⟩;have F:=J D;clear D));go_frame)
      refine bodyPost_ret (yk (P:=prog) (fn:=Tryz.f94) rfl _ rfl (yv BZ.o (by rw[c.o];exact Jh)) uH rH (by rw[c.o];exact yp) rfl) rfl ⟨by rw[z.o.1,z.o.2];rfl,?_⟩
      exact(Q.o.trans0 N.o).trans (zu _ _ _ _) (λi hi e=>by omega)
    ·have X:n=b.txs.length:=by omega
     subst X
     have i1:¬(b.txs.length:Int)<(b.txs.length:Int):=by omega
     rw[take_length] at BT T AL u
     have E:vD b=true:=by
      have:b.txs.all qE=true:=List.all_eq_true.2 AL.o
      simp[vD,this,p8,aq]
     have z:=J (Va E)
     rw[LE.o] at z
     have H:=@J ((zf (vL (A++b.txs.flatMap idH))).length=32) (zx (Yd _))
     have F4:=@J (Fr No wr (wr.alloc (.cells #[.slice ba (A++b.txs.flatMap idH).length bc] 106))) ((frN wr).alloc _)
     subst u
     have ab:=J (zdc (GT.o.keep0 F4.o) (v:=.slice (some ⟨wr.heap.size,0,none⟩) 1 1) (L:=[A++b.txs.flatMap idH]) (zbV BT.o.slice.arg) (by simp) (by have:=T.o;simp only[List.flatten_cons,List.flatten_nil,List.append_nil];omega))
     rw[show[A++b.txs.flatMap idH].flatten=A++b.txs.flatMap idH by simp] at ab
     clear E
     generalize vL (A++b.txs.flatMap idH)=TB at*
     generalize (A++b.txs.flatMap idH).length=zz at*
     have⟨p,r⟩:=tZ2
     go_wp2_with ((first|(clear p;go_at_call 46;refine ab.o.mono ?_;rintro e f ⟨rfl,D⟩;have N:=J ((FT.o.trans0 F4.o).trans0 D);clear D;have BZ:=J (N.o.obj B2.o _root_.id))|((with_reducible refine zv ?_);clear r;refine zi rfl (zK (ty:=41) (b:=w.heap.size+1) (off:=0) (cs:=zf TB) rfl rfl rfl (by rw[H.o];exact zV BZ.o (le_of_eq Jh.symm)) (by rw[H.o];exact yp) zS) ?_));go_frame)
     refine bodyPost_ret (yk (P:=prog) (fn:=Tryz.f94) rfl _ rfl (yv BZ.o (by rw[H.o];exact Jh)) uH rH (by rw[H.o];exact yp) rfl) rfl ⟨by rw[z.o.1,z.o.2];rfl,?_⟩
     exact(Q.o.trans0 N.o).trans (zu _ _ _ _) (λi hi e=>by omega)
def vS (x:yE):Bool:=decide (x.value=0)||decide (1125899906842624<x.value)
theorem ze3 {l:List yE} (h:∀x∈l,x.ok):(l.flatMap zJ).length=l.length*33:=xJ zJ 33 l (λx a=>yr (h x a))
theorem ze4 {l:List yE}:∀u∈l.flatMap zJ,u.oneCell'=true:=λu a=>by
 obtain⟨x,_,b⟩:=List.mem_flatMap.1 a
 exact yc u b
theorem ZZ (w:World) {B:Nat} {v x:Value} {k l:List yE} (p:w.ownsRow B 103 33 v k.length (k.flatMap zJ)) (m:xy w x l) (o:k.length+l.length≤100000) (n:B≤w.heap.size) (ty:TypeId):
  ∃b w',(Builtin.append_ #[22,22] ty #[v,x]).run prog w=.ok b w'∧w'.ownsRow B 103 33 b (k.length+l.length) ((k++l).flatMap zJ)∧Fr (λj=>v.ownBlock=some j) w w'∧Yf w v b:=by
 by_cases hnil:x=.slice none 0 0
 ·obtain⟨a,c,h⟩:=m.2.form
  rw[hnil] at h
  injection h with h1 h2 h3
  have q:l=[]:=List.eq_nil_of_length_eq_zero h2.symm
  subst q
  obtain⟨b,w',d,f,g,i⟩:=Xz (P:=prog) w B 22 ty 103 33 40 _ qO Jz (by rw[←yu];rfl) (by decide) v k.length (k.flatMap zJ) p x 0 [] (.inl ⟨hnil,rfl,rfl⟩) rfl (by simp) (by simp at o⊢;omega) (by unfold maxLen;simp at o;omega) n
  exact⟨b,w',d,by simpa using f,g,i⟩
 ·obtain⟨b,w',d,f,g,-,i⟩:=Jk (P:=prog) w B 22 ty 103 33 40 _ qO Jz (by rw[←yu];rfl) (by decide) v k.length (k.flatMap zJ) p x l.length (l.flatMap zJ) m.2 (ze3 m.1) ze4 (by omega) (by unfold maxLen;omega) n hnil
  refine⟨b,w',d,?_,(Fr.refl _ w).grown g (λk e=>.inr e),i⟩
  rw[flatMap_append]
  exact f
theorem XN {w:World} {B:Nat} {v:Value} {l:List yE} (h:w.ownsRow B 103 33 v l.length (l.flatMap zJ)) (ok:∀x∈l,x.ok) {V:Nat→Prop} (a:∀j,V j→j<B):Kept V w (λw=>xy w v l):=
 λw' f=>⟨ok,(zb h f (λb c d=>by have:=(h.lt b c).1;have:=a b d;omega)).slice.arg⟩
def Jv:List Value:=[.int .u64 0,.slice none 0 0,.slice none 0 0]
theorem YZ (w:World):(zeroValue 55).run prog w=.ok (.agg Jv.toArray) w:=by kernel_rfl
theorem zgH (t:Int) (a:Option Addr) (n c:Nat) (w:World):(Instr.build 55 #[(0,.int .u64 t),(1,.slice a n c)]).run prog w=.ok (.agg [.int .u64 t,.slice a n c,.slice none 0 0].toArray) w:=by kernel_rfl
def zlU (w:World) (b:qA) (e:Ending) (w':World):Prop:=∃cs,e=.returned (.agg cs.toArray)∧Fr No w w'∧∀V:Nat→Prop,(∀j,V j→j<w.heap.size)→Kept V w' (λw=>jB w b cs)
theorem ZL {w:World} {q:Nat} {T:TypeId} {z cs:List Value} (h:w.heap[q]? =some (.cells z.toArray T (0,0))) (b:z.length=cs.length):(w.setCells q 0 cs).heap[q]? =some (.cells cs.toArray T (0,0)):=by
 have a:=xz q T cs 0 w _ h
 have e:=ji cs [] z [] b
 simp only[nil_append,List.append_nil,length_nil] at e
 rw[List.toList_toArray,e] at a
 exact a
structure YE where
 took:List zr
 made:List zF
structure yx where
 blk:qA
 ids:List zd
 chg:List YE
structure ChD where
 S:List zr
 bs:List yx
 M:List (zd×Int)
def zdj (w:World) (c:YE) (cs:List Value):Prop:=∃ta tc ma mc,cs=[.slice ta c.took.length tc,.slice ma c.made.length mc]∧q9 w (.slice ta c.took.length tc) c.took∧xN w (.slice ma c.made.length mc) c.made
abbrev zfD (w:World) (v:Value) (L:List YE):Prop:=qU 2 zdj w v L
def jC (w:World) (d:yx) (cs:List Value):Prop:=∃bcs ia ic ca cc,cs=bcs++[.slice ia d.ids.length ic,.slice ca d.chg.length cc]∧jB w d.blk bcs∧y3 w (.slice ia d.ids.length ic) d.ids∧zfD w (.slice ca d.chg.length cc) d.chg
theorem jB.form {w:World} {b:qA} {cs:List Value} (h:jB w b cs):∃f g i j,cs=[.int .u64 b.tag,.slice f b.pay.length g,.slice i b.txs.length j]:=by
 obtain⟨a,c,d,e,rfl,_⟩:=h
 exact⟨a,c,d,e,rfl⟩
theorem jC.form {w:World} {d:yx} {cs:List Value} (h:jC w d cs):∃g i j k e f a c,cs=[.int .u64 d.blk.tag,.slice g d.blk.pay.length i,.slice j d.blk.txs.length k,.slice e d.ids.length f,.slice a d.chg.length c]:=by
 obtain⟨b,e,f,a,c,rfl,l,-⟩:=h
 obtain⟨g,i,j,k,rfl⟩:=l.form
 exact⟨g,i,j,k,e,f,a,c,rfl⟩
theorem jC.one {w:World} {d:yx} {cs:List Value} (h:jC w d cs):cs.length=5∧∀u∈cs,u.oneCell'=true:=by
 obtain⟨g,i,j,k,e,f,b,c,rfl⟩:=h.form
 refine⟨rfl,λu a=>?_⟩
 simp only[mem_cons,not_mem_nil,or_false] at a
 rcases a with rfl|rfl|rfl|rfl|rfl<;>rfl
abbrev ziK (w:World) (m:Nat) (M:List (zd×Int)):Prop:=yD prog 41 xp zkd w m M
def chV (p:Nat) (U:Nat→Prop) (mi:Nat) (bv:Value):Nat→Prop:=λj=>j=p∨U j∨j=mi∨bv.ownBlock=some j
def xU (l:List YE) (S:List zr):List zr:=l.foldr (λc S=>JI (JD S c.made) c.took) S
def zg2:Nat→Int
 |0=> -1
 |m+1=>(m:Int)
def Jc (l:List YE):Nat:=(l.map λc=>c.took.length+c.made.length).sum
theorem zda (S:List zr) (ps:List zF):(JD S ps).length≤S.length:=by
 unfold JD
 split
 ·exact List.length_filter_le _ _
 ·exact le_refl _
theorem zj1 (S l:List zr):(JI S l).length≤S.length+l.length:=by
 unfold JI
 split
 ·rw[(Zt l S).length_eq,length_append];exact le_refl _
 ·omega
theorem zdd:∀(l:List YE) (S:List zr),(xU l S).length≤S.length+Jc l
 |[],S=>le_refl _
 |c::l,S=>by
  have a:=zdd l S
  have b:=zda (xU l S) c.made
  have d:=zj1 (JD (xU l S) c.made) c.took
  show(JI (JD (xU l S) c.made) c.took).length≤_
  simp only[Jc,List.map_cons,List.sum_cons] at*
  omega
theorem zgw {l:List YE} {m:Nat} {c:YE} (S:List zr) (h:l[m]? =some c):xU (l.drop m) S=JI (JD (xU (l.drop (m+1)) S) c.made) c.took:=by
 rw[List.drop_eq_getElem_cons (List.getElem?_eq_some_iff.1 h).1,(List.getElem?_eq_some_iff.1 h).2]
 rfl
theorem zgs (l:List YE) (m:Nat):Jc (l.drop m)≤Jc l:=by
 have h:Jc (l.take m++l.drop m)=Jc (l.take m)+Jc (l.drop m):=by simp only[Jc,List.map_append,List.sum_append]
 rw[List.take_append_drop] at h
 omega
theorem zkm {l:List YE} {m:Nat} {c:YE} (h:l[m]? =some c):Jc (l.drop (m+1))+c.took.length+c.made.length≤Jc l:=by
 have a:=zgs l m
 rw[List.drop_eq_getElem_cons (List.getElem?_eq_some_iff.1 h).1,(List.getElem?_eq_some_iff.1 h).2] at a
 simp only[Jc,List.map_cons,List.sum_cons] at*
 omega
theorem QG (id:zd) (l:List yE):((ZJ id l).map (·.at_)).Nodup:=by
 unfold List.Nodup
 rw[List.pairwise_map,List.pairwise_iff_getElem]
 intro i j hi c d
 have a:=Vs id (l:=l) (i:=i) (getElem?_eq_getElem (by rwa [Ja] at hi))
 have b:=Vs id (l:=l) (i:=j) (getElem?_eq_getElem (by rwa [Ja] at c))
 rw[getElem?_eq_getElem hi] at a
 rw[getElem?_eq_getElem c] at b
 rw[Option.some.inj a,Option.some.inj b]
 intro e
 injection e with _ e
 omega
def vI (b:qA):List zr:=ZJ (ZT b) b.pay
theorem zbU (b:qA):(vI b).length=b.pay.length:=Ja _ _
structure DoR where
 E:Int
 S:List zr
 d:yx
theorem zhT {V:Nat→Prop} {w:World} {b o:Nat} (h:Kept V w (λw=>∃u,w.cell? ⟨b,o,none⟩=some u)):¬V b:=λj=>by
 have f:Fr V w {w with heap:=w.heap.setIfInBounds b (.cells #[] 0 (0,0))}:=⟨rfl,rfl,rfl,by simp,λk l g=>by
  have:b≠k:=λe=>g (e▸j)
  simp[Array.getElem?_setIfInBounds_ne this]⟩
 obtain⟨u,i⟩:=h _ f
 have a:b<w.heap.size:=by
  obtain⟨m,c⟩:=h.now
  exact World.block_lt_of_cell? w _ c
 have d:({w with heap:=w.heap.setIfInBounds b (.cells #[] 0 (0,0))}:World).heap[b]? =some (.cells #[] 0 (0,0)):=by simp[a]
 have:=zq d
 simp[World.cell?,a] at i
theorem Vy {α:Type} {k:Nat} {q:World→α→List Value→Prop} {V:Nat→Prop} {w:World} {v:Value} {L:List α} (F:0<k) (p:∀w d cs,q w d cs→cs.length=k) (h:Kept V w (λw=>qU k q w v L)) {i:Nat} {d:α} (y:L[i]? =some d):
  ∃b off l cs,v=.slice (some ⟨b,off,none⟩) L.length l∧¬V b∧q w d cs∧Kept V w (λw=>w.rangeAt b (off+i*k) cs∧q w d cs):=by
 obtain⟨b,off,l,cs,rfl,H,x⟩:=h.now.at_ y
 have m:∀w',Fr V w w'→∃a,w'.rangeAt b (off+i*k) a∧q w' d a:=λw' f=>by
  obtain⟨I,A,t,a,e,g,c⟩:=(h w' f).at_ y
  injection e with e1 e2 e3
  injection e1 with e1
  injection e1 with e1 e4
  subst e1
  subst e4
  exact⟨a,g,c⟩
 have z:¬V b:=zhT (o:=off+i*k) λw' f=>by
  obtain⟨a,g,c⟩:=m w' f
  have G:=p _ _ _ c
  cases a with
  |nil=>simp at G;omega
  |cons u r=>exact⟨u,g 0 u rfl⟩
 refine⟨b,off,l,cs,rfl,z,x,λw' f=>?_⟩
 obtain⟨a,g,c⟩:=m w' f
 have:a=cs:=by
  have C:=p _ _ _ x
  have D:=p _ _ _ c
  apply List.ext_getElem (by rw[C,D])
  intro j E n
  have B:=f.cell (H j _ (getElem?_eq_getElem n)) z
  have s:=g j _ (getElem?_eq_getElem E)
  rw[B] at s
  exact(Option.some.inj s).symm
 subst this
 exact⟨g,c⟩
theorem zeH:(prog.info? 250).map (λi=>(i.zero,i.size,i.bytes))=some (some (.agg #[.slice none 0 0,.slice none 0 0]),2,48):=by kernel_rfl
theorem zcQ:(prog.info? 250).map (λi=>(i.zero,i.size))=some (some (.agg #[.slice none 0 0,.slice none 0 0]),2):=by kernel_rfl
theorem vA:(prog.info? 250).map (·.size)=some 2:=by kernel_rfl
theorem zgO:∃d,prog.underlying 250=some d∧d.isRow=true:=vK (by kernel_rfl)
theorem zbg:prog.underlying 205=some (.slice 250):=by kernel_rfl
theorem zhh (w:World):(zeroValue 250).run prog w=.ok (.agg #[.slice none 0 0,.slice none 0 0]) w:=by kernel_rfl
theorem zaM {w:World} {B:Nat} {v:Value} {l:List zF} (h:w.ownsRow B 95 33 v l.length (l.flatMap zn)) (ok:∀x∈l,x.ok) {V:Nat→Prop} (a:∀j,v.ownBlock=some j→¬V j):Kept V w (λw=>xN w v l):=
 λw' f=>⟨ok,(zb h f a).slice.arg⟩
structure qT (w0 w:World) (p s:Nat) (U:Nat→Prop) (mi:Nat) (bv:Value) (css:List (List Value)) (D:ChD):Prop where
 obj:w.heap[p]? =some (.cells #[.pointer (some ⟨s,0,none⟩),bv,.map (some mi)] 167 (0,0))
 set:CS w0 w s U D.S
 row:w.ownsRow w0.heap.size 207 5 bv D.bs.length (css.flatMap id)
 cl:css.length=D.bs.length
 c5:∀cs∈css,cs.length=5
 data:∀(i:Nat) (d:yx) (cs:List Value),D.bs[i]? =some d→css[i]? =some cs→Kept (chV p U mi bv) w (λw=>jC w d cs)
 map:ziK w mi D.M
 pm:p≠mi
 up:¬U p
 um:¬U mi
 rn:∀k,bv.ownBlock=some k→k≠p∧k≠mi∧¬U k
 lo1:w0.heap.size≤p
 lo2:w0.heap.size≤mi
section
variable {w0 w w':World} {p s mi:Nat} {U:Nat→Prop} {bv:Value} {css:List (List Value)} {D:ChD}
theorem qT.fr (h:qT w0 w p s U mi bv css D):Fr No w0 w:=h.set.fr
theorem qT.lo (h:qT w0 w p s U mi bv css D):∀j,chV p U mi bv j→w0.heap.size≤j:=by
 intro j a
 rcases a with rfl|a|rfl|a
 ·exact h.lo1
 ·exact h.set.lo j a
 ·exact h.lo2
 ·exact(h.row.lt j a).1
theorem qT.hi (h:qT w0 w p s U mi bv css D):∀j,chV p U mi bv j→j<w.heap.size:=by
 intro j a
 rcases a with rfl|a|rfl|a
 ·exact yG h.obj
 ·exact h.set.hi j a
 ·exact h.map.lt
 ·exact(h.row.lt j a).2
theorem qT.frV (h:qT w0 w p s U mi bv css D) {W:Nat→Prop} (f:Fr W w w') (a:∀j,chV p U mi bv j→¬W j) (c:∀j,W j→w0.heap.size≤j) (e:∀(i:Nat) (d:yx) (cs:List Value),D.bs[i]? =some d→css[i]? =some cs→Kept (chV p U mi bv) w' (λw=>jC w d cs)):qT w0 w' p s U mi bv css D:=
 {h with
  obj:=f.obj h.obj (a _ (.inl rfl))
  set:=h.set.frV f (λj b=>a j (.inr (.inl b))) c
  row:=zb h.row f (λj b=>a j (.inr (.inr (.inr b))))
  data:=e
  map:=h.map.keep f (a _ (.inr (.inr (.inl rfl))))}
theorem qT.fr0 (h:qT w0 w p s U mi bv css D) (f:Fr No w w'):qT w0 w' p s U mi bv css D:=
 h.frV f (λ_ _=>id) (λ_ h=>h.elim) (λi d cs a b=>(h.data i d cs a b).same f.of0)
theorem qT.setS (h:qT w0 w p s U mi bv css D) {b:List zr} (g:CS w0 w' s U b) (f:Fr U w w'):qT w0 w' p s U mi bv css ⟨b,D.bs,D.M⟩:=
 {h with
  obj:=f.obj h.obj h.up
  set:=g
  row:=zb h.row f (λj a=>(h.rn j a).2.2)
  data:=λi d cs c e=>(h.data i d cs c e).same (f.mono (λj a=>.inr (.inl a)))
  map:=h.map.keep f h.um}
theorem qT.cells (h:qT w0 w p s U mi bv css D):w.cell? ⟨p,0,none⟩=some (.pointer (some ⟨s,0,none⟩))∧w.cell? ⟨p,1,none⟩=some bv∧w.cell? ⟨p,2,none⟩=some (.map (some mi)):=by
 have:=zq h.obj
 exact⟨by simpa using this 0 _ rfl,by simpa using this 1 _ rfl,by simpa using this 2 _ rfl⟩
end
def Ch (w0 w:World) (p:Nat) (V:Nat→Prop) (D:ChD):Prop:=∃s U mi bv css,qT w0 w p s U mi bv css D∧V=chV p U mi bv
theorem Ch.fr0 {w0 w w':World} {p:Nat} {V:Nat→Prop} {D:ChD} (h:Ch w0 w p V D) (f:Fr No w w'):Ch w0 w' p V D:=by
 obtain⟨s,U,mi,bv,css,h,e⟩:=h
 exact⟨s,U,mi,bv,css,h.fr0 f,e⟩
theorem Ch.fr {w0 w:World} {p:Nat} {V:Nat→Prop} {D:ChD} (h:Ch w0 w p V D):Fr No w0 w:=by
 obtain⟨s,U,mi,bv,css,h,e⟩:=h
 exact h.fr
theorem Ch.lo {w0 w:World} {p:Nat} {V:Nat→Prop} {D:ChD} (h:Ch w0 w p V D):∀j,V j→w0.heap.size≤j:=by
 obtain⟨s,U,mi,bv,css,h,rfl⟩:=h
 exact h.lo
theorem zfL {w0 w:World} {p:Nat} {V:Nat→Prop} {D:ChD} (h:Ch w0 w p V D) {q:zF} (v:q.ok):Calls prog 126 #[.pointer (some ⟨p,0,none⟩),.agg (zn q).toArray] w λe w'=>e=.returned (.tuple #[.agg (zJ (yg D.S q)).toArray,.bool (xK D.S q)])∧Fr No w w':=by
 obtain⟨s,U,mi,bv,css,h,-⟩:=h
 obtain⟨I,G,F⟩:=Z0
 have N:=xm
 have B:=J (zY v)
 have k:=J (vH h.set.ok q)
 have c:=J (yr k.o)
 have u:Fr No w ((w.alloc (.cells (zn q).toArray 95)).alloc (.cells (zJ y6).toArray 103)).drew:=(((frN w).alloc _).alloc _).drew
 have A:=J (λw' (f:Fr No w w')=>zf0 (h.set.fr0 f) v)
 have a:Fr No (w.alloc (.cells (zn q).toArray 95)) ((w.alloc (.cells (zn q).toArray 95)).alloc (.cells (zJ y6).toArray 103)).drew:=((frN _).alloc _).drew
 have g:=J (λw' (f:Fr No w w')=>(h.fr0 f).cells.1)
 have t:=J (za (zy w (zn q) 95) a id)
 have z:=J ((frN _).drew.obj (yL (w.alloc (.cells (zn q).toArray 95)) (.cells (zJ y6).toArray 103) (n:=w.heap.size+1) (by simp)) id)
 have j:=J u
 clear h u a
 go_enter Tryz.func126,Tryz.ntmps126
 go_wp2_with fail
 generalize ((w.alloc (.cells (zn q).toArray 95)).alloc (.cells (zJ y6).toArray 103))=M at*
 refine wrLx [ff,ff,ff,ff,ff,tt,ff,ff,tt,ff] (λw'=>w'.cell? ⟨p,0,none⟩=some (.pointer (some ⟨s,0,none⟩))∧w'.rangeAt w.heap.size 0 (zn q)) ?_ (λK hK=>?_)
 ·exact⟨g.o _ j.o,t.o⟩
 repeat((first|(refine zj rfl ?_;constructor;constructor;(focus(first|exact zn6 rfl (λw h=>h.2) B.o|(rintro w' ⟨x,y⟩;go_simp;(try with_reducible rfl);done))))|(refine zl rfl ?_));try simp only[Act.put,pA,pB,pC])
 (refine zE rfl (λK' hK'=>?_))
 go_simp
 refine(A.o _ j.o).mono ?_
 rintro e H ⟨rfl,d⟩
 have m:=J (j.o.trans0 d)
 have l:=J (d.obj z.o id)
 have r:=J (za t.o d id)
 clear d
 generalize E:yg D.S q=X at*
 generalize C:xK D.S q=L at*
 refine nXt hK' ?_ λhS=>?_
 ·exact⟨g.o _ m.o,r.o⟩
 try simp only[Act.put,pA,pB,pC]
 repeat((first|(refine zj rfl ?_;constructor;constructor;(focus(first|(rintro w' ⟨x,y⟩;go_simp;(try with_reducible rfl);done))))|(refine zl rfl ?_));try simp only[Act.put,pA,pB,pC])
 (refine zE rfl (λK' hK'=>?_))
 refine yN (zK (ty:=103) (b:=w.heap.size+1) (off:=0) (cs:=zJ X) rfl rfl rfl (by rw[c.o];exact zV l.o (le_of_eq yu.symm)) (by rw[c.o];exact yz) yc) ?_
 have o:=@J (Fr No w (H.setCells (w.heap.size+1) 0 (zJ X))) (m.o.trans (zu _ _ _ _) (λi hi e=>by omega))
 refine nXt hK' ?_ λhS=>?_
 ·exact⟨g.o _ o.o,za r.o (zu _ _ _ _) (λe=>by omega)⟩
 try simp only[Act.put,pA,pB,pC]
 repeat((first|(refine zj rfl ?_;constructor;constructor;(focus(first|(rintro w' ⟨x,y⟩;go_simp;(try with_reducible rfl);done))))|(refine zl rfl ?_));try simp only[Act.put,pA,pB,pC])
 refine zL (hK.out _ _ ?_)
 go_wp2_with fail
 refine bodyPost_ret (yk (P:=prog) (fn:=Tryz.f126) rfl _ rfl (yv l.o (by rw[c.o];exact yu)) G F (by rw[c.o];exact yz) rfl) rfl ⟨by rw[E,C];rfl,o.o⟩
theorem zfh (w:World):(Instr.makeMap 120 none).run prog w=.ok (.map (some w.heap.size)) (w.alloc (.map #[] 0)):=by kernel_rfl
theorem ziU (s m:Nat) (w:World):(Instr.build 167 #[(0,.pointer (some ⟨s,0,none⟩)),(2,.map (some m))]).run prog w=.ok (.agg #[.pointer (some ⟨s,0,none⟩),.slice none 0 0,.map (some m)]) w:=by kernel_rfl
def zfK (l:List yE):ChD:=⟨jR [] (ZJ yO l),[],[]⟩
theorem zhu (w:World) {v:Value} {l:List yE} (c:xy w v l) (y:l.length≤256):
  Calls prog 35 #[v] w λe w'=>∃p,e=.returned (.tuple #[.pointer (some ⟨p,0,none⟩),.int .i64 0])∧∃V,Ch w w' p V (zfK l):=by
 have O:decide ((256:Int)<(l.length:Int))=false:=by simp;omega
 have B:=J (Vu w xO c (by omega))
 have H:=J (Vt xO c.1 (by omega))
 have A:=J y
 obtain⟨R,S,rfl⟩:=c.2.form
 clear c y
 go_enter Tryz.func35,Tryz.ntmps35
 have⟨C,D,E,F⟩:=tZ4
 go_wp2_with ((first|((with_reducible refine zt ?_);first|(clear C;with_reducible refine yt 10 ?_;refine zg rfl (yf (t:=41) rfl rfl (Xg _)) ?_)|(clear F;with_reducible refine yt 18 ?_;refine zg rfl (yf (t:=167) rfl rfl (ziU _ _ _)) ?_))|(clear D;go_at_call 70;refine B.o.mono ?_;rintro e z ⟨M,rfl,n,r⟩;have g:=J r;have G:=@J (q9 z M (ZJ yO l)) (⟨H.o,by rw[Ja];exact n.slice.arg⟩);obtain⟨P,Q,m⟩:=n.slice.arg.form;subst m;clear n r)|(clear E;go_at_call 69;refine(zl0 w z g.o G.o (by rw[Ja];have:=A.o;omega) (QG _ _)).mono ?_;rintro e a ⟨s,rfl,U,b,u,K⟩;have f:=J b;have q:=J u;clear b u K;have L:=zfh a));go_frame)
 have I:=(frN a).alloc (.map #[] 0)
 have x:=(frN (a.alloc (.map #[] 0))).alloc (.cells #[.pointer (some ⟨s,0,none⟩),.slice none 0 0,.map (some a.heap.size)] 167)
 have N:(a.alloc (.map #[] 0)).heap.size=a.heap.size+1:=by simp
 have j:=ye (a.alloc (.map #[] 0)) (.cells #[.pointer (some ⟨s,0,none⟩),.slice none 0 0,.map (some a.heap.size)] 167)
 have o:=@J (qT w _ (a.alloc (.map #[] 0)).heap.size s U a.heap.size (.slice none 0 0) [] (zfK l)) ({obj:=j,set:=(f.o.fr0 I).fr0 x,row:=World.ownsRow_nil _ _ _ 5,cl:=rfl,c5:=(λcs h=>by cases h),data:=(λi d cs h=>by simp[zfK] at h),map:=(show ziK (a.alloc (.map #[] 0)) a.heap.size [] from yD.made a).keep x id,pm:=(by omega),up:=(λh=>by have:=f.o.hi _ h;omega),um:=(λh=>by have:=f.o.hi _ h;omega),rn:=(λk h=>by cases h),lo1:=(by have:=g.o.size;have:=q.o.size;omega),lo2:=(by have:=g.o.size;have:=q.o.size;omega)})
 rw[N] at o
 go_ret2
 exact⟨_,rfl,_,_,_,_,_,_,o.o,rfl⟩
structure jN {α:Type} (B:Nat) (ty:TypeId) (k:Nat) (q:World→α→List Value→Prop) (V:Nat→Prop) (w:World) (v:Value) (L:List α) (css:List (List Value)):Prop where
 row:w.ownsRow B ty k v L.length (css.flatMap id)
 cl:css.length=L.length
 ck:∀cs∈css,cs.length=k
 data:∀(i:Nat) (d:α) (cs:List Value),L[i]? =some d→css[i]? =some cs→Kept (λj=>V j∨v.ownBlock=some j) w (λw=>q w d cs)
section
variable {α:Type} {B:Nat} {ty:TypeId} {k:Nat} {q:World→α→List Value→Prop} {V:Nat→Prop} {w w':World} {v:Value} {L:List α} {css:List (List Value)}
theorem jN.nil (B:Nat) (ty:TypeId) (k:Nat) (q:World→α→List Value→Prop) (V:Nat→Prop) (w:World):jN B ty k q V w (.slice none 0 0) ([]:List α) []:=
 ⟨World.ownsRow_nil w B ty k,rfl,λ_ h=>(by cases h),λi d cs h=>by simp at h⟩
theorem jN.form (h:jN B ty k q V w v L css):∃a c,v=.slice a L.length c:=h.row.slice.arg.form
theorem jN.lt (h:jN B ty k q V w v L css):∀j,v.ownBlock=some j→B≤j∧j<w.heap.size:=λj a=>h.row.lt j a
theorem jN.fr (h:jN B ty k q V w v L css) {W:Nat→Prop} (f:Fr W w w') (m:∀j,j<w.heap.size→W j→V j) (a:∀j,v.ownBlock=some j→¬W j):jN B ty k q V w' v L css:=
 ⟨zb h.row f a,h.cl,h.ck,λi d cs g l=>(h.data i d cs g l).step ((Fr.mono (W:=λj=>W j∧j<w.heap.size) ⟨f.os,f.tape,f.output,f.size,λk c a=>f.block k c (λe=>a ⟨e,c⟩)⟩ (λj b=>.inl (m j b.2 b.1)))) (λ_ _ e=>e)⟩
theorem jN.fr0 (h:jN B ty k q V w v L css) (f:Fr No w w'):jN B ty k q V w' v L css:=h.fr f (λ_ _ e=>e.elim) (λ_ _ e=>e)
theorem jN.vary (h:jN B ty k q V w v L css) {V':Nat→Prop} (c:∀j,j<w.heap.size→V' j→V j):jN B ty k q V' w v L css:=
 ⟨h.row,h.cl,h.ck,λi d cs a b=>(h.data i d cs a b).step (Fr.refl _ _) (λj f e=>e.imp_left (c j f))⟩
theorem jN.append {P:Program} {t ty2:TypeId} {bytes:Nat} {z:Value} (h:jN B ty k q V w v L css) (I:P.underlying t=some (.slice ty)) (a:(P.info? ty).map (λi=>(i.zero,i.size,i.bytes))=some (some z,k,bytes)) (y:z.cells.size=k) (r:0<k)
  {d:α} {cs:List Value} (H:Kept (λj=>V j∨v.ownBlock=some j) w (λw=>q w d cs)) (m:cs.length=k) (F:∀u∈cs,u.oneCell'=true) (o:(L.length+1)*bytes≤140737488355328) (s:L.length+1≤maxLen) (G:B≤w.heap.size):
  ∃g w',(Builtin.append_ #[t,t] ty2 #[v,.slice (some ⟨w.heap.size,0,none⟩) 1 1]).run P (w.alloc (.cells cs.toArray ty))=.ok g w'∧jN B ty k q V w' g (L++[d]) (css++[cs])∧Fr (λj=>v.ownBlock=some j) w w'∧∀j,g.ownBlock=some j→v.ownBlock=some j∨w.heap.size≤j:=by
 obtain⟨g,w',D,E,n,K,A⟩:=yX (P:=P) w B t ty2 ty k bytes z I a y r h.row cs m F o s G
 refine⟨g,w',D,⟨?_,?_,?_,?_⟩,n,A⟩
 ·rw[length_append,flatMap_append]
  simpa using E
 ·rw[length_append,length_append,h.cl];rfl
 ·intro x f
  rcases mem_append.1 f with f|f
  ·exact h.ck x f
  ·simp at f;subst f;exact m
 ·intro i e c b l
  have C:∀j,j<w.heap.size→(V j∨g.ownBlock=some j)→(V j∨v.ownBlock=some j):=λj M e=>e.imp_right (λe=>(A j e).resolve_right (by omega))
  by_cases hi:i<L.length
  ·rw[getElem?_append_left hi] at b
   rw[getElem?_append_left (by rw[h.cl];exact hi)] at l
   exact(h.data i e c b l).step (n.mono (λj e=>.inr e)) C
  ·have p:i=L.length:=by have:=(List.getElem?_eq_some_iff.1 b).1;simp only[length_append,length_singleton] at this;omega
   subst p
   rw[List.getElem?_append_right (le_refl _),sub_self] at b
   rw[List.getElem?_append_right (by rw[h.cl];exact le_refl _),h.cl,sub_self] at l
   simp at b l
   subst b
   subst l
   exact H.step (n.mono (λj e=>.inr e)) C
theorem jN.rows (h:jN B ty k q V w v L css) (a:0<k) (b:L.length≤maxLen) {U:Nat→Prop} (l:∀j,j<w.heap.size→U j→V j) (n:∀j,v.ownBlock=some j→¬U j):Kept U w (λw=>qU k q w v L):=λw' f=>by
 refine qU.own a (zb h.row f n) h.cl h.ck b (λi d cs c g=>?_)
 refine((h.data i d cs c g).step (V':=U) (Fr.refl _ _) (λj m e=>.inl (l j m e))) w' f
end
theorem zbI {w:World} {B:Nat} {v:Value} {k:List Int} (h:qJ w B v k) (ok:∀b∈k,0≤b∧b≤255) {V:Nat→Prop} (a:∀j,V j→j<B):Kept V w (λw=>zbj w v k):=
 λw' f=>⟨ok,(zb h f (λb c d=>by have:=(h.lt b c).1;have:=a b d;omega)).slice.arg⟩
theorem zjY:xI prog 108=some (34,[(0,33),(33,1)]):=by kernel_rfl
theorem zkV {p:zF} (e:p.ok) (a:Option Addr) (n c:Nat):Jw (([(0,33),(33,1)]:List (Nat×Nat)).toArray[·]?) 0 [(0,.agg (zn p).toArray),(1,.slice a n c)]:=by
 have b:(Value.agg (zn p).toArray).cells.size=33:=by show(zn p).toArray.size=33;simpa using zY e
 have d:(Value.slice a n c).cells.size=1:=rfl
 simp only[Jw,b,d]
 exact⟨rfl,rfl,trivial⟩
theorem zjX (p:zF) (a:Option Addr) (n c:Nat):xG [(0,.agg (zn p).toArray),(1,.slice a n c)]=inC p (.slice a n c):=by
 have b:(Value.agg (zn p).toArray).cells.toList=zn p:=by show(zn p).toArray.toList=_;simp
 have d:(Value.slice a n c).cells.toList=[.slice a n c]:=rfl
 simp only[xG,List.flatMap_cons,List.flatMap_nil,b,d,inC,List.append_nil]
theorem Vl:(prog.info? 108).map (λi=>(i.zero,i.size))=some (some (.agg (inC xQ (.slice none 0 0)).toArray),34):=by kernel_rfl
theorem zeJ:(prog.info? 34).map (λi=>(i.zero,i.size))=some (some (.agg (txC 0 (.slice none 0 0) (.slice none 0 0)).toArray),3):=by kernel_rfl
theorem jV (w:World):(zeroValue 34).run prog w=.ok (.agg (txC 0 (.slice none 0 0) (.slice none 0 0)).toArray) w:=by kernel_rfl
theorem ziX (t:Int) (a:Option Addr) (n c:Nat) (w:World):(Instr.build 34 #[(0,.int .u32 t),(2,.slice a n c)]).run prog w=.ok (.agg [.int .u32 t,.slice none 0 0,.slice a n c].toArray) w:=by kernel_rfl
theorem qM {a b c:Value} (e:a.oneCell'=true) (f:b.oneCell'=true) (g:c.oneCell'=true):∀u∈[a,b,c],u.oneCell'=true:=λu d=>by
 simp only[mem_cons,not_mem_nil,or_false] at d
 rcases d with rfl|rfl|rfl
 ·exact e
 ·exact f
 ·exact g
def zgB (T:TypeId) (B:Nat) (l:List yE) (z:Option Addr→Nat→List Value) (w2:World) (s:Value) (wc:World):Prop:=
 ∃qd pa pc,s=.pointer (some ⟨qd,0,none⟩)∧B≤qd∧Fr No w2 wc∧wc.heap[qd]? =some (.cells (z pa pc).toArray T (0,0))∧wc.ownsRow B 103 33 (.slice pa l.length pc) l.length (l.flatMap zJ)∧∀j,(Value.slice pa l.length pc).ownBlock=some j→j≠qd
abbrev zgy (t:Int) (n:Nat) (pa:Option Addr) (pc:Nat):List Value:=[.int .u64 t,.slice pa n pc,.slice none 0 0]
abbrev zTx (t:Int) (n:Nat) (pa:Option Addr) (pc:Nat):List Value:=[.int .u32 t,.slice none 0 0,.slice pa n pc]
def znS (wc:World) (qd:Nat) (b:qA) (pa:Option Addr) (pc:Nat) (n:Nat) (wr:World):Prop:=
 ∃tv css,wr.heap[qd]? =some (.cells #[.int .u64 b.tag,.slice pa b.pay.length pc,tv] 55 (0,0))∧jN wc.heap.size 34 3 TxQ (λj=>j<wc.heap.size) wr tv (b.txs.take n) css∧Fr (λj=>j=qd) wc wr
def znR (wd:World) (qu:Nat) (t:TxD) (va:Option Addr) (vc:Nat) (m:Nat) (wi:World):Prop:=
 ∃iv ics,wi.heap[qu]? =some (.cells #[.int .u32 t.ver,iv,.slice va t.outs.length vc] 34 (0,0))∧jN wd.heap.size 108 34 InQ (λj=>j<wd.heap.size) wi iv (t.ins.take m) ics∧Fr (λj=>j=qu) wd wi
theorem zlb (w:World) {b:qA} {cs:List Value} (ht:jB w b cs) (hN:b.pay.length≤1000) (hT:b.txs.length≤1000) (hI:∀t∈b.txs,t.ins.length≤1000∧t.outs.length≤1000∧∀x∈t.ins,x.key.length≤1000):
  Calls prog 95 #[.agg cs.toArray] w (zlU w b):=by
 obtain⟨ia,ic,oa,oc,rfl,hv,ho,a7⟩:=ht
 have zB:=YZ
 have zT:=jV
 have zI:=Zn
 have f1:Fr No w (w.alloc (.cells #[.int .u64 b.tag,.slice ia b.pay.length ic,.slice oa b.txs.length oc] 55)):=(frN w).alloc _
 have ah:Fr No (w.alloc (.cells #[.int .u64 b.tag,.slice ia b.pay.length ic,.slice oa b.txs.length oc] 55)) _:=(frN _).alloc (.cells Jv.toArray 55)
 obtain⟨c0,c1,c2,-⟩:=J1 w (.int .u64 b.tag) (.slice ia b.pay.length ic) (.slice oa b.txs.length oc) 55
 have C0:=J (ah.cell c0 _root_.id)
 have C1:=J (ah.cell c1 _root_.id)
 have C2:=J (ah.cell c2 _root_.id)
 have F2:=J (f1.trans0 ah)
 have B2:=J (yL (w.alloc (.cells #[.int .u64 b.tag,.slice ia b.pay.length ic,.slice oa b.txs.length oc] 55)) (.cells Jv.toArray 55) (n:=w.heap.size+1) (by simp))
 have HO:=J (ho.keep F2.o)
 have bk:=J (a7.keep0 F2.o)
 have Z2:=@J (((w.alloc (.cells #[.int .u64 b.tag,.slice ia b.pay.length ic,.slice oa b.txs.length oc] 55)).alloc (.cells Jv.toArray 55)).heap.size=w.heap.size+2) (by simp)
 have HN:=J hN
 have HI:=J hI
 have HV:=J hv
 clear c0 c1 c2 f1 ah ho hv hN a7 hI
 show Calls prog 95 #[.agg #[.int .u64 b.tag,.slice ia b.pay.length ic,.slice oa b.txs.length oc]] w _
 go_enter Tryz.func95,Tryz.ntmps95
 go_wp2_with fail
 generalize (w.alloc (.cells #[.int .u64 b.tag,.slice ia b.pay.length ic,.slice oa b.txs.length oc] 55)).alloc (.cells Jv.toArray 55)=w2 at*
 go_cut [3] from 9 to 14 (λs3 wc=>zgB 55 w2.heap.size b.pay (zgy b.tag b.pay.length) w2 s3 wc)
 case first=>
  have I:=J (frN w2).drew
  have af:=J (HO.o.keep I.o)
  have d:=J (I.o.cell C0.o _root_.id)
  have g:=J (I.o.cell C1.o _root_.id)
  have Zd:=@J (w2.drew.heap.size=w2.heap.size) (rfl)
  refine jM 8 [0,1,2,3,4,5,6,7] (λw'=>w'.cell? ⟨w.heap.size,0,none⟩=some (.int .u64 b.tag)∧w'.cell? ⟨w.heap.size,1,none⟩=some (.slice ia b.pay.length ic)) (by kernel_rfl) (by kernel_rfl) (by kernel_rfl) (by kernel_rfl) ?_ (λK hK=>?_)
  ·exact⟨d.o,g.o⟩
  generalize w2.drew=E at*
  (((first|(refine yB 0 (by kernel_rfl) rfl rfl ?_;apply Exists.intro;refine⟨?_,?_⟩;(focus(first|(intro w' hS;obtain⟨Z,s2⟩:=hS;go_simp;(try with_reducible rfl);done))))|(refine yC 0 (by kernel_rfl) rfl rfl ?_));try simp only[Act.put,pA,pB,pC]);((first|(refine yB 1 (by kernel_rfl) rfl rfl ?_;apply Exists.intro;refine⟨?_,?_⟩;(focus(first|(intro w' hS;obtain⟨Z,s2⟩:=hS;go_simp;(try with_reducible rfl);done))))|(refine yC 1 (by kernel_rfl) rfl rfl ?_));try simp only[Act.put,pA,pB,pC]);((first|(refine yB 2 (by kernel_rfl) rfl rfl ?_;apply Exists.intro;refine⟨?_,?_⟩;(focus(first|(intro w' hS;obtain⟨Z,s2⟩:=hS;go_simp;(try with_reducible rfl);done))))|(refine yC 2 (by kernel_rfl) rfl rfl ?_));try simp only[Act.put,pA,pB,pC]);((first|(refine yB 3 (by kernel_rfl) rfl rfl ?_;apply Exists.intro;refine⟨?_,?_⟩;(focus(first|(intro w' hS;obtain⟨Z,s2⟩:=hS;go_simp;(try with_reducible rfl);done))))|(refine yC 3 (by kernel_rfl) rfl rfl ?_));try simp only[Act.put,pA,pB,pC]))
  refine ZI 4 6 (by kernel_rfl) rfl rfl rfl rfl (λK' hK'=>?_) (λK' hK'=>?_)
  ·obtain⟨pv,F,X,u,Y,-⟩:=ZZ E (k:=[]) (World.ownsRow_nil E w2.heap.size _ 33) af.o (by have:=HN.o;simp;omega) (by have:=Zd.o;omega) 22
   rw[length_nil,zero_add,nil_append] at u
   obtain⟨l,o,R⟩:=u.slice.arg.form
   subst R
   have A1:=J X
   have y:=@J (Fr No E F) (Y.mono (λj e=>by cases e))
   have O4:=J u
   clear X u Y
   refine yw rfl rfl rfl A1.o ?_
   refine nXt hK' ?_ λhS=>?_
   ·exact⟨y.o.cell d.o _root_.id,y.o.cell g.o _root_.id⟩
   try simp only[Act.put,pA,pB,pC]
   (((first|(refine yB 5 (by kernel_rfl) rfl rfl ?_;apply Exists.intro;refine⟨?_,?_⟩;(focus(first|exact λw' _=>yf (t:=55) rfl rfl (zgH _ _ _ _ _)|(intro w' hS;obtain⟨Z,s2⟩:=hS;go_simp;(try with_reducible rfl);done))))|(refine yC 5 (by kernel_rfl) rfl rfl ?_));try simp only[Act.put,pA,pB,pC]))
   refine y9 6 (by kernel_rfl) rfl rfl (λK' hK'=>?_)
   refine yj (yA rfl (YZ _)) ?_
   have N:=J ((frN F).alloc (.cells (Jv).toArray 55))
   refine nXt hK' ?_ λhS=>?_
   ·exact⟨N.o.cell (y.o.cell d.o _root_.id) _root_.id,N.o.cell (y.o.cell g.o _root_.id) _root_.id⟩
   try simp only[Act.put,pA,pB,pC]
   refine y9 7 (by kernel_rfl) rfl rfl (λK' hK'=>?_)
   refine yN (zm (w:=F) (ty:=55) (cs:=(zgy b.tag b.pay.length) l o) rfl rfl rfl rfl JQ (qM rfl rfl rfl)) ?_
   have O:=J ((frN F).alloc (.cells ((zgy b.tag b.pay.length) l o).toArray 55))
   refine nXt hK' ?_ λhS=>?_
   ·exact⟨O.o.cell (y.o.cell d.o _root_.id) _root_.id,O.o.cell (y.o.cell g.o _root_.id) _root_.id⟩
   try simp only[Act.put,pA,pB,pC]
   refine jd (hK.out _ _ ?_)
   go_wp2_with fail
   go_meet
   case rel=>exact⟨F.heap.size,l,o,rfl,by have:=y.o.size;have:=Zd.o;omega,I.o.trans0 (y.o.trans0 O.o),ye F (.cells ((zgy b.tag b.pay.length) l o).toArray 55),zb O4.o O.o (λ_ _=>_root_.id),λj a e=>by have:=(O4.o.lt j a).2;omega⟩
  ·refine yj (yA rfl (YZ _)) ?_
   have N:=J ((frN E).alloc (.cells (Jv).toArray 55))
   have B5:=J (ye E (.cells (Jv).toArray 55))
   have Q5:=@J ((E.alloc (.cells (Jv).toArray 55)).heap.size=E.heap.size+1) (by simp)
   generalize E.alloc (.cells (Jv).toArray 55)=F at*
   generalize au:E.heap.size=G at*
   refine nXt hK' ?_ λhS=>?_
   ·exact⟨N.o.cell d.o _root_.id,N.o.cell g.o _root_.id⟩
   try simp only[Act.put,pA,pB,pC]
   refine y9 4 (by kernel_rfl) rfl rfl (λK' hK'=>?_)
   obtain⟨pv,w5,X,u,Y,-⟩:=ZZ F (k:=[]) (World.ownsRow_nil F (w2.heap.size+1) _ 33) (af.o.keep N.o) (by have:=HN.o;simp;omega) (by have:=Zd.o;have:=Q5.o;omega) 22
   rw[length_nil,zero_add,nil_append] at u
   obtain⟨l,o,R⟩:=u.slice.arg.form
   subst R
   have A1:=J X
   have y:=@J (Fr No F w5) (Y.mono (λj e=>by cases e))
   have O4:=J u
   clear X u Y
   refine yw rfl rfl rfl A1.o ?_
   have L:=J (N.o.trans0 y.o)
   have aa:=J (y.o.obj B5.o _root_.id)
   refine nXt hK' ?_ λhS=>?_
   ·exact⟨L.o.cell d.o _root_.id,L.o.cell g.o _root_.id⟩
   try simp only[Act.put,pA,pB,pC]
   (((first|(refine yB 5 (by kernel_rfl) rfl rfl ?_;apply Exists.intro;refine⟨?_,?_⟩;(focus(first|exact λw' _=>yf (t:=55) rfl rfl (zgH _ _ _ _ _)|(intro w' hS;obtain⟨Z,s2⟩:=hS;go_simp;(try with_reducible rfl);done))))|(refine yC 5 (by kernel_rfl) rfl rfl ?_));try simp only[Act.put,pA,pB,pC]))
   refine y9 7 (by kernel_rfl) rfl rfl (λK' hK'=>?_)
   refine yN (zK (ty:=55) (b:=G) (off:=0) (cs:=(zgy b.tag b.pay.length) l o) rfl rfl rfl (zV aa.o (le_refl 3)) JQ (qM rfl rfl rfl)) ?_
   have O:=J (zu G ((zgy b.tag b.pay.length) l o) 0 w5)
   have M:=@J (Fr No E _) (L.o.trans O.o (λi hi e=>by omega))
   refine nXt hK' ?_ λhS=>?_
   ·exact⟨M.o.cell d.o _root_.id,M.o.cell g.o _root_.id⟩
   try simp only[Act.put,pA,pB,pC]
   refine jd (hK.out _ _ ?_)
   go_wp2_with fail
   go_meet
   case rel=>exact⟨G,l,o,rfl,by have:=Zd.o;omega,I.o.trans0 M.o,ZL (cs:=(zgy b.tag b.pay.length) l o) aa.o rfl,xj (zb O4.o O.o (λj a e=>by have:=(O4.o.lt j a).1;have:=Zd.o;omega)) (Nat.le_succ _),λj a e=>by have:=(O4.o.lt j a).1;have:=Zd.o;omega⟩
 case rest=>
  rename World=>wz
  obtain⟨G,l,o,rfl,au,fc,bq,op,aX⟩:=hcut
  have FC:=J fc
  have BQ:=J bq
  have OP:=J op
  have QD:=J au
  have NQ:=J aX
  have bf:=J (fc.cell C2.o _root_.id)
  have c2:=bf.o
  have bc:=J (fc.obj B2.o _root_.id)
  have QL:=J (yG bq)
  clear fc bq op au aX
  go_wp2_with fail
  clear c2
  go_loopw [18] (λiv wr=>∃n:Nat,iv=.int .i64 n∧n≤b.txs.length∧znS wz G b l o n wr) (λiv _=>b.txs.length-(intOf iv).toNat)
  case atStart=>exact⟨0,rfl,zero_le _,.slice none 0 0,[],BQ.o,jN.nil _ _ _ _ _ _,Fr.refl _ _⟩
  case round=>
   obtain⟨n,rfl,hn,tv,css,aU,aG,fr⟩:=hrel
   have FR:=J fr
   have az:=J aU
   have KR:=J aG
   have FW:=@J (Fr No w2 wr) (FC.o.trans fr (λj a e=>by have:=QD.o;omega))
   obtain⟨q,r,a8⟩:=aG.form
   rw[length_take,min_eq_left hn] at a8
   subst a8
   clear fr aU aG
   by_cases bA:n<b.txs.length
   ·have i1:(n:Int)<(b.txs.length:Int):=by omega
    obtain⟨t,hx⟩:∃x,b.txs[n]? =some x:=⟨_,getElem?_eq_getElem bA⟩
    have HX:=J hx
    obtain⟨bb,off,bH,ts,bD,hr,hq⟩:=(bk.o.keep0 FW.o).at_ hx
    cases bD
    obtain⟨ja,jc,ka,kc,rfl,al,ax,ak⟩:=hq
    have TV:=J al
    have R1:=@J (wr.rangeAt bb (off+n*3) [.int .u32 t.ver,.slice ja t.ins.length jc,.slice ka t.outs.length kc]) (hr)
    have TI:=J (HI.o t (mem_of_getElem? hx))
    have QA:=@J (wr.heap.size<(wr.alloc (.cells #[.int .u32 t.ver,.slice ja t.ins.length jc,.slice ka t.outs.length kc] 34)).heap.size) (by simp)
    have FA:=J ((frN wr).alloc (.cells #[.int .u32 t.ver,.slice ja t.ins.length jc,.slice ka t.outs.length kc] 34))
    obtain⟨d0,d1,d2,-⟩:=J1 wr (.int .u32 t.ver) (.slice ja t.ins.length jc) (.slice ka t.outs.length kc) 34
    have D0:=J d0
    have D1:=J d1
    have D2:=J d2
    have aM:=J (ak.keep FA.o)
    have bj:=J (ax.keep0 FA.o)
    clear hr hx al ax ak d0 d1 d2
    have⟨K0,K1⟩:=tZ2
    go_wp2_with ((first|((with_reducible refine zt ?_);clear K0;refine zn1 rfl rfl rfl R1.o rfl ?_)|((with_reducible refine zv ?_);clear K1;refine zi rfl (zm (w:=wr) (ty:=34) (cs:=[.int .u32 t.ver,.slice ja t.ins.length jc,.slice ka t.outs.length kc]) rfl rfl rfl rfl yZ (qM rfl rfl rfl)) ?_;generalize wr.alloc (.cells #[.int .u32 t.ver,.slice ja t.ins.length jc,.slice ka t.outs.length kc] 34)=wq at*));go_frame)
    have aT:=J TI.o.2.1
    go_cut [6] from 22 to 27 (λs6 wd=>zgB 34 wq.heap.size t.outs (zTx t.ver t.outs.length) wq s6 wd)
    case first=>
     have I:=J (frN wq).drew
     have af:=J (aM.o.keep I.o)
     have d:=J (I.o.cell D0.o _root_.id)
     have g:=J (I.o.cell D2.o _root_.id)
     have Zd:=@J (wq.drew.heap.size=wq.heap.size) (rfl)
     refine jM 8 [0,1,2,3,4,5,6,7] (λw'=>w'.cell? ⟨wr.heap.size,0,none⟩=some (.int .u32 t.ver)∧w'.cell? ⟨wr.heap.size,2,none⟩=some (.slice ka t.outs.length kc)) (by kernel_rfl) (by kernel_rfl) (by kernel_rfl) (by kernel_rfl) ?_ (λK hK=>?_)
     ·exact⟨d.o,g.o⟩
     generalize wq.drew=E at*
     (((first|(refine yB 0 (by kernel_rfl) rfl rfl ?_;apply Exists.intro;refine⟨?_,?_⟩;(focus(first|(intro w' hS;obtain⟨Z,s2⟩:=hS;go_simp;(try with_reducible rfl);done))))|(refine yC 0 (by kernel_rfl) rfl rfl ?_));try simp only[Act.put,pA,pB,pC]);((first|(refine yB 1 (by kernel_rfl) rfl rfl ?_;apply Exists.intro;refine⟨?_,?_⟩;(focus(first|(intro w' hS;obtain⟨Z,s2⟩:=hS;go_simp;(try with_reducible rfl);done))))|(refine yC 1 (by kernel_rfl) rfl rfl ?_));try simp only[Act.put,pA,pB,pC]);((first|(refine yB 2 (by kernel_rfl) rfl rfl ?_;apply Exists.intro;refine⟨?_,?_⟩;(focus(first|(intro w' hS;obtain⟨Z,s2⟩:=hS;go_simp;(try with_reducible rfl);done))))|(refine yC 2 (by kernel_rfl) rfl rfl ?_));try simp only[Act.put,pA,pB,pC]);((first|(refine yB 3 (by kernel_rfl) rfl rfl ?_;apply Exists.intro;refine⟨?_,?_⟩;(focus(first|(intro w' hS;obtain⟨Z,s2⟩:=hS;go_simp;(try with_reducible rfl);done))))|(refine yC 3 (by kernel_rfl) rfl rfl ?_));try simp only[Act.put,pA,pB,pC]))
     refine ZI 4 6 (by kernel_rfl) rfl rfl rfl rfl (λK' hK'=>?_) (λK' hK'=>?_)
     ·obtain⟨pv,F,X,u,Y,-⟩:=ZZ E (k:=[]) (World.ownsRow_nil E wq.heap.size _ 33) af.o (by have:=aT.o;simp;omega) (by have:=Zd.o;omega) 22
      rw[length_nil,zero_add,nil_append] at u
      obtain⟨l,o,R⟩:=u.slice.arg.form
      subst R
      have A1:=J X
      have y:=@J (Fr No E F) (Y.mono (λj e=>by cases e))
      have O4:=J u
      clear X u Y
      refine yw rfl rfl rfl A1.o ?_
      refine nXt hK' ?_ λhS=>?_
      ·exact⟨y.o.cell d.o _root_.id,y.o.cell g.o _root_.id⟩
      try simp only[Act.put,pA,pB,pC]
      (((first|(refine yB 5 (by kernel_rfl) rfl rfl ?_;apply Exists.intro;refine⟨?_,?_⟩;(focus(first|exact λw' _=>yf (t:=34) rfl rfl (ziX _ _ _ _ _)|(intro w' hS;obtain⟨Z,s2⟩:=hS;go_simp;(try with_reducible rfl);done))))|(refine yC 5 (by kernel_rfl) rfl rfl ?_));try simp only[Act.put,pA,pB,pC]))
      refine y9 6 (by kernel_rfl) rfl rfl (λK' hK'=>?_)
      refine yj (yA rfl (jV _)) ?_
      have N:=J ((frN F).alloc (.cells (txC 0 (.slice none 0 0) (.slice none 0 0)).toArray 34))
      refine nXt hK' ?_ λhS=>?_
      ·exact⟨N.o.cell (y.o.cell d.o _root_.id) _root_.id,N.o.cell (y.o.cell g.o _root_.id) _root_.id⟩
      try simp only[Act.put,pA,pB,pC]
      refine y9 7 (by kernel_rfl) rfl rfl (λK' hK'=>?_)
      refine yN (zm (w:=F) (ty:=34) (cs:=(zTx t.ver t.outs.length) l o) rfl rfl rfl rfl yZ (qM rfl rfl rfl)) ?_
      have O:=J ((frN F).alloc (.cells ((zTx t.ver t.outs.length) l o).toArray 34))
      refine nXt hK' ?_ λhS=>?_
      ·exact⟨O.o.cell (y.o.cell d.o _root_.id) _root_.id,O.o.cell (y.o.cell g.o _root_.id) _root_.id⟩
      try simp only[Act.put,pA,pB,pC]
      refine jd (hK.out _ _ ?_)
      go_wp2_with fail
      go_meet
      case rel=>exact⟨F.heap.size,l,o,rfl,by have:=y.o.size;have:=Zd.o;omega,I.o.trans0 (y.o.trans0 O.o),ye F (.cells ((zTx t.ver t.outs.length) l o).toArray 34),zb O4.o O.o (λ_ _=>_root_.id),λj a e=>by have:=(O4.o.lt j a).2;omega⟩
     ·refine yj (yA rfl (jV _)) ?_
      have N:=J ((frN E).alloc (.cells (txC 0 (.slice none 0 0) (.slice none 0 0)).toArray 34))
      have B5:=J (ye E (.cells (txC 0 (.slice none 0 0) (.slice none 0 0)).toArray 34))
      have Q5:=@J ((E.alloc (.cells (txC 0 (.slice none 0 0) (.slice none 0 0)).toArray 34)).heap.size=E.heap.size+1) (by simp)
      generalize E.alloc (.cells (txC 0 (.slice none 0 0) (.slice none 0 0)).toArray 34)=F at*
      generalize au:E.heap.size=G at*
      refine nXt hK' ?_ λhS=>?_
      ·exact⟨N.o.cell d.o _root_.id,N.o.cell g.o _root_.id⟩
      try simp only[Act.put,pA,pB,pC]
      refine y9 4 (by kernel_rfl) rfl rfl (λK' hK'=>?_)
      obtain⟨pv,w5,X,u,Y,-⟩:=ZZ F (k:=[]) (World.ownsRow_nil F (wq.heap.size+1) _ 33) (af.o.keep N.o) (by have:=aT.o;simp;omega) (by have:=Zd.o;have:=Q5.o;omega) 22
      rw[length_nil,zero_add,nil_append] at u
      obtain⟨l,o,R⟩:=u.slice.arg.form
      subst R
      have A1:=J X
      have y:=@J (Fr No F w5) (Y.mono (λj e=>by cases e))
      have O4:=J u
      clear X u Y
      refine yw rfl rfl rfl A1.o ?_
      have L:=J (N.o.trans0 y.o)
      have aa:=J (y.o.obj B5.o _root_.id)
      refine nXt hK' ?_ λhS=>?_
      ·exact⟨L.o.cell d.o _root_.id,L.o.cell g.o _root_.id⟩
      try simp only[Act.put,pA,pB,pC]
      (((first|(refine yB 5 (by kernel_rfl) rfl rfl ?_;apply Exists.intro;refine⟨?_,?_⟩;(focus(first|exact λw' _=>yf (t:=34) rfl rfl (ziX _ _ _ _ _)|(intro w' hS;obtain⟨Z,s2⟩:=hS;go_simp;(try with_reducible rfl);done))))|(refine yC 5 (by kernel_rfl) rfl rfl ?_));try simp only[Act.put,pA,pB,pC]))
      refine y9 7 (by kernel_rfl) rfl rfl (λK' hK'=>?_)
      refine yN (zK (ty:=34) (b:=G) (off:=0) (cs:=(zTx t.ver t.outs.length) l o) rfl rfl rfl (zV aa.o (le_refl 3)) yZ (qM rfl rfl rfl)) ?_
      have O:=J (zu G ((zTx t.ver t.outs.length) l o) 0 w5)
      have M:=@J (Fr No E _) (L.o.trans O.o (λi hi e=>by omega))
      refine nXt hK' ?_ λhS=>?_
      ·exact⟨M.o.cell d.o _root_.id,M.o.cell g.o _root_.id⟩
      try simp only[Act.put,pA,pB,pC]
      refine jd (hK.out _ _ ?_)
      go_wp2_with fail
      go_meet
      case rel=>exact⟨G,l,o,rfl,by have:=Zd.o;omega,I.o.trans0 M.o,ZL (cs:=(zTx t.ver t.outs.length) l o) aa.o rfl,xj (zb O4.o O.o (λj a e=>by have:=(O4.o.lt j a).1;have:=Zd.o;omega)) (Nat.le_succ _),λj a e=>by have:=(O4.o.lt j a).1;have:=Zd.o;omega⟩
    case rest=>
     rename World=>wd
     obtain⟨qu,va,vc,rfl,aZ,fd,bu,ou,aY⟩:=hcut
     have I:=J fd
     have BU:=J bu
     have OU:=J ou
     have QU:=J aZ
     have NU:=J aY
     have bg:=J (fd.cell D1.o _root_.id)
     have bx:=bg.o
     have UL:=J (yG bu)
     clear fd bu ou aZ aY
     go_wp2_with fail
     clear bx
     have VZ:=@J (∀j,j<wz.heap.size→j<wd.heap.size) (λj a=>by have:=FR.o.size;have:=FA.o.size;have:=I.o.size;omega)
     have bw:=@J (G<wq.heap.size∧wr.heap.size<wq.heap.size) (by have:=yG az.o;have:=FA.o.size;exact⟨by omega,QA.o⟩)
     have bJ:=TI.o.1
     go_loopw [31] (λiv s=>∃m:Nat,iv=.int .i64 m∧m≤t.ins.length∧znR wd qu t va vc m s) (λiv _=>t.ins.length-(intOf iv).toNat)
     case atStart=>exact⟨0,rfl,zero_le _,.slice none 0 0,[],BU.o,jN.nil _ _ _ _ _ _,Fr.refl _ _⟩
     case round=>
      obtain⟨m,rfl,hm,iv,ba,aV,aF,fi⟩:=hrel
      rename World=>s
      have FI:=J fi
      have aA:=J aV
      have KI:=J aF
      obtain⟨A,B,aW⟩:=aF.form
      rw[length_take,min_eq_left hm] at aW
      subst aW
      have aC:=@J (Fr No wq s) (I.o.trans fi (λj a e=>by have:=QU.o;omega))
      clear fi aV aF
      by_cases bB:m<t.ins.length
      ·have i2:(m:Int)<(t.ins.length:Int):=by omega
       obtain⟨x,av⟩:∃x,t.ins[m]? =some x:=⟨_,getElem?_eq_getElem bB⟩
       have bm:=J av
       obtain⟨b2,bG,bF,xs,bE,a6,bC⟩:=(bj.o.keep0 aC.o).at_ av
       cases bE
       obtain⟨C,D,rfl,H,ay⟩:=bC
       have aE:=J H
       have br:=J ay
       have R2:=J a6
       have IL:=J (vo H (.slice C x.key.length D))
       have PL:=J (zY H)
       have KL:=J (TI.o.2.2 x (mem_of_getElem? av))
       have FB:=J ((frN s).alloc (.cells (inC x.from_ (.slice C x.key.length D)).toArray 108))
       have aN:=J (YN s (p:=x.from_) (kv:=.slice C x.key.length D) H)
       have QB:=@J ((s.alloc (.cells (inC x.from_ (.slice C x.key.length D)).toArray 108)).heap.size=s.heap.size+1) (by simp)
       clear a6 av H ay
       have⟨K0,K1⟩:=tZ2
       go_wp2_with ((first|((with_reducible refine zt ?_);clear K0;refine zn0 rfl rfl rfl R2.o IL.o ?_)|((with_reducible refine zv ?_);clear K1;refine zn9 (w:=s) (cs:=inC x.from_ (.slice C x.key.length D)) rfl rfl rfl rfl IL.o jQ ?_;generalize s.alloc (.cells (inC x.from_ (.slice C x.key.length D)).toArray 108)=wj at*));go_frame)
       have ar:=J (FB.o.trans0 (frN wj).drew)
       have aK:=J (ar.o.obj aA.o _root_.id)
       have aL:=@J (wj.drew.cell? ⟨qu,1,none⟩=some (.slice A m B)) (by have:=zq aK.o 1 _ rfl;simpa using this)
       have aQ:=J (KI.o.fr0 ar.o)
       have RZ:=@J (wj.drew.rangeAt s.heap.size 0 (zn x.from_)∧wj.drew.cell? ⟨s.heap.size,33,none⟩=some (.slice C x.key.length D)) (⟨za aN.o.1 (frN wj).drew _root_.id,(frN wj).drew.cell aN.o.2 _root_.id⟩)
       have aR:=J (br.o.keep ar.o)
       have QZ:=@J (wj.drew.heap.size=s.heap.size+1) (QB.o)
       have UQ:=@J (qu<s.heap.size) (yG aA.o)
       refine ym [ff,ff,ff,ff,ff,ff,tt,ff,tt,tt,ff,tt] (λw'=>w'.cell? ⟨qu,1,none⟩=some (.slice A m B)∧w'.rangeAt s.heap.size 0 (zn x.from_)∧w'.cell? ⟨s.heap.size,33,none⟩=some (.slice C x.key.length D)) (by kernel_rfl) (by kernel_rfl) 11 (by kernel_rfl) (by kernel_rfl) ?_ (λK hK=>?_)
       ·exact⟨aL.o,RZ.o.1,RZ.o.2⟩
       generalize wj.drew=z at*
       obtain⟨kv,w9,X,u,Y,-⟩:=vk z (qJ.nil z z.heap.size) aR.o.2 (by simp;have:=KL.o;omega) (le_refl _) 106
       rw[nil_append] at u
       obtain⟨an,ao,bz⟩:=u.form
       subst bz
       have A1:=J X
       have F9:=@J (Fr No z w9) (Y.mono (λj e=>by cases e))
       have K9:=J u
       clear X u Y
       have aD:=J (vo aE.o (.slice an x.key.length ao))
       have bs:=J (aQ.o.fr0 F9.o)
       have bp:=@J (Kept (λj=>j<wd.heap.size∨(Value.slice A m B).ownBlock=some j) w9 (λw=>InQ w x (inC x.from_ (.slice an x.key.length ao)))) (λw' f=>⟨an,ao,rfl,aE.o,zbI K9.o aR.o.1 (V:=λj=>j<wd.heap.size∨(Value.slice A m B).ownBlock=some j) (λj a=>by
        have:=FI.o.size
        have:=QZ.o
        rcases a with a|a
        ·omega
        ·have:=(aQ.o.lt j a).2;omega) w' f⟩)
       obtain⟨v5,c,b1,Q,b3,b4⟩:=bs.o.append (P:=prog) (t:=32) (ty2:=32) (bytes:=64) Xw zgV rfl (by decide) bp.o aD.o jQ (by rw[length_take];have:=TI.o.1;omega) (by rw[length_take];unfold maxLen;have:=TI.o.1;omega) (by have:=F9.o.size;have:=FI.o.size;have:=QZ.o;omega)
       have B1:=J b1
       have aO:=@J (jN wd.heap.size 108 34 InQ (λj=>j<wd.heap.size) c v5 (t.ins.take (m+1)) (ba++[inC x.from_ (.slice an x.key.length ao)])) (by rw[take_add_one,bm.o];exact Q)
       have bh:=J b4
       have aq:=J b3
       obtain⟨T,W,S⟩:=Q.form
       rw[length_append,length_take,min_eq_left hm] at S
       simp only[length_singleton] at S
       subst S
       clear b1 Q b3 b4
       have ag:=@J (∀j,(Value.slice A m B).ownBlock=some j→wd.heap.size≤j∧j<s.heap.size) (λj a=>KI.o.lt j a)
       have bd:=J (F9.o.obj aK.o _root_.id)
       have ad:=J (aq.o.obj bd.o (λe=>by have:=(ag.o _ e).1;have:=UL.o;omega))
       have aS:=@J (c.cell? ⟨qu,1,none⟩=some (.slice A m B)) (by have:=zq ad.o 1 _ rfl;simpa using this)
       have aw:=@J (c.rangeAt s.heap.size 0 (zn x.from_)∧c.cell? ⟨s.heap.size,33,none⟩=some (.slice C x.key.length D)) (⟨za (za RZ.o.1 F9.o _root_.id) aq.o (λe=>by have:=(ag.o _ e).2;omega),aq.o.cell (F9.o.cell RZ.o.2 _root_.id) (λe=>by have h:s.heap.size<s.heap.size:=(ag.o _ e).2;omega)⟩)
       have bI:=yl (i:=1) ad.o
       have S9:=@J (∀w',Fr No z w'→w'.cell? ⟨qu,1,none⟩=some (.slice A m B)∧w'.rangeAt s.heap.size 0 (zn x.from_)∧w'.cell? ⟨s.heap.size,33,none⟩=some (.slice C x.key.length D)) (λw' f=>⟨f.cell aL.o _root_.id,za RZ.o.1 f _root_.id,f.cell RZ.o.2 _root_.id⟩)
       have fs:Fr (λj=>j=qu) c (c.setCell ⟨qu,1,none⟩ (.slice T (m+1) W)):=(Fr.refl (λj=>j=qu) c).setCell ⟨qu,1,none⟩ (.inr rfl) _
       have aJ:=J (heap_setCell_same c qu 1 _ _ (.slice T (m+1) W) ad.o)
       have aP:=J (aO.o.fr fs (λj _ e=>by rw[e];exact UL.o) (λj a e=>by
        rcases bh.o j a with h|h
        ·have:=(ag.o _ h).1;have:=UL.o;omega
        ·have:=F9.o.size;have:=QZ.o;have:=UQ.o;omega))
       have aB:=@J (Fr (λj=>j=qu) wd (c.setCell ⟨qu,1,none⟩ (.slice T (m+1) W))) ((((FI.o.trans0 ar.o).trans0 F9.o).trans aq.o (λj a e=>by have:=(ag.o _ e).1;omega)).trans fs (λj _ e=>e))
       clear fs
       repeat((first|(refine z7 rfl ?_;constructor;constructor;(focus(first|exact zn6 rfl (λw h=>h.2.1) PL.o|(rintro w' ⟨Z,s2,s3⟩;go_simp;(try with_reducible rfl);done))))|(refine ya rfl ?_));try simp only[Act.put,pA,pB,pC])
       (refine z6 rfl (λK' hK'=>?_))
       refine yw rfl rfl rfl A1.o ?_
       refine hK'.out _ _ (λ_=>?_) (λhS=>?_)
       ·exact S9.o _ F9.o
       try simp only[Act.put,pA,pB,pC]
       repeat((first|(refine z7 rfl ?_;constructor;constructor;(focus(first|exact zn6 rfl (λw h=>h.2.1) PL.o|exact λw' _=>yP (t:=108) (vs:=[(0,.agg (zn x.from_).toArray),(1,.slice an x.key.length ao)]) rfl rfl zjY (zkV aE.o _ _ _) (zjX _ _ _ _) (by rw[aD.o])|(rintro w' ⟨Z,s2,s3⟩;go_simp;(try with_reducible rfl);done))))|(refine ya rfl ?_));try simp only[Act.put,pA,pB,pC])
       (refine z6 rfl (λK' hK'=>?_))
       refine yj (zU (t:=32) rfl rfl Xw Vl rfl (by decide) (by decide) aD.o) ?_
       refine hK'.out _ _ (λ_=>?_) (λhS=>?_)
       ·exact S9.o _ (F9.o.alloc _)
       try simp only[Act.put,pA,pB,pC]
       (refine z6 rfl (λK' hK'=>?_))
       refine yw rfl rfl rfl B1.o ?_
       refine hK'.out _ _ (λ_=>?_) (λhS=>?_)
       ·exact⟨aS.o,aw.o.1,aw.o.2⟩
       try simp only[Act.put,pA,pB,pC]
       repeat((first|(refine z7 rfl ?_;constructor;constructor;(focus(first|(rintro w' ⟨Z,s2,s3⟩;go_simp;(try with_reducible rfl);done))))|(refine ya rfl ?_));try simp only[Act.put,pA,pB,pC])
       (refine z6 rfl (λK' hK'=>?_))
       go_simp
       refine hK'.out _ _ (λh=>absurd rfl h) (λhS=>?_)
       refine xD (hK.out _ _ ?_)
       go_wp2_with fail
       go_roundw
       case rel=>exact⟨m+1,by go_num,by omega,_,_,aJ.o,aP.o,aB.o⟩
       case measure=>simp[intOf];omega
      ·have ai:m=t.ins.length:=by omega
       have i2:¬(m:Int)<(t.ins.length:Int):=by omega
       have ae:=@J (Fr No wr s) (FA.o.trans0 aC.o)
       have aI:=J (ae.o.obj az.o _root_.id)
       have bt:=J (KR.o.fr0 ae.o)
       have cA:s.cell? ⟨G,2,none⟩=some (.slice q n r):=by have:=zq aI.o 2 _ rfl;simpa using this
       have RU:=J (zq aA.o)
       have KT:=@J (Kept (λj=>j<wz.heap.size∨(Value.slice q n r).ownBlock=some j) s (λw=>TxQ w t [.int .u32 t.ver,.slice A m B,.slice va t.outs.length vc])) (by
        have k1:jN wd.heap.size 108 34 InQ (λj=>j<wd.heap.size) s (.slice A m B) t.ins ba:=by have:=KI.o;rw[ai,take_length] at this;rw[ai];exact this
        have k2:=k1.rows (U:=λj=>j<wz.heap.size∨(Value.slice q n r).ownBlock=some j) (by decide) (by unfold maxLen;have:=TI.o.1;omega) (λj a e=>e.elim (VZ.o j) (λe=>by have:=(KR.o.lt j e).2;have:=FA.o.size;have:=I.o.size;omega)) (λj a e=>by
         have h1:=(k1.lt j a).1
         rcases e with e|e
         ·have:=VZ.o j e;omega
         ·have:=(KR.o.lt j e).2;have:=FA.o.size;have:=I.o.size;omega)
        have k3:=XN (V:=λj=>j<wz.heap.size∨(Value.slice q n r).ownBlock=some j) (zb OU.o FI.o (λj a e=>NU.o j a e)) aM.o.1 (λj e=>by
         rcases e with e|e
         ·have:=FR.o.size;have:=FA.o.size;omega
         ·have:=(KR.o.lt j e).2;have:=FA.o.size;omega)
        intro w' f
        exact⟨A,B,va,vc,by rw[ai];rfl,TV.o,by have:=k2 w' f;rw[ai] at this;exact this,k3 w' f⟩)
       obtain⟨v5,c,b1,Q,b3,b4⟩:=bt.o.append (P:=prog) (t:=23) (ty2:=23) (bytes:=56) zd1 zgW rfl (by decide) KT.o rfl (qM rfl rfl rfl) (by rw[length_take];omega) (by rw[length_take];unfold maxLen;omega) (by have:=FR.o.size;have:=ae.o.size;omega)
       have B1:=J b1
       have bn:=@J (jN wz.heap.size 34 3 TxQ (λj=>j<wz.heap.size) c v5 (b.txs.take (n+1)) (css++[[.int .u32 t.ver,.slice A m B,.slice va t.outs.length vc]])) (by rw[take_add_one,HX.o];exact Q)
       obtain⟨T,W,S⟩:=Q.form
       rw[length_append,length_take,min_eq_left hn] at S
       simp only[length_singleton] at S
       subst S
       have NT:=@J (∀j,(Value.slice q n r).ownBlock=some j→wz.heap.size≤j∧j<wr.heap.size) (λj a=>KR.o.lt j a)
       have ab:=J (b3.obj aI.o (λe=>by have:=(NT.o _ e).1;have:=QL.o;omega))
       have cB:c.cell? ⟨G,2,none⟩=some (.slice q n r):=by have:=zq ab.o 2 _ rfl;simpa using this
       have fB:=yl (i:=2) ab.o
       have fs:Fr (λj=>j=G) c (c.setCell ⟨G,2,none⟩ (.slice T (n+1) W)):=(Fr.refl (λj=>j=G) c).setCell ⟨G,2,none⟩ (.inr rfl) _
       have aH:=J (heap_setCell_same c G 2 _ _ (.slice T (n+1) W) ab.o)
       have bo:=J (bn.o.fr fs (λj _ e=>by rw[e];exact QL.o) (λj a e=>by
        rcases b4 j a with h|h
        ·have:=(NT.o _ h).1;have:=QL.o;omega
        ·have:=ae.o.size;have:=bw.o.1;have:=aC.o.size;omega))
       have aB:=@J (Fr (λj=>j=G) wz (c.setCell ⟨G,2,none⟩ (.slice T (n+1) W))) (((FR.o.trans0 ae.o).trans b3 (λj a e=>by have:=(NT.o _ e).1;omega)).trans fs (λj _ e=>e))
       clear b1 Q b3 b4 fs ai
       have⟨K0,K1,K2⟩:=tZ3
       go_wp2_with (((with_reducible refine zt ?_);first|(clear K0;refine zn1 rfl rfl rfl RU.o rfl ?_)|(clear K1;refine zg rfl (zU (t:=23) rfl rfl zd1 zeJ rfl (by decide) (by decide) rfl) ?_)|(clear K2;at_builtin;refine zR rfl rfl rfl rfl B1.o ?_));go_frame)
       go_roundw
       case rel=>exact⟨n+1,by go_num,by omega,_,_,aH.o,bo.o,aB.o⟩
       case measure=>simp[intOf];omega
   ·have aj:n=b.txs.length:=by omega
    have i1:¬(n:Int)<(b.txs.length:Int):=by omega
    have R6:=J (zq az.o)
    have BZ:=J (FR.o.obj bc.o (λe=>by have:=QD.o;have:=Z2.o;omega))
    have bl:=@J (∀V:Nat→Prop,(∀j,V j→j<w2.heap.size)→Kept V wr (λw=>jB w b [.int .u64 b.tag,.slice l b.pay.length o,.slice q n r])) (λV hV w' f=>by
     have k1:jN wz.heap.size 34 3 TxQ (λj=>j<wz.heap.size) wr (.slice q n r) b.txs css:=by have:=KR.o;rw[aj,take_length] at this;rw[aj];exact this
     have k2:=k1.rows (U:=V) (by decide) (by unfold maxLen;omega) (λj a e=>by have:=hV j e;have:=QD.o;have:=QL.o;omega) (λj a e=>by have:=(k1.lt j a).1;have:=hV j e;have:=QD.o;have:=QL.o;omega) w' f
     have k3:=XN (V:=V) (zb OP.o FR.o (λj a e=>NQ.o j a e)) HO.o.1 hV w' f
     exact⟨l,o,q,r,by rw[aj];rfl,HV.o,k3,by rw[aj] at k2;exact k2⟩)
    clear aj
    have⟨K0,K1⟩:=tZ2
    go_wp2_with ((first|((with_reducible refine zt ?_);clear K0;refine zn5 rfl rfl rfl R6.o rfl ?_)|((with_reducible refine zv ?_);clear K1;refine zi rfl (zK (ty:=55) (b:=w.heap.size+1) (off:=0) (cs:=[.int .u64 b.tag,.slice l b.pay.length o,.slice q n r]) rfl rfl rfl (zV BZ.o (le_refl 3)) JQ (qM rfl rfl rfl)) ?_));go_frame)
    have BE:=ZL (cs:=[.int .u64 b.tag,.slice l b.pay.length o,.slice q n r]) BZ.o rfl
    have fE:=zu (w.heap.size+1) [.int .u64 b.tag,.slice l b.pay.length o,.slice q n r] 0 wr
    refine bodyPost_ret (v:=.agg [.int .u64 b.tag,.slice l b.pay.length o,.slice q n r].toArray) (results_cell_row (P:=prog) (fn:=Tryz.f95) rfl _ _ (w.heap.size+1) 55 _ (0,0) _ rfl BE Tryz.underlying55 rfl JQ) rfl ⟨_,rfl,(F2.o.trans0 FW.o).trans fE (λi hi e=>by omega),λV hV w' f=>bl.o (λj=>V j∨j=w.heap.size+1) (λj a=>by have:=Z2.o;rcases a with a|a;have:=hV j a;omega;omega) w' ((fE.mono (λj a=>.inr a)).trans (f.mono (λj a=>.inl a)) (λ_ _ h=>h))⟩
theorem Zu:prog.underlying 120=some (.map 41 3):=by kernel_rfl
theorem Vw {w:World} {q:Nat} {a b c d e:Value} (h:w.rangeAt q 0 [a,b,c,d,e]):w.cell? ⟨q,0,none⟩=some a∧w.cell? ⟨q,1,none⟩=some b∧w.cell? ⟨q,2,none⟩=some c∧w.cell? ⟨q,3,none⟩=some d∧w.cell? ⟨q,4,none⟩=some e:=
 ⟨by simpa using h 0 _ rfl,by simpa using h 1 _ rfl,by simpa using h 2 _ rfl,by simpa using h 3 _ rfl,by simpa using h 4 _ rfl⟩
theorem zfU {V:Nat→Prop} {w:World} {d:yx} {a b c:Value} {k i:Option Addr} {n m l j:Nat} (h:Kept V w (λw=>jC w d [a,b,c,.slice k n l,.slice i m j])):n=d.ids.length∧m=d.chg.length∧Kept V w (λw=>y3 w (.slice k d.ids.length l) d.ids)∧Kept V w (λw=>zfD w (.slice i d.chg.length j) d.chg):=by
 have g:∀w',jC w' d [a,b,c,.slice k n l,.slice i m j]→n=d.ids.length∧m=d.chg.length∧y3 w' (.slice k d.ids.length l) d.ids∧zfD w' (.slice i d.chg.length j) d.chg:=by
  rintro w' ⟨bcs,x,y,o,p,e,u,hi,v⟩
  obtain⟨z,A,B,C,rfl⟩:=u.form
  simp only[List.cons_append,nil_append,List.cons.injEq,and_true] at e
  obtain⟨-,-,-,q,r⟩:=e
  injection q with e11 e12 e13
  injection r with e21 e22 e23
  subst e11;subst e13;subst e21;subst e23
  exact⟨e12,e22,hi,v⟩
 obtain⟨s,t,-,-⟩:=g w h.now
 exact⟨s,t,λw' f=>(g w' (h w' f)).2.2.1,λw' f=>(g w' (h w' f)).2.2.2⟩
theorem qT.setM {g w w':World} {p s b:Nat} {U:Nat→Prop} {c:Value} {css:List (List Value)} {D:ChD} (h:qT g w p s U b c css D) {M':List (zd×Int)} (m:ziK w' b M') (f:Fr (λj=>j=b) w w'):qT g w' p s U b c css ⟨D.S,D.bs,M'⟩:=
 {h with
  obj:=f.obj h.obj h.pm
  set:=h.set.frV f (λj a e=>h.um (e▸a)) (λj e=>by have:=h.lo2;omega)
  row:=zb h.row f (λj a e=>(h.rn j a).2.1 e)
  data:=λi d cs k l=>(h.data i d cs k l).same (f.mono (λj a=>.inr (.inr (.inl a))))
  map:=m}
theorem zdj.len {w:World} {x:YE} {cs:List Value} (h:zdj w x cs):cs.length=2:=by
 obtain⟨a,b,c,d,rfl,_⟩:=h
 rfl
theorem zfw {T w:World} {p s g:Nat} {U:Nat→Prop} {i:Value} {css:List (List Value)} {D:ChD} (h:qT T w p s U g i css D) {d:yx} {cs:List Value} (hd:Kept (chV p U g i) w (λw=>jC w d cs)) (hN:D.S.length+Jc d.chg≤100000) (hC:d.chg.length≤100000) (hI:d.ids.length≤100000):
  Calls prog 97 #[.pointer (some ⟨p,0,none⟩),.agg cs.toArray] w λe w'=>e=.returned (.tuple #[])∧∃M',qT T w' p s U g i css ⟨xU d.chg D.S,D.bs,M'⟩∧(∀x v,(x,v)∈M'↔x∉d.ids∧(x,v)∈D.M)∧M'.length≤D.M.length∧Fr (chV p U g i) w w':=by
 obtain⟨pa,pc,ta,tc,ia,ic,R,z,rfl⟩:=hd.now.form
 obtain⟨-,-,ki,kc⟩:=zfU hd
 have zH:=yR
 have f1:=(frN w).alloc (.cells #[.int .u64 d.blk.tag,.slice pa d.blk.pay.length pc,.slice ta d.blk.txs.length tc,.slice ia d.ids.length ic,.slice R d.chg.length z] 207)
 have F1:=J f1
 have H1:=J (h.fr0 f1)
 have KI:=J (ki.same f1.of0)
 have KC:=J (kc.same f1.of0)
 obtain⟨-,-,-,x3,x4⟩:=Vw (zy w [.int .u64 d.blk.tag,.slice pa d.blk.pay.length pc,.slice ta d.blk.txs.length tc,.slice ia d.ids.length ic,.slice R d.chg.length z] 207)
 have X3:=J x3
 have X4:=J x4
 have NV:=@J (¬chV p U g i w.heap.size) (λe=>by have:=h.hi _ e;omega)
 have aA:(w.alloc (.cells #[.int .u64 d.blk.tag,.slice pa d.blk.pay.length pc,.slice ta d.blk.txs.length tc,.slice ia d.ids.length ic,.slice R d.chg.length z] 207)).cell? ⟨w.heap.size,4,none⟩=some (.slice R d.chg.length z):=x4
 have HU:=@J (∀j,U j→chV p U g i j) (λj r=>.inr (.inl r))
 have PI:(d.chg.length:Int)-1=zg2 d.chg.length:=by cases d.chg.length with|zero=>rfl|succ n=>show((n+1:Nat):Int)-1=(n:Int);omega
 have HM:=@J (chV p U g i g) (.inr (.inr (.inl rfl)))
 clear h hd ki kc x3 x4 f1
 show Calls prog 97 #[.pointer (some ⟨p,0,none⟩),.agg #[.int .u64 d.blk.tag,.slice pa d.blk.pay.length pc,.slice ta d.blk.txs.length tc,.slice ia d.ids.length ic,.slice R d.chg.length z]] w _
 go_enter Tryz.func97,Tryz.ntmps97
 go_wp2_with fail
 generalize w.alloc (.cells #[.int .u64 d.blk.tag,.slice pa d.blk.pay.length pc,.slice ta d.blk.txs.length tc,.slice ia d.ids.length ic,.slice R d.chg.length z] 207)=w1 at*
 generalize w.heap.size=q0 at*
 clear aA
 go_loopw [4] (λL wr=>∃k:Nat,L=.int .i64 (zg2 k)∧k≤d.chg.length∧qT T wr p s U g i css ⟨xU (d.chg.drop k) D.S,D.bs,D.M⟩∧Fr (chV p U g i) w1 wr) (λL _=>(intOf L+1).toNat)
 case atStart=>exact⟨d.chg.length,rfl,le_refl _,by rw[List.drop_length];exact H1.o,Fr.refl _ _⟩
 case round=>
  obtain⟨k,rfl,hk,o,fr⟩:=hrel
  have V:=J fr
  have E:=J o
  clear fr o PI
  cases k with
  |succ m=>
   have q:zg2 (m+1)=(m:Int):=rfl
   rw[q]
   clear q
   have i1:(0:Int)≤(m:Int):=by omega
   obtain⟨c,u⟩:∃x,d.chg[m]? =some x:=⟨_,getElem?_eq_getElem (by omega)⟩
   have i2:(m:Int)<(d.chg.length:Int):=by omega
   have i3:(0:Int)≤(m:Int):=by omega
   have TN:=J (zkm u)
   have SN:=J (zgw D.S u)
   have UL:=J (zdd (d.chg.drop (m+1)) D.S)
   have ao:=J (KC.o.same V.o)
   obtain⟨b,off,aw,aB,hv,az,⟨P,Q,N,O,af,-⟩,ag⟩:=Vy (by decide) (λ_ _ _ h=>h.len) ao.o u
   cases hv
   subst af
   have KP:=@J (Kept (chV p U g i) wr (λw=>(w.cell? ⟨b,off+m*2,none⟩=some (.slice P c.took.length Q)∧w.cell? ⟨b,off+m*2+1,none⟩=some (.slice N c.made.length O))∧q9 w (.slice P c.took.length Q) c.took∧xN w (.slice N c.made.length O) c.made)) (λw' f=>by
    obtain⟨hr,aE,aF,aC,aD,e,q1,q2⟩:=ag w' f
    simp only[List.cons.injEq,and_true] at e
    obtain⟨e1,e2⟩:=e
    injection e1 with e11 _ e13
    injection e2 with e21 _ e23
    subst e11;subst e13;subst e21;subst e23
    exact⟨⟨hr 0 _ rfl,hr 1 _ rfl⟩,q1,q2⟩)
   have FD:=J (frN wr).drew
   have G:=J (E.o.fr0 FD.o)
   have I:=J (KP.o.same FD.o.of0)
   have P0:=J G.o.cells.1
   have av:=J ((V.o.trans0 FD.o).cell X4.o NV.o)
   have ak:=J (V.o.trans0 FD.o)
   have TK:=J (zkk G.o.set I.o.now.2.2 (show c.made.length+(xU (d.chg.drop (m+1)) D.S).length≤100000 by have:=TN.o;have:=UL.o;omega))
   have ar:=J (λ(w':World) (S:List zr) (h:CS T w' s U S) (v:Value) (l:List zr) (hl:q9 w' v l) (hn:l.length+S.length≤100000)=>zg3 h hl hn)
   have TL:=J (zda (xU (d.chg.drop (m+1)) D.S) c.made)
   clear ag u az
   generalize xU (d.chg.drop (m+1)) D.S=S1 at*
   go_wp2_with fail
   refine wrLx [ff,ff,ff,ff,ff,ff,ff,ff,ff,ff,tt] (λw'=>w'.cell? ⟨p,0,none⟩=some (.pointer (some ⟨s,0,none⟩))∧w'.cell? ⟨q0,4,none⟩=some (.slice (some ⟨b,off,none⟩) d.chg.length z)∧w'.cell? ⟨b,off+m*2+1,none⟩=some (.slice N c.made.length O)) ?_ (λK hK=>?_)
   ·exact⟨P0.o,av.o,I.o.now.1.2⟩
   generalize wr.drew=z1 at*
   repeat((first|(refine zj rfl ?_;constructor;constructor;(focus(first|(rintro w' ⟨s1,s2,s3⟩;go_simp;(try with_reducible rfl);done))))|(refine zl rfl ?_));try simp only[Act.put,pA,pB,pC])
   (refine zE rfl (λK' hK'=>?_))
   go_simp
   refine TK.o.mono ?_
   rintro e w2 ⟨x,rfl,-,A,f2⟩
   have W:=J (G.o.setS A f2)
   have F2:=@J (Fr (chV p U g i) w1 w2) (ak.o.trans (f2.mono (λj r=>HU.o j r)) (λ_ _ h=>h))
   have ab:=J (I.o.same (f2.mono (λj r=>HU.o j r)))
   clear A f2
   refine nXt hK' ?_ λhS=>?_
   ·exact⟨W.o.cells.1,F2.o.cell X4.o NV.o,ab.o.now.1.2⟩
   try simp only[Act.put,pA,pB,pC]
   refine zL (hK.out _ _ ?_)
   have FE:=J (frN w2).drew
   have F:=J (W.o.fr0 FE.o)
   have H:=J (ab.o.same FE.o.of0)
   have F3:=J (F2.o.trans0 FE.o)
   have au:=J (ar.o _ _ F.o.set _ _ H.o.now.2.1 (show c.took.length+(JD S1 c.made).length≤100000 by have:=TN.o;have:=UL.o;have:=TL.o;omega))
   go_wp2_with fail
   refine wrLx [ff,ff,ff,ff,ff,ff,ff,ff,ff,ff,tt] (λw'=>w'.cell? ⟨p,0,none⟩=some (.pointer (some ⟨s,0,none⟩))∧w'.cell? ⟨q0,4,none⟩=some (.slice (some ⟨b,off,none⟩) d.chg.length z)∧w'.cell? ⟨b,off+m*2,none⟩=some (.slice P c.took.length Q)) ?_ (λK hK=>?_)
   ·exact⟨F.o.cells.1,F3.o.cell X4.o NV.o,H.o.now.1.1⟩
   generalize w2.drew=z2 at*
   repeat((first|(refine zj rfl ?_;constructor;constructor;(focus(first|(rintro w' ⟨s1,s2,s3⟩;go_simp;(try with_reducible rfl);done))))|(refine zl rfl ?_));try simp only[Act.put,pA,pB,pC])
   (refine zE rfl (λK' hK'=>?_))
   go_simp
   refine au.o.mono ?_
   rintro e w4 ⟨rfl,B,f4⟩
   have X:=J (F.o.setS B f4)
   have F4:=@J (Fr (chV p U g i) w1 w4) (F3.o.trans (f4.mono (λj r=>HU.o j r)) (λ_ _ h=>h))
   have aq:=J (H.o.same (f4.mono (λj r=>HU.o j r)))
   clear B f4
   refine nXt hK' ?_ λhS=>?_
   ·exact⟨X.o.cells.1,F4.o.cell X4.o NV.o,aq.o.now.1.1⟩
   try simp only[Act.put,pA,pB,pC]
   refine zL (hK.out _ _ ?_)
   go_wp2_with fail
   go_roundw
   case rel=>exact⟨m,congrArg (Value.int .i64) (by cases m with|zero=>rfl|succ n=>show((n+1:Nat):Int)-1=(n:Int);omega),by omega,by rw[SN.o];exact X.o,F4.o⟩
   case measure=>show((m:Int)-1+1).toNat<((m:Int)+1).toNat;omega
  |zero=>
   have q:zg2 0= -1:=rfl
   rw[q]
   have c3:=V.o.cell X3.o NV.o
   have al:=@J (qT T wr p s U g i css ⟨xU d.chg D.S,D.bs,D.M⟩) (E.o)
   clear q E
   go_wp2_with fail
   (try simp only[Exit.inBlock,Exit.then])
   clear c3
   go_loopw [40] (λL wq=>∃(n:Nat) (M:List (zd×Int)),L=.int .i64 n∧n≤d.ids.length∧qT T wq p s U g i css ⟨xU d.chg D.S,D.bs,M⟩∧(∀x v,(x,v)∈M↔x∉d.ids.take n∧(x,v)∈D.M)∧M.length≤D.M.length∧Fr (chV p U g i) w1 wq) (λL _=>d.ids.length-(intOf L).toNat)
   case atStart=>exact⟨0,D.M,rfl,zero_le _,al.o,by simp,le_refl _,V.o⟩
   case round=>
    obtain⟨n,M,rfl,hn,o,hM,aj,fr⟩:=hrel
    have FQ:=J fr
    have E:=J o
    have aa:=J hM
    have Z:=J aj
    clear fr o hM aj
    by_cases ax:n<d.ids.length
    ·have i1:(n:Int)<(d.ids.length:Int):=by omega
     obtain⟨x,u⟩:∃x,d.ids[n]? =some x:=⟨_,getElem?_eq_getElem ax⟩
     have KQ:=KI.o wr FQ.o
     have ad:=J (KQ.1 x (mem_of_getElem? u))
     obtain⟨b,off,aw,hv,hr,-⟩:=KQ.at_ u
     cases hv
     have R1:=J hr
     have HL:=J (zx ad.o)
     have FA:=J ((frN wr).alloc (.cells (zf x).toArray 41))
     have RX:=J (zy wr (zf x) 41)
     have TK:=@J (∀y,y∉d.ids.take (n+1)↔y∉d.ids.take n∧y≠x) (λy=>by
      rw[take_add_one,u]
      simp)
     clear hr u KQ
     go_wp2_with (first|(refine zn3 rfl rfl rfl R1.o HL.o ?_)|(refine zob (w:=wr) (cs:=zf x) rfl rfl rfl rfl HL.o zS ?_))
     have FZ:=J (FA.o.trans0 (frN (wr.alloc (.cells (zf x).toArray 41))).drew)
     have HZ:=J (E.o.fr0 FZ.o)
     have RZ:=J (za RX.o (frN (wr.alloc (.cells (zf x).toArray 41))).drew _root_.id)
     refine wrLx [ff,ff,ff,ff,ff,tt] (λw'=>w'.cell? ⟨p,2,none⟩=some (.map (some g))∧w'.rangeAt wr.heap.size 0 (zf x)) ?_ (λK hK=>?_)
     ·exact⟨HZ.o.cells.2.2,RZ.o⟩
     generalize (wr.alloc (.cells (zf x).toArray 41)).drew=z1 at*
     obtain⟨w5,M5,C,ai,ae,t,ah⟩:=HZ.o.map.del xT.keyed Zu (λ_ _=>yY) (yq ad.o) 0 41
     have an:=J C
     have Y:=J (HZ.o.setM ai t.fr)
     have F5:=@J (Fr (chV p U g i) w1 w5) ((FQ.o.trans0 FZ.o).trans t.fr (λj r e=>by subst e;exact HM.o))
     have ME:=@J (∀y v,(y,v)∈M5↔y∉d.ids.take (n+1)∧(y,v)∈D.M) (λy v=>by
      rw[ae y v,aa.o,TK.o]
      exact⟨λ⟨a,b,c⟩=>⟨⟨b,a⟩,c⟩,λ⟨⟨b,a⟩,c⟩=>⟨a,b,c⟩⟩)
     have ML:=J (Nat.le_trans ah Z.o)
     have R5:=J (za RZ.o t.fr (λe=>by have:=E.o.map.lt;omega))
     clear C ai ae t ah
     repeat((first|(refine zj rfl ?_;constructor;constructor;(focus(first|exact zn7 rfl (λw h=>h.2) HL.o|(rintro w' ⟨s1,s2⟩;go_simp;(try with_reducible rfl);done))))|(refine zl rfl ?_));try simp only[Act.put,pA,pB,pC])
     (refine zE rfl (λK' hK'=>?_))
     refine yj (jE rfl rfl rfl an.o) ?_
     refine nXt hK' ?_ λhS=>?_
     ·exact⟨Y.o.cells.2.2,R5.o⟩
     try simp only[Act.put]
     refine zL (hK.out _ _ ?_)
     go_wp2_with fail
     go_roundw
     case rel=>exact⟨n+1,M5,by go_num,by omega,Y.o,ME.o,ML.o,F5.o⟩
     case measure=>simp[intOf];omega
    ·have ay:n=d.ids.length:=by omega
     have i1:¬(n:Int)<(d.ids.length:Int):=by omega
     have HE:=@J (∀x v,(x,v)∈M↔x∉d.ids∧(x,v)∈D.M) (by
      have:=aa.o
      rw[ay,take_length] at this
      exact this)
     go_wp2
     refine bodyPost_end (results_none rfl _ _ _) rfl ?_
     exact⟨rfl,M,E.o,HE.o,Z.o,F1.o.of0.trans FQ.o (λ_ _ h=>h)⟩
def znj (w0 w:World) (p s mi:Nat) (U:Nat→Prop) (bv:Value) (css:List (List Value)) (D:ChD) (dq:Nat) (T:Nat→Prop) (b:qA) (E:Int) (S:List zr) (M:List (zd×Int)) (d:yx) (e:Ending) (w':World):Prop:=
 e=.returned (.int .i64 E)∧qT w0 w' p s U mi bv css ⟨S,D.bs,M⟩∧Fr (λj=>chV p U mi bv j∨j=dq) w w'∧d.blk=b∧
  ∃cs,w'.heap[dq]? =some (.cells cs.toArray 207 (0,0))∧Kept (λj=>chV p U mi bv j∨T j) w' (λw=>jC w d cs)
def zec (n:Nat) (M M':List (zd×Int)) (ids:List zd):Prop:=(∀x v,(x,v)∈M'↔(x,v)∈M∨(x∈ids∧v=((n:Int)+1)))∧∀x∈ids,∀v,(x,v)∉M
def DoC (X:Nat→Prop) (w0:World) (p s mi:Nat) (U:Nat→Prop) (bv:Value) (css:List (List Value)) (D:ChD) (b:qA) (R:DoR):Prop:=
 ∀(w:World) (dq:Nat) (bcs:List Value),qT w0 w p s U mi bv css D→w.heap[dq]? =some (.cells (bcs++[Value.slice none 0 0,Value.slice none 0 0]).toArray 207 (0,0))→¬chV p U mi bv dq→w0.heap.size≤dq→
  (∀j,X j→j<w.heap.size)→Kept (λj=>chV p U mi bv j∨(j=dq∨X j)) w (λw=>jB w b bcs)→vD b=true→
  (∀(i:Nat) (d:yx) (cs:List Value),D.bs[i]? =some d→css[i]? =some cs→Kept (λj=>chV p U mi bv j∨j=dq) w (λw=>jC w d cs))→
  Calls prog 96 #[.pointer (some ⟨p,0,none⟩),.pointer (some ⟨dq,0,none⟩)] w λe w'=>∃M',zec D.bs.length D.M M' R.d.ids∧znj w0 w p s mi U bv css D dq (λj=>j=dq∨X j) b R.E R.S M' R.d e w'
def zma (X:Nat→Prop) (w0 w:World) (p s mi:Nat) (U:Nat→Prop) (D:ChD) (bv:Value) (css:List (List Value)) (R:DoR) (e:Ending) (w':World):Prop:=
 e=.returned (.int .i64 R.E)∧Fr (chV p U mi bv) w w'∧(R.E=0→∃bv' css' M',qT w0 w' p s U mi bv' css' ⟨R.S,D.bs++[R.d],M'⟩∧zec D.bs.length D.M M' R.d.ids∧(∀j,bv'.ownBlock=some j→bv.ownBlock=some j∨w.heap.size≤j)∧∃csd,css'=css++[csd]∧Kept (λj=>chV p U mi bv' j∨X j) w' (λw=>jC w R.d csd))∧
  (R.E≠0→∃M',qT w0 w' p s U mi bv css ⟨xU R.d.chg R.S,D.bs,M'⟩∧∀x v,(x,v)∈M'↔(x,v)∈D.M)
def Xa (D:ChD) (b:qA):Int:=if 1024≤D.bs.length then 18 else if vD b=true then(if b.pay.any vS=true then 11 else 0) else 5
theorem zer:∃d,prog.underlying 207=some d∧d.isRow=true:=vK (by kernel_rfl)
theorem ZF:(prog.info? 207).map (·.size)=some 5:=by kernel_rfl
def zfT:List Value:=[.int .u64 0,.slice none 0 0,.slice none 0 0,.slice none 0 0,.slice none 0 0]
theorem zfB (w:World):(zeroValue 207).run prog w=.ok (.agg zfT.toArray) w:=by kernel_rfl
theorem zfv:prog.underlying 165=some (.slice 207):=by kernel_rfl
theorem zhN:(prog.info? 207).map (λi=>(i.zero,i.size,i.bytes))=some (some (.agg zfT.toArray),5,104):=by kernel_rfl
theorem zf5:(prog.info? 207).map (λi=>(i.zero,i.size))=some (some (.agg zfT.toArray),5):=by kernel_rfl
theorem zgI (t:Int) (a b:Option Addr) (n m c d:Nat) (w:World):(Instr.build 207 #[(0,.agg #[.int .u64 t,.slice a n c,.slice b m d])]).run prog w=.ok (.agg [.int .u64 t,.slice a n c,.slice b m d,.slice none 0 0,.slice none 0 0].toArray) w:=by kernel_rfl
theorem zen {w0 w:World} (hg:vj w0) {p s mi:Nat} {U:Nat→Prop} {bv:Value} {css:List (List Value)} {D:ChD} (h:qT w0 w p s U mi bv css D) {b:qA} {cs:List Value} (G:jB w b cs) (hl:D.bs.length≤100000) (c:Xa D b≠0):
  Calls prog 51 #[.pointer (some ⟨p,0,none⟩),.agg cs.toArray] w λe w'=>e=.returned (.int .i64 (Xa D b))∧Fr No w w':=by
 have HB:=J G
 obtain⟨t,u,M,N,rfl⟩:=G.form
 have zH:=yR
 have zo:=xm
 have l:=J ((frN w).alloc (.cells #[.int .u64 b.tag,.slice t b.pay.length u,.slice M b.txs.length N] 55))
 have A:=J (h.fr0 l.o)
 have c1:=A.o.cells.2.1
 obtain⟨ba,bc,W⟩:=h.row.slice.arg.form
 rw[W] at c1
 obtain⟨x0,x1,x2,xr⟩:=J1 w (.int .u64 b.tag) (.slice t b.pay.length u) (.slice M b.txs.length N) 55
 have X1:=J x1
 have XR:=J xr
 have O:=J (zaa ((hg.keep0 h.fr).keep0 l.o) (HB.o.keep l.o))
 have B:=J (zx (za2 b))
 clear h G x0 x1 x2 xr hg A
 show Calls prog 51 #[.pointer (some ⟨p,0,none⟩),.agg #[.int .u64 b.tag,.slice t b.pay.length u,.slice M b.txs.length N]] w _
 by_cases h1024:1024≤D.bs.length
 ·have q:=@J (Xa D b=18) (by simp[Xa,h1024])
  have j1:decide ((1024:Int)≤(D.bs.length:Int))=true:=by simp;omega
  clear c h1024
  go_enter Tryz.func51,Tryz.ntmps51
  go_wp2
  go_ret
  exact⟨by rw[q.o];rfl,l.o⟩
 have j1:decide ((1024:Int)≤(D.bs.length:Int))=false:=by simp;omega
 by_cases hok:vD b=true
 rotate_left
 ·have f:vD b=false:=by simpa using hok
  have q:=@J (Xa D b=5) (by simp[Xa,h1024,f])
  have S:=J (za3 f)
  rw[S.o.1] at O
  clear c h1024 hok f
  go_enter Tryz.func51,Tryz.ntmps51
  have⟨i,j,T⟩:=tZ3
  go_wp2_with ((first|((with_reducible refine zt ?_);clear i;refine zn5 rfl rfl rfl XR.o rfl ?_;generalize w.alloc (.cells #[.int .u64 b.tag,.slice t b.pay.length u,.slice M b.txs.length N] 55)=w1 at*)|(clear j;go_at_call 94;refine O.o.mono ?_;rintro e v ⟨rfl,E⟩;have F2:=J (l.o.trans0 E);clear E;have F3:=J (F2.o.trans0 ((frN v).alloc (.cells (zf (ZT b)).toArray 41))))|((with_reducible refine zv ?_);clear T;refine zob (w:=v) (cs:=zf (ZT b)) rfl rfl rfl rfl B.o zS ?_));go_frame)
  go_ret
  exact⟨by rw[q.o];rfl,F3.o⟩
 have d:b.pay.any vS=true:=by
  cases G:b.pay.any vS with
  |true=>rfl
  |false=>exact absurd (show Xa D b=0 by simp[Xa,h1024,hok,G]) c
 have q:=@J (Xa D b=11) (by simp[Xa,h1024,hok,d])
 have S:=J (Va hok)
 rw[S.o.1] at O
 have p8:b.pay.length≤8:=by
  have:=hok
  simp only[vD,Bool.and_eq_true,decide_eq_true_eq] at this
  exact this.1
 have z:=J d
 clear c h1024 hok d
 go_enter Tryz.func51,Tryz.ntmps51
 have⟨i,j,T⟩:=tZ3
 go_wp2_with ((first|((with_reducible refine zt ?_);clear i;refine zn5 rfl rfl rfl XR.o rfl ?_;generalize w.alloc (.cells #[.int .u64 b.tag,.slice t b.pay.length u,.slice M b.txs.length N] 55)=w1 at*)|(clear j;go_at_call 94;refine O.o.mono ?_;rintro e v ⟨rfl,E⟩;have Q:=J E;clear E;have g:=J (Q.o.trans0 ((frN v).alloc (.cells (zf (ZT b)).toArray 41))))|((with_reducible refine zv ?_);clear T;refine zob (w:=v) (cs:=zf (ZT b)) rfl rfl rfl rfl B.o zS ?_;generalize v.alloc (.cells (zf (ZT b)).toArray 41)=w3 at*;have ab:=g.o.cell X1.o id));go_frame)
 have C:=@J (xy w3 (.slice t b.pay.length u) b.pay) (by
  obtain⟨ae,af,ag,ah,e,_,ho,_⟩:=HB.o
  simp only[zhp,List.cons.injEq,and_true] at e
  obtain⟨-,e1,-⟩:=e
  injection e1 with e11 _ e13
  subst e11;subst e13
  exact(ho.keep l.o).keep g.o)
 clear ab
 go_loopw [30] (λiv wr=>∃n:Nat,iv=.int .i64 n∧n≤b.pay.length∧(∀x∈b.pay.take n,vS x=false)∧Fr No w3 wr) (λiv _=>b.pay.length-(intOf iv).toNat)
 case atStart=>exact⟨0,rfl,zero_le _,by simp,Fr.refl _ _⟩
 case round=>
  obtain⟨n,rfl,hn,m,fr⟩:=hrel
  have FR:=J fr
  have AL:=J m
  clear fr m
  by_cases X:n<b.pay.length
  ·have i1:(n:Int)<(b.pay.length:Int):=by omega
   obtain⟨x,P⟩:∃x,b.pay[n]? =some x:=⟨_,getElem?_eq_getElem X⟩
   obtain⟨bb,off,ad,hv,hr,-⟩:=(C.o.keep FR.o).at_ P
   cases hv
   have o:=C.o.1 x (mem_of_getElem? P)
   have V:=J hr
   have r:=J (yr o)
   have R:=J (FR.o.trans0 ((frN wr).alloc (.cells (zJ x).toArray 103)))
   have n1:=(YQ wr o).1
   have HX:=J P
   clear hr o P
   by_cases hbx:vS x=true
   ·have Z:x.value=0∨(x.value≠0∧1125899906842624<x.value):=by
     simp only[vS,Bool.or_eq_true,decide_eq_true_eq] at hbx
     by_cases h:x.value=0
     ·exact .inl h
     ·exact .inr ⟨h,hbx.resolve_left h⟩
    clear hbx
    rcases Z with K|⟨K,L⟩
    ·have H:(x.value==0)=true:=by simpa using K
     clear K
     have⟨i,j⟩:=tZ2
     go_wp2_with ((first|((with_reducible refine zt ?_);clear i;refine zn2 rfl rfl rfl V.o r.o ?_)|((with_reducible refine zv ?_);clear j;refine zoa (w:=wr) (cs:=zJ x) rfl rfl rfl rfl r.o yc ?_;generalize wr.alloc (.cells (zJ x).toArray 103)=wA at*));go_frame)
     go_ret
     exact⟨by rw[q.o];rfl,l.o.trans0 (g.o.trans0 R.o)⟩
    ·have H:(x.value==0)=false:=by simpa using K
     have aa:decide (1125899906842624<x.value)=true:=by simpa using L
     clear K L
     have⟨i,j⟩:=tZ2
     go_wp2_with ((first|((with_reducible refine zt ?_);clear i;refine zn2 rfl rfl rfl V.o r.o ?_)|((with_reducible refine zv ?_);clear j;refine zoa (w:=wr) (cs:=zJ x) rfl rfl rfl rfl r.o yc ?_;generalize wr.alloc (.cells (zJ x).toArray 103)=wA at*));go_frame)
     go_ret
     exact⟨by rw[q.o];rfl,l.o.trans0 (g.o.trans0 R.o)⟩
   ·have a:vS x=false:=by simpa using hbx
    have H:(x.value==0)=false:=by
     unfold vS at a
     rw[Bool.or_eq_false_iff] at a
     simpa using a.1
    have aa:decide (1125899906842624<x.value)=false:=by
     unfold vS at a
     rw[Bool.or_eq_false_iff] at a
     exact a.2
    have AN:=@J (∀y∈b.pay.take (n+1),vS y=false) (λy k=>by
     rw[take_add_one,HX.o] at k
     rcases mem_append.1 k with k|k
     ·exact AL.o y k
     ·simp at k;subst k;exact a)
    clear hbx a
    have⟨i,j⟩:=tZ2
    go_wp2_with ((first|((with_reducible refine zt ?_);clear i;refine zn2 rfl rfl rfl V.o r.o ?_)|((with_reducible refine zv ?_);clear j;refine zoa (w:=wr) (cs:=zJ x) rfl rfl rfl rfl r.o yc ?_;generalize wr.alloc (.cells (zJ x).toArray 103)=wA at*));go_frame)
    go_roundw
    case rel=>exact⟨n+1,by go_num,by omega,AN.o,R.o⟩
    case measure=>simp[intOf];omega
  ·have Y:n=b.pay.length:=by omega
   have i1:¬(n:Int)<(b.pay.length:Int):=by omega
   exfalso
   have F:=AL.o
   rw[Y,take_length] at F
   have hB:=z.o
   obtain⟨y,k,I⟩:=List.any_eq_true.1 hB
   rw[F y k] at I
   cases I
theorem zdt {w0 w:World} (hg:vj w0) {p s F:Nat} {U:Nat→Prop} {G:Value} {css:List (List Value)} {D:ChD} (h:qT w0 w p s U F G css D) {b:qA} {cs:List Value} (hb:jB w b cs) (M:Xa D b=0) {R:DoR}
  (ak:∀(w:World) (cs:List Value),jB w b cs→Calls prog 95 #[.agg cs.toArray] w (zlU w b)) {X:Nat→Prop} (hX:∀j,X j→j<w.heap.size) (aI:DoC X w0 p s F U G css D b R) (aK:R.S.length+Jc R.d.chg≤100000∧R.d.chg.length≤100000∧R.d.ids.length≤100000):
  Calls prog 51 #[.pointer (some ⟨p,0,none⟩),.agg cs.toArray] w (zma X w0 w p s F U D G css R):=by
 have H:¬1024≤D.bs.length:=λh=>by simp[Xa,h] at M
 have hok:vD b=true:=by
  cases hok:vD b with
  |true=>rfl
  |false=>simp[Xa,H,hok] at M
 have aj:b.pay.any vS=false:=by
  cases hb:b.pay.any vS with
  |false=>rfl
  |true=>simp[Xa,H,hok,hb] at M
 have HB:=J hb
 obtain⟨pa,pc,ta,tc,rfl⟩:=hb.form
 obtain⟨dD,uD,rD⟩:=zer
 have zH:=yR
 have zo:=xm
 have zD:=zfB
 have F1:=J ((frN w).alloc (.cells #[.int .u64 b.tag,.slice pa b.pay.length pc,.slice ta b.txs.length tc] 55))
 have HC:=J h
 have ay:=J (h.fr0 F1.o)
 have c1:=ay.o.cells.2.1
 obtain⟨ba,bc,ar⟩:=h.row.slice.arg.form
 rw[ar] at c1
 obtain⟨x0,x1,x2,xr⟩:=J1 w (.int .u64 b.tag) (.slice pa b.pay.length pc) (.slice ta b.txs.length tc) 55
 have X1:=J x1
 have XR:=J xr
 have ID:=J (zaa ((hg.keep0 h.fr).keep0 F1.o) (HB.o.keep F1.o))
 have aS:=J (zx (za2 b))
 have GE:=J (Va hok)
 rw[GE.o.1] at ID
 have j1:decide ((1024:Int)≤(D.bs.length:Int))=false:=by simp;omega
 have p8:b.pay.length≤8:=by
  have:=hok
  simp only[vD,Bool.and_eq_true,decide_eq_true_eq] at this
  exact this.1
 have ax:=J (List.any_eq_false.1 aj)
 have aC:=J hok
 have aD:=J ak
 have az:=J aI
 have ag:=J hX
 have an:=J aK
 have BL:=@J (D.bs.length<1024) (by omega)
 have E:=J ar
 clear h hb x0 x1 x2 xr hg hok aj H M ak aI aK ay ar hX
 show Calls prog 51 #[.pointer (some ⟨p,0,none⟩),.agg #[.int .u64 b.tag,.slice pa b.pay.length pc,.slice ta b.txs.length tc]] w _
 go_enter Tryz.func51,Tryz.ntmps51
 have⟨K0,K1,K2⟩:=tZ3
 go_wp2_with ((first|((with_reducible refine zt ?_);clear K0;refine zn5 rfl rfl rfl XR.o rfl ?_;generalize w.alloc (.cells #[.int .u64 b.tag,.slice pa b.pay.length pc,.slice ta b.txs.length tc] 55)=w1 at*)|(clear K1;go_at_call 94;refine ID.o.mono ?_;rintro e w2 ⟨rfl,f2⟩;have aO:=J f2;clear f2;have ab:=J (aO.o.trans0 ((frN w2).alloc (.cells (zf (ZT b)).toArray 41))))|((with_reducible refine zv ?_);clear K2;refine zob (w:=w2) (cs:=zf (ZT b)) rfl rfl rfl rfl aS.o zS ?_;generalize w2.alloc (.cells (zf (ZT b)).toArray 41)=w3 at*;have a8:=ab.o.cell X1.o id));go_frame)
 have aB:=@J (xy w3 (.slice pa b.pay.length pc) b.pay) (by
  obtain⟨bh,bj,bk,bl,e,_,ho,_⟩:=HB.o
  simp only[zhp,List.cons.injEq,and_true] at e
  obtain⟨-,e1,-⟩:=e
  injection e1 with e11 _ e13
  subst e11;subst e13
  exact(ho.keep F1.o).keep ab.o)
 clear a8
 go_loopw [30] (λiv wr=>∃n:Nat,iv=.int .i64 n∧n≤b.pay.length∧(∀x∈b.pay.take n,vS x=false)∧Fr No w3 wr) (λiv _=>b.pay.length-(intOf iv).toNat)
 case atStart=>exact⟨0,rfl,zero_le _,by simp,Fr.refl _ _⟩
 case round=>
  obtain⟨n,rfl,hn,ai,fr⟩:=hrel
  have FR:=J fr
  have AL:=J ai
  clear fr ai
  by_cases aZ:n<b.pay.length
  ·have i1:(n:Int)<(b.pay.length:Int):=by omega
   obtain⟨x,hx⟩:∃x,b.pay[n]? =some x:=⟨_,getElem?_eq_getElem aZ⟩
   obtain⟨bb,off,bd,hv,hr,-⟩:=(aB.o.keep FR.o).at_ hx
   cases hv
   have au:=aB.o.1 x (mem_of_getElem? hx)
   have R1:=J hr
   have IL:=J (yr au)
   have FA:=J (FR.o.trans0 ((frN wr).alloc (.cells (zJ x).toArray 103)))
   have n1:=(YQ wr au).1
   have HX:=J hx
   clear hr au hx
   by_cases hbx:vS x=true
   ·exact absurd hbx (ax.o x (mem_of_getElem? HX.o))
   ·have g:vS x=false:=by simpa using hbx
    have bf:(x.value==0)=false:=by
     unfold vS at g
     rw[Bool.or_eq_false_iff] at g
     simpa using g.1
    have bg:decide (1125899906842624<x.value)=false:=by
     unfold vS at g
     rw[Bool.or_eq_false_iff] at g
     exact g.2
    have AN:=@J (∀y∈b.pay.take (n+1),vS y=false) (λy hy=>by
     rw[take_add_one,HX.o] at hy
     rcases mem_append.1 hy with hy|hy
     ·exact AL.o y hy
     ·simp at hy;subst hy;exact g)
    clear hbx g
    have⟨K0,K1⟩:=tZ2
    go_wp2_with ((first|((with_reducible refine zt ?_);clear K0;refine zn2 rfl rfl rfl R1.o IL.o ?_)|((with_reducible refine zv ?_);clear K1;refine zoa (w:=wr) (cs:=zJ x) rfl rfl rfl rfl IL.o yc ?_;generalize wr.alloc (.cells (zJ x).toArray 103)=wA at*));go_frame)
    go_roundw
    case rel=>exact⟨n+1,by go_num,by omega,AN.o,FA.o⟩
    case measure=>simp[intOf];omega
  ·have a6:n=b.pay.length:=by omega
   have i1:¬(n:Int)<(b.pay.length:Int):=by omega
   have FW:=J (F1.o.trans0 (ab.o.trans0 FR.o))
   have FO:=J (ab.o.trans0 FR.o)
   have aG:=J (za XR.o FO.o id)
   have aF:=J (aD.o wr _ (HB.o.keep FW.o))
   have ae:=J (HC.o.fr0 FW.o)
   clear AL a6
   by_cases hE:R.E=0
   rotate_left
   ·have aU:=J hE
    have e0:(R.E==0)=false:=by simpa using hE
    clear hE
    have⟨K0,K1,K2,K3,K4,K5,K6⟩:=tZ7
    go_wp2_with ((first|((with_reducible refine zt ?_);first|(clear K0;refine zn5 rfl rfl rfl aG.o rfl ?_)|(clear K2;refine zg rfl (yf (t:=207) rfl rfl (zgI _ _ _ _ _ _ _ _)) ?_)|(clear K5;refine zg rfl (zZ (ty:=207) rfl rfl (zq Q7.o) uD rD (by rw[List.toList_toArray,D5.o];exact ZF)) ?_))|(clear K1;go_at_call 95;refine aF.o.mono ?_;rintro e w5 ⟨aW,rfl,f5,I⟩;obtain⟨m,o,q,r,rfl⟩:=(I (λ_=>False) (λ_ h=>h.elim)).now.form;have K5:=J I;have F5:=J f5;have l:=J (ae.o.fr0 f5);clear I f5)|(clear K4;go_at_call 96;refine(az.o w6 dq [.int .u64 b.tag,.slice m b.pay.length o,.slice q b.txs.length r] (l.o.fr0 Q.o) B6.o (λe=>by have:=l.o.hi _ e;omega) (by have:=l.o.fr.size;omega) (λj c=>by have:=ag.o j c;have:=FW.o.size;have:=F5.o.size;have:=Q.o.size;omega) ((K5.o (λj=>chV p U F G j∨X j) (λj c=>c.elim (ae.o.hi j) (λe=>by have:=ag.o j e;have:=FW.o.size;omega))).step Q.o.of0 (λj c e=>e.imp_right (λe=>e.resolve_left (by omega)))) aC.o (λi d cs h1 O=>(l.o.data i d cs h1 O).step Q.o.of0 (λj c e=>e.resolve_right (by omega)))).mono ?_;rintro e w7 ⟨M7,aa,rfl,V,f7,T,A,Z,L⟩;have af:=J aa;have al:=J V;have F7:=J f7;have Q7:=J Z;have KD:=J L;have ad:=@J (Fr (chV p U F G) w w7) (((FW.o.trans0 F5.o).trans0 Q.o).of0.trans f7 (λj c e=>e.elim id (λe=>by have:=FW.o.size;have:=F5.o.size;omega)));obtain⟨Y,W⟩:=L.now.one;have D5:=J Y;have D1:=J W;clear aa V f7 T Z L Y W)|(clear K6;go_at_call 97;refine(zfw al.o (show Kept (chV p U F G) w7 (λw=>jC w R.d A) from λw' f=>KD.o w' (f.mono (λj c=>.inl c))) an.o.1 an.o.2.1 an.o.2.2).mono ?_;rintro e w8 ⟨rfl,M8,aH,aJ,-,f8⟩;have aR:=J aH;have aT:=J aJ;have F8:=@J (Fr (chV p U F G) w w8) (ad.o.trans f8 (λ_ _ h=>h));clear aH aJ f8)|((with_reducible refine zv ?_);clear K3;refine zi rfl (zm (w:=w5) (ty:=207) (cs:=[.int .u64 b.tag,.slice m b.pay.length o,.slice q b.txs.length r,.slice none 0 0,.slice none 0 0]) rfl rfl rfl rfl ZF (λu hu=>by simp only[mem_cons,not_mem_nil,or_false] at hu;rcases hu with rfl|rfl|rfl|rfl|rfl<;>rfl)) ?_;have Q:=J ((frN w5).alloc (.cells [.int .u64 b.tag,.slice m b.pay.length o,.slice q b.txs.length r,.slice none 0 0,.slice none 0 0].toArray 207));have B6:=J (ye w5 (.cells [.int .u64 b.tag,.slice m b.pay.length o,.slice q b.txs.length r,.slice none 0 0,.slice none 0 0].toArray 207));generalize w5.alloc (.cells [.int .u64 b.tag,.slice m b.pay.length o,.slice q b.txs.length r,.slice none 0 0,.slice none 0 0].toArray 207)=w6 at*;generalize aX:w5.heap.size=dq at*));go_frame)
    go_ret
    refine⟨rfl,F8.o,λh=>absurd h aU.o,λ_=>⟨M8,aR.o,λx v=>?_⟩⟩
    rw[aT.o,af.o.1]
    constructor
    ·rintro⟨h1,O|⟨O,h3⟩⟩
     ·exact O
     ·exact absurd O h1
    ·intro O
     exact⟨λh=>af.o.2 x h v O,.inl O⟩
   ·have aA:=J hE
    have e0:(R.E==0)=true:=by simpa using hE
    clear hE
    have⟨K0,K1,K2,K3,K4⟩:=tZ5
    go_wp2_with ((first|((with_reducible refine zt ?_);first|(clear K0;refine zn5 rfl rfl rfl aG.o rfl ?_)|(clear K2;refine zg rfl (yf (t:=207) rfl rfl (zgI _ _ _ _ _ _ _ _)) ?_))|(clear K1;go_at_call 95;refine aF.o.mono ?_;rintro e w5 ⟨aW,rfl,f5,I⟩;obtain⟨m,o,q,r,rfl⟩:=(I (λ_=>False) (λ_ h=>h.elim)).now.form;have K5:=J I;have F5:=J f5;have l:=J (ae.o.fr0 f5);clear I f5)|(clear K4;go_at_call 96;refine(az.o w6 dq [.int .u64 b.tag,.slice m b.pay.length o,.slice q b.txs.length r] (l.o.fr0 Q.o) B6.o (λe=>by have:=l.o.hi _ e;omega) (by have:=l.o.fr.size;omega) (λj c=>by have:=ag.o j c;have:=FW.o.size;have:=F5.o.size;have:=Q.o.size;omega) ((K5.o (λj=>chV p U F G j∨X j) (λj c=>c.elim (ae.o.hi j) (λe=>by have:=ag.o j e;have:=FW.o.size;omega))).step Q.o.of0 (λj c e=>e.imp_right (λe=>e.resolve_left (by omega)))) aC.o (λi d cs h1 O=>(l.o.data i d cs h1 O).step Q.o.of0 (λj c e=>e.resolve_right (by omega)))).mono ?_;rintro e w7 ⟨M7,aa,rfl,V,f7,T,A,Z,L⟩;have af:=J aa;have al:=J V;have F7:=J f7;have Q7:=J Z;have KD:=J L;have ad:=@J (Fr (chV p U F G) w w7) (((FW.o.trans0 F5.o).trans0 Q.o).of0.trans f7 (λj c e=>e.elim id (λe=>by have:=FW.o.size;have:=F5.o.size;omega)));obtain⟨Y,W⟩:=L.now.one;have D5:=J Y;have D1:=J W;clear aa V f7 T Z L Y W)|((with_reducible refine zv ?_);clear K3;refine zi rfl (zm (w:=w5) (ty:=207) (cs:=[.int .u64 b.tag,.slice m b.pay.length o,.slice q b.txs.length r,.slice none 0 0,.slice none 0 0]) rfl rfl rfl rfl ZF (λu hu=>by simp only[mem_cons,not_mem_nil,or_false] at hu;rcases hu with rfl|rfl|rfl|rfl|rfl<;>rfl)) ?_;have Q:=J ((frN w5).alloc (.cells [.int .u64 b.tag,.slice m b.pay.length o,.slice q b.txs.length r,.slice none 0 0,.slice none 0 0].toArray 207));have B6:=J (ye w5 (.cells [.int .u64 b.tag,.slice m b.pay.length o,.slice q b.txs.length r,.slice none 0 0,.slice none 0 0].toArray 207));generalize w5.alloc (.cells [.int .u64 b.tag,.slice m b.pay.length o,.slice q b.txs.length r,.slice none 0 0,.slice none 0 0].toArray 207)=w6 at*;generalize aX:w5.heap.size=dq at*));go_frame)
    have N:=J (frN w7).drew
    have a:=J (al.o.fr0 N.o)
    have Q9:=J (N.o.obj Q7.o id)
    have GR:=@J (w7.drew.rangeAt dq 0 A) (zq Q9.o)
    have CB:=@J (w7.drew.cell? ⟨p,1,none⟩=some (.slice ba D.bs.length bc)) (by rw[←E.o];exact a.o.cells.2.1)
    refine ym [ff,ff,ff,ff,ff,ff,tt,tt,ff,ff,tt] (λw'=>w'.cell? ⟨p,1,none⟩=some (.slice ba D.bs.length bc)∧w'.rangeAt dq 0 A) (by kernel_rfl) (by kernel_rfl) 10 (by kernel_rfl) (by kernel_rfl) ?_ (λK hK=>?_)
    ·exact⟨CB.o,GR.o⟩
    generalize w7.drew=z at*
    have ah:=@J (z.ownsRow w0.heap.size 207 5 (.slice ba D.bs.length bc) D.bs.length (css.flatMap id)) (by rw[←E.o];exact a.o.row)
    obtain⟨v5,w9,a1,a2,a3,a4,a5⟩:=yX (P:=prog) z w0.heap.size 165 165 207 5 104 _ zfv zhN rfl (by decide) ah.o A D5.o D1.o (by have:=BL.o;omega) (by have:=BL.o;unfold maxLen;omega) a.o.fr.size
    obtain⟨B,C,a7⟩:=a2.slice.arg.form
    subst a7
    have A1:=J a1
    have O9:=@J (w9.ownsRow w0.heap.size 207 5 (.slice B (D.bs.length+1) C) (D.bs++[R.d]).length ((css++[A]).flatMap id)) (by rw[length_append,flatMap_append];simpa using a2)
    have F9:=@J (Fr (chV p U F G) z w9) (a3.mono (λj e=>.inr (.inr (.inr (by rw[E.o];exact e)))))
    have N9:=@J (∀j,(Value.slice B (D.bs.length+1) C).ownBlock=some j→G.ownBlock=some j∨z.heap.size≤j) (λj c=>by rw[E.o];exact a5 j c)
    have aP:=J a3
    have aE:=J (a3.obj a.o.obj (λe=>(a.o.rn p (by rw[E.o];exact e)).1 rfl))
    have aN:=@J (dq≠p∧¬chV p U F G dq) (⟨λe=>by have:=yG l.o.obj;omega,λe=>by have:=l.o.hi _ e;omega⟩)
    have aQ:=J (za GR.o F9.o aN.o.2)
    clear a1 a2 a3 a4 a5
    have S:=aE.o
    rw[E.o] at S
    have aV:w9.cell? ⟨p,1,none⟩=some (.slice ba D.bs.length bc):=by have:=zq S 1 _ rfl;simpa using this
    have aM:=J aV
    have fz:=yl (i:=1) S
    have KS:=@J (∀w',Fr No z w'→w'.cell? ⟨p,1,none⟩=some (.slice ba D.bs.length bc)∧w'.rangeAt dq 0 A) (λw' f=>⟨f.cell CB.o id,za GR.o f id⟩)
    have fs:Fr (λj=>j=p) w9 (w9.setCell ⟨p,1,none⟩ (.slice B (D.bs.length+1) C)):=(Fr.refl (λj=>j=p) w9).setCell ⟨p,1,none⟩ (.inr rfl) _
    have FT:=@J (Fr (chV p U F G) z (w9.setCell ⟨p,1,none⟩ (.slice B (D.bs.length+1) C))) (F9.o.trans fs (λj _ e=>.inl e))
    have av:=@J (Fr (chV p U F G) w (w9.setCell ⟨p,1,none⟩ (.slice B (D.bs.length+1) C))) ((ad.o.trans0 N.o).trans FT.o (λ_ _ h=>h))
    have VV:=@J (∀j,j<z.heap.size→chV p U F (.slice B (D.bs.length+1) C) j→chV p U F G j) (λj c e=>by
     rcases e with e|e|e|e
     ·exact .inl e
     ·exact .inr (.inl e)
     ·exact .inr (.inr (.inl e))
     ·exact .inr (.inr (.inr ((N9.o j e).resolve_right (by omega)))))
    have aw:=@J (Fr (λj=>(Value.slice ba D.bs.length bc).ownBlock=some j∨j=p) z (w9.setCell ⟨p,1,none⟩ (.slice B (D.bs.length+1) C))) ((aP.o.mono (λj e=>.inl e)).trans fs (λj _ e=>.inr e))
    have aL:=@J (qT w0 (w9.setCell ⟨p,1,none⟩ (.slice B (D.bs.length+1) C)) p s U F (.slice B (D.bs.length+1) C) (css++[A]) ⟨R.S,D.bs++[R.d],M7⟩) ({
     obj:=by have:=heap_setCell_same w9 p 1 _ _ (.slice B (D.bs.length+1) C) aE.o;simpa using this
     set:=a.o.set.frV aw.o (λj c e=>e.elim (λe=>(a.o.rn j (by rw[E.o];exact e)).2.2 c) (λe=>a.o.up (e▸c))) (λj e=>e.elim (λe=>(ah.o.lt j e).1) (λe=>by have:=a.o.lo1;omega))
     row:=zb O9.o fs (λj c e=>(N9.o j c).elim (λh=>(a.o.rn j h).1 e) (λh=>by have:=yG a.o.obj;omega))
     cl:=by rw[length_append,length_append,a.o.cl];rfl
     c5:=λcs h=>(mem_append.1 h).elim (λh=>a.o.c5 cs h) (λh=>by simp at h;subst h;exact D5.o)
     data:=λi d cs h1 O=>by
      by_cases hi:i<D.bs.length
      ·have ao:D.bs[i]? =some d:=by rw[←h1];exact(getElem?_append_left hi).symm
       have aq:css[i]? =some cs:=by rw[←O];exact(getElem?_append_left (by rw[a.o.cl];exact hi)).symm
       exact(a.o.data i d cs ao aq).step FT.o (λj c e=>VV.o j c e)
      ·have aY:i=D.bs.length:=by have:=(List.getElem?_eq_some_iff.1 h1).1;simp only[length_append,length_singleton] at this;omega
       subst aY
       have ao:R.d=d:=by
        have:=h1
        simp only[List.getElem?_append_right (le_refl _),sub_self,List.getElem?_cons_zero,Option.some.injEq] at this
        exact this
       have aq:A=cs:=by
        have:=O
        rw[List.getElem?_append_right (by rw[a.o.cl];exact le_refl _),a.o.cl] at this
        simpa using this
       subst ao
       subst aq
       exact(KD.o.same N.o.of0).step (FT.o.mono (λj e=>.inl e)) (λj c e=>.inl (VV.o j c e))
     map:=a.o.map.keep aw.o (λe=>e.elim (λe=>(a.o.rn F (by rw[E.o];exact e)).2.1 rfl) (λe=>a.o.pm e.symm))
     pm:=a.o.pm
     up:=a.o.up
     um:=a.o.um
     rn:=λk hk=>(N9.o k hk).elim (λh=>a.o.rn k h) (λh=>⟨λe=>by have:=yG a.o.obj;omega,λe=>by have:=a.o.map.lt;omega,λe=>by have:=a.o.set.hi k e;omega⟩)
     lo1:=a.o.lo1
     lo2:=a.o.lo2})
    repeat((first|(refine z7 rfl ?_;constructor;constructor;(focus(first|exact yK (ty:=207) rfl (λw h=>h.2) uD rD (by rw[D5.o];exact ZF)|(rintro w' ⟨s1,s2⟩;go_simp;(try with_reducible rfl);done))))|(refine ya rfl ?_));try simp only[Act.put,pA,pB,pC])
    (refine z6 rfl (λK' hK'=>?_))
    refine yj (zU (t:=165) rfl rfl zfv zf5 rfl (by decide) (by decide) D5.o) ?_
    refine hK'.out _ _ (λ_=>?_) (λhS=>?_)
    ·exact KS.o _ ((frN z).alloc _)
    try simp only[Act.put,pA,pB,pC]
    (refine z6 rfl (λK' hK'=>?_))
    refine yw rfl rfl rfl A1.o ?_
    refine hK'.out _ _ (λ_=>?_) (λhS=>?_)
    ·exact⟨aM.o,aQ.o⟩
    try simp only[Act.put,pA,pB,pC]
    repeat((first|(refine z7 rfl ?_;constructor;constructor;(focus(first|(rintro w' ⟨s1,s2⟩;go_simp;(try with_reducible rfl);done))))|(refine ya rfl ?_));try simp only[Act.put,pA,pB,pC])
    (refine z6 rfl (λK' hK'=>?_))
    go_simp
    refine hK'.out _ _ (λh=>absurd rfl h) (λhS=>?_)
    refine xD (hK.out _ _ ?_)
    go_wp2_with fail
    go_ret
    exact⟨by rw[aA.o];rfl,av.o,λ_=>⟨_,_,M7,aL.o,af.o,λj c=>(N9.o j c).imp_right (λh=>Nat.le_trans (ad.o.trans0 N.o).size h),A,rfl,(KD.o.same N.o.of0).step (FT.o.mono (λj e=>.inl e)) (λj c e=>e.imp (λe=>VV.o j c e) .inr)⟩,λh=>absurd aA.o h⟩
theorem zkF (w:World):(Instr.build 55 #[]).run prog w=.ok (.agg Jv.toArray) w:=by kernel_rfl
theorem zi1:∀u∈Jv,u.oneCell'=true:=by
 intro u a
 simp only[Jv,mem_cons,not_mem_nil,or_false] at a
 rcases a with rfl|rfl|rfl<;>rfl
theorem zmP {w:World} {q:Nat} {T:TypeId} {a b c d e:Value} (h:w.heap[q]? =some (.cells [a,b,c,d,e].toArray T (0,0))):w.rangeAt q 0 [a,b,c]:=λj v f=>by
 refine zq h j v ?_
 match j,f with
 |0,f=>exact f
 |1,f=>exact f
 |2,f=>exact f
theorem zlc {w:World} {B m k g a:Nat} {T:TypeId} {A C:List Value} (h:w.ownsRow B T k (.slice (some ⟨g,0,none⟩) (m+1) a) (m+1) (A++C)) (f:A.length=m*k):w.ownsRow B T k (.slice (some ⟨g,0,none⟩) m a) m A:=by
 rcases h.2 with⟨e,_⟩|⟨p,d,b,e,i,j,q,l,n,o⟩
 ·cases e
 ·injection e with c e2 e3
  injection c with c
  injection c with c
  subst c
  subst e3
  refine⟨f,.inr ⟨g,a,b,rfl,i,j,by omega,l,n,?_⟩⟩
  have c:b.toList.take (m*k)=(b.toList.take ((m+1)*k)).take (m*k):=by rw[List.take_take,min_eq_left (Nat.mul_le_mul_right k (Nat.le_succ m))]
  rw[c,o,←f]
  simp
theorem zhB {o w:World} {p s l:Nat} {U:Nat→Prop} {j:Value} {css:List (List Value)} {D:ChD} (h:qT o w p s U l j css D) (k:D.bs=[]):
  Calls prog 53 #[.pointer (some ⟨p,0,none⟩)] w λe w'=>e=.returned (.tuple #[.agg Jv.toArray,.int .i64 9])∧Fr No w w':=by
 obtain⟨u,n,m⟩:=zgN
 have v:=YZ
 have d:=J ((frN w).alloc (.cells Jv.toArray 55))
 have c:=J (ye w (.cells Jv.toArray 55))
 obtain⟨q,r,a⟩:=h.row.slice.arg.form
 have c1:=(h.fr0 d.o).cells.2.1
 rw[a,k] at c1
 clear h a
 go_enter Tryz.func53,Tryz.ntmps53
 have⟨f,g⟩:=tZ2
 go_wp2_with ((first|((with_reducible refine zt ?_);clear f;refine zg rfl (yf (t:=55) rfl rfl (zkF _)) ?_)|((with_reducible refine zv ?_);clear g;refine zi rfl (zK (ty:=55) (b:=w.heap.size) (off:=0) (cs:=Jv) rfl rfl rfl (zV c.o (le_refl 3)) JQ zi1) ?_));go_frame)
 refine bodyPost_ret (yk (P:=prog) (fn:=Tryz.f53) rfl _ rfl (yv c.o rfl) n m JQ rfl) rfl ⟨rfl,?_⟩
 exact d.o.trans (zu _ _ _ _) (λi hi e=>by omega)
def zmc (w0 w:World) (p s mi:Nat) (U:Nat→Prop) (bv:Value) (css:List (List Value)) (D:ChD) (bs0:List yx) (d:yx) (e:Ending) (w':World):Prop:=
 ∃bcs bv' css' M',e=.returned (.tuple #[.agg bcs.toArray,.int .i64 0])∧qT w0 w' p s U mi bv' css' ⟨xU d.chg D.S,bs0,M'⟩∧(∀x v,(x,v)∈M'↔x∉d.ids∧(x,v)∈D.M)∧Kept (chV p U mi bv') w' (λw=>jB w d.blk bcs)∧Fr (chV p U mi bv) w w'∧bv'.ownBlock=bv.ownBlock∧∃tl,css=css'++[bcs++tl]
theorem zji {w0 w:World} {p s y:Nat} {U:Nat→Prop} {bv:Value} {css:List (List Value)} {D:ChD} (h:qT w0 w p s U y bv css D) {o:List yx} {d:yx} (G:D.bs=o++[d]) (hl:o.length≤2000) (hN:D.S.length+Jc d.chg≤100000) (ah:d.chg.length≤100000) (hI:d.ids.length≤100000):
  Calls prog 53 #[.pointer (some ⟨p,0,none⟩)] w (zmc w0 w p s y U bv css D o d):=by
 obtain⟨dB,uB,rB⟩:=zgN
 obtain⟨dD,uD,rD⟩:=zer
 have zB:=YZ
 have zD:=zfB
 have t:D.bs.length=o.length+1:=by rw[G];simp
 obtain⟨m,hm⟩:∃m,m=o.length:=⟨_,rfl⟩
 rw[←hm] at t hl
 obtain⟨n,I,hcss⟩:∃n I,css=n++[I]:=by
  have ak:css≠[]:=λe=>by have:=h.cl;rw[e,t] at this;simp at this
  exact⟨css.dropLast,css.getLast ak,(List.dropLast_concat_getLast ak).symm⟩
 have q:n.length=m:=by have:=h.cl;rw[hcss,t] at this;simpa using this
 have S:D.bs[m]? =some d:=by rw[G,hm];simp
 have H:css[m]? =some I:=by rw[hcss,←q];simp
 have h5:I.length=5:=h.c5 I (by rw[hcss];simp)
 have KD:=J (h.data m d I S H)
 obtain⟨g,c,hv,hr,-⟩:=JB (f:=id) (k:=5) (by decide) h.c5 h.row H
 rw[t] at hv
 subst hv
 have W:=J ((frN w).alloc (.cells Jv.toArray 55))
 have B1:=J (ye w (.cells Jv.toArray 55))
 have F:=J h
 have r:=J (h.fr0 W.o)
 have af:=J (KD.o.same W.o.of0)
 have R1:=@J ((w.alloc (.cells Jv.toArray 55)).rangeAt g (m*5) I) (za hr W.o id)
 have c1:=r.o.cells.2.1
 have ad:=J h.hi
 have i1:(0:Int)≤(m:Int):=by omega
 have i2:(m:Int)<((m+1:Nat):Int):=by omega
 have ag:=@J (∀w':World,w'.ownsRow w0.heap.size 207 5 (.slice (some ⟨g,0,none⟩) (m+1) c) (m+1) (css.flatMap id)→w'.ownsRow w0.heap.size 207 5 (.slice (some ⟨g,0,none⟩) m c) m (n.flatMap id)) (λw' hh=>zlc (C:=I) (by rw[hcss,flatMap_append] at hh;simpa using hh) (by rw[xJ id 5 n (λx hx=>h.c5 x (by rw[hcss];simp[hx])),q]))
 have OD:=J KD.o.now.one
 have v:=@J (n.length=m∧(∀x∈n,x.length=5)∧∀(i:Nat) (d':yx) (cs:List Value),o[i]? =some d'→n[i]? =some cs→D.bs[i]? =some d'∧css[i]? =some cs) (⟨q,λx hx=>h.c5 x (by rw[hcss];simp[hx]),λi d' cs a b=>⟨by rw[G,getElem?_append_left (List.getElem?_eq_some_iff.1 a).1];exact a,by rw[hcss,getElem?_append_left (List.getElem?_eq_some_iff.1 b).1];exact b⟩⟩)
 have ae:=J t
 have HM:=J hm
 have aa:=J (And.intro S H)
 have N:=J (And.intro hN (And.intro ah hI))
 have Z:=J hcss
 clear h hr G hN ah hI hm hcss q S H t KD h5
 go_enter Tryz.func53,Tryz.ntmps53
 obtain⟨z,A,B,E,T,V,O,Q,av⟩:=af.o.now.form
 subst av
 have aq:=J (F.o.data m d _ (show D.bs[m]? =some d from aa.o.1) aa.o.2)
 have ax:(m:Int)≤(c:Int):=by
  rcases r.o.row.2 with⟨e,_⟩|⟨g',aw,aA,e,R,h2,h3,h4,h5,h6⟩
  ·cases e
  ·injection e with e1 e2 e3
   have:=ae.o
   omega
 have M:=J ((frN (w.alloc (.cells Jv.toArray 55))).alloc (.cells ([.int .u64 d.blk.tag,.slice z d.blk.pay.length A,.slice B d.blk.txs.length E,.slice T d.ids.length V,.slice O d.chg.length Q]).toArray 207))
 have BA:=J (ye (w.alloc (.cells Jv.toArray 55)) (.cells ([.int .u64 d.blk.tag,.slice z d.blk.pay.length A,.slice B d.blk.txs.length E,.slice T d.ids.length V,.slice O d.chg.length Q]).toArray 207))
 have au:=(r.o.fr0 M.o).cells.2.1
 have l:=J (r.o.fr0 M.o)
 have fz:=yl (i:=1) l.o.obj
 have⟨K0,K1,K2,K3,K4,K5⟩:=tZ6
 go_wp2_with ((first|((with_reducible refine zt ?_);first|(clear K0;refine zg rfl (zZ (ty:=207) rfl rfl R1.o uD rD ZF) ?_;clear c1;generalize aC:w.alloc (.cells Jv.toArray 55)=w1 at*)|(clear K2;refine zg rfl (zZ (ty:=207) rfl rfl (zq B3.o) uD rD ZF) ?_;clear fz au;generalize aE:L.setCell ⟨p,1,none⟩ (.slice (some ⟨g,0,none⟩) m c)=w3 at*)|(clear K4;refine zn5 rfl rfl rfl R8.o rfl ?_))|((with_reducible refine zv ?_);first|(clear K1;refine zi rfl (zm (w:=w1) (ty:=207) (cs:=[.int .u64 d.blk.tag,.slice z d.blk.pay.length A,.slice B d.blk.txs.length E,.slice T d.ids.length V,.slice O d.chg.length Q]) rfl rfl rfl rfl ZF OD.o.2) ?_;generalize aD:w1.alloc (.cells ([.int .u64 d.blk.tag,.slice z d.blk.pay.length A,.slice B d.blk.txs.length E,.slice T d.ids.length V,.slice O d.chg.length Q]).toArray 207)=L at*;generalize aB:w1.heap.size=dq at*;have K:Fr (λj=>j=p) L (L.setCell ⟨p,1,none⟩ (.slice (some ⟨g,0,none⟩) m c)):=(Fr.refl (λj=>j=p) L).setCell ⟨p,1,none⟩ (.inr rfl) _;have al:=@J (qT w0 (L.setCell ⟨p,1,none⟩ (.slice (some ⟨g,0,none⟩) m c)) p s U y (.slice (some ⟨g,0,none⟩) m c) n ⟨D.S,o,D.M⟩) ({obj:=(by have:=heap_setCell_same L p 1 _ _ (.slice (some ⟨g,0,none⟩) m c) l.o.obj;simpa using this),set:=l.o.set.frV K (λj X e=>l.o.up (e▸X)) (λj e=>by have:=l.o.lo1;omega),row:=(by have R:=zb (ag.o L (by have:=l.o.row;rw[ae.o] at this;exact this)) K (λj X e=>(l.o.rn j X).1 e);rw[HM.o] at R;rw[HM.o];exact R),cl:=v.o.1.trans HM.o,c5:=v.o.2.1,data:=λi d' cs a b=>(l.o.data i d' cs (v.o.2.2 i d' cs a b).1 (v.o.2.2 i d' cs a b).2).same (K.mono (λj e=>.inl e)),map:=l.o.map.keep K (λe=>l.o.pm e.symm),pm:=l.o.pm,up:=l.o.up,um:=l.o.um,rn:=l.o.rn,lo1:=l.o.lo1,lo2:=l.o.lo2});have FS:=J K;have PQ:=@J (p≠dq∧¬chV p U y (.slice (some ⟨g,0,none⟩) m c) dq) (⟨λe=>by have:=yG r.o.obj;omega,λe=>by have:=r.o.hi dq e;omega⟩);have B3:=J (K.obj BA.o (λe=>PQ.o.1 e.symm));have ar:=@J (Kept (chV p U y (.slice (some ⟨g,0,none⟩) m c)) (L.setCell ⟨p,1,none⟩ (.slice (some ⟨g,0,none⟩) m c)) (λw=>jC w d [.int .u64 d.blk.tag,.slice z d.blk.pay.length A,.slice B d.blk.txs.length E,.slice T d.ids.length V,.slice O d.chg.length Q])) ((af.o.same M.o.of0).same (K.mono (λj e=>.inl e)));clear K)|(clear K5;refine zi rfl (zK (ty:=55) (b:=w.heap.size) (off:=0) (cs:=[.int .u64 d.blk.tag,.slice z d.blk.pay.length A,.slice B d.blk.txs.length E]) rfl rfl rfl (zV BZ.o (le_refl 3)) JQ (λu hu=>by simp only[mem_cons,not_mem_nil,or_false] at hu;rcases hu with rfl|rfl|rfl<;>rfl)) ?_))|(clear K3;go_at_call 97;refine(zfw al.o ar.o N.o.1 N.o.2.1 N.o.2.2).mono ?_;rintro e w8 ⟨rfl,M8,ai,aj,-,f8⟩;have an:=J ai;have ao:=J aj;have Y:=J f8;clear ai aj f8;have B8:=J (Y.o.obj B3.o PQ.o.2);have R8:=J (zmP B8.o);have BZ:=@J (w8.heap[w.heap.size]? =some (.cells Jv.toArray 55 (0,0))) (Y.o.obj (FS.o.obj (M.o.obj B1.o id) (λe=>by have:=yG F.o.obj;omega)) (λe=>by have:=ad.o _ e;omega))));go_frame)
 have fE:=zu w.heap.size [.int .u64 d.blk.tag,.slice z d.blk.pay.length A,.slice B d.blk.txs.length E] 0 w8
 have NQ:=@J (¬chV p U y (.slice (some ⟨g,0,none⟩) m c) w.heap.size) (λe=>by have:=ad.o _ e;omega)
 have KF:=@J (Kept (λj=>chV p U y (.slice (some ⟨g,0,none⟩) m c) j∨j=w.heap.size) w8 (λw=>jB w d.blk [.int .u64 d.blk.tag,.slice z d.blk.pay.length A,.slice B d.blk.txs.length E])) (by
  have R:Kept (chV p U y (.slice (some ⟨g,0,none⟩) m c)) w (λw=>jC w d [.int .u64 d.blk.tag,.slice z d.blk.pay.length A,.slice B d.blk.txs.length E,.slice T d.ids.length V,.slice O d.chg.length Q]):=aq.o
  have h2:Kept (λj=>chV p U y (.slice (some ⟨g,0,none⟩) m c) j∨j=w.heap.size) w8 (λw=>jC w d [.int .u64 d.blk.tag,.slice z d.blk.pay.length A,.slice B d.blk.txs.length E,.slice T d.ids.length V,.slice O d.chg.length Q]):=R.step (show Fr (chV p U y (.slice (some ⟨g,0,none⟩) m c)) w w8 from(((W.o.trans0 M.o).of0.trans FS.o (λj _ e=>.inl e)).trans Y.o (λ_ _ h=>h))) (λj X e=>e.resolve_right (by omega))
  exact h2.imp (λw' f hq=>by
   obtain⟨bcs,aF,aG,ay,az,e,hb,_,_⟩:=hq
   obtain⟨aH,aI,aJ,aK,rfl⟩:=hb.form
   simp only[List.cons_append,nil_append,List.cons.injEq,and_true] at e
   obtain⟨-,e1,e2,-,-⟩:=e
   injection e1 with e11 _ e13
   injection e2 with e21 _ e23
   subst e11;subst e13;subst e21;subst e23
   exact hb))
 refine bodyPost_ret (yk (P:=prog) (fn:=Tryz.f53) rfl _ rfl (yv BZ.o rfl) uB rB JQ rfl) rfl ⟨[.int .u64 d.blk.tag,.slice z d.blk.pay.length A,.slice B d.blk.txs.length E],.slice (some ⟨g,0,none⟩) m c,n,M8,rfl,an.o.frV fE (λj X e=>NQ.o (e▸X)) (λj e=>by have:=F.o.fr.size;omega) (λi d' cs a b=>?_),ao.o,λw' f=>KF.o w' ((fE.mono (λj e=>.inr e)).trans (f.mono (λj e=>.inl e)) (λ_ _ h=>h)),?_,rfl,_,Z.o⟩
 ·have ab:=v.o.2.2 i d' cs a b
  have R:Kept (chV p U y (.slice (some ⟨g,0,none⟩) m c)) w (λw=>jC w d' cs):=F.o.data i d' cs ab.1 ab.2
  exact R.step ((((W.o.trans0 M.o).of0.trans FS.o (λj _ e=>.inl e)).trans Y.o (λ_ _ h=>h)).trans fE (λi hi e=>by omega)) (λj _ e=>e)
 ·exact(((W.o.trans0 M.o).of0.trans FS.o (λj _ e=>.inl e)).trans Y.o (λ_ _ h=>h)).trans fE (λi hi e=>by omega)
def Cn (w0 w:World) (p:Nat) (V:Nat→Prop) (S:List zr) (bs:List yx) (ids:List zd):Prop:=∃M,Ch w0 w p V ⟨S,bs,M⟩∧(∀x,x∈ids↔∃v,(x,v)∈M)∧∀x v,(x,v)∈M→0<v
theorem Cn.fr {b w:World} {p:Nat} {V:Nat→Prop} {S:List zr} {c:List yx} {a:List zd} (h:Cn b w p V S c a):Fr No b w:=by
 obtain⟨M,h,-⟩:=h
 exact Ch.fr h
theorem Cn.fr0 {c w w':World} {p:Nat} {V:Nat→Prop} {S:List zr} {b:List yx} {a:List zd} (h:Cn c w p V S b a) (f:Fr No w w'):Cn c w' p V S b a:=by
 obtain⟨M,h,r⟩:=h
 exact⟨M,h.fr0 f,r⟩
theorem Cn.lo {b w:World} {p:Nat} {V:Nat→Prop} {S:List zr} {c:List yx} {a:List zd} (h:Cn b w p V S c a):∀j,V j→b.heap.size≤j:=by
 obtain⟨M,h,-⟩:=h
 exact Ch.lo h
theorem Cn.hi {c w:World} {p:Nat} {V:Nat→Prop} {S:List zr} {b:List yx} {a:List zd} (h:Cn c w p V S b a):∀j,V j→j<w.heap.size:=by
 obtain⟨M,⟨s,U,e,d,css,h,rfl⟩,-⟩:=h
 exact h.hi
theorem zjL (w:World) {v:Value} {l:List yE} (c:xy w v l) (a:l.length≤256):
  Calls prog 35 #[v] w λe w'=>∃p,e=.returned (.tuple #[.pointer (some ⟨p,0,none⟩),.int .i64 0])∧∃V,Cn w w' p V (jR [] (ZJ yO l)) [] []:=
 (zhu w c a).mono λe w' ⟨p,b,V,h⟩=>⟨p,b,V,[],h,by simp,by simp⟩
theorem zcJ {d w:World} {p:Nat} {V:Nat→Prop} {S:List zr} {b:List yx} {a:List zd} (h:Cn d w p V S b a) {q:zF} (c:q.ok):Calls prog 126 #[.pointer (some ⟨p,0,none⟩),.agg (zn q).toArray] w λe w'=>e=.returned (.tuple #[.agg (zJ (yg S q)).toArray,.bool (xK S q)])∧Fr No w w':=by
 obtain⟨M,h,-⟩:=h
 exact zfL h c
def R0 (S:List zr) (b:qA):DoR:=⟨if jJ S (vI b)=0 then 0 else 10,JI S (vI b),⟨b,[],if jJ S (vI b)=0 then[⟨[],(vI b).map (·.at_)⟩] else[]⟩⟩
theorem zcE {A w:World} {p:Nat} {V:Nat→Prop} {S:List zr} {z:List yx} {a:List zd} (h:Cn A w p V S z a) {x:zd} (j:zX x):
  Calls prog 74 #[.pointer (some ⟨p,0,none⟩),.agg (zf x).toArray] w λe w'=>e=.returned (.bool (decide (x∈a)))∧Fr No w w':=by
 obtain⟨M,⟨s,U,k,B,css,h,-⟩,c,b⟩:=h
 have q:=J (zx j)
 have f:Fr No w (w.alloc (.cells (zf x).toArray 41)).drew:=((frN w).alloc _).drew
 have n:=J f
 have d:=h.fr0 f
 have m:=J d.cells.2.2
 have y:=J (za (zy w (zf x) 41) (frN _).drew id)
 obtain⟨v,hv⟩:∃v:Int,(Instr.lookup 120 (.map (some k)) (xp x) false).run prog (w.alloc (.cells (zf x).toArray 41)).drew=.ok (.int .i64 v) (w.alloc (.cells (zf x).toArray 41)).drew∧decide (0<v)=decide (x∈a):=by
  by_cases hin:x∈a
  ·obtain⟨v,i⟩:=(c x).1 hin
   have:=d.map.look xT.keyed Zu (λ_ _=>yY) YD (yq j) false (r:=some v) (λl=>⟨λe=>by rw[←Option.some.inj e];exact i,λg=>by rw[d.map.uniq i g]⟩)
   exact⟨v,by simpa using this,by simp[hin,b x v i]⟩
  ·have:=d.map.look xT.keyed Zu (λ_ _=>yY) YD (yq j) false (r:=none) (λl=>⟨λe=>(by cases e),λg=>absurd ((c x).2 ⟨l,g⟩) hin⟩)
   exact⟨0,by simpa using this,by simp[hin]⟩
 have u:=J hv.1
 have o:=J hv.2
 clear h d hv c b f
 go_enter Tryz.func74,Tryz.ntmps74
 go_wp2_with fail
 refine wrLx [ff,ff,ff,ff,ff,ff,ff,ff,ff,ff,ff,ff] (λw'=>w'.cell? ⟨p,2,none⟩=some (.map (some k))∧w'.rangeAt w.heap.size 0 (zf x)∧(Instr.lookup 120 (.map (some k)) (xp x) false).run prog w'=.ok (.int .i64 v) w') ?_ (λK hK=>?_)
 ·exact⟨m.o,y.o,u.o⟩
 repeat((first|(refine zj rfl ?_;constructor;constructor;(focus(first|exact zn7 rfl (λw h=>h.2.1) q.o|exact λw' h=>zQ (t:=120) rfl rfl rfl h.2.2|(rintro w' ⟨C,D,E⟩;go_simp;(try with_reducible rfl);done))))|(refine zl rfl ?_));try simp only[Act.put,pA,pB,pC])
 refine zL (hK.out _ _ ?_)
 go_wp2_with fail
 go_ret
 exact⟨by rw[←o.o];rfl,n.o⟩
end Go.Proofs.YtdkkjchclkjleaaGreatDoor
