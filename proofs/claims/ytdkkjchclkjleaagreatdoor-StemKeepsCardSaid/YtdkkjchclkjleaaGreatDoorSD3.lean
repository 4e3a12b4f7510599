/- chain: Id. -/
import Derived.Laws.MakeOwn
import Derived.Deep.CutRange
import Derived.Laws.Externs
import Derived.Test.YtdkkjchclkjleaaGreatDoorRows
import Derived.WalkKit
import Derived.ProofKit
import Derived.OpenShut
import Derived.Carry
import Derived.WideKeyArgs
import Derived.Deep.Slices
import Derived.Deep.Fields
import Derived.ChangeSame
import Derived.LaidMore
import Derived.Stop.Joined
import Derived.Test.YtdkkjchclkjleaaGreatDoorSD2
import Derived.Test.YtdkkjchclkjleaaGreatDoorSD1
set_option linter.unusedVariables false
set_option linter.unusedSimpArgs false
set_option linter.unnecessarySimpa false
set_option linter.all false
set_option maxRecDepth 20000
set_option maxHeartbeats 16000000
namespace Go.Proofs.YtdkkjchclkjleaaGreatDoor
open Go Go.RowKit Go.Maps Go.MapKept
open Go.Proofs.Tryz(prog)
open Nat(le_refl zero_le le_trans zero_add le_of_eq min_eq_left sub_self)
open List(getElem?_eq_getElem mem_append mem_of_getElem? mem_cons length_append take_add_one take_length length_take take_of_length_le flatMap_append getElem?_append_left nil_append getElem?_append_right not_mem_nil take_append_drop length_nil length_singleton length_drop take_zero drop_zero)
variable {B fuel g k m n p q s:Nat} {T e t:TypeId} {U V:Nat→Prop} {W w w0:World} {a b c v:Value} {cs:List Value}
def vE (b:qs):Bool:=decide (b.pay.length≤8) && (decide (b.txs.length≤16) && b.txs.all qB)
def zkN (b:qs):List Int:=leB 8 b.tag++((b.pay.length:Int)::(b.pay.flatMap Ys++((b.txs.length:Int)::b.txs.flatMap idH)))
def zi6 (b:qs):Int:=if vE b=true then 0 else 5
def ZS (b:qs):zd:=if vE b=true then vN (zkN b) else yR
theorem za6 (b:qs):zY (ZS b):=by
 unfold ZS
 split
 ·exact Ya _
 ·exact xM
theorem za7 {b:qs} (h:vE b=false):zi6 b=5∧ZS b=yR:=by simp[zi6,ZS,h]
theorem Vg {b:qs} (h:vE b=true):zi6 b=0∧ZS b=vN (zkN b):=by simp[zi6,ZS,h]
theorem zk2 (l:List TxD):(l.flatMap idH).length=32*l.length:=by
 induction l with
 |nil=>rfl
 |cons x l ih=>
  have:=(qC x).1
  simp only[List.flatMap_cons,length_append,List.length_cons]
  omega
theorem Yw (w:World) (a b c:Value) (T:TypeId):(w.alloc (.cells #[a,b,c] T)).cell? ⟨w.heap.size,0,none⟩=some a∧(w.alloc (.cells #[a,b,c] T)).cell? ⟨w.heap.size,1,none⟩=some b∧(w.alloc (.cells #[a,b,c] T)).cell? ⟨w.heap.size,2,none⟩=some c∧(w.alloc (.cells #[a,b,c] T)).rangeAt w.heap.size 0 [a,b,c]:=by
 have:=zy w [a,b,c] T
 exact⟨by simpa using this 0 _ rfl,by simpa using this 1 _ rfl,by simpa using this 2 _ rfl,this⟩
theorem zlZ (w:World):(zeroValue 34).run prog w=.ok (.agg (txC 0 (.slice none 0 0) (.slice none 0 0)).toArray) w:=by kernel_rfl
theorem zbG (b o:Nat) (w:World):(Instr.sliceAt 41 (.pointer (some ⟨b,o,none⟩)) none none none).run prog w=.ok (.slice (some ⟨b,o,none⟩) 32 32) w:=by
 have a:prog.arrayLen 41=32:=by kernel_rfl
 have c:(sizeOf (prog.elem 41)).run prog w=.ok 1 w:=by kernel_rfl
 rw[run_sliceAt_array_all w _ _ (by kernel_rfl),c]
 simp[slicedAt,a,Zv]
theorem zag (hg:q9 w) {b:qs} (ht:jE w b cs):
  Calls prog 94 #[.agg cs.toArray] w λe w'=>e=.returned (.tuple #[.agg (zf (ZS b)).toArray,.int .i64 (zi6 b)])∧Fr No w w':=by
 have zH:=yS
 have zo:=y9
 have zT:=zlZ
 obtain⟨dH,uH,rH⟩:=Zw
 obtain⟨ia,ic,oa,oc,rfl,Z,ho,m⟩:=ht
 have f1:Fr No w (w.alloc (.cells #[.int .u64 b.tag,.slice ia b.pay.length ic,.slice oa b.txs.length oc] 55)):=(frN w).alloc _
 have C:Fr No (w.alloc (.cells #[.int .u64 b.tag,.slice ia b.pay.length ic,.slice oa b.txs.length oc] 55)) _:=(frN _).alloc (.cells (zf yR).toArray 41)
 obtain⟨c0,c1,c2,-⟩:=Yw w (.int .u64 b.tag) (.slice ia b.pay.length ic) (.slice oa b.txs.length oc) 55
 have C0:=J (C.cell c0 _root_.id)
 have C1:=J (C.cell c1 _root_.id)
 have C2:=J (C.cell c2 _root_.id)
 have Q:=J (f1.trans0 C)
 have B2:=J (yJ (w.alloc (.cells #[.int .u64 b.tag,.slice ia b.pay.length ic,.slice oa b.txs.length oc] 55)) (.cells (zf yR).toArray 41) (n:=w.heap.size+1) (by simp))
 have G2:=J (hg.keep0 Q.o)
 have G:=@J (((w.alloc (.cells #[.int .u64 b.tag,.slice ia b.pay.length ic,.slice oa b.txs.length oc] 55)).alloc (.cells (zf yR).toArray 41)).heap.size=w.heap.size+2) (by simp)
 have HO:=J (ho.keep Q.o)
 have HX:=J (m.keep0 Q.o)
 have v1:=Z.1
 have v2:=Z.2
 have c0:=C0.o
 have c1:=C1.o
 have c2:=C2.o
 clear ho m f1 C hg Z
 show Calls prog 94 #[.agg #[.int .u64 b.tag,.slice ia b.pay.length ic,.slice oa b.txs.length oc]] w _
 by_cases hp8:8<b.pay.length
 ·have d:vE b=false:=by
   have:decide (b.pay.length≤8)=false:=by simp;omega
   simp[vE,this]
  have j1:decide ((8:Int)<(b.pay.length:Int))=true:=by simp;omega
  have z:=J (za7 d)
  have c:=@J ((zf yR).length=32) (rfl)
  clear d
  clear hp8
  go_enter Tryz.func94,Tryz.ntmps94
  have⟨p,r⟩:=tZ2
  go_wp2_with ((first|((with_reducible refine zt ?_);clear p;with_reducible refine yv 24 ?_;refine zg rfl (yk (t:=41) rfl rfl (Xh _)) ?_)|((with_reducible refine zv ?_);clear r;refine zi rfl (zK (ty:=41) (b:=w.heap.size+1) (off:=0) (cs:=zf yR) rfl rfl rfl (by rw[c.o];exact zX B2.o (le_of_eq Ji.symm)) (by rw[c.o];exact yt) zU) ?_));go_frame)
  refine bodyPost_ret (ym (P:=prog) (fn:=Tryz.f94) rfl _ rfl (yx B2.o (by rw[c.o];exact Ji)) uH rH (by rw[c.o];exact yt) rfl) rfl ⟨by rw[z.o.1,z.o.2];rfl,?_⟩
  exact Q.o.trans (zu _ _ _ _) (λi hi e=>by omega)
 by_cases ht16:16<b.txs.length
 ·have d:vE b=false:=by
   have:decide (b.txs.length≤16)=false:=by simp;omega
   simp[vE,this]
  have j1:decide ((8:Int)<(b.pay.length:Int))=false:=by simp;omega
  have j2:decide ((16:Int)<(b.txs.length:Int))=true:=by simp;omega
  have z:=J (za7 d)
  have c:=@J ((zf yR).length=32) (rfl)
  clear d
  clear hp8 ht16
  go_enter Tryz.func94,Tryz.ntmps94
  have⟨p,r⟩:=tZ2
  go_wp2_with ((first|((with_reducible refine zt ?_);clear p;with_reducible refine yv 24 ?_;refine zg rfl (yk (t:=41) rfl rfl (Xh _)) ?_)|((with_reducible refine zv ?_);clear r;refine zi rfl (zK (ty:=41) (b:=w.heap.size+1) (off:=0) (cs:=zf yR) rfl rfl rfl (by rw[c.o];exact zX B2.o (le_of_eq Ji.symm)) (by rw[c.o];exact yt) zU) ?_));go_frame)
  refine bodyPost_ret (ym (P:=prog) (fn:=Tryz.f94) rfl _ rfl (yx B2.o (by rw[c.o];exact Ji)) uH rH (by rw[c.o];exact yt) rfl) rfl ⟨by rw[z.o.1,z.o.2];rfl,?_⟩
  exact Q.o.trans (zu _ _ _ _) (λi hi e=>by omega)
 have p8:b.pay.length≤8:=by omega
 have aq:b.txs.length≤16:=by omega
 have j1:decide ((8:Int)<(b.pay.length:Int))=false:=by simp;omega
 have j2:decide ((16:Int)<(b.txs.length:Int))=false:=by simp;omega
 have e1:(b.pay.length:Int) % 256=(b.pay.length:Int):=by omega
 have e2:(b.txs.length:Int) % 256=(b.txs.length:Int):=by omega
 clear hp8 ht16
 go_enter Tryz.func94,Tryz.ntmps94
 have⟨p,r⟩:=tZ2
 go_wp2_with ((first|(clear p;go_at_call 133;generalize (w.alloc (.cells #[.int .u64 b.tag,.slice ia b.pay.length ic,.slice oa b.txs.length oc] 55)).alloc (.cells (zf yR).toArray 41)=w2 at*;refine(zfh w2 ⟨v1,v2⟩).mono ?_;rintro e w3 ⟨rfl,b3,f3⟩;have R:=J f3;have B3:=@J (qI w3 (w.heap.size+2) _ _) (yU b3 (by rw[G.o];exact le_refl _));clear b3 f3;have cA:=R.o.cell C1.o _root_.id;obtain⟨v4,w4,l,j,h,-⟩:=Jo w3 (x:=b.pay.length) B3.o (by rw[vZ];decide) (by have:=R.o.size;have:=G.o;omega) 106;have A4:=J l;have B4:=J j;have F4:=J (qI.step R.o B3.o (by have:=G.o;omega) h);clear l j h)|((with_reducible refine zt ?_);clear r;at_builtin;refine zQ rfl rfl rfl rfl A4.o ?_;have cB:=F4.o.cell C1.o _root_.id));go_frame)
 have af:=@J ((leB 8 b.tag++[(b.pay.length:Int)]).length=9) (by rw[length_append,vZ];rfl)
 have LE:=@J (zkN b=leB 8 b.tag++[(b.pay.length:Int)]++b.pay.flatMap Ys++[(b.txs.length:Int)]++b.txs.flatMap idH) (by simp[zkN])
 generalize leB 8 b.tag++[(b.pay.length:Int)]=L0 at*
 go_loopw [4,41] (λbv iv wr=>∃n:Nat,iv=.int .i64 n∧n≤b.pay.length∧qI wr (w.heap.size+2) bv (L0++(b.pay.take n).flatMap Ys)∧Fr No w2 wr) (λ_ iv _=>b.pay.length-(intOf iv).toNat)
 case atStart=>exact⟨0,rfl,zero_le _,by simpa using B4.o,F4.o⟩
 case round=>
  obtain⟨n,rfl,hn,V,fr⟩:=hrel
  have FS:=J fr
  have BS:=J V
  have SY:=@J (w.heap.size+2≤wr.heap.size) (by have:=fr.size;have:=G.o;omega)
  have B:=@J ((L0++(b.pay.take n).flatMap Ys).length≤9+40*n) (by
   rw[length_append,X6 (λx m=>HO.o.1 x (List.mem_of_mem_take m)),length_take,af.o]
   omega)
  obtain⟨ba,bc,u⟩:=V.form
  clear fr V
  by_cases W:n<b.pay.length
  ·have i1:(n:Int)<(b.pay.length:Int):=by omega
   obtain⟨x,m⟩:∃x,b.pay[n]? =some x:=⟨_,getElem?_eq_getElem W⟩
   have TF:=J (Qd Ys m)
   obtain⟨bb,off,ai,Z,hr,-⟩:=HO.o.at_ m
   cases Z
   have y:=HO.o.1 x (mem_of_getElem? m)
   have R1:=J (za hr FS.o id)
   have IL:=J (yz y)
   have S:=J ((frN wr).alloc (.cells (zJ x).toArray 103))
   have QA:=@J ((wr.alloc (.cells (zJ x).toArray 103)).heap.size=wr.heap.size+1) (by simp)
   obtain⟨n1,n2⟩:=YP wr y
   have N2:=J n2
   have an:=y.1.1
   have ao:=y.1.2
   have LX:=J y.2.1
   have D0:=J (BS.o.ne (le_refl _))
   have FW:=J (FS.o.trans0 S.o)
   have BW:=J (BS.o.keep0 S.o)
   clear n2 hr y m
   subst u
   generalize U:L0++(b.pay.take n).flatMap Ys=Lo at*
   have⟨p,r,K2⟩:=tZ3
   go_wp2_with ((first|((with_reducible refine zt ?_);clear p;refine zob rfl rfl rfl R1.o IL.o ?_)|((with_reducible refine zv ?_);clear r;refine zok (w:=wr) (cs:=zJ x) rfl rfl rfl rfl IL.o yf ?_;generalize wr.alloc (.cells (zJ x).toArray 103)=wA at*)|(clear K2;go_at_call 133;refine(zfh wA ⟨an,ao⟩).mono ?_;rintro e f ⟨rfl,b5,D⟩;have F:=J D;have V5:=J b5;clear b5 D));go_frame)
   have o:=(frN f).drew
   have N5:=J (za N2.o F.o id)
   have Q5:=@J (wr.heap.size<f.heap.size) (by have:=F.o.size;have:=QA.o;omega)
   obtain⟨v6,w6,l,j,h,a4⟩:=vj f.drew ((BW.o.keep0 F.o).keep0 o) (V5.o.keep0 o).slice.arg (by rw[vZ];have:=B.o;omega) (show w.heap.size+2≤f.heap.size by have:=SY.o;have:=Q5.o;omega) 106
   have ar:(leB 8 x.value).length=8:=vZ 8 x.value
   have D6:=a4.ne D0.o (show wr.heap.size<f.heap.size from Q5.o)
   have N6:=J (za (za N5.o o _root_.id) h D0.o)
   have A6:=J l
   have B6:=J j
   have F6:=J (qI.step ((FW.o.trans0 F.o).trans0 o) ((BW.o.keep0 F.o).keep0 o) (by have:=G.o;omega) h)
   have Q6:=@J (wr.heap.size<w6.heap.size) (by have:=h.size;have:=Q5.o;have:f.drew.heap.size=f.heap.size:=rfl;omega)
   obtain⟨aw,ax,al⟩:=j.form
   clear l j h a4 D6 o
   obtain⟨v7,w7,l,j,h,-⟩:=vj w6 B6.o (za5 N6.o LX.o Q6.o) (by simp only[length_append,LX.o,vZ];have:=B.o;omega) (by have:=SY.o;have:=Q6.o;omega) 106
   have A7:=J l
   have B7:=J j
   have F7:=J (qI.step F6.o B6.o (by have:=G.o;omega) h)
   clear l j h al
   have ak:=zbG wr.heap.size 1
   refine wrLx [ff,ff,tt,ff,ff,tt,ff] (λ_=>True) ?_ (λK hK=>?_)
   ·trivial
   repeat((first|(refine zl rfl ?_;constructor;constructor;(focus(first|(rintro w' -;exact goS))))|(refine zm rfl ?_));try simp only[Act.put,pA,pB,pC])
   (refine zF rfl (λK' hK'=>?_))
   refine yr rfl rfl rfl A6.o ?_
   refine nXt hK' ?_ λhS=>?_
   ·trivial
   try simp only[Act.put,pA,pB,pC]
   repeat((first|(refine zl rfl ?_;constructor;constructor;(focus(first|(rintro w' -;exact goS))))|(refine zm rfl ?_));try simp only[Act.put,pA,pB,pC])
   (refine zF rfl (λK' hK'=>?_))
   refine yr rfl rfl rfl A7.o ?_
   refine nXt hK' ?_ λhS=>?_
   ·trivial
   try simp only[Act.put,pA,pB,pC]
   repeat((first|(refine zl rfl ?_;constructor;constructor;(focus(first|(rintro w' -;exact goS))))|(refine zm rfl ?_));try simp only[Act.put,pA,pB,pC])
   refine zL (hK.out _ _ ?_)
   go_wp2_with fail
   go_roundw
   case rel=>exact⟨n+1,by go_num,by omega,by rw[TF.o,←List.append_assoc,U];simpa[Ys] using B7.o,F7.o⟩
   case measure=>simp[intOf];omega
  ·have X:n=b.pay.length:=by omega
   subst X
   have i1:¬(b.pay.length:Int)<(b.pay.length:Int):=by omega
   rw[take_length] at BS B
   have c2:=FS.o.cell C2.o id
   obtain⟨v3,wy,l,j,h,a4⟩:=Jo wr (x:=b.txs.length) BS.o (by have:=B.o;omega) SY.o 106
   have A1:=J l
   have BY:=J j
   have FY:=J (qI.step FS.o BS.o (by have:=G.o;omega) h)
   have cD:=FY.o.cell C2.o id
   have ag:=@J ((L0++b.pay.flatMap Ys++[(b.txs.length:Int)]).length≤400) (by
    rw[length_append]
    have:=B.o
    simp only[length_singleton]
    omega)
   clear l j h a4 c2
   have c2:=FS.o.cell C2.o id
   subst u
   generalize av:L0++b.pay.flatMap Ys=Ln at*
   go_wp2_with (first|(at_builtin;refine zQ rfl rfl rfl rfl A1.o ?_))
   generalize au:Ln++[(b.txs.length:Int)]=A at*
   clear c2 cD
   go_loopw [4,68] (λbv iv wr=>∃n:Nat,iv=.int .i64 n∧n≤b.txs.length∧(∀t∈b.txs.take n,qB t=true)∧qI wr (w.heap.size+2) bv (A++(b.txs.take n).flatMap idH)∧Fr No w2 wr) (λ_ iv _=>b.txs.length-(intOf iv).toNat)
   case atStart=>exact⟨0,rfl,zero_le _,by simp,by simpa using BY.o,FY.o⟩
   case round=>
    obtain⟨n,rfl,hn,O,V,fr⟩:=hrel
    have FT:=J fr
    have BT:=J V
    have AL:=J O
    have GT:=J (G2.o.keep0 fr)
    have ah:=@J (w.heap.size+2≤wr.heap.size) (by have:=fr.size;have:=G.o;omega)
    have T:=@J ((A++(b.txs.take n).flatMap idH).length≤400+32*n) (by
     rw[length_append,zk2,length_take]
     have:=ag.o
     omega)
    obtain⟨ba,bc,u⟩:=V.form
    clear fr V O
    by_cases W:n<b.txs.length
    ·have i1:(n:Int)<(b.txs.length:Int):=by omega
     obtain⟨t,m⟩:∃x,b.txs[n]? =some x:=⟨_,getElem?_eq_getElem W⟩
     have TF:=J (Qd idH m)
     obtain⟨bb,off,ai,cs,Z,hr,hq⟩:=HX.o.at_ m
     cases Z
     have R1:=J (za hr FT.o id)
     have TQ:=J (hq.keep FT.o)
     obtain⟨M,tc,g,k,aj⟩:=hq.form
     subst aj
     have S:=J ((frN wr).alloc (.cells #[.int .u32 t.ver,.slice M t.ins.length tc,.slice g t.outs.length k] 34))
     have QA:=@J ((wr.alloc (.cells #[.int .u32 t.ver,.slice M t.ins.length tc,.slice g t.outs.length k] 34)).heap.size=wr.heap.size+1) (by simp)
     have RT:=J (Yw wr (.int .u32 t.ver) (.slice M t.ins.length tc) (.slice g t.outs.length k) 34).2.2.2
     have ID:=J (Xq (GT.o.keep0 S.o) (TQ.o.keep S.o))
     have ae:=J (zx (qC t))
     have ad:=J (qC t).1
     have D0:=J (BT.o.ne (le_refl _))
     have FW:=J (FT.o.trans0 S.o)
     have BW:=J (BT.o.keep0 S.o)
     have aa:=J m
     clear hr m hq
     subst u
     by_cases hfm:qB t=true
     ·have IE:=@J (idE t=0) (by simp[idE,hfm])
      have AN:=@J (∀s∈b.txs.take (n+1),qB s=true) (λs Y=>by
       rw[take_add_one,aa.o] at Y
       rcases mem_append.1 Y with Y|Y
       ·exact AL.o s Y
       ·simp at Y;subst Y;exact hfm)
      rw[IE.o] at ID
      clear hfm
      generalize idH t=I at*
      have ak:=λq=>zbG q 0
      generalize U:A++(b.txs.take n).flatMap idH=Lo at*
      have⟨p,r,K2,K3,K4,K5⟩:=tZ6
      go_wp2_with ((first|((with_reducible refine zt ?_);first|(clear p;refine zoa rfl rfl rfl R1.o rfl ?_)|(clear K2;refine zoa rfl rfl rfl RT.o rfl ?_;generalize wr.alloc (.cells #[.int .u32 t.ver,.slice M t.ins.length tc,.slice g t.outs.length k] 34)=wA at*)|(clear K5;at_builtin;refine zQ rfl rfl rfl rfl A7.o ?_))|((with_reducible refine zv ?_);first|(clear r;refine zi rfl (zj (w:=wr) (ty:=34) (cs:=[.int .u32 t.ver,.slice M t.ins.length tc,.slice g t.outs.length k]) rfl rfl rfl rfl y5 (zhj (a:=M) (b:=g))) ?_)|(clear K4;refine zol (w:=f) (cs:=zf I) rfl rfl rfl rfl ae.o zU ?_;have F6:=@J (Fr No f (f.alloc (.cells (zf I).toArray 41))) ((frN f).alloc _);have B6:=J (yj f (.cells (zf I).toArray 41));have Q6:=@J ((f.alloc (.cells (zf I).toArray 41)).heap.size=f.heap.size+1) (by simp);generalize f.alloc (.cells (zf I).toArray 41)=w6 at*;have BX:=J ((BW.o.keep0 F.o).keep0 F6.o);have N:=J ((FW.o.trans0 F.o).trans0 F6.o);obtain⟨v7,w7,l,j,h,-⟩:=vj w6 BX.o (za5 (zq B6.o) ad.o (by have:=Q6.o;omega)) (by have:=T.o;have:=ad.o;omega) (by have:=ah.o;have:=N.o.size;have:=G.o;omega) 106;have A7:=J l;have B7:=J j;have F7:=J (qI.step N.o BX.o (by have:=G.o;omega) h);clear l j h))|(clear K3;go_at_call 15;refine ID.o.mono ?_;rintro e f ⟨rfl,D⟩;have F:=J D;clear D));go_frame)
      go_roundw
      case rel=>exact⟨n+1,by go_num,by omega,AN.o,by rw[TF.o,←List.append_assoc,U];exact B7.o,F7.o⟩
      case measure=>simp[intOf];omega
     ·have d:vE b=false:=by
       have:b.txs.all qB=false:=by
        rw[List.all_eq_false]
        exact⟨t,mem_of_getElem? aa.o,hfm⟩
       simp[vE,this]
      have IE:=@J (idE t=5) (by simp[idE,hfm])
      rw[IE.o] at ID
      have z:=J (za7 d)
      have c:=@J ((zf yR).length=32) (rfl)
      clear d
      clear hfm
      generalize idH t=I at*
      generalize (A++(b.txs.take n).flatMap idH).length=zz at*
      have⟨p,r,K2,K3,K4,K5,K6⟩:=tZ7
      go_wp2_with ((first|((with_reducible refine zt ?_);first|(clear p;refine zoa rfl rfl rfl R1.o rfl ?_)|(clear K2;refine zoa rfl rfl rfl RT.o rfl ?_;generalize wr.alloc (.cells #[.int .u32 t.ver,.slice M t.ins.length tc,.slice g t.outs.length k] 34)=wA at*)|(clear K5;with_reducible refine yv 79 ?_;refine zg rfl (yk (t:=41) rfl rfl (Xh _)) ?_))|((with_reducible refine zv ?_);first|(clear r;refine zi rfl (zj (w:=wr) (ty:=34) (cs:=[.int .u32 t.ver,.slice M t.ins.length tc,.slice g t.outs.length k]) rfl rfl rfl rfl y5 (zhj (a:=M) (b:=g))) ?_)|(clear K4;refine zol (w:=f) (cs:=zf I) rfl rfl rfl rfl ae.o zU ?_;have F6:=@J (Fr No f (f.alloc (.cells (zf I).toArray 41))) ((frN f).alloc _);generalize f.alloc (.cells (zf I).toArray 41)=w6 at*;have N:=J ((FW.o.trans0 F.o).trans0 F6.o);have BZ:=J (N.o.obj B2.o _root_.id))|(clear K6;refine zi rfl (zK (ty:=41) (b:=w.heap.size+1) (off:=0) (cs:=zf yR) rfl rfl rfl (by rw[c.o];exact zX BZ.o (le_of_eq Ji.symm)) (by rw[c.o];exact yt) zU) ?_))|(clear K3;go_at_call 15;refine ID.o.mono ?_;rintro e f ⟨rfl,D⟩;have F:=J D;clear D));go_frame)
      refine bodyPost_ret (ym (P:=prog) (fn:=Tryz.f94) rfl _ rfl (yx BZ.o (by rw[c.o];exact Ji)) uH rH (by rw[c.o];exact yt) rfl) rfl ⟨by rw[z.o.1,z.o.2];rfl,?_⟩
      exact(Q.o.trans0 N.o).trans (zu _ _ _ _) (λi hi e=>by omega)
    ·have X:n=b.txs.length:=by omega
     subst X
     have i1:¬(b.txs.length:Int)<(b.txs.length:Int):=by omega
     rw[take_length] at BT T AL u
     have E:vE b=true:=by
      have:b.txs.all qB=true:=List.all_eq_true.2 AL.o
      simp[vE,this,p8,aq]
     have z:=J (Vg E)
     rw[LE.o] at z
     have H:=@J ((zf (vN (A++b.txs.flatMap idH))).length=32) (zx (Ya _))
     have F4:=@J (Fr No wr (wr.alloc (.cells #[.slice ba (A++b.txs.flatMap idH).length bc] 106))) ((frN wr).alloc _)
     subst u
     have ab:=J (zdh (GT.o.keep0 F4.o) (v:=.slice (some ⟨wr.heap.size,0,none⟩) 1 1) (L:=[A++b.txs.flatMap idH]) (zb2 BT.o.slice.arg) (by simp) (by have:=T.o;simp only[List.flatten_cons,List.flatten_nil,List.append_nil];omega))
     rw[show[A++b.txs.flatMap idH].flatten=A++b.txs.flatMap idH by simp] at ab
     clear E
     generalize vN (A++b.txs.flatMap idH)=TB at*
     generalize (A++b.txs.flatMap idH).length=zz at*
     have⟨p,r⟩:=tZ2
     go_wp2_with ((first|(clear p;go_at_call 46;refine ab.o.mono ?_;rintro e f ⟨rfl,D⟩;have N:=J ((FT.o.trans0 F4.o).trans0 D);clear D;have BZ:=J (N.o.obj B2.o _root_.id))|((with_reducible refine zv ?_);clear r;refine zi rfl (zK (ty:=41) (b:=w.heap.size+1) (off:=0) (cs:=zf TB) rfl rfl rfl (by rw[H.o];exact zX BZ.o (le_of_eq Ji.symm)) (by rw[H.o];exact yt) zU) ?_));go_frame)
     refine bodyPost_ret (ym (P:=prog) (fn:=Tryz.f94) rfl _ rfl (yx BZ.o (by rw[H.o];exact Ji)) uH rH (by rw[H.o];exact yt) rfl) rfl ⟨by rw[z.o.1,z.o.2];rfl,?_⟩
     exact(Q.o.trans0 N.o).trans (zu _ _ _ _) (λi hi e=>by omega)
def vX (x:yI):Bool:=decide (x.value=0)||decide (1125899906842624<x.value)
theorem ze7 {l:List yI} (h:∀x∈l,x.ok):(l.flatMap zJ).length=l.length*33:=xI zJ 33 l (λx a=>yz (h x a))
theorem ze8 {l:List yI}:∀u∈l.flatMap zJ,u.oneCell'=true:=λu a=>by
 obtain⟨x,_,b⟩:=List.mem_flatMap.1 a
 exact yf u b
theorem ZY (w:World) {v x:Value} {k l:List yI} (p:w.ownsRow B 103 33 v k.length (k.flatMap zJ)) (m:xu w x l) (o:k.length+l.length≤100000) (n:B≤w.heap.size) (ty:TypeId):
  ∃b w',(Builtin.append_ #[22,22] ty #[v,x]).run prog w=.ok b w'∧w'.ownsRow B 103 33 b (k.length+l.length) ((k++l).flatMap zJ)∧Fr (λj=>v.ownBlock=some j) w w'∧Yd w v b:=by
 by_cases hnil:x=.slice none 0 0
 ·obtain⟨a,c,h⟩:=m.2.form
  rw[hnil] at h
  injection h with h1 h2 h3
  have q:l=[]:=List.eq_nil_of_length_eq_zero h2.symm
  subst q
  obtain⟨b,w',d,f,g,i⟩:=XF (P:=prog) w B 22 ty 103 33 40 _ qN JD (by rw[←yA];rfl) (by decide) v k.length (k.flatMap zJ) p x 0 [] (.inl ⟨hnil,rfl,rfl⟩) rfl (by simp) (by simp at o⊢;omega) (by unfold maxLen;simp at o;omega) n
  exact⟨b,w',d,by simpa using f,g,i⟩
 ·obtain⟨b,w',d,f,g,-,i⟩:=jH (P:=prog) w B 22 ty 103 33 40 _ qN JD (by rw[←yA];rfl) (by decide) v k.length (k.flatMap zJ) p x l.length (l.flatMap zJ) m.2 (ze7 m.1) ze8 (by omega) (by unfold maxLen;omega) n hnil
  refine⟨b,w',d,?_,(Fr.refl _ w).grown g (λk e=>.inr e),i⟩
  rw[flatMap_append]
  exact f
theorem XZ {l:List yI} (h:w.ownsRow B 103 33 v l.length (l.flatMap zJ)) (ok:∀x∈l,x.ok) (a:∀j,V j→j<B):Kept V w (λw=>xu w v l):=
 λw' f=>⟨ok,(zb h f (λb c d=>by have:=(h.lt b c).1;have:=a b d;omega)).slice.arg⟩
def Jw:List Value:=[.int .u64 0,.slice none 0 0,.slice none 0 0]
theorem YY (w:World):(zeroValue 55).run prog w=.ok (.agg Jw.toArray) w:=by kernel_rfl
theorem zgP (t:Int) (a:Option Addr) (n c:Nat) (w:World):(Instr.build 55 #[(0,.int .u64 t),(1,.slice a n c)]).run prog w=.ok (.agg [.int .u64 t,.slice a n c,.slice none 0 0].toArray) w:=by kernel_rfl
def zl2 (w:World) (b:qs) (e:Ending) (w':World):Prop:=∃cs,e=.returned (.agg cs.toArray)∧Fr No w w'∧∀V:Nat→Prop,(∀j,V j→j<w.heap.size)→Kept V w' (λw=>jE w b cs)
theorem Yj {z cs:List Value} (h:w.heap[q]? =some (.cells z.toArray T (0,0))) (b:z.length=cs.length):(w.setCells q 0 cs).heap[q]? =some (.cells cs.toArray T (0,0)):=by
 have a:=xw q T cs 0 w _ h
 have e:=jq cs [] z [] b
 simp only[nil_append,List.append_nil,length_nil] at e
 rw[List.toList_toArray,e] at a
 exact a
structure YC where
 took:List zr
 made:List zE
structure yB where
 blk:qs
 ids:List zd
 chg:List YC
structure ChD where
 S:List zr
 bs:List yB
 M:List (zd×Int)
def zdn (w:World) (c:YC) (cs:List Value):Prop:=∃ta tc ma mc,cs=[.slice ta c.took.length tc,.slice ma c.made.length mc]∧qY w (.slice ta c.took.length tc) c.took∧xL w (.slice ma c.made.length mc) c.made
abbrev zfI (w:World) (v:Value) (L:List YC):Prop:=qT 2 zdn w v L
def jF (w:World) (d:yB) (cs:List Value):Prop:=∃bcs ia ic ca cc,cs=bcs++[.slice ia d.ids.length ic,.slice ca d.chg.length cc]∧jE w d.blk bcs∧yP w (.slice ia d.ids.length ic) d.ids∧zfI w (.slice ca d.chg.length cc) d.chg
theorem jE.form {b:qs} (h:jE w b cs):∃f g i j,cs=[.int .u64 b.tag,.slice f b.pay.length g,.slice i b.txs.length j]:=by
 obtain⟨a,c,d,e,rfl,_⟩:=h
 exact⟨a,c,d,e,rfl⟩
theorem jF.form {d:yB} (h:jF w d cs):∃g i j k e f a c,cs=[.int .u64 d.blk.tag,.slice g d.blk.pay.length i,.slice j d.blk.txs.length k,.slice e d.ids.length f,.slice a d.chg.length c]:=by
 obtain⟨b,e,f,a,c,rfl,l,-⟩:=h
 obtain⟨g,i,j,k,rfl⟩:=l.form
 exact⟨g,i,j,k,e,f,a,c,rfl⟩
theorem jF.one {d:yB} (h:jF w d cs):cs.length=5∧∀u∈cs,u.oneCell'=true:=by
 obtain⟨g,i,j,k,e,f,b,c,rfl⟩:=h.form
 refine⟨rfl,λu a=>?_⟩
 simp only[mem_cons,not_mem_nil,or_false] at a
 rcases a with rfl|rfl|rfl|rfl|rfl<;>rfl
abbrev ziO (w:World) (m:Nat) (M:List (zd×Int)):Prop:=yD prog 41 y7 zkj w m M
def chV (p:Nat) (U:Nat→Prop) (mi:Nat) (bv:Value):Nat→Prop:=λj=>j=p∨U j∨j=mi∨bv.ownBlock=some j
def xS (l:List YC) (S:List zr):List zr:=l.foldr (λc S=>JM (JI S c.made) c.took) S
def zha:Nat→Int
 |0=> -1
 |m+1=>(m:Int)
def Jf (l:List YC):Nat:=(l.map λc=>c.took.length+c.made.length).sum
theorem zdf (S:List zr) (ps:List zE):(JI S ps).length≤S.length:=by
 unfold JI
 split
 ·exact List.length_filter_le _ _
 ·exact le_refl _
theorem zj8 (S l:List zr):(JM S l).length≤S.length+l.length:=by
 unfold JM
 split
 ·rw[(Zs l S).length_eq,length_append];exact le_refl _
 ·omega
theorem zdi:∀(l:List YC) (S:List zr),(xS l S).length≤S.length+Jf l
 |[],S=>le_refl _
 |c::l,S=>by
  have a:=zdi l S
  have b:=zdf (xS l S) c.made
  have d:=zj8 (JI (xS l S) c.made) c.took
  show(JM (JI (xS l S) c.made) c.took).length≤_
  simp only[Jf,List.map_cons,List.sum_cons] at*
  omega
theorem zgE {l:List YC} {c:YC} (S:List zr) (h:l[m]? =some c):xS (l.drop m) S=JM (JI (xS (l.drop (m+1)) S) c.made) c.took:=by
 rw[List.drop_eq_getElem_cons (List.getElem?_eq_some_iff.1 h).1,(List.getElem?_eq_some_iff.1 h).2]
 rfl
theorem zgA (l:List YC) (m:Nat):Jf (l.drop m)≤Jf l:=by
 have h:Jf (l.take m++l.drop m)=Jf (l.take m)+Jf (l.drop m):=by simp only[Jf,List.map_append,List.sum_append]
 rw[take_append_drop] at h
 omega
theorem zks {l:List YC} {c:YC} (h:l[m]? =some c):Jf (l.drop (m+1))+c.took.length+c.made.length≤Jf l:=by
 have a:=zgA l m
 rw[List.drop_eq_getElem_cons (List.getElem?_eq_some_iff.1 h).1,(List.getElem?_eq_some_iff.1 h).2] at a
 simp only[Jf,List.map_cons,List.sum_cons] at*
 omega
theorem QR (id:zd) (l:List yI):((ZJ id l).map (·.at_)).Nodup:=by
 unfold List.Nodup
 rw[List.pairwise_map,List.pairwise_iff_getElem]
 intro i j hi c d
 have a:=Vy id (l:=l) (i:=i) (getElem?_eq_getElem (by rwa [Jd] at hi))
 have b:=Vy id (l:=l) (i:=j) (getElem?_eq_getElem (by rwa [Jd] at c))
 rw[getElem?_eq_getElem hi] at a
 rw[getElem?_eq_getElem c] at b
 rw[Option.some.inj a,Option.some.inj b]
 intro e
 injection e with _ e
 omega
def vK (b:qs):List zr:=ZJ (ZS b) b.pay
theorem zb1 (b:qs):(vK b).length=b.pay.length:=Jd _ _
structure DoR where
 E:Int
 S:List zr
 d:yB
theorem zhZ {b o:Nat} (h:Kept V w (λw=>∃u,w.cell? ⟨b,o,none⟩=some u)):¬V b:=λj=>by
 have f:Fr V w {w with heap:=w.heap.setIfInBounds b (.cells #[] 0 (0,0))}:=⟨rfl,rfl,rfl,by simp,λk l g=>by
  have:b≠k:=λe=>g (e▸j)
  simp[Array.getElem?_setIfInBounds_ne this]⟩
 obtain⟨u,i⟩:=h _ f
 have a:b<w.heap.size:=by
  obtain⟨m,c⟩:=h.now
  exact World.block_lt_of_cell? w _ c
 have d:({w with heap:=w.heap.setIfInBounds b (.cells #[] 0 (0,0))}:World).heap[b]? =some (.cells #[] 0 (0,0)):=by simp[a]
 have:=zq d
 simp[World.cell?,a] at i
theorem VF {α:Type} {q:World→α→List Value→Prop} {L:List α} (F:0<k) (p:∀w d cs,q w d cs→cs.length=k) (h:Kept V w (λw=>qT k q w v L)) {i:Nat} {d:α} (y:L[i]? =some d):
  ∃b off l cs,v=.slice (some ⟨b,off,none⟩) L.length l∧¬V b∧q w d cs∧Kept V w (λw=>w.rangeAt b (off+i*k) cs∧q w d cs):=by
 obtain⟨b,off,l,cs,rfl,H,x⟩:=h.now.at_ y
 have m:∀w',Fr V w w'→∃a,w'.rangeAt b (off+i*k) a∧q w' d a:=λw' f=>by
  obtain⟨I,A,t,a,e,g,c⟩:=(h w' f).at_ y
  injection e with e1 e2 e3
  injection e1 with e1
  injection e1 with e1 e4
  subst e1
  subst e4
  exact⟨a,g,c⟩
 have z:¬V b:=zhZ (o:=off+i*k) λw' f=>by
  obtain⟨a,g,c⟩:=m w' f
  have G:=p _ _ _ c
  cases a with
  |nil=>simp at G;omega
  |cons u r=>exact⟨u,g 0 u rfl⟩
 refine⟨b,off,l,cs,rfl,z,x,λw' f=>?_⟩
 obtain⟨a,g,c⟩:=m w' f
 have:a=cs:=by
  have C:=p _ _ _ x
  have D:=p _ _ _ c
  apply List.ext_getElem (by rw[C,D])
  intro j E n
  have B:=f.cell (H j _ (getElem?_eq_getElem n)) z
  have s:=g j _ (getElem?_eq_getElem E)
  rw[B] at s
  exact(Option.some.inj s).symm
 subst this
 exact⟨g,c⟩
theorem zeJ:(prog.info? 250).map (λi=>(i.zero,i.size,i.bytes))=some (some (.agg #[.slice none 0 0,.slice none 0 0]),2,48):=by kernel_rfl
theorem zcV:(prog.info? 250).map (λi=>(i.zero,i.size))=some (some (.agg #[.slice none 0 0,.slice none 0 0]),2):=by kernel_rfl
theorem vD:(prog.info? 250).map (·.size)=some 2:=by kernel_rfl
theorem zgW:∃d,prog.underlying 250=some d∧d.isRow=true:=jf (by kernel_rfl)
theorem zbk:prog.underlying 205=some (.slice 250):=by kernel_rfl
theorem zho (w:World):(zeroValue 250).run prog w=.ok (.agg #[.slice none 0 0,.slice none 0 0]) w:=by kernel_rfl
theorem zaP {l:List zE} (h:w.ownsRow B 95 33 v l.length (l.flatMap zn)) (ok:∀x∈l,x.ok) (a:∀j,v.ownBlock=some j→¬V j):Kept V w (λw=>xL w v l):=
 λw' f=>⟨ok,(zb h f a).slice.arg⟩
structure qS (w0 w:World) (p s:Nat) (U:Nat→Prop) (mi:Nat) (bv:Value) (css:List (List Value)) (D:ChD):Prop where
 obj:w.heap[p]? =some (.cells #[.pointer (some ⟨s,0,none⟩),bv,.map (some mi)] 167 (0,0))
 set:CS w0 w s U D.S
 row:w.ownsRow w0.heap.size 207 5 bv D.bs.length (css.flatMap id)
 cl:css.length=D.bs.length
 c5:∀cs∈css,cs.length=5
 data:∀(i:Nat) (d:yB) (cs:List Value),D.bs[i]? =some d→css[i]? =some cs→Kept (chV p U mi bv) w (λw=>jF w d cs)
 map:ziO w mi D.M
 pm:p≠mi
 up:¬U p
 um:¬U mi
 rn:∀k,bv.ownBlock=some k→k≠p∧k≠mi∧¬U k
 lo1:w0.heap.size≤p
 lo2:w0.heap.size≤mi
section
variable {w0 w w':World} {p s mi:Nat} {U:Nat→Prop} {bv:Value} {css:List (List Value)} {D:ChD}
theorem qS.fr (h:qS w0 w p s U mi bv css D):Fr No w0 w:=h.set.fr
theorem qS.lo (h:qS w0 w p s U mi bv css D):∀j,chV p U mi bv j→w0.heap.size≤j:=by
 intro j a
 rcases a with rfl|a|rfl|a
 ·exact h.lo1
 ·exact h.set.lo j a
 ·exact h.lo2
 ·exact(h.row.lt j a).1
theorem qS.hi (h:qS w0 w p s U mi bv css D):∀j,chV p U mi bv j→j<w.heap.size:=by
 intro j a
 rcases a with rfl|a|rfl|a
 ·exact yF h.obj
 ·exact h.set.hi j a
 ·exact h.map.lt
 ·exact(h.row.lt j a).2
theorem qS.frV (h:qS w0 w p s U mi bv css D) {W:Nat→Prop} (f:Fr W w w') (a:∀j,chV p U mi bv j→¬W j) (c:∀j,W j→w0.heap.size≤j) (e:∀(i:Nat) (d:yB) (cs:List Value),D.bs[i]? =some d→css[i]? =some cs→Kept (chV p U mi bv) w' (λw=>jF w d cs)):qS w0 w' p s U mi bv css D:=
 {h with
  obj:=f.obj h.obj (a _ (.inl rfl))
  set:=h.set.frV f (λj b=>a j (.inr (.inl b))) c
  row:=zb h.row f (λj b=>a j (.inr (.inr (.inr b))))
  data:=e
  map:=h.map.keep f (a _ (.inr (.inr (.inl rfl))))}
theorem qS.fr0 (h:qS w0 w p s U mi bv css D) (f:Fr No w w'):qS w0 w' p s U mi bv css D:=
 h.frV f (λ_ _=>id) (λ_ h=>h.elim) (λi d cs a b=>(h.data i d cs a b).same f.of0)
theorem qS.setS (h:qS w0 w p s U mi bv css D) {b:List zr} (g:CS w0 w' s U b) (f:Fr U w w'):qS w0 w' p s U mi bv css ⟨b,D.bs,D.M⟩:=
 {h with
  obj:=f.obj h.obj h.up
  set:=g
  row:=zb h.row f (λj a=>(h.rn j a).2.2)
  data:=λi d cs c e=>(h.data i d cs c e).same (f.mono (λj a=>.inr (.inl a)))
  map:=h.map.keep f h.um}
theorem qS.cells (h:qS w0 w p s U mi bv css D):w.cell? ⟨p,0,none⟩=some (.pointer (some ⟨s,0,none⟩))∧w.cell? ⟨p,1,none⟩=some bv∧w.cell? ⟨p,2,none⟩=some (.map (some mi)):=by
 have:=zq h.obj
 exact⟨by simpa using this 0 _ rfl,by simpa using this 1 _ rfl,by simpa using this 2 _ rfl⟩
end
def Ch (w0 w:World) (p:Nat) (V:Nat→Prop) (D:ChD):Prop:=∃s U mi bv css,qS w0 w p s U mi bv css D∧V=chV p U mi bv
theorem Ch.fr0 {w0 w w':World} {p:Nat} {D:ChD} (h:Ch w0 w p V D) (f:Fr No w w'):Ch w0 w' p V D:=by
 obtain⟨s,U,mi,bv,css,h,e⟩:=h
 exact⟨s,U,mi,bv,css,h.fr0 f,e⟩
theorem Ch.fr {w0 w:World} {p:Nat} {D:ChD} (h:Ch w0 w p V D):Fr No w0 w:=by
 obtain⟨s,U,mi,bv,css,h,e⟩:=h
 exact h.fr
theorem Ch.lo {w0 w:World} {p:Nat} {D:ChD} (h:Ch w0 w p V D):∀j,V j→w0.heap.size≤j:=by
 obtain⟨s,U,mi,bv,css,h,rfl⟩:=h
 exact h.lo
theorem zfS {w0 w:World} {p:Nat} {D:ChD} (h:Ch w0 w p V D) {q:zE} (v:q.ok):Calls prog 126 #[.pointer (some ⟨p,0,none⟩),.agg (zn q).toArray] w λe w'=>e=.returned (.tuple #[.agg (zJ (yl D.S q)).toArray,.bool (xJ D.S q)])∧Fr No w w':=by
 obtain⟨s,U,mi,bv,css,h,-⟩:=h
 obtain⟨I,G,F⟩:=YJ
 have N:=y9
 have B:=J (z6 v)
 have k:=J (vI h.set.ok q)
 have c:=J (yz k.o)
 have u:Fr No w ((w.alloc (.cells (zn q).toArray 95)).alloc (.cells (zJ y6).toArray 103)).drew:=(((frN w).alloc _).alloc _).drew
 have A:=J (λw' (f:Fr No w w')=>zf8 (h.set.fr0 f) v)
 have a:Fr No (w.alloc (.cells (zn q).toArray 95)) ((w.alloc (.cells (zn q).toArray 95)).alloc (.cells (zJ y6).toArray 103)).drew:=((frN _).alloc _).drew
 have g:=J (λw' (f:Fr No w w')=>(h.fr0 f).cells.1)
 have t:=J (za (zy w (zn q) 95) a id)
 have z:=J ((frN _).drew.obj (yJ (w.alloc (.cells (zn q).toArray 95)) (.cells (zJ y6).toArray 103) (n:=w.heap.size+1) (by simp)) id)
 have j:=J u
 clear h u a
 go_enter Tryz.func126,Tryz.ntmps126
 go_wp2_with fail
 generalize ((w.alloc (.cells (zn q).toArray 95)).alloc (.cells (zJ y6).toArray 103))=M at*
 refine wrLx [ff,ff,ff,ff,ff,tt,ff,ff,tt,ff] (λw'=>w'.cell? ⟨p,0,none⟩=some (.pointer (some ⟨s,0,none⟩))∧w'.rangeAt w.heap.size 0 (zn q)) ?_ (λK hK=>?_)
 ·exact⟨g.o _ j.o,t.o⟩
 repeat((first|(refine zl rfl ?_;constructor;constructor;(focus(first|exact zof rfl (λw h=>h.2) B.o|(rintro w' ⟨x,y⟩;exact goS))))|(refine zm rfl ?_));try simp only[Act.put,pA,pB,pC])
 (refine zF rfl (λK' hK'=>?_))
 go_simp
 refine(A.o _ j.o).mono ?_
 rintro e H ⟨rfl,d⟩
 have m:=J (j.o.trans0 d)
 have l:=J (d.obj z.o id)
 have r:=J (za t.o d id)
 clear d
 generalize E:yl D.S q=X at*
 generalize C:xJ D.S q=L at*
 refine nXt hK' ?_ λhS=>?_
 ·exact⟨g.o _ m.o,r.o⟩
 try simp only[Act.put,pA,pB,pC]
 repeat((first|(refine zl rfl ?_;constructor;constructor;(focus(first|(rintro w' ⟨x,y⟩;exact goS))))|(refine zm rfl ?_));try simp only[Act.put,pA,pB,pC])
 (refine zF rfl (λK' hK'=>?_))
 refine yN (zK (ty:=103) (b:=w.heap.size+1) (off:=0) (cs:=zJ X) rfl rfl rfl (by rw[c.o];exact zX l.o (le_of_eq yA.symm)) (by rw[c.o];exact yG) yf) ?_
 have o:=@J (Fr No w (H.setCells (w.heap.size+1) 0 (zJ X))) (m.o.trans (zu _ _ _ _) (λi hi e=>by omega))
 refine nXt hK' ?_ λhS=>?_
 ·exact⟨g.o _ o.o,za r.o (zu _ _ _ _) (λe=>by omega)⟩
 try simp only[Act.put,pA,pB,pC]
 repeat((first|(refine zl rfl ?_;constructor;constructor;(focus(first|(rintro w' ⟨x,y⟩;exact goS))))|(refine zm rfl ?_));try simp only[Act.put,pA,pB,pC])
 refine zL (hK.out _ _ ?_)
 go_wp2_with fail
 refine bodyPost_ret (ym (P:=prog) (fn:=Tryz.f126) rfl _ rfl (yx l.o (by rw[c.o];exact yA)) G F (by rw[c.o];exact yG) rfl) rfl ⟨by rw[E,C];rfl,o.o⟩
theorem zfm (w:World):(Instr.makeMap 120 none).run prog w=.ok (.map (some w.heap.size)) (w.alloc (.map #[] 0)):=by kernel_rfl
theorem zi0 (s m:Nat) (w:World):(Instr.build 167 #[(0,.pointer (some ⟨s,0,none⟩)),(2,.map (some m))]).run prog w=.ok (.agg #[.pointer (some ⟨s,0,none⟩),.slice none 0 0,.map (some m)]) w:=by kernel_rfl
def zfR (l:List yI):ChD:=⟨jV [] (ZJ yR l),[],[]⟩
theorem zhA (w:World) {l:List yI} (c:xu w v l) (y:l.length≤256):
  Calls prog 35 #[v] w λe w'=>∃p,e=.returned (.tuple #[.pointer (some ⟨p,0,none⟩),.int .i64 0])∧∃V,Ch w w' p V (zfR l):=by
 have O:decide ((256:Int)<(l.length:Int))=false:=by simp;omega
 have B:=J (VA w xM c (by omega))
 have H:=J (Vz xM c.1 (by omega))
 have A:=J y
 obtain⟨R,S,rfl⟩:=c.2.form
 clear c y
 go_enter Tryz.func35,Tryz.ntmps35
 have⟨C,D,E,F⟩:=tZ4
 go_wp2_with ((first|((with_reducible refine zt ?_);first|(clear C;with_reducible refine yv 10 ?_;refine zg rfl (yk (t:=41) rfl rfl (Xh _)) ?_)|(clear F;with_reducible refine yv 18 ?_;refine zg rfl (yk (t:=167) rfl rfl (zi0 _ _ _)) ?_))|(clear D;go_at_call 70;refine B.o.mono ?_;rintro e z ⟨M,rfl,n,r⟩;have g:=J r;have G:=@J (qY z M (ZJ yR l)) (⟨H.o,by rw[Jd];exact n.slice.arg⟩);obtain⟨P,Q,m⟩:=n.slice.arg.form;subst m;clear n r)|(clear E;go_at_call 69;refine(zl7 w z g.o G.o (by rw[Jd];have:=A.o;omega) (QR _ _)).mono ?_;rintro e a ⟨s,rfl,U,b,u,K⟩;have f:=J b;have q:=J u;clear b u K;have L:=zfm a));go_frame)
 have I:=(frN a).alloc (.map #[] 0)
 have x:=(frN (a.alloc (.map #[] 0))).alloc (.cells #[.pointer (some ⟨s,0,none⟩),.slice none 0 0,.map (some a.heap.size)] 167)
 have N:(a.alloc (.map #[] 0)).heap.size=a.heap.size+1:=by simp
 have j:=yj (a.alloc (.map #[] 0)) (.cells #[.pointer (some ⟨s,0,none⟩),.slice none 0 0,.map (some a.heap.size)] 167)
 have o:=@J (qS w _ (a.alloc (.map #[] 0)).heap.size s U a.heap.size (.slice none 0 0) [] (zfR l)) ({obj:=j,set:=(f.o.fr0 I).fr0 x,row:=World.ownsRow_nil _ _ _ 5,cl:=rfl,c5:=(λcs h=>by cases h),data:=(λi d cs h=>by simp[zfR] at h),map:=(show ziO (a.alloc (.map #[] 0)) a.heap.size [] from yD.made a).keep x id,pm:=(by omega),up:=(λh=>by have:=f.o.hi _ h;omega),um:=(λh=>by have:=f.o.hi _ h;omega),rn:=(λk h=>by cases h),lo1:=(by have:=g.o.size;have:=q.o.size;omega),lo2:=(by have:=g.o.size;have:=q.o.size;omega)})
 rw[N] at o
 go_ret2
 exact⟨_,rfl,_,_,_,_,_,_,o.o,rfl⟩
structure jR {α:Type} (B:Nat) (ty:TypeId) (k:Nat) (q:World→α→List Value→Prop) (V:Nat→Prop) (w:World) (v:Value) (L:List α) (css:List (List Value)):Prop where
 row:w.ownsRow B ty k v L.length (css.flatMap id)
 cl:css.length=L.length
 ck:∀cs∈css,cs.length=k
 data:∀(i:Nat) (d:α) (cs:List Value),L[i]? =some d→css[i]? =some cs→Kept (λj=>V j∨v.ownBlock=some j) w (λw=>q w d cs)
section
variable {α:Type} {B:Nat} {ty:TypeId} {k:Nat} {q:World→α→List Value→Prop} {V:Nat→Prop} {w w':World} {v:Value} {L:List α} {css:List (List Value)}
theorem jR.nil (B:Nat) (ty:TypeId) (k:Nat) (q:World→α→List Value→Prop) (V:Nat→Prop) (w:World):jR B ty k q V w (.slice none 0 0) ([]:List α) []:=
 ⟨World.ownsRow_nil w B ty k,rfl,λ_ h=>(by cases h),λi d cs h=>by simp at h⟩
theorem jR.form (h:jR B ty k q V w v L css):∃a c,v=.slice a L.length c:=h.row.slice.arg.form
theorem jR.lt (h:jR B ty k q V w v L css):∀j,v.ownBlock=some j→B≤j∧j<w.heap.size:=λj a=>h.row.lt j a
theorem jR.fr (h:jR B ty k q V w v L css) {W:Nat→Prop} (f:Fr W w w') (m:∀j,j<w.heap.size→W j→V j) (a:∀j,v.ownBlock=some j→¬W j):jR B ty k q V w' v L css:=
 ⟨zb h.row f a,h.cl,h.ck,λi d cs g l=>(h.data i d cs g l).step ((Fr.mono (W:=λj=>W j∧j<w.heap.size) ⟨f.os,f.tape,f.output,f.size,λk c a=>f.block k c (λe=>a ⟨e,c⟩)⟩ (λj b=>.inl (m j b.2 b.1)))) (λ_ _ e=>e)⟩
theorem jR.fr0 (h:jR B ty k q V w v L css) (f:Fr No w w'):jR B ty k q V w' v L css:=h.fr f (λ_ _ e=>e.elim) (λ_ _ e=>e)
theorem jR.vary (h:jR B ty k q V w v L css) {V':Nat→Prop} (c:∀j,j<w.heap.size→V' j→V j):jR B ty k q V' w v L css:=
 ⟨h.row,h.cl,h.ck,λi d cs a b=>(h.data i d cs a b).step (Fr.refl _ _) (λj f e=>e.imp_left (c j f))⟩
theorem jR.append {P:Program} {t ty2:TypeId} {bytes:Nat} {z:Value} (h:jR B ty k q V w v L css) (I:P.underlying t=some (.slice ty)) (a:(P.info? ty).map (λi=>(i.zero,i.size,i.bytes))=some (some z,k,bytes)) (y:z.cells.size=k) (r:0<k)
  {d:α} {cs:List Value} (H:Kept (λj=>V j∨v.ownBlock=some j) w (λw=>q w d cs)) (m:cs.length=k) (F:∀u∈cs,u.oneCell'=true) (o:(L.length+1)*bytes≤140737488355328) (s:L.length+1≤maxLen) (G:B≤w.heap.size):
  ∃g w',(Builtin.append_ #[t,t] ty2 #[v,.slice (some ⟨w.heap.size,0,none⟩) 1 1]).run P (w.alloc (.cells cs.toArray ty))=.ok g w'∧jR B ty k q V w' g (L++[d]) (css++[cs])∧Fr (λj=>v.ownBlock=some j) w w'∧∀j,g.ownBlock=some j→v.ownBlock=some j∨w.heap.size≤j:=by
 obtain⟨g,w',D,E,n,K,A⟩:=yY (P:=P) w B t ty2 ty k bytes z I a y r h.row cs m F o s G
 refine⟨g,w',D,⟨?_,?_,?_,?_⟩,n,A⟩
 ·rw[length_append,flatMap_append]
  simpa using E
 ·rw[length_append,length_append,h.cl];rfl
 ·intro x f
  rcases mem_append.1 f with f|f
  ·exact h.ck x f
  ·simp at f;subst f;exact m
 ·intro i e c b l
  have C:∀j,j<w.heap.size→(V j∨g.ownBlock=some j)→(V j∨v.ownBlock=some j):=λj M e=>e.imp_right (λe=>(A j e).resolve_right (by omega))
  by_cases hi:i<L.length
  ·rw[getElem?_append_left hi] at b
   rw[getElem?_append_left (by rw[h.cl];exact hi)] at l
   exact(h.data i e c b l).step (n.mono (λj e=>.inr e)) C
  ·have p:i=L.length:=by have:=(List.getElem?_eq_some_iff.1 b).1;simp only[length_append,length_singleton] at this;omega
   subst p
   rw[getElem?_append_right (le_refl _),sub_self] at b
   rw[getElem?_append_right (by rw[h.cl];exact le_refl _),h.cl,sub_self] at l
   simp at b l
   subst b
   subst l
   exact H.step (n.mono (λj e=>.inr e)) C
theorem jR.rows (h:jR B ty k q V w v L css) (a:0<k) (b:L.length≤maxLen) (l:∀j,j<w.heap.size→U j→V j) (n:∀j,v.ownBlock=some j→¬U j):Kept U w (λw=>qT k q w v L):=λw' f=>by
 refine qT.own a (zb h.row f n) h.cl h.ck b (λi d cs c g=>?_)
 refine((h.data i d cs c g).step (V':=U) (Fr.refl _ _) (λj m e=>.inl (l j m e))) w' f
end
theorem zbO {k:List Int} (h:qI w B v k) (ok:∀b∈k,0≤b∧b≤255) (a:∀j,V j→j<B):Kept V w (λw=>zbo w v k):=
 λw' f=>⟨ok,(zb h f (λb c d=>by have:=(h.lt b c).1;have:=a b d;omega)).slice.arg⟩
theorem zj5:xH prog 108=some (34,[(0,33),(33,1)]):=by kernel_rfl
theorem zkZ {p:zE} (e:p.ok) (a:Option Addr) (n c:Nat):Jx (([(0,33),(33,1)]:List (Nat×Nat)).toArray[·]?) 0 [(0,.agg (zn p).toArray),(1,.slice a n c)]:=by
 have b:(Value.agg (zn p).toArray).cells.size=33:=by show(zn p).toArray.size=33;simpa using z6 e
 have d:(Value.slice a n c).cells.size=1:=rfl
 simp only[Jx,b,d]
 exact⟨rfl,rfl,trivial⟩
theorem zj4 (p:zE) (a:Option Addr) (n c:Nat):xE [(0,.agg (zn p).toArray),(1,.slice a n c)]=inC p (.slice a n c):=by
 have b:(Value.agg (zn p).toArray).cells.toList=zn p:=by show(zn p).toArray.toList=_;simp
 have d:(Value.slice a n c).cells.toList=[.slice a n c]:=rfl
 simp only[xE,List.flatMap_cons,List.flatMap_nil,b,d,inC,List.append_nil]
theorem Vs:(prog.info? 108).map (λi=>(i.zero,i.size))=some (some (.agg (inC xN (.slice none 0 0)).toArray),34):=by kernel_rfl
theorem zeL:(prog.info? 34).map (λi=>(i.zero,i.size))=some (some (.agg (txC 0 (.slice none 0 0) (.slice none 0 0)).toArray),3):=by kernel_rfl
theorem jZ (w:World):(zeroValue 34).run prog w=.ok (.agg (txC 0 (.slice none 0 0) (.slice none 0 0)).toArray) w:=by kernel_rfl
theorem zi3 (t:Int) (a:Option Addr) (n c:Nat) (w:World):(Instr.build 34 #[(0,.int .u32 t),(2,.slice a n c)]).run prog w=.ok (.agg [.int .u32 t,.slice none 0 0,.slice a n c].toArray) w:=by kernel_rfl
theorem qM (e:a.oneCell'=true) (f:b.oneCell'=true) (g:c.oneCell'=true):∀u∈[a,b,c],u.oneCell'=true:=λu d=>by
 simp only[mem_cons,not_mem_nil,or_false] at d
 rcases d with rfl|rfl|rfl
 ·exact e
 ·exact f
 ·exact g
def zgJ (T:TypeId) (B:Nat) (l:List yI) (z:Option Addr→Nat→List Value) (w2:World) (s:Value) (wc:World):Prop:=
 ∃qd pa pc,s=.pointer (some ⟨qd,0,none⟩)∧B≤qd∧Fr No w2 wc∧wc.heap[qd]? =some (.cells (z pa pc).toArray T (0,0))∧wc.ownsRow B 103 33 (.slice pa l.length pc) l.length (l.flatMap zJ)∧∀j,(Value.slice pa l.length pc).ownBlock=some j→j≠qd
abbrev zgG (t:Int) (n:Nat) (pa:Option Addr) (pc:Nat):List Value:=[.int .u64 t,.slice pa n pc,.slice none 0 0]
abbrev zTx (t:Int) (n:Nat) (pa:Option Addr) (pc:Nat):List Value:=[.int .u32 t,.slice none 0 0,.slice pa n pc]
def zn0 (wc:World) (qd:Nat) (b:qs) (pa:Option Addr) (pc:Nat) (n:Nat) (wr:World):Prop:=
 ∃tv css,wr.heap[qd]? =some (.cells #[.int .u64 b.tag,.slice pa b.pay.length pc,tv] 55 (0,0))∧jR wc.heap.size 34 3 TxQ (λj=>j<wc.heap.size) wr tv (b.txs.take n) css∧Fr (λj=>j=qd) wc wr
def znZ (wd:World) (qu:Nat) (t:TxD) (va:Option Addr) (vc:Nat) (m:Nat) (wi:World):Prop:=
 ∃iv ics,wi.heap[qu]? =some (.cells #[.int .u32 t.ver,iv,.slice va t.outs.length vc] 34 (0,0))∧jR wd.heap.size 108 34 InQ (λj=>j<wd.heap.size) wi iv (t.ins.take m) ics∧Fr (λj=>j=qu) wd wi
theorem zlg (w:World) {b:qs} (ht:jE w b cs) (hN:b.pay.length≤1000) (hT:b.txs.length≤1000) (hI:∀t∈b.txs,t.ins.length≤1000∧t.outs.length≤1000∧∀x∈t.ins,x.key.length≤1000):
  Calls prog 95 #[.agg cs.toArray] w (zl2 w b):=by
 obtain⟨ia,ic,oa,oc,rfl,hv,ho,a7⟩:=ht
 have zB:=YY
 have zT:=jZ
 have zI:=Yb
 have f1:Fr No w (w.alloc (.cells #[.int .u64 b.tag,.slice ia b.pay.length ic,.slice oa b.txs.length oc] 55)):=(frN w).alloc _
 have ah:Fr No (w.alloc (.cells #[.int .u64 b.tag,.slice ia b.pay.length ic,.slice oa b.txs.length oc] 55)) _:=(frN _).alloc (.cells Jw.toArray 55)
 obtain⟨c0,c1,c2,-⟩:=Yw w (.int .u64 b.tag) (.slice ia b.pay.length ic) (.slice oa b.txs.length oc) 55
 have C0:=J (ah.cell c0 _root_.id)
 have C1:=J (ah.cell c1 _root_.id)
 have C2:=J (ah.cell c2 _root_.id)
 have F2:=J (f1.trans0 ah)
 have B2:=J (yJ (w.alloc (.cells #[.int .u64 b.tag,.slice ia b.pay.length ic,.slice oa b.txs.length oc] 55)) (.cells Jw.toArray 55) (n:=w.heap.size+1) (by simp))
 have HO:=J (ho.keep F2.o)
 have bk:=J (a7.keep0 F2.o)
 have Z2:=@J (((w.alloc (.cells #[.int .u64 b.tag,.slice ia b.pay.length ic,.slice oa b.txs.length oc] 55)).alloc (.cells Jw.toArray 55)).heap.size=w.heap.size+2) (by simp)
 have HN:=J hN
 have HI:=J hI
 have HV:=J hv
 clear c0 c1 c2 f1 ah ho hv hN a7 hI
 show Calls prog 95 #[.agg #[.int .u64 b.tag,.slice ia b.pay.length ic,.slice oa b.txs.length oc]] w _
 go_enter Tryz.func95,Tryz.ntmps95
 go_wp2_with fail
 generalize (w.alloc (.cells #[.int .u64 b.tag,.slice ia b.pay.length ic,.slice oa b.txs.length oc] 55)).alloc (.cells Jw.toArray 55)=w2 at*
 go_cut [3] from 9 to 14 (λs3 wc=>zgJ 55 w2.heap.size b.pay (zgG b.tag b.pay.length) w2 s3 wc)
 case first=>
  have I:=J (frN w2).drew
  have af:=J (HO.o.keep I.o)
  have d:=J (I.o.cell C0.o _root_.id)
  have g:=J (I.o.cell C1.o _root_.id)
  have Zd:=@J (w2.drew.heap.size=w2.heap.size) (rfl)
  refine vQ 8 [0,1,2,3,4,5,6,7] (λw'=>w'.cell? ⟨w.heap.size,0,none⟩=some (.int .u64 b.tag)∧w'.cell? ⟨w.heap.size,1,none⟩=some (.slice ia b.pay.length ic)) (by kernel_rfl) (by kernel_rfl) (by kernel_rfl) (by kernel_rfl) ?_ (λK hK=>?_)
  ·exact⟨d.o,g.o⟩
  generalize w2.drew=E at*
  (((first|(refine zV 0 (by kernel_rfl) rfl rfl ?_;apply Exists.intro;refine⟨?_,?_⟩;(focus(first|(intro w' hS;obtain⟨Z,s2⟩:=hS;exact goS))))|(refine zW 0 (by kernel_rfl) rfl rfl ?_));try simp only[Act.put,pA,pB,pC]);((first|(refine zV 1 (by kernel_rfl) rfl rfl ?_;apply Exists.intro;refine⟨?_,?_⟩;(focus(first|(intro w' hS;obtain⟨Z,s2⟩:=hS;exact goS))))|(refine zW 1 (by kernel_rfl) rfl rfl ?_));try simp only[Act.put,pA,pB,pC]);((first|(refine zV 2 (by kernel_rfl) rfl rfl ?_;apply Exists.intro;refine⟨?_,?_⟩;(focus(first|(intro w' hS;obtain⟨Z,s2⟩:=hS;exact goS))))|(refine zW 2 (by kernel_rfl) rfl rfl ?_));try simp only[Act.put,pA,pB,pC]);((first|(refine zV 3 (by kernel_rfl) rfl rfl ?_;apply Exists.intro;refine⟨?_,?_⟩;(focus(first|(intro w' hS;obtain⟨Z,s2⟩:=hS;exact goS))))|(refine zW 3 (by kernel_rfl) rfl rfl ?_));try simp only[Act.put,pA,pB,pC]))
  refine J0 4 6 (by kernel_rfl) rfl rfl rfl rfl (λK' hK'=>?_) (λK' hK'=>?_)
  ·obtain⟨pv,F,X,u,Y,-⟩:=ZY E (k:=[]) (World.ownsRow_nil E w2.heap.size _ 33) af.o (by have:=HN.o;simp;omega) (by have:=Zd.o;omega) 22
   rw[length_nil,zero_add,nil_append] at u
   obtain⟨l,o,R⟩:=u.slice.arg.form
   subst R
   have A1:=J X
   have y:=@J (Fr No E F) (Y.mono (λj e=>by cases e))
   have O4:=J u
   clear X u Y
   refine yr rfl rfl rfl A1.o ?_
   refine nXt hK' ?_ λhS=>?_
   ·exact⟨y.o.cell d.o _root_.id,y.o.cell g.o _root_.id⟩
   try simp only[Act.put,pA,pB,pC]
   (((first|(refine zV 5 (by kernel_rfl) rfl rfl ?_;apply Exists.intro;refine⟨?_,?_⟩;(focus(first|exact λw' _=>yk (t:=55) rfl rfl (zgP _ _ _ _ _)|(intro w' hS;obtain⟨Z,s2⟩:=hS;exact goS))))|(refine zW 5 (by kernel_rfl) rfl rfl ?_));try simp only[Act.put,pA,pB,pC]))
   refine yE 6 (by kernel_rfl) rfl rfl (λK' hK'=>?_)
   refine yg (yw rfl (YY _)) ?_
   have N:=J ((frN F).alloc (.cells (Jw).toArray 55))
   refine nXt hK' ?_ λhS=>?_
   ·exact⟨N.o.cell (y.o.cell d.o _root_.id) _root_.id,N.o.cell (y.o.cell g.o _root_.id) _root_.id⟩
   try simp only[Act.put,pA,pB,pC]
   refine yE 7 (by kernel_rfl) rfl rfl (λK' hK'=>?_)
   refine yN (zj (w:=F) (ty:=55) (cs:=(zgG b.tag b.pay.length) l o) rfl rfl rfl rfl JS (qM rfl rfl rfl)) ?_
   have O:=J ((frN F).alloc (.cells ((zgG b.tag b.pay.length) l o).toArray 55))
   refine nXt hK' ?_ λhS=>?_
   ·exact⟨O.o.cell (y.o.cell d.o _root_.id) _root_.id,O.o.cell (y.o.cell g.o _root_.id) _root_.id⟩
   try simp only[Act.put,pA,pB,pC]
   refine vn (hK.out _ _ ?_)
   go_wp2_with fail
   go_meet
   case rel=>exact⟨F.heap.size,l,o,rfl,by have:=y.o.size;have:=Zd.o;omega,I.o.trans0 (y.o.trans0 O.o),yj F (.cells ((zgG b.tag b.pay.length) l o).toArray 55),zb O4.o O.o (λ_ _=>_root_.id),λj a e=>by have:=(O4.o.lt j a).2;omega⟩
  ·refine yg (yw rfl (YY _)) ?_
   have N:=J ((frN E).alloc (.cells (Jw).toArray 55))
   have B5:=J (yj E (.cells (Jw).toArray 55))
   have Q5:=@J ((E.alloc (.cells (Jw).toArray 55)).heap.size=E.heap.size+1) (by simp)
   generalize E.alloc (.cells (Jw).toArray 55)=F at*
   generalize au:E.heap.size=G at*
   refine nXt hK' ?_ λhS=>?_
   ·exact⟨N.o.cell d.o _root_.id,N.o.cell g.o _root_.id⟩
   try simp only[Act.put,pA,pB,pC]
   refine yE 4 (by kernel_rfl) rfl rfl (λK' hK'=>?_)
   obtain⟨pv,w5,X,u,Y,-⟩:=ZY F (k:=[]) (World.ownsRow_nil F (w2.heap.size+1) _ 33) (af.o.keep N.o) (by have:=HN.o;simp;omega) (by have:=Zd.o;have:=Q5.o;omega) 22
   rw[length_nil,zero_add,nil_append] at u
   obtain⟨l,o,R⟩:=u.slice.arg.form
   subst R
   have A1:=J X
   have y:=@J (Fr No F w5) (Y.mono (λj e=>by cases e))
   have O4:=J u
   clear X u Y
   refine yr rfl rfl rfl A1.o ?_
   have L:=J (N.o.trans0 y.o)
   have aa:=J (y.o.obj B5.o _root_.id)
   refine nXt hK' ?_ λhS=>?_
   ·exact⟨L.o.cell d.o _root_.id,L.o.cell g.o _root_.id⟩
   try simp only[Act.put,pA,pB,pC]
   (((first|(refine zV 5 (by kernel_rfl) rfl rfl ?_;apply Exists.intro;refine⟨?_,?_⟩;(focus(first|exact λw' _=>yk (t:=55) rfl rfl (zgP _ _ _ _ _)|(intro w' hS;obtain⟨Z,s2⟩:=hS;exact goS))))|(refine zW 5 (by kernel_rfl) rfl rfl ?_));try simp only[Act.put,pA,pB,pC]))
   refine yE 7 (by kernel_rfl) rfl rfl (λK' hK'=>?_)
   refine yN (zK (ty:=55) (b:=G) (off:=0) (cs:=(zgG b.tag b.pay.length) l o) rfl rfl rfl (zX aa.o (le_refl 3)) JS (qM rfl rfl rfl)) ?_
   have O:=J (zu G ((zgG b.tag b.pay.length) l o) 0 w5)
   have M:=@J (Fr No E _) (L.o.trans O.o (λi hi e=>by omega))
   refine nXt hK' ?_ λhS=>?_
   ·exact⟨M.o.cell d.o _root_.id,M.o.cell g.o _root_.id⟩
   try simp only[Act.put,pA,pB,pC]
   refine vn (hK.out _ _ ?_)
   go_wp2_with fail
   go_meet
   case rel=>exact⟨G,l,o,rfl,by have:=Zd.o;omega,I.o.trans0 M.o,Yj (cs:=(zgG b.tag b.pay.length) l o) aa.o rfl,yU (zb O4.o O.o (λj a e=>by have:=(O4.o.lt j a).1;have:=Zd.o;omega)) (Nat.le_succ _),λj a e=>by have:=(O4.o.lt j a).1;have:=Zd.o;omega⟩
 case rest=>
  rename World=>wz
  obtain⟨G,l,o,rfl,au,fc,bq,op,aX⟩:=hcut
  have FC:=J fc
  have BQ:=J bq
  have OP:=J op
  have QD:=J au
  have NQ:=J aX
  have bf:=J (fc.cell C2.o _root_.id)
  have c2:=bf.o
  have bc:=J (fc.obj B2.o _root_.id)
  have QL:=J (yF bq)
  clear fc bq op au aX
  go_wp2_with fail
  clear c2
  go_loopw [18] (λiv wr=>∃n:Nat,iv=.int .i64 n∧n≤b.txs.length∧zn0 wz G b l o n wr) (λiv _=>b.txs.length-(intOf iv).toNat)
  case atStart=>exact⟨0,rfl,zero_le _,.slice none 0 0,[],BQ.o,jR.nil _ _ _ _ _ _,Fr.refl _ _⟩
  case round=>
   obtain⟨n,rfl,hn,tv,css,aU,aG,fr⟩:=hrel
   have FR:=J fr
   have az:=J aU
   have KR:=J aG
   have FW:=@J (Fr No w2 wr) (FC.o.trans fr (λj a e=>by have:=QD.o;omega))
   obtain⟨q,r,a8⟩:=aG.form
   rw[length_take,min_eq_left hn] at a8
   subst a8
   clear fr aU aG
   by_cases bA:n<b.txs.length
   ·have i1:(n:Int)<(b.txs.length:Int):=by omega
    obtain⟨t,hx⟩:∃x,b.txs[n]? =some x:=⟨_,getElem?_eq_getElem bA⟩
    have HX:=J hx
    obtain⟨bb,off,bH,ts,bD,hr,hq⟩:=(bk.o.keep0 FW.o).at_ hx
    cases bD
    obtain⟨ja,jc,ka,kc,rfl,al,ax,ak⟩:=hq
    have TV:=J al
    have R1:=@J (wr.rangeAt bb (off+n*3) [.int .u32 t.ver,.slice ja t.ins.length jc,.slice ka t.outs.length kc]) (hr)
    have TI:=J (HI.o t (mem_of_getElem? hx))
    have QA:=@J (wr.heap.size<(wr.alloc (.cells #[.int .u32 t.ver,.slice ja t.ins.length jc,.slice ka t.outs.length kc] 34)).heap.size) (by simp)
    have FA:=J ((frN wr).alloc (.cells #[.int .u32 t.ver,.slice ja t.ins.length jc,.slice ka t.outs.length kc] 34))
    obtain⟨d0,d1,d2,-⟩:=Yw wr (.int .u32 t.ver) (.slice ja t.ins.length jc) (.slice ka t.outs.length kc) 34
    have D0:=J d0
    have D1:=J d1
    have D2:=J d2
    have aM:=J (ak.keep FA.o)
    have bj:=J (ax.keep0 FA.o)
    clear hr hx al ax ak d0 d1 d2
    have⟨K0,K1⟩:=tZ2
    go_wp2_with ((first|((with_reducible refine zt ?_);clear K0;refine zoa rfl rfl rfl R1.o rfl ?_)|((with_reducible refine zv ?_);clear K1;refine zi rfl (zj (w:=wr) (ty:=34) (cs:=[.int .u32 t.ver,.slice ja t.ins.length jc,.slice ka t.outs.length kc]) rfl rfl rfl rfl y5 (qM rfl rfl rfl)) ?_;generalize wr.alloc (.cells #[.int .u32 t.ver,.slice ja t.ins.length jc,.slice ka t.outs.length kc] 34)=wq at*));go_frame)
    have aT:=J TI.o.2.1
    go_cut [6] from 22 to 27 (λs6 wd=>zgJ 34 wq.heap.size t.outs (zTx t.ver t.outs.length) wq s6 wd)
    case first=>
     have I:=J (frN wq).drew
     have af:=J (aM.o.keep I.o)
     have d:=J (I.o.cell D0.o _root_.id)
     have g:=J (I.o.cell D2.o _root_.id)
     have Zd:=@J (wq.drew.heap.size=wq.heap.size) (rfl)
     refine vQ 8 [0,1,2,3,4,5,6,7] (λw'=>w'.cell? ⟨wr.heap.size,0,none⟩=some (.int .u32 t.ver)∧w'.cell? ⟨wr.heap.size,2,none⟩=some (.slice ka t.outs.length kc)) (by kernel_rfl) (by kernel_rfl) (by kernel_rfl) (by kernel_rfl) ?_ (λK hK=>?_)
     ·exact⟨d.o,g.o⟩
     generalize wq.drew=E at*
     (((first|(refine zV 0 (by kernel_rfl) rfl rfl ?_;apply Exists.intro;refine⟨?_,?_⟩;(focus(first|(intro w' hS;obtain⟨Z,s2⟩:=hS;exact goS))))|(refine zW 0 (by kernel_rfl) rfl rfl ?_));try simp only[Act.put,pA,pB,pC]);((first|(refine zV 1 (by kernel_rfl) rfl rfl ?_;apply Exists.intro;refine⟨?_,?_⟩;(focus(first|(intro w' hS;obtain⟨Z,s2⟩:=hS;exact goS))))|(refine zW 1 (by kernel_rfl) rfl rfl ?_));try simp only[Act.put,pA,pB,pC]);((first|(refine zV 2 (by kernel_rfl) rfl rfl ?_;apply Exists.intro;refine⟨?_,?_⟩;(focus(first|(intro w' hS;obtain⟨Z,s2⟩:=hS;exact goS))))|(refine zW 2 (by kernel_rfl) rfl rfl ?_));try simp only[Act.put,pA,pB,pC]);((first|(refine zV 3 (by kernel_rfl) rfl rfl ?_;apply Exists.intro;refine⟨?_,?_⟩;(focus(first|(intro w' hS;obtain⟨Z,s2⟩:=hS;exact goS))))|(refine zW 3 (by kernel_rfl) rfl rfl ?_));try simp only[Act.put,pA,pB,pC]))
     refine J0 4 6 (by kernel_rfl) rfl rfl rfl rfl (λK' hK'=>?_) (λK' hK'=>?_)
     ·obtain⟨pv,F,X,u,Y,-⟩:=ZY E (k:=[]) (World.ownsRow_nil E wq.heap.size _ 33) af.o (by have:=aT.o;simp;omega) (by have:=Zd.o;omega) 22
      rw[length_nil,zero_add,nil_append] at u
      obtain⟨l,o,R⟩:=u.slice.arg.form
      subst R
      have A1:=J X
      have y:=@J (Fr No E F) (Y.mono (λj e=>by cases e))
      have O4:=J u
      clear X u Y
      refine yr rfl rfl rfl A1.o ?_
      refine nXt hK' ?_ λhS=>?_
      ·exact⟨y.o.cell d.o _root_.id,y.o.cell g.o _root_.id⟩
      try simp only[Act.put,pA,pB,pC]
      (((first|(refine zV 5 (by kernel_rfl) rfl rfl ?_;apply Exists.intro;refine⟨?_,?_⟩;(focus(first|exact λw' _=>yk (t:=34) rfl rfl (zi3 _ _ _ _ _)|(intro w' hS;obtain⟨Z,s2⟩:=hS;exact goS))))|(refine zW 5 (by kernel_rfl) rfl rfl ?_));try simp only[Act.put,pA,pB,pC]))
      refine yE 6 (by kernel_rfl) rfl rfl (λK' hK'=>?_)
      refine yg (yw rfl (jZ _)) ?_
      have N:=J ((frN F).alloc (.cells (txC 0 (.slice none 0 0) (.slice none 0 0)).toArray 34))
      refine nXt hK' ?_ λhS=>?_
      ·exact⟨N.o.cell (y.o.cell d.o _root_.id) _root_.id,N.o.cell (y.o.cell g.o _root_.id) _root_.id⟩
      try simp only[Act.put,pA,pB,pC]
      refine yE 7 (by kernel_rfl) rfl rfl (λK' hK'=>?_)
      refine yN (zj (w:=F) (ty:=34) (cs:=(zTx t.ver t.outs.length) l o) rfl rfl rfl rfl y5 (qM rfl rfl rfl)) ?_
      have O:=J ((frN F).alloc (.cells ((zTx t.ver t.outs.length) l o).toArray 34))
      refine nXt hK' ?_ λhS=>?_
      ·exact⟨O.o.cell (y.o.cell d.o _root_.id) _root_.id,O.o.cell (y.o.cell g.o _root_.id) _root_.id⟩
      try simp only[Act.put,pA,pB,pC]
      refine vn (hK.out _ _ ?_)
      go_wp2_with fail
      go_meet
      case rel=>exact⟨F.heap.size,l,o,rfl,by have:=y.o.size;have:=Zd.o;omega,I.o.trans0 (y.o.trans0 O.o),yj F (.cells ((zTx t.ver t.outs.length) l o).toArray 34),zb O4.o O.o (λ_ _=>_root_.id),λj a e=>by have:=(O4.o.lt j a).2;omega⟩
     ·refine yg (yw rfl (jZ _)) ?_
      have N:=J ((frN E).alloc (.cells (txC 0 (.slice none 0 0) (.slice none 0 0)).toArray 34))
      have B5:=J (yj E (.cells (txC 0 (.slice none 0 0) (.slice none 0 0)).toArray 34))
      have Q5:=@J ((E.alloc (.cells (txC 0 (.slice none 0 0) (.slice none 0 0)).toArray 34)).heap.size=E.heap.size+1) (by simp)
      generalize E.alloc (.cells (txC 0 (.slice none 0 0) (.slice none 0 0)).toArray 34)=F at*
      generalize au:E.heap.size=G at*
      refine nXt hK' ?_ λhS=>?_
      ·exact⟨N.o.cell d.o _root_.id,N.o.cell g.o _root_.id⟩
      try simp only[Act.put,pA,pB,pC]
      refine yE 4 (by kernel_rfl) rfl rfl (λK' hK'=>?_)
      obtain⟨pv,w5,X,u,Y,-⟩:=ZY F (k:=[]) (World.ownsRow_nil F (wq.heap.size+1) _ 33) (af.o.keep N.o) (by have:=aT.o;simp;omega) (by have:=Zd.o;have:=Q5.o;omega) 22
      rw[length_nil,zero_add,nil_append] at u
      obtain⟨l,o,R⟩:=u.slice.arg.form
      subst R
      have A1:=J X
      have y:=@J (Fr No F w5) (Y.mono (λj e=>by cases e))
      have O4:=J u
      clear X u Y
      refine yr rfl rfl rfl A1.o ?_
      have L:=J (N.o.trans0 y.o)
      have aa:=J (y.o.obj B5.o _root_.id)
      refine nXt hK' ?_ λhS=>?_
      ·exact⟨L.o.cell d.o _root_.id,L.o.cell g.o _root_.id⟩
      try simp only[Act.put,pA,pB,pC]
      (((first|(refine zV 5 (by kernel_rfl) rfl rfl ?_;apply Exists.intro;refine⟨?_,?_⟩;(focus(first|exact λw' _=>yk (t:=34) rfl rfl (zi3 _ _ _ _ _)|(intro w' hS;obtain⟨Z,s2⟩:=hS;exact goS))))|(refine zW 5 (by kernel_rfl) rfl rfl ?_));try simp only[Act.put,pA,pB,pC]))
      refine yE 7 (by kernel_rfl) rfl rfl (λK' hK'=>?_)
      refine yN (zK (ty:=34) (b:=G) (off:=0) (cs:=(zTx t.ver t.outs.length) l o) rfl rfl rfl (zX aa.o (le_refl 3)) y5 (qM rfl rfl rfl)) ?_
      have O:=J (zu G ((zTx t.ver t.outs.length) l o) 0 w5)
      have M:=@J (Fr No E _) (L.o.trans O.o (λi hi e=>by omega))
      refine nXt hK' ?_ λhS=>?_
      ·exact⟨M.o.cell d.o _root_.id,M.o.cell g.o _root_.id⟩
      try simp only[Act.put,pA,pB,pC]
      refine vn (hK.out _ _ ?_)
      go_wp2_with fail
      go_meet
      case rel=>exact⟨G,l,o,rfl,by have:=Zd.o;omega,I.o.trans0 M.o,Yj (cs:=(zTx t.ver t.outs.length) l o) aa.o rfl,yU (zb O4.o O.o (λj a e=>by have:=(O4.o.lt j a).1;have:=Zd.o;omega)) (Nat.le_succ _),λj a e=>by have:=(O4.o.lt j a).1;have:=Zd.o;omega⟩
    case rest=>
     rename World=>wd
     obtain⟨qu,va,vc,rfl,aZ,fd,bu,ou,aY⟩:=hcut
     have I:=J fd
     have BU:=J bu
     have OU:=J ou
     have QU:=J aZ
     have NU:=J aY
     have bg:=J (fd.cell D1.o _root_.id)
     have bx:=bg.o
     have UL:=J (yF bu)
     clear fd bu ou aZ aY
     go_wp2_with fail
     clear bx
     have VZ:=@J (∀j,j<wz.heap.size→j<wd.heap.size) (λj a=>by have:=FR.o.size;have:=FA.o.size;have:=I.o.size;omega)
     have bw:=@J (G<wq.heap.size∧wr.heap.size<wq.heap.size) (by have:=yF az.o;have:=FA.o.size;exact⟨by omega,QA.o⟩)
     have bJ:=TI.o.1
     go_loopw [31] (λiv s=>∃m:Nat,iv=.int .i64 m∧m≤t.ins.length∧znZ wd qu t va vc m s) (λiv _=>t.ins.length-(intOf iv).toNat)
     case atStart=>exact⟨0,rfl,zero_le _,.slice none 0 0,[],BU.o,jR.nil _ _ _ _ _ _,Fr.refl _ _⟩
     case round=>
      obtain⟨m,rfl,hm,iv,ba,aV,aF,fi⟩:=hrel
      rename World=>s
      have FI:=J fi
      have aA:=J aV
      have KI:=J aF
      obtain⟨A,B,aW⟩:=aF.form
      rw[length_take,min_eq_left hm] at aW
      subst aW
      have aC:=@J (Fr No wq s) (I.o.trans fi (λj a e=>by have:=QU.o;omega))
      clear fi aV aF
      by_cases bB:m<t.ins.length
      ·have i2:(m:Int)<(t.ins.length:Int):=by omega
       obtain⟨x,av⟩:∃x,t.ins[m]? =some x:=⟨_,getElem?_eq_getElem bB⟩
       have bm:=J av
       obtain⟨b2,bG,bF,xs,bE,a6,bC⟩:=(bj.o.keep0 aC.o).at_ av
       cases bE
       obtain⟨C,D,rfl,H,ay⟩:=bC
       have aE:=J H
       have br:=J ay
       have R2:=J a6
       have IL:=J (vC H (.slice C x.key.length D))
       have PL:=J (z6 H)
       have KL:=J (TI.o.2.2 x (mem_of_getElem? av))
       have FB:=J ((frN s).alloc (.cells (inC x.from_ (.slice C x.key.length D)).toArray 108))
       have aN:=J (Xr s (p:=x.from_) (kv:=.slice C x.key.length D) H)
       have QB:=@J ((s.alloc (.cells (inC x.from_ (.slice C x.key.length D)).toArray 108)).heap.size=s.heap.size+1) (by simp)
       clear a6 av H ay
       have⟨K0,K1⟩:=tZ2
       go_wp2_with ((first|((with_reducible refine zt ?_);clear K0;refine zn9 rfl rfl rfl R2.o IL.o ?_)|((with_reducible refine zv ?_);clear K1;refine zoj (w:=s) (cs:=inC x.from_ (.slice C x.key.length D)) rfl rfl rfl rfl IL.o Jj ?_;generalize s.alloc (.cells (inC x.from_ (.slice C x.key.length D)).toArray 108)=wj at*));go_frame)
       have ar:=J (FB.o.trans0 (frN wj).drew)
       have aK:=J (ar.o.obj aA.o _root_.id)
       have aL:=@J (wj.drew.cell? ⟨qu,1,none⟩=some (.slice A m B)) (by have:=zq aK.o 1 _ rfl;simpa using this)
       have aQ:=J (KI.o.fr0 ar.o)
       have RZ:=@J (wj.drew.rangeAt s.heap.size 0 (zn x.from_)∧wj.drew.cell? ⟨s.heap.size,33,none⟩=some (.slice C x.key.length D)) (⟨za aN.o.1 (frN wj).drew _root_.id,(frN wj).drew.cell aN.o.2 _root_.id⟩)
       have aR:=J (br.o.keep ar.o)
       have QZ:=@J (wj.drew.heap.size=s.heap.size+1) (QB.o)
       have UQ:=@J (qu<s.heap.size) (yF aA.o)
       refine yp [ff,ff,ff,ff,ff,ff,tt,ff,tt,tt,ff,tt] (λw'=>w'.cell? ⟨qu,1,none⟩=some (.slice A m B)∧w'.rangeAt s.heap.size 0 (zn x.from_)∧w'.cell? ⟨s.heap.size,33,none⟩=some (.slice C x.key.length D)) (by kernel_rfl) (by kernel_rfl) 11 (by kernel_rfl) (by kernel_rfl) ?_ (λK hK=>?_)
       ·exact⟨aL.o,RZ.o.1,RZ.o.2⟩
       generalize wj.drew=z at*
       obtain⟨kv,w9,X,u,Y,-⟩:=vj z (qI.nil z z.heap.size) aR.o.2 (by simp;have:=KL.o;omega) (le_refl _) 106
       rw[nil_append] at u
       obtain⟨an,ao,bz⟩:=u.form
       subst bz
       have A1:=J X
       have F9:=@J (Fr No z w9) (Y.mono (λj e=>by cases e))
       have K9:=J u
       clear X u Y
       have aD:=J (vC aE.o (.slice an x.key.length ao))
       have bs:=J (aQ.o.fr0 F9.o)
       have bp:=@J (Kept (λj=>j<wd.heap.size∨(Value.slice A m B).ownBlock=some j) w9 (λw=>InQ w x (inC x.from_ (.slice an x.key.length ao)))) (λw' f=>⟨an,ao,rfl,aE.o,zbO K9.o aR.o.1 (V:=λj=>j<wd.heap.size∨(Value.slice A m B).ownBlock=some j) (λj a=>by
        have:=FI.o.size
        have:=QZ.o
        rcases a with a|a
        ·omega
        ·have:=(aQ.o.lt j a).2;omega) w' f⟩)
       obtain⟨v5,c,b1,Q,b3,b4⟩:=bs.o.append (P:=prog) (t:=32) (ty2:=32) (bytes:=64) XB zg3 rfl (by decide) bp.o aD.o Jj (by rw[length_take];have:=TI.o.1;omega) (by rw[length_take];unfold maxLen;have:=TI.o.1;omega) (by have:=F9.o.size;have:=FI.o.size;have:=QZ.o;omega)
       have B1:=J b1
       have aO:=@J (jR wd.heap.size 108 34 InQ (λj=>j<wd.heap.size) c v5 (t.ins.take (m+1)) (ba++[inC x.from_ (.slice an x.key.length ao)])) (by rw[take_add_one,bm.o];exact Q)
       have bh:=J b4
       have aq:=J b3
       obtain⟨T,W,S⟩:=Q.form
       rw[length_append,length_take,min_eq_left hm] at S
       simp only[length_singleton] at S
       subst S
       clear b1 Q b3 b4
       have ag:=@J (∀j,(Value.slice A m B).ownBlock=some j→wd.heap.size≤j∧j<s.heap.size) (λj a=>KI.o.lt j a)
       have bd:=J (F9.o.obj aK.o _root_.id)
       have ad:=J (aq.o.obj bd.o (λe=>by have:=(ag.o _ e).1;have:=UL.o;omega))
       have aS:=@J (c.cell? ⟨qu,1,none⟩=some (.slice A m B)) (by have:=zq ad.o 1 _ rfl;simpa using this)
       have aw:=@J (c.rangeAt s.heap.size 0 (zn x.from_)∧c.cell? ⟨s.heap.size,33,none⟩=some (.slice C x.key.length D)) (⟨za (za RZ.o.1 F9.o _root_.id) aq.o (λe=>by have:=(ag.o _ e).2;omega),aq.o.cell (F9.o.cell RZ.o.2 _root_.id) (λe=>by have h:s.heap.size<s.heap.size:=(ag.o _ e).2;omega)⟩)
       have bI:=yn (i:=1) ad.o
       have S9:=@J (∀w',Fr No z w'→w'.cell? ⟨qu,1,none⟩=some (.slice A m B)∧w'.rangeAt s.heap.size 0 (zn x.from_)∧w'.cell? ⟨s.heap.size,33,none⟩=some (.slice C x.key.length D)) (λw' f=>⟨f.cell aL.o _root_.id,za RZ.o.1 f _root_.id,f.cell RZ.o.2 _root_.id⟩)
       have fs:Fr (λj=>j=qu) c (c.setCell ⟨qu,1,none⟩ (.slice T (m+1) W)):=(Fr.refl (λj=>j=qu) c).setCell ⟨qu,1,none⟩ (.inr rfl) _
       have aJ:=J (heap_setCell_same c qu 1 _ _ (.slice T (m+1) W) ad.o)
       have aP:=J (aO.o.fr fs (λj _ e=>by rw[e];exact UL.o) (λj a e=>by
        rcases bh.o j a with h|h
        ·have:=(ag.o _ h).1;have:=UL.o;omega
        ·have:=F9.o.size;have:=QZ.o;have:=UQ.o;omega))
       have aB:=@J (Fr (λj=>j=qu) wd (c.setCell ⟨qu,1,none⟩ (.slice T (m+1) W))) ((((FI.o.trans0 ar.o).trans0 F9.o).trans aq.o (λj a e=>by have:=(ag.o _ e).1;omega)).trans fs (λj _ e=>e))
       clear fs
       repeat((first|(refine yb rfl ?_;constructor;constructor;(focus(first|exact zof rfl (λw h=>h.2.1) PL.o|(rintro w' ⟨Z,s2,s3⟩;exact goS))))|(refine yc rfl ?_));try simp only[Act.put,pA,pB,pC])
       (refine ya rfl (λK' hK'=>?_))
       refine yr rfl rfl rfl A1.o ?_
       refine hK'.out _ _ (λ_=>?_) (λhS=>?_)
       ·exact S9.o _ F9.o
       try simp only[Act.put,pA,pB,pC]
       repeat((first|(refine yb rfl ?_;constructor;constructor;(focus(first|exact zof rfl (λw h=>h.2.1) PL.o|exact λw' _=>yQ (t:=108) (vs:=[(0,.agg (zn x.from_).toArray),(1,.slice an x.key.length ao)]) rfl rfl zj5 (zkZ aE.o _ _ _) (zj4 _ _ _ _) (by rw[aD.o])|(rintro w' ⟨Z,s2,s3⟩;exact goS))))|(refine yc rfl ?_));try simp only[Act.put,pA,pB,pC])
       (refine ya rfl (λK' hK'=>?_))
       refine yg (zS (t:=32) rfl rfl XB Vs rfl (by decide) (by decide) aD.o) ?_
       refine hK'.out _ _ (λ_=>?_) (λhS=>?_)
       ·exact S9.o _ (F9.o.alloc _)
       try simp only[Act.put,pA,pB,pC]
       (refine ya rfl (λK' hK'=>?_))
       refine yr rfl rfl rfl B1.o ?_
       refine hK'.out _ _ (λ_=>?_) (λhS=>?_)
       ·exact⟨aS.o,aw.o.1,aw.o.2⟩
       try simp only[Act.put,pA,pB,pC]
       repeat((first|(refine yb rfl ?_;constructor;constructor;(focus(first|(rintro w' ⟨Z,s2,s3⟩;exact goS))))|(refine yc rfl ?_));try simp only[Act.put,pA,pB,pC])
       (refine ya rfl (λK' hK'=>?_))
       go_simp
       refine hK'.out _ _ (λh=>absurd rfl h) (λhS=>?_)
       refine xA (hK.out _ _ ?_)
       go_wp2_with fail
       go_roundw
       case rel=>exact⟨m+1,by go_num,by omega,_,_,aJ.o,aP.o,aB.o⟩
       case measure=>simp[intOf];omega
      ·have ai:m=t.ins.length:=by omega
       have i2:¬(m:Int)<(t.ins.length:Int):=by omega
       have ae:=@J (Fr No wr s) (FA.o.trans0 aC.o)
       have aI:=J (ae.o.obj az.o _root_.id)
       have bt:=J (KR.o.fr0 ae.o)
       have cA:s.cell? ⟨G,2,none⟩=some (.slice q n r):=by have:=zq aI.o 2 _ rfl;simpa using this
       have RU:=J (zq aA.o)
       have KT:=@J (Kept (λj=>j<wz.heap.size∨(Value.slice q n r).ownBlock=some j) s (λw=>TxQ w t [.int .u32 t.ver,.slice A m B,.slice va t.outs.length vc])) (by
        have k1:jR wd.heap.size 108 34 InQ (λj=>j<wd.heap.size) s (.slice A m B) t.ins ba:=by have:=KI.o;rw[ai,take_length] at this;rw[ai];exact this
        have k2:=k1.rows (U:=λj=>j<wz.heap.size∨(Value.slice q n r).ownBlock=some j) (by decide) (by unfold maxLen;have:=TI.o.1;omega) (λj a e=>e.elim (VZ.o j) (λe=>by have:=(KR.o.lt j e).2;have:=FA.o.size;have:=I.o.size;omega)) (λj a e=>by
         have h1:=(k1.lt j a).1
         rcases e with e|e
         ·have:=VZ.o j e;omega
         ·have:=(KR.o.lt j e).2;have:=FA.o.size;have:=I.o.size;omega)
        have k3:=XZ (V:=λj=>j<wz.heap.size∨(Value.slice q n r).ownBlock=some j) (zb OU.o FI.o (λj a e=>NU.o j a e)) aM.o.1 (λj e=>by
         rcases e with e|e
         ·have:=FR.o.size;have:=FA.o.size;omega
         ·have:=(KR.o.lt j e).2;have:=FA.o.size;omega)
        intro w' f
        exact⟨A,B,va,vc,by rw[ai];rfl,TV.o,by have:=k2 w' f;rw[ai] at this;exact this,k3 w' f⟩)
       obtain⟨v5,c,b1,Q,b3,b4⟩:=bt.o.append (P:=prog) (t:=23) (ty2:=23) (bytes:=56) zd4 zg4 rfl (by decide) KT.o rfl (qM rfl rfl rfl) (by rw[length_take];omega) (by rw[length_take];unfold maxLen;omega) (by have:=FR.o.size;have:=ae.o.size;omega)
       have B1:=J b1
       have bn:=@J (jR wz.heap.size 34 3 TxQ (λj=>j<wz.heap.size) c v5 (b.txs.take (n+1)) (css++[[.int .u32 t.ver,.slice A m B,.slice va t.outs.length vc]])) (by rw[take_add_one,HX.o];exact Q)
       obtain⟨T,W,S⟩:=Q.form
       rw[length_append,length_take,min_eq_left hn] at S
       simp only[length_singleton] at S
       subst S
       have NT:=@J (∀j,(Value.slice q n r).ownBlock=some j→wz.heap.size≤j∧j<wr.heap.size) (λj a=>KR.o.lt j a)
       have ab:=J (b3.obj aI.o (λe=>by have:=(NT.o _ e).1;have:=QL.o;omega))
       have cB:c.cell? ⟨G,2,none⟩=some (.slice q n r):=by have:=zq ab.o 2 _ rfl;simpa using this
       have fB:=yn (i:=2) ab.o
       have fs:Fr (λj=>j=G) c (c.setCell ⟨G,2,none⟩ (.slice T (n+1) W)):=(Fr.refl (λj=>j=G) c).setCell ⟨G,2,none⟩ (.inr rfl) _
       have aH:=J (heap_setCell_same c G 2 _ _ (.slice T (n+1) W) ab.o)
       have bo:=J (bn.o.fr fs (λj _ e=>by rw[e];exact QL.o) (λj a e=>by
        rcases b4 j a with h|h
        ·have:=(NT.o _ h).1;have:=QL.o;omega
        ·have:=ae.o.size;have:=bw.o.1;have:=aC.o.size;omega))
       have aB:=@J (Fr (λj=>j=G) wz (c.setCell ⟨G,2,none⟩ (.slice T (n+1) W))) (((FR.o.trans0 ae.o).trans b3 (λj a e=>by have:=(NT.o _ e).1;omega)).trans fs (λj _ e=>e))
       clear b1 Q b3 b4 fs ai
       have⟨K0,K1,K2⟩:=tZ3
       go_wp2_with (((with_reducible refine zt ?_);first|(clear K0;refine zoa rfl rfl rfl RU.o rfl ?_)|(clear K1;refine zg rfl (zS (t:=23) rfl rfl zd4 zeL rfl (by decide) (by decide) rfl) ?_)|(clear K2;at_builtin;refine zQ rfl rfl rfl rfl B1.o ?_));go_frame)
       go_roundw
       case rel=>exact⟨n+1,by go_num,by omega,_,_,aH.o,bo.o,aB.o⟩
       case measure=>simp[intOf];omega
   ·have aj:n=b.txs.length:=by omega
    have i1:¬(n:Int)<(b.txs.length:Int):=by omega
    have R6:=J (zq az.o)
    have BZ:=J (FR.o.obj bc.o (λe=>by have:=QD.o;have:=Z2.o;omega))
    have bl:=@J (∀V:Nat→Prop,(∀j,V j→j<w2.heap.size)→Kept V wr (λw=>jE w b [.int .u64 b.tag,.slice l b.pay.length o,.slice q n r])) (λV hV w' f=>by
     have k1:jR wz.heap.size 34 3 TxQ (λj=>j<wz.heap.size) wr (.slice q n r) b.txs css:=by have:=KR.o;rw[aj,take_length] at this;rw[aj];exact this
     have k2:=k1.rows (U:=V) (by decide) (by unfold maxLen;omega) (λj a e=>by have:=hV j e;have:=QD.o;have:=QL.o;omega) (λj a e=>by have:=(k1.lt j a).1;have:=hV j e;have:=QD.o;have:=QL.o;omega) w' f
     have k3:=XZ (V:=V) (zb OP.o FR.o (λj a e=>NQ.o j a e)) HO.o.1 hV w' f
     exact⟨l,o,q,r,by rw[aj];rfl,HV.o,k3,by rw[aj] at k2;exact k2⟩)
    clear aj
    have⟨K0,K1⟩:=tZ2
    go_wp2_with ((first|((with_reducible refine zt ?_);clear K0;refine zoe rfl rfl rfl R6.o rfl ?_)|((with_reducible refine zv ?_);clear K1;refine zi rfl (zK (ty:=55) (b:=w.heap.size+1) (off:=0) (cs:=[.int .u64 b.tag,.slice l b.pay.length o,.slice q n r]) rfl rfl rfl (zX BZ.o (le_refl 3)) JS (qM rfl rfl rfl)) ?_));go_frame)
    have BE:=Yj (cs:=[.int .u64 b.tag,.slice l b.pay.length o,.slice q n r]) BZ.o rfl
    have fE:=zu (w.heap.size+1) [.int .u64 b.tag,.slice l b.pay.length o,.slice q n r] 0 wr
    refine bodyPost_ret (v:=.agg [.int .u64 b.tag,.slice l b.pay.length o,.slice q n r].toArray) (results_cell_row (P:=prog) (fn:=Tryz.f95) rfl _ _ (w.heap.size+1) 55 _ (0,0) _ rfl BE Tryz.underlying55 rfl JS) rfl ⟨_,rfl,(F2.o.trans0 FW.o).trans fE (λi hi e=>by omega),λV hV w' f=>bl.o (λj=>V j∨j=w.heap.size+1) (λj a=>by have:=Z2.o;rcases a with a|a;have:=hV j a;omega;omega) w' ((fE.mono (λj a=>.inr a)).trans (f.mono (λj a=>.inl a)) (λ_ _ h=>h))⟩
theorem Zt:prog.underlying 120=some (.map 41 3):=by kernel_rfl
theorem VD {a b c d e:Value} (h:w.rangeAt q 0 [a,b,c,d,e]):w.cell? ⟨q,0,none⟩=some a∧w.cell? ⟨q,1,none⟩=some b∧w.cell? ⟨q,2,none⟩=some c∧w.cell? ⟨q,3,none⟩=some d∧w.cell? ⟨q,4,none⟩=some e:=
 ⟨by simpa using h 0 _ rfl,by simpa using h 1 _ rfl,by simpa using h 2 _ rfl,by simpa using h 3 _ rfl,by simpa using h 4 _ rfl⟩
theorem zf2 {d:yB} {k i:Option Addr} {n m l j:Nat} (h:Kept V w (λw=>jF w d [a,b,c,.slice k n l,.slice i m j])):n=d.ids.length∧m=d.chg.length∧Kept V w (λw=>yP w (.slice k d.ids.length l) d.ids)∧Kept V w (λw=>zfI w (.slice i d.chg.length j) d.chg):=by
 have g:∀w',jF w' d [a,b,c,.slice k n l,.slice i m j]→n=d.ids.length∧m=d.chg.length∧yP w' (.slice k d.ids.length l) d.ids∧zfI w' (.slice i d.chg.length j) d.chg:=by
  rintro w' ⟨bcs,x,y,o,p,e,u,hi,v⟩
  obtain⟨z,A,B,C,rfl⟩:=u.form
  simp only[List.cons_append,nil_append,List.cons.injEq,and_true] at e
  obtain⟨-,-,-,q,r⟩:=e
  injection q with e11 e12 e13
  injection r with e21 e22 e23
  subst e11;subst e13;subst e21;subst e23
  exact⟨e12,e22,hi,v⟩
 obtain⟨s,t,-,-⟩:=g w h.now
 exact⟨s,t,λw' f=>(g w' (h w' f)).2.2.1,λw' f=>(g w' (h w' f)).2.2.2⟩
theorem qS.setM {g w w':World} {p s b:Nat} {css:List (List Value)} {D:ChD} (h:qS g w p s U b c css D) {M':List (zd×Int)} (m:ziO w' b M') (f:Fr (λj=>j=b) w w'):qS g w' p s U b c css ⟨D.S,D.bs,M'⟩:=
 {h with
  obj:=f.obj h.obj h.pm
  set:=h.set.frV f (λj a e=>h.um (e▸a)) (λj e=>by have:=h.lo2;omega)
  row:=zb h.row f (λj a e=>(h.rn j a).2.1 e)
  data:=λi d cs k l=>(h.data i d cs k l).same (f.mono (λj a=>.inr (.inr (.inl a))))
  map:=m}
theorem zdn.len {x:YC} (h:zdn w x cs):cs.length=2:=by
 obtain⟨a,b,c,d,rfl,_⟩:=h
 rfl
theorem zfB {T w:World} {i:Value} {css:List (List Value)} {D:ChD} (h:qS T w p s U g i css D) {d:yB} (hd:Kept (chV p U g i) w (λw=>jF w d cs)) (hN:D.S.length+Jf d.chg≤100000) (hC:d.chg.length≤100000) (hI:d.ids.length≤100000):
  Calls prog 97 #[.pointer (some ⟨p,0,none⟩),.agg cs.toArray] w λe w'=>e=.returned (.tuple #[])∧∃M',qS T w' p s U g i css ⟨xS d.chg D.S,D.bs,M'⟩∧(∀x v,(x,v)∈M'↔x∉d.ids∧(x,v)∈D.M)∧M'.length≤D.M.length∧Fr (chV p U g i) w w':=by
 obtain⟨pa,pc,ta,tc,ia,ic,R,z,rfl⟩:=hd.now.form
 obtain⟨-,-,ki,kc⟩:=zf2 hd
 have zH:=yS
 have f1:=(frN w).alloc (.cells #[.int .u64 d.blk.tag,.slice pa d.blk.pay.length pc,.slice ta d.blk.txs.length tc,.slice ia d.ids.length ic,.slice R d.chg.length z] 207)
 have F1:=J f1
 have H1:=J (h.fr0 f1)
 have KI:=J (ki.same f1.of0)
 have KC:=J (kc.same f1.of0)
 obtain⟨-,-,-,x3,x4⟩:=VD (zy w [.int .u64 d.blk.tag,.slice pa d.blk.pay.length pc,.slice ta d.blk.txs.length tc,.slice ia d.ids.length ic,.slice R d.chg.length z] 207)
 have X3:=J x3
 have X4:=J x4
 have NV:=@J (¬chV p U g i w.heap.size) (λe=>by have:=h.hi _ e;omega)
 have aA:(w.alloc (.cells #[.int .u64 d.blk.tag,.slice pa d.blk.pay.length pc,.slice ta d.blk.txs.length tc,.slice ia d.ids.length ic,.slice R d.chg.length z] 207)).cell? ⟨w.heap.size,4,none⟩=some (.slice R d.chg.length z):=x4
 have HU:=@J (∀j,U j→chV p U g i j) (λj r=>.inr (.inl r))
 have PI:(d.chg.length:Int)-1=zha d.chg.length:=by cases d.chg.length with|zero=>rfl|succ n=>show((n+1:Nat):Int)-1=(n:Int);omega
 have HM:=@J (chV p U g i g) (.inr (.inr (.inl rfl)))
 clear h hd ki kc x3 x4 f1
 show Calls prog 97 #[.pointer (some ⟨p,0,none⟩),.agg #[.int .u64 d.blk.tag,.slice pa d.blk.pay.length pc,.slice ta d.blk.txs.length tc,.slice ia d.ids.length ic,.slice R d.chg.length z]] w _
 go_enter Tryz.func97,Tryz.ntmps97
 go_wp2_with fail
 generalize w.alloc (.cells #[.int .u64 d.blk.tag,.slice pa d.blk.pay.length pc,.slice ta d.blk.txs.length tc,.slice ia d.ids.length ic,.slice R d.chg.length z] 207)=w1 at*
 generalize w.heap.size=q0 at*
 clear aA
 go_loopw [4] (λL wr=>∃k:Nat,L=.int .i64 (zha k)∧k≤d.chg.length∧qS T wr p s U g i css ⟨xS (d.chg.drop k) D.S,D.bs,D.M⟩∧Fr (chV p U g i) w1 wr) (λL _=>(intOf L+1).toNat)
 case atStart=>exact⟨d.chg.length,rfl,le_refl _,by rw[List.drop_length];exact H1.o,Fr.refl _ _⟩
 case round=>
  obtain⟨k,rfl,hk,o,fr⟩:=hrel
  have V:=J fr
  have E:=J o
  clear fr o PI
  cases k with
  |succ m=>
   have q:zha (m+1)=(m:Int):=rfl
   rw[q]
   clear q
   have i1:(0:Int)≤(m:Int):=by omega
   obtain⟨c,u⟩:∃x,d.chg[m]? =some x:=⟨_,getElem?_eq_getElem (by omega)⟩
   have i2:(m:Int)<(d.chg.length:Int):=by omega
   have i3:(0:Int)≤(m:Int):=by omega
   have TN:=J (zks u)
   have SN:=J (zgE D.S u)
   have UL:=J (zdi (d.chg.drop (m+1)) D.S)
   have ao:=J (KC.o.same V.o)
   obtain⟨b,off,aw,aB,hv,az,⟨P,Q,N,O,af,-⟩,ag⟩:=VF (by decide) (λ_ _ _ h=>h.len) ao.o u
   cases hv
   subst af
   have KP:=@J (Kept (chV p U g i) wr (λw=>(w.cell? ⟨b,off+m*2,none⟩=some (.slice P c.took.length Q)∧w.cell? ⟨b,off+m*2+1,none⟩=some (.slice N c.made.length O))∧qY w (.slice P c.took.length Q) c.took∧xL w (.slice N c.made.length O) c.made)) (λw' f=>by
    obtain⟨hr,aE,aF,aC,aD,e,q1,q2⟩:=ag w' f
    simp only[List.cons.injEq,and_true] at e
    obtain⟨e1,e2⟩:=e
    injection e1 with e11 _ e13
    injection e2 with e21 _ e23
    subst e11;subst e13;subst e21;subst e23
    exact⟨⟨hr 0 _ rfl,hr 1 _ rfl⟩,q1,q2⟩)
   have FD:=J (frN wr).drew
   have G:=J (E.o.fr0 FD.o)
   have I:=J (KP.o.same FD.o.of0)
   have P0:=J G.o.cells.1
   have av:=J ((V.o.trans0 FD.o).cell X4.o NV.o)
   have ak:=J (V.o.trans0 FD.o)
   have TK:=J (zkq G.o.set I.o.now.2.2 (show c.made.length+(xS (d.chg.drop (m+1)) D.S).length≤100000 by have:=TN.o;have:=UL.o;omega))
   have ar:=J (λ(w':World) (S:List zr) (h:CS T w' s U S) (v:Value) (l:List zr) (hl:qY w' v l) (hn:l.length+S.length≤100000)=>zhb h hl hn)
   have TL:=J (zdf (xS (d.chg.drop (m+1)) D.S) c.made)
   clear ag u az
   generalize xS (d.chg.drop (m+1)) D.S=S1 at*
   go_wp2_with fail
   refine wrLx [ff,ff,ff,ff,ff,ff,ff,ff,ff,ff,tt] (λw'=>w'.cell? ⟨p,0,none⟩=some (.pointer (some ⟨s,0,none⟩))∧w'.cell? ⟨q0,4,none⟩=some (.slice (some ⟨b,off,none⟩) d.chg.length z)∧w'.cell? ⟨b,off+m*2+1,none⟩=some (.slice N c.made.length O)) ?_ (λK hK=>?_)
   ·exact⟨P0.o,av.o,I.o.now.1.2⟩
   generalize wr.drew=z1 at*
   repeat((first|(refine zl rfl ?_;constructor;constructor;(focus(first|(rintro w' ⟨s1,s2,s3⟩;exact goS))))|(refine zm rfl ?_));try simp only[Act.put,pA,pB,pC])
   (refine zF rfl (λK' hK'=>?_))
   go_simp
   refine TK.o.mono ?_
   rintro e w2 ⟨x,rfl,-,A,f2⟩
   have W:=J (G.o.setS A f2)
   have F2:=@J (Fr (chV p U g i) w1 w2) (ak.o.trans (f2.mono (λj r=>HU.o j r)) (λ_ _ h=>h))
   have ab:=J (I.o.same (f2.mono (λj r=>HU.o j r)))
   clear A f2
   refine nXt hK' ?_ λhS=>?_
   ·exact⟨W.o.cells.1,F2.o.cell X4.o NV.o,ab.o.now.1.2⟩
   try simp only[Act.put,pA,pB,pC]
   refine zL (hK.out _ _ ?_)
   have FE:=J (frN w2).drew
   have F:=J (W.o.fr0 FE.o)
   have H:=J (ab.o.same FE.o.of0)
   have F3:=J (F2.o.trans0 FE.o)
   have au:=J (ar.o _ _ F.o.set _ _ H.o.now.2.1 (show c.took.length+(JI S1 c.made).length≤100000 by have:=TN.o;have:=UL.o;have:=TL.o;omega))
   go_wp2_with fail
   refine wrLx [ff,ff,ff,ff,ff,ff,ff,ff,ff,ff,tt] (λw'=>w'.cell? ⟨p,0,none⟩=some (.pointer (some ⟨s,0,none⟩))∧w'.cell? ⟨q0,4,none⟩=some (.slice (some ⟨b,off,none⟩) d.chg.length z)∧w'.cell? ⟨b,off+m*2,none⟩=some (.slice P c.took.length Q)) ?_ (λK hK=>?_)
   ·exact⟨F.o.cells.1,F3.o.cell X4.o NV.o,H.o.now.1.1⟩
   generalize w2.drew=z2 at*
   repeat((first|(refine zl rfl ?_;constructor;constructor;(focus(first|(rintro w' ⟨s1,s2,s3⟩;exact goS))))|(refine zm rfl ?_));try simp only[Act.put,pA,pB,pC])
   (refine zF rfl (λK' hK'=>?_))
   go_simp
   refine au.o.mono ?_
   rintro e w4 ⟨rfl,B,f4⟩
   have X:=J (F.o.setS B f4)
   have F4:=@J (Fr (chV p U g i) w1 w4) (F3.o.trans (f4.mono (λj r=>HU.o j r)) (λ_ _ h=>h))
   have aq:=J (H.o.same (f4.mono (λj r=>HU.o j r)))
   clear B f4
   refine nXt hK' ?_ λhS=>?_
   ·exact⟨X.o.cells.1,F4.o.cell X4.o NV.o,aq.o.now.1.1⟩
   try simp only[Act.put,pA,pB,pC]
   refine zL (hK.out _ _ ?_)
   go_wp2_with fail
   go_roundw
   case rel=>exact⟨m,congrArg (Value.int .i64) (by cases m with|zero=>rfl|succ n=>show((n+1:Nat):Int)-1=(n:Int);omega),by omega,by rw[SN.o];exact X.o,F4.o⟩
   case measure=>show((m:Int)-1+1).toNat<((m:Int)+1).toNat;omega
  |zero=>
   have q:zha 0= -1:=rfl
   rw[q]
   have c3:=V.o.cell X3.o NV.o
   have al:=@J (qS T wr p s U g i css ⟨xS d.chg D.S,D.bs,D.M⟩) (E.o)
   clear q E
   go_wp2_with fail
   (try simp only[Exit.inBlock,Exit.then])
   clear c3
   go_loopw [40] (λL wq=>∃(n:Nat) (M:List (zd×Int)),L=.int .i64 n∧n≤d.ids.length∧qS T wq p s U g i css ⟨xS d.chg D.S,D.bs,M⟩∧(∀x v,(x,v)∈M↔x∉d.ids.take n∧(x,v)∈D.M)∧M.length≤D.M.length∧Fr (chV p U g i) w1 wq) (λL _=>d.ids.length-(intOf L).toNat)
   case atStart=>exact⟨0,D.M,rfl,zero_le _,al.o,by simp,le_refl _,V.o⟩
   case round=>
    obtain⟨n,M,rfl,hn,o,hM,aj,fr⟩:=hrel
    have FQ:=J fr
    have E:=J o
    have aa:=J hM
    have Z:=J aj
    clear fr o hM aj
    by_cases ax:n<d.ids.length
    ·have i1:(n:Int)<(d.ids.length:Int):=by omega
     obtain⟨x,u⟩:∃x,d.ids[n]? =some x:=⟨_,getElem?_eq_getElem ax⟩
     have KQ:=KI.o wr FQ.o
     have ad:=J (KQ.1 x (mem_of_getElem? u))
     obtain⟨b,off,aw,hv,hr,-⟩:=KQ.at_ u
     cases hv
     have R1:=J hr
     have HL:=J (zx ad.o)
     have FA:=J ((frN wr).alloc (.cells (zf x).toArray 41))
     have RX:=J (zy wr (zf x) 41)
     have TK:=@J (∀y,y∉d.ids.take (n+1)↔y∉d.ids.take n∧y≠x) (λy=>by
      rw[take_add_one,u]
      simp)
     clear hr u KQ
     go_wp2_with (first|(refine zoc rfl rfl rfl R1.o HL.o ?_)|(refine zol (w:=wr) (cs:=zf x) rfl rfl rfl rfl HL.o zU ?_))
     have FZ:=J (FA.o.trans0 (frN (wr.alloc (.cells (zf x).toArray 41))).drew)
     have HZ:=J (E.o.fr0 FZ.o)
     have RZ:=J (za RX.o (frN (wr.alloc (.cells (zf x).toArray 41))).drew _root_.id)
     refine wrLx [ff,ff,ff,ff,ff,tt] (λw'=>w'.cell? ⟨p,2,none⟩=some (.map (some g))∧w'.rangeAt wr.heap.size 0 (zf x)) ?_ (λK hK=>?_)
     ·exact⟨HZ.o.cells.2.2,RZ.o⟩
     generalize (wr.alloc (.cells (zf x).toArray 41)).drew=z1 at*
     obtain⟨w5,M5,C,ai,ae,t,ah⟩:=HZ.o.map.del xR.keyed Zt (λ_ _=>y3) (yu ad.o) 0 41
     have an:=J C
     have Y:=J (HZ.o.setM ai t.fr)
     have F5:=@J (Fr (chV p U g i) w1 w5) ((FQ.o.trans0 FZ.o).trans t.fr (λj r e=>by subst e;exact HM.o))
     have ME:=@J (∀y v,(y,v)∈M5↔y∉d.ids.take (n+1)∧(y,v)∈D.M) (λy v=>by
      rw[ae y v,aa.o,TK.o]
      exact⟨λ⟨a,b,c⟩=>⟨⟨b,a⟩,c⟩,λ⟨⟨b,a⟩,c⟩=>⟨a,b,c⟩⟩)
     have ML:=J (le_trans ah Z.o)
     have R5:=J (za RZ.o t.fr (λe=>by have:=E.o.map.lt;omega))
     clear C ai ae t ah
     repeat((first|(refine zl rfl ?_;constructor;constructor;(focus(first|exact zog rfl (λw h=>h.2) HL.o|(rintro w' ⟨s1,s2⟩;exact goS))))|(refine zm rfl ?_));try simp only[Act.put,pA,pB,pC])
     (refine zF rfl (λK' hK'=>?_))
     refine yg (jI rfl rfl rfl an.o) ?_
     refine nXt hK' ?_ λhS=>?_
     ·exact⟨Y.o.cells.2.2,R5.o⟩
     try simp only[Act.put]
     refine zL (hK.out _ _ ?_)
     go_wp2_with fail
     go_roundw
     case rel=>exact⟨n+1,M5,by go_num,by omega,Y.o,ME.o,ML.o,F5.o⟩
     case measure=>simp[intOf];omega
    ·have ay:n=d.ids.length:=by omega
     have i1:¬(n:Int)<(d.ids.length:Int):=by omega
     have HE:=@J (∀x v,(x,v)∈M↔x∉d.ids∧(x,v)∈D.M) (by
      have:=aa.o
      rw[ay,take_length] at this
      exact this)
     go_wp2
     refine bodyPost_end (results_none rfl _ _ _) rfl ?_
     exact⟨rfl,M,E.o,HE.o,Z.o,F1.o.of0.trans FQ.o (λ_ _ h=>h)⟩
def znq (w0 w:World) (p s mi:Nat) (U:Nat→Prop) (bv:Value) (css:List (List Value)) (D:ChD) (dq:Nat) (T:Nat→Prop) (b:qs) (E:Int) (S:List zr) (M:List (zd×Int)) (d:yB) (e:Ending) (w':World):Prop:=
 e=.returned (.int .i64 E)∧qS w0 w' p s U mi bv css ⟨S,D.bs,M⟩∧Fr (λj=>chV p U mi bv j∨j=dq) w w'∧d.blk=b∧
  ∃cs,w'.heap[dq]? =some (.cells cs.toArray 207 (0,0))∧Kept (λj=>chV p U mi bv j∨T j) w' (λw=>jF w d cs)
def zee (n:Nat) (M M':List (zd×Int)) (ids:List zd):Prop:=(∀x v,(x,v)∈M'↔(x,v)∈M∨(x∈ids∧v=((n:Int)+1)))∧∀x∈ids,∀v,(x,v)∉M
def DoC (X:Nat→Prop) (w0:World) (p s mi:Nat) (U:Nat→Prop) (bv:Value) (css:List (List Value)) (D:ChD) (b:qs) (R:DoR):Prop:=
 ∀(w:World) (dq:Nat) (bcs:List Value),qS w0 w p s U mi bv css D→w.heap[dq]? =some (.cells (bcs++[Value.slice none 0 0,Value.slice none 0 0]).toArray 207 (0,0))→¬chV p U mi bv dq→w0.heap.size≤dq→
  (∀j,X j→j<w.heap.size)→Kept (λj=>chV p U mi bv j∨(j=dq∨X j)) w (λw=>jE w b bcs)→vE b=true→
  (∀(i:Nat) (d:yB) (cs:List Value),D.bs[i]? =some d→css[i]? =some cs→Kept (λj=>chV p U mi bv j∨j=dq) w (λw=>jF w d cs))→
  Calls prog 96 #[.pointer (some ⟨p,0,none⟩),.pointer (some ⟨dq,0,none⟩)] w λe w'=>∃M',zee D.bs.length D.M M' R.d.ids∧znq w0 w p s mi U bv css D dq (λj=>j=dq∨X j) b R.E R.S M' R.d e w'
def zmh (X:Nat→Prop) (w0 w:World) (p s mi:Nat) (U:Nat→Prop) (D:ChD) (bv:Value) (css:List (List Value)) (R:DoR) (e:Ending) (w':World):Prop:=
 e=.returned (.int .i64 R.E)∧Fr (chV p U mi bv) w w'∧(R.E=0→∃bv' css' M',qS w0 w' p s U mi bv' css' ⟨R.S,D.bs++[R.d],M'⟩∧zee D.bs.length D.M M' R.d.ids∧(∀j,bv'.ownBlock=some j→bv.ownBlock=some j∨w.heap.size≤j)∧∃csd,css'=css++[csd]∧Kept (λj=>chV p U mi bv' j∨X j) w' (λw=>jF w R.d csd))∧
  (R.E≠0→∃M',qS w0 w' p s U mi bv css ⟨xS R.d.chg R.S,D.bs,M'⟩∧∀x v,(x,v)∈M'↔(x,v)∈D.M)
def Xa (D:ChD) (b:qs):Int:=if 1024≤D.bs.length then 18 else if vE b=true then(if b.pay.any vX=true then 11 else 0) else 5
theorem zes:∃d,prog.underlying 207=some d∧d.isRow=true:=jf (by kernel_rfl)
theorem ZF:(prog.info? 207).map (·.size)=some 5:=by kernel_rfl
def zf1:List Value:=[.int .u64 0,.slice none 0 0,.slice none 0 0,.slice none 0 0,.slice none 0 0]
theorem zfG (w:World):(zeroValue 207).run prog w=.ok (.agg zf1.toArray) w:=by kernel_rfl
theorem zfA:prog.underlying 165=some (.slice 207):=by kernel_rfl
theorem zhS:(prog.info? 207).map (λi=>(i.zero,i.size,i.bytes))=some (some (.agg zf1.toArray),5,104):=by kernel_rfl
theorem zgd:(prog.info? 207).map (λi=>(i.zero,i.size))=some (some (.agg zf1.toArray),5):=by kernel_rfl
theorem zgQ (t:Int) (a b:Option Addr) (n m c d:Nat) (w:World):(Instr.build 207 #[(0,.agg #[.int .u64 t,.slice a n c,.slice b m d])]).run prog w=.ok (.agg [.int .u64 t,.slice a n c,.slice b m d,.slice none 0 0,.slice none 0 0].toArray) w:=by kernel_rfl
theorem zeo (hg:q9 w0) {p s mi:Nat} {bv:Value} {css:List (List Value)} {D:ChD} (h:qS w0 w p s U mi bv css D) {b:qs} (G:jE w b cs) (hl:D.bs.length≤100000) (c:Xa D b≠0):
  Calls prog 51 #[.pointer (some ⟨p,0,none⟩),.agg cs.toArray] w λe w'=>e=.returned (.int .i64 (Xa D b))∧Fr No w w':=by
 have HB:=J G
 obtain⟨t,u,M,N,rfl⟩:=G.form
 have zH:=yS
 have zo:=y9
 have l:=J ((frN w).alloc (.cells #[.int .u64 b.tag,.slice t b.pay.length u,.slice M b.txs.length N] 55))
 have A:=J (h.fr0 l.o)
 have c1:=A.o.cells.2.1
 obtain⟨ba,bc,W⟩:=h.row.slice.arg.form
 rw[W] at c1
 obtain⟨x0,x1,x2,xr⟩:=Yw w (.int .u64 b.tag) (.slice t b.pay.length u) (.slice M b.txs.length N) 55
 have X1:=J x1
 have XR:=J xr
 have O:=J (zag ((hg.keep0 h.fr).keep0 l.o) (HB.o.keep l.o))
 have B:=J (zx (za6 b))
 clear h G x0 x1 x2 xr hg A
 show Calls prog 51 #[.pointer (some ⟨p,0,none⟩),.agg #[.int .u64 b.tag,.slice t b.pay.length u,.slice M b.txs.length N]] w _
 by_cases h1024:1024≤D.bs.length
 ·have q:=@J (Xa D b=18) (by simp[Xa,h1024])
  have j1:decide ((1024:Int)≤(D.bs.length:Int))=true:=by simp;omega
  clear c h1024
  go_enter Tryz.func51,Tryz.ntmps51
  go_wp2
  go_ret
  exact⟨by rw[q.o];rfl,l.o⟩
 have j1:decide ((1024:Int)≤(D.bs.length:Int))=false:=by simp;omega
 by_cases hok:vE b=true
 rotate_left
 ·have f:vE b=false:=by simpa using hok
  have q:=@J (Xa D b=5) (by simp[Xa,h1024,f])
  have S:=J (za7 f)
  rw[S.o.1] at O
  clear c h1024 hok f
  go_enter Tryz.func51,Tryz.ntmps51
  have⟨i,j,T⟩:=tZ3
  go_wp2_with ((first|((with_reducible refine zt ?_);clear i;refine zoe rfl rfl rfl XR.o rfl ?_;generalize w.alloc (.cells #[.int .u64 b.tag,.slice t b.pay.length u,.slice M b.txs.length N] 55)=w1 at*)|(clear j;go_at_call 94;refine O.o.mono ?_;rintro e v ⟨rfl,E⟩;have F2:=J (l.o.trans0 E);clear E;have F3:=J (F2.o.trans0 ((frN v).alloc (.cells (zf (ZS b)).toArray 41))))|((with_reducible refine zv ?_);clear T;refine zol (w:=v) (cs:=zf (ZS b)) rfl rfl rfl rfl B.o zU ?_));go_frame)
  go_ret
  exact⟨by rw[q.o];rfl,F3.o⟩
 have d:b.pay.any vX=true:=by
  cases G:b.pay.any vX with
  |true=>rfl
  |false=>exact absurd (show Xa D b=0 by simp[Xa,h1024,hok,G]) c
 have q:=@J (Xa D b=11) (by simp[Xa,h1024,hok,d])
 have S:=J (Vg hok)
 rw[S.o.1] at O
 have p8:b.pay.length≤8:=by
  have:=hok
  simp only[vE,Bool.and_eq_true,decide_eq_true_eq] at this
  exact this.1
 have z:=J d
 clear c h1024 hok d
 go_enter Tryz.func51,Tryz.ntmps51
 have⟨i,j,T⟩:=tZ3
 go_wp2_with ((first|((with_reducible refine zt ?_);clear i;refine zoe rfl rfl rfl XR.o rfl ?_;generalize w.alloc (.cells #[.int .u64 b.tag,.slice t b.pay.length u,.slice M b.txs.length N] 55)=w1 at*)|(clear j;go_at_call 94;refine O.o.mono ?_;rintro e v ⟨rfl,E⟩;have Q:=J E;clear E;have g:=J (Q.o.trans0 ((frN v).alloc (.cells (zf (ZS b)).toArray 41))))|((with_reducible refine zv ?_);clear T;refine zol (w:=v) (cs:=zf (ZS b)) rfl rfl rfl rfl B.o zU ?_;generalize v.alloc (.cells (zf (ZS b)).toArray 41)=w3 at*;have ab:=g.o.cell X1.o id));go_frame)
 have C:=@J (xu w3 (.slice t b.pay.length u) b.pay) (by
  obtain⟨ae,af,ag,ah,e,_,ho,_⟩:=HB.o
  simp only[zhv,List.cons.injEq,and_true] at e
  obtain⟨-,e1,-⟩:=e
  injection e1 with e11 _ e13
  subst e11;subst e13
  exact(ho.keep l.o).keep g.o)
 clear ab
 go_loopw [30] (λiv wr=>∃n:Nat,iv=.int .i64 n∧n≤b.pay.length∧(∀x∈b.pay.take n,vX x=false)∧Fr No w3 wr) (λiv _=>b.pay.length-(intOf iv).toNat)
 case atStart=>exact⟨0,rfl,zero_le _,by simp,Fr.refl _ _⟩
 case round=>
  obtain⟨n,rfl,hn,m,fr⟩:=hrel
  have FR:=J fr
  have AL:=J m
  clear fr m
  by_cases X:n<b.pay.length
  ·have i1:(n:Int)<(b.pay.length:Int):=by omega
   obtain⟨x,P⟩:∃x,b.pay[n]? =some x:=⟨_,getElem?_eq_getElem X⟩
   obtain⟨bb,off,ad,hv,hr,-⟩:=(C.o.keep FR.o).at_ P
   cases hv
   have o:=C.o.1 x (mem_of_getElem? P)
   have V:=J hr
   have r:=J (yz o)
   have R:=J (FR.o.trans0 ((frN wr).alloc (.cells (zJ x).toArray 103)))
   have n1:=(YP wr o).1
   have HX:=J P
   clear hr o P
   by_cases hbx:vX x=true
   ·have Z:x.value=0∨(x.value≠0∧1125899906842624<x.value):=by
     simp only[vX,Bool.or_eq_true,decide_eq_true_eq] at hbx
     by_cases h:x.value=0
     ·exact .inl h
     ·exact .inr ⟨h,hbx.resolve_left h⟩
    clear hbx
    rcases Z with K|⟨K,L⟩
    ·have H:(x.value==0)=true:=by simpa using K
     clear K
     have⟨i,j⟩:=tZ2
     go_wp2_with ((first|((with_reducible refine zt ?_);clear i;refine zob rfl rfl rfl V.o r.o ?_)|((with_reducible refine zv ?_);clear j;refine zok (w:=wr) (cs:=zJ x) rfl rfl rfl rfl r.o yf ?_;generalize wr.alloc (.cells (zJ x).toArray 103)=wA at*));go_frame)
     go_ret
     exact⟨by rw[q.o];rfl,l.o.trans0 (g.o.trans0 R.o)⟩
    ·have H:(x.value==0)=false:=by simpa using K
     have aa:decide (1125899906842624<x.value)=true:=by simpa using L
     clear K L
     have⟨i,j⟩:=tZ2
     go_wp2_with ((first|((with_reducible refine zt ?_);clear i;refine zob rfl rfl rfl V.o r.o ?_)|((with_reducible refine zv ?_);clear j;refine zok (w:=wr) (cs:=zJ x) rfl rfl rfl rfl r.o yf ?_;generalize wr.alloc (.cells (zJ x).toArray 103)=wA at*));go_frame)
     go_ret
     exact⟨by rw[q.o];rfl,l.o.trans0 (g.o.trans0 R.o)⟩
   ·have a:vX x=false:=by simpa using hbx
    have H:(x.value==0)=false:=by
     unfold vX at a
     rw[Bool.or_eq_false_iff] at a
     simpa using a.1
    have aa:decide (1125899906842624<x.value)=false:=by
     unfold vX at a
     rw[Bool.or_eq_false_iff] at a
     exact a.2
    have AN:=@J (∀y∈b.pay.take (n+1),vX y=false) (λy k=>by
     rw[take_add_one,HX.o] at k
     rcases mem_append.1 k with k|k
     ·exact AL.o y k
     ·simp at k;subst k;exact a)
    clear hbx a
    have⟨i,j⟩:=tZ2
    go_wp2_with ((first|((with_reducible refine zt ?_);clear i;refine zob rfl rfl rfl V.o r.o ?_)|((with_reducible refine zv ?_);clear j;refine zok (w:=wr) (cs:=zJ x) rfl rfl rfl rfl r.o yf ?_;generalize wr.alloc (.cells (zJ x).toArray 103)=wA at*));go_frame)
    go_roundw
    case rel=>exact⟨n+1,by go_num,by omega,AN.o,R.o⟩
    case measure=>simp[intOf];omega
  ·have Y:n=b.pay.length:=by omega
   have i1:¬(n:Int)<(b.pay.length:Int):=by omega
   exfalso
   have F:=AL.o
   rw[Y,take_length] at F
   have hB:=z.o
   obtain⟨y,k,I⟩:=List.any_eq_true.1 hB
   rw[F y k] at I
   cases I
theorem zdv (hg:q9 w0) {p s F:Nat} {G:Value} {css:List (List Value)} {D:ChD} (h:qS w0 w p s U F G css D) {b:qs} (hb:jE w b cs) (M:Xa D b=0) {R:DoR}
  (ak:∀(w:World) (cs:List Value),jE w b cs→Calls prog 95 #[.agg cs.toArray] w (zl2 w b)) {X:Nat→Prop} (hX:∀j,X j→j<w.heap.size) (aI:DoC X w0 p s F U G css D b R) (aK:R.S.length+Jf R.d.chg≤100000∧R.d.chg.length≤100000∧R.d.ids.length≤100000):
  Calls prog 51 #[.pointer (some ⟨p,0,none⟩),.agg cs.toArray] w (zmh X w0 w p s F U D G css R):=by
 have H:¬1024≤D.bs.length:=λh=>by simp[Xa,h] at M
 have hok:vE b=true:=by
  cases hok:vE b with
  |true=>rfl
  |false=>simp[Xa,H,hok] at M
 have aj:b.pay.any vX=false:=by
  cases hb:b.pay.any vX with
  |false=>rfl
  |true=>simp[Xa,H,hok,hb] at M
 have HB:=J hb
 obtain⟨pa,pc,ta,tc,rfl⟩:=hb.form
 obtain⟨dD,uD,rD⟩:=zes
 have zH:=yS
 have zo:=y9
 have zD:=zfG
 have F1:=J ((frN w).alloc (.cells #[.int .u64 b.tag,.slice pa b.pay.length pc,.slice ta b.txs.length tc] 55))
 have HC:=J h
 have ay:=J (h.fr0 F1.o)
 have c1:=ay.o.cells.2.1
 obtain⟨ba,bc,ar⟩:=h.row.slice.arg.form
 rw[ar] at c1
 obtain⟨x0,x1,x2,xr⟩:=Yw w (.int .u64 b.tag) (.slice pa b.pay.length pc) (.slice ta b.txs.length tc) 55
 have X1:=J x1
 have XR:=J xr
 have ID:=J (zag ((hg.keep0 h.fr).keep0 F1.o) (HB.o.keep F1.o))
 have aS:=J (zx (za6 b))
 have GE:=J (Vg hok)
 rw[GE.o.1] at ID
 have j1:decide ((1024:Int)≤(D.bs.length:Int))=false:=by simp;omega
 have p8:b.pay.length≤8:=by
  have:=hok
  simp only[vE,Bool.and_eq_true,decide_eq_true_eq] at this
  exact this.1
 have ax:=J (List.any_eq_false.1 aj)
 have aC:=J hok
 have aD:=J ak
 have az:=J aI
 have ag:=J hX
 have an:=J aK
 have BL:=@J (D.bs.length<1024) (by omega)
 have E:=J ar
 clear h hb x0 x1 x2 xr hg hok aj H M ak aI aK ay ar hX
 show Calls prog 51 #[.pointer (some ⟨p,0,none⟩),.agg #[.int .u64 b.tag,.slice pa b.pay.length pc,.slice ta b.txs.length tc]] w _
 go_enter Tryz.func51,Tryz.ntmps51
 have⟨K0,K1,K2⟩:=tZ3
 go_wp2_with ((first|((with_reducible refine zt ?_);clear K0;refine zoe rfl rfl rfl XR.o rfl ?_;generalize w.alloc (.cells #[.int .u64 b.tag,.slice pa b.pay.length pc,.slice ta b.txs.length tc] 55)=w1 at*)|(clear K1;go_at_call 94;refine ID.o.mono ?_;rintro e w2 ⟨rfl,f2⟩;have aO:=J f2;clear f2;have ab:=J (aO.o.trans0 ((frN w2).alloc (.cells (zf (ZS b)).toArray 41))))|((with_reducible refine zv ?_);clear K2;refine zol (w:=w2) (cs:=zf (ZS b)) rfl rfl rfl rfl aS.o zU ?_;generalize w2.alloc (.cells (zf (ZS b)).toArray 41)=w3 at*;have a8:=ab.o.cell X1.o id));go_frame)
 have aB:=@J (xu w3 (.slice pa b.pay.length pc) b.pay) (by
  obtain⟨bh,bj,bk,bl,e,_,ho,_⟩:=HB.o
  simp only[zhv,List.cons.injEq,and_true] at e
  obtain⟨-,e1,-⟩:=e
  injection e1 with e11 _ e13
  subst e11;subst e13
  exact(ho.keep F1.o).keep ab.o)
 clear a8
 go_loopw [30] (λiv wr=>∃n:Nat,iv=.int .i64 n∧n≤b.pay.length∧(∀x∈b.pay.take n,vX x=false)∧Fr No w3 wr) (λiv _=>b.pay.length-(intOf iv).toNat)
 case atStart=>exact⟨0,rfl,zero_le _,by simp,Fr.refl _ _⟩
 case round=>
  obtain⟨n,rfl,hn,ai,fr⟩:=hrel
  have FR:=J fr
  have AL:=J ai
  clear fr ai
  by_cases aZ:n<b.pay.length
  ·have i1:(n:Int)<(b.pay.length:Int):=by omega
   obtain⟨x,hx⟩:∃x,b.pay[n]? =some x:=⟨_,getElem?_eq_getElem aZ⟩
   obtain⟨bb,off,bd,hv,hr,-⟩:=(aB.o.keep FR.o).at_ hx
   cases hv
   have au:=aB.o.1 x (mem_of_getElem? hx)
   have R1:=J hr
   have IL:=J (yz au)
   have FA:=J (FR.o.trans0 ((frN wr).alloc (.cells (zJ x).toArray 103)))
   have n1:=(YP wr au).1
   have HX:=J hx
   clear hr au hx
   by_cases hbx:vX x=true
   ·exact absurd hbx (ax.o x (mem_of_getElem? HX.o))
   ·have g:vX x=false:=by simpa using hbx
    have bf:(x.value==0)=false:=by
     unfold vX at g
     rw[Bool.or_eq_false_iff] at g
     simpa using g.1
    have bg:decide (1125899906842624<x.value)=false:=by
     unfold vX at g
     rw[Bool.or_eq_false_iff] at g
     exact g.2
    have AN:=@J (∀y∈b.pay.take (n+1),vX y=false) (λy hy=>by
     rw[take_add_one,HX.o] at hy
     rcases mem_append.1 hy with hy|hy
     ·exact AL.o y hy
     ·simp at hy;subst hy;exact g)
    clear hbx g
    have⟨K0,K1⟩:=tZ2
    go_wp2_with ((first|((with_reducible refine zt ?_);clear K0;refine zob rfl rfl rfl R1.o IL.o ?_)|((with_reducible refine zv ?_);clear K1;refine zok (w:=wr) (cs:=zJ x) rfl rfl rfl rfl IL.o yf ?_;generalize wr.alloc (.cells (zJ x).toArray 103)=wA at*));go_frame)
    go_roundw
    case rel=>exact⟨n+1,by go_num,by omega,AN.o,FA.o⟩
    case measure=>simp[intOf];omega
  ·have a6:n=b.pay.length:=by omega
   have i1:¬(n:Int)<(b.pay.length:Int):=by omega
   have FW:=J (F1.o.trans0 (ab.o.trans0 FR.o))
   have FO:=J (ab.o.trans0 FR.o)
   have aG:=J (za XR.o FO.o id)
   have aF:=J (aD.o wr _ (HB.o.keep FW.o))
   have ae:=J (HC.o.fr0 FW.o)
   clear AL a6
   by_cases hE:R.E=0
   rotate_left
   ·have aU:=J hE
    have e0:(R.E==0)=false:=by simpa using hE
    clear hE
    have⟨K0,K1,K2,K3,K4,K5,K6⟩:=tZ7
    go_wp2_with ((first|((with_reducible refine zt ?_);first|(clear K0;refine zoe rfl rfl rfl aG.o rfl ?_)|(clear K2;refine zg rfl (yk (t:=207) rfl rfl (zgQ _ _ _ _ _ _ _ _)) ?_)|(clear K5;refine zg rfl (z7 (ty:=207) rfl rfl (zq Q7.o) uD rD (by rw[List.toList_toArray,D5.o];exact ZF)) ?_))|(clear K1;go_at_call 95;refine aF.o.mono ?_;rintro e w5 ⟨aW,rfl,f5,I⟩;obtain⟨m,o,q,r,rfl⟩:=(I (λ_=>False) (λ_ h=>h.elim)).now.form;have K5:=J I;have F5:=J f5;have l:=J (ae.o.fr0 f5);clear I f5)|(clear K4;go_at_call 96;refine(az.o w6 dq [.int .u64 b.tag,.slice m b.pay.length o,.slice q b.txs.length r] (l.o.fr0 Q.o) B6.o (λe=>by have:=l.o.hi _ e;omega) (by have:=l.o.fr.size;omega) (λj c=>by have:=ag.o j c;have:=FW.o.size;have:=F5.o.size;have:=Q.o.size;omega) ((K5.o (λj=>chV p U F G j∨X j) (λj c=>c.elim (ae.o.hi j) (λe=>by have:=ag.o j e;have:=FW.o.size;omega))).step Q.o.of0 (λj c e=>e.imp_right (λe=>e.resolve_left (by omega)))) aC.o (λi d cs h1 O=>(l.o.data i d cs h1 O).step Q.o.of0 (λj c e=>e.resolve_right (by omega)))).mono ?_;rintro e w7 ⟨M7,aa,rfl,V,f7,T,A,Z,L⟩;have af:=J aa;have al:=J V;have F7:=J f7;have Q7:=J Z;have KD:=J L;have ad:=@J (Fr (chV p U F G) w w7) (((FW.o.trans0 F5.o).trans0 Q.o).of0.trans f7 (λj c e=>e.elim id (λe=>by have:=FW.o.size;have:=F5.o.size;omega)));obtain⟨Y,W⟩:=L.now.one;have D5:=J Y;have D1:=J W;clear aa V f7 T Z L Y W)|(clear K6;go_at_call 97;refine(zfB al.o (show Kept (chV p U F G) w7 (λw=>jF w R.d A) from λw' f=>KD.o w' (f.mono (λj c=>.inl c))) an.o.1 an.o.2.1 an.o.2.2).mono ?_;rintro e w8 ⟨rfl,M8,aH,aJ,-,f8⟩;have aR:=J aH;have aT:=J aJ;have F8:=@J (Fr (chV p U F G) w w8) (ad.o.trans f8 (λ_ _ h=>h));clear aH aJ f8)|((with_reducible refine zv ?_);clear K3;refine zi rfl (zj (w:=w5) (ty:=207) (cs:=[.int .u64 b.tag,.slice m b.pay.length o,.slice q b.txs.length r,.slice none 0 0,.slice none 0 0]) rfl rfl rfl rfl ZF (λu hu=>by simp only[mem_cons,not_mem_nil,or_false] at hu;rcases hu with rfl|rfl|rfl|rfl|rfl<;>rfl)) ?_;have Q:=J ((frN w5).alloc (.cells [.int .u64 b.tag,.slice m b.pay.length o,.slice q b.txs.length r,.slice none 0 0,.slice none 0 0].toArray 207));have B6:=J (yj w5 (.cells [.int .u64 b.tag,.slice m b.pay.length o,.slice q b.txs.length r,.slice none 0 0,.slice none 0 0].toArray 207));generalize w5.alloc (.cells [.int .u64 b.tag,.slice m b.pay.length o,.slice q b.txs.length r,.slice none 0 0,.slice none 0 0].toArray 207)=w6 at*;generalize aX:w5.heap.size=dq at*));go_frame)
    go_ret
    refine⟨rfl,F8.o,λh=>absurd h aU.o,λ_=>⟨M8,aR.o,λx v=>?_⟩⟩
    rw[aT.o,af.o.1]
    constructor
    ·rintro⟨h1,O|⟨O,h3⟩⟩
     ·exact O
     ·exact absurd O h1
    ·intro O
     exact⟨λh=>af.o.2 x h v O,.inl O⟩
   ·have aA:=J hE
    have e0:(R.E==0)=true:=by simpa using hE
    clear hE
    have⟨K0,K1,K2,K3,K4⟩:=tZ5
    go_wp2_with ((first|((with_reducible refine zt ?_);first|(clear K0;refine zoe rfl rfl rfl aG.o rfl ?_)|(clear K2;refine zg rfl (yk (t:=207) rfl rfl (zgQ _ _ _ _ _ _ _ _)) ?_))|(clear K1;go_at_call 95;refine aF.o.mono ?_;rintro e w5 ⟨aW,rfl,f5,I⟩;obtain⟨m,o,q,r,rfl⟩:=(I (λ_=>False) (λ_ h=>h.elim)).now.form;have K5:=J I;have F5:=J f5;have l:=J (ae.o.fr0 f5);clear I f5)|(clear K4;go_at_call 96;refine(az.o w6 dq [.int .u64 b.tag,.slice m b.pay.length o,.slice q b.txs.length r] (l.o.fr0 Q.o) B6.o (λe=>by have:=l.o.hi _ e;omega) (by have:=l.o.fr.size;omega) (λj c=>by have:=ag.o j c;have:=FW.o.size;have:=F5.o.size;have:=Q.o.size;omega) ((K5.o (λj=>chV p U F G j∨X j) (λj c=>c.elim (ae.o.hi j) (λe=>by have:=ag.o j e;have:=FW.o.size;omega))).step Q.o.of0 (λj c e=>e.imp_right (λe=>e.resolve_left (by omega)))) aC.o (λi d cs h1 O=>(l.o.data i d cs h1 O).step Q.o.of0 (λj c e=>e.resolve_right (by omega)))).mono ?_;rintro e w7 ⟨M7,aa,rfl,V,f7,T,A,Z,L⟩;have af:=J aa;have al:=J V;have F7:=J f7;have Q7:=J Z;have KD:=J L;have ad:=@J (Fr (chV p U F G) w w7) (((FW.o.trans0 F5.o).trans0 Q.o).of0.trans f7 (λj c e=>e.elim id (λe=>by have:=FW.o.size;have:=F5.o.size;omega)));obtain⟨Y,W⟩:=L.now.one;have D5:=J Y;have D1:=J W;clear aa V f7 T Z L Y W)|((with_reducible refine zv ?_);clear K3;refine zi rfl (zj (w:=w5) (ty:=207) (cs:=[.int .u64 b.tag,.slice m b.pay.length o,.slice q b.txs.length r,.slice none 0 0,.slice none 0 0]) rfl rfl rfl rfl ZF (λu hu=>by simp only[mem_cons,not_mem_nil,or_false] at hu;rcases hu with rfl|rfl|rfl|rfl|rfl<;>rfl)) ?_;have Q:=J ((frN w5).alloc (.cells [.int .u64 b.tag,.slice m b.pay.length o,.slice q b.txs.length r,.slice none 0 0,.slice none 0 0].toArray 207));have B6:=J (yj w5 (.cells [.int .u64 b.tag,.slice m b.pay.length o,.slice q b.txs.length r,.slice none 0 0,.slice none 0 0].toArray 207));generalize w5.alloc (.cells [.int .u64 b.tag,.slice m b.pay.length o,.slice q b.txs.length r,.slice none 0 0,.slice none 0 0].toArray 207)=w6 at*;generalize aX:w5.heap.size=dq at*));go_frame)
    have N:=J (frN w7).drew
    have a:=J (al.o.fr0 N.o)
    have Q9:=J (N.o.obj Q7.o id)
    have GR:=@J (w7.drew.rangeAt dq 0 A) (zq Q9.o)
    have CB:=@J (w7.drew.cell? ⟨p,1,none⟩=some (.slice ba D.bs.length bc)) (by rw[←E.o];exact a.o.cells.2.1)
    refine yp [ff,ff,ff,ff,ff,ff,tt,tt,ff,ff,tt] (λw'=>w'.cell? ⟨p,1,none⟩=some (.slice ba D.bs.length bc)∧w'.rangeAt dq 0 A) (by kernel_rfl) (by kernel_rfl) 10 (by kernel_rfl) (by kernel_rfl) ?_ (λK hK=>?_)
    ·exact⟨CB.o,GR.o⟩
    generalize w7.drew=z at*
    have ah:=@J (z.ownsRow w0.heap.size 207 5 (.slice ba D.bs.length bc) D.bs.length (css.flatMap id)) (by rw[←E.o];exact a.o.row)
    obtain⟨v5,w9,a1,a2,a3,a4,a5⟩:=yY (P:=prog) z w0.heap.size 165 165 207 5 104 _ zfA zhS rfl (by decide) ah.o A D5.o D1.o (by have:=BL.o;omega) (by have:=BL.o;unfold maxLen;omega) a.o.fr.size
    obtain⟨B,C,a7⟩:=a2.slice.arg.form
    subst a7
    have A1:=J a1
    have O9:=@J (w9.ownsRow w0.heap.size 207 5 (.slice B (D.bs.length+1) C) (D.bs++[R.d]).length ((css++[A]).flatMap id)) (by rw[length_append,flatMap_append];simpa using a2)
    have F9:=@J (Fr (chV p U F G) z w9) (a3.mono (λj e=>.inr (.inr (.inr (by rw[E.o];exact e)))))
    have N9:=@J (∀j,(Value.slice B (D.bs.length+1) C).ownBlock=some j→G.ownBlock=some j∨z.heap.size≤j) (λj c=>by rw[E.o];exact a5 j c)
    have aP:=J a3
    have aE:=J (a3.obj a.o.obj (λe=>(a.o.rn p (by rw[E.o];exact e)).1 rfl))
    have aN:=@J (dq≠p∧¬chV p U F G dq) (⟨λe=>by have:=yF l.o.obj;omega,λe=>by have:=l.o.hi _ e;omega⟩)
    have aQ:=J (za GR.o F9.o aN.o.2)
    clear a1 a2 a3 a4 a5
    have S:=aE.o
    rw[E.o] at S
    have aV:w9.cell? ⟨p,1,none⟩=some (.slice ba D.bs.length bc):=by have:=zq S 1 _ rfl;simpa using this
    have aM:=J aV
    have fz:=yn (i:=1) S
    have KS:=@J (∀w',Fr No z w'→w'.cell? ⟨p,1,none⟩=some (.slice ba D.bs.length bc)∧w'.rangeAt dq 0 A) (λw' f=>⟨f.cell CB.o id,za GR.o f id⟩)
    have fs:Fr (λj=>j=p) w9 (w9.setCell ⟨p,1,none⟩ (.slice B (D.bs.length+1) C)):=(Fr.refl (λj=>j=p) w9).setCell ⟨p,1,none⟩ (.inr rfl) _
    have FT:=@J (Fr (chV p U F G) z (w9.setCell ⟨p,1,none⟩ (.slice B (D.bs.length+1) C))) (F9.o.trans fs (λj _ e=>.inl e))
    have av:=@J (Fr (chV p U F G) w (w9.setCell ⟨p,1,none⟩ (.slice B (D.bs.length+1) C))) ((ad.o.trans0 N.o).trans FT.o (λ_ _ h=>h))
    have VV:=@J (∀j,j<z.heap.size→chV p U F (.slice B (D.bs.length+1) C) j→chV p U F G j) (λj c e=>by
     rcases e with e|e|e|e
     ·exact .inl e
     ·exact .inr (.inl e)
     ·exact .inr (.inr (.inl e))
     ·exact .inr (.inr (.inr ((N9.o j e).resolve_right (by omega)))))
    have aw:=@J (Fr (λj=>(Value.slice ba D.bs.length bc).ownBlock=some j∨j=p) z (w9.setCell ⟨p,1,none⟩ (.slice B (D.bs.length+1) C))) ((aP.o.mono (λj e=>.inl e)).trans fs (λj _ e=>.inr e))
    have aL:=@J (qS w0 (w9.setCell ⟨p,1,none⟩ (.slice B (D.bs.length+1) C)) p s U F (.slice B (D.bs.length+1) C) (css++[A]) ⟨R.S,D.bs++[R.d],M7⟩) ({
     obj:=by have:=heap_setCell_same w9 p 1 _ _ (.slice B (D.bs.length+1) C) aE.o;simpa using this
     set:=a.o.set.frV aw.o (λj c e=>e.elim (λe=>(a.o.rn j (by rw[E.o];exact e)).2.2 c) (λe=>a.o.up (e▸c))) (λj e=>e.elim (λe=>(ah.o.lt j e).1) (λe=>by have:=a.o.lo1;omega))
     row:=zb O9.o fs (λj c e=>(N9.o j c).elim (λh=>(a.o.rn j h).1 e) (λh=>by have:=yF a.o.obj;omega))
     cl:=by rw[length_append,length_append,a.o.cl];rfl
     c5:=λcs h=>(mem_append.1 h).elim (λh=>a.o.c5 cs h) (λh=>by simp at h;subst h;exact D5.o)
     data:=λi d cs h1 O=>by
      by_cases hi:i<D.bs.length
      ·have ao:D.bs[i]? =some d:=by rw[←h1];exact(getElem?_append_left hi).symm
       have aq:css[i]? =some cs:=by rw[←O];exact(getElem?_append_left (by rw[a.o.cl];exact hi)).symm
       exact(a.o.data i d cs ao aq).step FT.o (λj c e=>VV.o j c e)
      ·have aY:i=D.bs.length:=by have:=(List.getElem?_eq_some_iff.1 h1).1;simp only[length_append,length_singleton] at this;omega
       subst aY
       have ao:R.d=d:=by
        have:=h1
        simp only[getElem?_append_right (le_refl _),sub_self,List.getElem?_cons_zero,Option.some.injEq] at this
        exact this
       have aq:A=cs:=by
        have:=O
        rw[getElem?_append_right (by rw[a.o.cl];exact le_refl _),a.o.cl] at this
        simpa using this
       subst ao
       subst aq
       exact(KD.o.same N.o.of0).step (FT.o.mono (λj e=>.inl e)) (λj c e=>.inl (VV.o j c e))
     map:=a.o.map.keep aw.o (λe=>e.elim (λe=>(a.o.rn F (by rw[E.o];exact e)).2.1 rfl) (λe=>a.o.pm e.symm))
     pm:=a.o.pm
     up:=a.o.up
     um:=a.o.um
     rn:=λk hk=>(N9.o k hk).elim (λh=>a.o.rn k h) (λh=>⟨λe=>by have:=yF a.o.obj;omega,λe=>by have:=a.o.map.lt;omega,λe=>by have:=a.o.set.hi k e;omega⟩)
     lo1:=a.o.lo1
     lo2:=a.o.lo2})
    repeat((first|(refine yb rfl ?_;constructor;constructor;(focus(first|exact xB (ty:=207) rfl (λw h=>h.2) uD rD (by rw[D5.o];exact ZF)|(rintro w' ⟨s1,s2⟩;exact goS))))|(refine yc rfl ?_));try simp only[Act.put,pA,pB,pC])
    (refine ya rfl (λK' hK'=>?_))
    refine yg (zS (t:=165) rfl rfl zfA zgd rfl (by decide) (by decide) D5.o) ?_
    refine hK'.out _ _ (λ_=>?_) (λhS=>?_)
    ·exact KS.o _ ((frN z).alloc _)
    try simp only[Act.put,pA,pB,pC]
    (refine ya rfl (λK' hK'=>?_))
    refine yr rfl rfl rfl A1.o ?_
    refine hK'.out _ _ (λ_=>?_) (λhS=>?_)
    ·exact⟨aM.o,aQ.o⟩
    try simp only[Act.put,pA,pB,pC]
    repeat((first|(refine yb rfl ?_;constructor;constructor;(focus(first|(rintro w' ⟨s1,s2⟩;exact goS))))|(refine yc rfl ?_));try simp only[Act.put,pA,pB,pC])
    (refine ya rfl (λK' hK'=>?_))
    go_simp
    refine hK'.out _ _ (λh=>absurd rfl h) (λhS=>?_)
    refine xA (hK.out _ _ ?_)
    go_wp2_with fail
    go_ret
    exact⟨by rw[aA.o];rfl,av.o,λ_=>⟨_,_,M7,aL.o,af.o,λj c=>(N9.o j c).imp_right (λh=>le_trans (ad.o.trans0 N.o).size h),A,rfl,(KD.o.same N.o.of0).step (FT.o.mono (λj e=>.inl e)) (λj c e=>e.imp (λe=>VV.o j c e) .inr)⟩,λh=>absurd aA.o h⟩
theorem zkK (w:World):(Instr.build 55 #[]).run prog w=.ok (.agg Jw.toArray) w:=by kernel_rfl
theorem zi7:∀u∈Jw,u.oneCell'=true:=by
 intro u a
 simp only[Jw,mem_cons,not_mem_nil,or_false] at a
 rcases a with rfl|rfl|rfl<;>rfl
theorem zmX {a b c d e:Value} (h:w.heap[q]? =some (.cells [a,b,c,d,e].toArray T (0,0))):w.rangeAt q 0 [a,b,c]:=λj v f=>by
 refine zq h j v ?_
 match j,f with
 |0,f=>exact f
 |1,f=>exact f
 |2,f=>exact f
theorem zlh {B m k g a:Nat} {A C:List Value} (h:w.ownsRow B T k (.slice (some ⟨g,0,none⟩) (m+1) a) (m+1) (A++C)) (f:A.length=m*k):w.ownsRow B T k (.slice (some ⟨g,0,none⟩) m a) m A:=by
 rcases h.2 with⟨e,_⟩|⟨p,d,b,e,i,j,q,l,n,o⟩
 ·cases e
 ·injection e with c e2 e3
  injection c with c
  injection c with c
  subst c
  subst e3
  refine⟨f,.inr ⟨g,a,b,rfl,i,j,by omega,l,n,?_⟩⟩
  have c:b.toList.take (m*k)=(b.toList.take ((m+1)*k)).take (m*k):=by rw[List.take_take,min_eq_left (Nat.mul_le_mul_right k (Nat.le_succ m))]
  rw[c,o,←f]
  simp
theorem zhH {o w:World} {p s l:Nat} {j:Value} {css:List (List Value)} {D:ChD} (h:qS o w p s U l j css D) (k:D.bs=[]):
  Calls prog 53 #[.pointer (some ⟨p,0,none⟩)] w λe w'=>e=.returned (.tuple #[.agg Jw.toArray,.int .i64 9])∧Fr No w w':=by
 obtain⟨u,n,m⟩:=zgV
 have v:=YY
 have d:=J ((frN w).alloc (.cells Jw.toArray 55))
 have c:=J (yj w (.cells Jw.toArray 55))
 obtain⟨q,r,a⟩:=h.row.slice.arg.form
 have c1:=(h.fr0 d.o).cells.2.1
 rw[a,k] at c1
 clear h a
 go_enter Tryz.func53,Tryz.ntmps53
 have⟨f,g⟩:=tZ2
 go_wp2_with ((first|((with_reducible refine zt ?_);clear f;refine zg rfl (yk (t:=55) rfl rfl (zkK _)) ?_)|((with_reducible refine zv ?_);clear g;refine zi rfl (zK (ty:=55) (b:=w.heap.size) (off:=0) (cs:=Jw) rfl rfl rfl (zX c.o (le_refl 3)) JS zi7) ?_));go_frame)
 refine bodyPost_ret (ym (P:=prog) (fn:=Tryz.f53) rfl _ rfl (yx c.o rfl) n m JS rfl) rfl ⟨rfl,?_⟩
 exact d.o.trans (zu _ _ _ _) (λi hi e=>by omega)
def zmj (w0 w:World) (p s mi:Nat) (U:Nat→Prop) (bv:Value) (css:List (List Value)) (D:ChD) (bs0:List yB) (d:yB) (e:Ending) (w':World):Prop:=
 ∃bcs bv' css' M',e=.returned (.tuple #[.agg bcs.toArray,.int .i64 0])∧qS w0 w' p s U mi bv' css' ⟨xS d.chg D.S,bs0,M'⟩∧(∀x v,(x,v)∈M'↔x∉d.ids∧(x,v)∈D.M)∧Kept (chV p U mi bv') w' (λw=>jE w d.blk bcs)∧Fr (chV p U mi bv) w w'∧bv'.ownBlock=bv.ownBlock∧∃tl,css=css'++[bcs++tl]
theorem zjo {p s y:Nat} {bv:Value} {css:List (List Value)} {D:ChD} (h:qS w0 w p s U y bv css D) {o:List yB} {d:yB} (G:D.bs=o++[d]) (hl:o.length≤2000) (hN:D.S.length+Jf d.chg≤100000) (ah:d.chg.length≤100000) (hI:d.ids.length≤100000):
  Calls prog 53 #[.pointer (some ⟨p,0,none⟩)] w (zmj w0 w p s y U bv css D o d):=by
 obtain⟨dB,uB,rB⟩:=zgV
 obtain⟨dD,uD,rD⟩:=zes
 have zB:=YY
 have zD:=zfG
 have t:D.bs.length=o.length+1:=by rw[G];simp
 obtain⟨m,hm⟩:∃m,m=o.length:=⟨_,rfl⟩
 rw[←hm] at t hl
 obtain⟨n,I,hcss⟩:∃n I,css=n++[I]:=by
  have ak:css≠[]:=λe=>by have:=h.cl;rw[e,t] at this;simp at this
  exact⟨css.dropLast,css.getLast ak,(List.dropLast_concat_getLast ak).symm⟩
 have q:n.length=m:=by have:=h.cl;rw[hcss,t] at this;simpa using this
 have S:D.bs[m]? =some d:=by rw[G,hm];simp
 have H:css[m]? =some I:=by rw[hcss,←q];simp
 have h5:I.length=5:=h.c5 I (by rw[hcss];simp)
 have KD:=J (h.data m d I S H)
 obtain⟨g,c,hv,hr,-⟩:=JF (f:=id) (k:=5) (by decide) h.c5 h.row H
 rw[t] at hv
 subst hv
 have W:=J ((frN w).alloc (.cells Jw.toArray 55))
 have B1:=J (yj w (.cells Jw.toArray 55))
 have F:=J h
 have r:=J (h.fr0 W.o)
 have af:=J (KD.o.same W.o.of0)
 have R1:=@J ((w.alloc (.cells Jw.toArray 55)).rangeAt g (m*5) I) (za hr W.o id)
 have c1:=r.o.cells.2.1
 have ad:=J h.hi
 have i1:(0:Int)≤(m:Int):=by omega
 have i2:(m:Int)<((m+1:Nat):Int):=by omega
 have ag:=@J (∀w':World,w'.ownsRow w0.heap.size 207 5 (.slice (some ⟨g,0,none⟩) (m+1) c) (m+1) (css.flatMap id)→w'.ownsRow w0.heap.size 207 5 (.slice (some ⟨g,0,none⟩) m c) m (n.flatMap id)) (λw' hh=>zlh (C:=I) (by rw[hcss,flatMap_append] at hh;simpa using hh) (by rw[xI id 5 n (λx hx=>h.c5 x (by rw[hcss];simp[hx])),q]))
 have OD:=J KD.o.now.one
 have v:=@J (n.length=m∧(∀x∈n,x.length=5)∧∀(i:Nat) (d':yB) (cs:List Value),o[i]? =some d'→n[i]? =some cs→D.bs[i]? =some d'∧css[i]? =some cs) (⟨q,λx hx=>h.c5 x (by rw[hcss];simp[hx]),λi d' cs a b=>⟨by rw[G,getElem?_append_left (List.getElem?_eq_some_iff.1 a).1];exact a,by rw[hcss,getElem?_append_left (List.getElem?_eq_some_iff.1 b).1];exact b⟩⟩)
 have ae:=J t
 have HM:=J hm
 have aa:=J (And.intro S H)
 have N:=J (And.intro hN (And.intro ah hI))
 have Z:=J hcss
 clear h hr G hN ah hI hm hcss q S H t KD h5
 go_enter Tryz.func53,Tryz.ntmps53
 obtain⟨z,A,B,E,T,V,O,Q,av⟩:=af.o.now.form
 subst av
 have aq:=J (F.o.data m d _ (show D.bs[m]? =some d from aa.o.1) aa.o.2)
 have ax:(m:Int)≤(c:Int):=by
  rcases r.o.row.2 with⟨e,_⟩|⟨g',aw,aA,e,R,h2,h3,h4,h5,h6⟩
  ·cases e
  ·injection e with e1 e2 e3
   have:=ae.o
   omega
 have M:=J ((frN (w.alloc (.cells Jw.toArray 55))).alloc (.cells ([.int .u64 d.blk.tag,.slice z d.blk.pay.length A,.slice B d.blk.txs.length E,.slice T d.ids.length V,.slice O d.chg.length Q]).toArray 207))
 have BA:=J (yj (w.alloc (.cells Jw.toArray 55)) (.cells ([.int .u64 d.blk.tag,.slice z d.blk.pay.length A,.slice B d.blk.txs.length E,.slice T d.ids.length V,.slice O d.chg.length Q]).toArray 207))
 have au:=(r.o.fr0 M.o).cells.2.1
 have l:=J (r.o.fr0 M.o)
 have fz:=yn (i:=1) l.o.obj
 have⟨K0,K1,K2,K3,K4,K5⟩:=tZ6
 go_wp2_with ((first|((with_reducible refine zt ?_);first|(clear K0;refine zg rfl (z7 (ty:=207) rfl rfl R1.o uD rD ZF) ?_;clear c1;generalize aC:w.alloc (.cells Jw.toArray 55)=w1 at*)|(clear K2;refine zg rfl (z7 (ty:=207) rfl rfl (zq B3.o) uD rD ZF) ?_;clear fz au;generalize aE:L.setCell ⟨p,1,none⟩ (.slice (some ⟨g,0,none⟩) m c)=w3 at*)|(clear K4;refine zoe rfl rfl rfl R8.o rfl ?_))|((with_reducible refine zv ?_);first|(clear K1;refine zi rfl (zj (w:=w1) (ty:=207) (cs:=[.int .u64 d.blk.tag,.slice z d.blk.pay.length A,.slice B d.blk.txs.length E,.slice T d.ids.length V,.slice O d.chg.length Q]) rfl rfl rfl rfl ZF OD.o.2) ?_;generalize aD:w1.alloc (.cells ([.int .u64 d.blk.tag,.slice z d.blk.pay.length A,.slice B d.blk.txs.length E,.slice T d.ids.length V,.slice O d.chg.length Q]).toArray 207)=L at*;generalize aB:w1.heap.size=dq at*;have K:Fr (λj=>j=p) L (L.setCell ⟨p,1,none⟩ (.slice (some ⟨g,0,none⟩) m c)):=(Fr.refl (λj=>j=p) L).setCell ⟨p,1,none⟩ (.inr rfl) _;have al:=@J (qS w0 (L.setCell ⟨p,1,none⟩ (.slice (some ⟨g,0,none⟩) m c)) p s U y (.slice (some ⟨g,0,none⟩) m c) n ⟨D.S,o,D.M⟩) ({obj:=(by have:=heap_setCell_same L p 1 _ _ (.slice (some ⟨g,0,none⟩) m c) l.o.obj;simpa using this),set:=l.o.set.frV K (λj X e=>l.o.up (e▸X)) (λj e=>by have:=l.o.lo1;omega),row:=(by have R:=zb (ag.o L (by have:=l.o.row;rw[ae.o] at this;exact this)) K (λj X e=>(l.o.rn j X).1 e);rw[HM.o] at R;rw[HM.o];exact R),cl:=v.o.1.trans HM.o,c5:=v.o.2.1,data:=λi d' cs a b=>(l.o.data i d' cs (v.o.2.2 i d' cs a b).1 (v.o.2.2 i d' cs a b).2).same (K.mono (λj e=>.inl e)),map:=l.o.map.keep K (λe=>l.o.pm e.symm),pm:=l.o.pm,up:=l.o.up,um:=l.o.um,rn:=l.o.rn,lo1:=l.o.lo1,lo2:=l.o.lo2});have FS:=J K;have PQ:=@J (p≠dq∧¬chV p U y (.slice (some ⟨g,0,none⟩) m c) dq) (⟨λe=>by have:=yF r.o.obj;omega,λe=>by have:=r.o.hi dq e;omega⟩);have B3:=J (K.obj BA.o (λe=>PQ.o.1 e.symm));have ar:=@J (Kept (chV p U y (.slice (some ⟨g,0,none⟩) m c)) (L.setCell ⟨p,1,none⟩ (.slice (some ⟨g,0,none⟩) m c)) (λw=>jF w d [.int .u64 d.blk.tag,.slice z d.blk.pay.length A,.slice B d.blk.txs.length E,.slice T d.ids.length V,.slice O d.chg.length Q])) ((af.o.same M.o.of0).same (K.mono (λj e=>.inl e)));clear K)|(clear K5;refine zi rfl (zK (ty:=55) (b:=w.heap.size) (off:=0) (cs:=[.int .u64 d.blk.tag,.slice z d.blk.pay.length A,.slice B d.blk.txs.length E]) rfl rfl rfl (zX BZ.o (le_refl 3)) JS (λu hu=>by simp only[mem_cons,not_mem_nil,or_false] at hu;rcases hu with rfl|rfl|rfl<;>rfl)) ?_))|(clear K3;go_at_call 97;refine(zfB al.o ar.o N.o.1 N.o.2.1 N.o.2.2).mono ?_;rintro e w8 ⟨rfl,M8,ai,aj,-,f8⟩;have an:=J ai;have ao:=J aj;have Y:=J f8;clear ai aj f8;have B8:=J (Y.o.obj B3.o PQ.o.2);have R8:=J (zmX B8.o);have BZ:=@J (w8.heap[w.heap.size]? =some (.cells Jw.toArray 55 (0,0))) (Y.o.obj (FS.o.obj (M.o.obj B1.o id) (λe=>by have:=yF F.o.obj;omega)) (λe=>by have:=ad.o _ e;omega))));go_frame)
 have fE:=zu w.heap.size [.int .u64 d.blk.tag,.slice z d.blk.pay.length A,.slice B d.blk.txs.length E] 0 w8
 have NQ:=@J (¬chV p U y (.slice (some ⟨g,0,none⟩) m c) w.heap.size) (λe=>by have:=ad.o _ e;omega)
 have KF:=@J (Kept (λj=>chV p U y (.slice (some ⟨g,0,none⟩) m c) j∨j=w.heap.size) w8 (λw=>jE w d.blk [.int .u64 d.blk.tag,.slice z d.blk.pay.length A,.slice B d.blk.txs.length E])) (by
  have R:Kept (chV p U y (.slice (some ⟨g,0,none⟩) m c)) w (λw=>jF w d [.int .u64 d.blk.tag,.slice z d.blk.pay.length A,.slice B d.blk.txs.length E,.slice T d.ids.length V,.slice O d.chg.length Q]):=aq.o
  have h2:Kept (λj=>chV p U y (.slice (some ⟨g,0,none⟩) m c) j∨j=w.heap.size) w8 (λw=>jF w d [.int .u64 d.blk.tag,.slice z d.blk.pay.length A,.slice B d.blk.txs.length E,.slice T d.ids.length V,.slice O d.chg.length Q]):=R.step (show Fr (chV p U y (.slice (some ⟨g,0,none⟩) m c)) w w8 from(((W.o.trans0 M.o).of0.trans FS.o (λj _ e=>.inl e)).trans Y.o (λ_ _ h=>h))) (λj X e=>e.resolve_right (by omega))
  exact h2.imp (λw' f hq=>by
   obtain⟨bcs,aF,aG,ay,az,e,hb,_,_⟩:=hq
   obtain⟨aH,aI,aJ,aK,rfl⟩:=hb.form
   simp only[List.cons_append,nil_append,List.cons.injEq,and_true] at e
   obtain⟨-,e1,e2,-,-⟩:=e
   injection e1 with e11 _ e13
   injection e2 with e21 _ e23
   subst e11;subst e13;subst e21;subst e23
   exact hb))
 refine bodyPost_ret (ym (P:=prog) (fn:=Tryz.f53) rfl _ rfl (yx BZ.o rfl) uB rB JS rfl) rfl ⟨[.int .u64 d.blk.tag,.slice z d.blk.pay.length A,.slice B d.blk.txs.length E],.slice (some ⟨g,0,none⟩) m c,n,M8,rfl,an.o.frV fE (λj X e=>NQ.o (e▸X)) (λj e=>by have:=F.o.fr.size;omega) (λi d' cs a b=>?_),ao.o,λw' f=>KF.o w' ((fE.mono (λj e=>.inr e)).trans (f.mono (λj e=>.inl e)) (λ_ _ h=>h)),?_,rfl,_,Z.o⟩
 ·have ab:=v.o.2.2 i d' cs a b
  have R:Kept (chV p U y (.slice (some ⟨g,0,none⟩) m c)) w (λw=>jF w d' cs):=F.o.data i d' cs ab.1 ab.2
  exact R.step ((((W.o.trans0 M.o).of0.trans FS.o (λj _ e=>.inl e)).trans Y.o (λ_ _ h=>h)).trans fE (λi hi e=>by omega)) (λj _ e=>e)
 ·exact(((W.o.trans0 M.o).of0.trans FS.o (λj _ e=>.inl e)).trans Y.o (λ_ _ h=>h)).trans fE (λi hi e=>by omega)
def Cn (w0 w:World) (p:Nat) (V:Nat→Prop) (S:List zr) (bs:List yB) (ids:List zd):Prop:=∃M,Ch w0 w p V ⟨S,bs,M⟩∧(∀x,x∈ids↔∃v,(x,v)∈M)∧∀x v,(x,v)∈M→0<v
theorem Cn.fr {b w:World} {S:List zr} {c:List yB} {a:List zd} (h:Cn b w p V S c a):Fr No b w:=by
 obtain⟨M,h,-⟩:=h
 exact Ch.fr h
theorem Cn.fr0 {c w w':World} {S:List zr} {b:List yB} {a:List zd} (h:Cn c w p V S b a) (f:Fr No w w'):Cn c w' p V S b a:=by
 obtain⟨M,h,r⟩:=h
 exact⟨M,h.fr0 f,r⟩
theorem Cn.lo {b w:World} {S:List zr} {c:List yB} {a:List zd} (h:Cn b w p V S c a):∀j,V j→b.heap.size≤j:=by
 obtain⟨M,h,-⟩:=h
 exact Ch.lo h
theorem Cn.hi {c w:World} {S:List zr} {b:List yB} {a:List zd} (h:Cn c w p V S b a):∀j,V j→j<w.heap.size:=by
 obtain⟨M,⟨s,U,e,d,css,h,rfl⟩,-⟩:=h
 exact h.hi
theorem zjT (w:World) {l:List yI} (c:xu w v l) (a:l.length≤256):
  Calls prog 35 #[v] w λe w'=>∃p,e=.returned (.tuple #[.pointer (some ⟨p,0,none⟩),.int .i64 0])∧∃V,Cn w w' p V (jV [] (ZJ yR l)) [] []:=
 (zhA w c a).mono λe w' ⟨p,b,V,h⟩=>⟨p,b,V,[],h,by simp,by simp⟩
theorem zcP {d w:World} {S:List zr} {b:List yB} {a:List zd} (h:Cn d w p V S b a) {q:zE} (c:q.ok):Calls prog 126 #[.pointer (some ⟨p,0,none⟩),.agg (zn q).toArray] w λe w'=>e=.returned (.tuple #[.agg (zJ (yl S q)).toArray,.bool (xJ S q)])∧Fr No w w':=by
 obtain⟨M,h,-⟩:=h
 exact zfS h c
def R0 (S:List zr) (b:qs):DoR:=⟨if jO S (vK b)=0 then 0 else 10,JM S (vK b),⟨b,[],if jO S (vK b)=0 then[⟨[],(vK b).map (·.at_)⟩] else[]⟩⟩
theorem zcK {A w:World} {S:List zr} {z:List yB} {a:List zd} (h:Cn A w p V S z a) {x:zd} (j:zY x):
  Calls prog 74 #[.pointer (some ⟨p,0,none⟩),.agg (zf x).toArray] w λe w'=>e=.returned (.bool (decide (x∈a)))∧Fr No w w':=by
 obtain⟨M,⟨s,U,k,B,css,h,-⟩,c,b⟩:=h
 have q:=J (zx j)
 have f:Fr No w (w.alloc (.cells (zf x).toArray 41)).drew:=((frN w).alloc _).drew
 have n:=J f
 have d:=h.fr0 f
 have m:=J d.cells.2.2
 have y:=J (za (zy w (zf x) 41) (frN _).drew id)
 obtain⟨v,hv⟩:∃v:Int,(Instr.lookup 120 (.map (some k)) (y7 x) false).run prog (w.alloc (.cells (zf x).toArray 41)).drew=.ok (.int .i64 v) (w.alloc (.cells (zf x).toArray 41)).drew∧decide (0<v)=decide (x∈a):=by
  by_cases hin:x∈a
  ·obtain⟨v,i⟩:=(c x).1 hin
   have:=d.map.look xR.keyed Zt (λ_ _=>y3) YB (yu j) false (r:=some v) (λl=>⟨λe=>by rw[←Option.some.inj e];exact i,λg=>by rw[d.map.uniq i g]⟩)
   exact⟨v,by simpa using this,by simp[hin,b x v i]⟩
  ·have:=d.map.look xR.keyed Zt (λ_ _=>y3) YB (yu j) false (r:=none) (λl=>⟨λe=>(by cases e),λg=>absurd ((c x).2 ⟨l,g⟩) hin⟩)
   exact⟨0,by simpa using this,by simp[hin]⟩
 have u:=J hv.1
 have o:=J hv.2
 clear h d hv c b f
 go_enter Tryz.func74,Tryz.ntmps74
 go_wp2_with fail
 refine wrLx [ff,ff,ff,ff,ff,ff,ff,ff,ff,ff,ff,ff] (λw'=>w'.cell? ⟨p,2,none⟩=some (.map (some k))∧w'.rangeAt w.heap.size 0 (zf x)∧(Instr.lookup 120 (.map (some k)) (y7 x) false).run prog w'=.ok (.int .i64 v) w') ?_ (λK hK=>?_)
 ·exact⟨m.o,y.o,u.o⟩
 repeat((first|(refine zl rfl ?_;constructor;constructor;(focus(first|exact zog rfl (λw h=>h.2.1) q.o|exact λw' h=>zM (t:=120) rfl rfl rfl h.2.2|(rintro w' ⟨C,D,E⟩;exact goS))))|(refine zm rfl ?_));try simp only[Act.put,pA,pB,pC])
 refine zL (hK.out _ _ ?_)
 go_wp2_with fail
 go_ret
 exact⟨by rw[←o.o];rfl,n.o⟩
def qV (l:List yI):Int:=(l.map (·.value)).sum
theorem zde {l:List yI} {x:yI} (h:l[n]? =some x):qV (l.take (n+1))=qV (l.take n)+x.value:=by
 unfold qV
 rw[take_add_one,h]
 simp
theorem zhh:∀ {l:List yI},(∀x∈l,0≤x.value∧vX x=false)→0≤qV l∧qV l≤1125899906842624*(l.length:Int)
 |[],_=>by simp[qV]
 |x::l,h=>by
  have c:=zhh (l:=l) (λy b=>h y (.tail _ b))
  have a:=h x (.head _)
  have d:x.value≤1125899906842624:=by
   have:=a.2
   unfold vX at this
   rw[Bool.or_eq_false_iff] at this
   have:=this.2
   simp at this
   omega
  have e:qV (x::l)=x.value+qV l:=by simp[qV]
  rw[e]
  simp only[List.length_cons]
  omega
def yC (t:TxD):Int:=
 if qB t=true then
  (if t.ins.length=0∨t.outs.length=0 then 9
   else if t.outs.any vX=true then 11
   else if 1125899906842624<qV t.outs then 11
   else if(zZ t).Nodup then 0 else 12)
 else 5
def jA (w:World) (t:TxD) (e:Ending) (w':World):Prop:=e=.returned (.int .i64 (yC t))∧Fr No w w'
theorem XK (w:World) {t:TxD} (ht:TxQ w t cs):
  Calls prog 32 #[.agg cs.toArray] w (jA w t):=by
 have HT:=J ht
 obtain⟨I,L,Q,R,rfl,hv,hi,ho⟩:=ht
 have zI:=Yb
 have zO:=y9
 have F1:=J ((frN w).alloc (.cells #[.int .u32 t.ver,.slice I t.ins.length L,.slice Q t.outs.length R] 34))
 obtain⟨-,c1,c2,r0⟩:=qW w t.ver (.slice I t.ins.length L) (.slice Q t.outs.length R)
 have S:=J c1
 have C2:=J c2
 have R0:=J r0
 have HO:=J (ho.keep F1.o)
 have HF:=J (zbD (w.alloc (.cells #[.int .u32 t.ver,.slice I t.ins.length L,.slice Q t.outs.length R] 34)) (HT.o.keep F1.o))
 clear hi ho hv c1 c2 r0
 show Calls prog 32 #[.agg #[.int .u32 t.ver,.slice I t.ins.length L,.slice Q t.outs.length R]] w _
 by_cases d:qB t=true
 rotate_left
 ·have B:qB t=false:=by simpa using d
  have r:=@J (∀w',Fr No w w'→jA w t (.returned (.int .i64 5)) w') (λw' f=>⟨by simp[yC,B],f⟩)
  rw[B] at HF
  clear d B
  go_enter Tryz.func32,Tryz.ntmps32
  go_wp2_with (first|(refine zoa rfl rfl rfl R0.o rfl ?_;generalize w.alloc (.cells #[.int .u32 t.ver,.slice I t.ins.length L,.slice Q t.outs.length R] 34)=w1 at*)|(go_at_call 66;refine HF.o.mono ?_;rintro e w2 ⟨rfl,p⟩;have a:=J p;have F:=J (F1.o.trans0 p);clear p;have d1:=a.o.cell S.o id;have d2:=a.o.cell C2.o id))
  go_ret
  exact r.o _ F.o
 obtain⟨hk,ak,aq⟩:=yZ.1 d
 rw[d] at HF
 by_cases h0:t.ins.length=0
 ·have r:=@J (∀w',Fr No w w'→jA w t (.returned (.int .i64 9)) w') (λw' f=>⟨by simp[yC,d,h0],f⟩)
  have jz:((t.ins.length:Int)==0)=true:=by simp[h0]
  clear hk ak aq d h0
  go_enter Tryz.func32,Tryz.ntmps32
  go_wp2_with (first|(refine zoa rfl rfl rfl R0.o rfl ?_;generalize w.alloc (.cells #[.int .u32 t.ver,.slice I t.ins.length L,.slice Q t.outs.length R] 34)=w1 at*)|(go_at_call 66;refine HF.o.mono ?_;rintro e w2 ⟨rfl,p⟩;have a:=J p;have F:=J (F1.o.trans0 p);clear p;have d1:=a.o.cell S.o id;have d2:=a.o.cell C2.o id))
  go_ret
  exact r.o _ F.o
 have jz:((t.ins.length:Int)==0)=false:=by rw[beq_eq_false_iff_ne];omega
 by_cases h1:t.outs.length=0
 ·have r:=@J (∀w',Fr No w w'→jA w t (.returned (.int .i64 9)) w') (λw' f=>⟨by simp[yC,d,h1],f⟩)
  have jy:((t.outs.length:Int)==0)=true:=by simp[h1]
  clear hk ak aq d h0 h1
  go_enter Tryz.func32,Tryz.ntmps32
  go_wp2_with (first|(refine zoa rfl rfl rfl R0.o rfl ?_;generalize w.alloc (.cells #[.int .u32 t.ver,.slice I t.ins.length L,.slice Q t.outs.length R] 34)=w1 at*)|(go_at_call 66;refine HF.o.mono ?_;rintro e w2 ⟨rfl,p⟩;have a:=J p;have F:=J (F1.o.trans0 p);clear p;have d1:=a.o.cell S.o id;have d2:=a.o.cell C2.o id))
  go_ret
  exact r.o _ F.o
 have jy:((t.outs.length:Int)==0)=false:=by rw[beq_eq_false_iff_ne];omega
 have af:=@J ((∃x∈t.outs,vX x=true)→∀w',Fr No w w'→jA w t (.returned (.int .i64 11)) w') (λh w' f=>⟨by
  have:t.outs.any vX=true:=List.any_eq_true.2 h
  unfold yC
  rw[if_pos d,if_neg (by omega),if_pos this],f⟩)
 have aG:=@J (t.outs.any vX=false→1125899906842624<qV t.outs→∀w',Fr No w w'→jA w t (.returned (.int .i64 11)) w') (λh h' w' f=>⟨by
  unfold yC
  rw[if_pos d,if_neg (by omega),if_neg (by rw[h];simp),if_pos h'],f⟩)
 have aF:=@J (t.outs.any vX=false→¬1125899906842624<qV t.outs→∀w',Fr No w w'→jA w t (.returned (.int .i64 (if(zZ t).Nodup then 0 else 12))) w') (λh h' w' f=>⟨by
  have e:yC t=if(zZ t).Nodup then 0 else 12:=by
   unfold yC
   rw[if_pos d,if_neg (by omega),if_neg (by rw[h];simp),if_neg h']
  rw[e],f⟩)
 clear hk d h0 h1
 go_enter Tryz.func32,Tryz.ntmps32
 go_wp2_with (first|(refine zoa rfl rfl rfl R0.o rfl ?_;generalize w.alloc (.cells #[.int .u32 t.ver,.slice I t.ins.length L,.slice Q t.outs.length R] 34)=w1 at*)|(go_at_call 66;refine HF.o.mono ?_;rintro e w2 ⟨rfl,p⟩;have a:=J p;have F:=J (F1.o.trans0 p);clear p;have d1:=a.o.cell S.o id;have d2:=a.o.cell C2.o id))
 have FO:=J a.o
 clear d1 d2 jz jy
 go_loopw [3,25] (λsv iv wr=>∃n:Nat,iv=.int .i64 n∧n≤t.outs.length∧sv=.int .u64 (qV (t.outs.take n))∧(∀x∈t.outs.take n,vX x=false)∧Fr No w2 wr) (λ_ iv _=>t.outs.length-(intOf iv).toNat)
 case atStart=>exact⟨0,rfl,zero_le _,rfl,by simp,Fr.refl _ _⟩
 case round=>
  obtain⟨n,rfl,hn,rfl,A,fr⟩:=hrel
  have FR:=J fr
  have AL:=J A
  have aE:=J ((HO.o.keep a.o).keep fr)
  have E:=zhh (l:=t.outs.take n) (λx q=>⟨(HO.o.1 x (List.mem_of_mem_take q)).1.1,A x q⟩)
  rw[length_take] at E
  clear fr A
  by_cases X:n<t.outs.length
  ·have i1:(n:Int)<(t.outs.length:Int):=by omega
   obtain⟨x,q⟩:∃x,t.outs[n]? =some x:=⟨_,getElem?_eq_getElem X⟩
   obtain⟨bb,off,aO,hv,hr,-⟩:=aE.o.at_ q
   cases hv
   have g:=HO.o.1 x (mem_of_getElem? q)
   have R1:=J hr
   have G:=J (yz g)
   have FA:=J (FR.o.trans0 ((frN wr).alloc (.cells (zJ x).toArray 103)))
   have n1:=(YP wr g).1
   have SN:=J (zde q)
   have HX:=J q
   have vv:=g.1
   clear hr g q
   by_cases u:vX x=true
   ·have r:=J (af.o ⟨x,mem_of_getElem? HX.o,u⟩)
    have aR:x.value=0∨(x.value≠0∧1125899906842624<x.value):=by
     simp only[vX,Bool.or_eq_true,decide_eq_true_eq] at u
     by_cases h:x.value=0
     ·exact .inl h
     ·exact .inr ⟨h,u.resolve_left h⟩
    clear u E
    rcases aR with hz|⟨hz,ax⟩
    ·have H:(x.value==0)=true:=by simpa using hz
     clear hz
     have⟨K0,K1⟩:=tZ2
     go_wp2_with ((first|((with_reducible refine zt ?_);clear K0;refine zob rfl rfl rfl R1.o G.o ?_)|((with_reducible refine zv ?_);clear K1;refine zok (w:=wr) (cs:=zJ x) rfl rfl rfl rfl G.o yf ?_;generalize wr.alloc (.cells (zJ x).toArray 103)=wA at*));go_frame)
     go_ret
     exact r.o _ (F.o.trans0 FA.o)
    ·have H:(x.value==0)=false:=by simpa using hz
     have aw:decide (1125899906842624<x.value)=true:=by simpa using ax
     clear hz ax
     have⟨K0,K1⟩:=tZ2
     go_wp2_with ((first|((with_reducible refine zt ?_);clear K0;refine zob rfl rfl rfl R1.o G.o ?_)|((with_reducible refine zv ?_);clear K1;refine zok (w:=wr) (cs:=zJ x) rfl rfl rfl rfl G.o yf ?_;generalize wr.alloc (.cells (zJ x).toArray 103)=wA at*));go_frame)
     go_ret
     exact r.o _ (F.o.trans0 FA.o)
   ·have b:vX x=false:=by simpa using u
    have H:(x.value==0)=false:=by
     unfold vX at b
     rw[Bool.or_eq_false_iff] at b
     simpa using b.1
    have aw:decide (1125899906842624<x.value)=false:=by
     unfold vX at b
     rw[Bool.or_eq_false_iff] at b
     exact b.2
    have aS:x.value≤1125899906842624:=by simp at aw;omega
    have es:(qV (t.outs.take n)+x.value) % 18446744073709551616=qV (t.outs.take n)+x.value:=by omega
    have AN:=@J (∀y∈t.outs.take (n+1),vX y=false) (λy Z=>by
     rw[take_add_one,HX.o] at Z
     rcases mem_append.1 Z with Z|Z
     ·exact AL.o y Z
     ·simp at Z;subst Z;exact b)
    clear u b E aS
    have⟨K0,K1⟩:=tZ2
    go_wp2_with ((first|((with_reducible refine zt ?_);clear K0;refine zob rfl rfl rfl R1.o G.o ?_)|((with_reducible refine zv ?_);clear K1;refine zok (w:=wr) (cs:=zJ x) rfl rfl rfl rfl G.o yf ?_;generalize wr.alloc (.cells (zJ x).toArray 103)=wA at*));go_frame)
    go_roundw
    case rel=>exact⟨n+1,by go_num,by omega,by rw[SN.o],AN.o,FA.o⟩
    case measure=>simp[intOf];omega
  ·have Y:n=t.outs.length:=by omega
   have i1:¬(n:Int)<(t.outs.length:Int):=by omega
   rw[Y,take_length] at AL
   have m:t.outs.any vX=false:=List.any_eq_false.2 (λx q=>by rw[AL.o x q];decide)
   have V:t.outs.take n=t.outs:=by rw[Y,take_length]
   rw[V]
   have FW:=J (F.o.trans0 FR.o)
   have ab:=J (a.o.trans0 FR.o)
   by_cases hs:1125899906842624<qV t.outs
   ·have r:=J (aG.o m hs)
    have js:decide (1125899906842624<qV t.outs)=true:=by simpa using hs
    clear hs m E V
    go_wp2
    go_ret
    exact r.o _ FW.o
   have js:decide (1125899906842624<qV t.outs)=false:=by simpa using hs
   have r:=J (aF.o m (by omega))
   have cI:=ab.o.cell S.o id
   have ms:=VI wr
   have aN:(wr.alloc (.map #[] 0)).cell? ⟨w.heap.size,1,none⟩=some (.slice I t.ins.length L):=((frN wr).alloc (.map #[] 0)).cell cI id
   clear hs m E V
   go_wp2_with fail
   clear ms cI aN
   have FM:=J ((frN wr).alloc (.map #[] 0))
   have aC:=@J (zbn (wr.alloc (.map #[] 0)) wr.heap.size []) (yD.made wr)
   have ay:=J (FW.o.trans0 FM.o)
   have aa:=J ((ab.o.trans0 FM.o).cell S.o id)
   generalize wr.alloc (.map #[] 0)=w3 at*
   generalize ao:wr.heap.size=mb at*
   have NM:=@J (w.heap.size<mb) (by have:=FO.o.size;have h2:=FR.o.size;have h3:=World.block_lt_of_cell? _ _ S.o;have:=ao;simp only at h3;omega)
   have aM:=aa.o
   go_wp2_with fail
   clear aM
   go_loopw [48] (λiv wr=>∃(n:Nat) (M:List (zE×Int)),iv=.int .i64 n∧n≤t.ins.length∧zbn wr mb M∧(∀k,(∃c,(k,c)∈M)↔k∈(zZ t).take n)∧M.length≤n∧Fr (λj=>j=mb) w3 wr) (λiv _=>t.ins.length-(intOf iv).toNat)
   case atStart=>exact⟨0,[],rfl,zero_le _,aC.o,by simp,le_refl _,Fr.refl _ _⟩
   case round=>
    obtain⟨n,M,rfl,hn,ar,an,C,fr⟩:=hrel
    have FQ:=J fr
    have v:=J ar
    have ae:=J an
    have T:=J C
    have FB:=@J (Fr No w wr) (ay.o.trans fr (λi hi e=>by have:=NM.o;omega))
    clear fr ar an C
    by_cases X:n<t.ins.length
    ·have i1:(n:Int)<(t.ins.length:Int):=by omega
     obtain⟨x,q⟩:∃x,t.ins[n]? =some x:=⟨_,getElem?_eq_getElem X⟩
     have az:=HT.o.keep FB.o
     obtain⟨aU,aV,aW,aX,e2,-,aj,-⟩:=az
     simp only[txC,List.cons.injEq,and_true] at e2
     obtain⟨-,e2,-⟩:=e2
     injection e2 with e21 _ e23
     subst e21;subst e23
     obtain⟨bb,off,aO,cs,hv,hr,ka,kc,rfl,g,al⟩:=aj.at_ q
     cases hv
     have R1:=J hr
     have aK:=J g
     have G:=J (vC g (.slice ka x.key.length kc))
     have PL:=J (z6 g)
     have aP:(zZ t).take (n+1)=(zZ t).take n++[x.from_]:=by rw[take_add_one];simp[zZ,q]
     have fA:=((frN wr).alloc (.cells (inC x.from_ (.slice ka x.key.length kc)).toArray 108)).drew
     have RB:=J (za (Xr wr (kv:=.slice ka x.key.length kc) g).1 (frN _).drew id)
     have QW:=@J (mb<wr.heap.size) (v.o.lt)
     obtain⟨v0,w7,s,M1,H,N,W,ag,O,P,av⟩:=(v.o.keep fA id).bump JA.keyed YW (λ_ _=>vw) (z:=0) YB (qz aK.o) (by unfold maxLen;have:=T.o;omega)
     obtain⟨w8,M',au,ah,hU,ai,aQ⟩:=av (IntKind.i64.wrap (v0+1)) w7 No (Fr.refl _ _) id
     have aI:=J (O _ (v.o.keep fA id))
     have aJ:=J (P _ ag)
     have ad:=J N
     have aH:=J au
     have aL:=J (za RB.o W.fr (λe=>by have:=QW.o;omega))
     have aD:=J ah
     have F8:=@J (Fr (λj=>j=mb) w3 w8) (((FQ.o.trans0 fA).trans W.fr (λi hi e=>e)).trans ai.fr (λi hi e=>e))
     have aA:=@J (∀k,(∃c,(k,c)∈M')↔k∈(zZ t).take (n+1)) (λk=>by
      rw[aP,mem_append,List.mem_singleton,←ae.o k]
      constructor
      ·rintro⟨c,hc⟩
       rcases(hU k c).1 hc with⟨rfl,_⟩|⟨_,h⟩
       ·exact .inr rfl
       ·exact .inl ⟨c,h⟩
      ·rintro(⟨c,hc⟩|rfl)
       ·by_cases e:k=x.from_
        ·subst e;exact⟨_,(hU _ _).2 (.inl ⟨rfl,rfl⟩)⟩
        ·exact⟨c,(hU _ _).2 (.inr ⟨e,hc⟩)⟩
       ·exact⟨_,(hU _ _).2 (.inl ⟨rfl,rfl⟩)⟩)
     have aB:=@J (M'.length≤n+1) (by have:=T.o;omega)
     clear hr q al g aj fA N W ag O P av au ah hU ai aQ H
     go_wp2_with (first|(refine zn9 rfl rfl rfl R1.o G.o ?_)|(refine zoj (w:=wr) (cs:=inC x.from_ (.slice ka x.key.length kc)) rfl rfl rfl rfl G.o Jj ?_))
     refine yp [ff,ff,ff,ff,ff,tt,ff,tt] (λw'=>w'.rangeAt wr.heap.size 0 (zn x.from_)∧(Instr.lookup 159 (.map (some mb)) (Jb x.from_) false).run prog w'=.ok (.int .i64 v0) w') (by kernel_rfl) (by kernel_rfl) 7 (by kernel_rfl) (by kernel_rfl) ?_ (λK hK=>?_)
     ·exact⟨RB.o,aI.o⟩
     repeat((first|(refine yb rfl ?_;constructor;constructor;(focus(first|exact zof rfl (λw h=>h.1) PL.o|exact λw' h=>zM (t:=159) rfl rfl rfl h.2|(rintro w' ⟨s1,s2⟩;exact goS))))|(refine yc rfl ?_));try simp only[Act.put,pA,pB,pC])
     (refine ya rfl (λK' hK'=>?_))
     refine yg (Qm rfl rfl rfl ad.o) ?_
     refine hK'.out _ _ (λ_=>?_) (λhS=>?_)
     ·exact⟨aL.o,aJ.o⟩
     try simp only[Act.put,pA,pB,pC]
     repeat((first|(refine yb rfl ?_;constructor;constructor;(focus(first|(rintro w' ⟨s1,s2⟩;exact goS))))|(refine yc rfl ?_));try simp only[Act.put,pA,pB,pC])
     (refine ya rfl (λK' hK'=>?_))
     refine yN (Y1 rfl rfl rfl rfl aH.o) ?_
     refine hK'.out _ _ (λh=>absurd rfl h) (λhS=>?_)
     refine xA (hK.out _ _ ?_)
     go_wp2
     go_roundw
     case rel=>exact⟨n+1,M',by go_num,by omega,aD.o,aA.o,aB.o,F8.o⟩
     case measure=>simp[intOf];omega
    ·have Y:n=t.ins.length:=by omega
     have i1:¬(n:Int)<(t.ins.length:Int):=by omega
     have D:∀x,x∈M.map (·.1)↔x∈zZ t:=by
      intro x
      rw[←show(zZ t).take n=zZ t from take_of_length_le (by simp[zZ];omega),←ae.o x]
      simp
     have o:=zas v.o.nodup D
     rw[List.length_map,show(zZ t).length=t.ins.length by simp[zZ]] at o
     have LR:=J (λty=>v.o.lenRun YW ty)
     have aT:=FQ.o.cell aa.o (λe=>by have:=NM.o;have e2:w.heap.size=mb:=e;omega)
     have C:=T.o
     by_cases hnd:(zZ t).Nodup
     ·have j1:¬(M.length:Int)<(t.ins.length:Int):=by have:=o.2 hnd;omega
      have U:=@J (∀w',Fr No w w'→jA w t (.returned (.int .i64 0)) w') (λw' f=>by have:=r.o w' f;rwa [if_pos hnd] at this)
      clear o D hnd C
      go_wp2_with (refine zg rfl (jj rfl rfl (LR.o _)) ?_)
      go_ret
      exact U.o _ FB.o
     ·have j1:(M.length:Int)<(t.ins.length:Int):=by have:M.length≠t.ins.length:=λe=>hnd (o.1 e);omega
      have U:=@J (∀w',Fr No w w'→jA w t (.returned (.int .i64 12)) w') (λw' f=>by have:=r.o w' f;rwa [if_neg hnd] at this)
      clear o D hnd C
      go_wp2_with (refine zg rfl (jj rfl rfl (LR.o _)) ?_)
      go_ret
      exact U.o _ FB.o
def za0 (x:Int):Value:=.int .u64 x
def zd0 (l:List Int):Int:=if l.sum<18446744073709551616 then 0 else 3
def zd1 (l:List Int):Int:=if l.sum<18446744073709551616 then l.sum else 0
theorem zek (w:World) {l:List Int} (o:xG w v l.length (l.map za0)) (ok:∀x∈l,0≤x∧x≤18446744073709551615) (P:l.length≤100000):
  Calls prog 128 #[v] w λe w'=>e=.returned (.tuple #[.int .u64 (zd1 l),.int .i64 (zd0 l)])∧Fr No w w':=by
 have A:=J o
 have C:=J ok
 have k:=@J (∀n,n≤l.length→0≤(l.take n).sum∧(l.take n).sum≤18446744073709551615*(n:Int)) (λn=>by
  induction n with
  |zero=>intro _;simp
  |succ n ih=>
   intro u
   have E:=ih (by omega)
   have f:l[n]? =some l[n]:=getElem?_eq_getElem (by omega)
   have F:=ok l[n] (List.getElem_mem _)
   rw[take_add_one,f]
   simp only[Option.toList_some,List.sum_append,List.sum_cons,List.sum_nil]
   omega)
 obtain⟨L,M,rfl⟩:=o.form
 clear o ok
 go_enter Tryz.func128,Tryz.ntmps128
 go_wp2
 go_loopw [4,5,12] (λr K s wr=>∃n:Nat,s=.int .i64 n∧n≤l.length∧r=.int .u64 ((l.take n).sum / 18446744073709551616)∧K=.int .u64 ((l.take n).sum % 18446744073709551616)∧Fr No w wr) (λ_ _ s _=>l.length-(intOf s).toNat)
 case atStart=>exact⟨0,rfl,zero_le _,by simp,by simp,Fr.refl _ _⟩
 case round=>
  obtain⟨n,rfl,u,rfl,rfl,fr⟩:=hrel
  have j:=J fr
  clear fr
  have N:=k.o n u
  generalize i:(l.take n).sum=T at*
  by_cases p:n<l.length
  ·have H:(n:Int)<(l.length:Int):=by omega
   obtain⟨x,f⟩:∃x,l[n]? =some x:=⟨_,getElem?_eq_getElem p⟩
   have m:=C.o x (mem_of_getElem? f)
   have t:=@J ((l.take (n+1)).sum=T+x) (by rw[take_add_one,f,←i];simp)
   have d:∃b off c,Value.slice L l.length M=.slice (some ⟨b,off,none⟩) l.length c∧wr.cell? ⟨b,off+n,none⟩=some (.int .u64 x):=by
    rcases A.o.keep j.o with(⟨e,h,-⟩|⟨b,off,c,e,E,F,G,O⟩)|⟨a,c,e,h,-⟩
    ·omega
    ·exact⟨b,off,c,e,G n _ (by rw[List.getElem?_map,f];rfl)⟩
    ·omega
   obtain⟨b,off,c,r,Q⟩:=d
   cases r
   have y:=@J ((T % 18446744073709551616+x+0) % 18446744073709551616=(T+x) % 18446744073709551616) (by omega)
   have z:=@J (T / 18446744073709551616+(T % 18446744073709551616+x) / 18446744073709551616=(T+x) / 18446744073709551616) (by omega)
   have B:0≤T % 18446744073709551616:=by omega
   have D:=m.1
   clear f i
   go_wp2
   rw[run_callFunc_extern Tryz.func158 (by kernel_rfl) (by kernel_rfl) (by kernel_rfl) (e:=add64Entry) (by kernel_rfl),run_add64 _ x 0 B D (by omega) (by omega)]
   simp only[Result.andThen]
   rw[Oper.upon_value]
   rw[y.o]
   go_wp2
   go_roundw
   case rel=>exact⟨n+1,by go_num,by omega,by rw[t.o];exact congrArg (Value.int .u64) z.o,by rw[t.o],j.o⟩
   case measure=>simp[intOf];omega
  ·have q:n=l.length:=by omega
   have H:¬(n:Int)<(l.length:Int):=by omega
   have hS:l.sum=T:=by rw[←i,q,take_length]
   by_cases ho:T<18446744073709551616
   ·have g:=@J (zd0 l=0∧zd1 l=T) (by unfold zd0 zd1;rw[hS,if_pos ho,if_pos ho];exact⟨rfl,rfl⟩)
    have I:(T / 18446744073709551616==0)=true:=by rw[beq_iff_eq];omega
    have R:T % 18446744073709551616=T:=by omega
    clear hS ho i
    go_wp2
    go_ret2
    exact⟨by rw[g.o.1,g.o.2];rfl,j.o⟩
   ·have g:=@J (zd0 l=3∧zd1 l=0) (by unfold zd0 zd1;rw[hS,if_neg ho,if_neg ho];exact⟨rfl,rfl⟩)
    have I:(T / 18446744073709551616==0)=false:=by rw[beq_eq_false_iff_ne];omega
    clear hS ho i
    go_wp2
    go_ret2
    exact⟨by rw[g.o.1,g.o.2];rfl,j.o⟩
def opens:List InD→List yI→Bool
 |x::I,o::O=>decide (x9 x.key=o.lock) && opens I O
 |_,_=>true
def ju (l:List yI):List Int:=l.map (·.value)
def vB (t:TxD) (prev:List yI):Int:=
 if yC t=0 then
  (if prev.length=t.ins.length then
   (if opens t.ins prev=true then
    (if(ju prev).sum<18446744073709551616 then(if qV t.outs≤(ju prev).sum then 0 else 11) else 11)
    else 13)
   else 2)
 else yC t
def Ja (t:TxD) (prev:List yI):Int:=if vB t prev=0 then(ju prev).sum-qV t.outs else 0
theorem zbW:∀ {I:List InD} {O:List yI},opens I O=true↔∀(i:Nat) (x:InD) (o:yI),I[i]? =some x→O[i]? =some o→x9 x.key=o.lock
 |[],O=>by simp[opens]
 |x::I,[]=>by simp[opens]
 |x::I,o::O=>by
  simp only[opens,Bool.and_eq_true,decide_eq_true_eq,zbW (I:=I) (O:=O)]
  constructor
  ·rintro⟨c,d⟩ i y p b a
   cases i with
   |zero=>simp at b a;subst b;subst a;exact c
   |succ i=>exact d i y p (by simpa using b) (by simpa using a)
  ·intro h
   exact⟨h 0 x o rfl rfl,λi y p b a=>h (i+1) y p (by simpa using b) (by simpa using a)⟩
theorem zjF:(prog.info? 48).map (λi=>(i.zero,i.size,i.bytes))=some (some (.int .u64 0),1,8):=by kernel_rfl
theorem zlO:prog.underlying 242=some (.slice 48):=by kernel_rfl
theorem VU:∀ {l:List yI},(∀x∈l,0≤x.value)→0≤qV l
 |[],_=>by simp[qV]
 |x::l,h=>by
  have:=VU (l:=l) (λy a=>h y (.tail _ a))
  have b:=h x (.head _)
  have e:qV (x::l)=x.value+qV l:=by simp[qV]
  omega
theorem ziG {l:List yI} (h:∀x∈l,0≤x.value) (n:Nat):qV (l.take n)≤qV l:=by
 have e:qV (l.take n++l.drop n)=qV (l.take n)+qV (l.drop n):=by simp only[qV,List.map_append,List.sum_append]
 rw[take_append_drop] at e
 have:=VU (l:=l.drop n) (λx a=>h x (List.mem_of_mem_drop a))
 omega
def zgH (w:World) (t:TxD) (prev:List yI) (e:Ending) (w':World):Prop:=e=.returned (.tuple #[.int .u64 (Ja t prev),.int .i64 (vB t prev)])∧Fr No w w'
theorem Vn {t:TxD} {prev:List yI} {E:Int} (h:vB t prev=E) (a:E≠0):∀w',Fr No w w'→zgH w t prev (.returned (.tuple #[.int .u64 0,.int .i64 E])) w':=λw' f=>by
 refine⟨?_,f⟩
 have:Ja t prev=0:=by unfold Ja;rw[h,if_neg a]
 rw[this,h]
theorem Zp (hg:q9 w) {t:TxD} (ht:TxQ w t cs) {prev:List yI} (hp:xu w v prev) (hN:prev.length≤1000):
  Calls prog 77 #[.agg cs.toArray,v] w (zgH w t prev):=by
 have HG:=J hg
 have HT:=J ht
 have HP:=J hp
 obtain⟨ia,N,oa,oc,rfl,hv,hi,ho⟩:=ht
 obtain⟨va,vc,rfl⟩:=hp.2.form
 obtain⟨dH,uH,rH⟩:=Zw
 have zO:=y9
 have F1:=J ((frN w).alloc (.cells #[.int .u32 t.ver,.slice ia t.ins.length N,.slice oa t.outs.length oc] 34))
 obtain⟨-,c1,c2,r0⟩:=qW w t.ver (.slice ia t.ins.length N) (.slice oa t.outs.length oc)
 have C1:=J c1
 have C2:=J c2
 have R0:=J r0
 have V:=J (XK (w.alloc (.cells #[.int .u32 t.ver,.slice ia t.ins.length N,.slice oa t.outs.length oc] 34)) (HT.o.keep F1.o))
 clear hi ho hv c1 c2 r0 hp hg
 show Calls prog 77 #[.agg #[.int .u32 t.ver,.slice ia t.ins.length N,.slice oa t.outs.length oc],.slice va prev.length vc] w _
 by_cases hck:yC t=0
 rotate_left
 ·have b:=J (Vn (t:=t) (prev:=prev) (w:=w) (E:=yC t) (by unfold vB;rw[if_neg hck]) hck)
  have jz:(yC t==0)=false:=by rw[beq_eq_false_iff_ne];exact hck
  clear hck
  go_enter Tryz.func77,Tryz.ntmps77
  have⟨D,F⟩:=tZ2
  go_wp2_with ((first|((with_reducible refine zt ?_);clear D;refine zoa rfl rfl rfl R0.o rfl ?_;generalize w.alloc (.cells #[.int .u32 t.ver,.slice ia t.ins.length N,.slice oa t.outs.length oc] 34)=w1 at*)|(clear F;go_at_call 32;refine V.o.mono ?_;rintro e w2 ⟨rfl,Q⟩;have c:=J Q;clear Q));go_frame)
  go_ret2
  exact b.o _ (F1.o.trans0 c.o)
 have bf:t.ins.length≤8:=by
  unfold yC at hck
  split at hck
  ·rename_i h;exact(yZ.1 h).2.1
  ·cases hck
 have aI:=@J (∀x∈t.ins,x.key.length≤64) (by
  have A:=hck
  unfold yC at A
  split at A
  ·rename_i h;exact(yZ.1 h).1
  ·cases A)
 by_cases hlen:prev.length=t.ins.length
 rotate_left
 ·have b:=J (Vn (t:=t) (prev:=prev) (w:=w) (E:=2) (by unfold vB;rw[if_pos hck,if_neg hlen]) (by decide))
  have jl:¬(prev.length:Int)=(t.ins.length:Int):=by omega
  have aA:((prev.length:Int)==(t.ins.length:Int))=false:=by rw[beq_eq_false_iff_ne];exact jl
  unfold jA at V
  rw[hck] at V
  clear hck hlen
  go_enter Tryz.func77,Tryz.ntmps77
  have⟨D,F⟩:=tZ2
  go_wp2_with ((first|((with_reducible refine zt ?_);clear D;refine zoa rfl rfl rfl R0.o rfl ?_;generalize w.alloc (.cells #[.int .u32 t.ver,.slice ia t.ins.length N,.slice oa t.outs.length oc] 34)=w1 at*)|(clear F;go_at_call 32;refine V.o.mono ?_;rintro e w2 ⟨rfl,Q⟩;have c:=J Q;clear Q;have d1:=c.o.cell C1.o id));go_frame)
  go_ret2
  exact b.o _ (F1.o.trans0 c.o)
 have aA:((prev.length:Int)==(t.ins.length:Int))=true:=by rw[beq_iff_eq];omega
 have bk:((prev.length:Int) !=(t.ins.length:Int))=false:=by rw[bne,aA];rfl
 obtain⟨iK,aq,hz,ax,al⟩:=info_parts zjF
 have MK:=J (λ(w3:World)=>run_makeSlice_full (P:=prog) (w:=w3) w3.heap.size 242 48 iK _ 1 zlO aq hz ax .i64 .i64 prev.length (by omega) (by rw[al];omega) (by unfold maxLen;omega) (le_refl _))
 have FE:=@J (vB t prev=if opens t.ins prev=true then(if(ju prev).sum<18446744073709551616 then(if qV t.outs≤(ju prev).sum then 0 else 11) else 11) else 13) (by unfold vB;rw[if_pos hck,if_pos hlen])
 have O:=J hlen
 unfold jA at V
 rw[hck] at V
 clear aq hz ax al hck hlen
 go_enter Tryz.func77,Tryz.ntmps77
 have⟨D,F⟩:=tZ2
 go_wp2_with ((first|((with_reducible refine zt ?_);clear D;refine zoa rfl rfl rfl R0.o rfl ?_;generalize w.alloc (.cells #[.int .u32 t.ver,.slice ia t.ins.length N,.slice oa t.outs.length oc] 34)=w1 at*)|(clear F;go_at_call 32;refine V.o.mono ?_;rintro e w2 ⟨rfl,Q⟩;have c:=J Q;clear Q;have d1:=c.o.cell C1.o id;obtain⟨w4,aX,ar,an⟩:=MK.o w2;have ak:Fr No w2 w4:=Fr.of_grown an (λk e=>by cases e);have ad:=J ak;have aJ:=J ar;clear an ar ak));go_frame)
 have F4:=J (F1.o.trans0 (c.o.trans0 ad.o))
 have ab:=J (c.o.trans0 ad.o)
 have WL:=@J (w.heap.size<w2.heap.size) (by have q:=World.block_lt_of_cell? _ _ C1.o;have I:=c.o.size;simp only at q;omega)
 clear aX
 generalize w2.heap.size=g at*
 clear d1
 have jn:prev.length≤1000:=hN
 go_loopw [30] (λiv wr=>∃(n:Nat) (xs:List Value),iv=.int .i64 n∧n≤prev.length∧(∀i,i<n→∀x o,t.ins[i]? =some x→prev[i]? =some o→x9 x.key=o.lock)∧wr.ownsRow g 48 1 (.slice (some ⟨g,0,none⟩) prev.length prev.length) prev.length xs∧xs.take n=((ju prev).take n).map za0∧Fr (λj=>j=g) w4 wr) (λiv _=>prev.length-(intOf iv).toNat)
 case atStart=>exact⟨0,_,rfl,zero_le _,(λi hi=>by omega),aJ.o,by simp,Fr.refl _ _⟩
 case round=>
  obtain⟨n,xs,rfl,hn,au,av,az,fr⟩:=hrel
  have FR:=J fr
  have OP:=J au
  have W:=J av
  have ah:=J az
  have FW:=@J (Fr No w wr) (F4.o.trans fr (λi hi e=>by have:=WL.o;omega))
  clear fr au av az
  by_cases L:n<prev.length
  ·have i1:(n:Int)<(prev.length:Int):=by omega
   have i2:(n:Int)<(t.ins.length:Int):=by have:=O.o;omega
   obtain⟨o,m⟩:∃x,prev[n]? =some x:=⟨_,getElem?_eq_getElem L⟩
   obtain⟨x,hy⟩:∃x,t.ins[n]? =some x:=⟨_,getElem?_eq_getElem (by have:=O.o;omega)⟩
   obtain⟨bb,off,aS,hv,hr,-⟩:=(HP.o.keep FW.o).at_ m
   cases hv
   have d:=HP.o.1 o (mem_of_getElem? m)
   obtain⟨bh,bj,aZ,a1,z,-,ao,-⟩:=HT.o.keep FW.o
   simp only[txC,List.cons.injEq,and_true] at z
   obtain⟨-,z,-⟩:=z
   injection z with e21 _ e23
   subst e21;subst e23
   obtain⟨b3,p,a8,bd,aY,aw,ka,kc,rfl,aB,S⟩:=ao.at_ hy
   cases aY
   have R1:=J hr
   have Y:=J (yz d)
   have KC:=@J (wr.cell? ⟨b3,p+n*34+33,none⟩=some (.slice ka x.key.length kc)) ((zeI aw aB).2)
   have G:=J d.2
   have fA:=((frN wr).alloc (.cells (zJ o).toArray 103)).drew
   have U:=J fA
   have aT:=(frN wr).alloc (.cells (zJ o).toArray 103)
   obtain⟨n1,n2⟩:=YP wr d
   have N1:=J n1
   have N2:=J n2
   have XW:=J (FR.o.cell (ab.o.cell C1.o id) (λe=>by have z:w.heap.size=g:=e;have:=WL.o;omega))
   have ai:=J (zbR (HG.o.keep0 (FW.o.trans0 fA)) ((S.keep fA).2) (by have:=aI.o x (mem_of_getElem? hy);omega))
   have aj:=J (Ju x.key)
   have KS:=@J (∀w',Fr No (wr.alloc (.cells (zJ o).toArray 103)).drew w'→w'.cell? ⟨w.heap.size,1,none⟩=some (.slice (some ⟨b3,p,none⟩) t.ins.length N)∧w'.cell? ⟨b3,p+n*34+33,none⟩=some (.slice ka x.key.length kc)∧w'.rangeAt wr.heap.size 1 (zf o.lock)) (λw' f=>⟨f.cell (U.o.cell XW.o id) id,f.cell (U.o.cell KC.o id) id,za (za N2.o (frN _).drew id) f id⟩)
   have aO:=@J (x9 x.key≠o.lock→opens t.ins prev=false) (λaa=>by
    cases ho:opens t.ins prev with
    |false=>rfl
    |true=>exact absurd (zbW.1 ho n x o hy m) aa)
   have TF:=@J (((ju prev).take (n+1)).map za0=((ju prev).take n).map za0++[za0 o.value]) (by
    have e3:(ju prev)[n]? =some o.value:=by simp[ju,m]
    rw[take_add_one,e3]
    simp)
   have aP:=@J (x9 x.key=o.lock→∀i,i<n+1→∀x' o',t.ins[i]? =some x'→prev[i]? =some o'→x9 x'.key=o'.lock) (λhe i hi x' o' q I=>by
    by_cases hin:i<n
    ·exact OP.o i hin x' o' q I
    ·obtain rfl:i=n:=by omega
     rw[hy] at q;rw[m] at I
     cases q;cases I
     exact he)
   have ag:=J (zb W.o fA (λ_ _=>id))
   clear hr aw S aB ao fA aT n1 n2 m hy d
   go_wp2_with (first|(refine zob rfl rfl rfl R1.o Y.o ?_)|(refine zok (w:=wr) (cs:=zJ o) rfl rfl rfl rfl Y.o yf ?_))
   refine wrLx [ff,ff,ff,ff,ff,ff,tt,ff,ff,ff] (λw'=>w'.cell? ⟨w.heap.size,1,none⟩=some (.slice (some ⟨b3,p,none⟩) t.ins.length N)∧w'.cell? ⟨b3,p+n*34+33,none⟩=some (.slice ka x.key.length kc)∧w'.rangeAt wr.heap.size 1 (zf o.lock)) ?_ (λK hK=>?_)
   ·exact KS.o _ (Fr.refl _ _)
   repeat((first|(refine zl rfl ?_;constructor;constructor;(focus(first|(rintro w' ⟨s1,s2,s3⟩;exact goS))))|(refine zm rfl ?_));try simp only[Act.put,pA,pB,pC])
   (refine zF rfl (λK' hK'=>?_))
   go_simp
   refine ai.o.mono ?_
   rintro e wz ⟨rfl,fz⟩
   have FZ:=J fz
   have aF:=@J (Fr (λj=>j=g) w4 wz) ((FR.o.trans0 U.o).trans0 fz)
   have aE:=J ((FW.o.trans0 U.o).trans0 fz)
   have bc:=fz.cell ((frN _).drew.cell N1.o id) id
   have X:=J (zb ag.o fz (λ_ _=>id))
   clear fz
   refine nXt hK' ?_ λhS=>?_
   ·exact KS.o _ FZ.o
   try simp only[Act.put,pA,pB,pC]
   by_cases heq:x9 x.key=o.lock
   ·repeat((first|(refine zl rfl ?_;constructor;constructor;(focus(first|exact xB (ty:=41) rfl (λw h=>h.2.2) uH rH (by rw[zx G.o];exact yt)|exact λw' _=>xR.exec_neq rfl (u:=(zf (x9 x.key)).toArray) (v:=(zf o.lock).toArray) rfl rfl (yu aj.o) (yu G.o) true (by rw[heq];simp) w'|(rintro w' ⟨s1,s2,s3⟩;exact goS))))|(refine zm rfl ?_));try simp only[Act.put,pA,pB,pC])
    refine zL (hK.out _ _ ?_)
    have aQ:=J (aP.o heq)
    obtain⟨aC,a6⟩:=Js X.o L 0 (by decide)
    obtain⟨u0,a7⟩:=Option.isSome_iff_exists.1 aC
    simp only[Nat.mul_one,Nat.add_zero] at a6 a7
    have aK:=J (qX X.o n (cs:=[za0 o.value]) (by simp;omega))
    have aM:=@J ((setM xs n [za0 o.value]).take (n+1)=((ju prev).take (n+1)).map za0) (by
     have q:=VP xs [za0 o.value] n (by rw[X.o.1];simp;omega)
     simp only[length_singleton] at q
     rw[q,ah.o,TF.o])
    have F6:=@J (Fr (λj=>j=g) w4 (wz.setCells g n [za0 o.value])) (aF.o.trans (zu g [za0 o.value] n wz) (λ_ _ h=>h))
    clear aC heq
    go_wp2_with fail
    go_roundw
    case rel=>exact⟨n+1,_,by go_num,by omega,aQ.o,aK.o,aM.o,F6.o⟩
    case measure=>simp[intOf];omega
   ·repeat((first|(refine zl rfl ?_;constructor;constructor;(focus(first|exact xB (ty:=41) rfl (λw h=>h.2.2) uH rH (by rw[zx G.o];exact yt)|exact λw' _=>xR.exec_neq rfl (u:=(zf (x9 x.key)).toArray) (v:=(zf o.lock).toArray) rfl rfl (yu aj.o) (yu G.o) false (by simp only[Bool.false_eq_true,false_iff];intro h;exact heq (zao (by simpa using congrArg Array.toList h))) w'|(rintro w' ⟨s1,s2,s3⟩;exact goS))))|(refine zm rfl ?_));try simp only[Act.put,pA,pB,pC])
    refine zL (hK.out _ _ ?_)
    have b:=J (Vn (t:=t) (prev:=prev) (w:=w) (E:=13) (by rw[FE.o,aO.o heq];rfl) (by decide))
    clear heq
    go_wp2_with fail
    go_ret2
    exact b.o _ aE.o
  ·have aa:n=prev.length:=by omega
   have i1:¬(n:Int)<(prev.length:Int):=by omega
   have C:opens t.ins prev=true:=zbW.2 (λi x o q I=>OP.o i (by have:=(List.getElem?_eq_some_iff.1 I).1;omega) x o q I)
   rw[C] at FE
   have ay:xs=(ju prev).map za0:=by
    have q:=ah.o
    rw[aa,take_of_length_le (by rw[W.o.1];omega),take_of_length_le (by simp[ju])] at q
    exact q
   have VL:=@J ((ju prev).length=prev.length) (by simp[ju])
   have H:=J (zek wr (v:=.slice (some ⟨g,0,none⟩) prev.length prev.length) (l:=ju prev) (by rw[VL.o,←ay];exact W.o.slice.arg) (λy hy=>by
    obtain⟨o,ho,rfl⟩:=List.mem_map.1 hy
    exact(HP.o.1 o ho).1) (by rw[VL.o];omega))
   have OV:=@J (∀x∈t.outs,x.ok) ((HT.o.oks).2)
   have XW:=J (FR.o.cell (ab.o.cell C2.o id) (λe=>by have z:w.heap.size=g:=e;have:=WL.o;omega))
   obtain⟨a,R⟩:∃a,a=(ju prev).sum:=⟨_,rfl⟩
   have s:=R.symm
   have aU:=J s
   rw[s] at FE
   have aG:=@J (a<18446744073709551616→zd0 (ju prev)=0∧zd1 (ju prev)=a) (λh=>by unfold zd0 zd1;rw[s,if_pos h,if_pos h];exact⟨rfl,rfl⟩)
   have aH:=@J (¬a<18446744073709551616→zd0 (ju prev)=3∧zd1 (ju prev)=0) (λh=>by unfold zd0 zd1;rw[s,if_neg h,if_neg h];exact⟨rfl,rfl⟩)
   have aR:=@J (0≤a) (by
    rw[←s]
    exact VU (l:=prev) (λx m=>(HP.o.1 x m).1.1))
   clear C ay jn s R
   by_cases hov:a<18446744073709551616
   rotate_left
   ·have b:=J (Vn (t:=t) (prev:=prev) (w:=w) (E:=11) (by rw[FE.o,if_pos rfl,if_neg hov]) (by decide))
    have r:=aH.o hov
    rw[r.1,r.2] at H
    clear hov r L hn
    go_wp2_with (go_at_call 128;refine H.o.mono ?_;rintro e w5 ⟨rfl,f5⟩;have F5:=J f5;clear f5)
    go_ret2
    exact b.o _ (FW.o.trans0 F5.o)
   have r:=aG.o hov
   rw[r.1,r.2] at H
   have ae:=@J (vB t prev=if qV t.outs≤a then 0 else 11) (by rw[FE.o,if_pos rfl,if_pos hov])
   have aL:=J hov
   clear r L hn
   have bg:t.outs.length≤9223372036854775807:=by
    obtain⟨_,_,_,_,_,_,_,M⟩:=HT.o
    exact le_trans M.2.len (by unfold maxLen;decide)
   go_wp2_with (go_at_call 128;refine H.o.mono ?_;rintro e w5 ⟨rfl,f5⟩;have F5:=J (FW.o.trans0 f5);have yy:=f5.cell XW.o id;clear f5)
   clear yy
   go_loopw [10,61] (λlv iv wr=>∃n:Nat,iv=.int .i64 n∧n≤t.outs.length∧lv=.int .u64 (a-qV (t.outs.take n))∧qV (t.outs.take n)≤a∧Fr No w5 wr) (λ_ iv _=>t.outs.length-(intOf iv).toNat)
   case atStart=>exact⟨0,rfl,zero_le _,by simp[qV],by simpa[qV] using aR.o,Fr.refl _ _⟩
   case round=>
    obtain⟨k,rfl,hk,rfl,B,fr⟩:=hrel
    have FQ:=J (F5.o.trans0 fr)
    have aD:=J fr
    have NN:=VU (l:=t.outs.take k) (λx m=>(OV.o x (List.mem_of_mem_take m)).1.1)
    clear fr
    by_cases aW:k<t.outs.length
    ·have i3:(k:Int)<(t.outs.length:Int):=by omega
     obtain⟨x,m⟩:∃x,t.outs[k]? =some x:=⟨_,getElem?_eq_getElem aW⟩
     have SN:=J (zde m)
     have MO:=J (ziG (l:=t.outs) (λx m=>(OV.o x m).1.1) (k+1))
     obtain⟨_,_,aZ,a1,z,-,-,M⟩:=HT.o.keep FQ.o
     simp only[txC,List.cons.injEq,and_true] at z
     obtain⟨-,-,z⟩:=z
     injection z with e21 _ e23
     subst e21;subst e23
     obtain⟨bb,off,aS,hv,hr,-⟩:=M.at_ m
     cases hv
     have d:=OV.o x (mem_of_getElem? m)
     have R1:=J hr
     have Y:=J (yz d)
     have U:=J ((frN wr).alloc (.cells (zJ x).toArray 103))
     have n1:=(YP wr d).1
     have vv:=d.1
     have ba:=aL.o
     clear hr m d M
     generalize hT:qV (t.outs.take k)=T at*
     by_cases hlx:a-T<x.value
     ·have b:=J (Vn (t:=t) (prev:=prev) (w:=w) (E:=11) (by rw[ae.o,if_neg (by have:=MO.o;have:=SN.o;omega)]) (by decide))
      have jx:decide (a-T<x.value)=true:=by simpa using hlx
      clear vv NN B
      have⟨D,F⟩:=tZ2
      go_wp2_with ((first|((with_reducible refine zt ?_);clear D;refine zob rfl rfl rfl R1.o Y.o ?_)|((with_reducible refine zv ?_);clear F;refine zok (w:=wr) (cs:=zJ x) rfl rfl rfl rfl Y.o yf ?_;generalize wr.alloc (.cells (zJ x).toArray 103)=wA at*));go_frame)
      go_ret2
      exact b.o _ (FQ.o.trans0 U.o)
     ·have jx:¬a-T<x.value:=hlx
      have es:(a-T-x.value) % 18446744073709551616=a-T-x.value:=by omega
      have ES:=@J (a-T-x.value=a-qV (t.outs.take (k+1))) (by rw[SN.o];omega)
      have aN:=@J (qV (t.outs.take (k+1))≤a) (by rw[SN.o];omega)
      clear vv NN B hlx
      have⟨D,F⟩:=tZ2
      go_wp2_with ((first|((with_reducible refine zt ?_);clear D;refine zob rfl rfl rfl R1.o Y.o ?_)|((with_reducible refine zv ?_);clear F;refine zok (w:=wr) (cs:=zJ x) rfl rfl rfl rfl Y.o yf ?_;generalize wr.alloc (.cells (zJ x).toArray 103)=wA at*));go_frame)
      go_roundw
      case rel=>exact⟨k+1,by go_num,by omega,by rw[←ES.o],aN.o,aD.o.trans0 U.o⟩
      case measure=>simp[intOf];omega
    ·have aV:k=t.outs.length:=by omega
     have i3:¬(k:Int)<(t.outs.length:Int):=by omega
     have Z:t.outs.take k=t.outs:=by rw[aV,take_length]
     rw[Z] at B
     have af:=@J (zgH w t prev (.returned (.tuple #[.int .u64 (a-qV t.outs),.int .i64 0])) wr) (⟨by
      have q:vB t prev=0:=by rw[ae.o,if_pos B]
      have I:Ja t prev=a-qV t.outs:=by unfold Ja;rw[if_pos q,aU.o]
      rw[q,I],FQ.o⟩)
     rw[Z]
     clear B NN Z
     go_wp2
     go_ret2
     exact af.o
section
open Go.ChangeShapes Go.WideShapes Go.ChangeAt Go.Deep
theorem laid:laidOutB prog=true:=by kernel_rfl
theorem own:ownKnob prog.godebug=none:=by kernel_rfl
section
variable {H:Type} {enc:TypeId×Value→H} {P:Program}
theorem zeA {w w':World} (h:Fr No w w'):Below w.heap.size w w':=⟨h.os,h.tape,h.output,h.size,λk a=>h.block k a id⟩
theorem Qv (e:laidOutB P=true) {W b:World} (c:Below W.heap.size W b) {f:Nat→Bool}:∀ {ts:List TypeId} {vs:List Value} {ds:List (DataW H)} {ps:List MemPlace},
  (∀t∈ts,P.readableRec t=true∧t<P.types.size)→DataW.TrodAll enc P W 0 (λ_=>true) true ts vs ds ps→(∀p∈ps,p.block<W.heap.size)→(∀p∈ps,f p.block=true)→DataW.TrodAll enc P b 0 f true ts vs ds ps
 |[],_,_,_,_,h,_,_=>by
  obtain⟨rfl,rfl,rfl⟩:=trodAll_nil h
  exact trodAll_mk0
 |t::ts,_,_,_,hr,h,hlt,hs=>by
  obtain⟨v,o,d,g,p,q,rfl,rfl,rfl,i,j⟩:=trodAll_cons h
  obtain⟨l,m⟩:=hr t (List.mem_cons_self ..)
  exact trodAll_cons_mk (WideElems.Trod_stays e l m i (λx a=>c.same (hlt x (List.mem_append_left _ a))) (λx a=>hs x (List.mem_append_left _ a)))
   (Qv e c (λn k=>hr n (List.mem_cons_of_mem _ k)) j (λx a=>hlt x (List.mem_append_right _ a)) (λx a=>hs x (List.mem_append_right _ a)))
theorem zgl {f:Func} {s:ChangeSpec} {apart fresh a:Bool} {W j:World} {args:Array Value} {e:List (DataW H)} {before:List MemPlace}
  (z:laidOutB P=true) (B:∀t∈f.params.toList,P.readableRec t=true∧t<P.types.size) (r:s.vars=[])
  (k:DataW.Whole enc P f.params.toList s.vars apart W args.toList e [] before) (o:Fr No W j)
  (i:∀(b:Nat) (sp:Nat→Bool) (hd:Bool),DataW.TrodAll enc P j b sp hd f.resultTypes.toList (v.resultList f.resultTypes.size) (s.fn H (e++[])).results [])
  (d:(s.fn H (e++[])).args=e) (m:(s.fn H (e++[])).vars=[]):
  s.post enc P f apart fresh a false W args v j:=by
 have l:=k
 obtain⟨p,q,u,n,rfl,y,A⟩:=l
 rw[r] at n
 obtain⟨_,rfl⟩:=trodVars_none n
 have c:∀x∈p,x.block<W.heap.size:=λx g=>by simpa using k.lt x (List.mem_append_left _ g)
 refine⟨e,[],p++[],[],p,[],k,i _ _ _,?_,?_,World.keptBut_mono (λx g=>⟨g,.inr (by simpa using g)⟩) ((zeA o).frame _),λh=>by cases h⟩
 ·rw[d]
  exact Qv z (zeA o) B u c (λx g=>by simpa using c x g)
 ·rw[m,r]
  exact rfl
theorem zai {w:World} {a:Addr} (h:w.cell? a=some v):a=⟨a.block,a.off,none⟩∧a.block<w.heap.size:=by
 unfold World.cell? at h
 split at h
 ·rename_i c x y e
  split at h
  ·cases h
  ·rename_i hs
   refine⟨?_,(Array.getElem?_eq_some_iff.1 e).1⟩
   obtain⟨b,o,s⟩:=a
   cases s<;>simp_all
 ·cases h
variable {w:World} {base:Nat} {spare:Nat→Bool} {held:Bool}
end
end
section
open Go.ChangeShapes Go.WideShapes Go.ChangeAt Go.WideMaps Go.WideElems
def zeR:List (String×DataW Unit):=[("pappus/sha.constants",Rows.laid_pappus_sha_constants),("pappus/sha.first",Rows.laid_pappus_sha_first)]
theorem gK:prog.globalNamed "pappus/sha.constants" =some 3:=by kernel_rfl
theorem tK:(prog.globals[3]?).map (·.type)=some 312:=by kernel_rfl
theorem gI:prog.globalNamed "pappus/sha.first" =some 0:=by kernel_rfl
theorem tI:(prog.globals[0]?).map (·.type)=some 267:=by kernel_rfl
theorem zjq (os:Os) (args:Array Value):laidMetH prog zeR ((World.doorLaid prog 400 os).forCall (λ_ _=>0) ⟨#[],args,[]⟩).memory:=
 laidMetH_of_parts3 (fuel:=8) (laidMet_of_run' 8 (by kernel_rfl) (by kernel_rfl)) (by kernel_rfl) (by kernel_rfl)
theorem zko {a:List Value} {t:Nat} {c:List Int} {u:Nat→Bool} {E:List MemPlace} {h:Bool} {enc:TypeId×Value→Unit} (v:prog.underlying T=some (.array n 31)) (C:∀j,W.cell? ⟨g,j,none⟩=a[j]?) (w:DataW.trod enc prog W p u h t T a=some (.agg (c.map λx=>DataW.lit (.int .u32 x)),E)) (A:c.length=n):
  ∀(j:Nat) (x:Int),c[j]? =some x→W.cell? ⟨g,j,none⟩=some (.int .u32 x):=by
 obtain⟨xs,F,D,i,o,B,b⟩:=DataW.trod_array v w
 have q:prog.cellsOf 31=1:=by kernel_rfl
 rw[q] at b
 have d:(c.map λx=>DataW.lit (H:=Unit) (.int .u32 x))=xs.map (·.1):=by
  have e:=congrArg Prod.fst i
  exact DataW.agg.inj e
 intro j x m
 have f:j<n:=by rw[←A];exact(List.getElem?_eq_some_iff.1 m).1
 have e:=congrArg (·[j]?) d
 simp only[List.getElem?_map,m,Option.map_some] at e
 cases hy:xs[j]? with
 |none=>rw[hy] at e;cases e
 |some y=>
  rw[hy] at e
  have l:=b j f
  rw[hy] at l
  obtain⟨k,r,s,_⟩:=DataW.trod_int Tryz.underlying31 l
  simp only[Option.map_some,Option.some.injEq] at e
  rw[s] at e
  have z:x=k:=by simpa using e
  subst z
  have:=congrArg (·[0]?) r
  simp at this
  rw[C j]
  simpa using this
theorem zmQ:Rows.laid_pappus_sha_constants (H:=Unit)=.agg (ziu.map λx=>DataW.lit (.int .u32 x)):=by kernel_rfl
theorem zmP:Rows.laid_pappus_sha_first (H:=Unit)=.agg (zit.map λx=>DataW.lit (.int .u32 x)):=by kernel_rfl
theorem zld (h:laidMetH prog zeR W):q9 W:=by
 rw[MakeChecks.laidMetH_plain _ _ _ (by kernel_rfl)] at h
 obtain⟨ps,⟨p,v,l,n,r,t,c,e,i,a,⟨q,w,m,o,s,u,d,f,k,b,_,_⟩,_⟩,_,_⟩:=h
 obtain rfl:=Option.some.inj (gK.symm.trans c)
 obtain rfl:=Option.some.inj (tK.symm.trans e)
 obtain rfl:=Option.some.inj (gI.symm.trans d)
 obtain rfl:=Option.some.inj (tI.symm.trans f)
 rw[zmQ] at a
 rw[zmP] at b
 have K:=zko (g:=3) Tryz.underlying312 (λj=>by rw[Array.getElem?_toList];exact World.var?_cell c i j) a rfl
 have I:=zko (g:=0) Tryz.underlying267 (λj=>by rw[Array.getElem?_toList];exact World.var?_cell d k j) b rfl
 exact⟨⟨K,I⟩,(zai (K 0 _ rfl)).2⟩
end
section
open Go.ChangeShapes Go.WideShapes Go.Deep
theorem YE {b o k:Nat}:(⟨b,o,none⟩:Addr).add k=⟨b,o+k,none⟩:=by
 unfold Addr.add
 split
 ·subst_vars;rfl
 ·rfl
theorem QF {α:Type} {p:Nat→α→Prop} (h:∀i,i<n→∃a,p i a):∃L:List α,L.length=n∧∀i a,L[i]? =some a→p i a:=by
 induction n with
 |zero=>exact⟨[],rfl,λi a h=>by simp at h⟩
 |succ n ih=>
  obtain⟨L,c,e⟩:=ih (λi hi=>h i (by omega))
  obtain⟨a,d⟩:=h n (by omega)
  refine⟨L++[a],by simp[c],λi x b=>?_⟩
  by_cases hi:i<n
  ·rw[getElem?_append_left (by omega)] at b;exact e i x b
  ·have:i=n:=by have:=(List.getElem?_eq_some_iff.1 b).1;simp at this;omega
   subst this
   rw[getElem?_append_right (by omega)] at b
   simp[c] at b
   exact b▸d
section
variable {H:Type} {enc:TypeId×Value→H} {P:Program} {w:World} {base:Nat} {spare:Nat→Bool} {held:Bool}
theorem zgC {x:DataW H×List MemPlace} (u:P.underlying t=some (.array n e)) (r:P.cellsOf t=n) (q:P.cellsOf e=1) (s:P.underlying e=some (.int .u8))
  (h:DataW.trod enc P w base spare held fuel t cs=some x):∃l:List Int,l.length=n∧(∀y∈l,0≤y∧y≤255)∧cs=l.map (Value.int .u8):=by
 obtain⟨xs,m,_,_,z,v,hi⟩:=DataW.trod_array u h
 obtain⟨l,f,j⟩:=QF (n:=n) (p:=λi (y:Int)=>cs[i]? =some (.int .u8 y)∧0≤y∧y≤255) (λi d=>by
  have b:=hi i d
  rw[q,getElem?_eq_getElem (by omega)] at b
  obtain⟨y,a,_,g⟩:=DataW.trod_int s b
  have k:IntKind.u8.min=0:=rfl
  have o:IntKind.u8.max=255:=rfl
  simp[Lit.wf,k,o] at g
  refine⟨y,?_,g.1,g.2⟩
  rw[Nat.mul_one] at a
  have c:i<cs.length:=by omega
  rw[List.drop_eq_getElem_cons c] at a
  simp only[List.take_succ_cons,take_zero,List.cons.injEq,and_true] at a
  rw[getElem?_eq_getElem c,a])
 refine⟨l,f,λy a=>?_,?_⟩
 ·obtain⟨i,hi⟩:=List.mem_iff_getElem?.1 a
  exact(j i y hi).2
 ·apply List.ext_getElem?
  intro i
  by_cases d:i<n
  ·have b:l[i]? =some (l[i]'(by omega)):=getElem?_eq_getElem (by omega)
   rw[(j i _ b).1,List.getElem?_map,b]
   rfl
  ·rw[List.getElem?_eq_none (by omega),List.getElem?_eq_none (by simp;omega)]
theorem zc3 {α:Type} {f:α→List Value} {ok:α→Prop} {x:DataW H×List MemPlace} (ht:P.underlying t=some (.slice e)) (X:P.cellsOf e=k) (N:0<k) (C:∀a,ok a→(f a).length=k)
  (z:∀(fuel:Nat) (cs:List Value) (x:DataW H×List MemPlace),DataW.trod enc P w base spare held fuel e cs=some x→∃a,ok a∧cs=f a)
  (h:DataW.trod enc P w base spare held fuel t [v]=some x):∃L:List α,(∀a∈L,ok a)∧xG w v L.length (L.flatMap f):=by
 rcases open_slice ht h with⟨Q,_⟩|⟨a,q,r,m,n,D,Pl,g,hb,hl,T,M,hx,hi⟩
 ·simp only[List.cons.injEq,and_true] at Q
  exact⟨[],(λa b=>by cases b),.inl (.inl ⟨Q,rfl,rfl⟩)⟩
 ·simp only[List.cons.injEq,and_true] at g
  rw[X] at hi
  have aa:q≤m:=by rw[M];split<;>omega
  by_cases hl0:q=0
  ·subst hl0
   exact⟨[],(λa b=>by cases b),.inr ⟨a,r,g,rfl,rfl,T⟩⟩
  have hs:a.spot=none∧a.block<w.heap.size:=by
   obtain⟨F,I,o⟩:=hi 0 (by omega)
   obtain⟨y,E,rfl⟩:=z _ _ _ o
   obtain⟨_,K,d⟩:=World.cells?_some I
   have s:=d 0 N
   rw[getElem?_eq_getElem (by rw[C y E];exact N)] at s
   have c:=zai s
   rw[Nat.zero_mul] at c
   exact⟨by simpa[Addr.add] using congrArg Addr.spot c.1,by simpa[Addr.add] using c.2⟩
  obtain⟨O,B,W⟩:=a
  obtain⟨rfl,G⟩:=hs
  obtain⟨L,Y,U⟩:=QF (n:=q) (p:=λi (y:α)=>ok y∧w.rangeAt O (B+i*k) (f y)) (λi Z=>by
   obtain⟨F,I,o⟩:=hi i (by omega)
   obtain⟨y,E,rfl⟩:=z _ _ _ o
   obtain⟨_,K,d⟩:=World.cells?_some I
   refine⟨y,E,λj u A=>?_⟩
   have l:j<k:=by have:=(List.getElem?_eq_some_iff.1 A).1;rw[C y E] at this;exact this
   have s:=d j l
   rw[YE,YE] at s
   rw[s]
   exact A)
  have hok:∀a∈L,ok a:=λa b=>by
   obtain⟨i,hi⟩:=List.mem_iff_getElem?.1 b
   exact(U i a hi).1
  refine⟨L,hok,.inl (.inr ⟨O,B,r,by rw[Y];exact g,by omega,T,λj u A=>?_,G⟩)⟩
  have l:j<L.length*k:=by
   have:=(List.getElem?_eq_some_iff.1 A).1
   rwa [xI f k L (λa b=>C a (hok a b))] at this
  have V:j / k<L.length:=Nat.div_lt_of_lt_mul (by rw[Nat.mul_comm];exact l)
  have hr:j % k<k:=Nat.mod_lt _ N
  have R:=Zy f k L (λa b=>C a (hok a b)) (j / k) L[j / k] (getElem?_eq_getElem V) (j % k) hr
  rw[Nat.div_add_mod' j k,A] at R
  have S:=(U (j / k) _ (getElem?_eq_getElem V)).2 (j % k) u R.symm
  rw[show B+j / k*k+j % k=B+(j / k*k+j % k) by omega,Nat.div_add_mod' j k] at S
  exact S
end
end
section
open Go.ChangeShapes Go.WideShapes Go.Deep
section
variable {H:Type} {enc:TypeId×Value→H} {P:Program} {w:World} {base:Nat} {spare:Nat→Bool} {held:Bool}
theorem zax {α:Type} {q:α→List Value→Prop} {x:DataW H×List MemPlace} (Z:P.underlying t=some (.slice e)) (T:P.cellsOf e=k) (S:0<k) (R:∀a cs,q a cs→cs.length=k)
  (A:∀(fuel:Nat) (cs:List Value) (x:DataW H×List MemPlace),DataW.trod enc P w base spare held fuel e cs=some x→∃a,q a cs)
  (h:DataW.trod enc P w base spare held fuel t [v]=some x):∃(L:List α) (va:Option Addr) (vc:Nat),v=.slice va L.length vc∧L.length≤maxLen∧∀(i:Nat) (d:α),L[i]? =some d→∃b off cs,va=some ⟨b,off,none⟩∧w.rangeAt b (off+i*k) cs∧q d cs:=by
 rcases open_slice Z h with⟨O,_⟩|⟨a,o,r,m,n,D,Pl,g,hb,hl,hm,N,hx,hi⟩
 ·simp only[List.cons.injEq,and_true] at O
  exact⟨[],none,0,O,zero_le _,λi d K=>by simp at K⟩
 ·simp only[List.cons.injEq,and_true] at g
  rw[T] at hi
  have W:o≤m:=by rw[N];split<;>omega
  by_cases hl0:o=0
  ·subst hl0
   exact⟨[],some a,r,g,zero_le _,λi d K=>by simp at K⟩
  have Y:a.spot=none:=by
   obtain⟨s,G,l⟩:=hi 0 (by omega)
   obtain⟨y,B⟩:=A _ _ _ l
   obtain⟨_,I,f⟩:=World.cells?_some G
   have z:=f 0 S
   rw[getElem?_eq_getElem (by rw[R y _ B];exact S)] at z
   have c:=zai z
   rw[Nat.zero_mul] at c
   simpa[Addr.add] using congrArg Addr.spot c.1
  obtain⟨C,E,F⟩:=a
  obtain rfl:F=none:=Y
  obtain⟨L,U,X⟩:=QF (n:=o) (p:=λi (y:α)=>∃b off cs,(some ⟨C,E,none⟩:Option Addr)=some ⟨b,off,none⟩∧w.rangeAt b (off+i*k) cs∧q y cs) (λi V=>by
   obtain⟨s,G,l⟩:=hi i (by omega)
   obtain⟨y,B⟩:=A _ _ _ l
   obtain⟨_,I,f⟩:=World.cells?_some G
   refine⟨y,C,E,s,rfl,λj u Q=>?_,B⟩
   have M:j<k:=by have:=(List.getElem?_eq_some_iff.1 Q).1;rw[R y _ B] at this;exact this
   have z:=f j M
   rw[Q,YE,YE] at z
   exact z)
  exact⟨L,some ⟨C,E,none⟩,r,by rw[U];exact g,by omega,X⟩
end
end
section
open Go.ChangeShapes Go.WideShapes Go.Deep
section
variable {H:Type} {enc:TypeId×Value→H} {w:World} {base:Nat} {spare:Nat→Bool} {held:Bool}
theorem zlS {n:Int} (h:(Lit.int .u32 n).wf=true):0≤n∧n≤4294967295:=by
 simp[Lit.wf,IntKind.min,IntKind.max,IntKind.signed,IntKind.bits] at h
 omega
theorem zlT {n:Int} (h:(Lit.int .u64 n).wf=true):0≤n∧n≤18446744073709551615:=by
 simp[Lit.wf,IntKind.min,IntKind.max,IntKind.signed,IntKind.bits] at h
 omega
theorem Q0 {x:DataW H×List MemPlace} (h:DataW.trod enc prog w base spare held fuel 41 cs=some x):∃l:List Int,zY l∧cs=l.map zN:=by
 have d:prog.cellsOf 41=32:=by kernel_rfl
 have c:prog.cellsOf 5=1:=by kernel_rfl
 obtain⟨l,b,a,e⟩:=zgC Tryz.underlying41 d c Tryz.underlying5 h
 exact⟨l,⟨b,a⟩,e⟩
theorem zfx {x:DataW H×List MemPlace} (h:DataW.trod enc prog w base spare held fuel 95 cs=some x):∃p:zE,p.ok∧cs=zn p:=by
 have i:prog.cellsOf 41=32:=by kernel_rfl
 have j:prog.cellsOf 95=33:=by kernel_rfl
 have k:prog.cellsOf 31=1:=by kernel_rfl
 obtain⟨e,n,_,_,q,d,g⟩:=DataW.trod_struct Tryz.underlying95 h
 have a:DataW.trod enc prog w base spare held n 41 ((cs.drop 0).take (prog.cellsOf 41))=e[0]? :=g 0 _ rfl
 have b:DataW.trod enc prog w base spare held n 31 ((cs.drop 32).take (prog.cellsOf 31))=e[1]? :=g 1 _ rfl
 rw[i] at a
 rw[k] at b
 rw[j] at q
 have r:e.length=2:=d
 rw[getElem?_eq_getElem (by omega)] at a b
 obtain⟨l,c,f⟩:=Q0 a
 obtain⟨s,m,_,t⟩:=DataW.trod_int Tryz.underlying31 b
 refine⟨⟨l,s⟩,⟨c,zlS t⟩,?_⟩
 rw[drop_zero] at f
 have o:cs.drop 32=[.int .u32 s]:=by rw[←m,take_of_length_le (by rw[length_drop];omega)]
 show cs=l.map zN++[.int .u32 s]
 rw[←f,←o,take_append_drop]
theorem ziI {x:DataW H×List MemPlace} (h:DataW.trod enc prog w base spare held fuel 103 cs=some x):∃o:yI,o.ok∧cs=zJ o:=by
 have i:prog.cellsOf 41=32:=by kernel_rfl
 have j:prog.cellsOf 103=33:=by kernel_rfl
 have k:prog.cellsOf 48=1:=by kernel_rfl
 obtain⟨e,n,_,_,q,d,g⟩:=DataW.trod_struct Tryz.underlying103 h
 have a:DataW.trod enc prog w base spare held n 48 ((cs.drop 0).take (prog.cellsOf 48))=e[0]? :=g 0 _ rfl
 have b:DataW.trod enc prog w base spare held n 41 ((cs.drop 1).take (prog.cellsOf 41))=e[1]? :=g 1 _ rfl
 rw[k] at a
 rw[i] at b
 rw[j] at q
 have r:e.length=2:=d
 rw[getElem?_eq_getElem (by omega)] at a b
 obtain⟨s,f,_,t⟩:=DataW.trod_int Tryz.underlying48 a
 obtain⟨l,c,m⟩:=Q0 b
 refine⟨⟨s,l⟩,⟨zlT t,c⟩,?_⟩
 rw[drop_zero] at f
 have p:cs.drop 1=l.map zN:=by rw[←m,take_of_length_le (by rw[length_drop];omega)]
 show cs=[.int .u64 s]++l.map zN
 rw[←f,←p,take_append_drop]
end
end
section
open Go.ChangeShapes Go.WideShapes Go.Deep
section
variable {H:Type} {enc:TypeId×Value→H} {w:World} {base:Nat} {spare:Nat→Bool} {held:Bool}
theorem zaw {x:DataW H×List MemPlace} (h:DataW.trod enc prog w base spare held fuel 22 [v]=some x):∃L,xu w v L:=
 zc3 Tryz.underlying22 (k:=33) (by kernel_rfl) (by decide) (λa=>yz) (λ_ _ _ h=>ziI h) h
theorem zjW {x:DataW H×List MemPlace} (h:DataW.trod enc prog w base spare held fuel 106 [v]=some x):∃k,zbo w v k:=by
 obtain⟨L,ok,d⟩:=zc3 (f:=λb:Int=>[zN b]) (ok:=λb:Int=>0≤b∧b≤255) Tryz.underlying106 (k:=1) (by kernel_rfl) (by decide) (λa _=>rfl) (λfuel cs x h=>by
  obtain⟨k,e,_,c⟩:=DataW.trod_int Tryz.underlying5 h
  have g:IntKind.u8.min=0:=rfl
  have i:IntKind.u8.max=255:=rfl
  simp[Lit.wf,g,i] at c
  exact⟨k,⟨c.1,c.2⟩,e⟩) h
 refine⟨L,ok,?_⟩
 have:L.flatMap (λb:Int=>[zN b])=L.map zN:=by
  clear d ok
  induction L with
  |nil=>rfl
  |cons a l ih=>simp[ih]
 rwa [this] at d
theorem zmV (b:cs.length=n) (a:k+1=n):∃u,cs.drop k=[u]:=by
 have:(cs.drop k).length=1:=by rw[length_drop];omega
 exact List.length_eq_one_iff.1 this
theorem zlJ {x:DataW H×List MemPlace} (h:DataW.trod enc prog w base spare held fuel 108 cs=some x):∃d,InQ w d cs:=by
 have c1:prog.cellsOf 95=33:=by kernel_rfl
 have c2:prog.cellsOf 106=1:=by kernel_rfl
 have q:prog.cellsOf 108=34:=by kernel_rfl
 obtain⟨f,n,_,_,l,c,i⟩:=DataW.trod_struct Tryz.underlying108 h
 have b:DataW.trod enc prog w base spare held n 95 ((cs.drop 0).take (prog.cellsOf 95))=f[0]? :=i 0 _ rfl
 have a:DataW.trod enc prog w base spare held n 106 ((cs.drop 33).take (prog.cellsOf 106))=f[1]? :=i 1 _ rfl
 rw[c1] at b
 rw[c2] at a
 rw[q] at l
 have s:f.length=2:=c
 rw[getElem?_eq_getElem (by omega)] at b a
 obtain⟨p,e,r⟩:=zfx b
 obtain⟨u,g⟩:=zmV l (k:=33) rfl
 rw[g,take_of_length_le (by simp)] at a
 obtain⟨k,j⟩:=zjW a
 obtain⟨m,o,rfl⟩:=j.2.form
 refine⟨⟨p,k⟩,m,o,?_,e,j⟩
 show cs=zn p++[.slice m k.length o]
 rw[←r,←g,drop_zero,take_append_drop]
theorem zjV {x:DataW H×List MemPlace} (h:DataW.trod enc prog w base spare held fuel 32 [v]=some x):∃L,Vc w v L:=by
 obtain⟨L,d,f,e,b,c⟩:=zax (q:=InQ w) Tryz.underlying32 (k:=34) (by kernel_rfl) (by decide) (λa cs ⟨_,_,e,ok,_⟩=>by rw[e];exact vC ok _) (λ_ _ _ h=>zlJ h) h
 exact⟨L,d,f,e,b,c⟩
theorem zd3 {x:DataW H×List MemPlace} (h:DataW.trod enc prog w base spare held fuel 34 cs=some x):∃d,TxQ w d cs:=by
 have c1:prog.cellsOf 31=1:=by kernel_rfl
 have c2:prog.cellsOf 32=1:=by kernel_rfl
 have s:prog.cellsOf 22=1:=by kernel_rfl
 have t:prog.cellsOf 34=3:=by kernel_rfl
 obtain⟨i,n,_,_,r,m,j⟩:=DataW.trod_struct Tryz.underlying34 h
 have e:DataW.trod enc prog w base spare held n 31 ((cs.drop 0).take (prog.cellsOf 31))=i[0]? :=j 0 _ rfl
 have f:DataW.trod enc prog w base spare held n 32 ((cs.drop 1).take (prog.cellsOf 32))=i[1]? :=j 1 _ rfl
 have g:DataW.trod enc prog w base spare held n 22 ((cs.drop 2).take (prog.cellsOf 22))=i[2]? :=j 2 _ rfl
 rw[c1] at e
 rw[c2] at f
 rw[s] at g
 rw[t] at r
 have y:i.length=3:=m
 rw[getElem?_eq_getElem (by omega)] at e f g
 match cs,r with
 |[a,b,c],_=>
  simp only[drop_zero,List.drop_succ_cons,List.take_succ_cons,take_zero] at e f g
  obtain⟨k,o,_,l⟩:=DataW.trod_int Tryz.underlying31 e
  simp only[List.cons.injEq,and_true] at o
  subst o
  obtain⟨I,p⟩:=zjV f
  obtain⟨O,q⟩:=zaw g
  obtain⟨z,A,rfl⟩:=p.form
  obtain⟨B,C,rfl⟩:=q.2.form
  have u:IntKind.u32.min=0:=rfl
  have v:IntKind.u32.max=4294967295:=rfl
  simp[Lit.wf,u,v] at l
  exact⟨⟨k,I,O⟩,z,A,B,C,rfl,⟨l.1,l.2⟩,p,q⟩
theorem TxQ.len3 {w:World} {t:TxD} (h:TxQ w t cs):cs.length=3:=by
 obtain⟨_,_,_,_,rfl,_⟩:=h
 rfl
theorem zjX {x:DataW H×List MemPlace} (h:DataW.trod enc prog w base spare held fuel 23 [v]=some x):∃L,Jz w v L:=by
 obtain⟨L,d,f,e,b,c⟩:=zax (q:=TxQ w) Tryz.underlying23 (k:=3) (by kernel_rfl) (by decide) (λa cs h=>h.len3) (λ_ _ _ h=>zd3 h) h
 exact⟨L,d,f,e,b,c⟩
theorem zkt {x:DataW H×List MemPlace} (h:DataW.trod enc prog w base spare held fuel 55 cs=some x):∃d,jE w d cs:=by
 have c1:prog.cellsOf 48=1:=by kernel_rfl
 have c2:prog.cellsOf 22=1:=by kernel_rfl
 have s:prog.cellsOf 23=1:=by kernel_rfl
 have t:prog.cellsOf 55=3:=by kernel_rfl
 obtain⟨i,n,_,_,r,m,j⟩:=DataW.trod_struct Tryz.underlying55 h
 have e:DataW.trod enc prog w base spare held n 48 ((cs.drop 0).take (prog.cellsOf 48))=i[0]? :=j 0 _ rfl
 have f:DataW.trod enc prog w base spare held n 22 ((cs.drop 1).take (prog.cellsOf 22))=i[1]? :=j 1 _ rfl
 have g:DataW.trod enc prog w base spare held n 23 ((cs.drop 2).take (prog.cellsOf 23))=i[2]? :=j 2 _ rfl
 rw[c1] at e
 rw[c2] at f
 rw[s] at g
 rw[t] at r
 have y:i.length=3:=m
 rw[getElem?_eq_getElem (by omega)] at e f g
 match cs,r with
 |[a,b,c],_=>
  simp only[drop_zero,List.drop_succ_cons,List.take_succ_cons,take_zero] at e f g
  obtain⟨k,o,_,l⟩:=DataW.trod_int Tryz.underlying48 e
  simp only[List.cons.injEq,and_true] at o
  subst o
  obtain⟨O,q⟩:=zaw f
  obtain⟨I,p⟩:=zjX g
  obtain⟨B,C,rfl⟩:=q.2.form
  obtain⟨z,A,rfl⟩:=p.form
  have u:IntKind.u64.min=0:=rfl
  have v:IntKind.u64.max=18446744073709551615:=rfl
  simp[Lit.wf,u,v] at l
  exact⟨⟨k,O,I⟩,B,C,z,A,rfl,⟨l.1,l.2⟩,q,p⟩
end
end
end Go.Proofs.YtdkkjchclkjleaaGreatDoor
