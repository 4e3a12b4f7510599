/- pappusref11.Id: what chain.Id answers. -/
import Derived.Test.YtmpamcnlineceaaGreatDoorZG8
import Derived.Test.YtmpamcnlineceaaGreatDoorZG18
import Derived.Test.YtmpamcnlineceaaGreatDoorZG3
import Derived.Test.YtmpamcnlineceaaGreatDoorZG12
import Derived.Test.YtmpamcnlineceaaGreatDoorZG14
import Derived.Test.YtmpamcnlineceaaGreatDoorZG2
import Derived.Test.YtmpamcnlineceaaGreatDoorZG1
set_option linter.unusedVariables false
set_option linter.unusedSimpArgs false
set_option linter.unnecessarySimpa false
set_option linter.all false
set_option maxRecDepth 20000
set_option maxHeartbeats 16000000
namespace Go.Proofs.YtmpamcnlineceaaGreatDoor
open Go Go.RowKit Go.Maps Go.MapKept
open Go.Proofs.Tryz(prog)
open Nat(le_refl zero_le le_of_eq)
open List(getElem?_eq_getElem mem_append mem_of_getElem? length_append take_add_one take_length length_take take_of_length_le append_assoc length_singleton)
variable {W:Nat→Prop} {m n p:Nat} {w w0:World}
theorem zbx {b:y7} {cs:List Value} (ht:xT w b cs):
  Calls prog 9 #[.agg cs.toArray] w λe w'=>e=.returned (.tuple #[.agg (zl (xH b)).toArray,.int .i64 (zdO b)])∧Fr No w w':=by
 have zH:=qt
 have zo:=yA
 have zT:=Xq
 obtain⟨dH,uH,rH⟩:=JW
 obtain⟨W,X,Z,oc,rfl,V,ho,r⟩:=ht
 have f1:Fr No w (w.alloc (.cells #[.int .u64 b.tag,.slice W b.pay.length X,.slice Z b.txs.length oc] 36)):=(frN w).alloc _
 have B:Fr No (w.alloc (.cells #[.int .u64 b.tag,.slice W b.pay.length X,.slice Z b.txs.length oc] 36)) _:=(frN _).alloc (.cells (zl z7).toArray 40)
 obtain⟨c0,c1,c2,-⟩:=qC w (.int .u64 b.tag) (.slice W b.pay.length X) (.slice Z b.txs.length oc) 36
 have C0:=J (B.cell c0 _root_.id)
 have C1:=J (B.cell c1 _root_.id)
 have C2:=J (B.cell c2 _root_.id)
 have F2:=J (f1.trans0 B)
 have B2:=J (xK (w.alloc (.cells #[.int .u64 b.tag,.slice W b.pay.length X,.slice Z b.txs.length oc] 36)) (.cells (zl z7).toArray 40) (n:=w.heap.size+1) (by simp))
 have D:=@J (((w.alloc (.cells #[.int .u64 b.tag,.slice W b.pay.length X,.slice Z b.txs.length oc] 36)).alloc (.cells (zl z7).toArray 40)).heap.size=w.heap.size+2) (by simp)
 have HO:=J (ho.keep F2.o)
 have HX:=J (r.keep0 F2.o)
 have v1:=V.1
 have v2:=V.2
 have c0:=C0.o
 have c1:=C1.o
 have c2:=C2.o
 clear ho r f1 B V
 show Calls prog 9 #[.agg #[.int .u64 b.tag,.slice W b.pay.length X,.slice Z b.txs.length oc]] w _
 by_cases hp8:8<b.pay.length
 ·have d:xC b=false:=by
   have:decide (b.pay.length≤8)=false:=by simp;omega
   simp[xC,this]
  have j1:decide ((8:Int)<(b.pay.length:Int))=true:=by simp;omega
  have z:=J (JH d)
  have c:=@J ((zl z7).length=32) (rfl)
  clear d
  clear hp8
  go_enter Tryz.func9,Tryz.ntmps9
  have⟨j,k⟩:=tZ2
  go_wp2_with ((first|((with_reducible refine zt ?_);clear j;with_reducible refine xF 21 ?_;refine zg rfl (yl (t:=40) rfl rfl (jt _)) ?_)|((with_reducible refine zr ?_);clear k;refine ze rfl (zy (ty:=40) (b:=w.heap.size+1) (off:=0) (cs:=zl z7) rfl rfl rfl (by rw[c.o];exact zM B2.o (le_of_eq xN.symm)) (by rw[c.o];exact yG) zX) ?_));go_frame)
  refine bodyPost_ret (zR (P:=prog) (fn:=Tryz.f9) rfl _ rfl (yE B2.o (by rw[c.o];exact xN)) uH rH (by rw[c.o];exact yG) rfl) rfl ⟨by rw[z.o.1,z.o.2];rfl,?_⟩
  exact F2.o.trans (zv _ _ _ _) (λi hi e=>by omega)
 by_cases ht16:16<b.txs.length
 ·have d:xC b=false:=by
   have:decide (b.txs.length≤16)=false:=by simp;omega
   simp[xC,this]
  have j1:decide ((8:Int)<(b.pay.length:Int))=false:=by simp;omega
  have j2:decide ((16:Int)<(b.txs.length:Int))=true:=by simp;omega
  have z:=J (JH d)
  have c:=@J ((zl z7).length=32) (rfl)
  clear d
  clear hp8 ht16
  go_enter Tryz.func9,Tryz.ntmps9
  have⟨j,k⟩:=tZ2
  go_wp2_with ((first|((with_reducible refine zt ?_);clear j;with_reducible refine xF 21 ?_;refine zg rfl (yl (t:=40) rfl rfl (jt _)) ?_)|((with_reducible refine zr ?_);clear k;refine ze rfl (zy (ty:=40) (b:=w.heap.size+1) (off:=0) (cs:=zl z7) rfl rfl rfl (by rw[c.o];exact zM B2.o (le_of_eq xN.symm)) (by rw[c.o];exact yG) zX) ?_));go_frame)
  refine bodyPost_ret (zR (P:=prog) (fn:=Tryz.f9) rfl _ rfl (yE B2.o (by rw[c.o];exact xN)) uH rH (by rw[c.o];exact yG) rfl) rfl ⟨by rw[z.o.1,z.o.2];rfl,?_⟩
  exact F2.o.trans (zv _ _ _ _) (λi hi e=>by omega)
 have p8:b.pay.length≤8:=by omega
 have al:b.txs.length≤16:=by omega
 have j1:decide ((8:Int)<(b.pay.length:Int))=false:=by simp;omega
 have j2:decide ((16:Int)<(b.txs.length:Int))=false:=by simp;omega
 have e1:(b.pay.length:Int) % 18446744073709551616=(b.pay.length:Int):=by omega
 have e2:(b.txs.length:Int) % 18446744073709551616=(b.txs.length:Int):=by omega
 clear hp8 ht16
 go_enter Tryz.func9,Tryz.ntmps9
 have⟨j,k,N⟩:=tZ3
 go_wp2_with ((first|(clear j;go_at_call 29;generalize (w.alloc (.cells #[.int .u64 b.tag,.slice W b.pay.length X,.slice Z b.txs.length oc] 36)).alloc (.cells (zl z7).toArray 40)=w2 at*;refine(Za w2 (x:=b.tag) ⟨v1,v2⟩ (zc7 (by omega) (by omega))).mono ?_;rintro e w3 ⟨v3,rfl,b3,f3⟩;have M:=J f3;have B3:=@J (yC w3 (w.heap.size+2) v3 _) (qs b3 (by rw[D.o];exact le_refl _));have L3:=J (xh 8 b.tag);clear b3 f3;have cA:=M.o.cell C1.o _root_.id)|(clear k;go_at_call 30;refine(Xp w3 (x:=b.pay.length) (by omega)).mono ?_;rintro e ao ⟨aw,rfl,b4,u⟩;obtain⟨v4,w4,o,p,h,-⟩:=yq ao (B3.o.keep0 u) b4.slice.arg (by rw[L3.o];simp only[length_singleton];omega) (by have:=M.o.size;have:=u.size;have:=D.o;omega) 84;have A4:=J o;have B4:=J p;have F4:=J (yC.step (M.o.trans0 u) (B3.o.keep0 u) (by have:=D.o;omega) h);clear o p h b4 u)|((with_reducible refine zt ?_);clear N;at_builtin;refine zk rfl rfl rfl rfl A4.o ?_;have cB:=F4.o.cell C1.o _root_.id));go_frame)
 have af:=@J ((leB 8 b.tag++[(b.pay.length:Int)]).length=9) (by rw[length_append,xh];rfl)
 have LE:=@J (zdM b=leB 8 b.tag++[(b.pay.length:Int)]++b.pay.flatMap vC++[(b.txs.length:Int)]++b.txs.flatMap idH) (by simp[zdM])
 generalize leB 8 b.tag++[(b.pay.length:Int)]=L0 at*
 go_loopw [4,35] (λbv Y wr=>∃n:Nat,Y=.int .i64 n∧n≤b.pay.length∧yC wr (w.heap.size+2) bv (L0++(b.pay.take n).flatMap vC)∧Fr No w2 wr) (λ_ Y _=>b.pay.length-(intOf Y).toNat)
 case atStart=>exact⟨0,rfl,zero_le _,by simpa using B4.o,F4.o⟩
 case round=>
  obtain⟨n,rfl,hn,R,fr⟩:=hrel
  have FS:=J fr
  have BS:=J R
  have SY:=@J (w.heap.size+2≤wr.heap.size) (by have:=fr.size;have:=D.o;omega)
  have A:=@J ((L0++(b.pay.take n).flatMap vC).length≤9+40*n) (by
   rw[length_append,Jl (λx r=>HO.o.1 x (List.mem_of_mem_take r)),length_take,af.o]
   omega)
  obtain⟨ba,bc,v⟩:=R.form
  clear fr R
  by_cases S:n<b.pay.length
  ·have i1:(n:Int)<(b.pay.length:Int):=by omega
   obtain⟨x,r⟩:∃x,b.pay[n]? =some x:=⟨_,getElem?_eq_getElem S⟩
   have TF:=J (vG vC r)
   obtain⟨bb,off,ai,V,hr,-⟩:=HO.o.at_ r
   cases V
   have y:=HO.o.1 x (mem_of_getElem? r)
   have R1:=J (zb hr FS.o id)
   have IL:=J (z6 y)
   have FA:=J ((frN wr).alloc (.cells (zx x).toArray 68))
   have QA:=@J ((wr.alloc (.cells (zx x).toArray 68)).heap.size=wr.heap.size+1) (by simp)
   obtain⟨n1,n2⟩:=vt wr y
   have N2:=J n2
   have au:=y.1.1
   have av:=y.1.2
   have LX:=J y.2.1
   have D0:=J (BS.o.ne (le_refl _))
   have FW:=J (FS.o.trans0 FA.o)
   have BW:=J (BS.o.keep0 FA.o)
   clear n2 hr y r
   subst v
   generalize Q:L0++(b.pay.take n).flatMap vC=Lo at*
   have ak:=Zv wr.heap.size 1
   have⟨j,k,N,K3,K4⟩:=tZ5
   go_wp2_with ((first|((with_reducible refine zt ?_);first|(clear j;refine ziW rfl rfl rfl R1.o IL.o ?_)|(clear K3;at_builtin;refine zk rfl rfl rfl rfl A5.o ?_)|(clear K4;at_builtin;refine zk rfl rfl rfl rfl A6.o ?_))|((with_reducible refine zr ?_);clear k;refine zi5 (w:=wr) (cs:=zx x) rfl rfl rfl rfl IL.o zV ?_;generalize wr.alloc (.cells (zx x).toArray 68)=wA at*)|(clear N;go_at_call 29;refine(Za wA (x:=x.value) (by omega) (zc7 (by omega) (by omega))).mono ?_;rintro e w4 ⟨v4,rfl,b4,u⟩;obtain⟨v5,g,o,p,h,a4⟩:=yq w4 (BW.o.keep0 u) b4.slice.arg (by rw[xh];have:=A.o;omega) (by have:=SY.o;have:=QA.o;have:=u.size;omega) 84;have A5:=J o;have B5:=J p;have F5:=J (yC.step (FW.o.trans0 u) (BW.o.keep0 u) (by have:=D.o;omega) h);have N5:=J (zb (zb N2.o u id) h D0.o);have Q5:=@J (wr.heap.size<g.heap.size) (by have:=h.size;have:=u.size;have:=QA.o;omega);clear o p h a4 b4 u;obtain⟨v6,w6,o,p,h,-⟩:=yq g B5.o (Jf N5.o LX.o Q5.o) (by simp only[length_append,LX.o,xh];have:=A.o;omega) (by have:=SY.o;have:=Q5.o;omega) 84;have A6:=J o;have B7:=J p;have F7:=J (yC.step F5.o B5.o (by have:=D.o;omega) h);clear o p h));go_frame)
   go_roundw
   case rel=>exact⟨n+1,by go_num,by omega,by rw[TF.o,←append_assoc,Q];simpa[vC] using B7.o,F7.o⟩
   case measure=>simp[intOf];omega
  ·have T:n=b.pay.length:=by omega
   subst T
   have i1:¬(b.pay.length:Int)<(b.pay.length:Int):=by omega
   rw[take_length] at BS A
   have c2:=FS.o.cell C2.o id
   have ag:=@J ((L0++b.pay.flatMap vC++[(b.txs.length:Int)]).length≤400) (by
    rw[length_append]
    have:=A.o
    simp only[length_singleton]
    omega)
   subst v
   generalize ar:L0++b.pay.flatMap vC=Ln at*
   have⟨j,k⟩:=tZ2
   go_wp2_with ((first|(clear j;go_at_call 30;refine(Xp wr (x:=b.txs.length) (by omega)).mono ?_;rintro e an ⟨v2,rfl,b2,f2⟩;obtain⟨v3,wy,o,p,h,a4⟩:=yq an (BS.o.keep0 f2) b2.slice.arg (by have:=A.o;simp only[length_singleton];omega) (by have:=SY.o;have:=f2.size;omega) 84;have A1:=J o;have BY:=J p;have FY:=J (yC.step (FS.o.trans0 f2) (BS.o.keep0 f2) (by have:=D.o;omega) h);have cD:=FY.o.cell C2.o id;clear o p h a4 b2 f2)|((with_reducible refine zt ?_);clear k;at_builtin;refine zk rfl rfl rfl rfl A1.o ?_));go_frame)
   generalize aq:Ln++[(b.txs.length:Int)]=I at*
   clear c2 cD
   go_loopw [4,59] (λbv Y wr=>∃n:Nat,Y=.int .i64 n∧n≤b.txs.length∧(∀t∈b.txs.take n,yV t=true)∧yC wr (w.heap.size+2) bv (I++(b.txs.take n).flatMap idH)∧Fr No w2 wr) (λ_ Y _=>b.txs.length-(intOf Y).toNat)
   case atStart=>exact⟨0,rfl,zero_le _,by simp,by simpa using BY.o,FY.o⟩
   case round=>
    obtain⟨n,rfl,hn,L,R,fr⟩:=hrel
    have FT:=J fr
    have BT:=J R
    have AL:=J L
    have ah:=@J (w.heap.size+2≤wr.heap.size) (by have:=fr.size;have:=D.o;omega)
    have O:=@J ((I++(b.txs.take n).flatMap idH).length≤400+32*n) (by
     rw[length_append,zds,length_take]
     have:=ag.o
     omega)
    obtain⟨ba,bc,v⟩:=R.form
    clear fr R L
    by_cases S:n<b.txs.length
    ·have i1:(n:Int)<(b.txs.length:Int):=by omega
     obtain⟨t,r⟩:∃x,b.txs[n]? =some x:=⟨_,getElem?_eq_getElem S⟩
     have TF:=J (vG idH r)
     obtain⟨bb,off,ai,cs,V,hr,hq⟩:=HX.o.at_ r
     cases V
     have R1:=J (zb hr FT.o id)
     have TQ:=J (hq.keep FT.o)
     obtain⟨G,tc,f,l,aj⟩:=hq.form
     subst aj
     have FA:=J ((frN wr).alloc (.cells #[.int .u32 t.ver,.slice G t.ins.length tc,.slice f t.outs.length l] 62))
     have QA:=@J ((wr.alloc (.cells #[.int .u32 t.ver,.slice G t.ins.length tc,.slice f t.outs.length l] 62)).heap.size=wr.heap.size+1) (by simp)
     have RT:=J (qC wr (.int .u32 t.ver) (.slice G t.ins.length tc) (.slice f t.outs.length l) 62).2.2.2
     have ID:=J (Qo (TQ.o.keep FA.o))
     have ae:=J (yr (vk t))
     have ad:=J (vk t).1
     have D0:=J (BT.o.ne (le_refl _))
     have FW:=J (FT.o.trans0 FA.o)
     have BW:=J (BT.o.keep0 FA.o)
     have aa:=J r
     clear hr r hq
     subst v
     by_cases hfm:yV t=true
     ·have IE:=@J (idE t=0) (by simp[idE,hfm])
      have AN:=@J (∀s∈b.txs.take (n+1),yV s=true) (λs U=>by
       rw[take_add_one,aa.o] at U
       rcases mem_append.1 U with U|U
       ·exact AL.o s U
       ·simp at U;subst U;exact hfm)
      rw[IE.o] at ID
      clear hfm
      generalize idH t=F at*
      have ak:=λq=>Zv q 0
      generalize Q:I++(b.txs.take n).flatMap idH=Lo at*
      have⟨j,k,N,K3,K4,K5⟩:=tZ6
      go_wp2_with ((first|((with_reducible refine zt ?_);first|(clear j;refine ziU rfl rfl rfl R1.o rfl ?_)|(clear N;refine ziU rfl rfl rfl RT.o rfl ?_;generalize wr.alloc (.cells #[.int .u32 t.ver,.slice G t.ins.length tc,.slice f t.outs.length l] 62)=wA at*)|(clear K5;at_builtin;refine zk rfl rfl rfl rfl A7.o ?_))|((with_reducible refine zr ?_);first|(clear k;refine ze rfl (zj (w:=wr) (ty:=62) (cs:=[.int .u32 t.ver,.slice G t.ins.length tc,.slice f t.outs.length l]) rfl rfl rfl rfl qN (jF (a:=G) (b:=f))) ?_)|(clear K4;refine zi3 (w:=g) (cs:=zl F) rfl rfl rfl rfl ae.o zX ?_;have F6:=@J (Fr No g (g.alloc (.cells (zl F).toArray 40))) ((frN g).alloc _);have B6:=J (zS g (.cells (zl F).toArray 40));have Q6:=@J ((g.alloc (.cells (zl F).toArray 40)).heap.size=g.heap.size+1) (by simp);generalize g.alloc (.cells (zl F).toArray 40)=w6 at*;have BX:=J ((BW.o.keep0 F5.o).keep0 F6.o);have H:=J ((FW.o.trans0 F5.o).trans0 F6.o);obtain⟨v7,w7,o,p,h,-⟩:=yq w6 BX.o (Jf (zm B6.o) ad.o (by have:=Q6.o;omega)) (by have:=O.o;have:=ad.o;omega) (by have:=ah.o;have:=H.o.size;have:=D.o;omega) 84;have A7:=J o;have B7:=J p;have F7:=J (yC.step H.o BX.o (by have:=D.o;omega) h);clear o p h))|(clear K3;go_at_call 18;refine ID.o.mono ?_;rintro e g ⟨rfl,K⟩;have F5:=J K;clear K));go_frame)
      go_roundw
      case rel=>exact⟨n+1,by go_num,by omega,AN.o,by rw[TF.o,←append_assoc,Q];exact B7.o,F7.o⟩
      case measure=>simp[intOf];omega
     ·have d:xC b=false:=by
       have:b.txs.all yV=false:=by
        rw[List.all_eq_false]
        exact⟨t,mem_of_getElem? aa.o,hfm⟩
       simp[xC,this]
      have IE:=@J (idE t=5) (by simp[idE,hfm])
      rw[IE.o] at ID
      have z:=J (JH d)
      have c:=@J ((zl z7).length=32) (rfl)
      clear d
      clear hfm
      generalize idH t=F at*
      generalize (I++(b.txs.take n).flatMap idH).length=zz at*
      have⟨j,k,N,K3,K4,K5,K6⟩:=tZ7
      go_wp2_with ((first|((with_reducible refine zt ?_);first|(clear j;refine ziU rfl rfl rfl R1.o rfl ?_)|(clear N;refine ziU rfl rfl rfl RT.o rfl ?_;generalize wr.alloc (.cells #[.int .u32 t.ver,.slice G t.ins.length tc,.slice f t.outs.length l] 62)=wA at*)|(clear K5;with_reducible refine xF 70 ?_;refine zg rfl (yl (t:=40) rfl rfl (jt _)) ?_))|((with_reducible refine zr ?_);first|(clear k;refine ze rfl (zj (w:=wr) (ty:=62) (cs:=[.int .u32 t.ver,.slice G t.ins.length tc,.slice f t.outs.length l]) rfl rfl rfl rfl qN (jF (a:=G) (b:=f))) ?_)|(clear K4;refine zi3 (w:=g) (cs:=zl F) rfl rfl rfl rfl ae.o zX ?_;have F6:=@J (Fr No g (g.alloc (.cells (zl F).toArray 40))) ((frN g).alloc _);generalize g.alloc (.cells (zl F).toArray 40)=w6 at*;have H:=J ((FW.o.trans0 F5.o).trans0 F6.o);have BZ:=J (H.o.obj B2.o _root_.id))|(clear K6;refine ze rfl (zy (ty:=40) (b:=w.heap.size+1) (off:=0) (cs:=zl z7) rfl rfl rfl (by rw[c.o];exact zM BZ.o (le_of_eq xN.symm)) (by rw[c.o];exact yG) zX) ?_))|(clear K3;go_at_call 18;refine ID.o.mono ?_;rintro e g ⟨rfl,K⟩;have F5:=J K;clear K));go_frame)
      refine bodyPost_ret (zR (P:=prog) (fn:=Tryz.f9) rfl _ rfl (yE BZ.o (by rw[c.o];exact xN)) uH rH (by rw[c.o];exact yG) rfl) rfl ⟨by rw[z.o.1,z.o.2];rfl,?_⟩
      exact(F2.o.trans0 H.o).trans (zv _ _ _ _) (λi hi e=>by omega)
    ·have T:n=b.txs.length:=by omega
     subst T
     have i1:¬(b.txs.length:Int)<(b.txs.length:Int):=by omega
     rw[take_length] at BT O AL v
     have C:xC b=true:=by
      have:b.txs.all yV=true:=List.all_eq_true.2 AL.o
      simp[xC,this,p8,al]
     have z:=J (Jr C)
     rw[LE.o] at z
     have E:=@J ((zl (xL (I++b.txs.flatMap idH))).length=32) (yr (jh _))
     subst v
     have ab:=J (VD wr (m:=I++b.txs.flatMap idH) BT.o.slice.arg (by have:=O.o;omega))
     unfold TwF at ab
     clear C
     generalize xL (I++b.txs.flatMap idH)=TB at*
     generalize (I++b.txs.flatMap idH).length=zz at*
     have⟨j,k⟩:=tZ2
     go_wp2_with ((first|(clear j;go_at_call 31;refine ab.o.mono ?_;rintro e g ⟨rfl,K⟩;have H:=J (FT.o.trans0 K);clear K;have BZ:=J (H.o.obj B2.o _root_.id))|((with_reducible refine zr ?_);clear k;refine ze rfl (zy (ty:=40) (b:=w.heap.size+1) (off:=0) (cs:=zl TB) rfl rfl rfl (by rw[E.o];exact zM BZ.o (le_of_eq xN.symm)) (by rw[E.o];exact yG) zX) ?_));go_frame)
     refine bodyPost_ret (zR (P:=prog) (fn:=Tryz.f9) rfl _ rfl (yE BZ.o (by rw[E.o];exact xN)) uH rH (by rw[E.o];exact yG) rfl) rfl ⟨by rw[z.o.1,z.o.2];rfl,?_⟩
     exact(F2.o.trans0 H.o).trans (zv _ _ _ _) (λi hi e=>by omega)
def blE (Ks:List zY) (S:List zh) (b:y7):Int:=if xC b=true then(if b.pay.any xX=true then 11 else(doR Ks S b).E) else 5
def zhb (w0 w:World) (p:Nat) (W:Nat→Prop) (S:List zh) (Ks:List zY) (b:y7) (e:Ending) (w':World):Prop:=
 e=.returned (.int .i64 (blE Ks S b))∧Fr W w w'∧(blE Ks S b=0→∃W',SX w0 w' p W' (doR Ks S b).S (Ks++(doR Ks S b).d.ids)∧∀j,W' j→W j∨w.heap.size≤j)
theorem zaB {S:List zh} {Ks:List zY} {b:y7} {E:Int} (h:blE Ks S b=E) (a:E≠0):∀w',Fr W w w'→zhb w0 w p W S Ks b (.returned (.int .i64 E)) w':=λw' f=>
 ⟨by rw[h],f,λe=>absurd (h.symm.trans e) a⟩
theorem zfK (S:List zh) (b:y7):xQ S (yZ b)=0∨xQ S (yZ b)=10:=by
 unfold xQ
 rw[if_pos (show((yZ b).map (·.at_)).Nodup from vm _ _)]
 split
 ·exact .inr rfl
 ·exact .inl rfl
theorem ze3 {Ks:List zY} {s:StD} {t:TxD}:dE (Ks++s.ids) s.S t=txE Ks s t:=by
 unfold dE txE
 by_cases h:yM t=0
 ·rw[if_pos h,if_pos h]
  by_cases h2:idH t∈Ks∨idH t∈s.ids
  ·rw[if_pos h2,if_pos (mem_append.2 h2)]
  ·rw[if_neg h2,if_neg (λe=>h2 (mem_append.1 e))]
 ·rw[if_neg h,if_neg h]
theorem SX.hi {S:List zh} {Ks:List zY} (h:SX w0 w p W S Ks):∀j,W j→j<w.heap.size:=by
 obtain⟨d,U,b,a,c,rfl⟩:=h.ex
 rintro j (e|e)
 ·exact b.hi j e
 ·exact(a.lt j e).2
theorem SX.lo {S:List zh} {Ks:List zY} (h:SX w0 w p W S Ks):∀j,W j→w0.heap.size≤j:=by
 obtain⟨d,U,b,a,c,rfl⟩:=h.ex
 rintro j (e|e)
 ·exact b.lo j e
 ·exact(a.lt j e).1
theorem SX.frV {w0 w w':World} {S:List zh} {Ks:List zY} (h:SX w0 w p W S Ks) {V:Nat→Prop} (f:Fr V w w') (a:∀j,W j→¬V j) (c:∀j,V j→w0.heap.size≤j):SX w0 w' p W S Ks:=by
 obtain⟨k,U,g,d,i,rfl⟩:=h.ex
 exact⟨⟨k,U,g.frV f (λj e=>a j (.inl e)) c,zf d f (λb e=>a b (.inr e)),i,rfl⟩,h.kok,h.srt⟩
theorem SX.fr0 {w0 w w':World} {S:List zh} {Ks:List zY} (h:SX w0 w p W S Ks) (f:Fr No w w'):SX w0 w' p W S Ks:=h.frV f (λ_ _=>id) (λ_ h=>h.elim)
theorem zhS {S:List zh} {Ks:List zY} (h:SX w0 w p W S Ks) {v:Value} {l:List zh} (t:∀w',Fr W w w'→xz w' v l) (q:l.length+S.length≤100000):
  Calls prog 53 #[.pointer (some ⟨p,0,none⟩),v] w λe w'=>e=.returned (.int .i64 (xQ S l))∧Fr W w w'∧∃g,SX w0 w' p g (qQ S l) Ks∧∀j,g j→W j∨w.heap.size≤j:=by
 have s:=h.kok
 have c:=h.srt
 obtain⟨o,U,r,m,n,rfl⟩:=h.ex
 refine(zc2 r (λw' f=>t w' (f.mono (λj e=>.inl e))) q).mono ?_
 rintro e w' ⟨rfl,d,x,k,i⟩
 refine⟨rfl,i.mono (λj e=>.inl e),λj=>d j∨o.ownBlock=some j,⟨⟨o,d,x,zf m i n,λj e u=>?_,rfl⟩,s,?_⟩,λj e=>?_⟩
 ·exact(k j u).elim (n j e) (λh=>by have:=(m.lt j e).2;omega)
 ·unfold qQ
  split
  ·rename_i h0
   obtain⟨a,b⟩:=Xh h0
   exact vD c a b
  ·exact c
 ·rcases e with e|e
  ·exact(k j e).imp .inl id
  ·exact .inl (.inr e)
theorem zgv {Ks:List zY} {S:List zh} {b:y7} {st:StD} (h:runT Ks b.txs (st0 S)=(0,st)):
  (doR Ks S b).E=xQ st.S (yZ b)∧(xQ st.S (yZ b)=0→(doR Ks S b).S=qQ st.S (yZ b)∧(doR Ks S b).d.ids=st.ids):=by
 rcases zfK st.S b with h0|h0
 ·unfold doR qQ
  rw[h]
  simp[h0]
 ·unfold doR
  rw[h]
  simp[h0]
theorem XZ {S:List zh} {Ks:List zY} (h:SX w0 w p W S Ks) (hN:S.length≤40000) (hK:Ks.length≤40000) {b:y7} {cs:List Value} (hb:Kept W w (λw=>xT w b cs)):
  Calls prog 36 #[.pointer (some ⟨p,0,none⟩),.agg cs.toArray] w (zhb w0 w p W S Ks b):=by
 have HX:=J h
 obtain⟨pa,pc,ta,tc,rfl⟩:=hb.now.form
 obtain⟨M,Q⟩:=V0 hb
 have H:=J M
 have ao:=J Q
 have aa:=J hb.now.oks
 have zH:=qt
 have zO:=yA
 have zT:=Xq
 have F1:=J ((frN w).alloc (.cells #[.int .u64 b.tag,.slice pa b.pay.length pc,.slice ta b.txs.length tc] 36))
 obtain⟨-,c1,c2,r0⟩:=qC w (.int .u64 b.tag) (.slice pa b.pay.length pc) (.slice ta b.txs.length tc) 36
 have C1:=J c1
 have C2:=J c2
 have R0:=J r0
 have HC:=J (zbx (hb.now.keep F1.o))
 have X:=J (yr (Jg b))
 have Z:=J (Jg b)
 have HW:=J h.hi
 clear h hb M Q c1 c2 r0
 show Calls prog 36 #[.pointer (some ⟨p,0,none⟩),.agg #[.int .u64 b.tag,.slice pa b.pay.length pc,.slice ta b.txs.length tc]] w _
 by_cases hok:xC b=true
 rotate_left
 ·have HE:=J (JH (by simpa using hok:xC b=false))
  have k:=J (zaB (w0:=w0) (w:=w) (p:=p) (W:=W) (S:=S) (Ks:=Ks) (b:=b) (E:=5) (by unfold blE;rw[if_neg hok]) (by decide))
  clear hok
  go_enter Tryz.func36,Tryz.ntmps36
  have⟨d,l,z⟩:=tZ3
  go_wp2_with ((first|((with_reducible refine zt ?_);clear d;refine ziS rfl rfl rfl R0.o rfl ?_;generalize w.alloc (.cells #[.int .u64 b.tag,.slice pa b.pay.length pc,.slice ta b.txs.length tc] 36)=w1 at*)|(clear l;go_at_call 9;refine HC.o.mono ?_;rintro e v ⟨rfl,B⟩;rw[HE.o.1];have m:=J B;have F2:=J (F1.o.trans0 B);have F3:=J ((F1.o.trans0 B).alloc (.cells (zl (xH b)).toArray 40));clear B)|((with_reducible refine zr ?_);clear z;refine zi3 (w:=v) (cs:=zl (xH b)) rfl rfl rfl rfl X.o zX ?_;have cP:=((m.o.alloc (.cells (zl (xH b)).toArray 40)).cell C1.o id);have cT:=((m.o.alloc (.cells (zl (xH b)).toArray 40)).cell C2.o id)));go_frame)
  go_ret
  exact k.o _ F3.o.of0
 have HE:=J (Jr hok)
 obtain⟨aw,O,av⟩:=Ji hok
 have FS:=J av
 have BE:=@J (blE Ks S b=if b.pay.any xX=true then 11 else(doR Ks S b).E) (by unfold blE;rw[if_pos hok])
 have l8:=aw
 have aP:=O
 clear hok aw O av
 go_enter Tryz.func36,Tryz.ntmps36
 have⟨d,l,z⟩:=tZ3
 go_wp2_with ((first|((with_reducible refine zt ?_);clear d;refine ziS rfl rfl rfl R0.o rfl ?_;generalize w.alloc (.cells #[.int .u64 b.tag,.slice pa b.pay.length pc,.slice ta b.txs.length tc] 36)=w1 at*)|(clear l;go_at_call 9;refine HC.o.mono ?_;rintro e v ⟨rfl,B⟩;rw[HE.o.1];have m:=J B;have F2:=J (F1.o.trans0 B);have F3:=J ((F1.o.trans0 B).alloc (.cells (zl (xH b)).toArray 40));clear B)|((with_reducible refine zr ?_);clear z;refine zi3 (w:=v) (cs:=zl (xH b)) rfl rfl rfl rfl X.o zX ?_;have cP:=((m.o.alloc (.cells (zl (xH b)).toArray 40)).cell C1.o id);have cT:=((m.o.alloc (.cells (zl (xH b)).toArray 40)).cell C2.o id)));go_frame)
 have aE:=J (zS v (.cells (zl (xH b)).toArray 40))
 have ai:=J cP
 have aB:=J cT
 clear cP cT
 have QH:=@J (w.heap.size≤v.heap.size∧v.heap.size<(v.alloc (.cells (zl (xH b)).toArray 40)).heap.size) (⟨F2.o.size,by simp⟩)
 have V:=@J (w.heap.size<(v.alloc (.cells (zl (xH b)).toArray 40)).heap.size) (by have:=World.block_lt_of_cell? _ _ ai.o;exact this)
 generalize v.alloc (.cells (zl (xH b)).toArray 40)=w3 at*
 generalize v.heap.size=q3 at*
 go_loopw [26] (λr wr=>∃n:Nat,r=.int .i64 n∧n≤b.pay.length∧(∀x∈b.pay.take n,xX x=false)∧Fr No w3 wr) (λr _=>b.pay.length-(intOf r).toNat)
 case atStart=>exact⟨0,rfl,zero_le _,by simp,Fr.refl _ _⟩
 case round=>
  obtain⟨n,rfl,hn,L,fr⟩:=hrel
  have G:=J fr
  have AL:=J L
  have U:=J (F3.o.trans0 fr)
  clear fr L
  by_cases c:n<b.pay.length
  ·have i1:(n:Int)<(b.pay.length:Int):=by omega
   obtain⟨x,g⟩:∃x,b.pay[n]? =some x:=⟨_,getElem?_eq_getElem c⟩
   obtain⟨bb,off,ar,hv,hr,-⟩:=(H.o wr U.o.of0).at_ g
   cases hv
   have ah:=aa.o.2 x (mem_of_getElem? g)
   have I:=J hr
   have s:=J (z6 ah)
   have F:=J (G.o.trans0 ((frN wr).alloc (.cells (zx x).toArray 68)))
   have n1:=(vt wr ah).1
   have Y:=J g
   clear hr ah g
   by_cases hz:x.value=0
   ·have k:=J (zaB (w0:=w0) (w:=w) (p:=p) (W:=W) (S:=S) (Ks:=Ks) (b:=b) (E:=11) (by rw[BE.o,if_pos (List.any_eq_true.2 ⟨x,mem_of_getElem? Y.o,by simp[xX,hz]⟩)]) (by decide))
    have aN:(x.value==0)=true:=by simpa using hz
    clear hz
    have⟨d,l⟩:=tZ2
    go_wp2_with ((first|((with_reducible refine zt ?_);clear d;refine ziW rfl rfl rfl I.o s.o ?_)|((with_reducible refine zr ?_);clear l;refine zi5 (w:=wr) (cs:=zx x) rfl rfl rfl rfl s.o zV ?_;generalize wr.alloc (.cells (zx x).toArray 68)=wA at*));go_frame)
    go_ret
    exact k.o _ (F3.o.trans0 F.o).of0
   have aN:(x.value==0)=false:=by simpa using hz
   by_cases hg:1125899906842624<x.value
   ·have k:=J (zaB (w0:=w0) (w:=w) (p:=p) (W:=W) (S:=S) (Ks:=Ks) (b:=b) (E:=11) (by rw[BE.o,if_pos (List.any_eq_true.2 ⟨x,mem_of_getElem? Y.o,by simp[xX,hg]⟩)]) (by decide))
    have aO:decide (1125899906842624<x.value)=true:=by simpa using hg
    clear hz hg
    have⟨d,l⟩:=tZ2
    go_wp2_with ((first|((with_reducible refine zt ?_);clear d;refine ziW rfl rfl rfl I.o s.o ?_)|((with_reducible refine zr ?_);clear l;refine zi5 (w:=wr) (cs:=zx x) rfl rfl rfl rfl s.o zV ?_;generalize wr.alloc (.cells (zx x).toArray 68)=wA at*));go_frame)
    go_ret
    exact k.o _ (F3.o.trans0 F.o).of0
   have aO:decide (1125899906842624<x.value)=false:=by simpa using hg
   have AN:=@J (∀y∈b.pay.take (n+1),xX y=false) (λy hy=>by
    rw[take_add_one,Y.o] at hy
    rcases mem_append.1 hy with hy|hy
    ·exact AL.o y hy
    ·simp at hy
     subst hy
     simp only[xX,Bool.or_eq_false_iff,decide_eq_false_iff_not]
     exact⟨hz,by omega⟩)
   clear hz hg
   have⟨d,l⟩:=tZ2
   go_wp2_with ((first|((with_reducible refine zt ?_);clear d;refine ziW rfl rfl rfl I.o s.o ?_)|((with_reducible refine zr ?_);clear l;refine zi5 (w:=wr) (cs:=zx x) rfl rfl rfl rfl s.o zV ?_;generalize wr.alloc (.cells (zx x).toArray 68)=wA at*));go_frame)
   go_roundw
   case rel=>exact⟨n+1,by go_num,by omega,AN.o,F.o⟩
   case measure=>simp[intOf];omega
  ·have q:n=b.pay.length:=by omega
   have i1:¬(n:Int)<(b.pay.length:Int):=by omega
   rw[q,take_length] at AL
   rw[if_neg (by rw[List.any_eq_false.2 (λx g=>by rw[AL.o x g];decide)];decide)] at BE
   have cT:=G.o.cell aB.o id
   have S3:=J (HX.o.fr0 U.o)
   have aC:=J G.o
   clear c hn q
   go_wp2_with fail
   clear cT
   go_loopw [42] (λr aA=>∃(n:Nat) (st:StD) (W':Nat→Prop),r=.int .i64 n∧n≤b.txs.length∧runT Ks b.txs (st0 S)=runT Ks (b.txs.drop n) st∧SX w0 aA p W' st.S (Ks++st.ids)∧(∀j,W' j→W j∨w3.heap.size≤j)∧st.S.length≤S.length+8*n∧st.ids.length=n∧Fr W w3 aA) (λr _=>b.txs.length-(intOf r).toNat)
   case atStart=>exact⟨0,st0 S,W,rfl,zero_le _,rfl,by simpa[st0] using S3.o,λ_ e=>.inl e,by simp[st0],rfl,aC.o.of0⟩
   case round=>
    obtain⟨n,st,W',rfl,hn,N,ay,az,aM,aL,fr⟩:=hrel
    have G:=J fr
    have ad:=J ay
    have A:=J N
    have o:=J az
    have U:=@J (Fr W w wr) (F3.o.of0.trans fr (λ_ _ e=>e))
    have LS:=J (And.intro aM aL)
    clear fr ay N az
    by_cases c:n<b.txs.length
    ·have i1:(n:Int)<(b.txs.length:Int):=by omega
     obtain⟨t,g⟩:∃x,b.txs[n]? =some x:=⟨_,getElem?_eq_getElem c⟩
     obtain⟨bb,off,ar,ts,hv,-,ax,af⟩:=zaQ (by decide) (λ_ _ _ h=>TxQ.len3' h) ao.o g
     cases hv
     obtain⟨C,jc,D,kc,rfl⟩:=ax.form
     have DR:=@J (b.txs.drop n=t::b.txs.drop (n+1)) (by rw[List.drop_eq_getElem_cons c,(List.getElem?_eq_some_iff.1 g).2])
     have TM:=J (mem_of_getElem? g)
     have I:=J (af wr U.o).1
     have F:=J ((frN wr).alloc (.cells #[.int .u32 t.ver,.slice C t.ins.length jc,.slice D t.outs.length kc] 62))
     have RA:=J (qF wr t.ver (.slice C t.ins.length jc) (.slice D t.outs.length kc)).2.2.2
     have ak:=J (U.o.trans0 F.o)
     have WW:=@J (∀j,j<w.heap.size→W' j→W j) (λj hj e=>(o.o j e).resolve_right (by have:=V.o;omega))
     have DO:=J (ze9 (ad.o.fr0 F.o) (by omega) (by rw[length_append];omega) (t:=t) (cs:=[.int .u32 t.ver,.slice C t.ins.length jc,.slice D t.outs.length kc]) (λw' f=>(af w' (ak.o.trans f WW.o)).2))
     have W3:=@J (∀j,j<w3.heap.size→W' j→W j) (λj hj e=>(o.o j e).resolve_right (by omega))
     clear ax af g
     by_cases htx:txE Ks st t=0
     ·have aq:=J htx
      have GO:=@J (runT Ks b.txs (st0 S)=runT Ks (b.txs.drop (n+1)) (txS st t)) (by rw[A.o,DR.o,XM htx])
      have LN:=@J ((txS st t).S.length≤S.length+8*(n+1)∧(txS st t).ids.length=n+1) (⟨by
       have h1:=zdE st.S t
       have h2:=(zdq (FS.o t TM.o)).2
       have h3:=LS.o.1
       show(spS st.S t).length≤_
       omega,by
       show(st.ids++[idH t]).length=_
       rw[length_append,LS.o.2]
       rfl⟩)
      clear htx
      have⟨d,l,z,K3⟩:=tZ4
      go_wp2_with ((first|((with_reducible refine zt ?_);first|(clear d;refine ziU rfl rfl rfl I.o rfl ?_)|(clear z;refine ziU rfl rfl rfl RA.o rfl ?_;generalize wr.alloc (.cells #[.int .u32 t.ver,.slice C t.ins.length jc,.slice D t.outs.length kc] 62)=wA at*))|((with_reducible refine zr ?_);clear l;refine ze rfl (zj (w:=wr) (ty:=62) (cs:=[.int .u32 t.ver,.slice C t.ins.length jc,.slice D t.outs.length kc]) rfl rfl rfl rfl qN (jF (a:=C) (b:=D))) ?_)|(clear K3;go_at_call 52;refine DO.o.mono ?_;rintro e R ⟨rfl,K,h5⟩;rw[ze3,aq.o] at h5;rw[ze3,aq.o];obtain⟨W5,x5,l5⟩:=h5 rfl;have F5:=@J (Fr W w3 R) ((G.o.trans0 F.o).trans K W3.o);have X5:=@J (SX w0 R p W5 (txS st t).S (Ks++(txS st t).ids)) (by have:=x5;rw[append_assoc] at this;exact this);have LW:=@J (∀j,W5 j→W j∨w3.heap.size≤j) (λj e=>(l5 j e).elim (o.o j) (λe=>by have:=G.o.size;have:=F.o.size;exact .inr (by omega)));clear K h5 x5 l5));go_frame)
      go_roundw
      case rel=>exact⟨n+1,txS st t,W5,by go_num,by omega,GO.o,X5.o,LW.o,LN.o.1,LN.o.2,F5.o⟩
      case measure=>simp[intOf];omega
     ·have k:=J (zaB (w0:=w0) (w:=w) (p:=p) (W:=W) (S:=S) (Ks:=Ks) (b:=b) (E:=txE Ks st t) (by rw[BE.o,zdo (st:=st) (E:=txE Ks st t) (by rw[A.o,DR.o,Vu htx]) htx]) htx)
      have jz:(txE Ks st t==0)=false:=by rw[beq_eq_false_iff_ne];exact htx
      clear htx
      have⟨d,l,z,K3⟩:=tZ4
      go_wp2_with ((first|((with_reducible refine zt ?_);first|(clear d;refine ziU rfl rfl rfl I.o rfl ?_)|(clear z;refine ziU rfl rfl rfl RA.o rfl ?_;generalize wr.alloc (.cells #[.int .u32 t.ver,.slice C t.ins.length jc,.slice D t.outs.length kc] 62)=wA at*))|((with_reducible refine zr ?_);clear l;refine ze rfl (zj (w:=wr) (ty:=62) (cs:=[.int .u32 t.ver,.slice C t.ins.length jc,.slice D t.outs.length kc]) rfl rfl rfl rfl qN (jF (a:=C) (b:=D))) ?_)|(clear K3;go_at_call 52;refine DO.o.mono ?_;rintro e R ⟨rfl,K,-⟩;rw[ze3];have F5:=@J (Fr W w R) (ak.o.trans K WW.o);clear K));go_frame)
      go_ret
      exact k.o _ F5.o
    ·have q:n=b.txs.length:=by omega
     have i1:¬(n:Int)<(b.txs.length:Int):=by omega
     rw[q,List.drop_length] at A
     have T:=J (zgv (b:=b) (show runT Ks b.txs (st0 S)=(0,st) from A.o))
     have cP:=G.o.cell ai.o (λe=>by have:=HW.o _ e;simp only at this;omega)
     have al:=J (G.o.obj aE.o (λe=>by have:=HW.o _ e;have:=QH.o;omega))
     have aG:=@J (st.S.length≤50000) (by omega)
     clear c hn q
     go_wp2_with fail
     clear cP
     go_loopw [12,56] (λrv r R=>∃n:Nat,r=.int .i64 n∧n≤b.pay.length∧R.ownsRow wr.heap.size 103 66 rv n (((xP (xH b) b.pay).take n).flatMap zw)∧Fr No wr R) (λ_ r _=>b.pay.length-(intOf r).toNat)
     case atStart=>exact⟨0,rfl,zero_le _,World.ownsRow_nil _ _ _ _,Fr.refl _ _⟩
     case round=>
      obtain⟨n,rfl,hn,ho,fr⟩:=hrel
      have FQ:=J fr
      have HO:=J ho
      obtain⟨la,lc,rfl⟩:=ho.slice.arg.form
      clear fr ho
      by_cases c:n<b.pay.length
      ·have i1:(n:Int)<(b.pay.length:Int):=by omega
       obtain⟨x,g⟩:∃x,b.pay[n]? =some x:=⟨_,getElem?_eq_getElem c⟩
       obtain⟨bb,off,ar,hv,hr,-⟩:=(H.o wr (U.o.trans0 FQ.o)).at_ g
       cases hv
       have ae:=J (aa.o.2 x (mem_of_getElem? g))
       have s:=J (z6 ae.o)
       have I:=J hr
       have ab:=@J ((⟨xH b,(n:Int)⟩:zE).ok) (⟨Z.o,by show(0:Int)≤(n:Int);omega,by show(n:Int)≤_;omega⟩)
       have CL:=@J ((zw ⟨⟨xH b,(n:Int)⟩,x⟩).length=66) (yv ⟨ab.o,ae.o⟩)
       have PL:=J (zF ab.o)
       have aK:(n:Int) % 4294967296=(n:Int):=by omega
       have RO:=J (zK wr (zx x) 68)
       have RH:=@J ((wr.alloc (.cells (zx x).toArray 68)).rangeAt q3 0 (zl (xH b))) (zb (zm al.o) (FQ.o.alloc _) (λh=>h))
       have aH:=J (Vl (xH b) g)
       obtain⟨v5,R,au,ag,K,-,-⟩:=yw (P:=prog) _ _ 49 49 103 66 80 _ yQ xR rfl (by decide) (HO.o.alloc (.cells (zx x).toArray 68)) (zw ⟨⟨xH b,(n:Int)⟩,x⟩) CL.o yz (by omega) (by unfold maxLen;omega) (FQ.o.alloc (.cells (zx x).toArray 68)).size
       have F5:=J ((FQ.o.alloc (.cells (zx x).toArray 68)).trans K (λi hi e=>by have:=(HO.o.lt i e).1;omega))
       have an:=J ag
       rw[←aH.o] at an
       obtain⟨a5,c5,rfl⟩:=ag.slice.arg.form
       have aD:=J au
       clear au ag K hr g
       have⟨d,l,z,K3,K4,K5,K6,K7⟩:=tZ8
       go_wp2_with ((first|((with_reducible refine zt ?_);first|(clear d;refine ziW rfl rfl rfl I.o s.o ?_)|(clear z;refine ziT rfl rfl rfl RH.o X.o ?_)|(clear K3;refine zg rfl (qj (t:=72) (vs:=[(0,.agg (zl (xH b)).toArray),(1,.int .u32 n)]) rfl (by simp[Act.eval,aK]) Xf (Qn Z.o n) (Xe (xH b) n) (by rw[PL.o])) ?_)|(clear K4;refine ziW rfl rfl rfl RO.o s.o ?_)|(clear K5;refine zg rfl (qj (t:=103) (vs:=[(0,.agg (zi ⟨xH b,(n:Int)⟩).toArray),(1,.agg (zx x).toArray)]) rfl rfl Zc (Yp ab.o ae.o) (Zb _ _) (by rw[CL.o])) ?_)|(clear K6;refine zg rfl (zL (t:=49) rfl rfl yQ qA rfl (by decide) (by decide) CL.o) ?_)|(clear K7;at_builtin;refine zk rfl rfl rfl rfl aD.o ?_))|((with_reducible refine zr ?_);clear l;refine zi5 (w:=wr) (cs:=zx x) rfl rfl rfl rfl s.o zV ?_));go_frame)
       go_roundw
       case rel=>exact⟨n+1,by simp,by omega,an.o,F5.o⟩
       case measure=>show b.pay.length-(n+1)<b.pay.length-n;omega
      ·have i1:¬(n:Int)<(b.pay.length:Int):=by omega
       have aJ:=J (ad.o.fr0 FQ.o)
       have aF:=@J (∀w',Fr W' wr w'→xz w' (.slice la n lc) (yZ b)) (λw' f=>⟨Jh Z.o aa.o.2 (by omega),by
        have h1:=(zf HO.o f (λj e u=>by have:=(HO.o.lt j e).1;have:=ad.o.hi j u;omega)).slice.arg
        rw[take_of_length_le (by rw[xZ];omega)] at h1
        rw[jD]
        rwa [show b.pay.length=n by omega]⟩)
       have aI:=J (zhS aJ.o aF.o (by rw[jD];have:=aG.o;omega))
       have aj:=J (U.o.trans0 FQ.o)
       clear c hn
       have d:=tru
       go_wp2_with (clear d;go_at_call 53;refine aI.o.mono ?_;rintro e w6 ⟨rfl,f6,W6,x6,l6⟩;have F6:=@J (Fr W w w6) (aj.o.trans f6 (λj hj e=>(o.o j e).resolve_right (by have:=V.o;omega)));have X6:=J x6;have L6:=J l6;clear f6 x6 l6;go_frame)
       go_ret
       refine⟨by rw[BE.o,T.o.1];rfl,F6.o,λh=>?_⟩
       rw[BE.o,T.o.1] at h
       obtain⟨h1,h2⟩:=T.o.2 h
       rw[h1,h2]
       exact⟨W6,X6.o,λj e=>(L6.o j e).elim (λe=>(o.o j e).imp id (λe=>by have:=V.o;omega)) (λe=>.inr (by have:=aj.o.size;omega))⟩
theorem zio (n:Int) (w:World):(Instr.build 72 #[(1,.int .u32 n)]).run prog w=.ok (.agg (zi ⟨z7,n⟩).toArray) w:=by kernel_rfl
theorem XV {α:Type} {f:α→Bool}:∀ {S:List α},(∀x∈S,f x=true)→S.takeWhile f=S∧S.dropWhile f=[]
 |[],_=>⟨rfl,rfl⟩
 |a::S,h=>by
  obtain⟨b,c⟩:=XV (S:=S) (λx d=>h x (.tail _ d))
  simp[h a (.head _),b,c]
theorem zea {S:List zh} {c:zh} (h:∀x∈S,xV c.at_ x.at_=false):JP S c=S++[c]:=by
 have a:∀x∈S,(!xV c.at_ x.at_)=true:=λx b=>by rw[h x b];rfl
 unfold JP
 rw[(XV a).1,(XV a).2]
theorem zgK (id:zY) {l:List yk} {x:zh} (a:(xP id l)[m]? =some x) (c:m≤n):xV ⟨id,(n:Int)⟩ x.at_=false:=by
 have b:m<l.length:=by have:=(List.getElem?_eq_some_iff.1 a).1;rwa [xZ] at this
 rw[JI id (getElem?_eq_getElem b)] at a
 injection a with a
 subst a
 unfold xV vB YS
 rw[if_pos (Yn id),if_neg (by show ¬(n:Int)<(m:Int);omega)]
 split<;>rfl
theorem zaO (id:zY) (l:List yk):qP [] (xP id l)=xP id l:=by
 have d:∀n,n≤(xP id l).length→qP [] ((xP id l).take n)=(xP id l).take n:=λn=>by
  induction n with
  |zero=>intro _;rfl
  |succ n ih=>
   intro g
   have f:n<l.length:=by rw[xZ] at g;omega
   have e:=JI id (getElem?_eq_getElem f)
   rw[zam e,ih (by omega)]
   show JP _ _=_
   rw[zea (λx c=>?_),take_add_one,e]
   ·rfl
   ·obtain⟨m,a⟩:=List.mem_iff_getElem?.1 c
    have b:m<n:=by
     have:=(List.getElem?_eq_some_iff.1 a).1
     rw[length_take] at this
     omega
    rw[List.getElem?_take_of_lt b] at a
    exact zgK id a (by omega)
 have:=d _ (le_refl _)
 rwa [take_length] at this
def hS (S0:List zh) (bs:List zU):List zh:=(bs.foldl (λ(s:List zh×List zY) d=>((doR s.2 s.1 d.blk).S,s.2++d.ids)) (S0,[])).1
theorem zhC (b:List zh) (bs:List zU):(bs.foldl (λ(s:List zh×List zY) d=>((doR s.2 s.1 d.blk).S,s.2++d.ids)) (b,[])).2=zJ bs:=by
 have a:∀(bs:List zU) (s:List zh×List zY),(bs.foldl (λ(s:List zh×List zY) d=>((doR s.2 s.1 d.blk).S,s.2++d.ids)) s).2=s.2++zJ bs:=λbs=>by
  induction bs with
  |nil=>intro s;simp[zJ]
  |cons d bs ih=>
   intro s
   rw[List.foldl_cons,ih]
   simp[zJ,append_assoc]
 rw[a]
 rfl
theorem zdr (a:List zh) (bs:List zU) (d:zU):hS a (bs++[d])=(doR (zJ bs) (hS a bs) d.blk).S:=by
 have e:=zhC a bs
 unfold hS
 rw[List.foldl_append,List.foldl_cons,List.foldl_nil,e]
theorem Jn.eqS {a S:List zh} {bs:List zU} (h:Jn a bs S):S=hS a bs:=by
 induction h with
 |nil=>rfl
 |@snoc bs S b h hb hc ih=>
  have e:(doR (zJ bs) S b).d.blk=b:=by rw[(zhz (zbj hc).2.2.2).2.2.2]
  rw[zdr,e,←ih]
theorem Jn.pre {a S:List zh} {bs:List zU} (h:Jn a bs S):∀n,Jn a (bs.take n) (hS a (bs.take n)):=by
 induction h with
 |nil=>intro n;rw[List.take_nil];exact .nil
 |@snoc bs S b h hb hc ih=>
  intro n
  by_cases hn:n≤bs.length
  ·rw[List.take_append_of_le_length hn]
   exact ih n
  ·have c:=Jn.snoc h hb hc
   rw[take_of_length_le (by rw[length_append,length_singleton];omega),←c.eqS]
   exact c
theorem Jn.at_ {a S:List zh} {bs:List zU} (h:Jn a bs S) {d:zU} (l:bs[n]? =some d):
  blE (zJ (bs.take n)) (hS a (bs.take n)) d.blk=0∧(doR (zJ (bs.take n)) (hS a (bs.take n)) d.blk).S=hS a (bs.take (n+1))∧zJ (bs.take n)++(doR (zJ (bs.take n)) (hS a (bs.take n)) d.blk).d.ids=zJ (bs.take (n+1)):=by
 have e:bs.take (n+1)=bs.take n++[d]:=by rw[take_add_one,l];rfl
 have b:=h.pre (n+1)
 rw[e] at b
 obtain⟨S',j,o,k,g,m⟩:=b.last
 have i:=j.eqS
 subst i
 obtain⟨-,c2,c,f⟩:=zbj k
 refine⟨?_,?_,?_⟩
 ·unfold blE
  rw[if_pos c2,if_neg (by rw[c];decide),f]
 ·rw[e,zdr]
 ·rw[e,Zw,←g]
theorem jV {x:Int} {a b:Option Addr} {n c m d:Nat}:∀u∈[Value.int .u64 x,.slice a n c,.slice b m d],u.oneCell'=true:=by
 intro u e
 simp only[List.mem_cons,List.not_mem_nil,or_false] at e
 rcases e with rfl|rfl|rfl<;>rfl
theorem Jd {a b:Option Addr} {n c m d:Nat}:∀u∈[Value.slice a n c,.slice b m d],u.oneCell'=true:=by
 intro u e
 simp only[List.mem_cons,List.not_mem_nil,or_false] at e
 rcases e with rfl|rfl<;>rfl
theorem zab:∃d,prog.underlying 54=some d∧d.isRow=true:=vq (by kernel_rfl)
theorem infoState:(prog.info? 54).map (·.size)=some 2:=by kernel_rfl
def zgj (w:World) (S:List zh) (Ks:List zY) (e:Ending) (w':World):Prop:=
 ∃cv iv,e=.returned (.tuple #[.agg #[cv,iv],.int .i64 0])∧Fr No w w'∧yP w' cv S.length (S.flatMap zw)∧yP w' iv Ks.length (Ks.flatMap zl)∧∀j,cv.ownBlock=some j∨iv.ownBlock=some j→w.heap.size≤j
theorem Qe {fv:Value} {F:List yk} (hp:w.cell? ⟨p,0,none⟩=some fv) (hf:xA w fv F) (hF:F.length≤256) {bs:List zU} {S:List zh} (hh:Jn (xP z7 F) bs S) {v:Value} {css:List (List Value)} (hl:xG w v bs.length (css.flatMap id)) (af:css.length=bs.length) (hk:∀cs∈css,cs.length=3)
  (hq:∀(i:Nat) (d:zU) (cs:List Value),bs[i]? =some d→css[i]? =some cs→xT w d.blk cs) (hB:bs.length≤200):
  Calls prog 25 #[.pointer (some ⟨p,0,none⟩),v] w (zgj w S (zJ bs)):=by
 have HF:=J hf
 have HH:=J hh
 have HL:=J hl
 have an:=J af
 have HK:=J hk
 have HQ:=J hq
 obtain⟨fa,fc,rfl⟩:=hf.2.form
 obtain⟨va,vc,rfl⟩:=hl.form
 obtain⟨dS,uS,rS⟩:=zab
 have zO:=yA
 have pl:p<w.heap.size:=World.block_lt_of_cell? _ _ hp
 have L:=J hF
 clear hf hh hl af hk hq
 have f2:Fr No w ((w.alloc (.cells #[.slice none 0 0,.slice none 0 0] 54)).alloc (.cells #[.slice none 0 0,.slice none 0 0] 54)):=((frN w).alloc _).alloc _
 have F2:=J f2
 have c2:=f2.cell hp id
 have B1:=J (jC (zS w (.cells #[.slice none 0 0,.slice none 0 0] 54)) (.cells #[.slice none 0 0,.slice none 0 0] 54))
 have B2:=J (xK (w.alloc (.cells #[.slice none 0 0,.slice none 0 0] 54)) (.cells #[.slice none 0 0,.slice none 0 0] 54) (n:=w.heap.size+1) (by simp))
 clear f2
 go_enter Tryz.func25,Tryz.ntmps25
 go_wp2_with fail
 clear c2
 generalize (w.alloc (.cells #[.slice none 0 0,.slice none 0 0] 54)).alloc (.cells #[.slice none 0 0,.slice none 0 0] 54)=w2 at*
 go_loopw [17] (λI wr=>∃(n:Nat) (rv:Value),I=.int .i64 n∧n≤F.length∧wr.heap[w.heap.size+1]? =some (.cells #[rv,.slice none 0 0] 54 (0,0))∧wr.ownsRow (w.heap.size+2) 103 66 rv n (((xP z7 F).take n).flatMap zw)∧wr.heap[w.heap.size]? =some (.cells #[.slice none 0 0,.slice none 0 0] 54 (0,0))∧Fr No w wr) (λI _=>F.length-(intOf I).toNat)
 case atStart=>exact⟨0,_,rfl,zero_le _,B2.o,World.ownsRow_nil _ _ _ _,B1.o,F2.o⟩
 case round=>
  obtain⟨n,rv,rfl,hn,N,ho,h,fr⟩:=hrel
  have q:=J fr
  have HB:=J N
  have D:=J ho
  have a:=J h
  have SZ:=@J (w.heap.size+1<wr.heap.size) (yu N)
  obtain⟨ra,rc,rfl⟩:=ho.slice.arg.form
  clear fr N ho h
  by_cases l:n<F.length
  ·have i1:(n:Int)<(F.length:Int):=by omega
   obtain⟨x,o⟩:∃x,F[n]? =some x:=⟨_,getElem?_eq_getElem l⟩
   obtain⟨b,off,aw,hv,hr,-⟩:=(HF.o.keep q.o).at_ o
   cases hv
   have H:=J (HF.o.1 x (mem_of_getElem? o))
   have IL:=J (z6 H.o)
   have R1:=J hr
   have aa:=@J ((⟨z7,(n:Int)⟩:zE).ok) (⟨j5,by show(0:Int)≤(n:Int);omega,by show(n:Int)≤_;have:=L.o;omega⟩)
   have CL:=@J ((zw ⟨⟨z7,(n:Int)⟩,x⟩).length=66) (yv ⟨aa.o,H.o⟩)
   have ax:(n:Int) % 4294967296=(n:Int):=by have:=L.o;omega
   have RO:=J (zK wr (zx x) 68)
   have ar:=J (Vl z7 o)
   have M:=(frN wr).alloc (.cells (zx x).toArray 68)
   have cA:=(Qh (M.obj HB.o id)).1
   obtain⟨v5,z,ae,y,B,-,-⟩:=yw (P:=prog) _ _ 49 49 103 66 80 _ yQ xR rfl (by decide) (D.o.alloc (.cells (zx x).toArray 68)) (zw ⟨⟨z7,(n:Int)⟩,x⟩) CL.o yz (by have:=L.o;omega) (by unfold maxLen;have:=L.o;omega) (by have:=M.size;have:=SZ.o;omega)
   have NQ:=@J (∀j,(Value.slice ra n rc).ownBlock=some j→w.heap.size+2≤j) (λj e=>(D.o.lt j e).1)
   have s:=B.obj (M.obj HB.o id) (λe=>by have:=NQ.o _ e;omega)
   have c5:z.cell? ⟨w.heap.size+1,0,none⟩=some (.slice ra n rc):=(Qh s).1
   have fz:=qZ s 0
   obtain⟨a5,r,rfl⟩:=y.slice.arg.form
   have C:Fr (λj=>j=w.heap.size+1) z (z.setCell ⟨w.heap.size+1,0,none⟩ (.slice a5 (n+1) r)):=(Fr.refl (λj=>j=w.heap.size+1) z).setCell ⟨w.heap.size+1,0,none⟩ (.inr rfl) _
   have al:=@J ((z.setCell ⟨w.heap.size+1,0,none⟩ (.slice a5 (n+1) r)).heap[w.heap.size+1]? =some (.cells #[.slice a5 (n+1) r,.slice none 0 0] 54 (0,0))) (by have:=heap_setCell_same z (w.heap.size+1) 0 _ _ (.slice a5 (n+1) r) s;simpa using this)
   have W:=J (zf y C (λj e u=>by have:=(y.lt j e).1;omega))
   rw[←ar.o] at W
   have V:=J (C.obj (B.obj (M.obj a.o id) (λe=>by have:=NQ.o _ e;omega)) (λe=>by omega))
   have F6:=J (((q.o.trans0 M).trans B (λi hi e=>by have:=NQ.o i e;omega)).trans C (λi hi e=>by omega))
   have ak:=J ae
   clear ae y B hr o M s C
   have⟨Y,Z,K2,K3,K4,K5,K6⟩:=tZ7
   go_wp2_with ((first|((with_reducible refine zt ?_);first|(clear Y;refine ziW rfl rfl rfl R1.o IL.o ?_)|(clear K2;refine zg rfl (yl (t:=72) (vs:=[(1,.int .u32 n)]) rfl (by simp[Act.eval,ax]) (zio n _)) ?_)|(clear K3;refine ziW rfl rfl rfl RO.o IL.o ?_)|(clear K4;refine zg rfl (qj (t:=103) (vs:=[(0,.agg (zi ⟨z7,(n:Int)⟩).toArray),(1,.agg (zx x).toArray)]) rfl rfl Zc (Yp aa.o H.o) (Zb _ _) (by rw[CL.o])) ?_)|(clear K5;refine zg rfl (zL (t:=49) rfl rfl yQ qA rfl (by decide) (by decide) CL.o) ?_)|(clear K6;at_builtin;refine zk rfl rfl rfl rfl ak.o ?_))|((with_reducible refine zr ?_);clear Z;refine zi5 (w:=wr) (cs:=zx x) rfl rfl rfl rfl IL.o zV ?_));go_frame)
   go_roundw
   case rel=>exact⟨n+1,_,by simp,by omega,al.o,W.o,V.o,F6.o⟩
   case measure=>show F.length-(n+1)<F.length-n;omega
  ·have i1:¬(n:Int)<(F.length:Int):=by omega
   have hT:(xP z7 F).take n=xP z7 F:=take_of_length_le (by rw[xZ];omega)
   rw[hT] at D
   have A:=@J (∀c∈xP z7 F,c.ok) (Jh j5 HF.o.1 (by have:=L.o;omega))
   have g:=@J (qg (xP z7 F)) (by
    rw[←zaO]
    exact vD List.Pairwise.nil (vm _ _) (λc hc=>rfl))
   have av:=@J (SX w wr (w.heap.size+1) (λj=>(j=w.heap.size+1∨(Value.slice ra n rc).ownBlock=some j)∨(Value.slice none 0 0).ownBlock=some j) (xP z7 F) []) (⟨⟨.slice none 0 0,_,⟨⟨_,HB.o,by rw[xZ,show F.length=n by omega];exact D.o.slice,rfl,λe=>by have:=(D.o.lt _ e).1;omega⟩,(by
     rintro j (rfl|e)
     ·omega
     ·have:=(D.o.lt j e).1;omega),q.o,A.o⟩,World.ownsRow_nil _ _ _ _,(λj e=>by cases e),rfl⟩,(λk hk=>by cases hk),g.o⟩)
   have W0:=@J (∀j,((j=w.heap.size+1∨(Value.slice ra n rc).ownBlock=some j)∨(Value.slice none 0 0).ownBlock=some j)→w.heap.size<j) (λj e=>by
    rcases e with(rfl|e)|e
    ·omega
    ·have:=(D.o.lt j e).1;omega
    ·cases e)
   have F1:=J q.o
   have ai:=J a.o
   have GD:=J (λn=>(HH.o.pre n).good g.o A.o)
   clear hT l hn
   go_wp2_with fail
   go_loopw [37] (λI K=>∃(m:Nat) (W':Nat→Prop),I=.int .i64 m∧m≤bs.length∧SX w K (w.heap.size+1) W' (hS (xP z7 F) (bs.take m)) (zJ (bs.take m))∧(∀j,W' j→w.heap.size<j)∧K.heap[w.heap.size]? =some (.cells #[.slice none 0 0,.slice none 0 0] 54 (0,0))∧Fr No w K) (λI _=>bs.length-(intOf I).toNat)
   case atStart=>exact⟨0,_,rfl,zero_le _,av.o,W0.o,ai.o,F1.o⟩
   case round=>
    obtain⟨m,W',rfl,hm,ag,ah,h,fr⟩:=hrel
    have q:=J fr
    have G:=J ag
    have X:=J ah
    have a:=J h
    clear fr ag ah h
    by_cases l:m<bs.length
    ·have i1:(m:Int)<(bs.length:Int):=by omega
     obtain⟨d,o⟩:∃x,bs[m]? =some x:=⟨_,getElem?_eq_getElem l⟩
     obtain⟨cs,hc⟩:∃x,css[m]? =some x:=⟨_,getElem?_eq_getElem (by rw[an.o];omega)⟩
     obtain⟨b,off,aw,hv,hr,-⟩:=(HL.o.keep q.o).elem (f:=id) (by decide) (λx o=>HK.o x o) hc
     cases hv
     obtain⟨a1,a2,a3⟩:=HH.o.at_ o
     have AT:=J (And.intro a1 (And.intro a2 a3))
     have BQ:=J (HQ.o m d cs o hc)
     have R1:=@J (wr.rangeAt b (off+m*3) cs) (hr)
     have RN:=J (zK wr cs 36)
     have FA:=J (q.o.alloc (.cells cs.toArray 36))
     obtain⟨O,Q,R,T,rfl⟩:=BQ.o.form
     have GN:=J (GD.o m)
     have ZA:=@J (w.heap.size<(wr.alloc (.cells #[.int .u64 d.blk.tag,.slice O d.blk.pay.length Q,.slice R d.blk.txs.length T] 36)).heap.size) (by have:=q.o.size;simp;omega)
     have BA:=J (jC a.o (.cells #[.int .u64 d.blk.tag,.slice O d.blk.pay.length Q,.slice R d.blk.txs.length T] 36))
     have aj:=J (XZ (G.o.fr0 ((frN wr).alloc (.cells #[.int .u64 d.blk.tag,.slice O d.blk.pay.length Q,.slice R d.blk.txs.length T] 36))) (by
      have:=GN.o.len
      rw[xZ,length_take] at this
      have:=L.o
      omega) (by
      have:=Xz (bs:=bs.take m) (λd hd=>(GN.o.ds d hd).1)
      rw[length_take] at this
      omega) (b:=d.blk) (cs:=[.int .u64 d.blk.tag,.slice O d.blk.pay.length Q,.slice R d.blk.txs.length T]) (λw' f=>BQ.o.keep (FA.o.trans f (λj hj e=>by have:=X.o j e;omega))))
     clear a1 a2 a3 hr o hc
     have⟨Y,Z,K2,K3⟩:=tZ4
     go_wp2_with ((first|((with_reducible refine zt ?_);first|(clear Y;refine ziS rfl rfl rfl R1.o rfl ?_)|(clear K2;refine ziS rfl rfl rfl RN.o rfl ?_;generalize wr.alloc (.cells #[.int .u64 d.blk.tag,.slice O d.blk.pay.length Q,.slice R d.blk.txs.length T] 36)=wA at*))|((with_reducible refine zr ?_);clear Z;refine ze rfl (zj (w:=wr) (ty:=36) (cs:=[.int .u64 d.blk.tag,.slice O d.blk.pay.length Q,.slice R d.blk.txs.length T]) rfl rfl rfl rfl xg jV) ?_)|(clear K3;go_at_call 36;refine aj.o.mono ?_;rintro e z ⟨rfl,B,h5⟩;rw[AT.o.1];obtain⟨W5,x5,l5⟩:=h5 AT.o.1;rw[AT.o.2.1,AT.o.2.2] at x5;have X5:=J x5;have F5:=@J (Fr No w z) (FA.o.trans B (λj hj e=>by have:=X.o j e;omega));have L5:=@J (∀j,W5 j→w.heap.size<j) (λj e=>(l5 j e).elim (X.o j) (λe=>by have:=ZA.o;omega));have B5:=@J (z.heap[w.heap.size]? =some (.cells #[.slice none 0 0,.slice none 0 0] 54 (0,0))) (B.obj BA.o (λe=>by have:=X.o _ e;omega));clear B h5 x5 l5));go_frame)
     go_roundw
     case rel=>exact⟨m+1,W5,by simp,by omega,X5.o,L5.o,B5.o,F5.o⟩
     case measure=>show bs.length-(m+1)<bs.length-m;omega
    ·have i1:¬(m:Int)<(bs.length:Int):=by omega
     have hT:bs.take m=bs:=take_of_length_le (by omega)
     have ab:=HH.o.eqS
     rw[hT,←ab] at G
     obtain⟨iv,U,hR,hO,hd,hU⟩:=G.o.ex
     obtain⟨rv,N,hs,ad,ay⟩:=hR.ex
     have au:=J (zm N)
     have ao:=J hs
     have aq:=J hO.slice
     have E:=@J (∀j,rv.ownBlock=some j∨iv.ownBlock=some j→w.heap.size<j) (λj e=>X.o j (by
      rw[hU,ad]
      exact e.imp .inr id))
     obtain⟨xa,xc,rfl⟩:=hs.arg.form
     obtain⟨ya,yc,rfl⟩:=hO.slice.arg.form
     clear hT ab hR hO hd hU N hs ad ay l
     have⟨Y,Z⟩:=tZ2
     go_wp2_with ((first|((with_reducible refine zt ?_);clear Y;refine zg rfl (ye (ty:=54) rfl rfl au.o uS rS infoState) ?_)|((with_reducible refine zr ?_);clear Z;refine ze rfl (zy (ty:=54) (b:=w.heap.size) (off:=0) (cs:=[.slice xa S.length xc,.slice ya (zJ bs).length yc]) rfl rfl rfl (zM a.o (le_refl 2)) infoState Jd) ?_));go_frame)
     have C:=zv w.heap.size [.slice xa S.length xc,.slice ya (zJ bs).length yc] 0 wr
     refine bodyPost_ret (zR (P:=prog) (fn:=Tryz.f25) rfl _ rfl (yE a.o rfl) uS rS infoState rfl) rfl ⟨_,_,rfl,q.o.trans C (λi hi e=>by omega),ao.o.keep C (λj e u=>by have:=E.o j (.inl e);omega),aq.o.keep C (λj e u=>by have:=E.o j (.inr e);omega),λj e=>Nat.le_of_lt (E.o j e)⟩
end Go.Proofs.YtmpamcnlineceaaGreatDoor
namespace Go
open Go.RowKit Go.Maps Go.MapKept
section
variable {P:Program} {o:Oper} {w:World} {ev:Operand→Value}
theorem qG {t:TypeId} {n:Nat} {w':World} {v:Value} {parts:Array (Nat×Operand)} {vs:List (Nat×Value)} (c:o.op=.buildSlice t n parts) (f:(parts.toList.map λ(i,x)=>(i,ev x))=vs) (d:(Instr.buildSlice t n vs.toArray).run P w=.ok v w'):(execOp ev o).run P w=.ok (.value v) w':=by
 have e:(parts.map λ(i,x)=>(i,ev x))=vs.toArray:=by rw[←f,←Array.toList_map,Array.toArray_toList]
 simp only[execOp,c,e,Sem.run_bind,d,Result.andThen_ok,Sem.run_pure]
structure ElT (P:Program) (t e:TypeId) (k bytes:Nat) (z:Value):Prop where
 und:P.underlying t=some (.slice e)
 info:(P.info? e).map (λi=>(i.zero,i.size,i.bytes))=some (some z,k,bytes)
 zs:z.cells.size=k
 k0:0<k
 kb:k≤bytes
variable {t e:TypeId} {k bytes:Nat} {z:Value}
theorem jZ (h:ElT P t e k bytes z) (B:Nat) (c:B≤w.heap.size):∃v w',(Instr.buildSlice t 0 #[]).run P w=.ok v w'∧w'.ownsRow B e k v 0 []∧Fr No w w'∧(∀j,v.ownBlock=some j→w.heap.size≤j):=by
 obtain⟨i,hi,m,l,g⟩:=info_parts h.info
 have f:(Instr.buildSlice t 0 #[]).run P w=.ok (.slice (some ⟨w.heap.size,0,none⟩) 0 0) (w.alloc (.cells #[] e)):=by
  simp[Instr.buildSlice,run_underlying h.und,sizeOf,typeInfo,hi,Instr.fill,newRow]
  rw[show Array.map (λ_=>(default:Value)) (Array.range 0)= #[] from Array.eq_empty_of_size_eq_zero (by simp)]
 refine⟨_,_,f,⟨by simp,.inr ⟨w.heap.size,0,#[],rfl,c,zS w _,Nat.le_refl _,by omega,by simp,by simp⟩⟩,(frN w).alloc _,λj d=>?_⟩
 simp[Value.ownBlock] at d
 omega
theorem zeL (h:ElT P t e k bytes z) (B:Nat) (n:B≤w.heap.size) {cs:List Value} (y:k≤16777216) (c:cs.length=k):∃v w',(Instr.buildSlice t 1 #[(0,.agg cs.toArray)]).run P w=.ok v w'∧w'.ownsRow B e k v 1 cs∧Fr No w w'∧(∀j,v.ownBlock=some j→w.heap.size≤j):=by
 have r:=h.k0
 obtain⟨i,hi,u,l,x⟩:=info_parts h.info
 have d:(Value.agg cs.toArray).cells.size=k:=by show cs.toArray.size=k;simpa using c
 have m:(Value.agg cs.toArray).cells.toList=cs:=by show cs.toArray.toList=_;simp
 have f:qB [(0,.agg cs.toArray)]=cs:=by simp[qB,m]
 have p:Instr.fill (λj=>some (j*i.size,i.size)) ((Array.range (1*i.size)).map (z.cells[· % z.cells.size]!)) [(0,.agg cs.toArray)]=some cs.toArray:=by
  have g:((Array.range (1*i.size)).map (z.cells[· % z.cells.size]!)).toList.length=k:=by simp[l]
  have:=Y4 (λj=>some (j*i.size,i.size)) [(0,.agg cs.toArray)] [] ((Array.range (1*i.size)).map (z.cells[· % z.cells.size]!)).toList ⟨by simp[l,d],trivial⟩ (by rw[f,g,c];omega)
  simp only[List.nil_append,Array.toArray_toList] at this
  rw[this,f,List.drop_eq_nil_of_le (by rw[g,c];omega),List.append_nil]
 have s:=run_buildSlice (P:=P) w t e 1 #[(0,.agg cs.toArray)] cs.toArray i z h.und hi u (by omega) (by omega) p
 refine⟨_,_,s,⟨by omega,.inr ⟨w.heap.size,1,cs.toArray,rfl,n,zS w _,Nat.le_refl _,by unfold maxLen;omega,by simp[c],?_⟩⟩,(frN w).alloc _,λj q=>?_⟩
 ·rw[List.toList_toArray];exact List.take_of_length_le (by omega)
 ·simp[Value.ownBlock] at q
  omega
structure AB (e:TypeId) (k:Nat) (W w:World) (a b:Option (Value×Nat×List Value)):Prop where
 fr:Fr No W w
 a1:∀v n S,a=some (v,n,S)→w.ownsRow W.heap.size e k v n S
 b1:∀v n S,b=some (v,n,S)→w.ownsRow W.heap.size e k v n S
 sep:∀v n S v' n' S',a=some (v,n,S)→b=some (v',n',S')→∀j,v.ownBlock=some j→v'.ownBlock≠some j
variable {W:World} {a b:Option (Value×Nat×List Value)}
theorem AB.swap (h:AB e k W w a b):AB e k W w b a:=⟨h.fr,h.b1,h.a1,λv n S l i S' d f j g c=>h.sep l i S' v n S f d j c g⟩
theorem AB.start (W:World):AB e k W W none none:=⟨Fr.refl _ _,by simp,by simp,by simp⟩
theorem AB.turn {w':World} {v:Value} {n:Nat} {S:List Value} (h:AB e k W w a b) {V:Nat→Prop} (f:Fr V w w') (l:∀j,V j→W.heap.size≤j∧∀c d S',b=some (c,d,S')→c.ownBlock≠some j) (u:w'.ownsRow W.heap.size e k v n S) (s:∀j,v.ownBlock=some j→V j∨w.heap.size≤j):AB e k W w' (some (v,n,S)) b:=by
 refine⟨h.fr.trans f (λi hi e=>by have:=(l i e).1;omega),λc d S' e=>?_,λc d S' e=>?_,λA y x c d S' q r j p g=>?_⟩
 ·simp only[Option.some.injEq,Prod.mk.injEq] at e;obtain⟨rfl,rfl,rfl⟩:=e;exact u
 ·exact zf (h.b1 c d S' e) f (λj p m=>(l j m).2 c d S' e p)
 ·simp only[Option.some.injEq,Prod.mk.injEq] at q;obtain⟨rfl,rfl,rfl⟩:=q
  rcases s j p with h1|h1
  ·exact(l j h1).2 c d S' r g
  ·have:=((h.b1 c d S' r).lt j g).2;omega
theorem AB.new0 (h:AB e k W w a b) (E:ElT P t e k bytes z):∃v w',(Instr.buildSlice t 0 #[]).run P w=.ok v w'∧AB e k W w' (some (v,0,[])) b:=by
 obtain⟨v,w',i,g,f,d⟩:=jZ (P:=P) E W.heap.size h.fr.size
 exact⟨v,w',i,h.turn f (λ_ h=>h.elim) g (λj c=>.inr (d j c))⟩
theorem AB.new1 (h:AB e k W w a b) (E:ElT P t e k bytes z) {cs:List Value} (g:k≤16777216) (c:cs.length=k):∃v w',(Instr.buildSlice t 1 #[(0,.agg cs.toArray)]).run P w=.ok v w'∧AB e k W w' (some (v,1,cs)) b:=by
 obtain⟨v,w',m,l,f,i⟩:=zeL (P:=P) E W.heap.size h.fr.size g c
 exact⟨v,w',m,h.turn f (λ_ h=>h.elim) l (λj d=>.inr (i j d))⟩
theorem AB.app {v:Value} {n:Nat} {S:List Value} (h:AB e k W w (some (v,n,S)) b) (E:ElT P t e k bytes z) {x:Value} {m:Nat} {news:List Value} (F:xG w x m news) (y:news.length=m*k) (q:∀u∈news,u.oneCell'=true) (r:(n+m)*bytes≤140737488355328) (A:n+m≤maxLen) (d:x≠.slice none 0 0) (ty:TypeId):
  ∃f w',(Builtin.append_ #[t,t] ty #[v,x]).run P w=.ok f w'∧AB e k W w' (some (f,n+m,S++news)) b:=by
 have c:=h.a1 v n S rfl
 obtain⟨f,w',D,C,s,-,B⟩:=Jq (P:=P) w W.heap.size t ty e k bytes z E.und E.info E.zs E.k0 v n S c x m news F y q r A h.fr.size d
 refine⟨f,w',D,h.turn (V:=λj=>v.ownBlock=some j) ((Fr.refl _ w).grown s (λk e=>.inr e)) (λj g=>⟨(c.lt j g).1,λH G i l p=>h.sep v n S H G i rfl l j g p⟩) C B⟩
theorem AB.join {v u:Value} {n m:Nat} {S T:List Value} (h:AB e k W w (some (v,n,S)) (some (u,m,T))) (E:ElT P t e k bytes z) (j:T.length=m*k) (g:∀u∈T,u.oneCell'=true) (i:(n+m)*bytes≤140737488355328) (l:n+m≤maxLen) (c:u≠.slice none 0 0) (ty:TypeId):
  ∃d w',(Builtin.append_ #[t,t] ty #[v,u]).run P w=.ok d w'∧w'.ownsRow W.heap.size e k d (n+m) (S++T)∧Fr No W w':=by
 obtain⟨d,w',p,f⟩:=h.app E (h.b1 u m T rfl).slice.arg j g i l c ty
 exact⟨d,w',p,f.a1 _ _ _ rfl,f.fr⟩
end
end Go
