/- PoolMined: the walk. -/
import Derived.Test.YtbcllfjmabiafaaGreatDoorPG27
import Derived.Test.YtbcllfjmabiafaaGreatDoorPG28
set_option linter.unusedVariables false
set_option linter.unusedSimpArgs false
set_option linter.unnecessarySimpa false
set_option linter.all false
set_option maxRecDepth 20000
set_option maxHeartbeats 16000000
namespace Go.Proofs.YtbcllfjmabiafaaGreatDoor
open Go Go.RowKit Go.Maps Go.MapKept
open Go.Proofs.Tryz(prog)
open List(mem_map mem_of_getElem? length_append take_add_one filter_append length_filter_le)
open Nat(zero_le le_trans)
theorem zin {w:World} (hg:vp w) {fv lv:Value} {first:List yC} {l:List vm} (hl:xg w fv first) (hx:vK w lv l) {n:Nat} (hn:n<256):
  Calls prog 4 #[fv,lv,.int .u8 n] w λe w'=>e=.returned (.bool true)∧Fr No w w':=by
 have zw:=jZ
 have zT:=show ∀w,(zeroValue 27).run prog w=.ok (.agg zcG.toArray) w from Zp
 have zh:=yJ
 obtain⟨fa,fc,rfl⟩:=hl.2.form
 obtain⟨la,lc,rfl⟩:=hx.form
 have HG:=Hd hg
 have HL:=Hd hl
 have HX:=Hd hx
 have b8:=Hd (vT hg)
 clear hg hl hx
 have zP:=vr
 have zO:=y3
 have zC:=ZU
 have zB:=Qg
 obtain⟨nn,dd⟩:∃nn,nn=n % 17:=⟨_,rfl⟩
 have cD:nn≤16:=by omega
 have r1:(n:Int) % 17=(nn:Int):=by omega
 have r2:(n:Int).tmod 17=(nn:Int):=by rw[Int.tmod_eq_emod_of_nonneg (by omega)];omega
 clear dd
 by_cases hF:first.length≤256
 ·have j1:decide ((256:Int)<(first.length:Int))=false:=by simp;omega
  go_enter Tryz.func4,Tryz.ntmps4
  have⟨K0,K1⟩:=tZ2
  go_wp2_with ((first|(clear K0;go_at_call 11;refine b8.o.mono ?_;rintro e w1 ⟨rfl,f1⟩;have F1:=Hd f1;clear f1)|(clear K1;go_at_call 12;refine(xC w1 (HL.o.keep F1.o) (HX.o.keep0 F1.o)).mono ?_;rintro e w2 ⟨⟨g,rfl,bP,hz⟩,u⟩;have GZ:=Hd hz;have F2:=Hd (F1.o.trans0 u);clear hz u;rcases bP with rfl|rfl));go_frame)
  ·have br:=Hd (GZ.o (by first|trivial|rfl))
   clear GZ
   have⟨K0,K1,K2,K3,K4⟩:=tZ5
   go_wp2_with ((first|(clear K0;go_at_call 14;refine(JS F2.o (HL.o.keep F2.o) hF).mono ?_;rintro e w3 ⟨pc,pp,T,rfl,cC,db,f3⟩;have W3:=Hd (cC T (λ_ h=>h) (λ_ h=>.inl h));have bK:=@Hd (∀j,T j→w.heap.size≤j) (λj d=>(W3.o.facts.1 j d).1);clear cC db f3)|(clear K1;go_at_call 15;refine(YU HG.o (W3.o.more (by decide)) bK.o rfl HX.o br.o.2.1 br.o.2.2).mono ?_;rintro e w4 ⟨rfl,T4,X4,A,n4,cy,de⟩;have ab:=Hd (FlB.begun n4 bK.o W3.o.facts.2.2.1.size);have bt:=Hd cy;clear n4 cy de)|(clear K3;go_at_call 16;refine(vJ ab.o.1 (by decide)).mono ?_;rintro e w6 ⟨v6,rfl,D⟩;have ad:=Hd (ab.o.fr0 D.2);have cp:=Hd (qg.new ab.o.1 D);obtain⟨ra,rc,az⟩:=D.1.slice.arg.form;subst az;have p6:=ad.o.cells.2;clear D p5)|(clear K4;go_at_call 21;refine(zaD (n:=nn) ad.o.1 (by decide) (by omega)).mono ?_;rintro e w7 ⟨v6,css,rfl,kr,f6⟩;obtain⟨I,aX⟩:∃I,(yz A.L nn).map (·.tx)=I:=⟨_,rfl⟩;have bZ:=@Hd (TxR T4 w7 v6 I) (by rw[←aX];exact TxR.new ad.o.1 kr);have az:=kr.form;rw[aX] at az;obtain⟨ba,bc,az⟩:=az;subst az;have ae:=Hd aX;have M:=Hd (ad.o.fr0 f6);have bM:=Hd (cp.o.fr0 f6);clear kr f6 p6 aX css)|((with_reducible refine zr ?_);clear K2;refine zi rfl (zj (w:=w4) (ty:=34) (cs:=xM pc pp) rfl rfl rfl rfl qR (XV rfl rfl)) ?_;generalize w4.heap.size=c7 at*;generalize w4.alloc (.cells (xM pc pp).toArray 34)=w5 at*;have p5:=ab.o.cells));go_frame)
   have cn:=Hd M.o.1.facts.2.2.2.1
   have aT:=@Hd ((zR A.L).length≤32) (by rw[xd];exact M.o.1.facts.2.2.2.2.1)
   have aK:=Hd M.o.1.pids
   have ak:=@Hd (I.length≤16) (by rw[←ae.o,List.length_map];exact le_trans (ZF A.L nn) cD)
   have a8:=Hd (λhf=>M.o.1.topo (n:=nn) hf)
   have a7:=Hd (Ju cn.o.gok nn)
   have aA:=Hd (bZ.o.fr0 (λj d=>(M.o.1.facts.1 j d).2.1) (frN w7))
   clear ad bZ ab W3 bK br cp cD r1 r2 hn
   generalize yz A.L nn=BB at*
   obtain⟨z,aV⟩:∃z,z=w7.heap.size:=⟨_,rfl⟩
   have BX:=Hd (TxR.upto aA.o (show w7.heap.size≤z by omega))
   have BN:=@Hd (BB.length=I.length) (by rw[←ae.o,List.length_map])
   have b6:=@Hd (∀x∈zR BB,x∈zR A.L) (λx hx=>by obtain⟨e,he,rfl⟩:=mem_map.1 hx;exact mem_map.2 ⟨e,a7.o e he,rfl⟩)
   have bo:=@Hd (∀x∈zR BB,zV x) (λx hx=>aK.o x (b6.o x hx))
   have cL:=@Hd (∀(i:Nat) e,BB[i]? =some e→(zR BB)[i]? =some e.id) (λi e h=>by unfold zR;rw[List.getElem?_map,h];rfl)
   have GT:=@Hd ((zR BB).length=I.length) (by rw[xd];exact BN.o)
   generalize hK:zR A.L=K at*
   generalize hG:zR BB=G at*
   have af:=@Hd (c7<z) (by have:=yr M.o.2.2.2;omega)
   have al:=Hd (λj (d:(Value.slice ra K.length rc).ownBlock=some j)=>show j<z from by have:=(bM.o.1.lt j d).2;omega)
   have b0:=@Hd (z≤w7.heap.size) (by omega)
   have du:=ak.o
   clear aV aA
   go_loopw [10,57] (λrv iv wr=>∃(k:Nat) (X:Nat→Prop) (qa:Option Addr) (qc:Nat),iv=.int .i64 k∧k≤I.length∧rv=.slice qa k qc∧FlB w wr c7 pc pp T4 X 132 A∧z≤wr.heap.size∧xS T4 wr z 45 32 (.slice qa k qc) k ((G.take k).flatMap zd)∧(∀j,(Value.slice qa k qc).ownBlock=some j→X j)∧TxB T4 z wr (.slice ba I.length bc) I∧qg T4 wr (.slice ra K.length rc) K∧∀t∈I.take k,∀c∈yN t,yV A.S c.at_=false) (λ_ iv _=>I.length-(intOf iv).toNat)
   case atStart=>exact⟨0,_,none,0,rfl,zero_le _,rfl,M.o,b0.o,⟨World.ownsRow_nil _ _ _ _,λj h=>(by cases h)⟩,λj h=>(by cases h),BX.o,bM.o,λt ht=>by simp at ht⟩
   case round=>
    clear M b0 BX bM
    obtain⟨k,X,qa,qc,rfl,hk,rfl,h0,h1,h2,h3,h4,h5,h6⟩:=hrel
    rename World=>wr
    have v:=Hd h0
    have BW:=Hd h1
    have RR:=Hd h2
    have RX:=Hd h3
    have BR:=Hd h4
    have WR:=Hd h5
    have bA:=Hd h6
    clear h0 h1 h2 h3 h4 h5 h6
    by_cases aO:k<I.length
    ·have i2:(k:Int)<(I.length:Int):=by omega
     obtain⟨e,heb⟩:∃e,BB[k]? =some e:=⟨_,List.getElem?_eq_getElem (by rw[BN.o];exact aO)⟩
     have hy:I[k]? =some e.tx:=by rw[←ae.o,List.getElem?_map,heb];rfl
     have hz:=cL.o k e heb
     have he:=a7.o e (mem_of_getElem? heb)
     obtain⟨bx,cx,cs,di,cB,qx⟩:=BR.o.at_ hy
     cases di
     obtain⟨ia,ic,oa,oc,rfl⟩:=qx.now.form
     have R1:=Hd cB
     have TQ:=Hd qx.now
     have c5:=Hd qx
     have SM:=Hd (v.o.1.small e he)
     have b4:=Hd (cn.o.ent e he)
     have FB:=Hd (jd b4.o.1).1
     have IX:=@Hd (idH e.tx=e.id) (b4.o.2.1.symm)
     have CK:=@Hd (idE e.tx=0) (by unfold idE;rw[if_pos FB.o])
     have cJ:=Hd (bo.o e.id (mem_of_getElem? hz))
     have EL:=Hd (zu cJ.o)
     have bz:=Hd (Yw (t:=e.tx) (v.o.1.txok e he).2 SM.o.2.1)
     have bw:=@Hd ((yN e.tx).length=e.tx.outs.length) (qZ _ _)
     have aj:=@Hd (I.take (k+1)=I.take k++[e.tx]) (by rw[take_add_one,hy];rfl)
     have cM:=@Hd (G.take (k+1)=G.take k++[e.id]) (by rw[take_add_one,hz];rfl)
     have o8:=SM.o.2.1
     clear hy hz cB qx he heb
     have F:=Hd (frN wr)
     have cW:=@Hd (∀j,(Value.slice qa k qc).ownBlock=some j→j<wr.heap.size) (λj d=>(RR.o.1.lt j d).2)
     have⟨K0,K1,K2,K3,K4,K5,K6,K7,K8,K9⟩:=tZ10
     go_wp2_with ((first|((with_reducible refine zt ?_);first|(clear K0;refine znT rfl rfl rfl R1.o rfl ?_)|(clear K2;refine znT rfl rfl rfl RT.o rfl ?_)|(clear K5;refine znV rfl rfl rfl RH.o EL.o ?_)|(clear K6;refine zg rfl (zK (t:=37) rfl rfl y7 xD rfl (by decide) (by decide) EL.o) ?_)|(clear K7;at_builtin;refine zJ rfl rfl rfl rfl au.o ?_)|(clear K8;refine znT rfl rfl rfl ch.o rfl ?_))|((with_reducible refine zr ?_);first|(clear K1;refine zi rfl (zj (w:=wr) (ty:=27) (cs:=[.int .u32 e.tx.ver,.slice ia e.tx.ins.length ic,.slice oa e.tx.outs.length oc]) rfl rfl rfl rfl xt (jC rfl rfl rfl)) ?_;have RT:=Hd (qI wr e.tx.ver (.slice ia e.tx.ins.length ic) (.slice oa e.tx.outs.length oc)).2.2.2;have o:=Hd ((frN wr).alloc (.cells #[.int .u32 e.tx.ver,.slice ia e.tx.ins.length ic,.slice oa e.tx.outs.length oc] 27));generalize bb:wr.heap.size=dw at RT⊢;generalize wr.alloc (.cells #[.int .u32 e.tx.ver,.slice ia e.tx.ins.length ic,.slice oa e.tx.outs.length oc] 27)=w1 at*;have cV:=Hd bb;clear bb;have ck:=Hd (TQ.o.keep o.o);have a:=Hd (v.o.fr0 o.o);have bX:=Hd (BR.o.fr0 o.o);have an:=Hd (WR.o.fr0 o.o);have Y:=Hd (RR.o.fr0 o.o);have F1:=Hd (F.o.trans0 o.o);clear v BR WR RR F)|(clear K4;refine zn3 (w:=w2) (cs:=zd e.id) rfl rfl rfl rfl EL.o zE ?_;have RH:=Hd (zq w2 (zd e.id) 45);have o:=Hd ((frN w2).alloc (.cells (zd e.id).toArray 45));generalize w2.heap.size=dx at RH⊢;generalize w2.alloc (.cells (zd e.id).toArray 45)=w3 at*;have B:=Hd (s.o.fr0 o.o);have cG:=Hd (bY.o.fr0 o.o);have c6:=Hd (ay.o.fr0 o.o);have aU:=Hd (cd.o.fr0 o.o);have F3:=Hd (F2.o.trans0 o.o);have cY:=Hd (za cg.o o.o id);clear s bY ay cd F2 cg;have b2:=Hd (le_trans BW.o F3.o.size);obtain⟨v4,w4,a1,a2,C,-,a5⟩:=yA (P:=prog) w3 z 37 37 45 32 32 _ y7 xA rfl (by decide) aU.o.1 (zd e.id) EL.o zE (by have:=ak.o;omega) (by have:=ak.o;unfold maxLen;omega) b2.o;obtain⟨Z,aa,aP⟩:=a2.slice.arg.form;subst aP;obtain⟨X4,ao,ar,aq,-⟩:=B.o.app C RX.o aU.o.2 (λj d=>by have:=(aU.o.1.lt j d).1;have:=af.o;omega) a5 (λj d=>(a2.lt j d).2);have GE:=@Hd (∀j,(Value.slice qa k qc).ownBlock=some j→z≤j) (λj d=>(aU.o.1.lt j d).1);have au:=Hd a1;have bj:=Hd ao;have cZ:=Hd ar;have cf:=@Hd (xS T4 w4 z 45 32 (.slice Z (k+1) aa) (k+1) ((G.take (k+1)).flatMap zd)) (⟨by rw[cM.o];simpa using a2,aq⟩);have cq:=Hd (xS.app c6.o C al.o GE.o);have b1:=Hd (TxB.app cG.o C GE.o);have b3:=Hd (le_trans b2.o C.size);have ch:=Hd (za cY.o C (λe=>by have h:=cW.o _ e;have:=cV.o;omega));have cm:=Hd (c5.o w4 (Fr.trans F3.o.of0 C (λi _ e=>GE.o i e)));clear a1 a2 C a5 ao ar aq))|(clear K3;go_at_call 19;refine(YX (HG.o.keep0 a.o.fr) ck.o).mono ?_;rintro e' w2 ⟨rfl,u⟩;rw[CK.o,IX.o];have s:=Hd (a.o.fr0 u);have bY:=Hd (bX.o.fr0 u);have ay:=Hd (an.o.fr0 u);have cd:=Hd (Y.o.fr0 u);have F2:=Hd (F1.o.trans0 u);have cg:=Hd (za RT.o u id);clear a bX an Y F1 RT ck;clear u)|(clear K9;go_at_call 22;refine(Yr (HG.o.keep0 bj.o.fr) cm.o).mono ?_;rintro e' w5 ⟨mv,rfl,f5,N⟩;rw[if_pos FB.o] at N;have CR:=@Hd (World.ownsRow w5 0 60 66 mv e.tx.outs.length ((yN e.tx).flatMap z7)) (yu N (zero_le _));obtain⟨ma,mc,dc⟩:=N.slice.arg.form;subst dc;have cK:=Hd (bj.o.fr0 f5);have c8:=Hd (cq.o.fr0 f5);have cX:=Hd (cf.o.fr0 f5);have cH:=Hd (b1.o.fr0 f5);have cI:=Hd (le_trans b3.o f5.size);clear f5 N bj cq cf b1 b3 ch cm));go_frame)
     obtain⟨ML,aW⟩:∃ML,yN e.tx=ML:=⟨_,rfl⟩
     rw[aW] at bz bw
     have CR:=@Hd (World.ownsRow _ _ _ _ _ _ (ML.flatMap z7)) (by rw[←aW];exact CR.o)
     have cQ:=Hd aW
     clear aW
     go_loopw [77] (λiv wz=>∃i:Nat,iv=.int .i64 i∧i≤e.tx.outs.length∧Fr No w5 wz∧∀c∈ML.take i,yV A.S c.at_=false) (λiv _=>e.tx.outs.length-(intOf iv).toNat)
     case atStart=>exact⟨0,rfl,zero_le _,Fr.refl _ _,λc hc=>by simp at hc⟩
     case round=>
      obtain⟨i,rfl,hi,fz,cz⟩:=hrel
      rename World=>wz
      have FZ:=Hd fz
      have NO:=Hd cz
      have v:=Hd (cK.o.fr0 fz)
      have CZ:=Hd (zb CR.o fz (λ_ _=>id))
      clear cz
      by_cases hit:i<e.tx.outs.length
      ·have i5:(i:Int)<(e.tx.outs.length:Int):=by omega
       obtain⟨c,hc⟩:∃c,ML[i]? =some c:=⟨_,List.getElem?_eq_getElem (by rw[bw.o];exact hit)⟩
       obtain⟨g5,dr,dg,cA,-⟩:=yZ (f:=z7) (by decide) (λy hy=>xI (bz.o y hy)) CZ.o hc
       cases dg
       have R5:=Hd cA
       have aR:=Hd (bz.o c (mem_of_getElem? hc))
       have CL:=Hd (xI aR.o)
       have QL:=Hd (zW aR.o.1)
       have XL:=Hd (yq (qB v.o.1.facts.2.2.2.2.2.1 c.at_))
       have TK:=@Hd (ML.take (i+1)=ML.take i++[c]) (by rw[take_add_one,hc];rfl)
       clear hc cA fz
       cases hh:yV A.S c.at_ with
       |true=>
        have HH:=Hd hh
        clear hh
        have⟨K0,K1,K2,K3,K4⟩:=tZ5
        go_wp2_with ((first|((with_reducible refine zt ?_);first|(clear K0;refine znY rfl rfl rfl R5.o CL.o ?_)|(clear K2;refine znW rfl rfl rfl RP.o QL.o ?_))|((with_reducible refine zr ?_);first|(clear K1;refine zn4 (w:=wz) (cs:=z7 c) rfl rfl rfl rfl CL.o qi ?_;have RC:=Hd (zq wz (z7 c) 60);have o:=Hd ((frN wz).alloc (.cells (z7 c).toArray 60));generalize wz.heap.size=dj at RC⊢;generalize wz.alloc (.cells (z7 c).toArray 60)=wy at*;have a:=Hd (v.o.fr0 o.o);have aD:=Hd (FZ.o.trans0 o.o);clear v FZ;have p1:=a.o.cells.1;have RP:=Hd (JF RC.o))|(clear K4;refine zn2 (w:=wx) (cs:=zF (zZ A.S c.at_)) rfl rfl rfl rfl XL.o yd ?_;have RO:=Hd (zq wx (zF (zZ A.S c.at_)) 58);have o:=Hd ((frN wx).alloc (.cells (zF (zZ A.S c.at_)).toArray 58));generalize wx.heap.size=dk at RO⊢;generalize wx.alloc (.cells (zF (zZ A.S c.at_)).toArray 58)=ww at*;have B:=Hd (s.o.fr0 o.o);have b5:=Hd (aE.o.trans0 o.o);clear s aE))|(clear K3;go_at_call 23;refine(YR a.o.1 aR.o.1).mono ?_;rintro e' wx ⟨rfl,fx⟩;rw[HH.o];have s:=Hd (a.o.fr0 fx);have aE:=Hd (aD.o.trans0 fx);clear a aD;clear fx p1));go_frame)
        go_ret
        exact⟨rfl,B.o.fr⟩
       |false=>
        have HH:=Hd hh
        clear hh
        have⟨K0,K1,K2,K3,K4⟩:=tZ5
        go_wp2_with ((first|((with_reducible refine zt ?_);first|(clear K0;refine znY rfl rfl rfl R5.o CL.o ?_)|(clear K2;refine znW rfl rfl rfl RP.o QL.o ?_))|((with_reducible refine zr ?_);first|(clear K1;refine zn4 (w:=wz) (cs:=z7 c) rfl rfl rfl rfl CL.o qi ?_;have RC:=Hd (zq wz (z7 c) 60);have o:=Hd ((frN wz).alloc (.cells (z7 c).toArray 60));generalize wz.heap.size=dj at RC⊢;generalize wz.alloc (.cells (z7 c).toArray 60)=wy at*;have a:=Hd (v.o.fr0 o.o);have aD:=Hd (FZ.o.trans0 o.o);clear v FZ;have p1:=a.o.cells.1;have RP:=Hd (JF RC.o))|(clear K4;refine zn2 (w:=wx) (cs:=zF (zZ A.S c.at_)) rfl rfl rfl rfl XL.o yd ?_;have RO:=Hd (zq wx (zF (zZ A.S c.at_)) 58);have o:=Hd ((frN wx).alloc (.cells (zF (zZ A.S c.at_)).toArray 58));generalize wx.heap.size=dk at RO⊢;generalize wx.alloc (.cells (zF (zZ A.S c.at_)).toArray 58)=ww at*;have B:=Hd (s.o.fr0 o.o);have b5:=Hd (aE.o.trans0 o.o);clear s aE))|(clear K3;go_at_call 23;refine(YR a.o.1 aR.o.1).mono ?_;rintro e' wx ⟨rfl,fx⟩;rw[HH.o];have s:=Hd (a.o.fr0 fx);have aE:=Hd (aD.o.trans0 fx);clear a aD;clear fx p1));go_frame)
        go_roundw
        case rel=>exact⟨i+1,by go_num,by omega,b5.o,λy hy=>by rw[TK.o] at hy;exact(List.mem_append.1 hy).elim (NO.o y) (λh=>by rw[List.mem_singleton.1 h];exact HH.o)⟩
        case measure=>simp[intOf];omega
      ·have i5:¬(i:Int)<(e.tx.outs.length:Int):=by omega
       have NA:=@Hd (∀c∈ML,yV A.S c.at_=false) (λc hc=>NO.o c (by rw[List.take_of_length_le (by rw[bw.o];omega)];exact hc))
       have BW:=Hd (le_trans cI.o fz.size)
       have RR:=Hd (cX.o.fr0 fz)
       have BR:=Hd (cH.o.fr0 fz)
       have WR:=Hd (c8.o.fr0 fz)
       clear fz
       go_wp2_with fail
       go_roundw
       case rel=>exact⟨k+1,_,Z,aa,by go_num,by omega,rfl,v.o,BW.o,RR.o,cZ.o,BR.o,WR.o,λt ht=>by rw[aj.o] at ht;exact(List.mem_append.1 ht).elim (bA.o t) (λh=>by rw[List.mem_singleton.1 h,cQ.o];exact NA.o)⟩
       case measure=>simp[intOf];omega
    ·have i2:¬(k:Int)<(I.length:Int):=by omega
     have aY:k=G.length:=by rw[GT.o];omega
     have bV:=@Hd (∀e∈BB,∀c∈yN e.tx,yV A.S c.at_=false) (λe he=>bA.o e.tx (by rw[List.take_of_length_le (by omega),←ae.o];exact mem_map.2 ⟨e,he,rfl⟩))
     have TP:=Hd (a8.o bV.o)
     have bW:=@Hd (BB.length≤16) (by rw[BN.o];exact ak.o)
     have CE:=@Hd (qs (zS A.bs) A.S A.bs ⟨0,[],I⟩=0) (by rw[←ae.o];exact v.o.1.conn TP.o bW.o (le_trans bt.o (by decide)) 0)
     have BQ:=@Hd (vG wr ⟨0,[],I⟩ [.int .u64 0,.slice none 0 0,.slice ba I.length bc]) (⟨none,0,ba,bc,rfl,⟨show(0:Int)≤0 by decide,show(0:Int)≤18446744073709551615 by decide⟩,zci _,BR.o.txs (le_trans ak.o (by decide))⟩)
     have ag:=v.o.1.mined TP.o bW.o 0 ((9:Nat):Int)
     rw[ae.o] at ag
     obtain⟨r,hr⟩:∃r,doR (zS A.bs) A.S ⟨0,[],I⟩=r:=⟨_,rfl⟩
     rw[hr] at ag
     obtain⟨L1,cu⟩:∃L1,Zo r.S (zS (A.bs++[r.d])) A.L [] ((9:Nat):Int)=L1:=⟨_,rfl⟩
     rw[cu] at ag
     have MR:=@Hd (qg T4 wr (.slice qa G.length qc) G) (⟨yu (by have:=RR.o.1;rw[aY,List.take_length] at this;exact this) (zero_le _),by rw[←aY];exact RR.o.2⟩)
     have cS:=@Hd (∀j,(Value.slice qa G.length qc).ownBlock=some j→w.heap.size≤j) (λj d=>v.o.2.1 j (RX.o j (by rw[aY];exact d)))
     have GL:=@Hd (G.length≤32) (by rw[GT.o];have:=ak.o;omega)
     have ax:=Hd ag
     have cE:=Hd v.o.1.facts.2.2.2.2.1
     clear ag RR RX bA bV a8 aO hk BW
     subst aY
     have p1:=v.o.cells.1
     have⟨K0,K1,K2⟩:=tZ3
     go_wp2_with ((first|((with_reducible refine zt ?_);clear K0;refine zg rfl (yv (t:=65) rfl rfl (zja ba I.length bc _)) ?_)|(clear K1;go_at_call 24;refine(zaI HG.o v.o.1 (le_trans bt.o (by decide)) BQ.o).mono ?_;rintro e w8 ⟨rfl,X8,N⟩;rw[CE.o];have m8:=N.mined CE.o;rw[hr] at m8;have M8:=Hd m8;have p2:=N.facts.2.1.cell v.o.cells.1 v.o.2.2.1;have p3:=N.facts.2.1.cell v.o.cells.2 v.o.2.2.1;clear N m8 p1)|(clear K2;go_at_call 25;refine(Qx HG.o M8.o (by decide) (fv:=.slice none 0 0) (first:=[]) (λw' _=>zer w') (by decide) (now:=9) (by decide)).mono ?_;rintro e w9 ⟨gv,rfl,D,N1,T5,X5,cv,n9⟩;rw[cu] at n9;obtain⟨AA,bQ⟩:∃AA:PB,AA={A with S:=r.S,bs:=A.bs++[r.d],L:=L1}:=⟨_,rfl⟩;rw[←bQ] at n9;have bg:=Hd bQ;rw[ax.o.out,hK,hG] at D;obtain⟨GG,bS⟩:∃GG,K.filter (λx=>decide (x∈G))=GG:=⟨_,rfl⟩;rw[bS] at D;have aS:=Hd bS;obtain⟨ga,gc,da⟩:=D.slice.arg.form;subst da;have bn:=@Hd (qg No w9 (.slice ga GG.length gc) GG) (⟨yu D (zero_le _),λ_ _ e=>e⟩);have bk:=Hd (v.o.next n9);have bN:=Hd (WR.o.next n9);have bq:=Hd (MR.o.next n9);have cU:=@Hd (N1≤32) (by simp only[List.length_nil] at cv;have:=cE.o;omega);clear n9 D cv bQ bS p2 p3));go_frame)
     clear v WR MR BR M8 BQ
     have af:=Hd (yr bk.o.2.2.2)
     have al:=Hd (λj (d:(Value.slice ra K.length rc).ownBlock=some j)=>(bN.o.1.lt j d).2)
     have aF:=Hd (λj (d:(Value.slice qa G.length qc).ownBlock=some j)=>(bq.o.1.lt j d).2)
     have aH:=Hd (λj (d:(Value.slice ga GG.length gc).ownBlock=some j)=>(bn.o.1.lt j d).2)
     obtain⟨z,aV⟩:∃z,z=w9.heap.size:=⟨_,rfl⟩
     rw[←aV] at af al aF aH
     have aA:=@Hd (z≤w9.heap.size) (by omega)
     have dv:=aT.o
     clear aV
     go_wp2_with fail
     go_loopw [23,24,108] (λdn dp iv wr=>∃(k:Nat) (X:Nat→Prop) (O:Option Addr) (p U:Nat) (Q:Option Addr) (q V:Nat),iv=.int .i64 k∧k≤K.length∧dn=.slice O p U∧dp=.slice Q q V∧FlB w wr c7 pc pp T5 X N1 AA∧z≤wr.heap.size∧p=((K.take k).filter (λy=>decide (y∉G))).length∧xS T5 wr z 45 32 (.slice O p U) p (((K.take k).filter (λy=>decide (y∉G))).flatMap zd)∧(∀j,(Value.slice O p U).ownBlock=some j→X j)∧q=((K.take k).filter (λy=>decide (y∈G))).length∧xS T5 wr z 45 32 (.slice Q q V) q (((K.take k).filter (λy=>decide (y∈G))).flatMap zd)∧(∀j,(Value.slice Q q V).ownBlock=some j→X j)∧(∀j,(Value.slice O p U).ownBlock=some j→(Value.slice Q q V).ownBlock=some j→False)∧qg T5 wr (.slice ra K.length rc) K∧qg T5 wr (.slice qa G.length qc) G∧qg No wr (.slice ga GG.length gc) GG) (λ_ _ iv _=>K.length-(intOf iv).toNat)
     case atStart=>exact⟨0,_,none,0,0,none,0,0,rfl,zero_le _,rfl,rfl,bk.o,aA.o,rfl,⟨World.ownsRow_nil _ _ _ _,λj h=>(by cases h)⟩,λj h=>(by cases h),rfl,⟨World.ownsRow_nil _ _ _ _,λj h=>(by cases h)⟩,λj h=>(by cases h),λj h _=>(by cases h),bN.o,bq.o,bn.o⟩
     case round=>
      clear bk aA bN bq bn
      obtain⟨k,X,O,p,U,Q,q,V,rfl,hk,rfl,rfl,h0,h1,h2,h3,h4,h5,h6,h7,h8,h9,cr,ct⟩:=hrel
      rename World=>wr
      have v:=Hd h0
      have BW:=Hd h1
      have aL:=Hd h2
      have av:=Hd h3
      have bF:=Hd h4
      have aM:=Hd h5
      have Y:=Hd h6
      have bG:=Hd h7
      have DJ:=Hd h8
      have WR:=Hd h9
      have GW:=Hd cr
      have GN:=Hd ct
      clear h0 h1 h2 h3 h4 h5 h6 h7 h8 h9 cr ct
      by_cases aO:k<K.length
      ·have i2:(k:Int)<(K.length:Int):=by omega
       obtain⟨y,hy⟩:∃y,K[k]? =some y:=⟨_,List.getElem?_eq_getElem aO⟩
       obtain⟨g2,dq,df,bU,-⟩:=yZ (f:=zd) (by decide) (λy hy=>zu (aK.o y hy)) WR.o.1 hy
       cases df
       have R1:=Hd bU
       have bO:=Hd (aK.o y (mem_of_getElem? hy))
       have YL:=Hd (zu bO.o)
       have K4:=@Hd (k≤32) (by have:=aT.o;omega)
       have ca:=@Hd (p≤k) (by rw[aL.o];refine le_trans (length_filter_le _ _) ?_;rw[List.length_take];omega)
       have cb:=@Hd (q≤k) (by rw[aM.o];refine le_trans (length_filter_le _ _) ?_;rw[List.length_take];omega)
       have aj:K.take (k+1)=K.take k++[y]:=by rw[take_add_one,hy];rfl
       by_cases N:y∈G
       ·have aJ:=@Hd ((K.take (k+1)).filter (λy=>decide (y∈G))=(K.take k).filter (λy=>decide (y∈G))++[y]) (by rw[aj,filter_append,List.filter_cons_of_pos (by simpa using N),List.filter_nil])
        have aI:=@Hd ((K.take (k+1)).filter (λy=>decide (y∉G))=(K.take k).filter (λy=>decide (y∉G))) (by rw[aj,filter_append,List.filter_cons_of_neg (by simpa using N),List.filter_nil,List.append_nil])
        have HM:=Hd N
        clear N hy bU aj
        have⟨K0,K1,K2,K3,K4,K5,K6⟩:=tZ7
        go_wp2_with ((first|((with_reducible refine zt ?_);first|(clear K0;refine znV rfl rfl rfl R1.o YL.o ?_)|(clear K2;refine znV rfl rfl rfl RH.o YL.o ?_)|(clear K4;refine znV rfl rfl rfl bB.o YL.o ?_)|(clear K5;refine zg rfl (zK (t:=37) rfl rfl y7 xD rfl (by decide) (by decide) YL.o) ?_)|(clear K6;at_builtin;refine zJ rfl rfl rfl rfl au.o ?_))|((with_reducible refine zr ?_);clear K1;refine zn3 (w:=wr) (cs:=zd y) rfl rfl rfl rfl YL.o zE ?_;have RH:=Hd (zq wr (zd y) 45);have o:=Hd ((frN wr).alloc (.cells (zd y).toArray 45));generalize wr.heap.size=dm at RH⊢;generalize wr.alloc (.cells (zd y).toArray 45)=w1 at*;have aB:=Hd (le_trans BW.o o.o.size);have a:=Hd (v.o.fr0 o.o);have ah:=Hd (av.o.fr0 o.o);have ai:=Hd (Y.o.fr0 o.o);have an:=Hd (WR.o.fr0 o.o);have W:=Hd (GW.o.fr0 o.o);have aG:=Hd (GN.o.fr0 o.o);clear BW v av Y WR GW GN)|(clear K3;go_at_call 20;refine(Jv w1 (qg.ids W.o (λx h=>bo.o x h)) (by have:=GL.o;omega) y bO.o).mono ?_;rintro e w2 ⟨b,rfl,hb,u⟩;obtain rfl:b=true:=hb.2 HM.o;have aC:=Hd (le_trans aB.o u.size);have s:=Hd (a.o.fr0 u);have E:=Hd (ah.o.fr0 u);have H:=Hd (ai.o.fr0 u);have ay:=Hd (an.o.fr0 u);have aw:=Hd (W.o.fr0 u);have bl:=Hd (aG.o.fr0 u);have bB:=Hd (za RH.o u id);clear aB a ah ai an W aG RH;clear u hb;obtain⟨v4,w4,a1,a2,C,-,a5⟩:=yA (P:=prog) w2 z 37 37 45 32 32 _ y7 xA rfl (by decide) H.o.1 (zd y) YL.o zE (by have:=K4.o;have:=cb.o;omega) (by have:=K4.o;have:=cb.o;unfold maxLen;omega) aC.o;obtain⟨Z,aa,aP⟩:=a2.slice.arg.form;subst aP;obtain⟨X4,ao,ar,aq,aQ⟩:=s.o.app C bG.o H.o.2 (λj d=>by have:=(H.o.1.lt j d).1;have:=af.o;omega) a5 (λj d=>(a2.lt j d).2);have GE:=@Hd (∀j,(Value.slice Q q V).ownBlock=some j→z≤j) (λj d=>(H.o.1.lt j d).1);have au:=Hd a1;have ab:=Hd ao;have bH:=Hd ar;have bE:=@Hd (xS T5 w4 z 45 32 (.slice Z (q+1) aa) (q+1) (((K.take (k+1)).filter (λy=>decide (y∈G))).flatMap zd)) (⟨by rw[aJ.o];simpa using a2,aq⟩);have bd:=Hd (le_trans aC.o C.size);have bC:=@Hd (q+1=((K.take (k+1)).filter (λy=>decide (y∈G))).length) (by rw[aJ.o,length_append,←aM.o];rfl);have bL:=Hd (xS.app ay.o C al.o GE.o);have bp:=Hd (xS.app aw.o C aF.o GE.o);have bm:=Hd (xS.app bl.o C aH.o GE.o);have bD:=@Hd (xS T5 w4 z 45 32 (.slice O p U) p (((K.take (k+1)).filter (λy=>decide (y∉G))).flatMap zd)) (by rw[aI.o];exact⟨zb E.o.1 C (λj d e=>DJ.o j d e),E.o.2⟩);have bI:=@Hd (∀j,(Value.slice O p U).ownBlock=some j→X4 j) (λj d=>aQ.1 j (bF.o j d));have bf:=@Hd (∀j,(Value.slice O p U).ownBlock=some j→(Value.slice Z (q+1) aa).ownBlock=some j→False) (λj h1 h2=>(a5 j h2).elim (λh=>DJ.o j h1 h) (λh=>by have:=(E.o.blk j h1);omega));clear a1 a2 C a5 ao ar aq aQ));go_frame)
        go_roundw
        case rel=>exact⟨k+1,_,O,p,U,Z,q+1,aa,by go_num,by omega,rfl,rfl,ab.o,bd.o,by rw[aI.o];exact aL.o,bD.o,bI.o,bC.o,bE.o,bH.o,bf.o,bL.o,bp.o,bm.o⟩
        case measure=>simp[intOf];omega
       ·have aI:=@Hd ((K.take (k+1)).filter (λy=>decide (y∉G))=(K.take k).filter (λy=>decide (y∉G))++[y]) (by rw[aj,filter_append,List.filter_cons_of_pos (by simpa using N),List.filter_nil])
        have aJ:=@Hd ((K.take (k+1)).filter (λy=>decide (y∈G))=(K.take k).filter (λy=>decide (y∈G))) (by rw[aj,filter_append,List.filter_cons_of_neg (by simpa using N),List.filter_nil,List.append_nil])
        have HM:=Hd N
        clear N hy bU aj
        have⟨K0,K1,K2,K3,K4,K5,K6⟩:=tZ7
        go_wp2_with ((first|((with_reducible refine zt ?_);first|(clear K0;refine znV rfl rfl rfl R1.o YL.o ?_)|(clear K2;refine znV rfl rfl rfl RH.o YL.o ?_)|(clear K4;refine znV rfl rfl rfl bB.o YL.o ?_)|(clear K5;refine zg rfl (zK (t:=37) rfl rfl y7 xD rfl (by decide) (by decide) YL.o) ?_)|(clear K6;at_builtin;refine zJ rfl rfl rfl rfl au.o ?_))|((with_reducible refine zr ?_);clear K1;refine zn3 (w:=wr) (cs:=zd y) rfl rfl rfl rfl YL.o zE ?_;have RH:=Hd (zq wr (zd y) 45);have o:=Hd ((frN wr).alloc (.cells (zd y).toArray 45));generalize wr.heap.size=dm at RH⊢;generalize wr.alloc (.cells (zd y).toArray 45)=w1 at*;have aB:=Hd (le_trans BW.o o.o.size);have a:=Hd (v.o.fr0 o.o);have ah:=Hd (av.o.fr0 o.o);have ai:=Hd (Y.o.fr0 o.o);have an:=Hd (WR.o.fr0 o.o);have W:=Hd (GW.o.fr0 o.o);have aG:=Hd (GN.o.fr0 o.o);clear BW v av Y WR GW GN)|(clear K3;go_at_call 20;refine(Jv w1 (qg.ids W.o (λx h=>bo.o x h)) (by have:=GL.o;omega) y bO.o).mono ?_;rintro e w2 ⟨b,rfl,hb,u⟩;obtain rfl:b=false:=Bool.eq_false_iff.2 (λh=>HM.o (hb.1 h));have aC:=Hd (le_trans aB.o u.size);have s:=Hd (a.o.fr0 u);have E:=Hd (ah.o.fr0 u);have H:=Hd (ai.o.fr0 u);have ay:=Hd (an.o.fr0 u);have aw:=Hd (W.o.fr0 u);have bl:=Hd (aG.o.fr0 u);have bB:=Hd (za RH.o u id);clear aB a ah ai an W aG RH;clear u hb;obtain⟨v4,w4,a1,a2,C,-,a5⟩:=yA (P:=prog) w2 z 37 37 45 32 32 _ y7 xA rfl (by decide) E.o.1 (zd y) YL.o zE (by have:=K4.o;have:=ca.o;omega) (by have:=K4.o;have:=ca.o;unfold maxLen;omega) aC.o;obtain⟨Z,aa,aP⟩:=a2.slice.arg.form;subst aP;obtain⟨X4,ao,ar,aq,aQ⟩:=s.o.app C bF.o E.o.2 (λj d=>by have:=(E.o.1.lt j d).1;have:=af.o;omega) a5 (λj d=>(a2.lt j d).2);have GE:=@Hd (∀j,(Value.slice O p U).ownBlock=some j→z≤j) (λj d=>(E.o.1.lt j d).1);have au:=Hd a1;have ab:=Hd ao;have bH:=Hd ar;have bE:=@Hd (xS T5 w4 z 45 32 (.slice Z (p+1) aa) (p+1) (((K.take (k+1)).filter (λy=>decide (y∉G))).flatMap zd)) (⟨by rw[aI.o];simpa using a2,aq⟩);have bd:=Hd (le_trans aC.o C.size);have bC:=@Hd (p+1=((K.take (k+1)).filter (λy=>decide (y∉G))).length) (by rw[aI.o,length_append,←aL.o];rfl);have bL:=Hd (xS.app ay.o C al.o GE.o);have bp:=Hd (xS.app aw.o C aF.o GE.o);have bm:=Hd (xS.app bl.o C aH.o GE.o);have bD:=@Hd (xS T5 w4 z 45 32 (.slice Q q V) q (((K.take (k+1)).filter (λy=>decide (y∈G))).flatMap zd)) (by rw[aJ.o];exact⟨zb H.o.1 C (λj d e=>DJ.o j e d),H.o.2⟩);have bI:=@Hd (∀j,(Value.slice Q q V).ownBlock=some j→X4 j) (λj d=>aQ.1 j (bG.o j d));have bf:=@Hd (∀j,(Value.slice Z (p+1) aa).ownBlock=some j→(Value.slice Q q V).ownBlock=some j→False) (λj h1 h2=>(a5 j h1).elim (λh=>DJ.o j h h2) (λh=>by have:=(H.o.blk j h2);omega));clear a1 a2 C a5 ao ar aq aQ));go_frame)
        go_roundw
        case rel=>exact⟨k+1,_,Z,p+1,aa,Q,q,V,by go_num,by omega,rfl,rfl,ab.o,bd.o,bC.o,bE.o,bH.o,by rw[aJ.o];exact aM.o,bD.o,bI.o,bf.o,bL.o,bp.o,bm.o⟩
        case measure=>simp[intOf];omega
      ·have i2:¬(k:Int)<(K.length:Int):=by omega
       have aN:K.take k=K:=List.take_of_length_le (by omega)
       obtain⟨R,hR⟩:∃R,R=K.filter (λy=>decide (y∉G)):=⟨_,rfl⟩
       have RL:p=R.length:=by rw[aL.o,aN,hR]
       have OL:q=GG.length:=by rw[aM.o,aN,←aS.o]
       have RZ:=@Hd (qg T5 wr (.slice O R.length U) R) (⟨yu (by have:=av.o.1;rw[aN,←hR,RL] at this;exact this) (zero_le _),by rw[←RL];exact av.o.2⟩)
       have OZ:=@Hd (qg T5 wr (.slice Q GG.length V) GG) (⟨yu (by have:=Y.o.1;rw[aN,aS.o,OL] at this;exact this) (zero_le _),by rw[←OL];exact Y.o.2⟩)
       clear aL av aM Y
       subst RL
       subst OL
       have cP:=@Hd (AA.bs=A.bs++[r.d]) (by rw[bg.o])
       have cR:=@Hd (AA.S=r.S) (by rw[bg.o])
       have bu:=@Hd (AA.L=L1) (by rw[bg.o])
       have EA:=@Hd (zR AA.L=R) (by rw[bu.o,hR,←hK,←hG];exact ax.o.rest)
       have b9:=@Hd (∀x∈GG,zV x) (λx h=>by rw[←aS.o] at h;exact aK.o x (List.mem_filter.1 h).1)
       have cc:=@Hd (∀x∈R,zV x) (λx h=>by rw[hR] at h;exact aK.o x (List.mem_filter.1 h).1)
       have lR:R.length≤32:=by rw[hR];exact le_trans (length_filter_le _ _) aT.o
       have lG:GG.length≤32:=by rw[←aS.o];exact le_trans (length_filter_le _ _) aT.o
       have BK:=@Hd (XY A.S (zS A.bs) AA.L I ((9:Nat):Int)=[]) (by rw[bu.o,←ae.o];exact ax.o.back)
       have BA:=@Hd (zR (Zo A.S (zS A.bs) AA.L I ((9:Nat):Int))=G++R) (by rw[bu.o,hR,←ae.o,←hG,←hK];exact ax.o.all)
       have UN:=@Hd (xP r.d.chg AA.S=A.S) (by rw[cR.o];exact ax.o.undo)
       have DT:=@Hd (r.d.blk.txs=I) (ax.o.txs.trans ae.o)
       have NN:=@Hd (N1≤800) (le_trans cU.o (by decide))
       have p1:=v.o.cells
       clear aN hR aO hk bF bG DJ WR BW
       have⟨K0,K1,K2,K3,K4,K5,K6,K7,K8⟩:=tZ9
       go_wp2_with ((first|(clear K0;go_at_call 18;refine(jS wr (qg.ids GN.o b9.o) (qg.ids OZ.o b9.o) (by omega) (by omega)).mono ?_;rintro e w1 ⟨b,rfl,hb,f1⟩;obtain rfl:b=true:=hb.2 rfl;have a:=Hd (v.o.fr0 f1);have W:=Hd (GW.o.fr0 f1);have cj:=Hd (RZ.o.fr0 f1);clear v GW RZ;clear hb f1 p1 GN OZ;have p1:=a.o.cells)|(clear K1;go_at_call 16;refine(vJ a.o.1 (le_trans NN.o (by decide))).mono ?_;rintro e w2 ⟨v2,rfl,D⟩;have NW:=Hd (qg.new a.o.1 D);have s:=Hd (a.o.fr0 D.2);have aw:=Hd (W.o.fr0 D.2);have bJ:=Hd (cj.o.fr0 D.2);clear a W cj;clear D p1)|(clear K2;go_at_call 18;refine(jS w2 (qg.ids NW.o s.o.1.pids) (qg.ids bJ.o cc.o) (by rw[EA.o];omega) (by omega)).mono ?_;rintro e w3 ⟨b,rfl,hb,f3⟩;obtain rfl:b=true:=hb.2 EA.o;have B:=Hd (s.o.fr0 f3);have cN:=Hd (aw.o.fr0 f3);have c0:=Hd (bJ.o.fr0 f3);clear s aw bJ;clear hb f3 NW;have p1:=B.o.cells.1)|(clear K3;go_at_call 26;refine(zju B.o.1 cP.o (le_trans bt.o (by decide))).mono ?_;rintro e w4 ⟨ds,c9,rfl,N,bT⟩;obtain⟨pa,aZ,ta,tc,rfl⟩:=bT.now.form;have KD:=Hd bT;have M4:=Hd N;have d0:=N.facts.2.1.cell B.o.cells.1 B.o.2.2.1;have d1:=N.facts.2.1.cell B.o.cells.2 B.o.2.2.1;clear N bT p1)|(clear K5;go_at_call 25;refine(Qx HG.o (M4.o.fr0 FA.o) (le_trans NN.o (by decide)) KT.o (by rw[DT.o];have:=ak.o;omega) (now:=9) (by decide)).mono ?_;rintro e w6 ⟨gv,rfl,D,N2,T6,X6,cw,n6⟩;rw[UN.o,DT.o] at n6 D;rw[BK.o] at D;obtain⟨xa,xc,rfl⟩:=jX (m:=0) D rfl;obtain⟨AB,bR⟩:∃AB:PB,AB={AA with S:=A.S,bs:=A.bs,L:=Zo A.S (zS A.bs) AA.L I ((9:Nat):Int)}:=⟨_,rfl⟩;rw[←bR] at n6;have bh:=@Hd (zR AB.L=G++R) (by rw[bR];exact BA.o);have ad:=Hd (B.o.next n6);have b7:=Hd (cN.o.next n6);have c3:=Hd (c0.o.next n6);have cT:=@Hd (N2≤1000) (by rw[DT.o] at cw;have h1:=ak.o;have h2:=B.o.1.facts.2.2.2.2.1;omega);clear n6 D cw bR e0 e1 eT;have p6:=ad.o.cells.2)|(clear K6;go_at_call 16;refine(vJ ad.o.1 cT.o).mono ?_;rintro e w7 ⟨v7,rfl,D⟩;have M:=Hd (ad.o.fr0 D.2);have cO:=Hd (b7.o.fr0 D.2);have c4:=Hd (c3.o.fr0 D.2);have N7:=Hd D.1;obtain⟨v8,w8,a1,a2,C,-⟩:=zfY cO.o.1 c4.o.1 cc.o (by have:=GL.o;omega) (zero_le _) 37;obtain⟨dy,dz,dh⟩:=a2.slice.arg.form;subst dh;have au:=Hd a1;have cF:=Hd a2;have N8:=Hd (zb N7.o C (λj d e=>by have h1:=(b7.o.1.lt j e).2;have h2:=(N7.o.lt j d).1;omega));have F8:=Hd (M.o.fr.trans C (λi hi e=>by have:=cS.o i e;omega));have a6:=Hd M.o.1.pids;clear a1 a2 C D p6)|(clear K8;go_at_call 18;refine(jS w8 (y4.own N8.o a6.o) (y4.own (l:=G++R) (by rw[length_append];exact cF.o) (by rw[←bh.o];exact a6.o)) (by rw[bh.o,length_append];have:=GL.o;omega) (by rw[length_append];have:=GL.o;omega)).mono ?_;rintro e w9 ⟨b,rfl,hb,f9⟩;obtain rfl:b=true:=hb.2 bh.o;have F9:=Hd (F8.o.trans0 f9);clear hb f9)|((with_reducible refine zr ?_);clear K4;refine zi rfl (zj (w:=w4) (ty:=65) (cs:=(VD r.d.blk.tag (.slice pa r.d.blk.pay.length aZ) (.slice ta r.d.blk.txs.length tc))) rfl rfl rfl rfl vz (jC rfl rfl rfl)) ?_;have FA:=Hd ((frN w4).alloc (.cells (VD r.d.blk.tag (.slice pa r.d.blk.pay.length aZ) (.slice ta r.d.blk.txs.length tc)).toArray 65));have RN:=Hd (zq w4 (VD r.d.blk.tag (.slice pa r.d.blk.pay.length aZ) (.slice ta r.d.blk.txs.length tc)) 65);generalize dt:w4.heap.size=qb at*;generalize w4.alloc (.cells (VD r.d.blk.tag (.slice pa r.d.blk.pay.length aZ) (.slice ta r.d.blk.txs.length tc)).toArray 65)=w5 at*;have e0:=FA.o.cell d0 id;have e1:=FA.o.cell d1 id;have eT:w5.cell? ⟨qb,2,none⟩=some (.slice ta r.d.blk.txs.length tc):=(by simpa using RN.o 2 _ rfl);have KT:=@Hd (Kept c9 w5 (λw=>j7 w (.slice ta r.d.blk.txs.length tc) r.d.blk.txs)) (λw' f=>zg1 ((KD.o.on FA.o) w' f));clear d0 d1)|((with_reducible refine zt ?_);clear K7;at_builtin;refine YH rfl rfl rfl rfl au.o ?_));go_frame)
       go_ret
       exact⟨rfl,F9.o⟩
  ·go_ret
   exact⟨rfl,F2.o⟩
 ·have j1:decide ((256:Int)<(first.length:Int))=true:=by simp;omega
  go_enter Tryz.func4,Tryz.ntmps4
  have⟨K0,K1⟩:=tZ2
  go_wp2_with ((first|(clear K0;go_at_call 11;refine b8.o.mono ?_;rintro e w1 ⟨rfl,f1⟩;have F1:=Hd f1;clear f1)|(clear K1;go_at_call 12;refine(xC w1 (HL.o.keep F1.o) (HX.o.keep0 F1.o)).mono ?_;rintro e w2 ⟨⟨g,rfl,bP,hz⟩,u⟩;have F2:=Hd (F1.o.trans0 u);clear hz u;rcases bP with rfl|rfl));go_frame)
  ·go_ret
   exact⟨rfl,F2.o⟩
  ·go_ret
   exact⟨rfl,F2.o⟩
end Go.Proofs.YtbcllfjmabiafaaGreatDoor
