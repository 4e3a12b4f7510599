/- PoolApart: the walk. -/
import Derived.Test.YtbcllfjmabiafaaGreatDoorPG27
import Derived.Test.YtbcllfjmabiafaaGreatDoorPG29
set_option linter.unusedVariables false
set_option linter.unusedSimpArgs false
set_option linter.unnecessarySimpa false
set_option linter.all false
set_option maxRecDepth 20000
set_option maxHeartbeats 16000000
namespace Go.Proofs.YtbcllfjmabiafaaGreatDoor
open Go Go.RowKit Go.Maps Go.MapKept
open Go.Proofs.Tryz(prog)
open List(mem_of_getElem? length_append length_take)
open Nat(zero_le le_trans)
theorem zhK {w:World} (hg:vp w) {fv lv:Value} {first:List yC} {l:List vm} (hl:xg w fv first) (hx:vK w lv l):
  Calls prog 6 #[fv,lv] w λe w'=>e=.returned (.bool true)∧Fr No w w':=by
 obtain⟨dH,uH,rH⟩:=jq
 obtain⟨dT,uT,rT⟩:=zbV
 obtain⟨dO,uO,rO⟩:=YT
 have zw:=jZ
 have zT:=show ∀w,(zeroValue 27).run prog w=.ok (.agg zcG.toArray) w from Zp
 have zh:=yJ
 obtain⟨fa,fc,rfl⟩:=hl.2.form
 obtain⟨la,lc,rfl⟩:=hx.form
 have HG:=Hd hg
 have HL:=Hd hl
 have HX:=Hd hx
 have a6:=Hd (vT hg)
 clear hg hl hx
 have zP:=vr
 have zO:=y3
 have zC:=ZU
 by_cases hF:first.length≤256
 ·have j1:decide ((256:Int)<(first.length:Int))=false:=by simp;omega
  go_enter Tryz.func6,Tryz.ntmps6
  have⟨x,z⟩:=tZ2
  go_wp2_with ((first|(clear x;go_at_call 11;refine a6.o.mono ?_;rintro e w1 ⟨rfl,f1⟩;have O:=Hd f1;clear f1)|(clear z;go_at_call 12;refine(xC w1 (HL.o.keep O.o) (HX.o.keep0 O.o)).mono ?_;rintro e w2 ⟨⟨g,rfl,aK,hz⟩,Y⟩;have GZ:=Hd hz;have F2:=Hd (O.o.trans0 Y);clear hz Y;rcases aK with rfl|rfl));go_frame)
  ·have aD:=Hd (GZ.o (by first|trivial|rfl))
   clear GZ
   have⟨x,z,K2,K3⟩:=tZ4
   go_wp2_with ((first|(clear x;go_at_call 14;refine(JS F2.o (HL.o.keep F2.o) hF).mono ?_;rintro e w3 ⟨pc,pp,T,rfl,bJ,cB,f3⟩;have W3:=Hd (bJ T (λ_ h=>h) (λ_ h=>.inl h));have aI:=@Hd (∀j,T j→w.heap.size≤j) (λj m=>(W3.o.facts.1 j m).1);clear bJ cB f3)|(clear z;go_at_call 15;refine(YU HG.o (W3.o.more (by decide)) aI.o rfl HX.o aD.o.2.1 aD.o.2.2).mono ?_;rintro e w4 ⟨rfl,T4,X4,A,n4,cA,cE⟩;have n:=Hd (FlB.begun n4 aI.o W3.o.facts.2.2.1.size);clear n4 cA cE)|(clear K3;go_at_call 16;refine(vJ n.o.1 (by decide)).mono ?_;rintro e w6 ⟨v6,rfl,ho⟩;have r:=Hd (n.o.fr0 ho.2);have R:=Hd (qg.new n.o.1 ho);obtain⟨ra,rc,aN⟩:=ho.1.slice.arg.form;subst aN;clear ho p5)|((with_reducible refine zr ?_);clear K2;refine zi rfl (zj (w:=w4) (ty:=34) (cs:=xM pc pp) rfl rfl rfl rfl qR (XV rfl rfl)) ?_;generalize w4.heap.size=c7 at*;generalize w4.alloc (.cells (xM pc pp).toArray 34)=w5 at*;have p5:=n.o.cells));go_frame)
   have ax:=Hd r.o.1.facts.2.2.2.1
   have LK:=@Hd ((zR A.L).length=A.L.length) (xd _)
   have b4:=@Hd ((zR A.L).length≤32) (by rw[xd];exact r.o.1.facts.2.2.2.2.1)
   have ba:=Hd r.o.1.pids
   have b3:=@Hd (∀(i:Nat) e,A.L[i]? =some e→(zR A.L)[i]? =some e.id) (λi e h=>by unfold zR;rw[List.getElem?_map,h];rfl)
   have b8:=Hd ax.o.pts
   have I8:=@Hd (∀e∈A.L,e.tx.ins.length≤8∧e.tx.outs.length≤8) (λe Z=>(xe.1 (jd (ax.o.ent e Z).1).1).2)
   clear n W3 aI aD
   generalize hK:zR A.L=K at*
   have cM:=b4.o
   obtain⟨N,cx⟩:∃N,N=w6.heap.size:=⟨_,rfl⟩
   have aV:=@Hd (c7<N) (by have:=yr r.o.2.2.2;omega)
   have bt:=Hd (λj (m:(Value.slice ra K.length rc).ownBlock=some j)=>show j<N from by have:=(R.o.1.lt j m).2;omega)
   have aS:=@Hd (N≤w6.heap.size) (by omega)
   clear cx hK
   go_wp2_with fail
   go_loopw [7,44] (λrv I wr=>∃(k:Nat) (X:Nat→Prop) (C:Option Addr) (a D:Nat),I=.int .i64 k∧k≤K.length∧rv=.slice C a D∧a=(Vr (A.L.take k)).length∧FlB w wr c7 pc pp T4 X 132 A∧N≤wr.heap.size∧xS T4 wr N 56 33 (.slice C a D) a ((Vr (A.L.take k)).flatMap zm)∧(∀j,(Value.slice C a D).ownBlock=some j→X j)∧qg T4 wr (.slice ra K.length rc) K∧∀q∈Vr (A.L.take k),q.ok) (λ_ I _=>K.length-(intOf I).toNat)
   case atStart=>exact⟨0,_,none,0,0,rfl,zero_le _,rfl,rfl,r.o,aS.o,⟨World.ownsRow_nil _ _ _ _,λj h=>(by cases h)⟩,λj h=>(by cases h),R.o,λq B=>by simp[Vr] at B⟩
   case round=>
    clear r aS R
    obtain⟨k,X,C,a,D,rfl,hk,rfl,ai,h0,h1,h2,h3,h4,h5⟩:=hrel
    rename World=>wr
    have L:=Hd h0
    have BW:=Hd h1
    have RR:=Hd h2
    have RX:=Hd h3
    have WR:=Hd h4
    have bc:=Hd h5
    have QN:=Hd ai
    clear h0 h1 h2 h3 h4 h5 ai
    by_cases hlt:k<K.length
    ·have i2:(k:Int)<(K.length:Int):=by omega
     obtain⟨e,hek⟩:∃e,A.L[k]? =some e:=⟨_,List.getElem?_eq_getElem (by rw[←LK.o];exact hlt)⟩
     have H:=b3.o k e hek
     have Z:=mem_of_getElem? hek
     obtain⟨g2,cI,cF,bH,-⟩:=yZ (f:=zd) (by decide) (λy H=>zu (ba.o y H)) WR.o.1 H
     cases cF
     have R1:=Hd bH
     have aC:=Hd (ba.o e.id (mem_of_getElem? H))
     have EL:=Hd (zu aC.o)
     have HE:=Hd Z
     have SM:=Hd (L.o.1.small e Z)
     have aB:=Hd (ax.o.ent e Z)
     have FB:=Hd (jd aB.o.1).1
     have IX:=@Hd (idH e.tx=e.id) (aB.o.2.1.symm)
     have CK:=@Hd (idE e.tx=0) (by unfold idE;rw[if_pos FB.o])
     have aE:=Hd (Yw (t:=e.tx) (L.o.1.txok e Z).2 SM.o.2.1)
     have a8:=@Hd ((yN e.tx).length=e.tx.outs.length) (qZ _ _)
     have aX:=Hd (λc (hc:c∈yN e.tx)=>ax.o.finds Z hc)
     have af:=Hd (zj8 k hek)
     have a7:=Hd (zlD b8.o (k+1))
     have b5:=@Hd ((Vr (A.L.take k)).length≤256) (by
      have h1:=zd4 (f:=λe:zL=>z6 e.tx) (b:=8) (l:=A.L.take k) (λe Z=>by rw[jP];exact(I8.o e (List.mem_of_mem_take Z)).1)
      have h2:(A.L.take k).length≤32:=by rw[length_take];have:=LK.o;omega
      have h3:(Vr (A.L.take k)).length≤8*(A.L.take k).length:=h1
      omega)
     have e8:=(I8.o e Z).1
     have o8:=(I8.o e Z).2
     have b1:=Hd (λj (m:(Value.slice C a D).ownBlock=some j)=>(RR.o.1.lt j m).2)
     obtain⟨W,bE⟩:∃W,W=wr.heap.size:=⟨_,rfl⟩
     have bf:=@Hd (∀j,(Value.slice C a D).ownBlock=some j→j<W) (λj m=>by have:=b1.o j m;omega)
     have F:=Hd (frN wr)
     have B0:=Hd bE
     clear H bH Z hek b1 bE
     have⟨x,z,K2,K3,K4,K5,K6,K7,K8,K9,bV,bW,bX,bY,bZ⟩:=tZ15
     go_wp2_with ((first|((with_reducible refine zt ?_);first|(clear x;refine znV rfl rfl rfl R1.o EL.o ?_)|(clear K2;refine znV rfl rfl rfl RH.o EL.o ?_)|(clear K5;refine znT rfl rfl rfl RT.o rfl ?_)|(clear bY;refine znT rfl rfl rfl aG.o rfl ?_))|((with_reducible refine zr ?_);first|(clear z;refine zn3 (w:=wr) (cs:=zd e.id) rfl rfl rfl rfl EL.o zE ?_;have RH:=Hd (zq wr (zd e.id) 45);have d:=Hd ((frN wr).alloc (.cells (zd e.id).toArray 45));generalize wr.heap.size=q9 at RH⊢;generalize wr.alloc (.cells (zd e.id).toArray 45)=w1 at*;have p:=Hd (L.o.fr0 d.o);have bu:=Hd (WR.o.fr0 d.o);have bl:=Hd (RR.o.fr0 d.o);have O:=Hd (F.o.trans0 d.o);clear L WR RR F;have p1:=p.o.cells.2)|(clear K4;refine zi rfl (zj (w:=w2) (ty:=27) (cs:=[.int .u32 e.tx.ver,.slice ja e.tx.ins.length jc,.slice ka e.tx.outs.length kc]) rfl rfl rfl rfl xt (jC rfl rfl rfl)) ?_;have RT:=Hd (qI w2 e.tx.ver (.slice ja e.tx.ins.length jc) (.slice ka e.tx.outs.length kc)).2.2.2;have d:=Hd ((frN w2).alloc (.cells #[.int .u32 e.tx.ver,.slice ja e.tx.ins.length jc,.slice ka e.tx.outs.length kc] 27));generalize bG:w2.heap.size=s at RT⊢;generalize w2.alloc (.cells #[.int .u32 e.tx.ver,.slice ja e.tx.ins.length jc,.slice ka e.tx.outs.length kc] 27)=w3 at*;have Z2:=@Hd (W≤s∧s<w3.heap.size) (⟨by have:=B0.o;have:=F2.o.size;omega,qz RT.o (by simp)⟩);clear bG;have ak:=Hd (aa.o.fr0 d.o);have bx:=Hd (bw.o.fr0 d.o);have bn:=Hd (bm.o.fr0 d.o);have F3:=Hd (F2.o.trans0 d.o);have bj:=Hd (za bh.o d.o id);have aH:=Hd (TK.o.on d.o);clear aa bw bm F2 bh TK)|(clear K7;refine zn3 (w:=w4) (cs:=zd e.id) rfl rfl rfl rfl EL.o zE ?_;have RI:=Hd (zq w4 (zd e.id) 45);have d:=Hd ((frN w4).alloc (.cells (zd e.id).toArray 45));generalize w4.heap.size=cN at RI⊢;generalize w4.alloc (.cells (zd e.id).toArray 45)=w5 at*;have Z5:=@Hd (s<w5.heap.size) (Nat.lt_of_lt_of_le Z4.o d.o.size);have al:=Hd (n.o.fr0 d.o);have az:=Hd (ay.o.fr0 d.o);have aq:=Hd (ao.o.fr0 d.o);have F5:=Hd (F4.o.trans0 d.o);have ck:=Hd (za bk.o d.o id);have ae:=Hd (av.o.on d.o);have ad:=Hd (za au.o d.o id);clear n ay ao F4 bk av au))|(clear K3;go_at_call 28;refine(zha p.o.1 HE.o).mono ?_;rintro e' w2 ⟨ts,rfl,Y,bF⟩;have TK:=Hd (bF (λj=>j<w1.heap.size) (λj h=>h));obtain⟨ja,jc,ka,kc,rfl⟩:=TK.o.now.form;have Z1:=@Hd (W≤w1.heap.size) (by have:=B0.o;have:=O.o.size;omega);have aa:=Hd (p.o.fr0 Y);have bw:=Hd (bu.o.fr0 Y);have bm:=Hd (bl.o.fr0 Y);have F2:=Hd (O.o.trans0 Y);have bh:=Hd (za RH.o Y id);clear p bu bl O RH;clear Y bF p1)|(clear K6;go_at_call 19;refine(YX (HG.o.keep0 ak.o.fr) aH.o.now).mono ?_;rintro e' w4 ⟨rfl,f4⟩;rw[CK.o,IX.o];have Z4:=@Hd (s<w4.heap.size) (Nat.lt_of_lt_of_le Z2.o.2 f4.size);have n:=Hd (ak.o.fr0 f4);have ay:=Hd (bx.o.fr0 f4);have ao:=Hd (bn.o.fr0 f4);have F4:=Hd (F3.o.trans0 f4);have bk:=Hd (za bj.o f4 id);have av:=Hd (aH.o.on f4);have au:=Hd (za RT.o f4 id);clear ak bx bn F3 bj aH RT;clear f4)|(clear bX;go_at_call 29;refine(Ql w5 ae.o.now).mono ?_;rintro e' w6 ⟨rfl,f6⟩;rw[aB.o.1];have Z6:=@Hd (s<w6.heap.size) (Nat.lt_of_lt_of_le Z5.o f6.size);have r:=Hd (al.o.fr0 f6);have R:=Hd (az.o.fr0 f6);have bo:=Hd (aq.o.fr0 f6);have F6:=Hd (F5.o.trans0 f6);have aw:=Hd (ae.o.on f6);have aG:=Hd (za ad.o f6 id);clear al az aq F5 ae ad;clear f6)|(clear bZ;go_at_call 30;refine(jO w6 aw.o.now SM.o.1).mono ?_;rintro e' w7 ⟨qv,rfl,ah,f7⟩;have QR:=Hd ah;have TO:=Hd (aw.o.now.oks.1);obtain⟨ya,yc,cD⟩:=ah.slice.arg.form;subst cD;have QB:=@Hd (∀j,(Value.slice ya e.tx.ins.length yc).ownBlock=some j→W≤j∧j<w7.heap.size) (λj m=>⟨by have:=(ah.lt j m).1;have:=B0.o;have:=F6.o.size;omega,(ah.lt j m).2⟩);have Z7:=@Hd (s<w7.heap.size) (Nat.lt_of_lt_of_le Z6.o f7.size);have aW:=Hd (r.o.fr0 f7);have bz:=Hd (R.o.fr0 f7);have bp:=Hd (bo.o.fr0 f7);have F7:=Hd (F6.o.trans0 f7);have cu:=Hd (aw.o.on f7);have bq:=Hd (za aG.o f7 id);clear r R bo F6 aw aG;clear ah f7)|((with_reducible refine yg 67 ?_);clear K8;refine yK (o:=⟨some 67,_,_,_,_,_⟩) rfl (zX (ty:=45) rfl rfl RI.o uH rH (by rw[EL.o];exact yj)) ?_)|((with_reducible refine yg 68 ?_);clear K9;refine yK (o:=⟨some 68,_,_,_,_,_⟩) rfl (zX (ty:=45) rfl rfl ck.o uH rH (by rw[EL.o];exact yj)) ?_)|((with_reducible refine yg 69 ?_);clear bV;refine yK (o:=⟨some 69,_,_,_,_,_⟩) rfl (xT.exec_neq (u:=(zd e.id).toArray) (v:=(zd e.id).toArray) rfl rfl rfl (ym aC.o) (ym aC.o) true ⟨λ_=>rfl,λ_=>rfl⟩ _) ?_)|((with_reducible refine yg 72 ?_);clear bW;refine yK (o:=⟨some 72,_,_,_,_,_⟩) rfl (zX (ty:=27) rfl rfl ad.o uT rT xt) ?_));go_frame)
     obtain⟨b2,cz⟩:∃b2,b2=w7.heap.size:=⟨_,rfl⟩
     have bs:=@Hd (Kept (λj=>j<W∨b2≤j) w7 (λw=>TxQ w e.tx [.int .u32 e.tx.ver,.slice ja e.tx.ins.length jc,.slice ka e.tx.outs.length kc])) (cu.o.step (Fr.refl _ _) (λj m h=>h.elim (λh=>by have:=Z1.o;omega) (λh=>by omega)))
     have b9:=@Hd (W≤s∧s<b2) (⟨Z2.o.1,by have:=Z7.o;omega⟩)
     have cb:=@Hd (∀j,(Value.slice ya e.tx.ins.length yc).ownBlock=some j→W≤j∧j<b2) (λj m=>by have:=QB.o j m;omega)
     have aT:=@Hd (N≤w7.heap.size) (le_trans BW.o F7.o.size)
     have aQ:=@Hd (b2≤w7.heap.size) (by omega)
     obtain⟨PS,U⟩:∃PS,PS=z6 e.tx:=⟨_,rfl⟩
     have Q:=@Hd (PS.length=e.tx.ins.length) (by rw[U];exact jP e.tx)
     have an:=@Hd (∀q∈PS,q.ok) (λq B=>by rw[U] at B;obtain⟨y,H,rfl⟩:=List.mem_map.1 B;exact TO.o y H)
     have ct:=@Hd (∀q∈PS,qN A.L q=true) (λq B=>vk.2 ⟨e,HE.o,by rw[U] at B;exact B⟩)
     have bd:=@Hd (World.ownsRow w7 0 56 33 (.slice ya e.tx.ins.length yc) e.tx.ins.length (PS.flatMap zm)) (yu (by rw[U];exact QR.o) (zero_le _))
     rw[←U] at af
     have ND:=@Hd ((Vr (A.L.take k)++PS).Nodup) (by rw[←af.o];exact a7.o)
     clear U cz QR QB Z1 Z2 Z4 Z5 Z6 Z7 a7 B0
     generalize cy:Vr (A.L.take k)=M at*
     have cK:=b5.o
     clear cy
     go_loopw [7,79] (λrv I wr=>∃(j:Nat) (X:Nat→Prop) (C:Option Addr) (a D:Nat),I=.int .i64 j∧j≤e.tx.ins.length∧rv=.slice C a D∧a=(M++PS.take j).length∧FlB w wr c7 pc pp T4 X 132 A∧N≤wr.heap.size∧b2≤wr.heap.size∧xS T4 wr N 56 33 (.slice C a D) a ((M++PS.take j).flatMap zm)∧(∀j,(Value.slice C a D).ownBlock=some j→X j)∧(∀j,(Value.slice C a D).ownBlock=some j→j<W∨b2≤j)∧qg T4 wr (.slice (some ⟨g2,0,none⟩) K.length rc) K∧World.ownsRow wr 0 56 33 (.slice ya e.tx.ins.length yc) e.tx.ins.length (PS.flatMap zm)∧World.rangeAt wr s 0 [.int .u32 e.tx.ver,.slice ja e.tx.ins.length jc,.slice ka e.tx.outs.length kc]∧Kept (λj=>j<W∨b2≤j) wr (λw=>TxQ w e.tx [.int .u32 e.tx.ver,.slice ja e.tx.ins.length jc,.slice ka e.tx.outs.length kc])) (λ_ I _=>e.tx.ins.length-(intOf I).toNat)
     case atStart=>exact⟨0,_,C,a,D,rfl,zero_le _,rfl,by simpa using QN.o,aW.o,aT.o,aQ.o,by simpa using bp.o,RX.o,λj m=>.inl (bf.o j m),bz.o,bd.o,bq.o,bs.o⟩
     case round=>
      clear aW bp bz bq aT aQ bd bs RX bf QN BW
      obtain⟨j,X,C,a,D,rfl,m,rfl,ai,h0,h1,h2,h3,h4,h5,h6,h7,h8,h9⟩:=hrel
      rename World=>wr
      have L:=Hd h0
      have BW:=Hd h1
      have bN:=Hd h2
      have RR:=Hd h3
      have RX:=Hd h4
      have RB:=Hd h5
      have WR:=Hd h6
      have QR:=Hd h7
      have RT:=Hd h8
      have TK:=Hd h9
      have ab:=@Hd (a=M.length+j) (by rw[ai,length_append,length_take,Q.o];omega)
      clear h0 h1 h2 h3 h4 h5 h6 h7 h8 h9 ai
      by_cases hjt:j<e.tx.ins.length
      ·have i4:(j:Int)<(e.tx.ins.length:Int):=by omega
       obtain⟨q,B⟩:∃q,PS[j]? =some q:=⟨_,List.getElem?_eq_getElem (by rw[Q.o];exact hjt)⟩
       obtain⟨g5,bA,aM,aj,-⟩:=yZ (f:=zm) (by decide) (λy H=>zW (an.o y H)) QR.o B
       cases aM
       have R5:=Hd aj
       have aF:=Hd (an.o q (mem_of_getElem? B))
       have QL:=Hd (zW aF.o)
       have SP:=Hd (ct.o q (mem_of_getElem? B))
       have br:=@Hd (M++PS.take (j+1)=(M++PS.take j)++[q]) (by rw[List.take_add_one,B];simp)
       have cH:a≤300:=by have:=ab.o;omega
       have HQ:=@Hd ((M++PS)[M.length+j]? =some q) (by rw[List.getElem?_append_right (by omega),Nat.add_sub_cancel_left];exact B)
       have ch:=@Hd (∀j,(Value.slice C a D).ownBlock=some j→j<wr.heap.size) (λj m=>(RR.o.1.lt j m).2)
       clear B aj
       have⟨x,z⟩:=tZ2
       go_wp2_with ((first|((with_reducible refine zt ?_);clear x;refine znW rfl rfl rfl R5.o QL.o ?_)|((with_reducible refine zr ?_);clear z;refine zn5 (w:=wr) (cs:=zm q) rfl rfl rfl rfl QL.o yF ?_;have RQ:=Hd (zq wr (zm q) 56);have d:=Hd ((frN wr).alloc (.cells (zm q).toArray 56));generalize aA:wr.heap.size=cO at RQ⊢;generalize wr.alloc (.cells (zm q).toArray 56)=w1 at*;have ca:=Hd aA;clear aA;have O:=Hd d.o));go_frame)
       go_loopw [85] (λI E=>∃i:Nat,I=.int .i64 i∧i≤a∧Fr No w1 E) (λI _=>a-(intOf I).toNat)
       case atStart=>exact⟨0,rfl,zero_le _,Fr.refl _ _⟩
       case round=>
        obtain⟨i,rfl,hi,S⟩:=hrel
        rename World=>E
        have V:=Hd (O.o.trans0 S)
        have RZ:=Hd (za RQ.o S id)
        have bR:=Hd S
        clear S
        by_cases hit:i<a
        ·have i5:(i:Int)<(a:Int):=by omega
         obtain⟨o,ho⟩:∃o,(M++PS.take j)[i]? =some o:=⟨_,List.getElem?_eq_getElem (by rw[length_append,length_take,Q.o];have:=ab.o;omega)⟩
         have ag:∀y∈M++PS.take j,y.ok:=λy H=>(List.mem_append.1 H).elim (bc.o y) (λh=>an.o y (List.mem_of_mem_take h))
         obtain⟨g6,cJ,aN,bI,-⟩:=yZ (f:=zm) (by decide) (λy H=>zW (ag y H)) RR.o.1 ho
         cases aN
         have R2:=Hd (za bI V.o id)
         have bb:=Hd (ag o (mem_of_getElem? ho))
         have OL:=Hd (zW bb.o)
         have NE:=Hd (zj7 ND.o HQ.o ho (by have:=ab.o;omega))
         clear ho ag bI
         have⟨x,z,K2,K3,K4⟩:=tZ5
         go_wp2_with ((first|((with_reducible refine zt ?_);first|(clear x;refine znW rfl rfl rfl R2.o OL.o ?_)|(clear K2;refine znW rfl rfl rfl cr.o QL.o ?_)|(clear K3;refine znW rfl rfl rfl RO.o OL.o ?_)|(clear K4;refine zg rfl (jF.exec_eql (u:=(zm q).toArray) (v:=(zm o).toArray) rfl rfl rfl (xu aF.o) (xu bb.o) false ⟨λh=>(by cases h),λh=>absurd h NE.o⟩ _) ?_))|((with_reducible refine zr ?_);clear z;refine zn5 (w:=E) (cs:=zm o) rfl rfl rfl rfl OL.o yF ?_;have RO:=Hd (zq E (zm o) 56);have d:=Hd ((frN E).alloc (.cells (zm o).toArray 56));generalize E.heap.size=cP at RO⊢;generalize E.alloc (.cells (zm o).toArray 56)=wy at*;have cr:=Hd (za RZ.o d.o id)));go_frame)
         go_roundw
         case rel=>exact⟨i+1,by go_num,by omega,bR.o.trans0 d.o⟩
         case measure=>simp[intOf];omega
        ·have i5:¬(i:Int)<(a:Int):=by omega
         have bT:=Hd (L.o.fr0 V.o)
         have ar:=Hd (RR.o.fr0 V.o)
         have cw:=Hd (WR.o.fr0 V.o)
         have cf:=Hd (zb QR.o V.o (λ_ _=>id))
         have cp:=Hd (za RT.o V.o id)
         have aU:=Hd (le_trans BW.o V.o.size)
         have aR:=Hd (le_trans bN.o V.o.size)
         obtain⟨v4,w4,a1,a2,a3,-,a5⟩:=yA (P:=prog) E N 72 72 56 33 36 _ JX Y3 rfl (by decide) ar.o.1 (zm q) QL.o yF (by omega) (by unfold maxLen;omega) aU.o
         obtain⟨aO,aP,cG⟩:=a2.slice.arg.form
         subst cG
         obtain⟨X4,aJ,bC,bB,-⟩:=bT.o.app a3 RX.o ar.o.2 (λj m=>by have:=(ar.o.1.lt j m).1;have:=aV.o;omega) a5 (λj m=>(a2.lt j m).2)
         have GE:=@Hd (∀j,(Value.slice C a D).ownBlock=some j→N≤j) (λj m=>(ar.o.1.lt j m).1)
         have bK:=Hd a1
         have n:=Hd aJ
         have cq:=Hd bC
         have ao:=@Hd (xS T4 w4 N 56 33 (.slice aO (a+1) aP) (a+1) ((M++PS.take (j+1)).flatMap zm)) (⟨by rw[br.o];simpa using a2,bB⟩)
         have ay:=Hd (xS.app cw.o a3 bt.o GE.o)
         have cc:=Hd (zb cf.o a3 (λi hi e=>by have:=cb.o i hi;have:=RB.o i e;omega))
         have au:=Hd (za cp.o a3 (λe=>by have:=b9.o;have:=RB.o _ e;omega))
         have cm:=Hd (za RZ.o a3 (λe=>by have h:=ch.o _ e;have:=ca.o;omega))
         have av:=Hd (TK.o.step (Fr.trans V.o.of0 a3 (λi _ e=>RB.o i e)) (λ_ _ h=>h))
         have bO:=Hd (le_trans aU.o a3.size)
         have bL:=Hd (le_trans aR.o a3.size)
         have cg:=@Hd (∀j,(Value.slice aO (a+1) aP).ownBlock=some j→j<W∨b2≤j) (λi hi=>(a5 i hi).elim (RB.o i) (λh=>.inr (by have:=aR.o;omega)))
         have b7:=@Hd (a+1=(M++PS.take (j+1)).length) (by rw[br.o,length_append,length_append,length_take,Q.o];have:=ab.o;simp;omega)
         have p4:=aJ.cells.2
         clear a1 a2 a3 a5 aJ bC bB
         have⟨x,z,K2,K3,K4⟩:=tZ5
         go_wp2_with ((first|((with_reducible refine zt ?_);first|(clear x;refine znW rfl rfl rfl RZ.o QL.o ?_)|(clear z;refine zg rfl (zK (t:=72) rfl rfl JX XG rfl (by decide) (by decide) QL.o) ?_)|(clear K2;at_builtin;refine zJ rfl rfl rfl rfl bK.o ?_)|(clear K3;refine znW rfl rfl rfl cm.o QL.o ?_))|(clear K4;go_at_call 31;refine(zlC n.o.1 aF.o).mono ?_;rintro e' w5 ⟨rfl,f5⟩;rw[SP.o];have al:=Hd (n.o.fr0 f5);have az:=Hd (ay.o.fr0 f5);have aq:=Hd (ao.o.fr0 f5);have cd:=Hd (zb cc.o f5 (λ_ _=>id));have ad:=Hd (za au.o f5 id);have ae:=Hd (av.o.on f5);have bP:=Hd (le_trans bO.o f5.size);have bM:=Hd (le_trans bL.o f5.size);clear f5 p4));go_frame)
         go_roundw
         case rel=>exact⟨j+1,_,aO,a+1,aP,by go_num,by omega,rfl,b7.o,al.o,bP.o,bM.o,aq.o,cq.o,cg.o,az.o,cd.o,ad.o,ae.o⟩
         case measure=>simp[intOf];omega
      ·have i4:¬(j:Int)<(e.tx.ins.length:Int):=by omega
       have aL:j=e.tx.ins.length:=by omega
       have TA:=@Hd (M++PS.take j=M++PS) (by rw[List.take_of_length_le (by rw[Q.o,aL];exact Nat.le_refl _)])
       have b6:=@Hd (a=(M++PS).length) (by rw[length_append,Q.o,ab.o,aL])
       clear aL m hjt
       have⟨x,z⟩:=tZ2
       go_wp2_with ((first|((with_reducible refine zt ?_);clear x;refine znT rfl rfl rfl RT.o rfl ?_)|(clear z;go_at_call 22;refine(Yr (HG.o.keep0 L.o.fr) TK.o.now).mono ?_;rintro e' w8 ⟨mv,rfl,f8,hm⟩;rw[if_pos FB.o] at hm;have CR:=@Hd (World.ownsRow w8 0 60 66 mv e.tx.outs.length ((yN e.tx).flatMap z7)) (yu hm (zero_le _));obtain⟨ma,mc,cC⟩:=hm.slice.arg.form;subst cC;have bS:=Hd (L.o.fr0 f8);have cv:=Hd (WR.o.fr0 f8);have cn:=Hd (RR.o.fr0 f8);have bQ:=Hd (le_trans BW.o f8.size);clear f8 hm L WR RR BW));go_frame)
       obtain⟨ML,bD⟩:∃ML,yN e.tx=ML:=⟨_,rfl⟩
       rw[bD] at aE a8 CR aX
       clear bD
       go_loopw [110] (λI E=>∃i:Nat,I=.int .i64 i∧i≤e.tx.outs.length∧Fr No w8 E) (λI _=>e.tx.outs.length-(intOf I).toNat)
       case atStart=>exact⟨0,rfl,zero_le _,Fr.refl _ _⟩
       case round=>
        obtain⟨i,rfl,hi,S⟩:=hrel
        rename World=>E
        have V:=Hd S
        have L:=Hd (bS.o.fr0 S)
        have CZ:=Hd (zb CR.o S (λ_ _=>id))
        by_cases hit:i<e.tx.outs.length
        ·have i5:(i:Int)<(e.tx.outs.length:Int):=by omega
         obtain⟨c,hc⟩:∃c,ML[i]? =some c:=⟨_,List.getElem?_eq_getElem (by rw[a8.o];exact hit)⟩
         obtain⟨g5,bA,aM,aj,-⟩:=yZ (f:=z7) (by decide) (λy H=>xI (aE.o y H)) CZ.o hc
         cases aM
         have R5:=Hd aj
         have G:=Hd (aE.o c (mem_of_getElem? hc))
         have CL:=Hd (xI G.o)
         have QL:=Hd (zW G.o.1)
         have XL:=Hd (yq G.o.2)
         have FC:=Hd (aX.o c (mem_of_getElem? hc))
         clear hc aj S
         have⟨x,z,K2,K3,K4,K5,K6,K7⟩:=tZ8
         go_wp2_with ((first|((with_reducible refine zt ?_);first|(clear x;refine znY rfl rfl rfl R5.o CL.o ?_)|(clear K2;refine znW rfl rfl rfl RP.o QL.o ?_))|((with_reducible refine zr ?_);first|(clear z;refine zn4 (w:=E) (cs:=z7 c) rfl rfl rfl rfl CL.o qi ?_;have RC:=Hd (zq E (z7 c) 60);have d:=Hd ((frN E).alloc (.cells (z7 c).toArray 60));generalize E.heap.size=cQ at RC⊢;generalize E.alloc (.cells (z7 c).toArray 60)=wy at*;have p:=Hd (L.o.fr0 d.o);have aY:=Hd (V.o.trans0 d.o);clear L V;have p1:=p.o.cells.2;have RP:=Hd (JF RC.o))|(clear K4;refine zn2 (w:=wx) (cs:=zF c.out) rfl rfl rfl rfl XL.o yd ?_;have RO:=Hd (zq wx (zF c.out) 58);have d:=Hd ((frN wx).alloc (.cells (zF c.out).toArray 58));generalize wx.heap.size=cR at RO⊢;generalize wx.alloc (.cells (zF c.out).toArray 58)=ww at*;have ak:=Hd (aa.o.fr0 d.o);have bU:=Hd (aZ.o.trans0 d.o);have cj:=Hd (za bg.o d.o id);clear aa aZ bg;have RV:=Hd (Xx G.o cj.o)))|(clear K3;go_at_call 32;refine(zmw p.o.1 G.o.1).mono ?_;rintro e' wx ⟨rfl,fx⟩;rw[FC.o];have aa:=Hd (p.o.fr0 fx);have aZ:=Hd (aY.o.trans0 fx);have bg:=Hd (za RC.o fx id);clear p aY RC;clear fx p1)|((with_reducible refine yg 125 ?_);clear K5;refine yK (o:=⟨some 125,_,_,_,_,_⟩) rfl (zX (ty:=58) rfl rfl RO.o uO rO (by rw[XL.o];exact yW)) ?_)|((with_reducible refine yg 127 ?_);clear K6;refine yK (o:=⟨some 127,_,_,_,_,_⟩) rfl (zX (ty:=58) rfl rfl RV.o uO rO (by rw[XL.o];exact yW)) ?_)|((with_reducible refine yg 128 ?_);clear K7;refine yK (o:=⟨some 128,_,_,_,_,_⟩) rfl (zms.exec_neq (u:=(zF c.out).toArray) (v:=(zF c.out).toArray) rfl rfl rfl (zdp G.o.2) (zdp G.o.2) true ⟨λ_=>rfl,λ_=>rfl⟩ _) ?_));go_frame)
         go_roundw
         case rel=>exact⟨i+1,by go_num,by omega,bU.o⟩
         case measure=>simp[intOf];omega
        ·have i5:¬(i:Int)<(e.tx.outs.length:Int):=by omega
         have WR:=Hd (cv.o.fr0 S)
         have RR:=Hd (cn.o.fr0 S)
         have BW:=Hd (le_trans bQ.o S.size)
         clear S
         go_wp2_with fail
         go_roundw
         case rel=>exact⟨k+1,_,C,a,D,by go_num,by omega,rfl,by rw[af.o];exact b6.o,L.o,BW.o,by rw[af.o,←TA.o];exact RR.o,RX.o,WR.o,λq B=>by rw[af.o] at B;exact(List.mem_append.1 B).elim (bc.o q) (an.o q)⟩
         case measure=>simp[intOf];omega
    ·have i2:¬(k:Int)<(K.length:Int):=by omega
     have cL:decide ((K.length:Int)≤32)=true:=by simp;omega
     go_wp2_with fail
     go_ret
     exact⟨rfl,L.o.fr⟩
  ·go_ret
   exact⟨rfl,F2.o⟩
 ·have j1:decide ((256:Int)<(first.length:Int))=true:=by simp;omega
  go_enter Tryz.func6,Tryz.ntmps6
  have⟨x,z⟩:=tZ2
  go_wp2_with ((first|(clear x;go_at_call 11;refine a6.o.mono ?_;rintro e w1 ⟨rfl,f1⟩;have O:=Hd f1;clear f1)|(clear z;go_at_call 12;refine(xC w1 (HL.o.keep O.o) (HX.o.keep0 O.o)).mono ?_;rintro e w2 ⟨⟨g,rfl,aK,hz⟩,Y⟩;have F2:=Hd (O.o.trans0 Y);clear hz Y;rcases aK with rfl|rfl));go_frame)
  ·go_ret
   exact⟨rfl,F2.o⟩
  ·go_ret
   exact⟨rfl,F2.o⟩
end Go.Proofs.YtbcllfjmabiafaaGreatDoor
