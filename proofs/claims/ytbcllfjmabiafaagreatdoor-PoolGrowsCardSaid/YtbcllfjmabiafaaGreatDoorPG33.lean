/- PoolGrows: the walk. -/
import Derived.Test.YtbcllfjmabiafaaGreatDoorPG27
set_option linter.unusedVariables false
set_option linter.unusedSimpArgs false
set_option linter.unnecessarySimpa false
set_option linter.all false
set_option maxRecDepth 20000
set_option maxHeartbeats 16000000
namespace Go.Proofs.YtbcllfjmabiafaaGreatDoor
open Go Go.RowKit Go.Maps Go.MapKept
open Go.Proofs.Tryz(prog)
open List(mem_of_getElem?)
open Nat(zero_le le_trans)
theorem zh8 {w:World} (hg:vp w) {fv lv:Value} {first:List yC} {l:List vm} (hl:xg w fv first) (hx:vK w lv l) {now:Nat} (hn:now<18446744073709551616):
  Calls prog 8 #[fv,lv,.int .u64 now] w λe w'=>e=.returned (.bool true)∧Fr No w w':=by
 obtain⟨dH,uH,rH⟩:=jq
 have zw:=jZ
 have zT:=show ∀w,(zeroValue 27).run prog w=.ok (.agg zcG.toArray) w from Zp
 have zh:=yJ
 obtain⟨fa,fc,rfl⟩:=hl.2.form
 obtain⟨la,lc,rfl⟩:=hx.form
 have HG:=Hd hg
 have HL:=Hd hl
 have HX:=Hd hx
 have aT:=Hd (vT hg)
 clear hg hl hx
 have zP:=vr
 have zO:=y3
 have HN:=Hd hn
 clear hn
 by_cases hF:first.length≤256
 ·have j1:decide ((256:Int)<(first.length:Int))=false:=by simp;omega
  go_enter Tryz.func8,Tryz.ntmps8
  have⟨C,D⟩:=tZ2
  go_wp2_with ((first|(clear C;go_at_call 11;refine aT.o.mono ?_;rintro e w1 ⟨rfl,f1⟩;have U:=Hd f1;clear f1)|(clear D;go_at_call 12;refine(xC w1 (HL.o.keep U.o) (HX.o.keep0 U.o)).mono ?_;rintro e w2 ⟨⟨g,rfl,aL,hz⟩,M⟩;have GZ:=Hd hz;have E:=Hd (U.o.trans0 M);clear hz M;rcases aL with rfl|rfl));go_frame)
  ·have aD:=Hd (GZ.o (by first|trivial|rfl))
   clear GZ
   have⟨C,D,V,K3,Z⟩:=tZ5
   go_wp2_with ((first|(clear C;go_at_call 14;refine(JS E.o (HL.o.keep E.o) hF).mono ?_;rintro e w3 ⟨pc,pp,T,rfl,bj,bz,f3⟩;have W3:=Hd (bj T (λ_ h=>h) (λ_ h=>.inl h));have aI:=@Hd (∀j,T j→w.heap.size≤j) (λj hj=>(W3.o.facts.1 j hj).1);clear bj bz f3)|(clear D;go_at_call 15;refine(YU HG.o (W3.o.more (by decide)) aI.o rfl HX.o aD.o.2.1 aD.o.2.2).mono ?_;rintro e w4 ⟨rfl,T4,X4,A,n4,bx,bB⟩;have u:=Hd (FlB.begun n4 aI.o W3.o.facts.2.2.1.size);clear n4 bx bB)|(clear K3;go_at_call 16;refine(vJ u.o.1 (by decide)).mono ?_;rintro e w6 ⟨v6,rfl,z⟩;have v:=Hd (u.o.fr0 z.2);have ay:=Hd (qg.new u.o.1 z);obtain⟨ra,rc,bE⟩:=z.1.slice.arg.form;subst bE;have p6:=v.o.cells.2;clear z p5)|(clear Z;go_at_call 33;refine(XE v.o.1 (by decide) HN.o).mono ?_;rintro e w7 ⟨v7,rfl,z,T7,X7,n7⟩;have aa:=Hd (v.o.next n7);have ak:=Hd (ay.o.next n7);obtain⟨ga,gc,bF⟩:=z.slice.arg.form;subst bF;have aC:=@Hd (qg No w7 (.slice ga (Zc A.L (now:Int)).length gc) (Zc A.L (now:Int))) (⟨yu z (zero_le _),λ_ _ e=>e⟩);have aJ:=Hd v.o.1.facts.2.2.2.1;have aE:=@Hd ((zR A.L).length≤32) (by rw[xd];exact v.o.1.facts.2.2.2.2.1);have ag:=Hd v.o.1.pids;clear n7 z p6)|((with_reducible refine zr ?_);clear V;refine zi rfl (zj (w:=w4) (ty:=34) (cs:=xM pc pp) rfl rfl rfl rfl qR (XV rfl rfl)) ?_;generalize w4.heap.size=c7 at*;generalize w4.alloc (.cells (xM pc pp).toArray 34)=w5 at*;have p5:=u.o.cells.2));go_frame)
   have EY:=Hd (zkW aJ.o.nd (now:Int))
   have O:=Hd (λx (h:x∈Zc A.L (now:Int))=>(zbW (L:=A.L) (now:Int)).subset h)
   have GL:=@Hd ((Zc A.L (now:Int)).length≤32) (le_trans (zbW (L:=A.L) (now:Int)).length_le aE.o)
   generalize hK:zR A.L=K at*
   generalize hG:Zc A.L (now:Int)=G at*
   have bM:=aE.o
   have av:=Hd (yr aa.o.2.2.2)
   have ax:=Hd (λj (hj:(Value.slice ra K.length rc).ownBlock=some j)=>(ak.o.1.lt j hj).2)
   have aw:=Hd (λj (hj:(Value.slice ga G.length gc).ownBlock=some j)=>(aC.o.1.lt j hj).2)
   obtain⟨B3,a7⟩:∃B3,B3=w7.heap.size:=⟨_,rfl⟩
   rw[←a7] at av ax aw
   have aQ:=@Hd (B3≤w7.heap.size) (by omega)
   clear a7 ay v u aD W3 aI
   go_wp2_with fail
   go_loopw [10,45] (λrv iv wr=>∃(k:Nat) (X:Nat→Prop) (qa:Option Addr) (S qc:Nat),iv=.int .i64 k∧k≤K.length∧rv=.slice qa S qc∧S=((K.take k).filter (λy=>decide (y∉G))).length∧FlB w wr c7 pc pp T7 X 132 {A with L:=J4 A.L (now:Int)}∧xS T7 wr B3 45 32 (.slice qa S qc) S (((K.take k).filter (λy=>decide (y∉G))).flatMap zd)∧qg No wr (.slice ga G.length gc) G∧qg T7 wr (.slice ra K.length rc) K∧B3≤wr.heap.size∧∀j,(Value.slice qa S qc).ownBlock=some j→X j) (λ_ iv _=>K.length-(intOf iv).toNat)
   case atStart=>exact⟨0,_,none,0,0,rfl,zero_le _,rfl,rfl,aa.o,⟨World.ownsRow_nil _ _ _ _,λj h=>(by cases h)⟩,aC.o,ak.o,aQ.o,λj h=>(by cases h)⟩
   case round=>
    clear aa aC ak aQ
    obtain⟨k,X,qa,S,qc,rfl,hk,rfl,bc,an,bd,ao,bh,a8,bf⟩:=hrel
    rename World=>wr
    have r:=Hd an
    have RR:=Hd bd
    have N:=Hd ao
    have WR:=Hd bh
    have BW:=Hd a8
    have RX:=Hd bf
    have ah:=Hd bc
    clear an bd ao bh a8 bf bc
    by_cases au:k<K.length
    ·have i2:(k:Int)<(K.length:Int):=by omega
     obtain⟨y,F⟩:∃y,K[k]? =some y:=⟨_,List.getElem?_eq_getElem au⟩
     obtain⟨g2,aX,aO,Y,-⟩:=yZ (f:=zd) (by decide) (λy F=>zu (ag.o y F)) WR.o.1 F
     cases aO
     have R1:=Hd Y
     have aK:=Hd (ag.o y (mem_of_getElem? F))
     have YL:=Hd (zu aK.o)
     have Z:=@Hd (k≤32) (by have:=aE.o;omega)
     have RK:=@Hd (S≤k) (by rw[ah.o];refine le_trans (List.length_filter_le _ _) ?_;rw[List.length_take];omega)
     have ar:K.take (k+1)=K.take k++[y]:=by rw[List.take_add_one,F];rfl
     by_cases hm:y∈G
     ·have NX:=@Hd ((K.take (k+1)).filter (λy=>decide (y∉G))=(K.take k).filter (λy=>decide (y∉G))) (by rw[ar,List.filter_append,List.filter_cons_of_neg (by simpa using hm),List.filter_nil,List.append_nil])
      have HM:=Hd hm
      clear hm F Y ar
      have⟨C,D,V,K3⟩:=tZ4
      go_wp2_with ((first|((with_reducible refine zt ?_);first|(clear C;refine znV rfl rfl rfl R1.o YL.o ?_)|(clear V;refine znV rfl rfl rfl RH.o YL.o ?_))|((with_reducible refine zr ?_);clear D;refine zn3 (w:=wr) (cs:=zd y) rfl rfl rfl rfl YL.o zE ?_;have RH:=Hd (zq wr (zd y) 45);have U:=Hd ((frN wr).alloc (.cells (zd y).toArray 45));generalize wr.heap.size=bJ at RH⊢;generalize wr.alloc (.cells (zd y).toArray 45)=w1 at*;have c:=Hd (N.o.fr0 U.o))|(clear K3;go_at_call 20;refine(Jv w1 (qg.ids c.o (λx h=>ag.o x (O.o x h))) (by have:=GL.o;omega) y aK.o).mono ?_;rintro e w2 ⟨b,rfl,Q,M⟩;obtain rfl:b=true:=Q.2 HM.o;have E:=Hd (U.o.trans0 M);clear M Q));go_frame)
      go_roundw
      case rel=>exact⟨k+1,_,qa,S,qc,by go_num,by omega,rfl,by rw[NX.o];exact ah.o,r.o.fr0 E.o,by rw[NX.o];exact RR.o.fr0 E.o,N.o.fr0 E.o,WR.o.fr0 E.o,le_trans BW.o E.o.size,RX.o⟩
      case measure=>simp[intOf];omega
     ·have NX:=@Hd ((K.take (k+1)).filter (λy=>decide (y∉G))=(K.take k).filter (λy=>decide (y∉G))++[y]) (by rw[ar,List.filter_append,List.filter_cons_of_pos (by simpa using hm),List.filter_nil])
      have HM:=Hd hm
      clear hm F Y ar
      have⟨C,D,V,K3,Z,K5,K6⟩:=tZ7
      go_wp2_with ((first|((with_reducible refine zt ?_);first|(clear C;refine znV rfl rfl rfl R1.o YL.o ?_)|(clear V;refine znV rfl rfl rfl RH.o YL.o ?_)|(clear Z;refine znV rfl rfl rfl bp.o YL.o ?_)|(clear K5;refine zg rfl (zK (t:=37) rfl rfl y7 xD rfl (by decide) (by decide) YL.o) ?_)|(clear K6;at_builtin;refine zJ rfl rfl rfl rfl bm.o ?_))|((with_reducible refine zr ?_);clear D;refine zn3 (w:=wr) (cs:=zd y) rfl rfl rfl rfl YL.o zE ?_;have RH:=Hd (zq wr (zd y) 45);have U:=Hd ((frN wr).alloc (.cells (zd y).toArray 45));generalize wr.heap.size=bJ at RH⊢;generalize wr.alloc (.cells (zd y).toArray 45)=w1 at*;have c:=Hd (N.o.fr0 U.o))|(clear K3;go_at_call 20;refine(Jv w1 (qg.ids c.o (λx h=>ag.o x (O.o x h))) (by have:=GL.o;omega) y aK.o).mono ?_;rintro e w2 ⟨b,rfl,Q,M⟩;obtain rfl:b=false:=Bool.eq_false_iff.2 (λh=>HM.o (Q.1 h));have E:=Hd (U.o.trans0 M);have bp:=Hd (za RH.o M id);clear M Q;have d:=Hd (r.o.fr0 E.o);have aq:=Hd (RR.o.fr0 E.o);have n:=Hd (N.o.fr0 E.o);have bu:=Hd (WR.o.fr0 E.o);have aR:=Hd (le_trans BW.o E.o.size);obtain⟨v4,w4,a1,a2,a3,-,a5⟩:=yA (P:=prog) w2 B3 37 37 45 32 32 _ y7 xA rfl (by decide) aq.o.1 (zd y) YL.o zE (by have:=Z.o;have:=RK.o;omega) (by have:=Z.o;have:=RK.o;unfold maxLen;omega) aR.o;obtain⟨bk,bl,bC⟩:=a2.slice.arg.form;subst bC;obtain⟨X4,aY,a6,aZ,bG⟩:=d.o.app a3 RX.o aq.o.2 (λj hj=>by have:=(aq.o.1.lt j hj).1;have:=av.o;omega) a5 (λj hj=>(a2.lt j hj).2);have GE:=@Hd (∀j,(Value.slice qa S qc).ownBlock=some j→B3≤j) (λj hj=>(aq.o.1.lt j hj).1);have bm:=Hd a1;have u:=Hd aY;have bs:=Hd a6;have br:=@Hd (xS T7 w4 B3 45 32 (.slice bk (S+1) bl) (S+1) (((K.take (k+1)).filter (λy=>decide (y∉G))).flatMap zd)) (⟨by rw[NX.o];simpa using a2,aZ⟩);have af:=Hd (xS.app n.o a3 aw.o GE.o);have bw:=Hd (xS.app bu.o a3 ax.o GE.o);have bn:=Hd (le_trans aR.o a3.size);have bq:=@Hd (S+1=((K.take (k+1)).filter (λy=>decide (y∉G))).length) (by rw[NX.o,List.length_append,←ah.o];rfl);clear a1 a2 a3 a5 aY a6 aZ bG));go_frame)
      go_roundw
      case rel=>exact⟨k+1,_,bk,S+1,bl,by go_num,by omega,rfl,bq.o,u.o,br.o,af.o,bw.o,bn.o,bs.o⟩
      case measure=>simp[intOf];omega
    ·have i2:¬(k:Int)<(K.length:Int):=by omega
     have aM:K.take k=K:=List.take_of_length_le (by omega)
     obtain⟨R,hR⟩:∃R,R=K.filter (λy=>decide (y∉G)):=⟨_,rfl⟩
     have RL:S=R.length:=by rw[ah.o,aM,hR]
     have RZ:=@Hd (qg T7 wr (.slice qa R.length qc) R) (⟨yu (by have:=RR.o.1;rw[aM,←hR,RL] at this;exact this) (zero_le _),by rw[←RL];exact RR.o.2⟩)
     clear ah RR
     subst RL
     obtain⟨s,al⟩:∃s:PB,s={A with L:=J4 A.L (now:Int)}:=⟨_,rfl⟩
     have aA:=@Hd (FlB w wr c7 pc pp T7 X 132 s) (by rw[al];exact r.o)
     have EA:=@Hd (zR s.L=R) (by rw[al,hR];exact EY.o.1)
     have bL:R.length+G.length=K.length:=by rw[hR];exact EY.o.2
     have aW:=@Hd (∀e∈s.L,∀q∈z6 e.tx,q.tx∈G→yV s.S q=true) (by rw[al];exact λe he q hq hg=>zh7 aJ.o (now:Int) he hq (by rw[hG];exact hg))
     have AG:=@Hd (Zc s.L (now:Int)=[]∧J4 s.L (now:Int)=s.L) (by rw[al];exact⟨zdc _,zeQ _⟩)
     have EE:=@Hd (J4 s.L 18446744073709551615=[]) (zkV)
     have aS:=@Hd (∀x∈G,zV x) (λx h=>ag.o x (O.o x h))
     have aF:=@Hd (∀x∈R,zV x) (by rw[←EA.o];exact aA.o.1.pids)
     have lR:R.length≤32:=by omega
     have lG:G.length≤32:=by omega
     have s1:(R.length:Int)+(G.length:Int)=(K.length:Int):=by omega
     have i3:¬(k:Int)<(K.length:Int):=i2
     clear al hR aM r EY aJ O au hk i2
     have r:=aA
     clear aA
     have bH:=r.o.cells.2
     have⟨C,D⟩:=tZ2
     go_wp2_with ((first|(clear C;go_at_call 16;refine(vJ r.o.1 (by decide)).mono ?_;rintro e w8 ⟨v8,rfl,z⟩;have NW:=Hd (qg.new r.o.1 z);have a:=Hd (r.o.fr0 z.2);have W:=Hd (RZ.o.fr0 z.2);have c:=Hd (N.o.fr0 z.2);clear r RZ N;clear z bH)|(clear D;go_at_call 18;refine(jS w8 (qg.ids NW.o a.o.1.pids) (qg.ids W.o aF.o) (by rw[EA.o];omega) (by omega)).mono ?_;rintro e w9 ⟨b,rfl,Q,f9⟩;obtain rfl:b=true:=Q.2 EA.o;have d:=Hd (a.o.fr0 f9);have aj:=Hd (W.o.fr0 f9);have n:=Hd (c.o.fr0 f9);clear a W c;clear f9 Q NW));go_frame)
     clear i3
     go_loopw [76] (λiv wr=>∃j:Nat,iv=.int .i64 j∧j≤R.length∧FlB w wr c7 pc pp T7 X 132 s∧qg T7 wr (.slice qa R.length qc) R∧qg No wr (.slice ga G.length gc) G) (λiv _=>R.length-(intOf iv).toNat)
     case atStart=>exact⟨0,rfl,zero_le _,d.o,aj.o,n.o⟩
     case round=>
      clear d aj n
      obtain⟨j,rfl,hj,an,bg,ao⟩:=hrel
      rename World=>wr
      have r:=Hd an
      have RZ:=Hd bg
      have N:=Hd ao
      clear an bg ao
      by_cases au:j<R.length
      ·have i2:(j:Int)<(R.length:Int):=by omega
       obtain⟨y,F⟩:∃y,R[j]? =some y:=⟨_,List.getElem?_eq_getElem au⟩
       obtain⟨e,he,rfl⟩:∃e∈s.L,e.id=y:=List.mem_map.1 (show y∈zR s.L from by rw[EA.o];exact mem_of_getElem? F)
       obtain⟨g2,aX,aO,Y,-⟩:=yZ (f:=zd) (by decide) (λy F=>zu (aF.o y F)) RZ.o.1 F
       cases aO
       have R1:=Hd Y
       have EL:=Hd (zu (aF.o e.id (mem_of_getElem? F)))
       have HE:=Hd he
       have SM:=Hd (r.o.1.small e he)
       have ST:=Hd (aW.o e he)
       clear F Y he
       have⟨C,D,V,K3,Z,K5,K6⟩:=tZ7
       go_wp2_with ((first|((with_reducible refine zt ?_);first|(clear C;refine znV rfl rfl rfl R1.o EL.o ?_)|(clear V;refine znV rfl rfl rfl RH.o EL.o ?_)|(clear K5;refine znT rfl rfl rfl RT.o rfl ?_))|((with_reducible refine zr ?_);first|(clear D;refine zn3 (w:=wr) (cs:=zd e.id) rfl rfl rfl rfl EL.o zE ?_;have RH:=Hd (zq wr (zd e.id) 45);have p:=Hd ((frN wr).alloc (.cells (zd e.id).toArray 45));generalize wr.heap.size=bN at RH⊢;generalize wr.alloc (.cells (zd e.id).toArray 45)=w1 at*;have a:=Hd (r.o.fr0 p.o);have W:=Hd (RZ.o.fr0 p.o);have c:=Hd (N.o.fr0 p.o);clear r RZ N;have p1:=a.o.cells.2)|(clear Z;refine zi rfl (zj (w:=w2) (ty:=27) (cs:=[.int .u32 e.tx.ver,.slice ja e.tx.ins.length jc,.slice ka e.tx.outs.length kc]) rfl rfl rfl rfl xt (jC rfl rfl rfl)) ?_;have RT:=Hd (qI w2 e.tx.ver (.slice ja e.tx.ins.length jc) (.slice ka e.tx.outs.length kc)).2.2.2;have p:=Hd ((frN w2).alloc (.cells #[.int .u32 e.tx.ver,.slice ja e.tx.ins.length jc,.slice ka e.tx.outs.length kc] 27));generalize w2.heap.size=bO at RT⊢;generalize w2.alloc (.cells #[.int .u32 e.tx.ver,.slice ja e.tx.ins.length jc,.slice ka e.tx.outs.length kc] 27)=w3 at*;have TQ:=Hd (HK.o.same p.o).now;have H:=Hd (d.o.fr0 p.o);have aV:=Hd (aj.o.fr0 p.o);have B:=Hd (n.o.fr0 p.o);clear d aj n))|(clear K3;go_at_call 28;refine(zha a.o.1 HE.o).mono ?_;rintro e' w2 ⟨ts,rfl,M,ba⟩;have HK:=Hd (ba No (λ_ h=>h.elim));obtain⟨ja,jc,ka,kc,rfl⟩:=HK.o.now.form;have d:=Hd (a.o.fr0 M);have aj:=Hd (W.o.fr0 M);have n:=Hd (c.o.fr0 M);clear a W c;clear M ba p1)|(clear K6;go_at_call 30;refine(jO w3 TQ.o SM.o.1).mono ?_;rintro e' w7 ⟨qv,rfl,aN,f7⟩;have QR:=Hd aN;have TO:=Hd (TQ.o.oks.1);obtain⟨qa,qc,bA⟩:=aN.slice.arg.form;subst bA;have u:=Hd (H.o.fr0 f7);have bt:=Hd (aV.o.fr0 f7);have af:=Hd (B.o.fr0 f7);clear H aV B;clear aN f7 TQ));go_frame)
       have I8:=SM.o.1
       have aU:=@Hd (∀q∈z6 e.tx,q.ok) (λq hq=>by obtain⟨y,F,rfl⟩:=List.mem_map.1 hq;exact TO.o y F)
       have bo:=Hd (jP e.tx)
       go_loopw [90] (λiv wz=>∃i:Nat,iv=.int .i64 i∧i≤e.tx.ins.length∧Fr No w7 wz) (λiv _=>e.tx.ins.length-(intOf iv).toNat)
       case atStart=>exact⟨0,rfl,zero_le _,Fr.refl _ _⟩
       case round=>
        obtain⟨i,rfl,hi,fz⟩:=hrel
        rename World=>wz
        have FZ:=Hd fz
        have r:=Hd (u.o.fr0 fz)
        have N:=Hd (af.o.fr0 fz)
        have QZ:=Hd (zb QR.o fz (λ_ _=>id))
        by_cases hit:i<e.tx.ins.length
        ·have i5:(i:Int)<(e.tx.ins.length:Int):=by omega
         obtain⟨q,hq⟩:∃q,(z6 e.tx)[i]? =some q:=⟨_,List.getElem?_eq_getElem (by rw[bo.o];exact hit)⟩
         obtain⟨g5,bK,bD,bb,-⟩:=yZ (f:=zm) (by decide) (λy F=>zW (aU.o y F)) QZ.o hq
         cases bD
         have R5:=Hd bb
         have I:=Hd (aU.o q (mem_of_getElem? hq))
         have QL:=Hd (zW I.o)
         have TL:=Hd (zu I.o.1)
         have XL:=Hd (yq (qB r.o.1.facts.2.2.2.2.2.1 q))
         have SQ:=Hd (ST.o q (mem_of_getElem? hq))
         clear hq bb fz
         by_cases hm:q.tx∈G
         ·have HC:=Hd (SQ.o hm)
          have HM:=Hd hm
          have c1:=HC.o
          clear hm
          have⟨C,D,V,K3,Z,K5,K6⟩:=tZ7
          go_wp2_with ((first|((with_reducible refine zt ?_);first|(clear C;refine znW rfl rfl rfl R5.o QL.o ?_)|(clear V;refine znW rfl rfl rfl RQ.o QL.o ?_))|((with_reducible refine zr ?_);first|(clear D;refine zn5 (w:=wz) (cs:=zm q) rfl rfl rfl rfl QL.o yF ?_;have RQ:=Hd (zq wz (zm q) 56);have p:=Hd ((frN wz).alloc (.cells (zm q).toArray 56));generalize wz.heap.size=aP at RQ⊢;generalize wz.alloc (.cells (zm q).toArray 56)=wy at*;have a:=Hd (r.o.fr0 p.o);have c:=Hd (N.o.fr0 p.o);have ab:=Hd (FZ.o.trans0 p.o);clear r N FZ;have p1:=a.o.cells.1)|(clear Z;refine zn2 (w:=wx) (cs:=zF (zZ s.S q)) rfl rfl rfl rfl XL.o yd ?_;have RO:=Hd (zq wx (zF (zZ s.S q)) 58);have p:=Hd ((frN wx).alloc (.cells (zF (zZ s.S q)).toArray 58));generalize wx.heap.size=bI at RO⊢;generalize wx.alloc (.cells (zF (zZ s.S q)).toArray 58)=ww at*;have H:=Hd (d.o.fr0 p.o);have B:=Hd (n.o.fr0 p.o);have ae:=Hd (ad.o.trans0 p.o);have aG:=Hd (za ai.o p.o id);clear d n ad ai;have aH:=@Hd (World.rangeAt ww aP 0 (zd q.tx)) ((zcu aG.o I.o).1)))|(clear K3;go_at_call 23;refine(YR a.o.1 I.o).mono ?_;rintro e' wx ⟨rfl,fx⟩;have d:=Hd (a.o.fr0 fx);have n:=Hd (c.o.fr0 fx);have ad:=Hd (ab.o.trans0 fx);have ai:=Hd (za RQ.o fx id);clear a c ab RQ;clear fx p1)|(clear K6;go_at_call 20;refine(Jv ww (qg.ids B.o (λx h=>aS.o x h)) (by omega) q.tx I.o.1).mono ?_;rintro e' wv ⟨b,rfl,Q,fv⟩;obtain rfl:b=true:=Q.2 HM.o;have u:=Hd (H.o.fr0 fv);have af:=Hd (B.o.fr0 fv);have aB:=Hd (ae.o.trans0 fv);clear H B ae;clear fv Q)|((with_reducible refine yg 106 ?_);clear K5;refine yK (o:=⟨some 106,_,_,_,_,_⟩) rfl (zX (ty:=45) rfl rfl aH.o uH rH (by rw[TL.o];exact yj)) ?_));go_frame)
          go_roundw
          case rel=>exact⟨i+1,by go_num,by omega,aB.o⟩
          case measure=>simp[intOf];omega
         ·have HM:=Hd hm
          clear hm
          have⟨C,D,V,K3,Z,K5,K6⟩:=tZ7
          go_wp2_with ((first|((with_reducible refine zt ?_);first|(clear C;refine znW rfl rfl rfl R5.o QL.o ?_)|(clear V;refine znW rfl rfl rfl RQ.o QL.o ?_))|((with_reducible refine zr ?_);first|(clear D;refine zn5 (w:=wz) (cs:=zm q) rfl rfl rfl rfl QL.o yF ?_;have RQ:=Hd (zq wz (zm q) 56);have p:=Hd ((frN wz).alloc (.cells (zm q).toArray 56));generalize wz.heap.size=aP at RQ⊢;generalize wz.alloc (.cells (zm q).toArray 56)=wy at*;have a:=Hd (r.o.fr0 p.o);have c:=Hd (N.o.fr0 p.o);have ab:=Hd (FZ.o.trans0 p.o);clear r N FZ;have p1:=a.o.cells.1)|(clear Z;refine zn2 (w:=wx) (cs:=zF (zZ s.S q)) rfl rfl rfl rfl XL.o yd ?_;have RO:=Hd (zq wx (zF (zZ s.S q)) 58);have p:=Hd ((frN wx).alloc (.cells (zF (zZ s.S q)).toArray 58));generalize wx.heap.size=bI at RO⊢;generalize wx.alloc (.cells (zF (zZ s.S q)).toArray 58)=ww at*;have H:=Hd (d.o.fr0 p.o);have B:=Hd (n.o.fr0 p.o);have ae:=Hd (ad.o.trans0 p.o);have aG:=Hd (za ai.o p.o id);clear d n ad ai;have aH:=@Hd (World.rangeAt ww aP 0 (zd q.tx)) ((zcu aG.o I.o).1)))|(clear K3;go_at_call 23;refine(YR a.o.1 I.o).mono ?_;rintro e' wx ⟨rfl,fx⟩;have d:=Hd (a.o.fr0 fx);have n:=Hd (c.o.fr0 fx);have ad:=Hd (ab.o.trans0 fx);have ai:=Hd (za RQ.o fx id);clear a c ab RQ;clear fx p1)|(clear K6;go_at_call 20;refine(Jv ww (qg.ids B.o (λx h=>aS.o x h)) (by omega) q.tx I.o.1).mono ?_;rintro e' wv ⟨b,rfl,Q,fv⟩;obtain rfl:b=false:=Bool.eq_false_iff.2 (λh=>HM.o (Q.1 h));have u:=Hd (H.o.fr0 fv);have af:=Hd (B.o.fr0 fv);have aB:=Hd (ae.o.trans0 fv);clear H B ae;clear fv Q)|((with_reducible refine yg 106 ?_);clear K5;refine yK (o:=⟨some 106,_,_,_,_,_⟩) rfl (zX (ty:=45) rfl rfl aH.o uH rH (by rw[TL.o];exact yj)) ?_));go_frame)
          go_roundw
          case rel=>exact⟨i+1,by go_num,by omega,aB.o⟩
          case measure=>simp[intOf];omega
        ·have i5:¬(i:Int)<(e.tx.ins.length:Int):=by omega
         have RZ:=Hd (bt.o.fr0 fz)
         go_wp2_with fail
         go_roundw
         case rel=>exact⟨j+1,by go_num,by omega,r.o,RZ.o,N.o⟩
         case measure=>simp[intOf];omega
      ·have i2:¬(j:Int)<(R.length:Int):=by omega
       have p1:=r.o.cells.2
       have⟨C,D,V⟩:=tZ3
       go_wp2_with ((first|(clear C;go_at_call 33;refine(XE r.o.1 (by decide) HN.o).mono ?_;rintro e w5 ⟨v5,rfl,z,T5,X5,n5⟩;rw[AG.o.1] at z;rw[AG.o.2] at n5;obtain⟨xa,xc,rfl⟩:=jX (m:=0) z rfl;have az:=@Hd (FlB w w5 c7 pc pp T5 X5 132 s) (r.o.next n5);clear z n5 p1;have p5:=az.o.cells.2)|(clear D;go_at_call 33;refine(XE (now:=18446744073709551615) az.o.1 (by decide) (by decide)).mono ?_;rintro e w6 ⟨v6,rfl,-,T6,X6,n6⟩;have v:=Hd (az.o.next n6);clear n6 p5;have p6:=v.o.cells.2)|(clear V;go_at_call 16;refine(vJ v.o.1 (by decide)).mono ?_;rintro e w7 ⟨v7,rfl,z⟩;have aa:=Hd (v.o.fr0 z.2);obtain⟨ya,yc,rfl⟩:=jX (m:=0) z.1 (by show(zR (J4 s.L 18446744073709551615)).length=0;rw[EE.o];rfl);clear z p6));go_frame)
       go_ret
       exact⟨rfl,aa.o.fr⟩
  ·go_ret
   exact⟨rfl,E.o⟩
 ·have j1:decide ((256:Int)<(first.length:Int))=true:=by simp;omega
  go_enter Tryz.func8,Tryz.ntmps8
  have⟨C,D⟩:=tZ2
  go_wp2_with ((first|(clear C;go_at_call 11;refine aT.o.mono ?_;rintro e w1 ⟨rfl,f1⟩;have U:=Hd f1;clear f1)|(clear D;go_at_call 12;refine(xC w1 (HL.o.keep U.o) (HX.o.keep0 U.o)).mono ?_;rintro e w2 ⟨⟨g,rfl,aL,hz⟩,M⟩;have E:=Hd (U.o.trans0 M);clear hz M;rcases aL with rfl|rfl));go_frame)
  ·go_ret
   exact⟨rfl,E.o⟩
  ·go_ret
   exact⟨rfl,E.o⟩
end Go.Proofs.YtbcllfjmabiafaaGreatDoor
