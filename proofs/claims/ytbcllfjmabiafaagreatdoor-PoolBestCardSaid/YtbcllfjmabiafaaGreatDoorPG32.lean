/- PoolBest: the walk. -/
import Derived.Test.YtbcllfjmabiafaaGreatDoorPG27
import Derived.Test.YtbcllfjmabiafaaGreatDoorPG28
set_option linter.unusedVariables false
set_option linter.unusedSimpArgs false
set_option linter.unnecessarySimpa false
set_option linter.all false
set_option maxRecDepth 20000
set_option maxHeartbeats 16000000
namespace Go.Proofs.YtbcllfjmabiafaaGreatDoor
open Go Go.RowKit Go.Maps Go.MapKept
open Go.Proofs.Tryz(prog)
open List(mem_map)
open Nat(zero_le le_trans)
theorem zi9 {w:World} (hg:vp w) {fv lv:Value} {first:List yC} {l:List vm} (hl:xg w fv first) (hx:vK w lv l):
  Calls prog 7 #[fv,lv] w λe w'=>e=.returned (.bool true)∧Fr No w w':=by
 have zw:=jZ
 have zT:=show ∀w,(zeroValue 27).run prog w=.ok (.agg zcG.toArray) w from Zp
 have zh:=yJ
 obtain⟨fa,fc,rfl⟩:=hl.2.form
 obtain⟨la,lc,rfl⟩:=hx.form
 have HG:=Hd hg
 have HL:=Hd hl
 have HX:=Hd hx
 have al:=Hd (vT hg)
 clear hg hl hx
 have zP:=vr
 have zO:=y3
 have zC:=ZU
 by_cases hF:first.length≤256
 ·have j1:decide ((256:Int)<(first.length:Int))=false:=by simp;omega
  go_enter Tryz.func7,Tryz.ntmps7
  have⟨s,u⟩:=tZ2
  go_wp2_with ((first|(clear s;go_at_call 11;refine al.o.mono ?_;rintro e w1 ⟨rfl,f1⟩;have O:=Hd f1;clear f1)|(clear u;go_at_call 12;refine(xC w1 (HL.o.keep O.o) (HX.o.keep0 O.o)).mono ?_;rintro e w2 ⟨⟨g,rfl,aa,hz⟩,C⟩;have GZ:=Hd hz;have F2:=Hd (O.o.trans0 C);clear hz C;rcases aa with rfl|rfl));go_frame)
  ·have Q:=Hd (GZ.o (by first|trivial|rfl))
   clear GZ
   have⟨s,u,R,S,U⟩:=tZ5
   go_wp2_with ((first|(clear s;go_at_call 14;refine(JS F2.o (HL.o.keep F2.o) hF).mono ?_;rintro e w3 ⟨pc,pp,T,rfl,aC,aN,f3⟩;have W3:=Hd (aC T (λ_ h=>h) (λ_ h=>.inl h));have Y:=@Hd (∀j,T j→w.heap.size≤j) (λj hj=>(W3.o.facts.1 j hj).1);clear aC aN f3)|(clear u;go_at_call 15;refine(YU HG.o (W3.o.more (by decide)) Y.o rfl HX.o Q.o.2.1 Q.o.2.2).mono ?_;rintro e w4 ⟨rfl,T4,X4,A,n4,av,aQ⟩;have d:=Hd (FlB.begun n4 Y.o W3.o.facts.2.2.1.size);have an:=Hd av;clear n4 av aQ)|(clear S;go_at_call 21;refine(zaD (n:=16) d.o.1 (by decide) (by decide)).mono ?_;rintro e w6 ⟨v6,css,rfl,kr,f6⟩;obtain⟨m,H⟩:∃m,(yz A.L 16).map (·.tx)=m:=⟨_,rfl⟩;have ab:=@Hd (TxR T4 w6 v6 m) (by rw[←H];exact TxR.new d.o.1 kr);have I:=kr.form;rw[H] at I;obtain⟨ba,bc,I⟩:=I;subst I;have B:=Hd H;have q:=Hd (d.o.fr0 f6);have p6:=q.o.cells.2;clear kr f6 p5 H css)|(clear U;go_at_call 16;refine(vJ q.o.1 (by decide)).mono ?_;rintro e w7 ⟨v7,rfl,ho⟩;have P:=Hd (q.o.fr0 ho.2);have aE:=Hd (TxR.fr0 ab.o (λj hj=>(q.o.1.facts.1 j hj).2.1) ho.2);obtain⟨kn,aw⟩:∃kn,(zR A.L).length=kn:=⟨_,rfl⟩;obtain⟨na,nc,aB⟩:=ho.1.slice.arg.form;rw[aw] at aB;subst aB;have ay:min (16:Int) (kn:Int)=(m.length:Int):=(by have h1:=zcY q.o.1.facts.2.2.2.1.gok 16;have h2:m.length=(yz A.L 16).length:=(by rw[←B.o,List.length_map]);rw[xd] at aw;omega);clear ho p6)|((with_reducible refine zr ?_);clear R;refine zi rfl (zj (w:=w4) (ty:=34) (cs:=xM pc pp) rfl rfl rfl rfl qR (XV rfl rfl)) ?_;generalize w4.heap.size=c7 at*;generalize w4.alloc (.cells (xM pc pp).toArray 34)=w5 at*;have p5:=d.o.cells));go_frame)
   have au:=Hd P.o.1.facts.2.2.2.1
   have X:=@Hd (m.length≤16) (by rw[←B.o,List.length_map];exact ZF A.L 16)
   have aW:=X.o
   clear ay q ab d W3 Y Q
   go_loopw [47] (λiv wr=>∃k:Nat,iv=.int .i64 k∧k≤m.length∧Fr No w7 wr∧∀t∈m.take k,∀c∈yN t,yV A.S c.at_=false) (λiv _=>m.length-(intOf iv).toNat)
   case atStart=>exact⟨0,rfl,zero_le _,Fr.refl _ _,λt ht=>by simp at ht⟩
   case round=>
    obtain⟨k,rfl,hk,fk,D⟩:=hrel
    rename World=>wr
    have FK:=Hd fk
    have o:=Hd (P.o.fr0 fk)
    have BR:=Hd (TxR.fr0 aE.o (λj hj=>(P.o.1.facts.1 j hj).2.1) fk)
    have ao:=Hd D
    clear fk D
    by_cases aO:k<m.length
    ·have i2:(k:Int)<(m.length:Int):=by omega
     obtain⟨t0,K⟩:∃t,m[k]? =some t:=⟨_,List.getElem?_eq_getElem aO⟩
     obtain⟨e,heb,rfl⟩:∃e∈yz A.L 16,e.tx=t0:=mem_map.1 (by rw[B.o];exact List.mem_of_getElem? K)
     have N:=Ju au.o.gok _ e heb
     obtain⟨bx,ox,cx,cs,aS,aA,qx⟩:=(BR.o.txs (le_trans X.o (by decide))).at_ K
     cases aS
     obtain⟨ia,ic,oa,oc,rfl⟩:=qx.form
     have R1:=Hd aA
     have TQ:=Hd qx
     have HE:=Hd N
     have SM:=Hd (o.o.1.small e N)
     have ad:=Hd (au.o.ent e N)
     have FB:=Hd (jd ad.o.1).1
     have IX:=@Hd (idH e.tx=e.id) (ad.o.2.1.symm)
     have CK:=@Hd (idE e.tx=0) (by unfold idE;rw[if_pos FB.o])
     have aG:=Hd (o.o.1.pids e.id (mem_map.2 ⟨e,N,rfl⟩))
     have EL:=Hd (zu aG.o)
     have W:=Hd (Yw (t:=e.tx) (o.o.1.txok e N).2 SM.o.2.1)
     have V:=@Hd ((yN e.tx).length=e.tx.outs.length) (qZ _ _)
     have aL:=@Hd (m.take (k+1)=m.take k++[e.tx]) (by rw[List.take_add_one,K];rfl)
     have o8:=SM.o.2.1
     clear K aA qx N heb
     have⟨s,u,R,S,U,K5,K6,K7,K8,K9⟩:=tZ10
     go_wp2_with ((first|((with_reducible refine zt ?_);first|(clear s;refine znT rfl rfl rfl R1.o rfl ?_)|(clear R;refine znT rfl rfl rfl RT.o rfl ?_)|(clear K5;refine znT rfl rfl rfl aK.o rfl ?_)|(clear K7;refine znV rfl rfl rfl aJ.o EL.o ?_))|((with_reducible refine zr ?_);first|(clear u;refine zi rfl (zj (w:=wr) (ty:=27) (cs:=[.int .u32 e.tx.ver,.slice ia e.tx.ins.length ic,.slice oa e.tx.outs.length oc]) rfl rfl rfl rfl xt (jC rfl rfl rfl)) ?_;have RT:=Hd (qI wr e.tx.ver (.slice ia e.tx.ins.length ic) (.slice oa e.tx.outs.length oc)).2.2.2;have b:=Hd ((frN wr).alloc (.cells #[.int .u32 e.tx.ver,.slice ia e.tx.ins.length ic,.slice oa e.tx.outs.length oc] 27));generalize wr.heap.size=q8 at RT⊢;generalize wr.alloc (.cells #[.int .u32 e.tx.ver,.slice ia e.tx.ins.length ic,.slice oa e.tx.outs.length oc] 27)=w1 at*;have Z:=Hd (TQ.o.keep b.o);have a:=Hd (o.o.fr0 b.o);have ae:=Hd (FK.o.trans0 b.o);clear o FK)|(clear U;refine zn3 (w:=w2) (cs:=zd e.id) rfl rfl rfl rfl EL.o zE ?_;have RH:=Hd (zq w2 (zd e.id) 45);have b:=Hd ((frN w2).alloc (.cells (zd e.id).toArray 45));generalize w2.heap.size=q9 at RH⊢;generalize w2.alloc (.cells (zd e.id).toArray 45)=w3 at*;have r:=Hd (p.o.fr0 b.o);have ag:=Hd (af.o.trans0 b.o);have aK:=Hd (za aq.o b.o id);have aM:=Hd (ar.o.keep b.o);clear p af aq ar)|(clear K9;refine zi rfl (zj (w:=w5) (ty:=27) (cs:=[.int .u32 e.tx.ver,.slice ja e.tx.ins.length jc,.slice ka e.tx.outs.length kc]) rfl rfl rfl rfl xt (jC rfl rfl rfl)) ?_;have RG:=Hd (qI w5 e.tx.ver (.slice ja e.tx.ins.length jc) (.slice ka e.tx.outs.length kc)).2.2.2;have b:=Hd ((frN w5).alloc (.cells #[.int .u32 e.tx.ver,.slice ja e.tx.ins.length jc,.slice ka e.tx.outs.length kc] 27));generalize w5.heap.size=aX at RG⊢;generalize w5.alloc (.cells #[.int .u32 e.tx.ver,.slice ja e.tx.ins.length jc,.slice ka e.tx.outs.length kc] 27)=w6 at*;have CR:=Hd (zb aF.o b.o (λ_ _=>id));have q:=Hd (aj.o.fr0 b.o);have aH:=Hd (ai.o.trans0 b.o);clear aj ai))|(clear S;go_at_call 19;refine(YX (HG.o.keep0 a.o.fr) Z.o).mono ?_;rintro e' w2 ⟨rfl,C⟩;rw[CK.o,IX.o];have p:=Hd (a.o.fr0 C);have af:=Hd (ae.o.trans0 C);have aq:=Hd (za RT.o C id);have ar:=Hd (Z.o.keep C);clear a ae RT Z;clear C)|(clear K6;go_at_call 22;refine(Yr (HG.o.keep0 r.o.fr) aM.o).mono ?_;rintro e' w4 ⟨mv,rfl,f4,hm⟩;rw[if_pos FB.o] at hm;have CR:=@Hd (World.ownsRow w4 0 60 66 mv e.tx.outs.length ((yN e.tx).flatMap z7)) (yu hm (zero_le _));obtain⟨ma,mc,aP⟩:=hm.slice.arg.form;subst aP;have d:=Hd (r.o.fr0 f4);have ah:=Hd (ag.o.trans0 f4);have aJ:=Hd (za RH.o f4 id);clear r ag RH;clear f4 hm;have p1:=d.o.cells.2)|(clear K8;go_at_call 28;refine(zha d.o.1 HE.o).mono ?_;rintro e' w5 ⟨ts,rfl,f5,ax⟩;obtain⟨ja,jc,ka,kc,rfl⟩:=(ax No (λ_ h=>h.elim)).now.form;have aF:=Hd (zb CR.o f5 (λ_ _=>id));have aj:=Hd (d.o.fr0 f5);have ai:=Hd (ah.o.trans0 f5);clear d ah;clear f5 ax p1 CR));go_frame)
     obtain⟨L,G⟩:∃L,yN e.tx=L:=⟨_,rfl⟩
     rw[G] at W V
     have CR:=@Hd (World.ownsRow _ _ _ _ _ _ (L.flatMap z7)) (by rw[←G];exact CR.o)
     have aI:=Hd G
     clear G
     have FK:=Hd aH.o
     go_loopw [76] (λiv v=>∃i:Nat,iv=.int .i64 i∧i≤e.tx.outs.length∧Fr No w6 v∧∀c∈L.take i,yV A.S c.at_=false) (λiv _=>e.tx.outs.length-(intOf iv).toNat)
     case atStart=>exact⟨0,rfl,zero_le _,Fr.refl _ _,λc M=>by simp at M⟩
     case round=>
      obtain⟨i,rfl,hi,fz,D⟩:=hrel
      rename World=>v
      have FZ:=Hd fz
      have NO:=Hd D
      have o:=Hd (q.o.fr0 fz)
      have CZ:=Hd (zb CR.o fz (λ_ _=>id))
      clear D
      by_cases hit:i<e.tx.outs.length
      ·have i5:(i:Int)<(e.tx.outs.length:Int):=by omega
       obtain⟨c,M⟩:∃c,L[i]? =some c:=⟨_,List.getElem?_eq_getElem (by rw[V.o];exact hit)⟩
       obtain⟨g5,aV,aR,az,-⟩:=yZ (f:=z7) (by decide) (λy K=>xI (W.o y K)) CZ.o M
       cases aR
       have R5:=Hd az
       have F:=Hd (W.o c (List.mem_of_getElem? M))
       have CL:=Hd (xI F.o)
       have QL:=Hd (zW F.o.1)
       have XL:=Hd (yq (qB o.o.1.facts.2.2.2.2.2.1 c.at_))
       have TK:=@Hd (L.take (i+1)=L.take i++[c]) (by rw[List.take_add_one,M];rfl)
       clear M az fz
       cases hh:yV A.S c.at_ with
       |true=>
        have HH:=Hd hh
        clear hh
        have⟨s,u,R,S,U⟩:=tZ5
        go_wp2_with ((first|((with_reducible refine zt ?_);first|(clear s;refine znY rfl rfl rfl R5.o CL.o ?_)|(clear R;refine znW rfl rfl rfl RP.o QL.o ?_))|((with_reducible refine zr ?_);first|(clear u;refine zn4 (w:=v) (cs:=z7 c) rfl rfl rfl rfl CL.o qi ?_;have RC:=Hd (zq v (z7 c) 60);have b:=Hd ((frN v).alloc (.cells (z7 c).toArray 60));generalize v.heap.size=aT at RC⊢;generalize v.alloc (.cells (z7 c).toArray 60)=wy at*;have a:=Hd (o.o.fr0 b.o);have x:=Hd (FZ.o.trans0 b.o);clear o FZ;have p1:=a.o.cells.1;have RP:=Hd (JF RC.o))|(clear U;refine zn2 (w:=E) (cs:=zF (zZ A.S c.at_)) rfl rfl rfl rfl XL.o yd ?_;have RO:=Hd (zq E (zF (zZ A.S c.at_)) 58);have b:=Hd ((frN E).alloc (.cells (zF (zZ A.S c.at_)).toArray 58));generalize E.heap.size=aU at RO⊢;generalize E.alloc (.cells (zF (zZ A.S c.at_)).toArray 58)=ww at*;have r:=Hd (p.o.fr0 b.o);have ak:=Hd (z.o.trans0 b.o);clear p z))|(clear S;go_at_call 23;refine(YR a.o.1 F.o.1).mono ?_;rintro e' E ⟨rfl,fx⟩;rw[HH.o];have p:=Hd (a.o.fr0 fx);have z:=Hd (x.o.trans0 fx);clear a x;clear fx p1));go_frame)
        go_ret
        exact⟨rfl,r.o.fr⟩
       |false=>
        have HH:=Hd hh
        clear hh
        have⟨s,u,R,S,U⟩:=tZ5
        go_wp2_with ((first|((with_reducible refine zt ?_);first|(clear s;refine znY rfl rfl rfl R5.o CL.o ?_)|(clear R;refine znW rfl rfl rfl RP.o QL.o ?_))|((with_reducible refine zr ?_);first|(clear u;refine zn4 (w:=v) (cs:=z7 c) rfl rfl rfl rfl CL.o qi ?_;have RC:=Hd (zq v (z7 c) 60);have b:=Hd ((frN v).alloc (.cells (z7 c).toArray 60));generalize v.heap.size=aT at RC⊢;generalize v.alloc (.cells (z7 c).toArray 60)=wy at*;have a:=Hd (o.o.fr0 b.o);have x:=Hd (FZ.o.trans0 b.o);clear o FZ;have p1:=a.o.cells.1;have RP:=Hd (JF RC.o))|(clear U;refine zn2 (w:=E) (cs:=zF (zZ A.S c.at_)) rfl rfl rfl rfl XL.o yd ?_;have RO:=Hd (zq E (zF (zZ A.S c.at_)) 58);have b:=Hd ((frN E).alloc (.cells (zF (zZ A.S c.at_)).toArray 58));generalize E.heap.size=aU at RO⊢;generalize E.alloc (.cells (zF (zZ A.S c.at_)).toArray 58)=ww at*;have r:=Hd (p.o.fr0 b.o);have ak:=Hd (z.o.trans0 b.o);clear p z))|(clear S;go_at_call 23;refine(YR a.o.1 F.o.1).mono ?_;rintro e' E ⟨rfl,fx⟩;rw[HH.o];have p:=Hd (a.o.fr0 fx);have z:=Hd (x.o.trans0 fx);clear a x;clear fx p1));go_frame)
        go_roundw
        case rel=>exact⟨i+1,by go_num,by omega,ak.o,λy K=>by rw[TK.o] at K;exact(List.mem_append.1 K).elim (NO.o y) (λh=>by rw[List.mem_singleton.1 h];exact HH.o)⟩
        case measure=>simp[intOf];omega
      ·have i5:¬(i:Int)<(e.tx.outs.length:Int):=by omega
       have NA:=@Hd (∀c∈L,yV A.S c.at_=false) (λc M=>NO.o c (by rw[List.take_of_length_le (by rw[V.o];omega)];exact M))
       have FK:=Hd (FK.o.trans0 fz)
       clear fz
       go_wp2_with fail
       go_roundw
       case rel=>exact⟨k+1,by go_num,by omega,FK.o,λt ht=>by rw[aL.o] at ht;exact(List.mem_append.1 ht).elim (ao.o t) (λh=>by rw[List.mem_singleton.1 h,aI.o];exact NA.o)⟩
       case measure=>simp[intOf];omega
    ·have i2:¬(k:Int)<(m.length:Int):=by omega
     have aD:=@Hd (∀e∈yz A.L 16,∀c∈yN e.tx,yV A.S c.at_=false) (λe N=>ao.o e.tx (by rw[List.take_of_length_le (by omega),←B.o];exact mem_map.2 ⟨e,N,rfl⟩))
     have CE:=@Hd (qs (zS A.bs) A.S A.bs ⟨1,[],m⟩=0) (by rw[←B.o];exact o.o.1.conn (o.o.1.topo aD.o) (ZF A.L 16) (le_trans an.o (by decide)) 1)
     have BQ:=@Hd (vG wr ⟨1,[],m⟩ [.int .u64 1,.slice none 0 0,.slice ba m.length bc]) (⟨none,0,ba,bc,rfl,⟨show(0:Int)≤1 by decide,show(1:Int)≤18446744073709551615 by decide⟩,zci _,BR.o.txs (le_trans X.o (by decide))⟩)
     have p1:=o.o.cells.1
     have⟨s,u⟩:=tZ2
     go_wp2_with ((first|((with_reducible refine zt ?_);clear s;refine zg rfl (yv (t:=65) rfl rfl (zbN 1 ba m.length bc _)) ?_)|(clear u;go_at_call 24;refine(zaI HG.o o.o.1 (le_trans an.o (by decide)) BQ.o).mono ?_;rintro e w8 ⟨rfl,X8,hm⟩;rw[CE.o];have F8:=@Hd (Fr No w w8) (o.o.fr.trans hm.facts.2.1 (λi hi e=>by have:=(o.o.1.facts.1 _ e).1;omega));clear hm));go_frame)
     go_ret
     exact⟨rfl,F8.o⟩
  ·go_ret
   exact⟨rfl,F2.o⟩
 ·have j1:decide ((256:Int)<(first.length:Int))=true:=by simp;omega
  go_enter Tryz.func7,Tryz.ntmps7
  have⟨s,u⟩:=tZ2
  go_wp2_with ((first|(clear s;go_at_call 11;refine al.o.mono ?_;rintro e w1 ⟨rfl,f1⟩;have O:=Hd f1;clear f1)|(clear u;go_at_call 12;refine(xC w1 (HL.o.keep O.o) (HX.o.keep0 O.o)).mono ?_;rintro e w2 ⟨⟨g,rfl,aa,hz⟩,C⟩;have F2:=Hd (O.o.trans0 C);clear hz C;rcases aa with rfl|rfl));go_frame)
  ·go_ret
   exact⟨rfl,F2.o⟩
  ·go_ret
   exact⟨rfl,F2.o⟩
end Go.Proofs.YtbcllfjmabiafaaGreatDoor
