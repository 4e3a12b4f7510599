/- PoolRefuses: the walk. -/
import Derived.Deep.CutRange
import Derived.Test.YtbcllfjmabiafaaGreatDoorPG27
set_option linter.unusedVariables false
set_option linter.unusedSimpArgs false
set_option linter.unnecessarySimpa false
set_option linter.all false
set_option maxRecDepth 20000
set_option maxHeartbeats 16000000
namespace Go.Proofs.YtbcllfjmabiafaaGreatDoor
open Go Go.RowKit Go.Maps Go.MapKept
open Go.Proofs.Tryz(prog)
open Nat(zero_le le_trans)
theorem zfv {w:World} (hg:vp w) {fv lv:Value} {first:List yC} {l:List vm} (hl:xg w fv first) (hx:vK w lv l) {t:TxD} {cs:List Value} (ht:TxQ w t cs):
  Calls prog 3 #[fv,lv,.agg cs.toArray] w λe w'=>e=.returned (.bool true)∧Fr No w w':=by
 obtain⟨dH,uH,rH⟩:=jq
 obtain⟨dT,uT,rT⟩:=zbV
 have zw:=jZ
 have zT:=show ∀w,(zeroValue 27).run prog w=.ok (.agg zcG.toArray) w from Zp
 have zh:=yJ
 obtain⟨fa,fc,rfl⟩:=hl.2.form
 obtain⟨la,lc,rfl⟩:=hx.form
 have HG:=Hd hg
 have HL:=Hd hl
 have HX:=Hd hx
 have au:=Hd (vT hg)
 clear hg hl hx
 obtain⟨ia,ic,oa,oc,rfl⟩:=ht.form
 have Z:=Hd ((frN w).alloc (.cells #[.int .u32 t.ver,.slice ia t.ins.length ic,.slice oa t.outs.length oc] 27))
 have R0:=Hd (qI w t.ver (.slice ia t.ins.length ic) (.slice oa t.outs.length oc)).2.2.2
 have HG:=Hd (HG.o.keep0 Z.o)
 have HL:=Hd (HL.o.keep Z.o)
 have HX:=Hd (HX.o.keep0 Z.o)
 have HT:=Hd (ht.keep Z.o)
 have au:=Hd (vT HG.o)
 clear ht
 show Calls prog 3 #[.slice fa first.length fc,.slice la l.length lc,.agg #[.int .u32 t.ver,.slice ia t.ins.length ic,.slice oa t.outs.length oc]] w _
 by_cases hF:first.length≤256
 ·have j1:decide ((256:Int)<(first.length:Int))=false:=by simp;omega
  cases hv:hvT t with
  |true=>
   have HV:=Hd hv
   clear hv
   go_enter Tryz.func3,Tryz.ntmps3
   have⟨v,z,F,H⟩:=tZ4
   go_wp2_with ((first|(clear v;go_at_call 11;generalize w.heap.size=q0 at R0⊢;generalize w.alloc (.cells #[.int .u32 t.ver,.slice ia t.ins.length ic,.slice oa t.outs.length oc] 27)=wz at*;refine au.o.mono ?_;rintro e w1 ⟨rfl,f1⟩;have F1:=Hd f1;clear f1)|(clear z;go_at_call 12;refine(xC w1 (HL.o.keep F1.o) (HX.o.keep0 F1.o)).mono ?_;rintro e w2 ⟨⟨g,rfl,al,hz⟩,a⟩;have U:=Hd (F1.o.trans0 a);clear hz a;rcases al with rfl|rfl)|(clear H;go_at_call 13;refine(Z9 w2 (HT.o.keep U.o)).mono ?_;rintro e bM ⟨rfl,a⟩;rw[HV.o];have ao:=Hd (U.o.trans0 a);clear a)|((with_reducible refine yg 31 ?_);clear F;refine yK (o:=⟨some 31,_,_,_,_,_⟩) rfl (zX (ty:=27) rfl rfl (za R0.o U.o id) uT rT xt) ?_));go_frame)
   all_goals go_ret
   all_goals first|exact⟨rfl,Z.o.trans0 ao.o⟩|exact⟨rfl,Z.o.trans0 U.o⟩
  |false=>
   have HV:=Hd hv
   clear hv
   go_enter Tryz.func3,Tryz.ntmps3
   have⟨v,z,F,H⟩:=tZ4
   go_wp2_with ((first|(clear v;go_at_call 11;generalize w.heap.size=q0 at R0⊢;generalize w.alloc (.cells #[.int .u32 t.ver,.slice ia t.ins.length ic,.slice oa t.outs.length oc] 27)=wz at*;refine au.o.mono ?_;rintro e w1 ⟨rfl,f1⟩;have F1:=Hd f1;clear f1)|(clear z;go_at_call 12;refine(xC w1 (HL.o.keep F1.o) (HX.o.keep0 F1.o)).mono ?_;rintro e w2 ⟨⟨g,rfl,al,hz⟩,a⟩;have GZ:=Hd hz;have U:=Hd (F1.o.trans0 a);clear hz a;rcases al with rfl|rfl)|(clear H;go_at_call 13;refine(Z9 w2 (HT.o.keep U.o)).mono ?_;rintro e bM ⟨rfl,a⟩;rw[HV.o];have ao:=Hd (U.o.trans0 a);clear a)|((with_reducible refine yg 31 ?_);clear F;refine yK (o:=⟨some 31,_,_,_,_,_⟩) rfl (zX (ty:=27) rfl rfl (za R0.o U.o id) uT rT xt) ?_));go_frame)
   ·have aK:=Hd (GZ.o (by first|trivial|rfl))
    clear GZ
    have⟨v,z,F,H⟩:=tZ4
    go_upto_region 7 with((first|(clear v;go_at_call 14;refine(JS ao.o (HL.o.keep ao.o) hF).mono ?_;rintro e w3 ⟨pc,pp,T,rfl,bm,bE,f3⟩;have W3:=Hd (bm T (λ_ h=>h) (λ_ h=>.inl h));have aR:=@Hd (∀j,T j→wz.heap.size≤j) (λj u=>(W3.o.facts.1 j u).1);clear bm bE f3)|(clear z;go_at_call 15;refine(YU HG.o (W3.o.more (by decide)) aR.o rfl HX.o aK.o.2.1 aK.o.2.2).mono ?_;rintro e w4 ⟨rfl,T4,X4,A,n4,bD,bF⟩;have s:=Hd (FlB.begun n4 aR.o W3.o.facts.2.2.1.size);clear n4 bD bF)|(clear H;go_at_call 16;refine(vJ s.o.1 (by decide)).mono ?_;rintro e w6 ⟨v6,rfl,n⟩;have c:=Hd (s.o.fr0 n.2);have ah:=Hd (qg.new s.o.1 n);obtain⟨ra,rc,bH⟩:=n.1.slice.arg.form;subst bH;have p6:=c.o.cells;clear n p5)|((with_reducible refine zr ?_);clear F;refine zi rfl (zj (w:=w4) (ty:=34) (cs:=xM pc pp) rfl rfl rfl rfl qR (XV rfl rfl)) ?_;generalize w4.heap.size=c7 at*;generalize w4.alloc (.cells (xM pc pp).toArray 34)=w5 at*;have p5:=s.o.cells));go_frame)
    by_cases h0:jj A.S (zS A.bs) A.L t=0
    ·have H0:=Hd h0
     have CK:=Hd (zi6 h0).1
     have IE:=@Hd (idE t=0) (by unfold idE;rw[if_pos (jd CK.o).1])
     have AY:=Hd (zkD c.o.1.facts.2.2.2.1.nd c.o.1.facts.2.2.2.2.1 h0 7)
     have bc:=@Hd (∀x∈jo A.S (zS A.bs) A.L t,x∈zR A.L) (λx h=>zbG.subset h)
     have aP:=Hd c.o.1.pids
     have aL:=@Hd ((zR A.L).length≤32) (by rw[xd];exact c.o.1.facts.2.2.2.2.1)
     have GL:=@Hd ((jo A.S (zS A.bs) A.L t).length≤32) (le_trans zbG.length_le aL.o)
     have bt:=Hd (jJ t)
     have IL:=Hd (zu bt.o)
     clear h0
     have⟨v,z,F,H,K4,K5⟩:=tZ6
     go_wp2_with ((first|((with_reducible refine zt ?_);first|(clear v;refine zg rfl (zX (ty:=27) rfl rfl (za R0.o c.o.fr id) uT rT xt) ?_)|(clear H;refine zg rfl (zX (ty:=27) rfl rfl (za R0.o i.o.fr id) uT rT xt) ?_))|(clear z;go_at_call 17;refine(ZB (now:=7) (N:=132) (HG.o.keep0 c.o.fr) c.o.1 (by decide) (c.o.kept HT.o) (by decide)).mono ?_;rintro e w7 ⟨v7,rfl,n,T7,X7,n7⟩;rw[H0.o];obtain⟨ga,gc,bI⟩:=n.slice.arg.form;subst bI;obtain⟨AA,aV⟩:∃AA:PB,AA={A with L:=qM A.S (zS A.bs) A.L t (7:Nat)}:=⟨_,rfl⟩;rw[←aV] at n7;have aF:=Hd aV;have a7:=@Hd (qg No w7 (.slice ga (jo A.S (zS A.bs) A.L t).length gc) (jo A.S (zS A.bs) A.L t)) (⟨yu n (zero_le _),λ_ _ e=>e⟩);have p:=Hd (c.o.next n7);have M:=Hd (ah.o.next n7);clear n n7 p6 aV;have p7:=p.o.cells)|(clear F;go_at_call 16;refine(vJ p.o.1 (by decide)).mono ?_;rintro e w8 ⟨v8,rfl,n⟩;have I:=Hd (qg.new p.o.1 n);have i:=Hd (p.o.fr0 n.2);have O:=Hd (M.o.fr0 n.2);have a8:=Hd (a7.o.fr0 n.2);obtain⟨na,nc,bJ⟩:=n.1.slice.arg.form;subst bJ;clear n p7)|(clear K4;go_at_call 19;refine(YX (HG.o.keep0 i.o.fr) (HT.o.keep i.o.fr)).mono ?_;rintro e w9 ⟨rfl,f9⟩;rw[IE.o];have aq:=Hd (i.o.fr0 f9);have aD:=Hd (O.o.fr0 f9);have ba:=Hd (a8.o.fr0 f9);have aB:=Hd (I.o.fr0 f9);clear f9)|((with_reducible refine zr ?_);clear K5;refine zn3 (w:=w9) (cs:=zd (idH t)) rfl rfl rfl rfl IL.o zE ?_;have RI:=Hd (zq w9 (zd (idH t)) 45);have q:=Hd ((frN w9).alloc (.cells (zd (idH t)).toArray 45));generalize w9.heap.size=bn at RI⊢;generalize w9.alloc (.cells (zd (idH t)).toArray 45)=wa at*;have ar:=Hd (aq.o.fr0 q.o);have aT:=Hd (aD.o.fr0 q.o);have aJ:=Hd (ba.o.fr0 q.o);have aO:=Hd (aB.o.fr0 q.o)));go_frame)
     have A1:=@Hd (zR AA.L=((zR A.L).filter λy=>decide (y∉jo A.S (zS A.bs) A.L t))++[idH t]) (by rw[aF.o];exact AY.o.1)
     have A2:=Hd AY.o.2.1
     have A3:=Hd AY.o.2.2.1
     have A4:=@Hd (jj AA.S (zS AA.bs) AA.L t=10) (by rw[aF.o];exact AY.o.2.2.2)
     have LK:=@Hd ((zR A.L).length=A.L.length) (xd _)
     clear AY aF H0 CK c p i aq ah M O aD a7 a8 ba I aB s W3 aR aK
     generalize hK:zR A.L=K at*
     generalize hG:jo A.S (zS A.bs) A.L t=G at*
     generalize bC:zR AA.L=NL at*
     have bd:=@Hd (∀x∈NL,zV x) (by rw[←bC];exact ar.o.1.pids)
     have bb:=@Hd (∀x∈G,zV x) (λx h=>aP.o x (bc.o x h))
     have bQ:=aL.o
     have lG:=GL.o
     have Y:=Hd (yr ar.o.2.2.2)
     have aC:=Hd (λj (u:(Value.slice ra K.length rc).ownBlock=some j)=>(aT.o.1.lt j u).2)
     have aA:=Hd (λj (u:(Value.slice ga G.length gc).ownBlock=some j)=>(aJ.o.1.lt j u).2)
     have ab:=Hd (λj (u:(Value.slice na NL.length nc).ownBlock=some j)=>(aO.o.1.lt j u).2)
     have bf:=@Hd (bn<wa.heap.size) (qz RI.o (by rw[←List.length_pos_iff,IL.o];decide))
     obtain⟨V,bk⟩:∃V,V=wa.heap.size:=⟨_,rfl⟩
     rw[←bk] at Y aC aA ab bf
     have a6:=@Hd (V≤wa.heap.size) (by omega)
     have bh:=Hd RI.o
     clear bk RI
     go_wp2_with fail
     go_loopw [14,70] (λbL iv wr=>∃(k:Nat) (X:Nat→Prop) (C:Option Addr) (d D:Nat),iv=.int .i64 k∧k≤K.length∧bL=.slice C d D∧FlB wz wr c7 pc pp T7 X 133 AA∧V≤wr.heap.size∧d=((K.take k).filter (λy=>decide (y∉G))).length∧xS T7 wr V 45 32 (.slice C d D) d (((K.take k).filter (λy=>decide (y∉G))).flatMap zd)∧(∀j,(Value.slice C d D).ownBlock=some j→X j)∧qg T7 wr (.slice ra K.length rc) K∧qg No wr (.slice ga G.length gc) G∧qg T7 wr (.slice na NL.length nc) NL∧World.rangeAt wr bn 0 (zd (idH t))) (λ_ iv _=>K.length-(intOf iv).toNat)
     case atStart=>exact⟨0,_,none,0,0,rfl,zero_le _,rfl,ar.o,a6.o,rfl,⟨World.ownsRow_nil _ _ _ _,λj h=>(by cases h)⟩,λj h=>(by cases h),aT.o,aJ.o,aO.o,bh.o⟩
     case round=>
      clear ar a6 aT aJ aO bh
      obtain⟨k,X,C,d,D,rfl,hk,rfl,h0,h1,h2,h3,h4,h5,h6,h7,h8⟩:=hrel
      rename World=>wr
      have FL:=Hd h0
      have BW:=Hd h1
      have ag:=Hd h2
      have S:=Hd h3
      have av:=Hd h4
      have WR:=Hd h5
      have GW:=Hd h6
      have NW:=Hd h7
      have RI:=Hd h8
      clear h0 h1 h2 h3 h4 h5 h6 h7 h8
      by_cases bl:k<K.length
      ·have i2:(k:Int)<(K.length:Int):=by omega
       obtain⟨y,hy⟩:∃y,K[k]? =some y:=⟨_,List.getElem?_eq_getElem bl⟩
       obtain⟨g2,bN,bG,aX,-⟩:=yZ (f:=zd) (by decide) (λy hy=>zu (aP.o y hy)) WR.o.1 hy
       cases bG
       have R1:=Hd aX
       have aU:=Hd (aP.o y (List.mem_of_getElem? hy))
       have YL:=Hd (zu aU.o)
       have K4:=@Hd (k≤32) (by have:=aL.o;omega)
       have bj:=@Hd (d≤k) (by rw[ag.o];refine le_trans (List.length_filter_le _ _) ?_;rw[List.length_take];omega)
       have aw:K.take (k+1)=K.take k++[y]:=by rw[List.take_add_one,hy];rfl
       by_cases hm:y∈G
       ·have ae:=@Hd ((K.take (k+1)).filter (λy=>decide (y∉G))=(K.take k).filter (λy=>decide (y∉G))) (by rw[aw,List.filter_append,List.filter_cons_of_neg (by simpa using hm),List.filter_nil,List.append_nil])
        have HM:=Hd hm
        clear hm hy aX aw
        have⟨v,z,F,H⟩:=tZ4
        go_wp2_with ((first|((with_reducible refine zt ?_);first|(clear v;refine znV rfl rfl rfl R1.o YL.o ?_)|(clear F;refine znV rfl rfl rfl RH.o YL.o ?_))|((with_reducible refine zr ?_);clear z;refine zn3 (w:=wr) (cs:=zd y) rfl rfl rfl rfl YL.o zE ?_;have RH:=Hd (zq wr (zd y) 45);have q:=Hd ((frN wr).alloc (.cells (zd y).toArray 45));generalize wr.heap.size=bK at RH⊢;generalize wr.alloc (.cells (zd y).toArray 45)=w1 at*;have W:=Hd (le_trans BW.o q.o.size);have aa:=Hd (FL.o.fr0 q.o);have B:=Hd (S.o.fr0 q.o);have ai:=Hd (WR.o.fr0 q.o);have E:=Hd (GW.o.fr0 q.o);have ad:=Hd (NW.o.fr0 q.o);have af:=Hd (za RI.o q.o id);clear BW FL S WR GW NW RI)|(clear H;go_at_call 20;refine(Jv w1 (qg.ids E.o (λx h=>bb.o x h)) (by have:=GL.o;omega) y aU.o).mono ?_;rintro e w2 ⟨b,rfl,hb,a⟩;obtain rfl:b=true:=hb.2 HM.o;have an:=Hd (le_trans W.o a.size);have aH:=Hd (aa.o.fr0 a);have r:=Hd (B.o.fr0 a);have aS:=Hd (ai.o.fr0 a);have aI:=Hd (E.o.fr0 a);have aM:=Hd (ad.o.fr0 a);have aQ:=Hd (za af.o a id);have bg:=Hd (za RH.o a id);clear W aa B ai E ad af RH;clear a hb));go_frame)
        go_roundw
        case rel=>exact⟨k+1,_,C,d,D,by go_num,by omega,rfl,aH.o,an.o,by rw[ae.o];exact ag.o,by rw[ae.o];exact r.o,av.o,aS.o,aI.o,aM.o,aQ.o⟩
        case measure=>simp[intOf];omega
       ·have ae:=@Hd ((K.take (k+1)).filter (λy=>decide (y∉G))=(K.take k).filter (λy=>decide (y∉G))++[y]) (by rw[aw,List.filter_append,List.filter_cons_of_pos (by simpa using hm),List.filter_nil])
        have HM:=Hd hm
        clear hm hy aX aw
        have⟨v,z,F,H,K4,K5,K6⟩:=tZ7
        go_wp2_with ((first|((with_reducible refine zt ?_);first|(clear v;refine znV rfl rfl rfl R1.o YL.o ?_)|(clear F;refine znV rfl rfl rfl RH.o YL.o ?_)|(clear K4;refine znV rfl rfl rfl bg.o YL.o ?_)|(clear K5;refine zg rfl (zK (t:=37) rfl rfl y7 xD rfl (by decide) (by decide) YL.o) ?_)|(clear K6;at_builtin;refine zJ rfl rfl rfl rfl aE.o ?_))|((with_reducible refine zr ?_);clear z;refine zn3 (w:=wr) (cs:=zd y) rfl rfl rfl rfl YL.o zE ?_;have RH:=Hd (zq wr (zd y) 45);have q:=Hd ((frN wr).alloc (.cells (zd y).toArray 45));generalize wr.heap.size=bK at RH⊢;generalize wr.alloc (.cells (zd y).toArray 45)=w1 at*;have W:=Hd (le_trans BW.o q.o.size);have aa:=Hd (FL.o.fr0 q.o);have B:=Hd (S.o.fr0 q.o);have ai:=Hd (WR.o.fr0 q.o);have E:=Hd (GW.o.fr0 q.o);have ad:=Hd (NW.o.fr0 q.o);have af:=Hd (za RI.o q.o id);clear BW FL S WR GW NW RI)|(clear H;go_at_call 20;refine(Jv w1 (qg.ids E.o (λx h=>bb.o x h)) (by have:=GL.o;omega) y aU.o).mono ?_;rintro e w2 ⟨b,rfl,hb,a⟩;obtain rfl:b=false:=Bool.eq_false_iff.2 (λh=>HM.o (hb.1 h));have an:=Hd (le_trans W.o a.size);have aH:=Hd (aa.o.fr0 a);have r:=Hd (B.o.fr0 a);have aS:=Hd (ai.o.fr0 a);have aI:=Hd (E.o.fr0 a);have aM:=Hd (ad.o.fr0 a);have aQ:=Hd (za af.o a id);have bg:=Hd (za RH.o a id);clear W aa B ai E ad af RH;clear a hb;obtain⟨v4,w4,a1,a2,a3,-,a5⟩:=yA (P:=prog) w2 V 37 37 45 32 32 _ y7 xA rfl (by decide) r.o.1 (zd y) YL.o zE (by have:=K4.o;have:=bj.o;omega) (by have:=K4.o;have:=bj.o;unfold maxLen;omega) an.o;obtain⟨ay,az,aY⟩:=a2.slice.arg.form;subst aY;obtain⟨X4,aj,ax,ak,aZ⟩:=aH.o.app a3 av.o r.o.2 (λj u=>by have:=(r.o.1.lt j u).1;have:=Y.o;omega) a5 (λj u=>(a2.lt j u).2);have GE:=@Hd (∀j,(Value.slice C d D).ownBlock=some j→V≤j) (λj u=>(r.o.1.lt j u).1);have aE:=Hd a1;have s:=Hd aj;have bA:=Hd ax;have bz:=@Hd (xS T7 w4 V 45 32 (.slice ay (d+1) az) (d+1) (((K.take (k+1)).filter (λy=>decide (y∉G))).flatMap zd)) (⟨by rw[ae.o];simpa using a2,ak⟩);have bp:=Hd (le_trans an.o a3.size);have bw:=@Hd (d+1=((K.take (k+1)).filter (λy=>decide (y∉G))).length) (by rw[ae.o,List.length_append,←ag.o];rfl);have bB:=Hd (xS.app aS.o a3 aC.o GE.o);have br:=Hd (xS.app aI.o a3 aA.o GE.o);have aN:=Hd (xS.app aM.o a3 ab.o GE.o);have bu:=Hd (za aQ.o a3 (λe=>by have:=GE.o _ e;have:=bf.o;omega));clear a1 a2 a3 a5 aj ax ak aZ));go_frame)
        go_roundw
        case rel=>exact⟨k+1,_,ay,d+1,az,by go_num,by omega,rfl,s.o,bp.o,bw.o,bz.o,bA.o,bB.o,br.o,aN.o,bu.o⟩
        case measure=>simp[intOf];omega
      ·have aW:K.take k=K:=List.take_of_length_le (by omega)
       obtain⟨R,hR⟩:∃R,R=K.filter (λy=>decide (y∉G)):=⟨_,rfl⟩
       have RL:d=R.length:=by rw[ag.o,aW,hR]
       have RZ:=@Hd (xS T7 wr V 45 32 (.slice C R.length D) R.length (R.flatMap zd)) (by have:=S.o;rw[aW,←hR,RL] at this;exact this)
       clear ag S
       subst RL
       have bO:R.length+G.length=K.length:=by rw[hR];exact A2.o
       have aG:=@Hd (NL=R++[idH t]) (by rw[hR];exact A1.o)
       have bq:=@Hd (G≠[]→K.length=32) (λh=>LK.o.trans (A3.o h))
       have bx:=@Hd (∀x∈R++[idH t],zV x) (by rw[←aG.o];exact bd.o)
       have lR:R.length≤32:=by omega
       have s1:(R.length:Int)+(G.length:Int)=(K.length:Int):=by omega
       obtain⟨v4,w4,a1,a2,a3,-,a5⟩:=yA (P:=prog) wr V 37 37 45 32 32 _ y7 xA rfl (by decide) RZ.o.1 (zd (idH t)) IL.o zE (by omega) (by unfold maxLen;omega) BW.o
       obtain⟨ay,az,aY⟩:=a2.slice.arg.form
       subst aY
       obtain⟨bP,aj,ax,ak,aZ⟩:=FL.o.app a3 av.o RZ.o.2 (λj u=>by have:=(RZ.o.1.lt j u).1;have:=Y.o;omega) a5 (λj u=>(a2.lt j u).2)
       have GE:=@Hd (∀j,(Value.slice C R.length D).ownBlock=some j→V≤j) (λj u=>(RZ.o.1.lt j u).1)
       have aE:=Hd a1
       have s:=Hd aj
       have aN:=Hd (xS.app NW.o a3 ab.o GE.o)
       have bo:=@Hd (xS T7 w4 0 45 32 (.slice ay (R.length+1) az) (R.length+1) ((R++[idH t]).flatMap zd)) (⟨yu (by simpa using a2) (zero_le _),ak⟩)
       have j4:¬(k:Int)<(K.length:Int):=by omega
       clear a1 a2 a3 a5 aj ax ak aZ aW hR bl hk av
       have⟨v,z,F,H,K4,K5⟩:=tZ6
       go_wp2_with ((first|((with_reducible refine yg 94 ?_);clear v;refine yK (o:=⟨some 94,_,_,_,_,_⟩) rfl (zX (ty:=45) rfl rfl RI.o uH rH (by rw[IL.o];exact yj)) ?_)|((with_reducible refine yg 95 ?_);clear z;refine yK (o:=⟨some 95,_,_,_,_,_⟩) rfl (zK (t:=37) rfl rfl y7 xD rfl (by decide) (by decide) IL.o) ?_)|((with_reducible refine zt ?_);first|(clear F;at_builtin;refine YH rfl rfl rfl rfl aE.o ?_)|(clear K4;refine zg rfl (zX (ty:=27) rfl rfl (za R0.o Q.o.fr id) uT rT xt) ?_))|(clear H;go_at_call 18;refine(jS w4 (qg.ids aN.o bd.o) (xS.ids bo.o (by simp) bx.o) (by rw[aG.o];simp;omega) (by simp;omega)).mono ?_;rintro e w5 ⟨b,rfl,hb,f5⟩;obtain rfl:b=true:=hb.2 aG.o;have Q:=Hd (s.o.fr0 f5);clear hb f5;have p5:=Q.o.cells;rcases show G.length=0∨(0<G.length∧K.length=32) from(Nat.eq_zero_or_pos G.length).imp id (λh=>⟨h,bq.o (List.length_pos_iff.1 h)⟩) with hg0|⟨hg0,hk32⟩)|(clear K5;go_at_call 17;refine(ZB (now:=8) (N:=133) (HG.o.keep0 Q.o.fr) Q.o.1 (by decide) (Q.o.kept HT.o) (by decide)).mono ?_;rintro e w7 ⟨v7,rfl,-,T8,X8,n8⟩;rw[A4.o];have i:=Hd (Q.o.next n8);clear n8 p5));go_frame)
       all_goals go_ret
       all_goals exact⟨rfl,Z.o.trans0 i.o.fr⟩
    ·have z1:(jj A.S (zS A.bs) A.L t==0)=false:=by simpa using h0
     have N1:=Hd (zi7 h0 7).1
     have N2:=Hd (zi7 h0 7).2
     clear h0
     have⟨v,z,F,H⟩:=tZ4
     go_wp2_with ((first|((with_reducible refine zt ?_);clear v;refine zg rfl (zX (ty:=27) rfl rfl (za R0.o c.o.fr id) uT rT xt) ?_)|(clear z;go_at_call 17;refine(ZB (now:=7) (N:=132) (HG.o.keep0 c.o.fr) c.o.1 (by decide) (c.o.kept HT.o) (by decide)).mono ?_;rintro e w7 ⟨v7,rfl,n,T7,X7,n7⟩;rw[N1.o] at n;obtain⟨ga,gc,rfl⟩:=jX (m:=0) n rfl;have n8:xO wz w6 w7 pc pp T4 X4 133 A T7 X7:=(by have h:=n7;rw[show qM A.S (zS A.bs) A.L t ((7:Nat):Int)=A.L from N2.o] at h;exact h);have p:=Hd (c.o.next n8);have M:=Hd (ah.o.next n8);clear n n7 n8 p6;have p7:=p.o.cells)|(clear F;go_at_call 16;refine(vJ p.o.1 (by decide)).mono ?_;rintro e w8 ⟨v8,rfl,n⟩;have I:=Hd (qg.new p.o.1 n);have i:=Hd (p.o.fr0 n.2);have O:=Hd (M.o.fr0 n.2);clear n p7)|(clear H;go_at_call 18;refine(jS w8 (qg.ids O.o i.o.1.pids) (qg.ids I.o i.o.1.pids) (by rw[xd];have:=i.o.1.facts.2.2.2.2.1;omega) (by rw[xd];have:=i.o.1.facts.2.2.2.2.1;omega)).mono ?_;rintro e w9 ⟨b,rfl,hb,f9⟩;obtain rfl:b=true:=hb.2 rfl;have aq:=Hd (i.o.fr0 f9);clear hb f9));go_frame)
     go_ret
     exact⟨rfl,Z.o.trans0 aq.o.fr⟩
   ·go_ret
    exact⟨rfl,Z.o.trans0 U.o⟩
 ·have j1:decide ((256:Int)<(first.length:Int))=true:=by simp;omega
  go_enter Tryz.func3,Tryz.ntmps3
  have⟨v,z⟩:=tZ2
  go_wp2_with ((first|(clear v;go_at_call 11;generalize w.heap.size=q0 at R0⊢;generalize w.alloc (.cells #[.int .u32 t.ver,.slice ia t.ins.length ic,.slice oa t.outs.length oc] 27)=wz at*;refine au.o.mono ?_;rintro e w1 ⟨rfl,f1⟩;have F1:=Hd f1;clear f1)|(clear z;go_at_call 12;refine(xC w1 (HL.o.keep F1.o) (HX.o.keep0 F1.o)).mono ?_;rintro e w2 ⟨⟨g,rfl,al,hz⟩,a⟩;have U:=Hd (F1.o.trans0 a);clear hz a;rcases al with rfl|rfl));go_frame)
  ·go_ret
   exact⟨rfl,Z.o.trans0 U.o⟩
  ·go_ret
   exact⟨rfl,Z.o.trans0 U.o⟩
end Go.Proofs.YtbcllfjmabiafaaGreatDoor
