/- PoolPays: the walk. -/
import Derived.Test.YtbcllfjmabiafaaGreatDoorPG27
import Derived.Test.YtbcllfjmabiafaaGreatDoorPG29
set_option linter.unusedVariables false
set_option linter.unusedSimpArgs false
set_option linter.unnecessarySimpa false
set_option linter.all false
set_option maxRecDepth 20000
set_option maxHeartbeats 16000000
namespace Go.Proofs.YtbcllfjmabiafaaGreatDoor
open Go Go.RowKit Go.Maps Go.MapKept
open Go.Proofs.Tryz(prog)
open List(mem_of_getElem?)
open Nat(zero_le le_trans)
theorem zj4 {w:World} (hg:vp w) {fv lv:Value} {first:List yC} {l:List vm} (hl:xg w fv first) (hx:vK w lv l):
  Calls prog 10 #[fv,lv] w λe w'=>e=.returned (.bool true)∧Fr No w w':=by
 obtain⟨dP,uP,rP⟩:=zhU
 have zw:=jZ
 have zT:=show ∀w,(zeroValue 27).run prog w=.ok (.agg zcG.toArray) w from Zp
 have zh:=yJ
 obtain⟨fa,fc,rfl⟩:=hl.2.form
 obtain⟨la,lc,rfl⟩:=hx.form
 have HG:=Hd hg
 have HL:=Hd hl
 have HX:=Hd hx
 have a7:=Hd (vT hg)
 clear hg hl hx
 have zP:=vr
 have zO:=y3
 have zC:=ZU
 by_cases hF:first.length≤256
 ·have j1:decide ((256:Int)<(first.length:Int))=false:=by simp;omega
  go_enter Tryz.func10,Tryz.ntmps10
  have⟨D,E⟩:=tZ2
  go_wp2_with ((first|(clear D;go_at_call 11;refine a7.o.mono ?_;rintro e w1 ⟨rfl,f1⟩;have O:=Hd f1;clear f1)|(clear E;go_at_call 12;refine(xC w1 (HL.o.keep O.o) (HX.o.keep0 O.o)).mono ?_;rintro e N ⟨⟨g,rfl,aR,hz⟩,s⟩;have GZ:=Hd hz;have Q:=Hd (O.o.trans0 s);clear hz s;rcases aR with rfl|rfl));go_frame)
  ·have aH:=Hd (GZ.o (by first|trivial|rfl))
   clear GZ
   have⟨D,E,K2,K3⟩:=tZ4
   go_wp2_with ((first|(clear D;go_at_call 14;refine(JS Q.o (HL.o.keep Q.o) hF).mono ?_;rintro e w3 ⟨pc,pp,T,rfl,bV,cM,f3⟩;have W3:=Hd (bV T (λ_ h=>h) (λ_ h=>.inl h));have aQ:=@Hd (∀j,T j→w.heap.size≤j) (λj r=>(W3.o.facts.1 j r).1);clear bV cM f3)|(clear E;go_at_call 15;refine(YU HG.o (W3.o.more (by decide)) aQ.o rfl HX.o aH.o.2.1 aH.o.2.2).mono ?_;rintro e w4 ⟨rfl,T4,X4,A,n4,cL,cP⟩;have n:=Hd (FlB.begun n4 aQ.o W3.o.facts.2.2.1.size);clear n4 cL cP)|(clear K3;go_at_call 16;refine(vJ n.o.1 (by decide)).mono ?_;rintro e w6 ⟨v6,rfl,ho⟩;have C:=Hd (n.o.fr0 ho.2);have ao:=Hd (qg.new n.o.1 ho);obtain⟨ra,rc,ar⟩:=ho.1.slice.arg.form;subst ar;clear ho p5)|((with_reducible refine zr ?_);clear K2;refine zi rfl (zj (w:=w4) (ty:=34) (cs:=xM pc pp) rfl rfl rfl rfl qR (XV rfl rfl)) ?_;generalize w4.heap.size=c7 at*;generalize w4.alloc (.cells (xM pc pp).toArray 34)=w5 at*;have p5:=n.o.cells));go_frame)
   have aj:=Hd C.o.1.facts.2.2.2.1
   have ba:=Hd C.o.1.nok
   have aN:=Hd C.o.1.facts.2.2.2.2.2.1
   have LK:=@Hd ((zR A.L).length=A.L.length) (xd _)
   have ck:=@Hd ((zR A.L).length≤32) (by rw[xd];exact C.o.1.facts.2.2.2.2.1)
   have bb:=Hd C.o.1.pids
   have cj:=@Hd (∀(i:Nat) e,A.L[i]? =some e→(zR A.L)[i]? =some e.id) (λi e h=>by unfold zR;rw[List.getElem?_map,h];rfl)
   have I8:=@Hd (∀e∈A.L,e.tx.ins.length≤8∧e.tx.outs.length≤8) (λe he=>(xe.1 (jd (aj.o.ent e he).1).1).2)
   clear n W3 aQ aH
   generalize hK:zR A.L=K at*
   have cZ:=ck.o
   obtain⟨Y,cK⟩:∃Y,Y=w6.heap.size:=⟨_,rfl⟩
   have a6:=@Hd (c7<Y) (by have:=yr C.o.2.2.2;omega)
   have bH:=Hd (λj (r:(Value.slice ra K.length rc).ownBlock=some j)=>show j<Y from by have:=(ao.o.1.lt j r).2;omega)
   have aY:=@Hd (Y≤w6.heap.size) (by omega)
   clear cK hK
   go_loopw [6,45] (λrv iv wr=>∃(k:Nat) (X:Nat→Prop) (qa:Option Addr) (z qc:Nat),iv=.int .i64 k∧k≤K.length∧rv=.slice qa z qc∧z=(Jb (A.L.take k)).length∧FlB w wr c7 pc pp T4 X 132 A∧Y≤wr.heap.size∧xS T4 wr Y 60 66 (.slice qa z qc) z ((Jb (A.L.take k)).flatMap z7)∧(∀j,(Value.slice qa z qc).ownBlock=some j→X j)∧qg T4 wr (.slice ra K.length rc) K∧∀q∈Jb (A.L.take k),q.ok) (λ_ iv _=>K.length-(intOf iv).toNat)
   case atStart=>exact⟨0,_,none,0,0,rfl,zero_le _,rfl,rfl,C.o,aY.o,⟨World.ownsRow_nil _ _ _ _,λj h=>(by cases h)⟩,λj h=>(by cases h),ao.o,λq hq=>by simp[Jb] at hq⟩
   case round=>
    clear C aY ao
    obtain⟨k,X,qa,z,qc,rfl,hk,rfl,bR,h0,h1,h2,h3,h4,h5⟩:=hrel
    rename World=>wr
    have FL:=Hd h0
    have BW:=Hd h1
    have RR:=Hd h2
    have RX:=Hd h3
    have WR:=Hd h4
    have aU:=Hd h5
    have QN:=Hd bR
    clear h0 h1 h2 h3 h4 h5 bR
    by_cases hlt:k<K.length
    ·have i2:(k:Int)<(K.length:Int):=by omega
     obtain⟨e,hek⟩:∃e,A.L[k]? =some e:=⟨_,List.getElem?_eq_getElem (by rw[←LK.o];exact hlt)⟩
     have hy:=cj.o k e hek
     have he:=mem_of_getElem? hek
     obtain⟨C1,hs⟩:∃C1,A.L=A.L.take k++e::C1:=⟨A.L.drop (k+1),by
      obtain⟨h1,h2⟩:=List.getElem?_eq_some_iff.1 hek
      rw[←h2,←List.drop_eq_getElem_cons h1,List.take_append_drop]⟩
     obtain⟨g2,cT,cQ,bS,-⟩:=yZ (f:=zd) (by decide) (λy hy=>zu (bb.o y hy)) WR.o.1 hy
     cases cQ
     have R1:=Hd bS
     have cb:=Hd (bb.o e.id (mem_of_getElem? hy))
     have EL:=Hd (zu cb.o)
     have HE:=Hd he
     have SM:=Hd (FL.o.1.small e he)
     have ca:=Hd (aj.o.ent e he)
     have FB:=Hd (jd ca.o.1).1
     have a8:=Hd (Yw (t:=e.tx) (FL.o.1.txok e he).2 SM.o.2.1)
     have aw:=@Hd ((yN e.tx).length=e.tx.outs.length) (qZ _ _)
     have aI:=Hd (aj.o.pays hs)
     have bm:=Hd (ziC aj.o ba.o hs)
     have bd:=Hd (λq hq=>zfn aj.o ba.o hs (q:=q) hq)
     have bE:=Hd (zf8 k hek)
     have bc:=@Hd ((Jb (A.L.take k)).length≤256) (by
      have h1:=zd4 (f:=λe:zL=>yN e.tx) (b:=8) (l:=A.L.take k) (λe he=>by rw[show(yN e.tx).length=e.tx.outs.length from qZ _ _];exact(I8.o e (List.mem_of_mem_take he)).2)
      have h2:(A.L.take k).length≤32:=by rw[List.length_take];have:=LK.o;omega
      have h3:(Jb (A.L.take k)).length≤8*(A.L.take k).length:=h1
      omega)
     have e8:=(I8.o e he).1
     have o8:=(I8.o e he).2
     obtain⟨sz,aT⟩:=Int.eq_ofNat_of_zero_le (YE FB.o).1
     have cF:=@Hd (sz≤1200) (by have:=(YE FB.o).2;omega)
     have ch:=Hd aT
     have cd:=Hd (λw=>zdh sz (by have:=cF.o;omega) w)
     have cY:¬e.fee<Jq (sz:Int):=by have:=aI.o.2.2;rw[aT] at this;omega
     clear hy bS he hek hs aT
     have F:=Hd (frN wr)
     have⟨D,E,K2,K3,K4,K5,K6⟩:=tZ7
     go_wp2_with ((first|((with_reducible refine zt ?_);first|(clear D;refine znV rfl rfl rfl R1.o EL.o ?_)|(clear K2;refine znV rfl rfl rfl RH.o EL.o ?_)|(clear K5;refine znT rfl rfl rfl RT.o rfl ?_))|((with_reducible refine zr ?_);first|(clear E;refine zn3 (w:=wr) (cs:=zd e.id) rfl rfl rfl rfl EL.o zE ?_;have RH:=Hd (zq wr (zd e.id) 45);have a:=Hd ((frN wr).alloc (.cells (zd e.id).toArray 45));generalize wr.heap.size=q8 at RH⊢;generalize wr.alloc (.cells (zd e.id).toArray 45)=w1 at*;have d:=Hd (FL.o.fr0 a.o);have ak:=Hd (WR.o.fr0 a.o);have bx:=Hd (RR.o.fr0 a.o);have O:=Hd (F.o.trans0 a.o);clear FL WR RR F;have p1:=d.o.cells.2)|(clear K4;refine zi rfl (zj (w:=N) (ty:=27) (cs:=[.int .u32 e.tx.ver,.slice ja e.tx.ins.length jc,.slice ka e.tx.outs.length kc]) rfl rfl rfl rfl xt (jC rfl rfl rfl)) ?_;have RT:=Hd (qI N e.tx.ver (.slice ja e.tx.ins.length jc) (.slice ka e.tx.outs.length kc)).2.2.2;have a:=Hd ((frN N).alloc (.cells #[.int .u32 e.tx.ver,.slice ja e.tx.ins.length jc,.slice ka e.tx.outs.length kc] 27));generalize N.heap.size=q9 at RT⊢;generalize N.alloc (.cells #[.int .u32 e.tx.ver,.slice ja e.tx.ins.length jc,.slice ka e.tx.outs.length kc] 27)=w3 at*;have aa:=Hd (L.o.fr0 a.o);have an:=Hd (al.o.fr0 a.o);have bA:=Hd (bz.o.fr0 a.o);have F3:=Hd (Q.o.trans0 a.o);have bu:=Hd (za bt.o a.o id);have U:=Hd (TK.o.on a.o);clear L al bz Q bt TK))|(clear K3;go_at_call 28;refine(zha d.o.1 HE.o).mono ?_;rintro e' N ⟨ts,rfl,s,bQ⟩;have TK:=Hd (bQ No (λj h=>h.elim));obtain⟨ja,jc,ka,kc,rfl⟩:=TK.o.now.form;have L:=Hd (d.o.fr0 s);have al:=Hd (ak.o.fr0 s);have bz:=Hd (bx.o.fr0 s);have Q:=Hd (O.o.trans0 s);have bt:=Hd (za RH.o s id);clear d ak bx O RH;clear s bQ p1)|(clear K6;go_at_call 30;refine(jO w3 U.o.now SM.o.1).mono ?_;rintro e' w7 ⟨qv,rfl,aS,f7⟩;have QR:=Hd aS;have TO:=Hd (U.o.now.oks.1);obtain⟨ya,yc,cO⟩:=aS.slice.arg.form;subst cO;have n:=Hd (aa.o.fr0 f7);have V:=Hd (an.o.fr0 f7);have aL:=Hd (bA.o.fr0 f7);have F4:=Hd (F3.o.trans0 f7);have ah:=Hd (za bu.o f7 id);have ai:=Hd (U.o.on f7);have S:=Hd (za RT.o f7 id);clear aa an bA F3 bu U RT;clear aS f7));go_frame)
     obtain⟨G,aB⟩:∃G,G=w7.heap.size:=⟨_,rfl⟩
     have bF:=@Hd (Kept (λj=>G≤j) w7 (λw=>TxQ w e.tx [.int .u32 e.tx.ver,.slice ja e.tx.ins.length jc,.slice ka e.tx.outs.length kc])) (ai.o.step (Fr.refl _ _) (λj r h=>by omega))
     have Q8:=@Hd (q8<G) (by rw[aB];exact qz ah.o (by rw[←List.length_pos_iff,EL.o];decide))
     have Q9:=@Hd (q9<G) (by rw[aB];exact qz S.o (by simp))
     have cv:=@Hd (∀j,(Value.slice ya e.tx.ins.length yc).ownBlock=some j→j<G) (λj r=>by have:=(QR.o.lt j r).2;omega)
     have bs:=@Hd (∀j,(Value.slice qa z qc).ownBlock=some j→j<G) (λj r=>by have:=(aL.o.1.lt j r).2;omega)
     have cH:=@Hd (∀j,(Value.slice (some ⟨g2,0,none⟩) K.length rc).ownBlock=some j→j<G) (λj r=>by have:=(V.o.1.lt j r).2;omega)
     have aZ:=@Hd (c7<G) (by have:=yr n.o.2.2.2;omega)
     have b9:=@Hd (Y≤G) (by rw[aB];exact le_trans BW.o F4.o.size)
     have aV:=@Hd (G≤w7.heap.size) (by omega)
     obtain⟨PS,ad⟩:∃PS,PS=z6 e.tx:=⟨_,rfl⟩
     have bf:=@Hd (PS.length=e.tx.ins.length) (by rw[ad];exact jP e.tx)
     have bh:=@Hd (∀q∈PS,q.ok) (λq hq=>by rw[ad] at hq;obtain⟨y,hy,rfl⟩:=List.mem_map.1 hq;exact TO.o y hy)
     have br:=@Hd (World.ownsRow w7 0 56 33 (.slice ya e.tx.ins.length yc) e.tx.ins.length (PS.flatMap zm)) (yu (by rw[ad];exact QR.o) (zero_le _))
     obtain⟨p,M⟩:∃p,Jb (A.L.take k)=p:=⟨_,rfl⟩
     have cm:=@Hd (∀q∈PS,(JO A.S p q).1=true) (λq hq=>by rw[←M,bd.o q (by rw[←ad];exact hq)])
     have AR:=@Hd (xS T4 w7 Y 60 66 (.slice qa z qc) z (p.flatMap z7)) (by rw[←M];exact aL.o)
     have H:=@Hd (∀c∈p,c.ok) (by rw[←M];exact aU.o)
     have R:=@Hd (z=p.length) (by rw[←M];exact QN.o)
     have aP:=@Hd (Jb (A.L.take (k+1))=p++yN e.tx) (by rw[bE.o,M])
     have bp:=@Hd (PS.map (λq=>(JO A.S p q).2)=xj A.S (A.L.take k) e.tx) (by rw[ad,←M];exact bm.o)
     have bj:=@Hd (∀q,(JO A.S p q).2.ok) (λq=>zhr aN.o H.o)
     have aC:=@Hd (p.length≤256) (by rw[←M];exact bc.o)
     have cX:z≤256:=by rw[R.o];exact aC.o
     have bG:=Hd (World.ownsRow_nil w7 G 58 33)
     clear ad aB QR M bE bm bd aU QN bc
     obtain⟨Z,aq⟩:∃Z,PS.map (λq=>(JO A.S p q).2)=Z:=⟨_,rfl⟩
     have bl:=@Hd (Z.length=e.tx.ins.length) (by rw[←aq,List.length_map,bf.o])
     have bk:=@Hd (∀(i:Nat) q,PS[i]? =some q→Z[i]? =some (JO A.S p q).2) (λi q h=>by rw[←aq,List.getElem?_map,h];rfl)
     have bn:=@Hd (∀o∈Z,o.ok) (λo ho=>by rw[←aq] at ho;obtain⟨q,-,rfl⟩:=List.mem_map.1 ho;exact bj.o q)
     rw[aq] at bp
     clear aq
     go_loopw [11,59] (λrv iv wr=>∃(j:Nat) (X:Nat→Prop) (pa:Option Addr) (pk:Nat),iv=.int .i64 j∧j≤e.tx.ins.length∧rv=.slice pa j pk∧FlB w wr c7 pc pp T4 X 132 A∧G≤wr.heap.size∧xS T4 wr G 58 33 (.slice pa j pk) j ((Z.take j).flatMap zF)∧(∀j',(Value.slice pa j pk).ownBlock=some j'→X j')∧xS T4 wr Y 60 66 (.slice qa z qc) z (p.flatMap z7)∧(∀j',(Value.slice qa z qc).ownBlock=some j'→X j')∧qg T4 wr (.slice (some ⟨g2,0,none⟩) K.length rc) K∧World.ownsRow wr 0 56 33 (.slice ya e.tx.ins.length yc) e.tx.ins.length (PS.flatMap zm)∧World.rangeAt wr q8 0 (zd e.id)∧World.rangeAt wr q9 0 [.int .u32 e.tx.ver,.slice ja e.tx.ins.length jc,.slice ka e.tx.outs.length kc]∧Kept (λj=>G≤j) wr (λw=>TxQ w e.tx [.int .u32 e.tx.ver,.slice ja e.tx.ins.length jc,.slice ka e.tx.outs.length kc])) (λ_ iv _=>e.tx.ins.length-(intOf iv).toNat)
     case atStart=>exact⟨0,_,none,0,rfl,zero_le _,rfl,n.o,aV.o,⟨bG.o,λj h=>(by cases h)⟩,λj h=>(by cases h),AR.o,RX.o,V.o,br.o,ah.o,S.o,bF.o⟩
     case round=>
      clear n aL V S ah aV br bF RX AR bG BW
      obtain⟨j,X,pa,pk,rfl,r,rfl,h0,h1,h2,h3,h4,h5,h6,h7,h8,h9,bO⟩:=hrel
      rename World=>wr
      have FL:=Hd h0
      have aG:=Hd h1
      have PR:=Hd h2
      have PX:=Hd h3
      have AR:=Hd h4
      have RX:=Hd h5
      have WR:=Hd h6
      have QR:=Hd h7
      have RH:=Hd h8
      have RT:=Hd h9
      have TK:=Hd bO
      clear h0 h1 h2 h3 h4 h5 h6 h7 h8 h9 bO
      by_cases hjt:j<e.tx.ins.length
      ·have i4:(j:Int)<(e.tx.ins.length:Int):=by omega
       obtain⟨q,hq⟩:∃q,PS[j]? =some q:=⟨_,List.getElem?_eq_getElem (by rw[bf.o];exact hjt)⟩
       obtain⟨g5,cU,cS,bT,-⟩:=yZ (f:=zm) (by decide) (λy hy=>zW (bh.o y hy)) QR.o hq
       cases cS
       have R5:=Hd bT
       have ay:=Hd (bh.o q (mem_of_getElem? hq))
       have QL:=Hd (zW ay.o)
       have PY:=Hd (cm.o q (mem_of_getElem? hq))
       have XL:=Hd (yq (qB aN.o q))
       have cr:=@Hd (Z.take (j+1)=Z.take j++[(JO A.S p q).2]) (by rw[List.take_add_one,bk.o j q hq];rfl)
       have F:=Hd (frN wr)
       have b5:=AR
       have cf:=FL
       clear hq bT
       have⟨D,E,K2,K3,K4⟩:=tZ5
       go_wp2_with ((first|((with_reducible refine zt ?_);first|(clear D;refine znW rfl rfl rfl R5.o QL.o ?_)|(clear K2;refine znW rfl rfl rfl RQ.o QL.o ?_))|((with_reducible refine zr ?_);first|(clear E;refine zn5 (w:=wr) (cs:=zm q) rfl rfl rfl rfl QL.o yF ?_;have RQ:=Hd (zq wr (zm q) 56);have a:=Hd ((frN wr).alloc (.cells (zm q).toArray 56));generalize wr.heap.size=bW at RQ⊢;generalize wr.alloc (.cells (zm q).toArray 56)=w1 at*;have d:=Hd (FL.o.fr0 a.o);have af:=Hd (AR.o.fr0 a.o);have O:=Hd (F.o.trans0 a.o);clear FL AR F;have p1:=d.o.cells.1;have cu:=@Hd (bW<w1.heap.size) (qz RQ.o (by rw[←List.length_pos_iff,QL.o];decide)))|(clear K4;refine zn2 (w:=N) (cs:=zF (zZ A.S q)) rfl rfl rfl rfl XL.o yd ?_;have BO:=Hd (ye N (.cells (zF (zZ A.S q)).toArray 58));have a:=Hd ((frN N).alloc (.cells (zF (zZ A.S q)).toArray 58));have QE:=@Hd (wr.heap.size≤N.heap.size) (Q.o.size);generalize N.heap.size=ae at BO aD QE⊢;generalize N.alloc (.cells (zF (zZ A.S q)).toArray 58)=w3 at*;have aa:=Hd (L.o.fr0 a.o);have au:=Hd (ag.o.fr0 a.o);have F3:=Hd (Q.o.trans0 a.o);have cB:=Hd (za bw.o a.o id);clear L ag Q bw))|(clear K3;go_at_call 23;refine(YR d.o.1 ay.o).mono ?_;rintro e' N ⟨rfl,s⟩;have aD:=@Hd (bW<N.heap.size) (Nat.lt_of_lt_of_le cu.o s.size);have L:=Hd (d.o.fr0 s);have ag:=Hd (af.o.fr0 s);have Q:=Hd (O.o.trans0 s);have bw:=Hd (za RQ.o s id);clear d af O RQ;clear s p1));go_frame)
       have bg:=zj3 A.S q
       have cW:G≤ae:=le_trans aG.o QE.o
       go_loopw [15,72] (λbv iv B=>∃i:Nat,iv=.int .i64 i∧i≤z∧bv=.bool (JO A.S (p.take i) q).1∧Fr (λj=>j=ae) w3 B∧B.heap[ae]? =some (.cells (zF (JO A.S (p.take i) q).2).toArray 58 (0,0))) (λ_ iv _=>z-(intOf iv).toNat)
       case atStart=>exact⟨0,rfl,zero_le _,by rw[List.take_zero,bg],Fr.refl _ _,by rw[List.take_zero,bg];exact BO.o⟩
       case round=>
        obtain⟨i,rfl,hi,rfl,fz,bo⟩:=hrel
        rename World=>B
        have FZ:=Hd fz
        have BZ:=Hd bo
        have AZ:=Hd (zb au.o.1 fz (λj r e=>by have:=bs.o j r;omega))
        have aK:=Hd (za cB.o fz (λe=>by have:=aD.o;omega))
        clear bo
        by_cases hit:i<z
        ·have i5:(i:Int)<(z:Int):=by omega
         obtain⟨c,hc⟩:∃c,p[i]? =some c:=⟨_,List.getElem?_eq_getElem (by rw[←R.o];exact hit)⟩
         obtain⟨g6,cV,ar,bU,-⟩:=yZ (f:=z7) (by decide) (λy hy=>xI (H.o y hy)) AZ.o hc
         cases ar
         have R6:=Hd bU
         have I:=Hd (H.o c (mem_of_getElem? hc))
         have CL:=Hd (xI I.o)
         have KL:=Hd (zW I.o.1)
         have VL:=Hd (yq I.o.2)
         have ab:=@Hd (p.take (i+1)=p.take i++[c]) (by rw[List.take_add_one,hc];rfl)
         have ZL:=Hd (yq (zhr (l:=p.take i) (q:=q) aN.o (λc h=>H.o c (List.mem_of_mem_take h))))
         clear hc bU fz
         cases hb:(JO A.S (p.take i) q).1 with
         |true=>
          have HB:=Hd hb
          have HK:=Hd (ziy (c:=c) hb)
          clear hb
          have⟨D,E⟩:=tZ2
          go_wp2_with ((first|((with_reducible refine zt ?_);clear D;refine znY rfl rfl rfl R6.o CL.o ?_)|((with_reducible refine zr ?_);clear E;refine zn4 (w:=B) (cs:=z7 c) rfl rfl rfl rfl CL.o qi ?_;have RC:=Hd (zq B (z7 c) 60);have a:=Hd ((frN B).alloc (.cells (z7 c).toArray 60));generalize x:B.heap.size=bX at RC⊢;generalize B.alloc (.cells (z7 c).toArray 60)=wy at*;have bq:=Hd x;clear x;have BY:=Hd (a.o.obj BZ.o id);have aA:=Hd (za aK.o a.o id);have FY:=Hd (FZ.o.trans0 a.o);have az:=Hd (JF RC.o);have aJ:=Hd (Xx I.o RC.o)));go_frame)
          go_roundw
          case rel=>exact⟨i+1,by go_num,by omega,by rw[ab.o,HK.o,HB.o],FY.o,by rw[ab.o,HK.o];exact BY.o⟩
          case measure=>simp[intOf];omega
         |false=>
          have HB:=Hd hb
          have HK:=zld (c:=c) hb
          clear hb
          by_cases hc:c.at_=q
          ·rw[if_pos hc] at HK
           have HK:=Hd HK
           have HC:=Hd hc
           clear hc
           have⟨D,E,K2,K3,K4,K5,K6⟩:=tZ7
           go_wp2_with ((first|((with_reducible refine zt ?_);first|(clear D;refine znY rfl rfl rfl R6.o CL.o ?_)|(clear K5;refine znU rfl rfl rfl aJ.o VL.o ?_))|((with_reducible refine zr ?_);first|(clear E;refine zn4 (w:=B) (cs:=z7 c) rfl rfl rfl rfl CL.o qi ?_;have RC:=Hd (zq B (z7 c) 60);have a:=Hd ((frN B).alloc (.cells (z7 c).toArray 60));generalize x:B.heap.size=bX at RC⊢;generalize B.alloc (.cells (z7 c).toArray 60)=wy at*;have bq:=Hd x;clear x;have BY:=Hd (a.o.obj BZ.o id);have aA:=Hd (za aK.o a.o id);have FY:=Hd (FZ.o.trans0 a.o);have az:=Hd (JF RC.o);have aJ:=Hd (Xx I.o RC.o))|(clear K6;refine zi rfl (zU (ty:=58) (b:=ae) (off:=0) (cs:=zF c.out) rfl rfl rfl (yb BY.o (by rw[VL.o];simp[ZL.o])) (by rw[VL.o];exact yW) yd) ?_))|((with_reducible refine yg 80 ?_);clear K2;refine yK (o:=⟨some 80,_,_,_,_,_⟩) rfl (zX (ty:=56) rfl rfl az.o uP rP (by rw[KL.o];exact xZ)) ?_)|((with_reducible refine yg 81 ?_);clear K3;refine yK (o:=⟨some 81,_,_,_,_,_⟩) rfl (zX (ty:=56) rfl rfl aA.o uP rP (by rw[QL.o];exact xZ)) ?_)|((with_reducible refine yg 82 ?_);clear K4;refine yK (o:=⟨some 82,_,_,_,_,_⟩) rfl (jF.exec_eql (u:=(zm c.at_).toArray) (v:=(zm q).toArray) rfl rfl rfl (xu I.o.1) (xu ay.o) true ⟨λ_=>by rw[HC.o],λ_=>rfl⟩ _) ?_));go_frame)
           have FE:=zy ae (zF c.out) 0 wy
           have BE:=zcQ (cs:=zF c.out) BY.o (by rw[VL.o,ZL.o])
           go_roundw
           case rel=>exact⟨i+1,by go_num,by omega,by rw[ab.o,HK.o],FY.o.trans FE (λ_ _ h=>h),by rw[ab.o,HK.o];exact BE⟩
           case measure=>simp[intOf];omega
          ·rw[if_neg hc] at HK
           have HK:=Hd HK
           have NC:=@Hd (¬(zm c.at_).toArray=(zm q).toArray) (λh=>hc (Vo (Array.mk.inj h)))
           clear hc
           have⟨D,E,K2,K3,K4⟩:=tZ5
           go_wp2_with ((first|((with_reducible refine zt ?_);clear D;refine znY rfl rfl rfl R6.o CL.o ?_)|((with_reducible refine zr ?_);clear E;refine zn4 (w:=B) (cs:=z7 c) rfl rfl rfl rfl CL.o qi ?_;have RC:=Hd (zq B (z7 c) 60);have a:=Hd ((frN B).alloc (.cells (z7 c).toArray 60));generalize x:B.heap.size=bX at RC⊢;generalize B.alloc (.cells (z7 c).toArray 60)=wy at*;have bq:=Hd x;clear x;have BY:=Hd (a.o.obj BZ.o id);have aA:=Hd (za aK.o a.o id);have FY:=Hd (FZ.o.trans0 a.o);have az:=Hd (JF RC.o);have aJ:=Hd (Xx I.o RC.o))|((with_reducible refine yg 80 ?_);clear K2;refine yK (o:=⟨some 80,_,_,_,_,_⟩) rfl (zX (ty:=56) rfl rfl az.o uP rP (by rw[KL.o];exact xZ)) ?_)|((with_reducible refine yg 81 ?_);clear K3;refine yK (o:=⟨some 81,_,_,_,_,_⟩) rfl (zX (ty:=56) rfl rfl aA.o uP rP (by rw[QL.o];exact xZ)) ?_)|((with_reducible refine yg 82 ?_);clear K4;refine yK (o:=⟨some 82,_,_,_,_,_⟩) rfl (jF.exec_eql (u:=(zm c.at_).toArray) (v:=(zm q).toArray) rfl rfl rfl (xu I.o.1) (xu ay.o) false ⟨λh=>(by cases h),λh=>absurd h NC.o⟩ _) ?_));go_frame)
           go_roundw
           case rel=>exact⟨i+1,by go_num,by omega,by rw[ab.o,HK.o,HB.o],FY.o,by rw[ab.o,HK.o];exact BY.o⟩
           case measure=>simp[intOf];omega
        ·have i5:¬(i:Int)<(z:Int):=by omega
         have TA:p.take i=p:=List.take_of_length_le (by rw[←R.o];omega)
         rw[TA]
         have e1:(JO A.S p q).1=true:=PY.o
         have BZ:=@Hd (B.heap[ae]? =some (.cells (zF (JO A.S p q).2).toArray 58 (0,0))) (by rw[←TA];exact BZ.o)
         have RO:=Hd (vj BZ.o)
         have OL:=Hd (yq (bj.o q))
         have FW:=@Hd (Fr No wr B) (F3.o.trans fz (λi hi e=>by have:=QE.o;omega))
         have cg:=Hd (cf.out.fr0 FW.o)
         have ax:=Hd (PR.o.fr0 FW.o)
         have b6:=@Hd (xS T4 B Y 60 66 (.slice qa z qc) z (p.flatMap z7)) (b5.out.fr0 FW.o)
         have cJ:=Hd (WR.o.fr0 FW.o)
         have cy:=Hd (zb QR.o FW.o (λ_ _=>id))
         have cA:=Hd (za RH.o FW.o id)
         have cC:=Hd (za RT.o FW.o id)
         have aW:=Hd (le_trans aG.o FW.o.size)
         have cG:=Hd (TK.o.on FW.o)
         obtain⟨v4,w4,a1,a2,W,-,a5⟩:=yA (P:=prog) B G 22 22 58 33 40 _ qO JG (by rw[←yQ];rfl) (by decide) ax.o.1 (zF (JO A.S p q).2) OL.o yd (by omega) (by unfold maxLen;omega) aW.o
         obtain⟨bY,b0,cR⟩:=a2.slice.arg.form
         subst cR
         obtain⟨X4,bI,bM,bK,b3,-⟩:=cg.o.app W PX.o ax.o.2 (λj r=>by have:=(ax.o.1.lt j r).1;have:=aZ.o;omega) a5 (λj r=>(a2.lt j r).2)
         have GE:=@Hd (∀j',(Value.slice pa j pk).ownBlock=some j'→G≤j') (λj r=>(ax.o.1.lt j r).1)
         have aE:=Hd a1
         have n:=Hd bI
         have ct:=Hd bM
         have cD:=Hd (λj r=>b3 j (RX.o j r))
         have cn:=@Hd (xS T4 w4 G 58 33 (.slice bY (j+1) b0) (j+1) ((Z.take (j+1)).flatMap zF)) (⟨by rw[cr.o];simpa using a2,bK⟩)
         have aF:=Hd (xS.app b6.o W bs.o GE.o)
         have V:=Hd (xS.app cJ.o W cH.o GE.o)
         have cx:=Hd (zb cy.o W (λi hi e=>by have:=cv.o i hi;have:=GE.o i e;omega))
         have ah:=Hd (za cA.o W (λe=>by have:=GE.o _ e;have:=Q8.o;omega))
         have S:=Hd (za cC.o W (λe=>by have:=GE.o _ e;have:=Q9.o;omega))
         have ai:=Hd (cG.o.step (W.mono (λi e=>GE.o i e)) (λ_ _ h=>h))
         have b7:=Hd (le_trans aW.o W.size)
         clear a1 a2 W a5 bI bM bK b3 TA fz
         have⟨D,E,K2⟩:=tZ3
         go_wp2_with (((with_reducible refine zt ?_);first|(clear D;refine znU rfl rfl rfl RO.o OL.o ?_)|(clear E;refine zg rfl (zK (t:=22) rfl rfl qO jU (by rw[←yQ];rfl) (by decide) (by decide) OL.o) ?_)|(clear K2;at_builtin;refine zJ rfl rfl rfl rfl aE.o ?_));go_frame)
         go_roundw
         case rel=>exact⟨j+1,_,bY,b0,by go_num,by omega,rfl,n.o,b7.o,cn.o,ct.o,aF.o,cD.o,V.o,cx.o,ah.o,S.o,ai.o⟩
         case measure=>simp[intOf];omega
      ·have i4:¬(j:Int)<(e.tx.ins.length:Int):=by omega
       have bP:j=Z.length:=by rw[bl.o];omega
       have cq:=@Hd (xg wr (.slice pa j pk) Z) (⟨bn.o,by have h:=PR.o.1.slice.arg;rw[show Z.take j=Z from List.take_of_length_le (by omega)] at h;rw[←bP];exact h⟩)
       clear PR
       have cp:=@Hd (Z.length≤1000) (by rw[bl.o];omega)
       clear bP hjt r
       have F:=Hd (frN wr)
       have⟨D,E,K2,K3,K4,K5,K6,K7,K8,K9⟩:=tZ10
       go_wp2_with ((first|((with_reducible refine zt ?_);first|(clear D;refine znT rfl rfl rfl RT.o rfl ?_)|(clear K2;refine znV rfl rfl rfl cz.o EL.o ?_)|(clear K4;refine znT rfl rfl rfl aM.o rfl ?_)|(clear K7;refine znT rfl rfl rfl S.o rfl ?_)|(clear K9;at_builtin;refine zJ rfl rfl rfl rfl aE.o ?_))|(clear E;go_at_call 41;refine(Zt (HG.o.keep0 FL.o.fr) TK.o.now cq.o cp.o).mono ?_;rintro e' w1 ⟨rfl,f1⟩;rw[bp.o,aI.o.1,aI.o.2.1];have d:=Hd (FL.o.fr0 f1);have af:=Hd (AR.o.fr0 f1);have ak:=Hd (WR.o.fr0 f1);have cz:=Hd (za RH.o f1 id);have bB:=Hd (za RT.o f1 id);have bD:=Hd (TK.o.on f1);have O:=Hd (F.o.trans0 f1);clear FL AR WR RH RT TK F;clear f1;have p1:=d.o.cells.2)|(clear K3;go_at_call 38;refine(zno d.o.1 HE.o).mono ?_;rintro e' N ⟨rfl,s⟩;have L:=Hd (d.o.fr0 s);have ag:=Hd (af.o.fr0 s);have al:=Hd (ak.o.fr0 s);have aM:=Hd (za bB.o s id);have aO:=Hd (bD.o.on s);have Q:=Hd (O.o.trans0 s);clear d af ak bB bD O;clear s p1)|(clear K5;go_at_call 42;refine(zao N aO.o.now FB.o).mono ?_;rintro e' w3 ⟨rfl,f3⟩;rw[ch.o];have aa:=Hd (L.o.fr0 f3);have au:=Hd (ag.o.fr0 f3);have an:=Hd (al.o.fr0 f3);have bC:=Hd (za aM.o f3 id);have U:=Hd (aO.o.on f3);have F3:=Hd (Q.o.trans0 f3);clear L ag al aM aO Q;clear f3)|(clear K6;go_at_call 43;refine(cd.o w3).mono ?_;rintro e' w4 ⟨rfl,f4⟩;have n:=Hd (aa.o.fr0 f4);have aF:=Hd (au.o.fr0 f4);have V:=Hd (an.o.fr0 f4);have S:=Hd (za bC.o f4 id);have ai:=Hd (U.o.on f4);have F4:=Hd (F3.o.trans0 f4);clear aa au an bC U F3;clear f4)|(clear K8;go_at_call 22;refine(Yr (HG.o.keep0 n.o.fr) ai.o.now).mono ?_;rintro e' w5 ⟨mv,rfl,f5,hm⟩;rw[if_pos FB.o] at hm;have cc:=Hd (n.o.fr0 f5);have av:=Hd (aF.o.fr0 f5);have cI:=Hd (V.o.fr0 f5);have aX:=@Hd (Y≤w5.heap.size) (le_trans b9.o (le_trans aG.o (le_trans F4.o.size f5.size)));obtain⟨v6,w6,a1,a2,W,a5⟩:=zdR (k:=p) (m:=yN e.tx) (by have h:=av.o.1;rw[R.o] at h;exact h) (by rw[aw.o];exact hm) a8.o (by rw[aw.o];have:=aC.o;omega) aX.o 52;obtain⟨bZ,b1,ar⟩:=a2.slice.arg.form;subst ar;obtain⟨ma,mc,cN⟩:=hm.slice.arg.form;subst cN;rw[←R.o,aw.o] at a1 a2 a5;rw[←R.o] at W;obtain⟨X6,bJ,bN,bL,-⟩:=cc.o.app W RX.o av.o.2 (λj r=>by have:=(av.o.1.lt j r).1;have:=a6.o;omega) a5 (λj r=>(a2.lt j r).2);have GE:=@Hd (∀j',(Value.slice qa z qc).ownBlock=some j'→Y≤j') (λj r=>(av.o.1.lt j r).1);have aE:=Hd a1;have C:=Hd bJ;have cE:=Hd bN;have b4:=@Hd (xS T4 w6 Y 60 66 (.slice bZ (z+e.tx.outs.length) b1) (z+e.tx.outs.length) ((Jb (A.L.take (k+1))).flatMap z7)) (⟨by rw[aP.o];exact a2,bL⟩);have ao:=Hd (xS.app cI.o W bH.o GE.o);have b8:=Hd (le_trans aX.o W.size);have cw:=@Hd (z+e.tx.outs.length=(Jb (A.L.take (k+1))).length) (by rw[aP.o,List.length_append,aw.o,←R.o]);clear f5 hm a1 a2 W a5 bJ bN bL));go_frame)
       go_roundw
       case rel=>exact⟨k+1,_,bZ,z+e.tx.outs.length,b1,by go_num,by omega,rfl,cw.o,C.o,b8.o,b4.o,cE.o,ao.o,λc hc=>by rw[aP.o] at hc;exact(List.mem_append.1 hc).elim (H.o c) (a8.o c)⟩
       case measure=>simp[intOf];omega
    ·have i2:¬(k:Int)<(K.length:Int):=by omega
     go_wp2_with fail
     go_ret
     exact⟨rfl,FL.o.fr⟩
  ·go_ret
   exact⟨rfl,Q.o⟩
 ·have j1:decide ((256:Int)<(first.length:Int))=true:=by simp;omega
  go_enter Tryz.func10,Tryz.ntmps10
  have⟨D,E⟩:=tZ2
  go_wp2_with ((first|(clear D;go_at_call 11;refine a7.o.mono ?_;rintro e w1 ⟨rfl,f1⟩;have O:=Hd f1;clear f1)|(clear E;go_at_call 12;refine(xC w1 (HL.o.keep O.o) (HX.o.keep0 O.o)).mono ?_;rintro e N ⟨⟨g,rfl,aR,hz⟩,s⟩;have Q:=Hd (O.o.trans0 s);clear hz s;rcases aR with rfl|rfl));go_frame)
  ·go_ret
   exact⟨rfl,Q.o⟩
  ·go_ret
   exact⟨rfl,Q.o⟩
end Go.Proofs.YtbcllfjmabiafaaGreatDoor
