/- chain: spend. -/
import Derived.Deep.CutRange
import Derived.Test.YtmpamcnlineceaaGreatDoorZG9
import Derived.Test.YtmpamcnlineceaaGreatDoorZG3
import Derived.Test.YtmpamcnlineceaaGreatDoorZG8
import Derived.Test.YtmpamcnlineceaaGreatDoorZG6
set_option linter.unusedVariables false
set_option linter.unusedSimpArgs false
set_option linter.unnecessarySimpa false
set_option linter.all false
set_option maxRecDepth 20000
set_option maxHeartbeats 16000000
namespace Go.Proofs.YtmpamcnlineceaaGreatDoor
open Go Go.RowKit Go.Maps Go.MapKept
open Go.Proofs.Tryz(prog)
open List(mem_map mem_cons length_map take_length not_mem_nil)
open Nat(le_refl)
variable {V:Nat→Prop} {w w0:World}
theorem zcM {B:Nat} {v:Value} {l:List zh} (h:w.ownsRow B 103 66 v l.length (l.flatMap zw)) (ok:∀x∈l,x.ok) (a:∀j,v.ownBlock=some j→¬V j):Kept V w (λw=>xz w v l):=
 λw' f=>⟨ok,(zf h f a).slice.arg⟩
def zif (w0 w:World) (s:Nat) (U:Nat→Prop) (S:List zh) (t:TxD) (e:Ending) (w':World):Prop:=
 ∃ta tn tc ma mn mc,e=.returned (.tuple #[.agg #[.slice ta tn tc,.slice ma mn mc],.int .i64 (spE S t)])∧CS w0 w' s U (spS S t)∧Fr U w w'∧(spE S t=0→∀V:Nat→Prop,(∀j,V j→j<w.heap.size)→Kept V w' (λw=>zaz w (spG S t) [.slice ta tn tc,.slice ma mn mc]))
theorem zda {w0 w w':World} {s:Nat} {U:Nat→Prop} {S:List zh} {t:TxD} {E:Int} (h:spE S t=E) (a:E≠0) (k:CS w0 w' s U S) (f:Fr U w w') (g:Option Addr) (j i:Nat) (b:Option Addr) (d c:Nat):zif w0 w s U S t (.returned (.tuple #[.agg #[.slice g j i,.slice b d c],.int .i64 E])) w':=
 ⟨g,j,i,b,d,c,by rw[h],by unfold spS;rw[if_neg (by rw[h];exact a)];exact k,f,λe=>absurd (h.symm.trans e) a⟩
theorem zbJ {a b:Value} (d:a.oneCell'=true) (e:b.oneCell'=true):∀u∈[a,b],u.oneCell'=true:=λu c=>by
 simp only[mem_cons,not_mem_nil,or_false] at c
 rcases c with rfl|rfl
 ·exact d
 ·exact e
def zho (w2:World) (x:yk) (h:Bool) (s10 s11:Value) (wc:World):Prop:=
 ∃qo,s10=.pointer (some ⟨qo,0,none⟩)∧s11=.bool h∧w2.heap.size≤qo∧Fr No w2 wc∧wc.heap[qo]? =some (.cells (zx x).toArray 68 (0,0))
def SpL (w1:World) (q6:Nat) (S:List zh) (t:TxD) (n:Nat) (pv:Value) (wr:World):Prop:=
 ∃tv,(∀q∈(yI t).take n,xE S q=true)∧wr.ownsRow w1.heap.size 68 33 pv n (((qX S t).take n).flatMap zx)∧wr.heap[q6]? =some (.cells #[tv,.slice none 0 0] 117 (0,0))∧
  wr.ownsRow w1.heap.size 103 66 tv n (((vJ S t).take n).flatMap zw)∧(∀j,pv.ownBlock=some j→tv.ownBlock=some j→False)∧Fr (λj=>j=q6) w1 wr
theorem ZH {α:Type} (f:α→List Value) {L:List α} {n:Nat} {x:α} (h:L[n]? =some x):(L.take (n+1)).flatMap f=(L.take n).flatMap f++f x:=by
 rw[List.take_add_one,h]
 simp
theorem zez (hg:jM w) {p s:Nat} {bv mv:Value} {U:Nat→Prop} {S:List zh} (bT:w.heap[p]? =some (.cells #[.pointer (some ⟨s,0,none⟩),bv,mv] 81 (0,0))) (bU:¬U p) (hs:CS w0 w s U S) {t:TxD} {cs:List Value} (ht:Kept U w (λw=>TxQ w t cs)) (hc:yM t=0) (hN:S.length≤90000):
  Calls prog 49 #[.pointer (some ⟨p,0,none⟩),.agg cs.toArray] w (zif w0 w s U S t):=by
 obtain⟨ia,ic,oa,oc,rfl⟩:=ht.now.form
 obtain⟨c1,c2,c3,c4,-,-⟩:=Qz hc
 have f8:=zdq c1
 have ad:=J ht.now.oks
 obtain⟨dT,uT,rT⟩:=zcA
 obtain⟨dO,uO,rO⟩:=Zt
 obtain⟨dG,uG,rG⟩:=zaE
 have zG:=zaY
 have zP:=jk
 have zO:=yA
 have zC:=jI
 have f1:Fr No w (w.alloc (.cells #[.int .u32 t.ver,.slice ia t.ins.length ic,.slice oa t.outs.length oc] 62)):=(frN w).alloc _
 have f2:Fr No (w.alloc (.cells #[.int .u32 t.ver,.slice ia t.ins.length ic,.slice oa t.outs.length oc] 62)) ((w.alloc (.cells #[.int .u32 t.ver,.slice ia t.ins.length ic,.slice oa t.outs.length oc] 62)).alloc (.cells #[.slice none 0 0,.slice none 0 0] 117)):=(frN _).alloc _
 have f3:Fr No ((w.alloc (.cells #[.int .u32 t.ver,.slice ia t.ins.length ic,.slice oa t.outs.length oc] 62)).alloc (.cells #[.slice none 0 0,.slice none 0 0] 117)) (((w.alloc (.cells #[.int .u32 t.ver,.slice ia t.ins.length ic,.slice oa t.outs.length oc] 62)).alloc (.cells #[.slice none 0 0,.slice none 0 0] 117)).alloc (.cells #[.slice none 0 0,.slice none 0 0] 117)):=(frN _).alloc _
 have R0:=J (zb (zb (qF w t.ver (.slice ia t.ins.length ic) (.slice oa t.outs.length oc)).2.2.2 f2 _root_.id) f3 _root_.id)
 have B4:=J (f3.obj (xK (w.alloc (.cells #[.int .u32 t.ver,.slice ia t.ins.length ic,.slice oa t.outs.length oc] 62)) (.cells #[.slice none 0 0,.slice none 0 0] 117) (n:=w.heap.size+1) (by simp)) _root_.id)
 have B6:=J (xK ((w.alloc (.cells #[.int .u32 t.ver,.slice ia t.ins.length ic,.slice oa t.outs.length oc] 62)).alloc (.cells #[.slice none 0 0,.slice none 0 0] 117)) (.cells #[.slice none 0 0,.slice none 0 0] 117) (n:=w.heap.size+1+1) (by simp))
 have Z3:=@J ((((w.alloc (.cells #[.int .u32 t.ver,.slice ia t.ins.length ic,.slice oa t.outs.length oc] 62)).alloc (.cells #[.slice none 0 0,.slice none 0 0] 117)).alloc (.cells #[.slice none 0 0,.slice none 0 0] 117)).heap.size=w.heap.size+3) (by simp)
 have F3:=J ((f1.trans0 f2).trans0 f3)
 have cp:=J (ht.same F3.o.of0)
 have cH:=J (Vq _ cp.o.now (by omega))
 have bJ:=J ht
 have bI:=@J (∀w',Fr U w w'→TxQ w' t [.int .u32 t.ver,.slice ia t.ins.length ic,.slice oa t.outs.length oc]) (λw' f=>ht w' f)
 have aq:=J bT
 have aN:=J bU
 have HS:=J hs
 have HG:=J hg
 have HF:=J c1
 have bB:=J c4
 have c0:=f8.1
 have c5:=f8.2
 have aM:=J hN
 have UL:=J hs.hi
 have ax:=J (Xg t)
 clear f1 f2 f3 ht bT bU hs hg hc c1 c2 c3 c4 f8 hN
 show Calls prog 49 #[.pointer (some ⟨p,0,none⟩),.agg #[.int .u32 t.ver,.slice ia t.ins.length ic,.slice oa t.outs.length oc]] w _
 go_enter Tryz.func49,Tryz.ntmps49
 have⟨r,D⟩:=tZ2
 go_wp2_with ((first|((with_reducible refine zt ?_);clear r;refine ziU rfl rfl rfl R0.o rfl ?_;generalize (((w.alloc (.cells #[.int .u32 t.ver,.slice ia t.ins.length ic,.slice oa t.outs.length oc] 62)).alloc (.cells #[.slice none 0 0,.slice none 0 0] 117)).alloc (.cells #[.slice none 0 0,.slice none 0 0] 117))=w3 at*)|(clear D;go_at_call 66;refine cH.o.mono ?_;rintro e Z ⟨c8,rfl,o4,f4⟩;have O4:=J o4;have F4:=J f4;obtain⟨c9,da,cR⟩:=o4.slice.arg.form;subst cR;clear o4 f4));go_frame)
 obtain⟨d,bb⟩:∃q,q=w.heap.size+1+1:=⟨_,rfl⟩
 rw[←bb] at B6⊢
 obtain⟨Y,ba⟩:∃q,q=w.heap.size+1:=⟨_,rfl⟩
 rw[←ba] at B4⊢
 have H:=J ba
 have Q6:=@J (d=w.heap.size+2) (bb)
 clear ba bb
 have ab:=J (F3.o.trans0 F4.o)
 have bW:=J (F4.o.obj B4.o _root_.id)
 have aa:=J (F4.o.obj B6.o _root_.id)
 have cI:=J (zb R0.o F4.o _root_.id)
 go_loopw [7,22] (λpv iv wr=>∃n:Nat,iv=.int .i64 n∧n≤t.ins.length∧SpL Z d S t n pv wr) (λ_ iv _=>t.ins.length-(intOf iv).toNat)
 case atStart=>exact⟨0,rfl,Nat.zero_le _,.slice none 0 0,(λq hq=>by simp at hq),World.ownsRow_nil _ _ _ 33,aa.o,World.ownsRow_nil _ _ _ 66,(λj e=>by cases e),Fr.refl _ _⟩
 case round=>
  obtain⟨n,rfl,hn,tv,aC,bh,bP,bj,aD,fr⟩:=hrel
  have FR:=J fr
  have aE:=J aC
  have ai:=J bh
  have aI:=J bP
  have aV:=J bj
  have bt:=J aD
  obtain⟨pa,pc,cQ⟩:=bh.slice.arg.form
  subst cQ
  obtain⟨u,v,cT⟩:=bj.slice.arg.form
  subst cT
  have FW:=@J (Fr No w wr) (ab.o.trans fr (λj a e=>by have:=Q6.o;omega))
  have ah:=J (HS.o.fr0 FW.o)
  have aB:=J (FW.o.obj aq.o _root_.id)
  have aG:=J (fr.obj bW.o (λe=>by have:=H.o;have:=Q6.o;omega))
  have aw:=J (zb cI.o fr (λe=>by have:=Q6.o;omega))
  clear aC bh bP bj aD fr
  by_cases hlt:n<t.ins.length
  ·have i1:(n:Int)<(t.ins.length:Int):=by omega
   obtain⟨q,E⟩:∃x,(yI t)[n]? =some x:=⟨_,List.getElem?_eq_getElem (by rw[ax.o];exact hlt)⟩
   have HX:=J E
   have aj:=@J (q.ok) (by
    obtain⟨x,cV,cW⟩:=mem_map.1 (List.mem_of_getElem? E)
    rw[←cW]
    exact ad.o.1 x cV)
   have o:=J (zF aj.o)
   obtain⟨g,cP,hv,hr,-⟩:=J6 (f:=zi) (k:=33) (L:=yI t) (by decide) (λx E=>by
    obtain⟨y,bf,bg⟩:=mem_map.1 E
    rw[←bg]
    exact zF (ad.o.1 y bf)) (zf O4.o FR.o (λj a e=>by have:=(O4.o.lt j a).1;have:=Q6.o;have:=Z3.o;omega)) E
   cases hv
   have R1:=J hr
   have FA:=J ((frN wr).alloc (.cells (zi q).toArray 72))
   have RQ:=J (zK wr (zi q) 72)
   have QA:=@J ((wr.alloc (.cells (zi q).toArray 72)).heap.size=wr.heap.size+1) (by simp)
   have aY:=J (vQ ah.o.ok q)
   have XL:=J (z6 aY.o)
   clear E hr
   have⟨r,D⟩:=tZ2
   go_wp2_with ((first|((with_reducible refine zt ?_);clear r;refine ziX rfl rfl rfl R1.o o.o ?_)|((with_reducible refine zr ?_);clear D;refine ze rfl (zj (w:=wr) (ty:=72) (cs:=zi q) rfl rfl rfl (by rw[o.o];rfl) (by rw[o.o];exact yL) yB) ?_;generalize wr.alloc (.cells (zi q).toArray 72)=wA at*));go_frame)
   have b8:=@J (wA.cell? ⟨p,0,none⟩=some (.pointer (some ⟨s,0,none⟩))) (by have:=zm (FA.o.obj aB.o _root_.id) 0 _ rfl;simpa using this)
   have ck:=J (ah.o.fr0 FA.o)
   go_cut [10,11] from 26 to 34 (λcX cY wc=>zho wA (yj S q) (xE S q) cX cY wc)
   case first=>
    have FD:=J (frN wA).drew
    have F:=J (FD.o.cell b8.o _root_.id)
    have I:=J (zb RQ.o FD.o _root_.id)
    have bH:=J (ck.o.fr0 FD.o)
    have ZD:=@J (wA.drew.heap.size=wA.heap.size) (rfl)
    refine jH 12 [0,1,2,3,4,5,6,7,8,9,10,11] (λw'=>w'.cell? ⟨p,0,none⟩=some (.pointer (some ⟨s,0,none⟩))∧w'.rangeAt wr.heap.size 0 (zi q)) (by kernel_rfl) (by kernel_rfl) (by kernel_rfl) (by kernel_rfl) ?_ (λK hK=>?_)
    ·exact⟨F.o,I.o⟩
    generalize wA.drew=w5 at*
    (((first|(refine y5 0 (by kernel_rfl) rfl rfl ?_;apply Exists.intro;refine⟨?_,?_⟩;(focus(first|exact zi1 rfl (λw h=>h.2) o.o|(intro w' hS;obtain⟨N,O⟩:=hS;exact goS))))|(refine y6 0 (by kernel_rfl) rfl rfl ?_));try simp only[Act.put,pA,pB,pC]);((first|(refine y5 1 (by kernel_rfl) rfl rfl ?_;apply Exists.intro;refine⟨?_,?_⟩;(focus(first|exact zi1 rfl (λw h=>h.2) o.o|(intro w' hS;obtain⟨N,O⟩:=hS;exact goS))))|(refine y6 1 (by kernel_rfl) rfl rfl ?_));try simp only[Act.put,pA,pB,pC]);((first|(refine y5 2 (by kernel_rfl) rfl rfl ?_;apply Exists.intro;refine⟨?_,?_⟩;(focus(first|exact zi1 rfl (λw h=>h.2) o.o|(intro w' hS;obtain⟨N,O⟩:=hS;exact goS))))|(refine y6 2 (by kernel_rfl) rfl rfl ?_));try simp only[Act.put,pA,pB,pC]);((first|(refine y5 3 (by kernel_rfl) rfl rfl ?_;apply Exists.intro;refine⟨?_,?_⟩;(focus(first|exact zi1 rfl (λw h=>h.2) o.o|(intro w' hS;obtain⟨N,O⟩:=hS;exact goS))))|(refine y6 3 (by kernel_rfl) rfl rfl ?_));try simp only[Act.put,pA,pB,pC]);((first|(refine y5 4 (by kernel_rfl) rfl rfl ?_;apply Exists.intro;refine⟨?_,?_⟩;(focus(first|exact zi1 rfl (λw h=>h.2) o.o|(intro w' hS;obtain⟨N,O⟩:=hS;exact goS))))|(refine y6 4 (by kernel_rfl) rfl rfl ?_));try simp only[Act.put,pA,pB,pC]))
    refine Xb 5 9 (by kernel_rfl) rfl rfl rfl rfl (λK' hK'=>?_) (λK' hK'=>?_)
    ·go_simp
     refine(zcH bH.o aj.o).mono ?_
     rintro e A ⟨rfl,f6⟩
     have F6:=J f6
     clear f6
     refine nXt hK' ?_ λhS=>?_
     ·exact⟨F6.o.cell F.o _root_.id,zb I.o F6.o _root_.id⟩
     try simp only[Act.put,pA,pB,pC]
     (((first|(refine y5 6 (by kernel_rfl) rfl rfl ?_;apply Exists.intro;refine⟨?_,?_⟩;(focus(first|(intro w' hS;obtain⟨N,O⟩:=hS;exact goS))))|(refine y6 6 (by kernel_rfl) rfl rfl ?_));try simp only[Act.put,pA,pB,pC]);((first|(refine y5 7 (by kernel_rfl) rfl rfl ?_;apply Exists.intro;refine⟨?_,?_⟩;(focus(first|(intro w' hS;obtain⟨N,O⟩:=hS;exact goS))))|(refine y6 7 (by kernel_rfl) rfl rfl ?_));try simp only[Act.put,pA,pB,pC]);((first|(refine y5 8 (by kernel_rfl) rfl rfl ?_;apply Exists.intro;refine⟨?_,?_⟩;(focus(first|(intro w' hS;obtain⟨N,O⟩:=hS;exact goS))))|(refine y6 8 (by kernel_rfl) rfl rfl ?_));try simp only[Act.put,pA,pB,pC]))
     refine qq 9 (by kernel_rfl) rfl rfl (λK' hK'=>?_)
     refine yg (y4 rfl (yA _)) ?_
     have B:=J ((frN A).alloc (.cells (zx vF).toArray 68))
     refine nXt hK' ?_ λhS=>?_
     ·exact⟨B.o.cell (F6.o.cell F.o _root_.id) _root_.id,zb (zb I.o F6.o _root_.id) B.o _root_.id⟩
     try simp only[Act.put,pA,pB,pC]
     refine qq 10 (by kernel_rfl) rfl rfl (λK' hK'=>?_)
     refine xx (zj (w:=A) (ty:=68) (cs:=zx (yj S q)) rfl rfl rfl (by rw[XL.o];rfl) (by rw[XL.o];exact yW) zV) ?_
     have aK:=J ((frN A).alloc (.cells (zx (yj S q)).toArray 68))
     refine nXt hK' ?_ λhS=>?_
     ·exact⟨aK.o.cell (F6.o.cell F.o _root_.id) _root_.id,zb (zb I.o F6.o _root_.id) aK.o _root_.id⟩
     try simp only[Act.put,pA,pB,pC]
     (((first|(refine y5 11 (by kernel_rfl) rfl rfl ?_;apply Exists.intro;refine⟨?_,?_⟩;(focus(first|(intro w' hS;obtain⟨N,O⟩:=hS;exact goS))))|(refine y6 11 (by kernel_rfl) rfl rfl ?_));try simp only[Act.put,pA,pB,pC]))
     refine j7 (hK.out _ _ ?_)
     go_wp2_with fail
     go_meet
     case rel=>exact⟨A.heap.size,rfl,rfl,by have:=F6.o.size;have:=ZD.o;omega,FD.o.trans0 (F6.o.trans0 aK.o),zS A (.cells (zx (yj S q)).toArray 68)⟩
    ·refine yg (y4 rfl (yA _)) ?_
     have B:=J ((frN w5).alloc (.cells (zx vF).toArray 68))
     have B7:=J (zS w5 (.cells (zx vF).toArray 68))
     generalize w5.alloc (.cells (zx vF).toArray 68)=A at*
     generalize bc:w5.heap.size=qo at*
     refine nXt hK' ?_ λhS=>?_
     ·exact⟨B.o.cell F.o _root_.id,zb I.o B.o _root_.id⟩
     try simp only[Act.put,pA,pB,pC]
     refine qq 5 (by kernel_rfl) rfl rfl (λK' hK'=>?_)
     go_simp
     refine(zcH (bH.o.fr0 B.o) aj.o).mono ?_
     rintro e w7 ⟨rfl,f7⟩
     have aJ:=J (B.o.trans0 f7)
     have bo:=J (f7.obj B7.o _root_.id)
     clear f7
     refine nXt hK' ?_ λhS=>?_
     ·exact⟨aJ.o.cell F.o _root_.id,zb I.o aJ.o _root_.id⟩
     try simp only[Act.put,pA,pB,pC]
     (((first|(refine y5 6 (by kernel_rfl) rfl rfl ?_;apply Exists.intro;refine⟨?_,?_⟩;(focus(first|(intro w' hS;obtain⟨N,O⟩:=hS;exact goS))))|(refine y6 6 (by kernel_rfl) rfl rfl ?_));try simp only[Act.put,pA,pB,pC]);((first|(refine y5 7 (by kernel_rfl) rfl rfl ?_;apply Exists.intro;refine⟨?_,?_⟩;(focus(first|(intro w' hS;obtain⟨N,O⟩:=hS;exact goS))))|(refine y6 7 (by kernel_rfl) rfl rfl ?_));try simp only[Act.put,pA,pB,pC]);((first|(refine y5 8 (by kernel_rfl) rfl rfl ?_;apply Exists.intro;refine⟨?_,?_⟩;(focus(first|(intro w' hS;obtain⟨N,O⟩:=hS;exact goS))))|(refine y6 8 (by kernel_rfl) rfl rfl ?_));try simp only[Act.put,pA,pB,pC]))
     refine qq 10 (by kernel_rfl) rfl rfl (λK' hK'=>?_)
     refine xx (zy (ty:=68) (b:=qo) (off:=0) (cs:=zx (yj S q)) rfl rfl rfl (by rw[XL.o];exact zM bo.o (Nat.le_of_eq xq.symm)) (by rw[XL.o];exact yW) zV) ?_
     have W:=@J (Fr No w5 (w7.setCells qo 0 (zx (yj S q)))) (aJ.o.trans (zv _ _ _ _) (λi hi e=>by omega))
     refine nXt hK' ?_ λhS=>?_
     ·exact⟨W.o.cell F.o _root_.id,zb I.o W.o _root_.id⟩
     try simp only[Act.put,pA,pB,pC]
     (((first|(refine y5 11 (by kernel_rfl) rfl rfl ?_;apply Exists.intro;refine⟨?_,?_⟩;(focus(first|(intro w' hS;obtain⟨N,O⟩:=hS;exact goS))))|(refine y6 11 (by kernel_rfl) rfl rfl ?_));try simp only[Act.put,pA,pB,pC]))
     refine j7 (hK.out _ _ ?_)
     go_wp2_with fail
     go_meet
     case rel=>exact⟨qo,rfl,rfl,by have:=ZD.o;omega,FD.o.trans0 W.o,zc4 (cs:=zx (yj S q)) bo.o (by rw[XL.o,z6 Xd])⟩
   case rest=>
    rename World=>wc
    obtain⟨qo,rfl,rfl,bc,fc,bQ⟩:=hcut
    have FC:=J (FA.o.trans0 fc)
    have RO:=J (zm bQ)
    have cN:=J (zb RQ.o fc _root_.id)
    have bq:=J (FC.o.obj aI.o _root_.id)
    have au:=J (zf ai.o FC.o (λ_ _=>_root_.id))
    have av:=J (zf aV.o FC.o (λ_ _=>_root_.id))
    have cm:=J (ah.o.fr0 FC.o)
    have BZ:=J (FC.o.obj aG.o _root_.id)
    have QO:=J bc
    clear fc bQ bc
    by_cases hq:xE S q=true
    rotate_left
    ·have c6:xE S q=false:=by simpa using hq
     have HE:=@J (spE S t=15) (by
      unfold spE
      rw[if_neg]
      intro h
      exact hq (List.all_eq_true.1 h q (List.mem_of_getElem? HX.o)))
     have R6:=J (zm bq.o)
     clear hq
     have⟨r,D⟩:=tZ2
     go_wp2_with ((first|((with_reducible refine zt ?_);clear r;refine zg rfl (ye (ty:=117) rfl rfl R6.o uG rG qK) ?_)|((with_reducible refine zr ?_);clear D;refine ze rfl (zy (ty:=117) (b:=Y) (off:=0) (cs:=[.slice u n v,.slice none 0 0]) rfl rfl rfl (zM BZ.o (le_refl 2)) qK (zbJ rfl rfl)) ?_));go_frame)
     have fE:=zv Y [.slice u n v,.slice none 0 0] 0 wc
     refine bodyPost_ret (zR (P:=prog) (fn:=Tryz.f49) rfl _ rfl (yE BZ.o rfl) uG rG qK rfl) rfl (zda HE.o (by decide) ((cm.o.frV fE (λj a e=>by have:=UL.o j a;have:=H.o;omega) (λj e=>by have:=HS.o.fr.size;have:=H.o;omega))) ((FW.o.trans0 FC.o).of0.trans fE (λj a e=>by have:=H.o;omega)) _ _ _ _ _ _)
    ·have cr:=@J ((qX S t)[n]? =some (yj S q)) (by simp[qX,HX.o])
     have ct:=@J ((vJ S t)[n]? =some ⟨q,yj S q⟩) (by simp[vJ,HX.o])
     have ao:=@J ((⟨q,yj S q⟩:zh).ok) (⟨aj.o,aY.o⟩)
     have CL:=J (yv ao.o)
     obtain⟨v5,w5,a1,a2,a3,-,a5⟩:=yw (P:=prog) wc Z.heap.size 22 22 68 33 40 _ vU Jw (by rw[←xq];rfl) (by decide) au.o (zx (yj S q)) XL.o zV (by omega) (by unfold maxLen;omega) (by have:=FR.o.size;have:=FC.o.size;omega)
     obtain⟨Q,R,bd⟩:=a2.slice.arg.form
     subst bd
     have A1:=J a1
     have O5:=@J (w5.ownsRow Z.heap.size 68 33 (.slice Q (n+1) R) (n+1) (((qX S t).take (n+1)).flatMap zx)) (by rw[ZH zx cr.o];exact a2)
     have NB:=@J (∀j,(Value.slice pa n pc).ownBlock=some j→Z.heap.size≤j∧j<wc.heap.size∧j≠d) (λj a=>⟨(au.o.lt j a).1,(au.o.lt j a).2,λe=>by have:=(au.o.lt j a).1;have:=yu aa.o;omega⟩)
     have NT:=@J (∀j,(Value.slice u n v).ownBlock=some j→Z.heap.size≤j∧j<wc.heap.size∧j≠d) (λj a=>⟨(av.o.lt j a).1,(av.o.lt j a).2,λe=>by have:=(av.o.lt j a).1;have:=yu aa.o;omega⟩)
     have F5:=J a3
     have bw:=@J (Fr (λj=>j=d) Z w5) ((FR.o.trans0 FC.o).trans a3 (λj a e=>by have:=(NB.o j e).1;omega))
     have bm:=J (a3.obj bq.o (λe=>(NB.o _ e).2.2 rfl))
     have cD:=J (zf av.o a3 (λj a e=>bt.o j e a))
     have cL:=J (zb RO.o a3 (λe=>by
      have h1:=(ai.o.lt _ e).2
      have:=QO.o
      have:=QA.o
      omega))
     have cM:=J (zb cN.o a3 (λe=>by
      have h1:wr.heap.size<wr.heap.size:=(ai.o.lt _ e).2
      omega))
     have az:=@J (∀j,(Value.slice Q (n+1) R).ownBlock=some j→(Value.slice u n v).ownBlock=some j→False) (λj h1 h2=>(a5 j h1).elim (λh=>bt.o j h h2) (λh=>by have:=(NT.o j h2).2.1;omega))
     clear a1 a2 a3 a5
     obtain⟨v6,A,b1,b2,b3,-,b5⟩:=yw (P:=prog) w5 Z.heap.size 49 49 103 66 80 _ yQ xR (by show(zw QI).toArray.size=66;rfl) (by decide) cD.o (zw ⟨q,yj S q⟩) CL.o yz (by omega) (by unfold maxLen;omega) (by have:=bw.o.size;omega)
     obtain⟨al,an,cU⟩:=b2.slice.arg.form
     subst cU
     have B1:=J b1
     have O6:=@J (A.ownsRow Z.heap.size 103 66 (.slice al (n+1) an) (n+1) (((vJ S t).take (n+1)).flatMap zw)) (by rw[ZH zw ct.o];exact b2)
     have ca:=@J (Fr (λj=>j=d) Z A) (bw.o.trans b3 (λj a e=>by have:=(NT.o j e).1;omega))
     have ae:=J (b3.obj bm.o (λe=>(NT.o _ e).2.2 rfl))
     have cy:=J (zf O5.o b3 (λj a e=>az.o j a e))
     have bu:=@J (∀j,(Value.slice Q (n+1) R).ownBlock=some j→(Value.slice al (n+1) an).ownBlock=some j→False) (λj h1 h2=>(b5 j h2).elim (λh=>az.o j h1 h) (λh=>by have:=(O5.o.lt j h1).2;omega))
     have cv:=@J (∀j,(Value.slice al (n+1) an).ownBlock=some j→j≠d) (λj a e=>by have:=(O6.o.lt j a).1;have:=yu aa.o;omega)
     have aR:=@J (∀j,(Value.slice Q (n+1) R).ownBlock=some j→j≠d) (λj a e=>by have:=(O5.o.lt j a).1;have:=yu aa.o;omega)
     have cA:w5.cell? ⟨d,0,none⟩=some (.slice u n v):=by have:=zm bm.o 0 _ rfl;simpa using this
     have cB:A.cell? ⟨d,0,none⟩=some (.slice u n v):=by have:=zm ae.o 0 _ rfl;simpa using this
     have fB:=zW (i:=0) ae.o
     have bY:=J (heap_setCell_same A d 0 _ _ (.slice al (n+1) an) ae.o)
     have fs:Fr (λj=>j=d) A (A.setCell ⟨d,0,none⟩ (.slice al (n+1) an)):=(Fr.refl (λj=>j=d) A).setCell ⟨d,0,none⟩ (.inr rfl) _
     have FS:=J fs
     have bk:=@J (∀y∈(yI t).take (n+1),xE S y=true) (λy hy=>by
      rw[List.take_add_one,HX.o] at hy
      rcases List.mem_append.1 hy with hy|hy
      ·exact aE.o y hy
      ·simp at hy;subst hy;exact hq)
     clear b1 b2 b3 b5 fs
     have⟨r,D,K2,K3,K4,K5,K6,K7⟩:=tZ8
     go_wp2_with (((with_reducible refine zt ?_);first|(clear r;refine zg rfl (ye (ty:=68) rfl rfl RO.o uO rO (by rw[List.toList_toArray,XL.o];exact yW)) ?_)|(clear D;refine zg rfl (zL (t:=22) rfl rfl vU JZ (by rw[←xq];rfl) (by decide) (by decide) XL.o) ?_)|(clear K2;at_builtin;refine zk rfl rfl rfl rfl A1.o ?_)|(clear K3;refine ziX rfl rfl rfl cM.o o.o ?_)|(clear K4;refine zg rfl (ye (ty:=68) rfl rfl cL.o uO rO (by rw[List.toList_toArray,XL.o];exact yW)) ?_)|(clear K5;refine zg rfl (qj (t:=103) (vs:=[(0,.agg (zi q).toArray),(1,.agg (zx (yj S q)).toArray)]) rfl rfl Zc (Yp aj.o aY.o) (Zb _ _) (by rw[CL.o])) ?_)|(clear K6;refine zg rfl (zL (t:=49) rfl rfl yQ qA (by show(zw QI).toArray.size=66;rfl) (by decide) (by decide) CL.o) ?_)|(clear K7;at_builtin;refine zk rfl rfl rfl rfl B1.o ?_));go_frame)
     go_roundw
     case rel=>exact⟨n+1,by go_num,by omega,_,bk.o,zf cy.o FS.o (λj a e=>aR.o j a e),bY.o,zf O6.o FS.o (λj a e=>cv.o j a e),bu.o,ca.o.trans FS.o (λ_ _ e=>e)⟩
     case measure=>simp[intOf];omega
  ·have a7:n=t.ins.length:=by omega
   subst a7
   clear hlt hn
   have i1:¬(t.ins.length:Int)<(t.ins.length:Int):=by omega
   have C:=@J ((yI t).all (xE S)=true) (List.all_eq_true.2 (λq hq=>aE.o q (by rw[←ax.o,take_length];exact hq)))
   have cz:=@J (wr.ownsRow Z.heap.size 68 33 (.slice pa t.ins.length pc) t.ins.length ((qX S t).flatMap zx)) (by have:=ai.o;rw[←Zf S t,take_length,Zf S t] at this;exact this)
   have bN:=@J (wr.ownsRow Z.heap.size 103 66 (.slice u t.ins.length v) t.ins.length ((vJ S t).flatMap zw)) (by have:=aV.o;rw[←ji S t,take_length,ji S t] at this;exact this)
   have cq:=J (bJ.o.same FW.o.of0)
   have GR:=J (HG.o.keep0 FW.o)
   have cw:=@J (xA wr (.slice pa t.ins.length pc) (qX S t)) (⟨zbS HS.o.ok t,by rw[Zf];exact cz.o.slice.arg⟩)
   have bx:=J (zd2 GR.o cq.o.now cw.o (by rw[Zf];omega))
   have NT:=@J (∀j,(Value.slice u t.ins.length v).ownBlock=some j→Z.heap.size≤j∧j<wr.heap.size) (λj a=>bN.o.lt j a)
   have m:=@J (Y<d∧d<Z.heap.size∧w.heap.size<Y) (⟨by have:=H.o;have:=Q6.o;omega,yu aa.o,by have:=H.o;omega⟩)
   clear ai aV aE bJ
   by_cases hfe:jo t (qX S t)=0
   rotate_left
   ·have HE:=@J (spE S t=jo t (qX S t)) (by unfold spE;rw[if_pos C.o,if_neg hfe])
    have cd:=J hfe
    have e0:(jo t (qX S t)==0)=false:=by simpa using hfe
    have e1:(jo t (qX S t) !=0)=true:=by simpa using hfe
    clear hfe i1
    have⟨r,D,K2,K3⟩:=tZ4
    go_wp2_with ((first|((with_reducible refine zt ?_);first|(clear r;refine ziU rfl rfl rfl aw.o rfl ?_)|(clear K2;refine zg rfl (ye (ty:=117) rfl rfl R6.o uG rG qK) ?_))|(clear D;go_at_call 67;refine bx.o.mono ?_;rintro e w5 ⟨rfl,f5⟩;have F5:=J f5;have R6:=J (zm (f5.obj aI.o _root_.id));have BZ:=J (f5.obj aG.o _root_.id);clear f5)|((with_reducible refine zr ?_);clear K3;refine ze rfl (zy (ty:=117) (b:=Y) (off:=0) (cs:=[.slice u t.ins.length v,.slice none 0 0]) rfl rfl rfl (zM BZ.o (le_refl 2)) qK (zbJ rfl rfl)) ?_));go_frame)
    have fE:=zv Y [.slice u t.ins.length v,.slice none 0 0] 0 w5
    refine bodyPost_ret (zR (P:=prog) (fn:=Tryz.f49) rfl _ rfl (yE BZ.o rfl) uG rG qK rfl) rfl (zda HE.o cd.o (((ah.o.fr0 F5.o).frV fE (λj a e=>by have:=UL.o j a;have:=H.o;omega) (λj e=>by have:=HS.o.fr.size;have:=H.o;omega))) ((FW.o.trans0 F5.o).of0.trans fE (λj a e=>by have:=H.o;omega)) _ _ _ _ _ _)
   ·have bA:=J hfe
    have e0:(jo t (qX S t)==0)=true:=by simpa using hfe
    have e1:(jo t (qX S t) !=0)=false:=by simpa using hfe
    clear hfe i1
    have ar:=J (Vg ad.o.2 (by omega))
    have ML:=J (Yv t)
    have b6:=J (λ(w':World) (f:Fr No w w')=>zdS (HG.o.keep0 f) (bI.o w' f.of0))
    have⟨r,D,K2,K3⟩:=tZ4
    go_wp2_with ((first|((with_reducible refine zt ?_);first|(clear r;refine ziU rfl rfl rfl aw.o rfl ?_)|(clear K2;refine ziU rfl rfl rfl cJ.o rfl ?_))|(clear D;go_at_call 67;refine bx.o.mono ?_;rintro e w5 ⟨rfl,f5⟩;have F5:=J f5;have cJ:=J (zb aw.o f5 _root_.id);clear f5)|(clear K3;go_at_call 68;refine(b6.o w5 (FW.o.trans0 F5.o)).mono ?_;rintro e A ⟨mv,rfl,f6,hm⟩;rw[if_pos HF.o] at hm;obtain⟨ma,mc,a6⟩:=hm.slice.arg.form;subst a6;have F6:=J f6;have aT:=J hm;clear f6 hm));go_frame)
    have G:=J ((F5.o.trans0 F6.o).trans0 (frN A).drew)
    have bz:=J (FW.o.trans0 G.o)
    have ch:=J (ah.o.fr0 G.o)
    have bC:=J (G.o.obj aB.o _root_.id)
    have br:=@J (A.drew.cell? ⟨p,0,none⟩=some (.pointer (some ⟨s,0,none⟩))) (by have:=zm bC.o 0 _ rfl;simpa using this)
    have aX:=J (zb aw.o G.o _root_.id)
    have ae:=J (G.o.obj aI.o _root_.id)
    have bX:=J (G.o.obj aG.o _root_.id)
    have bK:=J (zf aT.o (frN A).drew (λ_ _=>_root_.id))
    have cE:=J (zf bN.o G.o (λ_ _=>_root_.id))
    have cO:=J (bI.o A.drew bz.o.of0)
    refine wrLx [ff,ff,ff,ff,ff,tt,tt] (λw'=>w'.cell? ⟨p,0,none⟩=some (.pointer (some ⟨s,0,none⟩))∧w'.rangeAt w.heap.size 0 [.int .u32 t.ver,.slice ia t.ins.length ic,.slice oa t.outs.length oc]) ?_ (λK hK=>?_)
    ·exact⟨br.o,aX.o⟩
    generalize A.drew=z at*
    repeat((first|(refine zn rfl ?_;constructor;constructor;(focus(first|exact yY (ty:=62) rfl (λw h=>h.2) uT rT qN|(rintro w' ⟨N,O⟩;exact goS))))|(refine zq rfl ?_));try simp only[Act.put,pA,pB,pC])
    (refine zN rfl (λK' hK'=>?_))
    go_simp
    refine(Vq z cO.o (by omega)).mono ?_
    rintro e w7 ⟨qv,rfl,o7,f7⟩
    have B:=J f7
    have cG:=@J (qz w7 qv (yI t)) (⟨λx E=>by
     obtain⟨y,bf,bg⟩:=mem_map.1 E
     rw[←bg]
     exact ad.o.1 y bf,by rw[ax.o];exact o7.slice.arg⟩)
    obtain⟨qa,qc,cS⟩:=o7.slice.arg.form
    subst cS
    clear f7 o7
    refine nXt hK' ?_ λhS=>?_
    ·exact⟨B.o.cell br.o _root_.id,zb aX.o B.o _root_.id⟩
    try simp only[Act.put,pA,pB,pC]
    repeat((first|(refine zn rfl ?_;constructor;constructor;(focus(first|(rintro w' ⟨N,O⟩;exact goS))))|(refine zq rfl ?_));try simp only[Act.put,pA,pB,pC])
    (refine zN rfl (λK' hK'=>?_))
    go_simp
    have TA:=J (VA bB.o C.o)
    refine(zfZ (ch.o.fr0 B.o) cG.o (by rw[ax.o];have:=aM.o;omega)).mono ?_
    rintro e w8 ⟨x8,rfl,-,aZ,f8⟩
    rw[TA.o.2] at aZ
    have cj:=J aZ
    have aL:=@J (Fr U w w8) ((bz.o.trans0 B.o).of0.trans f8 (λ_ _ e=>e))
    have X:=@J (∀j,w.heap.size≤j→¬U j) (λj a e=>by have:=UL.o j e;omega)
    have bD:=J (aL.o.obj aq.o aN.o)
    have bs:=@J (w8.cell? ⟨p,0,none⟩=some (.pointer (some ⟨s,0,none⟩))) (by have:=zm bD.o 0 _ rfl;simpa using this)
    have bn:=J (f8.obj (B.o.obj ae.o _root_.id) (X.o d (by have:=m.o;omega)))
    have bl:=J (f8.obj (B.o.obj bX.o _root_.id) (X.o Y (by have:=m.o;omega)))
    have bL:=J (zf (zf bK.o B.o (λ_ _=>_root_.id)) f8 (λj a=>X.o j (by have:=(aT.o.lt j a).1;have:=FW.o.size;have:=F5.o.size;omega)))
    have bM:=J (zf (zf cE.o B.o (λ_ _=>_root_.id)) f8 (λj a=>X.o j (by have:=(NT.o j a).1;have:=ab.o.size;omega)))
    have cK:=J (zb (zb aX.o B.o _root_.id) f8 (X.o _ (le_refl _)))
    clear aZ f8
    refine nXt hK' ?_ λhS=>?_
    ·exact⟨bs.o,cK.o⟩
    try simp only[Act.put,pA,pB,pC]
    refine zZ (hK.out _ _ ?_)
    have b4:=@J (xz w8 (.slice ma t.outs.length mc) (qb t)) (⟨ar.o,by rw[ML.o];exact bL.o.slice.arg⟩)
    have TL:=@J ((yU S (yI t)).length≤S.length) (List.length_filter_le _ _)
    have bO:=J (zbW cj.o b4.o (by rw[ML.o];have:=TL.o;have:=aM.o;omega))
    have bR:=bs.o
    by_cases hpe:xQ (yU S (yI t)) (qb t)=0
    rotate_left
    ·have HE:=@J (spE S t=10) (by unfold spE;rw[if_pos C.o,if_pos bA.o,if_neg hpe])
     have j0:(xQ (yU S (yI t)) (qb t)==0)=false:=by simpa using hpe
     have j1:(xQ (yU S (yI t)) (qb t) !=0)=true:=by simpa using hpe
     have PS:=@J (qQ (yU S (yI t)) (qb t)=yU S (yI t)) (by unfold qQ;rw[if_neg hpe])
     have PB:=J (zbX HS.o.srt C.o bB.o)
     clear hpe
     have r:=tru
     go_wp2_with (clear r;go_at_call 50;refine bO.o.mono ?_;rintro e w9 ⟨rfl,M,f9⟩;rw[PS.o] at M;have aP:=J M;have W:=J f9;clear M f9;go_frame)
     clear bR
     have FD:=J (frN w9).drew
     have ag:=@J (Fr U w w9.drew) ((aL.o.trans W.o (λ_ _ e=>e)).trans0 FD.o)
     have bE:=J (ag.o.obj aq.o aN.o)
     have b7:=@J (w9.drew.cell? ⟨p,0,none⟩=some (.pointer (some ⟨s,0,none⟩))) (by have:=zm bE.o 0 _ rfl;simpa using this)
     have af:=J (FD.o.obj (W.o.obj bn.o (X.o d (by have:=m.o;omega))) _root_.id)
     have aF:=J (FD.o.obj (W.o.obj bl.o (X.o Y (by have:=m.o;omega))) _root_.id)
     have b0:=@J (w9.drew.cell? ⟨d,0,none⟩=some (.slice u t.ins.length v)) (by have:=zm af.o 0 _ rfl;simpa using this)
     have aU:=J (zf (zf bM.o W.o (λj a=>X.o j (by have:=(NT.o j a).1;have:=ab.o.size;omega))) FD.o (λ_ _=>_root_.id))
     have bG:=J (aP.o.fr0 FD.o)
     refine wrLx [ff,ff,ff,ff,ff,ff,tt] (λw'=>w'.cell? ⟨p,0,none⟩=some (.pointer (some ⟨s,0,none⟩))∧w'.cell? ⟨d,0,none⟩=some (.slice u t.ins.length v)) ?_ (λK hK=>?_)
     ·exact⟨b7.o,b0.o⟩
     generalize w9.drew=z9 at*
     repeat((first|(refine zn rfl ?_;constructor;constructor;(focus(first|(rintro w' ⟨N,O⟩;exact goS))))|(refine zq rfl ?_));try simp only[Act.put,pA,pB,pC])
     (refine zN rfl (λK' hK'=>?_))
     go_simp
     refine(zbW (l:=vJ S t) bG.o ⟨zcc HS.o.ok ad.o.1,by rw[ji];exact aU.o.slice.arg⟩ (by rw[ji];have:=TL.o;have:=aM.o;omega)).mono ?_
     rintro e bV ⟨rfl,ak,ay⟩
     rw[PB.o.2] at ak
     have bF:=J ak
     have aA:=@J (Fr U w bV) (ag.o.trans ay (λ_ _ e=>e))
     have bZ:=J (ay.obj af.o (X.o d (by have:=m.o;omega)))
     have BZ:=J (ay.obj aF.o (X.o Y (by have:=m.o;omega)))
     have R6:=J (zm bZ.o)
     clear ak ay
     refine nXt hK' ?_ λhS=>?_
     ·exact⟨by have:=zm (aA.o.obj aq.o aN.o) 0 _ rfl;simpa using this,by have:=R6.o 0 _ rfl;simpa using this⟩
     try simp only[Act.put,pA,pB,pC]
     refine zZ (hK.out _ _ ?_)
     have⟨r,D⟩:=tZ2
     go_wp2_with ((first|((with_reducible refine zt ?_);clear r;refine zg rfl (ye (ty:=117) rfl rfl R6.o uG rG qK) ?_)|((with_reducible refine zr ?_);clear D;refine ze rfl (zy (ty:=117) (b:=Y) (off:=0) (cs:=[.slice u t.ins.length v,.slice none 0 0]) rfl rfl rfl (zM BZ.o (le_refl 2)) qK (zbJ rfl rfl)) ?_));go_frame)
     have fE:=zv Y [.slice u t.ins.length v,.slice none 0 0] 0 bV
     refine bodyPost_ret (zR (P:=prog) (fn:=Tryz.f49) rfl _ rfl (yE BZ.o rfl) uG rG qK rfl) rfl (zda HE.o (by decide) (bF.o.frV fE (λj a e=>by have:=UL.o j a;have:=H.o;omega) (λj e=>by have:=HS.o.fr.size;have:=H.o;omega)) (aA.o.trans fE (λj a e=>by have:=H.o;omega)) _ _ _ _ _ _)
    ·have cZ:=J hpe
     have HE:=@J (spE S t=0) (by unfold spE;rw[if_pos C.o,if_pos bA.o,if_pos hpe])
     have j0:(xQ (yU S (yI t)) (qb t)==0)=true:=by simpa using hpe
     have j1:(xQ (yU S (yI t)) (qb t) !=0)=false:=by simpa using hpe
     have PS:=@J (qQ (yU S (yI t)) (qb t)=spS S t) (by unfold qQ spS;rw[if_pos hpe,if_pos HE.o])
     clear hpe
     have r:=tru
     go_wp2_with (clear r;go_at_call 50;refine bO.o.mono ?_;rintro e w9 ⟨rfl,M,f9⟩;rw[PS.o] at M;have aP:=J M;have W:=J f9;clear M f9;go_frame)
     clear bR
     have ag:=@J (Fr U w w9) (aL.o.trans W.o (λ_ _ e=>e))
     have af:=J (W.o.obj bn.o (X.o d (by have:=m.o;omega)))
     have aF:=J (W.o.obj bl.o (X.o Y (by have:=m.o;omega)))
     have aU:=J (zf bM.o W.o (λj a=>X.o j (by have:=(NT.o j a).1;have:=ab.o.size;omega)))
     have NM:=@J (∀j,(Value.slice ma t.outs.length mc).ownBlock=some j→Z.heap.size≤j) (λj a=>by have:=(aT.o.lt j a).1;have:=FR.o.size;have:=F5.o.size;omega)
     have cx:=J (zf bL.o W.o (λj a=>X.o j (by have:=NM.o j a;have:=ab.o.size;omega)))
     have aQ:=J (yu af.o)
     go_loopw [91] (λiv wq=>∃(n:Nat) (mv:Value),iv=.int .i64 n∧n≤t.outs.length∧wq.heap[d]? =some (.cells #[.slice u t.ins.length v,mv] 117 (0,0))∧wq.ownsRow w9.heap.size 72 33 mv n ((((qb t).map (·.at_)).take n).flatMap zi)∧Fr (λj=>j=d) w9 wq) (λiv _=>t.outs.length-(intOf iv).toNat)
     case atStart=>exact⟨0,.slice none 0 0,rfl,Nat.zero_le _,af.o,World.ownsRow_nil _ _ _ 33,Fr.refl _ _⟩
     case round=>
      obtain⟨n,c7,rfl,hn,bS,a8,fr⟩:=hrel
      rename World=>wq
      have FQ:=J fr
      have BQ:=J bS
      have OR:=J a8
      obtain⟨na,nc,a6⟩:=a8.slice.arg.form
      subst a6
      clear fr bS a8
      by_cases hlt:n<t.outs.length
      ·have i1:(n:Int)<(t.outs.length:Int):=by omega
       obtain⟨c,E⟩:∃x,(qb t)[n]? =some x:=⟨_,List.getElem?_eq_getElem (by rw[ML.o];exact hlt)⟩
       have ao:=J (ar.o c (List.mem_of_getElem? E))
       have CL:=J (yv ao.o)
       have aW:=J (zF ao.o.1)
       obtain⟨g,cP,hv,hr,-⟩:=J6 (f:=zw) (k:=66) (L:=qb t) (by decide) (λx E=>yv (ar.o x E)) (zf cx.o FQ.o (λj a e=>by have:=NM.o j a;have:=m.o;omega)) E
       cases hv
       have R1:=J hr
       have FB:=J ((frN wq).alloc (.cells (zw c).toArray 103))
       have RP:=J (ju (zK wq (zw c) 103))
       have cf:=@J (((qb t).map (·.at_))[n]? =some c.at_) (by simp[E])
       have bp:=J (FB.o.obj BQ.o _root_.id)
       obtain⟨v5,T,a1,a2,a3,a4,a5⟩:=yw (P:=prog) (wq.alloc (.cells (zw c).toArray 103)) w9.heap.size 115 115 72 33 36 _ qH jP (by show(zi vn).toArray.size=33;rfl) (by decide) (zf OR.o FB.o (λ_ _=>_root_.id)) (zi c.at_) aW.o yB (by omega) (by unfold maxLen;omega) (Nat.le_trans FQ.o.size FB.o.size)
       have A1:=J a1
       have aS:=@J (T.ownsRow w9.heap.size 72 33 v5 (n+1) ((((qb t).map (·.at_)).take (n+1)).flatMap zi)) (by rw[ZH zi cf.o];exact a2)
       have cu:=@J (∀j,(Value.slice na n nc).ownBlock=some j→j≠d) (λj a e=>by have:=(OR.o.lt j a).1;have:=aQ.o;omega)
       have aR:=@J (∀j,v5.ownBlock=some j→j≠d) (λj a e=>by have:=(aS.o.lt j a).1;have:=aQ.o;omega)
       have aH:=J (a3.obj bp.o (λe=>cu.o _ e rfl))
       have b9:=@J (Fr (λj=>j=d) w9 T) ((FQ.o.trans0 FB.o).trans a3 (λj a e=>by have:=(OR.o.lt j e).1;omega))
       have cA:(wq.alloc (.cells (zw c).toArray 103)).cell? ⟨d,1,none⟩=some (.slice na n nc):=by have:=zm bp.o 1 _ rfl;simpa using this
       have cB:T.cell? ⟨d,1,none⟩=some (.slice na n nc):=by have:=zm aH.o 1 _ rfl;simpa using this
       have fB:=zW (i:=1) aH.o
       clear hr a1 a2 a3 a4 a5
       obtain⟨Q,R,bd⟩:=aS.o.slice.arg.form
       subst bd
       have cg:=J (heap_setCell_same T d 1 _ _ (.slice Q (n+1) R) aH.o)
       have fs:Fr (λj=>j=d) T (T.setCell ⟨d,1,none⟩ (.slice Q (n+1) R)):=(Fr.refl (λj=>j=d) T).setCell ⟨d,1,none⟩ (.inr rfl) _
       have cb:=J (b9.o.trans fs (λ_ _ e=>e))
       have cC:=J (zf aS.o fs (λj a e=>aR.o j a e))
       clear fs
       have⟨r,D,K2,K3,K4⟩:=tZ5
       go_wp2_with ((first|((with_reducible refine zt ?_);first|(clear r;refine ziY rfl rfl rfl R1.o CL.o ?_)|(clear K2;refine ziX rfl rfl rfl RP.o aW.o ?_)|(clear K3;refine zg rfl (zL (t:=115) rfl rfl qH j6 rfl (by decide) (by decide) aW.o) ?_)|(clear K4;at_builtin;refine zk rfl rfl rfl rfl A1.o ?_))|((with_reducible refine zr ?_);clear D;refine ze rfl (zj (w:=wq) (ty:=103) (cs:=zw c) rfl rfl rfl (by rw[CL.o];rfl) (by rw[CL.o];exact xI) yz) ?_;generalize wq.alloc (.cells (zw c).toArray 103)=wA at*));go_frame)
       go_roundw
       case rel=>exact⟨n+1,_,by go_num,by omega,cg.o,cC.o,cb.o⟩
       case measure=>simp[intOf];omega
      ·have a7:n=t.outs.length:=by omega
       subst a7
       clear hlt hn
       have i1:¬(t.outs.length:Int)<(t.outs.length:Int):=by omega
       have aO:=@J (wq.ownsRow w9.heap.size 72 33 (.slice na t.outs.length nc) t.outs.length (((qb t).map (·.at_)).flatMap zi)) (by
        have:=OR.o
        rw[List.take_of_length_le (by rw[length_map,ML.o];exact le_refl _)] at this
        exact this)
       have R6:=J (zm BQ.o)
       have BZ:=J (FQ.o.obj aF.o (λe=>by have:=m.o;omega))
       have cF:=J (zf aU.o FQ.o (λj a e=>by have:=(NT.o j a).1;have:=m.o;omega))
       have cn:=J (aP.o.frV FQ.o (λj a e=>by have:=UL.o j a;have:=m.o;omega) (λj e=>by have:=HS.o.fr.size;have:=m.o;omega))
       have cc:=@J (Fr U w wq) (ag.o.trans FQ.o (λj a e=>by have:=m.o;omega))
       have⟨r,D⟩:=tZ2
       go_wp2_with ((first|((with_reducible refine zt ?_);clear r;refine zg rfl (ye (ty:=117) rfl rfl R6.o uG rG qK) ?_)|((with_reducible refine zr ?_);clear D;refine ze rfl (zy (ty:=117) (b:=Y) (off:=0) (cs:=[.slice u t.ins.length v,.slice na t.outs.length nc]) rfl rfl rfl (zM BZ.o (le_refl 2)) qK (zbJ rfl rfl)) ?_));go_frame)
       have fE:=zv Y [.slice u t.ins.length v,.slice na t.outs.length nc] 0 wq
       have FE:=J fE
       refine bodyPost_ret (zR (P:=prog) (fn:=Tryz.f49) rfl _ rfl (yE BZ.o rfl) uG rG qK rfl) rfl ⟨u,t.ins.length,v,na,t.outs.length,nc,by rw[HE.o];rfl,cn.o.frV fE (λj a e=>by have:=UL.o j a;have:=H.o;omega) (λj e=>by have:=HS.o.fr.size;have:=H.o;omega),cc.o.trans fE (λj a e=>by have:=H.o;omega),λ_ V hV w' f=>?_⟩
       have k1:=zcM (l:=vJ S t) (V:=V) (by rw[ji];exact zf cF.o FE.o (λj a e=>by have:=(NT.o j a).1;have:=m.o;omega)) (zcc HS.o.ok ad.o.1) (λj a e=>by have:=hV j e;have:=(NT.o j a).1;have:=ab.o.size;omega) w' f
       have k2:=Z8 (l:=(qb t).map (·.at_)) (V:=V) (by rw[length_map,ML.o];exact zf aO.o FE.o (λj a e=>by have:=(aO.o.lt j a).1;have:=aQ.o;have:=m.o;omega)) (λx E=>by
        obtain⟨y,hy,rfl⟩:=mem_map.1 E
        exact(ar.o y hy).1) (λj a e=>by have:=hV j e;have:=(aO.o.lt j a).1;have:=ag.o.size;omega) w' f
       refine⟨u,v,na,nc,?_,(by show xz w' (.slice u (vJ S t).length v) (vJ S t);rw[ji];exact k1),(by show qz w' (.slice na ((qb t).map (·.at_)).length nc) ((qb t).map (·.at_));rw[length_map,ML.o];exact k2)⟩
       show _=[Value.slice u (vJ S t).length v,Value.slice na ((qb t).map (·.at_)).length nc]
       rw[ji,length_map,ML.o]
structure qy (w0 w:World) (p s:Nat) (U:Nat→Prop) (mi:Nat) (bv:Value) (css:List (List Value)) (D:ChD):Prop where
 obj:w.heap[p]? =some (.cells #[.pointer (some ⟨s,0,none⟩),bv,.map (some mi)] 81 (0,0))
 set:CS w0 w s U D.S
 row:w.ownsRow w0.heap.size 94 5 bv D.bs.length (css.flatMap id)
 cl:css.length=D.bs.length
 c5:∀cs∈css,cs.length=5
 data:∀(i:Nat) (d:zU) (cs:List Value),D.bs[i]? =some d→css[i]? =some cs→Kept (chV p U mi bv) w (λw=>vr w d cs)
 map:zeH w mi D.M
 pm:p≠mi
 up:¬U p
 um:¬U mi
 rn:∀k,bv.ownBlock=some k→k≠p∧k≠mi∧¬U k
 lo1:w0.heap.size≤p
 lo2:w0.heap.size≤mi
section
variable {w0 w w':World} {p s mi:Nat} {U:Nat→Prop} {bv:Value} {css:List (List Value)} {D:ChD}
theorem qy.fr (h:qy w0 w p s U mi bv css D):Fr No w0 w:=h.set.fr
theorem qy.lo (h:qy w0 w p s U mi bv css D):∀j,chV p U mi bv j→w0.heap.size≤j:=by
 intro j a
 rcases a with rfl|a|rfl|a
 ·exact h.lo1
 ·exact h.set.lo j a
 ·exact h.lo2
 ·exact(h.row.lt j a).1
theorem qy.hi (h:qy w0 w p s U mi bv css D):∀j,chV p U mi bv j→j<w.heap.size:=by
 intro j a
 rcases a with rfl|a|rfl|a
 ·exact yu h.obj
 ·exact h.set.hi j a
 ·exact h.map.lt
 ·exact(h.row.lt j a).2
theorem qy.frV (h:qy w0 w p s U mi bv css D) {W:Nat→Prop} (f:Fr W w w') (a:∀j,chV p U mi bv j→¬W j) (c:∀j,W j→w0.heap.size≤j) (e:∀(i:Nat) (d:zU) (cs:List Value),D.bs[i]? =some d→css[i]? =some cs→Kept (chV p U mi bv) w' (λw=>vr w d cs)):qy w0 w' p s U mi bv css D:=
 {h with
  obj:=f.obj h.obj (a _ (.inl rfl))
  set:=h.set.frV f (λj b=>a j (.inr (.inl b))) c
  row:=zf h.row f (λj b=>a j (.inr (.inr (.inr b))))
  data:=e
  map:=h.map.keep f (a _ (.inr (.inr (.inl rfl))))}
theorem qy.fr0 (h:qy w0 w p s U mi bv css D) (f:Fr No w w'):qy w0 w' p s U mi bv css D:=
 h.frV f (λ_ _=>id) (λ_ h=>h.elim) (λi d cs a b=>(h.data i d cs a b).same f.of0)
theorem qy.setS (h:qy w0 w p s U mi bv css D) {S':List zh} (e:CS w0 w' s U S') (f:Fr U w w'):qy w0 w' p s U mi bv css ⟨S',D.bs,D.M⟩:=
 {h with
  obj:=f.obj h.obj h.up
  set:=e
  row:=zf h.row f (λj a=>(h.rn j a).2.2)
  data:=λi d cs b c=>(h.data i d cs b c).same (f.mono (λj a=>.inr (.inl a)))
  map:=h.map.keep f h.um}
theorem qy.cells (h:qy w0 w p s U mi bv css D):w.cell? ⟨p,0,none⟩=some (.pointer (some ⟨s,0,none⟩))∧w.cell? ⟨p,1,none⟩=some bv∧w.cell? ⟨p,2,none⟩=some (.map (some mi)):=by
 have:=zm h.obj
 exact⟨by simpa using this 0 _ rfl,by simpa using this 1 _ rfl,by simpa using this 2 _ rfl⟩
end
def Ch (w0 w:World) (p:Nat) (V:Nat→Prop) (D:ChD):Prop:=∃s U mi bv css,qy w0 w p s U mi bv css D∧V=chV p U mi bv
theorem Ch.fr0 {w0 w w':World} {p:Nat} {D:ChD} (h:Ch w0 w p V D) (f:Fr No w w'):Ch w0 w' p V D:=by
 obtain⟨s,U,mi,bv,css,h,e⟩:=h
 exact⟨s,U,mi,bv,css,h.fr0 f,e⟩
theorem Ch.fr {w0 w:World} {p:Nat} {D:ChD} (h:Ch w0 w p V D):Fr No w0 w:=by
 obtain⟨s,U,mi,bv,css,h,e⟩:=h
 exact h.fr
theorem Ch.lo {w0 w:World} {p:Nat} {D:ChD} (h:Ch w0 w p V D):∀j,V j→w0.heap.size≤j:=by
 obtain⟨s,U,mi,bv,css,h,rfl⟩:=h
 exact h.lo
theorem zcJ {w0 w:World} {p:Nat} {D:ChD} (h:Ch w0 w p V D):Calls prog 15 #[.pointer (some ⟨p,0,none⟩)] w λe w'=>e=.returned (.int .i64 (D.bs.length:Int))∧w'=w:=by
 obtain⟨s,U,mi,bv,css,h,-⟩:=h
 obtain⟨b,c1,c2⟩:=h.cells
 obtain⟨a,c,rfl⟩:=h.row.slice.arg.form
 clear h b c2
 go_enter Tryz.func15,Tryz.ntmps15
 go_wp2
 go_ret
 exact⟨rfl,rfl⟩
theorem zbd {w0 w:World} {p:Nat} {D:ChD} (h:Ch w0 w p V D) (g:D.S.length≤100000):Calls prog 17 #[.pointer (some ⟨p,0,none⟩)] w λe w'=>∃v,e=.returned v∧w'.ownsRow w.heap.size 103 66 v D.S.length (D.S.flatMap zw)∧Fr No w w':=by
 obtain⟨s,U,mi,bv,css,h,-⟩:=h
 obtain⟨i,c1,c2⟩:=h.cells
 have f:=J (zih h.set g)
 clear h c1 c2
 go_enter Tryz.func17,Tryz.ntmps17
 go_wp2_with (go_at_call 39;refine f.o.mono ?_;rintro e j ⟨v,rfl,b,a⟩;have d:=J b;have c:=J a;clear b a)
 go_ret
 exact⟨_,rfl,d.o,c.o⟩
theorem zcq {w0 w:World} {p:Nat} {D:ChD} (h:Ch w0 w p V D) {q:zE} (v:q.ok):Calls prog 21 #[.pointer (some ⟨p,0,none⟩),.agg (zi q).toArray] w λe w'=>e=.returned (.tuple #[.agg (zx (yj D.S q)).toArray,.bool (xE D.S q)])∧Fr No w w':=by
 obtain⟨s,U,mi,bv,css,h,-⟩:=h
 obtain⟨I,G,F⟩:=Zt
 have N:=yA
 have B:=J (zF v)
 have k:=J (vQ h.set.ok q)
 have c:=J (z6 k.o)
 have u:Fr No w ((w.alloc (.cells (zi q).toArray 72)).alloc (.cells (zx vF).toArray 68)).drew:=(((frN w).alloc _).alloc _).drew
 have A:=J (λw' (f:Fr No w w')=>zcH (h.set.fr0 f) v)
 have a:Fr No (w.alloc (.cells (zi q).toArray 72)) ((w.alloc (.cells (zi q).toArray 72)).alloc (.cells (zx vF).toArray 68)).drew:=((frN _).alloc _).drew
 have g:=J (λw' (f:Fr No w w')=>(h.fr0 f).cells.1)
 have t:=J (zb (zK w (zi q) 72) a id)
 have z:=J ((frN _).drew.obj (xK (w.alloc (.cells (zi q).toArray 72)) (.cells (zx vF).toArray 68) (n:=w.heap.size+1) (by simp)) id)
 have j:=J u
 clear h u a
 go_enter Tryz.func21,Tryz.ntmps21
 go_wp2_with fail
 generalize ((w.alloc (.cells (zi q).toArray 72)).alloc (.cells (zx vF).toArray 68))=M at*
 refine wrLx [ff,ff,ff,ff,ff,tt,ff,ff,tt,ff] (λw'=>w'.cell? ⟨p,0,none⟩=some (.pointer (some ⟨s,0,none⟩))∧w'.rangeAt w.heap.size 0 (zi q)) ?_ (λK hK=>?_)
 ·exact⟨g.o _ j.o,t.o⟩
 repeat((first|(refine zn rfl ?_;constructor;constructor;(focus(first|exact zi1 rfl (λw h=>h.2) B.o|(rintro w' ⟨x,y⟩;exact goS))))|(refine zq rfl ?_));try simp only[Act.put,pA,pB,pC])
 (refine zN rfl (λK' hK'=>?_))
 go_simp
 refine(A.o _ j.o).mono ?_
 rintro e H ⟨rfl,d⟩
 have m:=J (j.o.trans0 d)
 have l:=J (d.obj z.o id)
 have r:=J (zb t.o d id)
 clear d
 generalize E:yj D.S q=X at*
 generalize C:xE D.S q=L at*
 refine nXt hK' ?_ λhS=>?_
 ·exact⟨g.o _ m.o,r.o⟩
 try simp only[Act.put,pA,pB,pC]
 repeat((first|(refine zn rfl ?_;constructor;constructor;(focus(first|(rintro w' ⟨x,y⟩;exact goS))))|(refine zq rfl ?_));try simp only[Act.put,pA,pB,pC])
 (refine zN rfl (λK' hK'=>?_))
 refine xx (zy (ty:=68) (b:=w.heap.size+1) (off:=0) (cs:=zx X) rfl rfl rfl (by rw[c.o];exact zM l.o (Nat.le_of_eq xq.symm)) (by rw[c.o];exact yW) zV) ?_
 have o:=@J (Fr No w (H.setCells (w.heap.size+1) 0 (zx X))) (m.o.trans (zv _ _ _ _) (λi hi e=>by omega))
 refine nXt hK' ?_ λhS=>?_
 ·exact⟨g.o _ o.o,zb r.o (zv _ _ _ _) (λe=>by omega)⟩
 try simp only[Act.put,pA,pB,pC]
 repeat((first|(refine zn rfl ?_;constructor;constructor;(focus(first|(rintro w' ⟨x,y⟩;exact goS))))|(refine zq rfl ?_));try simp only[Act.put,pA,pB,pC])
 refine zZ (hK.out _ _ ?_)
 go_wp2_with fail
 refine bodyPost_ret (zR (P:=prog) (fn:=Tryz.f21) rfl _ rfl (yE l.o (by rw[c.o];exact xq)) G F (by rw[c.o];exact yW) rfl) rfl ⟨by rw[E,C];rfl,o.o⟩
theorem zb4 (w:World):(Instr.makeMap 78 none).run prog w=.ok (.map (some w.heap.size)) (w.alloc (.map #[] 0)):=by kernel_rfl
theorem zeN (s m:Nat) (w:World):(Instr.build 81 #[(0,.pointer (some ⟨s,0,none⟩)),(2,.map (some m))]).run prog w=.ok (.agg #[.pointer (some ⟨s,0,none⟩),.slice none 0 0,.map (some m)]) w:=by kernel_rfl
def zcp (l:List yk):ChD:=⟨qP [] (xP z7 l),[],[]⟩
theorem zdQ (w:World) {v:Value} {l:List yk} (c:xA w v l) (y:l.length≤256):
  Calls prog 6 #[v] w λe w'=>∃p,e=.returned (.tuple #[.pointer (some ⟨p,0,none⟩),.int .i64 0])∧∃V,Ch w w' p V (zcp l):=by
 have O:decide ((256:Int)<(l.length:Int))=false:=by simp;omega
 have B:=J (ZB w j5 c (by omega))
 have H:=J (Jh j5 c.1 (by omega))
 have A:=J y
 obtain⟨R,S,rfl⟩:=c.2.form
 clear c y
 go_enter Tryz.func6,Tryz.ntmps6
 have⟨C,D,E,F⟩:=tZ4
 go_wp2_with ((first|((with_reducible refine zt ?_);first|(clear C;with_reducible refine xF 10 ?_;refine zg rfl (yl (t:=40) rfl rfl (jt _)) ?_)|(clear F;with_reducible refine xF 18 ?_;refine zg rfl (yl (t:=81) rfl rfl (zeN _ _ _)) ?_))|(clear D;go_at_call 24;refine B.o.mono ?_;rintro e z ⟨M,rfl,n,r⟩;have g:=J r;have G:=@J (xz z M (xP z7 l)) (⟨H.o,by rw[xZ];exact n.slice.arg⟩);obtain⟨P,Q,m⟩:=n.slice.arg.form;subst m;clear n r)|(clear E;go_at_call 23;refine(zhd w z g.o G.o (by rw[xZ];have:=A.o;omega) (vm _ _)).mono ?_;rintro e a ⟨s,rfl,U,b,u,K⟩;have f:=J b;have q:=J u;clear b u K;have L:=zb4 a));go_frame)
 have I:=(frN a).alloc (.map #[] 0)
 have x:=(frN (a.alloc (.map #[] 0))).alloc (.cells #[.pointer (some ⟨s,0,none⟩),.slice none 0 0,.map (some a.heap.size)] 81)
 have N:(a.alloc (.map #[] 0)).heap.size=a.heap.size+1:=by simp
 have j:=zS (a.alloc (.map #[] 0)) (.cells #[.pointer (some ⟨s,0,none⟩),.slice none 0 0,.map (some a.heap.size)] 81)
 have o:=@J (qy w _ (a.alloc (.map #[] 0)).heap.size s U a.heap.size (.slice none 0 0) [] (zcp l)) ({obj:=j,set:=(f.o.fr0 I).fr0 x,row:=World.ownsRow_nil _ _ _ 5,cl:=rfl,c5:=(λcs h=>by cases h),data:=(λi d cs h=>by simp[zcp] at h),map:=(show zeH (a.alloc (.map #[] 0)) a.heap.size [] from yS.made a).keep x id,pm:=(by omega),up:=(λh=>by have:=f.o.hi _ h;omega),um:=(λh=>by have:=f.o.hi _ h;omega),rn:=(λk h=>by cases h),lo1:=(by have:=g.o.size;have:=q.o.size;omega),lo2:=(by have:=g.o.size;have:=q.o.size;omega)})
 rw[N] at o
 go_ret2
 exact⟨_,rfl,_,_,_,_,_,_,o.o,rfl⟩
theorem zcr (w:World) {a:Option Addr} {n c:Nat} (b:256<n):
  Calls prog 6 #[.slice a n c] w λe w'=>e=.returned (.tuple #[.pointer none,.int .i64 5])∧w'=w:=by
 have d:decide ((256:Int)<(n:Int))=true:=by simp;omega
 clear b
 go_enter Tryz.func6,Tryz.ntmps6
 go_wp2
 go_ret2
 exact⟨rfl,rfl⟩
theorem zfD (w:World) {b:y7} {cs:List Value} (ht:xT w b cs) (h0:b.txs=[]) (hN:b.pay.length≤100000):
  Calls prog 32 #[.agg cs.toArray] w (zeI w b):=by
 obtain⟨C,D,M,N,rfl,hv,ho,-⟩:=ht
 rw[h0]
 have zB:=jY
 have f1:Fr No w (w.alloc (.cells #[.int .u64 b.tag,.slice C b.pay.length D,.slice M 0 N] 36)):=(frN w).alloc _
 have p:Fr No (w.alloc (.cells #[.int .u64 b.tag,.slice C b.pay.length D,.slice M 0 N] 36)) _:=(frN _).alloc (.cells xY.toArray 36)
 obtain⟨c0,c1,c2,-⟩:=qC w (.int .u64 b.tag) (.slice C b.pay.length D) (.slice M 0 N) 36
 have C0:=J (p.cell c0 _root_.id)
 have C1:=J (p.cell c1 _root_.id)
 have C2:=J (p.cell c2 _root_.id)
 have F2:=J (f1.trans0 p)
 have B2:=J (xK (w.alloc (.cells #[.int .u64 b.tag,.slice C b.pay.length D,.slice M 0 N] 36)) (.cells xY.toArray 36) (n:=w.heap.size+1) (by simp))
 have HO:=J (ho.keep F2.o)
 have Z2:=@J (((w.alloc (.cells #[.int .u64 b.tag,.slice C b.pay.length D,.slice M 0 N] 36)).alloc (.cells xY.toArray 36)).heap.size=w.heap.size+2) (by simp)
 have HN:=J hN
 have HV:=J hv
 have H0:=J h0
 clear c0 c1 c2 f1 p ho hv hN h0
 show Calls prog 32 #[.agg #[.int .u64 b.tag,.slice C b.pay.length D,.slice M 0 N]] w _
 go_enter Tryz.func32,Tryz.ntmps32
 go_wp2_with fail
 generalize (w.alloc (.cells #[.int .u64 b.tag,.slice C b.pay.length D,.slice M 0 N] 36)).alloc (.cells xY.toArray 36)=w2 at*
 have O:=J (frN w2).drew
 have z:=J (HO.o.keep O.o)
 have T:=J (O.o.obj B2.o _root_.id)
 have l:=J (O.o.cell C0.o _root_.id)
 have m:=J (O.o.cell C1.o _root_.id)
 have X:=J (O.o.cell C2.o _root_.id)
 have Zd:=@J (w2.drew.heap.size=w.heap.size+2) (Z2.o)
 have Y:=J (F2.o.trans0 O.o)
 refine jH 8 [0,1,2,3,4,5,6,7] (λw'=>w'.cell? ⟨w.heap.size,0,none⟩=some (.int .u64 b.tag)∧w'.cell? ⟨w.heap.size,1,none⟩=some (.slice C b.pay.length D)) (by kernel_rfl) (by kernel_rfl) (by kernel_rfl) (by kernel_rfl) ?_ (λK hK=>?_)
 ·exact⟨l.o,m.o⟩
 generalize w2.drew=s at*
 (((first|(refine y5 0 (by kernel_rfl) rfl rfl ?_;apply Exists.intro;refine⟨?_,?_⟩;(focus(first|(intro w' hS;obtain⟨s1,s2⟩:=hS;exact goS))))|(refine y6 0 (by kernel_rfl) rfl rfl ?_));try simp only[Act.put,pA,pB,pC]);((first|(refine y5 1 (by kernel_rfl) rfl rfl ?_;apply Exists.intro;refine⟨?_,?_⟩;(focus(first|(intro w' hS;obtain⟨s1,s2⟩:=hS;exact goS))))|(refine y6 1 (by kernel_rfl) rfl rfl ?_));try simp only[Act.put,pA,pB,pC]);((first|(refine y5 2 (by kernel_rfl) rfl rfl ?_;apply Exists.intro;refine⟨?_,?_⟩;(focus(first|(intro w' hS;obtain⟨s1,s2⟩:=hS;exact goS))))|(refine y6 2 (by kernel_rfl) rfl rfl ?_));try simp only[Act.put,pA,pB,pC]);((first|(refine y5 3 (by kernel_rfl) rfl rfl ?_;apply Exists.intro;refine⟨?_,?_⟩;(focus(first|(intro w' hS;obtain⟨s1,s2⟩:=hS;exact goS))))|(refine y6 3 (by kernel_rfl) rfl rfl ?_));try simp only[Act.put,pA,pB,pC]))
 refine Xb 4 6 (by kernel_rfl) rfl rfl rfl rfl (λK' hK'=>?_) (λK' hK'=>?_)
 ·obtain⟨pv,r,a1,A,a3,-⟩:=vy s (k:=[]) (World.ownsRow_nil s (w.heap.size+2) _ 33) z.o (by have:=HN.o;simp;omega) (by have:=Zd.o;omega) 22
  rw[List.length_nil,Nat.zero_add,List.nil_append] at A
  obtain⟨c,d,L⟩:=A.slice.arg.form
  subst L
  have S:=J a1
  have o:=@J (Fr No s r) (a3.mono (λj e=>by cases e))
  have Q:=J A
  clear a1 A a3
  refine zQ rfl rfl rfl S.o ?_
  refine nXt hK' ?_ λhS=>?_
  ·exact⟨o.o.cell l.o _root_.id,o.o.cell m.o _root_.id⟩
  try simp only[Act.put,pA,pB,pC]
  (((first|(refine y5 5 (by kernel_rfl) rfl rfl ?_;apply Exists.intro;refine⟨?_,?_⟩;(focus(first|exact λw' _=>yl (t:=36) rfl rfl (Qm _ _ _ _ _)|(intro w' hS;obtain⟨s1,s2⟩:=hS;exact goS))))|(refine y6 5 (by kernel_rfl) rfl rfl ?_));try simp only[Act.put,pA,pB,pC]))
  refine qq 6 (by kernel_rfl) rfl rfl (λK' hK'=>?_)
  refine yg (y4 rfl (jY _)) ?_
  have x:=J ((frN r).alloc (.cells xY.toArray 36))
  refine nXt hK' ?_ λhS=>?_
  ·exact⟨x.o.cell (o.o.cell l.o _root_.id) _root_.id,x.o.cell (o.o.cell m.o _root_.id) _root_.id⟩
  try simp only[Act.put,pA,pB,pC]
  refine qq 7 (by kernel_rfl) rfl rfl (λK' hK'=>?_)
  refine xx (zj (w:=r) (ty:=36) (cs:=[.int .u64 b.tag,.slice c b.pay.length d,.slice none 0 0]) rfl rfl rfl rfl xg (λu q=>by simp only[mem_cons,not_mem_nil,or_false] at q;rcases q with rfl|rfl|rfl<;>rfl)) ?_
  have y:=J ((frN r).alloc (.cells [.int .u64 b.tag,.slice c b.pay.length d,.slice none 0 0].toArray 36))
  refine nXt hK' ?_ λhS=>?_
  ·exact⟨y.o.cell (o.o.cell l.o _root_.id) _root_.id,y.o.cell (o.o.cell m.o _root_.id) _root_.id⟩
  try simp only[Act.put,pA,pB,pC]
  refine j7 (hK.out _ _ ?_)
  have OB:=J (zS r (.cells [.int .u64 b.tag,.slice c b.pay.length d,.slice none 0 0].toArray 36))
  have OV:=J (zf Q.o y.o (λ_ _=>_root_.id))
  have g:=J (o.o.trans0 y.o)
  generalize r.alloc (.cells [.int .u64 b.tag,.slice c b.pay.length d,.slice none 0 0].toArray 36)=B at*
  generalize r.heap.size=R at*
  have Z:=J (Y.o.trans0 g.o)
  clear o x y Q S
  have G:=Z.o.size
  have E:=J (g.o.cell X.o _root_.id)
  have c2:=E.o
  have R6:=J (zm OB.o)
  have H:B.cell? ⟨R,2,none⟩=some (.slice none 0 0):=by have:=R6.o 2 _ rfl;simpa using this
  clear G
  have i1:¬(0:Int)<0:=by omega
  have HX:=@J (∀V:Nat→Prop,(∀j,V j→j<w.heap.size+2)→Kept V B (λw=>xT w b [.int .u64 b.tag,.slice c b.pay.length d,.slice none 0 0])) (λV I w' f=>⟨c,d,none,0,by rw[H0.o];rfl,HV.o,Yt OV.o z.o.1 (λj a=>by have:=I j a;omega) w' f,by rw[H0.o];exact xB.nil⟩)
  have W:=J (g.o.obj T.o _root_.id)
  clear H
  go_wp2_with fail
  go_loopw [18] (λiv wr=>iv=.int .i64 0∧wr=B) (λ_ _=>0)
  case atStart=>exact⟨rfl,rfl⟩
  case round=>
   obtain⟨rfl,hw⟩:=hrel
   rw[hw]
   have⟨K0,K1⟩:=tZ2
   go_wp2_with ((first|((with_reducible refine zt ?_);clear K0;refine ziS rfl rfl rfl R6.o rfl ?_)|((with_reducible refine zr ?_);clear K1;refine ze rfl (zy (ty:=36) (b:=w.heap.size+1) (off:=0) (cs:=[.int .u64 b.tag,.slice c b.pay.length d,.slice none 0 0]) rfl rfl rfl (zM W.o (le_refl 3)) xg (λu q=>by simp only[mem_cons,not_mem_nil,or_false] at q;rcases q with rfl|rfl|rfl<;>rfl)) ?_));go_frame)
   have BE:=zc4 (cs:=[.int .u64 b.tag,.slice c b.pay.length d,.slice none 0 0]) W.o rfl
   have fE:=zv (w.heap.size+1) [.int .u64 b.tag,.slice c b.pay.length d,.slice none 0 0] 0 B
   refine bodyPost_ret (v:=.agg [.int .u64 b.tag,.slice c b.pay.length d,.slice none 0 0].toArray) (results_cell_row (P:=prog) (fn:=Tryz.f32) rfl _ _ (w.heap.size+1) 36 _ (0,0) _ rfl BE Tryz.underlying36 rfl xg) rfl ⟨_,rfl,Z.o.trans fE (λi hi e=>by omega),λV I w' f=>HX.o (λj=>V j∨j=w.heap.size+1) (λj a=>by rcases a with a|a;have:=I j a;omega;omega) w' ((fE.mono (λj a=>.inr a)).trans (f.mono (λj a=>.inl a)) (λ_ _ h=>h))⟩
 ·refine yg (y4 rfl (jY _)) ?_
  have x:=J ((frN s).alloc (.cells xY.toArray 36))
  have B5:=J (zS s (.cells xY.toArray 36))
  have Q5:=@J ((s.alloc (.cells xY.toArray 36)).heap.size=s.heap.size+1) (by simp)
  generalize s.alloc (.cells xY.toArray 36)=r at*
  generalize aa:s.heap.size=R at*
  refine nXt hK' ?_ λhS=>?_
  ·exact⟨x.o.cell l.o _root_.id,x.o.cell m.o _root_.id⟩
  try simp only[Act.put,pA,pB,pC]
  refine qq 4 (by kernel_rfl) rfl rfl (λK' hK'=>?_)
  obtain⟨pv,w5,a1,A,a3,-⟩:=vy r (k:=[]) (World.ownsRow_nil r (w.heap.size+3) _ 33) (z.o.keep x.o) (by have:=HN.o;simp;omega) (by have:=Zd.o;have:=Q5.o;omega) 22
  rw[List.length_nil,Nat.zero_add,List.nil_append] at A
  obtain⟨c,d,L⟩:=A.slice.arg.form
  subst L
  have S:=J a1
  have o:=@J (Fr No r w5) (a3.mono (λj e=>by cases e))
  have Q:=J A
  clear a1 A a3
  refine zQ rfl rfl rfl S.o ?_
  have F:=J (x.o.trans0 o.o)
  have U:=J (o.o.obj B5.o _root_.id)
  refine nXt hK' ?_ λhS=>?_
  ·exact⟨F.o.cell l.o _root_.id,F.o.cell m.o _root_.id⟩
  try simp only[Act.put,pA,pB,pC]
  (((first|(refine y5 5 (by kernel_rfl) rfl rfl ?_;apply Exists.intro;refine⟨?_,?_⟩;(focus(first|exact λw' _=>yl (t:=36) rfl rfl (Qm _ _ _ _ _)|(intro w' hS;obtain⟨s1,s2⟩:=hS;exact goS))))|(refine y6 5 (by kernel_rfl) rfl rfl ?_));try simp only[Act.put,pA,pB,pC]))
  refine qq 7 (by kernel_rfl) rfl rfl (λK' hK'=>?_)
  refine xx (zy (ty:=36) (b:=R) (off:=0) (cs:=[.int .u64 b.tag,.slice c b.pay.length d,.slice none 0 0]) rfl rfl rfl (zM U.o (le_refl 3)) xg (λu q=>by simp only[mem_cons,not_mem_nil,or_false] at q;rcases q with rfl|rfl|rfl<;>rfl)) ?_
  have y:=J (zv R [.int .u64 b.tag,.slice c b.pay.length d,.slice none 0 0] 0 w5)
  have g:=@J (Fr No s _) (F.o.trans y.o (λi hi e=>by omega))
  refine nXt hK' ?_ λhS=>?_
  ·exact⟨g.o.cell l.o _root_.id,g.o.cell m.o _root_.id⟩
  try simp only[Act.put,pA,pB,pC]
  refine j7 (hK.out _ _ ?_)
  have OB:=J (zc4 (cs:=[.int .u64 b.tag,.slice c b.pay.length d,.slice none 0 0]) U.o rfl)
  have OV:=J (zf Q.o y.o (λj a e=>by have:=(Q.o.lt j a).1;have:=Zd.o;omega))
  generalize w5.setCells R 0 [.int .u64 b.tag,.slice c b.pay.length d,.slice none 0 0]=B at*
  have Z:=J (Y.o.trans0 g.o)
  clear o x y Q S
  have G:=Z.o.size
  have E:=J (g.o.cell X.o _root_.id)
  have c2:=E.o
  have R6:=J (zm OB.o)
  have H:B.cell? ⟨R,2,none⟩=some (.slice none 0 0):=by have:=R6.o 2 _ rfl;simpa using this
  clear G
  have i1:¬(0:Int)<0:=by omega
  have HX:=@J (∀V:Nat→Prop,(∀j,V j→j<w.heap.size+2)→Kept V B (λw=>xT w b [.int .u64 b.tag,.slice c b.pay.length d,.slice none 0 0])) (λV I w' f=>⟨c,d,none,0,by rw[H0.o];rfl,HV.o,Yt OV.o z.o.1 (λj a=>by have:=I j a;omega) w' f,by rw[H0.o];exact xB.nil⟩)
  have W:=J (g.o.obj T.o _root_.id)
  clear H
  go_wp2_with fail
  go_loopw [18] (λiv wr=>iv=.int .i64 0∧wr=B) (λ_ _=>0)
  case atStart=>exact⟨rfl,rfl⟩
  case round=>
   obtain⟨rfl,hw⟩:=hrel
   rw[hw]
   have⟨K0,K1⟩:=tZ2
   go_wp2_with ((first|((with_reducible refine zt ?_);clear K0;refine ziS rfl rfl rfl R6.o rfl ?_)|((with_reducible refine zr ?_);clear K1;refine ze rfl (zy (ty:=36) (b:=w.heap.size+1) (off:=0) (cs:=[.int .u64 b.tag,.slice c b.pay.length d,.slice none 0 0]) rfl rfl rfl (zM W.o (le_refl 3)) xg (λu q=>by simp only[mem_cons,not_mem_nil,or_false] at q;rcases q with rfl|rfl|rfl<;>rfl)) ?_));go_frame)
   have BE:=zc4 (cs:=[.int .u64 b.tag,.slice c b.pay.length d,.slice none 0 0]) W.o rfl
   have fE:=zv (w.heap.size+1) [.int .u64 b.tag,.slice c b.pay.length d,.slice none 0 0] 0 B
   refine bodyPost_ret (v:=.agg [.int .u64 b.tag,.slice c b.pay.length d,.slice none 0 0].toArray) (results_cell_row (P:=prog) (fn:=Tryz.f32) rfl _ _ (w.heap.size+1) 36 _ (0,0) _ rfl BE Tryz.underlying36 rfl xg) rfl ⟨_,rfl,Z.o.trans fE (λi hi e=>by omega),λV I w' f=>HX.o (λj=>V j∨j=w.heap.size+1) (λj a=>by rcases a with a|a;have:=I j a;omega;omega) w' ((fE.mono (λj a=>.inr a)).trans (f.mono (λj a=>.inl a)) (λ_ _ h=>h))⟩
end Go.Proofs.YtmpamcnlineceaaGreatDoor
