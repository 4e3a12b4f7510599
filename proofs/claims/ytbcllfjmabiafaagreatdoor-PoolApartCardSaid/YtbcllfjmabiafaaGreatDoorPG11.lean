/- chain: spend. -/
import Derived.Deep.CutRange
import Derived.Test.YtbcllfjmabiafaaGreatDoorPG10
import Derived.Test.YtbcllfjmabiafaaGreatDoorPG3
import Derived.Test.YtbcllfjmabiafaaGreatDoorPG8
set_option linter.unusedVariables false
set_option linter.unusedSimpArgs false
set_option linter.unnecessarySimpa false
set_option linter.all false
set_option maxRecDepth 20000
set_option maxHeartbeats 16000000
namespace Go.Proofs.YtbcllfjmabiafaaGreatDoor
open Go Go.RowKit Go.Maps Go.MapKept
open Go.Proofs.Tryz(prog)
open List(mem_map length_map take_length)
open Nat(le_refl)
variable {w:World}
theorem zgq {B:Nat} {v:Value} {l:List zn} (h:w.ownsRow B 60 66 v l.length (l.flatMap z7)) (ok:∀x∈l,x.ok) {V:Nat→Prop} (a:∀j,v.ownBlock=some j→¬V j):Kept V w (λw=>vt w v l):=
 λw' f=>⟨ok,(zb h f a).slice.arg⟩
def zm7 (w0 w:World) (s:Nat) (U:Nat→Prop) (S:List zn) (t:TxD) (e:Ending) (w':World):Prop:=
 ∃ta tn tc ma mn mc,e=.returned (.tuple #[.agg #[.slice ta tn tc,.slice ma mn mc],.int .i64 (spE S t)])∧CS w0 w' s U (spS S t)∧Fr U w w'∧(spE S t=0→∀V:Nat→Prop,(∀j,V j→j<w.heap.size)→Kept V w' (λw=>zdL w (spG S t) [.slice ta tn tc,.slice ma mn mc]))
theorem zgI {k w w':World} {s:Nat} {U:Nat→Prop} {S:List zn} {t:TxD} {E:Int} (h:spE S t=E) (a:E≠0) (l:CS k w' s U S) (f:Fr U w w') (g:Option Addr) (j i:Nat) (b:Option Addr) (d c:Nat):zm7 k w s U S t (.returned (.tuple #[.agg #[.slice g j i,.slice b d c],.int .i64 E])) w':=
 ⟨g,j,i,b,d,c,by rw[h],by unfold spS;rw[if_neg (by rw[h];exact a)];exact l,f,λe=>absurd (h.symm.trans e) a⟩
theorem XV {a b:Value} (d:a.oneCell'=true) (e:b.oneCell'=true):∀u∈[a,b],u.oneCell'=true:=λu c=>by
 simp only[List.mem_cons,List.not_mem_nil,or_false] at c
 rcases c with rfl|rfl
 ·exact d
 ·exact e
def zma (w2:World) (x:yC) (h:Bool) (s10 s11:Value) (wc:World):Prop:=
 ∃qo,s10=.pointer (some ⟨qo,0,none⟩)∧s11=.bool h∧w2.heap.size≤qo∧Fr No w2 wc∧wc.heap[qo]? =some (.cells (zF x).toArray 58 (0,0))
def SpL (w1:World) (q6:Nat) (S:List zn) (t:TxD) (n:Nat) (pv:Value) (wr:World):Prop:=
 ∃tv,(∀q∈(z6 t).take n,yV S q=true)∧wr.ownsRow w1.heap.size 58 33 pv n (((JI S t).take n).flatMap zF)∧wr.heap[q6]? =some (.cells #[tv,.slice none 0 0] 201 (0,0))∧
  wr.ownsRow w1.heap.size 60 66 tv n (((j8 S t).take n).flatMap z7)∧(∀j,pv.ownBlock=some j→tv.ownBlock=some j→False)∧Fr (λj=>j=q6) w1 wr
theorem Xf {α:Type} (f:α→List Value) {L:List α} {n:Nat} {x:α} (h:L[n]? =some x):(L.take (n+1)).flatMap f=(L.take n).flatMap f++f x:=by
 rw[List.take_add_one,h]
 simp
theorem ziS {w0 w:World} (hg:vp w) {p s:Nat} {bv mv:Value} {U:Nat→Prop} {S:List zn} (bT:w.heap[p]? =some (.cells #[.pointer (some ⟨s,0,none⟩),bv,mv] 137 (0,0))) (bU:¬U p) (hs:CS w0 w s U S) {t:TxD} {cs:List Value} (ht:Kept U w (λw=>TxQ w t cs)) (hc:yR t=0) (hN:S.length≤90000):
  Calls prog 98 #[.pointer (some ⟨p,0,none⟩),.agg cs.toArray] w (zm7 w0 w s U S t):=by
 obtain⟨ia,ic,oa,oc,rfl⟩:=ht.now.form
 obtain⟨c1,c2,c3,c4,-,-⟩:=jd hc
 have f8:=zlU c1
 have ad:=Hd ht.now.oks
 obtain⟨dT,uT,rT⟩:=zbV
 obtain⟨dO,uO,rO⟩:=YT
 obtain⟨dG,uG,rG⟩:=zg6
 have zG:=zhE
 have zP:=vr
 have zO:=y3
 have zC:=ZU
 have f1:Fr No w (w.alloc (.cells #[.int .u32 t.ver,.slice ia t.ins.length ic,.slice oa t.outs.length oc] 27)):=(frN w).alloc _
 have f2:Fr No (w.alloc (.cells #[.int .u32 t.ver,.slice ia t.ins.length ic,.slice oa t.outs.length oc] 27)) ((w.alloc (.cells #[.int .u32 t.ver,.slice ia t.ins.length ic,.slice oa t.outs.length oc] 27)).alloc (.cells #[.slice none 0 0,.slice none 0 0] 201)):=(frN _).alloc _
 have f3:Fr No ((w.alloc (.cells #[.int .u32 t.ver,.slice ia t.ins.length ic,.slice oa t.outs.length oc] 27)).alloc (.cells #[.slice none 0 0,.slice none 0 0] 201)) (((w.alloc (.cells #[.int .u32 t.ver,.slice ia t.ins.length ic,.slice oa t.outs.length oc] 27)).alloc (.cells #[.slice none 0 0,.slice none 0 0] 201)).alloc (.cells #[.slice none 0 0,.slice none 0 0] 201)):=(frN _).alloc _
 have R0:=Hd (za (za (qI w t.ver (.slice ia t.ins.length ic) (.slice oa t.outs.length oc)).2.2.2 f2 _root_.id) f3 _root_.id)
 have B4:=Hd (f3.obj (yU (w.alloc (.cells #[.int .u32 t.ver,.slice ia t.ins.length ic,.slice oa t.outs.length oc] 27)) (.cells #[.slice none 0 0,.slice none 0 0] 201) (n:=w.heap.size+1) (by simp)) _root_.id)
 have B6:=Hd (yU ((w.alloc (.cells #[.int .u32 t.ver,.slice ia t.ins.length ic,.slice oa t.outs.length oc] 27)).alloc (.cells #[.slice none 0 0,.slice none 0 0] 201)) (.cells #[.slice none 0 0,.slice none 0 0] 201) (n:=w.heap.size+1+1) (by simp))
 have Z3:=@Hd ((((w.alloc (.cells #[.int .u32 t.ver,.slice ia t.ins.length ic,.slice oa t.outs.length oc] 27)).alloc (.cells #[.slice none 0 0,.slice none 0 0] 201)).alloc (.cells #[.slice none 0 0,.slice none 0 0] 201)).heap.size=w.heap.size+3) (by simp)
 have F3:=Hd ((f1.trans0 f2).trans0 f3)
 have cp:=Hd (ht.same F3.o.of0)
 have cH:=Hd (jO _ cp.o.now (by omega))
 have bJ:=Hd ht
 have bI:=@Hd (∀w',Fr U w w'→TxQ w' t [.int .u32 t.ver,.slice ia t.ins.length ic,.slice oa t.outs.length oc]) (λw' f=>ht w' f)
 have aq:=Hd bT
 have aN:=Hd bU
 have HS:=Hd hs
 have HG:=Hd hg
 have HF:=Hd c1
 have bB:=Hd c4
 have cZ:=f8.1
 have c0:=f8.2
 have aM:=Hd hN
 have UL:=Hd hs.hi
 have ax:=Hd (jP t)
 clear f1 f2 f3 ht bT bU hs hg hc c1 c2 c3 c4 f8 hN
 show Calls prog 98 #[.pointer (some ⟨p,0,none⟩),.agg #[.int .u32 t.ver,.slice ia t.ins.length ic,.slice oa t.outs.length oc]] w _
 go_enter Tryz.func98,Tryz.ntmps98
 have⟨r,D⟩:=tZ2
 go_wp2_with ((first|((with_reducible refine zt ?_);clear r;refine znT rfl rfl rfl R0.o rfl ?_;generalize (((w.alloc (.cells #[.int .u32 t.ver,.slice ia t.ins.length ic,.slice oa t.outs.length oc] 27)).alloc (.cells #[.slice none 0 0,.slice none 0 0] 201)).alloc (.cells #[.slice none 0 0,.slice none 0 0] 201))=w3 at*)|(clear D;go_at_call 30;refine cH.o.mono ?_;rintro e Z ⟨c7,rfl,o4,f4⟩;have O4:=Hd o4;have F4:=Hd f4;obtain⟨c8,c9,cQ⟩:=o4.slice.arg.form;subst cQ;clear o4 f4));go_frame)
 obtain⟨d,bb⟩:∃q,q=w.heap.size+1+1:=⟨_,rfl⟩
 rw[←bb] at B6⊢
 obtain⟨Y,ba⟩:∃q,q=w.heap.size+1:=⟨_,rfl⟩
 rw[←ba] at B4⊢
 have H:=Hd ba
 have Q6:=@Hd (d=w.heap.size+2) (bb)
 clear ba bb
 have ab:=Hd (F3.o.trans0 F4.o)
 have bW:=Hd (F4.o.obj B4.o _root_.id)
 have aa:=Hd (F4.o.obj B6.o _root_.id)
 have cI:=Hd (za R0.o F4.o _root_.id)
 go_loopw [7,22] (λpv iv wr=>∃n:Nat,iv=.int .i64 n∧n≤t.ins.length∧SpL Z d S t n pv wr) (λ_ iv _=>t.ins.length-(intOf iv).toNat)
 case atStart=>exact⟨0,rfl,Nat.zero_le _,.slice none 0 0,(λq hq=>by simp at hq),World.ownsRow_nil _ _ _ 33,aa.o,World.ownsRow_nil _ _ _ 66,(λj e=>by cases e),Fr.refl _ _⟩
 case round=>
  obtain⟨n,rfl,hn,tv,aC,bh,bP,bj,aD,fr⟩:=hrel
  have FR:=Hd fr
  have aE:=Hd aC
  have ai:=Hd bh
  have aI:=Hd bP
  have aV:=Hd bj
  have bt:=Hd aD
  obtain⟨pa,pc,cP⟩:=bh.slice.arg.form
  subst cP
  obtain⟨u,v,cS⟩:=bj.slice.arg.form
  subst cS
  have FW:=@Hd (Fr No w wr) (ab.o.trans fr (λj a e=>by have:=Q6.o;omega))
  have ah:=Hd (HS.o.fr0 FW.o)
  have aB:=Hd (FW.o.obj aq.o _root_.id)
  have aG:=Hd (fr.obj bW.o (λe=>by have:=H.o;have:=Q6.o;omega))
  have aw:=Hd (za cI.o fr (λe=>by have:=Q6.o;omega))
  clear aC bh bP bj aD fr
  by_cases hlt:n<t.ins.length
  ·have i1:(n:Int)<(t.ins.length:Int):=by omega
   obtain⟨q,E⟩:∃x,(z6 t)[n]? =some x:=⟨_,List.getElem?_eq_getElem (by rw[ax.o];exact hlt)⟩
   have HX:=Hd E
   have aj:=@Hd (q.ok) (by
    obtain⟨x,cU,cV⟩:=mem_map.1 (List.mem_of_getElem? E)
    rw[←cV]
    exact ad.o.1 x cU)
   have o:=Hd (zW aj.o)
   obtain⟨g,cap,hv,hr,-⟩:=yZ (f:=zm) (k:=33) (L:=z6 t) (by decide) (λx E=>by
    obtain⟨y,bf,bg⟩:=mem_map.1 E
    rw[←bg]
    exact zW (ad.o.1 y bf)) (zb O4.o FR.o (λj a e=>by have:=(O4.o.lt j a).1;have:=Q6.o;have:=Z3.o;omega)) E
   cases hv
   have R1:=Hd hr
   have FA:=Hd ((frN wr).alloc (.cells (zm q).toArray 56))
   have RQ:=Hd (zq wr (zm q) 56)
   have QA:=@Hd ((wr.alloc (.cells (zm q).toArray 56)).heap.size=wr.heap.size+1) (by simp)
   have aY:=Hd (qB ah.o.ok q)
   have XL:=Hd (yq aY.o)
   clear E hr
   have⟨r,D⟩:=tZ2
   go_wp2_with ((first|((with_reducible refine zt ?_);clear r;refine znW rfl rfl rfl R1.o o.o ?_)|((with_reducible refine zr ?_);clear D;refine zn5 (w:=wr) (cs:=zm q) rfl rfl rfl rfl o.o yF ?_;generalize wr.alloc (.cells (zm q).toArray 56)=wA at*));go_frame)
   have b8:=@Hd (wA.cell? ⟨p,0,none⟩=some (.pointer (some ⟨s,0,none⟩))) (by have:=zv (FA.o.obj aB.o _root_.id) 0 _ rfl;simpa using this)
   have ck:=Hd (ah.o.fr0 FA.o)
   go_cut [10,11] from 26 to 34 (λcW cX wc=>zma wA (zZ S q) (yV S q) cW cX wc)
   case first=>
    have FD:=Hd (frN wA).drew
    have F:=Hd (FD.o.cell b8.o _root_.id)
    have I:=Hd (za RQ.o FD.o _root_.id)
    have bH:=Hd (ck.o.fr0 FD.o)
    have ZD:=@Hd (wA.drew.heap.size=wA.heap.size) (rfl)
    refine JM 12 [0,1,2,3,4,5,6,7,8,9,10,11] (λw'=>w'.cell? ⟨p,0,none⟩=some (.pointer (some ⟨s,0,none⟩))∧w'.rangeAt wr.heap.size 0 (zm q)) (by kernel_rfl) (by kernel_rfl) (by kernel_rfl) (by kernel_rfl) ?_ (λK hK=>?_)
    ·exact⟨F.o,I.o⟩
    generalize wA.drew=w5 at*
    (((first|(refine yX 0 (by kernel_rfl) rfl rfl ?_;apply Exists.intro;refine⟨?_,?_⟩;(focus(first|exact znZ rfl (λw h=>h.2) o.o|(intro w' hS;obtain⟨N,O⟩:=hS;exact goS))))|(refine yY 0 (by kernel_rfl) rfl rfl ?_));try simp only[Act.put,pA,pB,pC]);((first|(refine yX 1 (by kernel_rfl) rfl rfl ?_;apply Exists.intro;refine⟨?_,?_⟩;(focus(first|exact znZ rfl (λw h=>h.2) o.o|(intro w' hS;obtain⟨N,O⟩:=hS;exact goS))))|(refine yY 1 (by kernel_rfl) rfl rfl ?_));try simp only[Act.put,pA,pB,pC]);((first|(refine yX 2 (by kernel_rfl) rfl rfl ?_;apply Exists.intro;refine⟨?_,?_⟩;(focus(first|exact znZ rfl (λw h=>h.2) o.o|(intro w' hS;obtain⟨N,O⟩:=hS;exact goS))))|(refine yY 2 (by kernel_rfl) rfl rfl ?_));try simp only[Act.put,pA,pB,pC]);((first|(refine yX 3 (by kernel_rfl) rfl rfl ?_;apply Exists.intro;refine⟨?_,?_⟩;(focus(first|exact znZ rfl (λw h=>h.2) o.o|(intro w' hS;obtain⟨N,O⟩:=hS;exact goS))))|(refine yY 3 (by kernel_rfl) rfl rfl ?_));try simp only[Act.put,pA,pB,pC]);((first|(refine yX 4 (by kernel_rfl) rfl rfl ?_;apply Exists.intro;refine⟨?_,?_⟩;(focus(first|exact znZ rfl (λw h=>h.2) o.o|(intro w' hS;obtain⟨N,O⟩:=hS;exact goS))))|(refine yY 4 (by kernel_rfl) rfl rfl ?_));try simp only[Act.put,pA,pB,pC]))
    refine XJ 5 9 (by kernel_rfl) rfl rfl rfl rfl (λK' hK'=>?_) (λK' hK'=>?_)
    ·go_simp
     refine(zgk bH.o aj.o).mono ?_
     rintro e A ⟨rfl,f6⟩
     have F6:=Hd f6
     clear f6
     refine nXt hK' ?_ λhS=>?_
     ·exact⟨F6.o.cell F.o _root_.id,za I.o F6.o _root_.id⟩
     try simp only[Act.put,pA,pB,pC]
     (((first|(refine yX 6 (by kernel_rfl) rfl rfl ?_;apply Exists.intro;refine⟨?_,?_⟩;(focus(first|(intro w' hS;obtain⟨N,O⟩:=hS;exact goS))))|(refine yY 6 (by kernel_rfl) rfl rfl ?_));try simp only[Act.put,pA,pB,pC]);((first|(refine yX 7 (by kernel_rfl) rfl rfl ?_;apply Exists.intro;refine⟨?_,?_⟩;(focus(first|(intro w' hS;obtain⟨N,O⟩:=hS;exact goS))))|(refine yY 7 (by kernel_rfl) rfl rfl ?_));try simp only[Act.put,pA,pB,pC]);((first|(refine yX 8 (by kernel_rfl) rfl rfl ?_;apply Exists.intro;refine⟨?_,?_⟩;(focus(first|(intro w' hS;obtain⟨N,O⟩:=hS;exact goS))))|(refine yY 8 (by kernel_rfl) rfl rfl ?_));try simp only[Act.put,pA,pB,pC]))
     refine xW 9 (by kernel_rfl) rfl rfl (λK' hK'=>?_)
     refine yD (xH rfl (y3 _)) ?_
     have B:=Hd ((frN A).alloc (.cells (zF xN).toArray 58))
     refine nXt hK' ?_ λhS=>?_
     ·exact⟨B.o.cell (F6.o.cell F.o _root_.id) _root_.id,za (za I.o F6.o _root_.id) B.o _root_.id⟩
     try simp only[Act.put,pA,pB,pC]
     refine xW 10 (by kernel_rfl) rfl rfl (λK' hK'=>?_)
     refine xp (zj (w:=A) (ty:=58) (cs:=zF (zZ S q)) rfl rfl rfl (by rw[XL.o];rfl) (by rw[XL.o];exact yW) yd) ?_
     have aK:=Hd ((frN A).alloc (.cells (zF (zZ S q)).toArray 58))
     refine nXt hK' ?_ λhS=>?_
     ·exact⟨aK.o.cell (F6.o.cell F.o _root_.id) _root_.id,za (za I.o F6.o _root_.id) aK.o _root_.id⟩
     try simp only[Act.put,pA,pB,pC]
     (((first|(refine yX 11 (by kernel_rfl) rfl rfl ?_;apply Exists.intro;refine⟨?_,?_⟩;(focus(first|(intro w' hS;obtain⟨N,O⟩:=hS;exact goS))))|(refine yY 11 (by kernel_rfl) rfl rfl ?_));try simp only[Act.put,pA,pB,pC]))
     refine JH (hK.out _ _ ?_)
     go_wp2_with fail
     go_meet
     case rel=>exact⟨A.heap.size,rfl,rfl,by have:=F6.o.size;have:=ZD.o;omega,FD.o.trans0 (F6.o.trans0 aK.o),ye A (.cells (zF (zZ S q)).toArray 58)⟩
    ·refine yD (xH rfl (y3 _)) ?_
     have B:=Hd ((frN w5).alloc (.cells (zF xN).toArray 58))
     have B7:=Hd (ye w5 (.cells (zF xN).toArray 58))
     generalize w5.alloc (.cells (zF xN).toArray 58)=A at*
     generalize bc:w5.heap.size=qo at*
     refine nXt hK' ?_ λhS=>?_
     ·exact⟨B.o.cell F.o _root_.id,za I.o B.o _root_.id⟩
     try simp only[Act.put,pA,pB,pC]
     refine xW 5 (by kernel_rfl) rfl rfl (λK' hK'=>?_)
     go_simp
     refine(zgk (bH.o.fr0 B.o) aj.o).mono ?_
     rintro e w7 ⟨rfl,f7⟩
     have aJ:=Hd (B.o.trans0 f7)
     have bo:=Hd (f7.obj B7.o _root_.id)
     clear f7
     refine nXt hK' ?_ λhS=>?_
     ·exact⟨aJ.o.cell F.o _root_.id,za I.o aJ.o _root_.id⟩
     try simp only[Act.put,pA,pB,pC]
     (((first|(refine yX 6 (by kernel_rfl) rfl rfl ?_;apply Exists.intro;refine⟨?_,?_⟩;(focus(first|(intro w' hS;obtain⟨N,O⟩:=hS;exact goS))))|(refine yY 6 (by kernel_rfl) rfl rfl ?_));try simp only[Act.put,pA,pB,pC]);((first|(refine yX 7 (by kernel_rfl) rfl rfl ?_;apply Exists.intro;refine⟨?_,?_⟩;(focus(first|(intro w' hS;obtain⟨N,O⟩:=hS;exact goS))))|(refine yY 7 (by kernel_rfl) rfl rfl ?_));try simp only[Act.put,pA,pB,pC]);((first|(refine yX 8 (by kernel_rfl) rfl rfl ?_;apply Exists.intro;refine⟨?_,?_⟩;(focus(first|(intro w' hS;obtain⟨N,O⟩:=hS;exact goS))))|(refine yY 8 (by kernel_rfl) rfl rfl ?_));try simp only[Act.put,pA,pB,pC]))
     refine xW 10 (by kernel_rfl) rfl rfl (λK' hK'=>?_)
     refine xp (zU (ty:=58) (b:=qo) (off:=0) (cs:=zF (zZ S q)) rfl rfl rfl (by rw[XL.o];exact yb bo.o (Nat.le_of_eq yQ.symm)) (by rw[XL.o];exact yW) yd) ?_
     have W:=@Hd (Fr No w5 (w7.setCells qo 0 (zF (zZ S q)))) (aJ.o.trans (zy _ _ _ _) (λi hi e=>by omega))
     refine nXt hK' ?_ λhS=>?_
     ·exact⟨W.o.cell F.o _root_.id,za I.o W.o _root_.id⟩
     try simp only[Act.put,pA,pB,pC]
     (((first|(refine yX 11 (by kernel_rfl) rfl rfl ?_;apply Exists.intro;refine⟨?_,?_⟩;(focus(first|(intro w' hS;obtain⟨N,O⟩:=hS;exact goS))))|(refine yY 11 (by kernel_rfl) rfl rfl ?_));try simp only[Act.put,pA,pB,pC]))
     refine JH (hK.out _ _ ?_)
     go_wp2_with fail
     go_meet
     case rel=>exact⟨qo,rfl,rfl,by have:=ZD.o;omega,FD.o.trans0 W.o,zcQ (cs:=zF (zZ S q)) bo.o (by rw[XL.o,yq Qt])⟩
   case rest=>
    rename World=>wc
    obtain⟨qo,rfl,rfl,bc,fc,bQ⟩:=hcut
    have FC:=Hd (FA.o.trans0 fc)
    have RO:=Hd (zv bQ)
    have cN:=Hd (za RQ.o fc _root_.id)
    have bq:=Hd (FC.o.obj aI.o _root_.id)
    have au:=Hd (zb ai.o FC.o (λ_ _=>_root_.id))
    have av:=Hd (zb aV.o FC.o (λ_ _=>_root_.id))
    have cm:=Hd (ah.o.fr0 FC.o)
    have BZ:=Hd (FC.o.obj aG.o _root_.id)
    have QO:=Hd bc
    clear fc bQ bc
    by_cases hq:yV S q=true
    rotate_left
    ·have c5:yV S q=false:=by simpa using hq
     have HE:=@Hd (spE S t=15) (by
      unfold spE
      rw[if_neg]
      intro h
      exact hq (List.all_eq_true.1 h q (List.mem_of_getElem? HX.o)))
     have R6:=Hd (zv bq.o)
     clear hq
     have⟨r,D⟩:=tZ2
     go_wp2_with ((first|((with_reducible refine zt ?_);clear r;refine zg rfl (zX (ty:=201) rfl rfl R6.o uG rG vI) ?_)|((with_reducible refine zr ?_);clear D;refine zi rfl (zU (ty:=201) (b:=Y) (off:=0) (cs:=[.slice u n v,.slice none 0 0]) rfl rfl rfl (yb BZ.o (le_refl 2)) vI (XV rfl rfl)) ?_));go_frame)
     have fE:=zy Y [.slice u n v,.slice none 0 0] 0 wc
     refine bodyPost_ret (yt (P:=prog) (fn:=Tryz.f98) rfl _ rfl (yB BZ.o rfl) uG rG vI rfl) rfl (zgI HE.o (by decide) ((cm.o.frV fE (λj a e=>by have:=UL.o j a;have:=H.o;omega) (λj e=>by have:=HS.o.fr.size;have:=H.o;omega))) ((FW.o.trans0 FC.o).of0.trans fE (λj a e=>by have:=H.o;omega)) _ _ _ _ _ _)
    ·have cr:=@Hd ((JI S t)[n]? =some (zZ S q)) (by simp[JI,HX.o])
     have ct:=@Hd ((j8 S t)[n]? =some ⟨q,zZ S q⟩) (by simp[j8,HX.o])
     have ao:=@Hd ((⟨q,zZ S q⟩:zn).ok) (⟨aj.o,aY.o⟩)
     have CL:=Hd (xI ao.o)
     obtain⟨v5,w5,a1,a2,a3,-,a5⟩:=yA (P:=prog) wc Z.heap.size 22 22 58 33 40 _ qO JG (by rw[←yQ];rfl) (by decide) au.o (zF (zZ S q)) XL.o yd (by omega) (by unfold maxLen;omega) (by have:=FR.o.size;have:=FC.o.size;omega)
     obtain⟨Q,R,bd⟩:=a2.slice.arg.form
     subst bd
     have A1:=Hd a1
     have O5:=@Hd (w5.ownsRow Z.heap.size 58 33 (.slice Q (n+1) R) (n+1) (((JI S t).take (n+1)).flatMap zF)) (by rw[Xf zF cr.o];exact a2)
     have NB:=@Hd (∀j,(Value.slice pa n pc).ownBlock=some j→Z.heap.size≤j∧j<wc.heap.size∧j≠d) (λj a=>⟨(au.o.lt j a).1,(au.o.lt j a).2,λe=>by have:=(au.o.lt j a).1;have:=yr aa.o;omega⟩)
     have NT:=@Hd (∀j,(Value.slice u n v).ownBlock=some j→Z.heap.size≤j∧j<wc.heap.size∧j≠d) (λj a=>⟨(av.o.lt j a).1,(av.o.lt j a).2,λe=>by have:=(av.o.lt j a).1;have:=yr aa.o;omega⟩)
     have F5:=Hd a3
     have bw:=@Hd (Fr (λj=>j=d) Z w5) ((FR.o.trans0 FC.o).trans a3 (λj a e=>by have:=(NB.o j e).1;omega))
     have bm:=Hd (a3.obj bq.o (λe=>(NB.o _ e).2.2 rfl))
     have cD:=Hd (zb av.o a3 (λj a e=>bt.o j e a))
     have cL:=Hd (za RO.o a3 (λe=>by
      have h1:=(ai.o.lt _ e).2
      have:=QO.o
      have:=QA.o
      omega))
     have cM:=Hd (za cN.o a3 (λe=>by
      have h1:wr.heap.size<wr.heap.size:=(ai.o.lt _ e).2
      omega))
     have az:=@Hd (∀j,(Value.slice Q (n+1) R).ownBlock=some j→(Value.slice u n v).ownBlock=some j→False) (λj h1 h2=>(a5 j h1).elim (λh=>bt.o j h h2) (λh=>by have:=(NT.o j h2).2.1;omega))
     clear a1 a2 a3 a5
     obtain⟨v6,A,b1,b2,b3,-,b5⟩:=yA (P:=prog) w5 Z.heap.size 52 52 60 66 80 _ Qc Qs (by show(z7 zc5).toArray.size=66;rfl) (by decide) cD.o (z7 ⟨q,zZ S q⟩) CL.o qi (by omega) (by unfold maxLen;omega) (by have:=bw.o.size;omega)
     obtain⟨al,an,cT⟩:=b2.slice.arg.form
     subst cT
     have B1:=Hd b1
     have O6:=@Hd (A.ownsRow Z.heap.size 60 66 (.slice al (n+1) an) (n+1) (((j8 S t).take (n+1)).flatMap z7)) (by rw[Xf z7 ct.o];exact b2)
     have ca:=@Hd (Fr (λj=>j=d) Z A) (bw.o.trans b3 (λj a e=>by have:=(NT.o j e).1;omega))
     have ae:=Hd (b3.obj bm.o (λe=>(NT.o _ e).2.2 rfl))
     have cy:=Hd (zb O5.o b3 (λj a e=>az.o j a e))
     have bu:=@Hd (∀j,(Value.slice Q (n+1) R).ownBlock=some j→(Value.slice al (n+1) an).ownBlock=some j→False) (λj h1 h2=>(b5 j h2).elim (λh=>az.o j h1 h) (λh=>by have:=(O5.o.lt j h1).2;omega))
     have cv:=@Hd (∀j,(Value.slice al (n+1) an).ownBlock=some j→j≠d) (λj a e=>by have:=(O6.o.lt j a).1;have:=yr aa.o;omega)
     have aR:=@Hd (∀j,(Value.slice Q (n+1) R).ownBlock=some j→j≠d) (λj a e=>by have:=(O5.o.lt j a).1;have:=yr aa.o;omega)
     have cA:w5.cell? ⟨d,0,none⟩=some (.slice u n v):=by have:=zv bm.o 0 _ rfl;simpa using this
     have cB:A.cell? ⟨d,0,none⟩=some (.slice u n v):=by have:=zv ae.o 0 _ rfl;simpa using this
     have fB:=yp (i:=0) ae.o
     have bY:=Hd (heap_setCell_same A d 0 _ _ (.slice al (n+1) an) ae.o)
     have fs:Fr (λj=>j=d) A (A.setCell ⟨d,0,none⟩ (.slice al (n+1) an)):=(Fr.refl (λj=>j=d) A).setCell ⟨d,0,none⟩ (.inr rfl) _
     have FS:=Hd fs
     have bk:=@Hd (∀y∈(z6 t).take (n+1),yV S y=true) (λy hy=>by
      rw[List.take_add_one,HX.o] at hy
      rcases List.mem_append.1 hy with hy|hy
      ·exact aE.o y hy
      ·simp at hy;subst hy;exact hq)
     clear b1 b2 b3 b5 fs
     have⟨r,D,K2,K3,K4,K5,K6,K7⟩:=tZ8
     go_wp2_with (((with_reducible refine zt ?_);first|(clear r;refine zg rfl (zX (ty:=58) rfl rfl RO.o uO rO (by rw[List.toList_toArray,XL.o];exact yW)) ?_)|(clear D;refine zg rfl (zK (t:=22) rfl rfl qO jU (by rw[←yQ];rfl) (by decide) (by decide) XL.o) ?_)|(clear K2;at_builtin;refine zJ rfl rfl rfl rfl A1.o ?_)|(clear K3;refine znW rfl rfl rfl cM.o o.o ?_)|(clear K4;refine zg rfl (zX (ty:=58) rfl rfl cL.o uO rO (by rw[List.toList_toArray,XL.o];exact yW)) ?_)|(clear K5;refine zg rfl (jI (t:=60) (vs:=[(0,.agg (zm q).toArray),(1,.agg (zF (zZ S q)).toArray)]) rfl rfl zcr (zd2 aj.o aY.o) (zco _ _) (by rw[CL.o])) ?_)|(clear K6;refine zg rfl (zK (t:=52) rfl rfl Qc zgn (by show(z7 zc5).toArray.size=66;rfl) (by decide) (by decide) CL.o) ?_)|(clear K7;at_builtin;refine zJ rfl rfl rfl rfl B1.o ?_));go_frame)
     go_roundw
     case rel=>exact⟨n+1,by go_num,by omega,_,bk.o,zb cy.o FS.o (λj a e=>aR.o j a e),bY.o,zb O6.o FS.o (λj a e=>cv.o j a e),bu.o,ca.o.trans FS.o (λ_ _ e=>e)⟩
     case measure=>simp[intOf];omega
  ·have a7:n=t.ins.length:=by omega
   subst a7
   clear hlt hn
   have i1:¬(t.ins.length:Int)<(t.ins.length:Int):=by omega
   have C:=@Hd ((z6 t).all (yV S)=true) (List.all_eq_true.2 (λq hq=>aE.o q (by rw[←ax.o,take_length];exact hq)))
   have cz:=@Hd (wr.ownsRow Z.heap.size 58 33 (.slice pa t.ins.length pc) t.ins.length ((JI S t).flatMap zF)) (by have:=ai.o;rw[←Qw S t,take_length,Qw S t] at this;exact this)
   have bN:=@Hd (wr.ownsRow Z.heap.size 60 66 (.slice u t.ins.length v) t.ins.length ((j8 S t).flatMap z7)) (by have:=aV.o;rw[←JB S t,take_length,JB S t] at this;exact this)
   have cq:=Hd (bJ.o.same FW.o.of0)
   have GR:=Hd (HG.o.keep0 FW.o)
   have cw:=@Hd (xg wr (.slice pa t.ins.length pc) (JI S t)) (⟨zj6 HS.o.ok t,by rw[Qw];exact cz.o.slice.arg⟩)
   have bx:=Hd (Zt GR.o cq.o.now cw.o (by rw[Qw];omega))
   have NT:=@Hd (∀j,(Value.slice u t.ins.length v).ownBlock=some j→Z.heap.size≤j∧j<wr.heap.size) (λj a=>bN.o.lt j a)
   have m:=@Hd (Y<d∧d<Z.heap.size∧w.heap.size<Y) (⟨by have:=H.o;have:=Q6.o;omega,yr aa.o,by have:=H.o;omega⟩)
   clear ai aV aE bJ
   by_cases hfe:Jc t (JI S t)=0
   rotate_left
   ·have HE:=@Hd (spE S t=Jc t (JI S t)) (by unfold spE;rw[if_pos C.o,if_neg hfe])
    have cd:=Hd hfe
    have e0:(Jc t (JI S t)==0)=false:=by simpa using hfe
    have e1:(Jc t (JI S t) !=0)=true:=by simpa using hfe
    clear hfe i1
    have⟨r,D,K2,K3⟩:=tZ4
    go_wp2_with ((first|((with_reducible refine zt ?_);first|(clear r;refine znT rfl rfl rfl aw.o rfl ?_)|(clear K2;refine zg rfl (zX (ty:=201) rfl rfl R6.o uG rG vI) ?_))|(clear D;go_at_call 41;refine bx.o.mono ?_;rintro e w5 ⟨rfl,f5⟩;have F5:=Hd f5;have R6:=Hd (zv (f5.obj aI.o _root_.id));have BZ:=Hd (f5.obj aG.o _root_.id);clear f5)|((with_reducible refine zr ?_);clear K3;refine zi rfl (zU (ty:=201) (b:=Y) (off:=0) (cs:=[.slice u t.ins.length v,.slice none 0 0]) rfl rfl rfl (yb BZ.o (le_refl 2)) vI (XV rfl rfl)) ?_));go_frame)
    have fE:=zy Y [.slice u t.ins.length v,.slice none 0 0] 0 w5
    refine bodyPost_ret (yt (P:=prog) (fn:=Tryz.f98) rfl _ rfl (yB BZ.o rfl) uG rG vI rfl) rfl (zgI HE.o cd.o (((ah.o.fr0 F5.o).frV fE (λj a e=>by have:=UL.o j a;have:=H.o;omega) (λj e=>by have:=HS.o.fr.size;have:=H.o;omega))) ((FW.o.trans0 F5.o).of0.trans fE (λj a e=>by have:=H.o;omega)) _ _ _ _ _ _)
   ·have bA:=Hd hfe
    have e0:(Jc t (JI S t)==0)=true:=by simpa using hfe
    have e1:(Jc t (JI S t) !=0)=false:=by simpa using hfe
    clear hfe i1
    have ar:=Hd (Yw ad.o.2 (by omega))
    have ML:=Hd (zaQ t)
    have b6:=Hd (λ(w':World) (f:Fr No w w')=>Yr (HG.o.keep0 f) (bI.o w' f.of0))
    have⟨r,D,K2,K3⟩:=tZ4
    go_wp2_with ((first|((with_reducible refine zt ?_);first|(clear r;refine znT rfl rfl rfl aw.o rfl ?_)|(clear K2;refine znT rfl rfl rfl cJ.o rfl ?_))|(clear D;go_at_call 41;refine bx.o.mono ?_;rintro e w5 ⟨rfl,f5⟩;have F5:=Hd f5;have cJ:=Hd (za aw.o f5 _root_.id);clear f5)|(clear K3;go_at_call 22;refine(b6.o w5 (FW.o.trans0 F5.o)).mono ?_;rintro e A ⟨mv,rfl,f6,hm⟩;rw[if_pos HF.o] at hm;obtain⟨ma,mc,a6⟩:=hm.slice.arg.form;subst a6;have F6:=Hd f6;have aT:=Hd hm;clear f6 hm));go_frame)
    have G:=Hd ((F5.o.trans0 F6.o).trans0 (frN A).drew)
    have bz:=Hd (FW.o.trans0 G.o)
    have ch:=Hd (ah.o.fr0 G.o)
    have bC:=Hd (G.o.obj aB.o _root_.id)
    have br:=@Hd (A.drew.cell? ⟨p,0,none⟩=some (.pointer (some ⟨s,0,none⟩))) (by have:=zv bC.o 0 _ rfl;simpa using this)
    have aX:=Hd (za aw.o G.o _root_.id)
    have ae:=Hd (G.o.obj aI.o _root_.id)
    have bX:=Hd (G.o.obj aG.o _root_.id)
    have bK:=Hd (zb aT.o (frN A).drew (λ_ _=>_root_.id))
    have cE:=Hd (zb bN.o G.o (λ_ _=>_root_.id))
    have cO:=Hd (bI.o A.drew bz.o.of0)
    refine wrLx [ff,ff,ff,ff,ff,tt,tt] (λw'=>w'.cell? ⟨p,0,none⟩=some (.pointer (some ⟨s,0,none⟩))∧w'.rangeAt w.heap.size 0 [.int .u32 t.ver,.slice ia t.ins.length ic,.slice oa t.outs.length oc]) ?_ (λK hK=>?_)
    ·exact⟨br.o,aX.o⟩
    generalize A.drew=z at*
    repeat((first|(refine zk rfl ?_;constructor;constructor;(focus(first|exact y5 (ty:=27) rfl (λw h=>h.2) uT rT xt|(rintro w' ⟨N,O⟩;exact goS))))|(refine zl rfl ?_));try simp only[Act.put,pA,pB,pC])
    (refine zM rfl (λK' hK'=>?_))
    go_simp
    refine(jO z cO.o (by omega)).mono ?_
    rintro e w7 ⟨qv,rfl,o7,f7⟩
    have B:=Hd f7
    have cG:=@Hd (vw w7 qv (z6 t)) (⟨λx E=>by
     obtain⟨y,bf,bg⟩:=mem_map.1 E
     rw[←bg]
     exact ad.o.1 y bf,by rw[ax.o];exact o7.slice.arg⟩)
    obtain⟨qa,qc,cR⟩:=o7.slice.arg.form
    subst cR
    clear f7 o7
    refine nXt hK' ?_ λhS=>?_
    ·exact⟨B.o.cell br.o _root_.id,za aX.o B.o _root_.id⟩
    try simp only[Act.put,pA,pB,pC]
    repeat((first|(refine zk rfl ?_;constructor;constructor;(focus(first|(rintro w' ⟨N,O⟩;exact goS))))|(refine zl rfl ?_));try simp only[Act.put,pA,pB,pC])
    (refine zM rfl (λK' hK'=>?_))
    go_simp
    have TA:=Hd (zfF bB.o C.o)
    refine(zkt (ch.o.fr0 B.o) cG.o (by rw[ax.o];have:=aM.o;omega)).mono ?_
    rintro e w8 ⟨x8,rfl,-,aZ,f8⟩
    rw[TA.o.2] at aZ
    have cj:=Hd aZ
    have aL:=@Hd (Fr U w w8) ((bz.o.trans0 B.o).of0.trans f8 (λ_ _ e=>e))
    have X:=@Hd (∀j,w.heap.size≤j→¬U j) (λj a e=>by have:=UL.o j e;omega)
    have bD:=Hd (aL.o.obj aq.o aN.o)
    have bs:=@Hd (w8.cell? ⟨p,0,none⟩=some (.pointer (some ⟨s,0,none⟩))) (by have:=zv bD.o 0 _ rfl;simpa using this)
    have bn:=Hd (f8.obj (B.o.obj ae.o _root_.id) (X.o d (by have:=m.o;omega)))
    have bl:=Hd (f8.obj (B.o.obj bX.o _root_.id) (X.o Y (by have:=m.o;omega)))
    have bL:=Hd (zb (zb bK.o B.o (λ_ _=>_root_.id)) f8 (λj a=>X.o j (by have:=(aT.o.lt j a).1;have:=FW.o.size;have:=F5.o.size;omega)))
    have bM:=Hd (zb (zb cE.o B.o (λ_ _=>_root_.id)) f8 (λj a=>X.o j (by have:=(NT.o j a).1;have:=ab.o.size;omega)))
    have cK:=Hd (za (za aX.o B.o _root_.id) f8 (X.o _ (le_refl _)))
    clear aZ f8
    refine nXt hK' ?_ λhS=>?_
    ·exact⟨bs.o,cK.o⟩
    try simp only[Act.put,pA,pB,pC]
    refine zN (hK.out _ _ ?_)
    have b4:=@Hd (vt w8 (.slice ma t.outs.length mc) (yN t)) (⟨ar.o,by rw[ML.o];exact bL.o.slice.arg⟩)
    have TL:=@Hd ((x9 S (z6 t)).length≤S.length) (List.length_filter_le _ _)
    have bO:=Hd (zhu cj.o b4.o (by rw[ML.o];have:=TL.o;have:=aM.o;omega))
    have bR:=bs.o
    by_cases hpe:jD (x9 S (z6 t)) (yN t)=0
    rotate_left
    ·have HE:=@Hd (spE S t=10) (by unfold spE;rw[if_pos C.o,if_pos bA.o,if_neg hpe])
     have j0:(jD (x9 S (z6 t)) (yN t)==0)=false:=by simpa using hpe
     have j1:(jD (x9 S (z6 t)) (yN t) !=0)=true:=by simpa using hpe
     have PS:=@Hd (JQ (x9 S (z6 t)) (yN t)=x9 S (z6 t)) (by unfold JQ;rw[if_neg hpe])
     have PB:=Hd (zfs HS.o.srt C.o bB.o)
     clear hpe
     have r:=tru
     go_wp2_with (clear r;go_at_call 99;refine bO.o.mono ?_;rintro e w9 ⟨rfl,M,f9⟩;rw[PS.o] at M;have aP:=Hd M;have W:=Hd f9;clear M f9;go_frame)
     clear bR
     have FD:=Hd (frN w9).drew
     have ag:=@Hd (Fr U w w9.drew) ((aL.o.trans W.o (λ_ _ e=>e)).trans0 FD.o)
     have bE:=Hd (ag.o.obj aq.o aN.o)
     have b7:=@Hd (w9.drew.cell? ⟨p,0,none⟩=some (.pointer (some ⟨s,0,none⟩))) (by have:=zv bE.o 0 _ rfl;simpa using this)
     have af:=Hd (FD.o.obj (W.o.obj bn.o (X.o d (by have:=m.o;omega))) _root_.id)
     have aF:=Hd (FD.o.obj (W.o.obj bl.o (X.o Y (by have:=m.o;omega))) _root_.id)
     have b0:=@Hd (w9.drew.cell? ⟨d,0,none⟩=some (.slice u t.ins.length v)) (by have:=zv af.o 0 _ rfl;simpa using this)
     have aU:=Hd (zb (zb bM.o W.o (λj a=>X.o j (by have:=(NT.o j a).1;have:=ab.o.size;omega))) FD.o (λ_ _=>_root_.id))
     have bG:=Hd (aP.o.fr0 FD.o)
     refine wrLx [ff,ff,ff,ff,ff,ff,tt] (λw'=>w'.cell? ⟨p,0,none⟩=some (.pointer (some ⟨s,0,none⟩))∧w'.cell? ⟨d,0,none⟩=some (.slice u t.ins.length v)) ?_ (λK hK=>?_)
     ·exact⟨b7.o,b0.o⟩
     generalize w9.drew=z9 at*
     repeat((first|(refine zk rfl ?_;constructor;constructor;(focus(first|(rintro w' ⟨N,O⟩;exact goS))))|(refine zl rfl ?_));try simp only[Act.put,pA,pB,pC])
     (refine zM rfl (λK' hK'=>?_))
     go_simp
     refine(zhu (l:=j8 S t) bG.o ⟨zfH HS.o.ok ad.o.1,by rw[JB];exact aU.o.slice.arg⟩ (by rw[JB];have:=TL.o;have:=aM.o;omega)).mono ?_
     rintro e bV ⟨rfl,ak,ay⟩
     rw[PB.o.2] at ak
     have bF:=Hd ak
     have aA:=@Hd (Fr U w bV) (ag.o.trans ay (λ_ _ e=>e))
     have bZ:=Hd (ay.obj af.o (X.o d (by have:=m.o;omega)))
     have BZ:=Hd (ay.obj aF.o (X.o Y (by have:=m.o;omega)))
     have R6:=Hd (zv bZ.o)
     clear ak ay
     refine nXt hK' ?_ λhS=>?_
     ·exact⟨by have:=zv (aA.o.obj aq.o aN.o) 0 _ rfl;simpa using this,by have:=R6.o 0 _ rfl;simpa using this⟩
     try simp only[Act.put,pA,pB,pC]
     refine zN (hK.out _ _ ?_)
     have⟨r,D⟩:=tZ2
     go_wp2_with ((first|((with_reducible refine zt ?_);clear r;refine zg rfl (zX (ty:=201) rfl rfl R6.o uG rG vI) ?_)|((with_reducible refine zr ?_);clear D;refine zi rfl (zU (ty:=201) (b:=Y) (off:=0) (cs:=[.slice u t.ins.length v,.slice none 0 0]) rfl rfl rfl (yb BZ.o (le_refl 2)) vI (XV rfl rfl)) ?_));go_frame)
     have fE:=zy Y [.slice u t.ins.length v,.slice none 0 0] 0 bV
     refine bodyPost_ret (yt (P:=prog) (fn:=Tryz.f98) rfl _ rfl (yB BZ.o rfl) uG rG vI rfl) rfl (zgI HE.o (by decide) (bF.o.frV fE (λj a e=>by have:=UL.o j a;have:=H.o;omega) (λj e=>by have:=HS.o.fr.size;have:=H.o;omega)) (aA.o.trans fE (λj a e=>by have:=H.o;omega)) _ _ _ _ _ _)
    ·have cY:=Hd hpe
     have HE:=@Hd (spE S t=0) (by unfold spE;rw[if_pos C.o,if_pos bA.o,if_pos hpe])
     have j0:(jD (x9 S (z6 t)) (yN t)==0)=true:=by simpa using hpe
     have j1:(jD (x9 S (z6 t)) (yN t) !=0)=false:=by simpa using hpe
     have PS:=@Hd (JQ (x9 S (z6 t)) (yN t)=spS S t) (by unfold JQ spS;rw[if_pos hpe,if_pos HE.o])
     clear hpe
     have r:=tru
     go_wp2_with (clear r;go_at_call 99;refine bO.o.mono ?_;rintro e w9 ⟨rfl,M,f9⟩;rw[PS.o] at M;have aP:=Hd M;have W:=Hd f9;clear M f9;go_frame)
     clear bR
     have ag:=@Hd (Fr U w w9) (aL.o.trans W.o (λ_ _ e=>e))
     have af:=Hd (W.o.obj bn.o (X.o d (by have:=m.o;omega)))
     have aF:=Hd (W.o.obj bl.o (X.o Y (by have:=m.o;omega)))
     have aU:=Hd (zb bM.o W.o (λj a=>X.o j (by have:=(NT.o j a).1;have:=ab.o.size;omega)))
     have NM:=@Hd (∀j,(Value.slice ma t.outs.length mc).ownBlock=some j→Z.heap.size≤j) (λj a=>by have:=(aT.o.lt j a).1;have:=FR.o.size;have:=F5.o.size;omega)
     have cx:=Hd (zb bL.o W.o (λj a=>X.o j (by have:=NM.o j a;have:=ab.o.size;omega)))
     have aQ:=Hd (yr af.o)
     go_loopw [91] (λiv wq=>∃(n:Nat) (mv:Value),iv=.int .i64 n∧n≤t.outs.length∧wq.heap[d]? =some (.cells #[.slice u t.ins.length v,mv] 201 (0,0))∧wq.ownsRow w9.heap.size 56 33 mv n ((((yN t).map (·.at_)).take n).flatMap zm)∧Fr (λj=>j=d) w9 wq) (λiv _=>t.outs.length-(intOf iv).toNat)
     case atStart=>exact⟨0,.slice none 0 0,rfl,Nat.zero_le _,af.o,World.ownsRow_nil _ _ _ 33,Fr.refl _ _⟩
     case round=>
      obtain⟨n,c6,rfl,hn,bS,a8,fr⟩:=hrel
      rename World=>wq
      have FQ:=Hd fr
      have BQ:=Hd bS
      have OR:=Hd a8
      obtain⟨na,nc,a6⟩:=a8.slice.arg.form
      subst a6
      clear fr bS a8
      by_cases hlt:n<t.outs.length
      ·have i1:(n:Int)<(t.outs.length:Int):=by omega
       obtain⟨c,E⟩:∃x,(yN t)[n]? =some x:=⟨_,List.getElem?_eq_getElem (by rw[ML.o];exact hlt)⟩
       have ao:=Hd (ar.o c (List.mem_of_getElem? E))
       have CL:=Hd (xI ao.o)
       have aW:=Hd (zW ao.o.1)
       obtain⟨g,cap,hv,hr,-⟩:=yZ (f:=z7) (k:=66) (L:=yN t) (by decide) (λx E=>xI (ar.o x E)) (zb cx.o FQ.o (λj a e=>by have:=NM.o j a;have:=m.o;omega)) E
       cases hv
       have R1:=Hd hr
       have FB:=Hd ((frN wq).alloc (.cells (z7 c).toArray 60))
       have RP:=Hd (JF (zq wq (z7 c) 60))
       have cf:=@Hd (((yN t).map (·.at_))[n]? =some c.at_) (by simp[E])
       have bp:=Hd (FB.o.obj BQ.o _root_.id)
       obtain⟨v5,T,a1,a2,a3,a4,a5⟩:=yA (P:=prog) (wq.alloc (.cells (z7 c).toArray 60)) w9.heap.size 72 72 56 33 36 _ JX Y3 (by show(zm vi).toArray.size=33;rfl) (by decide) (zb OR.o FB.o (λ_ _=>_root_.id)) (zm c.at_) aW.o yF (by omega) (by unfold maxLen;omega) (Nat.le_trans FQ.o.size FB.o.size)
       have A1:=Hd a1
       have aS:=@Hd (T.ownsRow w9.heap.size 56 33 v5 (n+1) ((((yN t).map (·.at_)).take (n+1)).flatMap zm)) (by rw[Xf zm cf.o];exact a2)
       have cu:=@Hd (∀j,(Value.slice na n nc).ownBlock=some j→j≠d) (λj a e=>by have:=(OR.o.lt j a).1;have:=aQ.o;omega)
       have aR:=@Hd (∀j,v5.ownBlock=some j→j≠d) (λj a e=>by have:=(aS.o.lt j a).1;have:=aQ.o;omega)
       have aH:=Hd (a3.obj bp.o (λe=>cu.o _ e rfl))
       have b9:=@Hd (Fr (λj=>j=d) w9 T) ((FQ.o.trans0 FB.o).trans a3 (λj a e=>by have:=(OR.o.lt j e).1;omega))
       have cA:(wq.alloc (.cells (z7 c).toArray 60)).cell? ⟨d,1,none⟩=some (.slice na n nc):=by have:=zv bp.o 1 _ rfl;simpa using this
       have cB:T.cell? ⟨d,1,none⟩=some (.slice na n nc):=by have:=zv aH.o 1 _ rfl;simpa using this
       have fB:=yp (i:=1) aH.o
       clear hr a1 a2 a3 a4 a5
       obtain⟨Q,R,bd⟩:=aS.o.slice.arg.form
       subst bd
       have cg:=Hd (heap_setCell_same T d 1 _ _ (.slice Q (n+1) R) aH.o)
       have fs:Fr (λj=>j=d) T (T.setCell ⟨d,1,none⟩ (.slice Q (n+1) R)):=(Fr.refl (λj=>j=d) T).setCell ⟨d,1,none⟩ (.inr rfl) _
       have cb:=Hd (b9.o.trans fs (λ_ _ e=>e))
       have cC:=Hd (zb aS.o fs (λj a e=>aR.o j a e))
       clear fs
       have⟨r,D,K2,K3,K4⟩:=tZ5
       go_wp2_with ((first|((with_reducible refine zt ?_);first|(clear r;refine znY rfl rfl rfl R1.o CL.o ?_)|(clear K2;refine znW rfl rfl rfl RP.o aW.o ?_)|(clear K3;refine zg rfl (zK (t:=72) rfl rfl JX XG rfl (by decide) (by decide) aW.o) ?_)|(clear K4;at_builtin;refine zJ rfl rfl rfl rfl A1.o ?_))|((with_reducible refine zr ?_);clear D;refine zn4 (w:=wq) (cs:=z7 c) rfl rfl rfl rfl CL.o qi ?_;generalize wq.alloc (.cells (z7 c).toArray 60)=wA at*));go_frame)
       go_roundw
       case rel=>exact⟨n+1,_,by go_num,by omega,cg.o,cC.o,cb.o⟩
       case measure=>simp[intOf];omega
      ·have a7:n=t.outs.length:=by omega
       subst a7
       clear hlt hn
       have i1:¬(t.outs.length:Int)<(t.outs.length:Int):=by omega
       have aO:=@Hd (wq.ownsRow w9.heap.size 56 33 (.slice na t.outs.length nc) t.outs.length (((yN t).map (·.at_)).flatMap zm)) (by
        have:=OR.o
        rw[List.take_of_length_le (by rw[length_map,ML.o];exact le_refl _)] at this
        exact this)
       have R6:=Hd (zv BQ.o)
       have BZ:=Hd (FQ.o.obj aF.o (λe=>by have:=m.o;omega))
       have cF:=Hd (zb aU.o FQ.o (λj a e=>by have:=(NT.o j a).1;have:=m.o;omega))
       have cn:=Hd (aP.o.frV FQ.o (λj a e=>by have:=UL.o j a;have:=m.o;omega) (λj e=>by have:=HS.o.fr.size;have:=m.o;omega))
       have cc:=@Hd (Fr U w wq) (ag.o.trans FQ.o (λj a e=>by have:=m.o;omega))
       have⟨r,D⟩:=tZ2
       go_wp2_with ((first|((with_reducible refine zt ?_);clear r;refine zg rfl (zX (ty:=201) rfl rfl R6.o uG rG vI) ?_)|((with_reducible refine zr ?_);clear D;refine zi rfl (zU (ty:=201) (b:=Y) (off:=0) (cs:=[.slice u t.ins.length v,.slice na t.outs.length nc]) rfl rfl rfl (yb BZ.o (le_refl 2)) vI (XV rfl rfl)) ?_));go_frame)
       have fE:=zy Y [.slice u t.ins.length v,.slice na t.outs.length nc] 0 wq
       have FE:=Hd fE
       refine bodyPost_ret (yt (P:=prog) (fn:=Tryz.f98) rfl _ rfl (yB BZ.o rfl) uG rG vI rfl) rfl ⟨u,t.ins.length,v,na,t.outs.length,nc,by rw[HE.o];rfl,cn.o.frV fE (λj a e=>by have:=UL.o j a;have:=H.o;omega) (λj e=>by have:=HS.o.fr.size;have:=H.o;omega),cc.o.trans fE (λj a e=>by have:=H.o;omega),λ_ V hV w' f=>?_⟩
       have k1:=zgq (l:=j8 S t) (V:=V) (by rw[JB];exact zb cF.o FE.o (λj a e=>by have:=(NT.o j a).1;have:=m.o;omega)) (zfH HS.o.ok ad.o.1) (λj a e=>by have:=hV j e;have:=(NT.o j a).1;have:=ab.o.size;omega) w' f
       have k2:=za6 (l:=(yN t).map (·.at_)) (V:=V) (by rw[length_map,ML.o];exact zb aO.o FE.o (λj a e=>by have:=(aO.o.lt j a).1;have:=aQ.o;have:=m.o;omega)) (λx E=>by
        obtain⟨y,hy,rfl⟩:=mem_map.1 E
        exact(ar.o y hy).1) (λj a e=>by have:=hV j e;have:=(aO.o.lt j a).1;have:=ag.o.size;omega) w' f
       refine⟨u,v,na,nc,?_,(by show vt w' (.slice u (j8 S t).length v) (j8 S t);rw[JB];exact k1),(by show vw w' (.slice na ((yN t).map (·.at_)).length nc) ((yN t).map (·.at_));rw[length_map,ML.o];exact k2)⟩
       show _=[Value.slice u (j8 S t).length v,Value.slice na ((yN t).map (·.at_)).length nc]
       rw[JB,length_map,ML.o]
end Go.Proofs.YtbcllfjmabiafaaGreatDoor
