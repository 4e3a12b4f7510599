/- stem: pays. -/
import Derived.Test.YtdkkjchclkjleaaGreatDoorSC10
import Derived.Test.YtdkkjchclkjleaaGreatDoorSC8
import Derived.Test.YtdkkjchclkjleaaGreatDoorSC3
import Derived.Test.YtdkkjchclkjleaaGreatDoorSC9
import Derived.Test.YtdkkjchclkjleaaGreatDoorSC5
import Derived.Test.YtdkkjchclkjleaaGreatDoorSC4
set_option linter.unusedVariables false
set_option linter.unusedSimpArgs false
set_option linter.unnecessarySimpa false
set_option linter.all false
set_option maxRecDepth 20000
set_option maxHeartbeats 16000000
namespace Go.Proofs.YtdkkjchclkjleaaGreatDoor
open Go Go.RowKit Go.Maps Go.MapKept
open Go.Proofs.Tryz(prog)
open List(mem_map getElem?_eq_getElem mem_append mem_of_getElem? length_append length_map take_add_one mem_singleton take_length length_cons filter_append mem_flatMap any_eq_true)
open Nat(le_refl zero_le le_trans zero_add lt_of_lt_of_le add_comm)
def ze9 (S:List zr) (L:List yb) (l:List StE) (t:TxD) (n:Nat):List yE:=((zW t).take n).map λq=>(ZV S L l q).getD y6
theorem zic {S:List zr} {L:List yb} {l:List StE} {t:TxD} {n:Nat} {q:zF} (h:(zW t)[n]? =some q):(ze9 S L l t (n+1)).flatMap zJ=(ze9 S L l t n).flatMap zJ++zJ ((ZV S L l q).getD y6):=by
 unfold ze9
 rw[take_add_one,h]
 simp
theorem zjZ (S:List zr) (L:List yb) (l:List StE) (t:TxD):ze9 S L l t t.ins.length=jw S L l t:=by
 unfold ze9 jw
 rw[←vJ,take_length]
section
variable {w0 w w0p w0c:World} {ps ma ms pp mp mq g N pc:Nat} {R:Nat→Value} {X Y VG VC:Nat→Prop} {C:Nat→zd→List Value} {CP:zd→List Value} {Q:StQ} {L:List yb} {S:List zr} {bs:List yx} {I:List zd}
theorem zk6 {n:Nat} (l:n<65) {q:zF} (o:q.ok) {M:List ((Int×zF)×zd)} (s:∀x∈yV (Q n),zX x) (p:Ym w ms M) (m:∀k x,(k,x)∈M↔∃i:Nat,i<65∧k.1=(i:Int)∧∃e∈Q i,k.2∈zW e.tx∧e.id=x):
  ∃y,zX y∧∀w',Ym w' ms M→(Instr.lookup 114 (.map (some ms)) (.agg (spC (n,q)).toArray) true).run prog w'=.ok (.tuple #[.agg (zf y).toArray,.bool (J9 (Q n) q)]) w':=by
 cases hs:J9 (Q n) q with
 |true=>
  obtain⟨e,f,b⟩:=YT.1 hs
  have c:(((n:Int),q),e.id)∈M:=(m _ _).2 ⟨n,l,rfl,e,f,b,rfl⟩
  refine⟨e.id,s _ (mem_map.2 ⟨e,f,rfl⟩),λw' a=>?_⟩
  have h:=a.look zkT.keyed VR (λ_ _=>zbf) yR (za6 (k:=((n:Int),q)) (zak l) o) true (r:=some e.id) (λv=>⟨λj=>by rw[←Option.some.inj j];exact c,λa=>by rw[p.uniq c a]⟩)
  unfold spV at h
  rw[h]
  rfl
 |false=>
  refine⟨yO,xO,λw' a=>?_⟩
  have h:=a.look zkT.keyed VR (λ_ _=>zbf) yR (za6 (k:=((n:Int),q)) (zak l) o) true (r:=none) (λv=>⟨λj=>(by cases j),λa=>by
   obtain⟨i,hi,d,e,f,b,_⟩:=(m _ _).1 a
   have:i=n:=by have d:(n:Int)=(i:Int):=d;omega
   subst this
   rw[YT.2 ⟨e,f,b⟩] at hs
   cases hs⟩)
  unfold spV at h
  rw[h]
  rfl
def ziM (w:World) (S:List zr) (L:List yb) (l:List StE) (t:TxD) (e:Ending) (w':World):Prop:=e=.returned (.int .i64 (Y9 S L l t))∧Fr No w w'
theorem zmO (hg:vj w) (h:yM w0 w ps ma ms R X C Q) (hp:yn w0p w pp mp mq g VG Y CP L N) (hc:Cn w0c w pc VC S bs I) (hS:∀c∈S,c.ok) {n:Nat} (hn:n<65) {t:TxD} {cs:List Value} (ht:TxQ w t cs) (ae:yF t=0):
  Calls prog 40 #[.pointer (some ⟨ps,0,none⟩),.pointer (some ⟨pc,0,none⟩),.pointer (some ⟨pp,0,none⟩),.int .i64 n,.agg cs.toArray] w (ziM w S L (Q n) t):=by
 obtain⟨dP,uP,rP⟩:=zhz
 have zo:=xm
 have zp:=vO
 have zh:=yR
 have bm:(n:Int)<65:=by omega
 have i0:(0:Int)≤(n:Int):=by omega
 have FM:=J (JM ae).1
 have H:=@J (t.ins.length≤8) ((y5.1 FM.o).2.1)
 have s:=J (vJ t)
 have ad:=@J (∀q∈zW t,q.ok) (λq E=>by obtain⟨x,z,rfl⟩:=mem_map.1 E;exact ht.oks.1 x z)
 have HT:=J ht
 have HG:=J hg
 obtain⟨ia,ic,oa,oc,rfl⟩:=ht.form
 have F1:=J ((frN w).alloc (.cells #[.int .u32 t.ver,.slice ia t.ins.length ic,.slice oa t.outs.length oc] 34))
 have R0:=J (qN w t.ver (.slice ia t.ins.length ic) (.slice oa t.outs.length oc)).2.2.2
 have HP:=J (vY _ (ht.keep F1.o) (by have:=H.o;omega))
 have aS:=J (λw' (f:Fr No w w') (q:zF) (E:q.ok)=>zg7 (hp.fr0 f) E)
 have aP:=J (λw' (f:Fr No w w') (q:zF) (E:q.ok)=>znO (h.fr0 f) (hp.fr0 f) (hc.fr0 f) hS hn E)
 have ar:=J (λq=>zla h hp hS hn q)
 obtain⟨M,hM,hm⟩:=h.sm
 have aU:=J (λ(q:zF) (E:q.ok)=>zk6 hn E (h.idok n) hM hm)
 have HM:=J (λw' (f:Fr No w w')=>hM.keep f id)
 have CM:=J (λw' (f:Fr No w w')=>(h.fr0 f).cells.2.1)
 obtain⟨iK,aC,hz,aG,aA⟩:=info_parts Jz
 have MK:=J (λ(w3:World)=>run_makeSlice_full (P:=prog) (w:=w3) w3.heap.size 22 103 iK _ 33 qO aC hz aG .i64 .i64 t.ins.length (by have:=H.o;omega) (by rw[aA];have:=H.o;omega) (by unfold maxLen;have:=H.o;omega) (le_refl _))
 clear h hp hc ht hS hg hn hM hm aC hz aG aA ae
 show Calls prog 40 #[.pointer (some ⟨ps,0,none⟩),.pointer (some ⟨pc,0,none⟩),.pointer (some ⟨pp,0,none⟩),.int .i64 n,.agg #[.int .u32 t.ver,.slice ia t.ins.length ic,.slice oa t.outs.length oc]] w _
 go_enter Tryz.func40,Tryz.ntmps40
 have⟨a,d⟩:=tZ2
 go_wp2_with ((first|((with_reducible refine zt ?_);clear a;refine zn1 rfl rfl rfl R0.o rfl ?_;generalize bk:w.heap.size=q0 at*;generalize bf:w.alloc (.cells #[.int .u32 t.ver,.slice ia t.ins.length ic,.slice oa t.outs.length oc] 34)=wa at*;clear bf)|(clear d;go_at_call 33;refine HP.o.mono ?_;rintro e w2 ⟨v,rfl,ho,f2⟩;obtain⟨va,vc,hv⟩:=ho.slice.arg.form;subst hv;have F2:=J (F1.o.trans0 f2);have O2:=J ho;have ax:=J (za R0.o f2 id);clear ho f2));go_frame)
 have aQ:=@J (xN w2 (.slice va t.ins.length vc) (zW t)) (⟨ad.o,by rw[s.o];exact O2.o.slice.arg⟩)
 have Z2:=@J (q0<w2.heap.size) (by have Z:=jH ax.o (by simp);exact Z)
 have inl:=H.o
 go_loopw [29] (λiv wr=>∃k:Nat,iv=.int .i64 k∧k≤t.ins.length∧(∀q∈(zW t).take k,(J9 (Q n) q||qf L q)=false)∧Fr No w2 wr) (λiv _=>t.ins.length-(intOf iv).toNat)
 case atStart=>exact⟨0,rfl,zero_le _,by simp,Fr.refl _ _⟩
 case round=>
  obtain⟨k,rfl,hk,T,fr⟩:=hrel
  have FR:=J fr
  have AL:=J T
  clear fr T
  by_cases hlt:k<t.ins.length
  ·have i1:(k:Int)<(t.ins.length:Int):=by omega
   obtain⟨q,z⟩:∃q,(zW t)[k]? =some q:=⟨_,getElem?_eq_getElem (by rw[s.o];exact hlt)⟩
   have HX:=J z
   have m:=J (ad.o q (mem_of_getElem? z))
   obtain⟨b,off,a8,e,hr,-⟩:=(aQ.o.keep FR.o).at_ z
   injection e with e1 e2 e3
   subst e1
   have R1:=J hr
   have u:=J (zY m.o)
   have RN:=J (zy wr (zn q) 95)
   have FA:=J ((frN wr).alloc (.cells (zn q).toArray 95))
   have aL:=J (F2.o.trans0 (FR.o.trans0 FA.o))
   obtain⟨y,p,aD⟩:=aU.o q m.o
   have LK:=J aD
   have YL:=J (zx p)
   have a7:=J (zbe (k:=((n:Int),q)) m.o)
   clear hr z e2 e3 aD
   have⟨a,d⟩:=tZ2
   go_wp2_with ((first|((with_reducible refine zt ?_);clear a;refine zn4 rfl rfl rfl R1.o u.o ?_)|((with_reducible refine zv ?_);clear d;refine zi rfl (zm (w:=wr) (cs:=zn q) (ty:=95) rfl rfl rfl (by rw[u.o];rfl) (by rw[u.o];exact xL) yI) ?_));go_frame)
   generalize bl:wr.heap.size=qx at*
   generalize bh:wr.alloc (.cells (zn q).toArray 95)=wn at*
   clear bh
   have FD:=J (aL.o.drew)
   have RD:=J (za RN.o (frN wn).drew id)
   have ai:=J (HM.o _ FD.o)
   have ag:=J (CM.o _ FD.o)
   have aK:=J ((FR.o.trans0 FA.o).drew)
   refine wrLx [ff,ff,ff,ff,ff,ff,ff,ff,ff,ff,ff,tt,tt,ff] (λw'=>w'.cell? ⟨ps,66,none⟩=some (.map (some ms))∧w'.rangeAt qx 0 (zn q)∧Ym w' ms M) ?_ (λK hK=>?_)
   ·exact⟨ag.o,RD.o,ai.o⟩
   generalize wn.drew=wd at*
   repeat((first|(refine zj rfl ?_;constructor;constructor;(focus(first|exact zn6 rfl (λw h=>h.2.1) u.o|exact λw' _=>yP (t:=118) rfl rfl zbX (zdA _ m.o) (zbT _ _) a7.o|exact λw' h=>zQ (t:=114) rfl rfl rfl (LK.o w' h.2.2)|(rintro w' ⟨s1,s2,s3⟩;go_simp;(try with_reducible rfl);done))))|(refine zl rfl ?_));try simp only[Act.put,pA,pB,pC])
   (refine zE rfl (λK' hK'=>?_))
   refine yj (yA rfl (yR _)) ?_
   refine nXt hK' ?_ λhS=>?_
   ·exact⟨((frN wd).alloc _).cell ag.o id,za RD.o ((frN wd).alloc _) id,ai.o.keep ((frN wd).alloc _) id⟩
   try simp only[Act.put,pA,pB,pC]
   (refine zE rfl (λK' hK'=>?_))
   refine yN (zm (w:=wd) (ty:=41) (cs:=zf y) rfl rfl rfl (by rw[YL.o];rfl) (by rw[YL.o];exact yp) zS) ?_
   refine nXt hK' ?_ λhS=>?_
   ·exact⟨((frN wd).alloc _).cell ag.o id,za RD.o ((frN wd).alloc _) id,ai.o.keep ((frN wd).alloc _) id⟩
   try simp only[Act.put]
   repeat((first|(refine zj rfl ?_;constructor;constructor;(focus(first|(rintro w' -;go_simp;(try with_reducible rfl);done))))|(refine zl rfl ?_));try simp only[Act.put,pA,pB,pC])
   refine zL (hK.out _ _ ?_)
   have FE:=J (aK.o.alloc (.cells (zf y).toArray 41))
   have RE:=J (za RD.o ((frN wd).alloc (.cells (zf y).toArray 41)) id)
   generalize wd.alloc (.cells (zf y).toArray 41)=we at*
   have ab:=J (aS.o we (F2.o.trans0 FE.o) q m.o)
   by_cases hs:(J9 (Q n) q||qf L q)=true
   ·have V:=@J (Y9 S L (Q n) t=14) (by
     unfold Y9
     rw[if_pos (any_eq_true.2 ⟨q,mem_of_getElem? HX.o,hs⟩)])
    cases hs1:J9 (Q n) q with
    |true=>
     clear hs hs1
     go_wp2_with fail
     go_ret
     exact⟨by rw[V.o];rfl,F2.o.trans0 FE.o⟩
    |false=>
     rw[hs1,Bool.false_or] at hs
     rw[hs] at ab
     clear hs hs1
     have⟨a,d⟩:=tZ2
     go_wp2_with ((first|((with_reducible refine zt ?_);clear a;refine qz rfl (zZ (ty:=95) rfl rfl RE.o uP rP (by rw[u.o];exact xL)) ?_)|(clear d;go_at_call 75;refine ab.o.mono ?_;rintro e w4 ⟨rfl,f4⟩;have F4:=J f4;clear f4));go_frame)
     go_ret
     exact⟨by rw[V.o];rfl,(F2.o.trans0 FE.o).trans0 F4.o⟩
   ·have D:(J9 (Q n) q||qf L q)=false:=by simpa using hs
    have af:=@J (∀q∈(zW t).take (k+1),(J9 (Q n) q||qf L q)=false) (λy p=>by
     rw[take_add_one,HX.o] at p
     rcases mem_append.1 p with p|p
     ·exact AL.o y p
     ·simp at p;subst p;exact D)
    obtain⟨a1,a2⟩:=Bool.or_eq_false_iff.1 D
    rw[a1]
    rw[a2] at ab
    clear hs D a1 a2
    have⟨a,d⟩:=tZ2
    go_wp2_with ((first|((with_reducible refine zt ?_);clear a;refine qz rfl (zZ (ty:=95) rfl rfl RE.o uP rP (by rw[u.o];exact xL)) ?_)|(clear d;go_at_call 75;refine ab.o.mono ?_;rintro e w4 ⟨rfl,f4⟩;have F4:=J f4;clear f4));go_frame)
    go_roundw
    case rel=>exact⟨k+1,by go_num,by omega,af.o,FE.o.trans0 F4.o⟩
    case measure=>simp[intOf];omega
  ·have B:k=t.ins.length:=by omega
   have i1:¬(k:Int)<(t.ins.length:Int):=by omega
   have aM:=@J (¬(zW t).any (λq=>J9 (Q n) q||qf L q)=true) (by
    simp only[any_eq_true,not_exists,not_and]
    intro q E
    rw[AL.o q (by rw[B,←s.o,take_length];exact E)]
    decide)
   have au:=@J (Y9 S L (Q n) t=if(zW t).all (λq=>(ZV S L (Q n) q).isSome)=true then(if vz t (jw S L (Q n) t)≠0 then vz t (jw S L (Q n) t) else if j7 t (jw S L (Q n) t)<jF (qR t) then 17 else 0) else 15) (by unfold Y9;rw[if_neg aM.o])
   have aJ:=J (F2.o.trans0 FR.o)
   have aZ:=J (za ax.o FR.o id)
   have ZR:=@J (q0<wr.heap.size) (by have:=FR.o.size;have:=Z2.o;omega)
   clear B AL hlt hk
   generalize wr=ws at*
   obtain⟨w4,bb,aE,aB⟩:=MK.o ws
   have az:Fr No ws w4:=Fr.of_grown aB (λk e=>by cases e)
   have ah:=J az
   have aN:=J aE
   clear aB aE az
   go_wp2_with fail
   clear bb
   have aI:=J (aJ.o.trans0 ah.o)
   have aY:=J (za aZ.o ah.o id)
   generalize bj:ws.heap.size=gg at*
   have GN:=@J (∀j,(Value.slice va t.ins.length vc).ownBlock=some j→j≠gg) (λj hj e=>by
    have Z:=(O2.o.lt j hj).2
    have h2:=FR.o.size
    omega)
   go_loopw [56] (λiv A=>∃(k:Nat) (xs:List Value),iv=.int .i64 k∧k≤t.ins.length∧(∀q∈(zW t).take k,(ZV S L (Q n) q).isSome=true)∧A.ownsRow gg 103 33 (.slice (some ⟨gg,0,none⟩) t.ins.length t.ins.length) t.ins.length xs∧xs.take (k*33)=(ze9 S L (Q n) t k).flatMap zJ∧Fr (λj=>j=gg) w4 A) (λiv _=>t.ins.length-(intOf iv).toNat)
   case atStart=>exact⟨0,_,rfl,zero_le _,by simp,aN.o,by simp[ze9],Fr.refl _ _⟩
   case round=>
    obtain⟨k,xs,rfl,hk,T,aF,aH,fr⟩:=hrel
    rename World=>A
    have FQ:=J fr
    have AL:=J T
    have aa:=J aF
    have aq:=J aH
    have r:=@J (Fr No w A) (aI.o.trans fr (λi hi e=>by have:=ZR.o;omega))
    have aR:=@J (xN A (.slice va t.ins.length vc) (zW t)) (⟨ad.o,by
     have Z:=zb (zb O2.o (FR.o.trans0 ah.o) (λ_ _=>id)) fr (λj hj e=>GN.o j hj e)
     rw[s.o];exact Z.slice.arg⟩)
    have O:=J (za aY.o fr (λe=>by have:=ZR.o;omega))
    clear fr T aF aH
    by_cases hlt:k<t.ins.length
    ·have i1:(k:Int)<(t.ins.length:Int):=by omega
     obtain⟨q,z⟩:∃q,(zW t)[k]? =some q:=⟨_,getElem?_eq_getElem (by rw[s.o];exact hlt)⟩
     have HX:=J z
     have m:=J (ad.o q (mem_of_getElem? z))
     obtain⟨b,off,a8,e,hr,-⟩:=aR.o.at_ z
     injection e with e1 e2 e3
     subst e1
     have R1:=J hr
     have u:=J (zY m.o)
     have RN:=J (zy A (zn q) 95)
     have FA:=J ((frN A).alloc (.cells (zn q).toArray 95))
     have F:=J (aP.o _ (r.o.trans0 FA.o) q m.o)
     have aW:=J (ar.o q)
     have a6:=J (zic (S:=S) (L:=L) (l:=Q n) z)
     unfold zlT at F
     have U:=J (yr aW.o)
     clear hr z e2 e3
     by_cases hs:(ZV S L (Q n) q).isSome=true
     ·have af:=@J (∀q∈(zW t).take (k+1),(ZV S L (Q n) q).isSome=true) (λy p=>by
       rw[take_add_one,HX.o] at p
       rcases mem_append.1 p with p|p
       ·exact AL.o y p
       ·simp at p;subst p;exact hs)
      rw[hs] at F
      clear hs
      generalize hZ:(ZV S L (Q n) q).getD y6=o at*
      have⟨a,d,K2,K3,K4,K5,K6⟩:=tZ7
      go_wp2_with ((first|((with_reducible refine zt ?_);first|(clear a;refine zn4 rfl rfl rfl R1.o u.o ?_)|(clear K2;refine zn4 rfl rfl rfl RN.o u.o ?_)|(clear K5;refine zn2 rfl rfl rfl RO.o U.o ?_))|((with_reducible refine zv ?_);first|(clear d;refine zi rfl (zm (w:=A) (cs:=zn q) (ty:=95) rfl rfl rfl (by rw[u.o];rfl) (by rw[u.o];exact xL) yI) ?_;generalize bc:A.heap.size=qb at*;generalize bg:A.alloc (.cells (zn q).toArray 95)=wb at*)|(clear K4;refine zi rfl (zm (w:=w3) (cs:=zJ o) (ty:=103) rfl rfl rfl (by rw[U.o];rfl) (by rw[U.o];exact yz) yc) ?_)|(clear K6;refine zi rfl (zK (ty:=103) rfl rfl rfl (by rw[U.o];exact TH.o) (by rw[U.o];exact yz) yc) ?_))|(clear K3;go_at_call 76;refine F.o.mono ?_;rintro e w3 ⟨rfl,f3⟩;have F3:=J (FA.o.trans0 f3);clear f3;have RO:=J (zy w3 (zJ o) 103);have FB:=J ((frN w3).alloc (.cells (zJ o).toArray 103));have ao:=J (zb aa.o (F3.o.trans0 FB.o) (λ_ _=>id));have TH:=J (Js ao.o hlt)));go_frame)
      have aO:=J (qY ao.o (k*33) (cs:=zJ o) (by rw[U.o];omega))
      have aT:=@J ((setM xs (k*33) (zJ o)).take ((k+1)*33)=(ze9 S L (Q n) t (k+1)).flatMap zJ) (by
       have Z:=VD xs (zJ o) (k*33) (by rw[aa.o.1,U.o];omega)
       rw[U.o] at Z
       rw[a6.o,←aq.o,show(k+1)*33=k*33+33 by omega,Z])
      have F6:=J ((FQ.o.trans0 (F3.o.trans0 FB.o)).trans (zu gg (zJ o) (k*33) (w3.alloc (.cells (zJ o).toArray 103))) (λi hi e=>e))
      go_roundw
      case rel=>exact⟨k+1,_,by go_num,by omega,af.o,aO.o,aT.o,F6.o⟩
      case measure=>simp[intOf];omega
     ·have D:(ZV S L (Q n) q).isSome=false:=by simpa using hs
      have V:=@J (Y9 S L (Q n) t=15) (by
       rw[au.o,if_neg]
       simp only[List.all_eq_true,Classical.not_forall]
       exact⟨q,mem_of_getElem? HX.o,hs⟩)
      rw[D] at F
      clear hs D
      generalize hZ:(ZV S L (Q n) q).getD y6=o at*
      have⟨a,d,K2,K3,K4⟩:=tZ5
      go_wp2_with ((first|((with_reducible refine zt ?_);first|(clear a;refine zn4 rfl rfl rfl R1.o u.o ?_)|(clear K2;refine zn4 rfl rfl rfl RN.o u.o ?_))|((with_reducible refine zv ?_);first|(clear d;refine zi rfl (zm (w:=A) (cs:=zn q) (ty:=95) rfl rfl rfl (by rw[u.o];rfl) (by rw[u.o];exact xL) yI) ?_;generalize bc:A.heap.size=qb at*;generalize bg:A.alloc (.cells (zn q).toArray 95)=wb at*)|(clear K4;refine zi rfl (zm (w:=w3) (cs:=zJ o) (ty:=103) rfl rfl rfl (by rw[U.o];rfl) (by rw[U.o];exact yz) yc) ?_))|(clear K3;go_at_call 76;refine F.o.mono ?_;rintro e w3 ⟨rfl,f3⟩;have F3:=J (FA.o.trans0 f3);clear f3;have FB:=J ((frN w3).alloc (.cells (zJ o).toArray 103))));go_frame)
      go_ret
      exact⟨by rw[V.o];rfl,r.o.trans0 (F3.o.trans0 FB.o)⟩
    ·have B:k=t.ins.length:=by omega
     have i1:¬(k:Int)<(t.ins.length:Int):=by omega
     have av:=@J (Y9 S L (Q n) t=if vz t (jw S L (Q n) t)≠0 then vz t (jw S L (Q n) t) else if j7 t (jw S L (Q n) t)<jF (qR t) then 17 else 0) (by
      rw[au.o,if_pos]
      simp only[List.all_eq_true]
      exact λq E=>AL.o q (by rw[B,←s.o,take_length];exact E))
     have aw:=@J ((jw S L (Q n) t).length=t.ins.length) (by unfold jw;rw[length_map,s.o])
     have aX:=@J (∀x∈jw S L (Q n) t,x.ok) (λx z=>by
      obtain⟨q,E,rfl⟩:=mem_map.1 z
      exact ar.o q)
     have aV:=@J (xy A (.slice (some ⟨gg,0,none⟩) t.ins.length t.ins.length) (jw S L (Q n) t)) (⟨aX.o,by
      have Z:=aq.o
      rw[B,zjZ,List.take_of_length_le (by rw[aa.o.1];omega)] at Z
      rw[aw.o,←Z]
      exact aa.o.slice.arg⟩)
     have ay:=J (Xu FM.o)
     clear B AL hlt hk
     have G:=J (Zp (HG.o.keep0 r.o) (HT.o.keep r.o) aV.o (by rw[aw.o];omega))
     unfold zgz at G
     by_cases c4:vz t (jw S L (Q n) t)=0
     ·rw[c4] at G
      have ak:=@J (Y9 S L (Q n) t=if j7 t (jw S L (Q n) t)<jF (qR t) then 17 else 0) (by rw[av.o,if_neg (by simp[c4])])
      have aj:=J (λw' (f:Fr No w w')=>VF w' (HT.o.keep f) FM.o)
      obtain⟨sn,bd⟩:=Int.eq_ofNat_of_zero_le (show 0≤qR t from by have:=ay.o;omega)
      rw[bd] at aj ak
      have an:=J (λw'=>zcK sn (by have:=ay.o;omega) w')
      clear c4
      generalize ba:j7 t (jw S L (Q n) t)=fr0 at*
      by_cases c5:fr0<jF (sn:Int)
      ·have V:=@J (Y9 S L (Q n) t=17) (by rw[ak.o,if_pos c5])
       have⟨a,d,K2,K3,K4⟩:=tZ5
       go_wp2_with ((first|((with_reducible refine zt ?_);first|(clear a;refine zn1 rfl rfl rfl O.o rfl ?_)|(clear K2;refine zn1 rfl rfl rfl al.o rfl ?_))|(clear d;go_at_call 77;refine G.o.mono ?_;rintro e w5 ⟨rfl,W⟩;have F5:=J (r.o.trans0 W);have al:=J (za O.o W id);clear W)|(clear K3;go_at_call 78;refine(aj.o w5 F5.o).mono ?_;rintro e w6 ⟨rfl,f6⟩;have F6:=J (F5.o.trans0 f6);clear f6)|(clear K4;go_at_call 79;refine(an.o w6).mono ?_;rintro e w7 ⟨rfl,f7⟩;have F7:=J (F6.o.trans0 f7);clear f7));go_frame)
       go_ret
       exact⟨by rw[V.o];rfl,F7.o⟩
      ·have V:=@J (Y9 S L (Q n) t=0) (by rw[ak.o,if_neg c5])
       have⟨a,d,K2,K3,K4⟩:=tZ5
       go_wp2_with ((first|((with_reducible refine zt ?_);first|(clear a;refine zn1 rfl rfl rfl O.o rfl ?_)|(clear K2;refine zn1 rfl rfl rfl al.o rfl ?_))|(clear d;go_at_call 77;refine G.o.mono ?_;rintro e w5 ⟨rfl,W⟩;have F5:=J (r.o.trans0 W);have al:=J (za O.o W id);clear W)|(clear K3;go_at_call 78;refine(aj.o w5 F5.o).mono ?_;rintro e w6 ⟨rfl,f6⟩;have F6:=J (F5.o.trans0 f6);clear f6)|(clear K4;go_at_call 79;refine(an.o w6).mono ?_;rintro e w7 ⟨rfl,f7⟩;have F7:=J (F6.o.trans0 f7);clear f7));go_frame)
       go_ret
       exact⟨by rw[V.o];rfl,F7.o⟩
     ·have V:=@J (Y9 S L (Q n) t=vz t (jw S L (Q n) t)) (by rw[av.o,if_pos c4])
      have je:(vz t (jw S L (Q n) t) !=0)=true:=by simpa using c4
      have bn:(vz t (jw S L (Q n) t)==0)=false:=by simpa using c4
      clear c4
      generalize ba:vz t (jw S L (Q n) t)=fe at*
      have⟨a,d⟩:=tZ2
      go_wp2_with ((first|((with_reducible refine zt ?_);clear a;refine zn1 rfl rfl rfl O.o rfl ?_)|(clear d;go_at_call 77;refine G.o.mono ?_;rintro e w5 ⟨rfl,W⟩;have F5:=J (r.o.trans0 W);clear W));go_frame)
      go_ret
      exact⟨by rw[V.o];rfl,F5.o⟩
end
theorem zjT (w:World) {t:TxD} {cs:List Value} (ht:TxQ w t cs) (hI:t.ins.length≤1000∧t.outs.length≤1000∧∀x∈t.ins,x.key.length≤1000):
  Calls prog 41 #[.agg cs.toArray] w (zlV w t):=by
 obtain⟨ia,ic,oa,oc,rfl,hv,hi,ho⟩:=ht
 have zT:=jV
 have f1:Fr No w (w.alloc (.cells #[.int .u32 t.ver,.slice ia t.ins.length ic,.slice oa t.outs.length oc] 34)):=(frN w).alloc _
 have Y:Fr No (w.alloc (.cells #[.int .u32 t.ver,.slice ia t.ins.length ic,.slice oa t.outs.length oc] 34)) _:=(frN _).alloc (.cells (txC 0 (.slice none 0 0) (.slice none 0 0)).toArray 34)
 obtain⟨c0,c1,c2,-⟩:=qN w t.ver (.slice ia t.ins.length ic) (.slice oa t.outs.length oc)
 have F2:=J (f1.trans0 Y)
 have FD:=J (F2.o.drew)
 have Q:=J ((Y.drew).cell c0 _root_.id)
 have R:=J ((Y.drew).cell c1 _root_.id)
 have S:=J ((Y.drew).cell c2 _root_.id)
 have B2:=J (yL (w.alloc (.cells #[.int .u32 t.ver,.slice ia t.ins.length ic,.slice oa t.outs.length oc] 34)) (.cells (txC 0 (.slice none 0 0) (.slice none 0 0)).toArray 34) (n:=w.heap.size+1) (by simp))
 have HO:=J (ho.keep FD.o)
 have HK:=J ((zcS hi (V:=λj=>w.heap.size+2≤j) (λj c=>by omega)).step FD.o.of0 (λ_ _ h=>h))
 have Z2:=@J (((w.alloc (.cells #[.int .u32 t.ver,.slice ia t.ins.length ic,.slice oa t.outs.length oc] 34)).alloc (.cells (txC 0 (.slice none 0 0) (.slice none 0 0)).toArray 34)).heap.size=w.heap.size+2) (by simp)
 have HV:=J hv
 have HI:=J hI
 clear c0 c1 c2 f1 Y ho hv hi hI
 show Calls prog 41 #[.agg #[.int .u32 t.ver,.slice ia t.ins.length ic,.slice oa t.outs.length oc]] w _
 go_enter Tryz.func41,Tryz.ntmps41
 go_wp2_with fail
 generalize (w.alloc (.cells #[.int .u32 t.ver,.slice ia t.ins.length ic,.slice oa t.outs.length oc] 34)).alloc (.cells (txC 0 (.slice none 0 0) (.slice none 0 0)).toArray 34)=w2 at*
 go_cut [3] from 5 to 14 (λs3 wc=>zlS (w.heap.size+2) t w2 s3 wc)
 case first=>
  refine jM 11 [0,1,2,3,4,5,6,7,8,9,10] (λw'=>w'.cell? ⟨w.heap.size,0,none⟩=some (.int .u32 t.ver)∧w'.cell? ⟨w.heap.size,1,none⟩=some (.slice ia t.ins.length ic)∧w'.cell? ⟨w.heap.size,2,none⟩=some (.slice oa t.outs.length oc)) (by kernel_rfl) (by kernel_rfl) (by kernel_rfl) (by kernel_rfl) ?_ (λK hK=>?_)
  ·exact⟨Q.o,R.o,S.o⟩
  have X:=@J (w2.drew.heap.size=w.heap.size+2) (Z2.o)
  have FW:=@J (Fr No w2 w2.drew) ((frN w2).drew)
  generalize w2.drew=w3 at*
  (((first|(refine yB 0 (by kernel_rfl) rfl rfl ?_;apply Exists.intro;refine⟨?_,?_⟩;(focus(first|(intro w' hS;obtain⟨s1,s2,s3⟩:=hS;go_simp;(try with_reducible rfl);done))))|(refine yC 0 (by kernel_rfl) rfl rfl ?_));try simp only[Act.put,pA,pB,pC]);((first|(refine yB 1 (by kernel_rfl) rfl rfl ?_;apply Exists.intro;refine⟨?_,?_⟩;(focus(first|(intro w' hS;obtain⟨s1,s2,s3⟩:=hS;go_simp;(try with_reducible rfl);done))))|(refine yC 1 (by kernel_rfl) rfl rfl ?_));try simp only[Act.put,pA,pB,pC]);((first|(refine yB 2 (by kernel_rfl) rfl rfl ?_;apply Exists.intro;refine⟨?_,?_⟩;(focus(first|(intro w' hS;obtain⟨s1,s2,s3⟩:=hS;go_simp;(try with_reducible rfl);done))))|(refine yC 2 (by kernel_rfl) rfl rfl ?_));try simp only[Act.put,pA,pB,pC]);((first|(refine yB 3 (by kernel_rfl) rfl rfl ?_;apply Exists.intro;refine⟨?_,?_⟩;(focus(first|(intro w' hS;obtain⟨s1,s2,s3⟩:=hS;go_simp;(try with_reducible rfl);done))))|(refine yC 3 (by kernel_rfl) rfl rfl ?_));try simp only[Act.put,pA,pB,pC]);((first|(refine yB 5 (by kernel_rfl) rfl rfl ?_;apply Exists.intro;refine⟨?_,?_⟩;(focus(first|(intro w' hS;obtain⟨s1,s2,s3⟩:=hS;go_simp;(try with_reducible rfl);done))))|(refine yC 5 (by kernel_rfl) rfl rfl ?_));try simp only[Act.put,pA,pB,pC]);((first|(refine yB 6 (by kernel_rfl) rfl rfl ?_;apply Exists.intro;refine⟨?_,?_⟩;(focus(first|(intro w' hS;obtain⟨s1,s2,s3⟩:=hS;go_simp;(try with_reducible rfl);done))))|(refine yC 6 (by kernel_rfl) rfl rfl ?_));try simp only[Act.put,pA,pB,pC]))
  refine ZI 4 9 (by kernel_rfl) rfl rfl rfl rfl (λK' hK'=>?_) (λK' hK'=>?_)
  ·skip
   go_simp
   refine(Zi w3 (HK.o.step (frN w3).of0 (λ_ _ h=>h)) (by have:=HI.o.1;omega)).mono ?_
   rintro e H ⟨aM,css,rfl,F,aa,Z,z,f4⟩
   obtain⟨m,o,ak⟩:=z.slice.arg.form
   subst ak
   have u:=J f4
   have CL:=J F
   have KP:=J aa
   have af:=J Z
   have W:=J z
   clear F aa Z z f4
   refine nXt hK' ?_ λhS=>?_
   ·exact⟨u.o.cell Q.o _root_.id,u.o.cell R.o _root_.id,u.o.cell S.o _root_.id⟩
   try simp only[Act.put,pA,pB,pC]
   refine ZI 7 9 (by kernel_rfl) rfl rfl rfl rfl (λK' hK'=>?_) (λK' hK'=>?_)
   ·skip
    go_simp
    refine(jt H (HO.o.keep u.o) (by have:=HI.o.2.1;omega)).mono ?_
    rintro e w5 ⟨aC,rfl,p,f5⟩
    obtain⟨k,l,ab⟩:=p.slice.arg.form
    subst ab
    have I:=J f5
    have T:=J p
    clear p f5
    have a:=J (u.o.trans0 I.o)
    refine nXt hK' ?_ λhS=>?_
    ·exact⟨a.o.cell Q.o _root_.id,a.o.cell R.o _root_.id,a.o.cell S.o _root_.id⟩
    try simp only[Act.put,pA,pB,pC]
    (((first|(refine yB 8 (by kernel_rfl) rfl rfl ?_;apply Exists.intro;refine⟨?_,?_⟩;(focus(first|exact λw' _=>yf (t:=34) rfl rfl (V7 t.ver m k t.ins.length o t.outs.length l w')|(intro w' hS;obtain⟨s1,s2,s3⟩:=hS;go_simp;(try with_reducible rfl);done))))|(refine yC 8 (by kernel_rfl) rfl rfl ?_));try simp only[Act.put,pA,pB,pC]))
    refine y9 9 (by kernel_rfl) rfl rfl (λK' hK'=>?_)
    refine yj (yA rfl (jV _)) ?_
    have F6:=J ((frN w5).alloc (.cells (txC 0 (.slice none 0 0) (.slice none 0 0)).toArray 34))
    refine nXt hK' ?_ λhS=>?_
    ·exact⟨F6.o.cell (a.o.cell Q.o _root_.id) _root_.id,F6.o.cell (a.o.cell R.o _root_.id) _root_.id,F6.o.cell (a.o.cell S.o _root_.id) _root_.id⟩
    try simp only[Act.put,pA,pB,pC]
    refine y9 10 (by kernel_rfl) rfl rfl (λK' hK'=>?_)
    refine yN (zm (w:=w5) (ty:=34) (cs:=[.int .u32 t.ver,.slice m t.ins.length o,.slice k t.outs.length l]) rfl rfl rfl rfl yZ (qM rfl rfl rfl)) ?_
    have E:=J ((frN w5).alloc (.cells ([.int .u32 t.ver,.slice m t.ins.length o,.slice k t.outs.length l]).toArray 34))
    refine nXt hK' ?_ λhS=>?_
    ·exact⟨E.o.cell (a.o.cell Q.o _root_.id) _root_.id,E.o.cell (a.o.cell R.o _root_.id) _root_.id,E.o.cell (a.o.cell S.o _root_.id) _root_.id⟩
    try simp only[Act.put,pA,pB,pC]
    refine jd (hK.out _ _ ?_)
    go_wp2_with fail
    go_meet
    case rel=>exact⟨w5.heap.size,m,o,k,l,css,rfl,by have:=a.o.size;have:=X.o;omega,FW.o.trans0 (a.o.trans0 E.o),ye w5 (.cells ([.int .u32 t.ver,.slice m t.ins.length o,.slice k t.outs.length l]).toArray 34),CL.o,λi d cs D y=>(KP.o i d cs D y).step (I.o.trans0 E.o).of0 (λ_ _ h=>h),af.o,xj (zb (zb W.o I.o (λ_ _=>_root_.id)) E.o (λ_ _=>_root_.id)) (by have:=X.o;omega),xj (zb T.o E.o (λ_ _=>_root_.id)) (by have:=u.o.size;have:=X.o;omega),λj c=>⟨by have:=(W.o.lt j c).2;have:=I.o.size;omega,λe=>by have:=(W.o.lt j c).2;have:=(T.o.lt j e).1;omega⟩⟩
   ·refine yj (yA rfl (jV _)) ?_
    have FA:=J ((frN H).alloc (.cells (txC 0 (.slice none 0 0) (.slice none 0 0)).toArray 34))
    have BA:=J (ye H (.cells (txC 0 (.slice none 0 0) (.slice none 0 0)).toArray 34))
    have ZA:=@J ((H.alloc (.cells (txC 0 (.slice none 0 0) (.slice none 0 0)).toArray 34)).heap.size=H.heap.size+1) (by simp)
    generalize H.alloc (.cells (txC 0 (.slice none 0 0) (.slice none 0 0)).toArray 34)=wa at*
    generalize an:H.heap.size=G at*
    have s:=J (u.o.trans0 FA.o)
    refine nXt hK' ?_ λhS=>?_
    ·exact⟨s.o.cell Q.o _root_.id,s.o.cell R.o _root_.id,s.o.cell S.o _root_.id⟩
    try simp only[Act.put,pA,pB,pC]
    refine y9 7 (by kernel_rfl) rfl rfl (λK' hK'=>?_)
    go_simp
    refine(jt wa (HO.o.keep s.o) (by have:=HI.o.2.1;omega)).mono ?_
    rintro e w5 ⟨aC,rfl,p,f5⟩
    obtain⟨k,l,ab⟩:=p.slice.arg.form
    subst ab
    have I:=J f5
    have T:=J p
    clear p f5
    have a:=J (s.o.trans0 I.o)
    have B5:=J (I.o.obj BA.o _root_.id)
    refine nXt hK' ?_ λhS=>?_
    ·exact⟨a.o.cell Q.o _root_.id,a.o.cell R.o _root_.id,a.o.cell S.o _root_.id⟩
    try simp only[Act.put,pA,pB,pC]
    (((first|(refine yB 8 (by kernel_rfl) rfl rfl ?_;apply Exists.intro;refine⟨?_,?_⟩;(focus(first|exact λw' _=>yf (t:=34) rfl rfl (V7 t.ver m k t.ins.length o t.outs.length l w')|(intro w' hS;obtain⟨s1,s2,s3⟩:=hS;go_simp;(try with_reducible rfl);done))))|(refine yC 8 (by kernel_rfl) rfl rfl ?_));try simp only[Act.put,pA,pB,pC]))
    refine y9 10 (by kernel_rfl) rfl rfl (λK' hK'=>?_)
    refine yN (zK (ty:=34) (b:=G) (off:=0) (cs:=[.int .u32 t.ver,.slice m t.ins.length o,.slice k t.outs.length l]) rfl rfl rfl (zV B5.o (le_refl 3)) yZ (qM rfl rfl rfl)) ?_
    have E:=J (zu G ([.int .u32 t.ver,.slice m t.ins.length o,.slice k t.outs.length l]) 0 w5)
    have HQ:=@J (w3.heap.size≤G) (by have:=u.o.size;omega)
    have C:=@J (Fr No w3 _) (a.o.trans E.o (λi hi e=>by have:=HQ.o;omega))
    refine nXt hK' ?_ λhS=>?_
    ·exact⟨C.o.cell Q.o _root_.id,C.o.cell R.o _root_.id,C.o.cell S.o _root_.id⟩
    try simp only[Act.put,pA,pB,pC]
    refine jd (hK.out _ _ ?_)
    go_wp2_with fail
    go_meet
    case rel=>exact⟨G,m,o,k,l,css,rfl,by have:=HQ.o;have:=X.o;omega,FW.o.trans0 C.o,ZL (cs:=[.int .u32 t.ver,.slice m t.ins.length o,.slice k t.outs.length l]) B5.o rfl,CL.o,λi d cs D y=>((KP.o i d cs D y).step (FA.o.trans0 I.o).of0 (λ_ _ h=>h)).step (E.o.mono (λj e=>by have:=HQ.o;have:=X.o;omega)) (λ_ _ h=>h),af.o,xj (zb (zb W.o (FA.o.trans0 I.o) (λ_ _=>_root_.id)) E.o (λj c e=>by have:=(W.o.lt j c).2;omega)) (by have:=X.o;omega),xj (zb T.o E.o (λj c e=>by have:=(T.o.lt j c).1;have:=ZA.o;omega)) (by have:=HQ.o;have:=X.o;have:=ZA.o;omega),λj c=>⟨by have:=(W.o.lt j c).2;omega,λe=>by have:=(W.o.lt j c).2;have:=(T.o.lt j e).1;have:=ZA.o;omega⟩⟩
  ·refine yj (yA rfl (jV _)) ?_
   have FA:=J ((frN w3).alloc (.cells (txC 0 (.slice none 0 0) (.slice none 0 0)).toArray 34))
   have BA:=J (ye w3 (.cells (txC 0 (.slice none 0 0) (.slice none 0 0)).toArray 34))
   have ZA:=@J ((w3.alloc (.cells (txC 0 (.slice none 0 0) (.slice none 0 0)).toArray 34)).heap.size=w3.heap.size+1) (by simp)
   generalize w3.alloc (.cells (txC 0 (.slice none 0 0) (.slice none 0 0)).toArray 34)=wa at*
   generalize an:w3.heap.size=G at*
   refine nXt hK' ?_ λhS=>?_
   ·exact⟨FA.o.cell Q.o _root_.id,FA.o.cell R.o _root_.id,FA.o.cell S.o _root_.id⟩
   try simp only[Act.put,pA,pB,pC]
   refine y9 4 (by kernel_rfl) rfl rfl (λK' hK'=>?_)
   go_simp
   refine(Zi wa (HK.o.step (FA.o).of0 (λ_ _ h=>h)) (by have:=HI.o.1;omega)).mono ?_
   rintro e H ⟨aM,css,rfl,F,aa,Z,z,f4⟩
   obtain⟨m,o,ak⟩:=z.slice.arg.form
   subst ak
   have u:=J f4
   have CL:=J F
   have KP:=J aa
   have af:=J Z
   have W:=J z
   clear F aa Z z f4
   have s:=J (FA.o.trans0 u.o)
   refine nXt hK' ?_ λhS=>?_
   ·exact⟨s.o.cell Q.o _root_.id,s.o.cell R.o _root_.id,s.o.cell S.o _root_.id⟩
   try simp only[Act.put,pA,pB,pC]
   refine y9 7 (by kernel_rfl) rfl rfl (λK' hK'=>?_)
   go_simp
   refine(jt H (HO.o.keep s.o) (by have:=HI.o.2.1;omega)).mono ?_
   rintro e w5 ⟨aC,rfl,p,f5⟩
   obtain⟨k,l,ab⟩:=p.slice.arg.form
   subst ab
   have I:=J f5
   have T:=J p
   clear p f5
   have a:=J (s.o.trans0 I.o)
   have B5:=J (I.o.obj (u.o.obj BA.o _root_.id) _root_.id)
   refine nXt hK' ?_ λhS=>?_
   ·exact⟨a.o.cell Q.o _root_.id,a.o.cell R.o _root_.id,a.o.cell S.o _root_.id⟩
   try simp only[Act.put,pA,pB,pC]
   (((first|(refine yB 8 (by kernel_rfl) rfl rfl ?_;apply Exists.intro;refine⟨?_,?_⟩;(focus(first|exact λw' _=>yf (t:=34) rfl rfl (V7 t.ver m k t.ins.length o t.outs.length l w')|(intro w' hS;obtain⟨s1,s2,s3⟩:=hS;go_simp;(try with_reducible rfl);done))))|(refine yC 8 (by kernel_rfl) rfl rfl ?_));try simp only[Act.put,pA,pB,pC]))
   refine y9 10 (by kernel_rfl) rfl rfl (λK' hK'=>?_)
   refine yN (zK (ty:=34) (b:=G) (off:=0) (cs:=[.int .u32 t.ver,.slice m t.ins.length o,.slice k t.outs.length l]) rfl rfl rfl (zV B5.o (le_refl 3)) yZ (qM rfl rfl rfl)) ?_
   have E:=J (zu G ([.int .u32 t.ver,.slice m t.ins.length o,.slice k t.outs.length l]) 0 w5)
   have C:=@J (Fr No w3 _) (a.o.trans E.o (λi hi e=>by omega))
   refine nXt hK' ?_ λhS=>?_
   ·exact⟨C.o.cell Q.o _root_.id,C.o.cell R.o _root_.id,C.o.cell S.o _root_.id⟩
   try simp only[Act.put,pA,pB,pC]
   refine jd (hK.out _ _ ?_)
   go_wp2_with fail
   go_meet
   case rel=>exact⟨G,m,o,k,l,css,rfl,by have:=X.o;omega,FW.o.trans0 C.o,ZL (cs:=[.int .u32 t.ver,.slice m t.ins.length o,.slice k t.outs.length l]) B5.o rfl,CL.o,λi d cs D y=>((KP.o i d cs D y).step I.o.of0 (λ_ _ h=>h)).step (E.o.mono (λj e=>by have:=X.o;omega)) (λ_ _ h=>h),af.o,xj (zb (zb W.o I.o (λ_ _=>_root_.id)) E.o (λj c e=>by have:=(W.o.lt j c).1;have:=ZA.o;omega)) (by have:=X.o;have:=ZA.o;omega),xj (zb T.o E.o (λj c e=>by have:=(T.o.lt j c).1;have:=u.o.size;have:=ZA.o;omega)) (by have:=X.o;have:=ZA.o;have:=u.o.size;omega),λj c=>⟨by have:=(W.o.lt j c).1;have:=ZA.o;omega,λe=>by have:=(W.o.lt j c).2;have:=(T.o.lt j e).1;omega⟩⟩
 case rest=>
  rename World=>wz
  obtain⟨G,A,q,N,O,css,rfl,an,fc,bq,F,ax,ah,z,p,av⟩:=hcut
  have FC:=J fc
  have T:=J p
  have AP:=J av
  have aD:=J (fc.obj B2.o _root_.id)
  have c1:wz.cell? ⟨G,1,none⟩=some (.slice A t.ins.length q):=by have:=zq bq 1 _ rfl;simpa using this
  have L8:=J HI.o.1
  have BQ:=J bq
  have HR:=@J (∃css,zhk (w.heap.size+2) G A q t wz wz 0 css) (⟨css,F,ah,z,λi d cs h D y=>absurd h (Nat.not_lt_zero i),λi d cs h D y=>ax i d cs D y,Fr.refl _ _⟩)
  clear an fc bq F ax ah z p av
  have iz:=HI.o.1
  go_wp2_with fail
  clear c1
  go_loopw [17] (λiv wr=>∃n:Nat,iv=.int .i64 n∧n≤t.ins.length∧∃css,zhk (w.heap.size+2) G A q t wz wr n css) (λiv _=>t.ins.length-(intOf iv).toNat)
  case atStart=>exact⟨0,rfl,zero_le _,HR.o⟩
  case round=>
   obtain⟨n,rfl,hn,css,aB⟩:=hrel
   have B:=J aB
   clear aB
   by_cases az:n<t.ins.length
   ·have i1:(n:Int)<(t.ins.length:Int):=by omega
    obtain⟨x,hx⟩:∃x,t.ins[n]? =some x:=⟨_,getElem?_eq_getElem az⟩
    have HX:=J hx
    obtain⟨cs,hcs⟩:∃cs,css[n]? =some cs:=⟨_,getElem?_eq_getElem (by rw[B.o.len];exact az)⟩
    obtain⟨ka,kc,aw,ad,ai⟩:=(B.o.old n x cs (le_refl _) hx hcs).now
    have au:=J ai
    have ar:=@J (css[n]? =some (inC x.from_ (.slice ka x.key.length kc))) (by rw[hcs,aw])
    have aj:=J ad
    obtain⟨g,aN,aJ,ay,aK⟩:=JB (f:=id) (by decide) B.o.c34 B.o.row ar.o
    cases aJ
    have GL:=J ((B.o.row.lt g rfl))
    have FZ:=J B.o.fr
    have AG:=J (AP.o g rfl)
    have NQ:=@J (G≠g) (λe=>AG.o.1 e.symm)
    have aq:=@J (wr.cell? ⟨G,1,none⟩=some (.slice (some ⟨g,0,none⟩) t.ins.length q)) (by
     have:=zq (FZ.o.obj BQ.o (λe=>by cases e;exact NQ.o rfl)) 1 _ rfl
     simpa using this)
    have CK:=@J (wr.cell? ⟨g,n*34+33,none⟩=some (.slice ka x.key.length kc)) ((zcO ay ad).2)
    have aH:=J (HI.o.2.2 x (mem_of_getElem? hx))
    have i2:(n:Int)<(t.ins.length:Int):=i1
    clear hx hcs aw ad ai ay aK
    go_wp2_with fail
    have ae:=J ((frN wr).drew)
    refine ym [ff,ff,ff,ff,ff,ff,ff,ff,ff,tt,ff,ff,tt] (λw'=>w'.cell? ⟨G,1,none⟩=some (.slice (some ⟨g,0,none⟩) t.ins.length q)∧w'.cell? ⟨g,n*34+33,none⟩=some (.slice ka x.key.length kc)) (by kernel_rfl) (by kernel_rfl) 12 (by kernel_rfl) (by kernel_rfl) ?_ (λK hK=>?_)
    ·exact⟨ae.o.cell aq.o _root_.id,ae.o.cell CK.o _root_.id⟩
    repeat((first|(refine z7 rfl ?_;constructor;constructor;(focus(first|(rintro w' ⟨s1,s2⟩;go_simp;(try with_reducible rfl);done))))|(refine ya rfl ?_));try simp only[Act.put,pA,pB,pC])
    (refine z6 rfl (λK' hK'=>?_))
    go_simp
    refine(Vb wr.drew (au.o.keep ae.o) (by have:=aH.o;omega)).mono ?_
    rintro e H ⟨kv,rfl,al,f4⟩
    obtain⟨L,M,aL⟩:=al.slice.arg.form
    subst aL
    have u:=J (ae.o.trans0 f4)
    have KO:=J al
    clear al f4
    refine hK'.out _ _ (λ_=>?_) (λhS=>?_)
    ·exact⟨u.o.cell aq.o _root_.id,u.o.cell CK.o _root_.id⟩
    try simp only[Act.put,pA,pB,pC]
    repeat((first|(refine z7 rfl ?_;constructor;constructor;(focus(first|(rintro w' ⟨s1,s2⟩;go_simp;(try with_reducible rfl);done))))|(refine ya rfl ?_));try simp only[Act.put,pA,pB,pC])
    have ag:=J (zb B.o.row u.o (λ_ _=>_root_.id))
    have fz:H.frozen? ⟨g,n*34+33,none⟩=false:=ag.o.frozenAt _
    have cz:=u.o.cell CK.o _root_.id
    have NK:=@J (n*34+33+1≤t.ins.length*34) (by omega)
    have fs:Fr (λj=>j=g) H (H.setCell ⟨g,n*34+33,none⟩ (.slice L x.key.length M)):=(Fr.refl (λj=>j=g) H).setCell _ (.inr rfl) _
    have FS:=J fs
    have aI:=@J (zhk (w.heap.size+2) G (some ⟨g,0,none⟩) q t wz (H.setCell ⟨g,n*34+33,none⟩ (.slice L x.key.length M)) (n+1) (css.set n (inC x.from_ (.slice L x.key.length M)))) (by
     refine⟨by rw[List.length_set];exact B.o.len,λcs hc=>?_,?_,λi d cs hi D y=>?_,λi d cs hi D y=>?_,?_⟩
     ·rcases List.mem_or_eq_of_mem_set hc with hc|rfl
      ·exact B.o.c34 cs hc
      ·exact vo aj.o _
     ·have D:=qY ag.o (n*34+33) (cs:=[.slice L x.key.length M]) (by have:=NK.o;simpa using this)
      have y:=Xm (r:=33) (v:=.slice L x.key.length M) (by decide) B.o.c34 ar.o
      rw[zgU aj.o] at y
      rw[←y]
      exact D
     ·by_cases hin:i=n
      ·subst hin
       rw[HX.o] at D
       cases D
       rw[List.getElem?_set_self (by have:=B.o.len;omega)] at y
       cases y
       have hk:=zbI KO.o au.o.1 (V:=λj=>j<w.heap.size+2∨(Value.slice (some ⟨g,0,none⟩) t.ins.length q).ownBlock=some j) (λj c=>by
        have h3:=FZ.o.size
        have h4:=FC.o.size
        have h5:=Z2.o
        have h6:=GL.o.2
        show j<wr.heap.size
        rcases c with c|c
        ·omega
        ·simp[Value.ownBlock] at c;omega)
       exact(hk.step (FS.o.mono (λj e=>.inr (by rw[e];rfl))) (λ_ _ h=>h)).imp (λw' _ h=>⟨L,M,rfl,aj.o,h⟩)
      ·rw[List.getElem?_set_ne (by omega)] at y
       exact((B.o.new i d cs (by omega) D y).step u.o.of0 (λ_ _ h=>h)).step (FS.o.mono (λj e=>.inr (by rw[e];rfl))) (λ_ _ h=>h)
     ·rw[List.getElem?_set_ne (by omega)] at y
      exact((B.o.old i d cs (by omega) D y).step u.o.of0 (λ_ _ h=>h)).step (FS.o.mono (λj e=>by rw[e];exact GL.o.1)) (λ_ _ h=>h)
     ·exact(FZ.o.trans0 u.o).trans FS.o (λj _ e=>by rw[e];rfl))
    clear fs
    (refine z6 rfl (λK' hK'=>?_))
    go_simp
    refine hK'.out _ _ (λh=>absurd rfl h) (λhS=>?_)
    refine xD (hK.out _ _ ?_)
    go_wp2_with fail
    go_roundw
    case rel=>exact⟨n+1,by go_num,by omega,_,aI.o⟩
    case measure=>simp[intOf];omega
   ·have aA:n=t.ins.length:=by omega
    have i1:¬(n:Int)<(t.ins.length:Int):=by omega
    have aF:=J aA
    have FZ:=J B.o.fr
    have aE:=J (FZ.o.obj BQ.o (λe=>(AP.o G e).1 rfl))
    have RU:=J (zq aE.o)
    have ao:=J (FZ.o.obj aD.o (λe=>by have:=(B.o.row.lt _ e).1;omega))
    have aG:=@J (∀V:Nat→Prop,(∀j,V j→j<w.heap.size+2)→Kept V wr (λw=>TxQ w t [.int .u32 t.ver,.slice A t.ins.length q,.slice N t.outs.length O])) (λV hV w' f=>by
     have k1:jN (w.heap.size+2) 108 34 InQ (λj=>j<w.heap.size+2) wr (.slice A t.ins.length q) t.ins css:=⟨B.o.row,B.o.len,B.o.c34,λi d cs D y=>B.o.new i d cs (by rw[aF.o];exact(List.getElem?_eq_some_iff.1 D).1) D y⟩
     have k2:=k1.rows (U:=V) (by decide) (by unfold maxLen;have:=L8.o;omega) (λj _ e=>hV j e) (λj c e=>by have:=(k1.lt j c).1;have:=hV j e;omega) w' f
     have k3:=XN (V:=V) (zb T.o FZ.o (λj c e=>(AP.o j e).2 c)) HO.o.1 hV w' f
     exact⟨A,q,N,O,rfl,HV.o,k2,k3⟩)
    clear aA
    have⟨K0,K1⟩:=tZ2
    go_wp2_with ((first|((with_reducible refine zt ?_);clear K0;refine zn1 rfl rfl rfl RU.o rfl ?_)|((with_reducible refine zv ?_);clear K1;refine zi rfl (zK (ty:=34) (b:=w.heap.size+1) (off:=0) (cs:=[.int .u32 t.ver,.slice A t.ins.length q,.slice N t.outs.length O]) rfl rfl rfl (zV ao.o (le_refl 3)) yZ (qM rfl rfl rfl)) ?_));go_frame)
    have BE:=ZL (cs:=[.int .u32 t.ver,.slice A t.ins.length q,.slice N t.outs.length O]) ao.o rfl
    have fE:=zu (w.heap.size+1) [.int .u32 t.ver,.slice A t.ins.length q,.slice N t.outs.length O] 0 wr
    refine bodyPost_ret (v:=.agg [.int .u32 t.ver,.slice A t.ins.length q,.slice N t.outs.length O].toArray) (results_cell_row (P:=prog) (fn:=Tryz.f41) rfl _ _ (w.heap.size+1) 34 _ (0,0) _ rfl BE Tryz.underlying34 rfl yZ) rfl ⟨_,rfl,?_,λV hV w' f=>aG.o (λj=>V j∨j=w.heap.size+1) (λj c=>by rcases c with c|c;have:=hV j c;omega;omega) w' ((fE.mono (λj c=>.inr c)).trans (f.mono (λj c=>.inl c)) (λ_ _ h=>h))⟩
    exact(((F2.o.trans0 FC.o).trans FZ.o (λj c e=>by have:=(B.o.row.lt _ e).1;omega))).trans fE (λi hi e=>by omega)
def V0 (w0 w:World) (ps ma ms:Nat) (R:Nat→Value) (X:Nat→Prop) (S:List zr) (I:List zd) (L:List yb) (Q:StQ) (n:Nat) (t:TxD) (e:Ending) (w':World):Prop:=
 e=.returned (.int .i64 (jY S I L (Q n) t))∧Fr (Vd ps ma ms (R n)) w w'∧∃v' C',(∀j,v'.ownBlock=some j→(R n).ownBlock=some j∨w.heap.size≤j)∧yM w0 w' ps ma ms (jq R n v') (λj=>X j∨v'.ownBlock=some j) C' (vu Q n (Qg S I L (Q n) t))
def zbY (C:Nat→zd→List Value) (n:Nat) (x:zd) (cs:List Value):Nat→zd→List Value:=λi y=>if i=n∧y=x then cs else C i y
theorem zau (C:Nat→zd→List Value) (n:Nat) (x:zd) (cs:List Value):zbY C n x cs n x=cs:=if_pos ⟨rfl,rfl⟩
theorem Yx (C:Nat→zd→List Value) {n i:Nat} {x y:zd} (cs:List Value) (h:i≠n∨y≠x):zbY C n x cs i y=C i y:=if_neg λe=>h.elim (λh=>h e.1) (λh=>h e.2)
section
variable {w0 w w' w0p w0c:World} {ps ma ms pp mp mq g N pc:Nat} {R:Nat→Value} {X Y VG VC:Nat→Prop} {C:Nat→zd→List Value} {CP:zd→List Value} {Q:StQ} {L:List yb} {S:List zr} {bs:List yx} {I:List zd}
theorem V0.bad {n:Nat} (l:n<65) {t:TxD} {c:Int} (h:yM w0 w ps ma ms R X C Q) (b:jY S I L (Q n) t=c) (i:c≠0) (f:Fr No w w'):V0 w0 w ps ma ms R X S I L Q n t (.returned (.int .i64 c)) w':=by
 have a:jY S I L (Q n) t≠0:=by rw[b];exact i
 have d:Qg S I L (Q n) t=Q n:=by unfold Qg;rw[if_neg a]
 refine⟨by rw[b],f.of0,R n,C,λj h=>.inl h,?_⟩
 rw[d,zhf,zd3]
 exact h.frV f (λ_ _=>id) (λ_ h=>h.elim) (λ_ h=>h.elim) (λj _ e=>e.elim id (λe=>h.sub j (.inr (.inr (.inr ⟨n,l,e⟩))))) (λj k=>.inl (h.sub j k))
theorem zhR {l:List StE} {t:TxD} (h:yF t≠0):jY S I L l t=yF t:=by unfold jY;rw[if_pos h]
theorem zhS {l:List StE} {t:TxD} (h:yF t=0) (a:jX I L l (idH t)≠0):jY S I L l t=jX I L l (idH t):=by unfold jY;rw[if_neg (by simp[h]),if_pos a]
theorem zmF {l:List StE} {t:TxD} (h:yF t=0) (a:jX I L l (idH t)=0):jY S I L l t=Y9 S L l t:=by unfold jY;rw[if_neg (by simp[h]),if_neg (by simp[a])]
structure Xc (w:World) (ps ma ms:Nat) (R':Nat→Value) (C':Nat→zd→List Value) (Q:StQ) (n:Nat) (l':List StE) (x:zd) (pts:List zF) (m:Nat):Prop where
 obj:w.heap[ps]? =some (.cells (stC ma ms R').toArray 116 (0,0))
 am:∃M,vB w ma M∧∀k cs,(k,cs)∈M↔∃i:Nat,i<65∧k.1=(i:Int)∧∃e∈vu Q n l' i,e.id=k.2∧cs=C' i k.2
 sm:∃M,Ym w ms M∧(∀k y,(k,y)∈M↔(k.1=(n:Int)∧k.2∈pts.take m∧y=x)∨∃i:Nat,i<65∧k.1=(i:Int)∧∃e∈Q i,k.2∈zW e.tx∧e.id=y)∧M.length≤100000+m
theorem Xc.fr0 {e:Nat→Value} {d:Nat→zd→List Value} {n m:Nat} {i:List StE} {x:zd} {a:List zF} (h:Xc w ps ma ms e d Q n i x a m) (f:Fr No w w'):Xc w' ps ma ms e d Q n i x a m:=by
 obtain⟨M,j,l⟩:=h.am
 obtain⟨M',b,c,k⟩:=h.sm
 exact⟨f.obj h.obj id,⟨M,j.keep f id,l⟩,⟨M',b.keep f id,c,k⟩⟩
theorem Xc.c66 {c:Nat→Value} {b:Nat→zd→List Value} {n m:Nat} {d:List StE} {x:zd} {a:List zF} (h:Xc w ps ma ms c b Q n d x a m):w.cell? ⟨ps,66,none⟩=some (.map (some ms)):=by
 have:=zq h.obj
 simpa using this 66 _ zdW
theorem zm7 (w:World):(zeroValue 110).run prog w=.ok (.agg (skC (0,yO)).toArray) w:=by kernel_rfl
theorem zjE {M:List ((Int×zd)×List Value)} (j:(M.map (·.1)).Nodup) (m:∀i,SVal (Q i)) (h:∀k cs,(k,cs)∈M↔∃i:Nat,i<65∧k.1=(i:Int)∧∃e∈Q i,e.id=k.2∧cs=C i k.2):M.length≤100000:=by
 have b:∀x∈M.map (·.1),x∈(List.range 65).flatMap λi=>(Q i).map λe=>((i:Int),e.id):=by
  intro x n
  obtain⟨⟨k,y⟩,o,rfl⟩:=mem_map.1 n
  obtain⟨i,hi,a,e,f,l,-⟩:=(h k y).1 o
  refine mem_flatMap.2 ⟨i,List.mem_range.2 hi,mem_map.2 ⟨e,f,?_⟩⟩
  rw[←a,l]
 have c:=qy j b
 rw[length_map] at c
 have d:∀r:List Nat,(r.flatMap λi=>(Q i).map λe=>((i:Int),e.id)).length≤4*r.length:=by
  intro r
  induction r with
  |nil=>simp
  |cons i r ih=>
   rw[List.flatMap_cons,length_append,length_cons,length_map]
   have p:=(m i).len
   omega
 have:=d (List.range 65)
 rw[List.length_range] at this
 omega
theorem ziy {M:List ((Int×zF)×zd)} (o:(M.map (·.1)).Nodup) (d:∀i,SVal (Q i)) (n:∀k y,(k,y)∈M↔∃i:Nat,i<65∧k.1=(i:Int)∧∃e∈Q i,k.2∈zW e.tx∧e.id=y):M.length≤100000:=by
 have f:∀x∈M.map (·.1),x∈(List.range 65).flatMap λi=>(Q i).flatMap λe=>(zW e.tx).map λq=>((i:Int),q):=by
  intro x s
  obtain⟨⟨k,y⟩,t,rfl⟩:=mem_map.1 s
  obtain⟨i,hi,b,e,a,p,-⟩:=(n k y).1 t
  refine mem_flatMap.2 ⟨i,List.mem_range.2 hi,mem_flatMap.2 ⟨e,a,mem_map.2 ⟨k.2,p,?_⟩⟩⟩
  rw[←b]
 have h:=qy o f
 rw[length_map] at h
 have j:∀r:List Nat,(r.flatMap λi=>(Q i).flatMap λe=>(zW e.tx).map λq=>((i:Int),q)).length≤32*r.length:=by
  intro r
  induction r with
  |nil=>simp
  |cons i r ih=>
   rw[List.flatMap_cons,length_append,length_cons]
   have m:∀l:List StE,(∀e∈l,e.tx.ins.length≤8)→(l.flatMap λe=>(zW e.tx).map λq=>((i:Int),q)).length≤8*l.length:=by
    intro l
    induction l with
    |nil=>simp
    |cons e l ih2=>
     intro c
     rw[List.flatMap_cons,length_append,length_cons,length_map,vJ]
     have:=ih2 (λe a=>c e (.tail _ a))
     have:=c e (.head _)
     omega
   have u:=m (Q i) ((d i).ins8)
   have v:=(d i).len
   omega
 have:=j (List.range 65)
 rw[List.length_range] at this
 omega
theorem zk4 (w:World) (cs:List Value) (a b c:Nat) {i:Int} (hi:i<0∨64<i):
  Calls prog 12 #[.pointer (some ⟨a,0,none⟩),.pointer (some ⟨b,0,none⟩),.pointer (some ⟨c,0,none⟩),.int .i64 i,.agg cs.toArray] w λe w'=>e=.returned (.int .i64 2)∧Fr No w w':=by
 have d:=J ((frN w).alloc (.cells cs.toArray 34))
 by_cases i1:i<0
 ·clear hi
  go_enter Tryz.func12,Tryz.ntmps12
  go_wp2_with fail
  go_ret
  exact⟨rfl,d.o⟩
 ·have f:64<i:=by omega
  clear hi
  go_enter Tryz.func12,Tryz.ntmps12
  go_wp2_with fail
  go_ret
  exact⟨rfl,d.o⟩
theorem zmG (hg:vj w) (h:yM w0 w ps ma ms R X C Q) (hX:∀j,X j→j<w.heap.size) (hp:yn w0p w pp mp mq g VG Y CP L N) (hc:Cn w0c w pc VC S bs I) (hS:∀c∈S,c.ok) {n:Nat} (hn:n<65) {t:TxD} {cs:List Value} (ht:Kept X w (λw=>TxQ w t cs)):
  Calls prog 12 #[.pointer (some ⟨ps,0,none⟩),.pointer (some ⟨pc,0,none⟩),.pointer (some ⟨pp,0,none⟩),.int .i64 n,.agg cs.toArray] w (V0 w0 w ps ma ms R X S I L Q n t):=by
 obtain⟨dT,uT,rT⟩:=zdw
 obtain⟨dS,uS,rS⟩:=zmp
 have zp:=vO
 have zh:=yR
 have zk:=zm7
 have cR:(n:Int)<65:=by omega
 have cQ:¬(64:Int)<(n:Int):=by omega
 have i0:(0:Int)≤(n:Int):=by omega
 have cP:¬(n:Int)<0:=by omega
 obtain⟨ia,ic,oa,oc,rfl⟩:=ht.now.form
 have HT:=J ht
 have HG:=J hg
 have s:=J h
 have F:=J hn
 have cf:=J hX
 have F1:=J ((frN w).alloc (.cells #[.int .u32 t.ver,.slice ia t.ins.length ic,.slice oa t.outs.length oc] 34))
 have R1:=J (qN w t.ver (.slice ia t.ins.length ic) (.slice oa t.outs.length oc)).2.2.2
 have ak:=J (XE _ ((HT.o.same F1.o.of0).now))
 have aT:=J (λw' (f:Fr No w w')=>Qz (HG.o.keep0 f) (HT.o w' f.of0))
 have aJ:=J (λw' (f:Fr No w w')=>zmE (h.fr0 f) (hp.fr0 f) (hc.fr0 f) hn (vG t))
 have bk:=J (λ(hchk:yF t=0) w' (f:Fr No w w')=>zmO (hg.keep0 f) (h.fr0 f) (hp.fr0 f) (hc.fr0 f) hS hn (HT.o w' f.of0) hchk)
 have au:=J (vG t)
 have XL:=J (zx au.o)
 have r:=J (JS (k:=((n:Int),idH t)) au.o)
 clear h hp hc ht hS hg hn hX
 show Calls prog 12 #[.pointer (some ⟨ps,0,none⟩),.pointer (some ⟨pc,0,none⟩),.pointer (some ⟨pp,0,none⟩),.int .i64 n,.agg #[.int .u32 t.ver,.slice ia t.ins.length ic,.slice oa t.outs.length oc]] w _
 by_cases c1:yF t=0
 rotate_left
 ·have LE:=J (zhR (S:=S) (I:=I) (L:=L) (l:=Q n) c1)
  have je:(yF t==0)=false:=by simpa using c1
  have b0:(yF t !=0)=true:=by simpa using c1
  have NE:=J c1
  clear c1
  unfold ju at ak
  generalize bQ:yF t=ce at*
  go_enter Tryz.func12,Tryz.ntmps12
  have⟨K0,K1⟩:=tZ2
  go_wp2_with ((first|((with_reducible refine zt ?_);clear K0;refine zn1 rfl rfl rfl R1.o rfl ?_;generalize w.alloc (.cells #[.int .u32 t.ver,.slice ia t.ins.length ic,.slice oa t.outs.length oc] 34)=wa at*)|(clear K1;go_at_call 32;refine ak.o.mono ?_;rintro e w3 ⟨rfl,f3⟩;have F3:=J (F1.o.trans0 f3);clear f3));go_frame)
  go_ret
  exact V0.bad F.o s.o LE.o NE.o F3.o
 unfold ju at ak
 rw[c1] at ak
 have FM:=J (JM c1).1
 have aU:=@J (idE t=0) (by unfold idE;rw[if_pos FM.o])
 have ay:=J (bk.o c1)
 clear bk
 unfold ziM at ay
 by_cases c2:jX I L (Q n) (idH t)=0
 rotate_left
 ·have LE:=J (zhS (S:=S) c1 c2)
  have NE:=J c2
  have je:(jX I L (Q n) (idH t)==0)=false:=by simpa using c2
  have b0:(jX I L (Q n) (idH t) !=0)=true:=by simpa using c2
  clear c1 c2
  generalize bQ:jX I L (Q n) (idH t)=ce at*
  go_enter Tryz.func12,Tryz.ntmps12
  have⟨K0,K1,K2,K3,K4,K5,K6,K7,K8,K9⟩:=tZ10
  go_wp2_with ((first|((with_reducible refine zt ?_);first|(clear K0;refine zn1 rfl rfl rfl R1.o rfl ?_;generalize aD:w.heap.size=U at*;generalize ag:w.alloc (.cells #[.int .u32 t.ver,.slice ia t.ins.length ic,.slice oa t.outs.length oc] 34)=wa at*;have Z1:=@J (U<wa.heap.size) (by rw[←ag,←aD];simp);clear ag)|(clear K2;refine zn1 rfl rfl rfl R3.o rfl ?_)|(clear K5;refine zn3 rfl rfl rfl ab.o XL.o ?_)|(clear K6;refine zg rfl (yP (t:=110) rfl rfl jg (Jg _ au.o) (jf _ _) r.o) ?_)|(clear K8;refine zg rfl (zZ (ty:=110) rfl rfl ad.o uS rS (by rw[r.o];exact zan)) ?_))|(clear K1;go_at_call 32;refine ak.o.mono ?_;rintro e w3 ⟨rfl,f3⟩;have F3:=J (F1.o.trans0 f3);have R3:=J (za R1.o f3 id);have Z3:=@J (U<w3.heap.size) (by have:=Z1.o;have:=f3.size;omega);clear f3;have ax:=J (aT.o _ F3.o))|(clear K3;go_at_call 15;refine ax.o.mono ?_;rintro e T ⟨rfl,f4⟩;rw[aU.o];have F4:=J (F3.o.trans0 f4);have R4:=J (za R3.o f4 id);have Z4:=@J (U<T.heap.size) (by have:=Z3.o;have:=f4.size;omega);clear f4;have ab:=J (zy T (zf (idH t)) 41);have aa:=J ((frN T).alloc (.cells (zf (idH t)).toArray 41)))|(clear K9;go_at_call 39;refine aw.o.mono ?_;rintro e w7 ⟨rfl,H⟩;have F7:=J (F6.o.trans0 H);have R7:=J (za R6.o H id);have aM:=J (za aB.o H id);have aN:=J (za ad.o H id);have Z7:=@J (W<w7.heap.size) (by have:=Z6.o;have:=H.size;omega);clear H;have aK:=J (ay.o w7 F7.o))|((with_reducible refine zv ?_);first|(clear K4;refine zob (w:=T) (cs:=zf (idH t)) rfl rfl rfl rfl XL.o zS ?_;generalize aE:T.heap.size=qh at*;generalize ah:T.alloc (.cells (zf (idH t)).toArray 41)=E at*;have Z5:=@J (qh<E.heap.size) (by rw[←ah,←aE];simp);clear ah;have F5:=J (F4.o.trans0 aa.o);have R5:=J (za R4.o aa.o id);have ad:=J (zaz E n (idH t));have B:=J ((frN E).alloc (.cells (skC (n,idH t)).toArray 110)))|(clear K7;refine zi rfl (zm (w:=E) (ty:=110) (cs:=skC (n,idH t)) rfl rfl rfl (by rw[r.o];rfl) (by rw[r.o];exact zan) zdT) ?_;generalize aF:E.heap.size=W at*;generalize ai:E.alloc (.cells (skC (n,idH t)).toArray 110)=w6 at*;have Z6:=@J (W<w6.heap.size) (by rw[←ai,←aF];simp);clear ai;have F6:=J (F5.o.trans0 B.o);have R6:=J (za R5.o B.o id);have aB:=J (za ab.o B.o id);have aw:=J (aJ.o w6 F6.o))));go_frame)
  go_ret
  exact V0.bad F.o s.o LE.o NE.o F7.o
 rw[c2] at aJ
 have K3:=J (zmF (S:=S) c1 c2)
 clear c2
 by_cases c3:Y9 S L (Q n) t=0
 rotate_left
 ·have NE:=J c3
  have je:(Y9 S L (Q n) t==0)=false:=by simpa using c3
  have b0:(Y9 S L (Q n) t !=0)=true:=by simpa using c3
  clear c1 c3
  generalize bQ:Y9 S L (Q n) t=ce at*
  go_enter Tryz.func12,Tryz.ntmps12
  have⟨K0,K1,K2,K3,K4,K5,K6,K7,K8,K9,aV,aW⟩:=tZ12
  go_wp2_with ((first|((with_reducible refine zt ?_);first|(clear K0;refine zn1 rfl rfl rfl R1.o rfl ?_;generalize aD:w.heap.size=U at*;generalize ag:w.alloc (.cells #[.int .u32 t.ver,.slice ia t.ins.length ic,.slice oa t.outs.length oc] 34)=wa at*;have Z1:=@J (U<wa.heap.size) (by rw[←ag,←aD];simp);clear ag)|(clear K2;refine zn1 rfl rfl rfl R3.o rfl ?_)|(clear K5;refine zn3 rfl rfl rfl ab.o XL.o ?_)|(clear K6;refine zg rfl (yP (t:=110) rfl rfl jg (Jg _ au.o) (jf _ _) r.o) ?_)|(clear K8;refine zg rfl (zZ (ty:=110) rfl rfl ad.o uS rS (by rw[r.o];exact zan)) ?_)|(clear aV;refine zn1 rfl rfl rfl R7.o rfl ?_))|(clear K1;go_at_call 32;refine ak.o.mono ?_;rintro e w3 ⟨rfl,f3⟩;have F3:=J (F1.o.trans0 f3);have R3:=J (za R1.o f3 id);have Z3:=@J (U<w3.heap.size) (by have:=Z1.o;have:=f3.size;omega);clear f3;have ax:=J (aT.o _ F3.o))|(clear K3;go_at_call 15;refine ax.o.mono ?_;rintro e T ⟨rfl,f4⟩;rw[aU.o];have F4:=J (F3.o.trans0 f4);have R4:=J (za R3.o f4 id);have Z4:=@J (U<T.heap.size) (by have:=Z3.o;have:=f4.size;omega);clear f4;have ab:=J (zy T (zf (idH t)) 41);have aa:=J ((frN T).alloc (.cells (zf (idH t)).toArray 41)))|(clear K9;go_at_call 39;refine aw.o.mono ?_;rintro e w7 ⟨rfl,H⟩;have F7:=J (F6.o.trans0 H);have R7:=J (za R6.o H id);have aM:=J (za aB.o H id);have aN:=J (za ad.o H id);have Z7:=@J (W<w7.heap.size) (by have:=Z6.o;have:=H.size;omega);clear H;have aK:=J (ay.o w7 F7.o))|(clear aW;go_at_call 40;refine aK.o.mono ?_;rintro e w8 ⟨rfl,f8⟩;have F8:=J (F7.o.trans0 f8);have R8:=J (za R7.o f8 id);have bB:=J (za aM.o f8 id);have bE:=J (za aN.o f8 id);have Z8:=@J (W<w8.heap.size) (by have:=Z7.o;have:=f8.size;omega);clear f8)|((with_reducible refine zv ?_);first|(clear K4;refine zob (w:=T) (cs:=zf (idH t)) rfl rfl rfl rfl XL.o zS ?_;generalize aE:T.heap.size=qh at*;generalize ah:T.alloc (.cells (zf (idH t)).toArray 41)=E at*;have Z5:=@J (qh<E.heap.size) (by rw[←ah,←aE];simp);clear ah;have F5:=J (F4.o.trans0 aa.o);have R5:=J (za R4.o aa.o id);have ad:=J (zaz E n (idH t));have B:=J ((frN E).alloc (.cells (skC (n,idH t)).toArray 110)))|(clear K7;refine zi rfl (zm (w:=E) (ty:=110) (cs:=skC (n,idH t)) rfl rfl rfl (by rw[r.o];rfl) (by rw[r.o];exact zan) zdT) ?_;generalize aF:E.heap.size=W at*;generalize ai:E.alloc (.cells (skC (n,idH t)).toArray 110)=w6 at*;have Z6:=@J (W<w6.heap.size) (by rw[←ai,←aF];simp);clear ai;have F6:=J (F5.o.trans0 B.o);have R6:=J (za R5.o B.o id);have aB:=J (za ab.o B.o id);have aw:=J (aJ.o w6 F6.o))));go_frame)
  go_ret
  exact V0.bad F.o s.o K3.o NE.o F8.o
 have KZ:=J (K3.o.trans c3)
 rw[c3] at ay
 clear c1 c3
 obtain⟨k1,k2,k3,k4,k5,k6,k7,k8,k9⟩:=keep0 KZ.o
 have bq:=J k2
 have bo:=J k5
 have cj:=J (λq hq=>(k6 q hq).1)
 have KL:=@J (Qg S I L (Q n) t=Q n++[⟨idH t,t⟩]) (by unfold Qg;rw[if_pos KZ.o])
 clear k1 k2 k3 k4 k5 k6 k7 k8 k9
 have ar:=J (y5.1 FM.o)
 go_enter Tryz.func12,Tryz.ntmps12
 have⟨K0,K1,K2,K3,K4,K5,K6,K7,K8,K9,aV,aW⟩:=tZ12
 go_wp2_with ((first|((with_reducible refine zt ?_);first|(clear K0;refine zn1 rfl rfl rfl R1.o rfl ?_;generalize aD:w.heap.size=U at*;generalize ag:w.alloc (.cells #[.int .u32 t.ver,.slice ia t.ins.length ic,.slice oa t.outs.length oc] 34)=wa at*;have Z1:=@J (U<wa.heap.size) (by rw[←ag,←aD];simp);clear ag)|(clear K2;refine zn1 rfl rfl rfl R3.o rfl ?_)|(clear K5;refine zn3 rfl rfl rfl ab.o XL.o ?_)|(clear K6;refine zg rfl (yP (t:=110) rfl rfl jg (Jg _ au.o) (jf _ _) r.o) ?_)|(clear K8;refine zg rfl (zZ (ty:=110) rfl rfl ad.o uS rS (by rw[r.o];exact zan)) ?_)|(clear aV;refine zn1 rfl rfl rfl R7.o rfl ?_))|(clear K1;go_at_call 32;refine ak.o.mono ?_;rintro e w3 ⟨rfl,f3⟩;have F3:=J (F1.o.trans0 f3);have R3:=J (za R1.o f3 id);have Z3:=@J (U<w3.heap.size) (by have:=Z1.o;have:=f3.size;omega);clear f3;have ax:=J (aT.o _ F3.o))|(clear K3;go_at_call 15;refine ax.o.mono ?_;rintro e T ⟨rfl,f4⟩;rw[aU.o];have F4:=J (F3.o.trans0 f4);have R4:=J (za R3.o f4 id);have Z4:=@J (U<T.heap.size) (by have:=Z3.o;have:=f4.size;omega);clear f4;have ab:=J (zy T (zf (idH t)) 41);have aa:=J ((frN T).alloc (.cells (zf (idH t)).toArray 41)))|(clear K9;go_at_call 39;refine aw.o.mono ?_;rintro e w7 ⟨rfl,H⟩;have F7:=J (F6.o.trans0 H);have R7:=J (za R6.o H id);have aM:=J (za aB.o H id);have aN:=J (za ad.o H id);have Z7:=@J (W<w7.heap.size) (by have:=Z6.o;have:=H.size;omega);clear H;have aK:=J (ay.o w7 F7.o))|(clear aW;go_at_call 40;refine aK.o.mono ?_;rintro e w8 ⟨rfl,f8⟩;have F8:=J (F7.o.trans0 f8);have R8:=J (za R7.o f8 id);have bB:=J (za aM.o f8 id);have bE:=J (za aN.o f8 id);have Z8:=@J (W<w8.heap.size) (by have:=Z7.o;have:=f8.size;omega);clear f8)|((with_reducible refine zv ?_);first|(clear K4;refine zob (w:=T) (cs:=zf (idH t)) rfl rfl rfl rfl XL.o zS ?_;generalize aE:T.heap.size=qh at*;generalize ah:T.alloc (.cells (zf (idH t)).toArray 41)=E at*;have Z5:=@J (qh<E.heap.size) (by rw[←ah,←aE];simp);clear ah;have F5:=J (F4.o.trans0 aa.o);have R5:=J (za R4.o aa.o id);have ad:=J (zaz E n (idH t));have B:=J ((frN E).alloc (.cells (skC (n,idH t)).toArray 110)))|(clear K7;refine zi rfl (zm (w:=E) (ty:=110) (cs:=skC (n,idH t)) rfl rfl rfl (by rw[r.o];rfl) (by rw[r.o];exact zan) zdT) ?_;generalize aF:E.heap.size=W at*;generalize ai:E.alloc (.cells (skC (n,idH t)).toArray 110)=w6 at*;have Z6:=@J (W<w6.heap.size) (by rw[←ai,←aF];simp);clear ai;have F6:=J (F5.o.trans0 B.o);have R6:=J (za R5.o B.o id);have aB:=J (za ab.o B.o id);have aw:=J (aJ.o w6 F6.o))));go_frame)
 have FD:=J F8.o.drew
 have HD:=J (s.o.fr0 FD.o)
 have RD:=J (za R8.o (frN w8).drew id)
 have cu:=J (za bB.o (frN w8).drew id)
 have bG:=J (za bE.o (frN w8).drew id)
 have ZD:=@J (W<w8.drew.heap.size) (Z8.o)
 have z:=@J (w.heap.size≤U∧U<qh∧qh<W) (⟨by omega,by have:=Z4.o;omega,by have:=Z5.o;omega⟩)
 have aI:=@J (∀j,stV ps ma ms R j→j<U) (λj u=>by have:=s.o.hi j u;omega)
 obtain⟨M,hM,hm⟩:=HD.o.am
 have HM:=J hM
 have cc:=J hm
 have bp:=J (zjE hM.nodup s.o.val hm)
 have TD:=J (HT.o _ FD.o.of0)
 clear hM hm
 refine wrLx [ff,ff,ff,ff,ff,ff,tt,tt] (λw'=>w'.cell? ⟨ps,0,none⟩=some (.map (some ma))∧w'.rangeAt W 0 (skC (n,idH t))∧w'.rangeAt U 0 [.int .u32 t.ver,.slice ia t.ins.length ic,.slice oa t.outs.length oc]) ?_ (λK hK=>?_)
 ·exact⟨HD.o.cells.1,bG.o,RD.o⟩
 generalize w8.drew=wd at*
 repeat((first|(refine zj rfl ?_;constructor;constructor;(focus(first|exact zn8 rfl (λw h=>h.2.1) r.o|exact yK (ty:=34) rfl (λw h=>h.2.2) uT rT yZ|(rintro w' ⟨s1,s2,s3⟩;go_simp;(try with_reducible rfl);done))))|(refine zl rfl ?_));try simp only[Act.put,pA,pB,pC])
 (refine zE rfl (λK' hK'=>?_))
 go_simp
 refine(zjT wd TD.o ⟨by have:=ar.o;omega,by have:=ar.o;omega,λx hx=>by have:=ar.o.1 x hx;omega⟩).mono ?_
 rintro e w9 ⟨cM,rfl,f9,a6⟩
 obtain⟨ja,jc,ka,kc,e9⟩:=(a6 (λ_=>False) (λ_ h=>h.elim)).now.form
 subst e9
 have aq:=J f9
 have F9:=J (FD.o.trans0 f9)
 have ch:=J a6
 clear f9 a6
 have R9:=J (za RD.o aq.o id)
 have ct:=J (za cu.o aq.o id)
 have bF:=J (za bG.o aq.o id)
 have H9:=J (HD.o.fr0 aq.o)
 have Z9:=@J (W<w9.heap.size) (by have:=ZD.o;have:=aq.o.size;omega)
 refine nXt hK' ?_ λhS=>?_
 ·exact⟨H9.o.cells.1,bF.o,R9.o⟩
 try simp only[Act.put,pA,pB,pC]
 obtain⟨D,M1,aH,bS,af,aG,a7⟩:=(HM.o.keep aq.o id).upd zmz.keyed zcf (λ_ _=>zdU) (zdE (k:=((n:Int),idH t)) (zak F.o) au.o) (show M.length<maxLen by unfold maxLen;have:=bp.o;omega) [.int .u32 t.ver,.slice ja t.ins.length jc,.slice ka t.outs.length kc]
 have bm:=J aH
 have FU:=J aG.fr
 have ca:=J bS
 have cC:=J af
 clear aH bS af aG a7
 unfold skV Qu at bm
 have AA:=J s.o.apart
 have RN:=J (s.o.rnot n F.o)
 have G:=@J (ps<U∧ma<U∧ms<U) (⟨aI.o _ (.inl rfl),aI.o _ (.inr (.inl rfl)),aI.o _ (.inr (.inr (.inl rfl)))⟩)
 have bw:=J (za R9.o FU.o (λe=>by have:=G.o;omega))
 have bx:=J (za ct.o FU.o (λe=>by have:=G.o;have:=z.o;omega))
 have bD:=J (za bF.o FU.o (λe=>by have:=G.o;have:=z.o;omega))
 have aA:=J (FU.o.obj H9.o.obj AA.o.1)
 have b6:=@J (D.cell? ⟨ps,0,none⟩=some (.map (some ma))) (by have:=zq aA.o 0 _ rfl;simpa using this)
 have bJ:=@J (∃M,Ym D ms M∧∀k x,(k,x)∈M↔∃i:Nat,i<65∧k.1=(i:Int)∧∃e∈Q i,k.2∈zW e.tx∧e.id=x) (by
  obtain⟨M2,A,v⟩:=H9.o.sm
  exact⟨M2,A.keep FU.o (λe=>AA.o.2.2 e.symm),v⟩)
 obtain⟨ra,rc,hR⟩:=s.o.row_form F.o
 have az:=J hR
 have aZ:=@J (D.ownsRow w0.heap.size 41 32 (.slice ra (Q n).length rc) (yV (Q n)).length ((yV (Q n)).flatMap zf)) (by
  rw[←hR]
  exact zb (H9.o.row n F.o) FU.o (λj u e=>(RN.o j u).2.1 e))
 have bd:=@J (D.cell? ⟨ps,1+n,none⟩=some (.slice ra (Q n).length rc)) (by have:=zq aA.o (1+n) _ (by rw[add_comm];exact VH F.o);rw[hR] at this;simpa using this)
 have b7:=@J (Fr (λj=>j=ma) w D) (F9.o.of0.trans FU.o (λ_ _ e=>e))
 have cE:=@J (W<D.heap.size) (by have:=Z9.o;have:=FU.o.size;omega)
 clear hR
 repeat((first|(refine zj rfl ?_;constructor;constructor;(focus(first|exact zn8 rfl (λw h=>h.2.1) r.o|exact yK (ty:=34) rfl (λw h=>h.2.2) uT rT yZ|(rintro w' ⟨s1,s2,s3⟩;go_simp;(try with_reducible rfl);done))))|(refine zl rfl ?_));try simp only[Act.put,pA,pB,pC])
 (refine zE rfl (λK' hK'=>?_))
 refine yN (y4 rfl rfl rfl rfl bm.o) ?_
 refine nXt hK' ?_ λhS=>?_
 ·exact⟨b6.o,bD.o,bw.o⟩
 try simp only[Act.put]
 refine zL (hK.out _ _ ?_)
 go_wp2_with fail
 have p:=J ((frN D).drew)
 have aY:=J (za bx.o p.o id)
 have RE:=J (za bw.o p.o id)
 have aR:=J (p.o.cell bd.o id)
 have bH:=J (zb aZ.o p.o (λ_ _=>id))
 have ck:=J (p.o.obj aA.o id)
 have cb:=J (ca.o.keep p.o id)
 have cx:=@J (∃M,Ym D.drew ms M∧∀k x,(k,x)∈M↔∃i:Nat,i<65∧k.1=(i:Int)∧∃e∈Q i,k.2∈zW e.tx∧e.id=x) (by
  obtain⟨M2,A,v⟩:=bJ.o
  exact⟨M2,A.keep p.o id,v⟩)
 have FE:=J (b7.o.trans0 p.o)
 have ZE:=@J (W<D.drew.heap.size) (cE.o)
 have cD:=@J (w0.heap.size≤w.heap.size) (s.o.fr.size)
 refine ym [ff,ff,ff,ff,ff,ff,ff,ff,ff,tt,tt,ff,ff,ff,tt] (λw'=>w'.cell? ⟨ps,1+n,none⟩=some (.slice ra (Q n).length rc)∧w'.rangeAt qh 0 (zf (idH t))) (by kernel_rfl) (by kernel_rfl) 14 (by kernel_rfl) (by kernel_rfl) ?_ (λK hK=>?_)
 ·exact⟨aR.o,aY.o⟩
 generalize D.drew=we at*
 obtain⟨cS,V,b1,b2,b3,-,b5⟩:=yX (P:=prog) we w0.heap.size 38 38 41 32 32 _ qi qI rfl (by decide) bH.o (zf (idH t)) XL.o zS (by rw[J2];have:=bo.o;omega) (by rw[J2];unfold maxLen;have:=bo.o;omega) (by have:=FE.o.size;have:=cD.o;omega)
 obtain⟨d,o,bY⟩:=b2.slice.arg.form
 subst bY
 have B1:=J b1
 have B2:=J b2
 have B3:=J b3
 have B5:=J b5
 clear b1 b2 b3 b5
 have al:=@J (∀j,(Value.slice ra (Q n).length rc).ownBlock=some j→j<U∧j≠ps∧j≠ma∧j≠ms) (λj u=>⟨by
  have:=aI.o j (.inr (.inr (.inr ⟨n,F.o,by rw[az.o];exact u⟩)));exact this,RN.o j (by rw[az.o];exact u)⟩)
 have bc:=J (B3.o.cell aR.o (λe=>(al.o _ e).2.1 rfl))
 have aQ:=J (za aY.o B3.o (λe=>by have:=(al.o _ e).1;have:=z.o;omega))
 have cp:=J (za RE.o B3.o (λe=>by have:=(al.o _ e).1;have:=z.o;omega))
 have aP:=J (B3.o.obj ck.o (λe=>(al.o _ e).2.1 rfl))
 have bh:=J (cb.o.keep B3.o (λe=>(al.o _ e).2.2.1 rfl))
 have bK:=@J (∃M,Ym V ms M∧∀k x,(k,x)∈M↔∃i:Nat,i<65∧k.1=(i:Int)∧∃e∈Q i,k.2∈zW e.tx∧e.id=x) (by
  obtain⟨M2,A,v⟩:=cx.o
  exact⟨M2,A.keep B3.o (λe=>(al.o _ e).2.2.2 rfl),v⟩)
 have cF:=@J (W<V.heap.size) (by have:=B3.o.size;have:=ZE.o;omega)
 repeat((first|(refine z7 rfl ?_;constructor;constructor;(focus(first|exact zn7 rfl (λw h=>h.2) XL.o|(rintro w' ⟨s1,s2⟩;go_simp;(try with_reducible rfl);done))))|(refine ya rfl ?_));try simp only[Act.put,pA,pB,pC])
 (refine z6 rfl (λK' hK'=>?_))
 refine yj (zU (t:=38) (cs:=zf (idH t)) rfl rfl qi vU rfl (by decide) (by decide) XL.o) ?_
 have FB:=J ((frN we).alloc (.cells (zf (idH t)).toArray 41))
 refine hK'.out _ _ (λ_=>?_) (λhS=>?_)
 ·exact⟨FB.o.cell aR.o id,za aY.o FB.o id⟩
 try simp only[Act.put,pA,pB,pC]
 (refine z6 rfl (λK' hK'=>?_))
 refine yw rfl rfl rfl B1.o ?_
 refine hK'.out _ _ (λ_=>?_) (λhS=>?_)
 ·exact⟨bc.o,aQ.o⟩
 try simp only[Act.put,pA,pB,pC]
 repeat((first|(refine z7 rfl ?_;constructor;constructor;(focus(first|(rintro w' ⟨s1,s2⟩;go_simp;(try with_reducible rfl);done))))|(refine ya rfl ?_));try simp only[Act.put,pA,pB,pC])
 have fz:V.frozen? ⟨ps,1+n,none⟩=false:=yl aP.o
 have cz:=bc.o
 (refine z6 rfl (λK' hK'=>?_))
 go_simp
 refine hK'.out _ _ (λh=>absurd rfl h) (λhS=>?_)
 refine xD (hK.out _ _ ?_)
 clear fz cz
 have FS:=@J (Fr (λj=>j=ps) V (V.setCell ⟨ps,1+n,none⟩ (.slice d ((yV (Q n)).length+1) o))) ((Fr.refl (λj=>j=ps) V).setCell ⟨ps,1+n,none⟩ (.inr rfl) _)
 have bt:=@J ((V.setCell ⟨ps,1+n,none⟩ (.slice d ((yV (Q n)).length+1) o)).heap[ps]? =some (.cells (stC ma ms (jq R n (.slice d ((yV (Q n)).length+1) o))).toArray 116 (0,0))) (by
  have cw:=heap_setCell_same V ps (1+n) _ _ (.slice d ((yV (Q n)).length+1) o) aP.o
  have:=zg8 (ma:=ma) (ms:=ms) (R:=R) F.o (.slice d ((yV (Q n)).length+1) o)
  rw[cw,add_comm 1 n]
  unfold jq
  rw[←this]
  simp)
 have an:=@J (∀j,(Value.slice d ((yV (Q n)).length+1) o).ownBlock=some j→((R n).ownBlock=some j∨we.heap.size≤j)∧j≠ps∧j≠ma∧j≠ms) (λj u=>by
  rcases B5.o j u with h|h
  ·exact⟨.inl (by rw[az.o];exact h),(al.o j h).2⟩
  ·exact⟨.inr h,by have:=G.o;have:=z.o;have:=ZE.o;omega⟩)
 generalize bZ:V.setCell ⟨ps,1+n,none⟩ (.slice d ((yV (Q n)).length+1) o)=aj at*
 clear bZ
 have cq:=J (za cp.o FS.o (λe=>by have:=G.o;omega))
 have bz:=J (za aQ.o FS.o (λe=>by have:=G.o;have:=z.o;omega))
 have bj:=J (bh.o.keep FS.o (λe=>AA.o.1 e.symm))
 have a1:=J (zb B2.o FS.o (λj u e=>(an.o j u).2.1 e))
 have bL:=@J (∃M,Ym aj ms M∧∀k x,(k,x)∈M↔∃i:Nat,i<65∧k.1=(i:Int)∧∃e∈Q i,k.2∈zW e.tx∧e.id=x) (by
  obtain⟨M2,A,v⟩:=bK.o
  exact⟨M2,A.keep FS.o (λe=>AA.o.2.1 e.symm),v⟩)
 have bg:=@J (Fr (Vd ps ma ms (R n)) w aj) (((FE.o.mono (λj e=>.inr (.inl e))).trans B3.o (λj _ e=>.inr (.inr (.inr (by rw[az.o];exact e))))).trans FS.o (λj _ e=>.inl e))
 have b8:=@J (Fr (λj=>j=ps∨j=ma∨(R n).ownBlock=some j) w9 aj) ((((show Fr (λj=>j=ps∨j=ma∨(R n).ownBlock=some j) w9 D from FU.o.mono (λj e=>.inr (.inl e))).trans0 p.o).trans B3.o (λj _ e=>.inr (.inr (by rw[az.o];exact e)))).trans FS.o (λj _ e=>.inl e))
 have bN:=@J (W<aj.heap.size) (by have:=FS.o.size;have:=cF.o;omega)
 have bM:=J (HT.o aj (bg.o.mono (λj e=>s.o.sub j (Je F.o j e))))
 have bb:=@J (∃M,vB aj ma M∧∀k cs,(k,cs)∈M↔∃i:Nat,i<65∧k.1=(i:Int)∧∃e∈vu Q n (Q n++[⟨idH t,t⟩]) i,e.id=k.2∧cs=zbY C n (idH t) [.int .u32 t.ver,.slice ja t.ins.length jc,.slice ka t.outs.length kc] i k.2) (⟨M1,bj.o,λk cs=>by
  rw[cC.o k cs,cc.o]
  constructor
  ·rintro(⟨rfl,rfl⟩|⟨A,i,hi,b,a,ha,av,ae⟩)
   ·refine⟨n,F.o,rfl,⟨idH t,t⟩,?_,rfl,(zau _ _ _ _).symm⟩
    rw[xB]
    exact List.mem_append_right _ (by simp)
   ·refine⟨i,hi,b,a,?_,av,?_⟩
    ·by_cases c:i=n
     ·subst c;rw[xB];exact List.mem_append_left _ ha
     ·rw[qD Q _ c];exact ha
    ·rw[ae,Yx]
     by_cases c:i=n
     ·subst c;exact .inr (λe=>A (Prod.ext b e))
     ·exact .inl c
  ·rintro⟨i,hi,b,a,ha,av,ae⟩
   by_cases c:i=n
   ·subst c
    rw[xB] at ha
    rcases mem_append.1 ha with ha|ha
    ·have aO:k.2≠idH t:=λe=>bq.o (by rw[←e,←av];exact mem_map.2 ⟨a,ha,rfl⟩)
     rw[Yx _ _ (.inr aO)] at ae
     exact .inr ⟨λe=>aO (by rw[e]),i,hi,b,a,ha,av,ae⟩
    ·obtain rfl:=mem_singleton.1 ha
     have cG:k=((i:Int),idH t):=Prod.ext b av.symm
     subst cG
     rw[zau] at ae
     exact .inl ⟨rfl,ae⟩
   ·rw[qD Q _ c] at ha
    rw[Yx _ _ (.inl c)] at ae
    exact .inr ⟨λe=>c (by have h:k.1=(n:Int):=congrArg Prod.fst e;omega),i,hi,b,a,ha,av,ae⟩⟩)
 have cd:=J (vY aj bM.o (by have:=ar.o;omega))
 have inl:=ar.o.2.1
 have⟨K0,K1⟩:=tZ2
 go_wp2_with ((first|((with_reducible refine zt ?_);clear K0;refine zn1 rfl rfl rfl cq.o rfl ?_)|(clear K1;go_at_call 33;refine cd.o.mono ?_;rintro e ba ⟨pv,rfl,a8,bO⟩;obtain⟨pa,b4,cI⟩:=a8.slice.arg.form;subst cI;have Z:=J bO;have PO:=J a8;clear bO a8));go_frame)
 have bu:=@J (∀q∈zW t,q.ok) (λq hq=>by obtain⟨y,hy,rfl⟩:=mem_map.1 hq;exact bM.o.oks.1 y hy)
 have aX:=J (vJ t)
 have cg:=@J (Xc ba ps ma ms (jq R n (.slice d ((yV (Q n)).length+1) o)) (zbY C n (idH t) [.int .u32 t.ver,.slice ja t.ins.length jc,.slice ka t.outs.length kc]) Q n (Q n++[⟨idH t,t⟩]) (idH t) (zW t) 0) (⟨Z.o.obj bt.o id,by
  obtain⟨M2,A,v⟩:=bb.o
  exact⟨M2,A.keep Z.o id,v⟩,by
  obtain⟨M2,A,v⟩:=bL.o
  exact⟨M2,A.keep Z.o id,λk y=>by rw[v];simp,by have:=ziy A.nodup s.o.val v;omega⟩⟩)
 have bA:=J (za bz.o Z.o id)
 have cm:=@J (∀j,(Value.slice pa t.ins.length b4).ownBlock=some j→aj.heap.size≤j) (λj u=>(PO.o.lt j u).1)
 have bf:=J (bg.o.trans0 Z.o)
 go_loopw [89] (λiv wi=>∃m:Nat,iv=.int .i64 m∧m≤t.ins.length∧Xc wi ps ma ms (jq R n (.slice d ((yV (Q n)).length+1) o)) (zbY C n (idH t) [.int .u32 t.ver,.slice ja t.ins.length jc,.slice ka t.outs.length kc]) Q n (Q n++[⟨idH t,t⟩]) (idH t) (zW t) m∧Fr (λj=>j=ms) ba wi) (λiv _=>t.ins.length-(intOf iv).toNat)
 case atStart=>exact⟨0,rfl,zero_le _,cg.o,Fr.refl _ _⟩
 case round=>
  obtain⟨m,rfl,hm,b,bR⟩:=hrel
  rename World=>wi
  have KI:=J b
  have FI:=J bR
  have cv:=J (za bA.o FI.o (λe=>by have:=G.o;have:=z.o;omega))
  clear b bR
  by_cases hmt:m<t.ins.length
  ·have i2:(m:Int)<(t.ins.length:Int):=by omega
   obtain⟨q,hq⟩:∃q,(zW t)[m]? =some q:=⟨_,getElem?_eq_getElem (by rw[aX.o];exact hmt)⟩
   have aL:=J (bu.o q (mem_of_getElem? hq))
   have cA:=J (cj.o q (mem_of_getElem? hq))
   have cn:=J (zb PO.o FI.o (λj u e=>by have:=cm.o j u;have:=G.o;have:=z.o;have:=bN.o;omega))
   have bW:xN wi (.slice pa t.ins.length b4) (zW t):=⟨bu.o,by rw[aX.o];exact cn.o.slice.arg⟩
   obtain⟨b2,cL,cK,e2,bX,-⟩:=bW.at_ hq
   injection e2 with e3 e4 e5
   subst e3
   have R2:=J bX
   have PL:=J (zY aL.o)
   have RQ:=J (zy wi (zn q) 95)
   have FQ:=J ((frN wi).alloc (.cells (zn q).toArray 95))
   have cy:=J (zbe (k:=((n:Int),q)) aL.o)
   have TK:=@J (∀y,y∈(zW t).take (m+1)↔y=q∨y∈(zW t).take m) (λy=>by
    rw[take_add_one,hq]
    simp[or_comm])
   have QZ:=@J (qh<wi.heap.size) (by have:=FI.o.size;have:=Z.o.size;have:=bN.o;have:=z.o;omega)
   clear bX hq e4 e5 bW
   have⟨K0,K1⟩:=tZ2
   go_wp2_with ((first|((with_reducible refine zt ?_);clear K0;refine zn4 rfl rfl rfl R2.o PL.o ?_)|((with_reducible refine zv ?_);clear K1;refine zoc (w:=wi) (cs:=zn q) rfl rfl rfl rfl PL.o yI ?_));go_frame)
   generalize cO:wi.heap.size=qq at*
   generalize cJ:wi.alloc (.cells (zn q).toArray 95)=wb at*
   have aS:=J FQ.o.drew
   have KD:=J (KI.o.fr0 aS.o)
   have bI:=J (za RQ.o (frN wb).drew id)
   have bC:=J (za cv.o aS.o id)
   clear cJ
   refine wrLx [ff,ff,ff,ff,ff,ff,ff,ff,tt] (λw'=>w'.cell? ⟨ps,66,none⟩=some (.map (some ms))∧w'.rangeAt qq 0 (zn q)∧w'.rangeAt qh 0 (zf (idH t))) ?_ (λK hK=>?_)
   ·exact⟨KD.o.c66,bI.o,bC.o⟩
   generalize wb.drew=z1 at*
   obtain⟨M2,bP,bT,cH⟩:=KD.o.sm
   obtain⟨E,M5,aH,bU,af,aG,a7⟩:=bP.upd zkT.keyed VR (λ_ _=>zbf) (za6 (k:=((n:Int),q)) (zak F.o) aL.o) (show M2.length<maxLen by unfold maxLen;have:=ar.o;omega) (idH t)
   have bl:=J aH
   have FM:=J aG.fr
   have br:=@J (ps≠ms∧ma≠ms) (⟨AA.o.2.1,AA.o.2.2⟩)
   have bn:=@J (Xc E ps ma ms (jq R n (.slice d ((yV (Q n)).length+1) o)) (zbY C n (idH t) [.int .u32 t.ver,.slice ja t.ins.length jc,.slice ka t.outs.length kc]) Q n (Q n++[⟨idH t,t⟩]) (idH t) (zW t) (m+1)) (⟨FM.o.obj KD.o.obj br.o.1,by
    obtain⟨Ma,A,v⟩:=KD.o.am
    exact⟨Ma,A.keep FM.o br.o.2,v⟩,⟨M5,bU,(λk y=>by
    rw[af k y,bT,TK.o]
    constructor
    ·rintro(⟨rfl,rfl⟩|⟨A,(⟨v,h3,h4⟩|v)⟩)
     ·exact .inl ⟨rfl,.inl rfl,rfl⟩
     ·exact .inl ⟨v,.inr h3,h4⟩
     ·exact .inr v
    ·rintro(⟨A,v,rfl⟩|v)
     ·by_cases e:k.2=q
      ·exact .inl ⟨Prod.ext A e,rfl⟩
      ·exact .inr ⟨λc=>e (by rw[c]),.inl ⟨A,v.resolve_left e,rfl⟩⟩
     ·refine .inr ⟨λc=>?_,.inr v⟩
      obtain⟨i,hi,b,e,O,ao,-⟩:=v
      subst c
      have cN:(n:Int)=(i:Int):=b
      have:i=n:=by omega
      subst this
      have h:=cA.o
      rw[YT.2 ⟨e,O,ao⟩] at h
      cases h),(by omega)⟩⟩)
   have F5:=@J (Fr (λj=>j=ms) ba E) ((FI.o.trans0 aS.o).trans FM.o (λj _ e=>e))
   have R5:=J (za bI.o FM.o (λe=>by have:=G.o;have:=z.o;have:=QZ.o;omega))
   have cr:=J (za bC.o FM.o (λe=>by have:=G.o;have:=z.o;omega))
   clear aH bU af aG a7 bP bT cH
   unfold spV xp at bl
   repeat((first|(refine zj rfl ?_;constructor;constructor;(focus(first|exact zn6 rfl (λw h=>h.2.1) PL.o|exact zn7 rfl (λw h=>h.2.2) XL.o|exact λw' _=>yP (t:=118) rfl rfl zbX (zdA _ aL.o) (zbT _ _) cy.o|(rintro w' ⟨s1,s2,s3⟩;go_simp;(try with_reducible rfl);done))))|(refine zl rfl ?_));try simp only[Act.put,pA,pB,pC])
   (refine zE rfl (λK' hK'=>?_))
   refine yN (y4 rfl rfl rfl rfl bl.o) ?_
   refine nXt hK' ?_ λhS=>?_
   ·exact⟨bn.o.c66,R5.o,cr.o⟩
   try simp only[Act.put]
   refine zL (hK.out _ _ ?_)
   go_wp2_with fail
   go_roundw
   case rel=>exact⟨m+1,by go_num,by omega,bn.o,F5.o⟩
   case measure=>simp[intOf];omega
  ·have bV:m=t.ins.length:=by omega
   have i2:¬(m:Int)<(t.ins.length:Int):=by omega
   have cB:=@J ((zW t).take m=zW t) (by rw[bV,←aX.o,take_length])
   clear bV
   go_wp2_with fail
   go_ret
   have FT:Fr (Vd ps ma ms (R n)) w wi:=bf.o.trans FI.o (λj _ e=>.inr (.inr (.inl e)))
   have b9:Fr (λj=>j=ps∨j=ma∨j=ms∨(R n).ownBlock=some j) w9 wi:=((b8.o.mono (λj e=>e.elim .inl (λe=>.inr (e.elim .inl (λe=>.inr (.inr e)))))).trans0 Z.o).trans FI.o (λj _ e=>.inr (.inr (.inl e)))
   have WQ:w.heap.size≤we.heap.size:=by have:=z.o;have:=ZE.o;omega
   refine⟨by rw[KZ.o];rfl,FT,.slice d ((yV (Q n)).length+1) o,zbY C n (idH t) [.int .u32 t.ver,.slice ja t.ins.length jc,.slice ka t.outs.length kc],λj u=>(an.o j u).1.imp_right (λh=>le_trans WQ h),?_⟩
   rw[KL.o]
   refine s.o.upd F.o FT KI.o.obj ?_ KI.o.am ?_ (λe O=>?_) (λi hi=>?_) ?_ (λj u=>(an.o j u).1.imp_right (λh=>le_trans WQ h)) (λj u e=>?_) (λj u=>?_)
   ·have e1:yV (Q n++[⟨idH t,t⟩])=yV (Q n)++[idH t]:=by simp[yV]
    rw[e1,length_append,List.length_singleton,List.flatMap_append]
    have A:=zb (zb a1.o Z.o (λ_ _=>id)) FI.o (λj u e=>(an.o j u).2.2.2 e)
    simpa using A
   ·obtain⟨M2,A,v,-⟩:=KI.o.sm
    refine⟨M2,A,λk y=>?_⟩
    rw[v,cB.o]
    constructor
    ·rintro(⟨h3,h4,rfl⟩|⟨i,hi,b,e,O,ao,aC⟩)
     ·refine⟨n,F.o,h3,⟨idH t,t⟩,?_,h4,rfl⟩
      rw[xB]
      exact List.mem_append_right _ (by simp)
     ·refine⟨i,hi,b,e,?_,ao,aC⟩
      by_cases c:i=n
      ·subst c;rw[xB];exact List.mem_append_left _ O
      ·rw[qD Q _ c];exact O
    ·rintro⟨i,hi,b,e,O,ao,aC⟩
     by_cases c:i=n
     ·subst c
      rw[xB] at O
      rcases mem_append.1 O with O|O
      ·exact .inr ⟨i,hi,b,e,O,ao,aC⟩
      ·obtain rfl:=mem_singleton.1 O
       exact .inl ⟨b,ao,aC.symm⟩
     ·rw[qD Q _ c] at O
      exact .inr ⟨i,hi,b,e,O,ao,aC⟩
   ·rcases mem_append.1 O with O|O
    ·have aO:e.id≠idH t:=λc=>bq.o (by rw[←c];exact mem_map.2 ⟨e,O,rfl⟩)
     rw[Yx _ _ (.inr aO)]
     refine(s.o.data n F.o e O).step (FT.mono (λj c=>s.o.sub j (Je F.o j c))) (λj u c=>c.elim id (λc=>?_))
     rcases(an.o j c).1 with h|h
     ·exact s.o.sub j (.inr (.inr (.inr ⟨n,F.o,h⟩)))
     ·omega
    ·obtain rfl:=mem_singleton.1 O
     rw[zau]
     refine(ch.o X (λj u=>by have:=cf.o j u;have:=FD.o.size;omega)).step (b9.mono (λj c=>?_)) (λj u c=>c.elim id (λc=>?_))
     ·rcases c with c|c|c|c
      ·exact s.o.sub j (.inl c)
      ·exact s.o.sub j (.inr (.inl c))
      ·exact s.o.sub j (.inr (.inr (.inl c)))
      ·exact s.o.sub j (.inr (.inr (.inr ⟨n,F.o,c⟩)))
     ·rcases(an.o j c).1 with h|h
      ·exact s.o.sub j (.inr (.inr (.inr ⟨n,F.o,h⟩)))
      ·have A:=FU.o.size
       have v:=p.o.size
       omega
   ·funext y
    exact Yx _ _ (.inl hi)
   ·have:=(s.o.val n).keep (S:=S) (I:=I) (L:=L) t
    rw[KL.o] at this
    exact this
   ·rcases e with e|e
    ·exact e
    ·rcases(an.o j e).1 with h|h
     ·exact s.o.sub j (.inr (.inr (.inr ⟨n,F.o,h⟩)))
     ·omega
   ·rcases u with e|e|e|⟨i,hi,e⟩
    ·exact .inl (s.o.sub j (.inl e))
    ·exact .inl (s.o.sub j (.inr (.inl e)))
    ·exact .inl (s.o.sub j (.inr (.inr (.inl e))))
    ·unfold jq at e
     by_cases c:i=n
     ·rw[if_pos c] at e
      exact .inr e
     ·rw[if_neg c] at e
      exact .inl (s.o.sub j (.inr (.inr (.inr ⟨i,hi,e⟩))))
end
def iV (n:Nat):Value:=.int .i64 (n:Int)
theorem zbh:prog.underlying 58=some (.slice 3):=by kernel_rfl
theorem zeI:(prog.info? 3).map (λi=>(i.zero,i.size,i.bytes))=some (some (.int .i64 0),1,8):=by kernel_rfl
theorem zcR:(prog.info? 3).map (λi=>(i.zero,i.size))=some (some (.int .i64 0),1):=by kernel_rfl
theorem zkQ:∃d,prog.underlying 63=some d∧d.isRow=true:=vK (by kernel_rfl)
theorem zk3:(prog.info? 63).map (·.size)=some 65:=by kernel_rfl
theorem zk1 {l:List Value} (e:l.length=65) {k:Nat} {v:Value} (b:l[k]? =some v) (w:World):(Instr.index 63 (.agg l.toArray) (.int .i64 k)).run prog w=.ok v w:=by
 have a:k<65:=by have:=(List.getElem?_eq_some_iff.1 b).1;omega
 have c:(0≤(k:Int)∧(k:Int)<((65:Nat):Int)):=by omega
 have d:(sizeOf 38).run prog w=.ok 1 w:=by kernel_rfl
 simp[Instr.index,run_underlying Tryz.underlying63,asIntOf,c,d,part,go_sem,a,b]
section
variable {w0 w w':World} {p ma ms:Nat} {R:Nat→Value} {X:Nat→Prop} {C:Nat→zd→List Value} {Q:StQ}
def zcb (Q:StQ) (k:Nat):List Nat:=(List.range k).filter λi=>decide (Q i≠[])
theorem zkf (Q:StQ) (k:Nat):(zcb Q k).length≤k:=by
 have:=List.length_filter_le (λi=>decide (Q i≠[])) (List.range k)
 rw[List.length_range] at this
 exact this
theorem zlA {k:Nat} (h:Q k=[]):zcb Q (k+1)=zcb Q k:=by
 unfold zcb
 rw[List.range_succ,filter_append]
 simp[h]
theorem zkg {k:Nat} (h:Q k≠[]):zcb Q (k+1)=zcb Q k++[k]:=by
 unfold zcb
 rw[List.range_succ,filter_append]
 simp[h]
theorem zit (h:yM w0 w p ma ms R X C Q):
  Calls prog 21 #[.pointer (some ⟨p,0,none⟩)] w λe w'=>∃o,e=.returned o∧w'.ownsRow w.heap.size 3 1 o (ZO Q).length ((ZO Q).map iV)∧Fr No w w':=by
 obtain⟨dO,uO,Z⟩:=zkQ
 have D:=@J (w.rangeAt p 1 ((List.range 65).map R)) (λj v f=>by
  have b:j<65:=by have:=(List.getElem?_eq_some_iff.1 f).1;simpa using this
  have Y:=h.cells.2.2 j b
  rw[List.getElem?_map,List.getElem?_range b] at f
  simp at f
  rw[←f,add_comm]
  exact Y)
 obtain⟨q,a⟩:∃q,(List.range 65).map R=q:=⟨_,rfl⟩
 have B:=@J (q.length=65) (by rw[←a];simp)
 have T:=J (λ(k:Nat) (g:k<65) (w:World)=>zk1 (l:=q) (v:=R k) B.o (by rw[←a,List.getElem?_map,List.getElem?_range g];rfl) w)
 have V:=J (λ(k:Nat) (g:k<65)=>h.row_form g)
 rw[a] at D
 clear h a
 go_enter Tryz.func21,Tryz.ntmps21
 have r:=tru
 go_wp2_with ((with_reducible refine zt ?_);clear r;refine zg rfl (zZ (ty:=63) rfl rfl D.o uO Z (by rw[B.o];exact zk3)) ?_;go_frame)
 go_loopw [3,12] (λo y wr=>∃(k:Nat) (m:Option Addr) (n:Nat),y=.int .i64 k∧k≤65∧o=.slice m (zcb Q k).length n∧wr.ownsRow w.heap.size 3 1 (.slice m (zcb Q k).length n) (zcb Q k).length ((zcb Q k).map iV)∧Fr No w wr) (λ_ y _=>65-(intOf y).toNat)
 case atStart=>exact⟨0,none,0,rfl,by omega,rfl,World.ownsRow_nil _ _ _ _,Fr.refl _ _⟩
 case round=>
  obtain⟨k,m,n,rfl,g,rfl,K,fr⟩:=hrel
  have O:=J K
  have d:=J fr
  clear K fr
  by_cases hlt:k<65
  ·have i1:(k:Int)<65:=by omega
   obtain⟨ra,rc,H⟩:=V.o k hlt
   have L:=T.o k hlt
   rw[H] at L
   clear H
   by_cases hq:Q k=[]
   ·have c:=J (zlA hq)
    have I:(Q k).length=0:=by rw[hq];rfl
    rw[I] at L
    clear hq I
    go_wp2_with fail
    go_roundw
    case rel=>exact⟨k+1,m,n,by go_num,by omega,by rw[c.o],by rw[c.o];exact O.o,d.o⟩
    case measure=>simp[intOf];omega
   ·have c:=J (zkg hq)
    have i2:(0:Int)<((Q k).length:Int):=by have:=List.length_pos_iff.2 hq;omega
    have E:=J (zkf Q k)
    clear hq
    obtain⟨v8,w8,F,s,G,-,W⟩:=yX (P:=prog) wr w.heap.size 58 58 3 1 8 _ zbh zeI rfl (by decide) O.o [.int .i64 k] rfl (by simp[Value.oneCell']) (by have:=E.o;omega) (by have:=E.o;unfold maxLen;omega) d.o.size
    obtain⟨z,A,x⟩:=s.slice.arg.form
    subst x
    have M:=J F
    have N:=J s
    have S:=J G
    clear F s G W
    have⟨r,U⟩:=tZ2
    go_wp2_with (((with_reducible refine zt ?_);first|(clear r;refine zg rfl (JN (t:=58) (v:=.int .i64 k) rfl rfl zbh zcR rfl (by decide) (by decide) rfl) ?_)|(clear U;at_builtin;refine zR rfl rfl rfl rfl M.o ?_));go_frame)
    go_roundw
    case rel=>exact⟨k+1,z,A,by go_num,by omega,by rw[c.o];simp,by rw[c.o];simpa[iV] using N.o,d.o.trans S.o (λi hi e=>by have:=(O.o.lt i e).1;omega)⟩
    case measure=>simp[intOf];omega
  ·have u:k=65:=by omega
   subst u
   go_wp2_with fail
   go_ret
   exact⟨_,rfl,O.o,d.o⟩
end
def Jb (Q:StQ) (x:zd) (k:Nat):StQ:=λj=>if j<k then Vc (Q j) x else Q j
def jh (Q:StQ) (x:zd) (k:Nat):List Nat:=(List.range k).filter λi=>decide (x∈yV (Q i))
theorem zc6 (Q:StQ) (x:zd) (k:Nat):(jh Q x k).length≤k:=by
 have:=List.length_filter_le (λi=>decide (x∈yV (Q i))) (List.range k)
 rw[List.length_range] at this
 exact this
theorem zkc {Q:StQ} {x:zd} {k:Nat} (h:x∉yV (Q k)):jh Q x (k+1)=jh Q x k:=by
 unfold jh
 rw[List.range_succ,filter_append]
 simp[h]
theorem zin {Q:StQ} {x:zd} {k:Nat} (h:x∈yV (Q k)):jh Q x (k+1)=jh Q x k++[k]:=by
 unfold jh
 rw[List.range_succ,filter_append]
 simp[h]
theorem zgj (Q:StQ) (x:zd):Jb Q x 0=Q:=by
 funext j
 unfold Jb
 rw[if_neg (by omega)]
theorem zb4 (Q:StQ) (x:zd) (k:Nat):Jb Q x k k=Q k:=by
 unfold Jb
 rw[if_neg (by omega)]
theorem zkM {l:List StE} {x:zd} (h:x∉yV l):Vc l x=l:=by
 unfold Vc
 rw[List.filter_eq_self]
 intro e a
 simp only[decide_eq_true_eq]
 exact λc=>h (by rw[←c];exact mem_map.2 ⟨e,a,rfl⟩)
theorem zkb {Q:StQ} {x:zd} {k:Nat} (h:x∉yV (Q k)):Jb Q x (k+1)=Jb Q x k:=by
 funext j
 unfold Jb
 by_cases e:j=k
 ·subst e
  rw[if_pos (by omega),if_neg (by omega),zkM h]
 ·by_cases c:j<k
  ·rw[if_pos (by omega),if_pos c]
  ·rw[if_neg (by omega),if_neg c]
theorem zim (Q:StQ) (x:zd) (k:Nat):vu (Jb Q x k) k (Vc (Q k) x)=Jb Q x (k+1):=by
 funext j
 unfold Jb vu
 dsimp only
 by_cases e:j=k
 ·subst e
  rw[if_pos rfl,if_pos (by omega)]
 ·rw[if_neg e]
  by_cases c:j<k
  ·rw[if_pos c,if_pos (by omega)]
  ·rw[if_neg c,if_neg (by omega)]
section
variable {w0 w w':World} {p ma ms:Nat} {R:Nat→Value} {X:Nat→Prop} {C:Nat→zd→List Value} {Q:StQ}
theorem zko:∀v∈zft,v.oneCell'=true:=qM rfl rfl rfl
theorem zi6 (h:yM w0 w p ma ms R X C Q) {n:Nat} (b:n<65) (x:zd):(Yn C Q n x).length=3∧∀v∈Yn C Q n x,v.oneCell'=true:=by
 unfold Yn
 split
 ·rename_i hm
  unfold qt at hm
  simp only[decide_eq_true_eq] at hm
  rw[Int.toNat_natCast] at hm⊢
  obtain⟨e,a,rfl⟩:=mem_map.1 hm.2.2
  exact YV (h.data n b e a).now
 ·exact⟨rfl,zko⟩
theorem zh0 (Q:StQ) {n:Nat} (b:n<65) (x:zd):qt Q n x=decide (x∈yV (Q n)):=by
 unfold qt
 rw[Int.toNat_natCast]
 by_cases hx:x∈yV (Q n)
 ·have a:(n:Int)<65:=by omega
  simp[hx,a]
 ·simp[hx]
def zgC (w0 w4:World) (p ma ms:Nat) (R:Nat→Value) (X:Nat→Prop) (C:Nat→zd→List Value) (Q:StQ) (x:zd) (k:Nat) (lv:Value) (wr:World):Prop:=
 ∃Rk,yM w0 wr p ma ms Rk X C (Jb Q x k)∧(∀i j,(Rk i).ownBlock=some j→(R i).ownBlock=some j)∧wr.ownsRow w4.heap.size 3 1 lv (jh Q x k).length ((jh Q x k).map iV)∧Fr (stV p ma ms R) w4 wr
theorem zmW (h:yM w0 w p ma ms R X C Q) {x:zd} (hx:zX x):
  Calls prog 23 #[.pointer (some ⟨p,0,none⟩),.agg (zf x).toArray] w λe w'=>∃lv,e=.returned lv∧w'.ownsRow w.heap.size 3 1 lv (jh Q x 65).length ((jh Q x 65).map iV)∧Fr (stV p ma ms R) w w'∧∃I,(∀i j,(I i).ownBlock=some j→(R i).ownBlock=some j)∧yM w0 w' p ma ms I X C (Jb Q x 65):=by
 have zT:=jA
 have m:=J hx
 have XL:=J (zx hx)
 have HH:=J h
 have F1:=J ((frN w).alloc (.cells (zf x).toArray 41))
 have RK:=J (zy w (zf x) 41)
 have y:=@J (∀j,stV p ma ms R j→j<w.heap.size) (h.hi)
 clear h hx
 go_enter Tryz.func23,Tryz.ntmps23
 go_wp2_with fail
 generalize ao:w.heap.size=q0 at*
 generalize H:w.alloc (.cells (zf x).toArray 41)=f at*
 have Y:=@J (f.heap.size=q0+1) (by rw[←H,←ao];simp)
 clear H
 have H4:=J (HH.o.fr0 F1.o)
 obtain⟨l,d⟩:∃l:Nat→Prop,l=λj=>X j∨f.heap.size≤j:=⟨_,rfl⟩
 have ak:=@J (∀j,f.heap.size≤j→l j) (λj a=>by rw[d];exact .inr a)
 have al:=@J (∀j,X j→l j) (λj a=>by rw[d];exact .inl a)
 have ah:=@J (yM w0 f p ma ms R l C Q) (H4.o.frV (frN f) (λ_ _=>id) (λ_ h=>h.elim) (λ_ h=>h.elim) (λj a e=>by rw[d] at e;exact e.resolve_right (by omega)) (λj a=>by rw[d];exact .inl (H4.o.sub j a)))
 clear d
 have g:=@J (∀I:Nat→Value,(∀i j,(I i).ownBlock=some j→(R i).ownBlock=some j)→∀j,stV p ma ms I j→stV p ma ms R j) (λI hv j a=>by
  rcases a with e|e|e|⟨i,hi,e⟩
  ·exact .inl e
  ·exact .inr (.inl e)
  ·exact .inr (.inr (.inl e))
  ·exact .inr (.inr (.inr ⟨i,hi,hv i j e⟩)))
 have aj:=@J (zgC w0 f p ma ms R l C Q x 0 (.slice none 0 0) f) (⟨R,by rw[zgj];exact ah.o,λi j h=>h,World.ownsRow_nil _ _ _ _,Fr.refl _ _⟩)
 go_loopw [5,11] (λlv iv wr=>∃(k:Nat) (L:Option Addr) (N:Nat),iv=.int .i64 k∧k≤65∧lv=.slice L (jh Q x k).length N∧zgC w0 f p ma ms R l C Q x k (.slice L (jh Q x k).length N) wr) (λ_ iv _=>65-(intOf iv).toNat)
 case atStart=>exact⟨0,none,0,rfl,by omega,rfl,aj.o⟩
 case round=>
  obtain⟨k,L,N,rfl,hk,rfl,E,ab,u,s,aa⟩:=hrel
  have ST:=J ab
  have F:=J u
  have D:=J s
  have FR:=J aa
  clear ab u s aa
  have ai:=J (za RK.o FR.o (λe=>by have:=y.o _ e;omega))
  have b:=@J (∀j,(Value.slice L (jh Q x k).length N).ownBlock=some j→q0+1≤j∧j<wr.heap.size) (λj a=>by have:=D.o.lt j a;have:=Y.o;omega)
  by_cases hlt:k<65
  ·have i1:(k:Int)<65:=by omega
   have W:=J (JS (k:=((k:Int),x)) m.o)
   obtain⟨cs,G⟩:∃cs,Yn C (Jb Q x k) k x=cs:=⟨_,rfl⟩
   have n:=zi6 ST.o hlt x
   rw[G] at n
   have O:=J n.1
   have ag:=J n.2
   have FD:=J ((frN wr).drew)
   have S:=J (ST.o.fr0 FD.o)
   have RD:=J (za ai.o FD.o id)
   obtain⟨M,hM,hm⟩:=S.o.am
   have HM:=J hM
   have LK:=@J (∀w',vB w' ma M→(Instr.lookup 113 (.map (some ma)) (.agg (skC (k,x)).toArray) true).run prog w'=.ok (.tuple #[.agg cs.toArray,.bool (decide (x∈yV (Q k)))]) w') (λw' h'=>by
    have:=Yb (w:=w') (zak hlt) m.o h' hm true
    rw[G,zh0 _ hlt,zb4] at this
    simpa using this)
   clear hM hm G n
   have A:=J hlt
   generalize H:wr=wa at*
   go_wp2_with fail
   refine wrLx [ff,ff,ff,ff,ff,ff,ff,ff,ff,ff,ff,tt,tt,ff] (λw'=>w'.cell? ⟨p,0,none⟩=some (.map (some ma))∧w'.rangeAt q0 0 (zf x)∧vB w' ma M) ?_ (λK hK=>?_)
   ·exact⟨S.o.cells.1,RD.o,HM.o⟩
   generalize wa.drew=o at*
   repeat((first|(refine zj rfl ?_;constructor;constructor;(focus(first|exact zn7 rfl (λw h=>h.2.1) XL.o|exact λw' _=>yP (t:=110) rfl rfl jg (Jg _ m.o) (jf _ _) W.o|exact λw' h=>zQ (t:=113) rfl rfl rfl (LK.o w' h.2.2)|(rintro w' ⟨s1,s2,s3⟩;go_simp;(try with_reducible rfl);done))))|(refine zl rfl ?_));try simp only[Act.put,pA,pB,pC])
   (refine zE rfl (λK' hK'=>?_))
   refine yj (yA rfl (jA _)) ?_
   refine nXt hK' ?_ λhS=>?_
   ·exact⟨((frN o).alloc _).cell S.o.cells.1 id,za RD.o ((frN o).alloc _) id,HM.o.keep ((frN o).alloc _) id⟩
   try simp only[Act.put,pA,pB,pC]
   (refine zE rfl (λK' hK'=>?_))
   refine yN (zm (w:=o) (ty:=34) (cs:=cs) rfl rfl rfl (by rw[O.o];rfl) (by rw[O.o];exact yZ) ag.o) ?_
   refine nXt hK' ?_ λhS=>?_
   ·exact⟨((frN o).alloc _).cell S.o.cells.1 id,za RD.o ((frN o).alloc _) id,HM.o.keep ((frN o).alloc _) id⟩
   try simp only[Act.put]
   repeat((first|(refine zj rfl ?_;constructor;constructor;(focus(first|(rintro w' -;go_simp;(try with_reducible rfl);done))))|(refine zl rfl ?_));try simp only[Act.put,pA,pB,pC])
   refine zL (hK.out _ _ ?_)
   have FE:=J ((frN o).alloc (.cells cs.toArray 34))
   have HE:=J (S.o.fr0 FE.o)
   have RE:=J (za RD.o FE.o id)
   have z:=J ((FR.o.trans0 FD.o).trans0 FE.o)
   have q:=J (zb (zb D.o FD.o (λ_ _=>id)) FE.o (λ_ _=>id))
   generalize o.alloc (.cells cs.toArray 34)=we at*
   by_cases hin:x∈yV (Q k)
   ·rw[decide_eq_true hin]
    have U:=J (zin hin)
    have T:=J (zc6 Q x k)
    obtain⟨e,he,Z⟩:=mem_map.1 hin
    have ct:=zlX HE.o A.o (show e∈Jb Q x k k by rw[zb4];exact he)
    rw[Z,zb4,zim] at ct
    have CT:=J ct
    clear ct hin he Z
    have⟨K0,K1,K2,K3,K4⟩:=tZ5
    go_wp2_with ((first|((with_reducible refine zt ?_);first|(clear K0;refine zn3 rfl rfl rfl RE.o XL.o ?_)|(clear K1;refine zg rfl (yP (t:=110) rfl rfl jg (Jg _ m.o) (jf _ _) W.o) ?_)|(clear K3;refine zg rfl (JN (t:=58) (v:=.int .i64 k) rfl rfl zbh zcR rfl (by decide) (by decide) rfl) ?_)|(clear K4;at_builtin;refine zR rfl rfl rfl rfl B1.o ?_))|(clear K2;go_at_call 44;refine CT.o.mono ?_;rintro e' w9 ⟨rfl,f9,v9,ad,s9⟩;have F9:=J f9;have V9:=J ad;have S9:=J s9;clear f9 ad s9;have V:=J (zb q.o F9.o (λj a e=>by have h1:=(b.o j a).1;have h2:=y.o j (g.o E F.o j (Je A.o j e));omega));obtain⟨v8,w8,b1,b2,b3,-,b5⟩:=yX (P:=prog) w9 f.heap.size 58 58 3 1 8 _ zbh zeI rfl (by decide) V.o [.int .i64 k] rfl (by simp[Value.oneCell']) (by have:=T.o;omega) (by have:=T.o;unfold maxLen;omega) (by have:=z.o.size;have:=F9.o.size;omega);obtain⟨ae,af,aq⟩:=b2.slice.arg.form;subst aq;have B1:=J b1;have B2:=J b2;have B3:=J b3;clear b1 b2 b3 b5));go_frame)
    have r:=@J (∀i j,(jq E k v9 i).ownBlock=some j→(R i).ownBlock=some j) (λi j a=>by
     unfold jq at a
     by_cases c:i=k
     ·rw[if_pos c] at a;subst c;exact F.o i j (V9.o j a)
     ·rw[if_neg c] at a;exact F.o i j a)
    have B:=@J (zgC w0 f p ma ms R l C Q x (k+1) (.slice ae (jh Q x (k+1)).length af) w8) (by
     refine⟨jq E k v9,S9.o.frV B3.o (λj a e=>?_) (λj e=>?_) (λj e=>ak.o j ?_) (λ_ _ h=>h) S9.o.sub,r.o,?_,?_⟩
     ·have h1:=(b.o j e).1
      have h2:=y.o j (g.o _ r.o j a)
      omega
     ·have h1:=(b.o j e).1
      have h2:=H4.o.fr.size
      have:=Y.o
      omega
     ·have h1:=(b.o j e).1
      have:=Y.o
      omega
     ·rw[U.o]
      simpa[iV] using B2.o
     ·exact(z.o.trans F9.o (λj _ e=>g.o E F.o j (Je A.o j e))).trans B3.o (λj a e=>by have h1:=(b.o j e).1;have:=Y.o;omega))
    go_roundw
    case rel=>exact⟨k+1,ae,af,by go_num,by omega,by rw[U.o];simp,B.o⟩
    case measure=>simp[intOf];omega
   ·rw[decide_eq_false hin]
    have U:=J (zkc hin)
    have B:=@J (zgC w0 f p ma ms R l C Q x (k+1) (.slice L (jh Q x (k+1)).length N) we) (⟨E,by rw[zkb hin];exact HE.o,F.o,by rw[U.o];exact q.o,z.o⟩)
    clear hin
    go_wp2_with fail
    go_roundw
    case rel=>exact⟨k+1,L,N,by go_num,by omega,by rw[U.o],B.o⟩
    case measure=>simp[intOf];omega
  ·have an:k=65:=by omega
   subst an
   go_wp2_with fail
   go_ret
   refine⟨_,rfl,xj D.o (by have:=Y.o;omega),F1.o.of0.trans FR.o (λ_ _ e=>e),E,F.o,?_⟩
   exact ST.o.frV (frN _) (λ_ _=>id) (λ_ h=>h.elim) (λ_ h=>h.elim) (λj _ e=>al.o j e) (λj a=>HH.o.sub j (g.o E F.o j a))
end
structure WA where
 S0:List zr
 S:List zr
 bs:List yx
 L:List yb
 Q:StQ
theorem zmk {w0 c w:World} {p:Nat} {V X:Nat→Prop} {i S:List zr} {d:List yx} {css:List (List Value)} (h:CX w0 w p V X i S d css) (f:Fr No c w0):CX c w p V X i S d css:=by
 obtain⟨n,s,U,l,k,M,a,m,g,b⟩:=h.gd
 have q:CS c w s U S:={a.set with lo:=λj o=>le_trans f.size (a.set.lo j o),fr:=f.trans0 a.set.fr}
 have e:qT c w p s U l k css ⟨S,d,M⟩:={a with set:=q,row:=xj a.row f.size,lo1:=le_trans f.size a.lo1,lo2:=le_trans f.size a.lo2}
 exact {h with gd:=⟨n,s,U,l,k,M,e,m,g,b⟩}
structure WP (w0 w:World) (pc:Nat) (VC:Nat→Prop) (css:List (List Value)) (pp ma ms g:Nat) (VG:Nat→Prop) (CP:zd→List Value) (N ps ka ks:Nat) (R:Nat→Value) (CS:Nat→zd→List Value) (X:Nat→Prop) (A:WA):Prop where
 ch:CX w0 w pc VC X A.S0 A.S A.bs css
 po:yn w0 w pp ma ms g VG X CP A.L N
 st:yM w0 w ps ka ks R X CS A.Q
 cp:∀j,VC j→¬poV pp ma ms VG j
 csd:∀j,VC j→¬stV ps ka ks R j
 psd:∀j,poV pp ma ms VG j→¬stV ps ka ks R j
 cx:∀j,VC j→X j
 xl:∀j,X j→j<w.heap.size
 val:vP A.S (yd A.bs) A.L
 l32:A.L.length≤32
 ad:∀e∈A.L,e.added=0
def wT (VC:Nat→Prop) (pp ma ms:Nat) (VG:Nat→Prop) (ps ka ks:Nat) (R:Nat→Value):Nat→Prop:=λj=>VC j∨poV pp ma ms VG j∨stV ps ka ks R j
def WS (w0 w:World) (pc pp ps:Nat) (T X:Nat→Prop) (N:Nat) (A:WA):Prop:=
 ∃VC css ma ms g VG CP ka ks R CS,WP w0 w pc VC css pp ma ms g VG CP N ps ka ks R CS X A∧T=wT VC pp ma ms VG ps ka ks R
section
variable {w0 w w':World} {pc pp ps N:Nat} {T X:Nat→Prop} {A:WA}
theorem WS.facts (h:WS w0 w pc pp ps T X N A):(∀j,T j→w0.heap.size≤j∧j<w.heap.size∧X j)∧(∀j,X j→j<w.heap.size)∧Fr No w0 w∧vP A.S (yd A.bs) A.L∧A.L.length≤32∧(∀c∈A.S,c.ok)∧∀i,SVal (A.Q i):=by
 obtain⟨d,css,ma,ms,g,f,b,k,l,R,CS,h,rfl⟩:=h
 refine⟨λj a=>?_,h.xl,h.po.fr,h.val,h.l32,h.ch.g.hok.ok,h.st.val⟩
 rcases a with e|e|e
 ·exact⟨h.ch.g.lo j e,h.ch.g.hi j e,h.cx j e⟩
 ·exact⟨h.po.lo j e,h.po.hi j e,h.po.sub j e⟩
 ·exact⟨h.st.lo j e,h.st.hi j e,h.st.sub j e⟩
theorem WS.frV (h:WS w0 w pc pp ps T X N A) {U X':Nat→Prop} (f:Fr U w w') (d:∀j,T j→¬U j) (c:∀j,U j→w0.heap.size≤j) (b:∀j,U j→X j) (e:∀j,j<w.heap.size→X' j→X j) (i:∀j,T j→X' j) (n:∀j,X' j→j<w'.heap.size):WS w0 w' pc pp ps T X' N A:=by
 obtain⟨l,css,ma,ms,g,m,k,o,p,R,CS,h,rfl⟩:=h
 exact⟨l,css,ma,ms,g,m,k,o,p,R,CS,
  {ch:=h.ch.frV f (λj a=>d j (.inl a)) c b e
   po:=h.po.frV f (λj a=>d j (.inr (.inl a))) c b e (λj a=>i j (.inr (.inl a)))
   st:=h.st.frV f (λj a=>d j (.inr (.inr a))) c b e (λj a=>i j (.inr (.inr a)))
   cp:=h.cp
   csd:=h.csd
   psd:=h.psd
   cx:=λj a=>i j (.inl a)
   xl:=n
   val:=h.val
   l32:=h.l32
   ad:=h.ad},rfl⟩
theorem WS.fr0 (h:WS w0 w pc pp ps T X N A) (f:Fr No w w'):WS w0 w' pc pp ps T X N A:=
 h.frV f (λ_ _=>id) (λ_ h=>h.elim) (λ_ h=>h.elim) (λ_ _ h=>h) (λj a=>(h.facts.1 j a).2.2) (λj a=>lt_of_lt_of_le (h.facts.2.1 j a) f.size)
theorem WS.more (h:WS w0 w pc pp ps T X N A) {N':Nat} (d:N≤N'):WS w0 w pc pp ps T X N' A:=by
 obtain⟨b,css,ma,ms,g,c,a,f,i,R,CS,h,e⟩:=h
 exact⟨b,css,ma,ms,g,c,a,f,i,R,CS,{h with po:=h.po.mono d},e⟩
structure qj (w0 w w':World) (pc pp ps:Nat) (T X:Nat→Prop) (N:Nat) (A':WA) (T' X':Nat→Prop):Prop where
 ws:WS w0 w' pc pp ps T' X' N A'
 fr:Fr T w w'
 tn:∀j,T' j→T j∨w.heap.size≤j
 xn:∀j,X' j→X j∨w.heap.size≤j
 xx:∀j,X j→X' j
theorem WS.idle (h:WS w0 w pc pp ps T X N A) (f:Fr No w w'):qj w0 w w' pc pp ps T X N A T X:=
 ⟨h.fr0 f,f.of0,λ_ h=>.inl h,λ_ h=>.inl h,λ_ h=>h⟩
noncomputable def Jp (A:WA) (i:Int) (t:TxD):Int:=if i<0∨64<i then 2 else jY A.S (yd A.bs) A.L (A.Q i.toNat) t
noncomputable def JJ (A:WA) (i:Int) (t:TxD):WA:=if i<0∨64<i then A else {A with Q:=vu A.Q i.toNat (Qg A.S (yd A.bs) A.L (A.Q i.toNat) t)}
theorem zd7 {l:Nat→Prop} {css:List (List Value)} {ma ms g:Nat} {m:Nat→Prop} {o:zd→List Value} {b c:Nat} {R k:Nat→Value} {CS i:Nat→zd→List Value} {X':Nat→Prop} {p:StQ}
  (h:WP w0 w pc l css pp ma ms g m o N ps b c R CS X A) (f:Fr (stV ps b c R) w w') (t:yM w0 w' ps b c k X' i p) (d:∀j,stV ps b c k j→stV ps b c R j∨w.heap.size≤j) (n:∀j,X j→X' j) (q:∀j,X' j→X j∨w.heap.size≤j) (s:∀j,X' j→j<w'.heap.size):
  qj w0 w w' pc pp ps (wT l pp ma ms m ps b c R) X N {A with Q:=p} (wT l pp ma ms m ps b c k) X':=by
 have r:∀j,j<w.heap.size→X' j→X j:=λj a e=>(q j e).resolve_right (by omega)
 refine⟨⟨l,css,ma,ms,g,m,o,b,c,k,i,?_,rfl⟩,f.mono (λj e=>.inr (.inr e)),λj a=>?_,q,n⟩
 ·exact
   {ch:=h.ch.frV f h.csd h.st.lo h.st.sub r
    po:=h.po.frV f h.psd h.st.lo h.st.sub r (λj a=>n j (h.po.sub j a))
    st:=t
    cp:=h.cp
    csd:=λj a e=>(d j e).elim (h.csd j a) (λe=>by have:=h.ch.g.hi j a;omega)
    psd:=λj a e=>(d j e).elim (h.psd j a) (λe=>by have:=h.po.hi j a;omega)
    cx:=λj a=>n j (h.cx j a)
    xl:=s
    val:=h.val
    l32:=h.l32
    ad:=h.ad}
 ·rcases a with e|e|e
  ·exact .inl (.inl e)
  ·exact .inl (.inr (.inl e))
  ·exact(d j e).imp_left (λe=>.inr (.inr e))
theorem zao (p:vj w) (h:WS w0 w pc pp ps T X N A) (i:Int) {t:TxD} {cs:List Value} (r:Kept X w (λw=>TxQ w t cs)):
  Calls prog 12 #[.pointer (some ⟨ps,0,none⟩),.pointer (some ⟨pc,0,none⟩),.pointer (some ⟨pp,0,none⟩),.int .i64 i,.agg cs.toArray] w λe w'=>e=.returned (.int .i64 (Jp A i t))∧∃o X',qj w0 w w' pc pp ps T X N (JJ A i t) o X':=by
 by_cases hi:i<0∨64<i
 ·unfold Jp JJ
  rw[if_pos hi,if_pos hi]
  exact(zk4 w cs ps pc pp hi).mono λe w' ⟨d,f⟩=>⟨d,T,X,h.idle f⟩
 ·unfold Jp JJ
  rw[if_neg hi,if_neg hi]
  obtain⟨n,rfl⟩:∃n:Nat,i=(n:Int):=Int.eq_ofNat_of_zero_le (by omega)
  have b:n<65:=by omega
  obtain⟨v,css,ma,ms,g,x,u,y,z,R,CS,h,rfl⟩:=h
  rw[Int.toNat_natCast]
  refine(zmG p h.st h.xl h.po h.ch.g.cn h.ch.g.hok.ok b r).mono λe w' ⟨d,f,B,s,m,l⟩=>⟨d,_,_,zd7 h (f.mono (Je b)) l (λj a=>?_) (λj a=>.inl a) (λj a=>a.elim .inl (λe=>(m j e).imp_left (λe=>h.st.sub j (.inr (.inr (.inr ⟨n,b,e⟩)))))) (λj a=>?_)⟩
  ·rcases a with e|e|e|⟨k,q,e⟩
   ·exact .inl (.inl e)
   ·exact .inl (.inr (.inl e))
   ·exact .inl (.inr (.inr (.inl e)))
   ·unfold jq at e
    by_cases c:k=n
    ·rw[if_pos c] at e
     exact(m j e).imp_left λe=>.inr (.inr (.inr ⟨n,b,e⟩))
    ·rw[if_neg c] at e
     exact .inl (.inr (.inr (.inr ⟨k,q,e⟩)))
  ·rcases a with e|e
   ·exact lt_of_lt_of_le (h.xl j e) f.size
   ·exact l.hi j (.inr (.inr (.inr ⟨n,b,by rw[Qa];exact e⟩)))
theorem zlW (h:WS w0 w pc pp ps T X N A) {n:Nat} (b:n<65):
  Calls prog 13 #[.pointer (some ⟨ps,0,none⟩),.int .i64 n] w λe w'=>∃a,e=.returned a∧RowK w w' a (yV (A.Q n)):=by
 obtain⟨d,css,ma,ms,g,f,c,i,j,R,CS,h,rfl⟩:=h
 exact znp h.st b
theorem WS.ids (h:WS w0 w pc pp ps T X N A) (n:Nat):∀x∈yV (A.Q n),zX x:=by
 obtain⟨b,css,ma,ms,g,c,a,d,e,R,CS,h,rfl⟩:=h
 exact h.st.idok n
theorem WS.pids (h:WS w0 w pc pp ps T X N A):∀x∈xq A.L,zX x:=by
 obtain⟨b,css,ma,ms,g,c,a,d,e,R,CS,h,rfl⟩:=h
 exact h.po.ids
theorem zbc (h:WS w0 w pc pp ps T X N A) (b:N≤1000):
  Calls prog 25 #[.pointer (some ⟨pp,0,none⟩)] w λe w'=>∃a,e=.returned a∧RowK w w' a (xq A.L):=by
 obtain⟨d,css,ma,ms,g,f,c,i,j,R,CS,h,rfl⟩:=h
 exact zno h.po b
theorem ziu (h:WS w0 w pc pp ps T X N A):
  Calls prog 21 #[.pointer (some ⟨ps,0,none⟩)] w λe w'=>∃a,e=.returned a∧w'.ownsRow w.heap.size 3 1 a (ZO A.Q).length ((ZO A.Q).map iV)∧Fr No w w':=by
 obtain⟨c,css,ma,ms,g,d,b,f,i,R,CS,h,rfl⟩:=h
 exact zit h.st
theorem zkj (h:WS w0 w pc pp ps T X N A) {i:Int} (hi:Y3 i) {x:zd} (b:zX x) (a:qt A.Q i x=false):
  Calls prog 14 #[.pointer (some ⟨ps,0,none⟩),.int .i64 i,.agg (zf x).toArray] w (ziO w):=by
 obtain⟨d,css,ma,ms,g,e,c,f,j,R,CS,h,rfl⟩:=h
 exact zlC h.st hi b a
theorem zkl (h:WS w0 w pc pp ps T X N A) {n:Nat} (b:n<65) {x:zd} (l:x∈yV (A.Q n)):
  Calls prog 14 #[.pointer (some ⟨ps,0,none⟩),.int .i64 n,.agg (zf x).toArray] w λe w'=>∃tv q,e=.returned (.tuple #[tv,.int .i64 0])∧w'.ownsRow w.heap.size 34 3 tv (jK (A.Q n) x).length ((jK (A.Q n) x).flatMap q)∧(∀e∈jK (A.Q n) x,Kept X w' (λw=>TxQ w e.tx (q e)))∧∃m,(∀j,m j→T j)∧qj w0 w w' pc pp ps T X N {A with Q:=vu A.Q n (Ql (A.Q n) x)} m X:=by
 obtain⟨z,css,ma,ms,g,B,y,o,p,R,CS,h,rfl⟩:=h
 refine(zm2 h.st b l).mono λe w' ⟨tv,i,f,s,v,u,t⟩=>?_
 have d:∀j,stV ps o p (jq R n v) j→stV ps o p R j:=λj a=>by
  rcases a with e|e|e|⟨k,r,e⟩
  ·exact .inl e
  ·exact .inr (.inl e)
  ·exact .inr (.inr (.inl e))
  ·unfold jq at e
   by_cases c:k=n
   ·rw[if_pos c] at e
    exact .inr (.inr (.inr ⟨n,b,u j e⟩))
   ·rw[if_neg c] at e
    exact .inr (.inr (.inr ⟨k,r,e⟩))
 refine⟨tv,λe=>CS n e.id,i,s,λe i=>?_,_,λj a=>?_,zd7 h (f.mono (Je b)) t (λj a=>.inl (d j a)) (λ_ h=>h) (λ_ h=>.inl h) (λj a=>lt_of_lt_of_le (h.xl j a) f.size)⟩
 ·exact(h.st.data n b e (List.mem_filter.1 i).1).step (f.mono (λj e=>h.st.sub j (Je b j e))) (λ_ _ h=>h)
 ·exact a.imp_right (λe=>e.imp_right (d j))
theorem zmX (h:WS w0 w pc pp ps T X N A) {x:zd} (o:zX x):
  Calls prog 23 #[.pointer (some ⟨ps,0,none⟩),.agg (zf x).toArray] w λe w'=>∃a,e=.returned a∧w'.ownsRow w.heap.size 3 1 a (jh A.Q x 65).length ((jh A.Q x 65).map iV)∧∃c,qj w0 w w' pc pp ps T X N {A with Q:=Jb A.Q x 65} c X:=by
 obtain⟨r,css,ma,ms,g,s,p,t,u,R,CS,h,rfl⟩:=h
 refine(zmW h.st o).mono λe w' ⟨a,i,m,f,q,d,n⟩=>⟨a,i,m,_,zd7 h f n (λj b=>?_) (λ_ h=>h) (λ_ h=>.inl h) (λj b=>lt_of_lt_of_le (h.xl j b) f.size)⟩
 rcases b with e|e|e|⟨k,l,e⟩
 ·exact .inl (.inl e)
 ·exact .inl (.inr (.inl e))
 ·exact .inl (.inr (.inr (.inl e)))
 ·exact .inl (.inr (.inr (.inr ⟨k,l,d k j e⟩)))
theorem zlN {m:Nat→Prop} {css:List (List Value)} {ma ms g c d r N':Nat} {n b:Nat→Prop} {u k:zd→List Value} {o p:Nat} {R:Nat→Value} {CS:Nat→zd→List Value} {X':Nat→Prop} {l:List yb}
  (h:WP w0 w pc m css pp ma ms g n u N ps o p R CS X A) (f:Fr (poV pp ma ms n) w w') (x:yn w0 w' pp c d r b X' k l N') (i:∀j,poV pp c d b j→poV pp ma ms n j∨w.heap.size≤j) (q:∀j,X j→X' j) (s:∀j,X' j→X j∨w.heap.size≤j) (v:∀j,X' j→j<w'.heap.size)
  (val:vP A.S (yd A.bs) l) (l32:l.length≤32) (ad:∀e∈l,e.added=0):
  qj w0 w w' pc pp ps (wT m pp ma ms n ps o p R) X N' {A with L:=l} (wT m pp c d b ps o p R) X':=by
 have t:∀j,j<w.heap.size→X' j→X j:=λj a e=>(s j e).resolve_right (by omega)
 refine⟨⟨m,css,c,d,r,b,k,o,p,R,CS,?_,rfl⟩,f.mono (λj e=>.inr (.inl e)),λj a=>?_,s,q⟩
 ·exact
   {ch:=h.ch.frV f h.cp h.po.lo h.po.sub t
    po:=x
    st:=h.st.frV f (λj a e=>h.psd j e a) h.po.lo h.po.sub t (λj a=>q j (h.st.sub j a))
    cp:=λj a e=>(i j e).elim (h.cp j a) (λe=>by have:=h.ch.g.hi j a;omega)
    csd:=h.csd
    psd:=λj e a=>(i j e).elim (λe=>h.psd j e a) (λe=>by have:=h.st.hi j a;omega)
    cx:=λj a=>q j (h.cx j a)
    xl:=v
    val:=val
    l32:=l32
    ad:=ad}
 ·rcases a with e|e|e
  ·exact .inl (.inl e)
  ·exact(i j e).imp_left (λe=>.inr (.inl e))
  ·exact .inl (.inr (.inr e))
theorem zfE {S:List zr} {I:List zd} {L:List yb} {t:TxD} (h:∀e∈L,e.added=0):∀e∈Zh S I L t 0,e.added=0:=λe a=>by
 unfold Zh at a
 split at a
 ·rcases mem_append.1 a with a|a
  ·exact h e (Zr.1 a).1
  ·obtain rfl:=mem_singleton.1 a
   rfl
 ·exact h e a
theorem ziP (i:vj w) (h:WS w0 w pc pp ps T X N A) (d:N≤800) {t:TxD} {cs:List Value} (k:Kept X w (λw=>TxQ w t cs)):
  Calls prog 16 #[.pointer (some ⟨pp,0,none⟩),.pointer (some ⟨pc,0,none⟩),.agg cs.toArray,.int .u64 0] w λe w'=>∃b,e=.returned (.tuple #[b,.int .i64 (Zg A.S (yd A.bs) A.L t)])∧w'.ownsRow w.heap.size 41 32 b (Qs A.S (yd A.bs) A.L t).length ((Qs A.S (yd A.bs) A.L t).flatMap zf)∧∃c X',qj w0 w w' pc pp ps T X (N+1) {A with L:=Zh A.S (yd A.bs) A.L t 0} c X':=by
 obtain⟨m,css,ma,ms,g,n,l,o,p,R,CS,h,rfl⟩:=h
 refine(zef (now:=0) i h.po d h.xl h.val h.l32 h.ch.g.cn h.ch.g.hok.ok k (by decide)).mono λe w' ⟨b,he,⟨VG',C',hp,f,hv⟩,hr⟩=>⟨b,he,hr,_,_,zlN h f hp (λj a=>?_) (λ_ h=>.inl h) (λj a=>a.elim .inl (λe=>(hv j e).imp_left (λe=>h.po.sub j (.inr (.inr (.inr e)))))) (λj a=>?_) (h.val.acc t 0) (zaZ h.val h.l32 t 0) (zfE h.ad)⟩
 ·rcases a with e|e|e|e
  ·exact .inl (.inl e)
  ·exact .inl (.inr (.inl e))
  ·exact .inl (.inr (.inr (.inl e)))
  ·exact(hv j e).imp_left (λe=>.inr (.inr (.inr e)))
 ·rcases a with e|e
  ·exact lt_of_lt_of_le (h.xl j e) f.size
  ·exact hp.hi j (.inr (.inr (.inr e)))
end
structure WMp (w0 wb w:World) (pc:Nat) (VC:Nat→Prop) (css:List (List Value)) (pp ma ms g:Nat) (VG:Nat→Prop) (CP:zd→List Value) (N ps ka ks:Nat) (R:Nat→Value) (CS:Nat→zd→List Value) (T X X1:Nat→Prop) (A:WA) (S1:List zr) (bs1:List yx):Prop where
 ch:CX w0 w pc VC X1 A.S0 S1 bs1 css
 po:yn w0 w pp ma ms g VG X1 CP A.L N
 st:yM w0 w ps ka ks R X1 CS A.Q
 cp:∀j,VC j→¬poV pp ma ms VG j
 csd:∀j,VC j→¬stV ps ka ks R j
 psd:∀j,poV pp ma ms VG j→¬stV ps ka ks R j
 cx:∀j,VC j→X1 j
 xl:∀j,X1 j→j<w.heap.size
 l32:A.L.length≤32
 ad:∀e∈A.L,e.added=0
 fr:Fr T wb w
 tn:∀j,wT VC pp ma ms VG ps ka ks R j→T j∨wb.heap.size≤j
 xn:∀j,X1 j→X j∨wb.heap.size≤j
 xx:∀j,X j→X1 j
 pt:T pp
def WM (w0 wb w:World) (pc pp ps:Nat) (T X:Nat→Prop) (N:Nat) (A:WA) (S1:List zr) (bs1:List yx) (X1:Nat→Prop):Prop:=
 ∃VC css ma ms g VG CP ka ks R CS,WMp w0 wb w pc VC css pp ma ms g VG CP N ps ka ks R CS T X X1 A S1 bs1
section
variable {w0 wb w w':World} {pc pp ps N:Nat} {T X X1:Nat→Prop} {A:WA} {S1:List zr} {bs1:List yx} {S:List zr} {I:List zd}
theorem zey:∀(l:List TxD) {L:List yb},(∀e∈L,e.added=0)→∀e∈Zy S I L l 0,e.added=0
 |[],_,h=>h
 |t::l,L,h=>zey l (L:=Zh S I L t 0) (zfE h)
theorem zeg:∀(l:List yb) {L:List yb},(∀e∈l,e.added=0)→(∀e∈L,e.added=0)→∀e∈Xf S I L l,e.added=0
 |[],_,_,h=>h
 |t::l,L,hl,h=>zeg l (L:=Zh S I L t.tx t.added) (λe a=>hl e (List.mem_cons_of_mem _ a)) (by rw[hl t (List.mem_cons_self ..)];exact zfE h)
theorem zmQ {L:List yb} (h:∀e∈L,e.added=0) (l:List TxD):∀e∈Qe S I L l 0,e.added=0:=
 zeg L h (zey l (λe a=>(by cases a)))
theorem WM.still (h:WM w0 wb w pc pp ps T X N A A.S A.bs X1) (val:vP A.S (yd A.bs) A.L):∃b X',qj w0 wb w pc pp ps T X N A b X':=by
 obtain⟨c,css,ma,ms,g,d,a,e,f,R,CS,h⟩:=h
 exact⟨_,_,⟨c,css,ma,ms,g,d,a,e,f,R,CS,{ch:=h.ch,po:=h.po,st:=h.st,cp:=h.cp,csd:=h.csd,psd:=h.psd,cx:=h.cx,xl:=h.xl,val:=val,l32:=h.l32,ad:=h.ad},rfl⟩,h.fr,h.tn,h.xn,h.xx⟩
theorem WP.chain {l b:Nat→Prop} {css c:List (List Value)} {ma ms g:Nat} {m:Nat→Prop} {q:zd→List Value} {o p:Nat} {R:Nat→Value} {CS:Nat→zd→List Value}
  (h:WP w0 wb pc l css pp ma ms g m q N ps o p R CS X A) (f:Fr l wb w) (k:∀j,b j→l j∨wb.heap.size≤j) (n:CX w0 w pc b X A.S0 S1 bs1 c):
  WM w0 wb w pc pp ps (wT l pp ma ms m ps o p R) X N A S1 bs1 (λj=>X j∨b j):=by
 have r:∀j,j<wb.heap.size→(X j∨b j)→X j:=λj a e=>e.elim id (λe=>(k j e).elim (h.cx j) (λe=>by omega))
 refine⟨b,c,ma,ms,g,m,q,o,p,R,CS,?_⟩
 exact
  {ch:={n with data:=λi d cs s t=>(n.data i d cs s t).step (Fr.refl _ _) (λj _ e=>e.elim .inl (λe=>e.elim .inr .inl))}
   po:=h.po.frV f (λj a e=>h.cp j e a) h.ch.g.lo h.cx r (λj a=>.inl (h.po.sub j a))
   st:=h.st.frV f (λj a e=>h.csd j e a) h.ch.g.lo h.cx r (λj a=>.inl (h.st.sub j a))
   cp:=λj a e=>(k j a).elim (λa=>h.cp j a e) (λa=>by have:=h.po.hi j e;omega)
   csd:=λj a e=>(k j a).elim (λa=>h.csd j a e) (λa=>by have:=h.st.hi j e;omega)
   psd:=h.psd
   cx:=λj a=>.inr a
   xl:=λj a=>a.elim (λe=>lt_of_lt_of_le (h.xl j e) f.size) (λe=>n.g.hi j e)
   l32:=h.l32
   ad:=h.ad
   fr:=f.mono (λj e=>.inl e)
   tn:=λj a=>by
    rcases a with e|e|e
    ·exact(k j e).imp_left .inl
    ·exact .inl (.inr (.inl e))
    ·exact .inl (.inr (.inr e))
   xn:=λj a=>a.elim .inl (λe=>(k j e).imp_left (h.cx j))
   xx:=λ_=>.inl
   pt:=.inr (.inl (.inl rfl))}
theorem zjb (k:vj w0) (h:WS w0 w pc pp ps T X N A) (c:A.bs.length≤200) {b:qA} {cs:List Value} (d:jB w b cs):
  Calls prog 51 #[.pointer (some ⟨pc,0,none⟩),.agg cs.toArray] w λe w'=>e=.returned (.int .i64 (vZ (yd A.bs) A.S A.bs b))∧∃X1,WM w0 w w' pc pp ps T X N A (Xh (yd A.bs) A.S A.bs b) (Yo (yd A.bs) A.S A.bs b) X1:=by
 obtain⟨n,css,ma,ms,g,o,m,p,q,R,CS,h,rfl⟩:=h
 exact(zmn k h.ch h.xl (λ_=>id) c d).mono λe w' ⟨j,f,V',a,l,i⟩=>⟨j,_,h.chain f l i⟩
theorem zmq (h:WS w0 w pc pp ps T X N A) {a:List yx} {d:yx} (b:A.bs=a++[d]) (m:a.length≤200):
  Calls prog 53 #[.pointer (some ⟨pc,0,none⟩)] w λe w'=>∃bcs X1,e=.returned (.tuple #[.agg bcs.toArray,.int .i64 0])∧WM w0 w w' pc pp ps T X N A (xU d.chg A.S) a X1∧Kept X1 w' (λw=>jB w d.blk bcs):=by
 obtain⟨q,css,ma,ms,g,r,p,s,t,R,CS,h,rfl⟩:=h
 have k:=h.ch
 rw[b] at k
 exact(zms k m).mono λe w' ⟨bcs,V',i,n,f,l,c,o⟩=>⟨bcs,_,n,h.chain f (λj e=>.inl (l j e)) c,o.step (Fr.refl _ _) (λj _ e=>e.elim .inr (λe=>.inl (l j e)))⟩
theorem zjh (h:WS w0 w pc pp ps T X N A) (a:A.bs=[]):
  Calls prog 53 #[.pointer (some ⟨pc,0,none⟩)] w λe w'=>e=.returned (.tuple #[.agg Jv.toArray,.int .i64 9])∧Fr No w w':=by
 obtain⟨i,css,ma,ms,g,j,f,n,o,R,CS,h,rfl⟩:=h
 obtain⟨m,s,U,p,k,M,c,l,d,b⟩:=h.ch.gd
 exact zhB c a
theorem zg4 (D:vj w0) (h:WM w0 wb w pc pp ps T X N A S1 bs1 X1) (B:N≤1000) {t:Value} {first:List TxD} (C:Kept X1 w (λw=>vC w t first)) (m:first.length≤700):
  Calls prog 52 #[.pointer (some ⟨pp,0,none⟩),.pointer (some ⟨pc,0,none⟩),t,.int .u64 0] w λe w'=>(∃k,e=.returned (.tuple #[k,.int .i64 0]))∧∃N' y X',N'≤first.length+A.L.length∧qj w0 wb w' pc pp ps T X N' {A with S:=S1,bs:=bs1,L:=Qe S1 (yd bs1) A.L first 0} y X':=by
 obtain⟨r,css,ma,ms,g,P,O,H,K,R,CS,h⟩:=h
 have b:∀j,j=pp→w0.heap.size≤j:=λj e=>by subst e;exact h.po.lo _ (.inl rfl)
 have c:∀j,j=pp→X1 j:=λj e=>by subst e;exact h.po.sub _ (.inl rfl)
 have d:∀j,r j→¬j=pp:=λj a e=>by subst e;exact h.cp _ a (.inl rfl)
 refine(zlk D h.po B h.xl h.l32 (λe l=>by rw[h.ad e l];decide) (λw' f=>(h.ch.frV f d b c (λ_ _ e=>e)).g.cn) h.ch.g.hok.ok C m (now:=0) (by decide)).mono ?_
 rintro e w' ⟨k,l,⟨n,o,z,i,s,x,N',F,E,v,q,M,p⟩,f,-⟩
 have u:∀j,j<w.heap.size→s j→X1 j:=λj a e=>(v j e).resolve_right (by omega)
 have G:=h.fr.size
 refine⟨⟨k,l⟩,N',_,s,E,⟨r,css,n,o,z,i,x,H,K,R,CS,?_,rfl⟩,h.fr.trans f (λj _ e=>by subst e;exact h.pt),λj a=>?_,λj a=>(v j a).elim (h.xn j) (λe=>.inr (by omega)),λj a=>q j (h.xx j a)⟩
 ·exact
   {ch:=h.ch.frV f d b c u
    po:=F
    st:=h.st.frV f (λj a e=>by subst e;exact h.psd _ (.inl rfl) a) b c u (λj a=>q j (h.st.sub j a))
    cp:=λj a e=>(p j e).elim (d j a) (λe=>by have:=h.ch.g.hi j a;omega)
    csd:=h.csd
    psd:=λj e a=>(p j e).elim (λe=>by subst e;exact h.psd _ (.inl rfl) a) (λe=>by have:=h.st.hi j a;omega)
    cx:=λj a=>q j (h.cx j a)
    xl:=M
    val:=(vP.ren A.L first 0).1
    l32:=(vP.ren A.L first 0).2
    ad:=zmQ h.ad first}
 ·rcases a with e|e|e
  ·exact h.tn j (.inl e)
  ·exact(p j e).elim (λe=>by subst e;exact .inl h.pt) (λe=>.inr (by omega))
  ·exact h.tn j (.inr (.inr e))
end
section
open Go.ChangeShapes Go.WideShapes Go.Deep
structure qZ where
 kind:Int
 src:Int
 tx:TxD
 id:zd
 blk:qA
def Yh (k s:Int) (tcs:List Value) (x:zd) (bcs:List Value):List Value:=.int .i64 k::.int .i64 s::(tcs++(zf x++bcs))
def qS (w:World) (a:qZ) (cs:List Value):Prop:=∃tcs bcs,cs=Yh a.kind a.src tcs a.id bcs∧Y3 a.src∧zX a.id∧TxQ w a.tx tcs∧jB w a.blk bcs
theorem qS.keep {w w':World} {x:qZ} {cs:List Value} (h:qS w x cs) (f:Fr No w w'):qS w' x cs:=by
 obtain⟨t,b,e,a,c,d,g⟩:=h
 exact⟨t,b,e,a,c,d.keep f,g.keep f⟩
theorem jB.len3 {w:World} {b:qA} {cs:List Value} (h:jB w b cs):cs.length=3:=by
 obtain⟨_,_,_,_,rfl,_⟩:=h
 rfl
theorem qS.len {w:World} {a:qZ} {cs:List Value} (h:qS w a cs):cs.length=40:=by
 obtain⟨t,b,rfl,f,c,d,e⟩:=h
 simp[Yh,d.len3,e.len3,zx c]
abbrev Yl (w:World) (v:Value) (L:List qZ):Prop:=qU 40 qS w v L
theorem Yl.keep0 {w w':World} {v:Value} {L:List qZ} (h:Yl w v L) (f:Fr No w w'):Yl w' v L:=qU.keep (λ_ _ h=>h.keep f) h f
section
variable {H:Type} {enc:TypeId×Value→H} {w:World} {base:Nat} {spare:Nat→Bool} {held:Bool}
theorem zgt {fuel:Nat} {cs:List Value} {x:DataW H×List MemPlace} (h:DataW.trod enc prog w base spare held fuel 57 cs=some x):∃d,qS w d cs:=by
 have c1:prog.cellsOf 3=1:=by kernel_rfl
 have c2:prog.cellsOf 34=3:=by kernel_rfl
 have y:prog.cellsOf 41=32:=by kernel_rfl
 have z:prog.cellsOf 55=3:=by kernel_rfl
 have A:prog.cellsOf 57=40:=by kernel_rfl
 obtain⟨c,n,_,_,f,q,e⟩:=DataW.trod_struct Tryz.underlying57 h
 have g:DataW.trod enc prog w base spare held n 3 ((cs.drop 0).take (prog.cellsOf 3))=c[0]? :=e 0 _ rfl
 have i:DataW.trod enc prog w base spare held n 3 ((cs.drop 1).take (prog.cellsOf 3))=c[1]? :=e 1 _ rfl
 have j:DataW.trod enc prog w base spare held n 34 ((cs.drop 2).take (prog.cellsOf 34))=c[2]? :=e 2 _ rfl
 have m:DataW.trod enc prog w base spare held n 41 ((cs.drop 5).take (prog.cellsOf 41))=c[3]? :=e 3 _ rfl
 have o:DataW.trod enc prog w base spare held n 55 ((cs.drop 37).take (prog.cellsOf 55))=c[4]? :=e 4 _ rfl
 rw[c1] at g i
 rw[c2] at j
 rw[y] at m
 rw[z] at o
 rw[A] at f
 have I:c.length=5:=q
 rw[getElem?_eq_getElem (by omega)] at g i j m o
 obtain⟨k,u,_⟩:=DataW.trod_int Tryz.underlying3 g
 obtain⟨s,v,_,K⟩:=DataW.trod_int Tryz.underlying3 i
 obtain⟨t,G⟩:=zhb j
 obtain⟨l,p,C⟩:=QP m
 obtain⟨B,F⟩:=zkn o
 refine⟨⟨k,s,t,l,B⟩,(cs.drop 2).take 3,(cs.drop 37).take 3,?_,?_,p,G,F⟩
 ·match cs,f with
  |a::b::r,f=>
   simp only[List.drop_zero,List.drop_succ_cons,List.take_succ_cons,List.take_zero,List.cons.injEq,and_true] at u v
   subst u
   subst v
   have L:r.length=38:=by simpa using f
   show Value.int .i64 k::Value.int .i64 s::r=Value.int .i64 k::Value.int .i64 s::(r.take 3++(zf l++(r.drop 35).take 3))
   have D:(r.drop 3).take 32=zf l:=C
   rw[←D,List.take_of_length_le (l:=r.drop 35) (by rw[List.length_drop];omega)]
   congr 2
   have E:r.drop 35=(r.drop 3).drop 32:=by rw[List.drop_drop]
   rw[E,List.take_append_drop,List.take_append_drop]
 ·simp[Lit.wf,IntKind.min,IntKind.max,IntKind.signed,IntKind.bits] at K
  unfold Y3
  omega
theorem ze1 {fuel:Nat} {v:Value} {x:DataW H×List MemPlace} (h:DataW.trod enc prog w base spare held fuel 52 [v]=some x):∃L,Yl w v L:=by
 obtain⟨L,d,f,e,b,c⟩:=zat (q:=qS w) Tryz.underlying52 (k:=40) (by kernel_rfl) (by decide) (λa cs h=>h.len) (λ_ _ _ h=>zgt h) h
 exact⟨L,d,f,e,b,c⟩
end
end
def hvT (t:TxD):Bool:=decide (30<t.ins.length)||(decide (30<t.outs.length)||t.ins.any λx=>decide (100<x.key.length))
def zme (w:World) (t:TxD) (e:Ending) (w':World):Prop:=e=.returned (.bool (hvT t))∧Fr No w w'
theorem zaK (w:World) {t:TxD} {cs:List Value} (O:TxQ w t cs):
  Calls prog 11 #[.agg cs.toArray] w (zme w t):=by
 obtain⟨o,q,r,s,rfl,-,I,-⟩:=O
 have Y:=Zn
 have d:=J ((frN w).alloc (.cells #[.int .u32 t.ver,.slice o t.ins.length q,.slice r t.outs.length s] 34))
 have L:=J (I.keep0 d.o)
 obtain⟨-,c1,c2,-⟩:=qN w t.ver (.slice o t.ins.length q) (.slice r t.outs.length s)
 clear I
 show Calls prog 11 #[.agg #[.int .u32 t.ver,.slice o t.ins.length q,.slice r t.outs.length s]] w _
 by_cases h1:30<t.ins.length
 ·have Q:(30:Int)<(t.ins.length:Int):=by omega
  have e:=@J (hvT t=true) (by simp[hvT,h1])
  clear h1
  go_enter Tryz.func11,Tryz.ntmps11
  go_wp2_with fail
  go_ret
  exact⟨by rw[e.o];rfl,d.o⟩
 have Q:¬(30:Int)<(t.ins.length:Int):=by omega
 by_cases h2:30<t.outs.length
 ·have R:(30:Int)<(t.outs.length:Int):=by omega
  have e:=@J (hvT t=true) (by simp[hvT,h2])
  clear h1 h2
  go_enter Tryz.func11,Tryz.ntmps11
  go_wp2_with fail
  go_ret
  exact⟨by rw[e.o];rfl,d.o⟩
 have R:¬(30:Int)<(t.outs.length:Int):=by omega
 have T:t.ins.length≤30:=by omega
 have M:=@J (∀x∈t.ins,100<x.key.length→hvT t=true) (λx a h=>by
  have:t.ins.any (λx=>decide (100<x.key.length))=true:=any_eq_true.2 ⟨x,a,by simpa using h⟩
  simp[hvT,this])
 have K:=@J ((∀x∈t.ins,¬100<x.key.length)→hvT t=false) (λh=>by
  have:t.ins.any (λx=>decide (100<x.key.length))=false:=List.any_eq_false.2 (λx a=>by simpa using h x a)
  simp only[hvT,this]
  simp
  omega)
 clear h1 h2
 go_enter Tryz.func11,Tryz.ntmps11
 go_wp2_with fail
 generalize w.alloc (.cells #[.int .u32 t.ver,.slice o t.ins.length q,.slice r t.outs.length s] 34)=U at*
 clear c1 c2
 go_loopw [18] (λD wr=>∃n:Nat,D=.int .i64 n∧n≤t.ins.length∧(∀x∈t.ins.take n,¬100<x.key.length)∧Fr No U wr) (λD _=>t.ins.length-(intOf D).toNat)
 case atStart=>exact⟨0,rfl,zero_le _,by simp,Fr.refl _ _⟩
 case round=>
  obtain⟨n,rfl,W,f,fr⟩:=hrel
  have E:=J f
  clear f
  have l:=J fr
  clear fr
  by_cases B:n<t.ins.length
  ·have P:(n:Int)<(t.ins.length:Int):=by omega
   obtain⟨x,a⟩:∃x,t.ins[n]? =some x:=⟨_,getElem?_eq_getElem B⟩
   obtain⟨bx,X,V,xs,C,i,j,k,rfl,c,A⟩:=(L.o.keep0 l.o).at_ a
   cases C
   have m:=J (vo c (.slice j x.key.length k))
   have H:=J i
   have F:=J ((frN wr).alloc (.cells (inC x.from_ (.slice j x.key.length k)).toArray 108))
   have N:=(YN wr (p:=x.from_) (kv:=.slice j x.key.length k) c).2
   have G:=J a
   clear i A a c
   by_cases hk:100<x.key.length
   ·have S:(100:Int)<(x.key.length:Int):=by omega
    have⟨v,z⟩:=tZ2
    go_wp2_with ((first|((with_reducible refine zt ?_);clear v;refine zn0 rfl rfl rfl H.o m.o ?_)|((with_reducible refine zv ?_);clear z;refine zn9 (w:=wr) (cs:=inC x.from_ (.slice j x.key.length k)) rfl rfl rfl rfl m.o jQ ?_));go_frame)
    go_ret
    exact⟨by rw[M.o x (mem_of_getElem? G.o) hk];rfl,(d.o.trans0 l.o).trans0 F.o⟩
   ·have S:¬(100:Int)<(x.key.length:Int):=by omega
    have u:=@J (∀y∈t.ins.take (n+1),¬100<y.key.length) (λy b=>by
     rw[take_add_one,G.o] at b
     rcases mem_append.1 b with b|b
     ·exact E.o y b
     ·simp at b;subst b;exact hk)
    have⟨v,z⟩:=tZ2
    go_wp2_with ((first|((with_reducible refine zt ?_);clear v;refine zn0 rfl rfl rfl H.o m.o ?_)|((with_reducible refine zv ?_);clear z;refine zn9 (w:=wr) (cs:=inC x.from_ (.slice j x.key.length k)) rfl rfl rfl rfl m.o jQ ?_));go_frame)
    go_roundw
    case rel=>exact⟨n+1,by go_num,by omega,u.o,l.o.trans0 F.o⟩
    case measure=>simp[intOf];omega
  ·have g:n=t.ins.length:=by omega
   have P:¬(n:Int)<(t.ins.length:Int):=by omega
   have e:=J (K.o (λx a=>E.o x (by rw[g,take_length];exact a)))
   clear g
   go_wp2_with fail
   go_ret
   exact⟨by rw[e.o];rfl,d.o.trans0 l.o⟩
theorem zcD:∃d,prog.underlying 57=some d∧d.isRow=true:=vK (by kernel_rfl)
theorem qX:(prog.info? 57).map (·.size)=some 40:=by kernel_rfl
theorem zdh (w:World):(zeroValue 57).run prog w=.ok (.agg (Yh 0 0 zft yO Jv).toArray) w:=by kernel_rfl
theorem zcs {w:World} {a:qZ} {cs:List Value} (h:qS w a cs):∀v∈cs,v.oneCell'=true:=by
 obtain⟨t,b,rfl,f,g,d,e⟩:=h
 obtain⟨i,j,k,l,rfl⟩:=e.form
 intro v c
 unfold Yh at c
 rcases List.mem_cons.1 c with rfl|c
 ·rfl
 rcases List.mem_cons.1 c with rfl|c
 ·rfl
 rcases mem_append.1 c with c|c
 ·exact(YV d).2 v c
 rcases mem_append.1 c with c|c
 ·exact zS v c
 ·exact qM rfl rfl rfl v c
theorem jD {w:World} {q:Nat} {k s:Int} {t b:List Value} {x:zd} (h:w.rangeAt q 0 (Yh k s t x b)) (f:t.length=3) (d:zX x):
  w.cell? ⟨q,0,none⟩=some (.int .i64 k)∧w.cell? ⟨q,1,none⟩=some (.int .i64 s)∧w.rangeAt q 2 t∧w.rangeAt q 5 (zf x)∧w.rangeAt q 37 b:=by
 have e:=zx d
 refine⟨by simpa using h 0 _ rfl,by simpa using h 1 _ rfl,λj v a=>?_,λj v a=>?_,λj v a=>?_⟩
 ·have c:=(List.getElem?_eq_some_iff.1 a).1
  have:=h (2+j) v (by rw[show 2+j=j+1+1 by omega];simp only[Yh,List.getElem?_cons_succ];rw[List.getElem?_append_left c];exact a)
  rwa [zero_add] at this
 ·have c:=(List.getElem?_eq_some_iff.1 a).1
  have:=h (5+j) v (by rw[show 5+j=(3+j)+1+1 by omega];simp only[Yh,List.getElem?_cons_succ];rw[List.getElem?_append_right (by omega),show 3+j-t.length=j by omega,List.getElem?_append_left c];exact a)
  rwa [zero_add] at this
 ·have:=h (37+j) v (by rw[show 37+j=(35+j)+1+1 by omega];simp only[Yh,List.getElem?_cons_succ];rw[List.getElem?_append_right (by omega),List.getElem?_append_right (by omega),show 35+j-t.length-(zf x).length=j by omega];exact a)
  rwa [zero_add] at this
def VX (w:World) (F:List yE) (L:List qZ) (e:Ending) (w':World):Prop:=
 (∃g:Int,e=.returned (.int .i64 g)∧(g=0∨g=1)∧(g=0→F.length≤256∧L.length≤60∧∀a∈L,a.blk.txs.length≤20))∧Fr No w w'
theorem zeB (w:World) {fv lv:Value} {F:List yE} {L:List qZ} (hf:xy w fv F) (hl:Yl w lv L):
  Calls prog 19 #[fv,lv] w (VX w F L):=by
 have HL:=J hl
 obtain⟨fa,fc,rfl⟩:=hf.2.form
 obtain⟨va,vc,rfl⟩:=hl.form
 obtain⟨dA,uA,Z⟩:=zcD
 have zA:=zdh
 have zT:=show ∀w,(zeroValue 34).run prog w=.ok (.agg zft.toArray) w from jA
 have T1:=@J (∀w',Fr No w w'→VX w F L (.returned (.int .i64 1)) w') (λw' f=>⟨⟨1,rfl,.inr rfl,λh=>by cases h⟩,f⟩)
 clear hf hl
 by_cases h1:256<F.length
 ·have j1:decide ((256:Int)<(F.length:Int))=true:=by simp;omega
  clear h1
  go_enter Tryz.func19,Tryz.ntmps19
  go_wp2
  go_ret
  exact T1.o _ (Fr.refl _ _)
 have j1:decide ((256:Int)<(F.length:Int))=false:=by simp;omega
 by_cases h2:60<L.length
 ·have j2:decide ((60:Int)<(L.length:Int))=true:=by simp;omega
  clear h1 h2
  go_enter Tryz.func19,Tryz.ntmps19
  go_wp2
  go_ret
  exact T1.o _ (Fr.refl _ _)
 have j2:decide ((60:Int)<(L.length:Int))=false:=by simp;omega
 have af:L.length≤60:=by omega
 have T0:=@J ((∀a∈L,a.blk.txs.length≤20)→∀w',Fr No w w'→VX w F L (.returned (.int .i64 0)) w') (λh w' f=>⟨⟨0,rfl,.inl rfl,λ_=>⟨by omega,af,h⟩⟩,f⟩)
 clear h1 h2
 go_enter Tryz.func19,Tryz.ntmps19
 go_wp2
 clear j1 j2
 go_loopw [19] (λC wr=>∃n:Nat,C=.int .i64 n∧n≤L.length∧(∀a∈L.take n,a.blk.txs.length≤20)∧Fr No w wr) (λC _=>L.length-(intOf C).toNat)
 case atStart=>exact⟨0,rfl,zero_le _,by simp,Fr.refl _ _⟩
 case round=>
  obtain⟨n,rfl,hn,G,fr⟩:=hrel
  have FR:=J fr
  have HK:=J G
  clear fr G
  by_cases ab:n<L.length
  ·have i1:(n:Int)<(L.length:Int):=by omega
   obtain⟨a,I⟩:∃x,L[n]? =some x:=⟨_,getElem?_eq_getElem ab⟩
   obtain⟨bb,off,ai,cs,hv,hr,U⟩:=(HL.o.keep0 FR.o).at_ I
   cases hv
   have R:=J hr
   have c:=J U.len
   have N:=J (zcs U)
   have FA:=J ((frN wr).alloc (.cells cs.toArray 57))
   have HQ:=J (U.keep FA.o)
   obtain⟨aq,bcs,E,-,K,p,z⟩:=HQ.o
   have Q:=J (jD (q:=wr.heap.size) (by rw[←E];exact zy wr cs 57) (YV p).1 K)
   obtain⟨pa,pc,ta,tc,rfl⟩:=z.form
   have r:=J Q.o.2.2.1
   have S:=J (YV p).1
   have d:=Q.o.2.2.2.2 1 _ rfl
   have g:=Q.o.2.2.2.2 2 _ rfl
   have aa:=J p
   have u:=@J (vC (wr.alloc (.cells cs.toArray 57)) (.slice ta a.blk.txs.length tc) a.blk.txs) (by
    obtain⟨aj,ak,an,ao,e,_,_,I⟩:=z
    simp only[zhp,List.cons.injEq,and_true] at e
    obtain⟨-,-,e2⟩:=e
    injection e2 with e21 _ e23
    subst e21;subst e23
    exact I)
   have HX:=J I
   clear hr U I E K p z Q HQ
   have y:=J (zaK _ aa.o)
   have P:=J (FR.o.trans0 FA.o)
   unfold zme at y
   cases hh:hvT a.tx with
   |true=>
    rw[hh] at y
    clear hh
    have⟨j,k,l,o⟩:=tZ4
    go_wp2_with ((first|((with_reducible refine zt ?_);first|(clear j;refine zg rfl (zZ (ty:=57) rfl rfl R.o uA Z (by rw[c.o];exact qX)) ?_)|(clear l;refine zn1 rfl rfl rfl r.o S.o ?_))|((with_reducible refine zv ?_);clear k;refine zi rfl (zm (w:=wr) (ty:=57) (cs:=cs) rfl rfl rfl (by rw[c.o];rfl) (by rw[c.o];exact qX) N.o) ?_;generalize wr.heap.size=q at r d g⊢;generalize wr.alloc (.cells cs.toArray 57)=wA at*)|(clear o;go_at_call 11;refine y.o.mono ?_;rintro e w5 ⟨rfl,b⟩;have v:=J (P.o.trans0 b);have T:=J (u.o.keep0 b);clear u;have d1:=b.cell d id;have d2:=b.cell g id;clear b d g));go_frame)
    go_ret
    exact T1.o _ v.o
   |false=>
    rw[hh] at y
    clear hh
    by_cases h3:20<a.blk.pay.length
    ·have k1:(20:Int)<(a.blk.pay.length:Int):=by omega
     clear h3
     have⟨j,k,l,o⟩:=tZ4
     go_wp2_with ((first|((with_reducible refine zt ?_);first|(clear j;refine zg rfl (zZ (ty:=57) rfl rfl R.o uA Z (by rw[c.o];exact qX)) ?_)|(clear l;refine zn1 rfl rfl rfl r.o S.o ?_))|((with_reducible refine zv ?_);clear k;refine zi rfl (zm (w:=wr) (ty:=57) (cs:=cs) rfl rfl rfl (by rw[c.o];rfl) (by rw[c.o];exact qX) N.o) ?_;generalize wr.heap.size=q at r d g⊢;generalize wr.alloc (.cells cs.toArray 57)=wA at*)|(clear o;go_at_call 11;refine y.o.mono ?_;rintro e w5 ⟨rfl,b⟩;have v:=J (P.o.trans0 b);have T:=J (u.o.keep0 b);clear u;have d1:=b.cell d id;have d2:=b.cell g id;clear b d g));go_frame)
     go_ret
     exact T1.o _ v.o
    have k1:¬(20:Int)<(a.blk.pay.length:Int):=by omega
    by_cases h4:20<a.blk.txs.length
    ·have k2:(20:Int)<(a.blk.txs.length:Int):=by omega
     clear h3 h4
     have⟨j,k,l,o⟩:=tZ4
     go_wp2_with ((first|((with_reducible refine zt ?_);first|(clear j;refine zg rfl (zZ (ty:=57) rfl rfl R.o uA Z (by rw[c.o];exact qX)) ?_)|(clear l;refine zn1 rfl rfl rfl r.o S.o ?_))|((with_reducible refine zv ?_);clear k;refine zi rfl (zm (w:=wr) (ty:=57) (cs:=cs) rfl rfl rfl (by rw[c.o];rfl) (by rw[c.o];exact qX) N.o) ?_;generalize wr.heap.size=q at r d g⊢;generalize wr.alloc (.cells cs.toArray 57)=wA at*)|(clear o;go_at_call 11;refine y.o.mono ?_;rintro e w5 ⟨rfl,b⟩;have v:=J (P.o.trans0 b);have T:=J (u.o.keep0 b);clear u;have d1:=b.cell d id;have d2:=b.cell g id;clear b d g));go_frame)
     go_ret
     exact T1.o _ v.o
    have k2:¬(20:Int)<(a.blk.txs.length:Int):=by omega
    have AN:=@J (∀s∈L.take (n+1),s.blk.txs.length≤20) (λs B=>by
     rw[take_add_one,HX.o] at B
     rcases mem_append.1 B with B|B
     ·exact HK.o s B
     ·simp at B;subst B;omega)
    have al:a.blk.txs.length≤20:=by omega
    clear h3 h4
    have⟨j,k,l,o⟩:=tZ4
    go_wp2_with ((first|((with_reducible refine zt ?_);first|(clear j;refine zg rfl (zZ (ty:=57) rfl rfl R.o uA Z (by rw[c.o];exact qX)) ?_)|(clear l;refine zn1 rfl rfl rfl r.o S.o ?_))|((with_reducible refine zv ?_);clear k;refine zi rfl (zm (w:=wr) (ty:=57) (cs:=cs) rfl rfl rfl (by rw[c.o];rfl) (by rw[c.o];exact qX) N.o) ?_;generalize wr.heap.size=q at r d g⊢;generalize wr.alloc (.cells cs.toArray 57)=wA at*)|(clear o;go_at_call 11;refine y.o.mono ?_;rintro e w5 ⟨rfl,b⟩;have v:=J (P.o.trans0 b);have T:=J (u.o.keep0 b);clear u;have d1:=b.cell d id;have d2:=b.cell g id;clear b d g));go_frame)
    go_loopw [44] (λC wr=>∃m:Nat,C=.int .i64 m∧m≤a.blk.txs.length∧vC wr (.slice ta a.blk.txs.length tc) a.blk.txs∧Fr No w wr) (λC _=>a.blk.txs.length-(intOf C).toNat)
    case atStart=>exact⟨0,rfl,zero_le _,T.o,v.o⟩
    case round=>
     obtain⟨m,rfl,hm,M,fr⟩:=hrel
     rename World=>wq
     have XQ:=J M
     have FQ:=J fr
     clear M fr
     by_cases ad:m<a.blk.txs.length
     ·have i2:(m:Int)<(a.blk.txs.length:Int):=by omega
      obtain⟨t,ht⟩:∃t,a.blk.txs[m]? =some t:=⟨_,getElem?_eq_getElem ad⟩
      obtain⟨b2,ah,ag,ts,ae,H,A⟩:=XQ.o.at_ ht
      cases ae
      obtain⟨V,W,X,Y,rfl⟩:=A.form
      have R2:=J H
      have FB:=J ((frN wq).alloc (.cells #[.int .u32 t.ver,.slice V t.ins.length W,.slice X t.outs.length Y] 34))
      have RN:=J (qN wq t.ver (.slice V t.ins.length W) (.slice X t.outs.length Y)).2.2.2
      have i:=J (zaK _ (A.keep FB.o))
      clear ht H A
      unfold zme at i
      cases hh2:hvT t with
      |true=>
       rw[hh2] at i
       clear hh2
       have⟨j,k,l,o⟩:=tZ4
       go_wp2_with ((first|((with_reducible refine zt ?_);first|(clear j;refine zn1 rfl rfl rfl R2.o rfl ?_)|(clear l;refine zn1 rfl rfl rfl RN.o rfl ?_))|((with_reducible refine zv ?_);clear k;refine zi rfl (zm (w:=wq) (ty:=34) (cs:=[.int .u32 t.ver,.slice V t.ins.length W,.slice X t.outs.length Y]) rfl rfl rfl rfl yZ (qM rfl rfl rfl)) ?_)|(clear o;go_at_call 11;refine i.o.mono ?_;rintro e w4 ⟨rfl,D⟩;have O:=J (FB.o.trans0 D);clear D));go_frame)
       go_ret
       exact T1.o _ (FQ.o.trans0 O.o)
      |false=>
       rw[hh2] at i
       clear hh2
       have⟨j,k,l,o⟩:=tZ4
       go_wp2_with ((first|((with_reducible refine zt ?_);first|(clear j;refine zn1 rfl rfl rfl R2.o rfl ?_)|(clear l;refine zn1 rfl rfl rfl RN.o rfl ?_))|((with_reducible refine zv ?_);clear k;refine zi rfl (zm (w:=wq) (ty:=34) (cs:=[.int .u32 t.ver,.slice V t.ins.length W,.slice X t.outs.length Y]) rfl rfl rfl rfl yZ (qM rfl rfl rfl)) ?_)|(clear o;go_at_call 11;refine i.o.mono ?_;rintro e w4 ⟨rfl,D⟩;have O:=J (FB.o.trans0 D);clear D));go_frame)
       go_roundw
       case rel=>exact⟨m+1,by go_num,by omega,XQ.o.keep0 O.o,FQ.o.trans0 O.o⟩
       case measure=>simp[intOf];omega
     ·have i2:¬(m:Int)<(a.blk.txs.length:Int):=by omega
      go_wp2
      go_roundw
      case rel=>exact⟨n+1,by go_num,by omega,AN.o,FQ.o⟩
      case measure=>simp[intOf];omega
  ·have i1:¬(n:Int)<(L.length:Int):=by omega
   have HP:=J (T0.o (by
    have:=HK.o
    rw[show n=L.length by omega,take_length] at this
    exact this))
   go_wp2
   go_ret
   exact HP.o _ FR.o
end Go.Proofs.YtdkkjchclkjleaaGreatDoor
