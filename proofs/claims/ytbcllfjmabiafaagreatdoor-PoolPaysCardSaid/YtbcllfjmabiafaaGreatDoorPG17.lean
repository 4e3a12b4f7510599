/- pool: prev. (Written by gen_prev.py.) -/
import Derived.Shelf.Bits.Mul64
import Derived.Shelf.Spec.BitsCarry
import Derived.Laws.Externs
import Derived.Test.YtbcllfjmabiafaaGreatDoorPG16
import Derived.Test.YtbcllfjmabiafaaGreatDoorPG7
import Derived.Test.YtbcllfjmabiafaaGreatDoorPG9
import Derived.Test.YtbcllfjmabiafaaGreatDoorPG4
import Derived.Test.YtbcllfjmabiafaaGreatDoorPG2
set_option linter.unusedVariables false
set_option linter.unusedSimpArgs false
set_option linter.unnecessarySimpa false
set_option linter.all false
set_option maxRecDepth 20000
set_option maxHeartbeats 16000000
namespace Go.Proofs.YtbcllfjmabiafaaGreatDoor
open Go Go.RowKit Go.Maps Go.MapKept
open Go.Proofs.Tryz(prog)
open List(getElem?_eq_getElem mem_append mem_of_getElem? take_add_one take_length length_take flatMap_append size_toArray)
open Nat(zero_le)
variable {n:Nat} {v:Value} {w:World}
theorem zix {L:List zL} {t:TxD} {q:zx} (h:(z6 t)[n]? =some q):(((z6 t).take (n+1)).filter λq=>(yS L q).isSome).map (·.tx)=(((z6 t).take n).filter λq=>(yS L q).isSome).map (·.tx)++(if(yS L q).isSome=true then[q.tx] else[]):=by
 rw[take_add_one,h]
 by_cases hs:(yS L q).isSome=true
 ·simp[List.filter_append,hs]
 ·simp[List.filter_append,hs]
def ji (L:List zL) (t:TxD) (n:Nat):List zf:=(((z6 t).take n).filter λq=>(yS L q).isSome).map (·.tx)
def zcs (S:List zn) (L:List zL) (t:TxD) (n:Nat):List yC:=((z6 t).take n).map λq=>(xF S L q).getD xN
theorem zj1 (L:List zL) (t:TxD) (n:Nat):(ji L t n).length≤n:=by
 unfold ji
 rw[List.length_map]
 have a:=List.length_filter_le (λq=>(yS L q).isSome) ((z6 t).take n)
 have b:((z6 t).take n).length≤n:=by rw[length_take];omega
 omega
theorem zfp (S:List zn) (L:List zL) (t:TxD) (h:n≤t.ins.length):(zcs S L t n).length=n:=by
 unfold zcs
 rw[List.length_map,length_take,jP]
 omega
def zay (w:World) (S:List zn) (L:List zL) (t:TxD) (e:Ending) (w':World):Prop:=
 ∃ov pv,e=.returned (.tuple #[ov,pv,.int .i64 (Jy S L t)])∧Fr No w w'∧(Jy S L t=0→xg w' ov (xj S L t)∧w'.ownsRow w.heap.size 45 32 pv (xz L t).length ((xz L t).flatMap zd))
theorem zay.bad {w w':World} {S:List zn} {L:List zL} {t:TxD} {c:Int} (h:Jy S L t=c) (d:c≠0) (f:Fr No w w') (a b:Value):zay w S L t (.returned (.tuple #[a,b,.int .i64 c])) w':=
 ⟨a,b,by rw[h],f,λe=>absurd (h.symm.trans e) d⟩
theorem VQ {L:List zL} (h:∀e∈L,∀x∈e.tx.outs,x.ok) (q:zx):((yS L q).getD xN).ok:=by
 cases hf:yS L q with
 |none=>exact Qt
 |some o=>
  obtain⟨e,a,-,b⟩:=JV hf
  exact h e a o (mem_of_getElem? b)
theorem yn.outs_ok {w0 w:World} {p ma ms g N:Nat} {VG X:Nat→Prop} {C:zf→List Value} {L:List zL} (h:yn w0 w p ma ms g VG X C L N):∀e∈L,∀x∈e.tx.outs,x.ok:=λe a=>by
 obtain⟨t,-,b⟩:=(h.data e a).now
 exact b.oks.2
section
variable {w0 w:World} {p ma ms g N:Nat} {VG X:Nat→Prop} {C:zf→List Value} {L:List zL}
theorem Vq (h:yn w0 w p ma ms g VG X C L N) {w1:World} {pc:Nat} {VC:Nat→Prop} {S:List zn} {bs:List yx} {I:List zf} (hc:Cn w1 w pc VC S bs I) (hS:∀c∈S,c.ok) {t:TxD} {cs:List Value} (ht:TxQ w t cs) (hN:t.ins.length≤1000):
  Calls prog 84 #[.pointer (some ⟨p,0,none⟩),.pointer (some ⟨pc,0,none⟩),.agg cs.toArray] w (zay w S L t):=by
 obtain⟨dH,uH,rH⟩:=jq
 have zo:=y3
 have zp:=vr
 have ai:=Hd (jP t)
 have aL:=@Hd (∀q∈z6 t,q.ok) (λq hq=>by obtain⟨x,hx,rfl⟩:=List.mem_map.1 hq;exact ht.oks.1 x hx)
 obtain⟨ia,ic,oa,oc,rfl⟩:=ht.form
 have F1:=Hd ((frN w).alloc (.cells #[.int .u32 t.ver,.slice ia t.ins.length ic,.slice oa t.outs.length oc] 27))
 have R0:=Hd (qI w t.ver (.slice ia t.ins.length ic) (.slice oa t.outs.length oc)).2.2.2
 have HP:=Hd (jO _ (ht.keep F1.o) hN)
 have bb:=Hd (λw' (f:Fr No w w') (q:zx) (hq:q.ok)=>zhy (h.fr0 f) hq)
 have a8:=Hd (λw' (f:Fr No w w') (q:zx) (hq:q.ok)=>zjD (h.fr0 f) hq)
 have a7:=Hd (λw' (f:Fr No w w') (q:zx) (hq:q.ok)=>zdf (hc.fr0 f) hq)
 have XP:=Hd (λq=>VQ h.outs_ok q)
 have XC:=Hd (λq=>qB hS q)
 clear h hc ht hS
 show Calls prog 84 #[.pointer (some ⟨p,0,none⟩),.pointer (some ⟨pc,0,none⟩),.agg #[.int .u32 t.ver,.slice ia t.ins.length ic,.slice oa t.outs.length oc]] w _
 go_enter Tryz.func84,Tryz.ntmps84
 have⟨K0,K1⟩:=tZ2
 go_wp2_with ((first|((with_reducible refine zt ?_);clear K0;refine znT rfl rfl rfl R0.o rfl ?_)|(clear K1;go_at_call 30;refine HP.o.mono ?_;rintro e w2 ⟨v,rfl,ho,f2⟩;obtain⟨va,vc,hv⟩:=ho.slice.arg.form;subst hv;have F2:=Hd (F1.o.trans0 f2);have O2:=Hd ho;clear ho f2));go_frame)
 have aV:=@Hd (vw w2 (.slice va t.ins.length vc) (z6 t)) (⟨aL.o,by rw[ai.o];exact O2.o.slice.arg⟩)
 go_loopw [6,7,22] (λov pv iv wr=>∃n:Nat,ov=.slice none 0 0∧pv=.slice none 0 0∧iv=.int .i64 n∧n≤t.ins.length∧(∀q∈(z6 t).take n,qN L q=false)∧Fr No w2 wr) (λ_ _ iv _=>t.ins.length-(intOf iv).toNat)
 case atStart=>exact⟨0,rfl,rfl,rfl,zero_le _,by simp,Fr.refl _ _⟩
 case round=>
  obtain⟨n,rfl,rfl,rfl,hn,aE,fr⟩:=hrel
  have V:=Hd fr
  have AL:=Hd aE
  clear fr aE
  by_cases hlt:n<t.ins.length
  ·have i1:(n:Int)<(t.ins.length:Int):=by omega
   obtain⟨q,hx⟩:∃q,(z6 t)[n]? =some q:=⟨_,getElem?_eq_getElem (by rw[ai.o];exact hlt)⟩
   have HX:=Hd hx
   have M:=Hd (aL.o q (mem_of_getElem? hx))
   obtain⟨b,off,cap,e,hr,-⟩:=(aV.o.keep V.o).at_ hx
   injection e with e1 e2 e3
   subst e1
   have R1:=Hd hr
   have o:=Hd (zW M.o)
   have RN:=Hd (zq wr (zm q) 56)
   have FA:=Hd (V.o.alloc (.cells (zm q).toArray 56))
   have aG:=Hd (bb.o _ (F2.o.trans0 FA.o) q M.o)
   clear hr hx e2 e3
   by_cases hs:qN L q=true
   ·have PE:=@Hd (Jy S L t=14) (by
     unfold Jy
     rw[if_pos (List.any_eq_true.2 ⟨q,mem_of_getElem? HX.o,hs⟩)])
    rw[hs] at aG
    clear hs
    have⟨K0,K1,K2,K3⟩:=tZ4
    go_wp2_with ((first|((with_reducible refine zt ?_);first|(clear K0;refine znW rfl rfl rfl R1.o o.o ?_)|(clear K2;refine znW rfl rfl rfl RN.o o.o ?_))|((with_reducible refine zr ?_);clear K1;refine zi rfl (zj (w:=wr) (cs:=zm q) (ty:=56) rfl rfl rfl (by rw[o.o];rfl) (by rw[o.o];exact xZ) yF) ?_)|(clear K3;go_at_call 31;refine aG.o.mono ?_;rintro e w4 ⟨rfl,f4⟩;have F4:=Hd f4;clear f4));go_frame)
    go_ret3
    exact zay.bad PE.o (by decide) ((F2.o.trans0 FA.o).trans0 F4.o) _ _
   ·have aR:qN L q=false:=by simpa using hs
    have ab:=@Hd (∀q∈(z6 t).take (n+1),qN L q=false) (λy l=>by
     rw[take_add_one,HX.o] at l
     rcases mem_append.1 l with l|l
     ·exact AL.o y l
     ·simp at l;subst l;exact aR)
    rw[aR] at aG
    clear hs aR
    have⟨K0,K1,K2,K3⟩:=tZ4
    go_wp2_with ((first|((with_reducible refine zt ?_);first|(clear K0;refine znW rfl rfl rfl R1.o o.o ?_)|(clear K2;refine znW rfl rfl rfl RN.o o.o ?_))|((with_reducible refine zr ?_);clear K1;refine zi rfl (zj (w:=wr) (cs:=zm q) (ty:=56) rfl rfl rfl (by rw[o.o];rfl) (by rw[o.o];exact xZ) yF) ?_)|(clear K3;go_at_call 31;refine aG.o.mono ?_;rintro e w4 ⟨rfl,f4⟩;have F4:=Hd f4;clear f4));go_frame)
    go_roundw
    case rel=>exact⟨n+1,rfl,rfl,by go_num,by omega,ab.o,FA.o.trans0 F4.o⟩
    case measure=>simp[intOf];omega
  ·have ao:n=t.ins.length:=by omega
   have i1:¬(n:Int)<(t.ins.length:Int):=by omega
   have aT:=@Hd (∀q∈z6 t,qN L q=false) (λq hq=>AL.o q (by rw[ao,←ai.o,take_length];exact hq))
   have af:=Hd (F2.o.trans0 V.o)
   have ba:=Hd (aV.o.keep V.o)
   clear ao AL hlt hn
   go_wp2_with fail
   generalize wr=G at*
   go_loopw [6,7,32] (λov pv iv F=>∃n:Nat,iv=.int .i64 n∧n≤t.ins.length∧(∀q∈(z6 t).take n,(xF S L q).isSome=true)∧∃oa oc pa pc,ov=.slice oa n oc∧pv=.slice pa (ji L t n).length pc∧F.ownsRow G.heap.size 58 33 (.slice oa n oc) n ((zcs S L t n).flatMap zF)∧F.ownsRow G.heap.size 45 32 (.slice pa (ji L t n).length pc) (ji L t n).length ((ji L t n).flatMap zd)∧(∀j,(Value.slice oa n oc).ownBlock=some j→(Value.slice pa (ji L t n).length pc).ownBlock=some j→False)∧Fr No G F) (λ_ _ iv _=>t.ins.length-(intOf iv).toNat)
   case atStart=>exact⟨0,rfl,zero_le _,by simp,none,0,none,0,rfl,rfl,World.ownsRow_nil _ _ _ _,World.ownsRow_nil _ _ _ _,λj h _=>(by cases h),Fr.refl _ _⟩
   case round=>
    obtain⟨n,rfl,hn,aE,Q,R,pa,av,rfl,rfl,aY,aZ,aX,fr⟩:=hrel
    rename World=>F
    have V:=Hd fr
    have AL:=Hd aE
    have OO:=Hd aY
    have PP:=Hd aZ
    have DS:=Hd aX
    have aH:=Hd (zj1 L t n)
    clear fr aE aY aZ aX
    by_cases hlt:n<t.ins.length
    ·have i1:(n:Int)<(t.ins.length:Int):=by omega
     obtain⟨q,hx⟩:∃q,(z6 t)[n]? =some q:=⟨_,getElem?_eq_getElem (by rw[ai.o];exact hlt)⟩
     have HX:=Hd hx
     have M:=Hd (aL.o q (mem_of_getElem? hx))
     obtain⟨b,off,cap,e,hr,-⟩:=(ba.o.keep V.o).at_ hx
     injection e with e1 e2 e3
     subst e1
     have R1:=Hd hr
     have o:=Hd (zW M.o)
     have HL:=Hd (zu M.o.1)
     have RN:=Hd (zq F (zm q) 56)
     have FA:=Hd ((frN F).alloc (.cells (zm q).toArray 56))
     have ag:=Hd (af.o.trans0 (V.o.trans0 FA.o))
     have Y:=Hd (a8.o _ ag.o q M.o)
     have m:=Hd (yq (XP.o q))
     have a:=Hd (yq (XC.o q))
     have aN:=Hd (zix (L:=L) HX.o)
     have aM:=@Hd (zcs S L t (n+1)=zcs S L t n++[(xF S L q).getD xN]) (by unfold zcs;rw[take_add_one,HX.o];simp)
     have aW:=Hd (zfp S L t hn)
     have z:=Hd (λw' (f:Fr No w w')=>a7.o w' f q M.o)
     have LK:=@Hd (xF S L q=if yV S q=true then some (zZ S q) else yS L q) (rfl)
     clear hr hx e2 e3
     by_cases hm:(yS L q).isSome=true
     ·by_cases hk:yV S q=true
      ·skip
       have HM:=Hd hm
       have HK:=Hd hk
       rw[hm] at Y
       rw[hk] at z
       clear hm hk
       have⟨K0,K1,K2,K3,K4,K5,K6,K7,K8,K9,aA,aB,aC,aK,bc,bd⟩:=tZ16
       go_wp2_with ((first|((with_reducible refine zt ?_);first|(clear K0;refine znW rfl rfl rfl R1.o o.o ?_)|(clear K2;refine znW rfl rfl rfl RN.o o.o ?_)|(clear K5;with_reducible refine yg 45 ?_;refine zg rfl (zX (ty:=45) rfl rfl (zcu O.o M.o).1 uH rH (by have:=HL.o;unfold zd at this;rw[this];exact yj)) ?_)|(clear K6;refine zg rfl (zK (t:=37) rfl rfl y7 xD rfl (by decide) (by decide) HL.o) ?_)|(clear K7;at_builtin;refine zJ rfl rfl rfl rfl A1.o ?_;have K:=@Hd (Fr No w w5) ((ag.o.trans0 (H.o.trans0 FB.o)).trans A3.o (λi hi e=>by have:=(NP.o _ e).2;have:=af.o.size;omega));have ah:=Hd (z.o _ K.o))|(clear K8;with_reducible refine yg 50 ?_;refine znW rfl rfl rfl aO.o o.o ?_)|(clear aB;with_reducible refine yg 55 ?_;refine znU rfl rfl rfl aD.o a.o ?_)|(clear aK;with_reducible refine yg 59 ?_;refine znU rfl rfl rfl RF.o a.o ?_)|(clear bc;refine zg rfl (zK (t:=22) rfl rfl qO jU (by rw[←yQ];rfl) (by decide) (by decide) a.o) ?_)|(clear bd;at_builtin;refine zJ rfl rfl rfl rfl B1.o ?_))|((with_reducible refine zr ?_);first|(clear K1;refine zi rfl (zj (w:=F) (cs:=zm q) (ty:=56) rfl rfl rfl (by rw[o.o];rfl) (by rw[o.o];exact xZ) yF) ?_;generalize aq:F.heap.size=qb at*;generalize B:F.alloc (.cells (zm q).toArray 56)=wa at*)|(clear K4;refine zi rfl (zj (w:=u) (cs:=zF ((yS L q).getD xN)) (ty:=58) rfl rfl rfl (by rw[m.o];rfl) (by rw[m.o];exact yW) yd) ?_;generalize ar:u.heap.size=r at*;generalize D:u.alloc (.cells (zF ((yS L q).getD xN)).toArray 58)=w4 at*;have Z4:=@Hd (r<w4.heap.size) (by rw[←D,←ar];simp);have ZQ:=@Hd (qb<r) (by have:=ZA.o;have:=H.o.size;omega);clear D;obtain⟨v5,w5,a1,a2,a3,-,a5⟩:=yA (P:=prog) w4 G.heap.size 37 37 45 32 32 _ y7 xA rfl (by decide) (zb PP.o k.o (λ_ _=>id)) (zd q.tx) HL.o zE (by have:=aH.o;omega) (by have:=aH.o;unfold maxLen;omega) (by have:=V.o.size;have:=k.o.size;omega);obtain⟨T,U,aS⟩:=a2.slice.arg.form;subst aS;have A1:=Hd a1;have A2:=Hd a2;have A3:=Hd a3;have A5:=Hd a5;clear a1 a2 a3 a5;have NP:=@Hd (∀j,(Value.slice pa (ji L t n).length av).ownBlock=some j→j<F.heap.size∧G.heap.size≤j) (λj d=>⟨(PP.o.lt j d).2,(PP.o.lt j d).1⟩);have aO:=Hd (za O.o A3.o (λe=>by have:=(NP.o _ e).1;omega));have aP:=Hd (za al.o A3.o (λe=>by have:=(NP.o _ e).1;have:=ZQ.o;omega));have aJ:=Hd (A3.o.obj BO.o (λe=>by have:=(NP.o _ e).1;have:=ZQ.o;omega)))|(clear aA;refine zi rfl (zj (w:=E) (cs:=zF (zZ S q)) (ty:=58) rfl rfl rfl (by rw[a.o];rfl) (by rw[a.o];exact yW) yd) ?_;generalize aQ:E.heap.size=qc at*;generalize au:E.alloc (.cells (zF (zZ S q)).toArray 58)=w7 at*;have aI:=Hd (za an.o A.o id);have ae:=Hd (A.o.obj ad.o id);have ZC:=@Hd (r<qc) (by have:=s.o.size;have:=Z4.o;have:=A3.o.size;omega);clear au;have F8:=Hd (zy r (zF (zZ S q)) 0 w7);have RF:=@Hd ((w7.setCells r 0 (zF (zZ S q))).rangeAt r 0 (zF (zZ S q))) (yB ae.o (by rw[a.o,size_toArray,m.o])))|(clear aC;refine zi rfl (zU (ty:=58) (b:=r) (off:=0) (cs:=zF (zZ S q)) rfl rfl rfl (by rw[a.o];exact yb ae.o (by rw[size_toArray,m.o];exact Nat.le_refl _)) (by rw[a.o];exact yW) yd) ?_;generalize bg:w7.setCells r 0 (zF (zZ S q))=w8 at*;have O7:=@Hd (w7.ownsRow G.heap.size 58 33 (.slice Q n R) n ((zcs S L t n).flatMap zF)) (zb (zb (zb OO.o k.o (λ_ _=>id)) A3.o (λj d e=>DS.o j d e)) (s.o.trans0 A.o) (λ_ _=>id));have P7:=@Hd (w7.ownsRow G.heap.size 45 32 (.slice T ((ji L t n).length+1) U) ((ji L t n).length+1) ((ji L t n).flatMap zd++zd q.tx)) (zb A2.o (s.o.trans0 A.o) (λ_ _=>id));have PB:=@Hd (∀j,(Value.slice T ((ji L t n).length+1) U).ownBlock=some j→j≠r∧((Value.slice Q n R).ownBlock=some j→False)) (λj d=>⟨λe=>by rcases A5.o j d with h|h;(have:=(NP.o j h).1;have:=ZQ.o;omega);(have:=Z4.o;omega),λe=>by rcases A5.o j d with h|h;exact DS.o j e h;(have:=(OO.o.lt j e).2;have:=k.o.size;omega)⟩);have O8:=Hd (zb O7.o F8.o (λj d e=>by have:=(OO.o.lt j d).2;have:=ZQ.o;omega));have P8:=Hd (zb P7.o F8.o (λj d e=>(PB.o j d).1 e));have a6:=@Hd (Fr No w _) (((K.o.trans0 s.o).trans0 A.o).trans F8.o (λi hi e=>by have:=ag.o.size;have:=ZA.o;have:=H.o.size;have:=ZQ.o;have:=af.o.size;have:=V.o.size;omega));have W:=@Hd (Fr No G _) ((((((V.o.trans0 k.o).trans A3.o (λi hi e=>by have:=(NP.o _ e).2;omega)).trans0 s.o).trans0 A.o)).trans F8.o (λi hi e=>by have:=ZQ.o;have:=V.o.size;omega));have az:=@Hd ((xF S L q).getD xN=zZ S q) (by rw[LK.o,if_pos HK.o];rfl);have ay:=@Hd ((xF S L q).isSome=true) (by rw[LK.o,if_pos HK.o];rfl);obtain⟨v9,w9,b1,b2,b3,-,b5⟩:=yA (P:=prog) _ G.heap.size 22 22 58 33 40 _ qO JG (by rw[←yQ];rfl) (by decide) O8.o (zF (zZ S q)) a.o yd (by omega) (by unfold maxLen;omega) W.o.size;obtain⟨Z,aa,aF⟩:=b2.slice.arg.form;subst aF;have B1:=Hd b1;have B2:=Hd b2;have B3:=Hd b3;have B5:=Hd b5;clear b1 b2 b3 b5;have NO:=@Hd (∀j,(Value.slice Q n R).ownBlock=some j→G.heap.size≤j∧j<F.heap.size) (λj d=>OO.o.lt j d);have P9:=Hd (zb P8.o B3.o (λj d e=>(PB.o j d).2 e));have ax:=Hd (W.o.trans B3.o (λi hi e=>by have:=(NO.o _ e).1;omega));have aw:=@Hd (∀j,(Value.slice Z (n+1) aa).ownBlock=some j→(Value.slice T ((ji L t n).length+1) U).ownBlock=some j→False) (λj ho hp=>by rcases B5.o j ho with h|h;exact(PB.o j hp).2 h;(have:=(P8.o.lt j hp).2;omega))))|(clear K3;go_at_call 32;refine Y.o.mono ?_;rintro e u ⟨rfl,f3⟩;have H:=Hd f3;clear f3;have ZA:=@Hd (qb<wa.heap.size) (by rw[←B,←aq];simp);clear B;have ak:=Hd (za RN.o H.o id);have al:=Hd (zq u (zF ((yS L q).getD xN)) 58);have FB:=Hd ((frN u).alloc (.cells (zF ((yS L q).getD xN)).toArray 58));have BO:=Hd (ye u (.cells (zF ((yS L q).getD xN)).toArray 58));have O:=Hd (za ak.o FB.o id);have k:=Hd ((FA.o.trans0 H.o).trans0 FB.o))|(clear K9;go_at_call 23;refine ah.o.mono ?_;rintro e E ⟨rfl,f6⟩;have s:=Hd f6;clear f6;have an:=Hd (za aP.o s.o id);have ad:=Hd (s.o.obj aJ.o id);have aD:=Hd (zq E (zF (zZ S q)) 58);have A:=Hd ((frN E).alloc (.cells (zF (zZ S q)).toArray 58))));go_frame)
       have PT:=@Hd (ji L t (n+1)=ji L t n++[q.tx]) (by unfold ji;rw[aN.o,if_pos HM.o])
       have aj:=@Hd ((ji L t (n+1)).length=(ji L t n).length+1) (by rw[PT.o];simp)
       have ab:=@Hd (∀q∈(z6 t).take (n+1),(xF S L q).isSome=true) (λy l=>by
        rw[take_add_one,HX.o] at l
        rcases mem_append.1 l with l|l
        ·exact AL.o y l
        ·simp at l;subst l;exact ay.o)
       go_roundw
       case rel=>exact⟨n+1,by go_num,by omega,ab.o,Z,aa,T,U,rfl,by rw[aj.o],by rw[aM.o,az.o,flatMap_append];simpa using B2.o,by rw[aj.o,PT.o,flatMap_append];simpa using P9.o,by rw[aj.o];exact aw.o,ax.o⟩
       case measure=>simp[intOf];omega
      ·replace hk:yV S q=false:=by simpa using hk
       have HM:=Hd hm
       have HK:=Hd hk
       rw[hm] at Y
       rw[hk] at z
       clear hm hk
       have⟨K0,K1,K2,K3,K4,K5,K6,K7,K8,K9,aA,aB,aC,aK⟩:=tZ14
       go_wp2_with ((first|((with_reducible refine zt ?_);first|(clear K0;refine znW rfl rfl rfl R1.o o.o ?_)|(clear K2;refine znW rfl rfl rfl RN.o o.o ?_)|(clear K5;with_reducible refine yg 45 ?_;refine zg rfl (zX (ty:=45) rfl rfl (zcu O.o M.o).1 uH rH (by have:=HL.o;unfold zd at this;rw[this];exact yj)) ?_)|(clear K6;refine zg rfl (zK (t:=37) rfl rfl y7 xD rfl (by decide) (by decide) HL.o) ?_)|(clear K7;at_builtin;refine zJ rfl rfl rfl rfl A1.o ?_;have K:=@Hd (Fr No w w5) ((ag.o.trans0 (H.o.trans0 FB.o)).trans A3.o (λi hi e=>by have:=(NP.o _ e).2;have:=af.o.size;omega));have ah:=Hd (z.o _ K.o))|(clear K8;with_reducible refine yg 50 ?_;refine znW rfl rfl rfl aO.o o.o ?_)|(clear aB;with_reducible refine yg 59 ?_;refine znU rfl rfl rfl RF.o m.o ?_)|(clear aC;refine zg rfl (zK (t:=22) rfl rfl qO jU (by rw[←yQ];rfl) (by decide) (by decide) m.o) ?_)|(clear aK;at_builtin;refine zJ rfl rfl rfl rfl B1.o ?_))|((with_reducible refine zr ?_);first|(clear K1;refine zi rfl (zj (w:=F) (cs:=zm q) (ty:=56) rfl rfl rfl (by rw[o.o];rfl) (by rw[o.o];exact xZ) yF) ?_;generalize aq:F.heap.size=qb at*;generalize B:F.alloc (.cells (zm q).toArray 56)=wa at*)|(clear K4;refine zi rfl (zj (w:=u) (cs:=zF ((yS L q).getD xN)) (ty:=58) rfl rfl rfl (by rw[m.o];rfl) (by rw[m.o];exact yW) yd) ?_;generalize ar:u.heap.size=r at*;generalize D:u.alloc (.cells (zF ((yS L q).getD xN)).toArray 58)=w4 at*;have Z4:=@Hd (r<w4.heap.size) (by rw[←D,←ar];simp);have ZQ:=@Hd (qb<r) (by have:=ZA.o;have:=H.o.size;omega);clear D;obtain⟨v5,w5,a1,a2,a3,-,a5⟩:=yA (P:=prog) w4 G.heap.size 37 37 45 32 32 _ y7 xA rfl (by decide) (zb PP.o k.o (λ_ _=>id)) (zd q.tx) HL.o zE (by have:=aH.o;omega) (by have:=aH.o;unfold maxLen;omega) (by have:=V.o.size;have:=k.o.size;omega);obtain⟨T,U,aS⟩:=a2.slice.arg.form;subst aS;have A1:=Hd a1;have A2:=Hd a2;have A3:=Hd a3;have A5:=Hd a5;clear a1 a2 a3 a5;have NP:=@Hd (∀j,(Value.slice pa (ji L t n).length av).ownBlock=some j→j<F.heap.size∧G.heap.size≤j) (λj d=>⟨(PP.o.lt j d).2,(PP.o.lt j d).1⟩);have aO:=Hd (za O.o A3.o (λe=>by have:=(NP.o _ e).1;omega));have aP:=Hd (za al.o A3.o (λe=>by have:=(NP.o _ e).1;have:=ZQ.o;omega));have aJ:=Hd (A3.o.obj BO.o (λe=>by have:=(NP.o _ e).1;have:=ZQ.o;omega)))|(clear aA;refine zi rfl (zj (w:=E) (cs:=zF (zZ S q)) (ty:=58) rfl rfl rfl (by rw[a.o];rfl) (by rw[a.o];exact yW) yd) ?_;generalize aQ:E.heap.size=qc at*;generalize au:E.alloc (.cells (zF (zZ S q)).toArray 58)=w7 at*;have aI:=Hd (za an.o A.o id);have ae:=Hd (A.o.obj ad.o id);have ZC:=@Hd (r<qc) (by have:=s.o.size;have:=Z4.o;have:=A3.o.size;omega);clear au;have O7:=@Hd (w7.ownsRow G.heap.size 58 33 (.slice Q n R) n ((zcs S L t n).flatMap zF)) (zb (zb (zb OO.o k.o (λ_ _=>id)) A3.o (λj d e=>DS.o j d e)) (s.o.trans0 A.o) (λ_ _=>id));have P7:=@Hd (w7.ownsRow G.heap.size 45 32 (.slice T ((ji L t n).length+1) U) ((ji L t n).length+1) ((ji L t n).flatMap zd++zd q.tx)) (zb A2.o (s.o.trans0 A.o) (λ_ _=>id));have PB:=@Hd (∀j,(Value.slice T ((ji L t n).length+1) U).ownBlock=some j→j≠r∧((Value.slice Q n R).ownBlock=some j→False)) (λj d=>⟨λe=>by rcases A5.o j d with h|h;(have:=(NP.o j h).1;have:=ZQ.o;omega);(have:=Z4.o;omega),λe=>by rcases A5.o j d with h|h;exact DS.o j e h;(have:=(OO.o.lt j e).2;have:=k.o.size;omega)⟩);have O8:=O7;have P8:=P7;have W:=@Hd (Fr No G _) (((((V.o.trans0 k.o).trans A3.o (λi hi e=>by have:=(NP.o _ e).2;omega)).trans0 s.o).trans0 A.o));have bh:w7=w7:=rfl;have RF:=aI;have az:=@Hd ((xF S L q).getD xN=(yS L q).getD xN) (by rw[LK.o,if_neg (by rw[HK.o];decide)]);have ay:=@Hd ((xF S L q).isSome=true) (by rw[LK.o,if_neg (by rw[HK.o];decide)];exact HM.o);obtain⟨v9,w9,b1,b2,b3,-,b5⟩:=yA (P:=prog) _ G.heap.size 22 22 58 33 40 _ qO JG (by rw[←yQ];rfl) (by decide) O8.o (zF ((yS L q).getD xN)) m.o yd (by omega) (by unfold maxLen;omega) W.o.size;obtain⟨Z,aa,aF⟩:=b2.slice.arg.form;subst aF;have B1:=Hd b1;have B2:=Hd b2;have B3:=Hd b3;have B5:=Hd b5;clear b1 b2 b3 b5;have NO:=@Hd (∀j,(Value.slice Q n R).ownBlock=some j→G.heap.size≤j∧j<F.heap.size) (λj d=>OO.o.lt j d);have P9:=Hd (zb P8.o B3.o (λj d e=>(PB.o j d).2 e));have ax:=Hd (W.o.trans B3.o (λi hi e=>by have:=(NO.o _ e).1;omega));have aw:=@Hd (∀j,(Value.slice Z (n+1) aa).ownBlock=some j→(Value.slice T ((ji L t n).length+1) U).ownBlock=some j→False) (λj ho hp=>by rcases B5.o j ho with h|h;exact(PB.o j hp).2 h;(have:=(P8.o.lt j hp).2;omega))))|(clear K3;go_at_call 32;refine Y.o.mono ?_;rintro e u ⟨rfl,f3⟩;have H:=Hd f3;clear f3;have ZA:=@Hd (qb<wa.heap.size) (by rw[←B,←aq];simp);clear B;have ak:=Hd (za RN.o H.o id);have al:=Hd (zq u (zF ((yS L q).getD xN)) 58);have FB:=Hd ((frN u).alloc (.cells (zF ((yS L q).getD xN)).toArray 58));have BO:=Hd (ye u (.cells (zF ((yS L q).getD xN)).toArray 58));have O:=Hd (za ak.o FB.o id);have k:=Hd ((FA.o.trans0 H.o).trans0 FB.o))|(clear K9;go_at_call 23;refine ah.o.mono ?_;rintro e E ⟨rfl,f6⟩;have s:=Hd f6;clear f6;have an:=Hd (za aP.o s.o id);have ad:=Hd (s.o.obj aJ.o id);have aD:=Hd (zq E (zF (zZ S q)) 58);have A:=Hd ((frN E).alloc (.cells (zF (zZ S q)).toArray 58))));go_frame)
       have PT:=@Hd (ji L t (n+1)=ji L t n++[q.tx]) (by unfold ji;rw[aN.o,if_pos HM.o])
       have aj:=@Hd ((ji L t (n+1)).length=(ji L t n).length+1) (by rw[PT.o];simp)
       have ab:=@Hd (∀q∈(z6 t).take (n+1),(xF S L q).isSome=true) (λy l=>by
        rw[take_add_one,HX.o] at l
        rcases mem_append.1 l with l|l
        ·exact AL.o y l
        ·simp at l;subst l;exact ay.o)
       go_roundw
       case rel=>exact⟨n+1,by go_num,by omega,ab.o,Z,aa,T,U,rfl,by rw[aj.o],by rw[aM.o,az.o,flatMap_append];simpa using B2.o,by rw[aj.o,PT.o,flatMap_append];simpa using P9.o,by rw[aj.o];exact aw.o,ax.o⟩
       case measure=>simp[intOf];omega
     ·replace hm:(yS L q).isSome=false:=by simpa using hm
      by_cases hk:yV S q=true
      ·skip
       have HM:=Hd hm
       have HK:=Hd hk
       rw[hm] at Y
       rw[hk] at z
       clear hm hk
       have⟨K0,K1,K2,K3,K4,K5,K6,K7,K8,K9,aA,aB,aC⟩:=tZ13
       go_wp2_with ((first|((with_reducible refine zt ?_);first|(clear K0;refine znW rfl rfl rfl R1.o o.o ?_)|(clear K2;refine znW rfl rfl rfl RN.o o.o ?_)|(clear K5;with_reducible refine yg 50 ?_;refine znW rfl rfl rfl O.o o.o ?_)|(clear K8;with_reducible refine yg 55 ?_;refine znU rfl rfl rfl aD.o a.o ?_)|(clear aA;with_reducible refine yg 59 ?_;refine znU rfl rfl rfl RF.o a.o ?_)|(clear aB;refine zg rfl (zK (t:=22) rfl rfl qO jU (by rw[←yQ];rfl) (by decide) (by decide) a.o) ?_)|(clear aC;at_builtin;refine zJ rfl rfl rfl rfl B1.o ?_))|((with_reducible refine zr ?_);first|(clear K1;refine zi rfl (zj (w:=F) (cs:=zm q) (ty:=56) rfl rfl rfl (by rw[o.o];rfl) (by rw[o.o];exact xZ) yF) ?_;generalize aq:F.heap.size=qb at*;generalize B:F.alloc (.cells (zm q).toArray 56)=wa at*)|(clear K4;refine zi rfl (zj (w:=u) (cs:=zF ((yS L q).getD xN)) (ty:=58) rfl rfl rfl (by rw[m.o];rfl) (by rw[m.o];exact yW) yd) ?_;generalize ar:u.heap.size=r at*;generalize D:u.alloc (.cells (zF ((yS L q).getD xN)).toArray 58)=w4 at*;have Z4:=@Hd (r<w4.heap.size) (by rw[←D,←ar];simp);have ZQ:=@Hd (qb<r) (by have:=ZA.o;have:=H.o.size;omega);clear D;have K:=@Hd (Fr No w w4) (ag.o.trans0 (H.o.trans0 FB.o));have ah:=Hd (z.o _ K.o))|(clear K7;refine zi rfl (zj (w:=E) (cs:=zF (zZ S q)) (ty:=58) rfl rfl rfl (by rw[a.o];rfl) (by rw[a.o];exact yW) yd) ?_;generalize aQ:E.heap.size=qc at*;generalize au:E.alloc (.cells (zF (zZ S q)).toArray 58)=w7 at*;have aI:=Hd (za an.o A.o id);have ae:=Hd (A.o.obj ad.o id);have ZC:=@Hd (r<qc) (by have:=s.o.size;have:=Z4.o;omega);clear au;have F8:=Hd (zy r (zF (zZ S q)) 0 w7);have RF:=@Hd ((w7.setCells r 0 (zF (zZ S q))).rangeAt r 0 (zF (zZ S q))) (yB ae.o (by rw[a.o,size_toArray,m.o])))|(clear K9;refine zi rfl (zU (ty:=58) (b:=r) (off:=0) (cs:=zF (zZ S q)) rfl rfl rfl (by rw[a.o];exact yb ae.o (by rw[size_toArray,m.o];exact Nat.le_refl _)) (by rw[a.o];exact yW) yd) ?_;generalize bg:w7.setCells r 0 (zF (zZ S q))=w8 at*;have O7:=@Hd (w7.ownsRow G.heap.size 58 33 (.slice Q n R) n ((zcs S L t n).flatMap zF)) (zb (zb (zb OO.o k.o (λ_ _=>id)) (frN w4) (λ_ _=>id)) (s.o.trans0 A.o) (λ_ _=>id));have P7:=@Hd (w7.ownsRow G.heap.size 45 32 (.slice pa (ji L t n).length av) (ji L t n).length ((ji L t n).flatMap zd)) (zb (zb PP.o k.o (λ_ _=>id)) (s.o.trans0 A.o) (λ_ _=>id));have PB:=@Hd (∀j,(Value.slice pa (ji L t n).length av).ownBlock=some j→j≠r∧((Value.slice Q n R).ownBlock=some j→False)) (λj d=>⟨λe=>by have:=(PP.o.lt j d).2;have:=ZQ.o;omega,λe=>DS.o j e d⟩);have O8:=Hd (zb O7.o F8.o (λj d e=>by have:=(OO.o.lt j d).2;have:=ZQ.o;omega));have P8:=Hd (zb P7.o F8.o (λj d e=>(PB.o j d).1 e));have a6:=@Hd (Fr No w _) (((K.o.trans0 s.o).trans0 A.o).trans F8.o (λi hi e=>by have:=ag.o.size;have:=ZA.o;have:=H.o.size;have:=ZQ.o;have:=af.o.size;have:=V.o.size;omega));have W:=@Hd (Fr No G _) (((((V.o.trans0 k.o).trans0 s.o).trans0 A.o)).trans F8.o (λi hi e=>by have:=ZQ.o;have:=V.o.size;omega));have az:=@Hd ((xF S L q).getD xN=zZ S q) (by rw[LK.o,if_pos HK.o];rfl);have ay:=@Hd ((xF S L q).isSome=true) (by rw[LK.o,if_pos HK.o];rfl);obtain⟨v9,w9,b1,b2,b3,-,b5⟩:=yA (P:=prog) _ G.heap.size 22 22 58 33 40 _ qO JG (by rw[←yQ];rfl) (by decide) O8.o (zF (zZ S q)) a.o yd (by omega) (by unfold maxLen;omega) W.o.size;obtain⟨Z,aa,aF⟩:=b2.slice.arg.form;subst aF;have B1:=Hd b1;have B2:=Hd b2;have B3:=Hd b3;have B5:=Hd b5;clear b1 b2 b3 b5;have NO:=@Hd (∀j,(Value.slice Q n R).ownBlock=some j→G.heap.size≤j∧j<F.heap.size) (λj d=>OO.o.lt j d);have P9:=Hd (zb P8.o B3.o (λj d e=>(PB.o j d).2 e));have ax:=Hd (W.o.trans B3.o (λi hi e=>by have:=(NO.o _ e).1;omega));have aw:=@Hd (∀j,(Value.slice Z (n+1) aa).ownBlock=some j→(Value.slice pa (ji L t n).length av).ownBlock=some j→False) (λj ho hp=>by rcases B5.o j ho with h|h;exact(PB.o j hp).2 h;(have:=(P8.o.lt j hp).2;omega))))|(clear K3;go_at_call 32;refine Y.o.mono ?_;rintro e u ⟨rfl,f3⟩;have H:=Hd f3;clear f3;have ZA:=@Hd (qb<wa.heap.size) (by rw[←B,←aq];simp);clear B;have ak:=Hd (za RN.o H.o id);have al:=Hd (zq u (zF ((yS L q).getD xN)) 58);have FB:=Hd ((frN u).alloc (.cells (zF ((yS L q).getD xN)).toArray 58));have BO:=Hd (ye u (.cells (zF ((yS L q).getD xN)).toArray 58));have O:=Hd (za ak.o FB.o id);have k:=Hd ((FA.o.trans0 H.o).trans0 FB.o))|(clear K6;go_at_call 23;refine ah.o.mono ?_;rintro e E ⟨rfl,f6⟩;have s:=Hd f6;clear f6;have an:=Hd (za al.o s.o id);have ad:=Hd (s.o.obj BO.o id);have aD:=Hd (zq E (zF (zZ S q)) 58);have A:=Hd ((frN E).alloc (.cells (zF (zZ S q)).toArray 58))));go_frame)
       have PT:=@Hd (ji L t (n+1)=ji L t n) (by unfold ji;rw[aN.o,if_neg (by rw[HM.o];decide),List.append_nil])
       have ab:=@Hd (∀q∈(z6 t).take (n+1),(xF S L q).isSome=true) (λy l=>by
        rw[take_add_one,HX.o] at l
        rcases mem_append.1 l with l|l
        ·exact AL.o y l
        ·simp at l;subst l;exact ay.o)
       go_roundw
       case rel=>exact⟨n+1,by go_num,by omega,ab.o,Z,aa,pa,av,rfl,by rw[PT.o],by rw[aM.o,az.o,flatMap_append];simpa using B2.o,by rw[PT.o];exact P9.o,by rw[PT.o];exact aw.o,ax.o⟩
       case measure=>simp[intOf];omega
      ·replace hk:yV S q=false:=by simpa using hk
       have HM:=Hd hm
       have HK:=Hd hk
       rw[hm] at Y
       rw[hk] at z
       clear hm hk
       have PE:=@Hd (Jy S L t=15) (by
        unfold Jy
        rw[if_neg (by rw[List.any_eq_true];rintro⟨y,l,hs⟩;rw[aT.o y l] at hs;cases hs),if_neg (by rw[List.all_eq_true];intro hh;have:=hh q (mem_of_getElem? HX.o);rw[LK.o,if_neg (by rw[HK.o];decide),HM.o] at this;cases this)])
       have⟨K0,K1,K2,K3,K4,K5,K6,K7⟩:=tZ8
       go_wp2_with ((first|((with_reducible refine zt ?_);first|(clear K0;refine znW rfl rfl rfl R1.o o.o ?_)|(clear K2;refine znW rfl rfl rfl RN.o o.o ?_)|(clear K5;with_reducible refine yg 50 ?_;refine znW rfl rfl rfl O.o o.o ?_))|((with_reducible refine zr ?_);first|(clear K1;refine zi rfl (zj (w:=F) (cs:=zm q) (ty:=56) rfl rfl rfl (by rw[o.o];rfl) (by rw[o.o];exact xZ) yF) ?_;generalize aq:F.heap.size=qb at*;generalize B:F.alloc (.cells (zm q).toArray 56)=wa at*)|(clear K4;refine zi rfl (zj (w:=u) (cs:=zF ((yS L q).getD xN)) (ty:=58) rfl rfl rfl (by rw[m.o];rfl) (by rw[m.o];exact yW) yd) ?_;generalize ar:u.heap.size=r at*;generalize D:u.alloc (.cells (zF ((yS L q).getD xN)).toArray 58)=w4 at*;have Z4:=@Hd (r<w4.heap.size) (by rw[←D,←ar];simp);have ZQ:=@Hd (qb<r) (by have:=ZA.o;have:=H.o.size;omega);clear D;have K:=@Hd (Fr No w w4) (ag.o.trans0 (H.o.trans0 FB.o));have ah:=Hd (z.o _ K.o))|(clear K7;refine zi rfl (zj (w:=E) (cs:=zF (zZ S q)) (ty:=58) rfl rfl rfl (by rw[a.o];rfl) (by rw[a.o];exact yW) yd) ?_;generalize aQ:E.heap.size=qc at*;generalize au:E.alloc (.cells (zF (zZ S q)).toArray 58)=w7 at*;have aI:=Hd (za an.o A.o id);have ae:=Hd (A.o.obj ad.o id);have ZC:=@Hd (r<qc) (by have:=s.o.size;have:=Z4.o;omega);clear au))|(clear K3;go_at_call 32;refine Y.o.mono ?_;rintro e u ⟨rfl,f3⟩;have H:=Hd f3;clear f3;have ZA:=@Hd (qb<wa.heap.size) (by rw[←B,←aq];simp);clear B;have ak:=Hd (za RN.o H.o id);have al:=Hd (zq u (zF ((yS L q).getD xN)) 58);have FB:=Hd ((frN u).alloc (.cells (zF ((yS L q).getD xN)).toArray 58));have BO:=Hd (ye u (.cells (zF ((yS L q).getD xN)).toArray 58));have O:=Hd (za ak.o FB.o id);have k:=Hd ((FA.o.trans0 H.o).trans0 FB.o))|(clear K6;go_at_call 23;refine ah.o.mono ?_;rintro e E ⟨rfl,f6⟩;have s:=Hd f6;clear f6;have an:=Hd (za al.o s.o id);have ad:=Hd (s.o.obj BO.o id);have aD:=Hd (zq E (zF (zZ S q)) 58);have A:=Hd ((frN E).alloc (.cells (zF (zZ S q)).toArray 58))));go_frame)
       go_ret3
       exact zay.bad PE.o (by decide) (K.o.trans0 (s.o.trans0 A.o)) _ _
    ·have ao:n=t.ins.length:=by omega
     have i1:¬(n:Int)<(t.ins.length:Int):=by omega
     have aU:=@Hd (∀q∈z6 t,(xF S L q).isSome=true) (λq hq=>AL.o q (by rw[ao,←ai.o,take_length];exact hq))
     have PE:=Hd (zbd.2 ⟨aT.o,aU.o⟩)
     have E1:=@Hd (zcs S L t n=xj S L t) (by unfold zcs xj;rw[ao,←ai.o,take_length])
     have E2:=@Hd (ji L t n=xz L t) (by unfold ji xz;rw[ao,←ai.o,take_length])
     have bf:=@Hd (∀x∈xj S L t,x.ok) (λx hx=>by
      obtain⟨q,hq,rfl⟩:=List.mem_map.1 hx
      unfold xF
      split
      ·exact XC.o q
      ·exact XP.o q)
     have aW:=Hd (zfp S L t hn)
     clear ao
     go_wp2_with fail
     go_ret3
     exact⟨_,_,by rw[PE.o];rfl,af.o.trans0 V.o,λ_=>⟨⟨bf.o,by have:=OO.o.slice.arg;rw[E1.o] at this;rw[←E1.o,aW.o,E1.o];exact this⟩,by rw[←E2.o];exact yu PP.o af.o.size⟩⟩
end
section
open Go.Lib
theorem zaR (x y:Nat) (c:x<18446744073709551616) (d:y<18446744073709551616) (w:World):
  Calls prog 117 #[.int .u64 x,.int .u64 y] w λe w'=>e=.returned (.tuple #[.int .u64 ((x*y / 18446744073709551616:Nat):Int),.int .u64 ((x*y % 18446744073709551616:Nat):Int)])∧w'=w:=by
 obtain⟨l,k,n,j⟩:=Lib.mul64_hi x y c d
 have o:=Lib.half_mul_le (a:=x / 4294967296) (b:=y / 4294967296) (by omega) (by omega)
 have p:=Lib.half_mul_le (a:=x / 4294967296) (b:=y % 4294967296) (by omega) (by omega)
 have q:=Lib.half_mul_le (a:=x % 4294967296) (b:=y / 4294967296) (by omega) (by omega)
 have f:x / 4294967296*(y / 4294967296)<18446744073709551616:=by omega
 have g:x / 4294967296*(y % 4294967296)<18446744073709551616:=by omega
 have h:x % 4294967296*(y / 4294967296)<18446744073709551616:=by omega
 have i:x / 4294967296*(y / 4294967296)+(x / 4294967296*(y % 4294967296)+x % 4294967296*(y % 4294967296) / 4294967296) / 4294967296<18446744073709551616:=by omega
 have m:x / 4294967296*(y / 4294967296)+(x / 4294967296*(y % 4294967296)+x % 4294967296*(y % 4294967296) / 4294967296) / 4294967296+((x / 4294967296*(y % 4294967296)+x % 4294967296*(y % 4294967296) / 4294967296) % 4294967296+x % 4294967296*(y / 4294967296)) / 4294967296<18446744073709551616:=by
  have:x*y / 18446744073709551616<18446744073709551616:=by
   have:=Nat.mul_le_mul (Nat.le_of_lt c) (Nat.le_of_lt d)
   have r:x*y<18446744073709551616*18446744073709551616:=Nat.mul_lt_mul'' c d
   omega
  omega
 go_enter Tryz.func117,Tryz.ntmps117
 go_wp2
 simp only[Mul64.maskN x c,Mul64.maskN y d,Mul64.divN,Mul64.mulN,Mul64.addN,Mul64.wrapN _ l,Mul64.wrapN _ g,Mul64.wrapN _ k,Mul64.maskN _ k,Mul64.wrapN _ h,Mul64.wrapN _ n,Mul64.wrapN _ f,Mul64.wrapN _ i,Mul64.wrapN _ m,Mul64.wrapM (x*y)]
 rw[j]
 go_ret2
 exact⟨rfl,rfl⟩
theorem zhX (lo:Nat) (c:lo<18446744073709551616) (w:World):
  Calls prog 118 #[.int .u64 0,.int .u64 lo,.int .u64 1000] w λe w'=>e=.returned (.tuple #[.int .u64 ((lo / 1000:Nat):Int),.int .u64 ((lo % 1000:Nat):Int)])∧Fr No w w':=by
 go_enter Tryz.func118,Tryz.ntmps118
 go_wp2
 refine wrLx [ff,ff,ff,ff,ff,ff,ff,ff] (λ_=>True) ?_ (λK hK=>?_)
 ·trivial
 repeat((first|(refine zk rfl ?_;constructor;constructor;(focus(first|(rintro w' -;exact goS))))|(refine zl rfl ?_));try simp only[Act.put,pA,pB,pC])
 refine zN (hK.out _ _ ?_)
 have a:=@Hd (IntKind.u64.wrap ((lo:Int) / 1000)=((lo / 1000:Nat):Int)) (by rw[IntKind.wrap_u64];omega)
 have b:=@Hd (((lo:Int).tmod 1000)=((lo % 1000:Nat):Int)) (rfl)
 go_wp2_with fail
 rw[a.o,b.o]
 go_ret2
 exact⟨rfl,(frN w).drew⟩
theorem zjQ (n:Nat) (j:n≤1000000000000) (w:World):
  Calls prog 78 #[.int .u64 n,.int .u64 100] w λe w'=>e=.returned (.tuple #[.int .u64 (((n*100+999) / 1000:Nat):Int),.int .i64 0])∧Fr No w w':=by
 have M:=Hd (zaR n 100 (by omega) (by omega) w)
 rw[show n*100 / 18446744073709551616=0 by omega,show n*100 % 18446744073709551616=n*100 by omega] at M
 have D:=Hd (zhX (n*100) (by omega) w)
 by_cases hr:n*100 % 1000=0
 ·have E:=@Hd ((n*100+999) / 1000=n*100 / 1000) (by omega)
  have g:(((n*100 % 1000:Nat):Int)==0)=true:=by rw[hr];rfl
  generalize n*100 / 1000=q at*
  generalize n*100 % 1000=r at*
  clear hr
  go_enter Tryz.func78,Tryz.ntmps78
  have⟨a,b⟩:=tZ2
  go_wp2_with ((first|(clear a;go_at_call 117;refine M.o.mono ?_;rintro e h ⟨rfl,d⟩;subst d)|(clear b;go_at_call 118;refine D.o.mono ?_;rintro e i ⟨rfl,c⟩));go_frame)
  go_ret2
  exact⟨by rw[E.o];rfl,c⟩
 ·have E:=@Hd ((n*100+999) / 1000=n*100 / 1000+1) (by omega)
  have g:(((n*100 % 1000:Nat):Int)==0)=false:=by rw[beq_eq_false_iff_ne];omega
  have k:((((n*100 / 1000:Nat):Int))==18446744073709551615)=false:=by rw[beq_eq_false_iff_ne];omega
  have f:n*100 / 1000≤1000000000000:=by omega
  generalize n*100 / 1000=q at*
  generalize n*100 % 1000=r at*
  clear hr
  go_enter Tryz.func78,Tryz.ntmps78
  have⟨a,b⟩:=tZ2
  go_wp2_with ((first|(clear a;go_at_call 117;refine M.o.mono ?_;rintro e h ⟨rfl,d⟩;subst d)|(clear b;go_at_call 118;refine D.o.mono ?_;rintro e i ⟨rfl,c⟩));go_frame)
  go_ret2
  exact⟨by rw[E.o];rfl,c⟩
theorem zdh (s:Nat) (c:s≤1000000000000) (w:World):
  Calls prog 43 #[.int .i64 s] w λe w'=>e=.returned (.int .u64 (Jq s))∧Fr No w w':=by
 have N:=Hd (zjQ s c w)
 have E:=@Hd (Jq (s:Int)=((s:Int)*100+999) / 1000) (by unfold Jq;omega)
 have d:max (s:Int) 0=(s:Int):=by omega
 go_enter Tryz.func43,Tryz.ntmps43
 have a:=tru
 go_wp2_with (clear a;go_at_call 78;refine N.o.mono ?_;rintro e f ⟨rfl,b⟩;go_frame)
 go_ret
 exact⟨by rw[E.o];rfl,b⟩
def zjm (x y:Nat):Int:=if x<y then -1 else if x=y then 0 else 1
theorem or_zero (x y:Nat) (b:x<18446744073709551616) (c:y<18446744073709551616):(bits .or .u64 (x:Int) (y:Int)==0)=(x==0 && y==0):=by
 rw[bits_or_u64_nat x y b c]
 rw[Bool.eq_iff_iff]
 simp only[beq_iff_eq,Bool.and_eq_true]
 constructor
 ·intro h
  have a:x|||y=0:=by omega
  exact Nat.or_eq_zero_iff.1 a
 ·rintro⟨rfl,rfl⟩
  rfl
theorem zkN (a b c d:Nat) (B:a<18446744073709551616) (C:b<18446744073709551616) (D:c<18446744073709551616) (F:d<18446744073709551616) (w:World):
  Calls prog 127 #[.int .u64 a,.int .u64 b,.int .u64 c,.int .u64 d] w λe w'=>e=.returned (.int .i64 (zjm (a*b) (c*d)))∧w'=w:=by
 have s:=Hd (zaR a b B C w)
 have t:=Hd (zaR c d D F w)
 have R:a*b<18446744073709551616*18446744073709551616:=Nat.mul_lt_mul'' B C
 have S:c*d<18446744073709551616*18446744073709551616:=Nat.mul_lt_mul'' D F
 generalize a*b=X at*
 generalize c*d=Y at*
 obtain⟨h,K⟩:∃h,h=X / 18446744073709551616:=⟨_,rfl⟩
 obtain⟨l,L⟩:∃l,l=X % 18446744073709551616:=⟨_,rfl⟩
 obtain⟨i,hi⟩:∃i,i=Y / 18446744073709551616:=⟨_,rfl⟩
 obtain⟨m,M⟩:∃m,m=Y % 18446744073709551616:=⟨_,rfl⟩
 rw[←K,←L] at s
 rw[←hi,←M] at t
 have B1:h<18446744073709551616:=by omega
 have B2:l<18446744073709551616:=by omega
 have N:i<18446744073709551616:=by omega
 have O:m<18446744073709551616:=by omega
 obtain⟨u,j⟩:∃u,u=(if l<m+0 then 1 else 0:Nat):=⟨_,rfl⟩
 have H:u≤1:=by rw[j];split<;>omega
 have p:=Hd (run_sub64 (P:=prog) l m 0 (by omega) w)
 have A:=Hd (run_sub64 (P:=prog) h i u H w)
 rw[←j] at p
 obtain⟨x,f⟩:∃x,x=(l+18446744073709551616-m-0) % 18446744073709551616:=⟨_,rfl⟩
 obtain⟨y,g⟩:∃y,y=(h+18446744073709551616-i-u) % 18446744073709551616:=⟨_,rfl⟩
 obtain⟨v,q⟩:∃v,v=(if h<i+u then 1 else 0:Nat):=⟨_,rfl⟩
 rw[←f] at p
 rw[←g,←q] at A
 have o:=Hd (or_zero y x (by omega) (by omega))
 have E:=@Hd (zjm X Y=if v≠0 then -1 else if y=0∧x=0 then 0 else 1) (by
  unfold zjm
  by_cases k:X<Y
  ·have T:v=1:=by rw[q,j];split<;>split<;>omega
   rw[if_pos k,T]
   rfl
  ·have G:v=0:=by rw[q,j];split<;>split<;>omega
   rw[if_neg k,G]
   by_cases n:X=Y
   ·have W:y=0:=by subst n;rw[g,j];split<;>omega
    have V:x=0:=by subst n;rw[f];omega
    rw[if_pos n,W,V]
    rfl
   ·rw[if_neg n]
    have:¬(y=0∧x=0):=by
     rintro⟨I,Q⟩
     rw[f] at Q
     rw[g,j] at I
     split at I<;>omega
    simp[this])
 have Z:v≤1:=by rw[q];split<;>omega
 clear q j f g K L hi M R S B C D F B1 B2 N O H
 rw[show((0:Nat):Int)=0 from rfl] at p
 have r:(v==0)=true∨v=1:=by rcases Nat.lt_or_ge v 1 with h|h;exact .inl (by simp;omega);exact .inr (by omega)
 go_enter Tryz.func127,Tryz.ntmps127
 go_wp2_with (first|(go_at_call 117;have mk:=s.o;refine s.o.mono ?_;rintro e U ⟨rfl,k⟩;subst k;clear mk s)|(go_at_call 117;refine t.o.mono ?_;rintro e U ⟨rfl,k⟩;subst k;clear t))
 rw[run_callFunc_extern Tryz.func154 (by kernel_rfl) (by kernel_rfl) (by kernel_rfl) (e:=sub64Entry) (by kernel_rfl),p.o]
 simp only[Result.andThen]
 rw[Oper.upon_value]
 go_wp2
 rw[run_callFunc_extern Tryz.func154 (by kernel_rfl) (by kernel_rfl) (by kernel_rfl) (e:=sub64Entry) (by kernel_rfl),A.o]
 simp only[Result.andThen]
 rw[Oper.upon_value]
 clear p A
 rcases r with r|r
 ·have G:v=0:=by simpa using r
  subst G
  rw[if_neg (by simp)] at E
  by_cases hxy:y=0∧x=0
  ·rw[if_pos hxy] at E
   rw[hxy.1,hxy.2] at o⊢
   have z:=o.o
   rw[show((0:Nat):Int)=0 from rfl] at z
   clear o
   go_wp2
   go_ret
   exact⟨by rw[E.o];rfl,rfl⟩
  ·rw[if_neg hxy] at E
   have z:=o.o
   rw[show(y==0 && x==0)=false by simp only[Bool.and_eq_false_imp,beq_iff_eq];intro h;simp;intro n;exact hxy ⟨h,n⟩] at z
   clear o
   go_wp2
   go_ret
   exact⟨by rw[E.o];rfl,rfl⟩
 ·subst r
  rw[if_pos (by simp)] at E
  go_wp2
  go_ret
  exact⟨by rw[E.o];rfl,rfl⟩
def y6 (x:Int×Int):List Value:=[.int .u64 x.1,.int .i64 x.2]
def WOk (x:Int×Int):Prop:=(0≤x.1∧x.1≤18446744073709551615)∧0≤x.2∧x.2≤1000000000000
theorem Qn:∃d,prog.underlying 118=some d∧d.isRow=true:=jR (by kernel_rfl)
theorem xU:(prog.info? 118).map (·.size)=some 2:=by kernel_rfl
theorem Qe {x:Int×Int}:∀u∈y6 x,u.oneCell'=true:=by
 intro u a
 simp only[y6,List.mem_cons,List.not_mem_nil,or_false] at a
 rcases a with rfl|rfl<;>rfl
theorem zdJ (f:Int) (s:Nat) (c:s≤1000000000000) (w:World):
  Calls prog 128 #[.agg #[.int .u64 f,.int .i64 s]] w λe w'=>e=.returned (.int .u64 ((max s 1:Nat):Int))∧Fr No w w':=by
 by_cases h:1≤s
 ·have m:max s 1=s:=by omega
  have g:max (s:Int) 1=s:=by omega
  have d:¬(s:Int)<1:=by omega
  rw[m]
  have a:=Hd ((frN w).alloc (.cells #[.int .u64 f,.int .i64 s] 118))
  go_enter Tryz.func128,Tryz.ntmps128
  go_wp2_with fail
  go_ret
  exact⟨rfl,a.o⟩
 ·have b:s=0:=by omega
  subst b
  have a:=Hd ((frN w).alloc (.cells #[.int .u64 f,.int .i64 ((0:Nat):Int)] 118))
  go_enter Tryz.func128,Tryz.ntmps128
  go_wp2_with fail
  go_ret
  exact⟨rfl,a.o⟩
theorem zmj (a b s r:Nat):zjm (a*max r 1) (b*max s 1)=Yq ((a:Int),(s:Int)) ((b:Int),(r:Int)):=by
 unfold zjm Yq
 have c:(a:Int)*max (r:Int) 1=((a*max r 1:Nat):Int):=by rw[Int.natCast_mul];congr 1;omega
 have d:(b:Int)*max (s:Int) 1=((b*max s 1:Nat):Int):=by rw[Int.natCast_mul];congr 1;omega
 simp only
 rw[c,d]
 generalize a*max r 1=X
 generalize b*max s 1=Y
 by_cases h1:X<Y
 ·have c1:(X:Int)<(Y:Int):=by omega
  rw[if_pos h1,if_pos c1]
 ·have c1:¬(X:Int)<(Y:Int):=by omega
  rw[if_neg h1,if_neg c1]
  by_cases h2:X=Y
  ·have c2:(X:Int)=(Y:Int):=by omega
   rw[if_pos h2,if_pos c2]
  ·have c2:¬(X:Int)=(Y:Int):=by omega
   rw[if_neg h2,if_neg c2]
theorem Xy {x y:Int×Int} (O:WOk x) (P:WOk y) (w:World):
  Calls prog 96 #[.agg (y6 x).toArray,.agg (y6 y).toArray] w λe w'=>e=.returned (.int .i64 (Yq x y))∧Fr No w w':=by
 obtain⟨R,C,B⟩:=Qn
 obtain⟨X,Y⟩:=x
 obtain⟨Z,y2⟩:=y
 obtain⟨⟨j,u⟩,k,v⟩:=O
 obtain⟨⟨l,z⟩,m,A⟩:=P
 dsimp only at j u k v l z m A
 obtain⟨a,rfl⟩:=Int.eq_ofNat_of_zero_le j
 obtain⟨s,rfl⟩:=Int.eq_ofNat_of_zero_le k
 obtain⟨b,rfl⟩:=Int.eq_ofNat_of_zero_le l
 obtain⟨r,rfl⟩:=Int.eq_ofNat_of_zero_le m
 have E:=Hd (zmj a b s r)
 have F:=Hd (((frN w).alloc (.cells (y6 ((a:Int),(s:Int))).toArray 118)).alloc (.cells (y6 ((b:Int),(r:Int))).toArray 118))
 have d:=Hd (za (zq w (y6 ((a:Int),(s:Int))) 118) ((frN _).alloc (.cells (y6 ((b:Int),(r:Int))).toArray 118)) id)
 have f:=@Hd (((w.alloc (.cells (y6 ((a:Int),(s:Int))).toArray 118)).alloc (.cells (y6 ((b:Int),(r:Int))).toArray 118)).rangeAt (w.heap.size+1) 0 (y6 ((b:Int),(r:Int)))) (by
  have:=zq (w.alloc (.cells (y6 ((a:Int),(s:Int))).toArray 118)) (y6 ((b:Int),(r:Int))) 118
  simpa using this)
 have G:=Hd (λw=>zdJ b r (by omega) w)
 have H:=Hd (λw=>zdJ a s (by omega) w)
 have D:=Hd (λw=>zkN a (max r 1) b (max s 1) (by omega) (by omega) (by omega) (by omega) w)
 clear j u k v l z m A
 unfold y6 at*
 generalize max r 1=S at*
 generalize max s 1=T at*
 go_enter Tryz.func96,Tryz.ntmps96
 go_wp2_with fail
 generalize N:w.heap.size=n at*
 generalize (w.alloc (.cells #[.int .u64 (a:Int),.int .i64 (s:Int)] 118)).alloc (.cells #[.int .u64 (b:Int),.int .i64 (r:Int)] 118)=Q at*
 have i:=Hd ((frN Q).drew)
 refine wrLx [ff,ff,ff,tt,ff,ff,ff,tt,tt,ff] (λw'=>w'.cell? ⟨n,0,none⟩=some (.int .u64 (a:Int))∧w'.rangeAt n 0 [.int .u64 (a:Int),.int .i64 (s:Int)]∧w'.cell? ⟨n+1,0,none⟩=some (.int .u64 (b:Int))∧w'.rangeAt (n+1) 0 [.int .u64 (b:Int),.int .i64 (r:Int)]) ?_ (λK hK=>?_)
 ·exact⟨za d.o i.o id 0 _ rfl,za d.o i.o id,za f.o i.o id 0 _ rfl,za f.o i.o id⟩
 repeat((first|(refine zk rfl ?_;constructor;constructor;(focus(first|exact y5 (ty:=118) rfl (λw h=>h.2.2.2) C B xU|(rintro w' ⟨o,p,q,t⟩;exact goS))))|(refine zl rfl ?_));try simp only[Act.put,pA,pB,pC])
 (refine zM rfl (λK' hK'=>?_))
 go_simp
 refine(G.o _).mono ?_
 rintro e U ⟨rfl,I⟩
 have g:=Hd (i.o.trans0 I)
 refine nXt hK' ?_ λhS=>?_
 ·exact⟨za d.o g.o id 0 _ rfl,za d.o g.o id,za f.o g.o id 0 _ rfl,za f.o g.o id⟩
 try simp only[Act.put,pA,pB,pC]
 repeat((first|(refine zk rfl ?_;constructor;constructor;(focus(first|exact y5 (ty:=118) rfl (λw h=>h.2.1) C B xU|(rintro w' ⟨o,p,q,t⟩;exact goS))))|(refine zl rfl ?_));try simp only[Act.put,pA,pB,pC])
 (refine zM rfl (λK' hK'=>?_))
 go_simp
 refine(H.o _).mono ?_
 rintro e V ⟨rfl,L⟩
 have c:=Hd (g.o.trans0 L)
 refine nXt hK' ?_ λhS=>?_
 ·exact⟨za d.o c.o id 0 _ rfl,za d.o c.o id,za f.o c.o id 0 _ rfl,za f.o c.o id⟩
 try simp only[Act.put,pA,pB,pC]
 repeat((first|(refine zk rfl ?_;constructor;constructor;(focus(first|(rintro w' ⟨o,p,q,t⟩;exact goS))))|(refine zl rfl ?_));try simp only[Act.put,pA,pB,pC])
 (refine zM rfl (λK' hK'=>?_))
 go_simp
 refine(D.o _).mono ?_
 rintro e W ⟨rfl,M⟩
 subst M
 refine nXt hK' ?_ λhS=>?_
 ·exact⟨za d.o c.o id 0 _ rfl,za d.o c.o id,za f.o c.o id 0 _ rfl,za f.o c.o id⟩
 try simp only[Act.put,pA,pB,pC]
 repeat((first|(refine zk rfl ?_;constructor;constructor;(focus(first|(rintro w' ⟨o,p,q,t⟩;exact goS))))|(refine zl rfl ?_));try simp only[Act.put,pA,pB,pC])
 refine zN (hK.out _ _ ?_)
 go_wp2_with fail
 go_ret
 exact⟨by rw[←E.o];rfl,F.o.trans0 c.o⟩
end
section
open Go.Lib
theorem zjN {x y:Int×Int} (d:WOk x) (f:WOk y) (w:World):
  Calls prog 88 #[.agg (y6 x).toArray,.agg (y6 y).toArray] w λe w'=>e=.returned (.bool (decide (Yq x y<0)))∧Fr No w w':=by
 obtain⟨r,h,g⟩:=Qn
 have C:=Hd (λw=>Xy d f w)
 have i:=Hd (((frN w).alloc (.cells (y6 x).toArray 118)).alloc (.cells (y6 y).toArray 118))
 have o:=Hd (za (zq w (y6 x) 118) ((frN _).alloc (.cells (y6 y).toArray 118)) id)
 have p:=@Hd (((w.alloc (.cells (y6 x).toArray 118)).alloc (.cells (y6 y).toArray 118)).rangeAt (w.heap.size+1) 0 (y6 y)) (by
  have:=zq (w.alloc (.cells (y6 x).toArray 118)) (y6 y) 118
  simpa using this)
 generalize Yq x y=c at*
 generalize a:y6 x=X at*
 generalize b:y6 y=Y at*
 have m:=@Hd (X.length=2) (by rw[←a];rfl)
 have n:=@Hd (Y.length=2) (by rw[←b];rfl)
 clear a b d f
 go_enter Tryz.func88,Tryz.ntmps88
 have⟨j,k,l⟩:=tZ3
 go_wp2_with ((first|((with_reducible refine zt ?_);first|(clear j;with_reducible refine yg 5 ?_;refine zg rfl (zX (ty:=118) rfl rfl o.o h g (by rw[m.o];exact xU)) ?_)|(clear k;with_reducible refine yg 6 ?_;refine zg rfl (zX (ty:=118) rfl rfl p.o h g (by rw[n.o];exact xU)) ?_))|(clear l;go_at_call 96;refine(C.o _).mono ?_;rintro e s ⟨rfl,q⟩));go_frame)
 go_ret
 exact⟨rfl,i.o.trans0 q⟩
def Zz (w:World) (v:Value) (l:List (Int×Int)):Prop:=(∀x∈l,WOk x)∧xQ w v l.length (l.flatMap y6)
theorem Zz.keep {w w':World} {l:List (Int×Int)} (h:Zz w v l) (f:Fr No w w'):Zz w' v l:=⟨h.1,h.2.keep f⟩
theorem Zz.at_ {l:List (Int×Int)} (h:Zz w v l) {i:Nat} {c:Int×Int} (a:l[i]? =some c):∃b off cap,v=.slice (some ⟨b,off,none⟩) l.length cap∧w.rangeAt b (off+i*2) (y6 c)∧b<w.heap.size:=
 h.2.elem (k:=2) (by decide) (λ_ _=>rfl) a
def Zf (l:List (Int×Int)) (n:Nat):Int:=match Zg l n with
 |none=> -1
 |some k=>k
theorem ziY (w:World) {l:List (Int×Int)} (H:Zz w v l) (W:l.length≤100000):
  Calls prog 87 #[v] w λe w'=>e=.returned (.int .i64 (Zf l l.length))∧Fr No w w':=by
 obtain⟨V,g,f⟩:=Qn
 obtain⟨va,vc,rfl⟩:=H.2.form
 have s:=Hd H
 clear H
 go_enter Tryz.func87,Tryz.ntmps87
 go_wp2_with fail
 go_loopw [3,8] (λR N wr=>∃n:Nat,N=.int .i64 n∧n≤l.length∧R=.int .i64 (Zf l n)∧Fr No w wr) (λ_ N _=>l.length-(intOf N).toNat)
 case atStart=>exact⟨0,rfl,zero_le _,rfl,Fr.refl _ _⟩
 case round=>
  obtain⟨n,rfl,Y,rfl,fr⟩:=hrel
  have r:=Hd fr
  clear fr
  by_cases I:n<l.length
  ·have S:(n:Int)<(l.length:Int):=by omega
   obtain⟨x,q⟩:∃x,l[n]? =some x:=⟨_,getElem?_eq_getElem I⟩
   obtain⟨b,off,cap,e,M,-⟩:=(s.o.keep r.o).at_ q
   cases e
   have D:=Hd (s.o.1 x (mem_of_getElem? q))
   have B:=Hd M
   have m:=Hd (zq wr (y6 x) 118)
   have A:=Hd (r.o.alloc (.cells (y6 x).toArray 118))
   cases hw:Zg l n with
   |none=>
    have a:=@Hd (Zf l n= -1∧Zf l (n+1)=n) (by unfold Zf;simp only[Zg,hw];exact⟨trivial,trivial⟩)
    rw[a.o.1]
    clear M q hw
    have⟨i,j⟩:=tZ2
    go_wp2_with ((first|((with_reducible refine zt ?_);clear i;refine zg rfl (zX (ty:=118) rfl rfl B.o g f (show _=some (y6 x).length from xU)) ?_)|((with_reducible refine zr ?_);clear j;refine zi rfl (zj (w:=wr) (cs:=y6 x) (ty:=118) rfl rfl rfl rfl (show _=some (y6 x).length from xU) Qe) ?_));go_frame)
    refine wrLx [ff,ff,ff,ff,ff,ff,tt,ff,ff,ff,ff] (λw'=>w'.rangeAt wr.heap.size 0 (y6 x)) ?_ (λK hK=>?_)
    ·exact za m.o (frN _).drew id
    repeat((first|(refine zk rfl ?_;constructor;constructor;(focus(first|(rintro w' z;exact goS))))|(refine zl rfl ?_));try simp only[Act.put,pA,pB,pC])
    refine zN (hK.out _ _ ?_)
    go_wp2_with fail
    go_roundw
    case rel=>exact⟨n+1,by simp,by omega,by rw[a.o.2],A.o.drew⟩
    case measure=>simp[intOf];omega
   |some k=>
    have X:=za0 l n k hw
    obtain⟨y,u⟩:∃y,l[k]? =some y:=⟨_,getElem?_eq_getElem (by omega)⟩
    obtain⟨U,Q,P,o,p,-⟩:=(s.o.keep r.o).at_ u
    injection o with o e3 e4
    injection o with o
    injection o with e5 e6 e7
    subst e5
    subst e6
    have E:=Hd (s.o.1 y (mem_of_getElem? u))
    have t:=Hd (za p ((frN wr).alloc (.cells (y6 x).toArray 118)) id)
    have C:=Hd (λw=>Xy D.o E.o w)
    have a:=@Hd (Zf l n=k∧Zf l (n+1)=if Yq x y<0 then(n:Int) else(k:Int)) (by
     unfold Zf
     simp only[Zg,hw,q,u,Option.getD_some]
     refine⟨trivial,?_⟩
     by_cases G:Yq x y<0
     ·simp[G]
     ·simp[G])
    rw[a.o.1]
    have Z:¬(k:Int)<0:=by omega
    have i3:(k:Int)<(l.length:Int):=by omega
    clear M p q u hw e4
    generalize G:Yq x y=c at*
    by_cases hc0:c<0
    ·rw[if_pos hc0] at a
     have⟨i,j⟩:=tZ2
     go_wp2_with ((first|((with_reducible refine zt ?_);clear i;refine zg rfl (zX (ty:=118) rfl rfl B.o g f (show _=some (y6 x).length from xU)) ?_)|((with_reducible refine zr ?_);clear j;refine zi rfl (zj (w:=wr) (cs:=y6 x) (ty:=118) rfl rfl rfl rfl (show _=some (y6 x).length from xU) Qe) ?_));go_frame)
     refine wrLx [ff,ff,ff,ff,ff,ff,ff,ff,tt,ff,ff] (λw'=>w'.rangeAt wr.heap.size 0 (y6 x)∧w'.rangeAt b (off+k*2) (y6 y)) ?_ (λK hK=>?_)
     ·exact⟨za m.o (frN _).drew id,za t.o (frN _).drew id⟩
     repeat((first|(refine zk rfl ?_;constructor;constructor;(focus(first|exact y5 (ty:=118) rfl (λw h=>h.1) g f (show _=some (y6 x).length from xU)|exact y5 (ty:=118) rfl (λw h=>h.2) g f (show _=some (y6 y).length from xU)|(rintro w' ⟨z,O⟩;exact goS))))|(refine zl rfl ?_));try simp only[Act.put,pA,pB,pC])
     (refine zM rfl (λK' hK'=>?_))
     go_simp
     refine(C.o _).mono ?_
     rintro e T ⟨rfl,F⟩
     have d:=Hd ((frN _).drew.trans0 F)
     refine nXt hK' ?_ λhS=>?_
     ·exact⟨za m.o d.o id,za t.o d.o id⟩
     try simp only[Act.put,pA,pB,pC]
     repeat((first|(refine zk rfl ?_;constructor;constructor;(focus(first|(rintro w' ⟨z,O⟩;exact goS))))|(refine zl rfl ?_));try simp only[Act.put,pA,pB,pC])
     refine zN (hK.out _ _ ?_)
     go_wp2_with fail
     go_roundw
     case rel=>exact⟨n+1,by simp,by omega,by rw[a.o.2],A.o.trans0 d.o⟩
     case measure=>simp[intOf];omega
    ·rw[if_neg hc0] at a
     have⟨i,j⟩:=tZ2
     go_wp2_with ((first|((with_reducible refine zt ?_);clear i;refine zg rfl (zX (ty:=118) rfl rfl B.o g f (show _=some (y6 x).length from xU)) ?_)|((with_reducible refine zr ?_);clear j;refine zi rfl (zj (w:=wr) (cs:=y6 x) (ty:=118) rfl rfl rfl rfl (show _=some (y6 x).length from xU) Qe) ?_));go_frame)
     refine wrLx [ff,ff,ff,ff,ff,ff,ff,ff,tt,ff,ff] (λw'=>w'.rangeAt wr.heap.size 0 (y6 x)∧w'.rangeAt b (off+k*2) (y6 y)) ?_ (λK hK=>?_)
     ·exact⟨za m.o (frN _).drew id,za t.o (frN _).drew id⟩
     repeat((first|(refine zk rfl ?_;constructor;constructor;(focus(first|exact y5 (ty:=118) rfl (λw h=>h.1) g f (show _=some (y6 x).length from xU)|exact y5 (ty:=118) rfl (λw h=>h.2) g f (show _=some (y6 y).length from xU)|(rintro w' ⟨z,O⟩;exact goS))))|(refine zl rfl ?_));try simp only[Act.put,pA,pB,pC])
     (refine zM rfl (λK' hK'=>?_))
     go_simp
     refine(C.o _).mono ?_
     rintro e T ⟨rfl,F⟩
     have d:=Hd ((frN _).drew.trans0 F)
     refine nXt hK' ?_ λhS=>?_
     ·exact⟨za m.o d.o id,za t.o d.o id⟩
     try simp only[Act.put,pA,pB,pC]
     repeat((first|(refine zk rfl ?_;constructor;constructor;(focus(first|(rintro w' ⟨z,O⟩;exact goS))))|(refine zl rfl ?_));try simp only[Act.put,pA,pB,pC])
     refine zN (hK.out _ _ ?_)
     go_wp2_with fail
     go_roundw
     case rel=>exact⟨n+1,by simp,by omega,by rw[a.o.2],A.o.trans0 d.o⟩
     case measure=>simp[intOf];omega
  ·have L:n=l.length:=by omega
   have S:¬(n:Int)<(l.length:Int):=by omega
   subst L
   go_wp2_with fail
   go_ret
   exact⟨rfl,r.o⟩
theorem zij (t d:Nat) (h:t<18446744073709551616) (g:d<18446744073709551616) (w:World) {b:Nat} (f:w.cell? ⟨b,0,none⟩=some (.int .u64 d)):
  Calls prog 65 #[.int .u64 t,.slice (some ⟨b,0,none⟩) 1 1] w λe w'=>e=.returned (.int .u64 (Ze t d))∧Fr No w w':=by
 go_enter Tryz.func65,Tryz.ntmps65
 go_wp2_with fail
 by_cases ho:t+d<18446744073709551616
 ·have E:=@Hd (Ze (t:Int) (d:Int)=((t+d:Nat):Int)) (by unfold Ze;rw[if_pos (by omega)];omega)
  have c:((t:Int)+d+0) % 18446744073709551616=((t+d:Nat):Int):=by omega
  have a:((t:Int)+d+0) / 18446744073709551616=0:=by omega
  refine wp_loop_rounds 2 ?_
  rw[rounds_succ]
  go_wp2
  rw[run_callFunc_extern Tryz.func103 (by kernel_rfl) (by kernel_rfl) (by kernel_rfl) (e:=add64Entry) (by kernel_rfl),run_add64 _ _ 0 (by omega) (by omega) (by omega) (by omega)]
  simp only[Result.andThen]
  rw[Oper.upon_value]
  rw[c,a]
  go_wp2
  skip
  rw[rounds_succ]
  go_wp2
  go_ret
  exact⟨by rw[E.o];rfl,Fr.refl _ _⟩
 ·have E:=@Hd (Ze (t:Int) (d:Int)=18446744073709551615) (by unfold Ze;rw[if_neg (by omega)])
  have a:((t:Int)+d+0) / 18446744073709551616=1:=by omega
  refine wp_loop_rounds 1 ?_
  rw[rounds_succ]
  go_wp2
  rw[run_callFunc_extern Tryz.func103 (by kernel_rfl) (by kernel_rfl) (by kernel_rfl) (e:=add64Entry) (by kernel_rfl),run_add64 _ _ 0 (by omega) (by omega) (by omega) (by omega)]
  simp only[Result.andThen]
  rw[Oper.upon_value]
  rw[a]
  go_wp2
  go_ret
  exact⟨by rw[E.o];rfl,Fr.refl _ _⟩
def Ya (l:List InD):Int:=(l.map λx=>(x.key.length:Int)).sum
theorem zgr {l:List InD} {x:InD} (h:l[n]? =some x):Ya (l.take (n+1))=Ya (l.take n)+(x.key.length:Int):=by
 rw[take_add_one,h]
 simp[Ya]
theorem ze3 {l:List InD} (h:∀x∈l,x.key.length≤64):0≤Ya l∧Ya l≤64*(l.length:Int):=by
 induction l with
 |nil=>simp[Ya]
 |cons x r ih=>
  have b:=ih (λy a=>h y (.tail _ a))
  have c:=h x (.head _)
  have e:Ya (x::r)=(x.key.length:Int)+Ya r:=by simp[Ya]
  rw[e,List.length_cons]
  omega
theorem zao (w:World) {t:TxD} {cs:List Value} (K:TxQ w t cs) (a:qK t=true):
  Calls prog 42 #[.agg cs.toArray] w λe w'=>e=.returned (.tuple #[.int .i64 (vF t),.int .i64 0])∧Fr No w w':=by
 have S:=Hd K
 obtain⟨g,h,k,m,rfl,y,hi,ho⟩:=K
 have zI:=Yc
 obtain⟨H,aa,ab⟩:=xe.1 a
 have o:=Hd ((frN w).alloc (.cells #[.int .u32 t.ver,.slice g t.ins.length h,.slice k t.outs.length m] 27))
 obtain⟨-,c1,c2,L⟩:=qI w t.ver (.slice g t.ins.length h) (.slice k t.outs.length m)
 have M:=Hd c1
 have N:=Hd c2
 have R0:=Hd L
 have R:=Hd (hi.keep0 o.o)
 have s:=zb0 (w.alloc (.cells #[.int .u32 t.ver,.slice g t.ins.length h,.slice k t.outs.length m] 27)) (S.o.keep o.o)
 rw[a] at s
 have Q:=Hd s
 have D:=Hd (λn=>ze3 (l:=t.ins.take n) (λx f=>H x (List.mem_of_mem_take f)))
 have A:=@Hd (vF t=6+37*(t.ins.length:Int)+40*(t.outs.length:Int)+Ya t.ins) (rfl)
 clear hi ho y c1 c2 L H s a
 show Calls prog 42 #[.agg #[.int .u32 t.ver,.slice g t.ins.length h,.slice k t.outs.length m]] w _
 go_enter Tryz.func42,Tryz.ntmps42
 generalize ad:w.alloc (.cells #[.int .u32 t.ver,.slice g t.ins.length h,.slice k t.outs.length m] 27)=w1 at*
 obtain⟨B,r⟩:∃B:Int,B=6+37*(t.ins.length:Int)+40*(t.outs.length:Int):=⟨_,rfl⟩
 have Y:(37:Int)*(t.ins.length:Int)=37*(t.ins.length:Int):=rfl
 go_wp2_with (first|(refine znT rfl rfl rfl R0.o rfl ?_)|(go_at_call 64;refine Q.o.mono ?_;rintro e w2 ⟨rfl,G⟩;have p:=Hd G;clear G;have d1:=p.o.cell M.o id;have d2:=p.o.cell N.o id))
 clear Y
 rw[←r]
 rw[←r] at A
 have P:=@Hd (6≤B∧B≤622) (by omega)
 have Z:=P.o
 clear r
 go_loopw [4,23] (λnv z wr=>∃n:Nat,z=.int .i64 n∧n≤t.ins.length∧nv=.int .i64 (B+Ya (t.ins.take n))∧Fr No w1 wr) (λ_ z _=>t.ins.length-(intOf z).toNat)
 case atStart=>exact⟨0,rfl,zero_le _,by simp[Ya],p.o⟩
 case round=>
  obtain⟨n,rfl,hn,rfl,fr⟩:=hrel
  have q:=Hd fr
  have V:=D.o n
  rw[length_take] at V
  clear fr
  by_cases u:n<t.ins.length
  ·have i1:(n:Int)<(t.ins.length:Int):=by omega
   obtain⟨x,f⟩:∃x,t.ins[n]? =some x:=⟨_,getElem?_eq_getElem u⟩
   obtain⟨b,off,cap,cs,y,I,i,j,rfl,c,d⟩:=(R.o.keep0 q.o).at_ f
   cases y
   have W:=Hd I
   have C:=Hd (jf c (.slice i x.key.length j))
   have X:=(XF wr (kv:=.slice i x.key.length j) c).2
   have O:=Hd (q.o.alloc (.cells (inC x.from_ (.slice i x.key.length j)).toArray 112))
   have F:=Hd (zgr f)
   have U:=D.o (n+1)
   rw[F.o,length_take] at U
   clear I d c f
   generalize Ya (t.ins.take n)=T at*
   go_wp2_with (first|(refine znS rfl rfl rfl W.o C.o ?_)|(refine zn1 (w:=wr) (cs:=inC x.from_ (.slice i x.key.length j)) rfl rfl rfl rfl C.o Jm ?_;generalize wr.alloc (.cells (inC x.from_ (.slice i x.key.length j)).toArray 112)=wA at*))
   go_roundw
   case rel=>exact⟨n+1,by go_num,by omega,by rw[F.o];go_num,O.o⟩
   case measure=>simp[intOf];omega
  ·have v:n=t.ins.length:=by omega
   have i1:¬(n:Int)<(t.ins.length:Int):=by omega
   have E:=A
   subst v
   go_wp2_with fail
   go_ret2
   exact⟨by rw[E.o];rfl,o.o.trans0 q.o⟩
end
end Go.Proofs.YtbcllfjmabiafaaGreatDoor
