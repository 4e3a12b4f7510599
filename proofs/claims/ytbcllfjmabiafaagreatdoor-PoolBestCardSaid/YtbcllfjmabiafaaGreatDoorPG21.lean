/- pool: Renew. -/
import Derived.Test.YtbcllfjmabiafaaGreatDoorPG20
import Derived.Test.YtbcllfjmabiafaaGreatDoorPG2
import Derived.Test.YtbcllfjmabiafaaGreatDoorPG16
import Derived.Test.YtbcllfjmabiafaaGreatDoorPG17
import Derived.Test.YtbcllfjmabiafaaGreatDoorPG19
set_option linter.unusedVariables false
set_option linter.unusedSimpArgs false
set_option linter.unnecessarySimpa false
set_option linter.all false
set_option maxRecDepth 20000
set_option maxHeartbeats 16000000
namespace Go.Proofs.YtbcllfjmabiafaaGreatDoor
open Go Go.RowKit Go.Maps Go.MapKept
open Go.Proofs.Tryz(prog)
open List(mem_map mem_append mem_cons mem_singleton mem_filter nil_append take_append_drop length_singleton pairwise_cons)
open Nat(le_refl le_trans lt_of_lt_of_le)
variable {a n p x y z:Nat} {now:Int}
def zm6 (w0 w:World) (p:Nat) (X:Nat→Prop) (S:List zn) (I:List zf) (L:List zL) (first:List TxD) (now:Int) (e:Ending) (w':World):Prop:=
 ∃gv,e=.returned (.tuple #[gv,.int .i64 0])∧(∃ma ms g VG X' C N,yn w0 w' p ma ms g VG X' C (Zo S I L first now) N∧N≤first.length+L.length∧(∀j,X' j→X j∨w.heap.size≤j)∧(∀j,X j→X' j)∧(∀j,X' j→j<w'.heap.size)∧(∀j,poV p ma ms VG j→j=p∨w.heap.size≤j))∧Fr (λj=>j=p) w w'∧
  w'.ownsRow w.heap.size 45 32 gv (XY S I L first now).length ((XY S I L first now).flatMap zd)
section
variable {w0 w:World} {p ma ms g N:Nat} {VG X:Nat→Prop} {C:zf→List Value} {L:List zL} {S:List zn} {I:List zf}
theorem zll (hg:vp w0) (h:yn w0 w p ma ms g VG X C L N) (hN:N≤1000) (hX:∀j,X j→j<w.heap.size) (aD:L.length≤32) (Y:∀e∈L,0≤e.added∧e.added<18446744073709551616) {wc:World} {pc:Nat} {VC:Nat→Prop} {bs:List yx} (hc:∀w',Fr (λj=>j=p) w w'→Cn wc w' pc VC S bs I) (hS:∀c∈S,c.ok)
  {fv:Value} {first:List TxD} (hf:Kept X w (λw=>j7 w fv first)) (bg:first.length≤700) {now:Nat} (aH:now<18446744073709551616):
  Calls prog 25 #[.pointer (some ⟨p,0,none⟩),.pointer (some ⟨pc,0,none⟩),fv,.int .u64 now] w (zm6 w0 w p X S I L first now):=by
 have zT:=JZ
 have zh:=yJ
 have HH:=Hd h
 have HG:=Hd hg
 have HC:=Hd hc
 have HS:=Hd hS
 have HF:=Hd hf
 have aB:=Hd hX
 have aO:=Hd Y
 have XP:=Hd (h.sub p (.inl rfl))
 have ad:=Hd aD
 have AK:=Hd (λw' (f:Fr No w w')=>zgW (h.fr0 f).gr hN)
 obtain⟨fa,fc,rfl⟩:=hf.now.form
 have HD:=Hd (h.fr0 (frN w).drew)
 have af:=Hd h.ids
 clear h hg hc hS hf hX Y aD
 go_enter Tryz.func25,Tryz.ntmps25
 go_wp2_with fail
 refine wrLx [ff,ff,ff,ff,tt,ff,ff,ff,ff,ff,ff] (λw'=>w'.cell? ⟨p,0,none⟩=some (.map (some ma))∧w'.cell? ⟨p,2,none⟩=some (.pointer (some ⟨g,0,none⟩))) ?_ (λK hK=>?_)
 ·exact⟨HD.o.cells.1,HD.o.cells.2.2⟩
 have aP:=Hd (AK.o w.drew (frN w).drew)
 have aa:=Hd (frN w).drew
 generalize w.drew=wd at*
 repeat((first|(refine zk rfl ?_;constructor;constructor;(focus(first|(rintro w' ⟨s1,s2⟩;exact goS))))|(refine zl rfl ?_));try simp only[Act.put,pA,pB,pC])
 (refine zM rfl (λK' hK'=>?_))
 go_simp
 refine aP.o.mono ?_
 rintro e l ⟨iv,rfl,G,f1⟩
 rw[yO] at G
 obtain⟨ia,ic,a6⟩:=G.slice.arg.form
 subst a6
 have O1:=Hd G
 have F1:=Hd f1
 have W:=Hd (HD.o.fr0 f1)
 clear G f1
 refine nXt hK' ?_ λhS=>?_
 ·exact⟨W.o.cells.1,W.o.cells.2.2⟩
 try simp only[Act.put,pA,pB,pC]
 repeat((first|(refine zk rfl ?_;constructor;constructor;(focus(first|(rintro w' ⟨s1,s2⟩;exact goS))))|(refine zl rfl ?_));try simp only[Act.put,pA,pB,pC])
 refine zN (hK.out _ _ ?_)
 have k:=Hd (aa.o.trans0 F1.o)
 have EL:=@Hd ((zR L).length=L.length) (List.length_map _)
 rw[EL.o]
 have ae:=@Hd (l.ownsRow wd.heap.size 45 32 (.slice ia L.length ic) (zR L).length ((zR L).flatMap zd)) (by have:=O1.o;rw[EL.o] at this⊢;exact this)
 have aQ:=Hd (zg2 w0 l W.o.fr W.o.lo3.1 W.o.obj)
 have d:=@Hd (∀j,(Value.slice ia L.length ic).ownBlock=some j→w.heap.size≤j∧j<l.heap.size) (λj a=>by have:=ae.o.lt j a;have:=aa.o.size;omega)
 have y:=@Hd (p<w.heap.size) (aB.o p XP.o)
 have av:=@Hd (∀j,X j→j<l.heap.size) (λj a=>by have:=aB.o j a;have:=k.o.size;omega)
 have K0:=tru
 go_wp2_with (clear K0;go_at_call 61;refine aQ.o.mono ?_;rintro e w5 ⟨rfl,f5,aM,aN,g5,az,v5,p5⟩;have F5:=Hd f5;have V5:=Hd v5;have P5:=Hd p5;clear f5 v5 p5;go_frame)
 obtain⟨i,o⟩:∃i:Nat→Prop,i=λj=>X j∨(Value.slice ia L.length ic).ownBlock=some j:=⟨_,rfl⟩
 have aZ:=@Hd (∀j,i j→j<l.heap.size) (λj a=>by rw[o] at a;exact a.elim (av.o j) (λe=>(d.o j e).2))
 have ah:=@Hd (∀j,j<w.heap.size→i j→X j) (λj a e=>by rw[o] at e;exact e.resolve_right (λe=>by have:=(d.o j e).1;omega))
 have ai:=@Hd (∀j,X j→i j) (λj a=>by rw[o];exact .inl a)
 have aA:=@Hd (∀j,(Value.slice ia L.length ic).ownBlock=some j→i j) (λj a=>by rw[o];exact .inr a)
 clear o
 have aW:=@Hd (zbF w0 l p i S I 0 [] w5) (by
  have b:=P5.o (λj=>i j∨(j=aM∨j=aN∨az j)) (λj a=>a.elim (λe=>.inl (by rw[e];exact ai.o p XP.o)) .inr) (λ_=>[])
  refine⟨aM,aN,g5,az,_,_,0,b,le_refl _,λj a=>a.imp_right (V5.o j),λj a=>.inl a,λj a=>a.elim (λe=>lt_of_lt_of_le (aZ.o j e) F5.o.size) (λe=>b.hi j (.inr e)),λj a=>a.imp_right (V5.o j),.nil,by simp,F5.o⟩)
 have aw:=Hd (λwr (f:Fr (λj=>j=p) l wr)=>HC.o wr (k.o.of0.trans f (λ_ _ e=>e)))
 have ax:=@Hd (Kept i l (λw=>j7 w (.slice fa first.length fc) first)) (HF.o.step k.o.of0 (λj a e=>ah.o j a e))
 have D:=Hd (ai.o p XP.o)
 go_wp2_with fail
 go_loopw [35] (λiv wr=>∃n:Nat,iv=.int .i64 n∧n≤first.length∧zbF w0 l p i S I n (JW S I [] (first.take n) now) wr) (λiv _=>first.length-(intOf iv).toNat)
 case atStart=>exact⟨0,rfl,Nat.zero_le _,aW.o⟩
 case round=>
  obtain⟨n,rfl,hn,hr⟩:=hrel
  have RR:=Hd hr
  have FR:=Hd hr.fr
  clear hr
  by_cases ar:n<first.length
  ·have i1:(n:Int)<(first.length:Int):=by omega
   obtain⟨t,O⟩:∃x,first[n]? =some x:=⟨_,List.getElem?_eq_getElem ar⟩
   have ag:=Hd (zgl (S:=S) (I:=I) (A:=[]) O now)
   obtain⟨bb,off,cap,ts,H,-,aI,ao⟩:=zai (by decide) (λ_ _ _ h=>TxQ.len3' h) (ax.o.same (FR.o.mono (λj e=>by rw[e];exact D.o))) O
   cases H
   obtain⟨ja,jc,ka,kc,rfl⟩:=aI.form
   have R1:=Hd ao.now.1
   have KT:=@Hd (Kept i l (λw=>TxQ w t [.int .u32 t.ver,.slice ja t.ins.length jc,.slice ka t.outs.length kc])) (by
    obtain⟨bf,ba,a8,a7,aK,-,-,r⟩:=zai (by decide) (λ_ _ _ h=>TxQ.len3' h) ax.o O
    cases aK
    have F:=(r wr (FR.o.mono (λj e=>by rw[e];exact D.o))).1
    have h2:=ao.now.1
    have e1:a7=[.int .u32 t.ver,.slice ja t.ins.length jc,.slice ka t.outs.length kc]:=zft (by rw[TxQ.len3' r.now.2];rfl) F h2
    subst e1
    exact r.imp (λ_ _ h=>h.2))
   have FA:=Hd ((frN wr).alloc (.cells #[.int .u32 t.ver,.slice ja t.ins.length jc,.slice ka t.outs.length kc] 27))
   have RA:=Hd (qI wr t.ver (.slice ja t.ins.length jc) (.slice ka t.outs.length kc)).2.2.2
   have m:=Hd (zfx HG.o D.o (RR.o.fr0 FA.o) (by omega) (aw.o _ (FR.o.trans0 FA.o)) HS.o KT.o aH)
   rw[←ag.o] at m
   clear aI ao O
   have⟨K0,K1,K2,K3⟩:=tZ4
   go_wp2_with ((first|((with_reducible refine zt ?_);first|(clear K0;refine znT rfl rfl rfl R1.o rfl ?_)|(clear K2;refine znT rfl rfl rfl RA.o rfl ?_))|((with_reducible refine zr ?_);clear K1;refine zi rfl (zj (w:=wr) (ty:=27) (cs:=[.int .u32 t.ver,.slice ja t.ins.length jc,.slice ka t.outs.length kc]) rfl rfl rfl rfl xt (jC rfl rfl rfl)) ?_;generalize wr.alloc (.cells #[.int .u32 t.ver,.slice ja t.ins.length jc,.slice ka t.outs.length kc] 27)=wA at*)|(clear K3;go_at_call 17;refine m.o.mono ?_;rintro e w9 ⟨v9,rfl,u⟩;have R9:=Hd u;clear u));go_frame)
   go_roundw
   case rel=>exact⟨n+1,by go_num,by omega,R9.o⟩
   case measure=>simp[intOf];omega
  ·have s:n=first.length:=by omega
   have i1:¬(n:Int)<(first.length:Int):=by omega
   have aX:=@Hd (zbF w0 l p i S I first.length (JW S I [] first now) wr) (by have:=RR.o;rw[s,List.take_length] at this;exact this)
   clear s
   go_wp2_with fail
   go_loopw [47] (λiv v=>∃n:Nat,iv=.int .i64 n∧n≤L.length∧zbF w0 l p i S I (first.length+n) (JE S I (JW S I [] first now) (L.take n)) v) (λiv _=>L.length-(intOf iv).toNat)
   case atStart=>exact⟨0,rfl,Nat.zero_le _,aX.o⟩
   case round=>
    obtain⟨n,rfl,hn,hr⟩:=hrel
    rename World=>v
    have RQ:=Hd hr
    have FQ:=Hd hr.fr
    clear hr
    by_cases ar:n<L.length
    ·have i1:(n:Int)<(L.length:Int):=by omega
     obtain⟨e,O⟩:∃x,L[n]? =some x:=⟨_,List.getElem?_eq_getElem ar⟩
     have ag:=Hd (zfW (S:=S) (I:=I) (A:=JW S I [] first now) O)
     have q:=List.mem_of_getElem? O
     have EX:=@Hd (e.id∈zR L) (mem_map.2 ⟨e,q,rfl⟩)
     have aC:=Hd (af.o e.id EX.o)
     have XL:=Hd (zu aC.o)
     have OQ:=Hd (zb ae.o FQ.o (λj a e=>by have:=(d.o j a).1;have:=y.o;omega))
     have aL:(zR L)[n]? =some e.id:=by unfold zR;rw[List.getElem?_map,O];rfl
     obtain⟨bb,off,cap,H,aJ,-⟩:=(y4.own OQ.o af.o).at_ aL
     rw[EL.o] at H
     cases H
     have R1:=Hd aJ
     have A1:=Hd (aO.o e q)
     obtain⟨P,Q,U,V,al⟩:=(W.o.data e q).now.form
     have Z:Yp C L e.id=[.int .u32 e.tx.ver,.slice P e.tx.ins.length Q,.slice U e.tx.outs.length V,.int .u64 e.fee,.int .i64 e.size,.int .u64 e.added]:=by
      unfold Yp
      rw[if_pos EX.o,al]
     obtain⟨M,hM,hm⟩:=W.o.am
     have LK:=Hd (λw' (h':xR w' ma M)=>Jw (w:=w') aC.o h' hm Z)
     have MN:=@Hd (ma≠p) (λe=>W.o.apart.1 e.symm)
     have KT:=@Hd (Kept i l (λw=>TxQ w e.tx [.int .u32 e.tx.ver,.slice P e.tx.ins.length Q,.slice U e.tx.outs.length V])) (((HH.o.data e q).step (V':=i) k.o.of0 (λj a e=>ah.o j a e)).imp (λw2 _ ⟨bo,F,h2⟩=>by
       rw[al] at F
       obtain⟨bj,bk,bm,bn,rfl⟩:=h2.form
       unfold zkS at F
       simp only[List.cons_append,nil_append,List.cons.injEq,and_true,true_and] at F
       rw[F.1,F.2]
       exact h2))
     have FA:=Hd ((frN v).alloc (.cells (zd e.id).toArray 45))
     have RX:=Hd (zq v (zd e.id) 45)
     have m:=Hd (zfx HG.o D.o (RQ.o.fr0 (FA.o.drew)) (by have:=ad.o;omega) (aw.o _ (FQ.o.trans0 FA.o.drew)) HS.o KT.o (now:=e.added.toNat) (by have:=A1.o;omega))
     rw[show((e.added.toNat:Nat):Int)=e.added from Int.toNat_of_nonneg A1.o.1,←ag.o] at m
     have aT:=@Hd (xR v ma M) (hM.keep FQ.o MN.o)
     clear aJ O q aL al Z hM hm
     have⟨K0,K1⟩:=tZ2
     go_wp2_with ((first|((with_reducible refine zt ?_);clear K0;refine znV rfl rfl rfl R1.o XL.o ?_)|((with_reducible refine zr ?_);clear K1;refine zn3 (w:=v) (cs:=zd e.id) rfl rfl rfl rfl XL.o zE ?_));go_frame)
     generalize bh:v.heap.size=qx at*
     generalize v.alloc (.cells (zd e.id).toArray 45)=wa at*
     have aY:=Hd (za RX.o (frN wa).drew id)
     have aS:=Hd ((aT.o.keep FA.o id).keep (frN wa).drew id)
     refine yw [ff,ff,ff,ff,ff,ff,ff,ff,ff,ff,tt] (λw'=>w'.rangeAt qx 0 (zd e.id)∧xR w' ma M) (by kernel_rfl) (by kernel_rfl) 10 (by kernel_rfl) (by kernel_rfl) ?_ (λK hK=>?_)
     ·exact⟨aY.o,aS.o⟩
     generalize wa.drew=wb at*
     repeat((first|(refine yk rfl ?_;constructor;constructor;(focus(first|exact zn0 rfl (λw h=>h.1) XL.o|exact λw' h=>zY (t:=113) rfl rfl rfl (LK.o w' h.2)|exact λw' _=>qX (t:=120) (f:=0) rfl rfl (zeR e.tx.ver P U e.tx.ins.length Q e.tx.outs.length V e.fee e.size e.added w')|exact λw' _=>qX (t:=120) (f:=2) rfl rfl (znq e.tx.ver P U e.tx.ins.length Q e.tx.outs.length V e.fee e.size e.added w')|(rintro w' ⟨s1,s2⟩;exact goS))))|(refine yl rfl ?_));try simp only[Act.put,pA,pB,pC])
     (refine yf rfl (λK' hK'=>?_))
     go_simp
     refine m.o.mono ?_
     rintro e' w9 ⟨v9,rfl,u⟩
     have R9:=Hd u
     clear u
     have bl:=ad.o
     refine hK'.out _ _ (λh=>absurd rfl h) (λhS=>?_)
     refine xV (hK.out _ _ ?_)
     go_wp2_with fail
     go_roundw
     case rel=>exact⟨n+1,by go_num,by omega,R9.o⟩
     case measure=>simp[intOf];omega
    ·have s:n=L.length:=by omega
     have i1:¬(n:Int)<(L.length:Int):=by omega
     obtain⟨R,T,g9,z,E,C9,N9,b,a1,aG,ak,aF,aq,hv,aE,aj⟩:=RQ.o
     rw[s,List.take_length] at b
     have b:yn w0 v p R T g9 z E C9 (Zo S I L first now) N9:=b
     have OQ:=Hd (zb ae.o aj (λj a e=>by have:=(d.o j a).1;have:=y.o;omega))
     have GB:=@Hd (∀gb,(Value.slice ia L.length ic).ownBlock=some gb→∀w',Fr (λj=>j=gb) v w'→yn w0 w' p R T g9 z E C9 (Zo S I L first now) N9) (λgb an w' f=>b.frV f (λj a e=>by
       have F:=d.o gb an
       have:=y.o
       rcases aq j a with e2|e2<;>omega) (λj e=>by have:=(d.o gb an).1;have:=HH.o.fr.size;omega) (λj e=>ak j (aA.o j (by rw[e];exact an))) (λ_ _ e=>e) b.sub)
     have au:=Hd (zbh b (B:=wd.heap.size) OQ.o af.o (by rw[EL.o];have:=ad.o;omega) GB.o)
     have ay:=Hd b
     have B9:=Hd (And.intro aG (And.intro ak (And.intro aF aq)))
     have aV:=@Hd (N9≤first.length+L.length) (by omega)
     have aR:=Hd aj
     clear s b a1 aG ak aF aq hv aE aj OQ
     unfold zeT at au
     have K0:=tru
     go_wp2_with (clear K0;go_at_call 62;refine au.o.mono ?_;rintro e w8 ⟨gv,rfl,od,fd,bd⟩;have OD:=Hd od;have FD:=Hd fd;clear od fd bd;go_frame)
     go_ret2
     have ab:Fr (λj=>(Value.slice ia L.length ic).ownBlock=some j) v w8:=FD.o
     have aU:yn w0 w8 p R T g9 z E C9 (Zo S I L first now) N9:=ay.o.frV ab (λj a e=>by
       have F:=d.o j e
       have:=y.o
       rcases B9.o.2.2.2 j a with e2|e2<;>omega) (λj e=>by have:=(d.o j e).1;have:=HH.o.fr.size;omega) (λj e=>B9.o.2.1 j (aA.o j e)) (λ_ _ e=>e) ay.o.sub
     have bc:=k.o.size
     refine⟨gv,rfl,⟨R,T,g9,z,E,C9,N9,aU,aV.o,λj a=>?_,λj a=>B9.o.2.1 j (ai.o j a),λj a=>lt_of_lt_of_le (B9.o.2.2.1 j a) ab.size,λj a=>(B9.o.2.2.2 j a).imp_right (λe=>by omega)⟩,?_,?_⟩
     ·rcases B9.o.1 j a with e|e
      ·by_cases hw:j<w.heap.size
       ·exact .inl (ah.o j hw e)
       ·exact .inr (by omega)
      ·exact .inr (by omega)
     ·exact(k.o.of0.trans aR.o (λ_ _ e=>e)).trans ab (λj a e=>by have:=(d.o j e).1;omega)
     ·have:(zR L).filter (λx=> !Zl (Zo S I L first now) x)=XY S I L first now:=by
       unfold XY
       refine List.filter_congr λx _=>?_
       simp[Zl]
      have ho:=OD.o
      rw[this] at ho
      exact yu ho aa.o.size
end
structure SwL (lt:Nat→Nat→Bool):Prop where
 asy:∀x y,lt x y=true→lt y x=false
 neg:∀x y z,lt x y=false→lt y z=false→lt x z=false
def ahd (lt:Nat→Nat→Bool) (x y:Nat):Prop:=lt y x=false∧(lt x y=true∨x<y)
def Ja (lt:Nat→Nat→Bool) (l:List Nat):Prop:=l.Pairwise (ahd lt)
section
variable {lt:Nat→Nat→Bool}
theorem ahd.of_lt (h:SwL lt) (a:lt x y=true):ahd lt x y:=⟨h.asy _ _ a,.inl a⟩
theorem ahd.of_ge (b:lt y x=false) (a:x<y):ahd lt x y:=⟨b,.inr a⟩
theorem ahd.trans (h:SwL lt) (c:ahd lt x y) (d:ahd lt y z):ahd lt x z:=by
 refine⟨h.neg z y x d.1 c.1,?_⟩
 cases hxz:lt x z with
 |true=>exact .inl rfl
 |false=>
  refine .inr ?_
  have a:x<y:=c.2.resolve_left λe=>by
   have:=h.neg x z y hxz d.1
   rw[this] at e;cases e
  have b:y<z:=d.2.resolve_left λe=>by
   have:=h.neg y x z c.1 hxz
   rw[this] at e;cases e
  omega
theorem ahd.asymm (h:SwL lt) (c:ahd lt x y) (d:ahd lt y x):False:=by
 rcases c.2 with a|a
 ·rw[d.1] at a;cases a
 ·rcases d.2 with b|b
  ·rw[c.1] at b;cases b
  ·omega
structure zax (lt:Nat→Nat→Bool) (S1:List Nat) (x:Nat) (S2:List Nat):Prop where
 srt:Ja lt (S1++S2)
 low:∀y∈S1++S2,y<x
 hi:∀y∈S2,lt x y=true
theorem zax.start {S:List Nat} (h:Ja lt S) (a:∀y∈S,y<x):zax lt S x []:=⟨by simpa using h,by simpa using a,by simp⟩
theorem zax.move {b c:List Nat} (h:zax lt (b++[y]) x c) (d:lt x y=true):zax lt b x (y::c):=by
 refine⟨by simpa using h.srt,by simpa using h.low,λz a=>?_⟩
 rcases mem_cons.1 a with rfl|a
 ·exact d
 ·exact h.hi z a
theorem zax.mk0 (i:SwL lt) {c f:List Nat} (h:zax lt c x f) (g:∀y∈c,lt x y=false):Ja lt (c++x::f):=by
 obtain⟨k,l,m⟩:=List.pairwise_append.1 h.srt
 refine List.pairwise_append.2 ⟨k,pairwise_cons.2 ⟨λy j=>.of_lt i (h.hi y j),l⟩,λa d b e=>?_⟩
 rcases mem_cons.1 e with rfl|e
 ·exact .of_ge (g a d) (h.low a (by simp[d]))
 ·exact m a d b e
theorem zax.done0 (b:SwL lt) {a:List Nat} (h:zax lt [] x a):Ja lt (x::a):=h.mk0 b (by simp)
theorem zax.done (d:SwL lt) {b c:List Nat} (h:zax lt (b++[y]) x c) (e:lt x y=false):Ja lt ((b++[y])++x::c):=by
 refine h.mk0 d λz a=>?_
 rcases mem_append.1 a with a|a
 ·have:=(List.pairwise_append.1 (List.pairwise_append.1 h.srt).1).2.2 z a y (by simp)
  exact d.neg x y z e this.1
 ·obtain rfl:=mem_singleton.1 a
  exact e
structure zdN (lt:Nat→Nat→Bool) (M:List Nat) (n:Nat) (S:List Nat):Prop where
 srt:Ja lt S
 perm:S.Perm (M.take n)
theorem zdN.begin {M S:List Nat} (h:zdN lt M n S) (a:M.Pairwise (· < ·)) (b:M[n]? =some x):zax lt S x []:=by
 refine .start h.srt λy d=>?_
 have e:=(List.getElem?_eq_some_iff.1 b).1
 have c:M=M.take n++x::M.drop (n+1):=by
  rw[←(List.getElem?_eq_some_iff.1 b).2,List.getElem_cons_drop,take_append_drop]
 rw[c] at a
 exact(List.pairwise_append.1 a).2.2 y (h.perm.subset d) x (by simp)
theorem zdN.next {M S a b:List Nat} (h:zdN lt M n S) (e:M[n]? =some x) (c:a++b=S) (d:Ja lt (a++x::b)):zdN lt M (n+1) (a++x::b):=by
 refine⟨d,?_⟩
 rw[List.take_add_one,e]
 refine List.perm_middle.trans ?_
 rw[c]
 exact((h.perm.cons x)).trans (List.perm_append_singleton x (M.take n)).symm
structure j9 (lt:Nat→Nat→Bool) (A B:List Nat):Prop where
 sa:Ja lt A
 sb:Ja lt B
 ab:∀x∈A,∀y∈B,x<y
theorem j9.one_left (i:SwL lt) {B1 B2:List Nat} (h:j9 lt [x] (B1++B2)) (f:∀y∈B1,lt y x=true) (g:∀y∈B2,lt y x=false):Ja lt (B1++x::B2):=by
 obtain⟨j,k,l⟩:=List.pairwise_append.1 h.sb
 refine List.pairwise_append.2 ⟨j,pairwise_cons.2 ⟨λy e=>.of_ge (g y e) (h.ab x (by simp) y (by simp[e])),k⟩,λa d b c=>?_⟩
 rcases mem_cons.1 c with rfl|c
 ·exact .of_lt i (f a d)
 ·exact l a d b c
theorem j9.one_right (g:SwL lt) {A1 A2:List Nat} (h:j9 lt (A1++A2) [y]) (e:∀x∈A1,lt y x=false) (f:∀x∈A2,lt y x=true):Ja lt (A1++y::A2):=by
 obtain⟨j,k,l⟩:=List.pairwise_append.1 h.sa
 refine List.pairwise_append.2 ⟨j,pairwise_cons.2 ⟨λx i=>.of_lt g (f x i),k⟩,λa c b d=>?_⟩
 rcases mem_cons.1 d with rfl|d
 ·exact .of_ge (e a c) (h.ab a (by simp[c]) b (by simp))
 ·exact l a c b d
theorem j9.left {A1 A2 B1 B2:List Nat} (h:j9 lt (A1++A2) (B1++B2)):j9 lt A1 B1:=
 ⟨(List.pairwise_append.1 h.sa).1,(List.pairwise_append.1 h.sb).1,λx a y b=>h.ab x (by simp[a]) y (by simp[b])⟩
theorem j9.right {A1 A2 B1 B2:List Nat} (h:j9 lt (A1++A2) (B1++B2)):j9 lt A2 B2:=
 ⟨(List.pairwise_append.1 h.sa).2.1,(List.pairwise_append.1 h.sb).2.1,λx a y b=>h.ab x (by simp[a]) y (by simp[b])⟩
theorem zhh {l:List Nat} (h:a∈l):∃x,l.getLast? =some x:=by
 cases l with
 |nil=>cases h
 |cons b r=>exact⟨_,List.getLast?_eq_some_getLast (by simp)⟩
theorem zhb {l:List Nat} (h:a∈l):∃x,l.head? =some x:=by
 cases l with
 |nil=>cases h
 |cons b r=>exact⟨b,rfl⟩
theorem j9.cross (k:SwL lt) {A1 A2 B1 B2:List Nat} (h:j9 lt (A1++A2) (B1++B2))
  (C:∀x y,A1.getLast? =some x→B2.head? =some y→lt y x=false) (D:∀y x,B1.getLast? =some y→A2.head? =some x→lt y x=true) {L R:List Nat} (E:L.Perm (A1++B1)) (F:R.Perm (A2++B2)) (G:Ja lt L) (H:Ja lt R):Ja lt (L++R):=by
 have e:∀ {l:List Nat} {z:Nat},Ja lt l→l.getLast? =some z→∀a∈l,a=z∨ahd lt a z:=by
  intro l z j m a c
  obtain⟨r,rfl⟩:=List.getLast?_eq_some_iff.1 m
  rcases mem_append.1 c with c|c
  ·exact .inr ((List.pairwise_append.1 j).2.2 a c z (by simp))
  ·exact .inl (mem_singleton.1 c)
 have d:∀ {l:List Nat} {z:Nat},Ja lt l→l.head? =some z→∀a∈l,a=z∨ahd lt z a:=by
  intro l z j m a c
  obtain⟨r,rfl⟩:=List.head?_eq_some_iff.1 m
  rcases mem_cons.1 c with c|c
  ·exact .inl c
  ·exact .inr ((pairwise_cons.1 j).1 a c)
 obtain⟨o,s,t⟩:=List.pairwise_append.1 h.sa
 obtain⟨w,A,B⟩:=List.pairwise_append.1 h.sb
 have join:∀ {a b u v:Nat},(a=u∨ahd lt a u)→ahd lt u v→(b=v∨ahd lt v b)→ahd lt a b:=by
  intro a b u v p q r
  have n:ahd lt a v:=by
   rcases p with rfl|p
   ·exact q
   ·exact p.trans k q
  rcases r with rfl|r
  ·exact n
  ·exact n.trans k r
 refine List.pairwise_append.2 ⟨G,H,λa c b f=>?_⟩
 rcases mem_append.1 (E.subset c) with c|c<;>rcases mem_append.1 (F.subset f) with f|f
 ·exact t a c b f
 ·obtain⟨x,g⟩:=zhh c
  obtain⟨y,i⟩:=zhb f
  exact join (e o g a c) (.of_ge (C x y g i) (h.ab x (by simp[List.mem_of_getLast? g]) y (by simp[List.mem_of_mem_head? i]))) (d A i b f)
 ·obtain⟨x,g⟩:=zhh c
  obtain⟨y,i⟩:=zhb f
  exact join (e w g a c) (.of_lt k (D x y g i)) (d s i b f)
 ·exact B a c b f
theorem Ja.to {l:List Nat} (h:Ja lt l) (c:l[p]? =some z) (b:y∈l.take p):ahd lt y z:=by
 obtain⟨d,e⟩:=List.getElem?_eq_some_iff.1 c
 have a:l=l.take p++z::l.drop (p+1):=by rw[←e,List.getElem_cons_drop,take_append_drop]
 rw[a] at h
 exact(List.pairwise_append.1 h).2.2 y b z (by simp)
theorem Ja.from_ {l:List Nat} (h:Ja lt l) (d:l[p]? =some z) (a:y∈l.drop p):y=z∨ahd lt z y:=by
 obtain⟨f,e⟩:=List.getElem?_eq_some_iff.1 d
 have c:l=l.take p++z::l.drop (p+1):=by rw[←e,List.getElem_cons_drop,take_append_drop]
 have b:l.drop p=z::l.drop (p+1):=by rw[←e,List.getElem_cons_drop]
 rw[b] at a
 rcases mem_cons.1 a with a|a
 ·exact .inl a
 ·rw[c] at h
  exact .inr ((pairwise_cons.1 (List.pairwise_append.1 h).2.1).1 y a)
theorem j9.find_left (f:SwL lt) {B:List Nat} (h:j9 lt [x] B) (k:p≤B.length) (g:p=0∨∃y,B[p-1]? =some y∧lt y x=true) (i:p=B.length∨∃y,B[p]? =some y∧lt y x=false):Ja lt (B.take p++x::B.drop p):=by
 refine j9.one_left f (by rw[take_append_drop];exact h) (λy a=>?_) (λy a=>?_)
 ·rcases g with rfl|⟨z,c,b⟩
  ·simp at a
  ·have j:0<p:=by
    rcases Nat.eq_zero_or_pos p with e|e
    ·subst e;simp at a
    ·exact e
   have d:p=(p-1)+1:=by omega
   rw[d,List.take_add_one,c] at a
   rcases mem_append.1 a with a|a
   ·have:=h.sb.to c a
    cases hc:lt y x with
    |true=>rfl
    |false=>have:=f.neg z y x this.1 hc;rw[b] at this;cases this
   ·simp at a;rw[a];exact b
 ·rcases i with rfl|⟨z,c,b⟩
  ·simp at a
  ·rcases h.sb.from_ c a with rfl|h3
   ·exact b
   ·exact f.neg y z x h3.1 b
theorem j9.find_right (f:SwL lt) {A:List Nat} (h:j9 lt A [y]) (k:p≤A.length) (g:p=0∨∃x,A[p-1]? =some x∧lt y x=false) (i:p=A.length∨∃x,A[p]? =some x∧lt y x=true):Ja lt (A.take p++y::A.drop p):=by
 refine j9.one_right f (by rw[take_append_drop];exact h) (λx a=>?_) (λx a=>?_)
 ·rcases g with rfl|⟨z,c,b⟩
  ·simp at a
  ·have j:0<p:=by
    rcases Nat.eq_zero_or_pos p with e|e
    ·subst e;simp at a
    ·exact e
   have d:p=(p-1)+1:=by omega
   rw[d,List.take_add_one,c] at a
   rcases mem_append.1 a with a|a
   ·exact f.neg y z x b (h.sa.to c a).1
   ·simp at a;rw[a];exact b
 ·rcases i with rfl|⟨z,c,b⟩
  ·simp at a
  ·rcases h.sa.from_ c a with rfl|h3
   ·exact b
   ·cases hc:lt y x with
    |true=>rfl
    |false=>have:=f.neg y x z hc h3.1;rw[b] at this;cases this
theorem zdr {l:List Nat} {k x:Nat} (h:(l.take k).getLast? =some x) (a:k≤l.length):0<k∧l[k-1]? =some x:=by
 rw[List.getLast?_eq_getElem?,List.length_take,Nat.min_eq_left a] at h
 have b:=(List.getElem?_eq_some_iff.1 h).1
 rw[List.length_take,Nat.min_eq_left a] at b
 refine⟨by omega,?_⟩
 rw[List.getElem?_take,if_pos (by omega)] at h
 exact h
theorem head_drop {l:List Nat} {k x:Nat} (h:(l.drop k).head? =some x):l[k]? =some x:=by
 rw[List.head?_eq_getElem?,List.getElem?_drop] at h
 exact h
structure zmY (lt:Nat→Nat→Bool) (A B:List Nat) (s e:Nat):Prop where
 ls:s≤A.length
 le:e≤B.length
 lo:s=0∨e=B.length∨∃x y,A[s-1]? =some x∧B[e]? =some y∧lt y x=false
 hi:s=A.length∨e=0∨∃x y,A[s]? =some x∧B[e-1]? =some y∧lt y x=true
theorem j9.cutQ (k:SwL lt) {A B:List Nat} (h:j9 lt A B) {s e:Nat} (c:zmY lt A B s e) {L R:List Nat} (i:L.Perm (A.take s++B.take e)) (j:R.Perm (A.drop s++B.drop e)) (l:Ja lt L) (m:Ja lt R):Ja lt (L++R):=by
 refine j9.cross k (A1:=A.take s) (A2:=A.drop s) (B1:=B.take e) (B2:=B.drop e) (by rw[take_append_drop,take_append_drop];exact h) (λx y b d=>?_) (λy x d b=>?_) i j l m
 ·obtain⟨q,b⟩:=zdr b c.ls
  have d:=head_drop d
  rcases c.lo with a|a|⟨n,o,a,f,g⟩
  ·omega
  ·have:=(List.getElem?_eq_some_iff.1 d).1;omega
  ·rw[b] at a;rw[d] at f
   cases a;cases f
   exact g
 ·obtain⟨p,d⟩:=zdr d c.le
  have b:=head_drop b
  rcases c.hi with a|a|⟨n,o,a,f,g⟩
  ·have:=(List.getElem?_eq_some_iff.1 b).1;omega
  ·omega
  ·rw[b] at a;rw[d] at f
   cases a;cases f
   exact g
theorem j9.subs {A B:List Nat} (h:j9 lt A B) (s e:Nat):j9 lt (A.take s) (B.take e)∧j9 lt (A.drop s) (B.drop e):=by
 have a:j9 lt (A.take s++A.drop s) (B.take e++B.drop e):=by rw[take_append_drop,take_append_drop];exact h
 exact⟨a.left,a.right⟩
end
theorem zdW {a b:Int×Int}:Yq a b<0↔a.1*max b.2 1<b.1*max a.2 1:=by
 unfold Yq
 by_cases h:a.1*max b.2 1<b.1*max a.2 1
 ·rw[if_pos h];exact⟨λ_=>h,λ_=>by decide⟩
 ·rw[if_neg h]
  refine⟨λc=>?_,λc=>absurd c h⟩
  split at c
  ·exact absurd c (by decide)
  ·exact absurd c (by decide)
def ltW (W:List (Int×Int)) (i k:Nat):Bool:=decide (Yq (W[k]?.getD (0,0)) (W[i]?.getD (0,0))<0)
theorem zcf (W:List (Int×Int)):SwL (ltW W):=by
 refine⟨λx y h=>?_,λx y z d e=>?_⟩
 ·unfold ltW at*
  rw[decide_eq_true_eq,zdW] at h
  rw[decide_eq_false_iff_not,zdW]
  exact Int.not_lt.2 (Int.le_of_lt h)
 ·unfold ltW at*
  rw[decide_eq_false_iff_not,zdW,Int.not_lt] at*
  generalize W[x]?.getD (0,0)=a at*
  generalize W[y]?.getD (0,0)=b at*
  generalize W[z]?.getD (0,0)=c at*
  have f:(0:Int)<max a.2 1:=by omega
  have g:(0:Int)<max b.2 1:=by omega
  have i:(0:Int)<max c.2 1:=by omega
  generalize max a.2 1=p at*
  generalize max b.2 1=q at*
  generalize max c.2 1=r at*
  refine Int.le_of_mul_le_mul_right (show a.1*r*q≤c.1*p*q from ?_) g
  calc a.1*r*q=a.1*q*r:=by rw[Int.mul_assoc,Int.mul_comm r q,←Int.mul_assoc]
   _≤b.1*p*r:=Int.mul_le_mul_of_nonneg_right d (Int.le_of_lt i)
   _=b.1*r*p:=by rw[Int.mul_assoc,Int.mul_comm p r,←Int.mul_assoc]
   _≤c.1*q*p:=Int.mul_le_mul_of_nonneg_right e (Int.le_of_lt f)
   _=c.1*p*q:=by rw[Int.mul_assoc,Int.mul_comm q p,←Int.mul_assoc]
def Ym (W:List (Int×Int)):Nat→Nat
 |0=>0
 |n+1=>if ltW W (n+1) (Ym W n)=true then n+1 else Ym W n
theorem QH (W:List (Int×Int)):∀n,Ym W n≤n
 |0=>le_refl _
 |n+1=>by
  have:=QH W n
  unfold Ym
  split<;>omega
theorem zfI (W:List (Int×Int)):∀n k,k≤n→k≠Ym W n→ahd (ltW W) (Ym W n) k
 |0,k,h,h'=>by
  unfold Ym at h'
  omega
 |n+1,k,h,h'=>by
  have ih:=zfI W n
  have a:=QH W n
  unfold Ym at h'⊢
  by_cases hc:ltW W (n+1) (Ym W n)=true
  ·rw[if_pos hc] at h'⊢
   by_cases e:k=Ym W n
   ·rw[e];exact .of_lt (zcf W) hc
   ·exact ahd.trans (zcf W) (.of_lt (zcf W) hc) (ih k (by omega) e)
  ·rw[if_neg hc] at h'⊢
   by_cases e:k=n+1
   ·rw[e];exact .of_ge (by simpa using hc) (by omega)
   ·exact ih k (by omega) h'
theorem zkv {W:List (Int×Int)} {r:List Nat} (b:Ja (ltW W) (x::r)) (a:(x::r).Perm (List.range (n+1))):x=Ym W n:=by
 by_cases e:x=Ym W n
 ·exact e
 ·have f:x≤n:=by
   have:=a.subset (List.mem_cons_self ..)
   rw[List.mem_range] at this
   omega
  have d:Ym W n∈x::r:=a.symm.subset (List.mem_range.2 (by have:=QH W n;omega))
  rcases mem_cons.1 d with c|c
  ·exact absurd c.symm e
  ·exact((pairwise_cons.1 b).1 _ c|>.asymm (zcf W) (zfI W n x f e)).elim
noncomputable def zd9 (L:List zL) (T:List zf) (x:zf):Nat:=((upS (gOf L) [x]).filter λu=>decide (u∉T)).length
noncomputable def YB (L:List zL) (T:List zf):List zL:=L.filter λe=>decide (e.id∉T∧zd9 L T e.id=1)
noncomputable def Zi (L T:List zL):Option zL:=(YB L (zR T))[Ym ((YB L (zR T)).map wgt) ((YB L (zR T)).length-1)]?
noncomputable def yz (L:List zL):Nat→List zL
 |0=>[]
 |n+1=>match Zi L (yz L n) with
  |none=>yz L n
  |some e=>yz L n++[e]
theorem zbM {L T:List zL}:Zi L T=none↔YB L (zR T)=[]:=by
 unfold Zi
 rw[List.getElem?_eq_none_iff]
 constructor
 ·intro h
  have:=QH ((YB L (zR T)).map wgt) ((YB L (zR T)).length-1)
  exact List.length_eq_zero_iff.1 (by omega)
 ·intro h
  simp[h]
theorem Jo {L:List zL} {e:zL} (h:Zi L (yz L n)=some e):yz L (n+1)=yz L n++[e]:=by
 show(match Zi L (yz L n) with|none=>yz L n|some e=>yz L n++[e])=_
 rw[h]
theorem JT {L:List zL} (h:Zi L (yz L n)=none):yz L (n+1)=yz L n:=by
 show(match Zi L (yz L n) with|none=>yz L n|some e=>yz L n++[e])=_
 rw[h]
theorem zbK {L:List zL} (h:Zi L (yz L n)=none):∀k,yz L (n+k)=yz L n
 |0=>rfl
 |k+1=>by
  have ih:=zbK h k
  have a:Zi L (yz L (n+k))=none:=by rw[ih];exact h
  have:yz L (n+k+1)=yz L (n+k):=JT a
  rw[←ih,←this]
  rfl
section
variable {L:List zL}
theorem zlt (h:GOk (gOf L)) {e:zL} (a:e∈L):e.id∈upS (gOf L) [e.id]:=
 Y7.2 ⟨e.id,by simp,.refl (by rw[yO];exact mem_map.2 ⟨e,a,rfl⟩)⟩
theorem zho (h:GOk (gOf L)) {T:List zf} {e:zL} (j:e∈L) (l:e.id∉T):zd9 L T e.id=1↔∀u∈upS (gOf L) [e.id],u∉T→u=e.id:=by
 have f:e.id∈(upS (gOf L) [e.id]).filter λu=>decide (u∉T):=mem_filter.2 ⟨zlt h j,by simpa using l⟩
 have k:((upS (gOf L) [e.id]).filter λu=>decide (u∉T)).Nodup:=(h.nd.sublist (qk _)).sublist List.filter_sublist
 unfold zd9
 constructor
 ·intro c u i g
  obtain⟨y,n⟩:=List.length_eq_one_iff.1 c
  have d:u∈(upS (gOf L) [e.id]).filter λu=>decide (u∉T):=mem_filter.2 ⟨i,by simpa using g⟩
  rw[n] at d f
  rw[mem_singleton.1 d,mem_singleton.1 f]
 ·intro c
  have:=xB k (m:=[e.id]) λu i=>by
   obtain⟨a,b⟩:=mem_filter.1 i
   exact mem_singleton.2 (c u a (by simpa using b))
  have d:=List.length_pos_of_mem f
  simp only[length_singleton] at this
  omega
theorem zhl (h:GOk (gOf L)) {T:List zf} {e:zL}:e∈YB L T↔e∈L∧e.id∉T∧∀u∈upS (gOf L) [e.id],u∉T→u=e.id:=by
 unfold YB
 rw[mem_filter,decide_eq_true_eq]
 constructor
 ·rintro⟨a,b,c⟩
  exact⟨a,b,(zho h a b).1 c⟩
 ·rintro⟨a,b,c⟩
  exact⟨a,b,(zho h a b).2 c⟩
theorem Qi (h:GOk (gOf L)) {T:List zL} {e:zL} (a:Zi L T=some e):e∈L∧e.id∉zR T∧∀u∈upS (gOf L) [e.id],u∉zR T→u=e.id:=
 (zhl h).1 (List.mem_of_getElem? a)
theorem Ju (h:GOk (gOf L)):∀n,∀e∈yz L n,e∈L
 |0,e,he=>by cases he
 |n+1,e,he=>by
  cases hb:Zi L (yz L n) with
  |none=>rw[JT hb] at he;exact Ju h n e he
  |some x=>
   rw[Jo hb] at he
   rcases mem_append.1 he with he|he
   ·exact Ju h n e he
   ·rw[mem_singleton.1 he];exact(Qi h hb).1
theorem VA (h:GOk (gOf L)):∀n,(zR (yz L n)).Nodup
 |0=>List.nodup_nil
 |n+1=>by
  cases hb:Zi L (yz L n) with
  |none=>rw[JT hb];exact VA h n
  |some x=>
   rw[Jo hb]
   unfold zR
   rw[List.map_append]
   refine List.nodup_append.2 ⟨VA h n,by simp,λa d b c e=>?_⟩
   simp only[List.map_cons,List.map_nil,mem_singleton] at c
   rw[e,c] at d
   exact(Qi h hb).2.1 d
theorem ZF (L:List zL):∀n,(yz L n).length≤n
 |0=>le_refl _
 |n+1=>by
  have:=ZF L n
  cases hb:Zi L (yz L n) with
  |none=>rw[JT hb];omega
  |some x=>rw[Jo hb,List.length_append,length_singleton];omega
theorem zbL (h:GOk (gOf L)):∀n A e B,yz L n=A++e::B→∀u∈upS (gOf L) [e.id],u∉zR A→u=e.id
 |0,A,e,B,he=>by simp[yz] at he
 |n+1,A,e,B,he=>by
  cases hb:Zi L (yz L n) with
  |none=>rw[JT hb] at he;exact zbL h n A e B he
  |some x=>
   rw[Jo hb] at he
   rcases List.append_eq_append_iff.1 he with⟨k,b,a⟩|⟨k,b,a⟩
   ·rcases k with _|⟨y,k⟩
    ·simp only[nil_append,List.append_nil] at b a
     injection a with h3 h4
     subst h3
     rw[b]
     exact(Qi h hb).2.2
    ·simp at a
   ·rcases k with _|⟨y,k⟩
    ·simp only[List.append_nil,nil_append] at b a
     injection a with h3 h4
     subst h3
     rw[←b]
     exact(Qi h hb).2.2
    ·rw[List.cons_append] at a
     injection a with h3 h4
     subst h3
     exact zbL h n A e k b
theorem xd (L:List zL):(zR L).length=L.length:=by simp[zR]
theorem zkd (h:GOk (gOf L)) {T:List zf} (n:T.length<L.length):YB L T≠[]:=by
 have:∃A e B,L=A++e::B∧e.id∉T∧∀a∈A,a.id∈T:=by
  have g:∃e∈L,e.id∉T:=by
   apply Classical.byContradiction
   intro c
   have:(zR L).length≤T.length:=xB (by rw[←yO];exact h.nd) λx g=>by
    obtain⟨e,b,rfl⟩:=mem_map.1 g
    exact Classical.byContradiction λc2=>c ⟨e,b,c2⟩
   rw[xd] at this
   omega
  clear n h
  induction L with
  |nil=>obtain⟨e,b,_⟩:=g;cases b
  |cons y r ih=>
   by_cases hy:y.id∈T
   ·obtain⟨e,b,l⟩:=g
    rcases mem_cons.1 b with rfl|b
    ·exact absurd hy l
    ·obtain⟨A,e,B,f,i,j⟩:=ih ⟨e,b,l⟩
     exact⟨y::A,e,B,by rw[f];rfl,i,λa d=>by
      rcases mem_cons.1 d with rfl|d
      ·exact hy
      ·exact j a d⟩
   ·exact⟨[],y,r,rfl,hy,by simp⟩
 obtain⟨A,e,B,f,i,j⟩:=this
 have b:e∈YB L T:=(zhl h).2 ⟨by rw[f];simp,i,λu p k=>by
  obtain⟨a,d,o⟩:=Y7.1 p
  obtain rfl:=mem_singleton.1 d
  have m:gOf L=gOf A++⟨e.id,e.ps⟩::gOf B:=by rw[f];simp[gOf]
  have:=zaA h o _ _ _ m rfl
  rw[show gOf A++[⟨e.id,e.ps⟩]=gOf (A++[e]) from(VT _ _).symm,yO] at this
  unfold zR at this
  rw[List.map_append] at this
  rcases mem_append.1 this with c|c
  ·obtain⟨a,d,rfl⟩:=mem_map.1 c
   exact absurd (j a d) k
  ·simpa using c⟩
 intro c
 rw[c] at b
 cases b
theorem zcY (h:GOk (gOf L)):∀n,(yz L n).length=min n L.length
 |0=>by simp[yz]
 |n+1=>by
  have ih:=zcY h n
  cases hb:Zi L (yz L n) with
  |none=>
   rw[JT hb]
   have a:=zbM.1 hb
   have b:¬(zR (yz L n)).length<L.length:=λc=>zkd h c a
   rw[xd] at b
   omega
  |some x=>
   rw[Jo hb,List.length_append,length_singleton]
   have a:=xB (VA h (n+1)) (m:=zR L) λy f=>by
    obtain⟨e,d,rfl⟩:=mem_map.1 f
    exact mem_map.2 ⟨e,Ju h (n+1) e d,rfl⟩
   rw[xd,xd,Jo hb,List.length_append,length_singleton] at a
   omega
end
theorem zns (f s:Int) (w:World):(Instr.field 118 (.agg #[.int .u64 f,.int .i64 s]) 0).run prog w=.ok (.int .u64 f) w:=by kernel_rfl
section
variable {w0 w:World} {p ma ms g N:Nat} {VG X:Nat→Prop} {C:zf→List Value} {L:List zL}
theorem VF (h:yn w0 w p ma ms g VG X C L N) {e:zL} (l:e∈L):∃c d i j,Yp C L e.id=[.int .u32 e.tx.ver,.slice c e.tx.ins.length d,.slice i e.tx.outs.length j,.int .u64 e.fee,.int .i64 e.size,.int .u64 e.added]∧Kept X w (λw=>TxQ w e.tx [.int .u32 e.tx.ver,.slice c e.tx.ins.length d,.slice i e.tx.outs.length j]):=by
 obtain⟨c,d,i,j,a⟩:=(h.data e l).now.form
 have b:e.id∈zR L:=mem_map.2 ⟨e,l,rfl⟩
 have q:Yp C L e.id=C e.id:=by unfold Yp;rw[if_pos b]
 refine⟨c,d,i,j,by rw[q,a],λw' f=>?_⟩
 obtain⟨t,k,m⟩:=h.data e l w' f
 rw[a] at k
 obtain⟨r,s,u,v,rfl⟩:=m.form
 simp only[zkS,List.cons_append,nil_append,List.cons.injEq,and_true,true_and] at k
 obtain⟨n,o⟩:=k
 rw[n,o]
 exact m
theorem znp (h:yn w0 w p ma ms g VG X C L N) {e:zL} (b:e∈L):Calls prog 38 #[.pointer (some ⟨p,0,none⟩),.agg (zd e.id).toArray] w λn w'=>n=.returned (.tuple #[.int .u64 e.fee,.bool true])∧Fr No w w':=by
 obtain⟨P,O,I⟩:=jq
 have j:=h.ids e.id (mem_map.2 ⟨e,b,rfl⟩)
 have m:=Hd (zu j)
 have k:=Hd ((frN w).alloc (.cells (zd e.id).toArray 45))
 have l:=Hd (zq w (zd e.id) 45)
 have d:=Hd (λw' (f:Fr No w w')=>zdj (h.fr0 f) j)
 have u:=Hd h
 have r:=@Hd (decide (e.id∈zR L)=true) (decide_eq_true (mem_map.2 ⟨e,b,rfl⟩))
 obtain⟨M,o,q⟩:=h.am
 obtain⟨D,E,F,G,a,-⟩:=VF h b
 have z:=Hd (λw' (h':xR w' ma M)=>Jw (w:=w') j h' q a)
 have v:=Hd o
 clear h o q a b
 go_enter Tryz.func38,Tryz.ntmps38
 have⟨x,y⟩:=tZ2
 go_wp2_with ((first|((with_reducible refine zt ?_);clear x;refine yK rfl (zX (ty:=45) rfl rfl l.o O I (by rw[m.o];exact yj)) ?_)|(clear y;go_at_call 63;refine(d.o _ k.o).mono ?_;rintro n T ⟨rfl,i⟩;rw[r.o];have s:=Hd (k.o.trans0 i);have A:=Hd (za l.o i id);clear i));go_frame)
 have c:=Hd s.o.drew
 generalize B:w.heap.size=H at*
 refine wrLx [ff,ff,ff,ff,ff,ff,ff,ff,ff,ff] (λw'=>w'.cell? ⟨p,0,none⟩=some (.map (some ma))∧w'.rangeAt H 0 (zd e.id)∧xR w' ma M) ?_ (λK hK=>?_)
 ·exact⟨(u.o.fr0 c.o).cells.1,za A.o (frN _).drew id,v.o.keep c.o id⟩
 repeat((first|(refine zk rfl ?_;constructor;constructor;(focus(first|exact zn0 rfl (λw h=>h.2.1) m.o|exact λw' h=>zY (t:=113) rfl rfl rfl (z.o w' h.2.2)|exact λw' _=>qX (t:=120) (f:=1) rfl rfl (zjF e.tx.ver D F e.tx.ins.length E e.tx.outs.length G e.fee e.size e.added w')|exact λw' _=>qX (t:=118) (f:=0) rfl rfl (zns e.fee e.size w')|(rintro w' ⟨Q,R,S⟩;exact goS))))|(refine zl rfl ?_));try simp only[Act.put,pA,pB,pC])
 refine zN (hK.out _ _ ?_)
 go_wp2_with fail
 go_ret2
 exact⟨rfl,c.o⟩
theorem znt (h:yn w0 w p ma ms g VG X C L N) {e:zL} (r:e∈L) (R:e.tx.ins.length≤1000∧e.tx.outs.length≤1000∧∀x∈e.tx.ins,x.key.length≤1000):Calls prog 28 #[.pointer (some ⟨p,0,none⟩),.agg (zd e.id).toArray] w λB w'=>∃cs,B=.returned (.tuple #[.agg cs.toArray,.bool true])∧Fr No w w'∧∀V:Nat→Prop,(∀j,V j→j<w.heap.size)→Kept V w' (λw=>TxQ w e.tx cs):=by
 obtain⟨dH,uH,rH⟩:=jq
 obtain⟨dT,uT,rT⟩:=zbV
 have zT:=JZ
 have E:=h.ids e.id (mem_map.2 ⟨e,r,rfl⟩)
 have Q:=Hd (zu E)
 have H:=Hd (((frN w).alloc (.cells (zd e.id).toArray 45)).alloc (.cells (txC 0 (.slice none 0 0) (.slice none 0 0)).toArray 27))
 have O:=Hd (za (zq w (zd e.id) 45) ((frN _).alloc (.cells (txC 0 (.slice none 0 0) (.slice none 0 0)).toArray 27)) id)
 have BR:=Hd (yU (w.alloc (.cells (zd e.id).toArray 45)) (.cells (txC 0 (.slice none 0 0) (.slice none 0 0)).toArray 27) (n:=w.heap.size+1) (by simp))
 have v:=Hd (λw' (f:Fr No w w')=>zdj (h.fr0 f) E)
 have u:=Hd h
 have D1:=@Hd (decide (e.id∈zR L)=true) (decide_eq_true (mem_map.2 ⟨e,r,rfl⟩))
 obtain⟨M,S,U⟩:=h.am
 obtain⟨ia,ic,oa,oc,a,T⟩:=VF h r
 have LK:=Hd (λw' (h':xR w' ma M)=>Jw (w:=w') E h' U a)
 have HM:=Hd S
 have z:=Hd (λw' (f:Fr No w w')=>zaT w' (t:=e.tx) (T w' f.of0) R)
 clear h S U a r T R
 go_enter Tryz.func28,Tryz.ntmps28
 have⟨K0,K1⟩:=tZ2
 go_wp2_with ((first|((with_reducible refine zt ?_);clear K0;refine yK rfl (zX (ty:=45) rfl rfl O.o uH rH (by rw[Q.o];exact yj)) ?_)|(clear K1;go_at_call 63;refine(v.o _ H.o).mono ?_;rintro B w3 ⟨rfl,q⟩;rw[D1.o];have F3:=Hd (H.o.trans0 q);have R3:=Hd (za O.o q id);have B3:=Hd (q.obj BR.o id);clear q));go_frame)
 have m:=Hd F3.o.drew
 have G:=Hd ((frN _).drew.obj B3.o id)
 have A:=Hd (za R3.o (frN _).drew id)
 have s:=Hd ((u.o.fr0 m.o).cells.1)
 have y:=Hd (HM.o.keep m.o id)
 have OW:=Hd (z.o _ m.o)
 generalize ab:w.heap.size=l at*
 have ZQ:=@Hd (l+1<w3.drew.heap.size) (yr G.o)
 refine wrLx [ff,ff,ff,ff,ff,ff,ff,tt,tt,ff] (λw'=>w'.cell? ⟨p,0,none⟩=some (.map (some ma))∧w'.rangeAt l 0 (zd e.id)∧xR w' ma M) ?_ (λK hK=>?_)
 ·exact⟨s.o,A.o,y.o⟩
 generalize w3.drew=wd at*
 repeat((first|(refine zk rfl ?_;constructor;constructor;(focus(first|exact zn0 rfl (λw h=>h.2.1) Q.o|exact λw' h=>zY (t:=113) rfl rfl rfl (LK.o w' h.2.2)|exact λw' _=>qX (t:=120) (f:=0) rfl rfl (zeR e.tx.ver ia oa e.tx.ins.length ic e.tx.outs.length oc e.fee e.size e.added w')|(rintro w' ⟨s1,s2,s3⟩;exact goS))))|(refine zl rfl ?_));try simp only[Act.put,pA,pB,pC])
 (refine zM rfl (λK' hK'=>?_))
 go_simp
 refine OW.o.mono ?_
 rintro B w5 ⟨aa,rfl,D,k⟩
 obtain⟨W,Y,Z,kc,e5⟩:=(k (λ_=>False) (λ_ h=>h.elim)).now.form
 subst e5
 have d:=Hd D
 have K5:=Hd k
 have F:=Hd (D.obj G.o id)
 clear D k
 refine nXt hK' ?_ λhS=>?_
 ·exact⟨d.o.cell s.o id,za A.o d.o id,y.o.keep d.o id⟩
 try simp only[Act.put,pA,pB,pC]
 repeat((first|(refine zk rfl ?_;constructor;constructor;(focus(first|(rintro w' ⟨s1,s2,s3⟩;exact goS))))|(refine zl rfl ?_));try simp only[Act.put,pA,pB,pC])
 (refine zM rfl (λK' hK'=>?_))
 refine xp (zU (ty:=27) (b:=l+1) (off:=0) (cs:=[.int .u32 e.tx.ver,.slice W e.tx.ins.length Y,.slice Z e.tx.outs.length kc]) rfl rfl rfl (yb F.o (le_refl 3)) xt (jC rfl rfl rfl)) ?_
 have fS:=zy (l+1) [.int .u32 e.tx.ver,.slice W e.tx.ins.length Y,.slice Z e.tx.outs.length kc] 0 w5
 have o:=Hd fS
 have I:=@Hd (p≠l+1∧ma≠l+1) (by have h1:=u.o.hi p (.inl rfl);have h2:=u.o.hi ma (.inr (.inl rfl));omega)
 refine nXt hK' ?_ λhS=>?_
 ·exact⟨o.o.cell (d.o.cell s.o id) (λe=>I.o.1 e),za (za A.o d.o id) o.o (λe=>by omega),(y.o.keep d.o id).keep o.o (λe=>I.o.2 e)⟩
 try simp only[Act.put,pA,pB,pC]
 repeat((first|(refine zk rfl ?_;constructor;constructor;(focus(first|(rintro w' ⟨s1,s2,s3⟩;exact goS))))|(refine zl rfl ?_));try simp only[Act.put,pA,pB,pC])
 refine zN (hK.out _ _ ?_)
 go_wp2_with fail
 refine bodyPost_ret (yt (P:=prog) (fn:=Tryz.f28) rfl _ rfl (yB F.o rfl) uT rT xt rfl) rfl ⟨_,rfl,?_,λV hV w' f=>?_⟩
 ·exact(m.o.trans0 d.o).trans o.o (λi hi e=>by omega)
 ·exact K5.o (λj=>V j∨j=l+1) (λj c=>by rcases c with c|c;have:=hV j c;have:=m.o.size;omega;have:=ZQ.o;omega) w' ((o.o.mono (λj c=>.inr c)).trans (f.mono (λj c=>.inl c)) (λ_ _ h=>h))
end
structure PB where
 S0:List zn
 S:List zn
 bs:List yx
 L:List zL
theorem zmi {w0 wb w:World} {V X:Nat→Prop} {g S:List zn} {c:List yx} {css:List (List Value)} (h:CX w0 w p V X g S c css) (f:Fr No wb w0):CX wb w p V X g S c css:=by
 obtain⟨m,s,U,k,i,M,a,l,e,b⟩:=h.gd
 have o:CS wb w s U S:={a.set with lo:=λj n=>le_trans f.size (a.set.lo j n),fr:=f.trans0 a.set.fr}
 have d:vo wb w p s U k i css ⟨S,c,M⟩:={a with set:=o,row:=yu a.row f.size,lo1:=le_trans f.size a.lo1,lo2:=le_trans f.size a.lo2}
 exact {h with gd:=⟨m,s,U,k,i,M,d,l,e,b⟩}
def ZE (L:List zL):Prop:=∀e∈L,0≤e.added∧e.added<18446744073709551616
structure QP (w0 w:World) (pc:Nat) (VC:Nat→Prop) (css:List (List Value)) (pp ma ms g:Nat) (VG:Nat→Prop) (CP:zf→List Value) (N:Nat) (X:Nat→Prop) (A:PB):Prop where
 ch:CX w0 w pc VC X A.S0 A.S A.bs css
 po:yn w0 w pp ma ms g VG X CP A.L N
 cp:∀j,VC j→¬poV pp ma ms VG j
 cx:∀j,VC j→X j
 xl:∀j,X j→j<w.heap.size
 val:xy A.S (zS A.bs) A.L
 l32:A.L.length≤32
 ad:ZE A.L
def qT (VC:Nat→Prop) (pp ma ms:Nat) (VG:Nat→Prop):Nat→Prop:=λj=>VC j∨poV pp ma ms VG j
def PS (w0 w:World) (pc pp:Nat) (T X:Nat→Prop) (N:Nat) (A:PB):Prop:=
 ∃VC css ma ms g VG CP,QP w0 w pc VC css pp ma ms g VG CP N X A∧T=qT VC pp ma ms VG
section
variable {w0 wb w w':World} {pc pp N:Nat} {T X X1:Nat→Prop} {A:PB} {S1:List zn} {bs1:List yx} {S:List zn} {I:List zf}
theorem PS.facts (h:PS w0 w pc pp T X N A):(∀j,T j→w0.heap.size≤j∧j<w.heap.size∧X j)∧(∀j,X j→j<w.heap.size)∧Fr No w0 w∧xy A.S (zS A.bs) A.L∧A.L.length≤32∧(∀c∈A.S,c.ok)∧ZE A.L:=by
 obtain⟨d,css,i,k,g,f,b,h,rfl⟩:=h
 refine⟨λj a=>?_,h.xl,h.po.fr,h.val,h.l32,h.ch.g.hok.ok,h.ad⟩
 rcases a with e|e
 ·exact⟨h.ch.g.lo j e,h.ch.g.hi j e,h.cx j e⟩
 ·exact⟨h.po.lo j e,h.po.hi j e,h.po.sub j e⟩
theorem PS.frV (h:PS w0 w pc pp T X N A) {U X':Nat→Prop} (f:Fr U w w') (d:∀j,T j→¬U j) (c:∀j,U j→w0.heap.size≤j) (b:∀j,U j→X j) (e:∀j,j<w.heap.size→X' j→X j) (i:∀j,T j→X' j) (n:∀j,X' j→j<w'.heap.size):PS w0 w' pc pp T X' N A:=by
 obtain⟨l,css,o,p,g,m,k,h,rfl⟩:=h
 exact⟨l,css,o,p,g,m,k,
  {ch:=h.ch.frV f (λj a=>d j (.inl a)) c b e
   po:=h.po.frV f (λj a=>d j (.inr a)) c b e (λj a=>i j (.inr a))
   cp:=h.cp
   cx:=λj a=>i j (.inl a)
   xl:=n
   val:=h.val
   l32:=h.l32
   ad:=h.ad},rfl⟩
theorem PS.fr0 (h:PS w0 w pc pp T X N A) (f:Fr No w w'):PS w0 w' pc pp T X N A:=
 h.frV f (λ_ _=>id) (λ_ h=>h.elim) (λ_ h=>h.elim) (λ_ _ h=>h) (λj a=>(h.facts.1 j a).2.2) (λj a=>lt_of_lt_of_le (h.facts.2.1 j a) f.size)
theorem PS.more (h:PS w0 w pc pp T X N A) (f:N≤a):PS w0 w pc pp T X a A:=by
 obtain⟨c,css,i,j,g,d,b,h,e⟩:=h
 exact⟨c,css,i,j,g,d,b,{h with po:=h.po.mono f},e⟩
structure xO (w0 w w':World) (pc pp:Nat) (T X:Nat→Prop) (N:Nat) (A':PB) (T' X':Nat→Prop):Prop where
 ws:PS w0 w' pc pp T' X' N A'
 fr:Fr T w w'
 tn:∀j,T' j→T j∨w.heap.size≤j
 xn:∀j,X' j→X j∨w.heap.size≤j
 xx:∀j,X j→X' j
theorem PS.idle (h:PS w0 w pc pp T X N A) (f:Fr No w w'):xO w0 w w' pc pp T X N A T X:=
 ⟨h.fr0 f,f.of0,λ_ h=>.inl h,λ_ h=>.inl h,λ_ h=>h⟩
theorem zht {m:Nat→Prop} {css:List (List Value)} {o p g b c r q:Nat} {n a:Nat→Prop} {u i:zf→List Value} {X':Nat→Prop} {k:List zL}
  (h:QP w0 w pc m css pp o p g n u N X A) (f:Fr (poV pp o p n) w w') (y:yn w0 w' pp b c r a X' i k q) (l:∀j,poV pp b c a j→poV pp o p n j∨w.heap.size≤j) (s:∀j,X j→X' j) (t:∀j,X' j→X j∨w.heap.size≤j) (v:∀j,X' j→j<w'.heap.size)
  (val:xy A.S (zS A.bs) k) (l32:k.length≤32) (ad:ZE k):
  xO w0 w w' pc pp (qT m pp o p n) X q {A with L:=k} (qT m pp b c a) X':=by
 have x:∀j,j<w.heap.size→X' j→X j:=λj d e=>(t j e).resolve_right (by omega)
 refine⟨⟨m,css,b,c,r,a,i,?_,rfl⟩,f.mono (λj e=>.inr e),λj d=>?_,t,s⟩
 ·exact
   {ch:=h.ch.frV f h.cp h.po.lo h.po.sub x
    po:=y
    cp:=λj d e=>(l j e).elim (h.cp j d) (λe=>by have:=h.ch.g.hi j d;omega)
    cx:=λj d=>s j (h.cx j d)
    xl:=v
    val:=val
    l32:=l32
    ad:=ad}
 ·rcases d with e|e
  ·exact .inl (.inl e)
  ·exact(l j e).imp_left .inr
theorem zdP {L:List zL} {t:TxD} (h:ZE L) (b:0≤now) (c:now<18446744073709551616):ZE (qM S I L t now):=λe a=>by
 unfold qM at a
 split at a
 ·rcases mem_append.1 a with a|a
  ·exact h e (jA.1 a).1
  ·obtain rfl:=mem_singleton.1 a
   exact⟨b,c⟩
 ·exact h e a
theorem zdg (a:0≤now) (b:now<18446744073709551616):∀(l:List TxD) {L:List zL},ZE L→ZE (JW S I L l now)
 |[],_,h=>h
 |t::l,L,h=>zdg a b l (L:=qM S I L t now) (zdP h a b)
theorem zcW:∀(l:List zL) {L:List zL},ZE l→ZE L→ZE (JE S I L l)
 |[],_,_,h=>h
 |t::l,L,hl,h=>zcW l (L:=qM S I L t.tx t.added) (λe a=>hl e (List.mem_cons_of_mem _ a)) (zdP h (hl t (List.mem_cons_self ..)).1 (hl t (List.mem_cons_self ..)).2)
theorem zlk {L:List zL} (h:ZE L) (l:List TxD) (a:0≤now) (b:now<18446744073709551616):ZE (Zo S I L l now):=
 zcW L h (zdg a b l (λe c=>(by cases c)))
theorem zkU {L:List zL} (h:ZE L) (now:Int):ZE (J4 L now):=λe a=>h e (jA.1 a).1
theorem PS.pids (h:PS w0 w pc pp T X N A):∀x∈zR A.L,zV x:=by
 obtain⟨b,css,d,e,g,c,a,h,rfl⟩:=h
 exact h.po.ids
theorem vJ (h:PS w0 w pc pp T X N A) (b:N≤1000):
  Calls prog 16 #[.pointer (some ⟨pp,0,none⟩)] w λe w'=>∃a,e=.returned a∧RowK w w' a (zR A.L):=by
 obtain⟨d,css,i,j,g,f,c,h,rfl⟩:=h
 exact zna h.po b
theorem ZB (k:vp w) (h:PS w0 w pc pp T X N A) (i:N≤800) {t:TxD} {cs:List Value} (l:Kept X w (λw=>TxQ w t cs)) {now:Nat} (b:now<18446744073709551616):
  Calls prog 17 #[.pointer (some ⟨pp,0,none⟩),.pointer (some ⟨pc,0,none⟩),.agg cs.toArray,.int .u64 now] w λe w'=>∃c,e=.returned (.tuple #[c,.int .i64 (jj A.S (zS A.bs) A.L t)])∧w'.ownsRow w.heap.size 45 32 c (jo A.S (zS A.bs) A.L t).length ((jo A.S (zS A.bs) A.L t).flatMap zd)∧∃d X',xO w0 w w' pc pp T X (N+1) {A with L:=qM A.S (zS A.bs) A.L t now} d X':=by
 obtain⟨n,css,p,q,g,o,m,h,rfl⟩:=h
 refine(zeE (now:=now) k h.po i h.xl h.val h.l32 h.ch.g.cn h.ch.g.hok.ok l b).mono λe w' ⟨c,he,⟨VG',C',hp,f,hv⟩,hr⟩=>⟨c,he,hr,_,_,zht h f hp (λj a=>?_) (λ_ h=>.inl h) (λj a=>a.elim .inl (λe=>(hv j e).imp_left (λe=>h.po.sub j (.inr (.inr (.inr e)))))) (λj a=>?_) (h.val.acc t now) (zbm h.val h.l32 t now) (zdP h.ad (by omega) (by omega))⟩
 ·rcases a with e|e|e|e
  ·exact .inl (.inl e)
  ·exact .inl (.inr (.inl e))
  ·exact .inl (.inr (.inr (.inl e)))
  ·exact(hv j e).imp_left (λe=>.inr (.inr (.inr e)))
 ·rcases a with e|e
  ·exact lt_of_lt_of_le (h.xl j e) f.size
  ·exact hp.hi j (.inr (.inr (.inr e)))
structure QMp (w0 wb w:World) (pc:Nat) (VC:Nat→Prop) (css:List (List Value)) (pp ma ms g:Nat) (VG:Nat→Prop) (CP:zf→List Value) (N:Nat) (T X X1:Nat→Prop) (A:PB) (S1:List zn) (bs1:List yx):Prop where
 ch:CX w0 w pc VC X1 A.S0 S1 bs1 css
 po:yn w0 w pp ma ms g VG X1 CP A.L N
 cp:∀j,VC j→¬poV pp ma ms VG j
 cx:∀j,VC j→X1 j
 xl:∀j,X1 j→j<w.heap.size
 l32:A.L.length≤32
 ad:ZE A.L
 fr:Fr T wb w
 tn:∀j,qT VC pp ma ms VG j→T j∨wb.heap.size≤j
 xn:∀j,X1 j→X j∨wb.heap.size≤j
 xx:∀j,X j→X1 j
 pt:T pp
def PM (w0 wb w:World) (pc pp:Nat) (T X:Nat→Prop) (N:Nat) (A:PB) (S1:List zn) (bs1:List yx) (X1:Nat→Prop):Prop:=
 ∃VC css ma ms g VG CP,QMp w0 wb w pc VC css pp ma ms g VG CP N T X X1 A S1 bs1
theorem PM.still (h:PM w0 wb w pc pp T X N A A.S A.bs X1) (val:xy A.S (zS A.bs) A.L):∃b X',xO w0 wb w pc pp T X N A b X':=by
 obtain⟨c,css,e,f,g,d,a,h⟩:=h
 exact⟨_,_,⟨c,css,e,f,g,d,a,{ch:=h.ch,po:=h.po,cp:=h.cp,cx:=h.cx,xl:=h.xl,val:=val,l32:=h.l32,ad:=h.ad},rfl⟩,h.fr,h.tn,h.xn,h.xx⟩
theorem PM.facts (h:PM w0 wb w pc pp T X N A S1 bs1 X1):(∀j,X1 j→j<w.heap.size)∧Fr T wb w∧(∀j,X1 j→X j∨wb.heap.size≤j)∧∀j,X j→X1 j:=by
 obtain⟨b,css,d,e,g,c,a,h⟩:=h
 exact⟨h.xl,h.fr,h.xn,h.xx⟩
theorem QP.chain {k b:Nat→Prop} {css c:List (List Value)} {o p g:Nat} {m:Nat→Prop} {q:zf→List Value}
  (h:QP w0 wb pc k css pp o p g m q N X A) (f:Fr k wb w) (l:∀j,b j→k j∨wb.heap.size≤j) (n:CX w0 w pc b X A.S0 S1 bs1 c):
  PM w0 wb w pc pp (qT k pp o p m) X N A S1 bs1 (λj=>X j∨b j):=by
 have t:∀j,j<wb.heap.size→(X j∨b j)→X j:=λj a e=>e.elim id (λe=>(l j e).elim (h.cx j) (λe=>by omega))
 refine⟨b,c,o,p,g,m,q,?_⟩
 exact
  {ch:={n with data:=λi d cs r s=>(n.data i d cs r s).step (Fr.refl _ _) (λj _ e=>e.elim .inl (λe=>e.elim .inr .inl))}
   po:=h.po.frV f (λj a e=>h.cp j e a) h.ch.g.lo h.cx t (λj a=>.inl (h.po.sub j a))
   cp:=λj a e=>(l j a).elim (λa=>h.cp j a e) (λa=>by have:=h.po.hi j e;omega)
   cx:=λj a=>.inr a
   xl:=λj a=>a.elim (λe=>lt_of_lt_of_le (h.xl j e) f.size) (λe=>n.g.hi j e)
   l32:=h.l32
   ad:=h.ad
   fr:=f.mono (λj e=>.inl e)
   tn:=λj a=>by
    rcases a with e|e
    ·exact(l j e).imp_left .inl
    ·exact .inl (.inr e)
   xn:=λj a=>a.elim .inl (λe=>(l j e).imp_left (h.cx j))
   xx:=λ_=>.inl
   pt:=.inr (.inl rfl)}
theorem zaI (k:vp w0) (h:PS w0 w pc pp T X N A) (c:A.bs.length≤200) {b:qf} {cs:List Value} (d:vG w b cs):
  Calls prog 24 #[.pointer (some ⟨pc,0,none⟩),.agg cs.toArray] w λe w'=>e=.returned (.int .i64 (qs (zS A.bs) A.S A.bs b))∧∃X1,PM w0 w w' pc pp T X N A (Ys (zS A.bs) A.S A.bs b) (ZH (zS A.bs) A.S A.bs b) X1:=by
 obtain⟨n,css,p,q,g,o,m,h,rfl⟩:=h
 exact(zml k h.ch h.xl (λ_=>id) c d).mono λe w' ⟨j,f,V',a,l,i⟩=>⟨j,_,h.chain f l i⟩
theorem zju (h:PS w0 w pc pp T X N A) {a:List yx} {d:yx} (b:A.bs=a++[d]) (m:a.length≤200):
  Calls prog 26 #[.pointer (some ⟨pc,0,none⟩)] w λe w'=>∃bcs X1,e=.returned (.tuple #[.agg bcs.toArray,.int .i64 0])∧PM w0 w w' pc pp T X N A (xP d.chg A.S) a X1∧Kept X1 w' (λw=>vG w d.blk bcs):=by
 obtain⟨q,css,s,t,g,r,p,h,rfl⟩:=h
 have k:=h.ch
 rw[b] at k
 exact(zmo k m).mono λe w' ⟨bcs,V',i,n,f,l,c,o⟩=>⟨bcs,_,n,h.chain f (λj e=>.inl (l j e)) c,o.step (Fr.refl _ _) (λj _ e=>e.elim .inr (λe=>.inl (l j e)))⟩
theorem zjt (h:PS w0 w pc pp T X N A) (a:A.bs=[]):
  Calls prog 26 #[.pointer (some ⟨pc,0,none⟩)] w λe w'=>e=.returned (.tuple #[.agg JC.toArray,.int .i64 9])∧Fr No w w':=by
 obtain⟨i,css,n,p,g,j,f,h,rfl⟩:=h
 obtain⟨m,s,U,o,k,M,c,l,d,b⟩:=h.ch.gd
 exact zhW c a
theorem Qx (D:vp w0) (h:PM w0 wb w pc pp T X N A S1 bs1 X1) (y:N≤1000) {fv:Value} {first:List TxD} (C:Kept X1 w (λw=>j7 w fv first)) (n:first.length≤700) {now:Nat} (c:now<18446744073709551616):
  Calls prog 25 #[.pointer (some ⟨pp,0,none⟩),.pointer (some ⟨pc,0,none⟩),fv,.int .u64 now] w λe w'=>∃l,e=.returned (.tuple #[l,.int .i64 0])∧w'.ownsRow w.heap.size 45 32 l (XY S1 (zS bs1) A.L first now).length ((XY S1 (zS bs1) A.L first now).flatMap zd)∧∃k v X',k≤first.length+A.L.length∧xO w0 wb w' pc pp T X k {A with S:=S1,bs:=bs1,L:=Zo S1 (zS bs1) A.L first now} v X':=by
 obtain⟨q,css,P,Q,g,O,M,h⟩:=h
 have d:∀j,j=pp→w0.heap.size≤j:=λj e=>by subst e;exact h.po.lo _ (.inl rfl)
 have i:∀j,j=pp→X1 j:=λj e=>by subst e;exact h.po.sub _ (.inl rfl)
 have b:∀j,q j→¬j=pp:=λj a e=>by subst e;exact h.cp _ a (.inl rfl)
 refine(zll D h.po y h.xl h.l32 h.ad (λw' f=>(h.ch.frV f b d i (λ_ _ e=>e)).g.cn) h.ch.g.hok.ok C n (now:=now) c).mono ?_
 rintro e w' ⟨l,B,⟨o,p,x,m,r,C',k,F,E,t,u,K,s⟩,f,G⟩
 have z:∀j,j<w.heap.size→r j→X1 j:=λj a e=>(t j e).resolve_right (by omega)
 have H:=h.fr.size
 refine⟨l,B,G,k,_,r,E,⟨q,css,o,p,x,m,C',?_,rfl⟩,h.fr.trans f (λj _ e=>by subst e;exact h.pt),λj a=>?_,λj a=>(t j a).elim (h.xn j) (λe=>.inr (by omega)),λj a=>u j (h.xx j a)⟩
 ·exact
   {ch:=h.ch.frV f b d i z
    po:=F
    cp:=λj a e=>(s j e).elim (b j a) (λe=>by have:=h.ch.g.hi j a;omega)
    cx:=λj a=>u j (h.cx j a)
    xl:=K
    val:=(xy.ren A.L first now).1
    l32:=(xy.ren A.L first now).2
    ad:=zlk h.ad _ (by omega) (by omega)}
 ·rcases a with e|e
  ·exact h.tn j (.inl e)
  ·exact(s j e).elim (λe=>by subst e;exact .inl h.pt) (λe=>.inr (by omega))
end
end Go.Proofs.YtbcllfjmabiafaaGreatDoor
