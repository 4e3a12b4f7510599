/- chain: do, of any block. -/
import Derived.Test.YtmpamcnlineceaaGreatDoorZG10
import Derived.Test.YtmpamcnlineceaaGreatDoorZG11
import Derived.Test.YtmpamcnlineceaaGreatDoorZG9
import Derived.Test.YtmpamcnlineceaaGreatDoorZG8
set_option linter.unusedVariables false
set_option linter.unusedSimpArgs false
set_option linter.unnecessarySimpa false
set_option linter.all false
set_option maxRecDepth 20000
set_option maxHeartbeats 16000000
namespace Go.Proofs.YtmpamcnlineceaaGreatDoor
open Go Go.RowKit Go.Maps Go.MapKept
open Go.Proofs.Tryz(prog)
open List(mem_append mem_of_getElem? any_eq_true)
open Nat(zero_le)
variable {V:Nat→Prop} {w:World}
theorem TxQ.len3' {t:TxD} {cs:List Value} (h:TxQ w t cs):cs.length=3:=by
 obtain⟨_,_,_,_,rfl,_⟩:=h
 rfl
theorem V0 {b:y7} {c g:Option Addr} {d i:Nat} (h:Kept V w (λw=>xT w b [.int .u64 b.tag,.slice c b.pay.length d,.slice g b.txs.length i])):Kept V w (λw=>xA w (.slice c b.pay.length d) b.pay)∧Kept V w (λw=>YD w (.slice g b.txs.length i) b.txs):=by
 have a:∀w',xT w' b [.int .u64 b.tag,.slice c b.pay.length d,.slice g b.txs.length i]→xA w' (.slice c b.pay.length d) b.pay∧YD w' (.slice g b.txs.length i) b.txs:=by
  rintro w' ⟨n,o,p,q,e,_,l,m⟩
  simp only[zdN,List.cons.injEq,and_true] at e
  obtain⟨-,j,k⟩:=e
  injection j with e11 _ e13
  injection k with e21 _ e23
  subst e11;subst e13;subst e21;subst e23
  exact⟨l,m⟩
 exact⟨λw' f=>(a w' (h w' f)).1,λw' f=>(a w' (h w' f)).2⟩
theorem Xv {b:y7} {bcs:List Value} {a:List zY} {c:List Zp} {o m:Value} {h:List (List Value)} {B:Nat} (s:Kept V w (λw=>xT w b bcs)) (hi:w.ownsRow B 40 32 o a.length (a.flatMap zl)) (l:∀x∈a,xU x)
  {V':Nat→Prop} (i:vO B 117 2 zaz V' w m c h) (r:∀j,V j→V' j) (n:∀j,V j→j<B) (y:c.length≤1000):Kept V w (λw=>vr w ⟨b,a,c⟩ (bcs++[o,m])):=by
 obtain⟨u,v,g⟩:=hi.slice.arg.form
 obtain⟨p,q,d⟩:=i.form
 have t:=i.rows (U:=V) (by decide) (by unfold maxLen;omega) (λj _ e=>r j e) (λj k e=>by have:=(i.lt j k).1;have:=n j e;omega)
 intro w' f
 refine⟨bcs,u,v,p,q,by rw[g,d],s w' f,⟨l,?_⟩,?_⟩
 ·rw[←g]
  exact(zf hi f (λj k e=>by have:=(hi.lt j k).1;have:=n j e;omega)).slice.arg
 ·have:=t w' f
  rw[d] at this
  exact this
theorem zee {B n:Nat} {a:Option Addr} {b:Nat} {l:List zE} (h:w.ownsRow B 72 33 (.slice a n b) n (l.flatMap zi)) (d:l.length=n) (ok:∀x∈l,x.ok) (c:∀j,(Value.slice a n b).ownBlock=some j→¬V j):Kept V w (λw=>zaz w ⟨[],l⟩ [.slice none 0 0,.slice a n b]):=by
 subst d
 exact λw' f=>⟨none,0,a,b,rfl,⟨(λx e=>by cases e),.inl (.inl ⟨rfl,rfl,rfl⟩)⟩,Z8 h ok c w' f⟩
theorem zdo {K:List zY} {S:List zh} {b:y7} {E:Int} {st:StD} (h:runT K b.txs (st0 S)=(E,st)) (a:E≠0):doR K S b=⟨E,st.S,⟨b,st.ids,st.chg⟩⟩:=by
 unfold doR
 rw[h]
 exact if_neg a
theorem zdp {K:List zY} {S:List zh} {b:y7} {st:StD} (h:runT K b.txs (st0 S)=(0,st)):doR K S b=if xQ st.S (yZ b)=0 then⟨0,qP st.S (yZ b),⟨b,st.ids,st.chg++[⟨[],(yZ b).map (·.at_)⟩]⟩⟩ else⟨10,st.S,⟨b,st.ids,st.chg⟩⟩:=by
 unfold doR
 rw[h]
 exact if_pos rfl
def DoP (w0 w:World) (p s mi:Nat) (U:Nat→Prop) (bv:Value) (css:List (List Value)) (D:ChD) (dq:Nat) (T:Nat→Prop) (b:y7) (R:DoR) (e:Ending) (w':World):Prop:=
 ∃M',za2 D.bs.length D.M M' R.d.ids∧zeG w0 w p s mi U bv css D dq T b R.E R.S M' R.d e w'
def DoL (w0 w:World) (p s mi:Nat) (U:Nat→Prop) (bv:Value) (css:List (List Value)) (D:ChD) (dq:Nat) (T:Nat→Prop) (b:y7) (x0 x1 x2:Value) (K:List zY) (n:Nat) (wr:World):Prop:=
 ∃(st:StD) (M:List (zY×Int)) (iv cv:Value) (ccs:List (List Value)),runT K b.txs (st0 D.S)=runT K (b.txs.drop n) st∧VK D.S K n st∧za2 D.bs.length D.M M st.ids∧M.length≤D.M.length+n∧
  qy w0 wr p s U mi bv css ⟨st.S,D.bs,M⟩∧wr.heap[dq]? =some (.cells #[x0,x1,x2,iv,cv] 94 (0,0))∧wr.ownsRow w.heap.size 40 32 iv n (st.ids.flatMap zl)∧
  vO w.heap.size 117 2 zaz (λj=>(chV p U mi bv j∨T j)∨iv.ownBlock=some j) wr cv st.chg ccs∧(∀j,iv.ownBlock=some j→cv.ownBlock=some j→False)∧Fr (λj=>chV p U mi bv j∨j=dq) w wr
theorem zhA {w0 w:World} (hg:jM w0) {p s N:Nat} {U:Nat→Prop} {bv:Value} {css:List (List Value)} {D:ChD} (h:qy w0 w p s U N bv css D) {KI:List zY} (hK:∀x,x∈KI↔∃v,(x,v)∈D.M) (aY:∀x v,(x,v)∈D.M→0<v) {o:Nat} {b:y7} {bcs:List Value}
  (hq:w.heap[o]? =some (.cells (bcs++[Value.slice none 0 0,Value.slice none 0 0]).toArray 94 (0,0))) (cD:¬chV p U N bv o) (cy:w0.heap.size≤o)
  {T:Nat→Prop} (hT:T o) (ct:∀j,T j→j<w.heap.size) (hb:Kept (λj=>chV p U N bv j∨T j) w (λw=>xT w b bcs)) (hok:xC b=true) (cI:qg D.S) (hN:D.S.length≤80000) (cp:D.bs.length≤100000) (cr:D.M.length≤1000000)
  (cx:∀(i:Nat) (d:zU) (cs:List Value),D.bs[i]? =some d→css[i]? =some cs→Kept (λj=>chV p U N bv j∨j=o) w (λw=>vr w d cs)):
  Calls prog 33 #[.pointer (some ⟨p,0,none⟩),.pointer (some ⟨o,0,none⟩)] w
   (DoP w0 w p s N U bv css D o T b (doR KI D.S b)):=by
 obtain⟨pa,pc,ta,tc,rfl⟩:=hb.now.form
 obtain⟨p8,dB,-⟩:=Ji hok
 have bW:=J hb.now.oks
 obtain⟨a7,a8⟩:=V0 hb
 have b8:=J a7
 have cc:=J a8
 have HB:=J hb
 have HQ:=@J (w.heap[o]? =some (.cells #[.int .u64 b.tag,.slice pa b.pay.length pc,.slice ta b.txs.length tc,.slice none 0 0,.slice none 0 0] 94 (0,0))) (hq)
 obtain⟨dG,uG,rG⟩:=zaE
 have zH:=qt
 have zG:=zaY
 have zC:=jI
 have zT:=Qr
 have HC:=J h
 have G0:=J hg
 have NQ:=J cD
 have LQ:=J cy
 have aH:=J hK
 have b0:=J aY
 have R:=J h.hi
 have QL:=J (yu hq)
 have QT:=@J (∀j,j=o→T j) (λj e=>e▸hT)
 have TL:=J ct
 have c0:=J hok
 have dp:=J (VK.start cI h.set.ok KI)
 have aI:=J (And.intro hN (And.intro cp cr))
 have HK:=J cx
 have bV:=J h.fr
 have c2:=(vE (zm hq)).2.2.1
 clear h hg hq cD cy hb hT ct hok cx hK aY a7 a8 cI hN cp cr
 go_enter Tryz.func33,Tryz.ntmps33
 go_wp2_with fail
 clear c2
 go_loopw [25] (λiv wr=>∃n:Nat,iv=.int .i64 n∧n≤b.txs.length∧DoL w0 w p s N U bv css D o T b (.int .u64 b.tag) (.slice pa b.pay.length pc) (.slice ta b.txs.length tc) KI n wr) (λiv _=>b.txs.length-(intOf iv).toNat)
 case atStart=>exact⟨0,rfl,zero_le _,st0 D.S,D.M,.slice none 0 0,.slice none 0 0,[],rfl,dp.o,⟨λx v=>by simp[st0],λx Z=>by simp[st0] at Z⟩,Nat.le_refl _,HC.o,HQ.o,World.ownsRow_nil _ _ _ 32,vO.nil _ _ _ _ _ _,(λj e=>by cases e),Fr.refl _ _⟩
 case round=>
  obtain⟨n,rfl,hn,st,M,iv,cv,ds,aZ,bB,Q,cC,bx,aE,aO,aN,aW,fr⟩:=hrel
  have FR:=J fr
  have bw:=J aZ
  have C:=J bB
  have Y:=J Q
  have cd:=J cC
  have CH:=J bx
  have BQ:=J aE
  have OI:=J aO
  have KR:=J aN
  have bf:=J aW
  obtain⟨S,W,du⟩:=aO.slice.arg.form
  subst du
  obtain⟨F,G,cu⟩:=aN.form
  rw[bB.cl] at cu
  subst cu
  have NI:=@J (∀j,(Value.slice S n W).ownBlock=some j→w.heap.size≤j∧j<wr.heap.size) (λj m=>aO.lt j m)
  have NC:=@J (∀j,(Value.slice F n G).ownBlock=some j→w.heap.size≤j∧j<wr.heap.size) (λj m=>aN.lt j m)
  have GW:=J (G0.o.keep0 bx.fr)
  clear fr aZ bB Q cC bx aE aO aN aW
  by_cases aq:n<b.txs.length
  ·have i1:(n:Int)<(b.txs.length:Int):=by omega
   obtain⟨t,Z⟩:∃x,b.txs[n]? =some x:=⟨_,List.getElem?_eq_getElem aq⟩
   have HX:=J Z
   have bP:=@J (b.txs.drop n=t::b.txs.drop (n+1)) (by rw[List.drop_eq_getElem_cons aq,(List.getElem?_eq_some_iff.1 Z).2])
   obtain⟨bb,off,dr,ts,dx,-,cE,aM⟩:=zaQ (by decide) (λ_ _ _ h=>TxQ.len3' h) (cc.o.same (FR.o.mono (λj e=>e.imp_right (QT.o j)))) Z
   cases dx
   obtain⟨ja,jc,ka,kc,rfl⟩:=cE.form
   have bY:=J aM
   have R1:=J aM.now.1
   have FA:=J ((frN wr).alloc (.cells #[.int .u32 t.ver,.slice ja t.ins.length jc,.slice ka t.outs.length kc] 62))
   have RA:=J (qF wr t.ver (.slice ja t.ins.length jc) (.slice ka t.outs.length kc)).2.2.2
   have QA:=@J ((wr.alloc (.cells #[.int .u32 t.ver,.slice ja t.ins.length jc,.slice ka t.outs.length kc] 62)).heap.size=wr.heap.size+1) (by simp)
   have CK:=J (V4 _ (show TxQ (wr.alloc (.cells #[.int .u32 t.ver,.slice ja t.ins.length jc,.slice ka t.outs.length kc] 62)) t [.int .u32 t.ver,.slice ja t.ins.length jc,.slice ka t.outs.length kc] from(aM _ FA.o.of0).2))
   have bh:=@J (∀E,txE KI st t=E→E≠0→∀w',qy w0 w' p s U N bv css ⟨st.S,D.bs,M⟩→Fr U wr w'→DoP w0 w p s N U bv css D o T b (doR KI D.S b) (.returned (.int .i64 E)) w') (λE hE cq w' hc f=>by
    have hr:runT KI b.txs (st0 D.S)=(E,st):=by rw[bw.o,bP.o,Vu (by rw[hE];exact cq),hE]
    rw[zdo hr cq]
    have hU:∀j,U j→j<w.heap.size:=λj m=>R.o j (.inr (.inl m))
    refine⟨M,Y.o,rfl,hc,FR.o.trans f (λj _ e=>.inl (.inr (.inl e))),rfl,_,f.obj BQ.o (λe=>NQ.o (.inr (.inl e))),?_⟩
    exact Xv (bcs:=[_,_,_]) (HB.o.same ((FR.o.trans f (λj _ e=>.inl (.inr (.inl e)))).mono (λj e=>e.imp_right (QT.o j)))) (by rw[C.o.il];exact zf OI.o f (λj m e=>by have:=(NI.o j m).1;have:=hU j e;omega)) C.o.iok (KR.o.fr f (λj _ e=>.inl (.inl (.inr (.inl e)))) (λj m e=>by have:=(NC.o j m).1;have:=hU j e;omega)) (λj e=>.inl e) (λj e=>e.elim (λe=>R.o j e) (λe=>TL.o j e)) (by rw[C.o.cl];omega))
   have c7:=J (λ(w':World) (f:Fr No wr w')=>zcK (GW.o.keep0 f) (show TxQ w' t [.int .u32 t.ver,.slice ja t.ins.length jc,.slice ka t.outs.length kc] from(bY.o _ f.of0).2))
   clear cE aM Z
   by_cases hck:yM t=0
   rotate_left
   ·have e0:(yM t==0)=false:=by simpa using hck
    have e1:(yM t !=0)=true:=by simpa using hck
    have ah:=J (λ(w':World) (f:Fr No wr w')=>bh.o (yM t) (by unfold txE;rw[if_neg hck]) hck w' (CH.o.fr0 f) f.of0)
    clear hck
    have⟨K0,K1,K2,K3⟩:=tZ4
    go_wp2_with ((first|((with_reducible refine zt ?_);first|(clear K0;refine ziU rfl rfl rfl R1.o rfl ?_)|(clear K2;refine ziU rfl rfl rfl RA.o rfl ?_))|((with_reducible refine zr ?_);clear K1;refine ze rfl (zj (w:=wr) (ty:=62) (cs:=[.int .u32 t.ver,.slice ja t.ins.length jc,.slice ka t.outs.length kc]) rfl rfl rfl rfl qN (zaK rfl rfl rfl)) ?_;generalize wr.alloc (.cells #[.int .u32 t.ver,.slice ja t.ins.length jc,.slice ka t.outs.length kc] 62)=wA at*)|(clear K3;go_at_call 48;refine CK.o.mono ?_;rintro e wB ⟨rfl,f2⟩;have FB:=J (FA.o.trans0 f2);clear f2));go_frame)
    go_ret
    exact ah.o _ FB.o
   have e0:(yM t==0)=true:=by simpa using hck
   have e1:(yM t !=0)=false:=by simpa using hck
   have bk:=J hck
   have HL:=J (yr (vk t))
   clear hck
   have⟨K0,K1,K2,K3,K4,K5,K6⟩:=tZ7
   go_wp2_with ((first|((with_reducible refine zt ?_);first|(clear K0;refine ziU rfl rfl rfl R1.o rfl ?_)|(clear K2;refine ziU rfl rfl rfl RA.o rfl ?_)|(clear K4;refine ziU rfl rfl rfl RB.o rfl ?_))|((with_reducible refine zr ?_);first|(clear K1;refine ze rfl (zj (w:=wr) (ty:=62) (cs:=[.int .u32 t.ver,.slice ja t.ins.length jc,.slice ka t.outs.length kc]) rfl rfl rfl rfl qN (zaK rfl rfl rfl)) ?_;generalize wr.alloc (.cells #[.int .u32 t.ver,.slice ja t.ins.length jc,.slice ka t.outs.length kc] 62)=wA at*)|(clear K6;refine zi3 (w:=wC) (cs:=zl (idH t)) rfl rfl rfl rfl HL.o zX ?_;generalize wC.alloc (.cells (zl (idH t)).toArray 40)=wD at*;generalize dA:wC.heap.size=q8 at*))|(clear K3;go_at_call 48;refine CK.o.mono ?_;rintro e wB ⟨rfl,f2⟩;have FB:=J (FA.o.trans0 f2);have RB:=J (zb RA.o f2 _root_.id);have S2:=J f2.size;clear f2)|(clear K5;go_at_call 27;refine(c7.o wB FB.o).mono ?_;rintro e wC ⟨rfl,f3⟩;have FC:=J (FB.o.trans0 f3);have RC:=J (zb RB.o f3 _root_.id);have S3:=J f3.size;clear f3;have bS:=J ((frN wC).alloc (.cells (zl (idH t)).toArray 40));have cL:=J (zS wC (.cells (zl (idH t)).toArray 40))));go_frame)
   have FE:=J ((FC.o.trans0 bS.o).trans0 (frN wD).drew)
   have RE:=J (zb (zb RC.o bS.o _root_.id) (frN wD).drew _root_.id)
   have B8:=J ((frN wD).drew.obj cL.o _root_.id)
   have R8:=@J (wD.drew.rangeAt q8 0 (zl (idH t))) (by have:=zm B8.o;simpa using this)
   have X:=J (CH.o.fr0 FE.o)
   have Q8:=@J (wr.heap.size<q8∧q8<wD.drew.heap.size) (⟨by have:=QA.o;have:=S2.o;have:=S3.o;omega,yu B8.o⟩)
   obtain⟨v,hv1,hv2⟩:∃v:Int,(Instr.lookup 78 (.map (some N)) (YG (idH t)) false).run prog wD.drew=.ok (.int .i64 v) wD.drew∧(0<v↔idH t∈KI∨idH t∈st.ids):=by
    by_cases O:∃v,(idH t,v)∈M
    ·obtain⟨v,hm⟩:=O
     have:=X.o.map.look jN.keyed Jm (λ_ _=>Jj) Zo (xn (vk t)) false (r:=some v) (λv'=>⟨λe=>by rw[←Option.some.inj e];exact hm,λh'=>by rw[X.o.map.uniq hm h']⟩)
     refine⟨v,by simpa using this,?_⟩
     rcases(Y.o.1 _ _).1 hm with h|⟨h,e⟩
     ·exact⟨λ_=>.inl ((aH.o _).2 ⟨v,h⟩),λ_=>b0.o _ _ h⟩
     ·exact⟨λ_=>.inr h,λ_=>by omega⟩
    ·have:=X.o.map.look jN.keyed Jm (λ_ _=>Jj) Zo (xn (vk t)) false (r:=none) (λv'=>⟨λe=>(by cases e),λh'=>absurd ⟨v',h'⟩ O⟩)
     refine⟨0,by simpa using this,⟨λe=>(by omega),λe=>?_⟩⟩
     exfalso
     apply O
     rcases e with e|e
     ·obtain⟨v,hv⟩:=(aH.o _).1 e
      exact⟨v,(Y.o.1 _ _).2 (.inl hv)⟩
     ·exact⟨_,(Y.o.1 _ _).2 (.inr ⟨e,rfl⟩)⟩
   have LK:=J hv1
   have bm:=J hv2
   have cQ:=J X.o.cells.2.2
   clear hv1 hv2
   refine wrLx [ff,ff,ff,ff,ff,ff,ff] (λw'=>w'.cell? ⟨p,2,none⟩=some (.map (some N))∧w'.rangeAt q8 0 (zl (idH t))∧(Instr.lookup 78 (.map (some N)) (YG (idH t)) false).run prog w'=.ok (.int .i64 v) w') ?_ (λK hK=>?_)
   ·exact⟨cQ.o,R8.o,LK.o⟩
   generalize wD.drew=z8 at*
   repeat((first|(refine zn rfl ?_;constructor;constructor;(focus(first|exact zi0 rfl (λw h=>h.2.1) HL.o|exact λw' h=>qY (t:=78) rfl rfl rfl h.2.2|(rintro w' ⟨s1,s2,s3⟩;exact goS))))|(refine zq rfl ?_));try simp only[Act.put,pA,pB,pC])
   refine zZ (hK.out _ _ ?_)
   by_cases O:idH t∈KI∨idH t∈st.ids
   ·have j3:0<v:=bm.o.2 O
    have ah:=J (bh.o 19 (by unfold txE;rw[if_pos bk.o,if_pos O]) (by decide) z8 X.o FE.o.of0)
    clear O
    go_wp2_with fail
    go_ret
    exact ah.o
   have j3:¬0<v:=λe=>O (bm.o.1 e)
   have bp:=@J (idH t∉KI∧idH t∉st.ids) (⟨λe=>O (.inl e),λe=>O (.inr e)⟩)
   have cm:=@J (txE KI st t=spE st.S t) (by unfold txE;rw[if_pos bk.o,if_neg O])
   clear O LK bm
   have SL:=@J (st.S.length≤90000) (by have:=C.o.len;have:=aI.o.1;omega)
   have SP:=J (zez (GW.o.keep0 FE.o) X.o.obj X.o.up X.o.set (t:=t) (cs:=[.int .u32 t.ver,.slice ja t.ins.length jc,.slice ka t.outs.length kc]) (λw' f=>(bY.o w' (FE.o.of0.trans f (λj _ e=>.inl (.inr (.inl e))))).2) bk.o SL.o)
   by_cases Q:spE st.S t=0
   rotate_left
   ·have ah:=@J (∀w',CS w0 w' s U (spS st.S t)→Fr U z8 w'→DoP w0 w p s N U bv css D o T b (doR KI D.S b) (.returned (.int .i64 (spE st.S t))) w') (λw' hc f=>by
     have e:spS st.S t=st.S:=by unfold spS;rw[if_neg Q]
     rw[e] at hc
     exact bh.o (spE st.S t) cm.o Q w' (X.o.setS hc f) (FE.o.of0.trans f (λ_ _ e=>e)))
    have e2:(spE st.S t==0)=false:=by simpa using Q
    have e3:(spE st.S t !=0)=true:=by simpa using Q
    clear Q
    have⟨K0,K1,K2⟩:=tZ3
    go_wp2_with ((first|((with_reducible refine zt ?_);clear K0;refine ziU rfl rfl rfl RE.o rfl ?_)|(clear K1;go_at_call 49;refine SP.o.mono ?_;rintro e wE ⟨sa,sn,sc,ma,mn,mc,rfl,aD,f9,-⟩;have bl:=J aD;have F9:=J f9;clear aD f9)|((with_reducible refine zr ?_);clear K2;refine ze rfl (zj (w:=wE) (ty:=117) (cs:=[.slice sa sn sc,.slice ma mn mc]) rfl rfl rfl rfl qK (zbJ rfl rfl)) ?_));go_frame)
    go_ret
    exact ah.o _ (bl.o.fr0 ((frN wE).alloc _)) (F9.o.trans0 ((frN wE).alloc _))
   have e2:(spE st.S t==0)=true:=by simpa using Q
   have e3:(spE st.S t !=0)=false:=by simpa using Q
   have b6:=J Q
   clear Q
   have⟨K0,K1,K2⟩:=tZ3
   go_wp2_with ((first|((with_reducible refine zt ?_);clear K0;refine ziU rfl rfl rfl RE.o rfl ?_)|(clear K1;go_at_call 49;refine SP.o.mono ?_;rintro e wE ⟨sa,sn,sc,ma,mn,mc,rfl,aD,f9,cw⟩;have bl:=J aD;have F9:=J f9;have cY:=J (cw b6.o (λj=>j<z8.heap.size) (λ_ h=>h));clear aD f9 cw;have FF:=J ((frN wE).alloc (.cells [.slice sa sn sc,.slice ma mn mc].toArray 117));have BF:=J (zS wE (.cells [.slice sa sn sc,.slice ma mn mc].toArray 117)))|((with_reducible refine zr ?_);clear K2;refine ze rfl (zj (w:=wE) (ty:=117) (cs:=[.slice sa sn sc,.slice ma mn mc]) rfl rfl rfl rfl qK (zbJ rfl rfl)) ?_;generalize wE.alloc (.cells [.slice sa sn sc,.slice ma mn mc].toArray 117)=wF at*;generalize cF:wE.heap.size=al at*));go_frame)
   have cn:=@J (txE KI st t=0) (cm.o.trans b6.o)
   have UV:=@J (∀j,U j→j<w.heap.size) (λj m=>R.o j (.inr (.inl m)))
   have FZ:=J (FF.o.trans0 (frN wF).drew)
   have bU:=@J (Fr U wr wF.drew) ((FE.o.of0.trans F9.o (λ_ _ e=>e)).trans0 FZ.o)
   have ad:=J ((X.o.setS bl.o F9.o).fr0 FZ.o)
   have W8:=@J (w.heap.size≤wr.heap.size) (FR.o.size)
   have aU:=J (zb (zb R8.o F9.o (λe=>by have:=UV.o _ e;have:=Q8.o.1;have:=W8.o;omega)) FZ.o _root_.id)
   have bF:=J ((frN wF).drew.obj BF.o _root_.id)
   have dh:=@J (wF.drew.rangeAt al 0 [.slice sa sn sc,.slice ma mn mc]) (by have:=zm bF.o;simpa using this)
   have aL:=@J (z8.heap.size≤al∧al<wF.drew.heap.size) (⟨by rw[←cF];exact F9.o.size,yu bF.o⟩)
   have cR:=@J (∃ba bc,bv=.slice ba D.bs.length bc) (ad.o.row.slice.arg.form)
   obtain⟨ba,bc,dt⟩:=cR.o
   have cP:=@J (wF.drew.cell? ⟨p,1,none⟩=some (.slice ba D.bs.length bc)) (by rw[←dt];exact ad.o.cells.2.1)
   have bO:=J ad.o.cells.2.2
   obtain⟨wG,M',cH,cz,a6,bC,aX⟩:=ad.o.map.upd jN.keyed Jm (λ_ _=>Jj) (xn (vk t)) (by unfold maxLen;show M.length<_;have:=cd.o;have:=aI.o.2.2;omega) ((D.bs.length:Int)+1)
   have b7:=J cH
   have cN:=@J (qy w0 wG p s U N bv css ⟨spS st.S t,D.bs,M'⟩) (ad.o.setM cz bC.fr)
   have FG:=J bC.fr
   have dn:=@J (za2 D.bs.length D.M M' (st.ids++[idH t])) (⟨λx v=>by
    rw[a6 x v]
    simp only[mem_append,List.mem_singleton]
    constructor
    ·rintro(⟨e1,e2⟩|⟨e1,e2⟩)
     ·exact .inr ⟨.inr e1,e2⟩
     ·exact((Y.o.1 x v).1 e2).imp_right (λ⟨a,b⟩=>⟨.inl a,b⟩)
    ·rintro(e|⟨e1|e1,e2⟩)
     ·refine .inr ⟨λex=>?_,(Y.o.1 x v).2 (.inl e)⟩
      subst ex
      exact bp.o.1 ((aH.o _).2 ⟨v,e⟩)
     ·refine .inr ⟨λex=>?_,(Y.o.1 x v).2 (.inr ⟨e1,e2⟩)⟩
      subst ex
      exact bp.o.2 e1
     ·exact .inl ⟨e1,e2⟩,λx Z v hm=>by
    rcases mem_append.1 Z with Z|Z
    ·exact Y.o.2 x Z v hm
    ·simp at Z;subst Z;exact bp.o.1 ((aH.o _).2 ⟨v,hm⟩)⟩)
   have c9:=@J (M'.length≤D.M.length+(n+1)) (by have h1:M'.length≤M.length+1:=aX;have:=cd.o;omega)
   clear cH cz a6 bC aX
   unfold YG zfR at b7
   have WR:=@J (IntKind.i64.wrap ((D.bs.length:Int)+1)=(D.bs.length:Int)+1) (IntWalk.i64_in _ (by have:=aI.o.2.1;omega))
   have dy:=WR.o
   refine yD [ff,ff,ff,ff,ff,ff,ff,ff,ff,ff,ff,tt] (λw'=>w'.cell? ⟨p,2,none⟩=some (.map (some N))∧w'.rangeAt q8 0 (zl (idH t))∧w'.cell? ⟨p,1,none⟩=some (.slice ba D.bs.length bc)) (by kernel_rfl) (by kernel_rfl) 11 (by kernel_rfl) (by kernel_rfl) ?_ (λK hK=>?_)
   ·exact⟨bO.o,aU.o,cP.o⟩
   generalize wF.drew=dD at*
   repeat((first|(refine ym rfl ?_;constructor;constructor;(focus(first|exact zi0 rfl (λw h=>h.2.1) HL.o|(rintro w' ⟨s1,s2,s3⟩;exact goS))))|(refine yn rfl ?_));try simp only[Act.put,pA,pB,pC])
   (refine yf rfl (λK' hK'=>?_))
   refine xx (Ju rfl rfl rfl rfl b7.o) ?_
   refine hK'.out _ _ (λh=>absurd rfl h) (λhS=>?_)
   refine qp (hK.out _ _ ?_)
   clear dy
   go_wp2_with fail
   have MI:=@J (N<w.heap.size) (R.o N (.inr (.inr (.inl rfl))))
   have ab:=J (frN wG).drew
   have FX:=@J (Fr (λj=>U j∨j=N) wr wG.drew) (((bU.o.mono (λj e=>.inl e)).trans FG.o (λj _ e=>.inr e)).trans0 ab.o)
   have XW:=@J (∀j,(U j∨j=N)→j<w.heap.size∧chV p U N bv j) (λj e=>e.elim (λe=>⟨UV.o j e,.inr (.inl e)⟩) (λe=>by rw[e];exact⟨MI.o,.inr (.inr (.inl rfl))⟩))
   have aP:=J (FX.o.obj BQ.o (λe=>NQ.o (XW.o _ e).2))
   have cg:=J (zf OI.o FX.o (λj m e=>by have:=(NI.o j m).1;have:=(XW.o j e).1;omega))
   have b9:=J (KR.o.fr FX.o (λj _ e=>.inl (.inl (XW.o j e).2)) (λj m e=>by have:=(NC.o j m).1;have:=(XW.o j e).1;omega))
   have aB:=J (zb (zb aU.o FG.o (λe=>by have:=MI.o;have:=W8.o;have:=Q8.o.1;omega)) ab.o _root_.id)
   have bt:=J (zb (zb dh.o FG.o (λe=>by have:=MI.o;have:=W8.o;have:=Q8.o;have:=aL.o.1;omega)) ab.o _root_.id)
   have bM:=J (cN.o.fr0 ab.o)
   have dj:=@J (z8.heap.size≤wE.heap.size∧wE.heap.size≤wG.drew.heap.size) (⟨F9.o.size,by have:=FZ.o.size;have:=FG.o.size;have:=ab.o.size;omega⟩)
   have aQ:=@J (wG.drew.cell? ⟨o,3,none⟩=some (.slice S n W)) (by have:=zm aP.o 3 _ rfl;simpa using this)
   refine yD [ff,ff,ff,ff,ff,ff,tt,tt,ff,ff,tt] (λw'=>w'.cell? ⟨o,3,none⟩=some (.slice S n W)∧w'.rangeAt q8 0 (zl (idH t))) (by kernel_rfl) (by kernel_rfl) 10 (by kernel_rfl) (by kernel_rfl) ?_ (λK hK=>?_)
   ·exact⟨aQ.o,aB.o⟩
   generalize wG.drew=an at*
   have aV:=@J (w.heap.size≤an.heap.size) (by have:=FX.o.size;have:=W8.o;omega)
   obtain⟨v5,B,a1,a2,a3,-,a5⟩:=yw (P:=prog) an w.heap.size 52 52 40 32 32 _ jS qW (by show(zl z7).toArray.size=32;rfl) (by decide) cg.o (zl (idH t)) HL.o zX (by omega) (by unfold maxLen;omega) aV.o
   obtain⟨u,A,bD⟩:=a2.slice.arg.form
   subst bD
   have A1:=J a1
   have O5:=@J (B.ownsRow w.heap.size 40 32 (.slice u (n+1) A) (n+1) ((st.ids++[idH t]).flatMap zl)) (by rw[List.flatMap_append];simpa using a2)
   have A5:=J a5
   have av:=J (a3.obj aP.o (λe=>by have:=(NI.o _ e).1;have:=QL.o;omega))
   have C5:=@J (B.cell? ⟨o,3,none⟩=some (.slice S n W)) (by have:=zm av.o 3 _ rfl;simpa using this)
   have di:=J (zb aB.o a3 (λe=>by have h1:q8<wr.heap.size:=(NI.o _ e).2;have:=Q8.o.1;omega))
   have ch:=J (zb bt.o a3 (λe=>by have h1:al<wr.heap.size:=(NI.o _ e).2;have:=aL.o.1;have:=Q8.o;omega))
   have fz:=zW (i:=3) av.o
   have fs:Fr (λj=>j=o) B (B.setCell ⟨o,3,none⟩ (.slice u (n+1) A)):=(Fr.refl (λj=>j=o) B).setCell ⟨o,3,none⟩ (.inr rfl) _
   have bR:=@J (Fr (λj=>(Value.slice S n W).ownBlock=some j∨j=o) an (B.setCell ⟨o,3,none⟩ (.slice u (n+1) A))) ((a3.mono (λj e=>.inl e)).trans fs (λj _ e=>.inr e))
   have dc:=J (zf O5.o fs (λj m e=>by have:=(O5.o.lt j m).1;have:=QL.o;omega))
   have bG:=@J ((B.setCell ⟨o,3,none⟩ (.slice u (n+1) A)).heap[o]? =some (.cells #[.int .u64 b.tag,.slice pa b.pay.length pc,.slice (some ⟨bb,off,none⟩) b.txs.length tc,.slice u (n+1) A,.slice F n G] 94 (0,0))) (by have:=heap_setCell_same B o 3 _ _ (.slice u (n+1) A) av.o;simpa using this)
   have bu:=J (zb ch.o fs (λe=>by have:=aL.o.1;have:=Q8.o;have:=QL.o;have:=W8.o;omega))
   have NV:=@J (∀j,j<an.heap.size→(Value.slice u (n+1) A).ownBlock=some j→(Value.slice S n W).ownBlock=some j) (λj m e=>(A5.o j e).resolve_right (by omega))
   have ca:=@J (vO w.heap.size 117 2 zaz (λj=>(chV p U N bv j∨T j)∨(Value.slice u (n+1) A).ownBlock=some j) (B.setCell ⟨o,3,none⟩ (.slice u (n+1) A)) (.slice F n G) st.chg ds) (by
    have k1:=b9.o.vary (V':=λj=>(chV p U N bv j∨T j)∨(Value.slice S n W).ownBlock=some j∨(Value.slice u (n+1) A).ownBlock=some j) (λj m e=>e.imp_right (λe=>e.elim id (NV.o j m)))
    have k2:=k1.fr bR.o (λj _ e=>e.elim (λe=>.inr (.inl e)) (λe=>.inl (.inr (QT.o j e)))) (λj m e=>e.elim (λe=>bf.o j e m) (λe=>by have:=(NC.o j m).1;have:=QL.o;omega))
    exact k2.vary (λj _ e=>e.imp_right .inr))
   have ay:=@J (∀j,(Value.slice u (n+1) A).ownBlock=some j→(Value.slice F n G).ownBlock=some j→False) (λj h1 h2=>(A5.o j h1).elim (λh=>bf.o j h h2) (λh=>by have:=(NC.o j h2).2;have:=FX.o.size;omega))
   have KS:=@J (∀w',Fr No an w'→w'.cell? ⟨o,3,none⟩=some (.slice S n W)∧w'.rangeAt q8 0 (zl (idH t))) (λw' f=>⟨f.cell aQ.o _root_.id,zb aB.o f _root_.id⟩)
   clear a1 a2 a3 a5 fs
   repeat((first|(refine ym rfl ?_;constructor;constructor;(focus(first|exact zi0 rfl (λw h=>h.2) HL.o|(rintro w' ⟨s1,s2⟩;exact goS))))|(refine yn rfl ?_));try simp only[Act.put,pA,pB,pC])
   (refine yf rfl (λK' hK'=>?_))
   refine yg (zL (t:=52) rfl rfl jS Va rfl (by decide) (by decide) HL.o) ?_
   refine hK'.out _ _ (λ_=>?_) (λhS=>?_)
   ·exact KS.o _ ((frN an).alloc _)
   try simp only[Act.put,pA,pB,pC]
   (refine yf rfl (λK' hK'=>?_))
   refine zQ rfl rfl rfl A1.o ?_
   refine hK'.out _ _ (λ_=>?_) (λhS=>?_)
   ·exact⟨C5.o,di.o⟩
   try simp only[Act.put,pA,pB,pC]
   repeat((first|(refine ym rfl ?_;constructor;constructor;(focus(first|(rintro w' ⟨s1,s2⟩;exact goS))))|(refine yn rfl ?_));try simp only[Act.put,pA,pB,pC])
   (refine yf rfl (λK' hK'=>?_))
   go_simp
   refine hK'.out _ _ (λh=>absurd rfl h) (λhS=>?_)
   refine qp (hK.out _ _ ?_)
   clear fz
   generalize B.setCell ⟨o,3,none⟩ (.slice u (n+1) A)=bE at*
   go_wp2_with fail
   have ae:=J (frN bE).drew
   have ar:=J (ae.o.obj bG.o _root_.id)
   have aR:=@J (bE.drew.cell? ⟨o,4,none⟩=some (.slice F n G)) (by have:=zm ar.o 4 _ rfl;simpa using this)
   have aj:=J (zb bu.o ae.o _root_.id)
   have cb:=J (ca.o.fr0 ae.o)
   have cf:=J (zf dc.o ae.o (λ_ _=>_root_.id))
   refine yD [ff,ff,ff,ff,ff,ff,tt,tt,ff,ff,tt] (λw'=>w'.cell? ⟨o,4,none⟩=some (.slice F n G)∧w'.rangeAt al 0 [.slice sa sn sc,.slice ma mn mc]) (by kernel_rfl) (by kernel_rfl) 10 (by kernel_rfl) (by kernel_rfl) ?_ (λK hK=>?_)
   ·exact⟨aR.o,aj.o⟩
   generalize bE.drew=aF at*
   have bj:=J (bR.o.trans0 ae.o)
   have bT:=@J (Fr (λj=>j<z8.heap.size) wE aF) (((FZ.o.of0.trans FG.o (λj _ e=>by rw[e];have:=MI.o;have:=W8.o;have:=Q8.o;omega)).trans0 ab.o).trans bj.o (λj _ e=>by
    have:=Q8.o
    rcases e with e|e
    ·have:=(NI.o j e).2;omega
    ·rw[e];have:=QL.o;have:=W8.o;omega))
   have KC:=@J (Kept (λj=>((chV p U N bv j∨T j)∨(Value.slice u (n+1) A).ownBlock=some j)∨(Value.slice F n G).ownBlock=some j) aF (λw=>zaz w (spG st.S t) [.slice sa sn sc,.slice ma mn mc])) (cY.o.step bT.o (λj m e=>by
    have:=Q8.o
    have:=W8.o
    rcases e with((e|e)|e)|e
    ·have:=R.o j e;omega
    ·have:=TL.o j e;omega
    ·have:=(NI.o j (NV.o j (by have:=dj.o.2;omega) e)).2;omega
    ·have:=(NC.o j e).2;omega))
   have dk:=@J (w.heap.size≤aF.heap.size) (by have:=aV.o;have:=bj.o.size;omega)
   obtain⟨v6,w6,b1,b2,b3,b5⟩:=cb.o.append (P:=prog) (t:=92) (ty2:=92) (bytes:=48) YA Q0 rfl (by decide) KC.o rfl (zbJ rfl rfl) (by rw[C.o.cl];omega) (by rw[C.o.cl];unfold maxLen;omega) dk.o
   obtain⟨H,I,ak⟩:=b2.form
   rw[List.length_append,C.o.cl] at ak
   simp only[List.length_singleton] at ak
   subst ak
   have B1:=J b1
   have B5:=J b5
   have K6:=J b2
   have ag:=J (b3.obj ar.o (λe=>by have:=(NC.o _ e).1;have:=QL.o;omega))
   have C6:=@J (w6.cell? ⟨o,4,none⟩=some (.slice F n G)) (by have:=zm ag.o 4 _ rfl;simpa using this)
   have cj:=J (zb aj.o b3 (λe=>by have h1:al<wr.heap.size:=(NC.o _ e).2;have:=aL.o.1;have:=Q8.o;omega))
   have fz:=zW (i:=4) ag.o
   have fs:Fr (λj=>j=o) w6 (w6.setCell ⟨o,4,none⟩ (.slice H (n+1) I)):=(Fr.refl (λj=>j=o) w6).setCell ⟨o,4,none⟩ (.inr rfl) _
   have bq:=J (zf (zf cf.o b3 (λj m e=>ay.o j m e)) fs (λj m e=>by have:=(O5.o.lt j m).1;have:=QL.o;omega))
   have au:=@J ((w6.setCell ⟨o,4,none⟩ (.slice H (n+1) I)).heap[o]? =some (.cells #[.int .u64 b.tag,.slice pa b.pay.length pc,.slice (some ⟨bb,off,none⟩) b.txs.length tc,.slice u (n+1) A,.slice H (n+1) I] 94 (0,0))) (by have:=heap_setCell_same w6 o 4 _ _ (.slice H (n+1) I) ag.o;simpa using this)
   have bn:=J (K6.o.fr fs (λj _ e=>.inl (.inr (QT.o j e))) (λj m e=>by have:=(K6.o.lt j m).1;have:=QL.o;omega))
   have bg:=@J (∀j,(Value.slice u (n+1) A).ownBlock=some j→(Value.slice H (n+1) I).ownBlock=some j→False) (λj h1 h2=>(B5.o j h2).elim (λh=>ay.o j h1 h) (λh=>by have:=(cf.o.lt j h1).2;omega))
   have az:=@J (Fr (λj=>(Value.slice S n W).ownBlock=some j∨(Value.slice F n G).ownBlock=some j∨j=o) an (w6.setCell ⟨o,4,none⟩ (.slice H (n+1) I))) (((bj.o.mono (λj e=>e.elim .inl (λe=>.inr (.inr e)))).trans b3 (λj _ e=>.inr (.inl e))).trans fs (λj _ e=>.inr (.inr e)))
   have aa:=@J (Fr (λj=>chV p U N bv j∨j=o) w (w6.setCell ⟨o,4,none⟩ (.slice H (n+1) I))) ((FR.o.trans FX.o (λj _ e=>.inl (XW.o j e).2)).trans az.o (λj m e=>by
    rcases e with e|e|e
    ·have:=(NI.o j e).1;omega
    ·have:=(NC.o j e).1;omega
    ·exact .inr e))
   have ax:=J (bM.o.frV az.o (λj m e=>by
    have:=R.o j m
    rcases e with e|e|e
    ·have:=(NI.o j e).1;omega
    ·have:=(NC.o j e).1;omega
    ·exact NQ.o (e▸m)) (λj e=>by
    have:=bV.o.size
    rcases e with e|e|e
    ·have:=(NI.o j e).1;omega
    ·have:=(NC.o j e).1;omega
    ·rw[e];exact LQ.o) (λi d cs h1 h2 w' f=>HK.o i d cs h1 h2 w' (aa.o.trans (f.mono (λj m=>.inl m)) (λ_ _ h=>h))))
   have bo:=@J (∀w',Fr No aF w'→w'.cell? ⟨o,4,none⟩=some (.slice F n G)∧w'.rangeAt al 0 [.slice sa sn sc,.slice ma mn mc]) (λw' f=>⟨f.cell aR.o _root_.id,zb aj.o f _root_.id⟩)
   clear b1 b2 b3 b5 fs
   repeat((first|(refine ym rfl ?_;constructor;constructor;(focus(first|exact yY (ty:=117) rfl (λw h=>h.2) uG rG qK|(rintro w' ⟨s1,s2⟩;exact goS))))|(refine yn rfl ?_));try simp only[Act.put,pA,pB,pC])
   (refine yf rfl (λK' hK'=>?_))
   refine yg (zL (t:=92) rfl rfl YA XB rfl (by decide) (by decide) rfl) ?_
   refine hK'.out _ _ (λ_=>?_) (λhS=>?_)
   ·exact bo.o _ ((frN aF).alloc _)
   try simp only[Act.put,pA,pB,pC]
   (refine yf rfl (λK' hK'=>?_))
   refine zQ rfl rfl rfl B1.o ?_
   refine hK'.out _ _ (λ_=>?_) (λhS=>?_)
   ·exact⟨C6.o,cj.o⟩
   try simp only[Act.put,pA,pB,pC]
   repeat((first|(refine ym rfl ?_;constructor;constructor;(focus(first|(rintro w' ⟨s1,s2⟩;exact goS))))|(refine yn rfl ?_));try simp only[Act.put,pA,pB,pC])
   (refine yf rfl (λK' hK'=>?_))
   go_simp
   refine hK'.out _ _ (λh=>absurd rfl h) (λhS=>?_)
   refine qp (hK.out _ _ ?_)
   clear fz
   generalize w6.setCell ⟨o,4,none⟩ (.slice H (n+1) I)=dC at*
   go_wp2_with fail
   go_roundw
   case rel=>exact⟨n+1,by go_num,by omega,txS st t,M',.slice u (n+1) A,.slice H (n+1) I,_,by rw[bw.o,bP.o,XM cn.o],C.o.step (bW.o.1 t (mem_of_getElem? HX.o)).2 cn.o,dn.o,c9.o,ax.o,au.o,bq.o,bn.o,bg.o,aa.o⟩
   case measure=>simp[intOf];omega
  ·have bz:n=b.txs.length:=by omega
   subst bz
   clear aq hn
   have i1:¬(b.txs.length:Int)<(b.txs.length:Int):=by omega
   have RF:=@J (runT KI b.txs (st0 D.S)=(0,st)) (by rw[bw.o,List.drop_length];rfl)
   have UV:=@J (∀j,U j→j<w.heap.size) (λj m=>R.o j (.inr (.inl m)))
   have RB:=@J (wr.rangeAt o 0 [.int .u64 b.tag,.slice pa b.pay.length pc,.slice ta b.txs.length tc]) (λj v m=>by
    refine zm BQ.o j v ?_
    match j,m with
    |0,m=>exact m
    |1,m=>exact m
    |2,m=>exact m)
   have GE:=J (Jr c0.o)
   have ID:=J (JU GW.o (HB.o wr (FR.o.mono (λj e=>e.imp_right (QT.o j)))))
   rw[GE.o.1] at ID
   have HH:=J (Jg b)
   have bX:=J (yr HH.o)
   have aJ:=J (jD b)
   have aK:=@J (∀c∈yZ b,c.ok) (Jh HH.o bW.o.2 (by omega))
   have df:=@J (((yZ b).map (·.at_)).Nodup) (vm _ _)
   have PE:=@J (yZ b=xP (xH b) b.pay) (rfl)
   have dm:=@J (st.S.length≤90000) (by have:=C.o.len;have:=aI.o.1;omega)
   have aT:=@J (xQ st.S (yZ b)≠0→∀w',qy w0 w' p s U N bv css ⟨st.S,D.bs,M⟩→Fr U wr w'→DoP w0 w p s N U bv css D o T b (doR KI D.S b) (.returned (.int .i64 10)) w') (λhE w' hc f=>by
    rw[zdp RF.o,if_neg hE]
    refine⟨M,Y.o,rfl,hc,FR.o.trans f (λj _ e=>.inl (.inr (.inl e))),rfl,_,f.obj BQ.o (λe=>NQ.o (.inr (.inl e))),?_⟩
    exact Xv (bcs:=[_,_,_]) (HB.o.same ((FR.o.trans f (λj _ e=>.inl (.inr (.inl e)))).mono (λj e=>e.imp_right (QT.o j)))) (by rw[C.o.il];exact zf OI.o f (λj m e=>by have:=(NI.o j m).1;have:=UV.o j e;omega)) C.o.iok (KR.o.fr f (λj _ e=>.inl (.inl (.inr (.inl e)))) (λj m e=>by have:=(NC.o j m).1;have:=UV.o j e;omega)) (λj e=>.inl e) (λj e=>e.elim (λe=>R.o j e) (λe=>TL.o j e)) (by rw[C.o.cl];omega))
   have⟨K0,K1,K2⟩:=tZ3
   go_wp2_with ((first|((with_reducible refine zt ?_);clear K0;refine ziS rfl rfl rfl RB.o rfl ?_)|(clear K1;go_at_call 8;refine ID.o.mono ?_;rintro e w2 ⟨rfl,f2⟩;have F2:=J f2;clear f2)|((with_reducible refine zr ?_);clear K2;refine zi3 (w:=w2) (cs:=zl (xH b)) rfl rfl rfl rfl bX.o zX ?_;have F3:=J (F2.o.trans0 ((frN w2).alloc (.cells (zl (xH b)).toArray 40)));have B3:=J (zS w2 (.cells (zl (xH b)).toArray 40));generalize w2.alloc (.cells (zl (xH b)).toArray 40)=w3 at*;generalize dz:w2.heap.size=q3 at*));go_frame)
   have FD:=J (F3.o.trans0 (frN w3).drew)
   have bK:=J (FD.o.obj BQ.o _root_.id)
   have cM:=J (vE (zm bK.o)).2.1
   have ck:=J (zb (zm B3.o) (frN w3).drew _root_.id)
   have cZ:=@J (xA w3.drew (.slice pa b.pay.length pc) b.pay) (b8.o _ ((FR.o.trans0 FD.o).mono (λj e=>e.imp_right (QT.o j))))
   refine wrLx [ff,ff,ff,ff,ff,ff,tt,ff] (λw'=>w'.cell? ⟨o,1,none⟩=some (.slice pa b.pay.length pc)∧w'.rangeAt q3 0 (zl (xH b))) ?_ (λK hK=>?_)
   ·exact⟨cM.o,ck.o⟩
   generalize w3.drew=w4 at*
   repeat((first|(refine zn rfl ?_;constructor;constructor;(focus(first|exact zi0 rfl (λw h=>h.2) bX.o|(rintro w' ⟨s1,s2⟩;exact goS))))|(refine zq rfl ?_));try simp only[Act.put,pA,pB,pC])
   (refine zN rfl (λK' hK'=>?_))
   go_simp
   refine(ZB w4 HH.o cZ.o (by omega)).mono ?_
   rintro e w5 ⟨pv,rfl,o5,f5⟩
   rw[←PE.o] at o5
   have F5:=J (FD.o.trans0 f5)
   have av:=J (f5.obj bK.o _root_.id)
   have O5:=J o5
   have cK:=J (zb ck.o f5 _root_.id)
   obtain⟨va,vc,dw⟩:=o5.slice.arg.form
   subst dw
   clear o5 f5
   refine nXt hK' ?_ λhS=>?_
   ·exact⟨(vE (zm av.o)).2.1,cK.o⟩
   try simp only[Act.put,pA,pB,pC]
   repeat((first|(refine zn rfl ?_;constructor;constructor;(focus(first|(rintro w' ⟨s1,s2⟩;exact goS))))|(refine zq rfl ?_));try simp only[Act.put,pA,pB,pC])
   refine zZ (hK.out _ _ ?_)
   have aG:=J (CH.o.fr0 F5.o)
   have P5:=aG.o.cells.1
   have CI:=@J (xz w5 (.slice va b.pay.length vc) (yZ b)) (⟨aK.o,by rw[aJ.o];exact O5.o.slice.arg⟩)
   have ao:=J (zbW aG.o.set CI.o (by rw[aJ.o];have:=dm.o;show _+st.S.length≤_;omega))
   by_cases hE:xQ st.S (yZ b)=0
   rotate_left
   ·have bQ:=@J (xQ st.S (yZ b)=10) (by
     unfold xQ at hE⊢
     rw[if_pos df.o] at hE⊢
     split<;>simp_all)
    have dg:=@J (qQ st.S (yZ b)=st.S) (by unfold qQ;rw[if_neg hE])
    have ah:=J (aT.o hE)
    have ai:=@J (Calls prog 50 #[.pointer (some ⟨s,0,none⟩),.slice va b.pay.length vc] w5 λe w'=>e=.returned (.int .i64 10)∧CS w0 w' s U st.S∧Fr U w5 w') (by have:=ao.o;rw[show xQ (ChD.mk st.S D.bs M).S (yZ b)=10 from bQ.o,show qQ (ChD.mk st.S D.bs M).S (yZ b)=st.S from dg.o] at this;exact this)
    clear hE ao bQ
    go_wp2_with (go_at_call 50;refine ai.o.mono ?_;rintro e w6 ⟨rfl,aC,f6⟩;have bd:=J (aG.o.setS aC f6);have F6:=J (F5.o.of0.trans f6 (λ_ _ e=>e));clear aC f6)
    go_ret
    exact ah.o _ bd.o F6.o
   ·have cX:=J hE
    have ai:=@J (Calls prog 50 #[.pointer (some ⟨s,0,none⟩),.slice va b.pay.length vc] w5 λe w'=>e=.returned (.int .i64 0)∧CS w0 w' s U (qP st.S (yZ b))∧Fr U w5 w') (by have:=ao.o;rw[show xQ (ChD.mk st.S D.bs M).S (yZ b)=0 from hE,show qQ (ChD.mk st.S D.bs M).S (yZ b)=qP st.S (yZ b) from by unfold qQ;rw[if_pos (show xQ (ChD.mk st.S D.bs M).S (yZ b)=0 from hE)]] at this;exact this)
    clear hE ao aT
    have H4:=@J (w.heap.size≤wr.heap.size∧wr.heap.size≤w4.heap.size) (⟨FR.o.size,FD.o.size⟩)
    go_wp2_with (first|(go_at_call 50;refine ai.o.mono ?_;rintro e w6 ⟨rfl,aC,f6⟩;have bd:=J (aG.o.setS aC f6);have F6:=J (F5.o.of0.trans f6 (λ_ _ e=>e));have O6:=J (zf O5.o f6 (λj m hu=>by have:=(O5.o.lt j m).1;have:=UV.o j hu;have:=H4.o;omega));have L6:=J (Nat.le_trans F5.o.size f6.size);clear aC f6))
    have FA:=J ((frN w6).alloc (.cells #[.slice none 0 0,.slice none 0 0] 117))
    have BA:=J (zS w6 (.cells #[.slice none 0 0,.slice none 0 0] 117))
    have QA:=@J ((w6.alloc (.cells #[.slice none 0 0,.slice none 0 0] 117)).heap.size=w6.heap.size+1) (by simp)
    generalize w6.alloc (.cells #[.slice none 0 0,.slice none 0 0] 117)=w7 at*
    generalize cG:w6.heap.size=q at*
    have cV:=J (F6.o.trans0 FA.o)
    have O7:=J (zf O6.o FA.o (λ_ _=>_root_.id))
    have OL:=@J (∀j,(Value.slice va b.pay.length vc).ownBlock=some j→j<q) (λj m=>by rw[←cG];exact(O6.o.lt j m).2)
    go_loopw [112] (λiv wq=>∃(n:Nat) (mv:Value),iv=.int .i64 n∧n≤b.pay.length∧wq.heap[q]? =some (.cells #[.slice none 0 0,mv] 117 (0,0))∧wq.ownsRow w7.heap.size 72 33 mv n ((((yZ b).map (·.at_)).take n).flatMap zi)∧Fr (λj=>j=q) w7 wq) (λiv _=>b.pay.length-(intOf iv).toNat)
    case atStart=>exact⟨0,.slice none 0 0,rfl,zero_le _,BA.o,World.ownsRow_nil _ _ _ 33,Fr.refl _ _⟩
    case round=>
     obtain⟨n,mv,rfl,hn,aE,bA,fr⟩:=hrel
     rename World=>wq
     have FQ:=J fr
     have bJ:=J aE
     have OR:=J bA
     obtain⟨ma,mc,dv⟩:=bA.slice.arg.form
     subst dv
     clear fr aE bA
     by_cases aq:n<b.pay.length
     ·have i1:(n:Int)<(b.pay.length:Int):=by omega
      obtain⟨c,Z⟩:∃x,(yZ b)[n]? =some x:=⟨_,List.getElem?_eq_getElem (by rw[aJ.o];exact aq)⟩
      have bN:=J (aK.o c (mem_of_getElem? Z))
      have CL:=J (yv bN.o)
      have PL:=J (zF bN.o.1)
      obtain⟨g,dr,hv,hr,-⟩:=J6 (f:=zw) (k:=66) (L:=yZ b) (by decide) (λx Z=>yv (aK.o x Z)) (show wq.ownsRow w4.heap.size 103 66 (.slice va b.pay.length vc) b.pay.length ((yZ b).flatMap zw) from zf O7.o FQ.o (λj m e=>by have:=OL.o j m;omega)) Z
      cases hv
      have R1:=J hr
      have FB:=J ((frN wq).alloc (.cells (zw c).toArray 103))
      have RP:=J (ju (zK wq (zw c) 103))
      have c4:=@J (((yZ b).map (·.at_))[n]? =some c.at_) (by simp[Z])
      have bI:=J (FB.o.obj bJ.o _root_.id)
      obtain⟨v5,B,a1,a2,a3,a4,a5⟩:=yw (P:=prog) (wq.alloc (.cells (zw c).toArray 103)) w7.heap.size 115 115 72 33 36 _ qH jP (by show(zi vn).toArray.size=33;rfl) (by decide) (zf OR.o FB.o (λ_ _=>_root_.id)) (zi c.at_) PL.o yB (by omega) (by unfold maxLen;omega) (Nat.le_trans FQ.o.size FB.o.size)
      have A1:=J a1
      have br:=@J (B.ownsRow w7.heap.size 72 33 v5 (n+1) ((((yZ b).map (·.at_)).take (n+1)).flatMap zi)) (by rw[ZH zi c4.o];exact a2)
      have da:=@J (∀j,(Value.slice ma n mc).ownBlock=some j→j≠q) (λj m e=>by have:=(OR.o.lt j m).1;have:=QA.o;omega)
      have aw:=J (a3.obj bI.o (λe=>da.o _ e rfl))
      have cS:=@J (Fr (λj=>j=q) w7 B) ((FQ.o.trans0 FB.o).trans a3 (λj m e=>by have:=(OR.o.lt j e).1;omega))
      have db:=@J (∀j,v5.ownBlock=some j→j≠q) (λj m e=>by have:=(br.o.lt j m).1;have:=QA.o;omega)
      have cA:(wq.alloc (.cells (zw c).toArray 103)).cell? ⟨q,1,none⟩=some (.slice ma n mc):=by have:=zm bI.o 1 _ rfl;simpa using this
      have cB:B.cell? ⟨q,1,none⟩=some (.slice ma n mc):=by have:=zm aw.o 1 _ rfl;simpa using this
      have fB:=zW (i:=1) aw.o
      clear hr a1 a2 a3 a4 a5
      obtain⟨u,A,bD⟩:=br.o.slice.arg.form
      subst bD
      have c6:=J (heap_setCell_same B q 1 _ _ (.slice u (n+1) A) aw.o)
      have cU:=@J (Fr (λj=>j=q) w7 (B.setCell ⟨q,1,none⟩ (.slice u (n+1) A))) (cS.o.setCell _ (.inr rfl) _)
      have de:=J (zf br.o (show Fr (λj=>j=q) B (B.setCell ⟨q,1,none⟩ (.slice u (n+1) A)) from(Fr.refl (λj=>j=q) B).setCell ⟨q,1,none⟩ (.inr rfl) _) (λj m e=>db.o j m e))
      have⟨K0,K1,K2,K3,K4⟩:=tZ5
      go_wp2_with ((first|((with_reducible refine zt ?_);first|(clear K0;refine ziY rfl rfl rfl R1.o CL.o ?_)|(clear K2;refine ziX rfl rfl rfl RP.o PL.o ?_)|(clear K3;refine zg rfl (zL (t:=115) rfl rfl qH j6 rfl (by decide) (by decide) PL.o) ?_)|(clear K4;at_builtin;refine zk rfl rfl rfl rfl A1.o ?_))|((with_reducible refine zr ?_);clear K1;refine ze rfl (zj (w:=wq) (ty:=103) (cs:=zw c) rfl rfl rfl (by rw[CL.o];rfl) (by rw[CL.o];exact xI) yz) ?_;generalize wq.alloc (.cells (zw c).toArray 103)=wA at*));go_frame)
      go_roundw
      case rel=>exact⟨n+1,_,by go_num,by omega,c6.o,de.o,cU.o⟩
      case measure=>simp[intOf];omega
     ·have bz:n=b.pay.length:=by omega
      subst bz
      clear aq hn i1
      have i1:¬(b.pay.length:Int)<(b.pay.length:Int):=by omega
      have bZ:=@J (((yZ b).map (·.at_)).length=b.pay.length) (by rw[List.length_map,aJ.o])
      have c3:=@J (∀x∈(yZ b).map (·.at_),x.ok) (λx Z=>by
       obtain⟨y,hy,rfl⟩:=List.mem_map.1 Z
       exact(aK.o y hy).1)
      have b4:=@J (wq.ownsRow w7.heap.size 72 33 (.slice ma b.pay.length mc) b.pay.length (((yZ b).map (·.at_)).flatMap zi)) (by
       have:=OR.o
       rw[List.take_of_length_le (by rw[bZ.o];exact Nat.le_refl _)] at this
       exact this)
      have QW:=@J (wr.heap.size≤q) (L6.o)
      have aA:=@J (Fr U wr wq.drew) ((cV.o.trans FQ.o (λj m e=>by have:=QW.o;omega)).trans0 (frN wq).drew)
      have NU:=@J (∀j,w.heap.size≤j→¬U j) (λj m e=>by have:=UV.o j e;omega)
      have cT:=@J (Fr No w6 wq.drew) ((FA.o.trans FQ.o (λj m e=>by omega)).trans0 (frN wq).drew)
      have cO:=J (bd.o.fr0 cT.o)
      have bH:=J (aA.o.obj BQ.o (λe=>NQ.o (.inr (.inl e))))
      have cJ:=J ((frN wq).drew.obj bJ.o _root_.id)
      have c5:=J (zf b4.o (frN wq).drew (λ_ _=>_root_.id))
      have GR:=@J (wq.drew.rangeAt q 0 [.slice none 0 0,.slice ma b.pay.length mc]) (by have:=zm cJ.o;simpa using this)
      have dd:=J (zf OI.o aA.o (λj m e=>NU.o j (NI.o j m).1 e))
      have c8:=J (KR.o.fr aA.o (λj _ e=>.inl (.inl (.inr (.inl e)))) (λj m e=>NU.o j (NC.o j m).1 e))
      have bL:=@J (wq.drew.cell? ⟨o,4,none⟩=some (.slice F b.txs.length G)) (by have:=zm bH.o 4 _ rfl;simpa using this)
      go_wp2_with fail
      refine yD [ff,ff,ff,ff,ff,ff,tt,tt,ff,ff,tt] (λw'=>w'.cell? ⟨o,4,none⟩=some (.slice F b.txs.length G)∧w'.rangeAt q 0 [.slice none 0 0,.slice ma b.pay.length mc]) (by kernel_rfl) (by kernel_rfl) 10 (by kernel_rfl) (by kernel_rfl) ?_ (λK hK=>?_)
      ·exact⟨bL.o,GR.o⟩
      generalize wq.drew=z at*
      have KC:=J (zee (n:=b.pay.length) (l:=(yZ b).map (·.at_)) (V:=λj=>((chV p U N bv j∨T j)∨(Value.slice S b.txs.length W).ownBlock=some j)∨(Value.slice F b.txs.length G).ownBlock=some j) c5.o bZ.o c3.o (λj m hv=>by
       have h1:=(b4.o.lt j m).1
       have:=QA.o
       have:=QW.o
       have:=H4.o
       rcases hv with((e|e)|e)|e
       ·have:=R.o j e;omega
       ·have:=TL.o j e;omega
       ·have:=(NI.o j e).2;omega
       ·have:=(NC.o j e).2;omega))
      obtain⟨v6,af,b1,b2,b3,b5⟩:=c8.o.append (P:=prog) (t:=92) (ty2:=92) (bytes:=48) YA Q0 rfl (by decide) KC.o rfl (zbJ rfl rfl) (by rw[C.o.cl];omega) (by rw[C.o.cl];unfold maxLen;omega) (by have:=aA.o.size;have:=H4.o;omega)
      obtain⟨H,I,ak⟩:=b2.form
      rw[List.length_append,C.o.cl] at ak
      simp only[List.length_singleton] at ak
      subst ak
      have B1:=J b1
      have K6:=J b2
      have ag:=J (b3.obj bH.o (λe=>by have:=(NC.o _ e).1;have:=QL.o;omega))
      have C6:=@J (af.cell? ⟨o,4,none⟩=some (.slice F b.txs.length G)) (by have:=zm ag.o 4 _ rfl;simpa using this)
      have cW:=J (zb GR.o b3 (λe=>by have h1:q<wr.heap.size:=(NC.o _ e).2;have:=QW.o;omega))
      have fz:=zW (i:=4) ag.o
      have fs:Fr (λj=>j=o) af (af.setCell ⟨o,4,none⟩ (.slice H (b.txs.length+1) I)):=(Fr.refl (λj=>j=o) af).setCell ⟨o,4,none⟩ (.inr rfl) _
      have bq:=J (zf (zf dd.o b3 (λj m e=>bf.o j m e)) fs (λj m e=>by have:=(NI.o j m).1;have:=QL.o;omega))
      have au:=@J ((af.setCell ⟨o,4,none⟩ (.slice H (b.txs.length+1) I)).heap[o]? =some (.cells #[.int .u64 b.tag,.slice pa b.pay.length pc,.slice ta b.txs.length tc,.slice S b.txs.length W,.slice H (b.txs.length+1) I] 94 (0,0))) (by have:=heap_setCell_same af o 4 _ _ (.slice H (b.txs.length+1) I) ag.o;simpa using this)
      have bn:=J (K6.o.fr fs (λj _ e=>.inl (.inr (QT.o j e))) (λj m e=>by have:=(K6.o.lt j m).1;have:=QL.o;omega))
      have aS:=@J (Fr (λj=>(Value.slice F b.txs.length G).ownBlock=some j∨j=o) z (af.setCell ⟨o,4,none⟩ (.slice H (b.txs.length+1) I))) ((b3.mono (λj e=>.inl e)).trans fs (λj _ e=>.inr e))
      have aa:=@J (Fr (λj=>chV p U N bv j∨j=o) w (af.setCell ⟨o,4,none⟩ (.slice H (b.txs.length+1) I))) ((FR.o.trans aA.o (λj _ e=>.inl (.inr (.inl e)))).trans aS.o (λj m e=>by
       rcases e with e|e
       ·have:=(NC.o j e).1;omega
       ·exact .inr e))
      have ax:=J (cO.o.frV aS.o (λj m e=>by
       have:=R.o j m
       rcases e with e|e
       ·have:=(NC.o j e).1;omega
       ·exact NQ.o (e▸m)) (λj e=>by
       have:=bV.o.size
       rcases e with e|e
       ·have:=(NC.o j e).1;omega
       ·rw[e];exact LQ.o) (λi d cs h1 h2 w' f=>HK.o i d cs h1 h2 w' (aa.o.trans (f.mono (λj m=>.inl m)) (λ_ _ h=>h))))
      have bo:=@J (∀w',Fr No z w'→w'.cell? ⟨o,4,none⟩=some (.slice F b.txs.length G)∧w'.rangeAt q 0 [.slice none 0 0,.slice ma b.pay.length mc]) (λw' f=>⟨f.cell bL.o _root_.id,zb GR.o f _root_.id⟩)
      clear b1 b2 b3 b5 fs
      repeat((first|(refine ym rfl ?_;constructor;constructor;(focus(first|exact yY (ty:=117) rfl (λw h=>h.2) uG rG qK|(rintro w' ⟨s1,s2⟩;exact goS))))|(refine yn rfl ?_));try simp only[Act.put,pA,pB,pC])
      (refine yf rfl (λK' hK'=>?_))
      refine yg (zL (t:=92) rfl rfl YA XB rfl (by decide) (by decide) rfl) ?_
      refine hK'.out _ _ (λ_=>?_) (λhS=>?_)
      ·exact bo.o _ ((frN z).alloc _)
      try simp only[Act.put,pA,pB,pC]
      (refine yf rfl (λK' hK'=>?_))
      refine zQ rfl rfl rfl B1.o ?_
      refine hK'.out _ _ (λ_=>?_) (λhS=>?_)
      ·exact⟨C6.o,cW.o⟩
      try simp only[Act.put,pA,pB,pC]
      repeat((first|(refine ym rfl ?_;constructor;constructor;(focus(first|(rintro w' ⟨s1,s2⟩;exact goS))))|(refine yn rfl ?_));try simp only[Act.put,pA,pB,pC])
      (refine yf rfl (λK' hK'=>?_))
      go_simp
      refine hK'.out _ _ (λh=>absurd rfl h) (λhS=>?_)
      refine qp (hK.out _ _ ?_)
      clear fz
      go_wp2_with fail
      go_ret
      rw[zdp RF.o,if_pos cX.o]
      refine⟨M,Y.o,rfl,ax.o,aa.o,rfl,_,au.o,?_⟩
      exact Xv (bcs:=[_,_,_]) (HB.o.same (aa.o.mono (λj e=>e.imp_right (QT.o j)))) (by rw[C.o.il];exact bq.o) C.o.iok bn.o (λj e=>.inl e) (λj e=>e.elim (λe=>R.o j e) (λe=>TL.o j e)) (by rw[List.length_append,C.o.cl];simp;omega)
def jB (t:TxD):Bool:=decide (30<t.ins.length)||(decide (30<t.outs.length)||t.ins.any λx=>decide (100<x.key.length))
def vM (b:y7):Bool:=decide (30<b.pay.length)||(decide (30<b.txs.length)||b.txs.any jB)
theorem zcI {b:y7} (h:vM b=false):b.pay.length≤30∧b.txs.length≤30∧∀t∈b.txs,t.ins.length≤30∧t.outs.length≤30∧∀x∈t.ins,x.key.length≤100:=by
 unfold vM at h
 simp only[Bool.or_eq_false_iff,decide_eq_false_iff_not,List.any_eq_false] at h
 refine⟨by omega,by omega,λt a=>?_⟩
 have:=h.2.2 t a
 simp only[jB,Bool.or_eq_true,decide_eq_true_eq,any_eq_true,not_or,not_exists,not_and] at this
 exact⟨by omega,by omega,λx c=>by have:=this.2.2 x c;omega⟩
def JF (w:World) (b:y7) (e:Ending) (w':World):Prop:=e=.returned (.bool (vM b))∧Fr No w w'
theorem zd7 (w:World) {b:y7} {cs:List Value} (hb:xT w b cs):
  Calls prog 22 #[.agg cs.toArray] w (JF w b):=by
 obtain⟨O,P,Q,R,rfl,-,ho,c⟩:=hb
 have zI:=vX
 have zT:=Xq
 have z:=J ((frN w).alloc (.cells #[.int .u64 b.tag,.slice O b.pay.length P,.slice Q b.txs.length R] 36))
 have HX:=J (c.keep0 z.o)
 obtain⟨-,c1,c2,-⟩:=qC w (.int .u64 b.tag) (.slice O b.pay.length P) (.slice Q b.txs.length R) 36
 clear ho c
 show Calls prog 22 #[.agg #[.int .u64 b.tag,.slice O b.pay.length P,.slice Q b.txs.length R]] w _
 by_cases N:30<b.pay.length
 ·have I:decide ((30:Int)<(b.pay.length:Int))=true:=by simp;omega
  have g:=@J (∀w',Fr No w w'→JF w b (.returned (.bool true)) w') (λw' f=>⟨by simp[vM,N],f⟩)
  clear N
  go_enter Tryz.func22,Tryz.ntmps22
  go_wp2
  go_ret
  exact g.o _ z.o
 have I:decide ((30:Int)<(b.pay.length:Int))=false:=by simp;omega
 by_cases h2:30<b.txs.length
 ·have K:decide ((30:Int)<(b.txs.length:Int))=true:=by simp;omega
  have g:=@J (∀w',Fr No w w'→JF w b (.returned (.bool true)) w') (λw' f=>⟨by simp[vM,h2],f⟩)
  clear N h2
  go_enter Tryz.func22,Tryz.ntmps22
  go_wp2
  go_ret
  exact g.o _ z.o
 have K:decide ((30:Int)<(b.txs.length:Int))=false:=by simp;omega
 have HT:=@J (∀t∈b.txs,jB t=true→∀w',Fr No w w'→JF w b (.returned (.bool true)) w') (λt ht k w' f=>⟨by
  have:b.txs.any jB=true:=any_eq_true.2 ⟨t,ht,k⟩
  simp[vM,this],f⟩)
 have HF:=@J ((∀t∈b.txs,jB t=false)→∀w',Fr No w w'→JF w b (.returned (.bool false)) w') (λk w' f=>⟨by
  have:b.txs.any jB=false:=List.any_eq_false.2 (λt ht=>by rw[k t ht];decide)
  simp only[vM,this]
  simp
  omega,f⟩)
 have ak:b.txs.length≤30:=by omega
 clear N h2
 go_enter Tryz.func22,Tryz.ntmps22
 go_wp2
 generalize w.alloc (.cells #[.int .u64 b.tag,.slice O b.pay.length P,.slice Q b.txs.length R] 36)=w1 at*
 clear c1 c2 I K
 go_loopw [20] (λp wr=>∃n:Nat,p=.int .i64 n∧n≤b.txs.length∧(∀t∈b.txs.take n,jB t=false)∧Fr No w1 wr) (λp _=>b.txs.length-(intOf p).toNat)
 case atStart=>exact⟨0,rfl,zero_le _,by simp,Fr.refl _ _⟩
 case round=>
  obtain⟨n,rfl,hn,E,fr⟩:=hrel
  have L:=J fr
  have HK:=J E
  clear fr E
  by_cases F:n<b.txs.length
  ·have i1:(n:Int)<(b.txs.length:Int):=by omega
   obtain⟨t,c⟩:∃x,b.txs[n]? =some x:=⟨_,List.getElem?_eq_getElem F⟩
   obtain⟨bb,off,ai,cs,hv,hr,hq⟩:=(HX.o.keep0 L.o).at_ c
   cases hv
   have Z:=J hr
   obtain⟨d,i,e,j,rfl,-,hI,-⟩:=hq
   have T:=J ((frN wr).alloc (.cells #[.int .u32 t.ver,.slice d t.ins.length i,.slice e t.outs.length j] 62))
   obtain⟨-,d1,d2,-⟩:=qC wr (.int .u32 t.ver) (.slice d t.ins.length i) (.slice e t.outs.length j) 62
   have HI:=J (hI.keep0 T.o)
   have W:=J (z.o.trans0 (L.o.trans0 T.o))
   have h:=J (HT.o t (mem_of_getElem? c))
   have A:=@J (jB t=false→∀s∈b.txs.take (n+1),jB s=false) (λk s l=>by
    rw[List.take_add_one,c] at l
    rcases mem_append.1 l with l|l
    ·exact HK.o s l
    ·simp at l;subst l;exact k)
   have V:=J (L.o.trans0 T.o)
   have af:n≤30:=by omega
   clear hr hI c
   have i2:n<b.txs.length:=F
   by_cases g1:30<t.ins.length
   ·have I:decide ((30:Int)<(t.ins.length:Int))=true:=by simp;omega
    have g:=J (h.o (by simp[jB,g1]))
    clear g1
    go_wp2_with (first|(refine ziU rfl rfl rfl Z.o rfl ?_)|(refine ze rfl (zj (w:=wr) (ty:=62) (cs:=[.int .u32 t.ver,.slice d t.ins.length i,.slice e t.outs.length j]) rfl rfl rfl rfl qN (jF (a:=d) (b:=e))) ?_;generalize wr.alloc (.cells [.int .u32 t.ver,.slice d t.ins.length i,.slice e t.outs.length j].toArray 62)=w2 at*))
    go_ret
    exact g.o _ W.o
   have I:decide ((30:Int)<(t.ins.length:Int))=false:=by simp;omega
   by_cases g2:30<t.outs.length
   ·have K:decide ((30:Int)<(t.outs.length:Int))=true:=by simp;omega
    have g:=J (h.o (by simp[jB,g2]))
    clear g1 g2
    go_wp2_with (first|(refine ziU rfl rfl rfl Z.o rfl ?_)|(refine ze rfl (zj (w:=wr) (ty:=62) (cs:=[.int .u32 t.ver,.slice d t.ins.length i,.slice e t.outs.length j]) rfl rfl rfl rfl qN (jF (a:=d) (b:=e))) ?_;generalize wr.alloc (.cells [.int .u32 t.ver,.slice d t.ins.length i,.slice e t.outs.length j].toArray 62)=w2 at*))
    go_ret
    exact g.o _ W.o
   have K:decide ((30:Int)<(t.outs.length:Int))=false:=by simp;omega
   have al:t.ins.length≤30:=by omega
   have B:=@J ((∀x∈t.ins,¬100<x.key.length)→∀s∈b.txs.take (n+1),jB s=false) (λk=>A.o (by
    have:t.ins.any (λx=>decide (100<x.key.length))=false:=List.any_eq_false.2 (λx c=>by simpa using k x c)
    simp only[jB,this]
    simp
    omega))
   have C:=@J (∀x∈t.ins,100<x.key.length→∀w',Fr No w w'→JF w b (.returned (.bool true)) w') (λx c v=>h.o (by
    have:t.ins.any (λx=>decide (100<x.key.length))=true:=any_eq_true.2 ⟨x,c,by simpa using v⟩
    simp[jB,this]))
   clear g1 g2 A h HT HF
   go_wp2_with (first|(refine ziU rfl rfl rfl Z.o rfl ?_)|(refine ze rfl (zj (w:=wr) (ty:=62) (cs:=[.int .u32 t.ver,.slice d t.ins.length i,.slice e t.outs.length j]) rfl rfl rfl rfl qN (jF (a:=d) (b:=e))) ?_;generalize wr.alloc (.cells [.int .u32 t.ver,.slice d t.ins.length i,.slice e t.outs.length j].toArray 62)=w2 at*))
   clear d1 d2 I K
   go_loopw [37] (λp wq=>∃m:Nat,p=.int .i64 m∧m≤t.ins.length∧(∀x∈t.ins.take m,¬100<x.key.length)∧Fr No w2 wq) (λp _=>t.ins.length-(intOf p).toNat)
   case atStart=>exact⟨0,rfl,zero_le _,by simp,Fr.refl _ _⟩
   case round=>
    obtain⟨m,rfl,hm,G,fq⟩:=hrel
    have U:=J fq
    have HM:=J G
    clear fq G
    by_cases aa:m<t.ins.length
    ·have i3:(m:Int)<(t.ins.length:Int):=by omega
     obtain⟨x,c⟩:∃x,t.ins[m]? =some x:=⟨_,List.getElem?_eq_getElem aa⟩
     obtain⟨b3,ag,ae,aj,ad,H,q,r,rfl,u,D⟩:=(HI.o.keep0 U.o).at_ c
     cases ad
     have R3:=J H
     have M:=J (vl u (.slice q x.key.length r))
     have ah:=(jO wr (kv:=.slice q x.key.length r) u).2
     have FB:=J (U.o.alloc (.cells (inC x.from_ (.slice q x.key.length r)).toArray 106))
     have Y:=J (C.o x (mem_of_getElem? c))
     have X:=J c
     clear H D u c
     by_cases v:100<x.key.length
     ·have j3:decide ((100:Int)<(x.key.length:Int))=true:=by simp;omega
      have g:=J (Y.o v)
      clear v
      go_wp2_with (first|(refine ziV rfl rfl rfl R3.o M.o ?_)|(refine zi4 (w:=wr) (cs:=inC x.from_ (.slice q x.key.length r)) rfl rfl rfl rfl M.o qD ?_;generalize wr.alloc (.cells (inC x.from_ (.slice q x.key.length r)).toArray 106)=w3 at*))
      go_ret
      exact g.o _ (W.o.trans0 FB.o)
     ·have j3:decide ((100:Int)<(x.key.length:Int))=false:=by simp;omega
      have MN:=@J (∀y∈t.ins.take (m+1),¬100<y.key.length) (λy o=>by
       rw[List.take_add_one,X.o] at o
       rcases mem_append.1 o with o|o
       ·exact HM.o y o
       ·simp at o;subst o;exact v)
      clear v
      go_wp2_with (first|(refine ziV rfl rfl rfl R3.o M.o ?_)|(refine zi4 (w:=wr) (cs:=inC x.from_ (.slice q x.key.length r)) rfl rfl rfl rfl M.o qD ?_;generalize wr.alloc (.cells (inC x.from_ (.slice q x.key.length r)).toArray 106)=w3 at*))
      go_roundw
      case rel=>exact⟨m+1,by go_num,by omega,MN.o,FB.o⟩
      case measure=>simp[intOf];omega
    ·have ab:m=t.ins.length:=by omega
     have i3:¬(m:Int)<(t.ins.length:Int):=by omega
     have S:=J (B.o (by
      have:=HM.o
      rw[ab,List.take_length] at this
      exact this))
     go_wp2
     go_roundw
     case rel=>exact⟨n+1,by go_num,by omega,S.o,V.o.trans0 U.o⟩
     case measure=>simp[intOf];omega
  ·have i1:¬(n:Int)<(b.txs.length:Int):=by omega
   have S:=J (HF.o (by
    have:=HK.o
    rw[show n=b.txs.length by omega,List.take_length] at this
    exact this))
   go_wp2
   go_ret
   exact S.o _ (z.o.trans0 L.o)
end Go.Proofs.YtmpamcnlineceaaGreatDoor
