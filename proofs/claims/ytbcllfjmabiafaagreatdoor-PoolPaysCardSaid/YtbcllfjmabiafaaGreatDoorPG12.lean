/- chain: do, of any block. -/
import Derived.Test.YtbcllfjmabiafaaGreatDoorPG11
import Derived.Test.YtbcllfjmabiafaaGreatDoorPG9
import Derived.Test.YtbcllfjmabiafaaGreatDoorPG8
import Derived.Test.YtbcllfjmabiafaaGreatDoorPG7
import Derived.Test.YtbcllfjmabiafaaGreatDoorPG10
set_option linter.unusedVariables false
set_option linter.unusedSimpArgs false
set_option linter.unnecessarySimpa false
set_option linter.all false
set_option maxRecDepth 20000
set_option maxHeartbeats 16000000
namespace Go.Proofs.YtbcllfjmabiafaaGreatDoor
open Go Go.RowKit Go.Maps Go.MapKept
open Go.Proofs.Tryz(prog)
open Nat(le_refl)
open List(mem_append length_append length_cons length_singleton)
variable {V X:Nat→Prop} {cs:List Value} {w:World}
theorem TxQ.len3' {t:TxD} (h:TxQ w t cs):cs.length=3:=by
 obtain⟨_,_,_,_,rfl,_⟩:=h
 rfl
theorem zhM {b:qf} {c g:Option Addr} {d i:Nat} (h:Kept V w (λw=>vG w b [.int .u64 b.tag,.slice c b.pay.length d,.slice g b.txs.length i])):Kept V w (λw=>xg w (.slice c b.pay.length d) b.pay)∧Kept V w (λw=>j7 w (.slice g b.txs.length i) b.txs):=by
 have a:∀w',vG w' b [.int .u64 b.tag,.slice c b.pay.length d,.slice g b.txs.length i]→xg w' (.slice c b.pay.length d) b.pay∧j7 w' (.slice g b.txs.length i) b.txs:=by
  rintro w' ⟨n,o,p,q,e,_,l,m⟩
  simp only[VD,List.cons.injEq,and_true] at e
  obtain⟨-,j,k⟩:=e
  injection j with e11 _ e13
  injection k with e21 _ e23
  subst e11;subst e13;subst e21;subst e23
  exact⟨l,m⟩
 exact⟨λw' f=>(a w' (h w' f)).1,λw' f=>(a w' (h w' f)).2⟩
theorem zaJ {b:qf} {bcs:List Value} {a:List zf} {c:List YM} {o m:Value} {h:List (List Value)} {B:Nat} (s:Kept V w (λw=>vG w b bcs)) (hi:w.ownsRow B 45 32 o a.length (a.flatMap zd)) (l:∀x∈a,zV x)
  {V':Nat→Prop} (i:vl B 201 2 zdL V' w m c h) (r:∀j,V j→V' j) (n:∀j,V j→j<B) (y:c.length≤1000):Kept V w (λw=>jG w ⟨b,a,c⟩ (bcs++[o,m])):=by
 obtain⟨u,v,g⟩:=hi.slice.arg.form
 obtain⟨p,q,d⟩:=i.form
 have t:=i.rows (U:=V) (by decide) (by unfold maxLen;omega) (λj _ e=>r j e) (λj k e=>by have:=(i.lt j k).1;have:=n j e;omega)
 intro w' f
 refine⟨bcs,u,v,p,q,by rw[g,d],s w' f,⟨l,?_⟩,?_⟩
 ·rw[←g]
  exact(zb hi f (λj k e=>by have:=(hi.lt j k).1;have:=n j e;omega)).slice.arg
 ·have:=t w' f
  rw[d] at this
  exact this
theorem zih {B n:Nat} {a:Option Addr} {b:Nat} {l:List zx} (h:w.ownsRow B 56 33 (.slice a n b) n (l.flatMap zm)) (d:l.length=n) (ok:∀x∈l,x.ok) (c:∀j,(Value.slice a n b).ownBlock=some j→¬V j):Kept V w (λw=>zdL w ⟨[],l⟩ [.slice none 0 0,.slice a n b]):=by
 subst d
 exact λw' f=>⟨none,0,a,b,rfl,⟨(λx e=>by cases e),.inl (.inl ⟨rfl,rfl,rfl⟩)⟩,za6 h ok c w' f⟩
theorem zkQ {K:List zf} {S:List zn} {b:qf} {E:Int} {a:StD} (h:runT K b.txs (st0 S)=(E,a)) (c:E≠0):doR K S b=⟨E,a.S,⟨b,a.ids,a.chg⟩⟩:=by
 unfold doR
 rw[h]
 exact if_neg c
theorem zg8 {K:List zf} {S:List zn} {b:qf} {a:StD} (h:runT K b.txs (st0 S)=(0,a)):doR K S b=if jD a.S (vH b)=0 then⟨0,jQ a.S (vH b),⟨b,a.ids,a.chg++[⟨[],(vH b).map (·.at_)⟩]⟩⟩ else⟨10,a.S,⟨b,a.ids,a.chg⟩⟩:=by
 unfold doR
 rw[h]
 exact if_pos rfl
def DoP (w0 w:World) (p s mi:Nat) (U:Nat→Prop) (bv:Value) (css:List (List Value)) (D:ChD) (dq:Nat) (T:Nat→Prop) (b:qf) (R:DoR) (e:Ending) (w':World):Prop:=
 ∃M',zeC D.bs.length D.M M' R.d.ids∧zm2 w0 w p s mi U bv css D dq T b R.E R.S M' R.d e w'
def DoL (w0 w:World) (p s mi:Nat) (U:Nat→Prop) (bv:Value) (css:List (List Value)) (D:ChD) (dq:Nat) (T:Nat→Prop) (b:qf) (x0 x1 x2:Value) (K:List zf) (n:Nat) (wr:World):Prop:=
 ∃(st:StD) (M:List (zf×Int)) (iv cv:Value) (ccs:List (List Value)),runT K b.txs (st0 D.S)=runT K (b.txs.drop n) st∧zcL D.S K n st∧zeC D.bs.length D.M M st.ids∧M.length≤D.M.length+n∧
  vo w0 wr p s U mi bv css ⟨st.S,D.bs,M⟩∧wr.heap[dq]? =some (.cells #[x0,x1,x2,iv,cv] 142 (0,0))∧wr.ownsRow w.heap.size 45 32 iv n (st.ids.flatMap zd)∧
  vl w.heap.size 201 2 zdL (λj=>(chV p U mi bv j∨T j)∨iv.ownBlock=some j) wr cv st.chg ccs∧(∀j,iv.ownBlock=some j→cv.ownBlock=some j→False)∧Fr (λj=>chV p U mi bv j∨j=dq) w wr
theorem zmq {w0 w:World} (hg:vp w0) {p s O:Nat} {U:Nat→Prop} {bv:Value} {css:List (List Value)} {D:ChD} (h:vo w0 w p s U O bv css D) {KI:List zf} (hK:∀x,x∈KI↔∃v,(x,v)∈D.M) (aY:∀x v,(x,v)∈D.M→0<v) {o:Nat} {b:qf} {bcs:List Value}
  (hq:w.heap[o]? =some (.cells (bcs++[Value.slice none 0 0,Value.slice none 0 0]).toArray 142 (0,0))) (cD:¬chV p U O bv o) (cy:w0.heap.size≤o)
  {T:Nat→Prop} (hT:T o) (ct:∀j,T j→j<w.heap.size) (hb:Kept (λj=>chV p U O bv j∨T j) w (λw=>vG w b bcs)) (hok:vy b=true) (srt:qF D.S) (hN:D.S.length≤80000) (cp:D.bs.length≤100000) (cr:D.M.length≤1000000)
  (cx:∀(i:Nat) (d:yx) (cs:List Value),D.bs[i]? =some d→css[i]? =some cs→Kept (λj=>chV p U O bv j∨j=o) w (λw=>jG w d cs)):
  Calls prog 59 #[.pointer (some ⟨p,0,none⟩),.pointer (some ⟨o,0,none⟩)] w
   (DoP w0 w p s O U bv css D o T b (doR KI D.S b)):=by
 obtain⟨pa,pc,ta,tc,rfl⟩:=hb.now.form
 obtain⟨p8,dz,-⟩:=Qk hok
 have bW:=Hd hb.now.oks
 obtain⟨a7,a8⟩:=zhM hb
 have b8:=Hd a7
 have cc:=Hd a8
 have HB:=Hd hb
 have HQ:=@Hd (w.heap[o]? =some (.cells #[.int .u64 b.tag,.slice pa b.pay.length pc,.slice ta b.txs.length tc,.slice none 0 0,.slice none 0 0] 142 (0,0))) (hq)
 obtain⟨dG,uG,rG⟩:=zg6
 have zH:=yJ
 have zG:=zhE
 have zC:=ZU
 have zT:=JZ
 have HC:=Hd h
 have G0:=Hd hg
 have NQ:=Hd cD
 have LQ:=Hd cy
 have aH:=Hd hK
 have b0:=Hd aY
 have S:=Hd h.hi
 have QL:=Hd (yr hq)
 have QT:=@Hd (∀j,j=o→T j) (λj e=>e▸hT)
 have TL:=Hd ct
 have cZ:=Hd hok
 have dn:=Hd (zcL.start srt h.set.ok KI)
 have aI:=Hd (And.intro hN (And.intro cp cr))
 have HK:=Hd cx
 have bV:=Hd h.fr
 have c2:=(zag (zv hq)).2.2.1
 clear h hg hq cD cy hb hT ct hok cx hK aY a7 a8 srt hN cp cr
 go_enter Tryz.func59,Tryz.ntmps59
 go_wp2_with fail
 clear c2
 go_loopw [25] (λiv wr=>∃n:Nat,iv=.int .i64 n∧n≤b.txs.length∧DoL w0 w p s O U bv css D o T b (.int .u64 b.tag) (.slice pa b.pay.length pc) (.slice ta b.txs.length tc) KI n wr) (λiv _=>b.txs.length-(intOf iv).toNat)
 case atStart=>exact⟨0,rfl,Nat.zero_le _,st0 D.S,D.M,.slice none 0 0,.slice none 0 0,[],rfl,dn.o,⟨λx v=>by simp[st0],λx hx=>by simp[st0] at hx⟩,le_refl _,HC.o,HQ.o,World.ownsRow_nil _ _ _ 32,vl.nil _ _ _ _ _ _,(λj e=>by cases e),Fr.refl _ _⟩
 case round=>
  obtain⟨n,rfl,hn,q,M,iv,cv,dp,aZ,bB,R,cC,bx,aE,aO,aN,aW,fr⟩:=hrel
  have FR:=Hd fr
  have bw:=Hd aZ
  have F:=Hd bB
  have Z:=Hd R
  have cd:=Hd cC
  have CH:=Hd bx
  have BQ:=Hd aE
  have OI:=Hd aO
  have KR:=Hd aN
  have bf:=Hd aW
  obtain⟨W,X,ds⟩:=aO.slice.arg.form
  subst ds
  obtain⟨G,H,cu⟩:=aN.form
  rw[bB.cl] at cu
  subst cu
  have NI:=@Hd (∀j,(Value.slice W n X).ownBlock=some j→w.heap.size≤j∧j<wr.heap.size) (λj m=>aO.lt j m)
  have NC:=@Hd (∀j,(Value.slice G n H).ownBlock=some j→w.heap.size≤j∧j<wr.heap.size) (λj m=>aN.lt j m)
  have GW:=Hd (G0.o.keep0 bx.fr)
  clear fr aZ bB R cC bx aE aO aN aW
  by_cases aq:n<b.txs.length
  ·have i1:(n:Int)<(b.txs.length:Int):=by omega
   obtain⟨t,hx⟩:∃x,b.txs[n]? =some x:=⟨_,List.getElem?_eq_getElem aq⟩
   have HX:=Hd hx
   have bP:=@Hd (b.txs.drop n=t::b.txs.drop (n+1)) (by rw[List.drop_eq_getElem_cons aq,(List.getElem?_eq_some_iff.1 hx).2])
   obtain⟨bb,off,cap,ts,dv,-,cE,aM⟩:=zai (by decide) (λ_ _ _ h=>TxQ.len3' h) (cc.o.same (FR.o.mono (λj e=>e.imp_right (QT.o j)))) hx
   cases dv
   obtain⟨ja,jc,ka,kc,rfl⟩:=cE.form
   have bY:=Hd aM
   have R1:=Hd aM.now.1
   have FA:=Hd ((frN wr).alloc (.cells #[.int .u32 t.ver,.slice ja t.ins.length jc,.slice ka t.outs.length kc] 27))
   have RA:=Hd (qI wr t.ver (.slice ja t.ins.length jc) (.slice ka t.outs.length kc)).2.2.2
   have QA:=@Hd ((wr.alloc (.cells #[.int .u32 t.ver,.slice ja t.ins.length jc,.slice ka t.outs.length kc] 27)).heap.size=wr.heap.size+1) (by simp)
   have CK:=Hd (Ql _ (show TxQ (wr.alloc (.cells #[.int .u32 t.ver,.slice ja t.ins.length jc,.slice ka t.outs.length kc] 27)) t [.int .u32 t.ver,.slice ja t.ins.length jc,.slice ka t.outs.length kc] from(aM _ FA.o.of0).2))
   have bh:=@Hd (∀E,txE KI q t=E→E≠0→∀w',vo w0 w' p s U O bv css ⟨q.S,D.bs,M⟩→Fr U wr w'→DoP w0 w p s O U bv css D o T b (doR KI D.S b) (.returned (.int .i64 E)) w') (λE hE cq w' hc f=>by
    have hr:runT KI b.txs (st0 D.S)=(E,q):=by rw[bw.o,bP.o,zaj (by rw[hE];exact cq),hE]
    rw[zkQ hr cq]
    have hU:∀j,U j→j<w.heap.size:=λj m=>S.o j (.inr (.inl m))
    refine⟨M,Z.o,rfl,hc,FR.o.trans f (λj _ e=>.inl (.inr (.inl e))),rfl,_,f.obj BQ.o (λe=>NQ.o (.inr (.inl e))),?_⟩
    exact zaJ (bcs:=[_,_,_]) (HB.o.same ((FR.o.trans f (λj _ e=>.inl (.inr (.inl e)))).mono (λj e=>e.imp_right (QT.o j)))) (by rw[F.o.il];exact zb OI.o f (λj m e=>by have:=(NI.o j m).1;have:=hU j e;omega)) F.o.iok (KR.o.fr f (λj _ e=>.inl (.inl (.inr (.inl e)))) (λj m e=>by have:=(NC.o j m).1;have:=hU j e;omega)) (λj e=>.inl e) (λj e=>e.elim (λe=>S.o j e) (λe=>TL.o j e)) (by rw[F.o.cl];omega))
   have c6:=Hd (λ(w':World) (f:Fr No wr w')=>YX (GW.o.keep0 f) (show TxQ w' t [.int .u32 t.ver,.slice ja t.ins.length jc,.slice ka t.outs.length kc] from(bY.o _ f.of0).2))
   clear cE aM hx
   by_cases hck:yR t=0
   rotate_left
   ·have e0:(yR t==0)=false:=by simpa using hck
    have e1:(yR t !=0)=true:=by simpa using hck
    have ah:=Hd (λ(w':World) (f:Fr No wr w')=>bh.o (yR t) (by unfold txE;rw[if_neg hck]) hck w' (CH.o.fr0 f) f.of0)
    clear hck
    have⟨K0,K1,K2,K3⟩:=tZ4
    go_wp2_with ((first|((with_reducible refine zt ?_);first|(clear K0;refine znT rfl rfl rfl R1.o rfl ?_)|(clear K2;refine znT rfl rfl rfl RA.o rfl ?_))|((with_reducible refine zr ?_);clear K1;refine zi rfl (zj (w:=wr) (ty:=27) (cs:=[.int .u32 t.ver,.slice ja t.ins.length jc,.slice ka t.outs.length kc]) rfl rfl rfl rfl xt (jC rfl rfl rfl)) ?_;generalize wr.alloc (.cells #[.int .u32 t.ver,.slice ja t.ins.length jc,.slice ka t.outs.length kc] 27)=wA at*)|(clear K3;go_at_call 29;refine CK.o.mono ?_;rintro e wB ⟨rfl,f2⟩;have FB:=Hd (FA.o.trans0 f2);clear f2));go_frame)
    go_ret
    exact ah.o _ FB.o
   have e0:(yR t==0)=true:=by simpa using hck
   have e1:(yR t !=0)=false:=by simpa using hck
   have bk:=Hd hck
   have HL:=Hd (zu (jJ t))
   clear hck
   have⟨K0,K1,K2,K3,K4,K5,K6⟩:=tZ7
   go_wp2_with ((first|((with_reducible refine zt ?_);first|(clear K0;refine znT rfl rfl rfl R1.o rfl ?_)|(clear K2;refine znT rfl rfl rfl RA.o rfl ?_)|(clear K4;refine znT rfl rfl rfl RB.o rfl ?_))|((with_reducible refine zr ?_);first|(clear K1;refine zi rfl (zj (w:=wr) (ty:=27) (cs:=[.int .u32 t.ver,.slice ja t.ins.length jc,.slice ka t.outs.length kc]) rfl rfl rfl rfl xt (jC rfl rfl rfl)) ?_;generalize wr.alloc (.cells #[.int .u32 t.ver,.slice ja t.ins.length jc,.slice ka t.outs.length kc] 27)=wA at*)|(clear K6;refine zn3 (w:=wC) (cs:=zd (idH t)) rfl rfl rfl rfl HL.o zE ?_;generalize wC.alloc (.cells (zd (idH t)).toArray 45)=wD at*;generalize dy:wC.heap.size=q8 at*))|(clear K3;go_at_call 29;refine CK.o.mono ?_;rintro e wB ⟨rfl,f2⟩;have FB:=Hd (FA.o.trans0 f2);have RB:=Hd (za RA.o f2 _root_.id);have S2:=Hd f2.size;clear f2)|(clear K5;go_at_call 19;refine(c6.o wB FB.o).mono ?_;rintro e wC ⟨rfl,f3⟩;have FC:=Hd (FB.o.trans0 f3);have RC:=Hd (za RB.o f3 _root_.id);have S3:=Hd f3.size;clear f3;have bS:=Hd ((frN wC).alloc (.cells (zd (idH t)).toArray 45));have cK:=Hd (ye wC (.cells (zd (idH t)).toArray 45))));go_frame)
   have FE:=Hd ((FC.o.trans0 bS.o).trans0 (frN wD).drew)
   have RE:=Hd (za (za RC.o bS.o _root_.id) (frN wD).drew _root_.id)
   have B8:=Hd ((frN wD).drew.obj cK.o _root_.id)
   have R8:=@Hd (wD.drew.rangeAt q8 0 (zd (idH t))) (by have:=zv B8.o;simpa using this)
   have Y:=Hd (CH.o.fr0 FE.o)
   have Q8:=@Hd (wr.heap.size<q8∧q8<wD.drew.heap.size) (⟨by have:=QA.o;have:=S2.o;have:=S3.o;omega,yr B8.o⟩)
   obtain⟨v,hv1,hv2⟩:∃v:Int,(Instr.lookup 129 (.map (some O)) (xL (idH t)) false).run prog wD.drew=.ok (.int .i64 v) wD.drew∧(0<v↔idH t∈KI∨idH t∈q.ids):=by
    by_cases Q:∃v,(idH t,v)∈M
    ·obtain⟨v,hm⟩:=Q
     have:=Y.o.map.look xT.keyed Zw (λ_ _=>xf) YK (ym (jJ t)) false (r:=some v) (λv'=>⟨λe=>by rw[←Option.some.inj e];exact hm,λh'=>by rw[Y.o.map.uniq hm h']⟩)
     refine⟨v,by simpa using this,?_⟩
     rcases(Z.o.1 _ _).1 hm with h|⟨h,e⟩
     ·exact⟨λ_=>.inl ((aH.o _).2 ⟨v,h⟩),λ_=>b0.o _ _ h⟩
     ·exact⟨λ_=>.inr h,λ_=>by omega⟩
    ·have:=Y.o.map.look xT.keyed Zw (λ_ _=>xf) YK (ym (jJ t)) false (r:=none) (λv'=>⟨λe=>(by cases e),λh'=>absurd ⟨v',h'⟩ Q⟩)
     refine⟨0,by simpa using this,⟨λe=>(by omega),λe=>?_⟩⟩
     exfalso
     apply Q
     rcases e with e|e
     ·obtain⟨v,hv⟩:=(aH.o _).1 e
      exact⟨v,(Z.o.1 _ _).2 (.inl hv)⟩
     ·exact⟨_,(Z.o.1 _ _).2 (.inr ⟨e,rfl⟩)⟩
   have LK:=Hd hv1
   have bm:=Hd hv2
   have cP:=Hd Y.o.cells.2.2
   clear hv1 hv2
   refine wrLx [ff,ff,ff,ff,ff,ff,ff] (λw'=>w'.cell? ⟨p,2,none⟩=some (.map (some O))∧w'.rangeAt q8 0 (zd (idH t))∧(Instr.lookup 129 (.map (some O)) (xL (idH t)) false).run prog w'=.ok (.int .i64 v) w') ?_ (λK hK=>?_)
   ·exact⟨cP.o,R8.o,LK.o⟩
   generalize wD.drew=z8 at*
   repeat((first|(refine zk rfl ?_;constructor;constructor;(focus(first|exact zn0 rfl (λw h=>h.2.1) HL.o|exact λw' h=>zY (t:=129) rfl rfl rfl h.2.2|(rintro w' ⟨s1,s2,s3⟩;exact goS))))|(refine zl rfl ?_));try simp only[Act.put,pA,pB,pC])
   refine zN (hK.out _ _ ?_)
   by_cases Q:idH t∈KI∨idH t∈q.ids
   ·have j3:0<v:=bm.o.2 Q
    have ah:=Hd (bh.o 19 (by unfold txE;rw[if_pos bk.o,if_pos Q]) (by decide) z8 Y.o FE.o.of0)
    clear Q
    go_wp2_with fail
    go_ret
    exact ah.o
   have j3:¬0<v:=λe=>Q (bm.o.1 e)
   have bp:=@Hd (idH t∉KI∧idH t∉q.ids) (⟨λe=>Q (.inl e),λe=>Q (.inr e)⟩)
   have cm:=@Hd (txE KI q t=spE q.S t) (by unfold txE;rw[if_pos bk.o,if_neg Q])
   clear Q LK bm
   have SL:=@Hd (q.S.length≤90000) (by have:=F.o.len;have:=aI.o.1;omega)
   have SP:=Hd (ziS (GW.o.keep0 FE.o) Y.o.obj Y.o.up Y.o.set (t:=t) (cs:=[.int .u32 t.ver,.slice ja t.ins.length jc,.slice ka t.outs.length kc]) (λw' f=>(bY.o w' (FE.o.of0.trans f (λj _ e=>.inl (.inr (.inl e))))).2) bk.o SL.o)
   by_cases R:spE q.S t=0
   rotate_left
   ·have ah:=@Hd (∀w',CS w0 w' s U (spS q.S t)→Fr U z8 w'→DoP w0 w p s O U bv css D o T b (doR KI D.S b) (.returned (.int .i64 (spE q.S t))) w') (λw' hc f=>by
     have e:spS q.S t=q.S:=by unfold spS;rw[if_neg R]
     rw[e] at hc
     exact bh.o (spE q.S t) cm.o R w' (Y.o.setS hc f) (FE.o.of0.trans f (λ_ _ e=>e)))
    have e2:(spE q.S t==0)=false:=by simpa using R
    have e3:(spE q.S t !=0)=true:=by simpa using R
    clear R
    have⟨K0,K1,K2⟩:=tZ3
    go_wp2_with ((first|((with_reducible refine zt ?_);clear K0;refine znT rfl rfl rfl RE.o rfl ?_)|(clear K1;go_at_call 98;refine SP.o.mono ?_;rintro e wE ⟨sa,sn,sc,ma,mn,mc,rfl,aD,f9,-⟩;have bl:=Hd aD;have F9:=Hd f9;clear aD f9)|((with_reducible refine zr ?_);clear K2;refine zi rfl (zj (w:=wE) (ty:=201) (cs:=[.slice sa sn sc,.slice ma mn mc]) rfl rfl rfl rfl vI (XV rfl rfl)) ?_));go_frame)
    go_ret
    exact ah.o _ (bl.o.fr0 ((frN wE).alloc _)) (F9.o.trans0 ((frN wE).alloc _))
   have e2:(spE q.S t==0)=true:=by simpa using R
   have e3:(spE q.S t !=0)=false:=by simpa using R
   have b6:=Hd R
   clear R
   have⟨K0,K1,K2⟩:=tZ3
   go_wp2_with ((first|((with_reducible refine zt ?_);clear K0;refine znT rfl rfl rfl RE.o rfl ?_)|(clear K1;go_at_call 98;refine SP.o.mono ?_;rintro e wE ⟨sa,sn,sc,ma,mn,mc,rfl,aD,f9,cw⟩;have bl:=Hd aD;have F9:=Hd f9;have cX:=Hd (cw b6.o (λj=>j<z8.heap.size) (λ_ h=>h));clear aD f9 cw;have FF:=Hd ((frN wE).alloc (.cells [.slice sa sn sc,.slice ma mn mc].toArray 201));have BF:=Hd (ye wE (.cells [.slice sa sn sc,.slice ma mn mc].toArray 201)))|((with_reducible refine zr ?_);clear K2;refine zi rfl (zj (w:=wE) (ty:=201) (cs:=[.slice sa sn sc,.slice ma mn mc]) rfl rfl rfl rfl vI (XV rfl rfl)) ?_;generalize wE.alloc (.cells [.slice sa sn sc,.slice ma mn mc].toArray 201)=wF at*;generalize cF:wE.heap.size=al at*));go_frame)
   have cn:=@Hd (txE KI q t=0) (cm.o.trans b6.o)
   have UV:=@Hd (∀j,U j→j<w.heap.size) (λj m=>S.o j (.inr (.inl m)))
   have FZ:=Hd (FF.o.trans0 (frN wF).drew)
   have bU:=@Hd (Fr U wr wF.drew) ((FE.o.of0.trans F9.o (λ_ _ e=>e)).trans0 FZ.o)
   have ad:=Hd ((Y.o.setS bl.o F9.o).fr0 FZ.o)
   have W8:=@Hd (w.heap.size≤wr.heap.size) (FR.o.size)
   have aU:=Hd (za (za R8.o F9.o (λe=>by have:=UV.o _ e;have:=Q8.o.1;have:=W8.o;omega)) FZ.o _root_.id)
   have bF:=Hd ((frN wF).drew.obj BF.o _root_.id)
   have dg:=@Hd (wF.drew.rangeAt al 0 [.slice sa sn sc,.slice ma mn mc]) (by have:=zv bF.o;simpa using this)
   have aL:=@Hd (z8.heap.size≤al∧al<wF.drew.heap.size) (⟨by rw[←cF];exact F9.o.size,yr bF.o⟩)
   have cQ:=@Hd (∃ba bc,bv=.slice ba D.bs.length bc) (ad.o.row.slice.arg.form)
   obtain⟨ba,bc,dr⟩:=cQ.o
   have cO:=@Hd (wF.drew.cell? ⟨p,1,none⟩=some (.slice ba D.bs.length bc)) (by rw[←dr];exact ad.o.cells.2.1)
   have bO:=Hd ad.o.cells.2.2
   obtain⟨wG,M',cH,cz,a6,bC,aX⟩:=ad.o.map.upd xT.keyed Zw (λ_ _=>xf) (ym (jJ t)) (by unfold maxLen;show M.length<_;have:=cd.o;have:=aI.o.2.2;omega) ((D.bs.length:Int)+1)
   have b7:=Hd cH
   have cM:=@Hd (vo w0 wG p s U O bv css ⟨spS q.S t,D.bs,M'⟩) (ad.o.setM cz bC.fr)
   have FG:=Hd bC.fr
   have dm:=@Hd (zeC D.bs.length D.M M' (q.ids++[idH t])) (⟨λx v=>by
    rw[a6 x v]
    simp only[mem_append,List.mem_singleton]
    constructor
    ·rintro(⟨e1,e2⟩|⟨e1,e2⟩)
     ·exact .inr ⟨.inr e1,e2⟩
     ·exact((Z.o.1 x v).1 e2).imp_right (λ⟨a,b⟩=>⟨.inl a,b⟩)
    ·rintro(e|⟨e1|e1,e2⟩)
     ·refine .inr ⟨λex=>?_,(Z.o.1 x v).2 (.inl e)⟩
      subst ex
      exact bp.o.1 ((aH.o _).2 ⟨v,e⟩)
     ·refine .inr ⟨λex=>?_,(Z.o.1 x v).2 (.inr ⟨e1,e2⟩)⟩
      subst ex
      exact bp.o.2 e1
     ·exact .inl ⟨e1,e2⟩,λx hx v hm=>by
    rcases mem_append.1 hx with hx|hx
    ·exact Z.o.2 x hx v hm
    ·simp at hx;subst hx;exact bp.o.1 ((aH.o _).2 ⟨v,hm⟩)⟩)
   have c8:=@Hd (M'.length≤D.M.length+(n+1)) (by have h1:M'.length≤M.length+1:=aX;have:=cd.o;omega)
   clear cH cz a6 bC aX
   unfold xL zko at b7
   have WR:=@Hd (IntKind.i64.wrap ((D.bs.length:Int)+1)=(D.bs.length:Int)+1) (IntWalk.i64_in _ (by have:=aI.o.2.1;omega))
   have dw:=WR.o
   refine yw [ff,ff,ff,ff,ff,ff,ff,ff,ff,ff,ff,tt] (λw'=>w'.cell? ⟨p,2,none⟩=some (.map (some O))∧w'.rangeAt q8 0 (zd (idH t))∧w'.cell? ⟨p,1,none⟩=some (.slice ba D.bs.length bc)) (by kernel_rfl) (by kernel_rfl) 11 (by kernel_rfl) (by kernel_rfl) ?_ (λK hK=>?_)
   ·exact⟨bO.o,aU.o,cO.o⟩
   generalize wF.drew=dB at*
   repeat((first|(refine yk rfl ?_;constructor;constructor;(focus(first|exact zn0 rfl (λw h=>h.2.1) HL.o|(rintro w' ⟨s1,s2,s3⟩;exact goS))))|(refine yl rfl ?_));try simp only[Act.put,pA,pB,pC])
   (refine yf rfl (λK' hK'=>?_))
   refine xp (xK rfl rfl rfl rfl b7.o) ?_
   refine hK'.out _ _ (λh=>absurd rfl h) (λhS=>?_)
   refine xV (hK.out _ _ ?_)
   clear dw
   go_wp2_with fail
   have MI:=@Hd (O<w.heap.size) (S.o O (.inr (.inr (.inl rfl))))
   have ab:=Hd (frN wG).drew
   have FX:=@Hd (Fr (λj=>U j∨j=O) wr wG.drew) (((bU.o.mono (λj e=>.inl e)).trans FG.o (λj _ e=>.inr e)).trans0 ab.o)
   have XW:=@Hd (∀j,(U j∨j=O)→j<w.heap.size∧chV p U O bv j) (λj e=>e.elim (λe=>⟨UV.o j e,.inr (.inl e)⟩) (λe=>by rw[e];exact⟨MI.o,.inr (.inr (.inl rfl))⟩))
   have aP:=Hd (FX.o.obj BQ.o (λe=>NQ.o (XW.o _ e).2))
   have cg:=Hd (zb OI.o FX.o (λj m e=>by have:=(NI.o j m).1;have:=(XW.o j e).1;omega))
   have b9:=Hd (KR.o.fr FX.o (λj _ e=>.inl (.inl (XW.o j e).2)) (λj m e=>by have:=(NC.o j m).1;have:=(XW.o j e).1;omega))
   have aB:=Hd (za (za aU.o FG.o (λe=>by have:=MI.o;have:=W8.o;have:=Q8.o.1;omega)) ab.o _root_.id)
   have bt:=Hd (za (za dg.o FG.o (λe=>by have:=MI.o;have:=W8.o;have:=Q8.o;have:=aL.o.1;omega)) ab.o _root_.id)
   have bM:=Hd (cM.o.fr0 ab.o)
   have di:=@Hd (z8.heap.size≤wE.heap.size∧wE.heap.size≤wG.drew.heap.size) (⟨F9.o.size,by have:=FZ.o.size;have:=FG.o.size;have:=ab.o.size;omega⟩)
   have aQ:=@Hd (wG.drew.cell? ⟨o,3,none⟩=some (.slice W n X)) (by have:=zv aP.o 3 _ rfl;simpa using this)
   refine yw [ff,ff,ff,ff,ff,ff,tt,tt,ff,ff,tt] (λw'=>w'.cell? ⟨o,3,none⟩=some (.slice W n X)∧w'.rangeAt q8 0 (zd (idH t))) (by kernel_rfl) (by kernel_rfl) 10 (by kernel_rfl) (by kernel_rfl) ?_ (λK hK=>?_)
   ·exact⟨aQ.o,aB.o⟩
   generalize wG.drew=an at*
   have aV:=@Hd (w.heap.size≤an.heap.size) (by have:=FX.o.size;have:=W8.o;omega)
   obtain⟨v5,C,a1,a2,a3,-,a5⟩:=yA (P:=prog) an w.heap.size 37 37 45 32 32 _ y7 xA (by show(zd yT).toArray.size=32;rfl) (by decide) cg.o (zd (idH t)) HL.o zE (by omega) (by unfold maxLen;omega) aV.o
   obtain⟨A,B,bD⟩:=a2.slice.arg.form
   subst bD
   have A1:=Hd a1
   have O5:=@Hd (C.ownsRow w.heap.size 45 32 (.slice A (n+1) B) (n+1) ((q.ids++[idH t]).flatMap zd)) (by rw[List.flatMap_append];simpa using a2)
   have A5:=Hd a5
   have av:=Hd (a3.obj aP.o (λe=>by have:=(NI.o _ e).1;have:=QL.o;omega))
   have C5:=@Hd (C.cell? ⟨o,3,none⟩=some (.slice W n X)) (by have:=zv av.o 3 _ rfl;simpa using this)
   have dh:=Hd (za aB.o a3 (λe=>by have h1:q8<wr.heap.size:=(NI.o _ e).2;have:=Q8.o.1;omega))
   have ch:=Hd (za bt.o a3 (λe=>by have h1:al<wr.heap.size:=(NI.o _ e).2;have:=aL.o.1;have:=Q8.o;omega))
   have fz:=yp (i:=3) av.o
   have fs:Fr (λj=>j=o) C (C.setCell ⟨o,3,none⟩ (.slice A (n+1) B)):=(Fr.refl (λj=>j=o) C).setCell ⟨o,3,none⟩ (.inr rfl) _
   have bR:=@Hd (Fr (λj=>(Value.slice W n X).ownBlock=some j∨j=o) an (C.setCell ⟨o,3,none⟩ (.slice A (n+1) B))) ((a3.mono (λj e=>.inl e)).trans fs (λj _ e=>.inr e))
   have db:=Hd (zb O5.o fs (λj m e=>by have:=(O5.o.lt j m).1;have:=QL.o;omega))
   have bG:=@Hd ((C.setCell ⟨o,3,none⟩ (.slice A (n+1) B)).heap[o]? =some (.cells #[.int .u64 b.tag,.slice pa b.pay.length pc,.slice (some ⟨bb,off,none⟩) b.txs.length tc,.slice A (n+1) B,.slice G n H] 142 (0,0))) (by have:=heap_setCell_same C o 3 _ _ (.slice A (n+1) B) av.o;simpa using this)
   have bu:=Hd (za ch.o fs (λe=>by have:=aL.o.1;have:=Q8.o;have:=QL.o;have:=W8.o;omega))
   have NV:=@Hd (∀j,j<an.heap.size→(Value.slice A (n+1) B).ownBlock=some j→(Value.slice W n X).ownBlock=some j) (λj m e=>(A5.o j e).resolve_right (by omega))
   have ca:=@Hd (vl w.heap.size 201 2 zdL (λj=>(chV p U O bv j∨T j)∨(Value.slice A (n+1) B).ownBlock=some j) (C.setCell ⟨o,3,none⟩ (.slice A (n+1) B)) (.slice G n H) q.chg dp) (by
    have k1:=b9.o.vary (V':=λj=>(chV p U O bv j∨T j)∨(Value.slice W n X).ownBlock=some j∨(Value.slice A (n+1) B).ownBlock=some j) (λj m e=>e.imp_right (λe=>e.elim id (NV.o j m)))
    have k2:=k1.fr bR.o (λj _ e=>e.elim (λe=>.inr (.inl e)) (λe=>.inl (.inr (QT.o j e)))) (λj m e=>e.elim (λe=>bf.o j e m) (λe=>by have:=(NC.o j m).1;have:=QL.o;omega))
    exact k2.vary (λj _ e=>e.imp_right .inr))
   have ay:=@Hd (∀j,(Value.slice A (n+1) B).ownBlock=some j→(Value.slice G n H).ownBlock=some j→False) (λj h1 h2=>(A5.o j h1).elim (λh=>bf.o j h h2) (λh=>by have:=(NC.o j h2).2;have:=FX.o.size;omega))
   have KS:=@Hd (∀w',Fr No an w'→w'.cell? ⟨o,3,none⟩=some (.slice W n X)∧w'.rangeAt q8 0 (zd (idH t))) (λw' f=>⟨f.cell aQ.o _root_.id,za aB.o f _root_.id⟩)
   clear a1 a2 a3 a5 fs
   repeat((first|(refine yk rfl ?_;constructor;constructor;(focus(first|exact zn0 rfl (λw h=>h.2) HL.o|(rintro w' ⟨s1,s2⟩;exact goS))))|(refine yl rfl ?_));try simp only[Act.put,pA,pB,pC])
   (refine yf rfl (λK' hK'=>?_))
   refine yD (zK (t:=37) rfl rfl y7 xD rfl (by decide) (by decide) HL.o) ?_
   refine hK'.out _ _ (λ_=>?_) (λhS=>?_)
   ·exact KS.o _ ((frN an).alloc _)
   try simp only[Act.put,pA,pB,pC]
   (refine yf rfl (λK' hK'=>?_))
   refine yE rfl rfl rfl A1.o ?_
   refine hK'.out _ _ (λ_=>?_) (λhS=>?_)
   ·exact⟨C5.o,dh.o⟩
   try simp only[Act.put,pA,pB,pC]
   repeat((first|(refine yk rfl ?_;constructor;constructor;(focus(first|(rintro w' ⟨s1,s2⟩;exact goS))))|(refine yl rfl ?_));try simp only[Act.put,pA,pB,pC])
   (refine yf rfl (λK' hK'=>?_))
   go_simp
   refine hK'.out _ _ (λh=>absurd rfl h) (λhS=>?_)
   refine xV (hK.out _ _ ?_)
   clear fz
   generalize C.setCell ⟨o,3,none⟩ (.slice A (n+1) B)=bE at*
   go_wp2_with fail
   have ae:=Hd (frN bE).drew
   have ar:=Hd (ae.o.obj bG.o _root_.id)
   have aR:=@Hd (bE.drew.cell? ⟨o,4,none⟩=some (.slice G n H)) (by have:=zv ar.o 4 _ rfl;simpa using this)
   have aj:=Hd (za bu.o ae.o _root_.id)
   have cb:=Hd (ca.o.fr0 ae.o)
   have cf:=Hd (zb db.o ae.o (λ_ _=>_root_.id))
   refine yw [ff,ff,ff,ff,ff,ff,tt,tt,ff,ff,tt] (λw'=>w'.cell? ⟨o,4,none⟩=some (.slice G n H)∧w'.rangeAt al 0 [.slice sa sn sc,.slice ma mn mc]) (by kernel_rfl) (by kernel_rfl) 10 (by kernel_rfl) (by kernel_rfl) ?_ (λK hK=>?_)
   ·exact⟨aR.o,aj.o⟩
   generalize bE.drew=aF at*
   have bj:=Hd (bR.o.trans0 ae.o)
   have bT:=@Hd (Fr (λj=>j<z8.heap.size) wE aF) (((FZ.o.of0.trans FG.o (λj _ e=>by rw[e];have:=MI.o;have:=W8.o;have:=Q8.o;omega)).trans0 ab.o).trans bj.o (λj _ e=>by
    have:=Q8.o
    rcases e with e|e
    ·have:=(NI.o j e).2;omega
    ·rw[e];have:=QL.o;have:=W8.o;omega))
   have KC:=@Hd (Kept (λj=>((chV p U O bv j∨T j)∨(Value.slice A (n+1) B).ownBlock=some j)∨(Value.slice G n H).ownBlock=some j) aF (λw=>zdL w (spG q.S t) [.slice sa sn sc,.slice ma mn mc])) (cX.o.step bT.o (λj m e=>by
    have:=Q8.o
    have:=W8.o
    rcases e with((e|e)|e)|e
    ·have:=S.o j e;omega
    ·have:=TL.o j e;omega
    ·have:=(NI.o j (NV.o j (by have:=di.o.2;omega) e)).2;omega
    ·have:=(NC.o j e).2;omega))
   have dj:=@Hd (w.heap.size≤aF.heap.size) (by have:=aV.o;have:=bj.o.size;omega)
   obtain⟨v6,w6,b1,b2,b3,b5⟩:=cb.o.append (P:=prog) (t:=140) (ty2:=140) (bytes:=48) zbB zeY rfl (by decide) KC.o rfl (XV rfl rfl) (by rw[F.o.cl];omega) (by rw[F.o.cl];unfold maxLen;omega) dj.o
   obtain⟨I,N,ak⟩:=b2.form
   rw[length_append,F.o.cl] at ak
   simp only[length_singleton] at ak
   subst ak
   have B1:=Hd b1
   have B5:=Hd b5
   have K6:=Hd b2
   have ag:=Hd (b3.obj ar.o (λe=>by have:=(NC.o _ e).1;have:=QL.o;omega))
   have C6:=@Hd (w6.cell? ⟨o,4,none⟩=some (.slice G n H)) (by have:=zv ag.o 4 _ rfl;simpa using this)
   have cj:=Hd (za aj.o b3 (λe=>by have h1:al<wr.heap.size:=(NC.o _ e).2;have:=aL.o.1;have:=Q8.o;omega))
   have fz:=yp (i:=4) ag.o
   have fs:Fr (λj=>j=o) w6 (w6.setCell ⟨o,4,none⟩ (.slice I (n+1) N)):=(Fr.refl (λj=>j=o) w6).setCell ⟨o,4,none⟩ (.inr rfl) _
   have bq:=Hd (zb (zb cf.o b3 (λj m e=>ay.o j m e)) fs (λj m e=>by have:=(O5.o.lt j m).1;have:=QL.o;omega))
   have au:=@Hd ((w6.setCell ⟨o,4,none⟩ (.slice I (n+1) N)).heap[o]? =some (.cells #[.int .u64 b.tag,.slice pa b.pay.length pc,.slice (some ⟨bb,off,none⟩) b.txs.length tc,.slice A (n+1) B,.slice I (n+1) N] 142 (0,0))) (by have:=heap_setCell_same w6 o 4 _ _ (.slice I (n+1) N) ag.o;simpa using this)
   have bn:=Hd (K6.o.fr fs (λj _ e=>.inl (.inr (QT.o j e))) (λj m e=>by have:=(K6.o.lt j m).1;have:=QL.o;omega))
   have bg:=@Hd (∀j,(Value.slice A (n+1) B).ownBlock=some j→(Value.slice I (n+1) N).ownBlock=some j→False) (λj h1 h2=>(B5.o j h2).elim (λh=>ay.o j h1 h) (λh=>by have:=(cf.o.lt j h1).2;omega))
   have az:=@Hd (Fr (λj=>(Value.slice W n X).ownBlock=some j∨(Value.slice G n H).ownBlock=some j∨j=o) an (w6.setCell ⟨o,4,none⟩ (.slice I (n+1) N))) (((bj.o.mono (λj e=>e.elim .inl (λe=>.inr (.inr e)))).trans b3 (λj _ e=>.inr (.inl e))).trans fs (λj _ e=>.inr (.inr e)))
   have aa:=@Hd (Fr (λj=>chV p U O bv j∨j=o) w (w6.setCell ⟨o,4,none⟩ (.slice I (n+1) N))) ((FR.o.trans FX.o (λj _ e=>.inl (XW.o j e).2)).trans az.o (λj m e=>by
    rcases e with e|e|e
    ·have:=(NI.o j e).1;omega
    ·have:=(NC.o j e).1;omega
    ·exact .inr e))
   have ax:=Hd (bM.o.frV az.o (λj m e=>by
    have:=S.o j m
    rcases e with e|e|e
    ·have:=(NI.o j e).1;omega
    ·have:=(NC.o j e).1;omega
    ·exact NQ.o (e▸m)) (λj e=>by
    have:=bV.o.size
    rcases e with e|e|e
    ·have:=(NI.o j e).1;omega
    ·have:=(NC.o j e).1;omega
    ·rw[e];exact LQ.o) (λi d cs h1 h2 w' f=>HK.o i d cs h1 h2 w' (aa.o.trans (f.mono (λj m=>.inl m)) (λ_ _ h=>h))))
   have bo:=@Hd (∀w',Fr No aF w'→w'.cell? ⟨o,4,none⟩=some (.slice G n H)∧w'.rangeAt al 0 [.slice sa sn sc,.slice ma mn mc]) (λw' f=>⟨f.cell aR.o _root_.id,za aj.o f _root_.id⟩)
   clear b1 b2 b3 b5 fs
   repeat((first|(refine yk rfl ?_;constructor;constructor;(focus(first|exact y5 (ty:=201) rfl (λw h=>h.2) uG rG vI|(rintro w' ⟨s1,s2⟩;exact goS))))|(refine yl rfl ?_));try simp only[Act.put,pA,pB,pC])
   (refine yf rfl (λK' hK'=>?_))
   refine yD (zK (t:=140) rfl rfl zbB zdm rfl (by decide) (by decide) rfl) ?_
   refine hK'.out _ _ (λ_=>?_) (λhS=>?_)
   ·exact bo.o _ ((frN aF).alloc _)
   try simp only[Act.put,pA,pB,pC]
   (refine yf rfl (λK' hK'=>?_))
   refine yE rfl rfl rfl B1.o ?_
   refine hK'.out _ _ (λ_=>?_) (λhS=>?_)
   ·exact⟨C6.o,cj.o⟩
   try simp only[Act.put,pA,pB,pC]
   repeat((first|(refine yk rfl ?_;constructor;constructor;(focus(first|(rintro w' ⟨s1,s2⟩;exact goS))))|(refine yl rfl ?_));try simp only[Act.put,pA,pB,pC])
   (refine yf rfl (λK' hK'=>?_))
   go_simp
   refine hK'.out _ _ (λh=>absurd rfl h) (λhS=>?_)
   refine xV (hK.out _ _ ?_)
   clear fz
   generalize w6.setCell ⟨o,4,none⟩ (.slice I (n+1) N)=dA at*
   go_wp2_with fail
   go_roundw
   case rel=>exact⟨n+1,by go_num,by omega,txS q t,M',.slice A (n+1) B,.slice I (n+1) N,_,by rw[bw.o,bP.o,Qy cn.o],F.o.step (bW.o.1 t (List.mem_of_getElem? HX.o)).2 cn.o,dm.o,c8.o,ax.o,au.o,bq.o,bn.o,bg.o,aa.o⟩
   case measure=>simp[intOf];omega
  ·have bz:n=b.txs.length:=by omega
   subst bz
   clear aq hn
   have i1:¬(b.txs.length:Int)<(b.txs.length:Int):=by omega
   have RF:=@Hd (runT KI b.txs (st0 D.S)=(0,q)) (by rw[bw.o,List.drop_length];rfl)
   have UV:=@Hd (∀j,U j→j<w.heap.size) (λj m=>S.o j (.inr (.inl m)))
   have RB:=@Hd (wr.rangeAt o 0 [.int .u64 b.tag,.slice pa b.pay.length pc,.slice ta b.txs.length tc]) (λj v m=>by
    refine zv BQ.o j v ?_
    match j,m with
    |0,m=>exact m
    |1,m=>exact m
    |2,m=>exact m)
   have GE:=Hd (VE cZ.o)
   have ID:=Hd (zaE GW.o (HB.o wr (FR.o.mono (λj e=>e.imp_right (QT.o j)))))
   rw[GE.o.1] at ID
   have HH:=Hd (zbr b)
   have bX:=Hd (zu HH.o)
   have aJ:=Hd (zcp b)
   have aK:=@Hd (∀c∈vH b,c.ok) (zad HH.o bW.o.2 (by omega))
   have de:=@Hd (((vH b).map (·.at_)).Nodup) (Xd _ _)
   have PE:=@Hd (vH b=Zn (ZW b) b.pay) (rfl)
   have dk:=@Hd (q.S.length≤90000) (by have:=F.o.len;have:=aI.o.1;omega)
   have aT:=@Hd (jD q.S (vH b)≠0→∀w',vo w0 w' p s U O bv css ⟨q.S,D.bs,M⟩→Fr U wr w'→DoP w0 w p s O U bv css D o T b (doR KI D.S b) (.returned (.int .i64 10)) w') (λhE w' hc f=>by
    rw[zg8 RF.o,if_neg hE]
    refine⟨M,Z.o,rfl,hc,FR.o.trans f (λj _ e=>.inl (.inr (.inl e))),rfl,_,f.obj BQ.o (λe=>NQ.o (.inr (.inl e))),?_⟩
    exact zaJ (bcs:=[_,_,_]) (HB.o.same ((FR.o.trans f (λj _ e=>.inl (.inr (.inl e)))).mono (λj e=>e.imp_right (QT.o j)))) (by rw[F.o.il];exact zb OI.o f (λj m e=>by have:=(NI.o j m).1;have:=UV.o j e;omega)) F.o.iok (KR.o.fr f (λj _ e=>.inl (.inl (.inr (.inl e)))) (λj m e=>by have:=(NC.o j m).1;have:=UV.o j e;omega)) (λj e=>.inl e) (λj e=>e.elim (λe=>S.o j e) (λe=>TL.o j e)) (by rw[F.o.cl];omega))
   have⟨K0,K1,K2⟩:=tZ3
   go_wp2_with ((first|((with_reducible refine zt ?_);clear K0;refine znX rfl rfl rfl RB.o rfl ?_)|(clear K1;go_at_call 57;refine ID.o.mono ?_;rintro e w2 ⟨rfl,f2⟩;have F2:=Hd f2;clear f2)|((with_reducible refine zr ?_);clear K2;refine zn3 (w:=w2) (cs:=zd (ZW b)) rfl rfl rfl rfl bX.o zE ?_;have F3:=Hd (F2.o.trans0 ((frN w2).alloc (.cells (zd (ZW b)).toArray 45)));have B3:=Hd (ye w2 (.cells (zd (ZW b)).toArray 45));generalize w2.alloc (.cells (zd (ZW b)).toArray 45)=w3 at*;generalize dx:w2.heap.size=q3 at*));go_frame)
   have FD:=Hd (F3.o.trans0 (frN w3).drew)
   have bK:=Hd (FD.o.obj BQ.o _root_.id)
   have cL:=Hd (zag (zv bK.o)).2.1
   have ck:=Hd (za (zv B3.o) (frN w3).drew _root_.id)
   have cY:=@Hd (xg w3.drew (.slice pa b.pay.length pc) b.pay) (b8.o _ ((FR.o.trans0 FD.o).mono (λj e=>e.imp_right (QT.o j))))
   refine wrLx [ff,ff,ff,ff,ff,ff,tt,ff] (λw'=>w'.cell? ⟨o,1,none⟩=some (.slice pa b.pay.length pc)∧w'.rangeAt q3 0 (zd (ZW b))) ?_ (λK hK=>?_)
   ·exact⟨cL.o,ck.o⟩
   generalize w3.drew=w4 at*
   repeat((first|(refine zk rfl ?_;constructor;constructor;(focus(first|exact zn0 rfl (λw h=>h.2) bX.o|(rintro w' ⟨s1,s2⟩;exact goS))))|(refine zl rfl ?_));try simp only[Act.put,pA,pB,pC])
   (refine zM rfl (λK' hK'=>?_))
   go_simp
   refine(zae w4 HH.o cY.o (by omega)).mono ?_
   rintro e w5 ⟨pv,rfl,o5,f5⟩
   rw[←PE.o] at o5
   have F5:=Hd (FD.o.trans0 f5)
   have av:=Hd (f5.obj bK.o _root_.id)
   have O5:=Hd o5
   have cJ:=Hd (za ck.o f5 _root_.id)
   obtain⟨va,vc,du⟩:=o5.slice.arg.form
   subst du
   clear o5 f5
   refine nXt hK' ?_ λhS=>?_
   ·exact⟨(zag (zv av.o)).2.1,cJ.o⟩
   try simp only[Act.put,pA,pB,pC]
   repeat((first|(refine zk rfl ?_;constructor;constructor;(focus(first|(rintro w' ⟨s1,s2⟩;exact goS))))|(refine zl rfl ?_));try simp only[Act.put,pA,pB,pC])
   refine zN (hK.out _ _ ?_)
   have aG:=Hd (CH.o.fr0 F5.o)
   have P5:=aG.o.cells.1
   have CI:=@Hd (vt w5 (.slice va b.pay.length vc) (vH b)) (⟨aK.o,by rw[aJ.o];exact O5.o.slice.arg⟩)
   have ao:=Hd (zhu aG.o.set CI.o (by rw[aJ.o];have:=dk.o;show _+q.S.length≤_;omega))
   by_cases hE:jD q.S (vH b)=0
   rotate_left
   ·have bQ:=@Hd (jD q.S (vH b)=10) (by
     unfold jD at hE⊢
     rw[if_pos de.o] at hE⊢
     split<;>simp_all)
    have df:=@Hd (JQ q.S (vH b)=q.S) (by unfold JQ;rw[if_neg hE])
    have ah:=Hd (aT.o hE)
    have ai:=@Hd (Calls prog 99 #[.pointer (some ⟨s,0,none⟩),.slice va b.pay.length vc] w5 λe w'=>e=.returned (.int .i64 10)∧CS w0 w' s U q.S∧Fr U w5 w') (by have:=ao.o;rw[show jD (ChD.mk q.S D.bs M).S (vH b)=10 from bQ.o,show JQ (ChD.mk q.S D.bs M).S (vH b)=q.S from df.o] at this;exact this)
    clear hE ao bQ
    go_wp2_with (go_at_call 99;refine ai.o.mono ?_;rintro e w6 ⟨rfl,aC,f6⟩;have bd:=Hd (aG.o.setS aC f6);have F6:=Hd (F5.o.of0.trans f6 (λ_ _ e=>e));clear aC f6)
    go_ret
    exact ah.o _ bd.o F6.o
   ·have cW:=Hd hE
    have ai:=@Hd (Calls prog 99 #[.pointer (some ⟨s,0,none⟩),.slice va b.pay.length vc] w5 λe w'=>e=.returned (.int .i64 0)∧CS w0 w' s U (jQ q.S (vH b))∧Fr U w5 w') (by have:=ao.o;rw[show jD (ChD.mk q.S D.bs M).S (vH b)=0 from hE,show JQ (ChD.mk q.S D.bs M).S (vH b)=jQ q.S (vH b) from by unfold JQ;rw[if_pos (show jD (ChD.mk q.S D.bs M).S (vH b)=0 from hE)]] at this;exact this)
    clear hE ao aT
    have H4:=@Hd (w.heap.size≤wr.heap.size∧wr.heap.size≤w4.heap.size) (⟨FR.o.size,FD.o.size⟩)
    go_wp2_with (first|(go_at_call 99;refine ai.o.mono ?_;rintro e w6 ⟨rfl,aC,f6⟩;have bd:=Hd (aG.o.setS aC f6);have F6:=Hd (F5.o.of0.trans f6 (λ_ _ e=>e));have O6:=Hd (zb O5.o f6 (λj m hu=>by have:=(O5.o.lt j m).1;have:=UV.o j hu;have:=H4.o;omega));have L6:=Hd (Nat.le_trans F5.o.size f6.size);clear aC f6))
    have FA:=Hd ((frN w6).alloc (.cells #[.slice none 0 0,.slice none 0 0] 201))
    have BA:=Hd (ye w6 (.cells #[.slice none 0 0,.slice none 0 0] 201))
    have QA:=@Hd ((w6.alloc (.cells #[.slice none 0 0,.slice none 0 0] 201)).heap.size=w6.heap.size+1) (by simp)
    generalize w6.alloc (.cells #[.slice none 0 0,.slice none 0 0] 201)=w7 at*
    generalize cG:w6.heap.size=u at*
    have cU:=Hd (F6.o.trans0 FA.o)
    have O7:=Hd (zb O6.o FA.o (λ_ _=>_root_.id))
    have OL:=@Hd (∀j,(Value.slice va b.pay.length vc).ownBlock=some j→j<u) (λj m=>by rw[←cG];exact(O6.o.lt j m).2)
    go_loopw [112] (λiv wq=>∃(n:Nat) (mv:Value),iv=.int .i64 n∧n≤b.pay.length∧wq.heap[u]? =some (.cells #[.slice none 0 0,mv] 201 (0,0))∧wq.ownsRow w7.heap.size 56 33 mv n ((((vH b).map (·.at_)).take n).flatMap zm)∧Fr (λj=>j=u) w7 wq) (λiv _=>b.pay.length-(intOf iv).toNat)
    case atStart=>exact⟨0,.slice none 0 0,rfl,Nat.zero_le _,BA.o,World.ownsRow_nil _ _ _ 33,Fr.refl _ _⟩
    case round=>
     obtain⟨n,mv,rfl,hn,aE,bA,fr⟩:=hrel
     rename World=>wq
     have FQ:=Hd fr
     have bJ:=Hd aE
     have OR:=Hd bA
     obtain⟨ma,mc,dt⟩:=bA.slice.arg.form
     subst dt
     clear fr aE bA
     by_cases aq:n<b.pay.length
     ·have i1:(n:Int)<(b.pay.length:Int):=by omega
      obtain⟨c,hx⟩:∃x,(vH b)[n]? =some x:=⟨_,List.getElem?_eq_getElem (by rw[aJ.o];exact aq)⟩
      have bN:=Hd (aK.o c (List.mem_of_getElem? hx))
      have CL:=Hd (xI bN.o)
      have PL:=Hd (zW bN.o.1)
      obtain⟨g,cap,hv,hr,-⟩:=yZ (f:=z7) (k:=66) (L:=vH b) (by decide) (λx hx=>xI (aK.o x hx)) (show wq.ownsRow w4.heap.size 60 66 (.slice va b.pay.length vc) b.pay.length ((vH b).flatMap z7) from zb O7.o FQ.o (λj m e=>by have:=OL.o j m;omega)) hx
      cases hv
      have R1:=Hd hr
      have FB:=Hd ((frN wq).alloc (.cells (z7 c).toArray 60))
      have RP:=Hd (JF (zq wq (z7 c) 60))
      have c3:=@Hd (((vH b).map (·.at_))[n]? =some c.at_) (by simp[hx])
      have bI:=Hd (FB.o.obj bJ.o _root_.id)
      obtain⟨v5,C,a1,a2,a3,a4,a5⟩:=yA (P:=prog) (wq.alloc (.cells (z7 c).toArray 60)) w7.heap.size 72 72 56 33 36 _ JX Y3 (by show(zm vi).toArray.size=33;rfl) (by decide) (zb OR.o FB.o (λ_ _=>_root_.id)) (zm c.at_) PL.o yF (by omega) (by unfold maxLen;omega) (Nat.le_trans FQ.o.size FB.o.size)
      have A1:=Hd a1
      have br:=@Hd (C.ownsRow w7.heap.size 56 33 v5 (n+1) ((((vH b).map (·.at_)).take (n+1)).flatMap zm)) (by rw[Xf zm c3.o];exact a2)
      have c9:=@Hd (∀j,(Value.slice ma n mc).ownBlock=some j→j≠u) (λj m e=>by have:=(OR.o.lt j m).1;have:=QA.o;omega)
      have aw:=Hd (a3.obj bI.o (λe=>c9.o _ e rfl))
      have cR:=@Hd (Fr (λj=>j=u) w7 C) ((FQ.o.trans0 FB.o).trans a3 (λj m e=>by have:=(OR.o.lt j e).1;omega))
      have da:=@Hd (∀j,v5.ownBlock=some j→j≠u) (λj m e=>by have:=(br.o.lt j m).1;have:=QA.o;omega)
      have cA:(wq.alloc (.cells (z7 c).toArray 60)).cell? ⟨u,1,none⟩=some (.slice ma n mc):=by have:=zv bI.o 1 _ rfl;simpa using this
      have cB:C.cell? ⟨u,1,none⟩=some (.slice ma n mc):=by have:=zv aw.o 1 _ rfl;simpa using this
      have fB:=yp (i:=1) aw.o
      clear hr a1 a2 a3 a4 a5
      obtain⟨A,B,bD⟩:=br.o.slice.arg.form
      subst bD
      have c5:=Hd (heap_setCell_same C u 1 _ _ (.slice A (n+1) B) aw.o)
      have cT:=@Hd (Fr (λj=>j=u) w7 (C.setCell ⟨u,1,none⟩ (.slice A (n+1) B))) (cR.o.setCell _ (.inr rfl) _)
      have dd:=Hd (zb br.o (show Fr (λj=>j=u) C (C.setCell ⟨u,1,none⟩ (.slice A (n+1) B)) from(Fr.refl (λj=>j=u) C).setCell ⟨u,1,none⟩ (.inr rfl) _) (λj m e=>da.o j m e))
      have⟨K0,K1,K2,K3,K4⟩:=tZ5
      go_wp2_with ((first|((with_reducible refine zt ?_);first|(clear K0;refine znY rfl rfl rfl R1.o CL.o ?_)|(clear K2;refine znW rfl rfl rfl RP.o PL.o ?_)|(clear K3;refine zg rfl (zK (t:=72) rfl rfl JX XG rfl (by decide) (by decide) PL.o) ?_)|(clear K4;at_builtin;refine zJ rfl rfl rfl rfl A1.o ?_))|((with_reducible refine zr ?_);clear K1;refine zn4 (w:=wq) (cs:=z7 c) rfl rfl rfl rfl CL.o qi ?_;generalize wq.alloc (.cells (z7 c).toArray 60)=wA at*));go_frame)
      go_roundw
      case rel=>exact⟨n+1,_,by go_num,by omega,c5.o,dd.o,cT.o⟩
      case measure=>simp[intOf];omega
     ·have bz:n=b.pay.length:=by omega
      subst bz
      clear aq hn i1
      have i1:¬(b.pay.length:Int)<(b.pay.length:Int):=by omega
      have bZ:=@Hd (((vH b).map (·.at_)).length=b.pay.length) (by rw[List.length_map,aJ.o])
      have c0:=@Hd (∀x∈(vH b).map (·.at_),x.ok) (λx hx=>by
       obtain⟨y,hy,rfl⟩:=List.mem_map.1 hx
       exact(aK.o y hy).1)
      have b4:=@Hd (wq.ownsRow w7.heap.size 56 33 (.slice ma b.pay.length mc) b.pay.length (((vH b).map (·.at_)).flatMap zm)) (by
       have:=OR.o
       rw[List.take_of_length_le (by rw[bZ.o];exact le_refl _)] at this
       exact this)
      have QW:=@Hd (wr.heap.size≤u) (L6.o)
      have aA:=@Hd (Fr U wr wq.drew) ((cU.o.trans FQ.o (λj m e=>by have:=QW.o;omega)).trans0 (frN wq).drew)
      have NU:=@Hd (∀j,w.heap.size≤j→¬U j) (λj m e=>by have:=UV.o j e;omega)
      have cS:=@Hd (Fr No w6 wq.drew) ((FA.o.trans FQ.o (λj m e=>by omega)).trans0 (frN wq).drew)
      have cN:=Hd (bd.o.fr0 cS.o)
      have bH:=Hd (aA.o.obj BQ.o (λe=>NQ.o (.inr (.inl e))))
      have cI:=Hd ((frN wq).drew.obj bJ.o _root_.id)
      have c4:=Hd (zb b4.o (frN wq).drew (λ_ _=>_root_.id))
      have GR:=@Hd (wq.drew.rangeAt u 0 [.slice none 0 0,.slice ma b.pay.length mc]) (by have:=zv cI.o;simpa using this)
      have dc:=Hd (zb OI.o aA.o (λj m e=>NU.o j (NI.o j m).1 e))
      have c7:=Hd (KR.o.fr aA.o (λj _ e=>.inl (.inl (.inr (.inl e)))) (λj m e=>NU.o j (NC.o j m).1 e))
      have bL:=@Hd (wq.drew.cell? ⟨o,4,none⟩=some (.slice G b.txs.length H)) (by have:=zv bH.o 4 _ rfl;simpa using this)
      go_wp2_with fail
      refine yw [ff,ff,ff,ff,ff,ff,tt,tt,ff,ff,tt] (λw'=>w'.cell? ⟨o,4,none⟩=some (.slice G b.txs.length H)∧w'.rangeAt u 0 [.slice none 0 0,.slice ma b.pay.length mc]) (by kernel_rfl) (by kernel_rfl) 10 (by kernel_rfl) (by kernel_rfl) ?_ (λK hK=>?_)
      ·exact⟨bL.o,GR.o⟩
      generalize wq.drew=z at*
      have KC:=Hd (zih (n:=b.pay.length) (l:=(vH b).map (·.at_)) (V:=λj=>((chV p U O bv j∨T j)∨(Value.slice W b.txs.length X).ownBlock=some j)∨(Value.slice G b.txs.length H).ownBlock=some j) c4.o bZ.o c0.o (λj m hv=>by
       have h1:=(b4.o.lt j m).1
       have:=QA.o
       have:=QW.o
       have:=H4.o
       rcases hv with((e|e)|e)|e
       ·have:=S.o j e;omega
       ·have:=TL.o j e;omega
       ·have:=(NI.o j e).2;omega
       ·have:=(NC.o j e).2;omega))
      obtain⟨v6,af,b1,b2,b3,b5⟩:=c7.o.append (P:=prog) (t:=140) (ty2:=140) (bytes:=48) zbB zeY rfl (by decide) KC.o rfl (XV rfl rfl) (by rw[F.o.cl];omega) (by rw[F.o.cl];unfold maxLen;omega) (by have:=aA.o.size;have:=H4.o;omega)
      obtain⟨I,N,ak⟩:=b2.form
      rw[length_append,F.o.cl] at ak
      simp only[length_singleton] at ak
      subst ak
      have B1:=Hd b1
      have K6:=Hd b2
      have ag:=Hd (b3.obj bH.o (λe=>by have:=(NC.o _ e).1;have:=QL.o;omega))
      have C6:=@Hd (af.cell? ⟨o,4,none⟩=some (.slice G b.txs.length H)) (by have:=zv ag.o 4 _ rfl;simpa using this)
      have cV:=Hd (za GR.o b3 (λe=>by have h1:u<wr.heap.size:=(NC.o _ e).2;have:=QW.o;omega))
      have fz:=yp (i:=4) ag.o
      have fs:Fr (λj=>j=o) af (af.setCell ⟨o,4,none⟩ (.slice I (b.txs.length+1) N)):=(Fr.refl (λj=>j=o) af).setCell ⟨o,4,none⟩ (.inr rfl) _
      have bq:=Hd (zb (zb dc.o b3 (λj m e=>bf.o j m e)) fs (λj m e=>by have:=(NI.o j m).1;have:=QL.o;omega))
      have au:=@Hd ((af.setCell ⟨o,4,none⟩ (.slice I (b.txs.length+1) N)).heap[o]? =some (.cells #[.int .u64 b.tag,.slice pa b.pay.length pc,.slice ta b.txs.length tc,.slice W b.txs.length X,.slice I (b.txs.length+1) N] 142 (0,0))) (by have:=heap_setCell_same af o 4 _ _ (.slice I (b.txs.length+1) N) ag.o;simpa using this)
      have bn:=Hd (K6.o.fr fs (λj _ e=>.inl (.inr (QT.o j e))) (λj m e=>by have:=(K6.o.lt j m).1;have:=QL.o;omega))
      have aS:=@Hd (Fr (λj=>(Value.slice G b.txs.length H).ownBlock=some j∨j=o) z (af.setCell ⟨o,4,none⟩ (.slice I (b.txs.length+1) N))) ((b3.mono (λj e=>.inl e)).trans fs (λj _ e=>.inr e))
      have aa:=@Hd (Fr (λj=>chV p U O bv j∨j=o) w (af.setCell ⟨o,4,none⟩ (.slice I (b.txs.length+1) N))) ((FR.o.trans aA.o (λj _ e=>.inl (.inr (.inl e)))).trans aS.o (λj m e=>by
       rcases e with e|e
       ·have:=(NC.o j e).1;omega
       ·exact .inr e))
      have ax:=Hd (cN.o.frV aS.o (λj m e=>by
       have:=S.o j m
       rcases e with e|e
       ·have:=(NC.o j e).1;omega
       ·exact NQ.o (e▸m)) (λj e=>by
       have:=bV.o.size
       rcases e with e|e
       ·have:=(NC.o j e).1;omega
       ·rw[e];exact LQ.o) (λi d cs h1 h2 w' f=>HK.o i d cs h1 h2 w' (aa.o.trans (f.mono (λj m=>.inl m)) (λ_ _ h=>h))))
      have bo:=@Hd (∀w',Fr No z w'→w'.cell? ⟨o,4,none⟩=some (.slice G b.txs.length H)∧w'.rangeAt u 0 [.slice none 0 0,.slice ma b.pay.length mc]) (λw' f=>⟨f.cell bL.o _root_.id,za GR.o f _root_.id⟩)
      clear b1 b2 b3 b5 fs
      repeat((first|(refine yk rfl ?_;constructor;constructor;(focus(first|exact y5 (ty:=201) rfl (λw h=>h.2) uG rG vI|(rintro w' ⟨s1,s2⟩;exact goS))))|(refine yl rfl ?_));try simp only[Act.put,pA,pB,pC])
      (refine yf rfl (λK' hK'=>?_))
      refine yD (zK (t:=140) rfl rfl zbB zdm rfl (by decide) (by decide) rfl) ?_
      refine hK'.out _ _ (λ_=>?_) (λhS=>?_)
      ·exact bo.o _ ((frN z).alloc _)
      try simp only[Act.put,pA,pB,pC]
      (refine yf rfl (λK' hK'=>?_))
      refine yE rfl rfl rfl B1.o ?_
      refine hK'.out _ _ (λ_=>?_) (λhS=>?_)
      ·exact⟨C6.o,cV.o⟩
      try simp only[Act.put,pA,pB,pC]
      repeat((first|(refine yk rfl ?_;constructor;constructor;(focus(first|(rintro w' ⟨s1,s2⟩;exact goS))))|(refine yl rfl ?_));try simp only[Act.put,pA,pB,pC])
      (refine yf rfl (λK' hK'=>?_))
      go_simp
      refine hK'.out _ _ (λh=>absurd rfl h) (λhS=>?_)
      refine xV (hK.out _ _ ?_)
      clear fz
      go_wp2_with fail
      go_ret
      rw[zg8 RF.o,if_pos cW.o]
      refine⟨M,Z.o,rfl,ax.o,aa.o,rfl,_,au.o,?_⟩
      exact zaJ (bcs:=[_,_,_]) (HB.o.same (aa.o.mono (λj e=>e.imp_right (QT.o j)))) (by rw[F.o.il];exact bq.o) F.o.iok bn.o (λj e=>.inl e) (λj e=>e.elim (λe=>S.o j e) (λe=>TL.o j e)) (by rw[length_append,F.o.cl];simp;omega)
structure Gd (w0 w:World) (p:Nat) (V:Nat→Prop) (S0:List zn) (S:List zn) (bs:List yx):Prop where
 hist:zaw S0 bs S
 srt0:qF S0
 ok0:∀c∈S0,c.ok
 len0:S0.length≤300
 cn:Cn w0 w p V S bs (zS bs)
section
variable {w0 w w':World} {p:Nat} {V:Nat→Prop} {S0 S:List zn} {bs:List yx}
theorem Gd.hok (h:Gd w0 w p V S0 S bs):HOk S0 bs S:=h.hist.good h.srt0 h.ok0
theorem Gd.fr (h:Gd w0 w p V S0 S bs):Fr No w0 w:=h.cn.fr
theorem Gd.hi (h:Gd w0 w p V S0 S bs):∀j,V j→j<w.heap.size:=h.cn.hi
theorem Gd.lo (h:Gd w0 w p V S0 S bs):∀j,V j→w0.heap.size≤j:=h.cn.lo
theorem Gd.slen (h:Gd w0 w p V S0 S bs) (a:bs.length≤200):S.length≤30000:=by
 have:=h.hok.len
 have:=h.len0
 omega
theorem zh9 {bs:List yx} (h:∀d∈bs,d.ids.length≤16):(zS bs).length≤16*bs.length:=by
 induction bs with
 |nil=>simp[zS]
 |cons d l ih=>
  have b:=ih (λx a=>h x (.tail _ a))
  have c:=h d (.head _)
  have e:zS (d::l)=d.ids++zS l:=by simp[zS]
  rw[e,length_append,length_cons]
  omega
def GdX (w0 w:World) (p:Nat) (V:Nat→Prop) (S0 S:List zn) (bs:List yx) (css:List (List Value)):Prop:=
 zaw S0 bs S∧∃s U mi bv M,vo w0 w p s U mi bv css ⟨S,bs,M⟩∧V=chV p U mi bv∧(∀x,x∈zS bs↔∃v,(x,v)∈M)∧∀x v,(x,v)∈M→0<v
theorem Gd.x (h:Gd w0 w p V S0 S bs):∃css,GdX w0 w p V S0 S bs css:=by
 obtain⟨M,⟨s,U,f,c,css,e,d⟩,b,a⟩:=h.cn
 exact⟨css,h.hist,s,U,f,c,M,e,d,b,a⟩
theorem GdX.gd {css:List (List Value)} (h:GdX w0 w p V S0 S bs css) (srt:qF S0) (ok:∀c∈S0,c.ok) (i:S0.length≤300):Gd w0 w p V S0 S bs:=by
 obtain⟨g,s,U,j,d,M,f,e,b,a⟩:=h
 exact⟨g,srt,ok,i,M,⟨s,U,j,d,css,f,e⟩,b,a⟩
theorem GdX.cl {css:List (List Value)} (h:GdX w0 w p V S0 S bs css):css.length=bs.length:=by
 obtain⟨f,s,U,g,d,M,b,e,c,a⟩:=h
 exact b.cl
theorem GdX.fr0 {css:List (List Value)} (h:GdX w0 w p V S0 S bs css) (f:Fr No w w'):GdX w0 w' p V S0 S bs css:=by
 obtain⟨g,s,U,i,c,M,e,d,b,a⟩:=h
 exact⟨g,s,U,i,c,M,e.fr0 f,d,b,a⟩
theorem GdX.frV {css:List (List Value)} (h:GdX w0 w p V S0 S bs css) {W:Nat→Prop} (f:Fr W w w') (g:∀j,V j→¬W j) (e:∀j,W j→w0.heap.size≤j) (m:∀(i:Nat) (d:yx) (cs:List Value),bs[i]? =some d→css[i]? =some cs→Kept V w' (λw=>jG w d cs)):GdX w0 w' p V S0 S bs css:=by
 obtain⟨n,s,U,o,c,M,l,k,b,a⟩:=h
 subst k
 exact⟨n,s,U,o,c,M,l.frV f g e m,rfl,b,a⟩
structure CX (w0 w:World) (p:Nat) (V X:Nat→Prop) (S0 S:List zn) (bs:List yx) (css:List (List Value)):Prop where
 gd:GdX w0 w p V S0 S bs css
 srt0:qF S0
 ok0:∀c∈S0,c.ok
 len0:S0.length≤300
 data:∀(i:Nat) (d:yx) (cs:List Value),bs[i]? =some d→css[i]? =some cs→Kept (λj=>V j∨X j) w (λw=>jG w d cs)
theorem CX.g {css:List (List Value)} (h:CX w0 w p V X S0 S bs css):Gd w0 w p V S0 S bs:=h.gd.gd h.srt0 h.ok0 h.len0
theorem CX.frV {X X':Nat→Prop} {css:List (List Value)} (h:CX w0 w p V X S0 S bs css) {W:Nat→Prop} (f:Fr W w w') (k:∀j,V j→¬W j) (g:∀j,W j→w0.heap.size≤j) (c:∀j,W j→X j) (l:∀j,j<w.heap.size→X' j→X j):CX w0 w' p V X' S0 S bs css:=
 {h with
  gd:=h.gd.frV f k g (λi d cs a b=>(h.data i d cs a b).step (f.mono (λj e=>.inr (c j e))) (λj _ e=>.inl e))
  data:=λi d cs a b=>(h.data i d cs a b).step (f.mono (λj e=>.inr (c j e))) (λj m e=>e.imp_right (l j m))}
def zmW (X:Nat→Prop) (css:List (List Value)) (w0 w:World) (p:Nat) (V:Nat→Prop) (S0:List zn) (S:List zn) (bs:List yx) (b:qf) (e:Ending) (w':World):Prop:=
 e=.returned (.int .i64 (qs (zS bs) S bs b))∧Fr V w w'∧∃V' css',(∀j,V' j→V j∨w.heap.size≤j)∧GdX w0 w' p V' S0 (Ys (zS bs) S bs b) (ZH (zS bs) S bs b) css'∧
  ((ZH (zS bs) S bs b=bs∧css'=css)∨∃d csd,ZH (zS bs) S bs b=bs++[d]∧css'=css++[csd]∧Kept (λj=>V' j∨X j) w' (λw=>jG w d csd))
theorem zmm (hg:vp w0) {css:List (List Value)} (h:GdX w0 w p V S0 S bs css) (u:qF S0) (T:∀c∈S0,c.ok) (r:S0.length≤300) (hX:∀j,X j→j<w.heap.size) (hB:bs.length≤200) {b:qf} (hb:vG w b cs):
  Calls prog 24 #[.pointer (some ⟨p,0,none⟩),.agg cs.toArray] w (zmW X css w0 w p V S0 S bs b):=by
 have hok:=(h.gd u T r).hok
 have aj:=(h.gd u T r).slen hB
 have ab:=h
 obtain⟨W,s,U,Q,Z,M,hc,hV,m,i⟩:=h
 by_cases hpre:Xs ⟨S,bs,M⟩ b=0
 ·have o:¬1024≤bs.length∧vy b=true∧b.pay.any jb=false:=by
   unfold Xs at hpre
   dsimp only at hpre
   split at hpre
   ·cases hpre
   ·rename_i I
    split at hpre
    ·rename_i C
     split at hpre
     ·cases hpre
     ·rename_i L
      exact⟨I,C,by simpa using L⟩
    ·cases hpre
  obtain⟨I,C,L⟩:=o
  have D:qs (zS bs) S bs b=(doR (zS bs) S b).E:=by
   unfold qs
   rw[if_neg I,if_pos C,L,if_neg (by decide)]
  obtain⟨p1,p2,p3⟩:=Qk C
  have z:=hb.oks
  obtain⟨a1,a2,a3,a4,a5,a6,a7,a8,a9,ah⟩:=zdZ (K:=zS bs) hok.srt hok.ok (λt ht=>(z.1 t ht).2) z.2 p2 p1
  have ai:M.length≤1000000:=by
   have ag:(M.map (·.1)).Nodup:=hc.map.nodup
   have h5:=(zaq (B:=zS bs) ag (λx k=>by
    obtain⟨y,hy,rfl⟩:=List.mem_map.1 k
    exact(m _).2 ⟨y.2,hy⟩)).1
   have h6:=zh9 (λd hd=>(hok.ds d hd).1)
   rw[List.length_map] at h5
   omega
  refine(zdX hg hc hb hpre (R:=doR (zS bs) S b) (λw cs Y=>zla w Y (by omega) (by omega) (λt ht=>?_)) hX (λw' dq bcs h' Y hn hl k hk P hd=>(zmq hg h' m i Y hn hl (.inl rfl) (λj n=>n.elim (λe=>by rw[e];exact yr Y) (k j)) hk P hok.srt (by show S.length≤_;omega) (by show bs.length≤_;omega) (by show M.length≤_;omega) hd).mono λe ak W=>W) ⟨by omega,by omega,by omega⟩).mono λe w' ⟨he,hf,A,N⟩=>?_
  ·obtain⟨q1,q2,q3⟩:=xe.1 (p3 t ht)
   exact⟨by omega,by omega,λx k=>by have:=q1 x k;omega⟩
  ·have g:∀j,chV p U Q Z j↔V j:=λj=>by rw[hV]
   refine⟨by rw[he,D],hf.mono (λj n=>(g j).1 n),?_⟩
   by_cases hz:(doR (zS bs) S b).E=0
   ·obtain⟨E,F,M',l,q,ae,aa,ad,af⟩:=A hz
    have a:qs (zS bs) S bs b=0:=by rw[D];exact hz
    refine⟨chV p U Q E,F,λj n=>?_,?_⟩
    ·rcases n with e|e|e|e
     ·exact .inl ((g j).1 (.inl e))
     ·exact .inl ((g j).1 (.inr (.inl e)))
     ·exact .inl ((g j).1 (.inr (.inr (.inl e))))
     ·exact(ae j e).imp_left (λe=>(g j).1 (.inr (.inr (.inr e))))
    ·have G:Ys (zS bs) S bs b=(doR (zS bs) S b).S:=by unfold Ys;rw[if_pos a]
     have H:ZH (zS bs) S bs b=bs++[(doR (zS bs) S b).d]:=by unfold ZH;rw[if_pos a]
     rw[G,H]
     refine⟨⟨.snoc W z a,s,U,Q,E,M',l,rfl,λx=>?_,λx v k=>?_⟩,.inr ⟨_,aa,rfl,ad,af⟩⟩
     ·rw[Vl,mem_append,m]
      constructor
      ·rintro(⟨v,hv⟩|k)
       ·exact⟨v,(q.1 x v).2 (.inl hv)⟩
       ·exact⟨_,(q.1 x _).2 (.inr ⟨k,rfl⟩)⟩
      ·rintro⟨v,hv⟩
       exact((q.1 x v).1 hv).imp (λh=>⟨v,h⟩) (λh=>h.1)
     ·rcases(q.1 x v).1 k with h|⟨_,h⟩
      ·exact i x v h
      ·rw[h];show(0:Int)<(bs.length:Int)+1;omega
   ·obtain⟨M',l,O⟩:=N hz
    have a:qs (zS bs) S bs b≠0:=by rw[D];exact hz
    have G:Ys (zS bs) S bs b=S:=by unfold Ys;rw[if_neg a]
    have H:ZH (zS bs) S bs b=bs:=by unfold ZH;rw[if_neg a]
    rw[a4] at l
    refine⟨chV p U Q Z,css,λj n=>.inl ((g j).1 n),?_⟩
    rw[G,H]
    exact⟨⟨W,s,U,Q,Z,M',l,rfl,λx=>by rw[m];simp only[O],λx v k=>i x v ((O x v).1 k)⟩,.inl ⟨rfl,rfl⟩⟩
 ·have D:qs (zS bs) S bs b=Xs ⟨S,bs,M⟩ b:=by
   unfold Xs at hpre⊢
   unfold qs
   dsimp only at hpre⊢
   split
   ·rfl
   ·rename_i I
    rw[if_neg I] at hpre
    split
    ·rename_i C
     rw[if_pos C] at hpre
     split
     ·rfl
     ·rename_i L
      rw[if_neg L] at hpre
      exact absurd rfl hpre
    ·rfl
  have a:qs (zS bs) S bs b≠0:=by rw[D];exact hpre
  refine(zeM hg hc hb (by show bs.length≤_;omega) hpre).mono λe w' ⟨he,f⟩=>⟨by rw[he,D],f.of0,V,css,λj n=>.inl n,?_⟩
  have G:Ys (zS bs) S bs b=S:=by unfold Ys;rw[if_neg a]
  have H:ZH (zS bs) S bs b=bs:=by unfold ZH;rw[if_neg a]
  rw[G,H]
  exact⟨ab.fr0 f,.inl ⟨rfl,rfl⟩⟩
theorem zml (B:vp w0) {css:List (List Value)} {X X':Nat→Prop} (h:CX w0 w p V X S0 S bs css) (x:∀j,X' j→j<w.heap.size) (o:∀j,X' j→X j) (v:bs.length≤200) {b:qf} (y:vG w b cs):
  Calls prog 24 #[.pointer (some ⟨p,0,none⟩),.agg cs.toArray] w λe w'=>e=.returned (.int .i64 (qs (zS bs) S bs b))∧Fr V w w'∧∃V' a,(∀j,V' j→V j∨w.heap.size≤j)∧CX w0 w' p V' X' S0 (Ys (zS bs) S bs b) (ZH (zS bs) S bs b) a:=by
 have g:=h.gd.cl
 refine(zmm B h.gd h.srt0 h.ok0 h.len0 x v y).mono λe w' ⟨A,s,V',a,t,q,z⟩=>⟨A,s,V',a,t,q,h.srt0,h.ok0,h.len0,?_⟩
 have k:∀(i:Nat) (d:yx) (cs:List Value),bs[i]? =some d→css[i]? =some cs→Kept (λj=>V' j∨X' j) w' (λw=>jG w d cs):=λi d cs c f=>
  (h.data i d cs c f).step (s.mono (λ_ e=>.inl e)) (λj D e=>e.imp (λe=>(t j e).resolve_right (by omega)) (o j))
 rcases z with⟨m,n⟩|⟨d,u,m,n,C⟩
 ·rw[m,n]
  exact k
 ·rw[m,n]
  intro i d' l c f
  by_cases hi:i<bs.length
  ·rw[List.getElem?_append_left hi] at c
   rw[List.getElem?_append_left (by rw[g];exact hi)] at f
   exact k i d' l c f
  ·have r:i=bs.length:=by have:=(List.getElem?_eq_some_iff.1 c).1;simp only[length_append,length_singleton] at this;omega
   subst r
   rw[List.getElem?_append_right (le_refl _),Nat.sub_self] at c
   rw[List.getElem?_append_right (by rw[g];exact le_refl _),g,Nat.sub_self] at f
   simp at c f
   subst c
   subst f
   exact C
def zm0 (w0 w:World) (p:Nat) (V:Nat→Prop) (S0:List zn) (S:List zn) (bs:List yx) (d:yx) (e:Ending) (w':World):Prop:=
 ∃bcs V',e=.returned (.tuple #[.agg bcs.toArray,.int .i64 0])∧Fr V w w'∧(∀j,V' j→V j)∧Gd w0 w' p V' S0 (xP d.chg S) bs∧Kept V w' (λw=>vG w d.blk bcs)
theorem znF {d:yx} (h:Gd w0 w p V S0 S (bs++[d])) (O:bs.length≤200):
  Calls prog 26 #[.pointer (some ⟨p,0,none⟩)] w (zm0 w0 w p V S0 S bs d):=by
 have hok:=h.hok
 have G:S.length≤30000:=by
  have:=h.hok.len
  have:=h.len0
  rw[length_append] at*
  simp only[length_cons,List.length_nil] at*
  omega
 obtain⟨i,y,K,L,N,B⟩:=h.hist.undo h.srt0 h.ok0
 have P:=hok.ds d (by simp)
 obtain⟨M,⟨s,U,o,A,css,C,z⟩,t,n⟩:=h.cn
 refine(zeP C rfl (by omega) (by show S.length+_≤_;omega) (by omega) (by omega)).mono λe w' ⟨bcs,c,g,M',D,r,u,F,E,q,_⟩=>?_
 have k:∀j,chV p U o c j↔V j:=λj=>by rw[z];unfold chV;rw[q]
 have l:∀j,chV p U o A j↔V j:=λj=>by rw[z]
 refine⟨bcs,chV p U o c,D,E.mono (λj m=>(l j).1 m),λj m=>(k j).1 m,⟨i,h.srt0,h.ok0,h.len0,M',⟨s,U,o,c,g,r,rfl⟩,λx=>?_,λx v H=>n x v ((u x v).1 H).2⟩,λI f=>F I (f.mono (λj m=>(k j).2 m))⟩
 have:=VX B x
 rw[←this]
 simp only[List.mem_filter,Bool.not_eq_true',decide_eq_false_iff_not]
 rw[t]
 constructor
 ·rintro⟨⟨v,i⟩,y⟩
  exact⟨v,(u x v).2 ⟨y,i⟩⟩
 ·rintro⟨v,i⟩
  obtain⟨a,b⟩:=(u x v).1 i
  exact⟨⟨v,b⟩,a⟩
def zm1 (w0 w:World) (p:Nat) (V:Nat→Prop) (S0:List zn) (S:List zn) (bs:List yx) (d:yx) (css:List (List Value)) (e:Ending) (w':World):Prop:=
 ∃bcs V' css' tl,e=.returned (.tuple #[.agg bcs.toArray,.int .i64 0])∧Fr V w w'∧(∀j,V' j→V j)∧GdX w0 w' p V' S0 (xP d.chg S) bs css'∧Kept V w' (λw=>vG w d.blk bcs)∧css=css'++[bcs++tl]
theorem zmn {d:yx} {css:List (List Value)} (h:GdX w0 w p V S0 S (bs++[d]) css) (g:qF S0) (r:∀c∈S0,c.ok) (E:S0.length≤300) (X:bs.length≤200):
  Calls prog 26 #[.pointer (some ⟨p,0,none⟩)] w (zm1 w0 w p V S0 S bs d css):=by
 have hok:=h.1.good g r
 have N:S.length≤30000:=by
  have:=hok.len
  rw[length_append] at this
  simp only[length_cons,List.length_nil] at this
  omega
 obtain⟨l,C,R,T,W,G⟩:=h.1.undo g r
 have Y:=hok.ds d (by simp)
 obtain⟨Z,s,U,t,F,M,H,D,z,q⟩:=h
 refine(zeP H rfl (by omega) (by show S.length+_≤_;omega) (by omega) (by omega)).mono λe w' ⟨bcs,i,k,M',I,y,A,L,K,u,P,B⟩=>?_
 have m:∀j,chV p U t i j↔V j:=λj=>by rw[D];unfold chV;rw[u]
 have n:∀j,chV p U t F j↔V j:=λj=>by rw[D]
 refine⟨bcs,chV p U t i,k,P,I,K.mono (λj o=>(n j).1 o),λj o=>(m j).1 o,⟨l,s,U,t,i,M',y,rfl,λx=>?_,λx v O=>q x v ((A x v).1 O).2⟩,λQ f=>L Q (f.mono (λj o=>(m j).2 o)),B⟩
 have:=VX G x
 rw[←this]
 simp only[List.mem_filter,Bool.not_eq_true',decide_eq_false_iff_not]
 rw[z]
 constructor
 ·rintro⟨⟨v,l⟩,C⟩
  exact⟨v,(A x v).2 ⟨C,l⟩⟩
 ·rintro⟨v,l⟩
  obtain⟨a,b⟩:=(A x v).1 l
  exact⟨⟨v,b⟩,a⟩
theorem zmo {d:yx} {css:List (List Value)} (h:CX w0 w p V X S0 S (bs++[d]) css) (v:bs.length≤200):
  Calls prog 26 #[.pointer (some ⟨p,0,none⟩)] w λe w'=>∃bcs V' a,e=.returned (.tuple #[.agg bcs.toArray,.int .i64 0])∧Fr V w w'∧(∀j,V' j→V j)∧CX w0 w' p V' X S0 (xP d.chg S) bs a∧Kept (λj=>V j∨X j) w' (λw=>vG w d.blk bcs):=by
 have g:=h.gd.cl
 rw[length_append,length_singleton] at g
 refine(zmn h.gd h.srt0 h.ok0 h.len0 v).mono λe w' ⟨bcs,V',a,B,x,k,r,c,y,f⟩=>⟨bcs,V',a,x,k,r,⟨c,h.srt0,h.ok0,h.len0,λi d' cs n o=>?_⟩,?_⟩
 ·have hi:=(List.getElem?_eq_some_iff.1 n).1
  have l:=(List.getElem?_eq_some_iff.1 o).1
  exact(h.data i d' cs (by rw[List.getElem?_append_left hi];exact n) (by rw[f,List.getElem?_append_left l];exact o)).step (k.mono (λ_ e=>.inl e)) (λj _ e=>e.imp_left (r j))
 ·have z:a.length=bs.length:=c.cl
  have A:=h.data bs.length d (bcs++B) (by simp) (by rw[f,←z];simp)
  have m:∀w,vG w d.blk bcs→bcs.length=3:=λw ⟨_,_,_,_,e,_⟩=>by rw[e];rfl
  refine(A.step (k.mono (λ_ e=>.inl e)) (λ_ _ e=>e)).imp (λH E ⟨b,F,G,C,D,e,q,_⟩=>?_)
  have t:=m _ y.now
  have u:b.length=3:=by obtain⟨_,_,_,_,s,_⟩:=q;rw[s];rfl
  have:=(List.append_inj e (by rw[t,u])).1
  rw[this]
  exact q
theorem zlX (w:World) {v:Value} {l:List yC} (b:xg w v l) (d:l.length≤256):
  Calls prog 44 #[v] w λe w'=>∃p,e=.returned (.tuple #[.pointer (some ⟨p,0,none⟩),.int .i64 0])∧∃V,Gd w w' p V (jQ [] (Zn yT l)) (jQ [] (Zn yT l)) []:=by
 refine(zjS w b d).mono λe w' ⟨p,f,V,h⟩=>⟨p,f,V,.nil,?_,λc a=>?_,?_,h⟩
 ·exact JJ List.Pairwise.nil (Xd _ _) (λc a=>rfl)
 ·rcases qL.1 a with a|a
  ·cases a
  ·exact zad qY b.1 (by omega) c a
 ·rw[(Zu _ _).length_eq,List.nil_append,qZ]
  omega
end
end Go.Proofs.YtbcllfjmabiafaaGreatDoor
