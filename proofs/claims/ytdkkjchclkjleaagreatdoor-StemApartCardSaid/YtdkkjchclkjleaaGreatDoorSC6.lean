/- chain: do, of any block. -/
import Derived.Lib.Hide
import Derived.Outline
import Derived.Lib.SliceRun
import Derived.Test.YtdkkjchclkjleaaGreatDoorSC5
import Derived.Test.YtdkkjchclkjleaaGreatDoorSC4
import Derived.Test.YtdkkjchclkjleaaGreatDoorSC3
import Derived.Test.YtdkkjchclkjleaaGreatDoorSC1
import Derived.Test.YtdkkjchclkjleaaGreatDoorSC2
set_option linter.unusedVariables false
set_option linter.unusedSimpArgs false
set_option linter.unnecessarySimpa false
set_option linter.all false
set_option maxRecDepth 20000
set_option maxHeartbeats 16000000
namespace Go.Proofs.YtdkkjchclkjleaaGreatDoor
open Go Go.RowKit Go.Maps Go.MapKept
open Go.Proofs.Tryz(prog)
open List(mem_map getElem?_eq_getElem mem_append mem_of_getElem? mem_cons length_append length_map take_add_one mem_singleton take_length mem_filter map_append length_take nodup_cons map_cons length_cons nodup_append nil_append filter_append filter_eq_self mem_flatMap map_map length_singleton append_of_mem drop_drop filter_sublist)
open Nat(le_refl zero_le le_trans)
theorem TxQ.len3' {w:World} {t:TxD} {cs:List Value} (h:TxQ w t cs):cs.length=3:=by
 obtain⟨_,_,_,_,rfl,_⟩:=h
 rfl
theorem zhq {V:Nat→Prop} {w:World} {b:qA} {c g:Option Addr} {d i:Nat} (h:Kept V w (λw=>jB w b [.int .u64 b.tag,.slice c b.pay.length d,.slice g b.txs.length i])):Kept V w (λw=>xy w (.slice c b.pay.length d) b.pay)∧Kept V w (λw=>vC w (.slice g b.txs.length i) b.txs):=by
 have a:∀w',jB w' b [.int .u64 b.tag,.slice c b.pay.length d,.slice g b.txs.length i]→xy w' (.slice c b.pay.length d) b.pay∧vC w' (.slice g b.txs.length i) b.txs:=by
  rintro w' ⟨n,o,p,q,e,_,l,m⟩
  simp only[zhp,List.cons.injEq,and_true] at e
  obtain⟨-,j,k⟩:=e
  injection j with e11 _ e13
  injection k with e21 _ e23
  subst e11;subst e13;subst e21;subst e23
  exact⟨l,m⟩
 exact⟨λw' f=>(a w' (h w' f)).1,λw' f=>(a w' (h w' f)).2⟩
theorem zae {V:Nat→Prop} {w:World} {b:qA} {bcs:List Value} {a:List zd} {c:List YE} {o m:Value} {h:List (List Value)} {B:Nat} (s:Kept V w (λw=>jB w b bcs)) (hi:w.ownsRow B 41 32 o a.length (a.flatMap zf)) (l:∀x∈a,zX x)
  {V':Nat→Prop} (i:jN B 250 2 zdj V' w m c h) (r:∀j,V j→V' j) (n:∀j,V j→j<B) (y:c.length≤1000):Kept V w (λw=>jC w ⟨b,a,c⟩ (bcs++[o,m])):=by
 obtain⟨u,v,g⟩:=hi.slice.arg.form
 obtain⟨p,q,d⟩:=i.form
 have t:=i.rows (U:=V) (by decide) (by unfold maxLen;omega) (λj _ e=>r j e) (λj k e=>by have:=(i.lt j k).1;have:=n j e;omega)
 intro w' f
 refine⟨bcs,u,v,p,q,by rw[g,d],s w' f,⟨l,?_⟩,?_⟩
 ·rw[←g]
  exact(zb hi f (λj k e=>by have:=(hi.lt j k).1;have:=n j e;omega)).slice.arg
 ·have:=t w' f
  rw[d] at this
  exact this
theorem zhU {w:World} {B n:Nat} {ma:Option Addr} {a:Nat} {l:List zF} {V:Nat→Prop} (h:w.ownsRow B 95 33 (.slice ma n a) n (l.flatMap zn)) (c:l.length=n) (ok:∀x∈l,x.ok) (b:∀j,(Value.slice ma n a).ownBlock=some j→¬V j):Kept V w (λw=>zdj w ⟨[],l⟩ [.slice none 0 0,.slice ma n a]):=by
 subst c
 exact λw' f=>⟨none,0,ma,a,rfl,⟨(λx d=>by cases d),.inl (.inl ⟨rfl,rfl,rfl⟩)⟩,zaM h ok b w' f⟩
theorem zkR {K:List zd} {S:List zr} {b:qA} {E:Int} {a:StD} (h:runT K b.txs (st0 S)=(E,a)) (c:E≠0):doR K S b=⟨E,a.S,⟨b,a.ids,a.chg⟩⟩:=by
 unfold doR
 rw[h]
 exact if_neg c
theorem zgQ {K:List zd} {S:List zr} {b:qA} {a:StD} (h:runT K b.txs (st0 S)=(0,a)):doR K S b=if jJ a.S (vI b)=0 then⟨0,jR a.S (vI b),⟨b,a.ids,a.chg++[⟨[],(vI b).map (·.at_)⟩]⟩⟩ else⟨10,a.S,⟨b,a.ids,a.chg⟩⟩:=by
 unfold doR
 rw[h]
 exact if_pos rfl
def DoP (w0 w:World) (p s mi:Nat) (U:Nat→Prop) (bv:Value) (css:List (List Value)) (D:ChD) (dq:Nat) (T:Nat→Prop) (b:qA) (R:DoR) (e:Ending) (w':World):Prop:=
 ∃M',zec D.bs.length D.M M' R.d.ids∧znj w0 w p s mi U bv css D dq T b R.E R.S M' R.d e w'
def DoL (w0 w:World) (p s mi:Nat) (U:Nat→Prop) (bv:Value) (css:List (List Value)) (D:ChD) (dq:Nat) (T:Nat→Prop) (b:qA) (x0 x1 x2:Value) (K:List zd) (n:Nat) (wr:World):Prop:=
 ∃(st:StD) (M:List (zd×Int)) (iv cv:Value) (ccs:List (List Value)),runT K b.txs (st0 D.S)=runT K (b.txs.drop n) st∧zck D.S K n st∧zec D.bs.length D.M M st.ids∧M.length≤D.M.length+n∧
  qT w0 wr p s U mi bv css ⟨st.S,D.bs,M⟩∧wr.heap[dq]? =some (.cells #[x0,x1,x2,iv,cv] 207 (0,0))∧wr.ownsRow w.heap.size 41 32 iv n (st.ids.flatMap zf)∧
  jN w.heap.size 250 2 zdj (λj=>(chV p U mi bv j∨T j)∨iv.ownBlock=some j) wr cv st.chg ccs∧(∀j,iv.ownBlock=some j→cv.ownBlock=some j→False)∧Fr (λj=>chV p U mi bv j∨j=dq) w wr
theorem zmt {w0 w:World} (hg:vj w0) {p s O:Nat} {U:Nat→Prop} {bv:Value} {css:List (List Value)} {D:ChD} (h:qT w0 w p s U O bv css D) {KI:List zd} (hK:∀x,x∈KI↔∃v,(x,v)∈D.M) (aY:∀x v,(x,v)∈D.M→0<v) {o:Nat} {b:qA} {bcs:List Value}
  (hq:w.heap[o]? =some (.cells (bcs++[Value.slice none 0 0,Value.slice none 0 0]).toArray 207 (0,0))) (cD:¬chV p U O bv o) (cy:w0.heap.size≤o)
  {T:Nat→Prop} (hT:T o) (ct:∀j,T j→j<w.heap.size) (hb:Kept (λj=>chV p U O bv j∨T j) w (λw=>jB w b bcs)) (hok:vD b=true) (cI:qV D.S) (hN:D.S.length≤80000) (cp:D.bs.length≤100000) (cr:D.M.length≤1000000)
  (cx:∀(i:Nat) (d:yx) (cs:List Value),D.bs[i]? =some d→css[i]? =some cs→Kept (λj=>chV p U O bv j∨j=o) w (λw=>jC w d cs)):
  Calls prog 96 #[.pointer (some ⟨p,0,none⟩),.pointer (some ⟨o,0,none⟩)] w
   (DoP w0 w p s O U bv css D o T b (doR KI D.S b)):=by
 obtain⟨pa,pc,ta,tc,rfl⟩:=hb.now.form
 obtain⟨p8,dB,-⟩:=XD hok
 have bW:=J hb.now.oks
 obtain⟨a7,a8⟩:=zhq hb
 have b8:=J a7
 have cc:=J a8
 have HB:=J hb
 have HQ:=@J (w.heap[o]? =some (.cells #[.int .u64 b.tag,.slice pa b.pay.length pc,.slice ta b.txs.length tc,.slice none 0 0,.slice none 0 0] 207 (0,0))) (hq)
 obtain⟨dC,uC,rC⟩:=zbs
 obtain⟨dG,uG,rG⟩:=zgO
 have zH:=yR
 have zG:=zhh
 have zC:=zcj
 have zT:=jV
 have HC:=J h
 have G0:=J hg
 have NQ:=J cD
 have LQ:=J cy
 have aH:=J hK
 have b0:=J aY
 have S:=J h.hi
 have QL:=J (yG hq)
 have QT:=@J (∀j,j=o→T j) (λj e=>e▸hT)
 have TL:=J ct
 have c0:=J hok
 have dp:=J (zck.start cI h.set.ok KI)
 have aI:=J (And.intro hN (And.intro cp cr))
 have HK:=J cx
 have bV:=J h.fr
 have c2:=(Vw (zq hq)).2.2.1
 clear h hg hq cD cy hb hT ct hok cx hK aY a7 a8 cI hN cp cr
 go_enter Tryz.func96,Tryz.ntmps96
 go_wp2_with fail
 clear c2
 go_loopw [25] (λiv wr=>∃n:Nat,iv=.int .i64 n∧n≤b.txs.length∧DoL w0 w p s O U bv css D o T b (.int .u64 b.tag) (.slice pa b.pay.length pc) (.slice ta b.txs.length tc) KI n wr) (λiv _=>b.txs.length-(intOf iv).toNat)
 case atStart=>exact⟨0,rfl,zero_le _,st0 D.S,D.M,.slice none 0 0,.slice none 0 0,[],rfl,dp.o,⟨λx v=>by simp[st0],λx hx=>by simp[st0] at hx⟩,le_refl _,HC.o,HQ.o,World.ownsRow_nil _ _ _ 32,jN.nil _ _ _ _ _ _,(λj e=>by cases e),Fr.refl _ _⟩
 case round=>
  obtain⟨n,rfl,hn,q,M,iv,cv,ds,aZ,bB,R,cC,bx,aE,aO,aN,aW,fr⟩:=hrel
  have FR:=J fr
  have bw:=J aZ
  have F:=J bB
  have Z:=J R
  have cd:=J cC
  have CH:=J bx
  have BQ:=J aE
  have OI:=J aO
  have KR:=J aN
  have bf:=J aW
  obtain⟨W,X,du⟩:=aO.slice.arg.form
  subst du
  obtain⟨G,H,cu⟩:=aN.form
  rw[bB.cl] at cu
  subst cu
  have NI:=@J (∀j,(Value.slice W n X).ownBlock=some j→w.heap.size≤j∧j<wr.heap.size) (λj m=>aO.lt j m)
  have NC:=@J (∀j,(Value.slice G n H).ownBlock=some j→w.heap.size≤j∧j<wr.heap.size) (λj m=>aN.lt j m)
  have GW:=J (G0.o.keep0 bx.fr)
  clear fr aZ bB R cC bx aE aO aN aW
  by_cases aq:n<b.txs.length
  ·have i1:(n:Int)<(b.txs.length:Int):=by omega
   obtain⟨t,hx⟩:∃x,b.txs[n]? =some x:=⟨_,getElem?_eq_getElem aq⟩
   have HX:=J hx
   have bP:=@J (b.txs.drop n=t::b.txs.drop (n+1)) (by rw[List.drop_eq_getElem_cons aq,(List.getElem?_eq_some_iff.1 hx).2])
   obtain⟨bb,off,dr,ts,dx,-,cE,aM⟩:=Vy (by decide) (λ_ _ _ h=>TxQ.len3' h) (cc.o.same (FR.o.mono (λj e=>e.imp_right (QT.o j)))) hx
   cases dx
   obtain⟨ja,jc,ka,kc,rfl⟩:=cE.form
   have bY:=J aM
   have R1:=J aM.now.1
   have FA:=J ((frN wr).alloc (.cells #[.int .u32 t.ver,.slice ja t.ins.length jc,.slice ka t.outs.length kc] 34))
   have RA:=J (qN wr t.ver (.slice ja t.ins.length jc) (.slice ka t.outs.length kc)).2.2.2
   have QA:=@J ((wr.alloc (.cells #[.int .u32 t.ver,.slice ja t.ins.length jc,.slice ka t.outs.length kc] 34)).heap.size=wr.heap.size+1) (by simp)
   have CK:=J (XE _ (show TxQ (wr.alloc (.cells #[.int .u32 t.ver,.slice ja t.ins.length jc,.slice ka t.outs.length kc] 34)) t [.int .u32 t.ver,.slice ja t.ins.length jc,.slice ka t.outs.length kc] from(aM _ FA.o.of0).2))
   have bh:=@J (∀E,txE KI q t=E→E≠0→∀w',qT w0 w' p s U O bv css ⟨q.S,D.bs,M⟩→Fr U wr w'→DoP w0 w p s O U bv css D o T b (doR KI D.S b) (.returned (.int .i64 E)) w') (λE hE cq w' hc f=>by
    have hr:runT KI b.txs (st0 D.S)=(E,q):=by rw[bw.o,bP.o,Vz (by rw[hE];exact cq),hE]
    rw[zkR hr cq]
    have hU:∀j,U j→j<w.heap.size:=λj m=>S.o j (.inr (.inl m))
    refine⟨M,Z.o,rfl,hc,FR.o.trans f (λj _ e=>.inl (.inr (.inl e))),rfl,_,f.obj BQ.o (λe=>NQ.o (.inr (.inl e))),?_⟩
    exact zae (bcs:=[_,_,_]) (HB.o.same ((FR.o.trans f (λj _ e=>.inl (.inr (.inl e)))).mono (λj e=>e.imp_right (QT.o j)))) (by rw[F.o.il];exact zb OI.o f (λj m e=>by have:=(NI.o j m).1;have:=hU j e;omega)) F.o.iok (KR.o.fr f (λj _ e=>.inl (.inl (.inr (.inl e)))) (λj m e=>by have:=(NC.o j m).1;have:=hU j e;omega)) (λj e=>.inl e) (λj e=>e.elim (λe=>S.o j e) (λe=>TL.o j e)) (by rw[F.o.cl];omega))
   have c7:=J (λ(w':World) (f:Fr No wr w')=>Qz (GW.o.keep0 f) (show TxQ w' t [.int .u32 t.ver,.slice ja t.ins.length jc,.slice ka t.outs.length kc] from(bY.o _ f.of0).2))
   clear cE aM hx
   by_cases hck:yF t=0
   rotate_left
   ·have e0:(yF t==0)=false:=by simpa using hck
    have e1:(yF t !=0)=true:=by simpa using hck
    have ah:=J (λ(w':World) (f:Fr No wr w')=>bh.o (yF t) (by unfold txE;rw[if_neg hck]) hck w' (CH.o.fr0 f) f.of0)
    clear hck
    have⟨K0,K1,K2,K3⟩:=tZ4
    go_wp2_with ((first|((with_reducible refine zt ?_);first|(clear K0;refine zn1 rfl rfl rfl R1.o rfl ?_)|(clear K2;refine zn1 rfl rfl rfl RA.o rfl ?_))|((with_reducible refine zv ?_);clear K1;refine zi rfl (zm (w:=wr) (ty:=34) (cs:=[.int .u32 t.ver,.slice ja t.ins.length jc,.slice ka t.outs.length kc]) rfl rfl rfl rfl yZ (qM rfl rfl rfl)) ?_;generalize wr.alloc (.cells #[.int .u32 t.ver,.slice ja t.ins.length jc,.slice ka t.outs.length kc] 34)=wA at*)|(clear K3;go_at_call 32;refine CK.o.mono ?_;rintro e wB ⟨rfl,f2⟩;have FB:=J (FA.o.trans0 f2);clear f2));go_frame)
    go_ret
    exact ah.o _ FB.o
   have e0:(yF t==0)=true:=by simpa using hck
   have e1:(yF t !=0)=false:=by simpa using hck
   have bk:=J hck
   have HL:=J (zx (vG t))
   clear hck
   have⟨K0,K1,K2,K3,K4,K5,K6⟩:=tZ7
   go_wp2_with ((first|((with_reducible refine zt ?_);first|(clear K0;refine zn1 rfl rfl rfl R1.o rfl ?_)|(clear K2;refine zn1 rfl rfl rfl RA.o rfl ?_)|(clear K4;refine zn1 rfl rfl rfl RB.o rfl ?_))|((with_reducible refine zv ?_);first|(clear K1;refine zi rfl (zm (w:=wr) (ty:=34) (cs:=[.int .u32 t.ver,.slice ja t.ins.length jc,.slice ka t.outs.length kc]) rfl rfl rfl rfl yZ (qM rfl rfl rfl)) ?_;generalize wr.alloc (.cells #[.int .u32 t.ver,.slice ja t.ins.length jc,.slice ka t.outs.length kc] 34)=wA at*)|(clear K6;refine zob (w:=wC) (cs:=zf (idH t)) rfl rfl rfl rfl HL.o zS ?_;generalize wC.alloc (.cells (zf (idH t)).toArray 41)=wD at*;generalize dA:wC.heap.size=q8 at*))|(clear K3;go_at_call 32;refine CK.o.mono ?_;rintro e wB ⟨rfl,f2⟩;have FB:=J (FA.o.trans0 f2);have RB:=J (za RA.o f2 _root_.id);have S2:=J f2.size;clear f2)|(clear K5;go_at_call 15;refine(c7.o wB FB.o).mono ?_;rintro e wC ⟨rfl,f3⟩;have FC:=J (FB.o.trans0 f3);have RC:=J (za RB.o f3 _root_.id);have S3:=J f3.size;clear f3;have bS:=J ((frN wC).alloc (.cells (zf (idH t)).toArray 41));have cL:=J (ye wC (.cells (zf (idH t)).toArray 41))));go_frame)
   have FE:=J ((FC.o.trans0 bS.o).trans0 (frN wD).drew)
   have RE:=J (za (za RC.o bS.o _root_.id) (frN wD).drew _root_.id)
   have B8:=J ((frN wD).drew.obj cL.o _root_.id)
   have R8:=@J (wD.drew.rangeAt q8 0 (zf (idH t))) (by have:=zq B8.o;simpa using this)
   have Y:=J (CH.o.fr0 FE.o)
   have Q8:=@J (wr.heap.size<q8∧q8<wD.drew.heap.size) (⟨by have:=QA.o;have:=S2.o;have:=S3.o;omega,yG B8.o⟩)
   obtain⟨v,hv1,hv2⟩:∃v:Int,(Instr.lookup 120 (.map (some O)) (xp (idH t)) false).run prog wD.drew=.ok (.int .i64 v) wD.drew∧(0<v↔idH t∈KI∨idH t∈q.ids):=by
    by_cases Q:∃v,(idH t,v)∈M
    ·obtain⟨v,hm⟩:=Q
     have:=Y.o.map.look xT.keyed Zu (λ_ _=>yY) YD (yq (vG t)) false (r:=some v) (λv'=>⟨λe=>by rw[←Option.some.inj e];exact hm,λh'=>by rw[Y.o.map.uniq hm h']⟩)
     refine⟨v,by simpa using this,?_⟩
     rcases(Z.o.1 _ _).1 hm with h|⟨h,e⟩
     ·exact⟨λ_=>.inl ((aH.o _).2 ⟨v,h⟩),λ_=>b0.o _ _ h⟩
     ·exact⟨λ_=>.inr h,λ_=>by omega⟩
    ·have:=Y.o.map.look xT.keyed Zu (λ_ _=>yY) YD (yq (vG t)) false (r:=none) (λv'=>⟨λe=>(by cases e),λh'=>absurd ⟨v',h'⟩ Q⟩)
     refine⟨0,by simpa using this,⟨λe=>(by omega),λe=>?_⟩⟩
     exfalso
     apply Q
     rcases e with e|e
     ·obtain⟨v,hv⟩:=(aH.o _).1 e
      exact⟨v,(Z.o.1 _ _).2 (.inl hv)⟩
     ·exact⟨_,(Z.o.1 _ _).2 (.inr ⟨e,rfl⟩)⟩
   have LK:=J hv1
   have bm:=J hv2
   have cQ:=J Y.o.cells.2.2
   clear hv1 hv2
   refine wrLx [ff,ff,ff,ff,ff,ff,ff] (λw'=>w'.cell? ⟨p,2,none⟩=some (.map (some O))∧w'.rangeAt q8 0 (zf (idH t))∧(Instr.lookup 120 (.map (some O)) (xp (idH t)) false).run prog w'=.ok (.int .i64 v) w') ?_ (λK hK=>?_)
   ·exact⟨cQ.o,R8.o,LK.o⟩
   generalize wD.drew=z8 at*
   repeat((first|(refine zj rfl ?_;constructor;constructor;(focus(first|exact zn7 rfl (λw h=>h.2.1) HL.o|exact λw' h=>zQ (t:=120) rfl rfl rfl h.2.2|(rintro w' ⟨s1,s2,s3⟩;go_simp;(try with_reducible rfl);done))))|(refine zl rfl ?_));try simp only[Act.put,pA,pB,pC])
   refine zL (hK.out _ _ ?_)
   by_cases Q:idH t∈KI∨idH t∈q.ids
   ·have j3:0<v:=bm.o.2 Q
    have ah:=J (bh.o 19 (by unfold txE;rw[if_pos bk.o,if_pos Q]) (by decide) z8 Y.o FE.o.of0)
    clear Q
    go_wp2_with fail
    go_ret
    exact ah.o
   have j3:¬0<v:=λe=>Q (bm.o.1 e)
   have bp:=@J (idH t∉KI∧idH t∉q.ids) (⟨λe=>Q (.inl e),λe=>Q (.inr e)⟩)
   have cm:=@J (txE KI q t=spE q.S t) (by unfold txE;rw[if_pos bk.o,if_neg Q])
   clear Q LK bm
   have SL:=@J (q.S.length≤90000) (by have:=F.o.len;have:=aI.o.1;omega)
   have SP:=J (ziw (GW.o.keep0 FE.o) Y.o.obj Y.o.up Y.o.set (t:=t) (cs:=[.int .u32 t.ver,.slice ja t.ins.length jc,.slice ka t.outs.length kc]) (λw' f=>(bY.o w' (FE.o.of0.trans f (λj _ e=>.inl (.inr (.inl e))))).2) bk.o SL.o)
   by_cases R:spE q.S t=0
   rotate_left
   ·have ah:=@J (∀w',CS w0 w' s U (spS q.S t)→Fr U z8 w'→DoP w0 w p s O U bv css D o T b (doR KI D.S b) (.returned (.int .i64 (spE q.S t))) w') (λw' hc f=>by
     have e:spS q.S t=q.S:=by unfold spS;rw[if_neg R]
     rw[e] at hc
     exact bh.o (spE q.S t) cm.o R w' (Y.o.setS hc f) (FE.o.of0.trans f (λ_ _ e=>e)))
    have e2:(spE q.S t==0)=false:=by simpa using R
    have e3:(spE q.S t !=0)=true:=by simpa using R
    clear R
    have⟨K0,K1,K2⟩:=tZ3
    go_wp2_with ((first|((with_reducible refine zt ?_);clear K0;refine zn1 rfl rfl rfl RE.o rfl ?_)|(clear K1;go_at_call 134;refine SP.o.mono ?_;rintro e wE ⟨sa,sn,sc,ma,mn,mc,rfl,aD,f9,-⟩;have bl:=J aD;have F9:=J f9;clear aD f9)|((with_reducible refine zv ?_);clear K2;refine zi rfl (zm (w:=wE) (ty:=250) (cs:=[.slice sa sn sc,.slice ma mn mc]) rfl rfl rfl rfl vA (ze0 rfl rfl)) ?_));go_frame)
    go_ret
    exact ah.o _ (bl.o.fr0 ((frN wE).alloc _)) (F9.o.trans0 ((frN wE).alloc _))
   have e2:(spE q.S t==0)=true:=by simpa using R
   have e3:(spE q.S t !=0)=false:=by simpa using R
   have b6:=J R
   clear R
   have⟨K0,K1,K2⟩:=tZ3
   go_wp2_with ((first|((with_reducible refine zt ?_);clear K0;refine zn1 rfl rfl rfl RE.o rfl ?_)|(clear K1;go_at_call 134;refine SP.o.mono ?_;rintro e wE ⟨sa,sn,sc,ma,mn,mc,rfl,aD,f9,cw⟩;have bl:=J aD;have F9:=J f9;have cY:=J (cw b6.o (λj=>j<z8.heap.size) (λ_ h=>h));clear aD f9 cw;have FF:=J ((frN wE).alloc (.cells [.slice sa sn sc,.slice ma mn mc].toArray 250));have BF:=J (ye wE (.cells [.slice sa sn sc,.slice ma mn mc].toArray 250)))|((with_reducible refine zv ?_);clear K2;refine zi rfl (zm (w:=wE) (ty:=250) (cs:=[.slice sa sn sc,.slice ma mn mc]) rfl rfl rfl rfl vA (ze0 rfl rfl)) ?_;generalize wE.alloc (.cells [.slice sa sn sc,.slice ma mn mc].toArray 250)=wF at*;generalize cF:wE.heap.size=al at*));go_frame)
   have cn:=@J (txE KI q t=0) (cm.o.trans b6.o)
   have UV:=@J (∀j,U j→j<w.heap.size) (λj m=>S.o j (.inr (.inl m)))
   have FZ:=J (FF.o.trans0 (frN wF).drew)
   have bU:=@J (Fr U wr wF.drew) ((FE.o.of0.trans F9.o (λ_ _ e=>e)).trans0 FZ.o)
   have ad:=J ((Y.o.setS bl.o F9.o).fr0 FZ.o)
   have W8:=@J (w.heap.size≤wr.heap.size) (FR.o.size)
   have aU:=J (za (za R8.o F9.o (λe=>by have:=UV.o _ e;have:=Q8.o.1;have:=W8.o;omega)) FZ.o _root_.id)
   have bF:=J ((frN wF).drew.obj BF.o _root_.id)
   have dh:=@J (wF.drew.rangeAt al 0 [.slice sa sn sc,.slice ma mn mc]) (by have:=zq bF.o;simpa using this)
   have aL:=@J (z8.heap.size≤al∧al<wF.drew.heap.size) (⟨by rw[←cF];exact F9.o.size,yG bF.o⟩)
   have cR:=@J (∃ba bc,bv=.slice ba D.bs.length bc) (ad.o.row.slice.arg.form)
   obtain⟨ba,bc,dt⟩:=cR.o
   have cP:=@J (wF.drew.cell? ⟨p,1,none⟩=some (.slice ba D.bs.length bc)) (by rw[←dt];exact ad.o.cells.2.1)
   have bO:=J ad.o.cells.2.2
   obtain⟨wG,M',cH,cz,a6,bC,aX⟩:=ad.o.map.upd xT.keyed Zu (λ_ _=>yY) (yq (vG t)) (by unfold maxLen;show M.length<_;have:=cd.o;have:=aI.o.2.2;omega) ((D.bs.length:Int)+1)
   have b7:=J cH
   have cN:=@J (qT w0 wG p s U O bv css ⟨spS q.S t,D.bs,M'⟩) (ad.o.setM cz bC.fr)
   have FG:=J bC.fr
   have dn:=@J (zec D.bs.length D.M M' (q.ids++[idH t])) (⟨λx v=>by
    rw[a6 x v]
    simp only[mem_append,mem_singleton]
    constructor
    ·rintro(⟨e1,e2⟩|⟨e1,e2⟩)
     ·exact .inr ⟨.inr e1,e2⟩
     ·exact((Z.o.1 x v).1 e2).imp_right (λ⟨a,b⟩=>⟨.inl a,b⟩)
    ·rintro(e|⟨e1|e1,e2⟩)
     ·refine .inr ⟨λex=>?_,(Z.o.1 x v).2 (.inl e)⟩
      subst ex
      exact bp.o.1 ((aH.o _).2 ⟨v,e⟩)
     ·refine .inr ⟨λex=>?_,(Z.o.1 x v).2 (.inr ⟨e1,e2⟩)⟩
      subst ex
      exact bp.o.2 e1
     ·exact .inl ⟨e1,e2⟩,λx hx v hm=>by
    rcases mem_append.1 hx with hx|hx
    ·exact Z.o.2 x hx v hm
    ·simp at hx;subst hx;exact bp.o.1 ((aH.o _).2 ⟨v,hm⟩)⟩)
   have c9:=@J (M'.length≤D.M.length+(n+1)) (by have h1:M'.length≤M.length+1:=aX;have:=cd.o;omega)
   clear cH cz a6 bC aX
   unfold xp zkd at b7
   have WR:=@J (IntKind.i64.wrap ((D.bs.length:Int)+1)=(D.bs.length:Int)+1) (IntWalk.i64_in _ (by have:=aI.o.2.1;omega))
   have dy:=WR.o
   refine ym [ff,ff,ff,ff,ff,ff,ff,ff,ff,ff,ff,tt] (λw'=>w'.cell? ⟨p,2,none⟩=some (.map (some O))∧w'.rangeAt q8 0 (zf (idH t))∧w'.cell? ⟨p,1,none⟩=some (.slice ba D.bs.length bc)) (by kernel_rfl) (by kernel_rfl) 11 (by kernel_rfl) (by kernel_rfl) ?_ (λK hK=>?_)
   ·exact⟨bO.o,aU.o,cP.o⟩
   generalize wF.drew=dE at*
   repeat((first|(refine z7 rfl ?_;constructor;constructor;(focus(first|exact zn7 rfl (λw h=>h.2.1) HL.o|(rintro w' ⟨s1,s2,s3⟩;go_simp;(try with_reducible rfl);done))))|(refine ya rfl ?_));try simp only[Act.put,pA,pB,pC])
   (refine z6 rfl (λK' hK'=>?_))
   refine yN (y4 rfl rfl rfl rfl b7.o) ?_
   refine hK'.out _ _ (λh=>absurd rfl h) (λhS=>?_)
   refine xD (hK.out _ _ ?_)
   clear dy
   go_wp2_with fail
   have MI:=@J (O<w.heap.size) (S.o O (.inr (.inr (.inl rfl))))
   have ab:=J (frN wG).drew
   have FX:=@J (Fr (λj=>U j∨j=O) wr wG.drew) (((bU.o.mono (λj e=>.inl e)).trans FG.o (λj _ e=>.inr e)).trans0 ab.o)
   have XW:=@J (∀j,(U j∨j=O)→j<w.heap.size∧chV p U O bv j) (λj e=>e.elim (λe=>⟨UV.o j e,.inr (.inl e)⟩) (λe=>by rw[e];exact⟨MI.o,.inr (.inr (.inl rfl))⟩))
   have aP:=J (FX.o.obj BQ.o (λe=>NQ.o (XW.o _ e).2))
   have cg:=J (zb OI.o FX.o (λj m e=>by have:=(NI.o j m).1;have:=(XW.o j e).1;omega))
   have b9:=J (KR.o.fr FX.o (λj _ e=>.inl (.inl (XW.o j e).2)) (λj m e=>by have:=(NC.o j m).1;have:=(XW.o j e).1;omega))
   have aB:=J (za (za aU.o FG.o (λe=>by have:=MI.o;have:=W8.o;have:=Q8.o.1;omega)) ab.o _root_.id)
   have bt:=J (za (za dh.o FG.o (λe=>by have:=MI.o;have:=W8.o;have:=Q8.o;have:=aL.o.1;omega)) ab.o _root_.id)
   have bM:=J (cN.o.fr0 ab.o)
   have dj:=@J (z8.heap.size≤wE.heap.size∧wE.heap.size≤wG.drew.heap.size) (⟨F9.o.size,by have:=FZ.o.size;have:=FG.o.size;have:=ab.o.size;omega⟩)
   have aQ:=@J (wG.drew.cell? ⟨o,3,none⟩=some (.slice W n X)) (by have:=zq aP.o 3 _ rfl;simpa using this)
   refine ym [ff,ff,ff,ff,ff,ff,tt,tt,ff,ff,tt] (λw'=>w'.cell? ⟨o,3,none⟩=some (.slice W n X)∧w'.rangeAt q8 0 (zf (idH t))) (by kernel_rfl) (by kernel_rfl) 10 (by kernel_rfl) (by kernel_rfl) ?_ (λK hK=>?_)
   ·exact⟨aQ.o,aB.o⟩
   generalize wG.drew=an at*
   have aV:=@J (w.heap.size≤an.heap.size) (by have:=FX.o.size;have:=W8.o;omega)
   obtain⟨v5,C,a1,a2,a3,-,a5⟩:=yX (P:=prog) an w.heap.size 38 38 41 32 32 _ qi qI (by show(zf yO).toArray.size=32;rfl) (by decide) cg.o (zf (idH t)) HL.o zS (by omega) (by unfold maxLen;omega) aV.o
   obtain⟨A,B,bD⟩:=a2.slice.arg.form
   subst bD
   have A1:=J a1
   have O5:=@J (C.ownsRow w.heap.size 41 32 (.slice A (n+1) B) (n+1) ((q.ids++[idH t]).flatMap zf)) (by rw[List.flatMap_append];simpa using a2)
   have A5:=J a5
   have av:=J (a3.obj aP.o (λe=>by have:=(NI.o _ e).1;have:=QL.o;omega))
   have C5:=@J (C.cell? ⟨o,3,none⟩=some (.slice W n X)) (by have:=zq av.o 3 _ rfl;simpa using this)
   have di:=J (za aB.o a3 (λe=>by have h1:q8<wr.heap.size:=(NI.o _ e).2;have:=Q8.o.1;omega))
   have ch:=J (za bt.o a3 (λe=>by have h1:al<wr.heap.size:=(NI.o _ e).2;have:=aL.o.1;have:=Q8.o;omega))
   have fz:=yl (i:=3) av.o
   have fs:Fr (λj=>j=o) C (C.setCell ⟨o,3,none⟩ (.slice A (n+1) B)):=(Fr.refl (λj=>j=o) C).setCell ⟨o,3,none⟩ (.inr rfl) _
   have bR:=@J (Fr (λj=>(Value.slice W n X).ownBlock=some j∨j=o) an (C.setCell ⟨o,3,none⟩ (.slice A (n+1) B))) ((a3.mono (λj e=>.inl e)).trans fs (λj _ e=>.inr e))
   have dc:=J (zb O5.o fs (λj m e=>by have:=(O5.o.lt j m).1;have:=QL.o;omega))
   have bG:=@J ((C.setCell ⟨o,3,none⟩ (.slice A (n+1) B)).heap[o]? =some (.cells #[.int .u64 b.tag,.slice pa b.pay.length pc,.slice (some ⟨bb,off,none⟩) b.txs.length tc,.slice A (n+1) B,.slice G n H] 207 (0,0))) (by have:=heap_setCell_same C o 3 _ _ (.slice A (n+1) B) av.o;simpa using this)
   have bu:=J (za ch.o fs (λe=>by have:=aL.o.1;have:=Q8.o;have:=QL.o;have:=W8.o;omega))
   have NV:=@J (∀j,j<an.heap.size→(Value.slice A (n+1) B).ownBlock=some j→(Value.slice W n X).ownBlock=some j) (λj m e=>(A5.o j e).resolve_right (by omega))
   have ca:=@J (jN w.heap.size 250 2 zdj (λj=>(chV p U O bv j∨T j)∨(Value.slice A (n+1) B).ownBlock=some j) (C.setCell ⟨o,3,none⟩ (.slice A (n+1) B)) (.slice G n H) q.chg ds) (by
    have k1:=b9.o.vary (V':=λj=>(chV p U O bv j∨T j)∨(Value.slice W n X).ownBlock=some j∨(Value.slice A (n+1) B).ownBlock=some j) (λj m e=>e.imp_right (λe=>e.elim id (NV.o j m)))
    have k2:=k1.fr bR.o (λj _ e=>e.elim (λe=>.inr (.inl e)) (λe=>.inl (.inr (QT.o j e)))) (λj m e=>e.elim (λe=>bf.o j e m) (λe=>by have:=(NC.o j m).1;have:=QL.o;omega))
    exact k2.vary (λj _ e=>e.imp_right .inr))
   have ay:=@J (∀j,(Value.slice A (n+1) B).ownBlock=some j→(Value.slice G n H).ownBlock=some j→False) (λj h1 h2=>(A5.o j h1).elim (λh=>bf.o j h h2) (λh=>by have:=(NC.o j h2).2;have:=FX.o.size;omega))
   have KS:=@J (∀w',Fr No an w'→w'.cell? ⟨o,3,none⟩=some (.slice W n X)∧w'.rangeAt q8 0 (zf (idH t))) (λw' f=>⟨f.cell aQ.o _root_.id,za aB.o f _root_.id⟩)
   clear a1 a2 a3 a5 fs
   repeat((first|(refine z7 rfl ?_;constructor;constructor;(focus(first|exact zn7 rfl (λw h=>h.2) HL.o|(rintro w' ⟨s1,s2⟩;go_simp;(try with_reducible rfl);done))))|(refine ya rfl ?_));try simp only[Act.put,pA,pB,pC])
   (refine z6 rfl (λK' hK'=>?_))
   refine yj (zU (t:=38) rfl rfl qi vU rfl (by decide) (by decide) HL.o) ?_
   refine hK'.out _ _ (λ_=>?_) (λhS=>?_)
   ·exact KS.o _ ((frN an).alloc _)
   try simp only[Act.put,pA,pB,pC]
   (refine z6 rfl (λK' hK'=>?_))
   refine yw rfl rfl rfl A1.o ?_
   refine hK'.out _ _ (λ_=>?_) (λhS=>?_)
   ·exact⟨C5.o,di.o⟩
   try simp only[Act.put,pA,pB,pC]
   repeat((first|(refine z7 rfl ?_;constructor;constructor;(focus(first|(rintro w' ⟨s1,s2⟩;go_simp;(try with_reducible rfl);done))))|(refine ya rfl ?_));try simp only[Act.put,pA,pB,pC])
   (refine z6 rfl (λK' hK'=>?_))
   go_simp
   refine hK'.out _ _ (λh=>absurd rfl h) (λhS=>?_)
   refine xD (hK.out _ _ ?_)
   clear fz
   generalize C.setCell ⟨o,3,none⟩ (.slice A (n+1) B)=bE at*
   go_wp2_with fail
   have ae:=J (frN bE).drew
   have ar:=J (ae.o.obj bG.o _root_.id)
   have aR:=@J (bE.drew.cell? ⟨o,4,none⟩=some (.slice G n H)) (by have:=zq ar.o 4 _ rfl;simpa using this)
   have aj:=J (za bu.o ae.o _root_.id)
   have cb:=J (ca.o.fr0 ae.o)
   have cf:=J (zb dc.o ae.o (λ_ _=>_root_.id))
   refine ym [ff,ff,ff,ff,ff,ff,tt,tt,ff,ff,tt] (λw'=>w'.cell? ⟨o,4,none⟩=some (.slice G n H)∧w'.rangeAt al 0 [.slice sa sn sc,.slice ma mn mc]) (by kernel_rfl) (by kernel_rfl) 10 (by kernel_rfl) (by kernel_rfl) ?_ (λK hK=>?_)
   ·exact⟨aR.o,aj.o⟩
   generalize bE.drew=aF at*
   have bj:=J (bR.o.trans0 ae.o)
   have bT:=@J (Fr (λj=>j<z8.heap.size) wE aF) (((FZ.o.of0.trans FG.o (λj _ e=>by rw[e];have:=MI.o;have:=W8.o;have:=Q8.o;omega)).trans0 ab.o).trans bj.o (λj _ e=>by
    have:=Q8.o
    rcases e with e|e
    ·have:=(NI.o j e).2;omega
    ·rw[e];have:=QL.o;have:=W8.o;omega))
   have KC:=@J (Kept (λj=>((chV p U O bv j∨T j)∨(Value.slice A (n+1) B).ownBlock=some j)∨(Value.slice G n H).ownBlock=some j) aF (λw=>zdj w (spG q.S t) [.slice sa sn sc,.slice ma mn mc])) (cY.o.step bT.o (λj m e=>by
    have:=Q8.o
    have:=W8.o
    rcases e with((e|e)|e)|e
    ·have:=S.o j e;omega
    ·have:=TL.o j e;omega
    ·have:=(NI.o j (NV.o j (by have:=dj.o.2;omega) e)).2;omega
    ·have:=(NC.o j e).2;omega))
   have dk:=@J (w.heap.size≤aF.heap.size) (by have:=aV.o;have:=bj.o.size;omega)
   obtain⟨v6,w6,b1,b2,b3,b5⟩:=cb.o.append (P:=prog) (t:=205) (ty2:=205) (bytes:=48) zbg zeH rfl (by decide) KC.o rfl (ze0 rfl rfl) (by rw[F.o.cl];omega) (by rw[F.o.cl];unfold maxLen;omega) dk.o
   obtain⟨I,N,ak⟩:=b2.form
   rw[length_append,F.o.cl] at ak
   simp only[length_singleton] at ak
   subst ak
   have B1:=J b1
   have B5:=J b5
   have K6:=J b2
   have ag:=J (b3.obj ar.o (λe=>by have:=(NC.o _ e).1;have:=QL.o;omega))
   have C6:=@J (w6.cell? ⟨o,4,none⟩=some (.slice G n H)) (by have:=zq ag.o 4 _ rfl;simpa using this)
   have cj:=J (za aj.o b3 (λe=>by have h1:al<wr.heap.size:=(NC.o _ e).2;have:=aL.o.1;have:=Q8.o;omega))
   have fz:=yl (i:=4) ag.o
   have fs:Fr (λj=>j=o) w6 (w6.setCell ⟨o,4,none⟩ (.slice I (n+1) N)):=(Fr.refl (λj=>j=o) w6).setCell ⟨o,4,none⟩ (.inr rfl) _
   have bq:=J (zb (zb cf.o b3 (λj m e=>ay.o j m e)) fs (λj m e=>by have:=(O5.o.lt j m).1;have:=QL.o;omega))
   have au:=@J ((w6.setCell ⟨o,4,none⟩ (.slice I (n+1) N)).heap[o]? =some (.cells #[.int .u64 b.tag,.slice pa b.pay.length pc,.slice (some ⟨bb,off,none⟩) b.txs.length tc,.slice A (n+1) B,.slice I (n+1) N] 207 (0,0))) (by have:=heap_setCell_same w6 o 4 _ _ (.slice I (n+1) N) ag.o;simpa using this)
   have bn:=J (K6.o.fr fs (λj _ e=>.inl (.inr (QT.o j e))) (λj m e=>by have:=(K6.o.lt j m).1;have:=QL.o;omega))
   have bg:=@J (∀j,(Value.slice A (n+1) B).ownBlock=some j→(Value.slice I (n+1) N).ownBlock=some j→False) (λj h1 h2=>(B5.o j h2).elim (λh=>ay.o j h1 h) (λh=>by have:=(cf.o.lt j h1).2;omega))
   have az:=@J (Fr (λj=>(Value.slice W n X).ownBlock=some j∨(Value.slice G n H).ownBlock=some j∨j=o) an (w6.setCell ⟨o,4,none⟩ (.slice I (n+1) N))) (((bj.o.mono (λj e=>e.elim .inl (λe=>.inr (.inr e)))).trans b3 (λj _ e=>.inr (.inl e))).trans fs (λj _ e=>.inr (.inr e)))
   have aa:=@J (Fr (λj=>chV p U O bv j∨j=o) w (w6.setCell ⟨o,4,none⟩ (.slice I (n+1) N))) ((FR.o.trans FX.o (λj _ e=>.inl (XW.o j e).2)).trans az.o (λj m e=>by
    rcases e with e|e|e
    ·have:=(NI.o j e).1;omega
    ·have:=(NC.o j e).1;omega
    ·exact .inr e))
   have ax:=J (bM.o.frV az.o (λj m e=>by
    have:=S.o j m
    rcases e with e|e|e
    ·have:=(NI.o j e).1;omega
    ·have:=(NC.o j e).1;omega
    ·exact NQ.o (e▸m)) (λj e=>by
    have:=bV.o.size
    rcases e with e|e|e
    ·have:=(NI.o j e).1;omega
    ·have:=(NC.o j e).1;omega
    ·rw[e];exact LQ.o) (λi d cs h1 h2 w' f=>HK.o i d cs h1 h2 w' (aa.o.trans (f.mono (λj m=>.inl m)) (λ_ _ h=>h))))
   have bo:=@J (∀w',Fr No aF w'→w'.cell? ⟨o,4,none⟩=some (.slice G n H)∧w'.rangeAt al 0 [.slice sa sn sc,.slice ma mn mc]) (λw' f=>⟨f.cell aR.o _root_.id,za aj.o f _root_.id⟩)
   clear b1 b2 b3 b5 fs
   repeat((first|(refine z7 rfl ?_;constructor;constructor;(focus(first|exact yK (ty:=250) rfl (λw h=>h.2) uG rG vA|(rintro w' ⟨s1,s2⟩;go_simp;(try with_reducible rfl);done))))|(refine ya rfl ?_));try simp only[Act.put,pA,pB,pC])
   (refine z6 rfl (λK' hK'=>?_))
   refine yj (zU (t:=205) rfl rfl zbg zcQ rfl (by decide) (by decide) rfl) ?_
   refine hK'.out _ _ (λ_=>?_) (λhS=>?_)
   ·exact bo.o _ ((frN aF).alloc _)
   try simp only[Act.put,pA,pB,pC]
   (refine z6 rfl (λK' hK'=>?_))
   refine yw rfl rfl rfl B1.o ?_
   refine hK'.out _ _ (λ_=>?_) (λhS=>?_)
   ·exact⟨C6.o,cj.o⟩
   try simp only[Act.put,pA,pB,pC]
   repeat((first|(refine z7 rfl ?_;constructor;constructor;(focus(first|(rintro w' ⟨s1,s2⟩;go_simp;(try with_reducible rfl);done))))|(refine ya rfl ?_));try simp only[Act.put,pA,pB,pC])
   (refine z6 rfl (λK' hK'=>?_))
   go_simp
   refine hK'.out _ _ (λh=>absurd rfl h) (λhS=>?_)
   refine xD (hK.out _ _ ?_)
   clear fz
   generalize w6.setCell ⟨o,4,none⟩ (.slice I (n+1) N)=dD at*
   go_wp2_with fail
   go_roundw
   case rel=>exact⟨n+1,by go_num,by omega,txS q t,M',.slice A (n+1) B,.slice I (n+1) N,_,by rw[bw.o,bP.o,zav cn.o],F.o.step (bW.o.1 t (mem_of_getElem? HX.o)).2 cn.o,dn.o,c9.o,ax.o,au.o,bq.o,bn.o,bg.o,aa.o⟩
   case measure=>simp[intOf];omega
  ·have bz:n=b.txs.length:=by omega
   subst bz
   clear aq hn
   have i1:¬(b.txs.length:Int)<(b.txs.length:Int):=by omega
   have RF:=@J (runT KI b.txs (st0 D.S)=(0,q)) (by rw[bw.o,List.drop_length];rfl)
   have UV:=@J (∀j,U j→j<w.heap.size) (λj m=>S.o j (.inr (.inl m)))
   have RB:=@J (wr.rangeAt o 0 [.int .u64 b.tag,.slice pa b.pay.length pc,.slice ta b.txs.length tc]) (λj v m=>by
    refine zq BQ.o j v ?_
    match j,m with
    |0,m=>exact m
    |1,m=>exact m
    |2,m=>exact m)
   have GE:=J (Va c0.o)
   have ID:=J (zaa GW.o (HB.o wr (FR.o.mono (λj e=>e.imp_right (QT.o j)))))
   rw[GE.o.1] at ID
   have HH:=J (za2 b)
   have bX:=J (zx HH.o)
   have aJ:=J (zbU b)
   have aK:=@J (∀c∈vI b,c.ok) (Vt HH.o bW.o.2 (by omega))
   have df:=@J (((vI b).map (·.at_)).Nodup) (QG _ _)
   have PE:=@J (vI b=ZJ (ZT b) b.pay) (rfl)
   have dm:=@J (q.S.length≤90000) (by have:=F.o.len;have:=aI.o.1;omega)
   have aT:=@J (jJ q.S (vI b)≠0→∀w',qT w0 w' p s U O bv css ⟨q.S,D.bs,M⟩→Fr U wr w'→DoP w0 w p s O U bv css D o T b (doR KI D.S b) (.returned (.int .i64 10)) w') (λhE w' hc f=>by
    rw[zgQ RF.o,if_neg hE]
    refine⟨M,Z.o,rfl,hc,FR.o.trans f (λj _ e=>.inl (.inr (.inl e))),rfl,_,f.obj BQ.o (λe=>NQ.o (.inr (.inl e))),?_⟩
    exact zae (bcs:=[_,_,_]) (HB.o.same ((FR.o.trans f (λj _ e=>.inl (.inr (.inl e)))).mono (λj e=>e.imp_right (QT.o j)))) (by rw[F.o.il];exact zb OI.o f (λj m e=>by have:=(NI.o j m).1;have:=UV.o j e;omega)) F.o.iok (KR.o.fr f (λj _ e=>.inl (.inl (.inr (.inl e)))) (λj m e=>by have:=(NC.o j m).1;have:=UV.o j e;omega)) (λj e=>.inl e) (λj e=>e.elim (λe=>S.o j e) (λe=>TL.o j e)) (by rw[F.o.cl];omega))
   have⟨K0,K1,K2⟩:=tZ3
   go_wp2_with ((first|((with_reducible refine zt ?_);clear K0;refine zn5 rfl rfl rfl RB.o rfl ?_)|(clear K1;go_at_call 94;refine ID.o.mono ?_;rintro e w2 ⟨rfl,f2⟩;have F2:=J f2;clear f2)|((with_reducible refine zv ?_);clear K2;refine zob (w:=w2) (cs:=zf (ZT b)) rfl rfl rfl rfl bX.o zS ?_;have F3:=J (F2.o.trans0 ((frN w2).alloc (.cells (zf (ZT b)).toArray 41)));have B3:=J (ye w2 (.cells (zf (ZT b)).toArray 41));generalize w2.alloc (.cells (zf (ZT b)).toArray 41)=w3 at*;generalize dz:w2.heap.size=q3 at*));go_frame)
   have FD:=J (F3.o.trans0 (frN w3).drew)
   have bK:=J (FD.o.obj BQ.o _root_.id)
   have cM:=J (Vw (zq bK.o)).2.1
   have ck:=J (za (zq B3.o) (frN w3).drew _root_.id)
   have cZ:=@J (xy w3.drew (.slice pa b.pay.length pc) b.pay) (b8.o _ ((FR.o.trans0 FD.o).mono (λj e=>e.imp_right (QT.o j))))
   refine wrLx [ff,ff,ff,ff,ff,ff,tt,ff] (λw'=>w'.cell? ⟨o,1,none⟩=some (.slice pa b.pay.length pc)∧w'.rangeAt q3 0 (zf (ZT b))) ?_ (λK hK=>?_)
   ·exact⟨cM.o,ck.o⟩
   generalize w3.drew=w4 at*
   repeat((first|(refine zj rfl ?_;constructor;constructor;(focus(first|exact zn7 rfl (λw h=>h.2) bX.o|(rintro w' ⟨s1,s2⟩;go_simp;(try with_reducible rfl);done))))|(refine zl rfl ?_));try simp only[Act.put,pA,pB,pC])
   (refine zE rfl (λK' hK'=>?_))
   go_simp
   refine(Vu w4 HH.o cZ.o (by omega)).mono ?_
   rintro e w5 ⟨pv,rfl,o5,f5⟩
   rw[←PE.o] at o5
   have F5:=J (FD.o.trans0 f5)
   have av:=J (f5.obj bK.o _root_.id)
   have O5:=J o5
   have cK:=J (za ck.o f5 _root_.id)
   obtain⟨va,vc,dw⟩:=o5.slice.arg.form
   subst dw
   clear o5 f5
   refine nXt hK' ?_ λhS=>?_
   ·exact⟨(Vw (zq av.o)).2.1,cK.o⟩
   try simp only[Act.put,pA,pB,pC]
   repeat((first|(refine zj rfl ?_;constructor;constructor;(focus(first|(rintro w' ⟨s1,s2⟩;go_simp;(try with_reducible rfl);done))))|(refine zl rfl ?_));try simp only[Act.put,pA,pB,pC])
   refine zL (hK.out _ _ ?_)
   have aG:=J (CH.o.fr0 F5.o)
   have P5:=aG.o.cells.1
   have CI:=@J (q9 w5 (.slice va b.pay.length vc) (vI b)) (⟨aK.o,by rw[aJ.o];exact O5.o.slice.arg⟩)
   have ao:=J (zg3 aG.o.set CI.o (by rw[aJ.o];have:=dm.o;show _+q.S.length≤_;omega))
   by_cases hE:jJ q.S (vI b)=0
   rotate_left
   ·have bQ:=@J (jJ q.S (vI b)=10) (by
     unfold jJ at hE⊢
     rw[if_pos df.o] at hE⊢
     split<;>simp_all)
    have dg:=@J (JI q.S (vI b)=q.S) (by unfold JI;rw[if_neg hE])
    have ah:=J (aT.o hE)
    have ai:=@J (Calls prog 135 #[.pointer (some ⟨s,0,none⟩),.slice va b.pay.length vc] w5 λe w'=>e=.returned (.int .i64 10)∧CS w0 w' s U q.S∧Fr U w5 w') (by have:=ao.o;rw[show jJ (ChD.mk q.S D.bs M).S (vI b)=10 from bQ.o,show JI (ChD.mk q.S D.bs M).S (vI b)=q.S from dg.o] at this;exact this)
    clear hE ao bQ
    go_wp2_with (go_at_call 135;refine ai.o.mono ?_;rintro e w6 ⟨rfl,aC,f6⟩;have bd:=J (aG.o.setS aC f6);have F6:=J (F5.o.of0.trans f6 (λ_ _ e=>e));clear aC f6)
    go_ret
    exact ah.o _ bd.o F6.o
   ·have cX:=J hE
    have ai:=@J (Calls prog 135 #[.pointer (some ⟨s,0,none⟩),.slice va b.pay.length vc] w5 λe w'=>e=.returned (.int .i64 0)∧CS w0 w' s U (jR q.S (vI b))∧Fr U w5 w') (by have:=ao.o;rw[show jJ (ChD.mk q.S D.bs M).S (vI b)=0 from hE,show JI (ChD.mk q.S D.bs M).S (vI b)=jR q.S (vI b) from by unfold JI;rw[if_pos (show jJ (ChD.mk q.S D.bs M).S (vI b)=0 from hE)]] at this;exact this)
    clear hE ao aT
    have H4:=@J (w.heap.size≤wr.heap.size∧wr.heap.size≤w4.heap.size) (⟨FR.o.size,FD.o.size⟩)
    go_wp2_with (first|(go_at_call 135;refine ai.o.mono ?_;rintro e w6 ⟨rfl,aC,f6⟩;have bd:=J (aG.o.setS aC f6);have F6:=J (F5.o.of0.trans f6 (λ_ _ e=>e));have O6:=J (zb O5.o f6 (λj m hu=>by have:=(O5.o.lt j m).1;have:=UV.o j hu;have:=H4.o;omega));have L6:=J (le_trans F5.o.size f6.size);clear aC f6))
    have FA:=J ((frN w6).alloc (.cells #[.slice none 0 0,.slice none 0 0] 250))
    have BA:=J (ye w6 (.cells #[.slice none 0 0,.slice none 0 0] 250))
    have QA:=@J ((w6.alloc (.cells #[.slice none 0 0,.slice none 0 0] 250)).heap.size=w6.heap.size+1) (by simp)
    generalize w6.alloc (.cells #[.slice none 0 0,.slice none 0 0] 250)=w7 at*
    generalize cG:w6.heap.size=u at*
    have cV:=J (F6.o.trans0 FA.o)
    have O7:=J (zb O6.o FA.o (λ_ _=>_root_.id))
    have OL:=@J (∀j,(Value.slice va b.pay.length vc).ownBlock=some j→j<u) (λj m=>by rw[←cG];exact(O6.o.lt j m).2)
    go_loopw [112] (λiv wq=>∃(n:Nat) (mv:Value),iv=.int .i64 n∧n≤b.pay.length∧wq.heap[u]? =some (.cells #[.slice none 0 0,mv] 250 (0,0))∧wq.ownsRow w7.heap.size 95 33 mv n ((((vI b).map (·.at_)).take n).flatMap zn)∧Fr (λj=>j=u) w7 wq) (λiv _=>b.pay.length-(intOf iv).toNat)
    case atStart=>exact⟨0,.slice none 0 0,rfl,zero_le _,BA.o,World.ownsRow_nil _ _ _ 33,Fr.refl _ _⟩
    case round=>
     obtain⟨n,mv,rfl,hn,aE,bA,fr⟩:=hrel
     rename World=>wq
     have FQ:=J fr
     have bJ:=J aE
     have OR:=J bA
     obtain⟨ma,mc,dv⟩:=bA.slice.arg.form
     subst dv
     clear fr aE bA
     by_cases aq:n<b.pay.length
     ·have i1:(n:Int)<(b.pay.length:Int):=by omega
      obtain⟨c,hx⟩:∃x,(vI b)[n]? =some x:=⟨_,getElem?_eq_getElem (by rw[aJ.o];exact aq)⟩
      have bN:=J (aK.o c (mem_of_getElem? hx))
      have CL:=J (jP bN.o)
      have PL:=J (zY bN.o.1)
      obtain⟨g,dr,hv,hr,-⟩:=JB (f:=yT) (k:=66) (L:=vI b) (by decide) (λx hx=>jP (aK.o x hx)) (show wq.ownsRow w4.heap.size 214 66 (.slice va b.pay.length vc) b.pay.length ((vI b).flatMap yT) from zb O7.o FQ.o (λj m e=>by have:=OL.o j m;omega)) hx
      cases hv
      have R1:=J hr
      have FB:=J ((frN wq).alloc (.cells (yT c).toArray 214))
      have RP:=J (zds (zy wq (yT c) 214))
      have c4:=@J (((vI b).map (·.at_))[n]? =some c.at_) (by simp[hx])
      have bI:=J (FB.o.obj bJ.o _root_.id)
      obtain⟨v5,C,a1,a2,a3,a4,a5⟩:=yX (P:=prog) (wq.alloc (.cells (yT c).toArray 214)) w7.heap.size 91 91 95 33 36 _ YC QC (by show(zn xQ).toArray.size=33;rfl) (by decide) (zb OR.o FB.o (λ_ _=>_root_.id)) (zn c.at_) PL.o yI (by omega) (by unfold maxLen;omega) (le_trans FQ.o.size FB.o.size)
      have A1:=J a1
      have br:=@J (C.ownsRow w7.heap.size 95 33 v5 (n+1) ((((vI b).map (·.at_)).take (n+1)).flatMap zn)) (by rw[YU zn c4.o];exact a2)
      have da:=@J (∀j,(Value.slice ma n mc).ownBlock=some j→j≠u) (λj m e=>by have:=(OR.o.lt j m).1;have:=QA.o;omega)
      have aw:=J (a3.obj bI.o (λe=>da.o _ e rfl))
      have cS:=@J (Fr (λj=>j=u) w7 C) ((FQ.o.trans0 FB.o).trans a3 (λj m e=>by have:=(OR.o.lt j e).1;omega))
      have db:=@J (∀j,v5.ownBlock=some j→j≠u) (λj m e=>by have:=(br.o.lt j m).1;have:=QA.o;omega)
      have cA:(wq.alloc (.cells (yT c).toArray 214)).cell? ⟨u,1,none⟩=some (.slice ma n mc):=by have:=zq bI.o 1 _ rfl;simpa using this
      have cB:C.cell? ⟨u,1,none⟩=some (.slice ma n mc):=by have:=zq aw.o 1 _ rfl;simpa using this
      have fB:=yl (i:=1) aw.o
      clear hr a1 a2 a3 a4 a5
      obtain⟨A,B,bD⟩:=br.o.slice.arg.form
      subst bD
      have c6:=J (heap_setCell_same C u 1 _ _ (.slice A (n+1) B) aw.o)
      have cU:=@J (Fr (λj=>j=u) w7 (C.setCell ⟨u,1,none⟩ (.slice A (n+1) B))) (cS.o.setCell _ (.inr rfl) _)
      have de:=J (zb br.o (show Fr (λj=>j=u) C (C.setCell ⟨u,1,none⟩ (.slice A (n+1) B)) from(Fr.refl (λj=>j=u) C).setCell ⟨u,1,none⟩ (.inr rfl) _) (λj m e=>db.o j m e))
      have⟨K0,K1,K2,K3,K4⟩:=tZ5
      go_wp2_with ((first|((with_reducible refine zt ?_);first|(clear K0;refine zg rfl (zZ (ty:=214) rfl rfl R1.o uC rC (by rw[CL.o];exact JX)) ?_)|(clear K2;refine zn4 rfl rfl rfl RP.o PL.o ?_)|(clear K3;refine zg rfl (zU (t:=91) rfl rfl YC zaL rfl (by decide) (by decide) PL.o) ?_)|(clear K4;at_builtin;refine zR rfl rfl rfl rfl A1.o ?_))|((with_reducible refine zv ?_);clear K1;refine zi rfl (zm (w:=wq) (ty:=214) (cs:=yT c) rfl rfl rfl (by rw[CL.o];rfl) (by rw[CL.o];exact JX) Zo) ?_;generalize wq.alloc (.cells (yT c).toArray 214)=wA at*));go_frame)
      go_roundw
      case rel=>exact⟨n+1,_,by go_num,by omega,c6.o,de.o,cU.o⟩
      case measure=>simp[intOf];omega
     ·have bz:n=b.pay.length:=by omega
      subst bz
      clear aq hn i1
      have i1:¬(b.pay.length:Int)<(b.pay.length:Int):=by omega
      have bZ:=@J (((vI b).map (·.at_)).length=b.pay.length) (by rw[length_map,aJ.o])
      have c3:=@J (∀x∈(vI b).map (·.at_),x.ok) (λx hx=>by
       obtain⟨y,hy,rfl⟩:=mem_map.1 hx
       exact(aK.o y hy).1)
      have b4:=@J (wq.ownsRow w7.heap.size 95 33 (.slice ma b.pay.length mc) b.pay.length (((vI b).map (·.at_)).flatMap zn)) (by
       have:=OR.o
       rw[List.take_of_length_le (by rw[bZ.o];exact le_refl _)] at this
       exact this)
      have QW:=@J (wr.heap.size≤u) (L6.o)
      have aA:=@J (Fr U wr wq.drew) ((cV.o.trans FQ.o (λj m e=>by have:=QW.o;omega)).trans0 (frN wq).drew)
      have NU:=@J (∀j,w.heap.size≤j→¬U j) (λj m e=>by have:=UV.o j e;omega)
      have cT:=@J (Fr No w6 wq.drew) ((FA.o.trans FQ.o (λj m e=>by omega)).trans0 (frN wq).drew)
      have cO:=J (bd.o.fr0 cT.o)
      have bH:=J (aA.o.obj BQ.o (λe=>NQ.o (.inr (.inl e))))
      have cJ:=J ((frN wq).drew.obj bJ.o _root_.id)
      have c5:=J (zb b4.o (frN wq).drew (λ_ _=>_root_.id))
      have GR:=@J (wq.drew.rangeAt u 0 [.slice none 0 0,.slice ma b.pay.length mc]) (by have:=zq cJ.o;simpa using this)
      have dd:=J (zb OI.o aA.o (λj m e=>NU.o j (NI.o j m).1 e))
      have c8:=J (KR.o.fr aA.o (λj _ e=>.inl (.inl (.inr (.inl e)))) (λj m e=>NU.o j (NC.o j m).1 e))
      have bL:=@J (wq.drew.cell? ⟨o,4,none⟩=some (.slice G b.txs.length H)) (by have:=zq bH.o 4 _ rfl;simpa using this)
      go_wp2_with fail
      refine ym [ff,ff,ff,ff,ff,ff,tt,tt,ff,ff,tt] (λw'=>w'.cell? ⟨o,4,none⟩=some (.slice G b.txs.length H)∧w'.rangeAt u 0 [.slice none 0 0,.slice ma b.pay.length mc]) (by kernel_rfl) (by kernel_rfl) 10 (by kernel_rfl) (by kernel_rfl) ?_ (λK hK=>?_)
      ·exact⟨bL.o,GR.o⟩
      generalize wq.drew=z at*
      have KC:=J (zhU (n:=b.pay.length) (l:=(vI b).map (·.at_)) (V:=λj=>((chV p U O bv j∨T j)∨(Value.slice W b.txs.length X).ownBlock=some j)∨(Value.slice G b.txs.length H).ownBlock=some j) c5.o bZ.o c3.o (λj m hv=>by
       have h1:=(b4.o.lt j m).1
       have:=QA.o
       have:=QW.o
       have:=H4.o
       rcases hv with((e|e)|e)|e
       ·have:=S.o j e;omega
       ·have:=TL.o j e;omega
       ·have:=(NI.o j e).2;omega
       ·have:=(NC.o j e).2;omega))
      obtain⟨v6,af,b1,b2,b3,b5⟩:=c8.o.append (P:=prog) (t:=205) (ty2:=205) (bytes:=48) zbg zeH rfl (by decide) KC.o rfl (ze0 rfl rfl) (by rw[F.o.cl];omega) (by rw[F.o.cl];unfold maxLen;omega) (by have:=aA.o.size;have:=H4.o;omega)
      obtain⟨I,N,ak⟩:=b2.form
      rw[length_append,F.o.cl] at ak
      simp only[length_singleton] at ak
      subst ak
      have B1:=J b1
      have K6:=J b2
      have ag:=J (b3.obj bH.o (λe=>by have:=(NC.o _ e).1;have:=QL.o;omega))
      have C6:=@J (af.cell? ⟨o,4,none⟩=some (.slice G b.txs.length H)) (by have:=zq ag.o 4 _ rfl;simpa using this)
      have cW:=J (za GR.o b3 (λe=>by have h1:u<wr.heap.size:=(NC.o _ e).2;have:=QW.o;omega))
      have fz:=yl (i:=4) ag.o
      have fs:Fr (λj=>j=o) af (af.setCell ⟨o,4,none⟩ (.slice I (b.txs.length+1) N)):=(Fr.refl (λj=>j=o) af).setCell ⟨o,4,none⟩ (.inr rfl) _
      have bq:=J (zb (zb dd.o b3 (λj m e=>bf.o j m e)) fs (λj m e=>by have:=(NI.o j m).1;have:=QL.o;omega))
      have au:=@J ((af.setCell ⟨o,4,none⟩ (.slice I (b.txs.length+1) N)).heap[o]? =some (.cells #[.int .u64 b.tag,.slice pa b.pay.length pc,.slice ta b.txs.length tc,.slice W b.txs.length X,.slice I (b.txs.length+1) N] 207 (0,0))) (by have:=heap_setCell_same af o 4 _ _ (.slice I (b.txs.length+1) N) ag.o;simpa using this)
      have bn:=J (K6.o.fr fs (λj _ e=>.inl (.inr (QT.o j e))) (λj m e=>by have:=(K6.o.lt j m).1;have:=QL.o;omega))
      have aS:=@J (Fr (λj=>(Value.slice G b.txs.length H).ownBlock=some j∨j=o) z (af.setCell ⟨o,4,none⟩ (.slice I (b.txs.length+1) N))) ((b3.mono (λj e=>.inl e)).trans fs (λj _ e=>.inr e))
      have aa:=@J (Fr (λj=>chV p U O bv j∨j=o) w (af.setCell ⟨o,4,none⟩ (.slice I (b.txs.length+1) N))) ((FR.o.trans aA.o (λj _ e=>.inl (.inr (.inl e)))).trans aS.o (λj m e=>by
       rcases e with e|e
       ·have:=(NC.o j e).1;omega
       ·exact .inr e))
      have ax:=J (cO.o.frV aS.o (λj m e=>by
       have:=S.o j m
       rcases e with e|e
       ·have:=(NC.o j e).1;omega
       ·exact NQ.o (e▸m)) (λj e=>by
       have:=bV.o.size
       rcases e with e|e
       ·have:=(NC.o j e).1;omega
       ·rw[e];exact LQ.o) (λi d cs h1 h2 w' f=>HK.o i d cs h1 h2 w' (aa.o.trans (f.mono (λj m=>.inl m)) (λ_ _ h=>h))))
      have bo:=@J (∀w',Fr No z w'→w'.cell? ⟨o,4,none⟩=some (.slice G b.txs.length H)∧w'.rangeAt u 0 [.slice none 0 0,.slice ma b.pay.length mc]) (λw' f=>⟨f.cell bL.o _root_.id,za GR.o f _root_.id⟩)
      clear b1 b2 b3 b5 fs
      repeat((first|(refine z7 rfl ?_;constructor;constructor;(focus(first|exact yK (ty:=250) rfl (λw h=>h.2) uG rG vA|(rintro w' ⟨s1,s2⟩;go_simp;(try with_reducible rfl);done))))|(refine ya rfl ?_));try simp only[Act.put,pA,pB,pC])
      (refine z6 rfl (λK' hK'=>?_))
      refine yj (zU (t:=205) rfl rfl zbg zcQ rfl (by decide) (by decide) rfl) ?_
      refine hK'.out _ _ (λ_=>?_) (λhS=>?_)
      ·exact bo.o _ ((frN z).alloc _)
      try simp only[Act.put,pA,pB,pC]
      (refine z6 rfl (λK' hK'=>?_))
      refine yw rfl rfl rfl B1.o ?_
      refine hK'.out _ _ (λ_=>?_) (λhS=>?_)
      ·exact⟨C6.o,cW.o⟩
      try simp only[Act.put,pA,pB,pC]
      repeat((first|(refine z7 rfl ?_;constructor;constructor;(focus(first|(rintro w' ⟨s1,s2⟩;go_simp;(try with_reducible rfl);done))))|(refine ya rfl ?_));try simp only[Act.put,pA,pB,pC])
      (refine z6 rfl (λK' hK'=>?_))
      go_simp
      refine hK'.out _ _ (λh=>absurd rfl h) (λhS=>?_)
      refine xD (hK.out _ _ ?_)
      clear fz
      go_wp2_with fail
      go_ret
      rw[zgQ RF.o,if_pos cX.o]
      refine⟨M,Z.o,rfl,ax.o,aa.o,rfl,_,au.o,?_⟩
      exact zae (bcs:=[_,_,_]) (HB.o.same (aa.o.mono (λj e=>e.imp_right (QT.o j)))) (by rw[F.o.il];exact bq.o) F.o.iok bn.o (λj e=>.inl e) (λj e=>e.elim (λe=>S.o j e) (λe=>TL.o j e)) (by rw[length_append,F.o.cl];simp;omega)
structure Gd (w0 w:World) (p:Nat) (V:Nat→Prop) (S0:List zr) (S:List zr) (bs:List yx):Prop where
 hist:VY S0 bs S
 srt0:qV S0
 ok0:∀c∈S0,c.ok
 len0:S0.length≤300
 cn:Cn w0 w p V S bs (yd bs)
section
variable {w0 w w':World} {p:Nat} {V:Nat→Prop} {S0 S:List zr} {bs:List yx}
theorem Gd.hok (h:Gd w0 w p V S0 S bs):HOk S0 bs S:=h.hist.good h.srt0 h.ok0
theorem Gd.fr (h:Gd w0 w p V S0 S bs):Fr No w0 w:=h.cn.fr
theorem Gd.hi (h:Gd w0 w p V S0 S bs):∀j,V j→j<w.heap.size:=h.cn.hi
theorem Gd.lo (h:Gd w0 w p V S0 S bs):∀j,V j→w0.heap.size≤j:=h.cn.lo
theorem Gd.slen (h:Gd w0 w p V S0 S bs) (a:bs.length≤200):S.length≤30000:=by
 have:=h.hok.len
 have:=h.len0
 omega
theorem zhL {bs:List yx} (h:∀d∈bs,d.ids.length≤16):(yd bs).length≤16*bs.length:=by
 induction bs with
 |nil=>simp[yd]
 |cons d l ih=>
  have b:=ih (λx a=>h x (.tail _ a))
  have c:=h d (.head _)
  have e:yd (d::l)=d.ids++yd l:=by simp[yd]
  rw[e,length_append,length_cons]
  omega
def GdX (w0 w:World) (p:Nat) (V:Nat→Prop) (S0 S:List zr) (bs:List yx) (css:List (List Value)):Prop:=
 VY S0 bs S∧∃s U mi bv M,qT w0 w p s U mi bv css ⟨S,bs,M⟩∧V=chV p U mi bv∧(∀x,x∈yd bs↔∃v,(x,v)∈M)∧∀x v,(x,v)∈M→0<v
theorem Gd.x (h:Gd w0 w p V S0 S bs):∃css,GdX w0 w p V S0 S bs css:=by
 obtain⟨M,⟨s,U,f,c,css,e,d⟩,b,a⟩:=h.cn
 exact⟨css,h.hist,s,U,f,c,M,e,d,b,a⟩
theorem GdX.gd {css:List (List Value)} (h:GdX w0 w p V S0 S bs css) (d:qV S0) (ok:∀c∈S0,c.ok) (j:S0.length≤300):Gd w0 w p V S0 S bs:=by
 obtain⟨i,s,U,k,e,M,g,f,b,a⟩:=h
 exact⟨i,d,ok,j,M,⟨s,U,k,e,css,g,f⟩,b,a⟩
theorem GdX.cl {css:List (List Value)} (h:GdX w0 w p V S0 S bs css):css.length=bs.length:=by
 obtain⟨f,s,U,g,d,M,b,e,c,a⟩:=h
 exact b.cl
theorem GdX.fr0 {css:List (List Value)} (h:GdX w0 w p V S0 S bs css) (f:Fr No w w'):GdX w0 w' p V S0 S bs css:=by
 obtain⟨g,s,U,i,c,M,e,d,b,a⟩:=h
 exact⟨g,s,U,i,c,M,e.fr0 f,d,b,a⟩
theorem GdX.frV {css:List (List Value)} (h:GdX w0 w p V S0 S bs css) {W:Nat→Prop} (f:Fr W w w') (g:∀j,V j→¬W j) (e:∀j,W j→w0.heap.size≤j) (m:∀(i:Nat) (d:yx) (cs:List Value),bs[i]? =some d→css[i]? =some cs→Kept V w' (λw=>jC w d cs)):GdX w0 w' p V S0 S bs css:=by
 obtain⟨n,s,U,o,c,M,l,k,b,a⟩:=h
 subst k
 exact⟨n,s,U,o,c,M,l.frV f g e m,rfl,b,a⟩
structure CX (w0 w:World) (p:Nat) (V X:Nat→Prop) (S0 S:List zr) (bs:List yx) (css:List (List Value)):Prop where
 gd:GdX w0 w p V S0 S bs css
 srt0:qV S0
 ok0:∀c∈S0,c.ok
 len0:S0.length≤300
 data:∀(i:Nat) (d:yx) (cs:List Value),bs[i]? =some d→css[i]? =some cs→Kept (λj=>V j∨X j) w (λw=>jC w d cs)
theorem CX.g {X:Nat→Prop} {css:List (List Value)} (h:CX w0 w p V X S0 S bs css):Gd w0 w p V S0 S bs:=h.gd.gd h.srt0 h.ok0 h.len0
theorem CX.frV {X X':Nat→Prop} {css:List (List Value)} (h:CX w0 w p V X S0 S bs css) {W:Nat→Prop} (f:Fr W w w') (k:∀j,V j→¬W j) (g:∀j,W j→w0.heap.size≤j) (c:∀j,W j→X j) (l:∀j,j<w.heap.size→X' j→X j):CX w0 w' p V X' S0 S bs css:=
 {h with
  gd:=h.gd.frV f k g (λi d cs a b=>(h.data i d cs a b).step (f.mono (λj e=>.inr (c j e))) (λj _ e=>.inl e))
  data:=λi d cs a b=>(h.data i d cs a b).step (f.mono (λj e=>.inr (c j e))) (λj m e=>e.imp_right (l j m))}
def znf (X:Nat→Prop) (css:List (List Value)) (w0 w:World) (p:Nat) (V:Nat→Prop) (S0:List zr) (S:List zr) (bs:List yx) (b:qA) (e:Ending) (w':World):Prop:=
 e=.returned (.int .i64 (vZ (yd bs) S bs b))∧Fr V w w'∧∃V' css',(∀j,V' j→V j∨w.heap.size≤j)∧GdX w0 w' p V' S0 (Xh (yd bs) S bs b) (Yo (yd bs) S bs b) css'∧
  ((Yo (yd bs) S bs b=bs∧css'=css)∨∃d csd,Yo (yd bs) S bs b=bs++[d]∧css'=css++[csd]∧Kept (λj=>V' j∨X j) w' (λw=>jC w d csd))
theorem zmo (hg:vj w0) {css:List (List Value)} (h:GdX w0 w p V S0 S bs css) (u:qV S0) (T:∀c∈S0,c.ok) (r:S0.length≤300) {X:Nat→Prop} (hX:∀j,X j→j<w.heap.size) (hB:bs.length≤200) {b:qA} {cs:List Value} (hb:jB w b cs):
  Calls prog 51 #[.pointer (some ⟨p,0,none⟩),.agg cs.toArray] w (znf X css w0 w p V S0 S bs b):=by
 have hok:=(h.gd u T r).hok
 have aj:=(h.gd u T r).slen hB
 have ab:=h
 obtain⟨W,s,U,Q,Z,M,hc,hV,m,i⟩:=h
 by_cases hpre:Xa ⟨S,bs,M⟩ b=0
 ·have o:¬1024≤bs.length∧vD b=true∧b.pay.any vS=false:=by
   unfold Xa at hpre
   dsimp only at hpre
   split at hpre
   ·cases hpre
   ·rename_i I
    split at hpre
    ·rename_i C
     split at hpre
     ·cases hpre
     ·rename_i L
      exact⟨I,C,by simpa using L⟩
    ·cases hpre
  obtain⟨I,C,L⟩:=o
  have D:vZ (yd bs) S bs b=(doR (yd bs) S b).E:=by
   unfold vZ
   rw[if_neg I,if_pos C,L,if_neg (by decide)]
  obtain⟨p1,p2,p3⟩:=XD C
  have z:=hb.oks
  obtain⟨a1,a2,a3,a4,a5,a6,a7,a8,a9,ah⟩:=zfS (K:=yd bs) hok.srt hok.ok (λt ht=>(z.1 t ht).2) z.2 p2 p1
  have ai:M.length≤1000000:=by
   have ag:(M.map (·.1)).Nodup:=hc.map.nodup
   have h5:=(VI (B:=yd bs) ag (λx k=>by
    obtain⟨y,hy,rfl⟩:=mem_map.1 k
    exact(m _).2 ⟨y.2,hy⟩)).1
   have h6:=zhL (λd hd=>(hok.ds d hd).1)
   rw[length_map] at h5
   omega
  refine(zdt hg hc hb hpre (R:=doR (yd bs) S b) (λw cs Y=>zlb w Y (by omega) (by omega) (λt ht=>?_)) hX (λw' dq bcs h' Y hn hl k hk P hd=>(zmt hg h' m i Y hn hl (.inl rfl) (λj n=>n.elim (λe=>by rw[e];exact yG Y) (k j)) hk P hok.srt (by show S.length≤_;omega) (by show bs.length≤_;omega) (by show M.length≤_;omega) hd).mono λe ak W=>W) ⟨by omega,by omega,by omega⟩).mono λe w' ⟨he,hf,A,N⟩=>?_
  ·obtain⟨q1,q2,q3⟩:=y5.1 (p3 t ht)
   exact⟨by omega,by omega,λx k=>by have:=q1 x k;omega⟩
  ·have g:∀j,chV p U Q Z j↔V j:=λj=>by rw[hV]
   refine⟨by rw[he,D],hf.mono (λj n=>(g j).1 n),?_⟩
   by_cases hz:(doR (yd bs) S b).E=0
   ·obtain⟨E,F,M',l,q,ae,aa,ad,af⟩:=A hz
    have a:vZ (yd bs) S bs b=0:=by rw[D];exact hz
    refine⟨chV p U Q E,F,λj n=>?_,?_⟩
    ·rcases n with e|e|e|e
     ·exact .inl ((g j).1 (.inl e))
     ·exact .inl ((g j).1 (.inr (.inl e)))
     ·exact .inl ((g j).1 (.inr (.inr (.inl e))))
     ·exact(ae j e).imp_left (λe=>(g j).1 (.inr (.inr (.inr e))))
    ·have G:Xh (yd bs) S bs b=(doR (yd bs) S b).S:=by unfold Xh;rw[if_pos a]
     have H:Yo (yd bs) S bs b=bs++[(doR (yd bs) S b).d]:=by unfold Yo;rw[if_pos a]
     rw[G,H]
     refine⟨⟨.snoc W z a,s,U,Q,E,M',l,rfl,λx=>?_,λx v k=>?_⟩,.inr ⟨_,aa,rfl,ad,af⟩⟩
     ·rw[zbC,mem_append,m]
      constructor
      ·rintro(⟨v,hv⟩|k)
       ·exact⟨v,(q.1 x v).2 (.inl hv)⟩
       ·exact⟨_,(q.1 x _).2 (.inr ⟨k,rfl⟩)⟩
      ·rintro⟨v,hv⟩
       exact((q.1 x v).1 hv).imp (λh=>⟨v,h⟩) (λh=>h.1)
     ·rcases(q.1 x v).1 k with h|⟨_,h⟩
      ·exact i x v h
      ·rw[h];show(0:Int)<(bs.length:Int)+1;omega
   ·obtain⟨M',l,O⟩:=N hz
    have a:vZ (yd bs) S bs b≠0:=by rw[D];exact hz
    have G:Xh (yd bs) S bs b=S:=by unfold Xh;rw[if_neg a]
    have H:Yo (yd bs) S bs b=bs:=by unfold Yo;rw[if_neg a]
    rw[a4] at l
    refine⟨chV p U Q Z,css,λj n=>.inl ((g j).1 n),?_⟩
    rw[G,H]
    exact⟨⟨W,s,U,Q,Z,M',l,rfl,λx=>by rw[m];simp only[O],λx v k=>i x v ((O x v).1 k)⟩,.inl ⟨rfl,rfl⟩⟩
 ·have D:vZ (yd bs) S bs b=Xa ⟨S,bs,M⟩ b:=by
   unfold Xa at hpre⊢
   unfold vZ
   dsimp only at hpre⊢
   split
   ·rfl
   ·rename_i I
    rw[if_neg I] at hpre
    split
    ·rename_i C
     rw[if_pos C] at hpre
     split
     ·rfl
     ·rename_i L
      rw[if_neg L] at hpre
      exact absurd rfl hpre
    ·rfl
  have a:vZ (yd bs) S bs b≠0:=by rw[D];exact hpre
  refine(zen hg hc hb (by show bs.length≤_;omega) hpre).mono λe w' ⟨he,f⟩=>⟨by rw[he,D],f.of0,V,css,λj n=>.inl n,?_⟩
  have G:Xh (yd bs) S bs b=S:=by unfold Xh;rw[if_neg a]
  have H:Yo (yd bs) S bs b=bs:=by unfold Yo;rw[if_neg a]
  rw[G,H]
  exact⟨ab.fr0 f,.inl ⟨rfl,rfl⟩⟩
theorem zmn (B:vj w0) {css:List (List Value)} {X X':Nat→Prop} (h:CX w0 w p V X S0 S bs css) (x:∀j,X' j→j<w.heap.size) (o:∀j,X' j→X j) (v:bs.length≤200) {b:qA} {cs:List Value} (y:jB w b cs):
  Calls prog 51 #[.pointer (some ⟨p,0,none⟩),.agg cs.toArray] w λe w'=>e=.returned (.int .i64 (vZ (yd bs) S bs b))∧Fr V w w'∧∃V' a,(∀j,V' j→V j∨w.heap.size≤j)∧CX w0 w' p V' X' S0 (Xh (yd bs) S bs b) (Yo (yd bs) S bs b) a:=by
 have g:=h.gd.cl
 refine(zmo B h.gd h.srt0 h.ok0 h.len0 x v y).mono λe w' ⟨A,s,V',a,t,q,z⟩=>⟨A,s,V',a,t,q,h.srt0,h.ok0,h.len0,?_⟩
 have k:∀(i:Nat) (d:yx) (cs:List Value),bs[i]? =some d→css[i]? =some cs→Kept (λj=>V' j∨X' j) w' (λw=>jC w d cs):=λi d cs c f=>
  (h.data i d cs c f).step (s.mono (λ_ e=>.inl e)) (λj D e=>e.imp (λe=>(t j e).resolve_right (by omega)) (o j))
 rcases z with⟨m,n⟩|⟨d,u,m,n,C⟩
 ·rw[m,n]
  exact k
 ·rw[m,n]
  intro i d' l c f
  by_cases hi:i<bs.length
  ·rw[List.getElem?_append_left hi] at c
   rw[List.getElem?_append_left (by rw[g];exact hi)] at f
   exact k i d' l c f
  ·have r:i=bs.length:=by have:=(List.getElem?_eq_some_iff.1 c).1;simp only[length_append,length_singleton] at this;omega
   subst r
   rw[List.getElem?_append_right (le_refl _),Nat.sub_self] at c
   rw[List.getElem?_append_right (by rw[g];exact le_refl _),g,Nat.sub_self] at f
   simp at c f
   subst c
   subst f
   exact C
def zni (w0 w:World) (p:Nat) (V:Nat→Prop) (S0:List zr) (S:List zr) (bs:List yx) (d:yx) (css:List (List Value)) (e:Ending) (w':World):Prop:=
 ∃bcs V' css' tl,e=.returned (.tuple #[.agg bcs.toArray,.int .i64 0])∧Fr V w w'∧(∀j,V' j→V j)∧GdX w0 w' p V' S0 (xU d.chg S) bs css'∧Kept V w' (λw=>jB w d.blk bcs)∧css=css'++[bcs++tl]
theorem zmr {d:yx} {css:List (List Value)} (h:GdX w0 w p V S0 S (bs++[d]) css) (g:qV S0) (r:∀c∈S0,c.ok) (E:S0.length≤300) (X:bs.length≤200):
  Calls prog 53 #[.pointer (some ⟨p,0,none⟩)] w (zni w0 w p V S0 S bs d css):=by
 have hok:=h.1.good g r
 have N:S.length≤30000:=by
  have:=hok.len
  rw[length_append] at this
  simp only[length_cons,List.length_nil] at this
  omega
 obtain⟨l,C,R,T,W,G⟩:=h.1.undo g r
 have Y:=hok.ds d (by simp)
 obtain⟨Z,s,U,t,F,M,H,D,z,q⟩:=h
 refine(zji H rfl (by omega) (by show S.length+_≤_;omega) (by omega) (by omega)).mono λe w' ⟨bcs,i,k,M',I,y,A,L,K,u,P,B⟩=>?_
 have m:∀j,chV p U t i j↔V j:=λj=>by rw[D];unfold chV;rw[u]
 have n:∀j,chV p U t F j↔V j:=λj=>by rw[D]
 refine⟨bcs,chV p U t i,k,P,I,K.mono (λj o=>(n j).1 o),λj o=>(m j).1 o,⟨l,s,U,t,i,M',y,rfl,λx=>?_,λx v O=>q x v ((A x v).1 O).2⟩,λQ f=>L Q (f.mono (λj o=>(m j).2 o)),B⟩
 have:=zdC G x
 rw[←this]
 simp only[mem_filter,Bool.not_eq_true',decide_eq_false_iff_not]
 rw[z]
 constructor
 ·rintro⟨⟨v,l⟩,C⟩
  exact⟨v,(A x v).2 ⟨C,l⟩⟩
 ·rintro⟨v,l⟩
  obtain⟨a,b⟩:=(A x v).1 l
  exact⟨⟨v,b⟩,a⟩
theorem zms {d:yx} {css:List (List Value)} {X:Nat→Prop} (h:CX w0 w p V X S0 S (bs++[d]) css) (v:bs.length≤200):
  Calls prog 53 #[.pointer (some ⟨p,0,none⟩)] w λe w'=>∃bcs V' a,e=.returned (.tuple #[.agg bcs.toArray,.int .i64 0])∧Fr V w w'∧(∀j,V' j→V j)∧CX w0 w' p V' X S0 (xU d.chg S) bs a∧Kept (λj=>V j∨X j) w' (λw=>jB w d.blk bcs):=by
 have g:=h.gd.cl
 rw[length_append,length_singleton] at g
 refine(zmr h.gd h.srt0 h.ok0 h.len0 v).mono λe w' ⟨bcs,V',a,B,x,k,r,c,y,f⟩=>⟨bcs,V',a,x,k,r,⟨c,h.srt0,h.ok0,h.len0,λi d' cs n o=>?_⟩,?_⟩
 ·have hi:=(List.getElem?_eq_some_iff.1 n).1
  have l:=(List.getElem?_eq_some_iff.1 o).1
  exact(h.data i d' cs (by rw[List.getElem?_append_left hi];exact n) (by rw[f,List.getElem?_append_left l];exact o)).step (k.mono (λ_ e=>.inl e)) (λj _ e=>e.imp_left (r j))
 ·have z:a.length=bs.length:=c.cl
  have A:=h.data bs.length d (bcs++B) (by simp) (by rw[f,←z];simp)
  have m:∀w,jB w d.blk bcs→bcs.length=3:=λw ⟨_,_,_,_,e,_⟩=>by rw[e];rfl
  refine(A.step (k.mono (λ_ e=>.inl e)) (λ_ _ e=>e)).imp (λH E ⟨b,F,G,C,D,e,q,_⟩=>?_)
  have t:=m _ y.now
  have u:b.length=3:=by obtain⟨_,_,_,_,s,_⟩:=q;rw[s];rfl
  have:=(List.append_inj e (by rw[t,u])).1
  rw[this]
  exact q
theorem zl3 (w:World) {v:Value} {l:List yE} (b:xy w v l) (d:l.length≤256):
  Calls prog 35 #[v] w λe w'=>∃p,e=.returned (.tuple #[.pointer (some ⟨p,0,none⟩),.int .i64 0])∧∃V,Gd w w' p V (jR [] (ZJ yO l)) (jR [] (ZJ yO l)) []:=by
 refine(zjL w b d).mono λe w' ⟨p,f,V,h⟩=>⟨p,f,V,.nil,?_,λc a=>?_,?_,h⟩
 ·exact J0 List.Pairwise.nil (QG _ _) (λc a=>rfl)
 ·rcases qL.1 a with a|a
  ·cases a
  ·exact Vt xO b.1 (by omega) c a
 ·rw[(Zt _ _).length_eq,nil_append,Ja]
  omega
end
section
section
variable {α:Type}
inductive Rch (E:α→List α) (I:α→Prop):α→α→Prop
 |refl {x:α}:I x→Rch E I x x
 |step {x y z:α}:I x→y∈E x→Rch E I y z→Rch E I x z
variable {E E':α→List α} {I J:α→Prop}
theorem Rch.left {x y:α} (h:Rch E I x y):I x:=by cases h<;>assumption
theorem Rch.right {x y:α} (h:Rch E I x y):I y:=by
 induction h with
 |refl h=>exact h
 |step _ _ _ ih=>exact ih
theorem Rch.trans {x y z:α} (h:Rch E I x y) (a:Rch E I y z):Rch E I x z:=by
 induction h with
 |refl _=>exact a
 |step h1 h3 _ ih=>exact .step h1 h3 (ih a)
theorem Rch.snoc {x y z:α} (h:Rch E I x y) (a:z∈E y) (i:I z):Rch E I x z:=h.trans (.step h.right a (.refl i))
theorem Rch.flip (a:∀x y,I x→I y→y∈E x→x∈E' y) {x y:α} (h:Rch E I x y):Rch E' I y x:=by
 induction h with
 |refl h=>exact .refl h
 |step h1 h2 h3 ih=>exact ih.snoc (a _ _ h1 h3.left h2) h1
theorem Rch.mono (a:∀x,I x→J x) (b:∀x y,I x→I y→y∈E x→y∈E' x) {x y:α} (h:Rch E I x y):Rch E' J x y:=by
 induction h with
 |refl h=>exact .refl (a _ h)
 |step h1 h2 h3 ih=>exact .step (a _ h1) (b _ _ h1 h3.left h2) ih
structure Wl (E:α→List α) (I:α→Prop) (l todo vis:List α):Prop where
 sub:∀x∈vis,I x
 snd:∀x∈vis,∃a∈l,Rch E I a x
 td:∀x∈todo,I x→∃a∈l,Rch E I a x
 start:∀a∈l,I a→a∈vis∨a∈todo
 clos:∀x∈vis,∀y∈E x,I y→y∈vis∨y∈todo
theorem Wl.init (l:List α):Wl E I l l []:=⟨by simp,by simp,λx c hi=>⟨x,c,.refl hi⟩,λa b _=>.inr b,by simp⟩
theorem Wl.skip {l todo vis:List α} {x:α} (h:Wl E I l (todo++[x]) vis) (b:¬I x∨x∈vis):Wl E I l todo vis:=by
 refine⟨h.sub,h.snd,λy c=>h.td y (by simp[c]),λa d hi=>?_,λy c z e hi=>?_⟩
 ·rcases h.start a d hi with h1|h1
  ·exact .inl h1
  ·rcases mem_append.1 h1 with h2|h2
   ·exact .inr h2
   ·obtain rfl:=mem_singleton.1 h2
    rcases b with b|b
    ·exact absurd hi b
    ·exact .inl b
 ·rcases h.clos y c z e hi with h1|h1
  ·exact .inl h1
  ·rcases mem_append.1 h1 with h2|h2
   ·exact .inr h2
   ·obtain rfl:=mem_singleton.1 h2
    rcases b with b|b
    ·exact absurd hi b
    ·exact .inl b
theorem Wl.visit {l todo vis:List α} {x:α} (h:Wl E I l (todo++[x]) vis) (hi:I x):Wl E I l (todo++E x) (x::vis):=by
 obtain⟨a,e,f⟩:=h.td x (by simp) hi
 refine⟨λy c=>?_,λy c=>?_,λy c d=>?_,λb i d=>?_,λy c z g d=>?_⟩
 ·rcases mem_cons.1 c with rfl|c
  ·exact hi
  ·exact h.sub y c
 ·rcases mem_cons.1 c with rfl|c
  ·exact⟨a,e,f⟩
  ·exact h.snd y c
 ·rcases mem_append.1 c with c|c
  ·exact h.td y (by simp[c]) d
  ·exact⟨a,e,f.snoc c d⟩
 ·rcases h.start b i d with h1|h1
  ·exact .inl (by simp[h1])
  ·rcases mem_append.1 h1 with h2|h2
   ·exact .inr (by simp[h2])
   ·exact .inl (by simp[mem_singleton.1 h2])
 ·rcases mem_cons.1 c with rfl|c
  ·exact .inr (by simp[g])
  ·rcases h.clos y c z g d with h1|h1
   ·exact .inl (by simp[h1])
   ·rcases mem_append.1 h1 with h2|h2
    ·exact .inr (by simp[h2])
    ·exact .inl (by simp[mem_singleton.1 h2])
theorem Wl.done {l vis:List α} (h:Wl E I l [] vis) (x:α):x∈vis↔∃a∈l,Rch E I a x:=by
 refine⟨h.snd x,λ⟨a,e,d⟩=>?_⟩
 have c:∀y z,Rch E I y z→y∈vis→z∈vis:=by
  intro y z b
  induction b with
  |refl _=>exact id
  |step h1 h2 h3 ih=>exact λf=>ih ((h.clos _ f _ h2 h3.left).elim id (λh=>by simp at h))
 exact c a x d ((h.start a e d.left).elim id (λh=>by simp at h))
variable [DecidableEq α]
def wlW (E:α→List α) (vis:List α):List α→Nat
 |[]=>0
 |x::r=>(if x∈vis then 0 else(E x).length)+wlW E vis r
theorem VT {vis:List α} {x:α}:∀ {l:List α},x∉l→wlW E (x::vis) l=wlW E vis l
 |[],_=>rfl
 |y::r,h=>by
  have b:y≠x:=λe=>h (by simp[e])
  have a:x∉r:=λe=>h (by simp[e])
  simp only[wlW,mem_cons,b,false_or]
  rw[VT a]
theorem Qb {vis:List α} {x:α} (a:x∉vis):∀ {l:List α},l.Nodup→x∈l→wlW E (x::vis) l+(E x).length=wlW E vis l
 |[],_,h=>by cases h
 |y::r,hn,h=>by
  obtain⟨c,d⟩:=nodup_cons.1 hn
  by_cases e:y=x
  ·subst e
   simp only[wlW,List.mem_cons_self,if_true,if_neg a]
   rw[VT c]
   omega
  ·have b:x∈r:=by
    rcases mem_cons.1 h with h|h
    ·exact absurd h.symm e
    ·exact h
   have:=Qb a d b
   simp only[wlW,mem_cons,e,false_or]
   omega
theorem zku {k:Nat} {vis:List α}:∀ {l:List α},(∀x∈l,(E x).length≤k)→wlW E vis l≤l.length*k
 |[],_=>zero_le _
 |y::r,h=>by
  have b:=h y (by simp)
  have c:=zku (vis:=vis) (l:=r) λx a=>h x (by simp[a])
  simp only[wlW,length_cons,Nat.succ_mul]
  split<;>omega
end
structure yW where
 id:zd
 ps:List zd
def ids (G:List yW):List zd:=G.map (·.id)
def par (G:List yW) (x:zd):List zd:=((G.find? λn=>decide (n.id=x)).map (·.ps)).getD []
def kid (G:List yW) (x:zd):List zd:=(G.filter λn=>decide (x∈n.ps)).map (·.id)
structure GOk (G:List yW):Prop where
 nd:(ids G).Nodup
 pn:∀n∈G,n.ps.Nodup
 top:∀A n B,G=A++n::B→∀p∈n.ps,p∈ids A
variable {G:List yW}
theorem JC (h:GOk G) {n:yW} (b:n∈G):par G n.id=n.ps:=by
 unfold par
 have a:=h.nd
 clear h
 induction G with
 |nil=>cases b
 |cons y r ih=>
  simp only[ids,map_cons,nodup_cons] at a
  rcases mem_cons.1 b with rfl|b
  ·simp
  ·have:y.id≠n.id:=λe=>a.1 (e▸mem_map.2 ⟨n,b,rfl⟩)
   rw[List.find?_cons_of_neg (by simpa using this)]
   exact ih b a.2
theorem Xr {x:zd} (h:x∉ids G):par G x=[]:=by
 unfold par
 rw[List.find?_eq_none.2]
 ·rfl
 ·intro n a
  simp only[decide_eq_true_eq]
  exact λe=>h (e▸mem_map.2 ⟨n,a,rfl⟩)
theorem Ji {x:zd}:x∈ids G↔∃n∈G,n.id=x:=mem_map
theorem zba {x y:zd}:y∈kid G x↔∃n∈G,n.id=y∧x∈n.ps:=by
 unfold kid
 simp only[mem_map,mem_filter,decide_eq_true_eq]
 exact⟨λ⟨n,⟨a,b⟩,c⟩=>⟨n,a,c,b⟩,λ⟨n,a,c,b⟩=>⟨n,⟨a,b⟩,c⟩⟩
theorem Vn (h:GOk G) {x y:zd}:y∈kid G x↔y∈ids G∧x∈par G y:=by
 rw[zba]
 constructor
 ·rintro⟨n,a,rfl,b⟩
  exact⟨Ji.2 ⟨n,a,rfl⟩,by rw[JC h a];exact b⟩
 ·rintro⟨c,b⟩
  obtain⟨n,a,rfl⟩:=Ji.1 c
  exact⟨n,a,rfl,by rwa [JC h a] at b⟩
theorem zdM (h:GOk G) {x y:zd} (a:y∈par G x):y∈ids G:=by
 by_cases hx:x∈ids G
 ·obtain⟨n,b,rfl⟩:=Ji.1 hx
  rw[JC h b] at a
  obtain⟨A,B,rfl⟩:=append_of_mem b
  have:=h.top A n B rfl y a
  simp only[ids,map_append,mem_append] at this⊢
  exact .inl this
 ·rw[Xr hx] at a;cases a
theorem zhV (h:GOk G) (x:zd):(kid G x).Nodup:=List.Nodup.sublist (List.Sublist.map _ filter_sublist) h.nd
theorem za7 (x:zd):(kid G x).length≤G.length:=by unfold kid;rw[length_map];exact List.length_filter_le _ _
theorem qy {α:Type} [DecidableEq α]:∀ {l m:List α},l.Nodup→(∀x∈l,x∈m)→l.length≤m.length
 |[],_,_,_=>zero_le _
 |x::r,m,hn,h=>by
  obtain⟨b,c⟩:=nodup_cons.1 hn
  have d:=qy (l:=r) (m:=m.erase x) c λy a=>(List.mem_erase_of_ne (by rintro rfl;exact b a)).2 (h y (by simp[a]))
  have e:=List.length_erase_of_mem (h x (by simp))
  have f:=List.length_pos_of_mem (h x (by simp))
  simp only[length_cons]
  omega
theorem zdL (h:GOk G) (x:zd):(par G x).length≤G.length:=by
 have a:(par G x).Nodup:=by
  by_cases hx:x∈ids G
  ·obtain⟨n,a,rfl⟩:=Ji.1 hx
   rw[JC h a];exact h.pn n a
  ·rw[Xr hx];simp
 have:=qy a (m:=ids G) λy b=>zdM h b
 simpa[ids] using this
def Anc (G:List yW) (x y:zd):Prop:=Rch (par G) (· ∈ids G) x y
theorem zgF (h:GOk G) {x y:zd}:Rch (kid G) (· ∈ids G) x y↔Anc G y x:=
 ⟨λa=>a.flip λ_ _ _ _ b=>((Vn h).1 b).2,λa=>a.flip λ_ _ c _ b=>(Vn h).2 ⟨c,b⟩⟩
open Classical in
noncomputable def upS (G:List yW) (l:List zd):List zd:=(ids G).filter λx=>decide (∃a∈l,Anc G a x)
open Classical in
noncomputable def vl (G:List yW) (l:List zd):List zd:=(ids G).filter λx=>decide (∃a∈l,Anc G x a)
theorem zdH {l:List zd} {x:zd}:x∈upS G l↔∃a∈l,Anc G a x:=by
 unfold upS
 simp only[mem_filter,decide_eq_true_eq]
 exact⟨λh=>h.2,λ⟨a,b,h⟩=>⟨h.right,a,b,h⟩⟩
theorem Yt {l:List zd} {x:zd}:x∈vl G l↔∃a∈l,Anc G x a:=by
 unfold vl
 simp only[mem_filter,decide_eq_true_eq]
 exact⟨λh=>h.2,λ⟨a,b,h⟩=>⟨h.left,a,b,h⟩⟩
theorem zjl (l:List zd):∀x∈vl G l,x∈ids G:=λ_ h=>(mem_filter.1 h).1
theorem zlJ {l m:List zd} (h:∀x,x∈l↔x∈m):upS G l=upS G m:=by
 unfold upS
 refine List.filter_congr λx _=>decide_eq_decide.2 ⟨λ⟨a,b,c⟩=>⟨a,(h a).1 b,c⟩,λ⟨a,b,c⟩=>⟨a,(h a).2 b,c⟩⟩
theorem jL (l:List zd):(upS G l).Sublist (ids G):=filter_sublist
theorem vm (l:List zd):(vl G l).Sublist (ids G):=filter_sublist
theorem zjk (l:List zd):(vl G l).length≤G.length:=by have:=(vm (G:=G) l).length_le;simpa[ids] using this
theorem zct (h:GOk G) {x y:zd} (c:Anc G x y):∀A n B,G=A++n::B→n.id=x→y∈ids (A++[n]):=by
 unfold Anc at c
 induction c with
 |refl _=>rintro A n B-rfl;simp[ids]
 |@step x p z h1 h2 h3 ih=>
  rintro A n B a rfl
  rw[JC h (by rw[a];simp)] at h2
  have f:=h.top A n B a p h2
  obtain⟨g,b,rfl⟩:=Ji.1 f
  obtain⟨d,e,rfl⟩:=append_of_mem b
  have:=ih d g (e++n::B) (by rw[a];simp) rfl
  simp only[ids,map_append,mem_append,map_cons,List.map_nil,mem_cons,List.not_mem_nil,or_false] at this⊢
  rcases this with h|h
  ·exact .inl (.inl h)
  ·exact .inl (.inr (.inl h))
def dedup (l:List zd):List zd:=l.foldl (λacc p=>if p∈acc then acc else acc++[p]) []
theorem Ve:∀(l c:List zd),c.Nodup→(l.foldl (λc p=>if p∈c then c else c++[p]) c).Nodup∧∀x,x∈l.foldl (λc p=>if p∈c then c else c++[p]) c↔x∈c∨x∈l
 |[],c,h=>⟨h,by simp⟩
 |p::r,c,h=>by
  simp only[List.foldl_cons]
  by_cases hp:p∈c
  ·rw[if_pos hp]
   obtain⟨d,f⟩:=Ve r c h
   refine⟨d,λx=>?_⟩
   rw[f,mem_cons]
   exact⟨λh=>h.elim .inl (λh=>.inr (.inr h)),λh=>h.elim .inl (λh=>h.elim (λe=>.inl (e▸hp)) .inr)⟩
  ·rw[if_neg hp]
   obtain⟨d,f⟩:=Ve r (c++[p]) (nodup_append.2 ⟨h,by simp,λa g b i e=>hp (by rw[←mem_singleton.1 i,←e];exact g)⟩)
   refine⟨d,λx=>?_⟩
   rw[f,mem_append,mem_singleton,mem_cons]
   exact⟨λh=>h.elim (λh=>h.elim .inl (λh=>.inr (.inl h))) (λh=>.inr (.inr h)),λh=>h.elim (λh=>.inl (.inl h)) (λh=>h.elim (λh=>.inl (.inr h)) .inr)⟩
theorem Xi (l:List zd):(dedup l).Nodup:=(Ve l [] (by simp)).1
theorem Jq {l:List zd} {x:zd}:x∈dedup l↔x∈l:=by have:=(Ve l [] (by simp)).2 x;unfold dedup;simpa using this
theorem zfQ (l:List zd) (p:zd):dedup (l++[p])=if p∈dedup l then dedup l else dedup l++[p]:=by unfold dedup;rw[List.foldl_append];rfl
theorem zcC:∀l:List zd,(dedup l).length≤l.length:=λl=>qy (Xi l) λ_ h=>Jq.1 h
def Qc (G:List yW) (x:zd) (ps:List zd):List yW:=G++[⟨x,dedup ps⟩]
open Classical in
noncomputable def zbm (G:List yW) (x:zd) (ps:List zd):Int:=
 if x∈ids G then 10 else if ∃p∈ps,p∉ids G then 9 else if(upS G ps).length<6 then 0 else 16
theorem zkX (x:zd) (ps:List zd):ids (Qc G x ps)=ids G++[x]:=by simp[ids,Qc]
theorem zgE (h:GOk G) {x:zd} {ps:List zd} (m:x∉ids G) (l:∀p∈ps,p∈ids G):GOk (Qc G x ps):=by
 refine⟨?_,λn c=>?_,λA n B e p d=>?_⟩
 ·rw[zkX]
  exact nodup_append.2 ⟨h.nd,by simp,λa j b k e=>m (by rw[←mem_singleton.1 k,←e];exact j)⟩
 ·rcases mem_append.1 c with c|c
  ·exact h.pn n c
  ·rw[mem_singleton.1 c];exact Xi ps
 ·unfold Qc at e
  rcases List.eq_nil_or_concat B with rfl|⟨i,b,rfl⟩
  ·obtain⟨f,g⟩:=List.append_inj' e rfl
   subst f
   injection g with g
   subst g
   exact l p (Jq.1 d)
  ·rw[List.concat_eq_append,←List.cons_append,←List.append_assoc] at e
   obtain⟨f,-⟩:=List.append_inj' e rfl
   exact h.top A n i f p d
def Qx (G:List yW) (x:zd):List yW:=(G.filter λn=>decide (n.id≠x)).map λn=>⟨n.id,n.ps.filter λp=>decide (p≠x)⟩
def ZU (G:List yW) (l:List zd):List yW:=(G.filter λn=>decide (n.id∉l)).map λn=>⟨n.id,n.ps.filter λp=>decide (p∉l)⟩
theorem zbr (G:List yW):ZU G []=G:=by
 unfold ZU
 have e:(λn:yW=>(⟨n.id,n.ps.filter λp=>decide (p∉([]:List zd))⟩:yW))=id:=by
  funext n
  simp only[List.not_mem_nil,not_false_eq_true,decide_true,id_eq]
  rw[filter_eq_self.2 (λ_ _=>rfl)]
 rw[e,List.map_id,filter_eq_self.2 (λn _=>by simp)]
theorem zcB (G:List yW) (l:List zd) (x:zd):ZU G (l++[x])=Qx (ZU G l) x:=by
 unfold ZU Qx
 rw[List.filter_map,map_map,List.filter_filter]
 congr 1
 ·funext n
  simp only[Function.comp,List.filter_filter]
  congr 1
  refine List.filter_congr λp _=>?_
  simp only[mem_append,mem_singleton,not_or,Bool.decide_and,ne_eq,decide_not]
  rw[Bool.and_comm]
 ·refine List.filter_congr λn _=>?_
  simp only[Function.comp,mem_append,mem_singleton,not_or,Bool.decide_and,ne_eq,decide_not]
  rw[Bool.and_comm]
theorem zjc (G:List yW) (x:zd):Qx G x=ZU G [x]:=by
 have:=zcB G [] x
 rw[nil_append,zbr] at this
 exact this.symm
theorem zgS (l:List zd):ids (ZU G l)=(ids G).filter λy=>decide (y∉l):=by
 unfold ids ZU
 rw[map_map,List.filter_map]
 rfl
theorem JY {l:List zd} {x:zd}:x∈ids (ZU G l)↔x∈ids G∧x∉l:=by
 rw[zgS,mem_filter,decide_eq_true_eq]
theorem zdu (h:GOk G) (l:List zd):GOk (ZU G l):=by
 refine⟨?_,λn f=>?_,λA n B e p t=>?_⟩
 ·rw[zgS]
  exact h.nd.sublist filter_sublist
 ·unfold ZU at f
  obtain⟨m,s,rfl⟩:=mem_map.1 f
  exact(h.pn m (mem_filter.1 s).1).sublist filter_sublist
 ·unfold ZU at e
  obtain⟨v,w,k,rfl,o⟩:=List.map_eq_append_iff.1 e
  obtain⟨m,x,rfl,rfl,rfl⟩:=List.map_eq_cons_iff.1 o
  obtain⟨g,u,rfl,rfl,q⟩:=List.filter_eq_append_iff.1 k
  obtain⟨i,j,rfl,r,y,z⟩:=List.filter_eq_cons_iff.1 q
  obtain⟨d,a⟩:=mem_filter.1 t
  have:=h.top (g++i) m j (by simp) p d
  obtain⟨b,c,rfl⟩:=Ji.1 this
  simp only[decide_eq_true_eq] at a
  refine Ji.2 ⟨⟨b.id,b.ps.filter λp=>decide (p∉l)⟩,?_,rfl⟩
  refine mem_map.2 ⟨b,?_,rfl⟩
  rcases mem_append.1 c with h1|h1
  ·exact mem_filter.2 ⟨h1,by simpa using a⟩
  ·exact absurd (by simpa using a) (r b h1)
theorem zle (h:GOk G) (l:List zd) (y:zd):par (ZU G l) y=if y∈l then[] else(par G y).filter λp=>decide (p∉l):=by
 by_cases hy:y∈ids G
 ·by_cases a:y∈l
  ·rw[if_pos a,Xr]
   rw[JY]
   exact λh=>h.2 a
  ·rw[if_neg a]
   obtain⟨n,b,rfl⟩:=Ji.1 hy
   rw[JC h b]
   have:(⟨n.id,n.ps.filter λp=>decide (p∉l)⟩:yW)∈ZU G l:=mem_map.2 ⟨n,mem_filter.2 ⟨b,by simpa using a⟩,rfl⟩
   exact JC (zdu h l) this
 ·rw[Xr (by rw[JY];exact λh=>hy h.1),Xr hy]
  split<;>rfl
theorem zkD (h:GOk G) {l:List zd} {a b:zd} (e:Anc (ZU G l) a b):Anc G a b:=
 Rch.mono (λ_ c=>(JY.1 c).1) (λy z c _ d=>by
  rw[zle h,if_neg (JY.1 c).2] at d
  exact(mem_filter.1 d).1) e
theorem zhE (h:GOk G) {q:zd} (g:q∈ids G):∃r,vl G [q]=q::r:=by
 obtain⟨n,v,rfl⟩:=Ji.1 g
 obtain⟨A,B,e⟩:=append_of_mem v
 have s:∀y∈ids A,¬Anc G y n.id:=by
  intro y f c
  obtain⟨m,u,rfl⟩:=Ji.1 f
  obtain⟨i,j,rfl⟩:=append_of_mem u
  have b:=zct h c i m (j++n::B) (by rw[e];simp) rfl
  have d:=h.nd
  rw[e] at d
  simp only[ids,map_append,map_cons,List.append_assoc,List.cons_append,List.map_nil] at b d
  obtain⟨-,l,o⟩:=nodup_append.1 d
  rcases mem_append.1 b with b|b
  ·exact o _ b n.id (by simp) rfl
  ·obtain⟨p,-⟩:=nodup_cons.1 l
   rw[mem_singleton] at b
   exact p (by rw[←b];simp)
 unfold vl
 have k:ids G=ids A++(n.id::ids B):=by rw[e];simp[ids]
 rw[k,filter_append,List.filter_eq_nil_iff.2,nil_append,List.filter_cons_of_pos]
 ·exact⟨_,rfl⟩
 ·simp only[decide_eq_true_eq]
  exact⟨n.id,by simp,.refl g⟩
 ·intro y f
  simp only[decide_eq_true_eq]
  rintro⟨a,t,c⟩
  rw[mem_singleton.1 t] at c
  exact s y f c
end
theorem J7:prog.underlying 197=some (.map 41 196):=by kernel_rfl
theorem jo:prog.underlying 120=some (.map 41 3):=by kernel_rfl
theorem zky (w:World):(zeroValue 3).run prog w=.ok (.int .i64 0) w:=by kernel_rfl
theorem zfC (w:World):(zeroValue 196).run prog w=.ok (.pointer none) w:=by kernel_rfl
theorem Yc (w:World) {u v:Value} {a c:List zd} (F:y3 w u a) (G:y3 w v c) (hN:a.length≤100000) (_:c.length≤100000):
  Calls prog 18 #[u,v] w λe w'=>∃b,e=.returned (.bool b)∧(b=true↔a=c)∧Fr No w w':=by
 obtain⟨ua,uc,rfl⟩:=F.2.form
 obtain⟨va,vc,rfl⟩:=G.2.form
 have N:=J F
 have O:=J G
 clear F G
 by_cases hlen:a.length=c.length
 ·have j1:(a.length:Int)=(c.length:Int):=by omega
  have k:=J hlen
  clear hlen
  go_enter Tryz.func18,Tryz.ntmps18
  go_wp2
  go_loopw [13] (λM wr=>∃n:Nat,M=.int .i64 n∧n≤a.length∧a.take n=c.take n∧Fr No w wr) (λM _=>a.length-(intOf M).toNat)
  case atStart=>exact⟨0,rfl,zero_le _,by simp,Fr.refl _ _⟩
  case round=>
   obtain⟨n,rfl,hn,m,fr⟩:=hrel
   have g:=J fr
   have R:=J m
   clear fr m
   by_cases h:n<a.length
   ·have i1:(n:Int)<(a.length:Int):=by omega
    have L:(n:Int)<(c.length:Int):=by omega
    obtain⟨x,q⟩:∃x,a[n]? =some x:=⟨_,getElem?_eq_getElem h⟩
    obtain⟨y,hy⟩:∃y,c[n]? =some y:=⟨_,getElem?_eq_getElem (by rw[←k.o];exact h)⟩
    obtain⟨bx,r,cx,H,o,-⟩:=(N.o.keep g.o).at_ q
    cases H
    obtain⟨d,s,cy,I,p,-⟩:=(O.o.keep g.o).at_ hy
    cases I
    have D:=J (N.o.1 x (mem_of_getElem? q))
    have E:=J (O.o.1 y (mem_of_getElem? hy))
    have P:=J (zx D.o)
    have Q:=J (zx E.o)
    have S:=J o
    have T:=J p
    have U:=@J (a.take (n+1)=a.take n++[x]) (by rw[take_add_one,q];rfl)
    have V:=@J (c.take (n+1)=c.take n++[y]) (by rw[take_add_one,hy];rfl)
    clear o p q hy
    by_cases hxk:x=y
    ·have z:=@J ((zf x).toArray=(zf y).toArray) (by simp[hxk])
     have C:=@J (a.take (n+1)=c.take (n+1)) (by rw[U.o,V.o,R.o,hxk])
     clear hxk
     have i:Fr No wr wr.drew:=by(repeat(first|with_reducible exact Fr.refl _ _|with_reducible assumption|with_reducible refine Fr.drew ?_|with_reducible refine Fr.drewN ?_ _|with_reducible refine Fr.alloc ?_ _|with_reducible refine Fr.setCell ?_ _ (.inl (by simp<;>omega)) _))
     have l:=J (λ(W:World) (f:Fr No wr W)=>(⟨za S.o f id,za T.o f id⟩:W.rangeAt bx (r+n*32) (zf x)∧W.rangeAt d (s+n*32) (zf y)))
     go_wp2
     refine wrLx [ff,ff,ff,ff,ff,ff,ff,ff,ff] (λW=>W.rangeAt bx (r+n*32) (zf x)∧W.rangeAt d (s+n*32) (zf y)) ?_ (λK hK=>?_)
     ·exact l.o _ i
     repeat((first|(refine zj rfl ?_;constructor;constructor;(focus(first|exact zn7 rfl (λw h=>h.1) P.o|exact zn7 rfl (λw h=>h.2) Q.o|exact λw' h=>xT.exec_neq (u:=(zf x).toArray) (v:=(zf y).toArray) rfl rfl rfl (yq D.o) (yq E.o) true ⟨λ_=>z.o,λ_=>rfl⟩ w'|(rintro w' -;go_simp;(try with_reducible rfl);done))))|(refine zl rfl ?_));try simp only[Act.put,pA,pB,pC])
     refine zL (hK.out _ _ ?_)
     have t:=J i
     clear i l
     go_wp2
     go_roundw
     case rel=>exact⟨n+1,by simp,by omega,C.o,g.o.trans0 t.o⟩
     case measure=>show a.length-(n+1)<a.length-n;omega
    ·have z:=@J (¬(zf x).toArray=(zf y).toArray) (λe=>hxk (zaj (by simpa using e)))
     have B:=@J (a≠c) (λe=>hxk (by
      have X:=U.o
      have Y:=V.o
      rw[e] at X
      rw[X] at Y
      have Z:=congrArg List.getLast? Y
      simpa using Z))
     clear hxk
     have i:Fr No wr wr.drew:=by(repeat(first|with_reducible exact Fr.refl _ _|with_reducible assumption|with_reducible refine Fr.drew ?_|with_reducible refine Fr.drewN ?_ _|with_reducible refine Fr.alloc ?_ _|with_reducible refine Fr.setCell ?_ _ (.inl (by simp<;>omega)) _))
     have l:=J (λ(W:World) (f:Fr No wr W)=>(⟨za S.o f id,za T.o f id⟩:W.rangeAt bx (r+n*32) (zf x)∧W.rangeAt d (s+n*32) (zf y)))
     go_wp2
     refine wrLx [ff,ff,ff,ff,ff,ff,ff,ff,ff] (λW=>W.rangeAt bx (r+n*32) (zf x)∧W.rangeAt d (s+n*32) (zf y)) ?_ (λK hK=>?_)
     ·exact l.o _ i
     repeat((first|(refine zj rfl ?_;constructor;constructor;(focus(first|exact zn7 rfl (λw h=>h.1) P.o|exact zn7 rfl (λw h=>h.2) Q.o|exact λw' h=>xT.exec_neq (u:=(zf x).toArray) (v:=(zf y).toArray) rfl rfl rfl (yq D.o) (yq E.o) false ⟨λe=>(by cases e),λe=>absurd e z.o⟩ w'|(rintro w' -;go_simp;(try with_reducible rfl);done))))|(refine zl rfl ?_));try simp only[Act.put,pA,pB,pC])
     refine zL (hK.out _ _ ?_)
     have t:=J i
     clear i l
     go_wp2
     go_ret
     exact⟨false,rfl,by simp[B.o],g.o.trans0 t.o⟩
   ·have i1:¬(n:Int)<(a.length:Int):=by omega
    have L:n=a.length:=by omega
    have j:a=c:=by have:=R.o;rw[L,take_length,k.o,take_length] at this;exact this
    have A:=J j
    clear j L
    go_wp2
    go_ret
    first|exact⟨true,rfl,by simp[A.o],g.o⟩|exact .inr ⟨rfl,A.o,g.o⟩|exact .inl ⟨rfl,A.o,g.o⟩
 ·have j1:¬(a.length:Int)=(c.length:Int):=by omega
  have B:=@J (a≠c) (λe=>hlen (by rw[e]))
  clear hlen
  go_enter Tryz.func18,Tryz.ntmps18
  go_wp2
  go_ret
  exact⟨false,rfl,by simp[B.o],Fr.refl _ _⟩
theorem YJ (w:World) {v:Value} {H:List zd} (i:y3 w v H) (C:H.length≤100000):
  Calls prog 42 #[v] w λe w'=>∃p,e=.returned p∧w'.ownsRow w.heap.size 41 32 p H.length (H.flatMap zf)∧Fr No w w':=by
 have B:∀(w:World) (a:Option Addr) (n c o l:Nat),(binOp .eql 38 (.slice a n c) (.slice none o l)).run prog w=.ok (.bool a.isNone) w:=λw a n c o l=>Lib.run_eql_slice_nil w _ _ a n c o l qi
 by_cases hnil:v=.slice none 0 0
 ·subst hnil
  have A:H=[]:=by
   obtain⟨a,c,h⟩:=i.2.form
   injection h with h1 h2 h3
   exact List.eq_nil_of_length_eq_zero h2.symm
  subst A
  clear i
  go_enter Tryz.func42,Tryz.ntmps42
  go_wp2
  go_ret
  exact⟨_,rfl,World.ownsRow_nil _ _ _ _,Fr.refl _ _⟩
 ·have t:y7 (w.alloc (.cells #[] 41)) v H.length (H.flatMap zf):=i.2.keep ((Fr.refl _ _).alloc _)
  obtain⟨p,w',d,s,r,-,m⟩:=Jk (P:=prog) (w.alloc (.cells #[] 41)) w.heap.size 38 38 41 32 32 _ qi qI rfl (by decide) (.slice (some ⟨w.heap.size,0,none⟩) 0 0) 0 [] (World.ownsRow_made w #[] 0 (le_refl _) (zero_le _) rfl) v H.length (H.flatMap zf) t (Zj i.1) Zk (by omega) (by unfold maxLen;omega) (by simp) hnil
  have q:Fr No w w':=Fr.grown ((Fr.refl _ w).alloc _) r (λk z=>by simp[Value.ownBlock] at z;exact .inl (by omega))
  have f:∃b n c,v=.slice (some b) n c:=by
   rcases i.2 with(⟨h,_⟩|⟨g,go,y,h,_⟩)|⟨a0,y,h,-⟩
   ·exact absurd h hnil
   ·exact⟨_,_,_,h⟩
   ·exact⟨_,_,_,h⟩
  obtain⟨b,n,c,rfl⟩:=f
  have j:=J d
  have x:=J s
  have u:=J q
  clear t d s r m q i hnil
  go_enter Tryz.func42,Tryz.ntmps42
  go_wp2_with (at_builtin;refine zR rfl rfl rfl rfl j.o ?_)
  go_ret
  exact⟨_,rfl,by simpa using x.o,u.o⟩
def Qd (x:zd):List zd→Int
 |[]=> -1
 |y::r=>if y=x then 0 else if x∈r then 1+Qd x r else -1
theorem zal {x:zd}:∀ {l:List zd},x∉l→Qd x l= -1
 |[],_=>rfl
 |y::r,h=>by
  have a:¬y=x:=λe=>h (by simp[e])
  have b:x∉r:=λe=>h (by simp[e])
  simp[Qd,a,b]
theorem Vk {x:zd}:∀ {l:List zd} {n:Nat},l[n]? =some x→x∉l.take n→Qd x l=n
 |[],n,h,_=>by simp at h
 |y::r,0,h,_=>by
  simp at h
  simp[Qd,h]
 |y::r,n+1,h,hn=>by
  simp only[List.getElem?_cons_succ] at h
  simp only[List.take_succ_cons,mem_cons,not_or] at hn
  have a:¬y=x:=λe=>hn.1 e.symm
  have b:x∈r:=mem_of_getElem? h
  have:=Vk h hn.2
  simp only[Qd,a,if_false,b,if_true,this]
  omega
theorem zgT {x:zd}:∀ {l:List zd},(0≤Qd x l↔x∈l)
 |[]=>by simp[Qd]
 |y::r=>by
  have ih:=zgT (x:=x) (l:=r)
  by_cases h1:y=x
  ·simp[Qd,h1]
  ·by_cases h2:x∈r
   ·have:=ih.2 h2
    simp only[Qd,h1,if_false,h2,if_true,mem_cons,or_true,iff_true]
    omega
   ·have a:¬x=y:=λe=>h1 e.symm
    simp[Qd,h1,h2,a]
theorem zcP (w:World) {v:Value} {l:List zd} (y:y3 w v l) (R:l.length≤100000) (k:zd) (t:zX k):
  Calls prog 83 #[v,.agg (zf k).toArray] w λe w'=>e=.returned (.int .i64 (Qd k l))∧Fr No w w':=by
 obtain⟨U,V,rfl⟩:=y.2.form
 have A:=J y
 have o:=J (zx t)
 have a:=J t
 have M:=J (zy w (zf k) 41)
 have m:=@J (Fr No w (w.alloc (.cells (zf k).toArray 41))) (by(repeat(first|with_reducible exact Fr.refl _ _|with_reducible assumption|with_reducible refine Fr.drew ?_|with_reducible refine Fr.drewN ?_ _|with_reducible refine Fr.alloc ?_ _|with_reducible refine Fr.setCell ?_ _ (.inl (by simp<;>omega)) _)))
 clear y t
 go_enter Tryz.func83,Tryz.ntmps83
 go_wp2
 generalize T:w.heap.size=q at*
 generalize w.alloc (.cells (zf k).toArray 41)=Q at*
 go_loopw [8] (λz wr=>∃n:Nat,z=.int .i64 n∧n≤l.length∧k∉l.take n∧Fr No Q wr) (λz _=>l.length-(intOf z).toNat)
 case atStart=>exact⟨0,rfl,zero_le _,by simp,Fr.refl _ _⟩
 case round=>
  obtain⟨n,rfl,S,j,fr⟩:=hrel
  have i:=J fr
  have p:=J j
  clear fr j
  by_cases h:n<l.length
  ·have P:(n:Int)<(l.length:Int):=by omega
   obtain⟨x,d⟩:∃x,l[n]? =some x:=⟨_,getElem?_eq_getElem h⟩
   obtain⟨b,off,c,O,D,N⟩:=(A.o.keep (m.o.trans0 i.o)).at_ d
   cases O
   have C:=J (A.o.1 x (mem_of_getElem? d))
   have H:=J (zx C.o)
   have L:=J D
   have s:=J (za M.o i.o id)
   have B:=J (λ(W:World) (f:Fr No wr W)=>(⟨za s.o f id,za L.o f id⟩:W.rangeAt q 0 (zf k)∧W.rangeAt b (off+n*32) (zf x)))
   clear D N
   by_cases hxk:k=x
   ·subst hxk
    have F:=J (Vk d p.o)
    clear d
    go_wp2
    refine wrLx [ff,ff,ff,ff,ff,ff] (λW=>W.rangeAt q 0 (zf k)∧W.rangeAt b (off+n*32) (zf k)) ?_ (λK hK=>?_)
    ·exact B.o _ (frN _).drew
    repeat((first|(refine zj rfl ?_;constructor;constructor;(focus(first|exact zn7 rfl (λw h=>h.1) o.o|exact zn7 rfl (λw h=>h.2) o.o|exact λw' h=>xT.exec_eql (u:=(zf k).toArray) (v:=(zf k).toArray) rfl rfl rfl (yq a.o) (yq a.o) true (by simp) w'|(rintro w' -;go_simp;(try with_reducible rfl);done))))|(refine zl rfl ?_));try simp only[Act.put,pA,pB,pC])
    refine zL (hK.out _ _ ?_)
    go_wp2
    go_ret
    exact⟨by rw[F.o];rfl,(m.o.trans0 i.o).drew⟩
   ·have I:=@J (¬(zf k).toArray=(zf x).toArray) (λe=>hxk (yY (congrArg Value.agg e)))
    have r:=@J (k∉l.take (n+1)) (by
     rw[take_add_one,d]
     simp only[Option.toList_some,mem_append,mem_singleton]
     exact λe=>e.elim p.o hxk)
    clear d
    go_wp2
    refine wrLx [ff,ff,ff,ff,ff,ff] (λW=>W.rangeAt q 0 (zf k)∧W.rangeAt b (off+n*32) (zf x)) ?_ (λK hK=>?_)
    ·exact B.o _ (frN _).drew
    repeat((first|(refine zj rfl ?_;constructor;constructor;(focus(first|exact zn7 rfl (λw h=>h.1) o.o|exact zn7 rfl (λw h=>h.2) H.o|exact λw' h=>xT.exec_eql (u:=(zf k).toArray) (v:=(zf x).toArray) rfl rfl rfl (yq a.o) (yq C.o) false ⟨λe=>(by cases e),λe=>absurd e I.o⟩ w'|(rintro w' -;go_simp;(try with_reducible rfl);done))))|(refine zl rfl ?_));try simp only[Act.put,pA,pB,pC])
    refine zL (hK.out _ _ ?_)
    go_wp2
    go_roundw
    case rel=>exact⟨n+1,by simp,by omega,r.o,i.o.drew⟩
    case measure=>show l.length-(n+1)<l.length-n;omega
  ·have P:¬(n:Int)<(l.length:Int):=by omega
   have E:n=l.length:=by omega
   have g:k∉l:=by have:=p.o;rw[E,take_length] at this;exact this
   have G:=J (zal g)
   clear g E
   go_wp2
   go_ret
   exact⟨by rw[G.o];rfl,m.o.trans0 i.o⟩
theorem YK (w:World) {v:Value} {l:List zd} (m:y3 w v l) (s:l.length≤100000) (k:zd) (j:zX k):
  Calls prog 88 #[v,.agg (zf k).toArray] w λe w'=>e=.returned (.bool (decide (k∈l)))∧Fr No w w':=by
 obtain⟨u,y,rfl⟩:=m.2.form
 have o:=J (zx j)
 have p:=J (zy w (zf k) 41)
 have f:=@J (Fr No w (w.alloc (.cells (zf k).toArray 41))) (by(repeat(first|with_reducible exact Fr.refl _ _|with_reducible assumption|with_reducible refine Fr.drew ?_|with_reducible refine Fr.drewN ?_ _|with_reducible refine Fr.alloc ?_ _|with_reducible refine Fr.setCell ?_ _ (.inl (by simp<;>omega)) _)))
 have n:=J (zcP (w.alloc (.cells (zf k).toArray 41)) (m.keep f.o) s k j)
 have q:=J (zgT (x:=k) (l:=l))
 clear m j
 have a:(k∈l∧0≤Qd k l)∨(k∉l∧¬0≤Qd k l):=by
  have:=q.o
  by_cases h:k∈l
  ·exact .inl ⟨h,this.2 h⟩
  ·exact .inr ⟨h,λe=>h (this.1 e)⟩
 generalize Qd k l=i at*
 go_enter Tryz.func88,Tryz.ntmps88
 rcases a with⟨c,r⟩|⟨c,r⟩
 ·have d:=@J (decide (k∈l)=true) (decide_eq_true c)
  clear c
  go_wp2_with (first|(refine zn3 rfl rfl rfl p.o o.o ?_)|(go_at_call 83;refine n.o.mono ?_;rintro e t ⟨rfl,b⟩;have g:=J (f.o.trans0 b);clear b))
  go_ret
  exact⟨by rw[d.o];rfl,g.o⟩
 ·have d:=@J (decide (k∈l)=false) (decide_eq_false c)
  clear c
  go_wp2_with (first|(refine zn3 rfl rfl rfl p.o o.o ?_)|(go_at_call 83;refine n.o.mono ?_;rintro e t ⟨rfl,b⟩;have g:=J (f.o.trans0 b);clear b))
  go_ret
  exact⟨by rw[d.o];show Ending.returned (.bool (decide (0≤i)))=_;rw[decide_eq_false (by omega)],g.o⟩
def zb3 (q:Nat):Value:=.func (.func 163) #[] #[.pointer (some ⟨q,0,none⟩)]
theorem VB (w:World) {q:Nat} {k x:zd} (c:w.rangeAt q 0 (zf k)) (b:zX k) (d:zX x):
  Calls prog 163 #[.agg (zf x).toArray,.pointer (some ⟨q,0,none⟩)] w λe w'=>e=.returned (.bool (decide (x=k)))∧Fr No w w':=by
 have g:=J (zx b)
 have h:=J (zx d)
 have i:=J (zy w (zf x) 41)
 have a:=@J (Fr No w (w.alloc (.cells (zf x).toArray 41))) (by(repeat(first|with_reducible exact Fr.refl _ _|with_reducible assumption|with_reducible refine Fr.drew ?_|with_reducible refine Fr.drewN ?_ _|with_reducible refine Fr.alloc ?_ _|with_reducible refine Fr.setCell ?_ _ (.inl (by simp<;>omega)) _)))
 have j:=J (za c a.o id)
 clear c
 have f:=@J ((decide (x=k)=true↔(zf x).toArray=(zf k).toArray)) (by
  rw[decide_eq_true_iff]
  exact⟨λe=>by rw[e],λe=>yY (congrArg Value.agg e)⟩)
 generalize decide (x=k)=l at*
 go_enter Tryz.func163,Tryz.ntmps163
 go_wp2_with (first|(refine zn3 rfl rfl rfl i.o h.o ?_)|(refine zn3 rfl rfl rfl j.o g.o ?_)|(refine zg rfl (xT.exec_eql rfl rfl rfl (yq d) (yq b) l f.o _) ?_))
 go_ret
 exact⟨by rfl,a.o⟩
theorem zcm (w:World) {v:Value} {l:List zd} (u:y3 w v l) (M:l.length≤100000) {q:Nat} {k:zd} (m:w.rangeAt q 0 (zf k)) (D:zX k):
  Calls prog 137 #[v,zb3 q] w λe w'=>e=.returned (.int .i64 (Qd k l))∧Fr No w w':=by
 obtain⟨O,P,rfl⟩:=u.2.form
 unfold zb3
 have z:=J u
 have g:=J D
 have C:=J m
 clear u D m
 go_enter Tryz.func137,Tryz.ntmps137
 go_wp2
 go_loopw [8] (λy wr=>∃n:Nat,y=.int .i64 n∧n≤l.length∧k∉l.take n∧Fr No w wr) (λy _=>l.length-(intOf y).toNat)
 case atStart=>exact⟨0,rfl,zero_le _,by simp,Fr.refl _ _⟩
 case round=>
  obtain⟨n,rfl,N,j,fr⟩:=hrel
  have a:=J fr
  have r:=J j
  clear fr j
  by_cases h:n<l.length
  ·have K:(n:Int)<(l.length:Int):=by omega
   obtain⟨x,d⟩:∃x,l[n]? =some x:=⟨_,getElem?_eq_getElem h⟩
   obtain⟨b,off,c,I,m,H⟩:=(z.o.keep a.o).at_ d
   cases I
   have t:=J (z.o.1 x (mem_of_getElem? d))
   have A:=J (zx t.o)
   have B:=J m
   clear m H
   by_cases hxk:x=k
   ·have F:=J (Vk (hxk▸d) r.o)
    have o:=@J (decide (x=k)=true) (decide_eq_true hxk)
    clear d hxk
    go_wp2_with (first|(refine zn3 rfl rfl rfl B.o A.o ?_)|(go_at_call 163;refine(VB _ (za C.o a.o id) g.o t.o).mono ?_;rintro e L ⟨rfl,i⟩;rw[o.o];have p:=J (a.o.trans0 i);clear i))
    go_ret
    exact⟨by rw[F.o];rfl,p.o⟩
   ·have o:=@J (decide (x=k)=false) (decide_eq_false hxk)
    have s:=@J (k∉l.take (n+1)) (by
     rw[take_add_one,d]
     simp only[Option.toList_some,mem_append,mem_singleton]
     exact λe=>e.elim r.o (λe=>hxk e.symm))
    clear d hxk
    go_wp2_with (first|(refine zn3 rfl rfl rfl B.o A.o ?_)|(go_at_call 163;refine(VB _ (za C.o a.o id) g.o t.o).mono ?_;rintro e L ⟨rfl,i⟩;rw[o.o];have p:=J (a.o.trans0 i);clear i))
    go_roundw
    case rel=>exact⟨n+1,by simp,by omega,s.o,p.o⟩
    case measure=>show l.length-(n+1)<l.length-n;omega
  ·have K:¬(n:Int)<(l.length:Int):=by omega
   have E:n=l.length:=by omega
   have f:k∉l:=by have:=r.o;rw[E,take_length] at this;exact this
   have G:=J (zal f)
   clear f E
   go_wp2
   go_ret
   exact⟨by rw[G.o];rfl,a.o⟩
end Go.Proofs.YtdkkjchclkjleaaGreatDoor
namespace Go
open Go.RowKit Go.Maps Go.MapKept
theorem ZK {P:Program} (w:World) (t e ty:TypeId) (a:List Value) (s:P.underlying t=some (.slice e)) (u:∀w,(zeroValue e).run P w=.ok (.agg a.toArray) w) (p:∀v∈a,v.oneCell'=true) (x:0<a.length) (b o n c:Nat) (y:0<n)
  (k:w.there b o (n*a.length)):∃cs:List Value,cs.length=n*a.length∧
  (Builtin.clear_ #[t] ty #[.slice (some ⟨b,o,none⟩) n c]).run P w=.ok (.tuple #[]) (w.setCells b o cs):=by
 have h:(Builtin.zeroCells a.toArray n).toList.length=n*a.length:=by simp[Builtin.zeroCells]
 have q:∀v∈(Builtin.zeroCells a.toArray n).toList,v.oneCell'=true:=by
  intro v f
  simp only[Builtin.zeroCells,Array.toList_map,List.mem_map,Array.toList_range,List.mem_range] at f
  obtain⟨i,-,rfl⟩:=f
  have r:i % a.length<a.length:=Nat.mod_lt _ x
  have l:a.toArray[i % a.toArray.size]! =a[i % a.length]:=by
   simp only[List.size_toArray]
   rw[getElem!_pos _ _ (by simpa using r)]
   simp
  rw[l]
  exact p _ (List.getElem_mem _)
 refine⟨(Builtin.zeroCells a.toArray n).toList,h,?_⟩
 have d:=run_storeCells_cells (P:=P) b o (Builtin.zeroCells a.toArray n).toList 0 w (by rw[h];simpa using λj g=>(k j g).1) (by rw[h];simpa using λj g=>(k j g).2) q
 simp only[Nat.add_zero] at d
 obtain⟨m,rfl⟩:∃m,n=m+1:=⟨n-1,by omega⟩
 simp[Builtin.clear_,run_underlying s,u,Value.cells,d]
theorem YS:∀(cs xs:List Value) (o o':Nat),o'≤o→(setM xs o cs).take o'=xs.take o'
 |[],_,_,_,_=>rfl
 |v::r,xs,o,o',h=>by
  simp only[setM]
  rw[YS r _ (o+1) o' (by omega)]
  apply List.ext_getElem?
  intro i
  rw[List.getElem?_take,List.getElem?_take]
  split
  ·rw[List.getElem?_set_ne (by omega)]
  ·rfl
theorem Zs {w:World} {B g a n m k:Nat} {e:TypeId} {xs:List Value} (h:w.ownsRow B e k (.slice (some ⟨g,0,none⟩) n a) n xs) (p:m≤n):w.ownsRow B e k (.slice (some ⟨g,0,none⟩) m a) m (xs.take (m*k)):=by
 have i:m*k≤n*k:=Nat.mul_le_mul_right _ p
 refine⟨by rw[List.length_take,h.1];omega,?_⟩
 rcases h.2 with⟨c,_⟩|⟨r,j,b,c,l,o,s,d,f,q⟩
 ·cases c
 ·injection c with e2 e3 e4
  injection e2 with e2
  injection e2 with e5
  subst e5 e4
  exact .inr ⟨g,a,b,rfl,l,o,by omega,d,f,by rw[←q,List.take_take,Nat.min_eq_left i]⟩
end Go
namespace Go.Proofs.YtdkkjchclkjleaaGreatDoor
open Go Go.RowKit Go.Maps Go.MapKept
open Go.Proofs.Tryz(prog)
open List(mem_map getElem?_eq_getElem mem_append mem_of_getElem? mem_cons length_append length_map take_add_one mem_singleton take_length mem_filter map_append length_take nodup_cons map_cons length_cons nodup_append nil_append filter_append filter_eq_self mem_flatMap map_map length_singleton append_of_mem drop_drop filter_sublist)
open Nat(le_refl zero_le le_trans)
structure jv (k:zd) (l R:List zd) (n m:Nat):Prop where
 len:R.length=l.length
 pre:R.take n=(l.take m).filter λx=>decide (x≠k)
 suf:R.drop m=l.drop m
 lt:n<m
 le:m≤l.length
theorem jv.start {k:zd} {l:List zd} {n:Nat} (h:l[n]? =some k) (b:k∉l.take n):jv k l l n (n+1):=by
 have a:=(List.getElem?_eq_some_iff.1 h).1
 refine⟨rfl,?_,rfl,by omega,a⟩
 rw[take_add_one,h,filter_append]
 simp only[Option.toList_some]
 rw[filter_eq_self.2 (λx c=>by simp;rintro rfl;exact b c)]
 simp
theorem jv.skip {k:zd} {l R:List zd} {n m:Nat} (h:jv k l R n m) (b:l[m]? =some k):jv k l R n (m+1):=by
 have a:=(List.getElem?_eq_some_iff.1 b).1
 refine⟨h.len,?_,?_,by have:=h.lt;omega,a⟩
 ·rw[take_add_one,b,filter_append,h.pre]
  simp
 ·rw[←drop_drop,h.suf,drop_drop]
theorem jv.keep {k x:zd} {l R:List zd} {n m:Nat} (h:jv k l R n m) (b:l[m]? =some x) (d:x≠k):jv k l (R.set n x) (n+1) (m+1):=by
 have a:=(List.getElem?_eq_some_iff.1 b).1
 have f:=h.lt
 have c:=h.len
 refine⟨by rw[List.length_set,c],?_,?_,by omega,a⟩
 ·rw[take_add_one (l:=l),b,filter_append,←h.pre,take_add_one,List.getElem?_set_self (by omega)]
  have e:(R.set n x).take n=R.take n:=by
   apply List.ext_getElem?
   intro i
   rw[List.getElem?_take,List.getElem?_take]
   split
   ·rw[List.getElem?_set_ne (by omega)]
   ·rfl
  rw[e]
  simp[d]
 ·rw[List.drop_set_of_lt (by omega),←drop_drop,h.suf,drop_drop]
theorem jv.at_ {k x:zd} {l R:List zd} {n m:Nat} (h:jv k l R n m) (b:l[m]? =some x):R[m]? =some x:=by
 have a:(R.drop m)[0]? =(l.drop m)[0]? :=by rw[h.suf]
 simpa[b] using a
theorem jv.done {k:zd} {l R:List zd} {n:Nat} (h:jv k l R n l.length):R.take n=l.filter λx=>decide (x≠k):=by rw[h.pre,take_length]
def znh (B:Nat) (w:World) (v:Value) (k:zd) (l:List zd) (v':Value) (w':World):Prop:=
 w'.ownsRow B 41 32 v' (l.filter λx=>decide (x≠k)).length ((l.filter λx=>decide (x≠k)).flatMap zf)∧Fr (λj=>v.ownBlock=some j) w w'∧(∀j,v'.ownBlock=some j→v.ownBlock=some j)
theorem filter_none {k:zd} {l:List zd} (h:k∉l):l.filter (λx=>decide (x≠k))=l:=filter_eq_self.2 λx a=>by simp;rintro rfl;exact h a
theorem Xj {w:World} {B:Nat} {v:Value} {l:List zd} (o:w.ownsRow B 41 32 v l.length (l.flatMap zf)) (ok:∀x∈l,zX x) (hN:l.length≤100000) {q:Nat} {k:zd} (S:w.rangeAt q 0 (zf k)) (Q:zX k) (Y:∀j,v.ownBlock=some j→j≠q) (_:q<w.heap.size):
  Calls prog 98 #[v,zb3 q] w λe w'=>∃v',e=.returned v'∧znh B w v k l v' w':=by
 have zh:=yR
 have G:=J (zcm w (y3.own o ok) hN S Q)
 by_cases hin:k∈l
 ·obtain⟨va,p,e⟩:=o.slice.arg.form
  subst e
  obtain⟨i,hi⟩:∃i,l[i]? =some k∧k∉l.take i:=by
   clear o ok hN G S Q Y
   induction l with
   |nil=>cases hin
   |cons y r ih=>
    by_cases e:y=k
    ·exact⟨0,by simp[e],by simp⟩
    ·have O:k∈r:=by
      rcases mem_cons.1 hin with h|h
      ·exact absurd h.symm e
      ·exact h
     obtain⟨i,h1,h2⟩:=ih O
     exact⟨i+1,by simpa using h1,by simp;exact⟨λe'=>e e'.symm,h2⟩⟩
  have EI:=J (Vk hi.1 hi.2)
  have ST:=J (jv.start hi.1 hi.2)
  have ak:=(List.getElem?_eq_some_iff.1 hi.1).1
  obtain⟨g,rfl⟩:∃g,va=some ⟨g,0,none⟩:=by
   rcases o.2 with⟨e,_⟩|⟨g,c,aj,e,_⟩
   ·injection e with e1 e2;omega
   ·injection e with e1;exact⟨g,e1⟩
  have j1:¬(i:Int)= -1:=by omega
  have HL:=J o
  have RQ:=J S
  have K:=J Q
  have OK:=J ok
  have NQ:=@J (¬q=g) (λe=>Y g rfl e.symm)
  clear o ok S Q Y hi hin
  unfold zb3
  unfold zb3 at G
  go_enter Tryz.func98,Tryz.ntmps98
  go_wp2_with (go_at_call 137;refine G.o.mono ?_;rintro e w1 ⟨rfl,M⟩;rw[EI.o];have E:=J M;clear M)
  rw[show((i:Int)== -1)=false from by simp]
  clear j1
  go_loopw [5,6] (λnv mv wr=>∃(n m:Nat) (R:List zd),nv=.int .i64 n∧mv=.int .i64 m∧jv k l R n m∧wr.ownsRow B 41 32 (.slice (some ⟨g,0,none⟩) l.length p) l.length (R.flatMap zf)∧(∀x∈R,zX x)∧Fr (· =g) w wr) (λ_ mv _=>l.length-(intOf mv).toNat)
  case atStart=>exact⟨i,i+1,l,rfl,by simp,ST.o,zb HL.o E.o (λ_ _=>id),OK.o,E.o.of0⟩
  case round=>
   obtain⟨n,m,R,rfl,rfl,N,ho,hok,fr⟩:=hrel
   have V:=J N
   have u:=J ho
   have b:=J hok
   have W:=J fr
   have al:=N.le
   have an:=N.lt
   have z:=J N.len
   clear N ho hok fr
   by_cases h:m<l.length
   ·have i1:(m:Int)<(l.length:Int):=by omega
    have i2:(n:Int)<(l.length:Int):=by omega
    obtain⟨x,D⟩:∃x,l[m]? =some x:=⟨_,getElem?_eq_getElem h⟩
    have U:=V.o.at_ D
    have H:=@J (wr.ownsRow B 41 32 (.slice (some ⟨g,0,none⟩) R.length p) R.length (R.flatMap zf)) (by rw[z.o];exact u.o)
    obtain⟨b2,ai,ag,hv,T,hb⟩:=(y3.own H.o b.o).at_ U
    cases hv
    have X:=J (OK.o x (mem_of_getElem? D))
    have d:=J (zx X.o)
    have R1:=@J (wr.rangeAt g (m*32) (zf x)) (by simpa using T)
    have FA:=J ((frN wr).alloc (.cells (zf x).toArray 41))
    have RN:=J (zy wr (zf x) 41)
    have L:=J (za (za RQ.o W.o NQ.o) FA.o id)
    clear T hb U
    by_cases hxk:x=k
    ·have D1:=@J (decide (x=k)=true) (decide_eq_true hxk)
     have t:=J (V.o.skip (hxk▸D))
     clear D hxk
     go_wp2_with (first|(refine zn3 rfl rfl rfl R1.o d.o ?_)|(refine zi rfl (zm (w:=wr) (cs:=zf x) (ty:=41) rfl rfl rfl (by rw[d.o];rfl) (by rw[d.o];exact yp) zS) ?_)|(refine zn3 rfl rfl rfl RN.o d.o ?_)|(go_at_call 163;refine(VB _ L.o K.o X.o).mono ?_;rintro e w2 ⟨rfl,C⟩;rw[D1.o];have F:=J (FA.o.trans0 C);clear C))
     go_roundw
     case rel=>exact⟨n,m+1,R,rfl,by simp,t.o,zb u.o F.o (λ_ _=>id),b.o,W.o.trans0 F.o⟩
     case measure=>show l.length-(m+1)<l.length-m;omega
    ·have D1:=@J (decide (x=k)=false) (decide_eq_false hxk)
     have t:=J (V.o.keep D hxk)
     clear D hxk
     go_wp2_with (first|(refine zn3 rfl rfl rfl ae.o d.o ?_)|(refine zi rfl (zK (ty:=41) rfl rfl rfl (by rw[d.o];exact TH.o) (by rw[d.o];exact yp) zS) ?_)|(refine zn3 rfl rfl rfl R1.o d.o ?_)|(refine zi rfl (zm (w:=wr) (cs:=zf x) (ty:=41) rfl rfl rfl (by rw[d.o];rfl) (by rw[d.o];exact yp) zS) ?_)|(refine zn3 rfl rfl rfl RN.o d.o ?_)|(go_at_call 163;refine(VB _ L.o K.o X.o).mono ?_;rintro e w2 ⟨rfl,C⟩;rw[D1.o];have F:=J (FA.o.trans0 C);have ae:=J (za RN.o C id);have I:=J (zb H.o F.o (λ_ _=>id));have TH:=J (Js I.o (show n<R.length by rw[z.o];omega));clear C))
     have ab:=J (zg1 (f:=zf) (λy hy=>zx (b.o y hy)) I.o (show n<R.length by rw[z.o];omega) x d.o)
     have ad:=@J ((w2.setCells g (n*32) (zf x)).ownsRow B 41 32 (.slice (some ⟨g,0,none⟩) l.length p) l.length ((R.set n x).flatMap zf)) (by have:=ab.o;rw[z.o] at this;exact this)
     go_roundw
     case rel=>exact⟨n+1,m+1,R.set n x,by simp,by simp,t.o,ad.o,λy hy=>(List.mem_or_eq_of_mem_set hy).elim (b.o y) (λe=>e▸X.o),(W.o.trans0 F.o).trans (zu g (zf x) (n*32) w2) (λ_ _ h=>h)⟩
     case measure=>show l.length-(m+1)<l.length-m;omega
   ·have i1:¬(m:Int)<(l.length:Int):=by omega
    have af:m=l.length:=by omega
    subst af
    have DN:=J V.o.done
    have aa:=@J ((R.flatMap zf).length=l.length*32) (u.o.1)
    have LN:=@J ((l.filter λx=>decide (x≠k)).length=n) (by rw[←DN.o,length_take,z.o];omega)
    obtain⟨cs,A,s⟩:=ZK (P:=prog) wr 38 41 0 (zf yO) qi yR zS (by rw[zx xO];decide) g (n*32) (l.length-n) (p-n) (by omega) (λj hj=>by
     rw[zx xO] at hj
     refine⟨?_,u.o.frozenAt _⟩
     rw[u.o.cellAt (n*32+j) (by omega),getElem?_eq_getElem (by rw[aa.o];omega)]
     rfl)
    rw[zx xO] at A
    have HS:=J (qY u.o (n*32) (cs:=cs) (by rw[A];omega))
    have HT:=J (Zs HS.o (m:=n) (by omega))
    have HF:=@J ((setM (R.flatMap zf) (n*32) cs).take (n*32)=(l.filter λx=>decide (x≠k)).flatMap zf) (by
     rw[YS _ _ _ _ (le_refl _),←DN.o]
     conv=>lhs;rw[←List.take_append_drop n R]
     rw[List.flatMap_append,List.take_append_of_le_length,List.take_of_length_le]
     ·rw[xJ zf 32 _ (λa ha=>zx (b.o a (List.mem_of_mem_take ha))),length_take,z.o];omega
     ·rw[xJ zf 32 _ (λa ha=>zx (b.o a (List.mem_of_mem_take ha))),length_take,z.o];omega)
    have FZ:=J (W.o.trans (zu g cs (n*32) wr) (λ_ _ h=>h))
    have Z:=J s
    have ah:l.length≤p:=y7.cap u.o.slice.arg
    have jc:¬p=n:=by omega
    have ao:¬n=p:=by omega
    clear s A
    go_wp2_with (refine jT rfl rfl rfl Z.o ?_)
    go_ret
    refine⟨.slice (some ⟨g,0,none⟩) n p,by rfl,?_,FZ.o.mono (λj hj=>by rw[hj];rfl),λ_ h=>h⟩
    rw[LN.o,←HF.o]
    exact HT.o
 ·have EI:=J (zal hin)
  have FN:=J (filter_none hin)
  obtain⟨va,p,e⟩:=o.slice.arg.form
  subst e
  have HL:=J o
  clear o ok S Q Y hin
  unfold zb3
  unfold zb3 at G
  go_enter Tryz.func98,Tryz.ntmps98
  go_wp2_with (go_at_call 137;refine G.o.mono ?_;rintro e w1 ⟨rfl,M⟩;rw[EI.o];have E:=J M;clear M)
  go_ret
  exact⟨_,by rfl,by rw[FN.o];exact zb HL.o E.o (λ_ _=>id),E.o.of0,λ_ h=>h⟩
theorem ze5 {α β:Type}:∀ {M:List (α×β)} {k:α} {v v':β},(M.map (·.1)).Nodup→(k,v)∈M→(k,v')∈M→v=v'
 |[],_,_,_,_,h,_=>by cases h
 |x::r,k,v,v',hn,h1,h2=>by
  simp only[map_cons,nodup_cons] at hn
  rcases mem_cons.1 h1 with e1|h1<;>rcases mem_cons.1 h2 with e2|h2
  ·rw[←e1] at e2;injection e2 with _ e;exact e.symm
  ·exact absurd (mem_map.2 ⟨_,h2,rfl⟩) (by rw[←e1] at hn;exact hn.1)
  ·exact absurd (mem_map.2 ⟨_,h1,rfl⟩) (by rw[←e2] at hn;exact hn.1)
  ·exact ze5 hn.2 h1 h2
theorem zh3 {X Y g Z:List Nat} {d:Nat} (h:(X++(Y++Z)).Nodup) (k:∀j∈X++(Y++Z),j<d) (s:g.Nodup) (l:∀j∈g,j∈Y∨d≤j):(X++(g++Z)).Nodup:=by
 obtain⟨n,o,i⟩:=nodup_append.1 h
 obtain⟨t,q,r⟩:=nodup_append.1 o
 refine nodup_append.2 ⟨n,nodup_append.2 ⟨s,q,λa f b c e=>?_⟩,λa f b c e=>?_⟩
 ·rcases l a f with h|h
  ·exact r a h b c e
  ·have:=k b (by simp[c]);omega
 ·rcases mem_append.1 c with c|c
  ·rcases l b c with h|h
   ·exact i a f b (by simp[h]) e
   ·have:=k a (by simp[f]);omega
  ·exact i a f b (by simp[c]) e
structure yJ where
 id:zd
 seq:Nat
 ps:List zd
 ks:List zd
 b:Nat
 pv:Value
 cv:Value
def yJ.blks (r:yJ):List Nat:=r.b::(r.pv.ownBlock.toList++r.cv.ownBlock.toList)
def Qi (b:Nat):Value:=.pointer (some ⟨b,0,none⟩)
abbrev qH (w:World) (m:Nat) (M:List (zd×Nat)):=yD prog 41 xp Qi w m M
structure Xe (w:World) (B:Nat) (r:yJ):Prop where
 blk:w.heap[r.b]? =some (.cells #[.int .i64 (r.seq:Int),r.pv,r.cv] 201 (0,0))
 prow:w.ownsRow B 41 32 r.pv r.ps.length (r.ps.flatMap zf)
 crow:w.ownsRow B 41 32 r.cv r.ks.length (r.ks.flatMap zf)
def yQ (p m:Nat) (L:List yJ):List Nat:=p::m::L.flatMap yJ.blks
def yJ.ok (r:yJ):Prop:=zX r.id∧(∀x∈r.ps,zX x)∧∀x∈r.ks,zX x
structure GR (w0 w:World) (p m sq:Nat) (L:List yJ):Prop where
 obj:w.heap[p]? =some (.cells #[.map (some m),.int .i64 (sq:Int)] 199 (0,0))
 map:∃M,qH w m M∧∀k b,(k,b)∈M↔∃r∈L,r.id=k∧r.b=b
 node:∀r∈L,Xe w w0.heap.size r
 apart:(yQ p m L).Nodup
 lo:∀j∈yQ p m L,w0.heap.size≤j
 ok:∀r∈L,r.ok
 idn:(L.map (·.id)).Nodup
 seqs:L.Pairwise (λa b=>a.seq<b.seq)
 top:∀r∈L,r.seq≤sq
 fr:Fr No w0 w
theorem Xe.hi {w:World} {B:Nat} {r:yJ} (h:Xe w B r):∀j∈r.blks,j<w.heap.size:=by
 intro j a
 unfold yJ.blks at a
 simp only[mem_cons,mem_append,Option.mem_toList] at a
 rcases a with rfl|a|a
 ·exact yG h.blk
 ·exact(h.prow.lt j a).2
 ·exact(h.crow.lt j a).2
theorem Xe.keep {w w':World} {B:Nat} {r:yJ} (h:Xe w B r) {W:Nat→Prop} (f:Fr W w w') (a:∀j∈r.blks,¬W j):Xe w' B r:=by
 unfold yJ.blks at a
 simp only[mem_cons,mem_append,Option.mem_toList] at a
 exact⟨f.obj h.blk (a _ (.inl rfl)),zb h.prow f (λb e=>a b (.inr (.inl e))),zb h.crow f (λb e=>a b (.inr (.inr e)))⟩
section
variable {w0 w w':World} {p m sq:Nat} {L:List yJ}
theorem GR.hi (h:GR w0 w p m sq L):∀j∈yQ p m L,j<w.heap.size:=by
 intro j a
 unfold yQ at a
 simp only[mem_cons,mem_flatMap] at a
 rcases a with rfl|rfl|⟨r,c,a⟩
 ·exact yG h.obj
 ·obtain⟨M,b,-⟩:=h.map;exact b.lt
 ·exact(h.node r c).hi j a
theorem GR.frV (h:GR w0 w p m sq L) {U:Nat→Prop} (f:Fr U w w') (a:∀j∈yQ p m L,¬U j) (d:∀j,U j→w0.heap.size≤j):GR w0 w' p m sq L:=by
 have n:¬U p:=a p (by simp[yQ])
 have l:¬U m:=a m (by simp[yQ])
 have b:∀r∈L,∀j∈r.blks,¬U j:=λr b j k=>a j (by simp only[yQ,mem_cons,mem_flatMap];exact .inr (.inr ⟨r,b,k⟩))
 exact {h with
  obj:=f.obj h.obj n
  map:=by obtain⟨M,g,o⟩:=h.map;exact⟨M,g.keep f l,o⟩
  node:=λr c=>(h.node r c).keep f (b r c)
  fr:=h.fr.trans f (λi hi e=>by have:=d i e;omega)}
theorem GR.fr0 (h:GR w0 w p m sq L) (f:Fr No w w'):GR w0 w' p m sq L:=h.frV f (λ_ _=>id) (λ_ h=>h.elim)
theorem GR.look (h:GR w0 w p m sq L) {M:List (zd×Nat)} (i:∀k b,(k,b)∈M↔∃r∈L,r.id=k∧r.b=b) {r:yJ} (c:r∈L) (b:Nat):(r.id,b)∈M↔b=r.b:=by
 rw[i]
 constructor
 ·rintro⟨d,a,e,rfl⟩
  have g:=h.idn
  have:d=r:=by
   have f:((L.map λx=>(x.id,x)).map (·.1)).Nodup:=by rw[map_map];exact g
   exact ze5 f (k:=r.id) (mem_map.2 ⟨d,a,by rw[e]⟩) (mem_map.2 ⟨r,c,rfl⟩)
  rw[this]
 ·rintro rfl;exact⟨r,c,rfl,rfl⟩
theorem GR.run_look (h:GR w0 w p m sq L) {x:zd} (g:zX x) (c:Bool) (i:c=false):
  (∀r∈L,r.id=x→∀w',(∀M,qH w m M→qH w' m M)→(Instr.lookup 197 (.map (some m)) (xp x) c).run prog w'=.ok (Qi r.b) w')∧
  (x∉L.map (·.id)→∀w',(∀M,qH w m M→qH w' m M)→(Instr.lookup 197 (.map (some m)) (xp x) c).run prog w'=.ok (.pointer none) w'):=by
 subst i
 obtain⟨M,d,f⟩:=h.map
 refine⟨λr b e w' a=>?_,λj w' a=>?_⟩
 ·subst e
  have:=(a M d).look xT.keyed J7 (λ_ _=>yY) zfC (yq g) false (r:=some r.b) (λv=>by
   rw[h.look f b];exact⟨λe=>(Option.some.inj e).symm,λe=>by rw[e]⟩)
  simpa using this
 ·have:=(a M d).look xT.keyed J7 (λ_ _=>yY) zfC (yq g) false (r:=none) (λv=>by
   rw[f]
   exact⟨λe=>(by cases e),λ⟨r,b,e,_⟩=>absurd (mem_map.2 ⟨r,b,e⟩) j⟩)
  simpa using this
theorem xF (A B:List yJ) (r:yJ):yQ p m (A++r::B)=(p::m::A.flatMap yJ.blks)++(r.blks++B.flatMap yJ.blks):=by simp[yQ]
theorem GR.turn {A B:List yJ} {r l:yJ} (h:GR w0 w p m sq (A++r::B)) {W:Nat→Prop} (f:Fr W w w') (y:∀j,W j→j∈r.blks) (Q:Xe w' w0.heap.size l) (hi:l.id=r.id) (t:l.b=r.b) (C:l.seq=r.seq) (F:∀j∈l.blks,j∈r.blks∨w.heap.size≤j) (K:l.blks.Nodup) (ok:l.ok):
  GR w0 w' p m sq (A++l::B):=by
 have s:=h.apart
 have u:=h.hi
 rw[xF] at s u
 obtain⟨U,R,S⟩:=nodup_append.1 s
 obtain⟨X,Y,T⟩:=nodup_append.1 R
 have z:∀j∈p::m::A.flatMap yJ.blks,¬W j:=λj d e=>S j d j (by simp[y j e]) rfl
 have I:∀j∈B.flatMap yJ.blks,¬W j:=λj d e=>T j (y j e) j d rfl
 have v:((A++l::B).map (·.id))=((A++r::B).map (·.id)):=by simp[hi]
 have q:∀ {P:yJ→Prop},(∀x∈A++r::B,P x)→P l→∀x∈A++l::B,P x:=by
  intro P g o x c
  rcases mem_append.1 c with c|c
  ·exact g x (by simp[c])
  ·rcases mem_cons.1 c with rfl|c
   ·exact o
   ·exact g x (by simp[c])
 refine⟨f.obj h.obj (z p (by simp)),?_,λx c=>?_,?_,λj d=>?_,q h.ok ok,by rw[v];exact h.idn,?_,q h.top (by rw[C];exact h.top r (by simp)),?_⟩
 ·obtain⟨M,H,D⟩:=h.map
  refine⟨M,H.keep f (z m (by simp)),λk b=>?_⟩
  rw[D]
  constructor
  ·rintro⟨x,c,g,o⟩
   rcases mem_append.1 c with c|c
   ·exact⟨x,by simp[c],g,o⟩
   ·rcases mem_cons.1 c with rfl|c
    ·exact⟨l,by simp,by rw[hi,g],by rw[t,o]⟩
    ·exact⟨x,by simp[c],g,o⟩
  ·rintro⟨x,c,g,o⟩
   rcases mem_append.1 c with c|c
   ·exact⟨x,by simp[c],g,o⟩
   ·rcases mem_cons.1 c with rfl|c
    ·exact⟨r,by simp,by rw[←hi,g],by rw[←t,o]⟩
    ·exact⟨x,by simp[c],g,o⟩
 ·rcases mem_append.1 c with c|c
  ·exact(h.node x (by simp[c])).keep f (λj d=>z j (by simp only[mem_cons,mem_flatMap];exact .inr (.inr ⟨x,c,d⟩)))
  ·rcases mem_cons.1 c with rfl|c
   ·exact Q
   ·exact(h.node x (by simp[c])).keep f (λj d=>I j (mem_flatMap.2 ⟨x,c,d⟩))
 ·rw[xF]
  exact zh3 s u K F
 ·rw[xF] at d
  have n:=h.lo
  rw[xF] at n
  simp only[mem_append] at d n
  rcases d with d|d|d
  ·exact n j (.inl d)
  ·rcases F j d with g|g
   ·exact n j (.inr (.inl g))
   ·have:=h.fr.size;omega
  ·exact n j (.inr (.inr d))
 ·have:=h.seqs
  rw[List.pairwise_append,List.pairwise_cons] at this⊢
  rw[C]
  refine⟨this.1,this.2.1,λa E b t=>?_⟩
  rcases mem_cons.1 t with rfl|t
  ·rw[C];exact this.2.2 a E r (by simp)
  ·exact this.2.2 a E b (by simp[t])
 ·refine h.fr.trans f (λi O e=>?_)
  have:=h.lo i (by rw[xF];simp[y i e])
  omega
theorem GR.del {A B:List yJ} {r:yJ} {M M':List (zd×Nat)} (h:GR w0 w p m sq (A++r::B)) (u:∀k b,(k,b)∈M↔∃x∈A++r::B,x.id=k∧x.b=b) (t:qH w' m M') (s:Del M r.id M') (f:Fr (· =m) w w'):GR w0 w' p m sq (A++B):=by
 have g:=h.apart
 rw[xF] at g
 have d:(yQ p m (A++B)).Sublist ((p::m::A.flatMap yJ.blks)++(r.blks++B.flatMap yJ.blks)):=by
  have e:yQ p m (A++B)=(p::m::A.flatMap yJ.blks)++B.flatMap yJ.blks:=by simp[yQ]
  rw[e]
  exact List.Sublist.append (List.Sublist.refl _) (List.sublist_append_right _ _)
 have c:(A++B).Sublist (A++r::B):=List.Sublist.append (List.Sublist.refl _) (List.sublist_cons_self _ _)
 obtain⟨C,D⟩:=nodup_cons.1 (show(p::m::((A.flatMap yJ.blks)++(r.blks++B.flatMap yJ.blks))).Nodup from g)
 obtain⟨E,I⟩:=nodup_cons.1 D
 refine⟨f.obj h.obj (λe=>C (by simp[e])),⟨M',t,λk b=>?_⟩,λx a=>(h.node x (c.subset a)).keep f (λj o e=>E ?_),g.sublist d,λj o=>h.lo j (by rw[xF];exact d.subset o),λx a=>h.ok x (c.subset a),h.idn.sublist (c.map _),h.seqs.sublist c,λx a=>h.top x (c.subset a),h.fr.trans f (λi hi e=>?_)⟩
 ·rw[s,u]
  have l:=h.idn
  rw[map_append,map_cons] at l
  obtain⟨F,v,y⟩:=nodup_append.1 l
  obtain⟨z,H⟩:=nodup_cons.1 v
  constructor
  ·rintro⟨q,x,a,rfl,n⟩
   rcases mem_append.1 a with a|a
   ·exact⟨x,by simp[a],rfl,n⟩
   ·rcases mem_cons.1 a with rfl|a
    ·exact absurd rfl q
    ·exact⟨x,by simp[a],rfl,n⟩
  ·rintro⟨x,a,rfl,n⟩
   refine⟨λe=>?_,x,c.subset a,rfl,n⟩
   rcases mem_append.1 a with a|a
   ·exact y _ (mem_map.2 ⟨x,a,rfl⟩) r.id (by simp) e
   ·exact z (by rw[←e];exact mem_map.2 ⟨x,a,rfl⟩)
 ·subst e
  rcases mem_append.1 a with a|a
  ·exact mem_append.2 (.inl (mem_flatMap.2 ⟨x,a,o⟩))
  ·exact mem_append.2 (.inr (mem_append.2 (.inr (mem_flatMap.2 ⟨x,a,o⟩))))
 ·subst e
  have:=h.lo i (by simp[yQ])
  omega
theorem GR.ins {r:yJ} {M M':List (zd×Nat)} (h:GR w0 w p m sq L) (F:∀k b,(k,b)∈M↔∃x∈L,x.id=k∧x.b=b) (A:qH w' m M') (B:Upd M r.id r.b M') (f:Fr (· =m) w w') (D:Xe w w0.heap.size r) (q:r.id∉L.map (·.id)) (C:r.blks.Nodup) (l:∀j∈r.blks,j∉yQ p m L∧w0.heap.size≤j) (E:∀x∈L,x.seq<r.seq) (v:r.seq≤sq) (ok:r.ok):GR w0 w' p m sq (L++[r]):=by
 have e:yQ p m (L++[r])=yQ p m L++r.blks:=by simp[yQ]
 have u:p≠m:=λe=>(nodup_cons.1 h.apart).1 (by simp[e])
 have t:∀x∈L,∀j∈x.blks,¬j=m:=λx c j g e=>(nodup_cons.1 (nodup_cons.1 h.apart).2).1 (by rw[←e];exact mem_flatMap.2 ⟨x,c,g⟩)
 have d:∀ {P:yJ→Prop},(∀x∈L,P x)→P r→∀x∈L++[r],P x:=by
  intro P y s x c
  rcases mem_append.1 c with c|c
  ·exact y x c
  ·rw[mem_singleton.1 c];exact s
 refine⟨f.obj h.obj (λe=>u e),⟨M',A,λk b=>?_⟩,d (λx c=>(h.node x c).keep f (t x c)) (D.keep f λj g e=>(l j g).1 (by rw[e];simp[yQ])),?_,λj g=>?_,d h.ok ok,?_,?_,d h.top v,h.fr.trans f (λi hi e=>?_)⟩
 ·rw[B,F]
  constructor
  ·rintro(⟨rfl,rfl⟩|⟨y,x,c,s,z⟩)
   ·exact⟨r,by simp,rfl,rfl⟩
   ·exact⟨x,by simp[c],s,z⟩
  ·rintro⟨x,c,rfl,rfl⟩
   rcases mem_append.1 c with c|c
   ·exact .inr ⟨λe=>q (by rw[←e];exact mem_map.2 ⟨x,c,rfl⟩),x,c,rfl,rfl⟩
   ·rw[mem_singleton.1 c];exact .inl ⟨rfl,rfl⟩
 ·rw[e]
  exact nodup_append.2 ⟨h.apart,C,λa o b n e=>(l b n).1 (by rw[←e];exact o)⟩
 ·rw[e] at g
  rcases mem_append.1 g with g|g
  ·exact h.lo j g
  ·exact(l j g).2
 ·rw[map_append]
  exact nodup_append.2 ⟨h.idn,by simp,λa o b n e=>q (by
   simp only[map_cons,List.map_nil,mem_singleton] at n
   rw[←n,←e];exact o)⟩
 ·exact List.pairwise_append.2 ⟨h.seqs,by simp,λa o b n=>by rw[mem_singleton.1 n];exact E a o⟩
 ·subst e
  have:=h.lo i (by simp[yQ])
  omega
theorem GR.count (h:GR w0 w p m sq L) {s:Nat} (k:sq≤s):GR w0 (w.setCell ⟨p,1,none⟩ (.int .i64 (s:Int))) p m s L:=by
 have f:Fr (· =p) w (w.setCell ⟨p,1,none⟩ (.int .i64 (s:Int))):=(Fr.refl (· =p) w).setCell ⟨p,1,none⟩ (.inr rfl) _
 obtain⟨c,l⟩:=nodup_cons.1 h.apart
 refine⟨?_,?_,λr a=>(h.node r a).keep f (λj g e=>c (by rw[←e];simp only[mem_cons,mem_flatMap];exact .inr ⟨r,a,g⟩)),h.apart,h.lo,h.ok,h.idn,h.seqs,λr a=>le_trans (h.top r a) k,h.fr.trans f (λi hi e=>?_)⟩
 ·have:=heap_setCell_same w p 1 _ _ (.int .i64 (s:Int)) h.obj
  simpa using this
 ·obtain⟨M,d,b⟩:=h.map
  exact⟨M,d.keep f (λe=>c (by simp[e])),b⟩
 ·subst e
  have:=h.lo i (by simp[yQ])
  omega
end
structure GC (w0 w:World) (p:Nat) (V:Nat→Prop) (G:List yW) (N:Nat):Prop where
 ex:∃m sq L,GR w0 w p m sq L∧V=(λj=>j∈yQ p m L)∧L.map (λr=>(⟨r.id,r.ps⟩:yW))=G∧(∀r∈L,r.ks=kid G r.id)∧sq≤N
 gok:GOk G
 len:G.length≤N
section
variable {w0 w w':World} {p N:Nat} {V:Nat→Prop} {G:List yW}
theorem GC.fr (h:GC w0 w p V G N):Fr No w0 w:=by obtain⟨m,sq,L,a,-⟩:=h.ex;exact a.fr
theorem GC.lo (h:GC w0 w p V G N):∀j,V j→w0.heap.size≤j:=by obtain⟨m,sq,L,a,rfl,-⟩:=h.ex;exact a.lo
theorem GC.hi (h:GC w0 w p V G N):∀j,V j→j<w.heap.size:=by obtain⟨m,sq,L,a,rfl,-⟩:=h.ex;exact a.hi
theorem GC.frV (h:GC w0 w p V G N) {U:Nat→Prop} (f:Fr U w w') (e:∀j,V j→¬U j) (a:∀j,U j→w0.heap.size≤j):GC w0 w' p V G N:=by
 obtain⟨m,sq,L,g,rfl,b,c,d⟩:=h.ex
 exact⟨⟨m,sq,L,g.frV f e a,rfl,b,c,d⟩,h.gok,h.len⟩
theorem GC.fr0 (h:GC w0 w p V G N) (f:Fr No w w'):GC w0 w' p V G N:=h.frV f (λ_ _=>id) (λ_ h=>h.elim)
theorem GC.mono (h:GC w0 w p V G N) {N':Nat} (a:N≤N'):GC w0 w p V G N':=by
 obtain⟨m,sq,L,e,f,b,c,d⟩:=h.ex
 exact⟨⟨m,sq,L,e,f,b,c,le_trans d a⟩,h.gok,le_trans h.len a⟩
theorem GC.okId (h:GC w0 w p V G N):∀x∈ids G,zX x:=by
 obtain⟨m,sq,L,c,g,rfl,e,f⟩:=h.ex
 intro x d
 obtain⟨n,b,rfl⟩:=mem_map.1 d
 obtain⟨r,a,rfl⟩:=mem_map.1 b
 exact(c.ok r a).1
end
theorem zkW:GOk []:=⟨by simp[ids],by simp,λA n B e=>by simp at e⟩
theorem zif (w:World):(Instr.makeMap 197 none).run prog w=.ok (.map (some w.heap.size)) (w.alloc (.map #[] 0)):=by kernel_rfl
theorem zaw (w:World):(Instr.makeMap 120 none).run prog w=.ok (.map (some w.heap.size)) (w.alloc (.map #[] 0)):=by kernel_rfl
theorem znM (w0 w:World) (f:Fr No w0 w):Calls prog 125 #[] w λe w'=>∃p,e=.returned (.pointer (some ⟨p,0,none⟩))∧∃V,GC w0 w' p V [] 0∧Fr No w w'∧∀j,V j→w.heap.size≤j:=by
 have d:=ye w (.map #[] 0)
 have k:=Jj d (.cells #[.map (some w.heap.size),.int .i64 0] 199)
 have g:=ye (w.alloc (.map #[] 0)) (.cells #[.map (some w.heap.size),.int .i64 0] 199)
 have c:=J (((frN w).alloc (.map #[] 0)).alloc (.cells #[.map (some w.heap.size),.int .i64 0] 199))
 have h:qH ((w.alloc (.map #[] 0)).alloc (.cells #[.map (some w.heap.size),.int .i64 0] 199)) w.heap.size []:=(yD.made w).keep ((frN _).alloc _) id
 have a:=@J (GC w0 ((w.alloc (.map #[] 0)).alloc (.cells #[.map (some w.heap.size),.int .i64 0] 199)) (w.heap.size+1) (λj=>j∈yQ (w.heap.size+1) w.heap.size []) [] 0) (by
  refine⟨⟨w.heap.size,0,[],⟨by simpa using g,⟨[],h,by simp⟩,by simp,by simp[yQ],λj b=>?_,by simp,by simp,by simp,by simp,f.trans0 c.o⟩,rfl,rfl,by simp,le_refl _⟩,zkW,zero_le _⟩
  have:=f.size
  simp[yQ] at b
  omega)
 have i:=@J (∀j,j∈yQ (w.heap.size+1) w.heap.size []→w.heap.size≤j) (λj b=>by simp[yQ] at b;omega)
 clear d k g h
 have l:=zif
 go_enter Tryz.func125,Tryz.ntmps125
 go_wp2_with fail
 go_ret
 exact⟨w.heap.size+1,by simp,_,a.o,c.o,i.o⟩
section
variable {w0 w:World} {p N:Nat} {V:Nat→Prop} {G:List yW}
theorem GR.keepM {m b:Nat} {L:List yJ} (_:GR w0 w p m b L) {w':World} (f:Fr No w w'):∀M,qH w m M→qH w' m M:=λ_ a=>a.keep f id
end
end Go.Proofs.YtdkkjchclkjleaaGreatDoor
