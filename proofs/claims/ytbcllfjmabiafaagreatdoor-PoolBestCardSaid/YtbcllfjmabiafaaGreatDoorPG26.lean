/- pappusref13.SameTxs: what is the same is told so. -/
import Derived.Test.YtbcllfjmabiafaaGreatDoorPG24
import Derived.Test.YtbcllfjmabiafaaGreatDoorPG25
import Derived.Test.YtbcllfjmabiafaaGreatDoorPG10
set_option linter.unusedVariables false
set_option linter.unusedSimpArgs false
set_option linter.unnecessarySimpa false
set_option linter.all false
set_option maxRecDepth 20000
set_option maxHeartbeats 16000000
namespace Go.Proofs.YtbcllfjmabiafaaGreatDoor
open Go Go.RowKit Go.Maps Go.MapKept
open Go.Proofs.Tryz(prog)
open List(mem_map mem_append append_of_mem)
open Nat(le_trans)
theorem ziM (w:World) {u v:Value} {l:List TxD} (m:j7 w u l) (o:j7 w v l) (X:l.length≤1000) (C:∀t∈l,t.ins.length≤1000∧t.outs.length≤1000):
  Calls prog 27 #[u,v] w λe w'=>e=.returned (.bool true)∧Fr No w w':=by
 obtain⟨V,E,D⟩:=zbV
 obtain⟨Z,uc,rfl⟩:=m.form
 obtain⟨va,vc,rfl⟩:=o.form
 have I:=Hd m
 have L:=Hd o
 have M:=Hd C
 clear m o C
 go_enter Tryz.func27,Tryz.ntmps27
 go_wp2
 go_loopw [13] (λr wr=>∃n:Nat,r=.int .i64 n∧n≤l.length∧Fr No w wr) (λr _=>l.length-(intOf r).toNat)
 case atStart=>exact⟨0,rfl,Nat.zero_le _,Fr.refl _ _⟩
 case round=>
  obtain⟨n,rfl,Y,fr⟩:=hrel
  have d:=Hd fr
  clear fr
  by_cases h:n<l.length
  ·have N:(n:Int)<(l.length:Int):=by omega
   obtain⟨t,f⟩:∃t,l[n]? =some t:=⟨_,List.getElem?_eq_getElem h⟩
   obtain⟨bx,O,T,cs,p,b,s⟩:=(I.o.keep0 d.o).at_ f
   cases p
   obtain⟨j,P,U,B,q,c,x⟩:=(L.o.keep0 d.o).at_ f
   cases q
   have T1:=Hd (M.o t (List.mem_of_getElem? f))
   have CX:=@Hd (cs.length=3) (by obtain⟨_,_,_,_,e,_⟩:=s;rw[e];rfl)
   have F:=@Hd (B.length=3) (by obtain⟨_,_,_,_,e,_⟩:=x;rw[e];rfl)
   have a:=Hd (frN wr).drew
   have z:=Hd (za b a.o id)
   have A:=Hd (za c a.o id)
   have g:=Hd (s.keep a.o)
   have i:=Hd (x.keep a.o)
   have G:=Hd (d.o.trans0 a.o)
   clear b c f s x
   go_wp2
   refine wrLx [ff,ff,ff,ff,ff,ff,ff,ff,tt,ff] (λW=>W.rangeAt bx (O+n*3) cs∧W.rangeAt j (P+n*3) B) ?_ (λK hK=>?_)
   ·exact⟨z.o,A.o⟩
   generalize wr.drew=S at*
   repeat((first|(refine zk rfl ?_;constructor;constructor;(focus(first|exact y5 (ty:=27) rfl (λw h=>h.1) E D (by rw[CX.o];exact xt)|exact y5 (ty:=27) rfl (λw h=>h.2) E D (by rw[F.o];exact xt)|(rintro w' ⟨Q,R⟩;exact goS))))|(refine zl rfl ?_));try simp only[Act.put,pA,pB,pC])
   (refine zM rfl (λK' hK'=>?_))
   go_simp
   refine(zkn S g.o i.o T1.o.1 T1.o.2).mono ?_
   rintro e w2 ⟨rfl,k⟩
   have y:=Hd k
   have H:=Hd (G.o.trans0 k)
   clear k
   refine nXt hK' ?_ λhS=>?_
   ·exact⟨za z.o y.o id,za A.o y.o id⟩
   try simp only[Act.put,pA,pB,pC]
   repeat((first|(refine zk rfl ?_;constructor;constructor;(focus(first|(rintro w' ⟨Q,R⟩;exact goS))))|(refine zl rfl ?_));try simp only[Act.put,pA,pB,pC])
   refine zN (hK.out _ _ ?_)
   go_wp2_with fail
   go_roundw
   case rel=>exact⟨n+1,by go_num,by omega,H.o⟩
   case measure=>simp[intOf];omega
  ·have N:¬(n:Int)<(l.length:Int):=by omega
   go_wp2_with fail
   go_ret
   exact⟨rfl,d.o⟩
def FlB (w0 w:World) (c7 pc pp:Nat) (T X:Nat→Prop) (N:Nat) (A:PB):Prop:=
 PS w0 w pc pp T X N A∧(∀j,X j→w0.heap.size≤j)∧¬T c7∧w.heap[c7]? =some (.cells (xM pc pp).toArray 34 (0,0))
section
variable {w0 w w':World} {c7 pc pp N N':Nat} {T X T' X':Nat→Prop} {A A':PB}
theorem FlB.fr0 (h:FlB w0 w c7 pc pp T X N A) (f:Fr No w w'):FlB w0 w' c7 pc pp T X N A:=⟨h.1.fr0 f,h.2.1,h.2.2.1,f.obj h.2.2.2 id⟩
theorem FlB.next (h:FlB w0 w c7 pc pp T X N A) (n:xO w0 w w' pc pp T X N' A' T' X'):FlB w0 w' c7 pc pp T' X' N' A':=
 ⟨n.ws,λj a=>(n.xn j a).elim (h.2.1 j) (λe=>le_trans h.1.facts.2.2.1.size e),n.out h.2.2.1 (yr h.2.2.2),n.fr.obj h.2.2.2 h.2.2.1⟩
theorem FlB.cells (h:FlB w0 w c7 pc pp T X N A):w.cell? ⟨c7,0,none⟩=some (.pointer (some ⟨pc,0,none⟩))∧w.cell? ⟨c7,1,none⟩=some (.pointer (some ⟨pp,0,none⟩)):=by
 have:=zv h.2.2.2
 exact⟨by simpa using this 0 _ rfl,by simpa using this 1 _ rfl⟩
theorem FlB.fr (h:FlB w0 w c7 pc pp T X N A):Fr No w0 w:=h.1.facts.2.2.1
theorem FlB.kept (h:FlB w0 w c7 pc pp T X N A) {t:TxD} {cs:List Value} (a:TxQ w0 t cs):Kept X w (λw=>TxQ w t cs):=λ_ f=>
 a.keep (h.fr.trans f (λi hi e=>by have:=h.2.1 i e;omega))
theorem FlB.begun {a:World} (n:xO w0 w a pc pp T X N A T' X') (c:∀j,X j→w0.heap.size≤j) (b:w0.heap.size≤w.heap.size):FlB w0 (a.alloc (.cells (xM pc pp).toArray 34)) a.heap.size pc pp T' X' N A:=
 have f:=(frN a).alloc (.cells (xM pc pp).toArray 34)
 ⟨n.ws.fr0 f,λj d=>(n.xn j d).elim (c j) (λe=>le_trans b e),λe=>Nat.lt_irrefl _ (n.ws.facts.1 _ e).2.1,yU a _ rfl⟩
theorem PS.pm (h:PS w0 w pc pp T X N A):PM w0 w w pc pp T X N A A.S A.bs X:=by
 obtain⟨c,css,e,f,g,d,b,h,rfl⟩:=h
 exact⟨c,css,e,f,g,d,b,{ch:=h.ch,po:=h.po,cp:=h.cp,cx:=h.cx,xl:=h.xl,l32:=h.l32,ad:=h.ad,fr:=Fr.refl _ _,tn:=λj a=>.inl a,xn:=λj a=>.inl a,xx:=λj a=>a,pt:=.inr (.inl rfl)}⟩
def xS (T:Nat→Prop) (w:World) (B:Nat) (ty:TypeId) (k:Nat) (v:Value) (n:Nat) (xs:List Value):Prop:=w.ownsRow B ty k v n xs∧∀j,v.ownBlock=some j→¬T j
variable {B k n:Nat} {ty:TypeId} {v:Value} {xs:List Value}
theorem xS.fr0 (h:xS T w B ty k v n xs) (f:Fr No w w'):xS T w' B ty k v n xs:=⟨zb h.1 f (λ_ _=>id),h.2⟩
theorem xS.next (h:xS T w B ty k v n xs) (m:xO w0 w w' pc pp T X N' A' T' X'):xS T' w' B ty k v n xs:=
 ⟨zb h.1 m.fr h.2,λj a=>m.out (h.2 j a) (h.1.lt j a).2⟩
theorem xS.new {b:World} (h:PS w0 b pc pp T X N A) (a:w.ownsRow B ty k v n xs) (d:b.heap.size≤B):xS T w B ty k v n xs:=
 ⟨a,λj c e=>by have:=(h.facts.1 j e).2.1;have:=(a.lt j c).1;omega⟩
abbrev qg (T:Nat→Prop) (w:World) (v:Value) (l:List zf):Prop:=xS T w 0 45 32 v l.length (l.flatMap zd)
theorem qg.new {a:World} {l:List zf} (h:PS w0 a pc pp T X N A) (b:RowK a w v l):qg T w v l:=
 have o:=xS.new h b.1 (Nat.le_refl _)
 ⟨yu o.1 (Nat.zero_le _),o.2⟩
theorem qg.ids {l:List zf} (h:qg T w v l) (ok:∀c∈l,zV c):y4 w v l:=y4.own h.1 ok
def TxR (T:Nat→Prop) (w:World) (v:Value) (l:List TxD):Prop:=∃css B V,vl B 27 3 TxQ V w v l css∧(∀j,T j→j<w.heap.size→V j)∧∀j,v.ownBlock=some j→¬T j
theorem TxR.fr0 {l:List TxD} (h:TxR T w v l) (b:∀j,T j→j<w.heap.size) (f:Fr No w w'):TxR T w' v l:=by
 obtain⟨css,B,V,e,c,d⟩:=h
 exact⟨css,B,V,e.fr0 f,λj a _=>c j a (b j a),d⟩
theorem ze4 {V V':Nat→Prop} {l:List TxD} {css:List (List Value)} (h:vl B 27 3 TxQ V w v l css) {W:Nat→Prop} (f:Fr W w w') (p:∀j,j<w.heap.size→W j→V j) (b:∀j,v.ownBlock=some j→¬W j) (o:∀j,j<w.heap.size→V' j→V j):vl B 27 3 TxQ V' w' v l css:=
 ⟨zb h.row f b,h.cl,h.ck,λi d cs g m=>(h.data i d cs g m).step ((Fr.mono (W:=λj=>W j∧j<w.heap.size) ⟨f.os,f.tape,f.output,f.size,λk c b=>f.block k c (λe=>b ⟨e,c⟩)⟩ (λj a=>.inl (p j a.2 a.1)))) (λj a e=>e.imp_left (o j a))⟩
theorem TxR.next {l:List TxD} (h:TxR T w v l) (f:∀j,T j→j<w.heap.size) (m:xO w0 w w' pc pp T X N' A' T' X'):TxR T' w' v l:=by
 obtain⟨css,B,V,d,b,c⟩:=h
 exact⟨css,B,λj=>V j∨w.heap.size≤j,ze4 d m.fr (λj a e=>b j e a) c (λj a e=>e.resolve_right (by omega)),λj a g=>(m.tn j a).imp (λe=>b j e (f j e)) id,λj a=>m.out (c j a) (d.lt j a).2⟩
theorem TxR.new {b:World} {L:List zL} {k:Nat} {css:List (List Value)} (h:PS w0 b pc pp T X N A) (c:vl b.heap.size 27 3 TxQ (λj=>j<b.heap.size) w v ((yz L k).map (·.tx)) css):TxR T w v ((yz L k).map (·.tx)):=
 ⟨css,_,_,c,λj a _=>(h.facts.1 j a).2.1,λj a e=>by have:=(h.facts.1 j e).2.1;have:=(c.lt j a).1;omega⟩
theorem TxR.txs {l:List TxD} (h:TxR T w v l) (a:l.length≤1000):j7 w v l:=by
 obtain⟨css,B,V,b,c,d⟩:=h
 exact(b.rows (U:=No) (by decide) (le_trans a (by decide)) (λ_ _ e=>e.elim) (λ_ _ e=>e)).now
end
theorem ziF {S:List zn} {I:List zf} {L:List zL} (h:xy S I L) (a:L.length≤32) (now:Int):XY S I L [] now=[]:=by
 unfold XY
 rw[zfw h a,List.filter_eq_nil_iff]
 intro x b
 simpa using b
theorem vO {t:TxD} {c:zn}:c∈yN t↔∃i:Nat,t.outs[i]? =some c.out∧c.at_=⟨idH t,(i:Int)⟩:=by
 unfold yN Zn
 rw[List.mem_iff_getElem?]
 constructor
 ·rintro⟨i,hi⟩
  rw[List.getElem?_mapIdx] at hi
  obtain⟨x,b,a⟩:=Option.map_eq_some_iff.1 hi
  exact⟨i,by rw[b,←a],by rw[←a]⟩
 ·rintro⟨i,hi,a⟩
  exact⟨i,by rw[List.getElem?_mapIdx,hi];simp only[Option.map_some];rw[←a]⟩
theorem zaa {S:List zn} (srt:qF S) {c:zn} (h:c∈S):zZ S c.at_=c.out:=by
 have a:=Qu srt (qt.2 ⟨c,h,rfl⟩)
 exact congrArg zn.out (srt.uniq a h rfl)
structure Vx (S:List zn) (L B:List zL):Prop where
 sub:∀e∈B,e∈L
 nd:(zR B).Nodup
 top:∀A' e C',B=A'++e::C'→∀p∈e.ps,p∈zR A'
 new:∀e∈B,∀c∈yN e.tx,yV S c.at_=false
def zcU (S:List zn) (B:List zL) (s:StD):Prop:=qF s.S∧s.ids=zR B∧∀c,c∈s.S↔(c∈S∨∃e∈B,c∈yN e.tx)∧∀e∈B,c.at_∉z6 e.tx
section
variable {S:List zn} {I:List zf} {L B:List zL}
theorem Vx.ahead (h:Vx S L B) {c C':List zL} (a:B=c++C'):Vx S L c:=by
 refine⟨λe b=>h.sub e (by rw[a];simp[b]),?_,λX e Y f p d=>h.top X e (Y++C') (by rw[a,f];simp) p d,λe b=>h.new e (by rw[a];simp[b])⟩
 have:=h.nd
 rw[a,xq] at this
 exact(List.nodup_append.1 this).1
theorem Jf (d:(zR L).Nodup) {a b:zL} (f:a∈L) (g:b∈L) (e:a.id=b.id):a=b:=by
 have c:=ZJ d f
 rw[e,ZJ d g] at c
 exact(Option.some.inj c).symm
theorem xy.spends (h:xy S I L) {A C:List zL} {e:zL} (k:L=A++e::C) {q:zx} (d:q∈z6 e.tx):
  (yV S q=true∧xF S A q=some (zZ S q))∨(yV S q=false∧∃p∈A,p.id=q.tx∧p.id∈e.ps∧∃o,p.tx.outs[q.n.toNat]? =some o∧xF S A q=some o):=by
 obtain⟨r,s,g,i⟩:=h.split k
 obtain⟨l,f,m,n⟩:=Y8 i
 have b:=(zbd.1 (XK g).2.2.1).2 q d
 unfold xF at b⊢
 by_cases hh:yV S q=true
 ·rw[if_pos hh]
  exact .inl ⟨hh,rfl⟩
 ·rw[if_neg hh] at b⊢
  obtain⟨o,c⟩:=Option.isSome_iff_exists.1 b
  obtain⟨p,j,hi,a⟩:=JV c
  refine .inr ⟨by simpa using hh,p,j,hi,?_,o,a,c⟩
  rw[f]
  exact qS.2 (XM.2 ⟨q,d,by rw[c];rfl,hi.symm⟩)
theorem zkm (x:xy S I L) (srt:qF S) (hok:∀e∈L,∀q∈z6 e.tx,0≤q.n) {u:List zL} {e:zL} (m:Vx S L (u++[e])) {s:StD} (h:zcU S u s):txE I s e.tx=0∧zcU S (u++[e]) (txS s e.tx):=by
 obtain⟨r1,r2,r3⟩:=h
 have y:e∈L:=m.sub e (by simp)
 obtain⟨A,C,M⟩:=append_of_mem y
 obtain⟨hA,Y,h0,he⟩:=x.split M
 obtain⟨H,e2,e3,e4⟩:=Y8 he
 obtain⟨l1,l2,l3,l4,l5,l6⟩:=XK h0
 have ae:=x.nd
 have Q:=m.nd
 rw[xq] at Q
 have t:e.id∉zR u:=λc=>(List.nodup_append.1 Q).2.2 _ c e.id (by simp[zR]) rfl
 have ai:∀q∈z6 e.tx,q.tx≠e.id∨yV S q=true:=λq l=>by
  rcases x.spends M l with⟨f,-⟩|⟨-,p,R,hi,-⟩
  ·exact .inr f
  ·refine .inl λc=>?_
   have:e.id∈zR A:=by rw[←c,←hi];exact mem_map.2 ⟨p,R,rfl⟩
   rw[H] at this
   exact l1 this
 have P:∀a∈u,∀q∈z6 e.tx,q∉z6 a.tx:=λa b q l w=>by
  have N:=m.sub a (by simp[b])
  have W:=x.apart
  rw[M] at N W
  obtain⟨-,p2,p3⟩:=List.pairwise_append.1 W
  rcases mem_append.1 N with f|f
  ·exact p3 a f e (by simp) q w l
  ·rcases List.mem_cons.1 f with f|f
   ·exact t (by rw[←f];exact mem_map.2 ⟨a,b,rfl⟩)
   ·exact(List.pairwise_cons.1 p2).1 a f q l w
 have g:∀q∈z6 e.tx,yV s.S q=true∧some (zZ s.S q)=xF S A q:=λq l=>by
  rcases x.spends M l with⟨f,j⟩|⟨f,p,R,hi,v,o,ho,j⟩
  ·have r:(⟨q,zZ S q⟩:zn)∈s.S:=(r3 _).2 ⟨.inl (Qu srt f),λa b=>P a b q l⟩
   exact⟨qt.2 ⟨_,r,rfl⟩,by rw[j];exact congrArg some (zaa r1 r)⟩
  ·have ag:p.id∈zR u:=m.top u e [] rfl p.id v
   obtain⟨G,T,D⟩:=mem_map.1 ag
   have:G=p:=Jf ae (m.sub G (by simp[T])) (by rw[M];simp[R]) D
   subst this
   have V:G.id=idH G.tx:=(x.ent G (by rw[M];simp[R])).2.1
   have ab:=hok e y q l
   have r:(⟨q,o⟩:zn)∈s.S:=(r3 _).2 ⟨.inr ⟨G,T,vO.2 ⟨q.n.toNat,ho,by
    show q=⟨idH G.tx,(q.n.toNat:Int)⟩
    rw[←V,hi,Int.toNat_of_nonneg ab]⟩⟩,λa b=>P a b q l⟩
   exact⟨qt.2 ⟨_,r,rfl⟩,by rw[j];exact congrArg some (zaa r1 r)⟩
 have E:JI s.S e.tx=xj S A e.tx:=List.map_congr_left λq l=>by
  rw[←(g q l).2]
  rfl
 have O:(z6 e.tx).all (yV s.S)=true:=List.all_eq_true.2 λq l=>(g q l).1
 have n:∀c∈yN e.tx,yV (x9 s.S (z6 e.tx)) c.at_=false:=λc Y=>by
  cases hh:yV (x9 s.S (z6 e.tx)) c.at_ with
  |false=>rfl
  |true=>
   exfalso
   obtain⟨d,hd,z⟩:=qt.1 (Qo.1 hh).1
   rcases((r3 d).1 hd).1 with f|⟨a,b,f⟩
   ·have:=m.new e (by simp) c Y
    rw[qt.2 ⟨d,f,z⟩] at this
    cases this
   ·obtain⟨i,-,hi⟩:=vO.1 Y
    obtain⟨k,-,hk⟩:=vO.1 f
    rw[hk,hi] at z
    have j:idH a.tx=idH e.tx:=congrArg zx.tx z
    have K:a.id=idH a.tx:=(x.ent a (m.sub a (by simp[b]))).2.1
    exact t (by rw[H,←j,←K];exact mem_map.2 ⟨a,b,rfl⟩)
 obtain⟨af,aj⟩:=zeg (za8 e.tx) n
 have X:spE s.S e.tx=0:=by
  unfold spE
  rw[if_pos O,E,if_pos l4,if_pos af]
 have F:txE I s e.tx=0:=by
  unfold txE
  rw[if_pos Y,if_neg (by rw[r2,←H];rintro(h|h);exact l2 (by rw[←H];exact h);exact t h),X]
 refine⟨F,?_⟩
 have hS:(txS s e.tx).S=jQ (x9 s.S (z6 e.tx)) (yN e.tx):=by
  show spS s.S e.tx=_
  unfold spS
  rw[if_pos X]
 refine⟨by rw[hS];exact JJ (Zv r1) (za8 e.tx) n,?_,λc=>?_⟩
 ·show s.ids++[idH e.tx]=_
  rw[r2,xq,←H]
  rfl
 ·rw[hS,qL,jV,r3 c]
  constructor
  ·rintro(⟨⟨f,j⟩,K⟩|f)
   ·refine⟨f.imp id λ⟨a,b,Z⟩=>⟨a,by simp[b],Z⟩,λa b=>?_⟩
    rcases mem_append.1 b with b|b
    ·exact j a b
    ·rw[List.mem_singleton.1 b];exact K
   ·refine⟨.inr ⟨e,by simp,f⟩,λa b w=>?_⟩
    obtain⟨i,-,hi⟩:=vO.1 f
    have ad:=m.new e (by simp) c f
    have F:c.at_.tx=e.id:=by rw[hi,H]
    have aa:=m.sub a b
    obtain⟨A1,C1,ah⟩:=append_of_mem aa
    rcases x.spends ah w with⟨j,-⟩|⟨-,p,R,D,v,-⟩
    ·rw[ad] at j;cases j
    ·have U:p.id=e.id:=by rw[D,F]
     rcases mem_append.1 b with b|b
     ·obtain⟨B1,B2,hB⟩:=append_of_mem b
      have:=m.top B1 a (B2++[e]) (by rw[hB];simp) p.id v
      rw[U] at this
      exact t (by rw[hB,xq];exact List.mem_append_left _ this)
     ·obtain rfl:=List.mem_singleton.1 b
      have:=m.top u a [] rfl p.id v
      rw[U] at this
      exact t this
  ·rintro⟨f,j⟩
   have K:c.at_∉z6 e.tx:=j e (by simp)
   have h4:∀a∈u,c.at_∉z6 a.tx:=λa b=>j a (by simp[b])
   rcases f with f|⟨a,b,Z⟩
   ·exact .inl ⟨⟨.inl f,h4⟩,K⟩
   ·rcases mem_append.1 b with b|b
    ·exact .inl ⟨⟨.inr ⟨a,b,Z⟩,h4⟩,K⟩
    ·obtain rfl:=List.mem_singleton.1 b
     exact .inr Z
theorem zhw (b:xy S I L) (srt:qF S) (hok:∀e∈L,∀q∈z6 e.tx,0≤q.n):∀(C' A':List zL) {s:StD},Vx S L (A'++C')→zcU S A' s→(runT I (C'.map (·.tx)) s).1=0∧zcU S (A'++C') (runT I (C'.map (·.tx)) s).2
 |[],A',s,_,h=>⟨rfl,by rw[List.append_nil];exact h⟩
 |e::C',A',s,hT,h=>by
  have a:Vx S L (A'++[e]):=hT.ahead (C':=C') (by simp)
  obtain⟨c,d⟩:=zkm b srt hok a h
  rw[List.map_cons,Qy c]
  have:=zhw b srt hok C' (A'++[e]) (by simpa using hT) d
  simpa using this
theorem zdF (j:xy S I L) (srt:qF S) (hok:∀e∈L,∀q∈z6 e.tx,0≤q.n) (k:Vx S L B) (a:Int):(doR I S ⟨a,[],B.map (·.tx)⟩).E=0∧zcU S B ⟨(doR I S ⟨a,[],B.map (·.tx)⟩).S,(doR I S ⟨a,[],B.map (·.tx)⟩).d.ids,[]⟩:=by
 have h:=zhw j srt hok B [] (s:=st0 S) k ⟨srt,rfl,λc=>by simp[st0]⟩
 rw[List.nil_append] at h
 obtain⟨d,f,g,i⟩:=h
 unfold doR
 rw[if_pos d]
 have l:vH ⟨a,[],B.map (·.tx)⟩=[]:=rfl
 rw[l]
 have b:jD (runT I (B.map (·.tx)) (st0 S)).2.S []=0:=by simp[jD]
 rw[if_pos b]
 exact⟨rfl,f,g,i⟩
theorem zhL (h:xy S I L) (n:Nat) (q:∀e∈yz L n,∀c∈yN e.tx,yV S c.at_=false):Vx S L (yz L n):=by
 have a:=h.gok
 refine⟨Ju a n,VA a n,λk e C' i p d=>?_,q⟩
 have r:e∈L:=Ju a n e (by rw[i];simp)
 obtain⟨A,C,j⟩:=append_of_mem r
 have s:p∈upS (gOf L) [e.id]:=Y7.2 ⟨e.id,by simp,zdQ a j d⟩
 apply Classical.byContradiction
 intro c
 have f:=zbL a n k e C' i p s c
 obtain⟨t,u,o,b⟩:=h.split j
 obtain⟨l,m,-⟩:=Y8 b
 rw[m] at d
 have g:=Jg (qS.1 d)
 rw[f,l] at g
 exact(XK o).1 g
end
end Go.Proofs.YtbcllfjmabiafaaGreatDoor
