/- pappusref07.Id. -/
import Derived.Test.YtmpamcnlineceaaGreatDoorZG17
import Derived.Test.YtmpamcnlineceaaGreatDoorZG7
import Derived.Test.YtmpamcnlineceaaGreatDoorZG14
import Derived.Test.YtmpamcnlineceaaGreatDoorZG3
set_option linter.unusedVariables false
set_option linter.unusedSimpArgs false
set_option linter.unnecessarySimpa false
set_option linter.all false
set_option maxRecDepth 20000
set_option maxHeartbeats 16000000
namespace Go.Proofs.YtmpamcnlineceaaGreatDoor
open Go Go.RowKit Go.Maps Go.MapKept
open Go.Proofs.Tryz(prog)
open List(getElem?_eq_getElem mem_append mem_of_getElem? length_map take_add_one take_length length_take)
open Nat(zero_le)
variable {cs:List Value} {w:World}
theorem Qo {t:TxD} (u:TxQ w t cs):
  Calls prog 18 #[.agg cs.toArray] w λe w'=>e=.returned (.tuple #[.agg (zl (idH t)).toArray,.int .i64 (idE t)])∧Fr No w w':=by
 have Z:=qt
 obtain⟨V,N,M⟩:=JW
 obtain⟨j,k,l,m,D⟩:=u.form
 subst D
 have H:=J u.oks
 have K:Fr No w (w.alloc (.cells #[.int .u32 t.ver,.slice j t.ins.length k,.slice l t.outs.length m] 62)):=(frN w).alloc _
 have R0:=J (zb (qF w t.ver (.slice j t.ins.length k) (.slice l t.outs.length m)).2.2.2 ((frN _).alloc (.cells (zl z7).toArray 40)) id)
 have x:=J (K.alloc (.cells (zl z7).toArray 40))
 have F:=J (xK (w.alloc (.cells #[.int .u32 t.ver,.slice j t.ins.length k,.slice l t.outs.length m] 62)) (.cells (zl z7).toArray 40) (n:=w.heap.size+1) (by simp))
 have I:=J (zfI _ (u.keep x.o))
 have R:=J (λh=>zdI (t:=t) h H.o.1 H.o.2)
 clear u K
 show Calls prog 18 #[.agg #[.int .u32 t.ver,.slice j t.ins.length k,.slice l t.outs.length m]] w _
 go_enter Tryz.func18,Tryz.ntmps18
 by_cases a:yV t=true
 ·have q:=@J (idE t=0∧idH t=xL (txB t)) (⟨by simp[idE,a],by simp[idH,a]⟩)
  have C:=J (R.o a)
  have d:=J a
  have f:=@J ((zl (xL (txB t))).length=32) (yr (jh _))
  clear a
  have⟨y,z,A,B⟩:=tZ4
  go_wp2_with ((first|((with_reducible refine zt ?_);clear y;refine ziU rfl rfl rfl R0.o rfl ?_;generalize (w.alloc (.cells #[.int .u32 t.ver,.slice j t.ins.length k,.slice l t.outs.length m] 62)).alloc (.cells (zl z7).toArray 40)=U at*)|(clear z;go_at_call 40;refine I.o.mono ?_;rintro e O ⟨v,rfl,s,g⟩;rw[if_pos d.o] at g;rw[if_pos d.o];have p:=J s;have Q:=J g;obtain⟨W,X,E⟩:=g.form;subst E;have r:=J (VD O Q.o.slice.arg (by have:=C.o;omega));unfold TwF at r;clear s g;generalize xL (txB t)=S at*)|(clear A;go_at_call 31;refine r.o.mono ?_;rintro e Y ⟨rfl,L⟩;have G:=J L;clear L;have o:=J (G.o.obj (p.o.obj F.o id) id))|((with_reducible refine zr ?_);clear B;refine ze rfl (zy (ty:=40) (b:=w.heap.size+1) (off:=0) (cs:=zl S) rfl rfl rfl (by rw[f.o];exact zM o.o (Nat.le_of_eq xN.symm)) (by rw[f.o];exact yG) zX) ?_));go_frame)
  refine bodyPost_ret (zR (P:=prog) (fn:=Tryz.f18) rfl _ rfl (yE o.o (by rw[f.o];exact xN)) N M (by rw[f.o];exact yG) rfl) rfl ⟨by rw[q.o.1,q.o.2];rfl,?_⟩
  exact((x.o.trans0 p.o).trans0 G.o).trans (zv _ _ _ _) (λi hi e=>by omega)
 ·have c:yV t=false:=by simpa using a
  have q:=@J (idE t=5∧idH t=z7) (⟨by simp[idE,c],by simp[idH,c]⟩)
  have d:=J c
  have f:=@J ((zl z7).length=32) (rfl)
  clear a c
  have⟨y,z,A,B⟩:=tZ4
  go_wp2_with ((first|((with_reducible refine zt ?_);first|(clear y;refine ziU rfl rfl rfl R0.o rfl ?_;generalize (w.alloc (.cells #[.int .u32 t.ver,.slice j t.ins.length k,.slice l t.outs.length m] 62)).alloc (.cells (zl z7).toArray 40)=U at*)|(clear A;with_reducible refine xF 13 ?_;refine zg rfl (yl (t:=40) rfl rfl (jt _)) ?_))|(clear z;go_at_call 40;refine I.o.mono ?_;rintro e O ⟨v,rfl,s,g⟩;rw[d.o] at g;have T:v=.slice none 0 0:=g;subst T;rw[d.o];have p:=J s;clear s g;have o:=J (p.o.obj F.o id))|((with_reducible refine zr ?_);clear B;refine ze rfl (zy (ty:=40) (b:=w.heap.size+1) (off:=0) (cs:=zl z7) rfl rfl rfl (by rw[f.o];exact zM o.o (Nat.le_of_eq xN.symm)) (by rw[f.o];exact yG) zX) ?_));go_frame)
  refine bodyPost_ret (zR (P:=prog) (fn:=Tryz.f18) rfl _ rfl (yE o.o (by rw[f.o];exact xN)) N M (by rw[f.o];exact yG) rfl) rfl ⟨by rw[q.o.1,q.o.2];rfl,?_⟩
  exact(x.o.trans0 p.o).trans (zv _ _ _ _) (λi hi e=>by omega)
theorem Vl (id:zY) {l:List yk} {n:Nat} {x:yk} (h:l[n]? =some x):((xP id l).take (n+1)).flatMap zw=((xP id l).take n).flatMap zw++zw ⟨⟨id,(n:Int)⟩,x⟩:=by
 rw[take_add_one,JI id h]
 simp
theorem zcu {t:TxD} (ht:TxQ w t cs):
  Calls prog 75 #[.agg cs.toArray] w (Yk w t):=by
 have HT:=J ht
 obtain⟨B,C,D,E,rfl,hv,-,p⟩:=ht
 have zo:=yA
 have zH:=qt
 have G:=J ((frN w).alloc (.cells #[.int .u32 t.ver,.slice B t.ins.length C,.slice D t.outs.length E] 62))
 obtain⟨c0,c1,c2,r0⟩:=qF w t.ver (.slice B t.ins.length C) (.slice D t.outs.length E)
 have R0:=J r0
 have C2:=J c2
 have r:=J (Qo (HT.o.keep G.o))
 have d:=J (yr (vk t))
 have s:=J (vk t)
 have R:=J p
 clear p hv c0 c1 c2 r0
 show Calls prog 75 #[.agg #[.int .u32 t.ver,.slice B t.ins.length C,.slice D t.outs.length E]] w _
 by_cases hfm:yV t=true
 rotate_left
 ·have a:yV t=false:=by simpa using hfm
  have k:idE t=5:=by simp[idE,a]
  have U:=@J (∀w',Fr No w w'→Yk w t (.returned (.tuple #[.slice none 0 0,.int .i64 5])) w') (λw' f=>⟨.slice none 0 0,by rw[k],f,by rw[a];rfl⟩)
  rw[k] at r
  clear hfm a k
  generalize idH t=id at*
  go_enter Tryz.func75,Tryz.ntmps75
  have⟨u,y,z⟩:=tZ3
  go_wp2_with ((first|((with_reducible refine zt ?_);clear u;refine ziU rfl rfl rfl R0.o rfl ?_;generalize w.alloc (.cells #[.int .u32 t.ver,.slice B t.ins.length C,.slice D t.outs.length E] 62)=w1 at*)|(clear y;go_at_call 18;refine r.o.mono ?_;rintro e c ⟨rfl,o⟩;have M:=J (G.o.trans0 o);clear o;have H:=@J (Fr No c (c.alloc (.cells (zl id).toArray 40))) ((frN c).alloc _))|((with_reducible refine zr ?_);clear z;refine zi3 (w:=c) (cs:=zl id) rfl rfl rfl rfl d.o zX ?_));go_frame)
  go_ret2
  exact U.o _ (M.o.trans0 H.o)
 ·have k:idE t=0:=by simp[idE,hfm]
  have Z:t.outs.length≤8:=(qi.1 hfm).2.2
  obtain⟨l,Y⟩:∃l,l=t.outs:=⟨_,rfl⟩
  have U:=@J (∀v w',Fr No w w'→w'.ownsRow w.heap.size 103 66 v l.length ((xP (idH t) l).flatMap zw)→Yk w t (.returned (.tuple #[v,.int .i64 0])) w') (λv w' f h=>⟨v,by rw[k],f,by rw[if_pos hfm,←Y];exact h⟩)
  rw[k] at r
  rw[←Y] at Z R0 C2 r R G⊢
  clear Y hfm k
  generalize idH t=id at*
  go_enter Tryz.func75,Tryz.ntmps75
  have⟨u,y,z⟩:=tZ3
  go_wp2_with ((first|((with_reducible refine zt ?_);clear u;refine ziU rfl rfl rfl R0.o rfl ?_;generalize w.alloc (.cells #[.int .u32 t.ver,.slice B t.ins.length C,.slice D l.length E] 62)=w1 at*)|(clear y;go_at_call 18;refine r.o.mono ?_;rintro e c ⟨rfl,o⟩;have M:=J (G.o.trans0 o);have q:=o.cell C2.o _root_.id;clear o)|((with_reducible refine zr ?_);clear z;refine zi3 (w:=c) (cs:=zl id) rfl rfl rfl rfl d.o zX ?_;have H:=J (M.o.alloc (.cells (zl id).toArray 40));have Q:=J (zS c (.cells (zl id).toArray 40));have K:=((frN c).alloc (.cells (zl id).toArray 40)).cell q _root_.id;generalize c.alloc (.cells (zl id).toArray 40)=F at*;generalize c.heap.size=q3 at*));go_frame)
  clear q K
  go_loopw [6,20] (λrv iv wr=>∃n:Nat,iv=.int .i64 n∧n≤l.length∧wr.ownsRow F.heap.size 103 66 rv n (((xP id l).take n).flatMap zw)∧Fr No F wr) (λ_ iv _=>l.length-(intOf iv).toNat)
  case atStart=>exact⟨0,rfl,zero_le _,World.ownsRow_nil _ _ _ _,Fr.refl _ _⟩
  case round=>
   obtain⟨n,rfl,hn,p,fr⟩:=hrel
   have N:=J fr
   have FR:=J (H.o.trans0 fr)
   have S:=J p
   obtain⟨la,lc,rfl⟩:=p.slice.arg.form
   clear fr p
   by_cases h:n<l.length
   ·have i1:(n:Int)<(l.length:Int):=by omega
    obtain⟨x,I⟩:∃x,l[n]? =some x:=⟨_,getElem?_eq_getElem h⟩
    obtain⟨b,off,aa,hv,hr,-⟩:=(R.o.keep FR.o).at_ I
    cases hv
    have j:=J (R.o.1 x (mem_of_getElem? I))
    have W:=J (z6 j.o)
    have R1:=J hr
    have g:=@J ((⟨id,(n:Int)⟩:zE).ok) (⟨s.o,by show(0:Int)≤(n:Int);omega,by show(n:Int)≤_;omega⟩)
    have L:=@J ((zw ⟨⟨id,(n:Int)⟩,x⟩).length=66) (yv ⟨g.o,j.o⟩)
    have PL:=J (zF g.o)
    have X:(n:Int) % 4294967296=(n:Int):=by omega
    have RO:=J (zK wr (zx x) 68)
    have RH:=@J ((wr.alloc (.cells (zx x).toArray 68)).rangeAt q3 0 (zl id)) (zb (zm Q.o) (N.o.alloc _) (λh=>h))
    have V:=J (Vl id I)
    obtain⟨v5,w5,A,m,f5,-,-⟩:=yw (P:=prog) _ F.heap.size 49 49 103 66 80 _ yQ xR rfl (by decide) (S.o.alloc (.cells (zx x).toArray 68)) (zw ⟨⟨id,(n:Int)⟩,x⟩) L.o yz (by omega) (by unfold maxLen;omega) (N.o.alloc (.cells (zx x).toArray 68)).size
    have F5:=@J (Fr No F w5) ((N.o.alloc _).trans f5 (λi hi e=>by have:=(S.o.lt i e).1;omega))
    have T:=@J (w5.ownsRow F.heap.size 103 66 v5 (n+1) (((xP id l).take (n+1)).flatMap zw)) (by rw[V.o];exact m)
    obtain⟨a5,c5,rfl⟩:=m.slice.arg.form
    have O:=J A
    clear A m f5 hr I
    have⟨u,y,z,K3,K4,K5,K6,K7⟩:=tZ8
    go_wp2_with ((first|((with_reducible refine zt ?_);first|(clear u;refine ziW rfl rfl rfl R1.o W.o ?_)|(clear z;refine ziT rfl rfl rfl RH.o d.o ?_)|(clear K3;refine zg rfl (qj (t:=72) (vs:=[(0,.agg (zl id).toArray),(1,.int .u32 n)]) rfl (by simp[Act.eval,X]) Xf (Qn s.o n) (Xe id n) (by rw[PL.o])) ?_)|(clear K4;refine ziW rfl rfl rfl RO.o W.o ?_)|(clear K5;refine zg rfl (qj (t:=103) (vs:=[(0,.agg (zi ⟨id,(n:Int)⟩).toArray),(1,.agg (zx x).toArray)]) rfl rfl Zc (Yp g.o j.o) (Zb _ _) (by rw[L.o])) ?_)|(clear K6;refine zg rfl (zL (t:=49) rfl rfl yQ qA rfl (by decide) (by decide) L.o) ?_)|(clear K7;at_builtin;refine zk rfl rfl rfl rfl O.o ?_))|((with_reducible refine zr ?_);clear y;refine zi5 (w:=wr) (cs:=zx x) rfl rfl rfl rfl W.o zV ?_));go_frame)
    go_roundw
    case rel=>exact⟨n+1,by simp,by omega,T.o,F5.o⟩
    case measure=>show l.length-(n+1)<l.length-n;omega
   ·have i1:¬(n:Int)<(l.length:Int):=by omega
    have HF:=@J (wr.ownsRow w.heap.size 103 66 (.slice la n lc) l.length ((xP id l).flatMap zw)) (by
     have:=qs S.o H.o.size
     rw[List.take_of_length_le (by rw[xZ];omega)] at this
     rwa [show l.length=n by omega])
    go_wp2
    go_ret2
    exact U.o _ _ FR.o HF.o
section
open Go.Sort
def qx (c:zh) (s:List zh×Bool) (x:zh):List zh×Bool:=
 if s.2=false∧xV c.at_ x.at_=true then(s.1++[c]++[x],true) else(s.1++[x],s.2)
def jr (c:zh) (S:List zh):List zh×Bool:=S.foldl (qx c) ([],false)
theorem zcm (c:zh) (S:List zh) (n:Nat) (x:zh) (h:S[n]? =some x):jr c (S.take (n+1))=qx c (jr c (S.take n)) x:=by
 unfold jr
 rw[take_add_one,h,List.foldl_append]
 rfl
theorem zdl (c:zh):∀(A:List zh) (W:List zh),(∀x∈A,xV c.at_ x.at_=false)→A.foldl (qx c) (W,false)=(W++A,false)
 |[],W,_=>by simp
 |x::A,W,h=>by
  rw[List.foldl_cons,show qx c (W,false) x=(W++[x],false) by simp[qx,h x (by simp)],zdl c A _ (λy a=>h y (by simp[a]))]
  simp
theorem za5 (c:zh):∀(B:List zh) (W:List zh),B.foldl (qx c) (W,true)=(W++B,true)
 |[],W=>by simp
 |x::B,W=>by
  rw[List.foldl_cons,show qx c (W,true) x=(W++[x],true) by simp[qx],za5 c B]
  simp
theorem zeJ (c:zh) (S:List zh):JP S c=if(jr c S).2=true then(jr c S).1 else(jr c S).1++[c]:=by
 have e:=List.takeWhile_append_dropWhile (p:=λx:zh=> !xV c.at_ x.at_) (l:=S)
 have b:∀x∈S.takeWhile (λx=> !xV c.at_ x.at_),xV c.at_ x.at_=false:=λx f=>by have:=XD f;simpa using this
 unfold JP jr
 have d:=List.head?_dropWhile_not (λx:zh=> !xV c.at_ x.at_) S
 generalize S.takeWhile (λx=> !xV c.at_ x.at_)=A at*
 generalize S.dropWhile (λx=> !xV c.at_ x.at_)=B at*
 subst e
 rw[List.foldl_append,zdl c A [] b]
 cases B with
 |nil=>simp
 |cons x B=>
  have a:xV c.at_ x.at_=true:=by simpa using d
  rw[List.foldl_cons,show qx c ([]++A,false) x=([]++A++[c]++[x],true) by simp[qx,a],za5]
  simp
theorem za4 (c:zh) (s:List zh×Bool) (x:zh):(qx c s x).1.length+(if(qx c s x).2 then 0 else 1)≤s.1.length+(if s.2 then 0 else 1)+1:=by
 obtain⟨W,b⟩:=s
 unfold qx
 by_cases h:b=false∧xV c.at_ x.at_=true
 ·rw[if_pos h,h.1];simp
 ·rw[if_neg h];simp;omega
theorem zgl (c:zh) (S:List zh):(jr c S).1.length≤S.length+1:=by
 have:∀(S:List zh) (s:List zh×Bool),(S.foldl (qx c) s).1.length+(if(S.foldl (qx c) s).2 then 0 else 1)≤s.1.length+(if s.2 then 0 else 1)+S.length:=by
  intro S
  induction S with
  |nil=>intro s;exact Nat.le_refl _
  |cons x S ih=>
   intro s
   rw[List.foldl_cons]
   have a:=ih (qx c s x)
   have b:=za4 c s x
   simp only[List.length_cons]
   omega
 have:=this S ([],false)
 unfold jr
 simp only[List.length_nil,Bool.false_eq_true,if_false] at this
 omega
section
variable {w0 w:World} {p:Nat} {iv:Value} {U:Nat→Prop} {S:List zh}
theorem zig (h:RS w0 w p iv U S) (hN:S.length≤100000) {c:zh} (hc:c.ok):
  Calls prog 79 #[.pointer (some ⟨p,0,none⟩),.agg (zw c).toArray] w λe w'=>e=.returned (.tuple #[])∧∃U',RS w0 w' p iv U' (JP S c)∧(∀j,U' j→U j∨w.heap.size≤j)∧Fr U w w':=by
 obtain⟨dP,uP,rP⟩:=zaa
 have zc:=jI
 have L:=J h.ok
 have H:=J hc
 have V:=J (yv hc)
 have PC:=J (zF hc.1)
 have Z:=J ((frN w).alloc (.cells (zw c).toArray 103))
 have RB:=J (zK w (zw c) 103)
 have ad:=J h
 have ao:=J (h.fr0 Z.o)
 have WD:=J (zeJ c S)
 obtain⟨rv,hb,hs,hU,av⟩:=ao.o.ex
 obtain⟨ra,rc,rfl⟩:=hs.arg.form
 have HS:=J hs
 have HB:=J hb
 have c0:(w.alloc (.cells (zw c).toArray 103)).cell? ⟨p,0,none⟩=some (.slice ra S.length rc):=(Qh hb).1
 clear h hc hb hs hU av
 go_enter Tryz.func79,Tryz.ntmps79
 go_wp2_with fail
 generalize v:w.heap.size=q0 at*
 generalize w.alloc (.cells (zw c).toArray 103)=q at*
 clear c0
 go_loopw [4,5,13] (λl d jv wr=>∃n:Nat,jv=.int .i64 n∧n≤S.length∧d=.bool (jr c (S.take n)).2∧wr.ownsRow q.heap.size 103 66 l (jr c (S.take n)).1.length ((jr c (S.take n)).1.flatMap zw)∧Fr No q wr) (λ_ _ jv _=>S.length-(intOf jv).toNat)
 case atStart=>exact⟨0,rfl,zero_le _,rfl,World.ownsRow_nil _ _ _ _,Fr.refl _ _⟩
 case round=>
  obtain⟨n,rfl,hn,rfl,ho,fr⟩:=hrel
  have G:=J fr
  have SN:=J (λ(x:zh) X=>zcm c S n x X)
  have WL:=J (zgl c (S.take n))
  have ar:=J (λ(e:n=S.length)=>(by have h1:=WD.o;rw[show S.take n=S by rw[e,take_length]];exact h1:JP S c=if(jr c (S.take n)).2=true then(jr c (S.take n)).1 else(jr c (S.take n)).1++[c]))
  clear fr
  generalize jr c (S.take n)=s at*
  obtain⟨W,D⟩:=s
  have aB:W.length≤100001:=by have:=WL.o;rw[length_take] at this;simp only at this;omega
  dsimp only at ho
  have HO:=J ho
  obtain⟨la,lc,rfl⟩:=ho.slice.arg.form
  clear ho WL
  by_cases h:n<S.length
  ·have i1:(n:Int)<(S.length:Int):=by omega
   obtain⟨x,X⟩:∃x,S[n]? =some x:=⟨_,getElem?_eq_getElem h⟩
   obtain⟨b,off,aA,hv,hr,-⟩:=(HS.o.keep G.o (λ_ _=>id)).elem (by decide) (λy R=>yv (L.o y R)) X
   cases hv
   have SX:=SN.o x X
   have C:=J (L.o x (mem_of_getElem? X))
   have g:=J (yv C.o)
   have PX:=J (zF C.o.1)
   have R1:=J hr
   have RN:=J (zK wr (zw x) 103)
   have M:=J (zb RB.o (G.o.alloc (.cells (zw x).toArray 103)) id)
   have ag:=J (ju RN.o)
   have af:=J (ju M.o)
   have FE:=J (G.o.alloc (.cells (zw x).toArray 103))
   have Q:=J (HO.o.alloc (.cells (zw x).toArray 103))
   have F:=@J (∀j,(Value.slice la W.length lc).ownBlock=some j→q.heap.size≤j∧j<wr.heap.size) (λj e=>HO.o.lt j e)
   clear hr X
   cases D with
   |true=>
    have k:=@J (jr c (S.take (n+1))=(W++[x],true)) (by rw[SX];simp[qx])
    obtain⟨v5,Y,a,m,f5,-,-⟩:=yw (P:=prog) _ q.heap.size 49 49 103 66 80 _ yQ xR rfl (by decide) Q.o (zw x) g.o yz (by omega) (by unfold maxLen;omega) FE.o.size
    have F5:=@J (Fr No q Y) (FE.o.trans f5 (λi hi e=>by have:=(F.o i e).1;omega))
    have I:=@J (Y.ownsRow q.heap.size 103 66 v5 (W++[x]).length ((W++[x]).flatMap zw)) (by simpa using m)
    obtain⟨a5,k5,rfl⟩:=m.slice.arg.form
    have A:=J a
    clear a m f5 SX
    go_wp2_with (first|(refine ziY rfl rfl rfl RN.o g.o ?_)|(refine ziY rfl rfl rfl R1.o g.o ?_)|(refine ze rfl (zj (w:=wr) (cs:=zw x) (ty:=103) rfl rfl rfl (by rw[g.o];rfl) (by rw[g.o];exact xI) yz) ?_)|(refine zg rfl (zL (t:=49) rfl rfl yQ qA rfl (by decide) (by decide) g.o) ?_)|(at_builtin;refine zk rfl rfl rfl rfl A.o ?_))
    go_roundw
    case rel=>exact⟨n+1,by simp,by omega,by rw[k.o],by rw[k.o];exact I.o,F5.o⟩
    case measure=>show S.length-(n+1)<S.length-n;omega
   |false=>
    cases hlt2:xV c.at_ x.at_ with
    |true=>
     have LT:=J hlt2
     have k:=@J (jr c (S.take (n+1))=(W++[c]++[x],true)) (by rw[SX];simp[qx,hlt2])
     clear SX hlt2
     go_wp2_with (first|(refine ziY rfl rfl rfl ah g.o ?_)|(refine ziY rfl rfl rfl ae.o V.o ?_)|(refine xM (o:=⟨some 21,_,_,_,_,_⟩) rfl (ye (ty:=72) rfl rfl af.o uP rP (by rw[PC.o];exact yL)) ?_)|(refine xM (o:=⟨some 23,_,_,_,_,_⟩) rfl (ye (ty:=72) rfl rfl ag.o uP rP (by rw[PX.o];exact yL)) ?_)|(refine ziY rfl rfl rfl R1.o g.o ?_)|(refine ze rfl (zj (w:=wr) (cs:=zw x) (ty:=103) rfl rfl rfl (by rw[g.o];rfl) (by rw[g.o];exact xI) yz) ?_)|(refine zg rfl (zL (t:=49) rfl rfl yQ qA rfl (by decide) (by decide) V.o) ?_)|(refine zg rfl (zL (t:=49) rfl rfl yQ qA rfl (by decide) (by decide) g.o) ?_)|(at_builtin;refine zk rfl rfl rfl rfl a ?_;clear a)|(at_builtin;refine zk rfl rfl rfl rfl aj ?_)|(go_at_call 90;refine(VY _ H.o.1 C.o.1).mono ?_;rintro e w6 ⟨rfl,u⟩;rw[LT.o];have F6:=J (FE.o.trans0 u);have N:=J (zb RN.o u id);have ae:=J (zb M.o u id);have K:=J (zf Q.o u (λ_ _=>id));have Z6:=@J (wr.heap.size<w6.heap.size) (Nat.lt_of_lt_of_le (by simp) u.size);clear u;obtain⟨al,T,a,f,r,-,-⟩:=yw (P:=prog) w6 q.heap.size 49 49 103 66 80 _ yQ xR rfl (by decide) K.o (zw c) V.o yz (by omega) (by unfold maxLen;omega) F6.o.size;have ah:=zb N.o r (λe=>by have:=(F.o _ e).2;omega);have z:=F6.o.trans r (λi hi e=>by have:=(F.o i e).1;omega);obtain⟨ax,ay,aj,B,ai,-,-⟩:=yw (P:=prog) T q.heap.size 49 49 103 66 80 _ yQ xR rfl (by decide) f (zw x) g.o yz (by omega) (by unfold maxLen;omega) z.size;have an:=J (z.trans ai (λi hi e=>by have:=(f.lt i e).1;omega));have ab:=@J (ay.ownsRow q.heap.size 103 66 ax (W++[c]++[x]).length ((W++[c]++[x]).flatMap zw)) (by simpa using B);obtain⟨au,aw,rfl⟩:=f.slice.arg.form;obtain⟨az,aC,rfl⟩:=B.slice.arg.form;clear f r z ai B))
     go_roundw
     case rel=>exact⟨n+1,by simp,by omega,by rw[k.o],by rw[k.o];exact ab.o,an.o⟩
     case measure=>show S.length-(n+1)<S.length-n;omega
    |false=>
     have LT:=J hlt2
     have k:=@J (jr c (S.take (n+1))=(W++[x],false)) (by rw[SX];simp[qx,hlt2])
     clear SX hlt2
     go_wp2_with (first|(refine ziY rfl rfl rfl N.o g.o ?_)|(refine xM (o:=⟨some 21,_,_,_,_,_⟩) rfl (ye (ty:=72) rfl rfl af.o uP rP (by rw[PC.o];exact yL)) ?_)|(refine xM (o:=⟨some 23,_,_,_,_,_⟩) rfl (ye (ty:=72) rfl rfl ag.o uP rP (by rw[PX.o];exact yL)) ?_)|(refine ziY rfl rfl rfl R1.o g.o ?_)|(refine ze rfl (zj (w:=wr) (cs:=zw x) (ty:=103) rfl rfl rfl (by rw[g.o];rfl) (by rw[g.o];exact xI) yz) ?_)|(refine zg rfl (zL (t:=49) rfl rfl yQ qA rfl (by decide) (by decide) g.o) ?_)|(at_builtin;refine zk rfl rfl rfl rfl a ?_)|(go_at_call 90;refine(VY _ H.o.1 C.o.1).mono ?_;rintro e w6 ⟨rfl,u⟩;rw[LT.o];have F6:=J (FE.o.trans0 u);have N:=J (zb RN.o u id);have ae:=J (zb M.o u id);have K:=J (zf Q.o u (λ_ _=>id));have Z6:=@J (wr.heap.size<w6.heap.size) (Nat.lt_of_lt_of_le (by simp) u.size);clear u;obtain⟨al,T,a,f,r,-,-⟩:=yw (P:=prog) w6 q.heap.size 49 49 103 66 80 _ yQ xR rfl (by decide) K.o (zw x) g.o yz (by omega) (by unfold maxLen;omega) F6.o.size;have z:=J (F6.o.trans r (λi hi e=>by have:=(F.o i e).1;omega));have aa:=@J (T.ownsRow q.heap.size 103 66 al (W++[x]).length ((W++[x]).flatMap zw)) (by simpa using f);obtain⟨au,aw,rfl⟩:=f.slice.arg.form;clear f r))
     go_roundw
     case rel=>exact⟨n+1,by simp,by omega,by rw[k.o],by rw[k.o];exact aa.o,z.o⟩
     case measure=>show S.length-(n+1)<S.length-n;omega
  ·have i1:¬(n:Int)<(S.length:Int):=by omega
   have i2:n=S.length:=by omega
   have WE:=ar.o i2
   have FW:=J (Z.o.trans0 G.o)
   have E:=G.o.obj HB.o id
   have ak:=@J (∀y∈JP S c,y.ok) (λy R=>(Vh.1 R).elim (λe=>e▸H.o) (L.o y))
   cases D with
   |true=>
    have IT:=@J (JP S c=W) (by rw[WE];rfl)
    have cr:wr.cell? ⟨p,0,none⟩=some (.slice ra S.length rc):=(Qh E).1
    have fz:=qZ E 0
    clear E WE i2
    go_wp2
    go_end0
    obtain⟨t1,t2,t3⟩:=ad.o.turn FW.o (by rw[v];exact qs HO.o (by rw[←v];exact Z.o.size)) (S':=W) (λy R=>ak.o y (by rw[IT.o];exact R))
    exact⟨rfl,_,by rw[IT.o];exact t1,by rw[←v];exact t3,t2⟩
   |false=>
    have IT:=@J (JP S c=W++[c]) (by rw[WE];rfl)
    have aq:=J (zb RB.o G.o id)
    obtain⟨v5,Y,a,m,f5,-,-⟩:=yw (P:=prog) wr q.heap.size 49 49 103 66 80 _ yQ xR rfl (by decide) HO.o (zw c) V.o yz (by omega) (by unfold maxLen;omega) G.o.size
    have F5:=@J (Fr No q Y) (G.o.trans f5 (λi hi e=>by have:=(HO.o.lt i e).1;omega))
    have I:=@J (Y.ownsRow q.heap.size 103 66 v5 (W++[c]).length ((W++[c]).flatMap zw)) (by simpa using m)
    have O:=F5.o.obj HB.o id
    have cr:Y.cell? ⟨p,0,none⟩=some (.slice ra S.length rc):=(Qh O).1
    have fz:=qZ O 0
    obtain⟨a5,k5,rfl⟩:=m.slice.arg.form
    have A:=J a
    clear a m f5 O E WE i2
    go_wp2_with (first|(refine ziY rfl rfl rfl aq.o V.o ?_)|(refine zg rfl (zL (t:=49) rfl rfl yQ qA rfl (by decide) (by decide) V.o) ?_)|(at_builtin;refine zk rfl rfl rfl rfl A.o ?_))
    go_end0
    obtain⟨t1,t2,t3⟩:=ad.o.turn (Z.o.trans0 F5.o) (by rw[v];exact qs I.o (by rw[←v];exact Z.o.size)) (S':=W++[c]) (λy R=>ak.o y (by rw[IT.o];exact R))
    exact⟨rfl,_,by rw[IT.o];exact t1,by rw[←v];exact t3,t2⟩
end
end
section
open Go.Sort
theorem zah (a:Option Addr) (n c:Nat) (w:World):(Builtin.len_ #[49] 3 #[.slice a n c]).run prog w=.ok (.int .i64 n) w:=by
 simp[Builtin.len_,run_underlying yQ]
 rfl
theorem zam {S l:List zh} {c:zh} {n:Nat} (h:l[n]? =some c):qP S (l.take (n+1))=qP (qP S (l.take n)) [c]:=by
 unfold qP
 rw[take_add_one,h,List.foldl_append];rfl
section
variable {w0 w:World} {p:Nat} {iv:Value} {U:Nat→Prop} {S:List zh}
theorem zc2 (h:RS w0 w p iv U S) {v:Value} {l:List zh} (W:∀w',Fr U w w'→xz w' v l) (hN:l.length+S.length≤100000):
  Calls prog 53 #[.pointer (some ⟨p,0,none⟩),v] w λe w'=>e=.returned (.int .i64 (xQ S l))∧∃U',RS w0 w' p iv U' (qQ S l)∧(∀j,U' j→U j∨w.heap.size≤j)∧Fr U w w':=by
 obtain⟨va,vc,rfl⟩:=(W w (Fr.refl _ _)).2.form
 have zc:=jI
 have zo:=yA
 have HL:=J W
 have u:=J (W w (Fr.refl _ _)).1
 have HR:=J h
 have af:=zah
 clear h W
 go_enter Tryz.func53,Tryz.ntmps53
 go_wp2_with fail
 refine(zgn w (HL.o w (Fr.refl _ _)) (by omega)).mono ?_
 rintro e w1 ⟨v1,rfl,o1,f1⟩
 have P1:=J (XG (S:=l.map (·.at_)) (by rw[length_map];exact o1) (λp hp=>by obtain⟨c,hc,rfl⟩:=List.mem_map.1 hp;exact(u.o c hc).1))
 have H:=J (HR.o.fr0 f1)
 have F1:=J f1
 clear o1 f1
 by_cases hnd:(l.map (·.at_)).Nodup
 ·have ND:=J hnd
  have Z:=@J ((!decide (l.map (·.at_)).Nodup)=false) (by rw[decide_eq_true hnd];rfl)
  clear hnd
  go_wp2_with (go_at_call 76;refine(ZF w1 P1.o (by rw[length_map];omega)).mono ?_;rintro e w2 ⟨rfl,z⟩;rw[Z.o];have k:=J (H.o.fr0 z);have F:=J (F1.o.trans0 z);clear z)
  go_loopw [16] (λA wr=>∃n:Nat,A=.int .i64 n∧n≤l.length∧(∀y∈l.take n,xE S y.at_=false)∧Fr No w2 wr) (λA _=>l.length-(intOf A).toNat)
  case atStart=>exact⟨0,rfl,zero_le _,by simp,Fr.refl _ _⟩
  case round=>
   obtain⟨n,rfl,hn,L,fr⟩:=hrel
   have C:=J fr
   have NI:=J L
   clear fr L
   by_cases h:n<l.length
   ·have i1:(n:Int)<(l.length:Int):=by omega
    obtain⟨c,g⟩:∃x,l[n]? =some x:=⟨_,getElem?_eq_getElem h⟩
    have f:=J (k.o.fr0 C.o)
    obtain⟨b,off,ae,hv,M,-⟩:=(HL.o _ (F.o.trans0 C.o).of0).at_ g
    cases hv
    have a:=J (u.o c (mem_of_getElem? g))
    have d:=J (yv a.o)
    have PL:=J (zF a.o.1)
    have XO:=J (vQ f.o.ok c.at_)
    have T:=J (z6 XO.o)
    have V:=J M
    have RP:=J (ju (zK wr (zw c) 103))
    have o:=J ((frN wr).alloc (.cells (zw c).toArray 103))
    have Y:=J (mem_of_getElem? g)
    have ab:=@J (l.take (n+1)=l.take n++[c]) (by rw[take_add_one,g];rfl)
    clear M g
    cases hh:xE S c.at_ with
    |true=>
     obtain⟨q,r⟩:=zdB ND.o Y.o hh
     have D:=J q
     have E:=J r
     have Q:=J hh
     clear hh q r
     go_wp2_with (first|(refine ziX rfl rfl rfl RP.o PL.o ?_)|(refine ziY rfl rfl rfl V.o d.o ?_)|(refine ze rfl (zj (w:=wr) (cs:=zw c) (ty:=103) rfl rfl rfl (by rw[d.o];rfl) (by rw[d.o];exact xI) yz) ?_)|(go_at_call 78;refine(Yw (f.o.fr0 o.o) (by omega) a.o.1).mono ?_;rintro e X ⟨rfl,s⟩;rw[Q.o];have B:=J ((o.o.trans0 s).alloc (.cells (zx (yj S c.at_)).toArray 68));clear s)|(refine ze rfl (zj (w:=X) (cs:=zx (yj S c.at_)) (ty:=68) rfl rfl rfl (by rw[T.o];rfl) (by rw[T.o];exact yW) zV) ?_))
     go_ret
     exact⟨by rw[D.o];rfl,U,by rw[E.o];exact f.o.fr0 B.o,λ_ h=>.inl h,((F.o.trans0 C.o).trans0 B.o).of0⟩
    |false=>
     have Q:=J hh
     have ad:=@J (∀y∈l.take (n+1),xE S y.at_=false) (by
      rw[ab.o]
      intro y hy
      rcases mem_append.1 hy with h|h
      ·exact NI.o y h
      ·rw[List.mem_singleton.1 h];exact Q.o)
     clear hh
     go_wp2_with (first|(refine ziX rfl rfl rfl RP.o PL.o ?_)|(refine ziY rfl rfl rfl V.o d.o ?_)|(refine ze rfl (zj (w:=wr) (cs:=zw c) (ty:=103) rfl rfl rfl (by rw[d.o];rfl) (by rw[d.o];exact xI) yz) ?_)|(go_at_call 78;refine(Yw (f.o.fr0 o.o) (by omega) a.o.1).mono ?_;rintro e X ⟨rfl,s⟩;rw[Q.o];have B:=J ((o.o.trans0 s).alloc (.cells (zx (yj S c.at_)).toArray 68));clear s)|(refine ze rfl (zj (w:=X) (cs:=zx (yj S c.at_)) (ty:=68) rfl rfl rfl (by rw[T.o];rfl) (by rw[T.o];exact yW) zV) ?_))
     go_roundw
     case rel=>exact⟨n+1,by simp,by omega,ad.o,C.o.trans0 B.o⟩
     case measure=>show l.length-(n+1)<l.length-n;omega
   ·have i1:¬(n:Int)<(l.length:Int):=by omega
    have t:∀y∈l,xE S y.at_=false:=by have:=NI.o;rwa [show l.take n=l by rw[show n=l.length by omega,take_length]] at this
    obtain⟨q,r⟩:=Vs ND.o t
    have D:=J q
    have E:=J r
    have f:=J (k.o.fr0 C.o)
    have FF:=J (F.o.trans0 C.o)
    clear t q r
    go_wp2_with fail
    go_loopw [31] (λA P=>∃(m:Nat) (I:Nat→Prop),A=.int .i64 m∧m≤l.length∧RS w0 P p iv I (qP S (l.take m))∧(∀j,I j→U j∨w.heap.size≤j)∧Fr U w P) (λA _=>l.length-(intOf A).toNat)
    case atStart=>exact⟨0,U,rfl,zero_le _,f.o,λ_ h=>.inl h,FF.o.of0⟩
    case round=>
     clear f
     obtain⟨m,I,rfl,hm,N,O,K⟩:=hrel
     have f:=J N
     have HU:=J O
     have R:=J K
     clear N O K
     by_cases h2:m<l.length
     ·have i2:(m:Int)<(l.length:Int):=by omega
      obtain⟨c,g⟩:∃x,l[m]? =some x:=⟨_,getElem?_eq_getElem h2⟩
      obtain⟨b,off,ae,hv,M,-⟩:=(HL.o _ R.o).at_ g
      cases hv
      have a:=J (u.o c (mem_of_getElem? g))
      have d:=J (yv a.o)
      have V:=J M
      have RN:=J (zK wr (zw c) 103)
      have o:=J ((frN wr).alloc (.cells (zw c).toArray 103))
      have aa:=@J (qP S (l.take (m+1))=JP (qP S (l.take m)) c) (by rw[zam g];rfl)
      have G:=@J ((qP S (l.take m)).length≤100000) (by rw[zfJ,length_take];omega)
      clear M g
      go_wp2_with (first|(refine ziY rfl rfl rfl RN.o d.o ?_)|(refine ziY rfl rfl rfl V.o d.o ?_)|(refine ze rfl (zj (w:=wr) (cs:=zw c) (ty:=103) rfl rfl rfl (by rw[d.o];rfl) (by rw[d.o];exact xI) yz) ?_)|(go_at_call 79;refine(zig (f.o.fr0 o.o) G.o a.o).mono ?_;rintro e X ⟨rfl,U8,r8,h8,s⟩;have R8:=J r8;have H8:=J h8;have B:=J s;clear r8 h8 s))
      go_roundw
      case rel=>
       refine⟨m+1,U8,by simp,by omega,by rw[aa.o];exact R8.o,λj hj=>?_,?_⟩
       ·rcases H8.o j hj with h|h
        ·exact HU.o j h
        ·have:=R.o.size;have:=o.o.size;exact .inr (by omega)
       ·exact(R.o.trans o.o.of0 (λ_ _ h=>h)).trans B.o (λi hi e=>(HU.o i e).elim id (λe=>by omega))
      case measure=>show l.length-(m+1)<l.length-m;omega
     ·have i2:¬(m:Int)<(l.length:Int):=by omega
      have RZ:=@J (RS w0 wr p iv I (qQ S l)) (by have:=f.o;rwa [show l.take m=l by rw[show m=l.length by omega,take_length],←E.o] at this)
      go_wp2
      go_ret
      exact⟨by rw[D.o];rfl,I,RZ.o,HU.o,R.o⟩
 ·obtain⟨q,r⟩:=zdC (S:=S) hnd
  have D:=J q
  have E:=J r
  have Z:=@J ((!decide (l.map (·.at_)).Nodup)=true) (by rw[decide_eq_false hnd];rfl)
  clear hnd q r
  go_wp2_with (go_at_call 76;refine(ZF w1 P1.o (by rw[length_map];omega)).mono ?_;rintro e w2 ⟨rfl,z⟩;rw[Z.o];have k:=J (H.o.fr0 z);have F:=J (F1.o.trans0 z);clear z)
  go_ret
  exact⟨by rw[D.o];rfl,U,by rw[E.o];exact k.o,λ_ h=>.inl h,F.o.of0⟩
end
end
section
open Go.Sort
section
variable {w0 w:World} {p:Nat} {iv:Value} {U:Nat→Prop} {S:List zh}
theorem zgU (h:RS w0 w p iv U S) (_:qg S) {v:Value} {ps:List zE} (hl:qz w v ps) (hN:ps.length+S.length≤100000):
  Calls prog 73 #[.pointer (some ⟨p,0,none⟩),v] w λe w'=>∃x,e=.returned (.tuple #[x,.int .i64 (jE S ps)])∧w'.ownsRow w.heap.size 68 33 x (JJ S ps).length ((JJ S ps).flatMap zx)∧∃U',RS w0 w' p iv U' (vu S ps)∧(∀j,U' j→U j∨w.heap.size≤j)∧Fr U w w':=by
 obtain⟨dP,uP,rP⟩:=zaa
 obtain⟨va,vc,rfl⟩:=hl.2.form
 have zc:=jI
 have zo:=yA
 have zp:=jk
 have R:=J hl
 have HR:=J h
 have aC:=Vd
 clear h hl
 go_enter Tryz.func73,Tryz.ntmps73
 go_wp2_with fail
 by_cases hnd:ps.Nodup
 ·have HD:=@J ((!decide ps.Nodup)=false) (by rw[decide_eq_true hnd];rfl)
  refine(ZF w R.o (by omega)).mono ?_
  rintro e W ⟨rfl,T⟩
  rw[HD.o]
  have ab:=J (HR.o.fr0 T)
  have F2:=J T
  clear T
  go_wp2_with fail
  go_loopw [6,21] (λov s wr=>∃n:Nat,s=.int .i64 n∧n≤ps.length∧(∀q∈ps.take n,xE S q=true)∧wr.ownsRow W.heap.size 68 33 ov n (((ps.take n).map (yj S)).flatMap zx)∧Fr No W wr) (λ_ s _=>ps.length-(intOf s).toNat)
  case atStart=>exact⟨0,rfl,zero_le _,by simp,World.ownsRow_nil _ _ _ _,Fr.refl _ _⟩
  case round=>
   obtain⟨n,rfl,hn,ai,ho,fr⟩:=hrel
   have FR:=J fr
   have NI:=J ai
   have HO:=J ho
   obtain⟨oa,oc,rfl⟩:=ho.slice.arg.form
   have K:=J (ab.o.fr0 fr)
   clear fr ai ho
   by_cases h:n<ps.length
   ·have i1:(n:Int)<(ps.length:Int):=by omega
    obtain⟨q,f⟩:∃x,ps[n]? =some x:=⟨_,getElem?_eq_getElem h⟩
    obtain⟨b,off,ae,hv,A,-⟩:=(R.o.keep (F2.o.trans0 FR.o)).at_ f
    cases hv
    have d:=J (R.o.1 q (mem_of_getElem? f))
    have a:=J (zF d.o)
    have XO:=J (vQ K.o.ok q)
    have I:=J (z6 XO.o)
    have Q1:=J A
    have RP:=J (zK wr (zi q) 72)
    have D:=J ((frN wr).alloc (.cells (zi q).toArray 72))
    have ar:=J (mem_of_getElem? f)
    have r:=@J (ps.take (n+1)=ps.take n++[q]) (by rw[take_add_one,f];rfl)
    clear A f
    cases hh:xE S q with
    |false=>
     have Y:=J hh
     have g:=@J (jE S ps=9) (by
      unfold jE
      rw[if_pos hnd,if_neg (λe=>by have:=List.all_eq_true.1 e q ar.o;rw[Y.o] at this;cases this)])
     clear hh
     go_wp2_with (first|(refine ziX rfl rfl rfl RP.o a.o ?_)|(refine ziX rfl rfl rfl Q1.o a.o ?_)|(refine ze rfl (zj (w:=wr) (cs:=zi q) (ty:=72) rfl rfl rfl (by rw[a.o];rfl) (by rw[a.o];exact yL) yB) ?_)|(go_at_call 78;refine(Yw (K.o.fr0 D.o) (by omega) d.o).mono ?_;rintro e w8 ⟨rfl,V⟩;rw[Y.o];have X:=J ((D.o.trans0 V).alloc (.cells (zx (yj S q)).toArray 68));clear V)|(refine ze rfl (zj (w:=w8) (cs:=zx (yj S q)) (ty:=68) rfl rfl rfl (by rw[I.o];rfl) (by rw[I.o];exact yW) zV) ?_))
     go_ret2
     exact⟨_,by rw[g.o];rfl,by unfold JJ;rw[if_neg (by rw[g.o];decide)];exact World.ownsRow_nil _ _ _ _,U,by unfold vu;rw[if_neg (by rw[g.o];decide)];exact K.o.fr0 X.o,λ_ h=>.inl h,((F2.o.trans0 FR.o).trans0 X.o).of0⟩
    |true=>
     have Y:=J hh
     have av:=@J (∀y∈ps.take (n+1),xE S y=true) (by
      rw[r.o]
      intro y hy
      rcases mem_append.1 hy with h|h
      ·exact NI.o y h
      ·rw[List.mem_singleton.1 h];exact Y.o)
     clear hh
     go_wp2_with (first|(refine ziX rfl rfl rfl RP.o a.o ?_)|(refine ziX rfl rfl rfl Q1.o a.o ?_)|(refine ze rfl (zj (w:=wr) (cs:=zi q) (ty:=72) rfl rfl rfl (by rw[a.o];rfl) (by rw[a.o];exact yL) yB) ?_)|(refine ziW rfl rfl rfl aw I.o ?_)|(refine zg rfl (zL (t:=22) rfl rfl vU JZ rfl (by decide) (by decide) I.o) ?_)|(at_builtin;refine zk rfl rfl rfl rfl az ?_)|(go_at_call 78;refine(Yw (K.o.fr0 D.o) (by omega) d.o).mono ?_;rintro e w8 ⟨rfl,V⟩;rw[Y.o];have aw:=zK w8 (zx (yj S q)) 68;have X:=J ((FR.o.trans0 (D.o.trans0 V)).alloc (.cells (zx (yj S q)).toArray 68));obtain⟨v9,w9,az,O,f9,-,-⟩:=yw (P:=prog) _ W.heap.size 22 22 68 33 40 _ vU Jw rfl (by decide) ((zf (HO.o.alloc (.cells (zi q).toArray 72)) V (λ_ _=>id)).alloc (.cells (zx (yj S q)).toArray 68)) (zx (yj S q)) I.o zV (by omega) (by unfold maxLen;omega) X.o.size;have F9:=J (X.o.trans f9 (λi hi e=>by have:=(HO.o.lt i e).1;omega));have an:=@J (w9.ownsRow W.heap.size 68 33 v9 (n+1) (((ps.take (n+1)).map (yj S)).flatMap zx)) (by rw[r.o];simpa using O);obtain⟨a9,k9,rfl⟩:=O.slice.arg.form;clear V O f9)|(refine ze rfl (zj (w:=w8) (cs:=zx (yj S q)) (ty:=68) rfl rfl rfl (by rw[I.o];rfl) (by rw[I.o];exact yW) zV) ?_))
     go_roundw
     case rel=>exact⟨n+1,by simp,by omega,av.o,an.o,F9.o⟩
     case measure=>show ps.length-(n+1)<ps.length-n;omega
   ·have i1:¬(n:Int)<(ps.length:Int):=by omega
    have hT:ps.take n=ps:=by rw[show n=ps.length by omega,take_length]
    have g:=@J (jE S ps=0) (by
     unfold jE
     rw[if_pos hnd,if_pos]
     rw[List.all_eq_true]
     have:=NI.o
     rwa [hT] at this)
    have OX:=@J (wr.ownsRow W.heap.size 68 33 (.slice oa n oc) (JJ S ps).length ((JJ S ps).flatMap zx)) (by
     unfold JJ
     rw[if_pos g.o,length_map]
     have:=HO.o
     rw[hT] at this
     rwa [show ps.length=n by omega])
    have ES:=@J (vu S ps=yU S ps) (by unfold vu;rw[if_pos g.o])
    have FF:=J (F2.o.trans0 FR.o)
    obtain⟨rv,hb,hs,hU,aA⟩:=K.o.ex
    obtain⟨ra,rc,rfl⟩:=hs.arg.form
    have HS:=J hs
    have HB:=J hb
    have c0:wr.cell? ⟨p,0,none⟩=some (.slice ra S.length rc):=(Qh hb).1
    have H:=J K.o.ok
    have au:=J FF.o
    have aE:=zah
    clear hT HO NI hb hs hU aA
    go_wp2_with fail
    clear c0
    obtain⟨B,hB⟩:∃B,B=wr.heap.size:=⟨_,rfl⟩
    go_loopw [11,43] (λtv s ak=>∃m:Nat,s=.int .i64 m∧m≤S.length∧ak.ownsRow B 103 66 tv (yU (S.take m) ps).length ((yU (S.take m) ps).flatMap zw)∧Fr No wr ak) (λ_ s _=>S.length-(intOf s).toNat)
    case atStart=>exact⟨0,rfl,zero_le _,World.ownsRow_nil _ _ _ _,Fr.refl _ _⟩
    case round=>
     obtain⟨m,rfl,hm,M,af⟩:=hrel
     have u:=J af
     have aa:=J M
     obtain⟨ta,tc,rfl⟩:=M.slice.arg.form
     have aD:(yU (S.take m) ps).length≤100000:=by have:=List.length_filter_le (λc:zh=> !decide (c.at_∈ps)) (S.take m);unfold yU;rw[length_take] at this;omega
     clear af M
     by_cases h2:m<S.length
     ·have i2:(m:Int)<(S.length:Int):=by omega
      obtain⟨c,f⟩:∃x,S[m]? =some x:=⟨_,getElem?_eq_getElem h2⟩
      obtain⟨b,off,ae,hv,A,-⟩:=(HS.o.keep u.o (λ_ _=>id)).elem (by decide) (λy hy=>yv (H.o y hy)) f
      cases hv
      have C:=J (H.o c (mem_of_getElem? f))
      have Q:=J (yv C.o)
      have PC:=J (zF C.o.1)
      have Q1:=J A
      have RN:=J (zK wr (zw c) 103)
      have D:=J (u.o.alloc (.cells (zw c).toArray 103))
      have ao:=J (aa.o.alloc (.cells (zw c).toArray 103))
      have r:=@J (yU (S.take (m+1)) ps=yU (S.take m) ps++(if c.at_∈ps then[] else[c])) (by
       unfold yU
       rw[take_add_one,f,List.filter_append]
       by_cases hc:c.at_∈ps<;>simp[hc])
      clear A f
      go_wp2_with (first|(refine ziY rfl rfl rfl Q1.o Q.o ?_)|(refine ze rfl (zj (w:=wr) (cs:=zw c) (ty:=103) rfl rfl rfl (by rw[Q.o];rfl) (by rw[Q.o];exact xI) yz) ?_))
      generalize aF:wr.heap.size=q0 at*
      generalize wr.alloc (.cells (zw c).toArray 103)=wa at*
      go_loopw [14,49] (λgv s aB=>∃k:Nat,s=.int .i64 k∧k≤ps.length∧gv=.bool (decide (c.at_∈ps.take k))∧Fr No wa aB) (λ_ s _=>ps.length-(intOf s).toNat)
      case atStart=>exact⟨0,rfl,zero_le _,by simp,Fr.refl _ _⟩
      case round=>
       obtain⟨k,rfl,hk,rfl,ag⟩:=hrel
       have l:=J ag
       clear ag
       by_cases h3:k<ps.length
       ·have i3:(k:Int)<(ps.length:Int):=by omega
        obtain⟨q,f⟩:∃x,ps[k]? =some x:=⟨_,getElem?_eq_getElem h3⟩
        obtain⟨b,off,ae,hv,A,-⟩:=(R.o.keep ((au.o.trans0 D.o).trans0 l.o)).at_ f
        cases hv
        have d:=J (R.o.1 q (mem_of_getElem? f))
        have a:=J (zF d.o)
        have K1:=J A
        have RQ:=J (zK wr (zi q) 72)
        have FB:=J (l.o.alloc (.cells (zi q).toArray 72))
        have ad:=J (ju (zb RN.o FB.o id))
        have G:=@J (ps.take (k+1)=ps.take k++[q]) (by rw[take_add_one,f];rfl)
        clear A f
        by_cases hin:c.at_∈ps.take k
        ·rw[decide_eq_true hin]
         have HG:=@J (decide (c.at_∈ps.take (k+1))=true) (decide_eq_true (by rw[G.o];exact mem_append.2 (.inl hin)))
         clear hin
         go_wp2_with (first|(refine ziX rfl rfl rfl K1.o a.o ?_)|(refine ze rfl (zj (w:=wr) (cs:=zi q) (ty:=72) rfl rfl rfl (by rw[a.o];rfl) (by rw[a.o];exact yL) yB) ?_))
         go_roundw
         case rel=>exact⟨k+1,by simp,by omega,by rw[HG.o],FB.o⟩
         case measure=>show ps.length-(k+1)<ps.length-k;omega
        ·rw[decide_eq_false hin]
         by_cases hcq:c.at_=q
         ·have HG:=@J (decide (c.at_∈ps.take (k+1))=true) (decide_eq_true (by rw[G.o,hcq];simp))
          clear hin
          have ax:=@J ((wr.alloc (.cells (zi q).toArray 72)).rangeAt q0 0 (zi q)) (by have:=ad.o;rwa [hcq] at this)
          go_wp2_with (first|(refine ziX rfl rfl rfl K1.o a.o ?_)|(refine ze rfl (zj (w:=wr) (cs:=zi q) (ty:=72) rfl rfl rfl (by rw[a.o];rfl) (by rw[a.o];exact yL) yB) ?_)|(refine xM (o:=⟨some 56,_,_,_,_,_⟩) rfl (ye (ty:=72) rfl rfl ax.o uP rP (by rw[a.o];exact yL)) ?_)|(refine xM (o:=⟨some 57,_,_,_,_,_⟩) rfl (ye (ty:=72) rfl rfl RQ.o uP rP (by rw[a.o];exact yL)) ?_)|(refine xM (o:=⟨some 58,_,_,_,_,_⟩) rfl (vi.exec_eql rfl rfl rfl (yF d.o) (yF d.o) true ⟨λ_=>rfl,λ_=>rfl⟩ _) ?_))
          go_roundw
          case rel=>exact⟨k+1,by simp,by omega,by rw[HG.o],FB.o⟩
          case measure=>show ps.length-(k+1)<ps.length-k;omega
         ·have HG:=@J (decide (c.at_∈ps.take (k+1))=false) (decide_eq_false (by rw[G.o];simp[hin,hcq]))
          have NE:=@J (¬(zi c.at_).toArray=(zi q).toArray) (λe=>hcq (qO (congrArg Value.agg e)))
          clear hin hcq
          go_wp2_with (first|(refine ziX rfl rfl rfl K1.o a.o ?_)|(refine ze rfl (zj (w:=wr) (cs:=zi q) (ty:=72) rfl rfl rfl (by rw[a.o];rfl) (by rw[a.o];exact yL) yB) ?_)|(refine xM (o:=⟨some 56,_,_,_,_,_⟩) rfl (ye (ty:=72) rfl rfl ad.o uP rP (by rw[PC.o];exact yL)) ?_)|(refine xM (o:=⟨some 57,_,_,_,_,_⟩) rfl (ye (ty:=72) rfl rfl RQ.o uP rP (by rw[a.o];exact yL)) ?_)|(refine xM (o:=⟨some 58,_,_,_,_,_⟩) rfl (vi.exec_eql rfl rfl rfl (yF C.o.1) (yF d.o) false ⟨λe=>(by cases e),λe=>absurd e NE.o⟩ _) ?_))
          go_roundw
          case rel=>exact⟨k+1,by simp,by omega,by rw[HG.o],FB.o⟩
          case measure=>show ps.length-(k+1)<ps.length-k;omega
       ·have i3:¬(k:Int)<(ps.length:Int):=by omega
        have aj:ps.take k=ps:=by rw[show k=ps.length by omega,take_length]
        rw[aj]
        have ay:=J (zb RN.o l.o id)
        have E:=J (zf ao.o l.o (λ_ _=>id))
        have FW:=J (D.o.trans0 l.o)
        clear aj
        by_cases hin:c.at_∈ps
        ·rw[decide_eq_true hin]
         have F:=@J (yU (S.take (m+1)) ps=yU (S.take m) ps) (by rw[r.o,if_pos hin,List.append_nil])
         clear hin
         go_wp2_with fail
         go_roundw
         case rel=>exact⟨m+1,by simp,by omega,by rw[F.o];exact E.o,FW.o⟩
         case measure=>show S.length-(m+1)<S.length-m;omega
        ·rw[decide_eq_false hin]
         have F:=@J (yU (S.take (m+1)) ps=yU (S.take m) ps++[c]) (by rw[r.o,if_neg hin])
         obtain⟨v5,w5,z,N,f5,-,-⟩:=yw (P:=prog) wr B 49 49 103 66 80 _ yQ xR rfl (by decide) E.o (zw c) Q.o yz (by omega) (by unfold maxLen;omega) (by have:=FW.o.size;omega)
         have F5:=J (FW.o.trans f5 (λi hi e=>by have:=(E.o.lt i e).1;omega))
         have al:=@J (w5.ownsRow B 103 66 v5 (yU (S.take (m+1)) ps).length ((yU (S.take (m+1)) ps).flatMap zw)) (by rw[F.o];simpa using N)
         obtain⟨a5,k5,rfl⟩:=N.slice.arg.form
         have Z:=J z
         clear hin z N f5
         go_wp2_with (first|(refine ziY rfl rfl rfl ay.o Q.o ?_)|(refine zg rfl (zL (t:=49) rfl rfl yQ qA rfl (by decide) (by decide) Q.o) ?_)|(at_builtin;refine zk rfl rfl rfl rfl Z.o ?_))
         go_roundw
         case rel=>exact⟨m+1,by simp,by omega,al.o,F5.o⟩
         case measure=>show S.length-(m+1)<S.length-m;omega
     ·have i2:¬(m:Int)<(S.length:Int):=by omega
      have ah:S.take m=S:=by rw[show m=S.length by omega,take_length]
      have L:=u.o.obj HB.o id
      have cr:wr.cell? ⟨p,0,none⟩=some (.slice ra S.length rc):=(Qh L).1
      have fz:=qZ L 0
      have aq:=@J (wr.ownsRow B 103 66 (.slice ta (yU (S.take m) ps).length tc) (yU S ps).length ((yU S ps).flatMap zw)) (by have:=aa.o;rwa [ah] at this⊢)
      clear ah L
      go_wp2_with fail
      go_ret2
      obtain⟨t1,t2,t3⟩:=K.o.turn u.o (by rw[←hB];exact aq.o) (S':=yU S ps) (λy hy=>H.o y ((jQ.1 hy).1))
      refine⟨_,by rw[g.o];rfl,qs (zf OX.o t2 (λj e hU=>?_)) F2.o.size,_,by rw[ES.o];exact t1,λj hj=>?_,FF.o.of0.trans t2 (λ_ _ h=>h)⟩
      ·have h1:=ab.o.hi j hU
       have h2:=(OX.o.lt j e).1
       omega
      ·have h1:=FF.o.size
       exact(t3 j hj).imp id (λh=>by omega)
 ·have g:=@J (jE S ps=12) (by unfold jE;rw[if_neg hnd])
  have HD:=@J ((!decide ps.Nodup)=true) (by rw[decide_eq_false hnd];rfl)
  refine(ZF w R.o (by omega)).mono ?_
  rintro e W ⟨rfl,T⟩
  rw[HD.o]
  go_wp2
  go_ret2
  exact⟨_,by rw[g.o];rfl,by unfold JJ;rw[if_neg (by rw[g.o];decide)];exact World.ownsRow_nil _ _ _ _,U,by unfold vu;rw[if_neg (by rw[g.o];decide)];exact HR.o.fr0 T,λ_ h=>.inl h,T.of0⟩
end
end
theorem zc0 {w:World} {b:Nat} (h:w.rangeAt b 0 cs) (c:cs.length=32):b<w.heap.size:=by
 have a:=h 0 _ (getElem?_eq_getElem (by omega))
 exact World.block_lt_of_cell? _ _ a
section
variable {w0 w:World} {p:Nat} {iv:Value} {U:Nat→Prop} {S:List zh}
theorem RS.turnI {c:World} (h:RS w0 w p iv U S) {V:Nat→Prop} (f:Fr V w c) (q:∀j,U j→¬V j) (o:∀j,V j→w0.heap.size≤j) (a:Value):
  RS w0 (c.setCell ⟨p,1,none⟩ a) p a U S∧Fr (λj=>V j∨j=p) w (c.setCell ⟨p,1,none⟩ a):=by
 have d:=h.lo
 have hok:=h.ok
 have n:=h.frV f q o
 obtain⟨t,r,s,rfl,g⟩:=n.ex
 have l:Fr (λj=>j=p) c (c.setCell ⟨p,1,none⟩ a):=Fr.setCell (W:=λj=>j=p) (Fr.refl _ c) ⟨p,1,none⟩ (.inr rfl) _
 have k:=heap_setCell_same c p 1 _ _ a r
 refine⟨{ex:=⟨t,by simpa using k,s.keep l (λb m e=>g (e▸m)),rfl,g⟩,lo:=d,fr:= ?_,ok:=hok},(f.mono (λ_ e=>.inl e)).trans l (λ_ _ e=>.inr e)⟩
 exact n.fr.trans l (λi hi e=>by subst e;have:=d i (.inl rfl);omega)
end
structure SX (w0 w:World) (p:Nat) (W:Nat→Prop) (S:List zh) (Ks:List zY):Prop where
 ex:∃iv U,RS w0 w p iv U S∧w.ownsRow w0.heap.size 40 32 iv Ks.length (Ks.flatMap zl)∧(∀j,iv.ownBlock=some j→¬U j)∧W=(λj=>U j∨iv.ownBlock=some j)
 kok:∀k∈Ks,xU k
 srt:qg S
def dE (Ks:List zY) (S:List zh) (t:TxD):Int:=if yM t=0 then(if idH t∈Ks then 19 else spE S t) else yM t
def zid (w0 w:World) (p:Nat) (W:Nat→Prop) (S:List zh) (Ks:List zY) (t:TxD) (e:Ending) (w':World):Prop:=
 e=.returned (.int .i64 (dE Ks S t))∧Fr W w w'∧(dE Ks S t=0→∃W',SX w0 w' p W' (spS S t) (Ks++[idH t])∧∀j,W' j→W j∨w.heap.size≤j)
theorem QR {w0 w:World} {p:Nat} {W:Nat→Prop} {S:List zh} {Ks:List zY} {t:TxD} {E:Int} (h:dE Ks S t=E) (a:E≠0):∀w',Fr W w w'→zid w0 w p W S Ks t (.returned (.int .i64 E)) w':=λw' f=>
 ⟨by rw[h],f,λe=>absurd (h.symm.trans e) a⟩
theorem zer (S:List zh) (t:TxD):xQ S (qb t)=0∨xQ S (qb t)=10:=by
 unfold xQ
 rw[if_pos (zbF t)]
 split
 ·exact .inr rfl
 ·exact .inl rfl
theorem ze9 {w0 w:World} {p:Nat} {W:Nat→Prop} {S:List zh} {Ks:List zY} (h:SX w0 w p W S Ks) (hN:S.length≤90000) (hK:Ks.length≤90000) {t:TxD} (ht:Kept W w (λw=>TxQ w t cs)):
  Calls prog 52 #[.pointer (some ⟨p,0,none⟩),.agg cs.toArray] w (zid w0 w p W S Ks t):=by
 obtain⟨iv,U,hR,hO,hd,rfl⟩:=h.ex
 obtain⟨v,y,rfl⟩:=hO.slice.arg.form
 have aq:=J h.kok
 have av:=J h.srt
 have HR:=J hR
 have HO:=J hO
 have HD:=J hd
 have HT:=J ht
 have T0:=J ht.now
 obtain⟨rv,l,-,-,-⟩:=hR.ex
 have C1:=J (Qh l).2.1
 obtain⟨Q,R,T,V,aN⟩:=ht.now.form
 subst aN
 obtain⟨dT,uT,rT⟩:=zcA
 have zH:=qt
 have F1:=J ((frN w).alloc (.cells #[.int .u32 t.ver,.slice Q t.ins.length R,.slice T t.outs.length V] 62))
 obtain⟨-,-,-,r0⟩:=qF w t.ver (.slice Q t.ins.length R) (.slice T t.outs.length V)
 have R0:=J r0
 have HC:=J (QC (w.alloc (.cells #[.int .u32 t.ver,.slice Q t.ins.length R,.slice T t.outs.length V] 62)) (T0.o.keep F1.o))
 have Z1:=@J ((w.alloc (.cells #[.int .u32 t.ver,.slice Q t.ins.length R,.slice T t.outs.length V] 62)).heap.size=w.heap.size+1) (by simp)
 have HU:=J hR.hi
 have ad:=J (λj e=>hO.lt j e)
 clear h hR hO hd ht l r0
 show Calls prog 52 #[.pointer (some ⟨p,0,none⟩),.agg #[.int .u32 t.ver,.slice Q t.ins.length R,.slice T t.outs.length V]] w _
 by_cases hck:yM t=0
 rotate_left
 ·have g:=J (QR (w0:=w0) (w:=w) (p:=p) (W:=λj=>U j∨(Value.slice v Ks.length y).ownBlock=some j) (S:=S) (Ks:=Ks) (t:=t) (E:=yM t) (by unfold dE;rw[if_neg hck]) hck)
  have jz:(yM t==0)=false:=by rw[beq_eq_false_iff_ne];exact hck
  unfold xO at HC
  clear hck
  go_enter Tryz.func52,Tryz.ntmps52
  have⟨F,G⟩:=tZ2
  go_wp2_with ((first|((with_reducible refine zt ?_);clear F;refine ziU rfl rfl rfl R0.o rfl ?_;generalize w.alloc (.cells #[.int .u32 t.ver,.slice Q t.ins.length R,.slice T t.outs.length V] 62)=w1 at*)|(clear G;go_at_call 70;refine HC.o.mono ?_;rintro e w2 ⟨rfl,f2⟩;have F2:=J (F1.o.trans0 f2);clear f2));go_frame)
  go_ret
  exact g.o _ F2.o.of0
 obtain⟨O,-,-,ay,-,aO⟩:=Qz hck
 obtain⟨ax,aw,az⟩:=qi.1 O
 have DE:=@J (dE Ks S t=if idH t∈Ks then 19 else spE S t) (by unfold dE;rw[if_pos hck])
 have af:=@J (idE t=0) (by simp[idE,O])
 have ND:=J ay
 have FM:=J O
 have L8:=J (And.intro aw az)
 have r:=J (yr (vk t))
 have ao:=J (vk t)
 have KI:=J (ZM.own (B:=w0.heap.size) HO.o aq.o)
 unfold xO at HC
 rw[hck] at HC
 clear hck O ay aO ax aw az
 go_enter Tryz.func52,Tryz.ntmps52
 have⟨F,G,K2,K3,K4⟩:=tZ5
 go_wp2_with ((first|((with_reducible refine zt ?_);first|(clear F;refine ziU rfl rfl rfl R0.o rfl ?_;generalize w.alloc (.cells #[.int .u32 t.ver,.slice Q t.ins.length R,.slice T t.outs.length V] 62)=w1 at*)|(clear K2;refine ziU rfl rfl rfl R2.o rfl ?_))|(clear G;go_at_call 70;refine HC.o.mono ?_;rintro e w2 ⟨rfl,f2⟩;have aC:=J f2;have F2:=J (F1.o.trans0 f2);have R2:=J (zb R0.o f2 id);clear f2)|(clear K3;go_at_call 18;refine(Qo (T0.o.keep F2.o)).mono ?_;rintro e Z ⟨rfl,f3⟩;rw[af.o];have aD:=J f3;have F3:=J (F2.o.trans0 f3);have R3:=J (zb R2.o f3 id);clear f3)|((with_reducible refine zr ?_);clear K4;refine zi3 (w:=Z) (cs:=zl (idH t)) rfl rfl rfl rfl r.o zX ?_));go_frame)
 have F4:=@J (Fr No w (Z.alloc (.cells (zl (idH t)).toArray 40)).drew) ((F3.o.alloc _).drew)
 have H4:=J (zb (zK Z (zl (idH t)) 40) (frN _).drew id)
 have R4:=J (zb R3.o (((frN Z).alloc (.cells (zl (idH t)).toArray 40)).drew) id)
 have Q4:=@J (w.heap.size+1≤Z.heap.size) (by have:=aC.o.size;have:=Z1.o;have h3:=aD.o.size;omega)
 refine wrLx [ff,ff,ff,ff,ff,tt] (λw'=>w'.cell? ⟨p,1,none⟩=some (.slice v Ks.length y)∧w'.rangeAt Z.heap.size 0 (zl (idH t))) ?_ (λK hK=>?_)
 ·exact⟨F4.o.cell C1.o id,H4.o⟩
 generalize (Z.alloc (.cells (zl (idH t)).toArray 40)).drew=w4 at*
 generalize Z.heap.size=q4 at*
 repeat((first|(refine zn rfl ?_;constructor;constructor;(focus(first|exact zi0 rfl (λw h=>h.2) r.o|(rintro w' ⟨Y,s2⟩;exact goS))))|(refine zq rfl ?_));try simp only[Act.put,pA,pB,pC])
 (refine zN rfl (λK' hK'=>?_))
 go_simp
 refine(zae w4 (KI.o.keep F4.o) ao.o (by omega)).mono ?_
 rintro e w5 ⟨rfl,f5⟩
 have F5:=J (F4.o.trans0 f5)
 have H5:=J (zb H4.o f5 id)
 have R5:=J (zb (zb R4.o f5 id) (frN w5).drew id)
 have aa:=J (F5.o.drew)
 have aF:=J (zb H5.o (frN w5).drew id)
 clear f5
 refine nXt hK' ?_ λhS=>?_
 ·exact⟨F5.o.cell C1.o id,H5.o⟩
 try simp only[Act.put,pA,pB,pC]
 repeat((first|(refine zn rfl ?_;constructor;constructor;(focus(first|(rintro w' ⟨Y,s2⟩;exact goS))))|(refine zq rfl ?_));try simp only[Act.put,pA,pB,pC])
 refine zZ (hK.out _ _ ?_)
 by_cases hin:idH t∈Ks
 ·rw[decide_eq_true hin]
  have g:=J (QR (w0:=w0) (w:=w) (p:=p) (W:=λj=>U j∨(Value.slice v Ks.length y).ownBlock=some j) (S:=S) (Ks:=Ks) (t:=t) (E:=19) (by rw[DE.o,if_pos hin]) (by decide))
  clear hin
  go_wp2
  go_ret
  exact g.o _ F5.o.of0
 rw[decide_eq_false hin]
 rw[if_neg hin] at DE
 clear hin
 go_wp2_with fail
 refine wrLx [ff,ff,ff,ff,tt,ff,ff,ff,ff,ff] (λw'=>w'.rangeAt w.heap.size 0 [.int .u32 t.ver,.slice Q t.ins.length R,.slice T t.outs.length V]) ?_ (λK hK=>?_)
 ·exact R5.o
 generalize w5.drew=aS at*
 repeat((first|(refine zn rfl ?_;constructor;constructor;(focus(first|exact yY (ty:=62) rfl (λw h=>h) uT rT qN|(rintro w' Y;exact goS))))|(refine zq rfl ?_));try simp only[Act.put,pA,pB,pC])
 (refine zN rfl (λK' hK'=>?_))
 go_simp
 refine(zcZ (HR.o.fr0 aa.o) (by omega) (T0.o.keep aa.o) (by have:=L8.o;omega)).mono ?_
 rintro e w6 ⟨v6,rfl,o6,f6⟩
 have F6:=J (aa.o.trans0 f6)
 have H6:=J (zb aF.o f6 id)
 have R6:=J (zb R5.o f6 id)
 have O6:=J o6
 clear f6 o6
 refine nXt hK' ?_ λhS=>?_
 ·exact R6.o
 try simp only[Act.put,pA,pB,pC]
 repeat((first|(refine zn rfl ?_;constructor;constructor;(focus(first|(rintro w' Y;exact goS))))|(refine zq rfl ?_));try simp only[Act.put,pA,pB,pC])
 refine zZ (hK.out _ _ ?_)
 by_cases hall:(yI t).all (xE S)=true
 rotate_left
 ·have h2:(yI t).all (xE S)=false:=by simpa using hall
  have g:=J (QR (w0:=w0) (w:=w) (p:=p) (W:=λj=>U j∨(Value.slice v Ks.length y).ownBlock=some j) (S:=S) (Ks:=Ks) (t:=t) (E:=15) (by rw[DE.o];unfold spE;rw[if_neg hall]) (by decide))
  rw[h2]
  clear hall h2
  go_wp2
  go_ret
  exact g.o _ F6.o.of0
 have aK:=J (O6.o hall)
 have o:=@J (dE Ks S t=if jo t (qX S t)=0 then(if xQ (yU S (yI t)) (qb t)=0 then 0 else 10) else jo t (qX S t)) (by rw[DE.o];unfold spE;rw[if_pos hall])
 obtain⟨aA,aB⟩:=VA ND.o hall
 have TK:=J (And.intro aA aB)
 rw[hall]
 clear hall aA aB O6
 have au:=@J (xA w6 v6 (qX S t)) (⟨zbS HR.o.ok t,aK.o.slice.arg⟩)
 have OF:=J (zfv (T0.o.keep F6.o) au.o (by rw[Zf];have:=L8.o;omega))
 by_cases hfe:jo t (qX S t)=0
 rotate_left
 ·have g:=J (QR (w0:=w0) (w:=w) (p:=p) (W:=λj=>U j∨(Value.slice v Ks.length y).ownBlock=some j) (S:=S) (Ks:=Ks) (t:=t) (E:=jo t (qX S t)) (by rw[o.o,if_neg hfe]) hfe)
  have jz:(jo t (qX S t)==0)=false:=by rw[beq_eq_false_iff_ne];exact hfe
  unfold Qu at OF
  clear hfe
  have⟨F,G⟩:=tZ2
  go_wp2_with ((first|((with_reducible refine zt ?_);clear F;refine ziU rfl rfl rfl R6.o rfl ?_)|(clear G;go_at_call 72;refine OF.o.mono ?_;rintro e w7 ⟨rfl,f7⟩;have F7:=J (F6.o.trans0 f7);clear f7));go_frame)
  go_ret
  exact g.o _ F7.o.of0
 unfold Qu at OF
 rw[hfe] at OF
 rw[if_pos hfe] at o
 clear hfe
 have⟨F,G⟩:=tZ2
 go_wp2_with ((first|((with_reducible refine zt ?_);clear F;refine ziU rfl rfl rfl R6.o rfl ?_)|(clear G;go_at_call 72;refine OF.o.mono ?_;rintro e w7 ⟨rfl,f7⟩;have F7:=J (F6.o.trans0 f7).drew;have H7:=J (zb (zb H6.o f7 id) (frN w7).drew id);have R7:=J (zb (zb R6.o f7 id) (frN w7).drew id);clear f7));go_frame)
 refine wrLx [ff,ff,ff,ff,tt,tt] (λw'=>w'.rangeAt w.heap.size 0 [.int .u32 t.ver,.slice Q t.ins.length R,.slice T t.outs.length V]) ?_ (λK hK=>?_)
 ·exact R7.o
 generalize w7.drew=aQ at*
 repeat((first|(refine zn rfl ?_;constructor;constructor;(focus(first|exact yY (ty:=62) rfl (λw h=>h) uT rT qN|(rintro w' Y;exact goS))))|(refine zq rfl ?_));try simp only[Act.put,pA,pB,pC])
 (refine zN rfl (λK' hK'=>?_))
 go_simp
 refine(Qd aQ (T0.o.keep F7.o) (by have:=L8.o;omega)).mono ?_
 rintro e w8 ⟨v8,rfl,o8,f8⟩
 have F8:=J (F7.o.trans0 f8)
 have H8:=J (zb H7.o f8 id)
 have R8:=J (zb R7.o f8 id)
 have P8:=J (XG (S:=yI t) (by rw[Xg];exact o8) (λq hq=>by
  obtain⟨x,hx,rfl⟩:=List.mem_map.1 hq
  exact T0.o.oks.1 x hx))
 clear o8 f8
 refine nXt hK' ?_ λhS=>?_
 ·exact R8.o
 try simp only[Act.put,pA,pB,pC]
 repeat((first|(refine zn rfl ?_;constructor;constructor;(focus(first|(rintro w' Y;exact goS))))|(refine zq rfl ?_));try simp only[Act.put,pA,pB,pC])
 (refine zN rfl (λK' hK'=>?_))
 go_simp
 refine(zgU (HR.o.fr0 F8.o) av.o P8.o (by rw[Xg];have:=L8.o;omega)).mono ?_
 rintro e w9 ⟨x9,rfl,-,U9,r9,h9,f9⟩
 rw[TK.o.2] at r9
 have F9:=@J (Fr U w w9) (F8.o.of0.trans f9 (λ_ _ e=>e))
 have H9:=J (zb H8.o f9 (λe=>by have:=HU.o _ e;have:=Q4.o;omega))
 have R9:=J (zb R8.o f9 (λe=>by have:=HU.o _ e;omega))
 have S9:=J r9
 have ae:=@J (∀j,U9 j→U j∨w.heap.size≤j) (λj e=>(h9 j e).imp id (λe=>by have:=F8.o.size;omega))
 have aG:=@J (¬U9 q4) (λe=>(h9 _ e).elim (λe=>by have:=HU.o _ e;have:=Q4.o;omega) (λe=>by have:=zc0 H8.o r.o;omega))
 clear r9 h9 f9
 refine nXt hK' ?_ λhS=>?_
 ·exact R9.o
 try simp only[Act.put,pA,pB,pC]
 repeat((first|(refine zn rfl ?_;constructor;constructor;(focus(first|(rintro w' Y;exact goS))))|(refine zq rfl ?_));try simp only[Act.put,pA,pB,pC])
 refine zZ (hK.out _ _ ?_)
 rw[TK.o.1]
 have aE:=J (F9.o.mono (λ(j:Nat) (e:U j)=>(Or.inl e:U j∨(Value.slice v Ks.length y).ownBlock=some j)))
 have CN:=J (zcu (HT.o w9 aE.o))
 have ML:=J (Yv t)
 have ar:=J (Vg (t:=t) T0.o.oks.2 (by have:=L8.o;omega))
 by_cases hpu:xQ (yU S (yI t)) (qb t)=0
 rotate_left
 ·have g:=J (QR (w0:=w0) (w:=w) (p:=p) (W:=λj=>U j∨(Value.slice v Ks.length y).ownBlock=some j) (S:=S) (Ks:=Ks) (t:=t) (E:=10) (by rw[o.o,if_neg hpu]) (by decide))
  have aM:=J ((zer (yU S (yI t)) t).resolve_left hpu)
  clear hpu
  have⟨F,G,K2⟩:=tZ3
  go_wp2_with ((first|((with_reducible refine zt ?_);clear F;refine ziU rfl rfl rfl R9.o rfl ?_)|(clear G;go_at_call 75;refine CN.o.mono ?_;rintro e aj ⟨ai,rfl,i,d⟩;rw[af.o];rw[if_pos FM.o] at d;have CS:=@J (∀w',Fr U9 aj w'→xz w' ai (qb t)) (λw' f=>⟨ar.o,by rw[ML.o];exact(zf d f (λb l e=>by have:=(d.lt b l).1;have:=S9.o.hi b e;omega)).slice.arg⟩);have ag:=J (S9.o.fr0 i);have M:=J (F9.o.trans0 i);have an:=J (zb H9.o i id);obtain⟨xa,xc,rfl⟩:=d.slice.arg.form;clear i d)|(clear K2;go_at_call 53;refine(zc2 ag.o CS.o (by rw[ML.o];have:=L8.o;have:=List.length_filter_le (λc:zh=> !decide (c.at_∈yI t)) S;unfold yU;omega)).mono ?_;rintro e C ⟨rfl,s,L,I,H⟩;rw[aM.o];have ah:=J L;have X:=J I;have N:=J H;clear L I H));go_frame)
  go_ret
  exact g.o _ ((M.o.trans N.o (λj hj e=>(ae.o j e).resolve_right (by omega))).mono (λj e=>.inl e))
 have PU:=J hpu
 rw[if_pos hpu] at o
 clear hpu
 have⟨F,G,K2⟩:=tZ3
 go_wp2_with ((first|((with_reducible refine zt ?_);clear F;refine ziU rfl rfl rfl R9.o rfl ?_)|(clear G;go_at_call 75;refine CN.o.mono ?_;rintro e aj ⟨ai,rfl,i,d⟩;rw[af.o];rw[if_pos FM.o] at d;have CS:=@J (∀w',Fr U9 aj w'→xz w' ai (qb t)) (λw' f=>⟨ar.o,by rw[ML.o];exact(zf d f (λb l e=>by have:=(d.lt b l).1;have:=S9.o.hi b e;omega)).slice.arg⟩);have ag:=J (S9.o.fr0 i);have M:=J (F9.o.trans0 i);have an:=J (zb H9.o i id);obtain⟨xa,xc,rfl⟩:=d.slice.arg.form;clear i d)|(clear K2;go_at_call 53;refine(zc2 ag.o CS.o (by rw[ML.o];have:=L8.o;have:=List.length_filter_le (λc:zh=> !decide (c.at_∈yI t)) S;unfold yU;omega)).mono ?_;rintro e C ⟨rfl,s,L,I,H⟩;rw[PU.o];have ah:=J L;have X:=J I;have N:=J H;clear L I H));go_frame)
 rw[show qQ (yU S (yI t)) (qb t)=spS S t by unfold qQ spS;rw[if_pos PU.o,if_pos (by rw[←DE.o];exact o.o)]] at ah
 have D:=@J (Fr U w C.drew) ((M.o.trans N.o (λj hj e=>(ae.o j e).resolve_right (by omega))).drew)
 have a:=J (ah.o.fr0 (frN C).drew)
 have ab:=J (zb (zb an.o N.o (λe=>aG.o e)) (frN C).drew id)
 have m:=@J (∀j,s j→U j∨w.heap.size≤j) (λj e=>(X.o j e).elim (ae.o j) (λe=>by have:=M.o.size;exact .inr (by omega)))
 have al:=@J (C.drew.cell? ⟨p,1,none⟩=some (.slice v Ks.length y)) (by obtain⟨rv,l,-⟩:=a.o.ex;exact(Qh l).2.1)
 have aJ:=J (zf HO.o D.o (λb l e=>HD.o b l e))
 have NI:=@J (∀j,s j→¬(Value.slice v Ks.length y).ownBlock=some j) (λj e h=>(m.o j e).elim (HD.o j h) (λe=>by have:=(ad.o j h).2;omega))
 have aI:=@J (∀j,(Value.slice v Ks.length y).ownBlock=some j→w0.heap.size≤j) (λj h=>(ad.o j h).1)
 have PU:=@J (s p) (by obtain⟨rv,l,-,hU,-⟩:=a.o.ex;rw[hU];exact .inl rfl)
 refine yD [ff,ff,ff,ff,ff,ff,tt,tt,ff,ff,tt] (λw'=>w'.cell? ⟨p,1,none⟩=some (.slice v Ks.length y)∧w'.rangeAt q4 0 (zl (idH t))) (by kernel_rfl) (by kernel_rfl) 10 (by kernel_rfl) (by kernel_rfl) ?_ (λK hK=>?_)
 ·exact⟨al.o,ab.o⟩
 generalize C.drew=ak at*
 obtain⟨v5,n,a1,a2,a3,-,a5⟩:=yw (P:=prog) ak w0.heap.size 52 52 40 32 32 _ jS qW (by show(zl z7).toArray.size=32;rfl) (by decide) aJ.o (zl (idH t)) r.o zX (by omega) (by unfold maxLen;omega) a.o.fr.size
 obtain⟨z,A,aP⟩:=a2.slice.arg.form
 subst aP
 have A1:=J a1
 obtain⟨t1,t2⟩:=a.o.turnI a3 NI.o aI.o (.slice z (Ks.length+1) A)
 have T1:=J t1
 have T2:=J t2
 have C5:=@J (n.cell? ⟨p,1,none⟩=some (.slice v Ks.length y)) (by obtain⟨rv,l,-⟩:=a.o.ex;exact(Qh (a3.obj l (NI.o p PU.o))).2.1)
 have fz:n.frozen? ⟨p,1,none⟩=false:=by obtain⟨rv,l,-⟩:=a.o.ex;exact(Qh (a3.obj l (NI.o p PU.o))).2.2.2
 have aL:=J (zb ab.o a3 (λe=>by have:=(ad.o _ e).2;have:=Q4.o;omega))
 have fs:Fr (λj=>j=p) n (n.setCell ⟨p,1,none⟩ (.slice z (Ks.length+1) A)):=(Fr.refl (λj=>j=p) n).setCell ⟨p,1,none⟩ (.inr rfl) _
 have IP:=@J (∀j,(Value.slice z (Ks.length+1) A).ownBlock=some j→¬s j) (λj e u=>(a5 j e).elim (NI.o j u) (λh=>by have:=a.o.hi j u;omega))
 have O5:=@J ((n.setCell ⟨p,1,none⟩ (.slice z (Ks.length+1) A)).ownsRow w0.heap.size 40 32 (.slice z (Ks.length+1) A) (Ks++[idH t]).length ((Ks++[idH t]).flatMap zl)) (by
  have h1:=zf a2 fs (λb l e=>IP.o b l (by rw[e];exact PU.o))
  rw[List.length_append,List.flatMap_append]
  simpa using h1)
 have A5:=J a5
 have aH:=@J (∀w',Fr No ak w'→w'.cell? ⟨p,1,none⟩=some (.slice v Ks.length y)∧w'.rangeAt q4 0 (zl (idH t))) (λw' f=>⟨f.cell al.o _root_.id,zb ab.o f _root_.id⟩)
 clear a1 a2 a3 a5 fs t1 t2
 repeat((first|(refine ym rfl ?_;constructor;constructor;(focus(first|exact zi0 rfl (λw h=>h.2) r.o|(rintro w' ⟨Y,s2⟩;exact goS))))|(refine yn rfl ?_));try simp only[Act.put,pA,pB,pC])
 (refine yf rfl (λK' hK'=>?_))
 refine yg (zL (t:=52) rfl rfl jS Va rfl (by decide) (by decide) r.o) ?_
 refine hK'.out _ _ (λ_=>?_) (λhS=>?_)
 ·exact aH.o _ ((frN ak).alloc _)
 try simp only[Act.put,pA,pB,pC]
 (refine yf rfl (λK' hK'=>?_))
 refine zQ rfl rfl rfl A1.o ?_
 refine hK'.out _ _ (λ_=>?_) (λhS=>?_)
 ·exact⟨C5.o,aL.o⟩
 try simp only[Act.put,pA,pB,pC]
 repeat((first|(refine ym rfl ?_;constructor;constructor;(focus(first|(rintro w' ⟨Y,s2⟩;exact goS))))|(refine yn rfl ?_));try simp only[Act.put,pA,pB,pC])
 (refine yf rfl (λK' hK'=>?_))
 go_simp
 refine hK'.out _ _ (λh=>absurd rfl h) (λhS=>?_)
 refine qp (hK.out _ _ ?_)
 clear fz
 generalize n.setCell ⟨p,1,none⟩ (.slice z (Ks.length+1) A)=aR at*
 go_wp2
 go_ret
 refine⟨by rw[o.o];rfl,(D.o.mono (λj e=>.inl e)).trans T2.o (λj hj e=>e.elim (λe=>.inr e) (λe=>.inl (by rw[e];exact(m.o p PU.o).resolve_right (by omega)))),λ_=>⟨_,⟨⟨_,s,T1.o,O5.o,IP.o,rfl⟩,λk hk=>?_,zdF av.o t⟩,λj e=>?_⟩⟩
 ·rcases mem_append.1 hk with hk|hk
  ·exact aq.o k hk
  ·rw[List.mem_singleton.1 hk];exact ao.o
 ·rcases e with e|e
  ·exact(m.o j e).imp .inl id
  ·exact(A5.o j e).imp .inr (λh=>by have:=D.o.size;omega)
end Go.Proofs.YtmpamcnlineceaaGreatDoor
