/- pappuslaw11.ChainActs. -/
import Derived.Test.YtmpamcnlineceaaGreatDoorZG21
import Derived.Test.YtmpamcnlineceaaGreatDoorZG13
set_option linter.unusedVariables false
set_option linter.unusedSimpArgs false
set_option linter.unnecessarySimpa false
set_option linter.all false
set_option maxRecDepth 20000
set_option maxHeartbeats 16000000
namespace Go.Proofs.YtmpamcnlineceaaGreatDoor
open Go Go.RowKit Go.Maps Go.MapKept
open Go.Proofs.Tryz(prog)
open Nat(zero_le)
variable {a b q:Nat} {w w' w0:World}
structure zhc (w0 w:World) (pc pm:Nat) (V U:Nat→Prop) (F:List yk) (bs:List zU) (S:List zh) (css:List (List Value)):Prop where
 c:CX w0 w pc V (λj=>j=pm) (xP z7 F) S bs css
 m:RCh w0 w pm U F bs S
 sep:∀j,V j→¬U j
def Xr (w0 w:World) (pc pm:Nat) (F:List yk) (bs:List zU) (S:List zh):Prop:=∃V U css,zhc w0 w pc pm V U F bs S css
theorem Xr.fr0 {F:List yk} {bs:List zU} {S:List zh} (h:Xr w0 w a b F bs S) (f:Fr No w w'):Xr w0 w' a b F bs S:=by
 obtain⟨V,U,css,h⟩:=h
 exact⟨V,U,css,h.c.frV f (λ_ _=>id) (λ_ h=>h.elim) (λ_ h=>h.elim) (λ_ _ h=>h),h.m.fr0 f,h.sep⟩
theorem Xr.fr {F:List yk} {bs:List zU} {S:List zh} (h:Xr w0 w a b F bs S):Fr No w0 w:=by
 obtain⟨V,U,css,h⟩:=h
 exact h.m.fr
theorem zba {Ks:List zY} {S:List zh} {bs:List zU} {b:y7} (a:bs.length≤1000):jb Ks S bs b=blE Ks S b:=by
 unfold jb blE
 rw[if_neg (by omega)]
def zaD (bs:List zU) (S:List zh) (b:y7):List zU:=JV (zJ bs) S bs b
def ze0 (bs:List zU) (S:List zh) (b:y7):List zh:=YE (zJ bs) S bs b
def YZ (w0 w:World) (pc pm:Nat) (F:List yk) (bs:List zU) (S:List zh) (q:Nat):Prop:=∃V U css,zhc w0 w pc pm V U F bs S css∧∀j,V j∨U j→j≠q
theorem YZ.at_ {F:List yk} {bs:List zU} {S:List zh} (h:YZ w0 w a b F bs S q):Xr w0 w a b F bs S:=by
 obtain⟨V,U,css,h,-⟩:=h
 exact⟨V,U,css,h⟩
theorem Xr.own {F:List yk} {bs:List zU} {S:List zh} (h:Xr w0 w a b F bs S) (f:Fr No w w'):YZ w0 w' a b F bs S w.heap.size:=by
 obtain⟨V,U,css,h⟩:=h
 refine⟨V,U,css,⟨h.c.frV f (λ_ _=>id) (λ_ h=>h.elim) (λ_ h=>h.elim) (λ_ _ h=>h),h.m.fr0 f,h.sep⟩,λj e=>?_⟩
 rcases e with e|e
 ·have:=h.c.g.hi j e;omega
 ·have:=h.m.hi j e;omega
theorem YZ.fr0 {F:List yk} {bs:List zU} {S:List zh} (h:YZ w0 w a b F bs S q) (f:Fr No w w'):YZ w0 w' a b F bs S q:=by
 obtain⟨V,U,css,h,c⟩:=h
 exact⟨V,U,css,⟨h.c.frV f (λ_ _=>id) (λ_ h=>h.elim) (λ_ h=>h.elim) (λ_ _ h=>h),h.m.fr0 f,h.sep⟩,c⟩
theorem ze1 (A:jM w0) {m a q:Nat} {F:List yk} {bs:List zU} {S:List zh} (h:YZ w0 w m a F bs S q) (D:q<w.heap.size) (C:bs.length≤100) {b:y7} {cs:List Value} (s:xT w0 b cs):
  Calls prog 10 #[.pointer (some ⟨m,0,none⟩),.agg cs.toArray] w λe w'=>e=.returned (.int .i64 (blE (zJ bs) S b))∧Fr (λj=>j≠q) w w'∧
   Calls prog 11 #[.pointer (some ⟨a,0,none⟩),.agg cs.toArray] w' λe n=>e=.returned (.int .i64 (blE (zJ bs) S b))∧Fr (λj=>j≠q) w' n∧YZ w0 n m a F (zaD bs S b) (ze0 bs S b) q:=by
 obtain⟨V,U,css,h,g⟩:=h
 have k:∀j,V j→w0.heap.size≤j:=h.c.g.lo
 refine(zhu A h.c (X':=λj=>j=a) (λj e=>by rw[e];exact h.m.hi a h.m.up) (λ_ e=>e) (by omega) (s.keep h.m.fr)).mono ?_
 rintro e w' ⟨rfl,f,V',d,r,t⟩
 have B:RCh w0 w' a U F bs S:=h.m.frV f (λj u v=>h.sep j v u) k
 have c:∀j,V' j→¬U j:=λj v u=>(r j v).elim (λv=>h.sep j v u) (λe=>by have:=h.m.hi j u;omega)
 have l:∀j,V' j→j<w'.heap.size:=t.g.hi
 refine⟨by rw[zba (by omega)],f.mono (λj e=>g j (.inl e)),(zcw B (by omega) s).mono ?_⟩
 rintro e n ⟨rfl,o,x,y,z,p⟩
 have i:=t.frV o (λj v e=>c j v (by rw[e];exact h.m.up)) (λj e=>by rw[e];exact h.m.lo a h.m.up) (λ_ e=>e) (λ_ _ e=>e)
 refine⟨rfl,o.mono (λj e=>by rw[e];exact g a (.inr h.m.up)),V',x,d,⟨i,?_,λj v u=>(p j u).elim (c j v) (λe=>by have:=l j v;omega)⟩,λj e=>?_⟩
 ·unfold zaD ze0 JV YE
  rw[zba (by omega)]
  by_cases hE:blE (zJ bs) S b=0
  ·rw[if_pos hE,if_pos hE]
   exact y hE
  ·rw[if_neg hE,if_neg hE]
   exact z hE
 ·rcases e with e|e
  ·exact(r j e).elim (λe=>g j (.inl e)) (λe=>by omega)
  ·exact(p j e).elim (λe=>g j (.inr e)) (λe=>by have:=f.size;omega)
theorem zcx (bs:List zU) (S:List zh) (b:y7):(zaD bs S b).length≤bs.length+1:=by
 unfold zaD JV
 split
 ·simp
 ·omega
theorem zdY {F:List yk} {S:List zh} (h:Xr w0 w a b F [] S):
  Calls prog 12 #[.pointer (some ⟨a,0,none⟩)] w λe w'=>e=.returned (.tuple #[.agg xY.toArray,.int .i64 9])∧Fr No w w':=by
 obtain⟨V,U,css,h⟩:=h
 exact zgt h.c.g
theorem zdZ {F:List yk} {S:List zh} (h:Xr w0 w b a F [] S):
  Calls prog 13 #[.pointer (some ⟨a,0,none⟩)] w λe w'=>e=.returned (.tuple #[.agg xY.toArray,.int .i64 9])∧Fr No w w':=by
 obtain⟨V,U,css,h⟩:=h
 exact zbn h.m
theorem ze8 {x c q:Nat} {F:List yk} {bs:List zU} {d:zU} {S:List zh} (h:YZ w0 w x c F (bs++[d]) S q) (G:q<w.heap.size) (E:bs.length≤100):
  Calls prog 12 #[.pointer (some ⟨x,0,none⟩)] w λe w'=>∃bcs,e=.returned (.tuple #[.agg bcs.toArray,.int .i64 0])∧xT w' d.blk bcs∧Fr (λj=>j≠q) w w'∧∀n,Fr No w' n→
   Calls prog 13 #[.pointer (some ⟨c,0,none⟩)] n λe g=>∃a,e=.returned (.tuple #[.agg a.toArray,.int .i64 0])∧xT g d.blk a∧xT g d.blk bcs∧(∃S',YZ w0 g x c F bs S' q)∧Fr (λj=>j<w.heap.size∧j≠q) n g:=by
 obtain⟨V,U,css,h,m⟩:=h
 have r:∀j,V j→w0.heap.size≤j:=h.c.g.lo
 refine(zhy h.c (by omega)).mono ?_
 rintro e w' ⟨bcs,V',i,rfl,f,l,C,A⟩
 have D:RCh w0 w' c U F (bs++[d]) S:=h.m.frV f (λj u v=>h.sep j v u) r
 refine⟨bcs,rfl,A.now,f.mono (λj e=>m j (.inl e)),λn k=>(zcB (D.fr0 k) (by omega)).mono ?_⟩
 rintro e g ⟨a,rfl,s,o,y,S',p,z⟩
 have b:=(C.frV k (λ_ _=>id) (λ_ h=>h.elim) (λ_ h=>h.elim) (λ_ _ h=>h)).frV o (λj v e=>h.sep j (l j v) (by rw[e];exact h.m.up)) (λj e=>by rw[e];exact h.m.lo c h.m.up) (λ_ e=>e) (λ_ _ e=>e)
 have B:qh d.chg S=S':=by rw[b.gd.1.eqS,p.hist.eqS]
 rw[B] at b
 have t:∀j,y j→¬V' j:=λj u v=>(z j u).elim (λu=>h.sep j (l j v) u) (λe=>by have:=h.c.g.hi j (l j v);have:=f.size;have:=k.size;omega)
 refine⟨a,rfl,s.keep p.fr,A g ((k.of0).trans o (λj _ e=>.inr e)),⟨S',V',y,i,⟨b,p,λj v u=>t j u v⟩,λj e=>?_⟩,o.mono (λj e=>by rw[e];exact⟨h.m.hi c h.m.up,m c (.inr h.m.up)⟩)⟩
 rcases e with e|e
 ·exact m j (.inl (l j e))
 ·exact(z j e).elim (λe=>m j (.inr e)) (λe=>by have:=f.size;have:=k.size;omega)
theorem zeB {w k l:World} {g h:Nat} {V U:Nat→Prop} {F:List yk} (c:Gd w k g V (qP [] (xP z7 F)) (qP [] (xP z7 F)) []) (b:RCh k l h U F [] (xP z7 F)):Xr w l g h F [] (xP z7 F):=by
 rw[zaO] at c
 have e:=c.fr0 b.fr
 obtain⟨css,z⟩:=e.x
 obtain⟨fv,m,n,A,f,o,p,q,r,s,B,t,x,y⟩:=b.ex
 refine⟨V,U,css,⟨z,c.srt0,c.ok0,c.len0,λi d cs a _=>by simp at a⟩,{ex:=⟨fv,m,n,A,f,o,p,q,r,s,(λi d cs a _=>by simp at a),t,x,y⟩,up:=b.up,lo:= ?_,hi:=b.hi,fr:=e.fr,fok:=b.fok,fl:=b.fl,hist:=b.hist},λj v u=>?_⟩
 ·intro j u
  have:=b.lo j u
  have:=c.fr.size
  omega
 ·have:=b.lo j u
  have:=c.hi j v
  omega
theorem YZ.blk {f g q:Nat} {F:List yk} {bs:List zU} {d:zU} {S:List zh} (h:YZ w0 w f g F (bs++[d]) S q):d.blk.pay.length≤1000∧d.blk.txs.length≤1000∧∀t∈d.blk.txs,t.ins.length≤1000∧t.outs.length≤1000:=by
 obtain⟨V,U,css,h,-⟩:=h
 obtain⟨a,b,c⟩:=Ji (h.m.good.ds d (by simp)).2.2.2.2.2
 exact⟨by omega,by omega,λt e=>by have:=zdq (c t e);omega⟩
theorem zeS (w:World):xT w ⟨0,[],[]⟩ xY:=⟨none,0,none,0,rfl,⟨by decide,by decide⟩,⟨(λx a=>by cases a),.inl (.inl ⟨rfl,rfl,rfl⟩)⟩,xB.nil⟩
theorem zfq {α:Type} (l:List α):l=[]∨∃k x,l=k++[x]:=by
 by_cases h:l=[]
 ·exact .inl h
 ·exact .inr ⟨l.dropLast,l.getLast h,(List.dropLast_concat_getLast h).symm⟩
theorem zeQ {b:y7} {g a:Option Addr} {j c:Nat} (h:xT w b [.int .u64 b.tag,.slice g b.pay.length j,.slice a b.txs.length c]):YD w (.slice a b.txs.length c) b.txs:=by
 obtain⟨i,k,l,m,e,_,_,f⟩:=h
 simp only[zdN,List.cons.injEq,and_true] at e
 obtain⟨-,-,d⟩:=e
 injection d with e21 _ e23
 subst e21;subst e23
 exact f
theorem zgk {k x:Int} {a b:Option Addr} {n c m d:Nat}:∀u∈[Value.int .i64 k,.int .u64 x,.slice a n c,.slice b m d],u.oneCell'=true:=by
 intro u e
 simp only[List.mem_cons,List.not_mem_nil,or_false] at e
 rcases e with rfl|rfl|rfl|rfl<;>rfl
theorem zc1 {x:Value} {cs:List Value} (h:w.rangeAt b 0 (x::cs)):w.rangeAt b 1 cs:=λj v a=>by
 have:=h (j+1) v (by simpa using a)
 rwa [show 0+(j+1)=1+j by omega] at this
theorem za3 (hg:jM w) {fv lv:Value} {F:List yk} {L:List YC} (hf:xA w fv F) (hl:JT w lv L):
  Calls prog 3 #[fv,lv] w λe w'=>e=.returned (.bool true)∧Fr No w w':=by
 have HG:=J hg
 have HF:=J hf
 have HL:=J hl
 obtain⟨fa,fc,rfl⟩:=hf.2.form
 obtain⟨la,lc,rfl⟩:=hl.form
 obtain⟨dB,uB,rB⟩:=Y3
 obtain⟨dA,uA,rA⟩:=V9
 have zB:=jY
 have zH:=qt
 have zT:=Xq
 have zA:=zax
 have AL:=J (zcn hg)
 have GT:=J (λ(w':World) (f:Fr No w w')=>zbt w' (hf.keep f) (hl.keep0 f))
 clear hg hf hl
 by_cases hgt:vj F L=true
 ·have EG:=@J ((if vj F L=true then(1:Int) else 0)=1) (by rw[if_pos hgt])
  clear hgt
  go_enter Tryz.func3,Tryz.ntmps3
  have⟨p,r⟩:=tZ2
  go_wp2_with ((first|(clear p;go_at_call 4;refine AL.o.mono ?_;rintro e w2 ⟨rfl,f2⟩;have Z:=J f2;clear f2)|(clear r;go_at_call 5;refine(GT.o w2 Z.o).mono ?_;rintro e w3 ⟨rfl,f3⟩;rw[EG.o];have F3:=J (Z.o.trans0 f3);clear f3));go_frame)
  go_ret
  exact⟨rfl,F3.o⟩
 have EG:=@J ((if vj F L=true then(1:Int) else 0)=0) (by rw[if_neg hgt])
 obtain⟨g1,g2,g3⟩:=zbu (show vj F L=false by simpa using hgt)
 clear hgt
 by_cases h256:256<F.length
 ·have i:=J h256
  clear h256
  go_enter Tryz.func3,Tryz.ntmps3
  have⟨p,r,y,z⟩:=tZ4
  go_wp2_with ((first|(clear p;go_at_call 4;refine AL.o.mono ?_;rintro e w2 ⟨rfl,f2⟩;have Z:=J f2;clear f2)|(clear r;go_at_call 5;refine(GT.o w2 Z.o).mono ?_;rintro e w3 ⟨rfl,f3⟩;rw[EG.o];have F3:=J (Z.o.trans0 f3);clear f3)|(clear y;go_at_call 6;refine(zcr w3 i.o).mono ?_;rintro e C ⟨rfl,hw⟩;rw[hw];clear hw)|(clear z;go_at_call 7;refine(zcS w3 (HF.o.keep F3.o) i.o).mono ?_;rintro e w6 ⟨rfl,f6⟩;have F6:=J (F3.o.trans0 f6);clear f6));go_frame)
  go_ret
  exact⟨rfl,F6.o⟩
 have i:=@J (F.length≤256) (by omega)
 have G3:=J g3
 have bh:L.length≤40:=g2
 clear h256 g1 g2 g3
 go_enter Tryz.func3,Tryz.ntmps3
 have⟨p,r,y,z⟩:=tZ4
 go_wp2_with ((first|(clear p;go_at_call 4;refine AL.o.mono ?_;rintro e w2 ⟨rfl,f2⟩;have Z:=J f2;clear f2)|(clear r;go_at_call 5;refine(GT.o w2 Z.o).mono ?_;rintro e w4 ⟨rfl,f3⟩;rw[EG.o];have F4:=J (Z.o.trans0 f3);clear f3)|(clear y;go_at_call 6;refine(ziv w4 (HF.o.keep F4.o) i.o).mono ?_;rintro e C ⟨pc,rfl,V,hc⟩;have HC:=J hc;clear hc)|(clear z;go_at_call 7;refine(zej C (HF.o.keep (F4.o.trans0 HC.o.fr)) i.o).mono ?_;rintro e w6 ⟨H,U,rfl,hm⟩;have AT:=J (zeB HC.o hm);clear hm));go_frame)
 have ai:=J (HG.o.keep0 F4.o)
 have aG:=J (HL.o.keep0 F4.o)
 go_loopw [53] (λjv wr=>∃(n:Nat) (bs:List zU) (S:List zh),jv=.int .i64 n∧n≤L.length∧bs.length≤n∧Xr w4 wr pc H F bs S) (λjv _=>L.length-(intOf jv).toNat)
 case atStart=>exact⟨0,[],_,rfl,zero_le _,zero_le _,AT.o⟩
 case round=>
  obtain⟨n,bs,S,rfl,hn,hb,av⟩:=hrel
  have A1:=J av
  have BL:=J hb
  clear av hb
  by_cases az:n<L.length
  ·have i1:(n:Int)<(L.length:Int):=by omega
   obtain⟨a,hx⟩:∃x,L[n]? =some x:=⟨_,List.getElem?_eq_getElem az⟩
   obtain⟨b,off,a6,cs,hv,hr,bcs,rfl,ah⟩:=aG.o.at_ hx
   cases hv
   obtain⟨O,P,E,G,rfl⟩:=ah.form
   have aI:=J (G3.o a (List.mem_of_getElem? hx))
   have BQ:=J ah
   have R1:=@J (wr.rangeAt b (off+n*4) [.int .i64 a.kind,.int .u64 a.blk.tag,.slice O a.blk.pay.length P,.slice E a.blk.txs.length G]) (zb hr A1.o.fr id)
   have FA:=J ((frN wr).alloc (.cells #[.int .i64 a.kind,.int .u64 a.blk.tag,.slice O a.blk.pay.length P,.slice E a.blk.txs.length G] 38))
   have RN:=zK wr [.int .i64 a.kind,.int .u64 a.blk.tag,.slice O a.blk.pay.length P,.slice E a.blk.txs.length G] 38
   have ad:=J (zc1 RN)
   have C0:=@J ((wr.alloc (.cells #[.int .i64 a.kind,.int .u64 a.blk.tag,.slice O a.blk.pay.length P,.slice E a.blk.txs.length G] 38)).cell? ⟨wr.heap.size,0,none⟩=some (.int .i64 a.kind)) (by simpa using RN 0 _ rfl)
   have OB:=J (zS wr (.cells #[.int .i64 a.kind,.int .u64 a.blk.tag,.slice O a.blk.pay.length P,.slice E a.blk.txs.length G] 38))
   have AQ:=J (A1.o.own FA.o)
   have QL:=@J (wr.heap.size<(wr.alloc (.cells #[.int .i64 a.kind,.int .u64 a.blk.tag,.slice O a.blk.pay.length P,.slice E a.blk.txs.length G] 38)).heap.size) (by simp)
   have R:=J (yr (Jg a.blk))
   have aj:=J (Jg a.blk)
   clear hr hx ah RN
   have⟨p,r,y,z,X,K5,K6,K7,K8,K9,aK⟩:=tZ11
   go_upto_if 79 with((first|((with_reducible refine zt ?_);first|(clear p;refine zg rfl (ye (ty:=38) rfl rfl R1.o uA rA Jk) ?_)|(clear y;refine ziS rfl rfl rfl ad.o rfl ?_)|(clear K5;refine ziS rfl rfl rfl an.o rfl ?_)|(clear K8;refine ziT rfl rfl rfl aS.o R.o ?_)|(clear K9;refine ziT rfl rfl rfl aR.o R.o ?_)|(clear aK;refine zg rfl (jN.exec_neq rfl rfl rfl (xn aj.o) (xn aj.o) true (by simp) _) ?_))|((with_reducible refine zr ?_);first|(clear r;refine ze rfl (zj (w:=wr) (ty:=38) (cs:=[.int .i64 a.kind,.int .u64 a.blk.tag,.slice O a.blk.pay.length P,.slice E a.blk.txs.length G]) rfl rfl rfl rfl Jk zgk) ?_;generalize wr.alloc (.cells #[.int .i64 a.kind,.int .u64 a.blk.tag,.slice O a.blk.pay.length P,.slice E a.blk.txs.length G] 38)=wA at*;generalize wr.heap.size=q at*)|(clear X;refine zi3 (w:=wB) (cs:=zl (xH a.blk)) rfl rfl rfl rfl R.o zX ?_;generalize wB.alloc (.cells (zl (xH a.blk)).toArray 40)=wC at*;generalize wB.heap.size=q1 at*;have an:=J (zb ad.o FB.o id))|(clear K7;refine zi3 (w:=wD) (cs:=zl (xH a.blk)) rfl rfl rfl rfl R.o zX ?_;have CK:=FD.o.cell C0.o id))|(clear z;go_at_call 8;refine(JU (ai.o.keep0 AQ.o.at_.fr) (BQ.o.keep AQ.o.at_.fr)).mono ?_;rintro e wB ⟨rfl,fB⟩;have FB:=J (fB.alloc (.cells (zl (xH a.blk)).toArray 40));have aQ:=J (zK wB (zl (xH a.blk)) 40);clear fB)|(clear K6;go_at_call 9;refine(zbx (BQ.o.keep (AQ.o.fr0 FB.o).at_.fr)).mono ?_;rintro e wD ⟨rfl,fD⟩;have FD:=J (FB.o.trans0 (fD.alloc (.cells (zl (xH a.blk)).toArray 40)));have aR:=J (zK wD (zl (xH a.blk)) 40);have aS:=J (zb aQ.o (fD.alloc (.cells (zl (xH a.blk)).toArray 40)) id);clear fD));go_frame)
   have AE:=J (AQ.o.fr0 FD.o)
   have OE:=J (FD.o.obj OB.o id)
   have RE:=J (zb ad.o FD.o id)
   have QE:=@J (q<(wD.alloc (.cells (zl (xH a.blk)).toArray 40)).heap.size) (by have:=FD.o.size;have:=QL.o;omega)
   clear CK
   generalize wD.alloc (.cells (zl (xH a.blk)).toArray 40)=wE at*
   go_cut [] from 79 to 107 (λwz=>∃(bs':List zU) (S':List zh),YZ w4 wz pc H F bs' S' q∧bs'.length≤n+1∧wz.heap[q]? =some (.cells #[Value.int .i64 a.kind,Value.int .u64 a.blk.tag,Value.slice O a.blk.pay.length P,Value.slice E a.blk.txs.length G] 38 (0,0)))
   case first=>
    by_cases hk:a.kind=0
    ·rw[show(a.kind==0)=true by simpa using hk]
     clear hk
     go_wp2_with fail
     have aD:=J (AE.o.fr0 (frN wE).drew)
     have aO:=J ((frN wE).drew.obj OE.o id)
     have ao:=J (zb RE.o (frN wE).drew id)
     have aP:=@J (q<wE.drew.heap.size) (QE.o)
     refine wrLx [ff,ff,ff,tt,ff,ff,ff,tt,ff] (λw'=>w'.rangeAt q 1 [.int .u64 a.blk.tag,.slice O a.blk.pay.length P,.slice E a.blk.txs.length G]) ?_ (λK hK=>?_)
     ·exact ao.o
     generalize wE.drew=bj at*
     repeat((first|(refine zn rfl ?_;constructor;constructor;(focus(first|exact ziZ rfl (λw h=>h) rfl|(rintro w' Q;exact goS))))|(refine zq rfl ?_));try simp only[Act.put,pA,pB,pC])
     (refine zN rfl (λK' hK'=>?_))
     go_simp
     refine(ze1 ai.o aD.o aP.o (by have:=BL.o;omega) BQ.o).mono ?_
     rintro e v ⟨rfl,m,c7⟩
     have R7:=J (zb ao.o m (λe=>e rfl))
     have O7:=J (m.obj aO.o (λe=>e rfl))
     clear m
     refine nXt hK' ?_ λhS=>?_
     ·exact R7.o
     try simp only[Act.put,pA,pB,pC]
     repeat((first|(refine zn rfl ?_;constructor;constructor;(focus(first|exact ziZ rfl (λw h=>h) rfl|(rintro w' Q;exact goS))))|(refine zq rfl ?_));try simp only[Act.put,pA,pB,pC])
     (refine zN rfl (λK' hK'=>?_))
     go_simp
     refine c7.mono ?_
     rintro e w8 ⟨rfl,f8,a8⟩
     have R8:=J (zb R7.o f8 (λe=>e rfl))
     have O8:=J (f8.obj O7.o (λe=>e rfl))
     have A8:=J a8
     clear f8 a8 c7
     refine nXt hK' ?_ λhS=>?_
     ·exact R8.o
     try simp only[Act.put,pA,pB,pC]
     repeat((first|(refine zn rfl ?_;constructor;constructor;(focus(first|(rintro w' Q;exact goS))))|(refine zq rfl ?_));try simp only[Act.put,pA,pB,pC])
     refine zZ (hK.out _ _ ?_)
     go_wp2_with fail
     go_meet
     case rel=>exact⟨_,_,A8.o,Nat.le_trans (zcx _ _ _) (by have:=BL.o;omega),O8.o⟩
    ·rw[show(a.kind==0)=false by simpa using hk]
     clear hk
     rcases zfq bs with A|⟨Y,d,A⟩
     ·have D:=@J (Xr w4 wE pc H F [] S) (A▸AE.o.at_)
      have AF:=J AE.o
      have B0:=@J (bs.length≤n+1) (by have:=BL.o;omega)
      clear A
      have⟨p,r,y,z,X,K5,K6⟩:=tZ7
      go_wp2_with ((first|(clear p;go_at_call 12;refine(zdY D.o).mono ?_;rintro e v ⟨rfl,m⟩;have F7:=J (m.alloc (.cells xY.toArray 36));have R7:=J (zK v xY 36);clear m)|(clear y;go_at_call 13;refine(zdZ (D.o.fr0 F7.o)).mono ?_;rintro e I ⟨rfl,M⟩;have F9:=J (F7.o.trans0 (M.alloc (.cells xY.toArray 36)));have R9:=J (zK I xY 36);have ab:=J (zb R7.o (M.alloc (.cells xY.toArray 36)) id);clear M)|(clear K6;go_at_call 14;refine(zaq wF (zeS wF) (zeS wF) (by decide) (by decide) (λt ht=>by cases ht)).mono ?_;rintro e wG ⟨rfl,fG⟩;have FG:=J (F9.o.trans0 fG);clear fG)|((with_reducible refine zr ?_);first|(clear r;refine ze rfl (zj (w:=v) (ty:=36) (cs:=xY) rfl rfl rfl rfl xg zeR) ?_;generalize v.alloc (.cells xY.toArray 36)=w8 at*;generalize v.heap.size=q7 at*)|(clear z;refine ze rfl (zj (w:=I) (ty:=36) (cs:=xY) rfl rfl rfl rfl xg zeR) ?_;generalize I.alloc (.cells xY.toArray 36)=wF at*;generalize I.heap.size=q9 at*))|((with_reducible refine xF 103 ?_);clear X;refine xM (o:=⟨some 103,_,_,_,_,_⟩) rfl (ye (ty:=36) rfl rfl ab.o uB rB xg) ?_)|((with_reducible refine xF 104 ?_);clear K5;refine xM (o:=⟨some 104,_,_,_,_,_⟩) rfl (ye (ty:=36) rfl rfl R9.o uB rB xg) ?_));go_frame)
      go_meet
      case rel=>exact⟨bs,S,AF.o.fr0 FG.o,B0.o,FG.o.obj OE.o id⟩
     ·have D:=@J (YZ w4 wE pc H F (Y++[d]) S q) (A▸AE.o)
      have B0:=@J (Y.length≤n+1∧Y.length≤100) (by have:=BL.o;rw[A] at this;simp at this;omega)
      obtain⟨P1,P2,P3⟩:=D.o.blk
      have PB:=J (And.intro P1 (And.intro P2 P3))
      clear A P1 P2 P3
      have⟨p,r,y,z,X,K5,K6⟩:=tZ7
      go_wp2_with ((first|(clear p;go_at_call 12;refine(ze8 D.o QE.o B0.o.2).mono ?_;rintro e v ⟨bcs,rfl,ar,m,d7⟩;obtain⟨xa,xc,xb,xd,rfl⟩:=ar.form;have R7:=J (zK v [.int .u64 d.blk.tag,.slice xa d.blk.pay.length xc,.slice xb d.blk.txs.length xd] 36);have D7:=J (d7 (v.alloc (.cells #[.int .u64 d.blk.tag,.slice xa d.blk.pay.length xc,.slice xb d.blk.txs.length xd] 36)) ((frN v).alloc _));have Z7:=J m.size;have O7:=J (jC (m.obj OE.o (λe=>e rfl)) (.cells #[.int .u64 d.blk.tag,.slice xa d.blk.pay.length xc,.slice xb d.blk.txs.length xd] 36));clear ar m d7)|(clear y;go_at_call 13;refine D7.o.mono ?_;rintro e I ⟨a7,rfl,ag,au,⟨S9,a9⟩,M⟩;obtain⟨ya,yc,yb,yd,rfl⟩:=ag.form;have N:=(frN I).alloc (.cells #[.int .u64 d.blk.tag,.slice ya d.blk.pay.length yc,.slice yb d.blk.txs.length yd] 36);have R9:=J (zK I [.int .u64 d.blk.tag,.slice ya d.blk.pay.length yc,.slice yb d.blk.txs.length yd] 36);have ab:=J (zb (zb R7.o M (λe=>by have:=Z7.o;omega)) N id);have O9:=J (N.obj (M.obj O7.o (λe=>e.2 rfl)) id);have A9:=J (a9.fr0 N);have BX:=J (au.keep N);have BY:=J (ag.keep N);clear ag au a9 M N)|(clear K6;go_at_call 14;refine(zaq wF BX.o BY.o PB.o.1 PB.o.2.1 PB.o.2.2).mono ?_;rintro e wG ⟨rfl,fG⟩;have FG:=J fG;clear fG)|((with_reducible refine zr ?_);first|(clear r;refine ze rfl (zj (w:=v) (ty:=36) (cs:=[.int .u64 d.blk.tag,.slice xa d.blk.pay.length xc,.slice xb d.blk.txs.length xd]) rfl rfl rfl rfl xg jV) ?_;generalize v.alloc (.cells #[.int .u64 d.blk.tag,.slice xa d.blk.pay.length xc,.slice xb d.blk.txs.length xd] 36)=w8 at*;generalize v.heap.size=q7 at*)|(clear z;refine ze rfl (zj (w:=I) (ty:=36) (cs:=[.int .u64 d.blk.tag,.slice ya d.blk.pay.length yc,.slice yb d.blk.txs.length yd]) rfl rfl rfl rfl xg jV) ?_;generalize I.alloc (.cells #[.int .u64 d.blk.tag,.slice ya d.blk.pay.length yc,.slice yb d.blk.txs.length yd] 36)=wF at*;generalize I.heap.size=q9 at*))|((with_reducible refine xF 103 ?_);clear X;refine xM (o:=⟨some 103,_,_,_,_,_⟩) rfl (ye (ty:=36) rfl rfl ab.o uB rB xg) ?_)|((with_reducible refine xF 104 ?_);clear K5;refine xM (o:=⟨some 104,_,_,_,_,_⟩) rfl (ye (ty:=36) rfl rfl R9.o uB rB xg) ?_));go_frame)
      go_meet
      case rel=>exact⟨Y,S9,A9.o.fr0 FG.o,B0.o.1,FG.o.obj O9.o id⟩
   case rest=>
    obtain⟨j,S2,a2,aw,aA⟩:=hcut
    have aH:=J (zeQ BQ.o)
    have A2:=J a2.at_
    have B2:=J aw
    have O2:=J aA
    obtain⟨V2,U2,aZ,h2⟩:=a2.at_.fr0 (frN wc).drew
    obtain⟨fv,bv,cv,iv,bd,k0,k1,k2,k3,k4,k5,k6,k7,k8⟩:=h2.m.ex
    obtain⟨ba,bc,rfl⟩:=k2.arg.form
    obtain⟨ca,cc,rfl⟩:=k6.arg.form
    obtain⟨ia,ic,rfl⟩:=k7.arg.form
    have CN:=J h2.c.g.cn
    have KP:=J (zm k0)
    have aq:=J h2.m.good.ok
    have aM:=@J (∀k∈zJ j,xU k) (λk hk=>by
     obtain⟨d,hd,aU⟩:=List.mem_flatMap.1 hk
     exact(h2.m.good.ds d hd).2.2.2.1 k aU)
    have af:=J (h2.m.slen (by omega))
    have aL:=J (h2.m.klen (by omega))
    have S6:=J k6
    have S7:=J k7
    have C1:=@J (wc.drew.cell? ⟨H,1,none⟩=some (.slice ba j.length bc)) (by have:=KP.o 1 _ rfl;simpa using this)
    have C2:=@J (wc.drew.cell? ⟨H,2,none⟩=some (.slice ca S2.length cc)) (by have:=KP.o 2 _ rfl;simpa using this)
    have C3:=@J (wc.drew.cell? ⟨H,3,none⟩=some (.slice ia (zJ j).length ic)) (by have:=KP.o 3 _ rfl;simpa using this)
    have aN:=J ((frN wc).drew.obj O2.o id)
    have aC:=J (A2.o.fr0 (frN wc).drew)
    clear a2 aw aA h2 k0 k1 k2 k3 k4 k5 k6 k7 k8
    go_wp2_with fail
    refine wrLx [ff,tt,ff,ff,ff,ff,ff,ff,ff,ff,tt,ff,ff,ff,ff,ff,ff,tt,ff,ff] (λw'=>w'.cell? ⟨H,1,none⟩=some (.slice ba j.length bc)∧w'.cell? ⟨H,2,none⟩=some (.slice ca S2.length cc)) ?_ (λK hK=>?_)
    ·exact⟨C1.o,C2.o⟩
    generalize wc.drew=wd at*
    repeat((first|(refine zn rfl ?_;constructor;constructor;(focus(first|(rintro w' ⟨Q,s2⟩;exact goS))))|(refine zq rfl ?_));try simp only[Act.put,pA,pB,pC])
    (refine zN rfl (λK' hK'=>?_))
    go_simp
    refine(Qb CN.o).mono ?_
    rintro e w6 ⟨rfl,hw⟩
    rw[hw]
    clear hw
    refine nXt hK' ?_ λhS=>?_
    ·exact⟨C1.o,C2.o⟩
    try simp only[Act.put,pA,pB,pC]
    repeat((first|(refine zn rfl ?_;constructor;constructor;(focus(first|(rintro w' ⟨Q,s2⟩;exact goS))))|(refine zq rfl ?_));try simp only[Act.put,pA,pB,pC])
    (refine zN rfl (λK' hK'=>?_))
    go_simp
    refine(QM CN.o (by have:=af.o;omega)).mono ?_
    rintro e v ⟨v7,rfl,o7,m⟩
    have F7:=J m
    have O7:=J o7
    obtain⟨xa,xc,rfl⟩:=o7.slice.arg.form
    clear m o7
    refine nXt hK' ?_ λhS=>?_
    ·exact⟨F7.o.cell C1.o id,F7.o.cell C2.o id⟩
    try simp only[Act.put,pA,pB,pC]
    repeat((first|(refine zn rfl ?_;constructor;constructor;(focus(first|(rintro w' ⟨Q,s2⟩;exact goS))))|(refine zq rfl ?_));try simp only[Act.put,pA,pB,pC])
    (refine zN rfl (λK' hK'=>?_))
    go_simp
    refine(VQ v (ks:=S2) (ls:=S2) ⟨aq.o,O7.o.slice.arg⟩ ⟨aq.o,(S6.o.keep F7.o (λ_ _=>id)).arg⟩ (by have:=af.o;omega) (by have:=af.o;omega)).mono ?_
    rintro e w8 ⟨bb,rfl,ax,f8⟩
    obtain rfl:bb=true:=ax.2 rfl
    have F8:=J (F7.o.trans0 f8)
    clear f8 ax
    refine nXt hK' ?_ λhS=>?_
    ·exact⟨F8.o.cell C1.o id,F8.o.cell C2.o id⟩
    try simp only[Act.put,pA,pB,pC]
    repeat((first|(refine zn rfl ?_;constructor;constructor;(focus(first|(rintro w' ⟨Q,s2⟩;exact goS))))|(refine zq rfl ?_));try simp only[Act.put,pA,pB,pC])
    refine zZ (hK.out _ _ ?_)
    have A8:=J (aC.o.fr0 F8.o)
    have aE:=J (F8.o.cell C3.o id)
    have aF:=J (CN.o.fr0 F8.o)
    have aT:=J (S7.o.keep F8.o (λ_ _=>id))
    have ct:=zm (F8.o.obj aN.o id) 3 _ rfl
    have ct:w8.cell? ⟨q,3,none⟩=some (.slice E a.blk.txs.length G):=by simpa using ct
    go_wp2_with fail
    clear ct
    have a1:a.blk.txs.length≤30:=(zcI aI.o).2.1
    have NB:=J hn
    have aJ:=J az
    go_loopw [132] (λjv aX=>∃k:Nat,jv=.int .i64 k∧k≤a.blk.txs.length∧Fr No w8 aX) (λjv _=>a.blk.txs.length-(intOf jv).toNat)
    case atStart=>exact⟨0,rfl,zero_le _,Fr.refl _ _⟩
    case round=>
     obtain⟨k,rfl,hk,fr⟩:=hrel
     have FR:=J fr
     have FW:=@J (Fr No w4 wr) ((A8.o.fr0 fr).fr)
     clear fr
     by_cases ay:k<a.blk.txs.length
     ·have i2:(k:Int)<(a.blk.txs.length:Int):=by omega
      obtain⟨t,hx⟩:∃x,a.blk.txs[k]? =some x:=⟨_,List.getElem?_eq_getElem ay⟩
      obtain⟨b2,aB,aY,cs,hv,hr,hq⟩:=(aH.o.keep0 FW.o).at_ hx
      cases hv
      obtain⟨c,s,g,u,rfl⟩:=hq.form
      have al:=@J (wr.rangeAt b2 (aB+k*3) [.int .u32 t.ver,.slice c t.ins.length s,.slice g t.outs.length u]) (hr)
      have N:=(frN wr).alloc (.cells #[.int .u32 t.ver,.slice c t.ins.length s,.slice g t.outs.length u] 62)
      have FA:=J N
      have RA:=J (qF wr t.ver (.slice c t.ins.length s) (.slice g t.outs.length u)).2.2.2
      have T:=J (Qo (hq.keep N))
      have W:=J (yr (vk t))
      have ak:=J (vk t)
      clear hr hx hq N
      by_cases hfm:yV t=true
      ·rw[show idE t=0 by simp[idE,hfm]] at T
       clear hfm
       generalize idH t=B at*
       have⟨p,r,y,z,X⟩:=tZ5
       go_wp2_with ((first|((with_reducible refine zt ?_);first|(clear p;refine ziU rfl rfl rfl al.o rfl ?_)|(clear y;refine ziU rfl rfl rfl RA.o rfl ?_;generalize wr.alloc (.cells #[.int .u32 t.ver,.slice c t.ins.length s,.slice g t.outs.length u] 62)=wA at*))|((with_reducible refine zr ?_);first|(clear r;refine ze rfl (zj (w:=wr) (ty:=62) (cs:=[.int .u32 t.ver,.slice c t.ins.length s,.slice g t.outs.length u]) rfl rfl rfl rfl qN (jF (a:=c) (b:=g))) ?_)|(clear X;refine zi3 (w:=C) (cs:=zl B) rfl rfl rfl rfl W.o zX ?_;generalize C.alloc (.cells (zl B).toArray 40)=w6 at*;generalize C.heap.size=q6 at*))|(clear z;go_at_call 18;refine T.o.mono ?_;rintro e C ⟨rfl,f5⟩;have F6:=J ((FR.o.trans0 (FA.o.trans0 f5)).alloc (.cells (zl B).toArray 40));have RH:=J (zK C (zl B) 40);clear f5));go_frame)
       have FX:=J (F6.o.drew)
       have ae:=J (zb RH.o (frN _).drew id)
       have KS:=@J (∀w',Fr No w6.drew w'→w'.cell? ⟨H,3,none⟩=some (.slice ia (zJ j).length ic)∧w'.rangeAt q6 0 (zl B)) (λw' f=>⟨(FX.o.trans0 f).cell aE.o id,zb ae.o f id⟩)
       refine wrLx [ff,ff,ff,ff,ff,tt,ff,ff,ff,ff,ff,ff,tt,ff,ff] (λw'=>w'.cell? ⟨H,3,none⟩=some (.slice ia (zJ j).length ic)∧w'.rangeAt q6 0 (zl B)) ?_ (λK hK=>?_)
       ·exact KS.o _ (Fr.refl _ _)
       generalize w6.drew=aV at*
       repeat((first|(refine zn rfl ?_;constructor;constructor;(focus(first|exact zi0 rfl (λw h=>h.2) W.o|(rintro w' ⟨Q,s2⟩;exact goS))))|(refine zq rfl ?_));try simp only[Act.put,pA,pB,pC])
       (refine zN rfl (λK' hK'=>?_))
       go_simp
       refine(zd0 (aF.o.fr0 FX.o) ak.o).mono ?_
       rintro e aW ⟨rfl,m⟩
       have aa:=J m
       clear m
       refine nXt hK' ?_ λhS=>?_
       ·exact KS.o _ aa.o
       try simp only[Act.put,pA,pB,pC]
       repeat((first|(refine zn rfl ?_;constructor;constructor;(focus(first|exact zi0 rfl (λw h=>h.2) W.o|(rintro w' ⟨Q,s2⟩;exact goS))))|(refine zq rfl ?_));try simp only[Act.put,pA,pB,pC])
       (refine zN rfl (λK' hK'=>?_))
       go_simp
       refine(zae aW (l:=zJ j) ⟨aM.o,(aT.o.keep (FX.o.trans0 aa.o) (λ_ _=>id)).arg⟩ ak.o (by have:=aL.o;omega)).mono ?_
       rintro e I ⟨rfl,M⟩
       have F9:=J (aa.o.trans0 M)
       clear M
       refine nXt hK' ?_ λhS=>?_
       ·exact KS.o _ F9.o
       try simp only[Act.put,pA,pB,pC]
       repeat((first|(refine zn rfl ?_;constructor;constructor;(focus(first|(rintro w' ⟨Q,s2⟩;exact goS))))|(refine zq rfl ?_));try simp only[Act.put,pA,pB,pC])
       refine zZ (hK.out _ _ ?_)
       go_wp2_with fail
       go_roundw
       case rel=>exact⟨k+1,by go_num,by omega,FX.o.trans0 F9.o⟩
       case measure=>simp[intOf];omega
      ·rw[show idE t=5 by simp[idE,hfm]] at T
       clear hfm
       generalize idH t=B at*
       have⟨p,r,y,z,X⟩:=tZ5
       go_wp2_with ((first|((with_reducible refine zt ?_);first|(clear p;refine ziU rfl rfl rfl al.o rfl ?_)|(clear y;refine ziU rfl rfl rfl RA.o rfl ?_;generalize wr.alloc (.cells #[.int .u32 t.ver,.slice c t.ins.length s,.slice g t.outs.length u] 62)=wA at*))|((with_reducible refine zr ?_);first|(clear r;refine ze rfl (zj (w:=wr) (ty:=62) (cs:=[.int .u32 t.ver,.slice c t.ins.length s,.slice g t.outs.length u]) rfl rfl rfl rfl qN (jF (a:=c) (b:=g))) ?_)|(clear X;refine zi3 (w:=C) (cs:=zl B) rfl rfl rfl rfl W.o zX ?_;generalize C.alloc (.cells (zl B).toArray 40)=w6 at*;generalize C.heap.size=q6 at*))|(clear z;go_at_call 18;refine T.o.mono ?_;rintro e C ⟨rfl,f5⟩;have F6:=J ((FR.o.trans0 (FA.o.trans0 f5)).alloc (.cells (zl B).toArray 40));have RH:=J (zK C (zl B) 40);clear f5));go_frame)
       have FX:=J (F6.o.drew)
       have ae:=J (zb RH.o (frN _).drew id)
       refine wrLx [ff,ff,ff,ff,ff,tt,ff,ff,ff,ff,ff,ff,tt,ff,ff] (λw'=>w'.rangeAt q6 0 (zl B)) ?_ (λK hK=>?_)
       ·exact ae.o
       generalize w6.drew=aV at*
       repeat((first|(refine zn rfl ?_;constructor;constructor;(focus(first|(rintro w' Q;exact goS))))|(refine zq rfl ?_));try simp only[Act.put,pA,pB,pC])
       refine zZ (hK.out _ _ ?_)
       go_wp2_with fail
       go_roundw
       case rel=>exact⟨k+1,by go_num,by omega,FX.o⟩
       case measure=>simp[intOf];omega
     ·have i2:¬(k:Int)<(a.blk.txs.length:Int):=by omega
      have A9:=J (A8.o.fr0 FR.o)
      have bg:=NB.o
      have bf:=aJ.o
      clear ay hk
      go_wp2_with fail
      go_roundw
      case rel=>exact⟨n+1,j,S2,by go_num,by omega,B2.o,A9.o⟩
      case measure=>simp[intOf];omega
  ·have i1:¬(n:Int)<(L.length:Int):=by omega
   go_wp2
   go_ret
   exact⟨rfl,F4.o.trans0 A1.o.fr⟩
end Go.Proofs.YtmpamcnlineceaaGreatDoor
