/- pappuslaw13: Do, the kinds that turn the chain. -/
import Derived.Test.YtbcllfjmabiafaaGreatDoorProg
import Derived.Lib.Hide
import Derived.Test.YtbcllfjmabiafaaGreatDoorPG24
import Derived.Test.YtbcllfjmabiafaaGreatDoorPG1
import Derived.Test.YtbcllfjmabiafaaGreatDoorPG5
import Derived.Test.YtbcllfjmabiafaaGreatDoorPG7
set_option linter.unusedVariables false
set_option linter.unusedSimpArgs false
set_option linter.unnecessarySimpa false
set_option linter.all false
set_option maxRecDepth 20000
set_option maxHeartbeats 16000000
namespace Go.Proofs.YtbcllfjmabiafaaGreatDoor
open Go Go.RowKit Go.Maps Go.MapKept
open Go.Proofs.Tryz(prog)
open List(getElem?_eq_getElem)
open Nat(zero_le)
variable {b n:Nat} {cs:List Value}
theorem zer (w:World):j7 w (.slice none 0 0) []:=⟨none,0,rfl,zero_le _,λi d h=>by simp at h⟩
theorem zbN (t:Int) (a:Option Addr) (n c:Nat) (w:World):(Instr.build 65 #[(0,.int .u64 t),(2,.slice a n c)]).run prog w=.ok (.agg [.int .u64 t,.slice none 0 0,.slice a n c].toArray) w:=by kernel_rfl
theorem Qg (w:World):(zeroValue 65).run prog w=.ok (.agg JC.toArray) w:=by kernel_rfl
theorem zci (w:World):xg w (.slice none 0 0) []:=zcl w
section
variable {w0 wb w w':World} {pc pp N:Nat} {T X X1:Nat→Prop} {A:PB} {b:qf}
theorem PM.mined (h:PM w0 wb w pc pp T X N A (Ys (zS A.bs) A.S A.bs b) (ZH (zS A.bs) A.S A.bs b) X1) (a:qs (zS A.bs) A.S A.bs b=0):PM w0 wb w pc pp T X N A (doR (zS A.bs) A.S b).S (A.bs++[(doR (zS A.bs) A.S b).d]) X1:=by
 unfold Ys ZH at h
 rw[if_pos a,if_pos a] at h
 exact h
theorem PM.failed (h:PM w0 wb w pc pp T X N A (Ys (zS A.bs) A.S A.bs b) (ZH (zS A.bs) A.S A.bs b) X1) (c:qs (zS A.bs) A.S A.bs b≠0) (a:xy A.S (zS A.bs) A.L):∃d X',xO w0 wb w pc pp T X N A d X':=by
 unfold Ys ZH at h
 rw[if_neg c,if_neg c] at h
 exact h.still a
theorem zhm {n:Int} (h:qs (zS A.bs) A.S A.bs b≠0):XU A b n=A∧za9 A b n=[]:=by
 unfold XU za9
 rw[if_neg h,if_neg h]
 exact⟨rfl,rfl⟩
theorem zfc {n:Int} (h:qs (zS A.bs) A.S A.bs b=0):XU A b n={A with S:=(doR (zS A.bs) A.S b).S,bs:=A.bs++[(doR (zS A.bs) A.S b).d],L:=Zo (doR (zS A.bs) A.S b).S (zS (A.bs++[(doR (zS A.bs) A.S b).d])) A.L [] n}∧za9 A b n=XY (doR (zS A.bs) A.S b).S (zS (A.bs++[(doR (zS A.bs) A.S b).d])) A.L [] n:=by
 unfold XU za9
 rw[if_pos h,if_pos h]
 exact⟨rfl,rfl⟩
theorem znH (hg:vp w0) (h:PS w0 w pc pp T X N A) (hN:N≤800) (ab:52≤N) (hB:A.bs.length≤200) {a:vm} (ha:Kept X w (λw=>vW w a cs)) (hk:a.kind=2):
  Calls prog 35 #[.agg (xM pc pp).toArray,.agg cs.toArray] w (za1 w0 w pc pp T X N (qs (zS A.bs) A.S A.bs a.blk) (za9 A a.blk a.now) (XU A a.blk a.now)):=by
 obtain⟨W,b1,C,z3⟩:=J7 w (.cells (xM pc pp).toArray 34) (.cells cs.toArray 91)
 obtain⟨ad,bcs,u,j,x,k,kt,kb⟩:=jH ha
 obtain⟨now,hnw⟩:∃now:Nat,a.now=now:=Int.eq_ofNat_of_zero_le j.1
 have P:=@Hd (now<18446744073709551616) (by omega)
 have P3:=Hd (h.fr0 C)
 have KB:=Hd (kb.on C)
 obtain⟨B,R,r,Y⟩:=J0 (q:=w.heap.size+1) (by rw[←u];exact zv b1) x k
 rw[hnw] at Y
 have RB:=Hd r
 have D:((w.alloc (.cells (xM pc pp).toArray 34)).alloc (.cells cs.toArray 91)).cell? ⟨w.heap.size,0,none⟩=some (.pointer (some ⟨pc,0,none⟩)):=by simpa using zv W 0 _ rfl
 have E:((w.alloc (.cells (xM pc pp).toArray 34)).alloc (.cells cs.toArray 91)).cell? ⟨w.heap.size,1,none⟩=some (.pointer (some ⟨pp,0,none⟩)):=by simpa using zv W 1 _ rfl
 have F3:=Hd C
 have Z3:=Hd z3
 have f:=Hd k
 have z:=Hd h
 have H:=Hd hnw
 have G:=Hd hg
 have HB:=Hd hB
 have U:=Hd h.facts.2.2.2.1
 have zB:=Qg
 clear h hg ha u j x k kt kb W b1 C z3 R r hnw hB
 rw[hk] at B
 rw[H.o]
 clear hk
 have o:=Hd KB.o.now
 have m:=@Hd (∀v∈bcs,v.oneCell'=true) (by obtain⟨pa,qc,ta,tc,rfl⟩:=KB.o.now.form;exact jC rfl rfl rfl)
 by_cases h0:qs (zS A.bs) A.S A.bs a.blk=0
 ·obtain⟨g,s⟩:=zfc (n:=(now:Int)) h0
  rw[g,s,h0]
  have p:=Hd h0
  clear g s h0
  go_enter Tryz.func35,Tryz.ntmps35
  have⟨I,K,L,M,K4⟩:=tZ5
  go_wp2_with ((first|((with_reducible refine zt ?_);first|(clear I;refine znX rfl rfl rfl RB.o f.o ?_;generalize Z:w.heap.size=l at*;generalize ((w.alloc (.cells (xM pc pp).toArray 34)).alloc (.cells cs.toArray 91))=d at*)|(clear L;refine znX rfl rfl rfl Q.o f.o ?_))|((with_reducible refine zr ?_);clear K;refine zi rfl (zj (w:=d) (ty:=65) (cs:=bcs) rfl rfl rfl (by rw[f.o];rfl) (by rw[f.o];exact vz) m.o) ?_;have c:=Hd ((frN d).alloc (.cells bcs.toArray 65));have Q:=Hd (zq d bcs 65);generalize aa:d.heap.size=qb at*;generalize d.alloc (.cells bcs.toArray 65)=w4 at*;have eK:=c.o.cell B id;have e0:=c.o.cell D id;have g:=c.o.cell E id)|(clear M;go_at_call 24;refine(zaI G.o (P3.o.fr0 c.o) HB.o (o.o.keep c.o)).mono ?_;rintro e F ⟨rfl,X5,i⟩;rw[p.o];have M5:=Hd (i.mined p.o);have d0:F.cell? ⟨l,0,none⟩=some (.pointer (some ⟨pc,0,none⟩)):=i.facts.2.1.cell (c.o.cell D id) (λe=>by have h:l<w.heap.size:=(z.o.facts.1 _ e).2.1;omega);have d1:F.cell? ⟨l,1,none⟩=some (.pointer (some ⟨pp,0,none⟩)):=i.facts.2.1.cell (c.o.cell E id) (λe=>by have h:l<w.heap.size:=(z.o.facts.1 _ e).2.1;omega);have dN:F.cell? ⟨l+1,7,none⟩=some (.int .u64 (now:Int)):=i.facts.2.1.cell (c.o.cell Y id) (λe=>by have h:l+1<w.heap.size:=(z.o.facts.1 _ e).2.1;omega);clear i D E Y B eK e0 g)|(clear K4;go_at_call 25;refine(Qx G.o M5.o (by omega) (fv:=.slice none 0 0) (first:=[]) (λw' _=>zer w') (by simp) P.o).mono ?_;rintro e w6 ⟨gv,rfl,ho,N',S,V,t,y⟩;have O:=Hd y;have O6:=Hd ho;have NL:=Hd t;clear y ho t));go_frame)
  go_ret2
  have SZ:=M5.o.facts.2.1.size
  exact⟨_,rfl,yu O6.o (by have:=Z3.o;have:=c.o.size;omega),S,V,(O.o.from_ (F3.o.trans0 c.o)).more (by have:=NL.o;have:=z.o.facts.2.2.2.2.1;simp only[List.length_nil] at*;omega)⟩
 ·obtain⟨g,s⟩:=zhm (n:=(now:Int)) h0
  rw[g,s]
  have p:=Hd h0
  clear g s h0
  go_enter Tryz.func35,Tryz.ntmps35
  have⟨I,K,L,M⟩:=tZ4
  go_wp2_with ((first|((with_reducible refine zt ?_);first|(clear I;refine znX rfl rfl rfl RB.o f.o ?_;generalize Z:w.heap.size=l at*;generalize ((w.alloc (.cells (xM pc pp).toArray 34)).alloc (.cells cs.toArray 91))=d at*)|(clear L;refine znX rfl rfl rfl Q.o f.o ?_))|((with_reducible refine zr ?_);clear K;refine zi rfl (zj (w:=d) (ty:=65) (cs:=bcs) rfl rfl rfl (by rw[f.o];rfl) (by rw[f.o];exact vz) m.o) ?_;have c:=Hd ((frN d).alloc (.cells bcs.toArray 65));have Q:=Hd (zq d bcs 65);generalize aa:d.heap.size=qb at*;generalize d.alloc (.cells bcs.toArray 65)=w4 at*;have eK:=c.o.cell B id;have e0:=c.o.cell D id;have g:=c.o.cell E id)|(clear M;go_at_call 24;refine(zaI G.o (P3.o.fr0 c.o) HB.o (o.o.keep c.o)).mono ?_;rintro e F ⟨rfl,X5,i⟩;obtain⟨S,V,y⟩:=i.failed p.o U.o;have O:=Hd y;have h1:=p.o;have h2:(qs (zS A.bs) A.S A.bs a.blk==0)=false:=(by simpa using h1);clear i y));go_frame)
  go_ret2
  exact⟨_,rfl,World.ownsRow_nil _ _ _ _,S,V,(O.o.from_ (F3.o.trans0 c.o)).more (Nat.le_succ _)⟩
theorem zeG {d l:World} {L:List zL} {v:Value} {css:List (List Value)} {a:Option Addr} {c:Nat} (h:vl d.heap.size 27 3 TxQ (λj=>j<d.heap.size) l v ((yz L n).map (·.tx)) css) (o:v=.slice a ((yz L n).map (·.tx)).length c) (q:n≤1000) {now:Nat} (i:now<18446744073709551616):
  ∀U:Nat→Prop,(∀j,U j→j<d.heap.size)→Kept U l (λw=>vG w ⟨now,[],(yz L n).map (·.tx)⟩ [.int .u64 now,.slice none 0 0,.slice a ((yz L n).map (·.tx)).length c]):=λU g w' f=>by
 have p:=ZF L n
 have k:=(h.rows (by decide) (by rw[List.length_map];unfold maxLen;omega) (U:=U) (λj _ e=>g j e) (λj m e=>by have:=(h.lt j m).1;have:=g j e;omega)) w' f
 rw[o] at k
 refine⟨none,0,a,c,rfl,⟨by show(0:Int)≤(now:Int);omega,by show(now:Int)≤_;omega⟩,zci _,k⟩
theorem znJ (hg:vp w0) (h:PS w0 w pc pp T X N A) (hN:N≤800) (al:52≤N) (hB:A.bs.length≤200) {a:vm} (ha:Kept X w (λw=>vW w a cs)) (hk:a.kind=4):
  Calls prog 35 #[.agg (xM pc pp).toArray,.agg cs.toArray] w (za1 w0 w pc pp T X N (qs (zS A.bs) A.S A.bs (Yo A 16 a.now)) (za9 A (Yo A 16 a.now) a.now) (XU A (Yo A 16 a.now) a.now)):=by
 obtain⟨b0,b1,f3,z3⟩:=J7 w (.cells (xM pc pp).toArray 34) (.cells cs.toArray 91)
 obtain⟨an,bcs,ad,E,ae,Q,kt,kb⟩:=jH ha
 obtain⟨now,hnw⟩:∃now:Nat,a.now=now:=Int.eq_ofNat_of_zero_le E.1
 have L:=@Hd (now<18446744073709551616) (by omega)
 have P3:=Hd (h.fr0 f3)
 have KB:=Hd (kb.on f3)
 obtain⟨cK,ag,aa,cN⟩:=J0 (q:=w.heap.size+1) (by rw[←ad];exact zv b1) ae Q
 rw[hnw] at cN
 have RB:=Hd aa
 have S:((w.alloc (.cells (xM pc pp).toArray 34)).alloc (.cells cs.toArray 91)).cell? ⟨w.heap.size,0,none⟩=some (.pointer (some ⟨pc,0,none⟩)):=by simpa using zv b0 0 _ rfl
 have U:((w.alloc (.cells (xM pc pp).toArray 34)).alloc (.cells cs.toArray 91)).cell? ⟨w.heap.size,1,none⟩=some (.pointer (some ⟨pp,0,none⟩)):=by simpa using zv b0 1 _ rfl
 have F3:=Hd f3
 have Z3:=Hd z3
 have C:=Hd Q
 have W0:=Hd h
 have af:=Hd hnw
 have G0:=Hd hg
 have HB:=Hd hB
 have ah:=Hd h.facts.2.2.2.1
 have zB:=Qg
 clear h hg ha ad E ae Q kt kb b0 b1 f3 z3 ag aa hnw hB
 rw[hk] at cK
 rw[af.o]
 clear hk
 have Y:=@Hd (∀v∈bcs,v.oneCell'=true) (by obtain⟨pa,qc,l,m,rfl⟩:=KB.o.now.form;exact jC rfl rfl rfl)
 by_cases h0:qs (zS A.bs) A.S A.bs (Yo A 16 (now:Int))=0
 ·obtain⟨x,e2⟩:=zfc (n:=(now:Int)) h0
  rw[x,e2,h0]
  have Z:=Hd h0
  clear x e2 h0
  go_enter Tryz.func35,Tryz.ntmps35
  have⟨H,I⟩:=tZ2
  go_wp2_with ((first|((with_reducible refine zt ?_);clear H;refine znX rfl rfl rfl RB.o C.o ?_;generalize aj:w.heap.size=c at*;generalize ((w.alloc (.cells (xM pc pp).toArray 34)).alloc (.cells cs.toArray 91))=y at*)|((with_reducible refine zr ?_);clear I;refine zi rfl (zj (w:=y) (ty:=65) (cs:=bcs) rfl rfl rfl (by rw[C.o];rfl) (by rw[C.o];exact vz) Y.o) ?_;have k:=Hd ((frN y).alloc (.cells bcs.toArray 65));have BR:=Hd (ye y (.cells bcs.toArray 65));generalize ak:y.heap.size=d at*;generalize y.alloc (.cells bcs.toArray 65)=w4 at*;have eK:=k.o.cell cK id;have P:=k.o.cell S id;have x:=k.o.cell U id));go_frame)
  have s:=Hd ((frN w4).drew)
  have PD:=Hd ((P3.o.fr0 k.o).fr0 s.o)
  have i:=Hd (s.o.cell (k.o.cell cN id) id)
  have g:=Hd (s.o.cell (k.o.cell U id) id)
  have O:=Hd (s.o.cell (k.o.cell S id) id)
  have W:=Hd (s.o.obj BR.o id)
  have z:=@Hd (c+2≤d) (by have:=Z3.o;omega)
  clear eK P x S U cN cK
  refine wrLx [ff,ff,ff,ff,tt,ff,tt] (λw'=>w'.cell? ⟨c+1,7,none⟩=some (.int .u64 (now:Int))∧w'.cell? ⟨c,1,none⟩=some (.pointer (some ⟨pp,0,none⟩))) ?_ (λK hK=>?_)
  ·exact⟨i.o,g.o⟩
  have BB:=Hd (zaD PD.o hN (n:=16) (by decide))
  have G:=Hd (k.o.trans0 s.o)
  generalize w4.drew=wd at*
  repeat((first|(refine zk rfl ?_;constructor;constructor;(focus(first|(rintro w' ⟨s1,s2⟩;exact goS))))|(refine zl rfl ?_));try simp only[Act.put,pA,pB,pC])
  (refine zM rfl (λK' hK'=>?_))
  go_simp
  refine BB.o.mono ?_
  rintro e R ⟨bv,css,rfl,p,f5⟩
  obtain⟨l,m,B⟩:=p.form
  have BQ:=Hd (zeG p B (by decide) L.o)
  have f:=Hd f5
  subst B
  clear p f5
  generalize ai:((yz A.L 16).map (·.tx)).length=r at*
  refine nXt hK' ?_ λhS=>?_
  ·exact⟨f.o.cell i.o id,f.o.cell g.o id⟩
  try simp only[Act.put,pA,pB,pC]
  repeat((first|(refine zk rfl ?_;constructor;constructor;(focus(first|exact λw' _=>yv (t:=65) rfl rfl (zbN (now:Int) l r m w')|(rintro w' ⟨s1,s2⟩;exact goS))))|(refine zl rfl ?_));try simp only[Act.put,pA,pB,pC])
  (refine zM rfl (λK' hK'=>?_))
  have V:=Hd (f.o.obj W.o id)
  refine xp (zU (ty:=65) (b:=d) (off:=0) (cs:=[.int .u64 (now:Int),.slice none 0 0,.slice l r m]) rfl rfl rfl (yb V.o (by have:=C.o;simp;omega)) vz (jC rfl rfl rfl)) ?_
  have o:=Hd (zy d [.int .u64 (now:Int),.slice none 0 0,.slice l r m] 0 R)
  have M:=Hd (yB (cs:=[.int .u64 (now:Int),.slice none 0 0,.slice l r m]) V.o (by have:=C.o;simp;omega))
  have u:=@Hd (Fr No y _) ((G.o.trans0 f.o).trans o.o (λj hj e=>by omega))
  refine nXt hK' ?_ λhS=>?_
  ·exact⟨o.o.cell (f.o.cell i.o id) (λe=>by have h:c+1=d:=e;have:=z.o;omega),o.o.cell (f.o.cell g.o id) (λe=>by have h:c=d:=e;have:=z.o;omega)⟩
  try simp only[Act.put,pA,pB,pC]
  repeat((first|(refine zk rfl ?_;constructor;constructor;(focus(first|(rintro w' ⟨s1,s2⟩;exact goS))))|(refine zl rfl ?_));try simp only[Act.put,pA,pB,pC])
  refine zN (hK.out _ _ ?_)
  have F:=@Hd (vG (R.setCells d 0 [.int .u64 (now:Int),.slice none 0 0,.slice l r m]) (Yo A 16 (now:Int)) [.int .u64 (now:Int),.slice none 0 0,.slice l r m]) (BQ.o (λj=>j=d) (λj e=>by have:=yr W.o;omega) _ o.o)
  have P6:=Hd (P3.o.fr0 u.o)
  have P:=o.o.cell (f.o.cell O.o id) (λe=>by have h:c=d:=e;have:=z.o;omega)
  have x:=o.o.cell (f.o.cell g.o id) (λe=>by have h:c=d:=e;have:=z.o;omega)
  have eN:=o.o.cell (f.o.cell i.o id) (λe=>by have h:c+1=d:=e;have:=z.o;omega)
  generalize R.setCells d 0 [.int .u64 (now:Int),.slice none 0 0,.slice l r m]=w6 at*
  have⟨H,I,K2⟩:=tZ3
  go_wp2_with ((first|((with_reducible refine zt ?_);clear H;refine znX rfl rfl rfl M.o rfl ?_)|(clear I;go_at_call 24;refine(zaI G0.o P6.o HB.o F.o).mono ?_;rintro e w7 ⟨rfl,X5,D⟩;rw[Z.o];have M5:=Hd (D.mined Z.o);have d0:w7.cell? ⟨c,0,none⟩=some (.pointer (some ⟨pc,0,none⟩)):=D.facts.2.1.cell P (λe=>by have h:c<w.heap.size:=(W0.o.facts.1 _ e).2.1;omega);have d1:w7.cell? ⟨c,1,none⟩=some (.pointer (some ⟨pp,0,none⟩)):=D.facts.2.1.cell x (λe=>by have h:c<w.heap.size:=(W0.o.facts.1 _ e).2.1;omega);have dN:w7.cell? ⟨c+1,7,none⟩=some (.int .u64 (now:Int)):=D.facts.2.1.cell eN (λe=>by have h:c+1<w.heap.size:=(W0.o.facts.1 _ e).2.1;omega);clear D P x eN)|(clear K2;go_at_call 25;refine(Qx G0.o M5.o (by omega) (fv:=.slice none 0 0) (first:=[]) (λw' _=>zer w') (by simp) L.o).mono ?_;rintro e w8 ⟨gv,rfl,ho,N',T6,X6,ab,n6⟩;have N6:=Hd n6;have O6:=Hd ho;have NL:=Hd ab;clear n6 ho ab));go_frame)
  go_ret2
  have SZ:=M5.o.facts.2.1.size
  exact⟨_,rfl,yu O6.o (by have:=Z3.o;have:=u.o.size;omega),T6,X6,(N6.o.from_ (F3.o.trans0 u.o)).more (by have:=NL.o;have:=W0.o.facts.2.2.2.2.1;simp only[List.length_nil] at*;omega)⟩
 ·obtain⟨x,e2⟩:=zhm (n:=(now:Int)) h0
  rw[x,e2]
  have Z:=Hd h0
  clear x e2 h0
  go_enter Tryz.func35,Tryz.ntmps35
  have⟨H,I⟩:=tZ2
  go_wp2_with ((first|((with_reducible refine zt ?_);clear H;refine znX rfl rfl rfl RB.o C.o ?_;generalize aj:w.heap.size=c at*;generalize ((w.alloc (.cells (xM pc pp).toArray 34)).alloc (.cells cs.toArray 91))=y at*)|((with_reducible refine zr ?_);clear I;refine zi rfl (zj (w:=y) (ty:=65) (cs:=bcs) rfl rfl rfl (by rw[C.o];rfl) (by rw[C.o];exact vz) Y.o) ?_;have k:=Hd ((frN y).alloc (.cells bcs.toArray 65));have BR:=Hd (ye y (.cells bcs.toArray 65));generalize ak:y.heap.size=d at*;generalize y.alloc (.cells bcs.toArray 65)=w4 at*;have eK:=k.o.cell cK id;have P:=k.o.cell S id;have x:=k.o.cell U id));go_frame)
  have s:=Hd ((frN w4).drew)
  have PD:=Hd ((P3.o.fr0 k.o).fr0 s.o)
  have i:=Hd (s.o.cell (k.o.cell cN id) id)
  have g:=Hd (s.o.cell (k.o.cell U id) id)
  have O:=Hd (s.o.cell (k.o.cell S id) id)
  have W:=Hd (s.o.obj BR.o id)
  have z:=@Hd (c+2≤d) (by have:=Z3.o;omega)
  clear eK P x S U cN cK
  refine wrLx [ff,ff,ff,ff,tt,ff,tt] (λw'=>w'.cell? ⟨c+1,7,none⟩=some (.int .u64 (now:Int))∧w'.cell? ⟨c,1,none⟩=some (.pointer (some ⟨pp,0,none⟩))) ?_ (λK hK=>?_)
  ·exact⟨i.o,g.o⟩
  have BB:=Hd (zaD PD.o hN (n:=16) (by decide))
  have G:=Hd (k.o.trans0 s.o)
  generalize w4.drew=wd at*
  repeat((first|(refine zk rfl ?_;constructor;constructor;(focus(first|(rintro w' ⟨s1,s2⟩;exact goS))))|(refine zl rfl ?_));try simp only[Act.put,pA,pB,pC])
  (refine zM rfl (λK' hK'=>?_))
  go_simp
  refine BB.o.mono ?_
  rintro e R ⟨bv,css,rfl,p,f5⟩
  obtain⟨l,m,B⟩:=p.form
  have BQ:=Hd (zeG p B (by decide) L.o)
  have f:=Hd f5
  subst B
  clear p f5
  generalize ai:((yz A.L 16).map (·.tx)).length=r at*
  refine nXt hK' ?_ λhS=>?_
  ·exact⟨f.o.cell i.o id,f.o.cell g.o id⟩
  try simp only[Act.put,pA,pB,pC]
  repeat((first|(refine zk rfl ?_;constructor;constructor;(focus(first|exact λw' _=>yv (t:=65) rfl rfl (zbN (now:Int) l r m w')|(rintro w' ⟨s1,s2⟩;exact goS))))|(refine zl rfl ?_));try simp only[Act.put,pA,pB,pC])
  (refine zM rfl (λK' hK'=>?_))
  have V:=Hd (f.o.obj W.o id)
  refine xp (zU (ty:=65) (b:=d) (off:=0) (cs:=[.int .u64 (now:Int),.slice none 0 0,.slice l r m]) rfl rfl rfl (yb V.o (by have:=C.o;simp;omega)) vz (jC rfl rfl rfl)) ?_
  have o:=Hd (zy d [.int .u64 (now:Int),.slice none 0 0,.slice l r m] 0 R)
  have M:=Hd (yB (cs:=[.int .u64 (now:Int),.slice none 0 0,.slice l r m]) V.o (by have:=C.o;simp;omega))
  have u:=@Hd (Fr No y _) ((G.o.trans0 f.o).trans o.o (λj hj e=>by omega))
  refine nXt hK' ?_ λhS=>?_
  ·exact⟨o.o.cell (f.o.cell i.o id) (λe=>by have h:c+1=d:=e;have:=z.o;omega),o.o.cell (f.o.cell g.o id) (λe=>by have h:c=d:=e;have:=z.o;omega)⟩
  try simp only[Act.put,pA,pB,pC]
  repeat((first|(refine zk rfl ?_;constructor;constructor;(focus(first|(rintro w' ⟨s1,s2⟩;exact goS))))|(refine zl rfl ?_));try simp only[Act.put,pA,pB,pC])
  refine zN (hK.out _ _ ?_)
  have F:=@Hd (vG (R.setCells d 0 [.int .u64 (now:Int),.slice none 0 0,.slice l r m]) (Yo A 16 (now:Int)) [.int .u64 (now:Int),.slice none 0 0,.slice l r m]) (BQ.o (λj=>j=d) (λj e=>by have:=yr W.o;omega) _ o.o)
  have P6:=Hd (P3.o.fr0 u.o)
  have P:=o.o.cell (f.o.cell O.o id) (λe=>by have h:c=d:=e;have:=z.o;omega)
  have x:=o.o.cell (f.o.cell g.o id) (λe=>by have h:c=d:=e;have:=z.o;omega)
  have eN:=o.o.cell (f.o.cell i.o id) (λe=>by have h:c+1=d:=e;have:=z.o;omega)
  generalize R.setCells d 0 [.int .u64 (now:Int),.slice none 0 0,.slice l r m]=w6 at*
  have⟨H,I⟩:=tZ2
  go_wp2_with ((first|((with_reducible refine zt ?_);clear H;refine znX rfl rfl rfl M.o rfl ?_)|(clear I;go_at_call 24;refine(zaI G0.o P6.o HB.o F.o).mono ?_;rintro e w7 ⟨rfl,X5,D⟩;obtain⟨T6,X6,n6⟩:=D.failed Z.o ah.o;have N6:=Hd n6;have h1:=Z.o;have h2:(qs (zS A.bs) A.S A.bs (Yo A 16 (now:Int))==0)=false:=(by simpa using h1);clear D n6));go_frame)
  go_ret2
  exact⟨_,rfl,World.ownsRow_nil _ _ _ _,T6,X6,(N6.o.from_ (F3.o.trans0 u.o)).more (Nat.le_succ _)⟩
theorem znf (F:vp w0) (h:PS w0 w pc pp T X N A) (E:A.bs.length≤200) {a:vm} (p:Kept X w (λw=>vW w a cs)) (r:a.kind=3) (f:A.bs=[]):
  Calls prog 35 #[.agg (xM pc pp).toArray,.agg cs.toArray] w (za1 w0 w pc pp T X N 9 [] A):=by
 obtain⟨l,n,m,K⟩:=J7 w (.cells (xM pc pp).toArray 34) (.cells cs.toArray 91)
 obtain⟨H,bcs,g,c,i,d,kt,G⟩:=jH p
 obtain⟨now,hnw⟩:∃now:Nat,a.now=now:=Int.eq_ofNat_of_zero_le c.1
 have z:=Hd (h.fr0 m)
 obtain⟨C,k,j,D⟩:=J0 (q:=w.heap.size+1) (by rw[←g];exact zv n) i d
 rw[hnw] at D
 have L:((w.alloc (.cells (xM pc pp).toArray 34)).alloc (.cells cs.toArray 91)).cell? ⟨w.heap.size,0,none⟩=some (.pointer (some ⟨pc,0,none⟩)):=by simpa using zv l 0 _ rfl
 have M:((w.alloc (.cells (xM pc pp).toArray 34)).alloc (.cells cs.toArray 91)).cell? ⟨w.heap.size,1,none⟩=some (.pointer (some ⟨pp,0,none⟩)):=by simpa using zv l 1 _ rfl
 have t:=Hd m
 have B:=Hd h
 have O:=Qg
 clear h F p g c i d kt G l n m K k j hnw E
 rw[r] at C
 clear r
 have s:=Hd (zjt z.o f)
 clear f
 go_enter Tryz.func35,Tryz.ntmps35
 have⟨x,y⟩:=tZ2
 go_wp2_with ((first|(clear x;go_at_call 26;refine s.o.mono ?_;rintro e I ⟨rfl,o⟩;have u:=Hd o;clear o)|((with_reducible refine zr ?_);clear y;refine zi rfl (zj (w:=I) (ty:=65) (cs:=JC) rfl rfl rfl rfl vz (jC rfl rfl rfl)) ?_));go_frame)
 have v:=Hd (u.o.alloc (.cells JC.toArray 65))
 go_ret2
 exact⟨_,rfl,World.ownsRow_nil _ _ _ _,T,X,((B.o.idle (t.o.trans0 v.o))).more (Nat.le_succ _)⟩
theorem znI (P:vp w0) (h:PS w0 w pc pp T X N A) (hN:N≤800) (ab:52≤N) (M:A.bs.length≤200) {a:vm} (O:Kept X w (λw=>vW w a cs)) (Q:a.kind=3) {bs:List yx} {d:yx} (r:A.bs=bs++[d]) (U:d.blk.txs.length≤20):
  Calls prog 35 #[.agg (xM pc pp).toArray,.agg cs.toArray] w (za1 w0 w pc pp T X N 0 (XY (xP d.chg A.S) (zS bs) A.L d.blk.txs a.now) {A with S:=xP d.chg A.S,bs:=bs,L:=Zo (xP d.chg A.S) (zS bs) A.L d.blk.txs a.now}):=by
 obtain⟨E,I,G,z3⟩:=J7 w (.cells (xM pc pp).toArray 34) (.cells cs.toArray 91)
 obtain⟨af,bcs,s,c,u,p,kt,kb⟩:=jH O
 obtain⟨now,hnw⟩:∃now:Nat,a.now=now:=Int.eq_ofNat_of_zero_le c.1
 have B:=@Hd (now<18446744073709551616) (by omega)
 have P3:=Hd (h.fr0 G)
 obtain⟨K,D,C,F⟩:=J0 (q:=w.heap.size+1) (by rw[←s];exact zv I) u p
 rw[hnw] at F
 have W:((w.alloc (.cells (xM pc pp).toArray 34)).alloc (.cells cs.toArray 91)).cell? ⟨w.heap.size,0,none⟩=some (.pointer (some ⟨pc,0,none⟩)):=by simpa using zv E 0 _ rfl
 have Y:((w.alloc (.cells (xM pc pp).toArray 34)).alloc (.cells cs.toArray 91)).cell? ⟨w.heap.size,1,none⟩=some (.pointer (some ⟨pp,0,none⟩)):=by simpa using zv E 1 _ rfl
 have F3:=Hd G
 have Z3:=Hd z3
 have v:=Hd h
 have z:=Hd hnw
 have G0:=Hd P
 have HB:=Hd M
 have zB:=Qg
 clear h P O s c u p kt kb E I G z3 D C hnw M
 rw[Q] at K
 rw[z.o]
 clear Q
 have DN:=Hd (zju P3.o r (by have:=HB.o;rw[r,List.length_append] at this;omega))
 have n:=Hd U
 clear U
 go_enter Tryz.func35,Tryz.ntmps35
 have⟨K0,K1,K2⟩:=tZ3
 go_wp2_with ((first|(clear K0;go_at_call 26;refine DN.o.mono ?_;generalize ad:w.heap.size=k at*;generalize ((w.alloc (.cells (xM pc pp).toArray 34)).alloc (.cells cs.toArray 91))=w3 at*;rintro e g ⟨aa,X5,rfl,t,i⟩;obtain⟨x,y,l,m,rfl⟩:=i.now.form;have KD:=Hd i;have d0:g.cell? ⟨k,0,none⟩=some (.pointer (some ⟨pc,0,none⟩)):=t.facts.2.1.cell W (λe=>by have h:k<w.heap.size:=(v.o.facts.1 _ e).2.1;omega);have d1:g.cell? ⟨k,1,none⟩=some (.pointer (some ⟨pp,0,none⟩)):=t.facts.2.1.cell Y (λe=>by have h:k<w.heap.size:=(v.o.facts.1 _ e).2.1;omega);have dN:g.cell? ⟨k+1,7,none⟩=some (.int .u64 (now:Int)):=t.facts.2.1.cell F (λe=>by have h:k+1<w.heap.size:=(v.o.facts.1 _ e).2.1;omega);have H:=Hd t;clear t i W Y F K)|(clear K2;go_at_call 25;refine(Qx G0.o (H.o.fr0 j.o) (by omega) KT.o (by have:=n.o;omega) B.o).mono ?_;rintro e w7 ⟨gv,rfl,R,N',T6,X6,o,V⟩;have N6:=Hd V;have O6:=Hd R;have NL:=Hd o;clear V R o)|((with_reducible refine zr ?_);clear K1;refine zi rfl (zj (w:=g) (ty:=65) (cs:=VD d.blk.tag (.slice x d.blk.pay.length y) (.slice l d.blk.txs.length m)) rfl rfl rfl rfl vz (jC rfl rfl rfl)) ?_;have j:=Hd ((frN g).alloc (.cells (VD d.blk.tag (.slice x d.blk.pay.length y) (.slice l d.blk.txs.length m)).toArray 65));have RN:=Hd (zq g (VD d.blk.tag (.slice x d.blk.pay.length y) (.slice l d.blk.txs.length m)) 65);generalize ae:g.heap.size=qb at*;generalize g.alloc (.cells (VD d.blk.tag (.slice x d.blk.pay.length y) (.slice l d.blk.txs.length m)).toArray 65)=Z at*;have e0:=j.o.cell d0 id;have e1:=j.o.cell d1 id;have eN:=j.o.cell dN id;have eT:Z.cell? ⟨qb,2,none⟩=some (.slice l d.blk.txs.length m):=(by simpa using RN.o 2 _ rfl);have KT:=@Hd (Kept X5 Z (λw=>j7 w (.slice l d.blk.txs.length m) d.blk.txs)) (λw' f=>zg1 ((KD.o.on j.o) w' f))));go_frame)
 go_ret2
 have SZ:=H.o.facts.2.1.size
 exact⟨_,rfl,yu O6.o (by have:=Z3.o;have:=j.o.size;omega),T6,X6,(N6.o.from_ F3.o).more (by have:=NL.o;have:=n.o;have:=v.o.facts.2.2.2.2.1;omega)⟩
theorem znK (g:vp w0) (h:PS w0 w pc pp T X N A) (i:N≤800) (c:52≤N) (j:A.bs.length≤200) (k:∀d∈A.bs,d.blk.txs.length≤20) {a:vm} (e:Kept X w (λw=>vW w a cs)):
  Calls prog 35 #[.agg (xM pc pp).toArray,.agg cs.toArray] w (za1 w0 w pc pp T X N (doE A a) (doG A a) (doA A a)):=by
 by_cases k0:a.kind=0
 ·have:=znG g h i e k0
  simpa[doE,doG,doA,k0] using this
 by_cases k1:a.kind=1
 ·have:=do_1 g h i e k1
  simpa[doE,doG,doA,k1] using this
 by_cases k2:a.kind=2
 ·have:=znH g h i c j e k2
  simpa[doE,doG,doA,k2] using this
 by_cases k4:a.kind=4
 ·have:=znJ g h i c j e k4
  simpa[doE,doG,doA,k4] using this
 by_cases k3:a.kind=3
 ·rcases List.eq_nil_or_concat A.bs with f|⟨l,d,f⟩
  ·have:=znf g h j e k3 f
   simpa[doE,doG,doA,k3,f] using this
  ·rw[List.concat_eq_append] at f
   have:=znI g h i c j e k3 f (k d (by rw[f];simp))
   simpa[doE,doG,doA,k3,f] using this
 ·have:=znL g h e k0 k1 k2 k3 k4
  simpa[doE,doG,doA,k0,k1,k2,k3,k4] using this
end
theorem V4:zV Yv:=JA []
theorem zee:vi.ok:=⟨qY,by decide,by decide⟩
theorem zlY:(⟨500,Yv⟩:yC).ok:=⟨by decide,V4⟩
theorem zjT:(⟨400,Yv⟩:yC).ok:=⟨by decide,V4⟩
theorem zlZ:(⟨400,yT⟩:yC).ok:=⟨by decide,qY⟩
theorem zl0:(⟨300,yT⟩:yC).ok:=⟨by decide,qY⟩
theorem zgA:(⟨idH exA,0⟩:zx).ok:=⟨jJ exA,by decide,by decide⟩
section
variable {w0 w w':World} {pc pp N N':Nat} {T X T' X':Nat→Prop} {A A':PB}
theorem xO.kept (n:xO w0 w w' pc pp T X N' A' T' X') (h:PS w0 w pc pp T X N A) {Q:World→Prop} (k:Kept X w Q):Kept X' w' Q:=
 k.step (n.fr.mono (λj a=>(h.facts.1 j a).2.2)) (λj a e=>(n.xn j e).resolve_right (by omega))
theorem xO.out (n:xO w0 w w' pc pp T X N' A' T' X') (a:¬T b) (c:b<w.heap.size):¬T' b:=λe=>(n.tn b e).elim a (by omega)
end
theorem jX {w:World} {b n m k:Nat} {ty:TypeId} {v:Value} {xs:List Value} (h:w.ownsRow b ty k v n xs) (e:n=m):∃a c,v=.slice a m c:=by
 subst e
 rcases h.2 with⟨rfl,rfl⟩|⟨g,cap,d,rfl,-⟩
 ·exact⟨_,_,rfl⟩
 ·exact⟨_,_,rfl⟩
def zcK (T:Nat→Prop) (w:World) (b:Nat) (cs:List Value):Prop:=w.rangeAt b 0 cs∧¬T b∧b<w.heap.size
theorem zcK.fr0 {T:Nat→Prop} {w w':World} (h:zcK T w b cs) (f:Fr No w w'):zcK T w' b cs:=⟨za h.1 f id,h.2.1,Nat.lt_of_lt_of_le h.2.2 f.size⟩
theorem zcK.next {w0 w w':World} {pc pp N':Nat} {T X T' X':Nat→Prop} {A':PB} (h:zcK T w b cs) (n:xO w0 w w' pc pp T X N' A' T' X'):zcK T' w' b cs:=⟨za h.1 n.fr h.2.1,n.out h.2.1 h.2.2,Nat.lt_of_lt_of_le h.2.2 n.fr.size⟩
theorem vT {w:World} (hg:vp w):Calls prog 11 #[] w λe w'=>e=.returned (.bool true)∧Fr No w w':=by
 have zh:=yJ
 have zT:=show ∀w,(zeroValue 27).run prog w=.ok (.agg zcG.toArray) w from Zp
 have L:=Hd hg
 have B:=@Hd (∀w:World,xQ w (.slice none 0 0) ([]:List Int).length (([]:List Int).map zQ)) (λw=>.inl (.inl ⟨rfl,rfl,rfl⟩))
 have R:=Hd (yq zlY)
 have S:=Hd (yq zjT)
 have a1:=Hd (yq zlZ)
 have a6:=Hd (yq zl0)
 have Q:=Hd (jf zee (.slice none 0 0))
 have ah:=Hd (jf zgA (.slice none 0 0))
 have ab:=Hd (zu (jJ exA))
 clear hg
 go_enter Tryz.func11,Tryz.ntmps11
 have⟨K0,K1,K2,K3,K4,K5,K6,K7,K8,K9,al,an,ao,aq,ar,au,av,aw,ax,ay,aB,aC,aD,aE,aF,aG,aH,aI,aJ⟩:=tZ29
 go_upto_region 9 with((first|(clear K0;go_at_call 45;refine(zca L.o (B.o _) (by decide)).mono ?_;rintro e w1 ⟨rfl,f1⟩;have F1:=Hd f1;clear f1)|(clear K3;go_at_call 44;refine(zlX w2 (zdw ag.o zlY) (by decide)).mono ?_;rintro e w3 ⟨pc,rfl,VC,hc⟩;have HC:=Hd hc;have F3:=Hd (F2.o.trans0 hc.fr);clear hc)|(clear K4;go_at_call 46;refine(zlW w w3 F3.o).mono ?_;rintro e w5 ⟨rfl,O,ma,ms,g,VG,ae,ad⟩;have F5:=Hd (F3.o.trans0 O);obtain⟨T,af,F⟩:=zfq HC.o F2.o O (λj hj=>ae j hj) ad;have ba:=Hd (af T (λ_ h=>h) (λj hj=>(F j hj).2));have S5:=Hd (frN w5);have u:=Hd (λj hj=>(F j hj).2);clear af F O ae ad HC;generalize bt:w3.heap.size=pp at*)|(clear K7;go_at_call 45;refine(zca (L.o.keep0 (F5.o.trans0 S6.o)) (B.o _) (by decide)).mono ?_;rintro e w7 ⟨rfl,fF⟩;have a:=Hd fF;have S7:=Hd (S6.o.trans0 a.o);have b:=Hd (a.o.obj b.o id);clear a fF)|(clear aq;go_at_call 19;refine(YX (L.o.keep0 (F5.o.trans0 S9.o)) TA.o).mono ?_;rintro e q ⟨rfl,fF⟩;have a:=Hd fF;rw[znN];have a7:=Hd (S9.o.trans0 a.o);have b:=Hd (a.o.obj b.o id);have c:=Hd (a.o.obj c.o id);have d:=Hd (a.o.obj d.o id);clear a fF)|((with_reducible refine zt ?_);first|(clear K1;refine zg rfl (jI (t:=58) rfl rfl placesOut (fill_out _ V4) (parts_out _ _) R.o) ?_)|(clear K2;refine zg rfl (zK (t:=22) (cs:=zF ⟨500,Yv⟩) rfl rfl qO jU (by rw[←yQ];rfl) (by decide) (by decide) R.o) ?_;generalize bb:w1.heap.size=b0 at*;have ag:=Hd (yU w1 (.cells (zF ⟨500,Yv⟩).toArray 58) bb.symm);have F2:=Hd (F1.o.alloc (.cells (zF ⟨500,Yv⟩).toArray 58));generalize w1.alloc (.cells (zF ⟨500,Yv⟩).toArray 58)=w2 at*)|(clear K5;with_reducible refine yg 33 ?_;refine zg rfl (yv (t:=112) rfl rfl (zjc _)) ?_)|(clear K6;refine zg rfl (zK (t:=25) (cs:=inC vi (.slice none 0 0)) rfl rfl Qd VY rfl (by decide) (by decide) Q.o) ?_;generalize bh:w5.heap.size=C at*;have b:=Hd (yU w5 (.cells (inC vi (.slice none 0 0)).toArray 112) bh.symm);have a:=Hd ((frN w5).alloc (.cells (inC vi (.slice none 0 0)).toArray 112));have S6:=Hd (S5.o.trans0 a.o);have aO:=@Hd (¬T C) (λe=>by have:=u.o _ e;have:=S5.o.size;omega);clear a;generalize w5.alloc (.cells (inC vi (.slice none 0 0)).toArray 112)=w6 at*)|(clear K8;refine zg rfl (jI (t:=58) rfl rfl placesOut (fill_out _ V4) (parts_out _ _) S.o) ?_)|(clear K9;refine zg rfl (zK (t:=22) (cs:=zF ⟨400,Yv⟩) rfl rfl qO jU (by rw[←yQ];rfl) (by decide) (by decide) S.o) ?_;generalize bl:w7.heap.size=D at*;have c:=Hd (yU w7 (.cells (zF ⟨400,Yv⟩).toArray 58) bl.symm);have a:=Hd ((frN w7).alloc (.cells (zF ⟨400,Yv⟩).toArray 58));have S8:=Hd (S7.o.trans0 a.o);have aR:=@Hd (¬T D) (λe=>by have:=u.o _ e;have:=S7.o.size;omega);have b:=Hd (a.o.obj b.o id);clear a;generalize w7.alloc (.cells (zF ⟨400,Yv⟩).toArray 58)=w8 at*)|(clear al;with_reducible refine yg 38 ?_;refine zg rfl (yv (t:=27) rfl rfl (zje _ _ _ _ _ _ _)) ?_)|(clear ao;refine znT rfl rfl rfl LD.o rfl ?_)|(clear au;with_reducible refine yg 44 ?_;refine zg rfl (yv (t:=112) rfl rfl (zjc _)) ?_)|(clear av;refine zg rfl (zK (t:=25) (cs:=inC vi (.slice none 0 0)) rfl rfl Qd VY rfl (by decide) (by decide) Q.o) ?_;generalize bj:v.heap.size=G at*;have i:=Hd (yU v (.cells (inC vi (.slice none 0 0)).toArray 112) bj.symm);have a:=Hd ((frN v).alloc (.cells (inC vi (.slice none 0 0)).toArray 112));have V:=Hd (U.o.trans0 a.o);have aP:=@Hd (¬T G) (λe=>by have:=u.o _ e;have:=U.o.size;omega);have b:=Hd (a.o.obj b.o id);have c:=Hd (a.o.obj c.o id);have d:=Hd (a.o.obj d.o id);have f:=Hd (a.o.obj f.o id);clear a;generalize v.alloc (.cells (inC vi (.slice none 0 0)).toArray 112)=x at*)|(clear aw;with_reducible refine yg 46 ?_;refine zg rfl (yv (t:=58) rfl rfl (zkJ _)) ?_)|(clear ax;refine zg rfl (zK (t:=22) (cs:=zF ⟨400,yT⟩) rfl rfl qO jU (by rw[←yQ];rfl) (by decide) (by decide) a1.o) ?_;generalize bm:x.heap.size=I at*;have k:=Hd (yU x (.cells (zF ⟨400,yT⟩).toArray 58) bm.symm);have a:=Hd ((frN x).alloc (.cells (zF ⟨400,yT⟩).toArray 58));have W:=Hd (V.o.trans0 a.o);have aS:=@Hd (¬T I) (λe=>by have:=u.o _ e;have:=V.o.size;omega);have b:=Hd (a.o.obj b.o id);have c:=Hd (a.o.obj c.o id);have d:=Hd (a.o.obj d.o id);have f:=Hd (a.o.obj f.o id);have i:=Hd (a.o.obj i.o id);clear a;generalize x.alloc (.cells (zF ⟨400,yT⟩).toArray 58)=r at*)|(clear ay;with_reducible refine yg 48 ?_;refine zg rfl (yv (t:=27) rfl rfl (zmg _ _ _ _ _ _ _)) ?_)|(clear aC;refine znV rfl rfl rfl LH.o ab.o ?_)|(clear aD;with_reducible refine yg 50 ?_;refine zg rfl (XD (t:=56) (vs:=[(0,.agg (zd (idH exA)).toArray)]) rfl rfl (zjk (jJ exA))) ?_)|(clear aE;with_reducible refine yg 51 ?_;refine zg rfl (XD (t:=112) (vs:=[(0,.agg (zm ⟨idH exA,0⟩).toArray)]) rfl rfl (zji zgA)) ?_)|(clear aF;refine zg rfl (zK (t:=25) (cs:=inC ⟨idH exA,0⟩ (.slice none 0 0)) rfl rfl Qd VY rfl (by decide) (by decide) ah.o) ?_;generalize bk:y.heap.size=H at*;have p:=Hd (yU y (.cells (inC ⟨idH exA,0⟩ (.slice none 0 0)).toArray 112) bk.symm);have a:=Hd ((frN y).alloc (.cells (inC ⟨idH exA,0⟩ (.slice none 0 0)).toArray 112));have Z:=Hd (Y.o.trans0 a.o);have aQ:=@Hd (¬T H) (λe=>by have:=u.o _ e;have:=Y.o.size;omega);have b:=Hd (a.o.obj b.o id);have c:=Hd (a.o.obj c.o id);have d:=Hd (a.o.obj d.o id);have f:=Hd (a.o.obj f.o id);have i:=Hd (a.o.obj i.o id);have k:=Hd (a.o.obj k.o id);have l:=Hd (a.o.obj l.o id);clear a;generalize y.alloc (.cells (inC ⟨idH exA,0⟩ (.slice none 0 0)).toArray 112)=z at*)|(clear aG;with_reducible refine yg 53 ?_;refine zg rfl (yv (t:=58) rfl rfl (zkI _)) ?_)|(clear aH;refine zg rfl (zK (t:=22) (cs:=zF ⟨300,yT⟩) rfl rfl qO jU (by rw[←yQ];rfl) (by decide) (by decide) a6.o) ?_;generalize bn:z.heap.size=K at*;have E:=Hd (yU z (.cells (zF ⟨300,yT⟩).toArray 58) bn.symm);have a:=Hd ((frN z).alloc (.cells (zF ⟨300,yT⟩).toArray 58));have aa:=Hd (Z.o.trans0 a.o);have aT:=@Hd (¬T K) (λe=>by have:=u.o _ e;have:=Z.o.size;omega);have b:=Hd (a.o.obj b.o id);have c:=Hd (a.o.obj c.o id);have d:=Hd (a.o.obj d.o id);have f:=Hd (a.o.obj f.o id);have i:=Hd (a.o.obj i.o id);have k:=Hd (a.o.obj k.o id);have l:=Hd (a.o.obj l.o id);have p:=Hd (a.o.obj p.o id);clear a;generalize z.alloc (.cells (zF ⟨300,yT⟩).toArray 58)=s at*)|(clear aI;with_reducible refine yg 55 ?_;refine zg rfl (yv (t:=27) rfl rfl (zje _ _ _ _ _ _ _)) ?_))|((with_reducible refine zr ?_);first|(clear an;refine zi rfl (zj (w:=w8) (ty:=27) (cs:=[.int .u32 0,.slice (some ⟨C,0,none⟩) 1 1,.slice (some ⟨D,0,none⟩) 1 1]) rfl rfl rfl rfl xt (jC rfl rfl rfl)) ?_;generalize bc:w8.heap.size=cA at*;have d:=Hd (yU w8 (.cells ([.int .u32 0,.slice (some ⟨C,0,none⟩) 1 1,.slice (some ⟨D,0,none⟩) 1 1]).toArray 27) bc.symm);have a:=Hd ((frN w8).alloc (.cells ([.int .u32 0,.slice (some ⟨C,0,none⟩) 1 1,.slice (some ⟨D,0,none⟩) 1 1]).toArray 27));have S9:=Hd (S8.o.trans0 a.o);have aL:=@Hd (¬T cA) (λe=>by have:=u.o _ e;have:=S8.o.size;omega);have b:=Hd (a.o.obj b.o id);have c:=Hd (a.o.obj c.o id);clear a;generalize w8.alloc (.cells ([.int .u32 0,.slice (some ⟨C,0,none⟩) 1 1,.slice (some ⟨D,0,none⟩) 1 1]).toArray 27)=w9 at*;have LD:=Hd (zv d.o);have TA:=@Hd (TxQ w9 exA [.int .u32 0,.slice (some ⟨C,0,none⟩) 1 1,.slice (some ⟨D,0,none⟩) 1 1]) (zjB b.o c.o zee zjT (by decide)))|(clear ar;refine zn3 (w:=q) (cs:=zd (idH exA)) rfl rfl rfl rfl ab.o zE ?_;generalize bg:q.heap.size=hA at*;have f:=Hd (yU q (.cells (zd (idH exA)).toArray 45) bg.symm);have a:=Hd ((frN q).alloc (.cells (zd (idH exA)).toArray 45));have U:=Hd (a7.o.trans0 a.o);have b:=Hd (a.o.obj b.o id);have c:=Hd (a.o.obj c.o id);have d:=Hd (a.o.obj d.o id);clear a;generalize q.alloc (.cells (zd (idH exA)).toArray 45)=v at*)|(clear aB;refine zi rfl (zj (w:=r) (ty:=27) (cs:=[.int .u32 1,.slice (some ⟨G,0,none⟩) 1 1,.slice (some ⟨I,0,none⟩) 1 1]) rfl rfl rfl rfl xt (jC rfl rfl rfl)) ?_;generalize bd:r.heap.size=cB at*;have l:=Hd (yU r (.cells ([.int .u32 1,.slice (some ⟨G,0,none⟩) 1 1,.slice (some ⟨I,0,none⟩) 1 1]).toArray 27) bd.symm);have a:=Hd ((frN r).alloc (.cells ([.int .u32 1,.slice (some ⟨G,0,none⟩) 1 1,.slice (some ⟨I,0,none⟩) 1 1]).toArray 27));have Y:=Hd (W.o.trans0 a.o);have aM:=@Hd (¬T cB) (λe=>by have:=u.o _ e;have:=W.o.size;omega);have b:=Hd (a.o.obj b.o id);have c:=Hd (a.o.obj c.o id);have d:=Hd (a.o.obj d.o id);have f:=Hd (a.o.obj f.o id);have i:=Hd (a.o.obj i.o id);have k:=Hd (a.o.obj k.o id);clear a;generalize r.alloc (.cells ([.int .u32 1,.slice (some ⟨G,0,none⟩) 1 1,.slice (some ⟨I,0,none⟩) 1 1]).toArray 27)=y at*;have LH:=Hd (zv f.o))|(clear aJ;refine zi rfl (zj (w:=s) (ty:=27) (cs:=[.int .u32 0,.slice (some ⟨H,0,none⟩) 1 1,.slice (some ⟨K,0,none⟩) 1 1]) rfl rfl rfl rfl xt (jC rfl rfl rfl)) ?_;generalize bf:s.heap.size=cD at*;have P:=Hd (yU s (.cells ([.int .u32 0,.slice (some ⟨H,0,none⟩) 1 1,.slice (some ⟨K,0,none⟩) 1 1]).toArray 27) bf.symm);have a:=Hd ((frN s).alloc (.cells ([.int .u32 0,.slice (some ⟨H,0,none⟩) 1 1,.slice (some ⟨K,0,none⟩) 1 1]).toArray 27));have a8:=Hd (aa.o.trans0 a.o);have aN:=@Hd (¬T cD) (λe=>by have:=u.o _ e;have:=aa.o.size;omega);have b:=Hd (a.o.obj b.o id);have c:=Hd (a.o.obj c.o id);have d:=Hd (a.o.obj d.o id);have f:=Hd (a.o.obj f.o id);have i:=Hd (a.o.obj i.o id);have k:=Hd (a.o.obj k.o id);have l:=Hd (a.o.obj l.o id);have p:=Hd (a.o.obj p.o id);have E:=Hd (a.o.obj E.o id);clear a;generalize s.alloc (.cells ([.int .u32 0,.slice (some ⟨H,0,none⟩) 1 1,.slice (some ⟨K,0,none⟩) 1 1]).toArray 27)=n at*;have W0:=@Hd (PS w n pc pp T T 0 ⟨exS,exS,[],[]⟩) (ba.o.fr0 a8.o);have ai:=@Hd (Kept T n (λw=>TxQ w exA [.int .u32 0,.slice (some ⟨C,0,none⟩) 1 1,.slice (some ⟨D,0,none⟩) 1 1])) (zd0 b.o c.o zee zjT (by decide) aO.o aR.o);have aU:=@Hd (zcK T n cA [.int .u32 0,.slice (some ⟨C,0,none⟩) 1 1,.slice (some ⟨D,0,none⟩) 1 1]) (⟨zv d.o,aL.o,yr d.o⟩);have aj:=@Hd (Kept T n (λw=>TxQ w exB [.int .u32 1,.slice (some ⟨G,0,none⟩) 1 1,.slice (some ⟨I,0,none⟩) 1 1])) (zd0 i.o k.o zee zlZ (by decide) aP.o aS.o);have aV:=@Hd (zcK T n cB [.int .u32 1,.slice (some ⟨G,0,none⟩) 1 1,.slice (some ⟨I,0,none⟩) 1 1]) (⟨zv l.o,aM.o,yr l.o⟩);have ak:=@Hd (Kept T n (λw=>TxQ w exD [.int .u32 0,.slice (some ⟨H,0,none⟩) 1 1,.slice (some ⟨K,0,none⟩) 1 1])) (zd0 p.o E.o zgA zl0 (by decide) aQ.o aT.o);have aW:=@Hd (zcK T n cD [.int .u32 0,.slice (some ⟨H,0,none⟩) 1 1,.slice (some ⟨K,0,none⟩) 1 1]) (⟨zv P.o,aN.o,yr P.o⟩))));go_frame)
 have⟨L0,L1,L2,L3,L4,L5,L6,L7,L8⟩:=tZ9
 go_wp2_with ((first|((with_reducible refine zt ?_);first|(clear L0;refine znT rfl rfl rfl aU.o.1 rfl ?_)|(clear L2;refine znT rfl rfl rfl aX.o.1 rfl ?_)|(clear L4;refine znT rfl rfl rfl aZ.o.1 rfl ?_))|(clear L1;go_at_call 17;refine(ZB (now:=5) (L.o.keep0 W0.o.facts.2.2.1) W0.o (by decide) ai.o (by decide)).mono ?_;rintro e v1 ⟨bo,rfl,o,T1,X1,n1⟩;rw[show jj (⟨exS,exS,[],[]⟩:PB).S (zS (⟨exS,exS,[],[]⟩:PB).bs) (⟨exS,exS,[],[]⟩:PB).L exA=0 from zmt.1];obtain⟨bu,bA,rfl⟩:=jX (m:=0) o (congrArg List.length zmt.2.1);have M:=@Hd (xO w n v1 pc pp T T 1 ⟨exS,exS,[],[eA]⟩ T1 X1) (by have:=n1;dsimp only at this;rw[show qM exS (zS []) [] exA ((5:Nat):Int)=[eA] from zmt.2.2] at this;exact this);have az:=Hd (M.o.kept W0.o aj.o);have aX:=Hd (aV.o.next M.o);have aA:=Hd (M.o.kept W0.o ak.o);have aY:=Hd (aW.o.next M.o);have W1:=Hd M.o.ws;clear n1 o M)|(clear L3;go_at_call 17;refine(ZB (now:=5) (L.o.keep0 W1.o.facts.2.2.1) W1.o (by decide) az.o (by decide)).mono ?_;rintro e v2 ⟨bp,rfl,o,T2,X2,n2⟩;rw[show jj (⟨exS,exS,[],[eA]⟩:PB).S (zS (⟨exS,exS,[],[eA]⟩:PB).bs) (⟨exS,exS,[],[eA]⟩:PB).L exB=14 from zng.1];have M2:=@Hd (xO w v1 v2 pc pp T1 X1 2 ⟨exS,exS,[],[eA]⟩ T2 X2) (by have:=n2;dsimp only at this;rw[show qM exS (zS []) [eA] exB ((5:Nat):Int)=[eA] from zng.2] at this;exact this);have aK:=Hd (M2.o.kept W1.o aA.o);have aZ:=Hd (aY.o.next M2.o);have W2:=Hd M2.o.ws;clear n2 o M2)|(clear L5;go_at_call 17;refine(ZB (now:=6) (L.o.keep0 W2.o.facts.2.2.1) W2.o (by decide) aK.o (by decide)).mono ?_;rintro e v3 ⟨bq,rfl,o,T3,X3,n3⟩;rw[show jj (⟨exS,exS,[],[eA]⟩:PB).S (zS (⟨exS,exS,[],[eA]⟩:PB).bs) (⟨exS,exS,[],[eA]⟩:PB).L exD=0 from znh.1];have M3:=@Hd (xO w v2 v3 pc pp T2 X2 3 ⟨exS,exS,[],[eA,eD]⟩ T3 X3) (by have:=n3;dsimp only at this;rw[show qM exS (zS []) [eA] exD ((6:Nat):Int)=[eA,eD] from znh.2] at this;exact this);have W3:=Hd M3.o.ws;clear n3 o M3)|(clear L6;go_at_call 16;refine(vJ W3.o (by decide)).mono ?_;rintro e v4 ⟨bE,rfl,o,O⟩;obtain⟨bw,bB,rfl⟩:=jX (m:=2) o rfl;have W4:=Hd (W3.o.fr0 O);clear o O)|(clear L7;go_at_call 33;refine(XE (now:=7205) W4.o (by decide) (by decide)).mono ?_;rintro e v5 ⟨br,rfl,o,T5,X5,n5⟩;obtain⟨bx,bC,rfl⟩:=jX (m:=2) o ((congrArg List.length exG).trans rfl);have M5:=@Hd (xO w v4 v5 pc pp T3 X3 3 ⟨exS,exS,[],[]⟩ T5 X5) (by have:=n5;dsimp only at this;rw[show J4 [eA,eD] ((7205:Nat):Int)=[] from exX] at this;exact this);have W5:=Hd M5.o.ws;clear n5 o M5)|(clear L8;go_at_call 16;refine(vJ W5.o (by decide)).mono ?_;rintro e v6 ⟨bF,rfl,o,f6⟩;obtain⟨bz,bD,rfl⟩:=jX (m:=0) o rfl;have W6:=Hd (W5.o.fr0 f6);clear o f6));go_frame)
 go_wp2_with fail
 go_ret
 exact⟨rfl,W6.o.facts.2.2.1⟩
theorem zkR (K:List zf) (S:List zn) (b:qf):(doR K S b).d.blk=b:=by
 unfold doR
 repeat' split
 all_goals rfl
theorem zfb (A:PB) (b:qf) (n:Int):(XU A b n).bs.length≤A.bs.length+1∧∀d∈(XU A b n).bs,d∈A.bs∨d.blk=b:=by
 unfold XU
 split
 ·refine⟨by simp,λd a=>?_⟩
  rcases List.mem_append.1 a with a|a
  ·exact .inl a
  ·rw[List.mem_singleton.1 a,zkR]
   exact .inr rfl
 ·exact⟨by omega,λd a=>.inl a⟩
theorem zjv (A:PB) (a:vm):(doA A a).bs.length≤A.bs.length+1∧∀d∈(doA A a).bs,d∈A.bs∨d.blk=a.blk∨d.blk=Yo A 16 a.now:=by
 have same:∀B:PB,B.bs=A.bs→B.bs.length≤A.bs.length+1∧∀d∈B.bs,d∈A.bs∨d.blk=a.blk∨d.blk=Yo A 16 a.now:=λB h=>by rw[h];exact⟨by omega,λd b=>.inl b⟩
 unfold doA
 split
 ·exact same _ rfl
 split
 ·exact same _ rfl
 split
 ·have h:=zfb A a.blk a.now
  exact⟨h.1,λd b=>(h.2 d b).imp_right .inl⟩
 split
 ·have h:=zfb A (Yo A 16 a.now) a.now
  exact⟨h.1,λd b=>(h.2 d b).imp_right .inr⟩
 split
 ·split
  ·exact same _ rfl
  ·exact⟨by show A.bs.dropLast.length≤_;rw[List.length_dropLast];omega,λd b=>.inl (List.dropLast_subset _ b)⟩
 ·exact same _ rfl
theorem zmp {A:PB} {a:vm} (h:∀d∈A.bs,d.blk.txs.length≤20) (b:a.blk.txs.length≤20):∀d∈(doA A a).bs,d.blk.txs.length≤20:=λd c=>by
 rcases(zjv A a).2 d c with e|e|e
 ·exact h d e
 ·rw[e];exact b
 ·rw[e]
  show((yz A.L 16).map (·.tx)).length≤20
  rw[List.length_map]
  have:=ZF A.L 16
  omega
section
variable {w0 wb w w':World} {pc pp N N':Nat} {T X T1 X1 T2 X2:Nat→Prop} {A A1 A2:PB}
theorem xO.trans (n:xO w0 w wb pc pp T X N A1 T1 X1) (m:xO w0 wb w' pc pp T1 X1 N' A2 T2 X2):xO w0 w w' pc pp T X N' A2 T2 X2:=
 ⟨m.ws,n.fr.trans m.fr (λi hi e=>(n.tn i e).resolve_right (by omega)),λj a=>(m.tn j a).elim (n.tn j) (λe=>.inr (Nat.le_trans n.fr.size e)),λj a=>(m.xn j a).elim (n.xn j) (λe=>.inr (Nat.le_trans n.fr.size e)),λj a=>m.xx j (n.xx j a)⟩
structure zeA (w0 w wr:World) (q0 q1 pc pp:Nat) (T X:Nat→Prop) (N:Nat) (A:PB) (T' X':Nat→Prop):Prop where
 n:xO w0 w wr pc pp T X N A T' X'
 o:zcK T' wr q0 (xM pc pp)
 r:wr.heap[q1]? =some (.cells #[.pointer none,.pointer none] 34 (0,0))
 t:¬T' q1
 x:X' q1
variable {q0 q1:Nat}
theorem zeA.fr0 (h:zeA w0 w wb q0 q1 pc pp T X N A T1 X1) (f:Fr No wb w'):zeA w0 w w' q0 q1 pc pp T X N A T1 X1:=
 ⟨h.n.to_ f,h.o.fr0 f,f.obj h.r id,h.t,h.x⟩
theorem zeA.next (h:zeA w0 w wb q0 q1 pc pp T X N A T1 X1) (m:xO w0 wb w' pc pp T1 X1 N' A2 T2 X2):zeA w0 w w' q0 q1 pc pp T X N' A2 T2 X2:=
 ⟨h.n.trans m,h.o.next m,m.fr.obj h.r h.t,m.out h.t (yr h.r),m.xx _ h.x⟩
end
theorem YU {w0 w:World} {pc pp:Nat} {T X:Nat→Prop} {A:PB} (hg:vp w0) (h:PS w0 w pc pp T X 52 A) (C:∀j,X j→w0.heap.size≤j) (z:A.bs=[]) {lv:Value} {L:List vm} (hl:vK w0 lv L) (u:L.length≤80) (t:∀a∈L,a.blk.txs.length≤20):
  Calls prog 15 #[.agg (xM pc pp).toArray,lv] w λe w'=>e=.returned (.agg (xM pc pp).toArray)∧∃p X' l,xO w0 w w' pc pp T X 132 l p X'∧l.bs.length≤80∧∀d∈l.bs,d.blk.txs.length≤20:=by
 obtain⟨dA,uA,rA⟩:=zc9
 obtain⟨dW,uW,rW⟩:=zhV
 have zw:=jZ
 have zA:=zdK
 obtain⟨la,lc,rfl⟩:=hl.form
 obtain⟨b0,b1,f2,z2⟩:=J7 w (.cells (xM pc pp).toArray 34) (.cells #[.pointer none,.pointer none] 34)
 have HG:=Hd hg
 have HX:=Hd hl
 have m:=Hd u
 have Q:=Hd t
 have K:=Hd f2
 have Y:=Hd C
 have V:=Hd h.facts.1
 have XL:=Hd h.facts.2.1
 have W:=Hd h
 have I:=Hd b0
 have B1:=Hd b1
 have Z2:=Hd z2
 have NB:=@Hd (A.bs.length≤0∧∀d∈A.bs,d.blk.txs.length≤20) (by rw[z];exact⟨Nat.le_refl _,λd hd=>by cases hd⟩)
 clear hg hl u t f2 h z b0 b1 z2 C
 go_enter Tryz.func15,Tryz.ntmps15
 go_wp2_with fail
 generalize af:w.heap.size=q0 at*
 generalize ae:((w.alloc (.cells (xM pc pp).toArray 34)).alloc (.cells #[.pointer none,.pointer none] 34))=q at*
 clear ae
 obtain⟨X2,x⟩:∃X2:Nat→Prop,X2=λj=>X j∨j=q0+1:=⟨_,rfl⟩
 have g:∀j,X2 j↔X j∨j=q0+1:=λj=>by rw[x]
 have W2:=@Hd (PS w0 q pc pp T X2 52 A) (W.o.frV K.o (λ_ _=>id) (λ_ h=>h.elim) (λ_ h=>h.elim) (λj c e=>((g j).1 e).resolve_right (by omega)) (λj c=>(g j).2 (.inl (V.o j c).2.2)) (λj c=>((g j).1 c).elim (λe=>by have:=XL.o j e;have:=K.o.size;omega) (λe=>by have:=Z2.o;omega)))
 have R2:=@Hd (zeA w0 q q q0 (q0+1) pc pp T X2 52 A T X2) (⟨W2.o.idle (frN q),⟨zv I.o,λe=>by have:=(V.o _ e).2.1;omega,yr I.o⟩,B1.o,λe=>by have:=(V.o _ e).2.1;omega,(g _).2 (.inr rfl)⟩)
 have s:=@Hd (∀j,X2 j→w0.heap.size≤j) (λj c=>((g j).1 c).elim (Y.o j) (λe=>by have:=W.o.facts.2.2.1.size;omega))
 have Z:=@Hd (∀j,X2 j→X j∨q0≤j) (λj c=>((g j).1 c).imp_right (λe=>by omega))
 have F:=@Hd (w0.heap.size≤q0∧q0≤q.heap.size) (⟨by have:=W.o.facts.2.2.1.size;omega,by have:=Z2.o;omega⟩)
 have aa:=@Hd (∀j,X j→X2 j) (λj c=>(g j).2 (.inl c))
 have ag:=m.o
 clear W2 I B1 XL g x
 go_loopw [9] (λiv wr=>∃(k:Nat) (p X':Nat→Prop) (l:PB),iv=.int .i64 k∧k≤L.length∧zeA w0 q wr q0 (q0+1) pc pp T X2 (52+k) l p X'∧l.bs.length≤k∧∀d∈l.bs,d.blk.txs.length≤20) (λiv _=>L.length-(intOf iv).toNat)
 case atStart=>exact⟨0,_,_,_,rfl,zero_le _,R2.o,NB.o⟩
 case round=>
  clear R2 NB
  obtain⟨k,p,X',l,rfl,hk,D,y,B⟩:=hrel
  rename World=>wr
  have R:=Hd D
  have n:=Hd y
  have o:=Hd B
  clear D y B
  by_cases ab:k<L.length
  ·have i1:(k:Int)<(L.length:Int):=by omega
   obtain⟨a,hx⟩:∃a,L[k]? =some a:=⟨_,getElem?_eq_getElem ab⟩
   have H:=Hd (Q.o a (List.mem_of_getElem? hx))
   obtain⟨bb,off,cap,cs,ad,hr,G⟩:=HX.o.at_ hx
   cases ad
   have R1:=Hd (za hr R.o.n.ws.facts.2.2.1 id)
   have E:=Hd G.len
   have C1:=Hd (zcV G)
   have QK:=@Hd (Kept X' wr (λw=>vW w a cs)) (λw' f=>G.keep (R.o.n.ws.facts.2.2.1.trans f (λi hi e=>(R.o.n.xn i e).elim (λe=>by have:=s.o i e;omega) (λe=>by have:=F.o;omega))))
   have FA:=Hd ((frN wr).alloc (.cells cs.toArray 91))
   have RN:=Hd (zq wr cs 91)
   have S:=Hd (R.o.fr0 FA.o)
   have U:=Hd S.o.o.1
   have QA:=Hd (QK.o.on FA.o)
   have r:=@Hd (k<80) (by have:=m.o;omega)
   clear hx hr G
   have⟨M,O,K2,K3,K4⟩:=tZ5
   go_wp2_with ((first|((with_reducible refine zt ?_);first|(clear M;refine zg rfl (zX (ty:=91) rfl rfl R1.o uA rA (by rw[E.o];exact vN)) ?_)|(clear K2;refine zg rfl (zX (ty:=34) (cs:=xM pc pp) rfl rfl U.o uW rW qR) ?_)|(clear K3;refine zg rfl (zX (ty:=91) rfl rfl RN.o uA rA (by rw[E.o];exact vN)) ?_))|((with_reducible refine zr ?_);clear O;refine zi rfl (zj (w:=wr) (ty:=91) (cs:=cs) rfl rfl rfl (by rw[E.o];rfl) (by rw[E.o];exact vN) C1.o) ?_;generalize wr.heap.size=q7 at RN⊢;generalize wr.alloc (.cells cs.toArray 91)=w1 at*)|(clear K4;go_at_call 35;refine(znK HG.o S.o.n.ws (by have:=r.o;omega) (by omega) (by have:=n.o;have:=r.o;omega) o.o QA.o).mono ?_;rintro e w5 ⟨gv,rfl,-,T5,X5,n5⟩;have R5:=Hd (S.o.next n5);clear n5));go_frame)
   go_roundw
   case rel=>exact⟨k+1,_,_,_,by go_num,by omega,R5.o,by have:=(zjv l a).1;have:=n.o;omega,zmp o.o H.o⟩
   case measure=>simp[intOf];omega
  ·have i1:¬(k:Int)<(L.length:Int):=by omega
   have U:=Hd R.o.o.1
   have⟨M,O⟩:=tZ2
   go_wp2_with ((first|((with_reducible refine zt ?_);clear M;refine zg rfl (zX (ty:=34) (cs:=xM pc pp) rfl rfl U.o uW rW qR) ?_)|((with_reducible refine zr ?_);clear O;refine zi rfl (zU (ty:=34) (b:=q0+1) (off:=0) (cs:=xM pc pp) rfl rfl rfl (yb R.o.r (Nat.le_refl 2)) qR (XV rfl rfl)) ?_));go_frame)
   have BE:=zcQ (cs:=xM pc pp) R.o.r rfl
   have fE:=zy (q0+1) (xM pc pp) 0 wr
   have WE:=R.o.n.ws.frV (X':=X') fE (λj c e=>R.o.t (by rw[←e];exact c)) (λj e=>by have:=F.o;omega) (λj e=>by rw[e];exact R.o.x) (λj _ e=>e) (λj c=>(R.o.n.ws.facts.1 j c).2.2) (λj c=>Nat.lt_of_lt_of_le (R.o.n.ws.facts.2.1 j c) fE.size)
   have NE:xO w0 w (wr.setCells (q0+1) 0 (xM pc pp)) pc pp T X 132 l p X':=
    ⟨WE.more (by have:=m.o;omega),(K.o.of0.trans R.o.n.fr (λ_ _ h=>h)).trans fE (λi hi e=>by omega),λj c=>(R.o.n.tn j c).imp_right (λe=>by have:=F.o;omega),λj c=>(R.o.n.xn j c).elim (λe=>(Z.o j e).imp_right (λe=>by omega)) (λe=>.inr (by have:=F.o;omega)),λj c=>R.o.n.xx j (aa.o j c)⟩
   exact bodyPost_ret (v:=.agg (xM pc pp).toArray) (results_cell_row (P:=prog) (fn:=Tryz.f15) rfl _ _ (q0+1) 34 _ (0,0) _ rfl BE Tryz.underlying34 rfl qR) rfl ⟨rfl,p,X',l,NE,by have:=n.o;have:=m.o;omega,o.o⟩
theorem zeo {α:Type} {x y:List α} {k:Nat} (h:x.take k=y.take k) (e:x[k]? =y[k]?):x.take (k+1)=y.take (k+1):=by rw[List.take_add_one,List.take_add_one,h,e]
def zdO (w:World) (x y:List Int) (e:Ending) (w':World):Prop:=e=.returned (.bool (decide (x=y)))∧Fr No w w'
theorem ziL (w:World) (a b:Value) (x y:List Int) (o:xQ w a x.length (x.map zQ)) (p:xQ w b y.length (y.map zQ)) (s:x.length≤maxLen):
  Calls prog 75 #[a,b] w (zdO w x y):=by
 unfold maxLen at s
 obtain⟨T,U,rfl⟩:=o.form
 obtain⟨V,W,rfl⟩:=p.form
 by_cases hl:x.length=y.length
 ·have q:((x.length:Int) !=(y.length:Int))=false:=by simp[hl]
  have v:=Hd hl
  clear hl
  go_enter Tryz.func75,Tryz.ntmps75
  go_wp2
  go_loopw [13] (λi wr=>∃n:Nat,n≤x.length∧i=.int .i64 n∧x.take n=y.take n∧Fr No w wr) (λi _=>x.length-(intOf i).toNat)
  case atStart=>exact⟨0,zero_le _,rfl,rfl,Fr.refl _ _⟩
  case round=>
   obtain⟨n,X,rfl,g,j⟩:=hrel
   by_cases hlt:n<x.length
   ·have h:n<y.length:=by have:=v.o;omega
    rcases o with(⟨_,e,_⟩|⟨z,E,c1,I,m,P,C,Q⟩)|⟨_,_,_,e,_⟩
    ·omega
    rotate_left
    ·omega
    rcases p with(⟨_,e,_⟩|⟨A,F,c2,L,M,N,B,O⟩)|⟨_,_,_,e,_⟩
    ·omega
    rotate_left
    ·omega
    cases I
    cases L
    have t:=j.cell (C n (zQ x[n]) (by rw[List.getElem?_map,getElem?_eq_getElem hlt];rfl)) id
    have u:=j.cell (B n (zQ y[n]) (by rw[List.getElem?_map,getElem?_eq_getElem h];rfl)) id
    unfold zQ at t u
    have G:=Hd g
    have Y:(n:Int)<(x.length:Int):=by omega
    have Z:(n:Int)<(y.length:Int):=by omega
    clear g m P C Q M N B O
    by_cases hx:x[n]=y[n]
    ·have r:(x[n] !=y[n])=false:=by simp[hx]
     have H:=Hd hx
     clear hx
     go_wp2
     refine wrLx [ff,ff,ff,ff,ff,ff,ff,ff,ff] (λw'=>w'.cell? ⟨z,E+n,none⟩=some (.int .u8 x[n])∧w'.cell? ⟨A,F+n,none⟩=some (.int .u8 y[n])) ?_ (λK hK=>?_)
     ·exact⟨t,u⟩
     repeat((first|(refine zk rfl ?_;constructor;constructor;(focus(rintro w' ⟨R,S⟩;exact goS)))|(refine zl rfl ?_));try simp only[Act.put,pA,pB,pC])
     refine zN (hK.out _ _ ?_)
     go_wp2
     go_roundw
     case rel=>exact⟨n+1,by omega,by go_num,zeo G.o (by simp[H.o,hlt,h]),by(repeat(first|with_reducible exact Fr.refl _ _|with_reducible assumption|with_reducible refine Fr.drew ?_|with_reducible refine Fr.drewN ?_ _|with_reducible refine Fr.alloc ?_ _|with_reducible refine Fr.setCell ?_ _ (.inl (by simp<;>omega)) _))⟩
     case measure=>simp[intOf];omega
    ·have r:(x[n] !=y[n])=true:=by simp[hx]
     have d:decide (x=y)=false:=by
      simp only[decide_eq_false_iff_not]
      intro e;subst e;exact hx rfl
     have c:∀w',Fr No w w'→zdO w x y (.returned (.bool false)) w':=λw' f=>⟨by rw[d],f⟩
     have k:=Hd c
     clear c d hx
     go_wp2
     refine wrLx [ff,ff,ff,ff,ff,ff,ff,ff,ff] (λw'=>w'.cell? ⟨z,E+n,none⟩=some (.int .u8 x[n])∧w'.cell? ⟨A,F+n,none⟩=some (.int .u8 y[n])) ?_ (λK hK=>?_)
     ·exact⟨t,u⟩
     repeat((first|(refine zk rfl ?_;constructor;constructor;(focus(rintro w' ⟨R,S⟩;exact goS)))|(refine zl rfl ?_));try simp only[Act.put,pA,pB,pC])
     refine zN (hK.out _ _ ?_)
     go_wp2
     go_ret
     exact k.o _ (by(repeat(first|with_reducible exact Fr.refl _ _|with_reducible assumption|with_reducible refine Fr.drew ?_|with_reducible refine Fr.drewN ?_ _|with_reducible refine Fr.alloc ?_ _|with_reducible refine Fr.setCell ?_ _ (.inl (by simp<;>omega)) _)))
   ·have l:n=x.length:=by omega
    have D:decide (x=y)=true:=by
     have m:=v.o
     rw[l,List.take_length,m,List.take_length] at g
     simp[g]
    have c:zdO w x y (.returned (.bool true)) wr:=⟨by rw[D],j⟩
    have k:=Hd c
    clear c D g l
    go_wp2
    go_ret
    exact k.o
 ·have q:((x.length:Int) !=(y.length:Int))=true:=by simp;omega
  have d:decide (x=y)=false:=by
   simp only[decide_eq_false_iff_not]
   intro e;subst e;exact hl rfl
  have c:∀w',Fr No w w'→zdO w x y (.returned (.bool false)) w':=λw' f=>⟨by rw[d],f⟩
  have k:=Hd c
  clear c d hl o p
  go_enter Tryz.func75,Tryz.ntmps75
  go_wp2
  go_ret
  exact k.o _ (by(repeat(first|with_reducible exact Fr.refl _ _|with_reducible assumption|with_reducible refine Fr.drew ?_|with_reducible refine Fr.drewN ?_ _|with_reducible refine Fr.alloc ?_ _|with_reducible refine Fr.setCell ?_ _ (.inl (by simp<;>omega)) _)))
theorem zlK {x:Int} (h:0≤x∧x≤18446744073709551615):(Lit.int .u64 x).wf=true:=by
 simp[Lit.wf,IntKind.min,IntKind.max,IntKind.signed,IntKind.bits]
 omega
theorem zaW:vU prog 58=[(42,0,true),(45,1,true)]:=by kernel_rfl
theorem ziu {o:yC} (h:o.ok) (d:Nat):∀x∈vU prog 58,∃l,prog.keyLits (d+2) x.1 (((zF o).drop x.2.1).take (prog.cellsOf x.1))=some l:=by
 rw[zaW]
 intro x a
 simp only[List.mem_cons,List.not_mem_nil,or_false] at a
 rcases a with rfl|rfl
 ·have e:((zF o).drop 0).take (prog.cellsOf 42)=[.int .u64 o.value]:=by
   rw[show prog.cellsOf 42=1 by kernel_rfl];rfl
  simp only[e]
  exact⟨_,Y4 (by kernel_rfl) _ (zlK h.1)⟩
 ·have e:((zF o).drop 1).take (prog.cellsOf 45)=o.lock.map zQ:=by
   rw[show prog.cellsOf 45=32 by kernel_rfl]
   show(o.lock.map zQ).take 32=o.lock.map zQ
   rw[List.take_of_length_le (by simp[h.2.1])]
  simp only[e]
  exact zb9 h.2 d
theorem zdo {o:yC} (h:o.ok):∃l,keyOf prog 58 (zcP o)=some l:=by
 have a:prog.types.size=prog.types.size-2+2:=by kernel_rfl
 refine Y5 zaW (by simp) (by decide) (by kernel_rfl) (cs:=zF o) (by rw[yq h];kernel_rfl) ?_
 rw[a,←zaW]
 exact ziu h _
theorem zmr:EqN prog 58:=⟨Keyed.of_law (deep_law_laid V3 (m:=3) (by decide) (of_decide_eq_true (by kernel_rfl)) (by kernel_rfl) (by kernel_rfl)),⟨3,by decide,by kernel_rfl⟩,by kernel_rfl,by kernel_rfl⟩
theorem zap {a b:Option Addr} {n m c d:Nat} (h:Value.slice a n c=.slice b m d):a=b∧n=m∧c=d:=by
 injection h with h1 h2 h3
 exact⟨h1,h2,h3⟩
theorem zkn (w:World) {t:TxD} {cs ds:List Value} (m:TxQ w t cs) (hy:TxQ w t ds) (hI:t.ins.length≤1000) (hO:t.outs.length≤1000):
  Calls prog 39 #[.agg cs.toArray,.agg ds.toArray] w λe w'=>e=.returned (.bool true)∧Fr No w w':=by
 obtain⟨q,r,s,y,rfl,-,xi,xo⟩:=m
 obtain⟨X,G,Y,H,rfl,-,yi,yo⟩:=hy
 obtain⟨dO,uO,rO⟩:=YT
 have zI:=Yc
 have zO:=y3
 have f1:Fr No w (w.alloc (.cells #[.int .u32 t.ver,.slice q t.ins.length r,.slice s t.outs.length y] 27)):=(frN w).alloc _
 have P:Fr No (w.alloc (.cells #[.int .u32 t.ver,.slice q t.ins.length r,.slice s t.outs.length y] 27)) ((w.alloc (.cells #[.int .u32 t.ver,.slice q t.ins.length r,.slice s t.outs.length y] 27)).alloc (.cells #[.int .u32 t.ver,.slice X t.ins.length G,.slice Y t.outs.length H] 27)):=(frN _).alloc _
 obtain⟨a0,a1,a2,-⟩:=qI w t.ver (.slice q t.ins.length r) (.slice s t.outs.length y)
 obtain⟨b0,b1,b2,-⟩:=qI (w.alloc (.cells #[.int .u32 t.ver,.slice q t.ins.length r,.slice s t.outs.length y] 27)) t.ver (.slice X t.ins.length G) (.slice Y t.outs.length H)
 rw[show(w.alloc (.cells #[.int .u32 t.ver,.slice q t.ins.length r,.slice s t.outs.length y] 27)).heap.size=w.heap.size+1 by simp] at b0 b1 b2
 have c1:=P.cell a1 _root_.id
 have c2:=P.cell a2 _root_.id
 have C2:=Hd c2
 have B1:=Hd b1
 have B2:=Hd b2
 have I:=Hd (f1.trans0 P)
 have XI:=Hd (xi.keep0 I.o)
 have YI:=Hd (yi.keep0 I.o)
 have XO:=Hd (xo.keep I.o)
 have YO:=Hd (yo.keep I.o)
 clear f1 xi yi xo yo a1 a2
 have c0:=P.cell a0 _root_.id
 clear a0 P
 show Calls prog 39 #[.agg #[.int .u32 t.ver,.slice q t.ins.length r,.slice s t.outs.length y],.agg #[.int .u32 t.ver,.slice X t.ins.length G,.slice Y t.outs.length H]] w _
 go_enter Tryz.func39,Tryz.ntmps39
 go_wp2_with fail
 generalize ((w.alloc (.cells #[.int .u32 t.ver,.slice q t.ins.length r,.slice s t.outs.length y] 27)).alloc (.cells #[.int .u32 t.ver,.slice X t.ins.length G,.slice Y t.outs.length H] 27))=w2 at*
 clear c0 c1 c2 b0 b1 b2
 go_loopw [35] (λC wr=>∃n:Nat,C=.int .i64 n∧n≤t.ins.length∧Fr No w2 wr) (λC _=>t.ins.length-(intOf C).toNat)
 case atStart=>exact⟨0,rfl,zero_le _,Fr.refl _ _⟩
 case round=>
  obtain⟨n,rfl,hn,fr⟩:=hrel
  have F:=Hd fr
  clear fr
  by_cases d:n<t.ins.length
  ·have i1:(n:Int)<(t.ins.length:Int):=by omega
   obtain⟨x,m⟩:∃x,t.ins[n]? =some x:=⟨_,getElem?_eq_getElem d⟩
   obtain⟨bx,ox,cx,xs,j,g,D,E,rfl,b,Q⟩:=(XI.o.keep0 F.o).at_ m
   obtain⟨a,l,cy,ys,k,i,ma,mc,rfl,-,R⟩:=(YI.o.keep0 F.o).at_ m
   obtain⟨rfl,-,rfl⟩:=zap j
   obtain⟨rfl,-,rfl⟩:=zap k
   have O:=Hd b
   have PL:=Hd (zW b)
   have IL:=Hd (jf b (.slice D x.key.length E))
   have R1:=Hd g
   have U:=Hd (zhe i b)
   have KX:=Hd Q
   have KY:=Hd R
   have o:=Hd ((frN wr).alloc (.cells (inC x.from_ (.slice D x.key.length E)).toArray 112))
   have N:=Hd (XF wr (p:=x.from_) (kv:=.slice D x.key.length E) b)
   clear g i Q R j k m b
   have⟨Z,K1⟩:=tZ2
   go_wp2_with ((first|((with_reducible refine zt ?_);clear Z;refine znS rfl rfl rfl R1.o IL.o ?_)|((with_reducible refine zr ?_);clear K1;refine zn1 (w:=wr) (cs:=inC x.from_ (.slice D x.key.length E)) rfl rfl rfl rfl IL.o Jm ?_;generalize wr.alloc (.cells (inC x.from_ (.slice D x.key.length E)).toArray 112)=c at*));go_frame)
   have S:=Hd ((o.o.trans0 (frN c).drew))
   have V:=Hd (λ(W:World) (f:Fr No c W)=>(⟨za N.o.1 f _root_.id,f.cell N.o.2 _root_.id,((F.o.trans0 o.o).trans0 f).cell B1.o _root_.id,za U.o.1 (o.o.trans0 f) _root_.id,(o.o.trans0 f).cell U.o.2 _root_.id⟩:W.rangeAt wr.heap.size 0 (zm x.from_)∧W.cell? ⟨wr.heap.size,33,none⟩=some (.slice D x.key.length E)∧W.cell? ⟨w.heap.size+1,1,none⟩=some (.slice (some ⟨a,l,none⟩) t.ins.length G)∧W.rangeAt a (l+n*34) (zm x.from_)∧W.cell? ⟨a,l+n*34+33,none⟩=some (.slice ma x.key.length mc)))
   have M:=@Hd (Fr No c c.drew) ((frN c).drew)
   refine wrLx [ff,ff,ff,ff,ff,ff,ff,ff,ff,ff,ff,ff,ff,ff,ff,ff,ff,ff,tt,ff,ff] (λW=>W.rangeAt wr.heap.size 0 (zm x.from_)∧W.cell? ⟨wr.heap.size,33,none⟩=some (.slice D x.key.length E)∧W.cell? ⟨w.heap.size+1,1,none⟩=some (.slice (some ⟨a,l,none⟩) t.ins.length G)∧W.rangeAt a (l+n*34) (zm x.from_)∧W.cell? ⟨a,l+n*34+33,none⟩=some (.slice ma x.key.length mc)) ?_ (λK hK=>?_)
   ·exact V.o _ M.o
   generalize c.drew=z at*
   repeat((first|(refine zk rfl ?_;constructor;constructor;(focus(first|exact znZ rfl (λw h=>h.1) PL.o|exact znZ rfl (λw h=>h.2.2.2.1) PL.o|exact λw' h=>jF.exec_neq (u:=(zm x.from_).toArray) (v:=(zm x.from_).toArray) rfl rfl rfl (xu O.o) (xu O.o) true ⟨λ_=>rfl,λ_=>rfl⟩ w'|(rintro w' ⟨s1,s2,s3,s4,s5⟩;exact goS))))|(refine zl rfl ?_));try simp only[Act.put,pA,pB,pC])
   (refine zM rfl (λK' hK'=>?_))
   go_simp
   refine(ziL z _ _ x.key x.key (KX.o.2.keep (o.o.trans0 M.o)) (KY.o.2.keep (o.o.trans0 M.o)) KX.o.2.len).mono ?_
   rintro e w5 ⟨rfl,f5⟩
   have F5:=Hd f5
   clear f5
   have DT:=@Hd (decide (x.key=x.key)=true) (by simp)
   rw[DT.o]
   refine nXt hK' ?_ λhS=>?_
   ·exact V.o _ (M.o.trans0 F5.o)
   try simp only[Act.put,pA,pB,pC]
   repeat((first|(refine zk rfl ?_;constructor;constructor;(focus(first|(rintro w' ⟨s1,s2,s3,s4,s5⟩;exact goS))))|(refine zl rfl ?_));try simp only[Act.put,pA,pB,pC])
   refine zN (hK.out _ _ ?_)
   go_wp2_with fail
   go_roundw
   case rel=>exact⟨n+1,by go_num,by omega,(F.o.trans0 o.o).trans0 (M.o.trans0 F5.o)⟩
   case measure=>simp[intOf];omega
  ·have B:n=t.ins.length:=by omega
   subst B
   clear d hn
   have i1:¬(t.ins.length:Int)<(t.ins.length:Int):=by omega
   have c2:=F.o.cell C2.o _root_.id
   go_wp2_with fail
   (try simp only[Exit.inBlock,Exit.then])
   clear c2
   go_loopw [65] (λC A=>∃n:Nat,C=.int .i64 n∧n≤t.outs.length∧Fr No w2 A) (λC _=>t.outs.length-(intOf C).toNat)
   case atStart=>exact⟨0,rfl,zero_le _,F.o⟩
   case round=>
    obtain⟨n,rfl,hn,fr⟩:=hrel
    have L:=Hd fr
    clear fr
    by_cases d:n<t.outs.length
    ·have i1:(n:Int)<(t.outs.length:Int):=by omega
     obtain⟨x,m⟩:∃x,t.outs[n]? =some x:=⟨_,getElem?_eq_getElem d⟩
     obtain⟨bx,ox,cx,j,g,-⟩:=(XO.o.keep L.o).at_ m
     obtain⟨a,l,cy,k,i,-⟩:=(YO.o.keep L.o).at_ m
     obtain⟨rfl,-,rfl⟩:=zap j
     obtain⟨rfl,-,rfl⟩:=zap k
     have OK:=Hd (XO.o.1 x (List.mem_of_getElem? m))
     have T:=Hd (yq OK.o)
     have R1:=Hd g
     have U:=Hd i
     rename World=>A
     have o:=Hd ((frN A).alloc (.cells (zF x).toArray 58))
     have RA:=Hd (zq A (zF x) 58)
     clear g i j k m
     have⟨Z,K1⟩:=tZ2
     go_wp2_with ((first|((with_reducible refine zt ?_);clear Z;refine znU rfl rfl rfl R1.o T.o ?_)|((with_reducible refine zr ?_);clear K1;refine zn2 (w:=A) (cs:=zF x) rfl rfl rfl rfl T.o yd ?_;generalize A.alloc (.cells (zF x).toArray 58)=c at*));go_frame)
     have S:=Hd (o.o.trans0 (frN c).drew)
     have V:=@Hd (c.drew.rangeAt A.heap.size 0 (zF x)∧c.drew.cell? ⟨w.heap.size+1,2,none⟩=some (.slice (some ⟨a,l,none⟩) t.outs.length H)∧c.drew.rangeAt a (l+n*33) (zF x)) (⟨za RA.o (frN c).drew _root_.id,(L.o.trans0 S.o).cell B2.o _root_.id,za U.o S.o _root_.id⟩)
     refine wrLx [ff,ff,ff,ff,ff,ff,ff] (λW=>W.rangeAt A.heap.size 0 (zF x)∧W.cell? ⟨w.heap.size+1,2,none⟩=some (.slice (some ⟨a,l,none⟩) t.outs.length H)∧W.rangeAt a (l+n*33) (zF x)) ?_ (λK hK=>?_)
     ·exact V.o
     generalize c.drew=z at*
     repeat((first|(refine zk rfl ?_;constructor;constructor;(focus(first|exact y5 (ty:=58) rfl (λw h=>h.1) uO rO (by rw[T.o];exact yW)|exact y5 (ty:=58) rfl (λw h=>h.2.2) uO rO (by rw[T.o];exact yW)|exact λw' h=>zmr.exec_neq (u:=(zF x).toArray) (v:=(zF x).toArray) rfl rfl rfl (zdo OK.o) (zdo OK.o) true ⟨λ_=>rfl,λ_=>rfl⟩ w'|(rintro w' ⟨s1,s2,s3⟩;exact goS))))|(refine zl rfl ?_));try simp only[Act.put,pA,pB,pC])
     refine zN (hK.out _ _ ?_)
     go_wp2_with fail
     go_roundw
     case rel=>exact⟨n+1,by go_num,by omega,L.o.trans0 S.o⟩
     case measure=>simp[intOf];omega
    ·have B:n=t.outs.length:=by omega
     subst B
     clear d hn
     have i1:¬(t.outs.length:Int)<(t.outs.length:Int):=by omega
     go_wp2
     go_ret
     exact⟨rfl,I.o.trans0 L.o⟩
end Go.Proofs.YtbcllfjmabiafaaGreatDoor
