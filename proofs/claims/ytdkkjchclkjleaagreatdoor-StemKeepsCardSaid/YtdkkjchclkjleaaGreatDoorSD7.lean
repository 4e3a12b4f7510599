/- stem: out. -/
import Derived.ArgAppend
import Derived.Test.YtdkkjchclkjleaaGreatDoorSD6
import Derived.Test.YtdkkjchclkjleaaGreatDoorSD5
import Derived.Test.YtdkkjchclkjleaaGreatDoorSD4
import Derived.Test.YtdkkjchclkjleaaGreatDoorSD2
import Derived.Test.YtdkkjchclkjleaaGreatDoorSD3
set_option linter.unusedVariables false
set_option linter.unusedSimpArgs false
set_option linter.unnecessarySimpa false
set_option linter.all false
set_option maxRecDepth 20000
set_option maxHeartbeats 16000000
namespace Go.Proofs.YtdkkjchclkjleaaGreatDoor
open Go Go.RowKit Go.Maps Go.MapKept
open Go.Proofs.Tryz(prog)
open List(mem_map getElem?_eq_getElem mem_append mem_of_getElem? length_append length_map take_add_one mem_singleton take_length mem_filter getElem?_map nodup_cons length_cons filter_append filter_eq_self mem_flatMap getElem_of_mem)
open Nat(le_refl zero_le le_trans le_of_eq add_comm)
variable {cs:List Value} {i:Int} {k m n:Nat} {w wr wr':World}
theorem zmK (v:Int) (d a:Option Addr) (f e c b:Nat) (w:World):(Instr.field 34 (.agg #[.int .u32 v,.slice d f e,.slice a c b]) 2).run prog w=.ok (.slice a c b) w:=by kernel_rfl
def Xu (l:List StE) (x:zd):List yI:=((Qs l x).map (·.tx.outs)).getD []
theorem zgv (l:List StE) (q:zE):zdd l q=(Xu l q.tx)[q.n.toNat]? :=by
 unfold zdd Xu
 cases Qs l q.tx with
 |none=>rfl
 |some e=>rfl
section
variable {w0 w w0p w0c:World} {ps ma ms pp mp mq g N pc:Nat} {R:Nat→Value} {X Y VG VC:Nat→Prop} {C:Nat→zd→List Value} {CP:zd→List Value} {Q:StQ} {L:List yd} {S:List zr} {bs:List yB} {I:List zd}
theorem zcB (h:yO w0 w ps ma ms R X C Q) (l:n<65) (x:zd):∃v d m f a b,ZT C Q n x=[.int .u32 v,.slice d m f,.slice a (Xu (Q n) x).length b]∧xu w (.slice a (Xu (Q n) x).length b) (Xu (Q n) x):=by
 unfold ZT vq
 by_cases hx:x∈yM (Q n)
 ·rw[if_pos (by simp only[decide_eq_true_eq];exact⟨by omega,by omega,by rw[Int.toNat_natCast];exact hx⟩),Int.toNat_natCast]
  obtain⟨e,i,rfl⟩:=mem_map.1 hx
  have c:Xu (Q n) e.id=e.tx.outs:=by unfold Xu;rw[zdc (h.val n).nd i];rfl
  obtain⟨d,f,a,b,j,-,-,k⟩:=(h.data n l e i).now
  rw[c,j]
  exact⟨e.tx.ver,d,_,f,a,b,rfl,k⟩
 ·rw[if_neg (by simp only[decide_eq_true_eq];rw[Int.toNat_natCast];exact λh=>hx h.2.2)]
  have c:Xu (Q n) x=[]:=by unfold Xu;rw[zgs.2 hx];rfl
  rw[c]
  exact⟨0,none,0,0,none,0,rfl,zbX w⟩
theorem zfo (h:yO w0 w ps ma ms R X C Q) (a:n<65) (q:zE):((zdd (Q n) q).getD y6).ok:=by
 unfold zdd
 cases hs:Qs (Q n) q.tx with
 |none=>exact Zn
 |some e=>
  simp only[Option.bind_some]
  cases ho:e.tx.outs[q.n.toNat]? with
  |none=>exact Zn
  |some o=>
   exact(h.data n a e (zgt hs).1).now.oks.2 o (mem_of_getElem? ho)
theorem zlf (h:yO w0 w ps ma ms R X C Q) (b:yq w0p w pp mp mq g VG Y CP L N) (hS:∀c∈S,c.ok) (a:n<65) (q:zE):((ZV S L (Q n) q).getD y6).ok:=by
 unfold ZV qP
 by_cases hc:xJ S q=true
 ·rw[if_pos hc]
  exact vI hS q
 ·rw[if_neg hc]
  have:=Yn b.outs_ok q
  cases hf:xm L q with
  |some o=>rw[hf] at this;exact this
  |none=>exact zfo h a q
def zl1 (w:World) (S:List zr) (L:List yd) (l:List StE) (q:zE) (e:Ending) (w':World):Prop:=
 e=.returned (.tuple #[.agg (zJ ((ZV S L l q).getD y6)).toArray,.bool (ZV S L l q).isSome])∧Fr No w w'
theorem znW (h:yO w0 w ps ma ms R X C Q) (hp:yq w0p w pp mp mq g VG Y CP L N) (hc:Cn w0c w pc VC S bs I) (hS:∀c∈S,c.ok) (hn:n<65) {q:zE} (hq:q.ok):
  Calls prog 76 #[.pointer (some ⟨ps,0,none⟩),.pointer (some ⟨pc,0,none⟩),.pointer (some ⟨pp,0,none⟩),.int .i64 n,.agg (zn q).toArray] w (zl1 w S L (Q n) q):=by
 obtain⟨dO,uO,rO⟩:=YJ
 have zo:=y9
 have aA:(n:Int)<65:=by omega
 have i0:(0:Int)≤(n:Int):=by omega
 have HN:=J hn
 have f1:Fr No w ((w.alloc (.cells (zn q).toArray 95)).alloc (.cells (zJ y6).toArray 103)):=((frN w).alloc _).alloc _
 have RB:=J (za (zy w (zn q) 95) ((frN _).alloc (.cells (zJ y6).toArray 103)) id)
 have E:=J (yJ (w.alloc (.cells (zn q).toArray 95)) (.cells (zJ y6).toArray 103) (n:=w.heap.size+1) (by simp))
 have ad:=@J (((w.alloc (.cells (zn q).toArray 95)).alloc (.cells (zJ y6).toArray 103)).heap.size=w.heap.size+2) (by simp)
 have PL:=J (z6 hq)
 have QL:=J (zx hq.1)
 have p:=J hq
 have F1:=J f1
 have ab:=J (λw' (f:Fr No w w')=>zcP (hc.fr0 f) hq)
 have ag:=J (λw' (f:Fr No w w')=>zjy (hp.fr0 f) hq)
 have HH:=J h
 have j:=J (yz (vI hS q))
 have a:=J (yz (Yn hp.outs_ok q))
 have ar:=J (λw' (f:Fr No w w')=>zcB (h.fr0 f) hn q.tx)
 clear h hp hc hS hn hq f1
 by_cases hhas:xJ S q=true
 ·have D:=J hhas
  have r:=@J (ZV S L (Q n) q=some (yl S q)) (by unfold ZV qP;rw[if_pos hhas])
  clear hhas
  go_enter Tryz.func76,Tryz.ntmps76
  have⟨F,G,K2,K3,K4⟩:=tZ5
  go_wp2_with ((first|((with_reducible refine zt ?_);first|(clear F;refine zod rfl rfl rfl RB.o PL.o ?_;generalize an:w.heap.size=A at*;generalize (w.alloc (.cells (zn q).toArray 95)).alloc (.cells (zJ y6).toArray 103)=wz at*)|(clear K3;refine zob rfl rfl rfl RO.o j.o ?_))|(clear G;go_at_call 126;refine(ab.o wz F1.o).mono ?_;rintro e d ⟨rfl,l⟩;rw[D.o];have F3:=J (F1.o.trans0 l);have R3:=J (za RB.o l id);have x:=J (l.obj E.o id);have RO:=J (zy d (zJ (yl S q)) 103);have u:=J ((frN d).alloc (.cells (zJ (yl S q)).toArray 103));have Z3:=@J (A+2≤d.heap.size) (by have:=l.size;have:=ad.o;omega);clear l)|((with_reducible refine zv ?_);first|(clear K2;refine zok (w:=d) (cs:=zJ (yl S q)) rfl rfl rfl rfl j.o yf ?_;generalize ao:d.heap.size=n3 at*;generalize d.alloc (.cells (zJ (yl S q)).toArray 103)=w4 at*;have F4:=J (F3.o.trans0 u.o);have R4:=J (za R3.o u.o id);have s:=J (u.o.obj x.o id))|(clear K4;refine zi rfl (zK (ty:=103) (b:=A+1) (off:=0) (cs:=zJ (yl S q)) rfl rfl rfl (by rw[j.o];exact zX s.o (le_of_eq yA.symm)) (by rw[j.o];exact yG) yf) ?_)));go_frame)
  refine bodyPost_ret (ym (P:=prog) (fn:=Tryz.f76) rfl _ rfl (yx s.o (by rw[j.o];exact yA)) uO rO (by rw[j.o];exact yG) rfl) rfl ⟨by rw[r.o];rfl,?_⟩
  exact F4.o.trans (zu _ _ _ _) (λi hi e=>by omega)
 ·have z:xJ S q=false:=by simpa using hhas
  have D:=J z
  have ah:=J hhas
  clear hhas z
  cases hf:xm L q with
  |some o=>
   have aa:=J hf
   have r:=@J (ZV S L (Q n) q=some o) (by unfold ZV qP;rw[if_neg ah.o,hf])
   have aq:(zJ o).length=33:=by have:=a.o;rw[hf] at this;exact this
   have a:=J aq
   clear aq
   clear hf
   go_enter Tryz.func76,Tryz.ntmps76
   have⟨F,G,K2,K3,K4,K5,K6,K7⟩:=tZ8
   go_wp2_with ((first|((with_reducible refine zt ?_);first|(clear F;refine zod rfl rfl rfl RB.o PL.o ?_;generalize an:w.heap.size=A at*;generalize (w.alloc (.cells (zn q).toArray 95)).alloc (.cells (zJ y6).toArray 103)=wz at*)|(clear K3;refine zod rfl rfl rfl R4.o PL.o ?_)|(clear K6;refine zob rfl rfl rfl aj.o a.o ?_))|(clear G;go_at_call 126;refine(ab.o wz F1.o).mono ?_;rintro e d ⟨rfl,l⟩;rw[D.o];have F3:=J (F1.o.trans0 l);have R3:=J (za RB.o l id);have x:=J (l.obj E.o id);have RO:=J (zy d (zJ (yl S q)) 103);have u:=J ((frN d).alloc (.cells (zJ (yl S q)).toArray 103));have Z3:=@J (A+2≤d.heap.size) (by have:=l.size;have:=ad.o;omega);clear l)|(clear K4;go_at_call 127;refine(ag.o w4 F4.o).mono ?_;rintro e B ⟨rfl,U⟩;rw[aa.o];have F5:=J (F4.o.trans0 U);have R5:=J (za R4.o U id);have ae:=J (U.obj s.o id);have aj:=J (zy B (zJ o) 103);have m:=J ((frN B).alloc (.cells (zJ o).toArray 103));clear U)|((with_reducible refine zv ?_);first|(clear K2;refine zok (w:=d) (cs:=zJ (yl S q)) rfl rfl rfl rfl j.o yf ?_;generalize ao:d.heap.size=n3 at*;generalize d.alloc (.cells (zJ (yl S q)).toArray 103)=w4 at*;have F4:=J (F3.o.trans0 u.o);have R4:=J (za R3.o u.o id);have s:=J (u.o.obj x.o id))|(clear K5;refine zok (w:=B) (cs:=zJ o) rfl rfl rfl rfl a.o yf ?_;generalize ay:B.heap.size=n5 at*;generalize B.alloc (.cells (zJ o).toArray 103)=w6 at*;have F6:=J (F5.o.trans0 m.o);have R6:=J (za R5.o m.o id);have H:=J (m.o.obj ae.o id))|(clear K7;refine zi rfl (zK (ty:=103) (b:=A+1) (off:=0) (cs:=zJ o) rfl rfl rfl (by rw[a.o];exact zX H.o (le_of_eq yA.symm)) (by rw[a.o];exact yG) yf) ?_)));go_frame)
   refine bodyPost_ret (ym (P:=prog) (fn:=Tryz.f76) rfl _ rfl (yx H.o (by rw[a.o];exact yA)) uO rO (by rw[a.o];exact yG) rfl) rfl ⟨by rw[r.o];rfl,?_⟩
   exact F6.o.trans (zu _ _ _ _) (λi hi e=>by omega)
  |none=>
   have aa:=J hf
   have r:=@J (ZV S L (Q n) q=zdd (Q n) q) (by unfold ZV qP;rw[if_neg ah.o,hf])
   have a:=J (yz Zn)
   obtain⟨o,ho⟩:∃o,o=y6:=⟨_,rfl⟩
   clear hf
   go_enter Tryz.func76,Tryz.ntmps76
   have⟨F,G,K2,K3,K4,K5⟩:=tZ6
   go_wp2_with ((first|((with_reducible refine zt ?_);first|(clear F;refine zod rfl rfl rfl RB.o PL.o ?_;generalize an:w.heap.size=A at*;generalize (w.alloc (.cells (zn q).toArray 95)).alloc (.cells (zJ y6).toArray 103)=wz at*)|(clear K3;refine zod rfl rfl rfl R4.o PL.o ?_))|(clear G;go_at_call 126;refine(ab.o wz F1.o).mono ?_;rintro e d ⟨rfl,l⟩;rw[D.o];have F3:=J (F1.o.trans0 l);have R3:=J (za RB.o l id);have x:=J (l.obj E.o id);have RO:=J (zy d (zJ (yl S q)) 103);have u:=J ((frN d).alloc (.cells (zJ (yl S q)).toArray 103));have Z3:=@J (A+2≤d.heap.size) (by have:=l.size;have:=ad.o;omega);clear l)|(clear K4;go_at_call 127;refine(ag.o w4 F4.o).mono ?_;rintro e B ⟨rfl,U⟩;rw[aa.o];have F5:=J (F4.o.trans0 U);have R5:=J (za R4.o U id);have ae:=J (U.obj s.o id);have aj:=J (zy B (zJ y6) 103);have m:=J ((frN B).alloc (.cells (zJ y6).toArray 103));clear U)|((with_reducible refine zv ?_);first|(clear K2;refine zok (w:=d) (cs:=zJ (yl S q)) rfl rfl rfl rfl j.o yf ?_;generalize ao:d.heap.size=n3 at*;generalize d.alloc (.cells (zJ (yl S q)).toArray 103)=w4 at*;have F4:=J (F3.o.trans0 u.o);have R4:=J (za R3.o u.o id);have s:=J (u.o.obj x.o id))|(clear K5;refine zok (w:=B) (cs:=zJ y6) rfl rfl rfl rfl a.o yf ?_;generalize ay:B.heap.size=n5 at*;generalize B.alloc (.cells (zJ y6).toArray 103)=w6 at*;have F6:=J (F5.o.trans0 m.o);have R6:=J (za R5.o m.o id);have H:=J (m.o.obj ae.o id))));go_frame)
   have FD:=J F6.o.drew
   have HD:=J (HH.o.fr0 FD.o)
   have RD:=J (za R6.o (frN w6).drew id)
   have T:=J ((frN w6).drew.obj H.o id)
   obtain⟨M,hM,hm⟩:=HD.o.am
   obtain⟨v,ia,il,ic,oa,oc,W,af⟩:=ar.o w6.drew FD.o
   have LK:=@J (∀w',vi w' ma M→(Instr.lookup 113 (.map (some ma)) (.agg (skC (n,q.tx)).toArray) false).run prog w'=.ok (.agg #[.int .u32 v,.slice ia il ic,.slice oa (Xu (Q n) q.tx).length oc]) w') (λw' h'=>by
    have:=Zm (w:=w') (Vq HN.o) p.o.1 h' hm false
    rw[W] at this
    simpa using this)
   have HM:=J hM
   have HO:=J af
   have av:=J (JH (k:=((n:Int),q.tx)) p.o.1)
   have au:=J (zaT RD.o p.o).1
   have ai:=J QL.o
   have Z:=af.2.len
   have ak:=p.o.2.1
   have ax:=p.o.2.2
   rw[zgv] at r
   unfold zf at ai
   clear hM hm W af
   generalize Xu (Q n) q.tx=O at*
   refine wrLx [ff,ff,ff,ff,ff,ff,ff,ff,ff,ff,ff] (λw'=>w'.cell? ⟨ps,0,none⟩=some (.map (some ma))∧w'.rangeAt A 0 (q.tx.map zN)∧vi w' ma M) ?_ (λK hK=>?_)
   ·exact⟨HD.o.cells.1,au.o,HM.o⟩
   repeat((first|(refine zl rfl ?_;constructor;constructor;(focus(first|exact zog rfl (λw h=>h.2.1) ai.o|exact λw' _=>yQ (t:=110) rfl rfl vL (jU _ p.o.1) (vJ _ _) av.o|exact λw' h=>zM (t:=113) rfl rfl rfl (LK.o w' h.2.2)|exact λw' _=>vY (t:=34) (f:=2) rfl rfl (zmK v ia oa il ic O.length oc w')|(rintro w' ⟨s1,s2,s3⟩;exact goS))))|(refine zm rfl ?_));try simp only[Act.put,pA,pB,pC])
   refine zL (hK.out _ _ ?_)
   have aw:w6.drew.cell? ⟨A,32,none⟩=some (.int .u32 q.n):=by
    have:=(zaT RD.o p.o).2
    simpa using this
   clear RB HM LK E
   by_cases hb:q.n.toNat<O.length
   ·obtain⟨oo,V⟩:∃o,O[q.n.toNat]? =some o:=⟨_,getElem?_eq_getElem hb⟩
    obtain⟨b,off,az,e,hr,-⟩:=HO.o.at_ V
    injection e with e1 e2 e3
    subst e1
    subst e3
    have OK:=J (HO.o.1 oo (mem_of_getElem? V))
    have OL:=J (yz OK.o)
    obtain⟨k,hk⟩:∃k:Nat,q.n=(k:Int):=Int.eq_ofNat_of_zero_le ak
    have y:=J (r.o.trans V)
    rw[hk] at hb hr aw ax
    simp only[Int.toNat_natCast] at hb hr
    have i2:(k:Int)<IntKind.u64.wrap (O.length:Int):=by rw[Vb Z];omega
    have i1:(k:Int)<(O.length:Int):=by omega
    have R1:=J hr
    clear hr V ak hk
    have⟨F,G⟩:=tZ2
    go_wp2_with ((first|((with_reducible refine zt ?_);clear F;with_reducible refine yv 54 ?_;refine zob rfl rfl rfl R1.o OL.o ?_)|((with_reducible refine zv ?_);clear G;refine zi rfl (zK (ty:=103) (b:=A+1) (off:=0) (cs:=zJ oo) rfl rfl rfl (by rw[OL.o];exact zX T.o (le_of_eq yA.symm)) (by rw[OL.o];exact yG) yf) ?_));go_frame)
    refine bodyPost_ret (ym (P:=prog) (fn:=Tryz.f76) rfl _ rfl (yx T.o (by rw[OL.o];exact yA)) uO rO (by rw[OL.o];exact yG) rfl) rfl ⟨by rw[y.o];rfl,?_⟩
    exact FD.o.trans (zu _ _ _ _) (λi hi e=>by omega)
   ·have al:O[q.n.toNat]? =none:=List.getElem?_eq_none (by omega)
    have y:=J (r.o.trans al)
    have i1:¬q.n<IntKind.u64.wrap (O.length:Int):=by rw[Vb Z];omega
    have i2:¬q.n<(O.length:Int):=by omega
    clear al hb
    have⟨F,G⟩:=tZ2
    go_wp2_with ((first|((with_reducible refine zt ?_);clear F;with_reducible refine yv 55 ?_;refine zg rfl (yk (t:=103) rfl rfl (zgR _)) ?_)|((with_reducible refine zv ?_);clear G;refine zi rfl (zK (ty:=103) (b:=A+1) (off:=0) (cs:=zJ y6) rfl rfl rfl (by rw[a.o];exact zX T.o (le_of_eq yA.symm)) (by rw[a.o];exact yG) yf) ?_));go_frame)
    refine bodyPost_ret (ym (P:=prog) (fn:=Tryz.f76) rfl _ rfl (yx T.o (by rw[a.o];exact yA)) uO rO (by rw[a.o];exact yG) rfl) rfl ⟨by rw[y.o];rfl,?_⟩
    exact FD.o.trans (zu _ _ _ _) (λi hi e=>by omega)
end
theorem zaM {α:Type}:∀(l:List α) (p:Nat),l.take p++l.drop (p+1)=l.eraseIdx p
 |[],p=>by simp
 |x::l,0=>by simp
 |x::l,p+1=>by simp[zaM l p]
theorem Qt:∀(cs xs:List Value) (o:Nat),o+cs.length≤xs.length→(setM xs o cs).take (o+cs.length)=xs.take o++cs
 |[],xs,o,_=>by simp[setM]
 |v::r,xs,o,h=>by
  simp only[length_cons] at h
  simp only[setM]
  have:=Qt r (xs.set o v) (o+1) (by rw[List.length_set];omega)
  rw[show o+(v::r).length=o+1+r.length by simp;omega,this,take_add_one,List.getElem?_set_self (by omega),List.take_set_of_le (le_refl _)]
  simp
theorem zaN {l:List zd} (ok:∀x∈l,zY x) (p:Nat) (e:p≤l.length):(l.flatMap zf).take (p*32)=(l.take p).flatMap zf∧(l.flatMap zf).drop (p*32)=(l.drop p).flatMap zf:=by
 have b:((l.take p).flatMap zf).length=p*32:=by
  rw[xI zf 32 _ (λa d=>zx (ok a (List.mem_of_mem_take d))),List.length_take,Nat.min_eq_left e]
 have c:l.flatMap zf=(l.take p).flatMap zf++(l.drop p).flatMap zf:=by rw[←List.flatMap_append,List.take_append_drop]
 rw[c]
 exact⟨List.take_left' b,List.drop_left' b⟩
theorem zdx {B:Nat} {v:Value} {l:List zd} (y:w.ownsRow B 41 32 v l.length (l.flatMap zf)) (ok:∀x∈l,zY x) (U:l.length≤100000) {p:Nat} (R:p<l.length):
  Calls prog 84 #[v,.int .i64 p,.int .i64 (p+1)] w λe w'=>∃W,e=.returned W∧w'.ownsRow B 41 32 W (l.eraseIdx p).length ((l.eraseIdx p).flatMap zf)∧Fr (λj=>v.ownBlock=some j) w w'∧∀j,W.ownBlock=some j→v.ownBlock=some j:=by
 obtain⟨n,N⟩:∃n,n=l.length:=⟨_,rfl⟩
 have X:=@J ((l.eraseIdx p).length=n-1) (by rw[List.length_eraseIdx,if_pos R,N])
 obtain⟨g,f,rfl⟩:∃g f,v=.slice (some ⟨g,0,none⟩) n f:=by
  rcases y.2 with⟨_,e⟩|⟨g,c,ab,e,_⟩
  ·omega
  ·exact⟨g,c,by rw[e,N]⟩
 have Y:=J (zaN ok p (by omega)).1
 have T:=J (zaN ok (p+1) (by omega)).2
 rw[←N] at y R U
 have aa:n≤f:=xG.cap y.slice.arg
 obtain⟨i,hi,hz,S,hb⟩:=info_parts qm
 have o:(l.flatMap zf).length=n*32:=y.1
 have d:∀u∈(l.drop (p+1)).flatMap zf,u.oneCell'=true:=JC
 rw[←T.o] at d
 have L:=@J ((l.take p).flatMap zf++(l.drop (p+1)).flatMap zf=(l.eraseIdx p).flatMap zf) (by rw[←zaM,List.flatMap_append])
 rw[←Y.o,←T.o] at L
 obtain⟨xs,O⟩:∃xs,xs=l.flatMap zf:=⟨_,rfl⟩
 rw[←O] at y o d L
 clear Y T O
 obtain⟨news,a⟩:∃news,news=xs.drop ((p+1)*32):=⟨_,rfl⟩
 have z:news.length=(n-(p+1))*32:=by rw[a,List.length_drop,o];omega
 have F:∀j u,news[j]? =some u→w.drew.cell? ⟨g,(p+1)*32+j,none⟩=some u:=λj u s=>by
  rw[a,List.getElem?_drop] at s
  have ae:=(List.getElem?_eq_some_iff.1 s).1
  show w.cell? _=_
  rw[y.cellAt _ (by omega),s]
 rw[←a] at d L
 have Q:=zb y (frN w).drew (λ_ _=>id)
 have q:=J (qX Q (p*32) (cs:=news) (by omega))
 have E:=J ((Fr.refl (λj=>(Value.slice (some ⟨g,0,none⟩) n f).ownBlock=some j) w).drew.trans (zu g news (p*32) w.drew) (λk _ V=>by rw[V];rfl))
 have b:∀(A:Addr) (c:Nat),(∀j u,news[j]? =some u→w.drew.cell? (A.add j)=some u)→∀ty,(Builtin.append_ #[38,38] ty #[.slice (some ⟨g,0,none⟩) p f,.slice (some A) (n-(p+1)) c]).run prog w.drew=.ok (.slice (some ⟨g,0,none⟩) (n-1) f) (w.drew.setCells g (p*32) news):=λA c hA ty=>by
  have:=run_append_room_cells (P:=prog) (w:=w.drew) 38 ty 41 i xP hi g 0 p f A (n-(p+1)) c news (by rw[S];exact z) hA d (by omega) (λj s=>by
   rw[S,z] at*
   rw[show(0+p*32+j)=p*32+j by omega,Q.cellAt _ (by omega),getElem?_eq_getElem (by omega)]
   rfl) (λj _=>Q.frozenAt _)
  rw[S,show p+(n-(p+1))=n-1 by omega,show 0+p*32=p*32 by omega] at this
  exact this
 obtain⟨I,H⟩:∃I,I=w.drew.setCells g (p*32) news:=⟨_,rfl⟩
 rw[←H] at q E
 simp only[←H] at b
 obtain⟨cs,G,C⟩:=ZK (P:=prog) I 38 41 0 (zf yR) xP yS zU (by rw[zx xM];decide) g ((n-1)*32) (n-(n-1)) (f-(n-1)) (by omega) (λj s=>by
  rw[zx xM] at s
  have ad:=q.o.1
  refine⟨?_,q.o.frozenAt _⟩
  rw[q.o.cellAt _ (by omega),getElem?_eq_getElem (by omega)]
  rfl)
 rw[zx xM] at G
 have M:=J (Zr (qX q.o ((n-1)*32) (cs:=cs) (by rw[G];omega)) (m:=n-1) (by omega))
 have HF:=@J ((setM (setM xs (p*32) news) ((n-1)*32) cs).take ((n-1)*32)=(l.eraseIdx p).flatMap zf) (by
  rw[YR _ _ _ _ (le_refl _)]
  have:=Qt news xs (p*32) (by omega)
  rw[show p*32+news.length=(n-1)*32 by omega] at this
  rw[this,L.o])
 have Z:=J (E.o.trans (zu g cs ((n-1)*32) I) (λk _ V=>by rw[V];rfl))
 have D:=J C
 have r:=@J ((I.setCells g ((n-1)*32) cs).ownsRow B 41 32 (.slice (some ⟨g,0,none⟩) (n-1) f) (l.eraseIdx p).length ((l.eraseIdx p).flatMap zf)∧Fr (λj=>(Value.slice (some ⟨g,0,none⟩) n f).ownBlock=some j) w (I.setCells g ((n-1)*32) cs)∧∀j,(Value.slice (some ⟨g,0,none⟩) (n-1) f).ownBlock=some j→(Value.slice (some ⟨g,0,none⟩) n f).ownBlock=some j) (⟨by rw[X.o,←HF.o];exact M.o,Z.o,λ_ h=>h⟩)
 have h1:p≤f:=by omega
 have h2:p+1≤n:=by omega
 have i1:(0:Int)≤(p:Int)+1:=by omega
 have i2:(p:Int)+1≤(n:Int):=by omega
 have h3:¬f=n-1:=by omega
 have i3:(0:Int)≤((n-1:Nat):Int):=by omega
 have i4:((n-1:Nat):Int)≤(n:Int):=by omega
 have i5:(n:Int)≤(f:Int):=by omega
 have n1:n-1≤n:=by omega
 clear q E G M HF Z C L X Q d H hz hb S hi
 by_cases hce:f=p+1
 ·obtain rfl:n=p+1:=by omega
  subst hce
  have t:=J (b ⟨g,0,none⟩ 0 (λj u s=>by
   rw[List.length_eq_zero_iff.1 (show news.length=0 by omega)] at s
   simp at s))
  clear b F z a o y N ok U R
  simp only[Nat.add_sub_cancel,Nat.sub_self,Nat.add_sub_cancel_left] at t D r
  have h5:¬(p+1=p):=by omega
  have i6:(0:Int)≤(p:Int):=by omega
  have i7:(p:Int)≤(p:Int)+1:=by omega
  have h6:p+1-p=1:=by omega
  go_enter Tryz.func84,Tryz.ntmps84
  go_wp2
  refine wrLx [ff,ff,ff,ff,ff,ff,tt,ff] (λw'=>True) ?_ (λK hK=>?_)
  ·trivial
  repeat((first|(refine zl rfl ?_;constructor;constructor;(focus(rintro w' _;exact goS)))|(refine zm rfl ?_));try simp only[Act.put,pA,pB,pC])
  (refine zF rfl (λK' hK'=>?_))
  refine yr rfl rfl rfl (t.o _) ?_
  refine nXt hK' ?_ λhS=>?_
  ·trivial
  try simp only[Act.put,pA,pB,pC]
  repeat((first|(refine zl rfl ?_;constructor;constructor;(focus(rintro w' _;exact goS)))|(refine zm rfl ?_));try simp only[Act.put,pA,pB,pC])
  refine zL (hK.out _ _ ?_)
  go_wp2_with (refine jX rfl rfl rfl D.o ?_)
  go_ret
  exact⟨_,rfl,r.o⟩
 ·have t:=J (b ⟨g,(p+1)*32,none⟩ (f-(p+1)) (λj u s=>by rw[Zv];exact F j u s))
  clear b F z a o y N ok U R
  go_enter Tryz.func84,Tryz.ntmps84
  go_wp2
  refine wrLx [ff,ff,ff,ff,ff,ff,tt,ff] (λw'=>True) ?_ (λK hK=>?_)
  ·trivial
  repeat((first|(refine zl rfl ?_;constructor;constructor;(focus(rintro w' _;exact goS)))|(refine zm rfl ?_));try simp only[Act.put,pA,pB,pC])
  (refine zF rfl (λK' hK'=>?_))
  refine yr rfl rfl rfl (t.o _) ?_
  refine nXt hK' ?_ λhS=>?_
  ·trivial
  try simp only[Act.put,pA,pB,pC]
  repeat((first|(refine zl rfl ?_;constructor;constructor;(focus(rintro w' _;exact goS)))|(refine zm rfl ?_));try simp only[Act.put,pA,pB,pC])
  refine zL (hK.out _ _ ?_)
  go_wp2_with (refine jX rfl rfl rfl D.o ?_)
  go_ret
  exact⟨_,rfl,r.o⟩
theorem erase_filter:∀ {l:List zd} {i:Nat} {x:zd},l.Nodup→l[i]? =some x→l.eraseIdx i=l.filter λy=>decide (y≠x)
 |[],i,x,_,h=>by simp at h
 |a::l,0,x,hn,h=>by
  obtain⟨b,c⟩:=nodup_cons.1 hn
  simp at h
  subst h
  rw[List.eraseIdx_cons_zero,List.filter_cons_of_neg (by simp),filter_eq_self.2]
  intro y d
  simp
  rintro rfl
  exact b d
 |a::l,i+1,x,hn,h=>by
  obtain⟨b,c⟩:=nodup_cons.1 hn
  simp only[List.getElem?_cons_succ] at h
  rw[List.eraseIdx_cons_succ,List.filter_cons_of_pos (by simp;rintro rfl;exact b (mem_of_getElem? h)),erase_filter c h]
theorem za8 {α:Type} {l:List α} {n:Nat} {e:α} (h:l[n]? =some e):l.drop n=e::l.drop (n+1):=by
 obtain⟨a,rfl⟩:=List.getElem?_eq_some_iff.1 h
 exact List.drop_eq_getElem_cons a
theorem zkk {α:Type} {l:List α} {n:Nat} {e:α} (h:l[n]? =some e):l=l.take n++e::l.drop (n+1):=by rw[←za8 h,List.take_append_drop]
def J5 (l:List StE) (K:List zd) (n:Nat):List StE:=(l.take n).filter (λe=>decide (e.id∉K))++l.drop n
def jK (l:List StE) (K:List zd) (n:Nat):List StE:=(l.take n).filter λe=>decide (e.id∈K)
section
variable {l:List StE} {K:List zd} {n:Nat} {e:StE}
theorem zgy:J5 l K 0=l:=by simp[J5]
theorem ziD:J5 l K l.length=l.filter λe=>decide (e.id∉K):=by simp[J5]
theorem zgb:jK l K 0=[]:=by simp[jK]
theorem zhO:jK l K l.length=l.filter λe=>decide (e.id∈K):=by simp[jK]
theorem zhP:(jK l K n).length≤n:=by
 unfold jK
 have a:=List.length_filter_le (λe:StE=>decide (e.id∈K)) (l.take n)
 have b:(l.take n).length≤n:=by rw[List.length_take];omega
 omega
theorem zgx (h:l[n]? =some e) (a:e.id∉K):J5 l K (n+1)=J5 l K n∧jK l K (n+1)=jK l K n:=by
 unfold J5 jK
 rw[take_add_one,h,za8 h]
 simp[filter_append,a]
theorem zhR (h:l[n]? =some e):yM l=yM (l.take n)++e.id::yM (l.drop (n+1)):=by
 conv=>lhs;rw[zkk h]
 simp[yM]
theorem ziE (f:(yM l).Nodup) (h:l[n]? =some e) (d:e.id∈K):J5 l K (n+1)=Vi (J5 l K n) e.id∧jK l K (n+1)=jK l K n++[e]:=by
 rw[zhR h] at f
 obtain⟨p,k,m⟩:=List.nodup_append.1 f
 obtain⟨o,q⟩:=nodup_cons.1 k
 constructor
 ·unfold J5 Vi
  have g:[e].filter (λa=>decide (a.id∉K))=[]:=by simp[d]
  have i:(e::l.drop (n+1)).filter (λa=>decide (a.id≠e.id))=l.drop (n+1):=by
   rw[List.filter_cons_of_neg (by simp),filter_eq_self]
   intro a c
   simp only[decide_eq_true_eq]
   exact λb=>o (by rw[←b];exact mem_map.2 ⟨a,c,rfl⟩)
  have j:((l.take n).filter (λa=>decide (a.id∉K))).filter (λa=>decide (a.id≠e.id))=(l.take n).filter (λa=>decide (a.id∉K)):=by
   rw[filter_eq_self]
   intro a c
   simp only[decide_eq_true_eq]
   exact λb=>m a.id (mem_map.2 ⟨a,(mem_filter.1 c).1,rfl⟩) e.id (.head _) b
  rw[take_add_one,h,za8 h,filter_append,filter_append,i,j]
  simp only[Option.toList_some]
  rw[g,List.append_nil]
 ·unfold jK
  rw[take_add_one,h]
  simp[filter_append,d]
theorem ziF (h:l[n]? =some e):e∈J5 l K n:=by
 unfold J5
 rw[za8 h]
 simp
theorem zjk {x:zd}:∀e∈Vi l x,e∈l:=λ_ h=>(mem_filter.1 h).1
end
def vr (R:Nat→Value) (n:Nat) (v:Value):Nat→Value:=λj=>if j=n then v else R j
def Vj (p ma ms:Nat) (v:Value):Nat→Prop:=λj=>j=p∨j=ma∨j=ms∨v.ownBlock=some j
theorem Qu {w:World} {q:Nat} {x:zd} (h:w.rangeAt q 0 (skC (i,x))):w.cell? ⟨q,0,none⟩=some (.int .i64 i)∧w.rangeAt q 1 (zf x):=by
 refine⟨by simpa using h 0 _ rfl,λj v a=>?_⟩
 have:=h (j+1) v (by unfold skC;rw[List.getElem?_cons_succ];exact a)
 rw[Nat.zero_add] at this
 rw[add_comm]
 exact this
section
variable {w0 w w':World} {p ma ms:Nat} {R:Nat→Value} {X:Nat→Prop} {C:Nat→zd→List Value} {Q:StQ}
theorem Jh (a:n<65):∀j,Vj p ma ms (R n) j→stV p ma ms R j:=by
 rintro j (e|e|e|e)
 ·exact .inl e
 ·exact .inr (.inl e)
 ·exact .inr (.inr (.inl e))
 ·exact .inr (.inr (.inr ⟨n,a,e⟩))
theorem yO.upd (h:yO w0 w p ma ms R X C Q) (s:n<65) {m:Value} {d:List StE} {o:Nat→zd→List Value} {X':Nat→Prop} (f:Fr (Vj p ma ms (R n)) w w')
  (obj:w'.heap[p]? =some (.cells (stC ma ms (vr R n m)).toArray 116 (0,0)))
  (row:w'.ownsRow w0.heap.size 41 32 m (yM d).length ((yM d).flatMap zf))
  (am:∃M,vi w' ma M∧∀k cs,(k,cs)∈M↔∃i:Nat,i<65∧k.1=(i:Int)∧∃e∈jg Q n d i,e.id=k.2∧cs=o i k.2)
  (sm:∃M,Yl w' ms M∧∀k x,(k,x)∈M↔∃i:Nat,i<65∧k.1=(i:Int)∧∃e∈jg Q n d i,k.2∈zZ e.tx∧e.id=x)
  (data:∀e∈d,Kept X' w' (λw=>TxQ w e.tx (o n e.id))) (v:∀i,i≠n→o i=C i) (val:SVal d) (u:∀j,m.ownBlock=some j→(R n).ownBlock=some j∨w.heap.size≤j)
  (y:∀j,j<w.heap.size→X' j→X j) (z:∀j,stV p ma ms (vr R n m) j→X' j):yO w0 w' p ma ms (vr R n m) X' o (jg Q n d):=by
 have l:∀j,Vj p ma ms (R n) j→stV p ma ms R j:=Jh s
 refine {obj:=obj,row:=λi hi=>?_,am:=am,sm:=sm,data:=λi hi e r=>?_,val:=λi=>?_,apart:=h.apart,rnot:=λi hi j a=>?_,rapart:=λi k hi t g j a b=>?_,lo3:=h.lo3,fr:=h.fr.trans f (λj a e=>by have:=h.lo j (l j e);omega),sub:=z}
 ·by_cases e:i=n
  ·subst e
   unfold vr
   rw[if_pos rfl,xQ]
   exact row
  ·unfold vr
   rw[if_neg e,qA Q d e]
   refine zb (h.row i hi) f (λj a c=>?_)
   have q:=h.rnot i hi j a
   rcases c with c|c|c|c
   ·exact q.1 c
   ·exact q.2.1 c
   ·exact q.2.2 c
   ·exact h.rapart i n hi s e j a c
 ·by_cases en:i=n
  ·subst en
   rw[xQ] at r
   exact data e r
  ·rw[qA Q d en] at r
   rw[v i en]
   exact(h.data i hi e r).step (f.mono (λj c=>h.sub j (l j c))) y
 ·by_cases e:i=n
  ·subst e;rw[xQ];exact val
  ·rw[qA Q d e];exact h.val i
 ·by_cases e:i=n
  ·subst e
   unfold vr at a
   rw[if_pos rfl] at a
   rcases u j a with c|c
   ·exact h.rnot i hi j c
   ·have A:=h.hi p (.inl rfl)
    have B:=h.hi ma (.inr (.inl rfl))
    have q:=h.hi ms (.inr (.inr (.inl rfl)))
    omega
  ·unfold vr at a
   rw[if_neg e] at a
   exact h.rnot i hi j a
 ·unfold vr at a b
  by_cases ei:i=n
  ·rw[if_pos ei] at a
   rw[if_neg (λe=>g (ei.trans e.symm))] at b
   rcases u j a with c|c
   ·exact h.rapart n k s t (λe=>g (ei.trans e)) j c b
   ·have:=((h.row k t).lt j b).2
    omega
  ·rw[if_neg ei] at a
   by_cases ek:k=n
   ·rw[if_pos ek] at b
    rcases u j b with c|c
    ·exact h.rapart n i s hi (λe=>ei e.symm) j c a
    ·have:=((h.row i hi).lt j a).2
     omega
   ·rw[if_neg ek] at b
    exact h.rapart i k hi t g j a b
structure zaG (w:World) (p ma ms:Nat) (R:Nat→Value) (C:Nat→zd→List Value) (Q:StQ) (n:Nat) (e:StE) (m:Nat):Prop where
 obj:w.heap[p]? =some (.cells (stC ma ms R).toArray 116 (0,0))
 am:∃M,vi w ma M∧∀k cs,(k,cs)∈M↔∃i:Nat,i<65∧k.1=(i:Int)∧∃e∈Q i,e.id=k.2∧cs=C i k.2
 sm:∃M,Yl w ms M∧∀k x,(k,x)∈M↔¬(k.1=(n:Int)∧k.2∈(zZ e.tx).take m)∧∃i:Nat,i<65∧k.1=(i:Int)∧∃e∈Q i,k.2∈zZ e.tx∧e.id=x
theorem zaG.cells {e:StE} (h:zaG w p ma ms R C Q n e m):w.cell? ⟨p,0,none⟩=some (.map (some ma))∧w.cell? ⟨p,66,none⟩=some (.map (some ms))∧∀i,i<65→w.cell? ⟨p,i+1,none⟩=some (R i):=by
 have:=zq h.obj
 refine⟨by simpa using this 0 _ rfl,by simpa using this 66 _ zdZ,λi hi=>?_⟩
 have:=this (i+1) _ (VS hi)
 simpa using this
theorem zaG.fr0 {e:StE} (h:zaG w p ma ms R C Q n e m) (f:Fr No w w'):zaG w' p ma ms R C Q n e m:=by
 obtain⟨M,c,d⟩:=h.am
 obtain⟨M',a,b⟩:=h.sm
 exact⟨f.obj h.obj id,⟨M,c.keep f id,d⟩,⟨M',a.keep f id,b⟩⟩
theorem zjC {l:List StE} (n:(yM l).Nodup) {a e:StE} (g:a∈l) (j:e∈l) (h:a.id=e.id):a=e:=by
 obtain⟨i,hi,b⟩:=getElem_of_mem g
 obtain⟨k,m,c⟩:=getElem_of_mem j
 have d:(yM l)[i]? =some e.id:=by unfold yM;rw[getElem?_map,getElem?_eq_getElem hi,b];exact congrArg some h
 have f:(yM l)[k]? =some e.id:=by unfold yM;rw[getElem?_map,getElem?_eq_getElem m,c];rfl
 have:=(List.getElem?_inj (List.getElem?_eq_some_iff.1 d).1 n).1 (d.trans f.symm)
 subst this
 exact b.symm.trans c
theorem SVal.apart2 {l:List StE} (h:SVal l) {a e:StE} (m:a∈l) (n:e∈l) (d:a≠e):∀q∈zZ e.tx,q∉zZ a.tx:=λq j c=>by
 have f:=(List.pairwise_iff_getElem.1 h.apart)
 obtain⟨i,hi,rfl⟩:=getElem_of_mem m
 obtain⟨k,g,b⟩:=getElem_of_mem n
 rcases Nat.lt_trichotomy i k with hik|hik|hik
 ·exact f i k hi g hik q c (by rw[b];exact j)
 ·subst hik;exact d b
 ·exact f k i g hi hik q (by rw[b];exact j) c
theorem SVal.ins8 {l:List StE} (h:SVal l):∀e∈l,e.tx.ins.length≤8:=λe a=>(yZ.1 (Jl (h.ent e a).1).1).2.1
theorem ziB {l:List StE} (h:SVal l) {e:StE} (j:e∈l) (q:zE) (x:zd):(q∉zZ e.tx∧∃a∈l,q∈zZ a.tx∧a.id=x)↔∃a∈Vi l e.id,q∈zZ a.tx∧a.id=x:=by
 constructor
 ·rintro⟨f,a,c,b,rfl⟩
  refine⟨a,mem_filter.2 ⟨c,?_⟩,b,rfl⟩
  simp only[decide_eq_true_eq]
  intro d
  rw[zjC h.nd c j d] at b
  exact f b
 ·rintro⟨a,c,b,rfl⟩
  obtain⟨g,i⟩:=mem_filter.1 c
  simp only[decide_eq_true_eq] at i
  exact⟨λf=>h.apart2 g j (λk=>i (by rw[k])) q f b,a,g,b,rfl⟩
theorem zaD (w:World) (i:Int) (x:zd):(w.alloc (.cells (skC (i,x)).toArray 110)).rangeAt w.heap.size 0 (skC (i,x)):=zy w _ _
theorem zl4 (h:yO w0 w p ma ms R X C Q) (hn:n<65) {e:StE} (he:e∈Q n):
  Calls prog 44 #[.pointer (some ⟨p,0,none⟩),.agg (skC (n,e.id)).toArray] w λe' w'=>e'=.returned (.tuple #[])∧Fr (Vj p ma ms (R n)) w w'∧∃v',(∀j,v'.ownBlock=some j→(R n).ownBlock=some j)∧yO w0 w' p ma ms (vr R n v') X C (jg Q n (Vi (Q n) e.id)):=by
 have zp:=vR
 have zh:=yS
 have F:=J h
 have HE:=J he
 have HV:=J (h.val n)
 have u:=J (h.idok n e.id (mem_map.2 ⟨e,he,rfl⟩))
 have XL:=J (zx u.o)
 have SL:=J (JH (k:=((n:Int),e.id)) u.o)
 have aq:=@J (e.tx.ins.length≤1000) (by have:=HV.o.ins8 e he;omega)
 have bn:=aq.o
 have bh:(n:Int)<65:=by omega
 have i0:(0:Int)≤(n:Int):=by omega
 have s:=J hn
 have AA:=J h.apart
 obtain⟨x,hx⟩:∃x,e.id=x:=⟨_,rfl⟩
 have EX:=J hx
 rw[hx] at u XL SL
 rw[hx]
 obtain⟨ra,rc,hR⟩:=h.row_form hn
 have g:=J hR
 have ae:=J (h.row n hn)
 have ab:=J (h.idok n)
 have F1:=J ((frN w).alloc (.cells (skC (n,x)).toArray 110))
 have RK:=J (zaD w n x)
 have ag:=@J (p<w.heap.size∧ma<w.heap.size∧ms<w.heap.size) (⟨h.hi p (.inl rfl),h.hi ma (.inr (.inl rfl)),h.hi ms (.inr (.inr (.inl rfl)))⟩)
 clear h he hx hR
 go_enter Tryz.func44,Tryz.ntmps44
 go_wp2_with fail
 generalize bl:w.heap.size=q0 at*
 generalize bf:w.alloc (.cells (skC (n,x)).toArray 110)=wa at*
 clear bf
 have FD:=J F1.o.drew
 have HD:=J (F.o.fr0 FD.o)
 have RD:=J (za RK.o (frN wa).drew id)
 obtain⟨M,hM,hm⟩:=HD.o.am
 obtain⟨ia,ic,oa,oc,ak⟩:=(HD.o.data n s.o e HE.o).now.form
 have af:ZT C Q n x=[.int .u32 e.tx.ver,.slice ia e.tx.ins.length ic,.slice oa e.tx.outs.length oc]:=by
  unfold ZT
  rw[if_pos (show vq Q n x=true from by unfold vq;simp only[decide_eq_true_eq];exact⟨i0,bh,by rw[Int.toNat_natCast,←EX.o];exact mem_map.2 ⟨e,HE.o,rfl⟩⟩),Int.toNat_natCast,←EX.o,ak]
 have LK:=@J (∀w',vi w' ma M→(Instr.lookup 113 (.map (some ma)) (.agg (skC (n,x)).toArray) false).run prog w'=.ok (.agg #[.int .u32 e.tx.ver,.slice ia e.tx.ins.length ic,.slice oa e.tx.outs.length oc]) w') (λw' h'=>by
  have:=Zm (w:=w') (Vq s.o) u.o h' hm false
  rw[af] at this
  simpa using this)
 have HM:=J hM
 have TQ:=@J (TxQ wa.drew e.tx [.int .u32 e.tx.ver,.slice ia e.tx.ins.length ic,.slice oa e.tx.outs.length oc]) (by rw[←ak];exact(HD.o.data n s.o e HE.o).now)
 clear hM hm ak af
 refine wrLx [ff,ff,ff,ff,ff,ff,tt,ff,ff] (λw'=>w'.cell? ⟨p,0,none⟩=some (.map (some ma))∧w'.rangeAt q0 0 (skC (n,x))∧vi w' ma M) ?_ (λK hK=>?_)
 ·exact⟨HD.o.cells.1,RD.o,HM.o⟩
 generalize wa.drew=wd at*
 repeat((first|(refine zl rfl ?_;constructor;constructor;(focus(first|exact zoi rfl (λw h=>h.2.1) SL.o|exact λw' h=>zM (t:=113) rfl rfl rfl (LK.o w' h.2.2)|(rintro w' ⟨s1,s2,s3⟩;exact goS))))|(refine zm rfl ?_));try simp only[Act.put,pA,pB,pC])
 (refine zF rfl (λK' hK'=>?_))
 go_simp
 refine(jd wd TQ.o aq.o).mono ?_
 rintro e' w3 ⟨pv,rfl,al,f3⟩
 obtain⟨pa,pc,bc⟩:=al.slice.arg.form
 subst bc
 have F3:=J f3
 have PO:=J al
 clear f3 al
 refine nXt hK' ?_ λhS=>?_
 ·exact⟨(HD.o.fr0 F3.o).cells.1,za RD.o F3.o id,HM.o.keep F3.o id⟩
 try simp only[Act.put,pA,pB,pC]
 repeat((first|(refine zl rfl ?_;constructor;constructor;(focus(first|(rintro w' ⟨s1,s2,s3⟩;exact goS))))|(refine zm rfl ?_));try simp only[Act.put,pA,pB,pC])
 refine zL (hK.out _ _ ?_)
 have H3:=J (HD.o.fr0 F3.o)
 have aR:=J (FD.o.trans0 F3.o)
 have aB:=@J (∀q∈zZ e.tx,q.ok) (λq hq=>by obtain⟨y,hy,rfl⟩:=mem_map.1 hq;exact TQ.o.oks.1 y hy)
 have aj:=J (vM e.tx)
 have R3:=J (za RD.o F3.o id)
 have aP:=@J (zaG w3 p ma ms R C Q n e 0) (⟨H3.o.obj,H3.o.am,by
  obtain⟨M',v,G⟩:=H3.o.sm
  exact⟨M',v,λq y=>by rw[G];simp⟩⟩)
 have aZ:=@J (∀j,(Value.slice pa e.tx.ins.length pc).ownBlock=some j→wd.heap.size≤j) (λj S=>(PO.o.lt j S).1)
 have ZD:=@J (ms<wd.heap.size) (HD.o.hi ms (.inr (.inr (.inl rfl))))
 go_wp2_with fail
 go_loopw [15] (λiv W=>∃m:Nat,iv=.int .i64 m∧m≤e.tx.ins.length∧zaG W p ma ms R C Q n e m∧Fr (λj=>j=ms) w3 W) (λiv _=>e.tx.ins.length-(intOf iv).toNat)
 case atStart=>exact⟨0,rfl,zero_le _,aP.o,Fr.refl _ _⟩
 case round=>
  obtain⟨m,rfl,hm,aG,aH⟩:=hrel
  rename World=>W
  have DI:=J aG
  have FI:=J aH
  have RI:=J (za R3.o FI.o (λe=>by have:=ag.o.2.2;omega))
  clear aG aH
  by_cases hmt:m<e.tx.ins.length
  ·have i2:(m:Int)<(e.tx.ins.length:Int):=by omega
   obtain⟨q,hq⟩:∃q,(zZ e.tx)[m]? =some q:=⟨_,getElem?_eq_getElem (by rw[aj.o];exact hmt)⟩
   have Z:=J (aB.o q (mem_of_getElem? hq))
   have a1:=J (zb PO.o FI.o (λj S e=>by have:=aZ.o j S;have:=ZD.o;omega))
   have aK:xL W (.slice pa e.tx.ins.length pc) (zZ e.tx):=⟨aB.o,by rw[aj.o];exact a1.o.slice.arg⟩
   obtain⟨b2,bk,bj,e2,aL,-⟩:=aK.at_ hq
   injection e2 with e3 e4 e5
   subst e3
   have R2:=J aL
   have PL:=J (z6 Z.o)
   have RQ:=J (zy W (zn q) 95)
   have FQ:=J ((frN W).alloc (.cells (zn q).toArray 95))
   have TK:=@J (∀y,y∉(zZ e.tx).take (m+1)↔y≠q∧y∉(zZ e.tx).take m) (λy=>by
    rw[take_add_one,hq]
    simp[and_comm])
   clear aL hq e4 e5 aK
   have⟨K0,K1⟩:=tZ2
   go_wp2_with ((first|((with_reducible refine zt ?_);clear K0;refine zod rfl rfl rfl R2.o PL.o ?_)|((with_reducible refine zv ?_);clear K1;refine zom (w:=W) (cs:=zn q) rfl rfl rfl rfl PL.o yK ?_));go_frame)
   generalize bm:W.heap.size=qq at*
   generalize bg:W.alloc (.cells (zn q).toArray 95)=wb at*
   have ai:=J FQ.o.drew
   have l:=J (DI.o.fr0 ai.o)
   have aE:=J (za RQ.o (frN wb).drew id)
   have aC:=J (Qu (za RI.o ai.o id)).1
   clear bg
   refine wrLx [ff,ff,ff,ff,ff,ff,ff,ff,tt] (λw'=>w'.cell? ⟨p,66,none⟩=some (.map (some ms))∧w'.rangeAt qq 0 (zn q)∧w'.cell? ⟨q0,0,none⟩=some (.int .i64 n)) ?_ (λK hK=>?_)
   ·exact⟨l.o.cells.2.1,aE.o,aC.o⟩
   generalize wb.drew=z1 at*
   obtain⟨M2,N,T⟩:=l.o.sm
   obtain⟨H,M5,r,U,L,O,-⟩:=N.del zkX.keyed V2 (λ_ _=>zbj) (zba (k:=((n:Int),q)) (Vq s.o) Z.o) 0 118
   have I:=J r
   have Y:=J O.fr
   have ax:=@J (p≠ms∧ma≠ms) (⟨AA.o.2.1,AA.o.2.2⟩)
   have ao:=@J (zaG H p ma ms R C Q n e (m+1)) (⟨Y.o.obj l.o.obj ax.o.1,by
    obtain⟨Ma,v,G⟩:=l.o.am
    exact⟨Ma,v.keep Y.o ax.o.2,G⟩,⟨M5,U,λy z=>by
    rw[L y z,T]
    have t:=TK.o y.2
    constructor
    ·rintro⟨a,b,c⟩
     refine⟨λ⟨d1,d2⟩=>?_,c⟩
     refine Classical.byContradiction λ_=>?_
     have:y.2∉(zZ e.tx).take (m+1):=t.2 ⟨λd3=>a (Prod.ext d1 d3),λd4=>b ⟨d1,d4⟩⟩
     exact this d2
    ·rintro⟨a,c⟩
     refine⟨λd=>a ⟨by rw[d],?_⟩,λ⟨d1,d2⟩=>a ⟨d1,?_⟩,c⟩
     ·exact Classical.byContradiction λd3=>(t.1 d3).1 (by rw[d])
     ·exact Classical.byContradiction λd3=>(t.1 d3).2 d2⟩⟩)
   have F5:=@J (Fr (λj=>j=ms) w3 H) ((FI.o.trans0 ai.o).trans Y.o (λj _ e=>e))
   have R5:=J (za aE.o Y.o (λe=>by have:=ZD.o;have:=F3.o.size;have:=FI.o.size;omega))
   have K5:=J (Y.o.cell aC.o (λe=>by have:=ag.o.2.2;have e:q0=ms:=e;omega))
   have a8:=J (zbi (k:=((n:Int),q)) Z.o)
   clear r U L O N T
   unfold spV at I
   repeat((first|(refine zl rfl ?_;constructor;constructor;(focus(first|exact zof rfl (λw h=>h.2.1) PL.o|exact λw' _=>yQ (t:=118) rfl rfl zb4 (zdB _ Z.o) (zb0 _ _) a8.o|(rintro w' ⟨s1,s2,s3⟩;exact goS))))|(refine zm rfl ?_));try simp only[Act.put,pA,pB,pC])
   (refine zF rfl (λK' hK'=>?_))
   refine yg (jI rfl rfl rfl I.o) ?_
   refine nXt hK' ?_ λhS=>?_
   ·exact⟨ao.o.cells.2.1,R5.o,K5.o⟩
   try simp only[Act.put]
   refine zL (hK.out _ _ ?_)
   go_wp2_with fail
   go_roundw
   case rel=>exact⟨m+1,by go_num,by omega,ao.o,F5.o⟩
   case measure=>simp[intOf];omega
  ·have aI:m=e.tx.ins.length:=by omega
   have i2:¬(m:Int)<(e.tx.ins.length:Int):=by omega
   have ba:=@J ((zZ e.tx).take m=zZ e.tx) (by rw[aI,←aj.o,take_length])
   clear aI
   go_wp2_with fail
   have ah:=J ((frN W).drew)
   have l:=J (DI.o.fr0 ah.o)
   have aF:=J (za RI.o ah.o id)
   refine wrLx [ff,ff,ff,ff,ff,tt] (λw'=>w'.cell? ⟨p,0,none⟩=some (.map (some ma))∧w'.rangeAt q0 0 (skC (n,x))) ?_ (λK hK=>?_)
   ·exact⟨l.o.cells.1,aF.o⟩
   generalize W.drew=z1 at*
   obtain⟨M2,N,T⟩:=l.o.am
   obtain⟨H,M5,r,U,L,O,-⟩:=N.del zmG.keyed zcl (λ_ _=>zdX) (zdF (k:=((n:Int),x)) (Vq s.o) u.o) 0 110
   have I:=J r
   have Y:=J O.fr
   have aw:=@J (p≠ma∧ms≠ma) (⟨AA.o.1,λe=>AA.o.2.2 e.symm⟩)
   have aN:=@J (∃M,vi H ma M∧∀k cs,(k,cs)∈M↔∃i:Nat,i<65∧k.1=(i:Int)∧∃a∈jg Q n (Vi (Q n) x) i,a.id=k.2∧cs=C i k.2) (⟨M5,U,λk cs=>by
    rw[L k cs,T]
    constructor
    ·rintro⟨v,i,hi,f,a,o,A,aa⟩
     refine⟨i,hi,f,a,?_,A,aa⟩
     by_cases c:i=n
     ·subst c
      rw[xQ]
      refine mem_filter.2 ⟨o,?_⟩
      simp only[decide_eq_true_eq]
      exact λbb=>v (Prod.ext f (by rw[←A,bb]))
     ·rw[qA Q _ c]
      exact o
    ·rintro⟨i,hi,f,a,o,A,aa⟩
     by_cases c:i=n
     ·subst c
      rw[xQ] at o
      obtain⟨v,G⟩:=mem_filter.1 o
      simp only[decide_eq_true_eq] at G
      exact⟨λd=>G (by rw[A,d]),i,hi,f,a,v,A,aa⟩
     ·rw[qA Q _ c] at o
      exact⟨λd=>c (by have h:k.1=(n:Int):=(congrArg Prod.fst d);omega),i,hi,f,a,o,A,aa⟩⟩)
   have a7:=@J (∃M,Yl H ms M∧∀k y,(k,y)∈M↔∃i:Nat,i<65∧k.1=(i:Int)∧∃a∈jg Q n (Vi (Q n) x) i,k.2∈zZ a.tx∧a.id=y) (by
    obtain⟨M6,v,G⟩:=l.o.sm
    refine⟨M6,v.keep Y.o aw.o.2,λk y=>?_⟩
    rw[G,ba.o]
    have sc:=ziB HV.o HE.o k.2 y
    rw[EX.o] at sc
    constructor
    ·rintro⟨hq,i,hi,f,a,o,V,P⟩
     refine⟨i,hi,f,?_⟩
     by_cases c:i=n
     ·subst c
      rw[xQ]
      exact sc.1 ⟨λd=>hq ⟨f,d⟩,a,o,V,P⟩
     ·rw[qA Q _ c]
      exact⟨a,o,V,P⟩
    ·rintro⟨i,hi,f,a,o,V,P⟩
     by_cases c:i=n
     ·subst c
      rw[xQ] at o
      obtain⟨s1,a',s2,s3,s4⟩:=sc.2 ⟨a,o,V,P⟩
      exact⟨λd=>s1 d.2,i,hi,f,a',s2,s3,s4⟩
     ·rw[qA Q _ c] at o
      exact⟨λd=>c (by have:=d.1;omega),i,hi,f,a,o,V,P⟩)
   have aU:=@J (Fr (λj=>j=ma∨j=ms) w H) (((aR.o.of0.trans FI.o (λj _ e=>.inr e)).trans0 ah.o).trans Y.o (λj _ e=>.inl e))
   have ay:=J (Y.o.obj l.o.obj aw.o.1)
   have R5:=J (za aF.o Y.o (λe=>by have:=ag.o.2.1;omega))
   have aO:=@J (H.cell? ⟨p,0,none⟩=some (.map (some ma))) (by have:=zq ay.o 0 _ rfl;simpa using this)
   clear r U L O N T
   unfold skV at I
   repeat((first|(refine zl rfl ?_;constructor;constructor;(focus(first|exact zoi rfl (λw h=>h.2) SL.o|(rintro w' ⟨s1,s2⟩;exact goS))))|(refine zm rfl ?_));try simp only[Act.put,pA,pB,pC])
   (refine zF rfl (λK' hK'=>?_))
   refine yg (jI rfl rfl rfl I.o) ?_
   refine nXt hK' ?_ λhS=>?_
   ·exact⟨aO.o,R5.o⟩
   try simp only[Act.put]
   refine zL (hK.out _ _ ?_)
   go_wp2_with fail
   have F6:=J ((frN H).drew)
   have au:=J (aU.o.trans0 F6.o)
   have az:=J (F6.o.obj ay.o id)
   have R6:=J (Qu (za R5.o F6.o id))
   have ad:=J (zb ae.o au.o (λj S e=>by have:=F.o.rnot n s.o j S;rcases e with e|e;exact this.2.1 e;exact this.2.2 e))
   have C6:=@J (H.drew.cell? ⟨p,1+n,none⟩=some (.slice ra (Q n).length rc)) (by have:=zq az.o (1+n) _ (by rw[add_comm];exact VS s.o);rw[g.o] at this;simpa using this)
   obtain⟨B,hix⟩:∃B,(yM (Q n))[B]? =some x:=List.mem_iff_getElem?.1 (by rw[←EX.o];exact mem_map.2 ⟨e,HE.o,rfl⟩)
   have av:=@J (B<(yM (Q n)).length) ((List.getElem?_eq_some_iff.1 hix).1)
   have aW:=J (Vr hix (zcj HV.o.nd hix))
   have aQ:=@J ((yM (Q n)).eraseIdx B=yM (Vi (Q n) x)) (by rw[erase_filter HV.o.nd hix,zjj])
   have L4:=@J ((yM (Q n)).length≤100000) (by rw[Je];have:=HV.o.len;omega)
   clear hix
   refine wrLx [ff,ff,ff,ff,ff,ff,ff,ff,ff,tt,ff] (λw'=>w'.cell? ⟨p,1+n,none⟩=some (.slice ra (Q n).length rc)∧w'.cell? ⟨q0,0,none⟩=some (.int .i64 n)∧w'.rangeAt q0 1 (zf x)) ?_ (λK hK=>?_)
   ·exact⟨C6.o,R6.o.1,R6.o.2⟩
   generalize H.drew=w6 at*
   have aV:=@J (Calls prog 83 #[.slice ra (Q n).length rc,.agg (zf x).toArray] w6 λe w'=>e=.returned (.int .i64 B)∧Fr No w6 w') (by
    have:=zcU w6 (yP.own ad.o ab.o) L4.o x u.o
    rw[g.o,aW.o] at this
    exact this)
   repeat((first|(refine zl rfl ?_;constructor;constructor;(focus(first|exact zog rfl (λw h=>h.2.2) XL.o|(rintro w' ⟨s1,s2,s3⟩;exact goS))))|(refine zm rfl ?_));try simp only[Act.put,pA,pB,pC])
   (refine zF rfl (λK' hK'=>?_))
   go_simp
   refine aV.o.mono ?_
   rintro e' w7 ⟨rfl,f7⟩
   have F7:=J f7
   clear f7
   refine nXt hK' ?_ λhS=>?_
   ·exact⟨F7.o.cell C6.o id,F7.o.cell R6.o.1 id,za R6.o.2 F7.o id⟩
   try simp only[Act.put,pA,pB,pC]
   repeat((first|(refine zl rfl ?_;constructor;constructor;(focus(first|(rintro w' ⟨s1,s2,s3⟩;exact goS))))|(refine zm rfl ?_));try simp only[Act.put,pA,pB,pC])
   refine zL (hK.out _ _ ?_)
   go_wp2_with fail
   have F8:=J (F7.o.drew)
   have aY:=J (F8.o.obj az.o id)
   have C8:=J (F8.o.cell C6.o id)
   have K8:=J (F8.o.cell R6.o.1 id)
   have aD:=J (zb ad.o F8.o (λ_ _=>id))
   have aT:=J (au.o.trans0 F8.o)
   have i9:IntKind.i64.wrap ((B:Int)+1)=(B:Int)+1:=IntWalk.i64_in _ (by have:=av.o;have:=L4.o;omega)
   refine yp [ff,ff,ff,ff,ff,ff,ff,ff,ff,ff,ff,ff,ff,tt,ff,ff,ff,tt] (λw'=>w'.cell? ⟨p,1+n,none⟩=some (.slice ra (Q n).length rc)∧w'.cell? ⟨q0,0,none⟩=some (.int .i64 n)) (by kernel_rfl) (by kernel_rfl) 17 (by kernel_rfl) (by kernel_rfl) ?_ (λK hK=>?_)
   ·exact⟨C8.o,K8.o⟩
   generalize w7.drew=w8 at*
   have an:=J (zdx aD.o ab.o L4.o av.o)
   rw[g.o] at an
   repeat((first|(refine yb rfl ?_;constructor;constructor;(focus(first|(rintro w' ⟨s1,s2⟩;exact goS))))|(refine yc rfl ?_));try simp only[Act.put,pA,pB,pC])
   (refine ya rfl (λK' hK'=>?_))
   go_simp
   refine an.o.mono ?_
   rintro e' w9 ⟨v9,rfl,aJ,f9,aM⟩
   have O9:=J aJ
   have F9:=J f9
   have V9:=J aM
   have N9:=@J (¬(Value.slice ra (Q n).length rc).ownBlock=some p) (λe=>(F.o.rnot n s.o p (by rw[g.o];exact e)).1 rfl)
   have aX:=@J (¬(Value.slice ra (Q n).length rc).ownBlock=some q0) (λe=>by have:=(ae.o.lt q0 (by rw[g.o];exact e)).2;omega)
   clear aJ f9 aM
   obtain⟨D,E,bd⟩:=O9.o.slice.arg.form
   subst bd
   refine hK'.out _ _ (λ_=>?_) (λhS=>?_)
   ·exact⟨F9.o.cell C8.o N9.o,F9.o.cell K8.o aX.o⟩
   try simp only[Act.put,pA,pB,pC]
   repeat((first|(refine yb rfl ?_;constructor;constructor;(focus(first|(rintro w' ⟨s1,s2⟩;exact goS))))|(refine yc rfl ?_));try simp only[Act.put,pA,pB,pC])
   have aA:=J (F9.o.obj aY.o N9.o)
   have fz:w9.frozen? ⟨p,1+n,none⟩=false:=yn aA.o
   have cz:=F9.o.cell C8.o N9.o
   (refine ya rfl (λK' hK'=>?_))
   go_simp
   refine hK'.out _ _ (λh=>absurd rfl h) (λhS=>?_)
   refine xA (hK.out _ _ ?_)
   go_wp2_with fail
   refine bodyPost_end (results_none rfl _ _ _) rfl ?_
   have a6:=heap_setCell_same w9 p (1+n) _ _ (.slice D ((yM (Q n)).eraseIdx B).length E) aA.o
   have FS:Fr (λj=>j=p) w9 (w9.setCell ⟨p,1+n,none⟩ (.slice D ((yM (Q n)).eraseIdx B).length E)):=(Fr.refl (λj=>j=p) w9).setCell ⟨p,1+n,none⟩ (.inr rfl) _
   have FT:Fr (Vj p ma ms (R n)) w (w9.setCell ⟨p,1+n,none⟩ (.slice D ((yM (Q n)).eraseIdx B).length E)):=((aT.o.mono (λj e=>by rcases e with e|e;exact .inr (.inl e);exact .inr (.inr (.inl e)))).trans F9.o (λj _ e=>.inr (.inr (.inr (by rw[g.o];exact e))))).trans FS (λj _ e=>.inl e)
   have aS:=@J (Fr No H w8) (F6.o.trans0 F8.o)
   have NM:=F.o.rnot n s.o
   have ar:Fr (λj=>j=p∨(R n).ownBlock=some j) H (w9.setCell ⟨p,1+n,none⟩ (.slice D ((yM (Q n)).eraseIdx B).length E)):=((aS.o.of0.trans F9.o (λj _ e=>.inr (by rw[g.o];exact e))).trans FS (λj _ e=>.inl e))
   refine⟨rfl,FT,.slice D ((yM (Q n)).eraseIdx B).length E,λj S=>by rw[g.o];exact V9.o j S,F.o.upd s.o FT ?_ ?_ ?_ ?_ (λa o=>(F.o.data n s.o a (zjk a o)).step (FT.mono (λj c=>F.o.sub j (Jh s.o j c))) (λ_ _ h=>h)) (λ_ _=>rfl) (HV.o.filter _) (λj S=>.inl (by rw[g.o];exact V9.o j S)) (λ_ _ h=>h) ?_⟩
   ·have:=zhg (ma:=ma) (ms:=ms) (R:=R) s.o (.slice D ((yM (Q n)).eraseIdx B).length E)
    rw[a6,add_comm 1 n]
    unfold vr
    rw[←this]
    simp
   ·rw[←aQ.o]
    exact zb O9.o FS (λj S e=>N9.o (by rw[←e];exact V9.o j S))
   ·obtain⟨M6,v,G⟩:=aN.o
    exact⟨M6,v.keep ar (λe=>e.elim (λe=>AA.o.1 e.symm) (λe=>(NM ma e).2.1 rfl)),G⟩
   ·obtain⟨M6,v,G⟩:=a7.o
    exact⟨M6,v.keep ar (λe=>e.elim (λe=>AA.o.2.1 e.symm) (λe=>(NM ms e).2.2 rfl)),G⟩
   ·rintro j (e|e|e|⟨i,hi,e⟩)
    ·exact F.o.sub j (.inl e)
    ·exact F.o.sub j (.inr (.inl e))
    ·exact F.o.sub j (.inr (.inr (.inl e)))
    ·unfold vr at e
     by_cases c:i=n
     ·rw[if_pos c] at e
      exact F.o.sub j (.inr (.inr (.inr ⟨n,s.o,by rw[g.o];exact V9.o j e⟩)))
     ·rw[if_neg c] at e
      exact F.o.sub j (.inr (.inr (.inr ⟨i,hi,e⟩)))
end
theorem zex {P:Program} {o:Oper} {b:Operand→Value} {t:TypeId} {m k x:Operand} {c a d:Value} {w w':World} (g:o.op=.insert t m k x) (f:b m=c) (e:b k=a) (i:b x=d) (h:(Instr.mapUpdate t c a d).run P w=.ok () w'):(execOp b o).run P w=.ok .skip w':=by
 simp only[execOp,g,f,e,i,Sem.run_bind,h,Result.andThen_ok,Sem.run_pure]
structure zea (w wr:World) (b1 b2:Nat) (l:List StE) (x:zd) (c:Nat) (MI MW:List (zd×Int)) (I W:List zd):Prop where
 mi:JV wr b1 MI
 mw:JV wr b2 MW
 ci:∀y d,(y,d)∈MI↔d=1∧y∈I
 cw:∀y d,(y,d)∈MW↔d=1∧y∈W
 spl:∀y,y∈qt l x↔y∈I∨y∈Ye (l.take c).reverse W
 li:MI.length+c≤l.length
 lw:MW.length+8*c≤1+8*l.length
 fr:Fr No w wr
theorem zfu {l:List StE} {e:StE} (h:l[m]? =some e):(l.take (m+1)).reverse=e::(l.take m).reverse:=by
 rw[take_add_one,h]
 simp
theorem zea.skip {w wr wr':World} {c d:Nat} {l:List StE} {x:zd} {a b:List (zd×Int)} {I W:List zd} {e:StE} (h:zea w wr c d l x (m+1) a b I W) (g:l[m]? =some e) (i:e.id∉W) (f:Fr No wr wr'):zea w wr' c d l x m a b I W:=by
 refine⟨h.mi.keep f id,h.mw.keep f id,h.ci,h.cw,λy=>?_,by have:=h.li;omega,by have:=h.lw;omega,h.fr.trans0 f⟩
 rw[h.spl,zfu g,show Ye (e::(l.take m).reverse) W=if e.id∈W then e.id::Ye (l.take m).reverse ((zZ e.tx).map (·.tx)++W) else Ye (l.take m).reverse W by rw[Ye],if_neg i]
theorem zea.step {w wr wr':World} {g i:Nat} {l:List StE} {x:zd} {j k b c:List (zd×Int)} {I W:List zd} {e:StE} (h:zea w wr g i l x (m+1) j k I W) (s:l[m]? =some e) (t:e.id∈W) (f:Fr No w wr') (n:JV wr' g b) (o:JV wr' i c) (q:∀y d,(y,d)∈b↔d=1∧y∈e.id::I) (r:∀y d,(y,d)∈c↔d=1∧y∈(zZ e.tx).map (·.tx)++W) (u:b.length≤j.length+1) (v:c.length≤k.length+8):zea w wr' g i l x m b c (e.id::I) ((zZ e.tx).map (·.tx)++W):=by
 refine⟨n,o,q,r,λy=>?_,by have:=h.li;omega,by have:=h.lw;omega,f⟩
 rw[h.spl,zfu s]
 conv=>lhs;rw[Ye]
 rw[if_pos t]
 simp only[List.mem_cons]
 constructor
 ·rintro(a|a|a)
  ·exact .inl (.inr a)
  ·exact .inl (.inl a)
  ·exact .inr a
 ·rintro((a|a)|a)
  ·exact .inr (.inl a)
  ·exact .inl a
  ·exact .inr (.inr a)
theorem zd6 {M M':List (zd×Int)} {x:zd} {V V':List zd} (f:Upd M x 1 M') (g:∀y d,(y,d)∈M↔d=1∧y∈V) (b:∀y,y∈V'↔y=x∨y∈V):∀y d,(y,d)∈M'↔d=1∧y∈V':=λy d=>by
 rw[f,g,b]
 constructor
 ·rintro(⟨rfl,rfl⟩|⟨_,a,c⟩)
  ·exact⟨rfl,.inl rfl⟩
  ·exact⟨a,.inr c⟩
 ·rintro⟨rfl,a⟩
  by_cases e:y=x
  ·exact .inl ⟨e,rfl⟩
  ·exact .inr ⟨e,rfl,a.resolve_left e⟩
section
variable {w0 w w':World} {p ma ms:Nat} {R:Nat→Value} {X:Nat→Prop} {C:Nat→zd→List Value} {Q:StQ}
theorem zkG (h:yO w0 w p ma ms R X C Q) (hn:n<65) {x:zd} (Y:zY x):
  Calls prog 43 #[.pointer (some ⟨p,0,none⟩),.agg (skC (n,x)).toArray] w λe' w'=>∃b M,e'=.returned (.map (some b))∧JV w' b M∧(∀k c,(k,c)∈M↔c=1∧k∈qt (Q n) x)∧w.heap.size≤b∧Fr No w w':=by
 have zp:=vR
 have zh:=yS
 have m1:=zaA
 have HH:=J h
 have HV:=J (h.val n)
 have HN:=J hn
 have bz:=J Y
 have XL:=J (zx Y)
 have bC:(n:Int)<65:=by omega
 have i0:(0:Int)≤(n:Int):=by omega
 obtain⟨ra,rc,hR⟩:=h.row_form hn
 have T:=@J (w.ownsRow w0.heap.size 41 32 (.slice ra (Q n).length rc) (yM (Q n)).length ((yM (Q n)).flatMap zf)) (by rw[←hR];exact h.row n hn)
 have a7:=@J (w.cell? ⟨p,1+n,none⟩=some (.slice ra (Q n).length rc)) (by rw[←hR,add_comm];exact h.cells.2.2 n hn)
 have S:=J (h.idok n)
 have QL:=J (h.val n).len
 have ql:=(h.val n).len
 have bw:=J (Je (Q n))
 generalize aQ:w.heap.size=l at*
 have bs:=J (by have:=zaD w n x;rw[aQ] at this;exact this)
 have F1:=J ((frN w).alloc (.cells (skC (n,x)).toArray 110))
 have af:=@J ((w.alloc (.cells (skC (n,x)).toArray 110)).heap.size=l+1) (by simp[aQ])
 clear h hn Y hR
 generalize bJ:w.alloc (.cells (skC (n,x)).toArray 110)=wa at*
 have bh:=@J (JV (wa.alloc (.map #[] 0)) (l+1) []) (by have:=yD.made (P:=prog) (kt:=41) (kV:=y7) (vV:=zaY) wa;rw[af.o] at this;exact this)
 have aH:=@J ((wa.alloc (.map #[] 0)).heap.size=l+2) (by simp[af.o])
 have F2:=J (F1.o.alloc (.map #[] 0))
 have bf:=@J (Fr No wa (wa.alloc (.map #[] 0))) ((frN wa).alloc (.map #[] 0))
 generalize bK:wa.alloc (.map #[] 0)=wb at*
 have bj:=@J (JV (wb.alloc (.map #[] 0)) (l+2) []) (by have:=yD.made (P:=prog) (kt:=41) (kV:=y7) (vV:=zaY) wb;rw[aH.o] at this;exact this)
 have F:=J (F2.o.alloc (.map #[] 0))
 have al:=@J (Fr No wb (wb.alloc (.map #[] 0))) ((frN wb).alloc (.map #[] 0))
 generalize bL:wb.alloc (.map #[] 0)=wc at*
 have RK:=J (za (za bs.o bf.o id) al.o id)
 have RX:=J (Qu RK.o).2
 have ao:=J (bh.o.keep al.o id)
 obtain⟨wd,az,s,E,f,r,o⟩:=bj.o.upd xR.keyed jt (λ_ _=>y3) (yu bz.o) (show([]:List (zd×Int)).length<maxLen by decide) 1
 have ay:=J s
 have FU:=J r.fr
 have bl:=J E
 have a8:=J (zd6 (V:=[]) (V':=[x]) f (by simp) (by simp))
 have bp:=@J (az.length≤1) (o)
 have bk:=J (ao.o.keep FU.o (by omega))
 have FD:=@J (Fr No w wd) (F.o.trans FU.o (λi hi e=>by rw[e] at hi;omega))
 have bt:=J (za RK.o FU.o (by omega))
 have aZ:=J (Qu bt.o).1
 clear s E f r o
 unfold y7 zaY at ay
 have bH:=af.o
 have bI:=aH.o
 go_enter Tryz.func43,Tryz.ntmps43
 have⟨K0,K1⟩:=tZ2
 go_wp2_with (((with_reducible refine zt ?_);first|(clear K0;refine zoc rfl rfl rfl RX.o XL.o ?_)|(clear K1;refine zi rfl (zex rfl rfl rfl rfl ay.o) ?_));go_frame)
 have FE:=J (frN wd).drew
 have a6:=@J (wd.drew.cell? ⟨p,1+n,none⟩=some (.slice ra (Q n).length rc)) ((FD.o.trans0 FE.o).cell a7.o id)
 have aj:=J (FE.o.cell aZ.o id)
 refine wrLx [ff,ff,ff,ff,ff,ff,ff,ff] (λw'=>w'.cell? ⟨p,1+n,none⟩=some (.slice ra (Q n).length rc)∧w'.cell? ⟨l,0,none⟩=some (.int .i64 n)) ?_ (λK hK=>?_)
 ·exact⟨a6.o,aj.o⟩
 repeat((first|(refine zl rfl ?_;constructor;constructor;(focus(first|(rintro w' ⟨s1,s2⟩;exact goS))))|(refine zm rfl ?_));try simp only[Act.put,pA,pB,pC])
 refine zL (hK.out _ _ ?_)
 have aV:=@J (zea w wd.drew (l+1) (l+2) (Q n) x (Q n).length [] az [] [x]) (⟨bk.o.keep FE.o id,bl.o.keep FE.o id,by simp,a8.o,λy=>by rw[take_length];unfold qt;simp,by simp,by have:=bp.o;omega,FD.o.trans0 FE.o⟩)
 generalize wd.drew=ws at*
 go_wp2_with fail
 go_loopw [8] (λiv wr=>∃(c:Nat) (MI MW:List (zd×Int)) (I W:List zd),iv=.int .i64 ((c:Int)-1)∧c≤(Q n).length∧zea w wr (l+1) (l+2) (Q n) x c MI MW I W∧wr.cell? ⟨l,0,none⟩=some (.int .i64 n)) (λiv _=>(intOf iv+1).toNat)
 case atStart=>exact⟨(Q n).length,_,_,_,_,by go_num,le_refl _,aV.o,aj.o⟩
 case round=>
  obtain⟨c,MI,MW,I,W,rfl,hc,ag,aI⟩:=hrel
  have u:=J ag
  have CK:=J aI
  have FW:=J ag.fr
  clear ag aI
  cases c with
  |zero=>
   have DN:=@J (∀y,y∈qt (Q n) x↔y∈I) (λy=>by rw[u.o.spl];simp[Ye])
   go_wp2_with fail
   go_ret
   exact⟨l+1,MI,rfl,u.o.mi,λk d=>by rw[u.o.ci,DN.o],by omega,FW.o⟩
  |succ m=>
   rw[show(((m+1:Nat):Int)-1)=(m:Int) by omega]
   have i1:(0:Int)≤(m:Int):=by omega
   have i2:(m:Int)<((Q n).length:Int):=by omega
   obtain⟨e,Y⟩:∃e,(Q n)[m]? =some e:=⟨_,getElem?_eq_getElem (by omega)⟩
   have L:=mem_of_getElem? Y
   have HX:=J Y
   have EM:=J L
   have v:=J (S.o e.id (mem_map.2 ⟨e,L,rfl⟩))
   have EL:=J (zx v.o)
   have aU:(yM (Q n))[m]? =some e.id:=by unfold yM;rw[getElem?_map,Y];rfl
   obtain⟨g,off,bG,aT,aR,-⟩:=(yP.own (zb T.o FW.o (λ_ _=>id)) S.o).at_ aU
   rw[bw.o] at aT
   cases aT
   have R1:=J aR
   have LW:=J (zbc u.o.mw u.o.cw v.o)
   have ab:=@J (e.tx.ins.length≤8) (HV.o.ins8 e L)
   have bD:e.tx.ins.length≤1000:=by have:=ab.o;omega
   unfold y7 at LW
   clear Y L aU aR
   by_cases hw:e.id∈W
   ·rw[if_pos hw] at LW
    have HW:=J hw
    clear hw
    obtain⟨G,bo,s,aN,f,r,o⟩:=u.o.mi.upd xR.keyed jt (λ_ _=>y3) (yu v.o) (show MI.length<maxLen by unfold maxLen;have:=u.o.li;have:=QL.o;omega) 1
    have N:=J s
    have B:=J r.fr
    have aq:=J aN
    have aW:=J (zd6 (V':=e.id::I) f u.o.ci (by simp))
    have bm:=@J (bo.length≤MI.length+1) (o)
    have av:=J (u.o.mw.keep B.o (by omega))
    have bb:=@J (Fr No w G) (FW.o.trans B.o (λi hi e=>by rw[e] at hi;omega))
    have R2:=@J (G.rangeAt g (off+m*32) (zf e.id)) (za R1.o B.o (λe=>by have:=(T.o.lt g rfl).2;have e:g=l+1:=e;omega))
    have aX:=J (B.o.cell CK.o (show ¬l=l+1 by omega))
    clear s aN f r o
    unfold y7 zaY at N
    have⟨K0,K1,K2,K3⟩:=tZ4
    go_wp2_with (((with_reducible refine zt ?_);first|(clear K0;refine zoc rfl rfl rfl R1.o EL.o ?_)|(clear K1;refine zg rfl (zM (t:=120) rfl rfl rfl LW.o) ?_)|(clear K2;refine zoc rfl rfl rfl R1.o EL.o ?_)|(clear K3;refine zi rfl (y4 rfl rfl rfl rfl N.o) ?_));go_frame)
    have an:=J (bb.o.drew)
    have D:=J (HH.o.fr0 an.o)
    have aF:=J (za R2.o (frN G).drew id)
    have A:=J ((frN G).drew.cell aX.o id)
    have au:=J (aq.o.keep (frN G).drew id)
    have ax:=J (av.o.keep (frN G).drew id)
    have bA:=@J (l+3≤G.drew.heap.size) (by have:=B.o.size;have h2:l+2<wr.heap.size:=u.o.mw.lt;show l+3≤G.heap.size;omega)
    obtain⟨M,hM,hm⟩:=D.o.am
    obtain⟨ia,ic,oa,oc,ah⟩:=(D.o.data n HN.o e EM.o).now.form
    have U:ZT C Q n e.id=[.int .u32 e.tx.ver,.slice ia e.tx.ins.length ic,.slice oa e.tx.outs.length oc]:=by
     unfold ZT
     rw[if_pos (show vq Q n e.id=true from by unfold vq;simp only[decide_eq_true_eq];exact⟨i0,bC,by rw[Int.toNat_natCast];exact mem_map.2 ⟨e,EM.o,rfl⟩⟩),Int.toNat_natCast,ah]
    have LK:=@J (∀w',vi w' ma M→(Instr.lookup 113 (.map (some ma)) (.agg (skC (n,e.id)).toArray) false).run prog w'=.ok (.agg #[.int .u32 e.tx.ver,.slice ia e.tx.ins.length ic,.slice oa e.tx.outs.length oc]) w') (λw' h'=>by
     have:=Zm (w:=w') (Vq HN.o) v.o h' hm false
     rw[U] at this
     simpa using this)
    have HM:=J hM
    have TQ:=@J (TxQ G.drew e.tx [.int .u32 e.tx.ver,.slice ia e.tx.ins.length ic,.slice oa e.tx.outs.length oc]) (by rw[←ah];exact(D.o.data n HN.o e EM.o).now)
    have bu:=J (JH (k:=((n:Int),e.id)) v.o)
    clear hM hm ah U
    refine wrLx [ff,ff,ff,ff,ff,ff,ff,ff,ff,ff,ff,ff,tt,ff,ff] (λw'=>w'.cell? ⟨p,0,none⟩=some (.map (some ma))∧w'.cell? ⟨l,0,none⟩=some (.int .i64 n)∧w'.rangeAt g (off+m*32) (zf e.id)∧vi w' ma M) ?_ (λK hK=>?_)
    ·exact⟨D.o.cells.1,A.o,aF.o,HM.o⟩
    generalize G.drew=wz at*
    repeat((first|(refine zl rfl ?_;constructor;constructor;(focus(first|exact zog rfl (λw h=>h.2.2.1) EL.o|exact λw' _=>yQ (t:=110) rfl rfl vL (jU _ v.o) (vJ _ _) bu.o|exact λw' h=>zM (t:=113) rfl rfl rfl (LK.o w' h.2.2.2)|(rintro w' ⟨s1,s2,s3,s4⟩;exact goS))))|(refine zm rfl ?_));try simp only[Act.put,pA,pB,pC])
    (refine zF rfl (λK' hK'=>?_))
    go_simp
    refine(jd wz TQ.o bD).mono ?_
    rintro e' w3 ⟨pv,rfl,ai,f3⟩
    obtain⟨pa,pc,bB⟩:=ai.slice.arg.form
    subst bB
    have F:=J f3
    have PO:=J ai
    clear f3 ai
    refine nXt hK' ?_ λhS=>?_
    ·exact⟨(D.o.fr0 F.o).cells.1,F.o.cell A.o id,za aF.o F.o id,HM.o.keep F.o id⟩
    try simp only[Act.put,pA,pB,pC]
    repeat((first|(refine zl rfl ?_;constructor;constructor;(focus(first|(rintro w' ⟨s1,s2,s3,s4⟩;exact goS))))|(refine zm rfl ?_));try simp only[Act.put,pA,pB,pC])
    refine zL (hK.out _ _ ?_)
    have aD:=@J (∀q∈zZ e.tx,q.ok) (λq hq=>by obtain⟨y,hy,rfl⟩:=mem_map.1 hq;exact TQ.o.oks.1 y hy)
    have ae:=J (vM e.tx)
    have bq:=@J (∀j,(Value.slice pa e.tx.ins.length pc).ownBlock=some j→l+3≤j) (λj hj=>by have:=(PO.o.lt j hj).1;have:=bA.o;omega)
    have ar:=J (au.o.keep F.o id)
    have aw:=J (ax.o.keep F.o id)
    have aY:=J (F.o.cell A.o id)
    have bc:=J (an.o.trans0 F.o)
    go_wp2_with fail
    go_loopw [56] (λiv Z=>∃(j:Nat) (z:List (zd×Int)),iv=.int .i64 j∧j≤e.tx.ins.length∧JV Z (l+2) z∧(∀y d,(y,d)∈z↔d=1∧y∈((zZ e.tx).take j).map (·.tx)++W)∧z.length≤MW.length+j∧Fr (λb=>b=l+2) w3 Z) (λiv _=>e.tx.ins.length-(intOf iv).toNat)
    case atStart=>exact⟨0,MW,rfl,zero_le _,aw.o,by simpa using u.o.cw,le_refl _,Fr.refl _ _⟩
    case round=>
     obtain⟨j,z,rfl,hj,E,aJ,aM,aK⟩:=hrel
     rename World=>Z
     have aC:=J E
     have ak:=J aJ
     have ad:=J aM
     have FI:=J aK
     clear E aJ aM aK
     by_cases hjt:j<e.tx.ins.length
     ·have i3:(j:Int)<(e.tx.ins.length:Int):=by omega
      obtain⟨q,hq⟩:∃q,(zZ e.tx)[j]? =some q:=⟨_,getElem?_eq_getElem (by rw[ae.o];exact hjt)⟩
      have H:=J (aD.o q (mem_of_getElem? hq))
      have br:=J (zb PO.o FI.o (λj hj e=>by have:=bq.o j hj;omega))
      have aP:xL Z (.slice pa e.tx.ins.length pc) (zZ e.tx):=⟨aD.o,by rw[ae.o];exact br.o.slice.arg⟩
      obtain⟨b2,bF,bE,e2,aS,-⟩:=aP.at_ hq
      injection e2 with e3 e4 e5
      subst e3
      have R3:=J aS
      have PL:=J (z6 H.o)
      have aE:=J (zx H.o.1)
      have RQ:=J (zy Z (zn q) 95)
      have FQ:=J ((frN Z).alloc (.cells (zn q).toArray 95))
      have aG:=J (zaT RQ.o H.o).1
      obtain⟨w5,aA,s,aO,f,r,o⟩:=(aC.o.keep FQ.o id).upd xR.keyed jt (λ_ _=>y3) (yu H.o.1) (show z.length<maxLen by unfold maxLen;have:=ad.o;have:=u.o.lw;have:=QL.o;have:=ab.o;omega) 1
      have O:=J s
      have bg:=@J (Fr (λb=>b=l+2) w3 w5) ((FI.o.trans0 FQ.o).trans r.fr (λ_ _ e=>e))
      have aB:=J aO
      have ba:=J (zd6 (V':=((zZ e.tx).take (j+1)).map (·.tx)++W) f ak.o (λy=>by
       rw[take_add_one,hq]
       simp only[Option.toList_some,List.map_append,List.map_cons,List.map_nil,mem_append,mem_singleton]
       constructor
       ·rintro((a|a)|a)
        ·exact .inr (.inl a)
        ·exact .inl a
        ·exact .inr (.inr a)
       ·rintro(a|a|a)
        ·exact .inl (.inr a)
        ·exact .inl (.inl a)
        ·exact .inr a))
      have bn:=@J (aA.length≤z.length+1) (o)
      clear s aO f r o aS hq e4 e5 aP
      unfold y7 zaY at O
      unfold zf at aG aE
      have⟨K0,K1,K2,K3⟩:=tZ4
      go_wp2_with ((first|((with_reducible refine zt ?_);first|(clear K0;refine zod rfl rfl rfl R3.o PL.o ?_)|(clear K2;refine zoc rfl rfl rfl aG.o aE.o ?_)|(clear K3;refine zi rfl (y4 rfl rfl rfl rfl O.o) ?_))|((with_reducible refine zv ?_);clear K1;refine zom (w:=Z) (cs:=zn q) rfl rfl rfl rfl PL.o yK ?_));go_frame)
      go_roundw
      case rel=>exact⟨j+1,aA,by go_num,by omega,aB.o,ba.o,by have:=bn.o;have:=ad.o;omega,bg.o⟩
      case measure=>simp[intOf];omega
     ·have aL:j=e.tx.ins.length:=by omega
      have i3:¬(j:Int)<(e.tx.ins.length:Int):=by omega
      have bx:=@J ((zZ e.tx).take j=zZ e.tx) (by rw[aL,←ae.o,take_length])
      have bd:=@J (Fr No w Z) (bc.o.trans FI.o (λi hi e=>by omega))
      have aa:=J (u.o.step HX.o HW.o bd.o (ar.o.keep FI.o (by omega)) aC.o aW.o (by have:=ak.o;rw[bx.o] at this;exact this) bm.o (by have:=ad.o;have:=ab.o;omega))
      have a1:=J (FI.o.cell aY.o (show ¬l=l+2 by omega))
      clear aL
      go_wp2_with fail
      go_roundw
      case rel=>exact⟨m,_,_,_,_,by go_num,by omega,aa.o,a1.o⟩
      case measure=>simp[intOf]
   ·rw[if_neg hw] at LW
    have aa:=J (u.o.skip HX.o hw (frN wr))
    clear hw
    have⟨K0,K1⟩:=tZ2
    go_wp2_with (((with_reducible refine zt ?_);first|(clear K0;refine zoc rfl rfl rfl R1.o EL.o ?_)|(clear K1;refine zg rfl (zM (t:=120) rfl rfl rfl LW.o) ?_));go_frame)
    go_roundw
    case rel=>exact⟨m,_,_,_,_,by go_num,by omega,aa.o,CK.o⟩
    case measure=>simp[intOf]
end
theorem zky (Q:StQ) (n:Nat) (a b:List StE):jg (jg Q n a) n b=jg Q n b:=by
 funext j
 unfold jg
 by_cases h:j=n<;>simp[h]
def zbE (C:Nat→zd→List Value) (n:Nat) (l:List StE):List Value:=l.flatMap λe=>C n e.id
theorem zga (C:Nat→zd→List Value) (n:Nat) (l:List StE) (e:StE):zbE C n (l++[e])=zbE C n l++C n e.id:=by simp[zbE]
def ziS (w:World) (e:Ending) (w':World):Prop:=e=.returned (.tuple #[.slice none 0 0,.int .i64 9])∧Fr No w w'
section
variable {w0 w w':World} {p ma ms:Nat} {R:Nat→Value} {X:Nat→Prop} {C:Nat→zd→List Value} {Q:StQ}
def zef (w0 w:World) (p ma ms:Nat) (R:Nat→Value) (X:Nat→Prop) (C:Nat→zd→List Value) (Q:StQ) (n:Nat) (K:List zd) (bi:Nat) (MI:List (zd×Int)) (k:Nat) (tv:Value) (wr:World):Prop:=
 ∃v',yO w0 wr p ma ms (vr R n v') X C (jg Q n (J5 (Q n) K k))∧(∀j,v'.ownBlock=some j→(R n).ownBlock=some j)∧wr.ownsRow w.heap.size 34 3 tv (jK (Q n) K k).length (zbE C n (jK (Q n) K k))∧Fr (Vj p ma ms (R n)) w wr∧JV wr bi MI
theorem Qh (R:Nat→Value) (n:Nat) (v:Value):vr R n v n=v:=if_pos rfl
theorem zkz (R:Nat→Value) (n:Nat) (a b:Value):vr (vr R n a) n b=vr R n b:=by
 funext j
 unfold vr
 by_cases h:j=n<;>simp[h]
theorem zhm (R:Nat→Value) (n:Nat):vr R n (R n)=R:=by
 funext j
 unfold vr
 by_cases h:j=n<;>simp[h]
theorem zef.fr0 {K:List zd} {i k:Nat} {g:List (zd×Int)} {tv:Value} (h:zef w0 w p ma ms R X C Q n K i g k tv wr) (f:Fr No wr wr'):zef w0 w p ma ms R X C Q n K i g k tv wr':=by
 obtain⟨j,a,b,c,d,e⟩:=h
 exact⟨j,a.fr0 f,b,zb c f (λ_ _=>id),d.trans0 f,e.keep f id⟩
theorem YU {w:World} {t:TxD} (h:TxQ w t cs):cs.length=3∧∀v∈cs,v.oneCell'=true:=by
 obtain⟨a,b,c,d,rfl⟩:=h.form
 exact⟨rfl,qM rfl rfl rfl⟩
theorem zlK:∀v∈VX,v.oneCell'=true:=qM rfl rfl rfl
theorem zlI (h:yO w0 w p ma ms R X C Q) (hi:ZB i) {x:zd} (f:zY x) (b:vq Q i x=false):
  Calls prog 14 #[.pointer (some ⟨p,0,none⟩),.int .i64 i,.agg (zf x).toArray] w (ziS w):=by
 have s:=J f
 have F:=J (zx f)
 have B:=J h
 have P:=vt
 have r:=J (JH (k:=(i,x)) f)
 have j:=J ((frN w).alloc (.cells (zf x).toArray 41))
 have E:=J (zy w (zf x) 41)
 obtain⟨cs,a⟩:∃cs,ZT C Q i x=cs:=⟨_,rfl⟩
 have d:=@J (cs=VX) (by rw[←a];unfold ZT;rw[if_neg (by simp[b])])
 have e:=@J (cs.length=3) (by rw[d.o];rfl)
 have g:=@J (∀v∈cs,v.oneCell'=true) (by rw[d.o];exact zlK)
 obtain⟨M,y,z⟩:=(h.fr0 (j.o.drew)).am
 have D:=@J (∀w',vi w' ma M→(Instr.lookup 113 (.map (some ma)) (.agg (skC (i,x)).toArray) true).run prog w'=.ok (.tuple #[.agg cs.toArray,.bool false]) w') (λw' G=>by
  have:=Zm (w:=w') hi f G z true
  rw[a,b] at this
  simpa using this)
 have o:=J y
 clear h f b y z a
 go_enter Tryz.func14,Tryz.ntmps14
 go_wp2_with fail
 generalize H:w.heap.size=I at*
 generalize u:w.alloc (.cells (zf x).toArray 41)=A at*
 clear u
 have m:=J (B.o.fr0 j.o.drew)
 have q:=J (za E.o (frN A).drew id)
 have l:=J j.o.drew
 have n:=J o.o
 refine wrLx [ff,ff,ff,ff,ff,ff,ff,ff,ff,ff,ff,tt,tt,ff] (λw'=>w'.cell? ⟨p,0,none⟩=some (.map (some ma))∧w'.rangeAt I 0 (zf x)∧vi w' ma M) ?_ (λK hK=>?_)
 ·exact⟨m.o.cells.1,q.o,n.o⟩
 generalize A.drew=c at*
 repeat((first|(refine zl rfl ?_;constructor;constructor;(focus(first|exact zog rfl (λw h=>h.2.1) F.o|exact λw' _=>yQ (t:=110) rfl rfl vL (jU _ s.o) (vJ _ _) r.o|exact λw' h=>zM (t:=113) rfl rfl rfl (D.o w' h.2.2)|(rintro w' ⟨L,N,O⟩;exact goS))))|(refine zm rfl ?_));try simp only[Act.put,pA,pB,pC])
 (refine zF rfl (λK' hK'=>?_))
 refine yg (yw rfl (vt _)) ?_
 refine nXt hK' ?_ λhS=>?_
 ·exact⟨((frN c).alloc _).cell m.o.cells.1 id,za q.o ((frN c).alloc _) id,n.o.keep ((frN c).alloc _) id⟩
 try simp only[Act.put,pA,pB,pC]
 (refine zF rfl (λK' hK'=>?_))
 refine yN (zj (w:=c) (ty:=34) (cs:=cs) rfl rfl rfl (by rw[e.o];rfl) (by rw[e.o];exact y5) g.o) ?_
 refine nXt hK' ?_ λhS=>?_
 ·exact⟨((frN c).alloc _).cell m.o.cells.1 id,za q.o ((frN c).alloc _) id,n.o.keep ((frN c).alloc _) id⟩
 try simp only[Act.put]
 repeat((first|(refine zl rfl ?_;constructor;constructor;(focus(first|(rintro w' -;exact goS))))|(refine zm rfl ?_));try simp only[Act.put,pA,pB,pC])
 refine zL (hK.out _ _ ?_)
 go_wp2_with fail
 go_ret2
 exact⟨rfl,l.o.alloc _⟩
theorem zna (h:yO w0 w p ma ms R X C Q) (O:n<65) {x:zd} (E:x∈yM (Q n)):
  Calls prog 14 #[.pointer (some ⟨p,0,none⟩),.int .i64 n,.agg (zf x).toArray] w λe' w'=>∃tv,e'=.returned (.tuple #[tv,.int .i64 0])∧Fr (Vj p ma ms (R n)) w w'∧w'.ownsRow w.heap.size 34 3 tv (jP (Q n) x).length (zbE C n (jP (Q n) x))∧∃d,(∀j,d.ownBlock=some j→(R n).ownBlock=some j)∧yO w0 w' p ma ms (vr R n d) X C (jg Q n (Qr (Q n) x)):=by
 have zh:=yS
 have zT:=vt
 have B:=h.idok n x E
 have af:=J B
 have XL:=J (zx B)
 have HH:=J h
 have W:=J O
 have aK:(n:Int)<65:=by omega
 have i0:(0:Int)≤(n:Int):=by omega
 have HV:=J (h.val n)
 have ad:=J (Je (Q n))
 have QL:=J (h.val n).len
 have ql:=(h.val n).len
 have q:=J (h.idok n)
 have ax:=J (JH (k:=((n:Int),x)) B)
 have F1:=J ((frN w).alloc (.cells (zf x).toArray 41))
 have RK:=J (zy w (zf x) 41)
 have l:vq Q n x=true:=by unfold vq;simp only[decide_eq_true_eq];exact⟨i0,aK,by rw[Int.toNat_natCast];exact E⟩
 obtain⟨cs,ai⟩:∃cs,ZT C Q n x=cs:=⟨_,rfl⟩
 have ag:cs.length=3∧∀v∈cs,v.oneCell'=true:=by
  rw[←ai]
  unfold ZT
  rw[if_pos l,Int.toNat_natCast]
  obtain⟨e,he,rfl⟩:=mem_map.1 E
  exact YU (h.data n O e he).now
 have al:=J ag.1
 have aP:=J ag.2
 obtain⟨M,hM,hm⟩:=(h.fr0 (F1.o.drew)).am
 have LK:=@J (∀w',vi w' ma M→(Instr.lookup 113 (.map (some ma)) (.agg (skC (n,x)).toArray) true).run prog w'=.ok (.tuple #[.agg cs.toArray,.bool true]) w') (λw' h'=>by
  have:=Zm (w:=w') (Vq O) B h' hm true
  rw[ai,l] at this
  simpa using this)
 have aY:=J hM
 obtain⟨ra,rc,hR⟩:=h.row_form O
 have aQ:=@J (w.cell? ⟨p,1+n,none⟩=some (.slice ra (Q n).length rc)) (by rw[←hR,add_comm];exact h.cells.2.2 n O)
 have av:=@J (w.ownsRow w0.heap.size 41 32 (.slice ra (Q n).length rc) (yM (Q n)).length ((yM (Q n)).flatMap zf)) (by rw[←hR];exact h.row n O)
 have aM:=@J (∀j,Vj p ma ms (R n) j→j<w.heap.size) (λj a=>h.hi j (Jh O j a))
 clear h O B hM hm ai l E ag hR
 go_enter Tryz.func14,Tryz.ntmps14
 go_wp2_with fail
 generalize bh:w.heap.size=q0 at*
 generalize aI:w.alloc (.cells (zf x).toArray 41)=wa at*
 have ZA:=@J (wa.heap.size=q0+1) (by rw[←aI,←bh];simp)
 clear aI
 have HD:=J (HH.o.fr0 F1.o.drew)
 have RD:=J (za RK.o (frN wa).drew id)
 have aT:=J F1.o.drew
 have HM:=J aY.o
 have ZD:=@J (wa.drew.heap.size=q0+1) (ZA.o)
 refine wrLx [ff,ff,ff,ff,ff,ff,ff,ff,ff,ff,ff,tt,tt,ff] (λw'=>w'.cell? ⟨p,0,none⟩=some (.map (some ma))∧w'.rangeAt q0 0 (zf x)∧vi w' ma M) ?_ (λK hK=>?_)
 ·exact⟨HD.o.cells.1,RD.o,HM.o⟩
 generalize wa.drew=D at*
 repeat((first|(refine zl rfl ?_;constructor;constructor;(focus(first|exact zog rfl (λw h=>h.2.1) XL.o|exact λw' _=>yQ (t:=110) rfl rfl vL (jU _ af.o) (vJ _ _) ax.o|exact λw' h=>zM (t:=113) rfl rfl rfl (LK.o w' h.2.2)|(rintro w' ⟨s1,s2,s3⟩;exact goS))))|(refine zm rfl ?_));try simp only[Act.put,pA,pB,pC])
 (refine zF rfl (λK' hK'=>?_))
 refine yg (yw rfl (vt _)) ?_
 refine nXt hK' ?_ λhS=>?_
 ·exact⟨((frN D).alloc _).cell HD.o.cells.1 id,za RD.o ((frN D).alloc _) id,HM.o.keep ((frN D).alloc _) id⟩
 try simp only[Act.put,pA,pB,pC]
 (refine zF rfl (λK' hK'=>?_))
 refine yN (zj (w:=D) (ty:=34) (cs:=cs) rfl rfl rfl (by rw[al.o];rfl) (by rw[al.o];exact y5) aP.o) ?_
 refine nXt hK' ?_ λhS=>?_
 ·exact⟨((frN D).alloc _).cell HD.o.cells.1 id,za RD.o ((frN D).alloc _) id,HM.o.keep ((frN D).alloc _) id⟩
 try simp only[Act.put]
 repeat((first|(refine zl rfl ?_;constructor;constructor;(focus(first|(rintro w' -;exact goS))))|(refine zm rfl ?_));try simp only[Act.put,pA,pB,pC])
 refine zL (hK.out _ _ ?_)
 have FE:=J (aT.o.alloc (.cells cs.toArray 34))
 have RE:=J (za RD.o ((frN D).alloc (.cells cs.toArray 34)) id)
 have ZE:=@J ((D.alloc (.cells cs.toArray 34)).heap.size=q0+2) (by simp[ZD.o])
 generalize D.alloc (.cells cs.toArray 34)=we at*
 have HE:=J (HH.o.fr0 FE.o)
 have aL:=J (zkG HE.o W.o af.o)
 have aN:=J (λw' (f:Fr No w w')=>YG w' (yP.own (zb av.o f (λ_ _=>id)) q.o) (by rw[ad.o];have:=QL.o;omega))
 have⟨Y,Z,K2,K3⟩:=tZ4
 go_wp2_with ((first|((with_reducible refine zt ?_);first|(clear Y;refine zoc rfl rfl rfl RE.o XL.o ?_)|(clear Z;refine zg rfl (yQ (t:=110) rfl rfl vL (jU _ af.o) (vJ _ _) ax.o) ?_))|(clear K2;go_at_call 43;refine aL.o.mono ?_;rintro e' w3 ⟨bi,MI,rfl,u,az,ay,f3⟩;have aq:=J u;have aX:=J az;have ao:=J ay;have F3:=J (FE.o.trans0 f3);have C3:=J (F3.o.cell aQ.o id);clear u az ay f3;have c3:=C3.o)|(clear K3;go_at_call 42;refine(aN.o w3 F3.o).mono ?_;rintro e' m ⟨cv,rfl,ak,f4⟩;obtain⟨ca,cc,aA⟩:=ak.slice.arg.form;rw[ad.o] at aA;subst aA;have O4:=J ak;have F4:=J (F3.o.trans0 f4);have G:=J (aq.o.keep f4 id);have Z4:=J f4.size;clear ak f4));go_frame)
 have H4:=J (HH.o.fr0 F4.o)
 have ZQ:=@J (q0≤w3.heap.size) (by have:=F3.o.size;omega)
 have aO:=@J (∀j,(Value.slice ca (Q n).length cc).ownBlock=some j→¬Vj p ma ms (R n) j) (λj a e=>by have:=(O4.o.lt j a).1;have:=aM.o j e;have:=ZQ.o;omega)
 have ae:=@J (q0+2≤w3.heap.size) (by have:=F3.o.size;have:=ZE.o;have:=aq.o.lt;have:=ao.o;omega)
 obtain⟨A,s⟩:∃A:Nat→Prop,A=λj=>X j∨m.heap.size≤j:=⟨_,rfl⟩
 have bd:=@J (∀j,m.heap.size≤j→A j) (λj a=>by rw[s];exact .inr a)
 have bf:=@J (∀j,X j→A j) (λj a=>by rw[s];exact .inl a)
 have aW:=@J (yO w0 m p ma ms R A C Q) (H4.o.frV (frN m) (λ_ _=>id) (λ_ h=>h.elim) (λ_ h=>h.elim) (λj a e=>by rw[s] at e;exact e.resolve_right (by omega)) (λj a=>by rw[s];exact .inl (H4.o.sub j a)))
 clear s
 have r:=@J (∀d,(∀j,d.ownBlock=some j→(R n).ownBlock=some j)→∀j,stV p ma ms (vr R n d) j→j<q0∧X j) (λd hv j a=>by
  have z:stV p ma ms R j:=by
   rcases a with e|e|e|⟨i,hi,e⟩
   ·exact .inl e
   ·exact .inr (.inl e)
   ·exact .inr (.inr (.inl e))
   ·unfold vr at e
    by_cases c:i=n
    ·rw[if_pos c] at e;exact .inr (.inr (.inr ⟨n,W.o,hv j e⟩))
    ·rw[if_neg c] at e;exact .inr (.inr (.inr ⟨i,hi,e⟩))
  exact⟨by have:=HH.o.hi j z;omega,HH.o.sub j z⟩)
 have ba:=@J (zef w0 m p ma ms R A C Q n (qt (Q n) x) bi MI 0 (.slice none 0 0) m) (⟨R n,by rw[zhm,zgy,zbm];exact aW.o,λj h=>h,by rw[zgb];exact World.ownsRow_nil _ _ _ _,Fr.refl _ _,G.o⟩)
 go_loopw [11,42] (λtv iv wr=>∃k:Nat,iv=.int .i64 k∧k≤(Q n).length∧zef w0 m p ma ms R A C Q n (qt (Q n) x) bi MI k tv wr) (λ_ iv _=>(Q n).length-(intOf iv).toNat)
 case atStart=>exact⟨0,rfl,zero_le _,ba.o⟩
 case round=>
  obtain⟨k,rfl,hk,aE⟩:=hrel
  have TK:=J aE
  obtain⟨d,z,aG,y,aC,u⟩:=aE
  obtain⟨ta,tc,bj⟩:=y.slice.arg.form
  subst bj
  have ST:=J z
  have I:=J aG
  have ab:=J y
  have FR:=J aC
  have ar:=J u
  clear z aG y aC u
  by_cases bg:k<(Q n).length
  ·have i1:(k:Int)<((Q n).length:Int):=by omega
   obtain⟨e,B⟩:∃e,(Q n)[k]? =some e:=⟨_,getElem?_eq_getElem bg⟩
   have HX:=J B
   have aB:=mem_of_getElem? B
   have o:=J (q.o e.id (mem_map.2 ⟨e,aB,rfl⟩))
   have F:=J (zx o.o)
   have aJ:(yM (Q n))[k]? =some e.id:=by unfold yM;rw[getElem?_map,B];rfl
   have aS:=@J (wr.ownsRow w3.heap.size 41 32 (.slice ca (Q n).length cc) (yM (Q n)).length ((yM (Q n)).flatMap zf)) (zb O4.o FR.o (λj a e=>aO.o j a e))
   obtain⟨g,off,bo,aH,aD,-⟩:=(yP.own aS.o q.o).at_ aJ
   rw[ad.o] at aH
   cases aH
   have R1:=J aD
   have RN:=J (zy wr (zf e.id) 41)
   have FA:=J ((frN wr).alloc (.cells (zf e.id).toArray 41))
   clear B aB aJ aD
   have LI:=J (zbc (ar.o.keep FA.o id) aX.o o.o)
   unfold y7 at LI
   have bb:=J (TK.o.fr0 FA.o)
   by_cases hw:e.id∈qt (Q n) x
   ·rw[if_pos hw] at LI
    have S:=J (ziE HV.o.nd HX.o hw)
    have T:=@J (e∈jg Q n (J5 (Q n) (qt (Q n) x) k) n) (by rw[xQ];exact ziF HX.o)
    have H:=J (JH (k:=((n:Int),e.id)) o.o)
    clear hw
    have⟨Y,Z,K2,K3⟩:=tZ4
    go_wp2_with ((first|((with_reducible refine zt ?_);first|(clear Y;refine zoc rfl rfl rfl R1.o F.o ?_)|(clear K2;refine zoc rfl rfl rfl RN.o F.o ?_)|(clear K3;refine zg rfl (zM (t:=120) rfl rfl rfl LI.o) ?_))|((with_reducible refine zv ?_);clear Z;refine zol (w:=wr) (cs:=zf e.id) rfl rfl rfl rfl F.o zU ?_));go_frame)
    generalize bp:wr.heap.size=qx at*
    generalize bl:wr.alloc (.cells (zf e.id).toArray 41)=wn at*
    clear bl
    have FN:=J (FA.o.drew)
    have SN:=J (ST.o.fr0 FN.o)
    have aa:=J (za RN.o (frN wn).drew id)
    have aw:=J (zb ab.o FN.o (λ_ _=>id))
    have U:=J (FR.o.trans0 FN.o)
    have a7:=J (ar.o.keep FN.o id)
    obtain⟨M,hM,hm⟩:=SN.o.am
    have N:=(SN.o.data n W.o e T.o).now
    obtain⟨ia,ic,oa,oc,ah⟩:=N.form
    have L:ZT C (jg Q n (J5 (Q n) (qt (Q n) x) k)) n e.id=[.int .u32 e.tx.ver,.slice ia e.tx.ins.length ic,.slice oa e.tx.outs.length oc]:=by
     unfold ZT
     rw[if_pos (show vq _ n e.id=true from by unfold vq;simp only[decide_eq_true_eq];exact⟨i0,aK,by rw[Int.toNat_natCast];exact mem_map.2 ⟨e,T.o,rfl⟩⟩),Int.toNat_natCast,ah]
    have a1:=@J (∀w',vi w' ma M→(Instr.lookup 113 (.map (some ma)) (.agg (skC (n,e.id)).toArray) false).run prog w'=.ok (.agg #[.int .u32 e.tx.ver,.slice ia e.tx.ins.length ic,.slice oa e.tx.outs.length oc]) w') (λw' h'=>by
     have:=Zm (w:=w') (Vq W.o) o.o h' hm false
     rw[L] at this
     simpa using this)
    have V:=J hM
    have aV:=@J (zbE C n (jK (Q n) (qt (Q n) x) (k+1))=zbE C n (jK (Q n) (qt (Q n) x) k)++[.int .u32 e.tx.ver,.slice ia e.tx.ins.length ic,.slice oa e.tx.outs.length oc]) (by rw[S.o.2,zga,ah])
    have aU:=@J ((jK (Q n) (qt (Q n) x) (k+1)).length=(jK (Q n) (qt (Q n) x) k).length+1) (by rw[S.o.2];simp)
    have an:=@J ((jK (Q n) (qt (Q n) x) k).length≤4) (le_trans zhP (by have:=QL.o;omega))
    clear hM hm ah L N
    refine wrLx [ff,ff,ff,ff,ff,ff,ff,ff,ff,tt,tt,ff] (λw'=>w'.cell? ⟨p,0,none⟩=some (.map (some ma))∧w'.rangeAt qx 0 (zf e.id)∧vi w' ma M) ?_ (λK hK=>?_)
    ·exact⟨SN.o.cells.1,aa.o,V.o⟩
    generalize wn.drew=wm at*
    obtain⟨v8,w8,b1,b2,b3,-,b5⟩:=yY (P:=prog) wm m.heap.size 23 23 34 3 56 _ zd4 zg4 rfl (by decide) aw.o [.int .u32 e.tx.ver,.slice ia e.tx.ins.length ic,.slice oa e.tx.outs.length oc] rfl (qM rfl rfl rfl) (by have:=an.o;omega) (by have:=an.o;unfold maxLen;omega) U.o.size
    obtain⟨bm,bn,bk⟩:=b2.slice.arg.form
    subst bk
    have B1:=J b1
    have B2:=J b2
    have B3:=J b3
    have B5:=J b5
    clear b1 b2 b3 b5
    have b:=@J (∀j,(Value.slice ta (jK (Q n) (qt (Q n) x) k).length tc).ownBlock=some j→m.heap.size≤j∧j<qx) (λj a=>by have:=ab.o.lt j a;omega)
    have bc:=@J (w0.heap.size≤m.heap.size) (H4.o.fr.size)
    have S8:=@J (yO w0 w8 p ma ms (vr R n d) A C (jg Q n (J5 (Q n) (qt (Q n) x) k))) (SN.o.frV B3.o (λj a e=>by have h1:=(b.o j e).1;have h2:=(r.o d I.o j a).1;have:=ae.o;have:=Z4.o;omega) (λj e=>by have:=(b.o j e).1;have:=bc.o;omega) (λj e=>bd.o j (b.o j e).1) (λ_ _ h=>h) SN.o.sub)
    have ct:=zl4 S8.o W.o T.o
    rw[Qh,xQ,←S.o.1] at ct
    simp only[zkz,zky] at ct
    have CT:=J ct
    have au:=J (za aa.o B3.o (λe=>by have:=(b.o _ e).2;omega))
    have aZ:=J (V.o.keep B3.o (λe=>by have h1:=(b.o _ e).1;have h2:=(r.o d I.o ma (.inr (.inl rfl))).1;have:=ae.o;have:=Z4.o;omega))
    have a6:=J (a7.o.keep B3.o (λe=>by have h1:=(b.o _ e).1;have:=G.o.lt;omega))
    have aR:=@J (Fr (Vj p ma ms (R n)) m w8) (U.o.trans B3.o (λj a e=>by have:=(b.o j e).1;omega))
    clear ct
    repeat((first|(refine zl rfl ?_;constructor;constructor;(focus(first|exact zog rfl (λw h=>h.2.1) F.o|exact λw' _=>yQ (t:=110) rfl rfl vL (jU _ o.o) (vJ _ _) H.o|exact λw' h=>zM (t:=113) rfl rfl rfl (a1.o w' h.2.2)|(rintro w' ⟨s1,s2,s3⟩;exact goS))))|(refine zm rfl ?_));try simp only[Act.put,pA,pB,pC])
    (refine zF rfl (λK' hK'=>?_))
    refine yg (zS (t:=23) (cs:=[.int .u32 e.tx.ver,.slice ia e.tx.ins.length ic,.slice oa e.tx.outs.length oc]) rfl rfl zd4 zeL rfl (by decide) (by decide) rfl) ?_
    have FB:=J ((frN wm).alloc (.cells #[.int .u32 e.tx.ver,.slice ia e.tx.ins.length ic,.slice oa e.tx.outs.length oc] 34))
    refine nXt hK' ?_ λhS=>?_
    ·exact⟨FB.o.cell SN.o.cells.1 id,za aa.o FB.o id,V.o.keep FB.o id⟩
    try simp only[Act.put,pA,pB,pC]
    (refine zF rfl (λK' hK'=>?_))
    refine yr rfl rfl rfl B1.o ?_
    refine nXt hK' ?_ λhS=>?_
    ·exact⟨S8.o.cells.1,au.o,aZ.o⟩
    try simp only[Act.put,pA,pB,pC]
    repeat((first|(refine zl rfl ?_;constructor;constructor;(focus(first|(rintro w' -;exact goS))))|(refine zm rfl ?_));try simp only[Act.put,pA,pB,pC])
    refine zL (hK.out _ _ ?_)
    have⟨Y,Z,K2⟩:=tZ3
    go_wp2_with ((first|((with_reducible refine zt ?_);first|(clear Y;refine zoc rfl rfl rfl au.o F.o ?_)|(clear Z;refine zg rfl (yQ (t:=110) rfl rfl vL (jU _ o.o) (vJ _ _) H.o) ?_))|(clear K2;go_at_call 44;refine CT.o.mono ?_;rintro e' w9 ⟨rfl,f9,v9,aF,s9⟩;have F9:=J f9;have V9:=J aF;have S9:=J s9;clear f9 aF s9));go_frame)
    have a8:=@J (zef w0 m p ma ms R A C Q n (qt (Q n) x) bi MI (k+1) (.slice bm ((jK (Q n) (qt (Q n) x) k).length+1) bn) w9) (by
     refine⟨v9,S9.o,λj a=>I.o j (V9.o j a),?_,aR.o.trans F9.o (λj _ e=>?_),a6.o.keep F9.o (λe=>?_)⟩
     ·rw[aU.o,aV.o]
      refine zb B2.o F9.o (λj a e=>?_)
      have h1:m.heap.size≤j:=by
       rcases B5.o j a with h|h
       ·exact(b.o j h).1
       ·have:=U.o.size;omega
      have h2:=(r.o d I.o j (by have:=Jh (p:=p) (ma:=ma) (ms:=ms) (R:=vr R n d) W.o j (by rw[Qh];exact e);exact this)).1
      have:=ae.o
      have:=Z4.o
      omega
     ·rcases e with e|e|e|e
      ·exact .inl e
      ·exact .inr (.inl e)
      ·exact .inr (.inr (.inl e))
      ·exact .inr (.inr (.inr (I.o j e)))
     ·have h2:=(r.o d I.o bi (by have:=Jh (p:=p) (ma:=ma) (ms:=ms) (R:=vr R n d) W.o bi (by rw[Qh];exact e);exact this)).1
      have:=ao.o
      have:=ZE.o
      omega)
    go_roundw
    case rel=>exact⟨k+1,by go_num,by omega,a8.o⟩
    case measure=>simp[intOf];omega
   ·rw[if_neg hw] at LI
    have NX:=@J (zef w0 m p ma ms R A C Q n (qt (Q n) x) bi MI (k+1) (.slice ta (jK (Q n) (qt (Q n) x) k).length tc) (wr.alloc (.cells (zf e.id).toArray 41))) (by
     have:=zgx HX.o hw
     unfold zef
     rw[this.1,this.2]
     exact bb.o)
    clear hw
    have⟨Y,Z,K2,K3⟩:=tZ4
    go_wp2_with ((first|((with_reducible refine zt ?_);first|(clear Y;refine zoc rfl rfl rfl R1.o F.o ?_)|(clear K2;refine zoc rfl rfl rfl RN.o F.o ?_)|(clear K3;refine zg rfl (zM (t:=120) rfl rfl rfl LI.o) ?_))|((with_reducible refine zv ?_);clear Z;refine zol (w:=wr) (cs:=zf e.id) rfl rfl rfl rfl F.o zU ?_));go_frame)
    go_roundw
    case rel=>exact⟨k+1,by go_num,by omega,NX.o⟩
    case measure=>simp[intOf];omega
  ·have aj:k=(Q n).length:=by omega
   have i1:¬(k:Int)<((Q n).length:Int):=by omega
   have GA:=@J (jK (Q n) (qt (Q n) x) k=jP (Q n) x) (by rw[aj,zhO];rfl)
   have SA:=@J (J5 (Q n) (qt (Q n) x) k=Qr (Q n) x) (by rw[aj,ziD];rfl)
   clear aj
   go_wp2_with fail
   go_ret2
   refine⟨_,rfl,F4.o.of0.trans FR.o (λ_ _ e=>e),?_,d,I.o,?_⟩
   ·rw[←GA.o]
    exact yU ab.o (by have:=F4.o.size;omega)
   ·rw[←SA.o]
    exact ST.o.frV (frN _) (λ_ _=>id) (λ_ h=>h.elim) (λ_ h=>h.elim) (λj _ e=>bf.o j e) (λj a=>(r.o d I.o j a).2)
end
section
variable {w0 w w0p w0c:World} {ps ma ms pp mp mq g N pc:Nat} {R:Nat→Value} {X Y VG VC:Nat→Prop} {C:Nat→zd→List Value} {CP:zd→List Value} {Q:StQ} {L:List yd} {S:List zr} {bs:List yB} {I:List zd}
theorem zmL (h:yO w0 w ps ma ms R X C Q) (hp:yq w0p w pp mp mq g VG Y CP L N) (hc:Cn w0c w pc VC S bs I) (hn:n<65) {x:zd} (D:zY x):
  Calls prog 39 #[.pointer (some ⟨ps,0,none⟩),.pointer (some ⟨pc,0,none⟩),.pointer (some ⟨pp,0,none⟩),.agg (skC (n,x)).toArray] w λe w'=>e=.returned (.int .i64 (jC I L (Q n) x))∧Fr No w w':=by
 have zT:=vt
 have af:(n:Int)<65:=by omega
 have i0:(0:Int)≤(n:Int):=by omega
 have HH:=J h
 have Z:=J (zx D)
 have SL:=J (JH (k:=((n:Int),x)) D)
 have s:=J ((frN w).alloc (.cells (skC (n,x)).toArray 110))
 have RK:=J (zaD w n x)
 have q:=J (λw' (f:Fr No w w')=>znL (hp.fr0 f) D)
 have A:=J (λw' (f:Fr No w w')=>zcK (hc.fr0 f) D)
 obtain⟨cs,U⟩:∃cs,ZT C Q n x=cs:=⟨_,rfl⟩
 have T:cs.length=3∧∀v∈cs,v.oneCell'=true:=by
  rw[←U]
  obtain⟨v,ia,il,ic,oa,oc,e,-⟩:=zcB h hn x
  rw[e]
  exact⟨rfl,qM rfl rfl rfl⟩
 have i:=J T.1
 have y:=J T.2
 obtain⟨M,hM,hm⟩:=h.am
 have HM:=J (λw' (f:Fr No w w')=>hM.keep f id)
 have MQ:=@J (vq Q n x=decide (x∈yM (Q n))) (by
  unfold vq
  rw[Int.toNat_natCast]
  by_cases D:x∈yM (Q n)
  ·simp[D,i0,af]
  ·simp[D])
 have B:=@J (∀w',vi w' ma M→(Instr.lookup 113 (.map (some ma)) (.agg (skC (n,x)).toArray) true).run prog w'=.ok (.tuple #[.agg cs.toArray,.bool (decide (x∈yM (Q n)))]) w') (λw' h'=>by
  have:=Zm (w:=w') (Vq hn) D h' hm true
  rw[U,MQ.o] at this
  simpa using this)
 obtain⟨ra,rc,hR⟩:=h.row_form hn
 have ad:=@J (w.cell? ⟨ps,1+n,none⟩=some (.slice ra (Q n).length rc)) (by rw[←hR,add_comm];exact h.cells.2.2 n hn)
 clear h hp hc hn D hM hm U T hR
 by_cases hmine:x∈yM (Q n)
 ·have c:=@J (jC I L (Q n) x=10) (by unfold jC;rw[if_pos (.inl hmine)])
  have P:=B
  rw[decide_eq_true hmine] at P
  clear hmine B
  go_enter Tryz.func39,Tryz.ntmps39
  go_wp2_with fail
  generalize V:w.heap.size=F at*
  generalize o:w.alloc (.cells (skC (n,x)).toArray 110)=p at*
  clear o
  have m:=J (HH.o.fr0 s.o.drew)
  have d:=J (za RK.o (frN p).drew id)
  have l:=J s.o.drew
  have b:=J (HM.o p.drew s.o.drew)
  refine wrLx [ff,ff,ff,ff,ff,ff,ff,ff,ff,tt,tt,ff] (λw'=>w'.cell? ⟨ps,0,none⟩=some (.map (some ma))∧w'.rangeAt F 0 (skC (n,x))∧vi w' ma M) ?_ (λK hK=>?_)
  ·exact⟨m.o.cells.1,d.o,b.o⟩
  generalize p.drew=a at*
  repeat((first|(refine zl rfl ?_;constructor;constructor;(focus(first|exact zoi rfl (λw h=>h.2.1) SL.o|exact λw' h=>zM (t:=113) rfl rfl rfl (P.o w' h.2.2)|(rintro w' ⟨s1,s2,s3⟩;exact goS))))|(refine zm rfl ?_));try simp only[Act.put,pA,pB,pC])
  (refine zF rfl (λK' hK'=>?_))
  refine yg (yw rfl (vt _)) ?_
  refine nXt hK' ?_ λhS=>?_
  ·exact⟨((frN a).alloc _).cell m.o.cells.1 id,za d.o ((frN a).alloc _) id,b.o.keep ((frN a).alloc _) id⟩
  try simp only[Act.put,pA,pB,pC]
  (refine zF rfl (λK' hK'=>?_))
  refine yN (zj (w:=a) (ty:=34) (cs:=cs) rfl rfl rfl (by rw[i.o];rfl) (by rw[i.o];exact y5) y.o) ?_
  refine nXt hK' ?_ λhS=>?_
  ·exact⟨((frN a).alloc _).cell m.o.cells.1 id,za d.o ((frN a).alloc _) id,b.o.keep ((frN a).alloc _) id⟩
  try simp only[Act.put]
  repeat((first|(refine zl rfl ?_;constructor;constructor;(focus(first|(rintro w' -;exact goS))))|(refine zm rfl ?_));try simp only[Act.put,pA,pB,pC])
  refine zL (hK.out _ _ ?_)
  have u:=J (l.o.alloc (.cells cs.toArray 34))
  have E:=J (za d.o ((frN a).alloc (.cells cs.toArray 34)) id)
  have j:=J (Qu E.o).2
  generalize a.alloc (.cells cs.toArray 34)=W at*
  have⟨H,O⟩:=tZ2
  go_wp2_with ((first|((with_reducible refine zt ?_);clear H;refine zoc rfl rfl rfl j.o Z.o ?_)|(clear O;go_at_call 73;refine(q.o W u.o).mono ?_;rintro e w3 ⟨f,rfl,r⟩;have z:=J (u.o.trans0 r);clear r));go_frame)
  go_ret
  exact⟨by rw[c.o];rfl,z.o⟩
 ·have P:=B
  rw[decide_eq_false hmine] at P
  have NM:=J hmine
  clear hmine B
  by_cases hthere:x∈xt L
  ·have c:=@J (jC I L (Q n) x=10) (by unfold jC;rw[if_pos (.inr hthere)])
   rw[decide_eq_true hthere] at q
   clear hthere
   go_enter Tryz.func39,Tryz.ntmps39
   go_wp2_with fail
   generalize V:w.heap.size=F at*
   generalize o:w.alloc (.cells (skC (n,x)).toArray 110)=p at*
   clear o
   have m:=J (HH.o.fr0 s.o.drew)
   have d:=J (za RK.o (frN p).drew id)
   have l:=J s.o.drew
   have b:=J (HM.o p.drew s.o.drew)
   refine wrLx [ff,ff,ff,ff,ff,ff,ff,ff,ff,tt,tt,ff] (λw'=>w'.cell? ⟨ps,0,none⟩=some (.map (some ma))∧w'.rangeAt F 0 (skC (n,x))∧vi w' ma M) ?_ (λK hK=>?_)
   ·exact⟨m.o.cells.1,d.o,b.o⟩
   generalize p.drew=a at*
   repeat((first|(refine zl rfl ?_;constructor;constructor;(focus(first|exact zoi rfl (λw h=>h.2.1) SL.o|exact λw' h=>zM (t:=113) rfl rfl rfl (P.o w' h.2.2)|(rintro w' ⟨s1,s2,s3⟩;exact goS))))|(refine zm rfl ?_));try simp only[Act.put,pA,pB,pC])
   (refine zF rfl (λK' hK'=>?_))
   refine yg (yw rfl (vt _)) ?_
   refine nXt hK' ?_ λhS=>?_
   ·exact⟨((frN a).alloc _).cell m.o.cells.1 id,za d.o ((frN a).alloc _) id,b.o.keep ((frN a).alloc _) id⟩
   try simp only[Act.put,pA,pB,pC]
   (refine zF rfl (λK' hK'=>?_))
   refine yN (zj (w:=a) (ty:=34) (cs:=cs) rfl rfl rfl (by rw[i.o];rfl) (by rw[i.o];exact y5) y.o) ?_
   refine nXt hK' ?_ λhS=>?_
   ·exact⟨((frN a).alloc _).cell m.o.cells.1 id,za d.o ((frN a).alloc _) id,b.o.keep ((frN a).alloc _) id⟩
   try simp only[Act.put]
   repeat((first|(refine zl rfl ?_;constructor;constructor;(focus(first|(rintro w' -;exact goS))))|(refine zm rfl ?_));try simp only[Act.put,pA,pB,pC])
   refine zL (hK.out _ _ ?_)
   have u:=J (l.o.alloc (.cells cs.toArray 34))
   have E:=J (za d.o ((frN a).alloc (.cells cs.toArray 34)) id)
   have j:=J (Qu E.o).2
   generalize a.alloc (.cells cs.toArray 34)=W at*
   have⟨H,O⟩:=tZ2
   go_wp2_with ((first|((with_reducible refine zt ?_);clear H;refine zoc rfl rfl rfl j.o Z.o ?_)|(clear O;go_at_call 73;refine(q.o W u.o).mono ?_;rintro e w3 ⟨f,rfl,r⟩;have z:=J (u.o.trans0 r);clear r));go_frame)
   go_ret
   exact⟨by rw[c.o];rfl,z.o⟩
  ·have NT:=J hthere
   rw[decide_eq_false hthere] at q
   clear hthere
   have aa:=@J (jC I L (Q n) x=if x∈I then 19 else if 4≤(Q n).length then 18 else 0) (by unfold jC;rw[if_neg (λh=>h.elim NM.o NT.o)])
   by_cases hdone:x∈I
   ·have c:=@J (jC I L (Q n) x=19) (by rw[aa.o,if_pos hdone])
    rw[decide_eq_true hdone] at A
    clear hdone
    go_enter Tryz.func39,Tryz.ntmps39
    go_wp2_with fail
    generalize V:w.heap.size=F at*
    generalize o:w.alloc (.cells (skC (n,x)).toArray 110)=p at*
    clear o
    have m:=J (HH.o.fr0 s.o.drew)
    have d:=J (za RK.o (frN p).drew id)
    have l:=J s.o.drew
    have b:=J (HM.o p.drew s.o.drew)
    refine wrLx [ff,ff,ff,ff,ff,ff,ff,ff,ff,tt,tt,ff] (λw'=>w'.cell? ⟨ps,0,none⟩=some (.map (some ma))∧w'.rangeAt F 0 (skC (n,x))∧vi w' ma M) ?_ (λK hK=>?_)
    ·exact⟨m.o.cells.1,d.o,b.o⟩
    generalize p.drew=a at*
    repeat((first|(refine zl rfl ?_;constructor;constructor;(focus(first|exact zoi rfl (λw h=>h.2.1) SL.o|exact λw' h=>zM (t:=113) rfl rfl rfl (P.o w' h.2.2)|(rintro w' ⟨s1,s2,s3⟩;exact goS))))|(refine zm rfl ?_));try simp only[Act.put,pA,pB,pC])
    (refine zF rfl (λK' hK'=>?_))
    refine yg (yw rfl (vt _)) ?_
    refine nXt hK' ?_ λhS=>?_
    ·exact⟨((frN a).alloc _).cell m.o.cells.1 id,za d.o ((frN a).alloc _) id,b.o.keep ((frN a).alloc _) id⟩
    try simp only[Act.put,pA,pB,pC]
    (refine zF rfl (λK' hK'=>?_))
    refine yN (zj (w:=a) (ty:=34) (cs:=cs) rfl rfl rfl (by rw[i.o];rfl) (by rw[i.o];exact y5) y.o) ?_
    refine nXt hK' ?_ λhS=>?_
    ·exact⟨((frN a).alloc _).cell m.o.cells.1 id,za d.o ((frN a).alloc _) id,b.o.keep ((frN a).alloc _) id⟩
    try simp only[Act.put]
    repeat((first|(refine zl rfl ?_;constructor;constructor;(focus(first|(rintro w' -;exact goS))))|(refine zm rfl ?_));try simp only[Act.put,pA,pB,pC])
    refine zL (hK.out _ _ ?_)
    have u:=J (l.o.alloc (.cells cs.toArray 34))
    have E:=J (za d.o ((frN a).alloc (.cells cs.toArray 34)) id)
    have j:=J (Qu E.o).2
    generalize a.alloc (.cells cs.toArray 34)=W at*
    have⟨H,O,K2,K3⟩:=tZ4
    go_wp2_with ((first|((with_reducible refine zt ?_);first|(clear H;refine zoc rfl rfl rfl j.o Z.o ?_)|(clear K2;refine zoc rfl rfl rfl R3.o Z.o ?_))|(clear O;go_at_call 73;refine(q.o W u.o).mono ?_;rintro e w3 ⟨f,rfl,r⟩;have z:=J (u.o.trans0 r);have R3:=J (za j.o r id);clear r)|(clear K3;go_at_call 74;refine(A.o w3 z.o).mono ?_;rintro e w4 ⟨rfl,f4⟩;have F4:=J (z.o.trans0 f4);clear f4));go_frame)
    go_ret
    exact⟨by rw[c.o];rfl,F4.o⟩
   ·have ab:=@J (jC I L (Q n) x=if 4≤(Q n).length then 18 else 0) (by rw[aa.o,if_neg hdone])
    rw[decide_eq_false hdone] at A
    clear hdone
    go_enter Tryz.func39,Tryz.ntmps39
    go_wp2_with fail
    generalize V:w.heap.size=F at*
    generalize o:w.alloc (.cells (skC (n,x)).toArray 110)=p at*
    clear o
    have m:=J (HH.o.fr0 s.o.drew)
    have d:=J (za RK.o (frN p).drew id)
    have l:=J s.o.drew
    have b:=J (HM.o p.drew s.o.drew)
    refine wrLx [ff,ff,ff,ff,ff,ff,ff,ff,ff,tt,tt,ff] (λw'=>w'.cell? ⟨ps,0,none⟩=some (.map (some ma))∧w'.rangeAt F 0 (skC (n,x))∧vi w' ma M) ?_ (λK hK=>?_)
    ·exact⟨m.o.cells.1,d.o,b.o⟩
    generalize p.drew=a at*
    repeat((first|(refine zl rfl ?_;constructor;constructor;(focus(first|exact zoi rfl (λw h=>h.2.1) SL.o|exact λw' h=>zM (t:=113) rfl rfl rfl (P.o w' h.2.2)|(rintro w' ⟨s1,s2,s3⟩;exact goS))))|(refine zm rfl ?_));try simp only[Act.put,pA,pB,pC])
    (refine zF rfl (λK' hK'=>?_))
    refine yg (yw rfl (vt _)) ?_
    refine nXt hK' ?_ λhS=>?_
    ·exact⟨((frN a).alloc _).cell m.o.cells.1 id,za d.o ((frN a).alloc _) id,b.o.keep ((frN a).alloc _) id⟩
    try simp only[Act.put,pA,pB,pC]
    (refine zF rfl (λK' hK'=>?_))
    refine yN (zj (w:=a) (ty:=34) (cs:=cs) rfl rfl rfl (by rw[i.o];rfl) (by rw[i.o];exact y5) y.o) ?_
    refine nXt hK' ?_ λhS=>?_
    ·exact⟨((frN a).alloc _).cell m.o.cells.1 id,za d.o ((frN a).alloc _) id,b.o.keep ((frN a).alloc _) id⟩
    try simp only[Act.put]
    repeat((first|(refine zl rfl ?_;constructor;constructor;(focus(first|(rintro w' -;exact goS))))|(refine zm rfl ?_));try simp only[Act.put,pA,pB,pC])
    refine zL (hK.out _ _ ?_)
    have u:=J (l.o.alloc (.cells cs.toArray 34))
    have E:=J (za d.o ((frN a).alloc (.cells cs.toArray 34)) id)
    have j:=J (Qu E.o).2
    generalize a.alloc (.cells cs.toArray 34)=W at*
    have⟨H,O,K2,K3⟩:=tZ4
    go_wp2_with ((first|((with_reducible refine zt ?_);first|(clear H;refine zoc rfl rfl rfl j.o Z.o ?_)|(clear K2;refine zoc rfl rfl rfl ae.o Z.o ?_))|(clear O;go_at_call 73;refine(q.o W u.o).mono ?_;rintro e w3 ⟨f,rfl,r⟩;have z:=J (u.o.trans0 r);have R3:=J (za E.o r id);have ae:=J (Qu R3.o).2;clear r)|(clear K3;go_at_call 74;refine(A.o w3 z.o).mono ?_;rintro e w4 ⟨rfl,f4⟩;have F4:=J (z.o.trans0 f4);have R4:=J (za R3.o f4 id);clear f4));go_frame)
    have G:=J F4.o.drew
    have K4:=J (Qu (za R4.o (frN w4).drew id)).1
    refine wrLx [ff,ff,ff,ff,ff,ff,ff,ff,ff,ff] (λw'=>w'.cell? ⟨ps,1+n,none⟩=some (.slice ra (Q n).length rc)∧w'.cell? ⟨F,0,none⟩=some (.int .i64 n)) ?_ (λK hK=>?_)
    ·exact⟨G.o.cell ad.o id,K4.o⟩
    repeat((first|(refine zl rfl ?_;constructor;constructor;(focus(first|(rintro w' ⟨s1,s2⟩;exact goS))))|(refine zm rfl ?_));try simp only[Act.put,pA,pB,pC])
    refine zL (hK.out _ _ ?_)
    by_cases h4:4≤(Q n).length
    ·have c:=@J (jC I L (Q n) x=18) (by rw[ab.o,if_pos h4])
     have i4:(4:Int)≤((Q n).length:Int):=by omega
     go_wp2_with fail
     go_ret
     exact⟨by rw[c.o];rfl,G.o⟩
    ·have c:=@J (jC I L (Q n) x=0) (by rw[ab.o,if_neg h4])
     have i4:¬(4:Int)≤((Q n).length:Int):=by omega
     go_wp2_with fail
     go_ret
     exact⟨by rw[c.o];rfl,G.o⟩
end
def zfe (S:List zr) (L:List yd) (l:List StE) (t:TxD) (n:Nat):List yI:=((zZ t).take n).map λq=>(ZV S L l q).getD y6
theorem zii {S:List zr} {L:List yd} {l:List StE} {t:TxD} {q:zE} (h:(zZ t)[n]? =some q):(zfe S L l t (n+1)).flatMap zJ=(zfe S L l t n).flatMap zJ++zJ ((ZV S L l q).getD y6):=by
 unfold zfe
 rw[take_add_one,h]
 simp
theorem zj6 (S:List zr) (L:List yd) (l:List StE) (t:TxD):zfe S L l t t.ins.length=jD S L l t:=by
 unfold zfe jD
 rw[←vM,take_length]
section
variable {w0 w w0p w0c:World} {ps ma ms pp mp mq g N pc:Nat} {R:Nat→Value} {X Y VG VC:Nat→Prop} {C:Nat→zd→List Value} {CP:zd→List Value} {Q:StQ} {L:List yd} {S:List zr} {bs:List yB} {I:List zd}
theorem zlb (l:n<65) {q:zE} (o:q.ok) {M:List ((Int×zE)×zd)} (s:∀x∈yM (Q n),zY x) (p:Yl w ms M) (m:∀k x,(k,x)∈M↔∃i:Nat,i<65∧k.1=(i:Int)∧∃e∈Q i,k.2∈zZ e.tx∧e.id=x):
  ∃y,zY y∧∀w',Yl w' ms M→(Instr.lookup 114 (.map (some ms)) (.agg (spC (n,q)).toArray) true).run prog w'=.ok (.tuple #[.agg (zf y).toArray,.bool (Za (Q n) q)]) w':=by
 cases hs:Za (Q n) q with
 |true=>
  obtain⟨e,f,b⟩:=YS.1 hs
  have c:(((n:Int),q),e.id)∈M:=(m _ _).2 ⟨n,l,rfl,e,f,b,rfl⟩
  refine⟨e.id,s _ (mem_map.2 ⟨e,f,rfl⟩),λw' a=>?_⟩
  have h:=a.look zkX.keyed V2 (λ_ _=>zbj) yS (zba (k:=((n:Int),q)) (Vq l) o) true (r:=some e.id) (λv=>⟨λj=>by rw[←Option.some.inj j];exact c,λa=>by rw[p.uniq c a]⟩)
  unfold spV at h
  rw[h]
  rfl
 |false=>
  refine⟨yR,xM,λw' a=>?_⟩
  have h:=a.look zkX.keyed V2 (λ_ _=>zbj) yS (zba (k:=((n:Int),q)) (Vq l) o) true (r:=none) (λv=>⟨λj=>(by cases j),λa=>by
   obtain⟨i,hi,d,e,f,b,_⟩:=(m _ _).1 a
   have:i=n:=by have d:(n:Int)=(i:Int):=d;omega
   subst this
   rw[YS.2 ⟨e,f,b⟩] at hs
   cases hs⟩)
  unfold spV at h
  rw[h]
  rfl
def ziQ (w:World) (S:List zr) (L:List yd) (l:List StE) (t:TxD) (e:Ending) (w':World):Prop:=e=.returned (.int .i64 (Y9 S L l t))∧Fr No w w'
theorem zmW (hg:q9 w) (h:yO w0 w ps ma ms R X C Q) (hp:yq w0p w pp mp mq g VG Y CP L N) (hc:Cn w0c w pc VC S bs I) (hS:∀c∈S,c.ok) (hn:n<65) {t:TxD} (ht:TxQ w t cs) (ae:yC t=0):
  Calls prog 40 #[.pointer (some ⟨ps,0,none⟩),.pointer (some ⟨pc,0,none⟩),.pointer (some ⟨pp,0,none⟩),.int .i64 n,.agg cs.toArray] w (ziQ w S L (Q n) t):=by
 obtain⟨dP,uP,rP⟩:=zhF
 have zo:=y9
 have zp:=vR
 have zh:=yS
 have bm:(n:Int)<65:=by omega
 have i0:(0:Int)≤(n:Int):=by omega
 have FM:=J (Jl ae).1
 have H:=@J (t.ins.length≤8) ((yZ.1 FM.o).2.1)
 have s:=J (vM t)
 have ad:=@J (∀q∈zZ t,q.ok) (λq E=>by obtain⟨x,z,rfl⟩:=mem_map.1 E;exact ht.oks.1 x z)
 have HT:=J ht
 have HG:=J hg
 obtain⟨ia,ic,oa,oc,rfl⟩:=ht.form
 have F1:=J ((frN w).alloc (.cells #[.int .u32 t.ver,.slice ia t.ins.length ic,.slice oa t.outs.length oc] 34))
 have R0:=J (qW w t.ver (.slice ia t.ins.length ic) (.slice oa t.outs.length oc)).2.2.2
 have HP:=J (jd _ (ht.keep F1.o) (by have:=H.o;omega))
 have aS:=J (λw' (f:Fr No w w') (q:zE) (E:q.ok)=>zhf (hp.fr0 f) E)
 have aP:=J (λw' (f:Fr No w w') (q:zE) (E:q.ok)=>znW (h.fr0 f) (hp.fr0 f) (hc.fr0 f) hS hn E)
 have ar:=J (λq=>zlf h hp hS hn q)
 obtain⟨M,hM,hm⟩:=h.sm
 have aU:=J (λ(q:zE) (E:q.ok)=>zlb hn E (h.idok n) hM hm)
 have HM:=J (λw' (f:Fr No w w')=>hM.keep f id)
 have CM:=J (λw' (f:Fr No w w')=>(h.fr0 f).cells.2.1)
 obtain⟨iK,aC,hz,aG,aA⟩:=info_parts JD
 have MK:=J (λ(w3:World)=>run_makeSlice_full (P:=prog) (w:=w3) w3.heap.size 22 103 iK _ 33 qN aC hz aG .i64 .i64 t.ins.length (by have:=H.o;omega) (by rw[aA];have:=H.o;omega) (by unfold maxLen;have:=H.o;omega) (le_refl _))
 clear h hp hc ht hS hg hn hM hm aC hz aG aA ae
 show Calls prog 40 #[.pointer (some ⟨ps,0,none⟩),.pointer (some ⟨pc,0,none⟩),.pointer (some ⟨pp,0,none⟩),.int .i64 n,.agg #[.int .u32 t.ver,.slice ia t.ins.length ic,.slice oa t.outs.length oc]] w _
 go_enter Tryz.func40,Tryz.ntmps40
 have⟨a,d⟩:=tZ2
 go_wp2_with ((first|((with_reducible refine zt ?_);clear a;refine zoa rfl rfl rfl R0.o rfl ?_;generalize bk:w.heap.size=q0 at*;generalize bf:w.alloc (.cells #[.int .u32 t.ver,.slice ia t.ins.length ic,.slice oa t.outs.length oc] 34)=wa at*;clear bf)|(clear d;go_at_call 33;refine HP.o.mono ?_;rintro e w2 ⟨v,rfl,ho,f2⟩;obtain⟨va,vc,hv⟩:=ho.slice.arg.form;subst hv;have F2:=J (F1.o.trans0 f2);have O2:=J ho;have ax:=J (za R0.o f2 id);clear ho f2));go_frame)
 have aQ:=@J (xL w2 (.slice va t.ins.length vc) (zZ t)) (⟨ad.o,by rw[s.o];exact O2.o.slice.arg⟩)
 have Z2:=@J (q0<w2.heap.size) (by have Z:=jM ax.o (by simp);exact Z)
 have inl:=H.o
 go_loopw [29] (λiv wr=>∃k:Nat,iv=.int .i64 k∧k≤t.ins.length∧(∀q∈(zZ t).take k,(Za (Q n) q||qf L q)=false)∧Fr No w2 wr) (λiv _=>t.ins.length-(intOf iv).toNat)
 case atStart=>exact⟨0,rfl,zero_le _,by simp,Fr.refl _ _⟩
 case round=>
  obtain⟨k,rfl,hk,T,fr⟩:=hrel
  have FR:=J fr
  have AL:=J T
  clear fr T
  by_cases hlt:k<t.ins.length
  ·have i1:(k:Int)<(t.ins.length:Int):=by omega
   obtain⟨q,z⟩:∃q,(zZ t)[k]? =some q:=⟨_,getElem?_eq_getElem (by rw[s.o];exact hlt)⟩
   have HX:=J z
   have m:=J (ad.o q (mem_of_getElem? z))
   obtain⟨b,off,a8,e,hr,-⟩:=(aQ.o.keep FR.o).at_ z
   injection e with e1 e2 e3
   subst e1
   have R1:=J hr
   have u:=J (z6 m.o)
   have RN:=J (zy wr (zn q) 95)
   have FA:=J ((frN wr).alloc (.cells (zn q).toArray 95))
   have aL:=J (F2.o.trans0 (FR.o.trans0 FA.o))
   obtain⟨y,p,aD⟩:=aU.o q m.o
   have LK:=J aD
   have YL:=J (zx p)
   have a7:=J (zbi (k:=((n:Int),q)) m.o)
   clear hr z e2 e3 aD
   have⟨a,d⟩:=tZ2
   go_wp2_with ((first|((with_reducible refine zt ?_);clear a;refine zod rfl rfl rfl R1.o u.o ?_)|((with_reducible refine zv ?_);clear d;refine zi rfl (zj (w:=wr) (cs:=zn q) (ty:=95) rfl rfl rfl (by rw[u.o];rfl) (by rw[u.o];exact xK) yK) ?_));go_frame)
   generalize bl:wr.heap.size=qx at*
   generalize bh:wr.alloc (.cells (zn q).toArray 95)=wn at*
   clear bh
   have FD:=J (aL.o.drew)
   have RD:=J (za RN.o (frN wn).drew id)
   have ai:=J (HM.o _ FD.o)
   have ag:=J (CM.o _ FD.o)
   have aK:=J ((FR.o.trans0 FA.o).drew)
   refine wrLx [ff,ff,ff,ff,ff,ff,ff,ff,ff,ff,ff,tt,tt,ff] (λw'=>w'.cell? ⟨ps,66,none⟩=some (.map (some ms))∧w'.rangeAt qx 0 (zn q)∧Yl w' ms M) ?_ (λK hK=>?_)
   ·exact⟨ag.o,RD.o,ai.o⟩
   generalize wn.drew=wd at*
   repeat((first|(refine zl rfl ?_;constructor;constructor;(focus(first|exact zof rfl (λw h=>h.2.1) u.o|exact λw' _=>yQ (t:=118) rfl rfl zb4 (zdB _ m.o) (zb0 _ _) a7.o|exact λw' h=>zM (t:=114) rfl rfl rfl (LK.o w' h.2.2)|(rintro w' ⟨s1,s2,s3⟩;exact goS))))|(refine zm rfl ?_));try simp only[Act.put,pA,pB,pC])
   (refine zF rfl (λK' hK'=>?_))
   refine yg (yw rfl (yS _)) ?_
   refine nXt hK' ?_ λhS=>?_
   ·exact⟨((frN wd).alloc _).cell ag.o id,za RD.o ((frN wd).alloc _) id,ai.o.keep ((frN wd).alloc _) id⟩
   try simp only[Act.put,pA,pB,pC]
   (refine zF rfl (λK' hK'=>?_))
   refine yN (zj (w:=wd) (ty:=41) (cs:=zf y) rfl rfl rfl (by rw[YL.o];rfl) (by rw[YL.o];exact yt) zU) ?_
   refine nXt hK' ?_ λhS=>?_
   ·exact⟨((frN wd).alloc _).cell ag.o id,za RD.o ((frN wd).alloc _) id,ai.o.keep ((frN wd).alloc _) id⟩
   try simp only[Act.put]
   repeat((first|(refine zl rfl ?_;constructor;constructor;(focus(first|(rintro w' -;exact goS))))|(refine zm rfl ?_));try simp only[Act.put,pA,pB,pC])
   refine zL (hK.out _ _ ?_)
   have FE:=J (aK.o.alloc (.cells (zf y).toArray 41))
   have RE:=J (za RD.o ((frN wd).alloc (.cells (zf y).toArray 41)) id)
   generalize wd.alloc (.cells (zf y).toArray 41)=we at*
   have ab:=J (aS.o we (F2.o.trans0 FE.o) q m.o)
   by_cases hs:(Za (Q n) q||qf L q)=true
   ·have V:=@J (Y9 S L (Q n) t=14) (by
     unfold Y9
     rw[if_pos (List.any_eq_true.2 ⟨q,mem_of_getElem? HX.o,hs⟩)])
    cases hs1:Za (Q n) q with
    |true=>
     clear hs hs1
     go_wp2_with fail
     go_ret
     exact⟨by rw[V.o];rfl,F2.o.trans0 FE.o⟩
    |false=>
     rw[hs1,Bool.false_or] at hs
     rw[hs] at ab
     clear hs hs1
     have⟨a,d⟩:=tZ2
     go_wp2_with ((first|((with_reducible refine zt ?_);clear a;refine xU rfl (z7 (ty:=95) rfl rfl RE.o uP rP (by rw[u.o];exact xK)) ?_)|(clear d;go_at_call 75;refine ab.o.mono ?_;rintro e w4 ⟨rfl,f4⟩;have F4:=J f4;clear f4));go_frame)
     go_ret
     exact⟨by rw[V.o];rfl,(F2.o.trans0 FE.o).trans0 F4.o⟩
   ·have D:(Za (Q n) q||qf L q)=false:=by simpa using hs
    have af:=@J (∀q∈(zZ t).take (k+1),(Za (Q n) q||qf L q)=false) (λy p=>by
     rw[take_add_one,HX.o] at p
     rcases mem_append.1 p with p|p
     ·exact AL.o y p
     ·simp at p;subst p;exact D)
    obtain⟨a1,a2⟩:=Bool.or_eq_false_iff.1 D
    rw[a1]
    rw[a2] at ab
    clear hs D a1 a2
    have⟨a,d⟩:=tZ2
    go_wp2_with ((first|((with_reducible refine zt ?_);clear a;refine xU rfl (z7 (ty:=95) rfl rfl RE.o uP rP (by rw[u.o];exact xK)) ?_)|(clear d;go_at_call 75;refine ab.o.mono ?_;rintro e w4 ⟨rfl,f4⟩;have F4:=J f4;clear f4));go_frame)
    go_roundw
    case rel=>exact⟨k+1,by go_num,by omega,af.o,FE.o.trans0 F4.o⟩
    case measure=>simp[intOf];omega
  ·have B:k=t.ins.length:=by omega
   have i1:¬(k:Int)<(t.ins.length:Int):=by omega
   have aM:=@J (¬(zZ t).any (λq=>Za (Q n) q||qf L q)=true) (by
    simp only[List.any_eq_true,not_exists,not_and]
    intro q E
    rw[AL.o q (by rw[B,←s.o,take_length];exact E)]
    decide)
   have au:=@J (Y9 S L (Q n) t=if(zZ t).all (λq=>(ZV S L (Q n) q).isSome)=true then(if vB t (jD S L (Q n) t)≠0 then vB t (jD S L (Q n) t) else if Ja t (jD S L (Q n) t)<jJ (qQ t) then 17 else 0) else 15) (by unfold Y9;rw[if_neg aM.o])
   have aJ:=J (F2.o.trans0 FR.o)
   have aZ:=J (za ax.o FR.o id)
   have ZR:=@J (q0<wr.heap.size) (by have:=FR.o.size;have:=Z2.o;omega)
   clear B AL hlt hk
   generalize wr=ws at*
   obtain⟨w4,bb,aE,aB⟩:=MK.o ws
   have az:Fr No ws w4:=Fr.of_grown aB (λk e=>by cases e)
   have ah:=J az
   have aN:=J aE
   clear aB aE az
   go_wp2_with fail
   clear bb
   have aI:=J (aJ.o.trans0 ah.o)
   have aY:=J (za aZ.o ah.o id)
   generalize bj:ws.heap.size=gg at*
   have GN:=@J (∀j,(Value.slice va t.ins.length vc).ownBlock=some j→j≠gg) (λj hj e=>by
    have Z:=(O2.o.lt j hj).2
    have h2:=FR.o.size
    omega)
   go_loopw [56] (λiv A=>∃(k:Nat) (xs:List Value),iv=.int .i64 k∧k≤t.ins.length∧(∀q∈(zZ t).take k,(ZV S L (Q n) q).isSome=true)∧A.ownsRow gg 103 33 (.slice (some ⟨gg,0,none⟩) t.ins.length t.ins.length) t.ins.length xs∧xs.take (k*33)=(zfe S L (Q n) t k).flatMap zJ∧Fr (λj=>j=gg) w4 A) (λiv _=>t.ins.length-(intOf iv).toNat)
   case atStart=>exact⟨0,_,rfl,zero_le _,by simp,aN.o,by simp[zfe],Fr.refl _ _⟩
   case round=>
    obtain⟨k,xs,rfl,hk,T,aF,aH,fr⟩:=hrel
    rename World=>A
    have FQ:=J fr
    have AL:=J T
    have aa:=J aF
    have aq:=J aH
    have r:=@J (Fr No w A) (aI.o.trans fr (λi hi e=>by have:=ZR.o;omega))
    have aR:=@J (xL A (.slice va t.ins.length vc) (zZ t)) (⟨ad.o,by
     have Z:=zb (zb O2.o (FR.o.trans0 ah.o) (λ_ _=>id)) fr (λj hj e=>GN.o j hj e)
     rw[s.o];exact Z.slice.arg⟩)
    have O:=J (za aY.o fr (λe=>by have:=ZR.o;omega))
    clear fr T aF aH
    by_cases hlt:k<t.ins.length
    ·have i1:(k:Int)<(t.ins.length:Int):=by omega
     obtain⟨q,z⟩:∃q,(zZ t)[k]? =some q:=⟨_,getElem?_eq_getElem (by rw[s.o];exact hlt)⟩
     have HX:=J z
     have m:=J (ad.o q (mem_of_getElem? z))
     obtain⟨b,off,a8,e,hr,-⟩:=aR.o.at_ z
     injection e with e1 e2 e3
     subst e1
     have R1:=J hr
     have u:=J (z6 m.o)
     have RN:=J (zy A (zn q) 95)
     have FA:=J ((frN A).alloc (.cells (zn q).toArray 95))
     have F:=J (aP.o _ (r.o.trans0 FA.o) q m.o)
     have aW:=J (ar.o q)
     have a6:=J (zii (S:=S) (L:=L) (l:=Q n) z)
     unfold zl1 at F
     have U:=J (yz aW.o)
     clear hr z e2 e3
     by_cases hs:(ZV S L (Q n) q).isSome=true
     ·have af:=@J (∀q∈(zZ t).take (k+1),(ZV S L (Q n) q).isSome=true) (λy p=>by
       rw[take_add_one,HX.o] at p
       rcases mem_append.1 p with p|p
       ·exact AL.o y p
       ·simp at p;subst p;exact hs)
      rw[hs] at F
      clear hs
      generalize hZ:(ZV S L (Q n) q).getD y6=o at*
      have⟨a,d,K2,K3,K4,K5,K6⟩:=tZ7
      go_wp2_with ((first|((with_reducible refine zt ?_);first|(clear a;refine zod rfl rfl rfl R1.o u.o ?_)|(clear K2;refine zod rfl rfl rfl RN.o u.o ?_)|(clear K5;refine zob rfl rfl rfl RO.o U.o ?_))|((with_reducible refine zv ?_);first|(clear d;refine zi rfl (zj (w:=A) (cs:=zn q) (ty:=95) rfl rfl rfl (by rw[u.o];rfl) (by rw[u.o];exact xK) yK) ?_;generalize bc:A.heap.size=qb at*;generalize bg:A.alloc (.cells (zn q).toArray 95)=wb at*)|(clear K4;refine zi rfl (zj (w:=w3) (cs:=zJ o) (ty:=103) rfl rfl rfl (by rw[U.o];rfl) (by rw[U.o];exact yG) yf) ?_)|(clear K6;refine zi rfl (zK (ty:=103) rfl rfl rfl (by rw[U.o];exact TH.o) (by rw[U.o];exact yG) yf) ?_))|(clear K3;go_at_call 76;refine F.o.mono ?_;rintro e w3 ⟨rfl,f3⟩;have F3:=J (FA.o.trans0 f3);clear f3;have RO:=J (zy w3 (zJ o) 103);have FB:=J ((frN w3).alloc (.cells (zJ o).toArray 103));have ao:=J (zb aa.o (F3.o.trans0 FB.o) (λ_ _=>id));have TH:=J (Js ao.o hlt)));go_frame)
      have aO:=J (qX ao.o (k*33) (cs:=zJ o) (by rw[U.o];omega))
      have aT:=@J ((setM xs (k*33) (zJ o)).take ((k+1)*33)=(zfe S L (Q n) t (k+1)).flatMap zJ) (by
       have Z:=VP xs (zJ o) (k*33) (by rw[aa.o.1,U.o];omega)
       rw[U.o] at Z
       rw[a6.o,←aq.o,show(k+1)*33=k*33+33 by omega,Z])
      have F6:=J ((FQ.o.trans0 (F3.o.trans0 FB.o)).trans (zu gg (zJ o) (k*33) (w3.alloc (.cells (zJ o).toArray 103))) (λi hi e=>e))
      go_roundw
      case rel=>exact⟨k+1,_,by go_num,by omega,af.o,aO.o,aT.o,F6.o⟩
      case measure=>simp[intOf];omega
     ·have D:(ZV S L (Q n) q).isSome=false:=by simpa using hs
      have V:=@J (Y9 S L (Q n) t=15) (by
       rw[au.o,if_neg]
       simp only[List.all_eq_true,Classical.not_forall]
       exact⟨q,mem_of_getElem? HX.o,hs⟩)
      rw[D] at F
      clear hs D
      generalize hZ:(ZV S L (Q n) q).getD y6=o at*
      have⟨a,d,K2,K3,K4⟩:=tZ5
      go_wp2_with ((first|((with_reducible refine zt ?_);first|(clear a;refine zod rfl rfl rfl R1.o u.o ?_)|(clear K2;refine zod rfl rfl rfl RN.o u.o ?_))|((with_reducible refine zv ?_);first|(clear d;refine zi rfl (zj (w:=A) (cs:=zn q) (ty:=95) rfl rfl rfl (by rw[u.o];rfl) (by rw[u.o];exact xK) yK) ?_;generalize bc:A.heap.size=qb at*;generalize bg:A.alloc (.cells (zn q).toArray 95)=wb at*)|(clear K4;refine zi rfl (zj (w:=w3) (cs:=zJ o) (ty:=103) rfl rfl rfl (by rw[U.o];rfl) (by rw[U.o];exact yG) yf) ?_))|(clear K3;go_at_call 76;refine F.o.mono ?_;rintro e w3 ⟨rfl,f3⟩;have F3:=J (FA.o.trans0 f3);clear f3;have FB:=J ((frN w3).alloc (.cells (zJ o).toArray 103))));go_frame)
      go_ret
      exact⟨by rw[V.o];rfl,r.o.trans0 (F3.o.trans0 FB.o)⟩
    ·have B:k=t.ins.length:=by omega
     have i1:¬(k:Int)<(t.ins.length:Int):=by omega
     have av:=@J (Y9 S L (Q n) t=if vB t (jD S L (Q n) t)≠0 then vB t (jD S L (Q n) t) else if Ja t (jD S L (Q n) t)<jJ (qQ t) then 17 else 0) (by
      rw[au.o,if_pos]
      simp only[List.all_eq_true]
      exact λq E=>AL.o q (by rw[B,←s.o,take_length];exact E))
     have aw:=@J ((jD S L (Q n) t).length=t.ins.length) (by unfold jD;rw[length_map,s.o])
     have aX:=@J (∀x∈jD S L (Q n) t,x.ok) (λx z=>by
      obtain⟨q,E,rfl⟩:=mem_map.1 z
      exact ar.o q)
     have aV:=@J (xu A (.slice (some ⟨gg,0,none⟩) t.ins.length t.ins.length) (jD S L (Q n) t)) (⟨aX.o,by
      have Z:=aq.o
      rw[B,zj6,List.take_of_length_le (by rw[aa.o.1];omega)] at Z
      rw[aw.o,←Z]
      exact aa.o.slice.arg⟩)
     have ay:=J (Xz FM.o)
     clear B AL hlt hk
     have G:=J (Zp (HG.o.keep0 r.o) (HT.o.keep r.o) aV.o (by rw[aw.o];omega))
     unfold zgH at G
     by_cases c4:vB t (jD S L (Q n) t)=0
     ·rw[c4] at G
      have ak:=@J (Y9 S L (Q n) t=if Ja t (jD S L (Q n) t)<jJ (qQ t) then 17 else 0) (by rw[av.o,if_neg (by simp[c4])])
      have aj:=J (λw' (f:Fr No w w')=>VR w' (HT.o.keep f) FM.o)
      obtain⟨sn,bd⟩:=Int.eq_ofNat_of_zero_le (show 0≤qQ t from by have:=ay.o;omega)
      rw[bd] at aj ak
      have an:=J (λw'=>zcQ sn (by have:=ay.o;omega) w')
      clear c4
      generalize ba:Ja t (jD S L (Q n) t)=fr0 at*
      by_cases c5:fr0<jJ (sn:Int)
      ·have V:=@J (Y9 S L (Q n) t=17) (by rw[ak.o,if_pos c5])
       have⟨a,d,K2,K3,K4⟩:=tZ5
       go_wp2_with ((first|((with_reducible refine zt ?_);first|(clear a;refine zoa rfl rfl rfl O.o rfl ?_)|(clear K2;refine zoa rfl rfl rfl al.o rfl ?_))|(clear d;go_at_call 77;refine G.o.mono ?_;rintro e w5 ⟨rfl,W⟩;have F5:=J (r.o.trans0 W);have al:=J (za O.o W id);clear W)|(clear K3;go_at_call 78;refine(aj.o w5 F5.o).mono ?_;rintro e w6 ⟨rfl,f6⟩;have F6:=J (F5.o.trans0 f6);clear f6)|(clear K4;go_at_call 79;refine(an.o w6).mono ?_;rintro e w7 ⟨rfl,f7⟩;have F7:=J (F6.o.trans0 f7);clear f7));go_frame)
       go_ret
       exact⟨by rw[V.o];rfl,F7.o⟩
      ·have V:=@J (Y9 S L (Q n) t=0) (by rw[ak.o,if_neg c5])
       have⟨a,d,K2,K3,K4⟩:=tZ5
       go_wp2_with ((first|((with_reducible refine zt ?_);first|(clear a;refine zoa rfl rfl rfl O.o rfl ?_)|(clear K2;refine zoa rfl rfl rfl al.o rfl ?_))|(clear d;go_at_call 77;refine G.o.mono ?_;rintro e w5 ⟨rfl,W⟩;have F5:=J (r.o.trans0 W);have al:=J (za O.o W id);clear W)|(clear K3;go_at_call 78;refine(aj.o w5 F5.o).mono ?_;rintro e w6 ⟨rfl,f6⟩;have F6:=J (F5.o.trans0 f6);clear f6)|(clear K4;go_at_call 79;refine(an.o w6).mono ?_;rintro e w7 ⟨rfl,f7⟩;have F7:=J (F6.o.trans0 f7);clear f7));go_frame)
       go_ret
       exact⟨by rw[V.o];rfl,F7.o⟩
     ·have V:=@J (Y9 S L (Q n) t=vB t (jD S L (Q n) t)) (by rw[av.o,if_pos c4])
      have je:(vB t (jD S L (Q n) t) !=0)=true:=by simpa using c4
      have bn:(vB t (jD S L (Q n) t)==0)=false:=by simpa using c4
      clear c4
      generalize ba:vB t (jD S L (Q n) t)=fe at*
      have⟨a,d⟩:=tZ2
      go_wp2_with ((first|((with_reducible refine zt ?_);clear a;refine zoa rfl rfl rfl O.o rfl ?_)|(clear d;go_at_call 77;refine G.o.mono ?_;rintro e w5 ⟨rfl,W⟩;have F5:=J (r.o.trans0 W);clear W));go_frame)
      go_ret
      exact⟨by rw[V.o];rfl,F5.o⟩
end
theorem ze9 (w:World) {t:TxD} (ht:TxQ w t cs) (hI:t.ins.length≤1000∧t.outs.length≤1000∧∀x∈t.ins,x.key.length≤1000):
  Calls prog 41 #[.agg cs.toArray] w (zl3 w t):=by
 obtain⟨ia,ic,oa,oc,rfl,hv,hi,ho⟩:=ht
 have zT:=jZ
 have f1:Fr No w (w.alloc (.cells #[.int .u32 t.ver,.slice ia t.ins.length ic,.slice oa t.outs.length oc] 34)):=(frN w).alloc _
 have Y:Fr No (w.alloc (.cells #[.int .u32 t.ver,.slice ia t.ins.length ic,.slice oa t.outs.length oc] 34)) _:=(frN _).alloc (.cells (txC 0 (.slice none 0 0) (.slice none 0 0)).toArray 34)
 obtain⟨c0,c1,c2,-⟩:=qW w t.ver (.slice ia t.ins.length ic) (.slice oa t.outs.length oc)
 have F2:=J (f1.trans0 Y)
 have FD:=J (F2.o.drew)
 have Q:=J ((Y.drew).cell c0 _root_.id)
 have R:=J ((Y.drew).cell c1 _root_.id)
 have S:=J ((Y.drew).cell c2 _root_.id)
 have B2:=J (yJ (w.alloc (.cells #[.int .u32 t.ver,.slice ia t.ins.length ic,.slice oa t.outs.length oc] 34)) (.cells (txC 0 (.slice none 0 0) (.slice none 0 0)).toArray 34) (n:=w.heap.size+1) (by simp))
 have HO:=J (ho.keep FD.o)
 have HK:=J ((zcX hi (V:=λj=>w.heap.size+2≤j) (λj c=>by omega)).step FD.o.of0 (λ_ _ h=>h))
 have Z2:=@J (((w.alloc (.cells #[.int .u32 t.ver,.slice ia t.ins.length ic,.slice oa t.outs.length oc] 34)).alloc (.cells (txC 0 (.slice none 0 0) (.slice none 0 0)).toArray 34)).heap.size=w.heap.size+2) (by simp)
 have HV:=J hv
 have HI:=J hI
 clear c0 c1 c2 f1 Y ho hv hi hI
 show Calls prog 41 #[.agg #[.int .u32 t.ver,.slice ia t.ins.length ic,.slice oa t.outs.length oc]] w _
 go_enter Tryz.func41,Tryz.ntmps41
 go_wp2_with fail
 generalize (w.alloc (.cells #[.int .u32 t.ver,.slice ia t.ins.length ic,.slice oa t.outs.length oc] 34)).alloc (.cells (txC 0 (.slice none 0 0) (.slice none 0 0)).toArray 34)=w2 at*
 go_cut [3] from 5 to 14 (λs3 wc=>zl0 (w.heap.size+2) t w2 s3 wc)
 case first=>
  refine vQ 11 [0,1,2,3,4,5,6,7,8,9,10] (λw'=>w'.cell? ⟨w.heap.size,0,none⟩=some (.int .u32 t.ver)∧w'.cell? ⟨w.heap.size,1,none⟩=some (.slice ia t.ins.length ic)∧w'.cell? ⟨w.heap.size,2,none⟩=some (.slice oa t.outs.length oc)) (by kernel_rfl) (by kernel_rfl) (by kernel_rfl) (by kernel_rfl) ?_ (λK hK=>?_)
  ·exact⟨Q.o,R.o,S.o⟩
  have X:=@J (w2.drew.heap.size=w.heap.size+2) (Z2.o)
  have FW:=@J (Fr No w2 w2.drew) ((frN w2).drew)
  generalize w2.drew=w3 at*
  (((first|(refine zV 0 (by kernel_rfl) rfl rfl ?_;apply Exists.intro;refine⟨?_,?_⟩;(focus(first|(intro w' hS;obtain⟨s1,s2,s3⟩:=hS;exact goS))))|(refine zW 0 (by kernel_rfl) rfl rfl ?_));try simp only[Act.put,pA,pB,pC]);((first|(refine zV 1 (by kernel_rfl) rfl rfl ?_;apply Exists.intro;refine⟨?_,?_⟩;(focus(first|(intro w' hS;obtain⟨s1,s2,s3⟩:=hS;exact goS))))|(refine zW 1 (by kernel_rfl) rfl rfl ?_));try simp only[Act.put,pA,pB,pC]);((first|(refine zV 2 (by kernel_rfl) rfl rfl ?_;apply Exists.intro;refine⟨?_,?_⟩;(focus(first|(intro w' hS;obtain⟨s1,s2,s3⟩:=hS;exact goS))))|(refine zW 2 (by kernel_rfl) rfl rfl ?_));try simp only[Act.put,pA,pB,pC]);((first|(refine zV 3 (by kernel_rfl) rfl rfl ?_;apply Exists.intro;refine⟨?_,?_⟩;(focus(first|(intro w' hS;obtain⟨s1,s2,s3⟩:=hS;exact goS))))|(refine zW 3 (by kernel_rfl) rfl rfl ?_));try simp only[Act.put,pA,pB,pC]);((first|(refine zV 5 (by kernel_rfl) rfl rfl ?_;apply Exists.intro;refine⟨?_,?_⟩;(focus(first|(intro w' hS;obtain⟨s1,s2,s3⟩:=hS;exact goS))))|(refine zW 5 (by kernel_rfl) rfl rfl ?_));try simp only[Act.put,pA,pB,pC]);((first|(refine zV 6 (by kernel_rfl) rfl rfl ?_;apply Exists.intro;refine⟨?_,?_⟩;(focus(first|(intro w' hS;obtain⟨s1,s2,s3⟩:=hS;exact goS))))|(refine zW 6 (by kernel_rfl) rfl rfl ?_));try simp only[Act.put,pA,pB,pC]))
  refine J0 4 9 (by kernel_rfl) rfl rfl rfl rfl (λK' hK'=>?_) (λK' hK'=>?_)
  ·skip
   go_simp
   refine(Zj w3 (HK.o.step (frN w3).of0 (λ_ _ h=>h)) (by have:=HI.o.1;omega)).mono ?_
   rintro e H ⟨aM,css,rfl,F,aa,Z,z,f4⟩
   obtain⟨m,o,ak⟩:=z.slice.arg.form
   subst ak
   have u:=J f4
   have CL:=J F
   have KP:=J aa
   have af:=J Z
   have W:=J z
   clear F aa Z z f4
   refine nXt hK' ?_ λhS=>?_
   ·exact⟨u.o.cell Q.o _root_.id,u.o.cell R.o _root_.id,u.o.cell S.o _root_.id⟩
   try simp only[Act.put,pA,pB,pC]
   refine J0 7 9 (by kernel_rfl) rfl rfl rfl rfl (λK' hK'=>?_) (λK' hK'=>?_)
   ·skip
    go_simp
    refine(jv H (HO.o.keep u.o) (by have:=HI.o.2.1;omega)).mono ?_
    rintro e w5 ⟨aC,rfl,p,f5⟩
    obtain⟨k,l,ab⟩:=p.slice.arg.form
    subst ab
    have I:=J f5
    have T:=J p
    clear p f5
    have a:=J (u.o.trans0 I.o)
    refine nXt hK' ?_ λhS=>?_
    ·exact⟨a.o.cell Q.o _root_.id,a.o.cell R.o _root_.id,a.o.cell S.o _root_.id⟩
    try simp only[Act.put,pA,pB,pC]
    (((first|(refine zV 8 (by kernel_rfl) rfl rfl ?_;apply Exists.intro;refine⟨?_,?_⟩;(focus(first|exact λw' _=>yk (t:=34) rfl rfl (zaf t.ver m k t.ins.length o t.outs.length l w')|(intro w' hS;obtain⟨s1,s2,s3⟩:=hS;exact goS))))|(refine zW 8 (by kernel_rfl) rfl rfl ?_));try simp only[Act.put,pA,pB,pC]))
    refine yE 9 (by kernel_rfl) rfl rfl (λK' hK'=>?_)
    refine yg (yw rfl (jZ _)) ?_
    have F6:=J ((frN w5).alloc (.cells (txC 0 (.slice none 0 0) (.slice none 0 0)).toArray 34))
    refine nXt hK' ?_ λhS=>?_
    ·exact⟨F6.o.cell (a.o.cell Q.o _root_.id) _root_.id,F6.o.cell (a.o.cell R.o _root_.id) _root_.id,F6.o.cell (a.o.cell S.o _root_.id) _root_.id⟩
    try simp only[Act.put,pA,pB,pC]
    refine yE 10 (by kernel_rfl) rfl rfl (λK' hK'=>?_)
    refine yN (zj (w:=w5) (ty:=34) (cs:=[.int .u32 t.ver,.slice m t.ins.length o,.slice k t.outs.length l]) rfl rfl rfl rfl y5 (qM rfl rfl rfl)) ?_
    have E:=J ((frN w5).alloc (.cells ([.int .u32 t.ver,.slice m t.ins.length o,.slice k t.outs.length l]).toArray 34))
    refine nXt hK' ?_ λhS=>?_
    ·exact⟨E.o.cell (a.o.cell Q.o _root_.id) _root_.id,E.o.cell (a.o.cell R.o _root_.id) _root_.id,E.o.cell (a.o.cell S.o _root_.id) _root_.id⟩
    try simp only[Act.put,pA,pB,pC]
    refine vn (hK.out _ _ ?_)
    go_wp2_with fail
    go_meet
    case rel=>exact⟨w5.heap.size,m,o,k,l,css,rfl,by have:=a.o.size;have:=X.o;omega,FW.o.trans0 (a.o.trans0 E.o),yj w5 (.cells ([.int .u32 t.ver,.slice m t.ins.length o,.slice k t.outs.length l]).toArray 34),CL.o,λi d cs D y=>(KP.o i d cs D y).step (I.o.trans0 E.o).of0 (λ_ _ h=>h),af.o,yU (zb (zb W.o I.o (λ_ _=>_root_.id)) E.o (λ_ _=>_root_.id)) (by have:=X.o;omega),yU (zb T.o E.o (λ_ _=>_root_.id)) (by have:=u.o.size;have:=X.o;omega),λj c=>⟨by have:=(W.o.lt j c).2;have:=I.o.size;omega,λe=>by have:=(W.o.lt j c).2;have:=(T.o.lt j e).1;omega⟩⟩
   ·refine yg (yw rfl (jZ _)) ?_
    have FA:=J ((frN H).alloc (.cells (txC 0 (.slice none 0 0) (.slice none 0 0)).toArray 34))
    have BA:=J (yj H (.cells (txC 0 (.slice none 0 0) (.slice none 0 0)).toArray 34))
    have ZA:=@J ((H.alloc (.cells (txC 0 (.slice none 0 0) (.slice none 0 0)).toArray 34)).heap.size=H.heap.size+1) (by simp)
    generalize H.alloc (.cells (txC 0 (.slice none 0 0) (.slice none 0 0)).toArray 34)=wa at*
    generalize an:H.heap.size=G at*
    have s:=J (u.o.trans0 FA.o)
    refine nXt hK' ?_ λhS=>?_
    ·exact⟨s.o.cell Q.o _root_.id,s.o.cell R.o _root_.id,s.o.cell S.o _root_.id⟩
    try simp only[Act.put,pA,pB,pC]
    refine yE 7 (by kernel_rfl) rfl rfl (λK' hK'=>?_)
    go_simp
    refine(jv wa (HO.o.keep s.o) (by have:=HI.o.2.1;omega)).mono ?_
    rintro e w5 ⟨aC,rfl,p,f5⟩
    obtain⟨k,l,ab⟩:=p.slice.arg.form
    subst ab
    have I:=J f5
    have T:=J p
    clear p f5
    have a:=J (s.o.trans0 I.o)
    have B5:=J (I.o.obj BA.o _root_.id)
    refine nXt hK' ?_ λhS=>?_
    ·exact⟨a.o.cell Q.o _root_.id,a.o.cell R.o _root_.id,a.o.cell S.o _root_.id⟩
    try simp only[Act.put,pA,pB,pC]
    (((first|(refine zV 8 (by kernel_rfl) rfl rfl ?_;apply Exists.intro;refine⟨?_,?_⟩;(focus(first|exact λw' _=>yk (t:=34) rfl rfl (zaf t.ver m k t.ins.length o t.outs.length l w')|(intro w' hS;obtain⟨s1,s2,s3⟩:=hS;exact goS))))|(refine zW 8 (by kernel_rfl) rfl rfl ?_));try simp only[Act.put,pA,pB,pC]))
    refine yE 10 (by kernel_rfl) rfl rfl (λK' hK'=>?_)
    refine yN (zK (ty:=34) (b:=G) (off:=0) (cs:=[.int .u32 t.ver,.slice m t.ins.length o,.slice k t.outs.length l]) rfl rfl rfl (zX B5.o (le_refl 3)) y5 (qM rfl rfl rfl)) ?_
    have E:=J (zu G ([.int .u32 t.ver,.slice m t.ins.length o,.slice k t.outs.length l]) 0 w5)
    have HQ:=@J (w3.heap.size≤G) (by have:=u.o.size;omega)
    have C:=@J (Fr No w3 _) (a.o.trans E.o (λi hi e=>by have:=HQ.o;omega))
    refine nXt hK' ?_ λhS=>?_
    ·exact⟨C.o.cell Q.o _root_.id,C.o.cell R.o _root_.id,C.o.cell S.o _root_.id⟩
    try simp only[Act.put,pA,pB,pC]
    refine vn (hK.out _ _ ?_)
    go_wp2_with fail
    go_meet
    case rel=>exact⟨G,m,o,k,l,css,rfl,by have:=HQ.o;have:=X.o;omega,FW.o.trans0 C.o,Yj (cs:=[.int .u32 t.ver,.slice m t.ins.length o,.slice k t.outs.length l]) B5.o rfl,CL.o,λi d cs D y=>((KP.o i d cs D y).step (FA.o.trans0 I.o).of0 (λ_ _ h=>h)).step (E.o.mono (λj e=>by have:=HQ.o;have:=X.o;omega)) (λ_ _ h=>h),af.o,yU (zb (zb W.o (FA.o.trans0 I.o) (λ_ _=>_root_.id)) E.o (λj c e=>by have:=(W.o.lt j c).2;omega)) (by have:=X.o;omega),yU (zb T.o E.o (λj c e=>by have:=(T.o.lt j c).1;have:=ZA.o;omega)) (by have:=HQ.o;have:=X.o;have:=ZA.o;omega),λj c=>⟨by have:=(W.o.lt j c).2;omega,λe=>by have:=(W.o.lt j c).2;have:=(T.o.lt j e).1;have:=ZA.o;omega⟩⟩
  ·refine yg (yw rfl (jZ _)) ?_
   have FA:=J ((frN w3).alloc (.cells (txC 0 (.slice none 0 0) (.slice none 0 0)).toArray 34))
   have BA:=J (yj w3 (.cells (txC 0 (.slice none 0 0) (.slice none 0 0)).toArray 34))
   have ZA:=@J ((w3.alloc (.cells (txC 0 (.slice none 0 0) (.slice none 0 0)).toArray 34)).heap.size=w3.heap.size+1) (by simp)
   generalize w3.alloc (.cells (txC 0 (.slice none 0 0) (.slice none 0 0)).toArray 34)=wa at*
   generalize an:w3.heap.size=G at*
   refine nXt hK' ?_ λhS=>?_
   ·exact⟨FA.o.cell Q.o _root_.id,FA.o.cell R.o _root_.id,FA.o.cell S.o _root_.id⟩
   try simp only[Act.put,pA,pB,pC]
   refine yE 4 (by kernel_rfl) rfl rfl (λK' hK'=>?_)
   go_simp
   refine(Zj wa (HK.o.step (FA.o).of0 (λ_ _ h=>h)) (by have:=HI.o.1;omega)).mono ?_
   rintro e H ⟨aM,css,rfl,F,aa,Z,z,f4⟩
   obtain⟨m,o,ak⟩:=z.slice.arg.form
   subst ak
   have u:=J f4
   have CL:=J F
   have KP:=J aa
   have af:=J Z
   have W:=J z
   clear F aa Z z f4
   have s:=J (FA.o.trans0 u.o)
   refine nXt hK' ?_ λhS=>?_
   ·exact⟨s.o.cell Q.o _root_.id,s.o.cell R.o _root_.id,s.o.cell S.o _root_.id⟩
   try simp only[Act.put,pA,pB,pC]
   refine yE 7 (by kernel_rfl) rfl rfl (λK' hK'=>?_)
   go_simp
   refine(jv H (HO.o.keep s.o) (by have:=HI.o.2.1;omega)).mono ?_
   rintro e w5 ⟨aC,rfl,p,f5⟩
   obtain⟨k,l,ab⟩:=p.slice.arg.form
   subst ab
   have I:=J f5
   have T:=J p
   clear p f5
   have a:=J (s.o.trans0 I.o)
   have B5:=J (I.o.obj (u.o.obj BA.o _root_.id) _root_.id)
   refine nXt hK' ?_ λhS=>?_
   ·exact⟨a.o.cell Q.o _root_.id,a.o.cell R.o _root_.id,a.o.cell S.o _root_.id⟩
   try simp only[Act.put,pA,pB,pC]
   (((first|(refine zV 8 (by kernel_rfl) rfl rfl ?_;apply Exists.intro;refine⟨?_,?_⟩;(focus(first|exact λw' _=>yk (t:=34) rfl rfl (zaf t.ver m k t.ins.length o t.outs.length l w')|(intro w' hS;obtain⟨s1,s2,s3⟩:=hS;exact goS))))|(refine zW 8 (by kernel_rfl) rfl rfl ?_));try simp only[Act.put,pA,pB,pC]))
   refine yE 10 (by kernel_rfl) rfl rfl (λK' hK'=>?_)
   refine yN (zK (ty:=34) (b:=G) (off:=0) (cs:=[.int .u32 t.ver,.slice m t.ins.length o,.slice k t.outs.length l]) rfl rfl rfl (zX B5.o (le_refl 3)) y5 (qM rfl rfl rfl)) ?_
   have E:=J (zu G ([.int .u32 t.ver,.slice m t.ins.length o,.slice k t.outs.length l]) 0 w5)
   have C:=@J (Fr No w3 _) (a.o.trans E.o (λi hi e=>by omega))
   refine nXt hK' ?_ λhS=>?_
   ·exact⟨C.o.cell Q.o _root_.id,C.o.cell R.o _root_.id,C.o.cell S.o _root_.id⟩
   try simp only[Act.put,pA,pB,pC]
   refine vn (hK.out _ _ ?_)
   go_wp2_with fail
   go_meet
   case rel=>exact⟨G,m,o,k,l,css,rfl,by have:=X.o;omega,FW.o.trans0 C.o,Yj (cs:=[.int .u32 t.ver,.slice m t.ins.length o,.slice k t.outs.length l]) B5.o rfl,CL.o,λi d cs D y=>((KP.o i d cs D y).step I.o.of0 (λ_ _ h=>h)).step (E.o.mono (λj e=>by have:=X.o;omega)) (λ_ _ h=>h),af.o,yU (zb (zb W.o I.o (λ_ _=>_root_.id)) E.o (λj c e=>by have:=(W.o.lt j c).1;have:=ZA.o;omega)) (by have:=X.o;have:=ZA.o;omega),yU (zb T.o E.o (λj c e=>by have:=(T.o.lt j c).1;have:=u.o.size;have:=ZA.o;omega)) (by have:=X.o;have:=ZA.o;have:=u.o.size;omega),λj c=>⟨by have:=(W.o.lt j c).1;have:=ZA.o;omega,λe=>by have:=(W.o.lt j c).2;have:=(T.o.lt j e).1;omega⟩⟩
 case rest=>
  rename World=>wz
  obtain⟨G,A,q,N,O,css,rfl,an,fc,bq,F,ax,ah,z,p,av⟩:=hcut
  have FC:=J fc
  have T:=J p
  have AP:=J av
  have aD:=J (fc.obj B2.o _root_.id)
  have c1:wz.cell? ⟨G,1,none⟩=some (.slice A t.ins.length q):=by have:=zq bq 1 _ rfl;simpa using this
  have L8:=J HI.o.1
  have BQ:=J bq
  have HR:=@J (∃css,zhr (w.heap.size+2) G A q t wz wz 0 css) (⟨css,F,ah,z,λi d cs h D y=>absurd h (Nat.not_lt_zero i),λi d cs h D y=>ax i d cs D y,Fr.refl _ _⟩)
  clear an fc bq F ax ah z p av
  have iz:=HI.o.1
  go_wp2_with fail
  clear c1
  go_loopw [17] (λiv wr=>∃n:Nat,iv=.int .i64 n∧n≤t.ins.length∧∃css,zhr (w.heap.size+2) G A q t wz wr n css) (λiv _=>t.ins.length-(intOf iv).toNat)
  case atStart=>exact⟨0,rfl,zero_le _,HR.o⟩
  case round=>
   obtain⟨n,rfl,hn,css,aB⟩:=hrel
   have B:=J aB
   clear aB
   by_cases az:n<t.ins.length
   ·have i1:(n:Int)<(t.ins.length:Int):=by omega
    obtain⟨x,hx⟩:∃x,t.ins[n]? =some x:=⟨_,getElem?_eq_getElem az⟩
    have HX:=J hx
    obtain⟨cs,hcs⟩:∃cs,css[n]? =some cs:=⟨_,getElem?_eq_getElem (by rw[B.o.len];exact az)⟩
    obtain⟨ka,kc,aw,ad,ai⟩:=(B.o.old n x cs (le_refl _) hx hcs).now
    have au:=J ai
    have ar:=@J (css[n]? =some (inC x.from_ (.slice ka x.key.length kc))) (by rw[hcs,aw])
    have aj:=J ad
    obtain⟨g,aN,aJ,ay,aK⟩:=JF (f:=id) (by decide) B.o.c34 B.o.row ar.o
    cases aJ
    have GL:=J ((B.o.row.lt g rfl))
    have FZ:=J B.o.fr
    have AG:=J (AP.o g rfl)
    have NQ:=@J (G≠g) (λe=>AG.o.1 e.symm)
    have aq:=@J (wr.cell? ⟨G,1,none⟩=some (.slice (some ⟨g,0,none⟩) t.ins.length q)) (by
     have:=zq (FZ.o.obj BQ.o (λe=>by cases e;exact NQ.o rfl)) 1 _ rfl
     simpa using this)
    have CK:=@J (wr.cell? ⟨g,n*34+33,none⟩=some (.slice ka x.key.length kc)) ((zeI ay ad).2)
    have aH:=J (HI.o.2.2 x (mem_of_getElem? hx))
    have i2:(n:Int)<(t.ins.length:Int):=i1
    clear hx hcs aw ad ai ay aK
    go_wp2_with fail
    have ae:=J ((frN wr).drew)
    refine yp [ff,ff,ff,ff,ff,ff,ff,ff,ff,tt,ff,ff,tt] (λw'=>w'.cell? ⟨G,1,none⟩=some (.slice (some ⟨g,0,none⟩) t.ins.length q)∧w'.cell? ⟨g,n*34+33,none⟩=some (.slice ka x.key.length kc)) (by kernel_rfl) (by kernel_rfl) 12 (by kernel_rfl) (by kernel_rfl) ?_ (λK hK=>?_)
    ·exact⟨ae.o.cell aq.o _root_.id,ae.o.cell CK.o _root_.id⟩
    repeat((first|(refine yb rfl ?_;constructor;constructor;(focus(first|(rintro w' ⟨s1,s2⟩;exact goS))))|(refine yc rfl ?_));try simp only[Act.put,pA,pB,pC])
    (refine ya rfl (λK' hK'=>?_))
    go_simp
    refine(Vh wr.drew (au.o.keep ae.o) (by have:=aH.o;omega)).mono ?_
    rintro e H ⟨kv,rfl,al,f4⟩
    obtain⟨L,M,aL⟩:=al.slice.arg.form
    subst aL
    have u:=J (ae.o.trans0 f4)
    have KO:=J al
    clear al f4
    refine hK'.out _ _ (λ_=>?_) (λhS=>?_)
    ·exact⟨u.o.cell aq.o _root_.id,u.o.cell CK.o _root_.id⟩
    try simp only[Act.put,pA,pB,pC]
    repeat((first|(refine yb rfl ?_;constructor;constructor;(focus(first|(rintro w' ⟨s1,s2⟩;exact goS))))|(refine yc rfl ?_));try simp only[Act.put,pA,pB,pC])
    have ag:=J (zb B.o.row u.o (λ_ _=>_root_.id))
    have fz:H.frozen? ⟨g,n*34+33,none⟩=false:=ag.o.frozenAt _
    have cz:=u.o.cell CK.o _root_.id
    have NK:=@J (n*34+33+1≤t.ins.length*34) (by omega)
    have fs:Fr (λj=>j=g) H (H.setCell ⟨g,n*34+33,none⟩ (.slice L x.key.length M)):=(Fr.refl (λj=>j=g) H).setCell _ (.inr rfl) _
    have FS:=J fs
    have aI:=@J (zhr (w.heap.size+2) G (some ⟨g,0,none⟩) q t wz (H.setCell ⟨g,n*34+33,none⟩ (.slice L x.key.length M)) (n+1) (css.set n (inC x.from_ (.slice L x.key.length M)))) (by
     refine⟨by rw[List.length_set];exact B.o.len,λcs hc=>?_,?_,λi d cs hi D y=>?_,λi d cs hi D y=>?_,?_⟩
     ·rcases List.mem_or_eq_of_mem_set hc with hc|rfl
      ·exact B.o.c34 cs hc
      ·exact vC aj.o _
     ·have D:=qX ag.o (n*34+33) (cs:=[.slice L x.key.length M]) (by have:=NK.o;simpa using this)
      have y:=Xo (r:=33) (v:=.slice L x.key.length M) (by decide) B.o.c34 ar.o
      rw[zg2 aj.o] at y
      rw[←y]
      exact D
     ·by_cases hin:i=n
      ·subst hin
       rw[HX.o] at D
       cases D
       rw[List.getElem?_set_self (by have:=B.o.len;omega)] at y
       cases y
       have hk:=zbO KO.o au.o.1 (V:=λj=>j<w.heap.size+2∨(Value.slice (some ⟨g,0,none⟩) t.ins.length q).ownBlock=some j) (λj c=>by
        have h3:=FZ.o.size
        have h4:=FC.o.size
        have h5:=Z2.o
        have h6:=GL.o.2
        show j<wr.heap.size
        rcases c with c|c
        ·omega
        ·simp[Value.ownBlock] at c;omega)
       exact(hk.step (FS.o.mono (λj e=>.inr (by rw[e];rfl))) (λ_ _ h=>h)).imp (λw' _ h=>⟨L,M,rfl,aj.o,h⟩)
      ·rw[List.getElem?_set_ne (by omega)] at y
       exact((B.o.new i d cs (by omega) D y).step u.o.of0 (λ_ _ h=>h)).step (FS.o.mono (λj e=>.inr (by rw[e];rfl))) (λ_ _ h=>h)
     ·rw[List.getElem?_set_ne (by omega)] at y
      exact((B.o.old i d cs (by omega) D y).step u.o.of0 (λ_ _ h=>h)).step (FS.o.mono (λj e=>by rw[e];exact GL.o.1)) (λ_ _ h=>h)
     ·exact(FZ.o.trans0 u.o).trans FS.o (λj _ e=>by rw[e];rfl))
    clear fs
    (refine ya rfl (λK' hK'=>?_))
    go_simp
    refine hK'.out _ _ (λh=>absurd rfl h) (λhS=>?_)
    refine xA (hK.out _ _ ?_)
    go_wp2_with fail
    go_roundw
    case rel=>exact⟨n+1,by go_num,by omega,_,aI.o⟩
    case measure=>simp[intOf];omega
   ·have aA:n=t.ins.length:=by omega
    have i1:¬(n:Int)<(t.ins.length:Int):=by omega
    have aF:=J aA
    have FZ:=J B.o.fr
    have aE:=J (FZ.o.obj BQ.o (λe=>(AP.o G e).1 rfl))
    have RU:=J (zq aE.o)
    have ao:=J (FZ.o.obj aD.o (λe=>by have:=(B.o.row.lt _ e).1;omega))
    have aG:=@J (∀V:Nat→Prop,(∀j,V j→j<w.heap.size+2)→Kept V wr (λw=>TxQ w t [.int .u32 t.ver,.slice A t.ins.length q,.slice N t.outs.length O])) (λV hV w' f=>by
     have k1:jR (w.heap.size+2) 108 34 InQ (λj=>j<w.heap.size+2) wr (.slice A t.ins.length q) t.ins css:=⟨B.o.row,B.o.len,B.o.c34,λi d cs D y=>B.o.new i d cs (by rw[aF.o];exact(List.getElem?_eq_some_iff.1 D).1) D y⟩
     have k2:=k1.rows (U:=V) (by decide) (by unfold maxLen;have:=L8.o;omega) (λj _ e=>hV j e) (λj c e=>by have:=(k1.lt j c).1;have:=hV j e;omega) w' f
     have k3:=XZ (V:=V) (zb T.o FZ.o (λj c e=>(AP.o j e).2 c)) HO.o.1 hV w' f
     exact⟨A,q,N,O,rfl,HV.o,k2,k3⟩)
    clear aA
    have⟨K0,K1⟩:=tZ2
    go_wp2_with ((first|((with_reducible refine zt ?_);clear K0;refine zoa rfl rfl rfl RU.o rfl ?_)|((with_reducible refine zv ?_);clear K1;refine zi rfl (zK (ty:=34) (b:=w.heap.size+1) (off:=0) (cs:=[.int .u32 t.ver,.slice A t.ins.length q,.slice N t.outs.length O]) rfl rfl rfl (zX ao.o (le_refl 3)) y5 (qM rfl rfl rfl)) ?_));go_frame)
    have BE:=Yj (cs:=[.int .u32 t.ver,.slice A t.ins.length q,.slice N t.outs.length O]) ao.o rfl
    have fE:=zu (w.heap.size+1) [.int .u32 t.ver,.slice A t.ins.length q,.slice N t.outs.length O] 0 wr
    refine bodyPost_ret (v:=.agg [.int .u32 t.ver,.slice A t.ins.length q,.slice N t.outs.length O].toArray) (results_cell_row (P:=prog) (fn:=Tryz.f41) rfl _ _ (w.heap.size+1) 34 _ (0,0) _ rfl BE Tryz.underlying34 rfl y5) rfl ⟨_,rfl,?_,λV hV w' f=>aG.o (λj=>V j∨j=w.heap.size+1) (λj c=>by rcases c with c|c;have:=hV j c;omega;omega) w' ((fE.mono (λj c=>.inr c)).trans (f.mono (λj c=>.inl c)) (λ_ _ h=>h))⟩
    exact(((F2.o.trans0 FC.o).trans FZ.o (λj c e=>by have:=(B.o.row.lt _ e).1;omega))).trans fE (λi hi e=>by omega)
def zab (w0 w:World) (ps ma ms:Nat) (R:Nat→Value) (X:Nat→Prop) (S:List zr) (I:List zd) (L:List yd) (Q:StQ) (n:Nat) (t:TxD) (e:Ending) (w':World):Prop:=
 e=.returned (.int .i64 (jL S I L (Q n) t))∧Fr (Vj ps ma ms (R n)) w w'∧∃v' C',(∀j,v'.ownBlock=some j→(R n).ownBlock=some j∨w.heap.size≤j)∧yO w0 w' ps ma ms (vr R n v') (λj=>X j∨v'.ownBlock=some j) C' (jg Q n (Y3 S I L (Q n) t))
def zb5 (C:Nat→zd→List Value) (n:Nat) (x:zd) (cs:List Value):Nat→zd→List Value:=λi y=>if i=n∧y=x then cs else C i y
theorem zay (C:Nat→zd→List Value) (n:Nat) (x:zd) (cs:List Value):zb5 C n x cs n x=cs:=if_pos ⟨rfl,rfl⟩
theorem Yv (C:Nat→zd→List Value) {n i:Nat} {x y:zd} (cs:List Value) (h:i≠n∨y≠x):zb5 C n x cs i y=C i y:=if_neg λe=>h.elim (λh=>h e.1) (λh=>h e.2)
section
variable {w0 w w' w0p w0c:World} {ps ma ms pp mp mq g N pc:Nat} {R:Nat→Value} {X Y VG VC:Nat→Prop} {C:Nat→zd→List Value} {CP:zd→List Value} {Q:StQ} {L:List yd} {S:List zr} {bs:List yB} {I:List zd}
theorem zab.bad (l:n<65) {t:TxD} {c:Int} (h:yO w0 w ps ma ms R X C Q) (b:jL S I L (Q n) t=c) (i:c≠0) (f:Fr No w w'):zab w0 w ps ma ms R X S I L Q n t (.returned (.int .i64 c)) w':=by
 have a:jL S I L (Q n) t≠0:=by rw[b];exact i
 have d:Y3 S I L (Q n) t=Q n:=by unfold Y3;rw[if_neg a]
 refine⟨by rw[b],f.of0,R n,C,λj h=>.inl h,?_⟩
 rw[d,zhm,zbm]
 exact h.frV f (λ_ _=>id) (λ_ h=>h.elim) (λ_ h=>h.elim) (λj _ e=>e.elim id (λe=>h.sub j (.inr (.inr (.inr ⟨n,l,e⟩))))) (λj k=>.inl (h.sub j k))
theorem zhW {l:List StE} {t:TxD} (h:yC t≠0):jL S I L l t=yC t:=by unfold jL;rw[if_pos h]
theorem zhX {l:List StE} {t:TxD} (h:yC t=0) (a:jC I L l (idH t)≠0):jL S I L l t=jC I L l (idH t):=by unfold jL;rw[if_neg (by simp[h]),if_pos a]
theorem zmN {l:List StE} {t:TxD} (h:yC t=0) (a:jC I L l (idH t)=0):jL S I L l t=Y9 S L l t:=by unfold jL;rw[if_neg (by simp[h]),if_neg (by simp[a])]
structure Xc (w:World) (ps ma ms:Nat) (R':Nat→Value) (C':Nat→zd→List Value) (Q:StQ) (n:Nat) (l':List StE) (x:zd) (pts:List zE) (m:Nat):Prop where
 obj:w.heap[ps]? =some (.cells (stC ma ms R').toArray 116 (0,0))
 am:∃M,vi w ma M∧∀k cs,(k,cs)∈M↔∃i:Nat,i<65∧k.1=(i:Int)∧∃e∈jg Q n l' i,e.id=k.2∧cs=C' i k.2
 sm:∃M,Yl w ms M∧(∀k y,(k,y)∈M↔(k.1=(n:Int)∧k.2∈pts.take m∧y=x)∨∃i:Nat,i<65∧k.1=(i:Int)∧∃e∈Q i,k.2∈zZ e.tx∧e.id=y)∧M.length≤100000+m
theorem Xc.fr0 {e:Nat→Value} {d:Nat→zd→List Value} {i:List StE} {x:zd} {a:List zE} (h:Xc w ps ma ms e d Q n i x a m) (f:Fr No w w'):Xc w' ps ma ms e d Q n i x a m:=by
 obtain⟨M,j,l⟩:=h.am
 obtain⟨M',b,c,k⟩:=h.sm
 exact⟨f.obj h.obj id,⟨M,j.keep f id,l⟩,⟨M',b.keep f id,c,k⟩⟩
theorem Xc.c66 {c:Nat→Value} {b:Nat→zd→List Value} {d:List StE} {x:zd} {a:List zE} (h:Xc w ps ma ms c b Q n d x a m):w.cell? ⟨ps,66,none⟩=some (.map (some ms)):=by
 have:=zq h.obj
 simpa using this 66 _ zdZ
theorem zne (w:World):(zeroValue 110).run prog w=.ok (.agg (skC (0,yR)).toArray) w:=by kernel_rfl
theorem zjM {M:List ((Int×zd)×List Value)} (j:(M.map (·.1)).Nodup) (m:∀i,SVal (Q i)) (h:∀k cs,(k,cs)∈M↔∃i:Nat,i<65∧k.1=(i:Int)∧∃e∈Q i,e.id=k.2∧cs=C i k.2):M.length≤100000:=by
 have b:∀x∈M.map (·.1),x∈(List.range 65).flatMap λi=>(Q i).map λe=>((i:Int),e.id):=by
  intro x n
  obtain⟨⟨k,y⟩,o,rfl⟩:=mem_map.1 n
  obtain⟨i,hi,a,e,f,l,-⟩:=(h k y).1 o
  refine mem_flatMap.2 ⟨i,List.mem_range.2 hi,mem_map.2 ⟨e,f,?_⟩⟩
  rw[←a,l]
 have c:=qp j b
 rw[length_map] at c
 have d:∀r:List Nat,(r.flatMap λi=>(Q i).map λe=>((i:Int),e.id)).length≤4*r.length:=by
  intro r
  induction r with
  |nil=>simp
  |cons i r ih=>
   rw[List.flatMap_cons,length_append,length_cons,length_map]
   have p:=(m i).len
   omega
 have:=d (List.range 65)
 rw[List.length_range] at this
 omega
theorem ziC {M:List ((Int×zE)×zd)} (o:(M.map (·.1)).Nodup) (d:∀i,SVal (Q i)) (n:∀k y,(k,y)∈M↔∃i:Nat,i<65∧k.1=(i:Int)∧∃e∈Q i,k.2∈zZ e.tx∧e.id=y):M.length≤100000:=by
 have f:∀x∈M.map (·.1),x∈(List.range 65).flatMap λi=>(Q i).flatMap λe=>(zZ e.tx).map λq=>((i:Int),q):=by
  intro x s
  obtain⟨⟨k,y⟩,t,rfl⟩:=mem_map.1 s
  obtain⟨i,hi,b,e,a,p,-⟩:=(n k y).1 t
  refine mem_flatMap.2 ⟨i,List.mem_range.2 hi,mem_flatMap.2 ⟨e,a,mem_map.2 ⟨k.2,p,?_⟩⟩⟩
  rw[←b]
 have h:=qp o f
 rw[length_map] at h
 have j:∀r:List Nat,(r.flatMap λi=>(Q i).flatMap λe=>(zZ e.tx).map λq=>((i:Int),q)).length≤32*r.length:=by
  intro r
  induction r with
  |nil=>simp
  |cons i r ih=>
   rw[List.flatMap_cons,length_append,length_cons]
   have m:∀l:List StE,(∀e∈l,e.tx.ins.length≤8)→(l.flatMap λe=>(zZ e.tx).map λq=>((i:Int),q)).length≤8*l.length:=by
    intro l
    induction l with
    |nil=>simp
    |cons e l ih2=>
     intro c
     rw[List.flatMap_cons,length_append,length_cons,length_map,vM]
     have:=ih2 (λe a=>c e (.tail _ a))
     have:=c e (.head _)
     omega
   have u:=m (Q i) ((d i).ins8)
   have v:=(d i).len
   omega
 have:=j (List.range 65)
 rw[List.length_range] at this
 omega
theorem zk9 (w:World) (cs:List Value) (a b c:Nat) (hi:i<0∨64<i):
  Calls prog 12 #[.pointer (some ⟨a,0,none⟩),.pointer (some ⟨b,0,none⟩),.pointer (some ⟨c,0,none⟩),.int .i64 i,.agg cs.toArray] w λe w'=>e=.returned (.int .i64 2)∧Fr No w w':=by
 have d:=J ((frN w).alloc (.cells cs.toArray 34))
 by_cases i1:i<0
 ·clear hi
  go_enter Tryz.func12,Tryz.ntmps12
  go_wp2_with fail
  go_ret
  exact⟨rfl,d.o⟩
 ·have f:64<i:=by omega
  clear hi
  go_enter Tryz.func12,Tryz.ntmps12
  go_wp2_with fail
  go_ret
  exact⟨rfl,d.o⟩
theorem zmO (hg:q9 w) (h:yO w0 w ps ma ms R X C Q) (hX:∀j,X j→j<w.heap.size) (hp:yq w0p w pp mp mq g VG Y CP L N) (hc:Cn w0c w pc VC S bs I) (hS:∀c∈S,c.ok) (hn:n<65) {t:TxD} (ht:Kept X w (λw=>TxQ w t cs)):
  Calls prog 12 #[.pointer (some ⟨ps,0,none⟩),.pointer (some ⟨pc,0,none⟩),.pointer (some ⟨pp,0,none⟩),.int .i64 n,.agg cs.toArray] w (zab w0 w ps ma ms R X S I L Q n t):=by
 obtain⟨dS,uS,rS⟩:=zmw
 have zp:=vR
 have zh:=yS
 have zk:=zne
 have cR:(n:Int)<65:=by omega
 have cQ:¬(64:Int)<(n:Int):=by omega
 have i0:(0:Int)≤(n:Int):=by omega
 have cP:¬(n:Int)<0:=by omega
 obtain⟨ia,ic,oa,oc,rfl⟩:=ht.now.form
 have HT:=J ht
 have HG:=J hg
 have s:=J h
 have F:=J hn
 have cf:=J hX
 have F1:=J ((frN w).alloc (.cells #[.int .u32 t.ver,.slice ia t.ins.length ic,.slice oa t.outs.length oc] 34))
 have R1:=J (qW w t.ver (.slice ia t.ins.length ic) (.slice oa t.outs.length oc)).2.2.2
 have ak:=J (XK _ ((HT.o.same F1.o.of0).now))
 have aT:=J (λw' (f:Fr No w w')=>Xq (HG.o.keep0 f) (HT.o w' f.of0))
 have aJ:=J (λw' (f:Fr No w w')=>zmL (h.fr0 f) (hp.fr0 f) (hc.fr0 f) hn (qC t))
 have bk:=J (λ(hchk:yC t=0) w' (f:Fr No w w')=>zmW (hg.keep0 f) (h.fr0 f) (hp.fr0 f) (hc.fr0 f) hS hn (HT.o w' f.of0) hchk)
 have au:=J (qC t)
 have XL:=J (zx au.o)
 have r:=J (JH (k:=((n:Int),idH t)) au.o)
 clear h hp hc ht hS hg hn hX
 show Calls prog 12 #[.pointer (some ⟨ps,0,none⟩),.pointer (some ⟨pc,0,none⟩),.pointer (some ⟨pp,0,none⟩),.int .i64 n,.agg #[.int .u32 t.ver,.slice ia t.ins.length ic,.slice oa t.outs.length oc]] w _
 by_cases c1:yC t=0
 rotate_left
 ·have LE:=J (zhW (S:=S) (I:=I) (L:=L) (l:=Q n) c1)
  have je:(yC t==0)=false:=by simpa using c1
  have b0:(yC t !=0)=true:=by simpa using c1
  have NE:=J c1
  clear c1
  unfold jA at ak
  generalize bQ:yC t=ce at*
  go_enter Tryz.func12,Tryz.ntmps12
  have⟨K0,K1⟩:=tZ2
  go_wp2_with ((first|((with_reducible refine zt ?_);clear K0;refine zoa rfl rfl rfl R1.o rfl ?_;generalize w.alloc (.cells #[.int .u32 t.ver,.slice ia t.ins.length ic,.slice oa t.outs.length oc] 34)=wa at*)|(clear K1;go_at_call 32;refine ak.o.mono ?_;rintro e w3 ⟨rfl,f3⟩;have F3:=J (F1.o.trans0 f3);clear f3));go_frame)
  go_ret
  exact zab.bad F.o s.o LE.o NE.o F3.o
 unfold jA at ak
 rw[c1] at ak
 have FM:=J (Jl c1).1
 have aU:=@J (idE t=0) (by unfold idE;rw[if_pos FM.o])
 have ay:=J (bk.o c1)
 clear bk
 unfold ziQ at ay
 by_cases c2:jC I L (Q n) (idH t)=0
 rotate_left
 ·have LE:=J (zhX (S:=S) c1 c2)
  have NE:=J c2
  have je:(jC I L (Q n) (idH t)==0)=false:=by simpa using c2
  have b0:(jC I L (Q n) (idH t) !=0)=true:=by simpa using c2
  clear c1 c2
  generalize bQ:jC I L (Q n) (idH t)=ce at*
  go_enter Tryz.func12,Tryz.ntmps12
  have⟨K0,K1,K2,K3,K4,K5,K6,K7,K8,K9⟩:=tZ10
  go_wp2_with ((first|((with_reducible refine zt ?_);first|(clear K0;refine zoa rfl rfl rfl R1.o rfl ?_;generalize aD:w.heap.size=U at*;generalize ag:w.alloc (.cells #[.int .u32 t.ver,.slice ia t.ins.length ic,.slice oa t.outs.length oc] 34)=wa at*;have Z1:=@J (U<wa.heap.size) (by rw[←ag,←aD];simp);clear ag)|(clear K2;refine zoa rfl rfl rfl R3.o rfl ?_)|(clear K5;refine zoc rfl rfl rfl ab.o XL.o ?_)|(clear K6;refine zg rfl (yQ (t:=110) rfl rfl vL (jU _ au.o) (vJ _ _) r.o) ?_)|(clear K8;refine zg rfl (z7 (ty:=110) rfl rfl ad.o uS rS (by rw[r.o];exact zar)) ?_))|(clear K1;go_at_call 32;refine ak.o.mono ?_;rintro e w3 ⟨rfl,f3⟩;have F3:=J (F1.o.trans0 f3);have R3:=J (za R1.o f3 id);have Z3:=@J (U<w3.heap.size) (by have:=Z1.o;have:=f3.size;omega);clear f3;have ax:=J (aT.o _ F3.o))|(clear K3;go_at_call 15;refine ax.o.mono ?_;rintro e T ⟨rfl,f4⟩;rw[aU.o];have F4:=J (F3.o.trans0 f4);have R4:=J (za R3.o f4 id);have Z4:=@J (U<T.heap.size) (by have:=Z3.o;have:=f4.size;omega);clear f4;have ab:=J (zy T (zf (idH t)) 41);have aa:=J ((frN T).alloc (.cells (zf (idH t)).toArray 41)))|(clear K9;go_at_call 39;refine aw.o.mono ?_;rintro e w7 ⟨rfl,H⟩;have F7:=J (F6.o.trans0 H);have R7:=J (za R6.o H id);have aM:=J (za aB.o H id);have aN:=J (za ad.o H id);have Z7:=@J (W<w7.heap.size) (by have:=Z6.o;have:=H.size;omega);clear H;have aK:=J (ay.o w7 F7.o))|((with_reducible refine zv ?_);first|(clear K4;refine zol (w:=T) (cs:=zf (idH t)) rfl rfl rfl rfl XL.o zU ?_;generalize aE:T.heap.size=qh at*;generalize ah:T.alloc (.cells (zf (idH t)).toArray 41)=E at*;have Z5:=@J (qh<E.heap.size) (by rw[←ah,←aE];simp);clear ah;have F5:=J (F4.o.trans0 aa.o);have R5:=J (za R4.o aa.o id);have ad:=J (zaD E n (idH t));have B:=J ((frN E).alloc (.cells (skC (n,idH t)).toArray 110)))|(clear K7;refine zi rfl (zj (w:=E) (ty:=110) (cs:=skC (n,idH t)) rfl rfl rfl (by rw[r.o];rfl) (by rw[r.o];exact zar) zdW) ?_;generalize aF:E.heap.size=W at*;generalize ai:E.alloc (.cells (skC (n,idH t)).toArray 110)=w6 at*;have Z6:=@J (W<w6.heap.size) (by rw[←ai,←aF];simp);clear ai;have F6:=J (F5.o.trans0 B.o);have R6:=J (za R5.o B.o id);have aB:=J (za ab.o B.o id);have aw:=J (aJ.o w6 F6.o))));go_frame)
  go_ret
  exact zab.bad F.o s.o LE.o NE.o F7.o
 rw[c2] at aJ
 have K3:=J (zmN (S:=S) c1 c2)
 clear c2
 by_cases c3:Y9 S L (Q n) t=0
 rotate_left
 ·have NE:=J c3
  have je:(Y9 S L (Q n) t==0)=false:=by simpa using c3
  have b0:(Y9 S L (Q n) t !=0)=true:=by simpa using c3
  clear c1 c3
  generalize bQ:Y9 S L (Q n) t=ce at*
  go_enter Tryz.func12,Tryz.ntmps12
  have⟨K0,K1,K2,K3,K4,K5,K6,K7,K8,K9,aV,aW⟩:=tZ12
  go_wp2_with ((first|((with_reducible refine zt ?_);first|(clear K0;refine zoa rfl rfl rfl R1.o rfl ?_;generalize aD:w.heap.size=U at*;generalize ag:w.alloc (.cells #[.int .u32 t.ver,.slice ia t.ins.length ic,.slice oa t.outs.length oc] 34)=wa at*;have Z1:=@J (U<wa.heap.size) (by rw[←ag,←aD];simp);clear ag)|(clear K2;refine zoa rfl rfl rfl R3.o rfl ?_)|(clear K5;refine zoc rfl rfl rfl ab.o XL.o ?_)|(clear K6;refine zg rfl (yQ (t:=110) rfl rfl vL (jU _ au.o) (vJ _ _) r.o) ?_)|(clear K8;refine zg rfl (z7 (ty:=110) rfl rfl ad.o uS rS (by rw[r.o];exact zar)) ?_)|(clear aV;refine zoa rfl rfl rfl R7.o rfl ?_))|(clear K1;go_at_call 32;refine ak.o.mono ?_;rintro e w3 ⟨rfl,f3⟩;have F3:=J (F1.o.trans0 f3);have R3:=J (za R1.o f3 id);have Z3:=@J (U<w3.heap.size) (by have:=Z1.o;have:=f3.size;omega);clear f3;have ax:=J (aT.o _ F3.o))|(clear K3;go_at_call 15;refine ax.o.mono ?_;rintro e T ⟨rfl,f4⟩;rw[aU.o];have F4:=J (F3.o.trans0 f4);have R4:=J (za R3.o f4 id);have Z4:=@J (U<T.heap.size) (by have:=Z3.o;have:=f4.size;omega);clear f4;have ab:=J (zy T (zf (idH t)) 41);have aa:=J ((frN T).alloc (.cells (zf (idH t)).toArray 41)))|(clear K9;go_at_call 39;refine aw.o.mono ?_;rintro e w7 ⟨rfl,H⟩;have F7:=J (F6.o.trans0 H);have R7:=J (za R6.o H id);have aM:=J (za aB.o H id);have aN:=J (za ad.o H id);have Z7:=@J (W<w7.heap.size) (by have:=Z6.o;have:=H.size;omega);clear H;have aK:=J (ay.o w7 F7.o))|(clear aW;go_at_call 40;refine aK.o.mono ?_;rintro e w8 ⟨rfl,f8⟩;have F8:=J (F7.o.trans0 f8);have R8:=J (za R7.o f8 id);have bB:=J (za aM.o f8 id);have bE:=J (za aN.o f8 id);have Z8:=@J (W<w8.heap.size) (by have:=Z7.o;have:=f8.size;omega);clear f8)|((with_reducible refine zv ?_);first|(clear K4;refine zol (w:=T) (cs:=zf (idH t)) rfl rfl rfl rfl XL.o zU ?_;generalize aE:T.heap.size=qh at*;generalize ah:T.alloc (.cells (zf (idH t)).toArray 41)=E at*;have Z5:=@J (qh<E.heap.size) (by rw[←ah,←aE];simp);clear ah;have F5:=J (F4.o.trans0 aa.o);have R5:=J (za R4.o aa.o id);have ad:=J (zaD E n (idH t));have B:=J ((frN E).alloc (.cells (skC (n,idH t)).toArray 110)))|(clear K7;refine zi rfl (zj (w:=E) (ty:=110) (cs:=skC (n,idH t)) rfl rfl rfl (by rw[r.o];rfl) (by rw[r.o];exact zar) zdW) ?_;generalize aF:E.heap.size=W at*;generalize ai:E.alloc (.cells (skC (n,idH t)).toArray 110)=w6 at*;have Z6:=@J (W<w6.heap.size) (by rw[←ai,←aF];simp);clear ai;have F6:=J (F5.o.trans0 B.o);have R6:=J (za R5.o B.o id);have aB:=J (za ab.o B.o id);have aw:=J (aJ.o w6 F6.o))));go_frame)
  go_ret
  exact zab.bad F.o s.o K3.o NE.o F8.o
 have KZ:=J (K3.o.trans c3)
 rw[c3] at ay
 clear c1 c3
 obtain⟨k1,k2,k3,k4,k5,k6,k7,k8,k9⟩:=keep0 KZ.o
 have bq:=J k2
 have bo:=J k5
 have cj:=J (λq hq=>(k6 q hq).1)
 have KL:=@J (Y3 S I L (Q n) t=Q n++[⟨idH t,t⟩]) (by unfold Y3;rw[if_pos KZ.o])
 clear k1 k2 k3 k4 k5 k6 k7 k8 k9
 have ar:=J (yZ.1 FM.o)
 go_enter Tryz.func12,Tryz.ntmps12
 have⟨K0,K1,K2,K3,K4,K5,K6,K7,K8,K9,aV,aW⟩:=tZ12
 go_wp2_with ((first|((with_reducible refine zt ?_);first|(clear K0;refine zoa rfl rfl rfl R1.o rfl ?_;generalize aD:w.heap.size=U at*;generalize ag:w.alloc (.cells #[.int .u32 t.ver,.slice ia t.ins.length ic,.slice oa t.outs.length oc] 34)=wa at*;have Z1:=@J (U<wa.heap.size) (by rw[←ag,←aD];simp);clear ag)|(clear K2;refine zoa rfl rfl rfl R3.o rfl ?_)|(clear K5;refine zoc rfl rfl rfl ab.o XL.o ?_)|(clear K6;refine zg rfl (yQ (t:=110) rfl rfl vL (jU _ au.o) (vJ _ _) r.o) ?_)|(clear K8;refine zg rfl (z7 (ty:=110) rfl rfl ad.o uS rS (by rw[r.o];exact zar)) ?_)|(clear aV;refine zoa rfl rfl rfl R7.o rfl ?_))|(clear K1;go_at_call 32;refine ak.o.mono ?_;rintro e w3 ⟨rfl,f3⟩;have F3:=J (F1.o.trans0 f3);have R3:=J (za R1.o f3 id);have Z3:=@J (U<w3.heap.size) (by have:=Z1.o;have:=f3.size;omega);clear f3;have ax:=J (aT.o _ F3.o))|(clear K3;go_at_call 15;refine ax.o.mono ?_;rintro e T ⟨rfl,f4⟩;rw[aU.o];have F4:=J (F3.o.trans0 f4);have R4:=J (za R3.o f4 id);have Z4:=@J (U<T.heap.size) (by have:=Z3.o;have:=f4.size;omega);clear f4;have ab:=J (zy T (zf (idH t)) 41);have aa:=J ((frN T).alloc (.cells (zf (idH t)).toArray 41)))|(clear K9;go_at_call 39;refine aw.o.mono ?_;rintro e w7 ⟨rfl,H⟩;have F7:=J (F6.o.trans0 H);have R7:=J (za R6.o H id);have aM:=J (za aB.o H id);have aN:=J (za ad.o H id);have Z7:=@J (W<w7.heap.size) (by have:=Z6.o;have:=H.size;omega);clear H;have aK:=J (ay.o w7 F7.o))|(clear aW;go_at_call 40;refine aK.o.mono ?_;rintro e w8 ⟨rfl,f8⟩;have F8:=J (F7.o.trans0 f8);have R8:=J (za R7.o f8 id);have bB:=J (za aM.o f8 id);have bE:=J (za aN.o f8 id);have Z8:=@J (W<w8.heap.size) (by have:=Z7.o;have:=f8.size;omega);clear f8)|((with_reducible refine zv ?_);first|(clear K4;refine zol (w:=T) (cs:=zf (idH t)) rfl rfl rfl rfl XL.o zU ?_;generalize aE:T.heap.size=qh at*;generalize ah:T.alloc (.cells (zf (idH t)).toArray 41)=E at*;have Z5:=@J (qh<E.heap.size) (by rw[←ah,←aE];simp);clear ah;have F5:=J (F4.o.trans0 aa.o);have R5:=J (za R4.o aa.o id);have ad:=J (zaD E n (idH t));have B:=J ((frN E).alloc (.cells (skC (n,idH t)).toArray 110)))|(clear K7;refine zi rfl (zj (w:=E) (ty:=110) (cs:=skC (n,idH t)) rfl rfl rfl (by rw[r.o];rfl) (by rw[r.o];exact zar) zdW) ?_;generalize aF:E.heap.size=W at*;generalize ai:E.alloc (.cells (skC (n,idH t)).toArray 110)=w6 at*;have Z6:=@J (W<w6.heap.size) (by rw[←ai,←aF];simp);clear ai;have F6:=J (F5.o.trans0 B.o);have R6:=J (za R5.o B.o id);have aB:=J (za ab.o B.o id);have aw:=J (aJ.o w6 F6.o))));go_frame)
 have FD:=J F8.o.drew
 have HD:=J (s.o.fr0 FD.o)
 have RD:=J (za R8.o (frN w8).drew id)
 have cu:=J (za bB.o (frN w8).drew id)
 have bG:=J (za bE.o (frN w8).drew id)
 have ZD:=@J (W<w8.drew.heap.size) (Z8.o)
 have z:=@J (w.heap.size≤U∧U<qh∧qh<W) (⟨by omega,by have:=Z4.o;omega,by have:=Z5.o;omega⟩)
 have aI:=@J (∀j,stV ps ma ms R j→j<U) (λj u=>by have:=s.o.hi j u;omega)
 obtain⟨M,hM,hm⟩:=HD.o.am
 have HM:=J hM
 have cc:=J hm
 have bp:=J (zjM hM.nodup s.o.val hm)
 have TD:=J (HT.o _ FD.o.of0)
 clear hM hm
 refine wrLx [ff,ff,ff,ff,ff,ff,tt,tt] (λw'=>w'.cell? ⟨ps,0,none⟩=some (.map (some ma))∧w'.rangeAt W 0 (skC (n,idH t))∧w'.rangeAt U 0 [.int .u32 t.ver,.slice ia t.ins.length ic,.slice oa t.outs.length oc]) ?_ (λK hK=>?_)
 ·exact⟨HD.o.cells.1,bG.o,RD.o⟩
 generalize w8.drew=wd at*
 repeat((first|(refine zl rfl ?_;constructor;constructor;(focus(first|exact zoi rfl (λw h=>h.2.1) r.o|exact zoh rfl (λw h=>h.2.2) rfl|(rintro w' ⟨s1,s2,s3⟩;exact goS))))|(refine zm rfl ?_));try simp only[Act.put,pA,pB,pC])
 (refine zF rfl (λK' hK'=>?_))
 go_simp
 refine(ze9 wd TD.o ⟨by have:=ar.o;omega,by have:=ar.o;omega,λx hx=>by have:=ar.o.1 x hx;omega⟩).mono ?_
 rintro e w9 ⟨cM,rfl,f9,a6⟩
 obtain⟨ja,jc,ka,kc,e9⟩:=(a6 (λ_=>False) (λ_ h=>h.elim)).now.form
 subst e9
 have aq:=J f9
 have F9:=J (FD.o.trans0 f9)
 have ch:=J a6
 clear f9 a6
 have R9:=J (za RD.o aq.o id)
 have ct:=J (za cu.o aq.o id)
 have bF:=J (za bG.o aq.o id)
 have H9:=J (HD.o.fr0 aq.o)
 have Z9:=@J (W<w9.heap.size) (by have:=ZD.o;have:=aq.o.size;omega)
 refine nXt hK' ?_ λhS=>?_
 ·exact⟨H9.o.cells.1,bF.o,R9.o⟩
 try simp only[Act.put,pA,pB,pC]
 obtain⟨D,M1,aH,bS,af,aG,a7⟩:=(HM.o.keep aq.o id).upd zmG.keyed zcl (λ_ _=>zdX) (zdF (k:=((n:Int),idH t)) (Vq F.o) au.o) (show M.length<maxLen by unfold maxLen;have:=bp.o;omega) [.int .u32 t.ver,.slice ja t.ins.length jc,.slice ka t.outs.length kc]
 have bm:=J aH
 have FU:=J aG.fr
 have ca:=J bS
 have cC:=J af
 clear aH bS af aG a7
 unfold skV QC at bm
 have AA:=J s.o.apart
 have RN:=J (s.o.rnot n F.o)
 have G:=@J (ps<U∧ma<U∧ms<U) (⟨aI.o _ (.inl rfl),aI.o _ (.inr (.inl rfl)),aI.o _ (.inr (.inr (.inl rfl)))⟩)
 have bw:=J (za R9.o FU.o (λe=>by have:=G.o;omega))
 have bx:=J (za ct.o FU.o (λe=>by have:=G.o;have:=z.o;omega))
 have bD:=J (za bF.o FU.o (λe=>by have:=G.o;have:=z.o;omega))
 have aA:=J (FU.o.obj H9.o.obj AA.o.1)
 have b6:=@J (D.cell? ⟨ps,0,none⟩=some (.map (some ma))) (by have:=zq aA.o 0 _ rfl;simpa using this)
 have bJ:=@J (∃M,Yl D ms M∧∀k x,(k,x)∈M↔∃i:Nat,i<65∧k.1=(i:Int)∧∃e∈Q i,k.2∈zZ e.tx∧e.id=x) (by
  obtain⟨M2,A,v⟩:=H9.o.sm
  exact⟨M2,A.keep FU.o (λe=>AA.o.2.2 e.symm),v⟩)
 obtain⟨ra,rc,hR⟩:=s.o.row_form F.o
 have az:=J hR
 have aZ:=@J (D.ownsRow w0.heap.size 41 32 (.slice ra (Q n).length rc) (yM (Q n)).length ((yM (Q n)).flatMap zf)) (by
  rw[←hR]
  exact zb (H9.o.row n F.o) FU.o (λj u e=>(RN.o j u).2.1 e))
 have bd:=@J (D.cell? ⟨ps,1+n,none⟩=some (.slice ra (Q n).length rc)) (by have:=zq aA.o (1+n) _ (by rw[add_comm];exact VS F.o);rw[hR] at this;simpa using this)
 have b7:=@J (Fr (λj=>j=ma) w D) (F9.o.of0.trans FU.o (λ_ _ e=>e))
 have cE:=@J (W<D.heap.size) (by have:=Z9.o;have:=FU.o.size;omega)
 clear hR
 repeat((first|(refine zl rfl ?_;constructor;constructor;(focus(first|exact zoi rfl (λw h=>h.2.1) r.o|exact zoh rfl (λw h=>h.2.2) rfl|(rintro w' ⟨s1,s2,s3⟩;exact goS))))|(refine zm rfl ?_));try simp only[Act.put,pA,pB,pC])
 (refine zF rfl (λK' hK'=>?_))
 refine yN (y4 rfl rfl rfl rfl bm.o) ?_
 refine nXt hK' ?_ λhS=>?_
 ·exact⟨b6.o,bD.o,bw.o⟩
 try simp only[Act.put]
 refine zL (hK.out _ _ ?_)
 go_wp2_with fail
 have p:=J ((frN D).drew)
 have aY:=J (za bx.o p.o id)
 have RE:=J (za bw.o p.o id)
 have aR:=J (p.o.cell bd.o id)
 have bH:=J (zb aZ.o p.o (λ_ _=>id))
 have ck:=J (p.o.obj aA.o id)
 have cb:=J (ca.o.keep p.o id)
 have cx:=@J (∃M,Yl D.drew ms M∧∀k x,(k,x)∈M↔∃i:Nat,i<65∧k.1=(i:Int)∧∃e∈Q i,k.2∈zZ e.tx∧e.id=x) (by
  obtain⟨M2,A,v⟩:=bJ.o
  exact⟨M2,A.keep p.o id,v⟩)
 have FE:=J (b7.o.trans0 p.o)
 have ZE:=@J (W<D.drew.heap.size) (cE.o)
 have cD:=@J (w0.heap.size≤w.heap.size) (s.o.fr.size)
 refine yp [ff,ff,ff,ff,ff,ff,ff,ff,ff,tt,tt,ff,ff,ff,tt] (λw'=>w'.cell? ⟨ps,1+n,none⟩=some (.slice ra (Q n).length rc)∧w'.rangeAt qh 0 (zf (idH t))) (by kernel_rfl) (by kernel_rfl) 14 (by kernel_rfl) (by kernel_rfl) ?_ (λK hK=>?_)
 ·exact⟨aR.o,aY.o⟩
 generalize D.drew=we at*
 obtain⟨cS,V,b1,b2,b3,-,b5⟩:=yY (P:=prog) we w0.heap.size 38 38 41 32 32 _ xP qm rfl (by decide) bH.o (zf (idH t)) XL.o zU (by rw[Je];have:=bo.o;omega) (by rw[Je];unfold maxLen;have:=bo.o;omega) (by have:=FE.o.size;have:=cD.o;omega)
 obtain⟨d,o,bY⟩:=b2.slice.arg.form
 subst bY
 have B1:=J b1
 have B2:=J b2
 have B3:=J b3
 have B5:=J b5
 clear b1 b2 b3 b5
 have al:=@J (∀j,(Value.slice ra (Q n).length rc).ownBlock=some j→j<U∧j≠ps∧j≠ma∧j≠ms) (λj u=>⟨by
  have:=aI.o j (.inr (.inr (.inr ⟨n,F.o,by rw[az.o];exact u⟩)));exact this,RN.o j (by rw[az.o];exact u)⟩)
 have bc:=J (B3.o.cell aR.o (λe=>(al.o _ e).2.1 rfl))
 have aQ:=J (za aY.o B3.o (λe=>by have:=(al.o _ e).1;have:=z.o;omega))
 have cp:=J (za RE.o B3.o (λe=>by have:=(al.o _ e).1;have:=z.o;omega))
 have aP:=J (B3.o.obj ck.o (λe=>(al.o _ e).2.1 rfl))
 have bh:=J (cb.o.keep B3.o (λe=>(al.o _ e).2.2.1 rfl))
 have bK:=@J (∃M,Yl V ms M∧∀k x,(k,x)∈M↔∃i:Nat,i<65∧k.1=(i:Int)∧∃e∈Q i,k.2∈zZ e.tx∧e.id=x) (by
  obtain⟨M2,A,v⟩:=cx.o
  exact⟨M2,A.keep B3.o (λe=>(al.o _ e).2.2.2 rfl),v⟩)
 have cF:=@J (W<V.heap.size) (by have:=B3.o.size;have:=ZE.o;omega)
 repeat((first|(refine yb rfl ?_;constructor;constructor;(focus(first|exact zog rfl (λw h=>h.2) XL.o|(rintro w' ⟨s1,s2⟩;exact goS))))|(refine yc rfl ?_));try simp only[Act.put,pA,pB,pC])
 (refine ya rfl (λK' hK'=>?_))
 refine yg (zS (t:=38) (cs:=zf (idH t)) rfl rfl xP qK rfl (by decide) (by decide) XL.o) ?_
 have FB:=J ((frN we).alloc (.cells (zf (idH t)).toArray 41))
 refine hK'.out _ _ (λ_=>?_) (λhS=>?_)
 ·exact⟨FB.o.cell aR.o id,za aY.o FB.o id⟩
 try simp only[Act.put,pA,pB,pC]
 (refine ya rfl (λK' hK'=>?_))
 refine yr rfl rfl rfl B1.o ?_
 refine hK'.out _ _ (λ_=>?_) (λhS=>?_)
 ·exact⟨bc.o,aQ.o⟩
 try simp only[Act.put,pA,pB,pC]
 repeat((first|(refine yb rfl ?_;constructor;constructor;(focus(first|(rintro w' ⟨s1,s2⟩;exact goS))))|(refine yc rfl ?_));try simp only[Act.put,pA,pB,pC])
 have fz:V.frozen? ⟨ps,1+n,none⟩=false:=yn aP.o
 have cz:=bc.o
 (refine ya rfl (λK' hK'=>?_))
 go_simp
 refine hK'.out _ _ (λh=>absurd rfl h) (λhS=>?_)
 refine xA (hK.out _ _ ?_)
 clear fz cz
 have FS:=@J (Fr (λj=>j=ps) V (V.setCell ⟨ps,1+n,none⟩ (.slice d ((yM (Q n)).length+1) o))) ((Fr.refl (λj=>j=ps) V).setCell ⟨ps,1+n,none⟩ (.inr rfl) _)
 have bt:=@J ((V.setCell ⟨ps,1+n,none⟩ (.slice d ((yM (Q n)).length+1) o)).heap[ps]? =some (.cells (stC ma ms (vr R n (.slice d ((yM (Q n)).length+1) o))).toArray 116 (0,0))) (by
  have cw:=heap_setCell_same V ps (1+n) _ _ (.slice d ((yM (Q n)).length+1) o) aP.o
  have:=zhg (ma:=ma) (ms:=ms) (R:=R) F.o (.slice d ((yM (Q n)).length+1) o)
  rw[cw,add_comm 1 n]
  unfold vr
  rw[←this]
  simp)
 have an:=@J (∀j,(Value.slice d ((yM (Q n)).length+1) o).ownBlock=some j→((R n).ownBlock=some j∨we.heap.size≤j)∧j≠ps∧j≠ma∧j≠ms) (λj u=>by
  rcases B5.o j u with h|h
  ·exact⟨.inl (by rw[az.o];exact h),(al.o j h).2⟩
  ·exact⟨.inr h,by have:=G.o;have:=z.o;have:=ZE.o;omega⟩)
 generalize bZ:V.setCell ⟨ps,1+n,none⟩ (.slice d ((yM (Q n)).length+1) o)=aj at*
 clear bZ
 have cq:=J (za cp.o FS.o (λe=>by have:=G.o;omega))
 have bz:=J (za aQ.o FS.o (λe=>by have:=G.o;have:=z.o;omega))
 have bj:=J (bh.o.keep FS.o (λe=>AA.o.1 e.symm))
 have a1:=J (zb B2.o FS.o (λj u e=>(an.o j u).2.1 e))
 have bL:=@J (∃M,Yl aj ms M∧∀k x,(k,x)∈M↔∃i:Nat,i<65∧k.1=(i:Int)∧∃e∈Q i,k.2∈zZ e.tx∧e.id=x) (by
  obtain⟨M2,A,v⟩:=bK.o
  exact⟨M2,A.keep FS.o (λe=>AA.o.2.1 e.symm),v⟩)
 have bg:=@J (Fr (Vj ps ma ms (R n)) w aj) (((FE.o.mono (λj e=>.inr (.inl e))).trans B3.o (λj _ e=>.inr (.inr (.inr (by rw[az.o];exact e))))).trans FS.o (λj _ e=>.inl e))
 have b8:=@J (Fr (λj=>j=ps∨j=ma∨(R n).ownBlock=some j) w9 aj) ((((show Fr (λj=>j=ps∨j=ma∨(R n).ownBlock=some j) w9 D from FU.o.mono (λj e=>.inr (.inl e))).trans0 p.o).trans B3.o (λj _ e=>.inr (.inr (by rw[az.o];exact e)))).trans FS.o (λj _ e=>.inl e))
 have bN:=@J (W<aj.heap.size) (by have:=FS.o.size;have:=cF.o;omega)
 have bM:=J (HT.o aj (bg.o.mono (λj e=>s.o.sub j (Jh F.o j e))))
 have bb:=@J (∃M,vi aj ma M∧∀k cs,(k,cs)∈M↔∃i:Nat,i<65∧k.1=(i:Int)∧∃e∈jg Q n (Q n++[⟨idH t,t⟩]) i,e.id=k.2∧cs=zb5 C n (idH t) [.int .u32 t.ver,.slice ja t.ins.length jc,.slice ka t.outs.length kc] i k.2) (⟨M1,bj.o,λk cs=>by
  rw[cC.o k cs,cc.o]
  constructor
  ·rintro(⟨rfl,rfl⟩|⟨A,i,hi,b,a,ha,av,ae⟩)
   ·refine⟨n,F.o,rfl,⟨idH t,t⟩,?_,rfl,(zay _ _ _ _).symm⟩
    rw[xQ]
    exact List.mem_append_right _ (by simp)
   ·refine⟨i,hi,b,a,?_,av,?_⟩
    ·by_cases c:i=n
     ·subst c;rw[xQ];exact List.mem_append_left _ ha
     ·rw[qA Q _ c];exact ha
    ·rw[ae,Yv]
     by_cases c:i=n
     ·subst c;exact .inr (λe=>A (Prod.ext b e))
     ·exact .inl c
  ·rintro⟨i,hi,b,a,ha,av,ae⟩
   by_cases c:i=n
   ·subst c
    rw[xQ] at ha
    rcases mem_append.1 ha with ha|ha
    ·have aO:k.2≠idH t:=λe=>bq.o (by rw[←e,←av];exact mem_map.2 ⟨a,ha,rfl⟩)
     rw[Yv _ _ (.inr aO)] at ae
     exact .inr ⟨λe=>aO (by rw[e]),i,hi,b,a,ha,av,ae⟩
    ·obtain rfl:=mem_singleton.1 ha
     have cG:k=((i:Int),idH t):=Prod.ext b av.symm
     subst cG
     rw[zay] at ae
     exact .inl ⟨rfl,ae⟩
   ·rw[qA Q _ c] at ha
    rw[Yv _ _ (.inl c)] at ae
    exact .inr ⟨λe=>c (by have h:k.1=(n:Int):=congrArg Prod.fst e;omega),i,hi,b,a,ha,av,ae⟩⟩)
 have cd:=J (jd aj bM.o (by have:=ar.o;omega))
 have inl:=ar.o.2.1
 have⟨K0,K1⟩:=tZ2
 go_wp2_with ((first|((with_reducible refine zt ?_);clear K0;refine zoa rfl rfl rfl cq.o rfl ?_)|(clear K1;go_at_call 33;refine cd.o.mono ?_;rintro e ba ⟨pv,rfl,a8,bO⟩;obtain⟨pa,b4,cI⟩:=a8.slice.arg.form;subst cI;have Z:=J bO;have PO:=J a8;clear bO a8));go_frame)
 have bu:=@J (∀q∈zZ t,q.ok) (λq hq=>by obtain⟨y,hy,rfl⟩:=mem_map.1 hq;exact bM.o.oks.1 y hy)
 have aX:=J (vM t)
 have cg:=@J (Xc ba ps ma ms (vr R n (.slice d ((yM (Q n)).length+1) o)) (zb5 C n (idH t) [.int .u32 t.ver,.slice ja t.ins.length jc,.slice ka t.outs.length kc]) Q n (Q n++[⟨idH t,t⟩]) (idH t) (zZ t) 0) (⟨Z.o.obj bt.o id,by
  obtain⟨M2,A,v⟩:=bb.o
  exact⟨M2,A.keep Z.o id,v⟩,by
  obtain⟨M2,A,v⟩:=bL.o
  exact⟨M2,A.keep Z.o id,λk y=>by rw[v];simp,by have:=ziC A.nodup s.o.val v;omega⟩⟩)
 have bA:=J (za bz.o Z.o id)
 have cm:=@J (∀j,(Value.slice pa t.ins.length b4).ownBlock=some j→aj.heap.size≤j) (λj u=>(PO.o.lt j u).1)
 have bf:=J (bg.o.trans0 Z.o)
 go_loopw [89] (λiv wi=>∃m:Nat,iv=.int .i64 m∧m≤t.ins.length∧Xc wi ps ma ms (vr R n (.slice d ((yM (Q n)).length+1) o)) (zb5 C n (idH t) [.int .u32 t.ver,.slice ja t.ins.length jc,.slice ka t.outs.length kc]) Q n (Q n++[⟨idH t,t⟩]) (idH t) (zZ t) m∧Fr (λj=>j=ms) ba wi) (λiv _=>t.ins.length-(intOf iv).toNat)
 case atStart=>exact⟨0,rfl,zero_le _,cg.o,Fr.refl _ _⟩
 case round=>
  obtain⟨m,rfl,hm,b,bR⟩:=hrel
  rename World=>wi
  have KI:=J b
  have FI:=J bR
  have cv:=J (za bA.o FI.o (λe=>by have:=G.o;have:=z.o;omega))
  clear b bR
  by_cases hmt:m<t.ins.length
  ·have i2:(m:Int)<(t.ins.length:Int):=by omega
   obtain⟨q,hq⟩:∃q,(zZ t)[m]? =some q:=⟨_,getElem?_eq_getElem (by rw[aX.o];exact hmt)⟩
   have aL:=J (bu.o q (mem_of_getElem? hq))
   have cA:=J (cj.o q (mem_of_getElem? hq))
   have cn:=J (zb PO.o FI.o (λj u e=>by have:=cm.o j u;have:=G.o;have:=z.o;have:=bN.o;omega))
   have bW:xL wi (.slice pa t.ins.length b4) (zZ t):=⟨bu.o,by rw[aX.o];exact cn.o.slice.arg⟩
   obtain⟨b2,cL,cK,e2,bX,-⟩:=bW.at_ hq
   injection e2 with e3 e4 e5
   subst e3
   have R2:=J bX
   have PL:=J (z6 aL.o)
   have RQ:=J (zy wi (zn q) 95)
   have FQ:=J ((frN wi).alloc (.cells (zn q).toArray 95))
   have cy:=J (zbi (k:=((n:Int),q)) aL.o)
   have TK:=@J (∀y,y∈(zZ t).take (m+1)↔y=q∨y∈(zZ t).take m) (λy=>by
    rw[take_add_one,hq]
    simp[or_comm])
   have QZ:=@J (qh<wi.heap.size) (by have:=FI.o.size;have:=Z.o.size;have:=bN.o;have:=z.o;omega)
   clear bX hq e4 e5 bW
   have⟨K0,K1⟩:=tZ2
   go_wp2_with ((first|((with_reducible refine zt ?_);clear K0;refine zod rfl rfl rfl R2.o PL.o ?_)|((with_reducible refine zv ?_);clear K1;refine zom (w:=wi) (cs:=zn q) rfl rfl rfl rfl PL.o yK ?_));go_frame)
   generalize cO:wi.heap.size=qq at*
   generalize cJ:wi.alloc (.cells (zn q).toArray 95)=wb at*
   have aS:=J FQ.o.drew
   have KD:=J (KI.o.fr0 aS.o)
   have bI:=J (za RQ.o (frN wb).drew id)
   have bC:=J (za cv.o aS.o id)
   clear cJ
   refine wrLx [ff,ff,ff,ff,ff,ff,ff,ff,tt] (λw'=>w'.cell? ⟨ps,66,none⟩=some (.map (some ms))∧w'.rangeAt qq 0 (zn q)∧w'.rangeAt qh 0 (zf (idH t))) ?_ (λK hK=>?_)
   ·exact⟨KD.o.c66,bI.o,bC.o⟩
   generalize wb.drew=z1 at*
   obtain⟨M2,bP,bT,cH⟩:=KD.o.sm
   obtain⟨E,M5,aH,bU,af,aG,a7⟩:=bP.upd zkX.keyed V2 (λ_ _=>zbj) (zba (k:=((n:Int),q)) (Vq F.o) aL.o) (show M2.length<maxLen by unfold maxLen;have:=ar.o;omega) (idH t)
   have bl:=J aH
   have FM:=J aG.fr
   have br:=@J (ps≠ms∧ma≠ms) (⟨AA.o.2.1,AA.o.2.2⟩)
   have bn:=@J (Xc E ps ma ms (vr R n (.slice d ((yM (Q n)).length+1) o)) (zb5 C n (idH t) [.int .u32 t.ver,.slice ja t.ins.length jc,.slice ka t.outs.length kc]) Q n (Q n++[⟨idH t,t⟩]) (idH t) (zZ t) (m+1)) (⟨FM.o.obj KD.o.obj br.o.1,by
    obtain⟨Ma,A,v⟩:=KD.o.am
    exact⟨Ma,A.keep FM.o br.o.2,v⟩,⟨M5,bU,(λk y=>by
    rw[af k y,bT,TK.o]
    constructor
    ·rintro(⟨rfl,rfl⟩|⟨A,(⟨v,h3,h4⟩|v)⟩)
     ·exact .inl ⟨rfl,.inl rfl,rfl⟩
     ·exact .inl ⟨v,.inr h3,h4⟩
     ·exact .inr v
    ·rintro(⟨A,v,rfl⟩|v)
     ·by_cases e:k.2=q
      ·exact .inl ⟨Prod.ext A e,rfl⟩
      ·exact .inr ⟨λc=>e (by rw[c]),.inl ⟨A,v.resolve_left e,rfl⟩⟩
     ·refine .inr ⟨λc=>?_,.inr v⟩
      obtain⟨i,hi,b,e,O,ao,-⟩:=v
      subst c
      have cN:(n:Int)=(i:Int):=b
      have:i=n:=by omega
      subst this
      have h:=cA.o
      rw[YS.2 ⟨e,O,ao⟩] at h
      cases h),(by omega)⟩⟩)
   have F5:=@J (Fr (λj=>j=ms) ba E) ((FI.o.trans0 aS.o).trans FM.o (λj _ e=>e))
   have R5:=J (za bI.o FM.o (λe=>by have:=G.o;have:=z.o;have:=QZ.o;omega))
   have cr:=J (za bC.o FM.o (λe=>by have:=G.o;have:=z.o;omega))
   clear aH bU af aG a7 bP bT cH
   unfold spV y7 at bl
   repeat((first|(refine zl rfl ?_;constructor;constructor;(focus(first|exact zof rfl (λw h=>h.2.1) PL.o|exact zog rfl (λw h=>h.2.2) XL.o|exact λw' _=>yQ (t:=118) rfl rfl zb4 (zdB _ aL.o) (zb0 _ _) cy.o|(rintro w' ⟨s1,s2,s3⟩;exact goS))))|(refine zm rfl ?_));try simp only[Act.put,pA,pB,pC])
   (refine zF rfl (λK' hK'=>?_))
   refine yN (y4 rfl rfl rfl rfl bl.o) ?_
   refine nXt hK' ?_ λhS=>?_
   ·exact⟨bn.o.c66,R5.o,cr.o⟩
   try simp only[Act.put]
   refine zL (hK.out _ _ ?_)
   go_wp2_with fail
   go_roundw
   case rel=>exact⟨m+1,by go_num,by omega,bn.o,F5.o⟩
   case measure=>simp[intOf];omega
  ·have bV:m=t.ins.length:=by omega
   have i2:¬(m:Int)<(t.ins.length:Int):=by omega
   have cB:=@J ((zZ t).take m=zZ t) (by rw[bV,←aX.o,take_length])
   clear bV
   go_wp2_with fail
   go_ret
   have FT:Fr (Vj ps ma ms (R n)) w wi:=bf.o.trans FI.o (λj _ e=>.inr (.inr (.inl e)))
   have b9:Fr (λj=>j=ps∨j=ma∨j=ms∨(R n).ownBlock=some j) w9 wi:=((b8.o.mono (λj e=>e.elim .inl (λe=>.inr (e.elim .inl (λe=>.inr (.inr e)))))).trans0 Z.o).trans FI.o (λj _ e=>.inr (.inr (.inl e)))
   have WQ:w.heap.size≤we.heap.size:=by have:=z.o;have:=ZE.o;omega
   refine⟨by rw[KZ.o];rfl,FT,.slice d ((yM (Q n)).length+1) o,zb5 C n (idH t) [.int .u32 t.ver,.slice ja t.ins.length jc,.slice ka t.outs.length kc],λj u=>(an.o j u).1.imp_right (λh=>le_trans WQ h),?_⟩
   rw[KL.o]
   refine s.o.upd F.o FT KI.o.obj ?_ KI.o.am ?_ (λe O=>?_) (λi hi=>?_) ?_ (λj u=>(an.o j u).1.imp_right (λh=>le_trans WQ h)) (λj u e=>?_) (λj u=>?_)
   ·have e1:yM (Q n++[⟨idH t,t⟩])=yM (Q n)++[idH t]:=by simp[yM]
    rw[e1,length_append,List.length_singleton,List.flatMap_append]
    have A:=zb (zb a1.o Z.o (λ_ _=>id)) FI.o (λj u e=>(an.o j u).2.2.2 e)
    simpa using A
   ·obtain⟨M2,A,v,-⟩:=KI.o.sm
    refine⟨M2,A,λk y=>?_⟩
    rw[v,cB.o]
    constructor
    ·rintro(⟨h3,h4,rfl⟩|⟨i,hi,b,e,O,ao,aC⟩)
     ·refine⟨n,F.o,h3,⟨idH t,t⟩,?_,h4,rfl⟩
      rw[xQ]
      exact List.mem_append_right _ (by simp)
     ·refine⟨i,hi,b,e,?_,ao,aC⟩
      by_cases c:i=n
      ·subst c;rw[xQ];exact List.mem_append_left _ O
      ·rw[qA Q _ c];exact O
    ·rintro⟨i,hi,b,e,O,ao,aC⟩
     by_cases c:i=n
     ·subst c
      rw[xQ] at O
      rcases mem_append.1 O with O|O
      ·exact .inr ⟨i,hi,b,e,O,ao,aC⟩
      ·obtain rfl:=mem_singleton.1 O
       exact .inl ⟨b,ao,aC.symm⟩
     ·rw[qA Q _ c] at O
      exact .inr ⟨i,hi,b,e,O,ao,aC⟩
   ·rcases mem_append.1 O with O|O
    ·have aO:e.id≠idH t:=λc=>bq.o (by rw[←c];exact mem_map.2 ⟨e,O,rfl⟩)
     rw[Yv _ _ (.inr aO)]
     refine(s.o.data n F.o e O).step (FT.mono (λj c=>s.o.sub j (Jh F.o j c))) (λj u c=>c.elim id (λc=>?_))
     rcases(an.o j c).1 with h|h
     ·exact s.o.sub j (.inr (.inr (.inr ⟨n,F.o,h⟩)))
     ·omega
    ·obtain rfl:=mem_singleton.1 O
     rw[zay]
     refine(ch.o X (λj u=>by have:=cf.o j u;have:=FD.o.size;omega)).step (b9.mono (λj c=>?_)) (λj u c=>c.elim id (λc=>?_))
     ·rcases c with c|c|c|c
      ·exact s.o.sub j (.inl c)
      ·exact s.o.sub j (.inr (.inl c))
      ·exact s.o.sub j (.inr (.inr (.inl c)))
      ·exact s.o.sub j (.inr (.inr (.inr ⟨n,F.o,c⟩)))
     ·rcases(an.o j c).1 with h|h
      ·exact s.o.sub j (.inr (.inr (.inr ⟨n,F.o,h⟩)))
      ·have A:=FU.o.size
       have v:=p.o.size
       omega
   ·funext y
    exact Yv _ _ (.inl hi)
   ·have:=(s.o.val n).keep (S:=S) (I:=I) (L:=L) t
    rw[KL.o] at this
    exact this
   ·rcases e with e|e
    ·exact e
    ·rcases(an.o j e).1 with h|h
     ·exact s.o.sub j (.inr (.inr (.inr ⟨n,F.o,h⟩)))
     ·omega
   ·rcases u with e|e|e|⟨i,hi,e⟩
    ·exact .inl (s.o.sub j (.inl e))
    ·exact .inl (s.o.sub j (.inr (.inl e)))
    ·exact .inl (s.o.sub j (.inr (.inr (.inl e))))
    ·unfold vr at e
     by_cases c:i=n
     ·rw[if_pos c] at e
      exact .inr e
     ·rw[if_neg c] at e
      exact .inl (s.o.sub j (.inr (.inr (.inr ⟨i,hi,e⟩))))
end
def iV (n:Nat):Value:=.int .i64 (n:Int)
theorem zbl:prog.underlying 58=some (.slice 3):=by kernel_rfl
theorem zeK:(prog.info? 3).map (λi=>(i.zero,i.size,i.bytes))=some (some (.int .i64 0),1,8):=by kernel_rfl
theorem zcW:(prog.info? 3).map (λi=>(i.zero,i.size))=some (some (.int .i64 0),1):=by kernel_rfl
theorem zkU:∃d,prog.underlying 63=some d∧d.isRow=true:=jf (by kernel_rfl)
theorem zk7:(prog.info? 63).map (·.size)=some 65:=by kernel_rfl
theorem zk5 {l:List Value} (e:l.length=65) {v:Value} (b:l[k]? =some v) (w:World):(Instr.index 63 (.agg l.toArray) (.int .i64 k)).run prog w=.ok v w:=by
 have a:k<65:=by have:=(List.getElem?_eq_some_iff.1 b).1;omega
 have c:(0≤(k:Int)∧(k:Int)<((65:Nat):Int)):=by omega
 have d:(sizeOf 38).run prog w=.ok 1 w:=by kernel_rfl
 simp[Instr.index,run_underlying Tryz.underlying63,asIntOf,c,d,part,go_sem,a,b]
section
variable {w0 w w':World} {p ma ms:Nat} {R:Nat→Value} {X:Nat→Prop} {C:Nat→zd→List Value} {Q:StQ}
def zch (Q:StQ) (k:Nat):List Nat:=(List.range k).filter λi=>decide (Q i≠[])
theorem zkl (Q:StQ) (k:Nat):(zch Q k).length≤k:=by
 have:=List.length_filter_le (λi=>decide (Q i≠[])) (List.range k)
 rw[List.length_range] at this
 exact this
theorem zlG (h:Q k=[]):zch Q (k+1)=zch Q k:=by
 unfold zch
 rw[List.range_succ,filter_append]
 simp[h]
theorem zkm (h:Q k≠[]):zch Q (k+1)=zch Q k++[k]:=by
 unfold zch
 rw[List.range_succ,filter_append]
 simp[h]
theorem zix (h:yO w0 w p ma ms R X C Q):
  Calls prog 21 #[.pointer (some ⟨p,0,none⟩)] w λe w'=>∃o,e=.returned o∧w'.ownsRow w.heap.size 3 1 o (ZM Q).length ((ZM Q).map iV)∧Fr No w w':=by
 obtain⟨dO,uO,Z⟩:=zkU
 have D:=@J (w.rangeAt p 1 ((List.range 65).map R)) (λj v f=>by
  have b:j<65:=by have:=(List.getElem?_eq_some_iff.1 f).1;simpa using this
  have Y:=h.cells.2.2 j b
  rw[getElem?_map,List.getElem?_range b] at f
  simp at f
  rw[←f,add_comm]
  exact Y)
 obtain⟨q,a⟩:∃q,(List.range 65).map R=q:=⟨_,rfl⟩
 have B:=@J (q.length=65) (by rw[←a];simp)
 have T:=J (λ(k:Nat) (g:k<65) (w:World)=>zk5 (l:=q) (v:=R k) B.o (by rw[←a,getElem?_map,List.getElem?_range g];rfl) w)
 have V:=J (λ(k:Nat) (g:k<65)=>h.row_form g)
 rw[a] at D
 clear h a
 go_enter Tryz.func21,Tryz.ntmps21
 have r:=tru
 go_wp2_with ((with_reducible refine zt ?_);clear r;refine zg rfl (z7 (ty:=63) rfl rfl D.o uO Z (by rw[B.o];exact zk7)) ?_;go_frame)
 go_loopw [3,12] (λo y wr=>∃(k:Nat) (m:Option Addr) (n:Nat),y=.int .i64 k∧k≤65∧o=.slice m (zch Q k).length n∧wr.ownsRow w.heap.size 3 1 (.slice m (zch Q k).length n) (zch Q k).length ((zch Q k).map iV)∧Fr No w wr) (λ_ y _=>65-(intOf y).toNat)
 case atStart=>exact⟨0,none,0,rfl,by omega,rfl,World.ownsRow_nil _ _ _ _,Fr.refl _ _⟩
 case round=>
  obtain⟨k,m,n,rfl,g,rfl,K,fr⟩:=hrel
  have O:=J K
  have d:=J fr
  clear K fr
  by_cases hlt:k<65
  ·have i1:(k:Int)<65:=by omega
   obtain⟨ra,rc,H⟩:=V.o k hlt
   have L:=T.o k hlt
   rw[H] at L
   clear H
   by_cases hq:Q k=[]
   ·have c:=J (zlG hq)
    have I:(Q k).length=0:=by rw[hq];rfl
    rw[I] at L
    clear hq I
    go_wp2_with fail
    go_roundw
    case rel=>exact⟨k+1,m,n,by go_num,by omega,by rw[c.o],by rw[c.o];exact O.o,d.o⟩
    case measure=>simp[intOf];omega
   ·have c:=J (zkm hq)
    have i2:(0:Int)<((Q k).length:Int):=by have:=List.length_pos_iff.2 hq;omega
    have E:=J (zkl Q k)
    clear hq
    obtain⟨v8,w8,F,s,G,-,W⟩:=yY (P:=prog) wr w.heap.size 58 58 3 1 8 _ zbl zeK rfl (by decide) O.o [.int .i64 k] rfl (by simp[Value.oneCell']) (by have:=E.o;omega) (by have:=E.o;unfold maxLen;omega) d.o.size
    obtain⟨z,A,x⟩:=s.slice.arg.form
    subst x
    have M:=J F
    have N:=J s
    have S:=J G
    clear F s G W
    have⟨r,U⟩:=tZ2
    go_wp2_with (((with_reducible refine zt ?_);first|(clear r;refine zg rfl (JQ (t:=58) (v:=.int .i64 k) rfl rfl zbl zcW rfl (by decide) (by decide) rfl) ?_)|(clear U;at_builtin;refine zQ rfl rfl rfl rfl M.o ?_));go_frame)
    go_roundw
    case rel=>exact⟨k+1,z,A,by go_num,by omega,by rw[c.o];simp,by rw[c.o];simpa[iV] using N.o,d.o.trans S.o (λi hi e=>by have:=(O.o.lt i e).1;omega)⟩
    case measure=>simp[intOf];omega
  ·have u:k=65:=by omega
   subst u
   go_wp2_with fail
   go_ret
   exact⟨_,rfl,O.o,d.o⟩
end
def JP (Q:StQ) (x:zd) (k:Nat):StQ:=λj=>if j<k then Vi (Q j) x else Q j
def jo (Q:StQ) (x:zd) (k:Nat):List Nat:=(List.range k).filter λi=>decide (x∈yM (Q i))
theorem zir (Q:StQ) (x:zd) (k:Nat):(jo Q x k).length≤k:=by
 have:=List.length_filter_le (λi=>decide (x∈yM (Q i))) (List.range k)
 rw[List.length_range] at this
 exact this
theorem zki {Q:StQ} {x:zd} (h:x∉yM (Q k)):jo Q x (k+1)=jo Q x k:=by
 unfold jo
 rw[List.range_succ,filter_append]
 simp[h]
theorem zis {Q:StQ} {x:zd} (h:x∈yM (Q k)):jo Q x (k+1)=jo Q x k++[k]:=by
 unfold jo
 rw[List.range_succ,filter_append]
 simp[h]
theorem zgr (Q:StQ) (x:zd):JP Q x 0=Q:=by
 funext j
 unfold JP
 rw[if_neg (by omega)]
theorem zcb (Q:StQ) (x:zd) (k:Nat):JP Q x k k=Q k:=by
 unfold JP
 rw[if_neg (by omega)]
theorem zkR {l:List StE} {x:zd} (h:x∉yM l):Vi l x=l:=by
 unfold Vi
 rw[filter_eq_self]
 intro e a
 simp only[decide_eq_true_eq]
 exact λc=>h (by rw[←c];exact mem_map.2 ⟨e,a,rfl⟩)
theorem zkh {Q:StQ} {x:zd} (h:x∉yM (Q k)):JP Q x (k+1)=JP Q x k:=by
 funext j
 unfold JP
 by_cases e:j=k
 ·subst e
  rw[if_pos (by omega),if_neg (by omega),zkR h]
 ·by_cases c:j<k
  ·rw[if_pos (by omega),if_pos c]
  ·rw[if_neg (by omega),if_neg c]
theorem ziq (Q:StQ) (x:zd) (k:Nat):jg (JP Q x k) k (Vi (Q k) x)=JP Q x (k+1):=by
 funext j
 unfold JP jg
 dsimp only
 by_cases e:j=k
 ·subst e
  rw[if_pos rfl,if_pos (by omega)]
 ·rw[if_neg e]
  by_cases c:j<k
  ·rw[if_pos c,if_pos (by omega)]
  ·rw[if_neg c,if_neg (by omega)]
section
variable {w0 w w':World} {p ma ms:Nat} {R:Nat→Value} {X:Nat→Prop} {C:Nat→zd→List Value} {Q:StQ}
theorem zku:∀v∈VX,v.oneCell'=true:=qM rfl rfl rfl
theorem zjc (h:yO w0 w p ma ms R X C Q) (b:n<65) (x:zd):(ZT C Q n x).length=3∧∀v∈ZT C Q n x,v.oneCell'=true:=by
 unfold ZT
 split
 ·rename_i hm
  unfold vq at hm
  simp only[decide_eq_true_eq] at hm
  rw[Int.toNat_natCast] at hm⊢
  obtain⟨e,a,rfl⟩:=mem_map.1 hm.2.2
  exact YU (h.data n b e a).now
 ·exact⟨rfl,zku⟩
theorem zau (Q:StQ) (b:n<65) (x:zd):vq Q n x=decide (x∈yM (Q n)):=by
 unfold vq
 rw[Int.toNat_natCast]
 by_cases hx:x∈yM (Q n)
 ·have a:(n:Int)<65:=by omega
  simp[hx,a]
 ·simp[hx]
def zgK (w0 w4:World) (p ma ms:Nat) (R:Nat→Value) (X:Nat→Prop) (C:Nat→zd→List Value) (Q:StQ) (x:zd) (k:Nat) (lv:Value) (wr:World):Prop:=
 ∃Rk,yO w0 wr p ma ms Rk X C (JP Q x k)∧(∀i j,(Rk i).ownBlock=some j→(R i).ownBlock=some j)∧wr.ownsRow w4.heap.size 3 1 lv (jo Q x k).length ((jo Q x k).map iV)∧Fr (stV p ma ms R) w4 wr
theorem zm4 (h:yO w0 w p ma ms R X C Q) {x:zd} (hx:zY x):
  Calls prog 23 #[.pointer (some ⟨p,0,none⟩),.agg (zf x).toArray] w λe w'=>∃lv,e=.returned lv∧w'.ownsRow w.heap.size 3 1 lv (jo Q x 65).length ((jo Q x 65).map iV)∧Fr (stV p ma ms R) w w'∧∃I,(∀i j,(I i).ownBlock=some j→(R i).ownBlock=some j)∧yO w0 w' p ma ms I X C (JP Q x 65):=by
 have zT:=vt
 have m:=J hx
 have XL:=J (zx hx)
 have HH:=J h
 have F1:=J ((frN w).alloc (.cells (zf x).toArray 41))
 have RK:=J (zy w (zf x) 41)
 have y:=@J (∀j,stV p ma ms R j→j<w.heap.size) (h.hi)
 clear h hx
 go_enter Tryz.func23,Tryz.ntmps23
 go_wp2_with fail
 generalize ao:w.heap.size=q0 at*
 generalize H:w.alloc (.cells (zf x).toArray 41)=f at*
 have Y:=@J (f.heap.size=q0+1) (by rw[←H,←ao];simp)
 clear H
 have H4:=J (HH.o.fr0 F1.o)
 obtain⟨l,d⟩:∃l:Nat→Prop,l=λj=>X j∨f.heap.size≤j:=⟨_,rfl⟩
 have ak:=@J (∀j,f.heap.size≤j→l j) (λj a=>by rw[d];exact .inr a)
 have al:=@J (∀j,X j→l j) (λj a=>by rw[d];exact .inl a)
 have ah:=@J (yO w0 f p ma ms R l C Q) (H4.o.frV (frN f) (λ_ _=>id) (λ_ h=>h.elim) (λ_ h=>h.elim) (λj a e=>by rw[d] at e;exact e.resolve_right (by omega)) (λj a=>by rw[d];exact .inl (H4.o.sub j a)))
 clear d
 have g:=@J (∀I:Nat→Value,(∀i j,(I i).ownBlock=some j→(R i).ownBlock=some j)→∀j,stV p ma ms I j→stV p ma ms R j) (λI hv j a=>by
  rcases a with e|e|e|⟨i,hi,e⟩
  ·exact .inl e
  ·exact .inr (.inl e)
  ·exact .inr (.inr (.inl e))
  ·exact .inr (.inr (.inr ⟨i,hi,hv i j e⟩)))
 have aj:=@J (zgK w0 f p ma ms R l C Q x 0 (.slice none 0 0) f) (⟨R,by rw[zgr];exact ah.o,λi j h=>h,World.ownsRow_nil _ _ _ _,Fr.refl _ _⟩)
 go_loopw [5,11] (λlv iv wr=>∃(k:Nat) (L:Option Addr) (N:Nat),iv=.int .i64 k∧k≤65∧lv=.slice L (jo Q x k).length N∧zgK w0 f p ma ms R l C Q x k (.slice L (jo Q x k).length N) wr) (λ_ iv _=>65-(intOf iv).toNat)
 case atStart=>exact⟨0,none,0,rfl,by omega,rfl,aj.o⟩
 case round=>
  obtain⟨k,L,N,rfl,hk,rfl,E,ab,u,s,aa⟩:=hrel
  have ST:=J ab
  have F:=J u
  have D:=J s
  have FR:=J aa
  clear ab u s aa
  have ai:=J (za RK.o FR.o (λe=>by have:=y.o _ e;omega))
  have b:=@J (∀j,(Value.slice L (jo Q x k).length N).ownBlock=some j→q0+1≤j∧j<wr.heap.size) (λj a=>by have:=D.o.lt j a;have:=Y.o;omega)
  by_cases hlt:k<65
  ·have i1:(k:Int)<65:=by omega
   have W:=J (JH (k:=((k:Int),x)) m.o)
   obtain⟨cs,G⟩:∃cs,ZT C (JP Q x k) k x=cs:=⟨_,rfl⟩
   have n:=zjc ST.o hlt x
   rw[G] at n
   have O:=J n.1
   have ag:=J n.2
   have FD:=J ((frN wr).drew)
   have S:=J (ST.o.fr0 FD.o)
   have RD:=J (za ai.o FD.o id)
   obtain⟨M,hM,hm⟩:=S.o.am
   have HM:=J hM
   have LK:=@J (∀w',vi w' ma M→(Instr.lookup 113 (.map (some ma)) (.agg (skC (k,x)).toArray) true).run prog w'=.ok (.tuple #[.agg cs.toArray,.bool (decide (x∈yM (Q k)))]) w') (λw' h'=>by
    have:=Zm (w:=w') (Vq hlt) m.o h' hm true
    rw[G,zau _ hlt,zcb] at this
    simpa using this)
   clear hM hm G n
   have A:=J hlt
   generalize H:wr=wa at*
   go_wp2_with fail
   refine wrLx [ff,ff,ff,ff,ff,ff,ff,ff,ff,ff,ff,tt,tt,ff] (λw'=>w'.cell? ⟨p,0,none⟩=some (.map (some ma))∧w'.rangeAt q0 0 (zf x)∧vi w' ma M) ?_ (λK hK=>?_)
   ·exact⟨S.o.cells.1,RD.o,HM.o⟩
   generalize wa.drew=o at*
   repeat((first|(refine zl rfl ?_;constructor;constructor;(focus(first|exact zog rfl (λw h=>h.2.1) XL.o|exact λw' _=>yQ (t:=110) rfl rfl vL (jU _ m.o) (vJ _ _) W.o|exact λw' h=>zM (t:=113) rfl rfl rfl (LK.o w' h.2.2)|(rintro w' ⟨s1,s2,s3⟩;exact goS))))|(refine zm rfl ?_));try simp only[Act.put,pA,pB,pC])
   (refine zF rfl (λK' hK'=>?_))
   refine yg (yw rfl (vt _)) ?_
   refine nXt hK' ?_ λhS=>?_
   ·exact⟨((frN o).alloc _).cell S.o.cells.1 id,za RD.o ((frN o).alloc _) id,HM.o.keep ((frN o).alloc _) id⟩
   try simp only[Act.put,pA,pB,pC]
   (refine zF rfl (λK' hK'=>?_))
   refine yN (zj (w:=o) (ty:=34) (cs:=cs) rfl rfl rfl (by rw[O.o];rfl) (by rw[O.o];exact y5) ag.o) ?_
   refine nXt hK' ?_ λhS=>?_
   ·exact⟨((frN o).alloc _).cell S.o.cells.1 id,za RD.o ((frN o).alloc _) id,HM.o.keep ((frN o).alloc _) id⟩
   try simp only[Act.put]
   repeat((first|(refine zl rfl ?_;constructor;constructor;(focus(first|(rintro w' -;exact goS))))|(refine zm rfl ?_));try simp only[Act.put,pA,pB,pC])
   refine zL (hK.out _ _ ?_)
   have FE:=J ((frN o).alloc (.cells cs.toArray 34))
   have HE:=J (S.o.fr0 FE.o)
   have RE:=J (za RD.o FE.o id)
   have z:=J ((FR.o.trans0 FD.o).trans0 FE.o)
   have q:=J (zb (zb D.o FD.o (λ_ _=>id)) FE.o (λ_ _=>id))
   generalize o.alloc (.cells cs.toArray 34)=we at*
   by_cases hin:x∈yM (Q k)
   ·rw[decide_eq_true hin]
    have U:=J (zis hin)
    have T:=J (zir Q x k)
    obtain⟨e,he,Z⟩:=mem_map.1 hin
    have ct:=zl4 HE.o A.o (show e∈JP Q x k k by rw[zcb];exact he)
    rw[Z,zcb,ziq] at ct
    have CT:=J ct
    clear ct hin he Z
    have⟨K0,K1,K2,K3,K4⟩:=tZ5
    go_wp2_with ((first|((with_reducible refine zt ?_);first|(clear K0;refine zoc rfl rfl rfl RE.o XL.o ?_)|(clear K1;refine zg rfl (yQ (t:=110) rfl rfl vL (jU _ m.o) (vJ _ _) W.o) ?_)|(clear K3;refine zg rfl (JQ (t:=58) (v:=.int .i64 k) rfl rfl zbl zcW rfl (by decide) (by decide) rfl) ?_)|(clear K4;at_builtin;refine zQ rfl rfl rfl rfl B1.o ?_))|(clear K2;go_at_call 44;refine CT.o.mono ?_;rintro e' w9 ⟨rfl,f9,v9,ad,s9⟩;have F9:=J f9;have V9:=J ad;have S9:=J s9;clear f9 ad s9;have V:=J (zb q.o F9.o (λj a e=>by have h1:=(b.o j a).1;have h2:=y.o j (g.o E F.o j (Jh A.o j e));omega));obtain⟨v8,w8,b1,b2,b3,-,b5⟩:=yY (P:=prog) w9 f.heap.size 58 58 3 1 8 _ zbl zeK rfl (by decide) V.o [.int .i64 k] rfl (by simp[Value.oneCell']) (by have:=T.o;omega) (by have:=T.o;unfold maxLen;omega) (by have:=z.o.size;have:=F9.o.size;omega);obtain⟨ae,af,aq⟩:=b2.slice.arg.form;subst aq;have B1:=J b1;have B2:=J b2;have B3:=J b3;clear b1 b2 b3 b5));go_frame)
    have r:=@J (∀i j,(vr E k v9 i).ownBlock=some j→(R i).ownBlock=some j) (λi j a=>by
     unfold vr at a
     by_cases c:i=k
     ·rw[if_pos c] at a;subst c;exact F.o i j (V9.o j a)
     ·rw[if_neg c] at a;exact F.o i j a)
    have B:=@J (zgK w0 f p ma ms R l C Q x (k+1) (.slice ae (jo Q x (k+1)).length af) w8) (by
     refine⟨vr E k v9,S9.o.frV B3.o (λj a e=>?_) (λj e=>?_) (λj e=>ak.o j ?_) (λ_ _ h=>h) S9.o.sub,r.o,?_,?_⟩
     ·have h1:=(b.o j e).1
      have h2:=y.o j (g.o _ r.o j a)
      omega
     ·have h1:=(b.o j e).1
      have h2:=H4.o.fr.size
      have:=Y.o
      omega
     ·have h1:=(b.o j e).1
      have:=Y.o
      omega
     ·rw[U.o]
      simpa[iV] using B2.o
     ·exact(z.o.trans F9.o (λj _ e=>g.o E F.o j (Jh A.o j e))).trans B3.o (λj a e=>by have h1:=(b.o j e).1;have:=Y.o;omega))
    go_roundw
    case rel=>exact⟨k+1,ae,af,by go_num,by omega,by rw[U.o];simp,B.o⟩
    case measure=>simp[intOf];omega
   ·rw[decide_eq_false hin]
    have U:=J (zki hin)
    have B:=@J (zgK w0 f p ma ms R l C Q x (k+1) (.slice L (jo Q x (k+1)).length N) we) (⟨E,by rw[zkh hin];exact HE.o,F.o,by rw[U.o];exact q.o,z.o⟩)
    clear hin
    go_wp2_with fail
    go_roundw
    case rel=>exact⟨k+1,L,N,by go_num,by omega,by rw[U.o],B.o⟩
    case measure=>simp[intOf];omega
  ·have an:k=65:=by omega
   subst an
   go_wp2_with fail
   go_ret
   refine⟨_,rfl,yU D.o (by have:=Y.o;omega),F1.o.of0.trans FR.o (λ_ _ e=>e),E,F.o,?_⟩
   exact ST.o.frV (frN _) (λ_ _=>id) (λ_ h=>h.elim) (λ_ h=>h.elim) (λj _ e=>al.o j e) (λj a=>HH.o.sub j (g.o E F.o j a))
end
section
variable {w0 w w':World} {p ma ms:Nat} {R:Nat→Value} {X:Nat→Prop} {C:Nat→zd→List Value} {Q:StQ}
theorem znP (h:yO w0 w p ma ms R X C Q) (u:n<65) {e:StE} (z:e∈Q n):
  Calls prog 30 #[.pointer (some ⟨p,0,none⟩),.int .i64 n,.agg (zf e.id).toArray] w λe' w'=>∃cs,e'=.returned (.tuple #[.agg cs.toArray,.bool true])∧Fr No w w'∧∀V:Nat→Prop,(∀j,V j→j<w.heap.size)→Kept V w' (λw=>TxQ w e.tx cs):=by
 obtain⟨dT,uT,rT⟩:=zfZ
 have zT:=show ∀w,(zeroValue 34).run prog w=.ok (.agg VX.toArray) w from vt
 have d:e.id∈yM (Q n):=mem_map.2 ⟨e,z,rfl⟩
 obtain⟨x,Y⟩:∃x,e.id=x:=⟨_,rfl⟩
 have a:=J (h.idok n _ d)
 have i8:=(h.val n).ent e z
 have G:=J (yZ.1 (Jl i8.1).1)
 rw[Y] at a d⊢
 have XL:=J (zx a.o)
 have HH:=J h
 have S:=J (JH (k:=((n:Int),x)) a.o)
 have T:Fr No w ((w.alloc (.cells (zf x).toArray 41)).alloc (.cells VX.toArray 34)):=((frN w).alloc _).alloc _
 have F1:=J T
 have RK:=J (za (zy w (zf x) 41) ((frN _).alloc (.cells VX.toArray 34)) id)
 have BR:=J (yJ (w.alloc (.cells (zf x).toArray 41)) (.cells VX.toArray 34) (n:=w.heap.size+1) (by simp))
 obtain⟨ia,ic,oa,oc,q⟩:=(h.data n u e z).now.form
 obtain⟨cs,c⟩:∃cs:List Value,cs=[.int .u32 e.tx.ver,.slice ia e.tx.ins.length ic,.slice oa e.tx.outs.length oc]:=⟨_,rfl⟩
 have o:=@J (cs.length=3) (by rw[c];rfl)
 have D:=@J (∀v∈cs,v.oneCell'=true) (by rw[c];exact qM rfl rfl rfl)
 obtain⟨M,hM,hm⟩:=(h.fr0 T.drew).am
 have l:ZT C Q n x=cs:=by
  unfold ZT
  rw[zau Q u,if_pos (decide_eq_true d),Int.toNat_natCast,←Y,q,c]
 have LK:=@J (∀w',vi w' ma M→(Instr.lookup 113 (.map (some ma)) (.agg (skC (n,x)).toArray) true).run prog w'=.ok (.tuple #[.agg cs.toArray,.bool true]) w') (λw' h'=>by
  have:=Zm (w:=w') (Vq u) a.o h' hm true
  rw[l,zau Q u,decide_eq_true d] at this
  simpa using this)
 have L:=J hM
 have N:=J (λw' (f:Fr No w w')=>ze9 w' (t:=e.tx) (cs:=cs) (by have:=((h.fr0 f).data n u e z).now;rw[q,←c] at this;exact this) ⟨by have:=G.o;omega,by have:=G.o;omega,λy hy=>by have:=G.o.1 y hy;omega⟩)
 clear h u z Y i8 d T q c hM hm l
 go_enter Tryz.func30,Tryz.ntmps30
 go_wp2_with fail
 generalize W:w.heap.size=s at*
 generalize A:(w.alloc (.cells (zf x).toArray 41)).alloc (.cells VX.toArray 34)=B at*
 have ZA:=@J (B.heap.size=s+2) (by rw[←A,←W];simp)
 clear A
 have H:=J (HH.o.fr0 F1.o.drew)
 have O:=J (za RK.o (frN B).drew id)
 have BD:=J ((frN B).drew.obj BR.o id)
 have E:=J F1.o.drew
 have I:=J L.o
 have ZD:=@J (B.drew.heap.size=s+2) (ZA.o)
 refine wrLx [ff,ff,ff,ff,ff,ff,ff,ff,ff,ff,ff,tt,tt,ff] (λw'=>w'.cell? ⟨p,0,none⟩=some (.map (some ma))∧w'.rangeAt s 0 (zf x)∧vi w' ma M) ?_ (λK hK=>?_)
 ·exact⟨H.o.cells.1,O.o,I.o⟩
 generalize B.drew=g at*
 repeat((first|(refine zl rfl ?_;constructor;constructor;(focus(first|exact zog rfl (λw h=>h.2.1) XL.o|exact λw' _=>yQ (t:=110) rfl rfl vL (jU _ a.o) (vJ _ _) S.o|exact λw' h=>zM (t:=113) rfl rfl rfl (LK.o w' h.2.2)|(rintro w' ⟨s1,s2,s3⟩;exact goS))))|(refine zm rfl ?_));try simp only[Act.put,pA,pB,pC])
 (refine zF rfl (λK' hK'=>?_))
 refine yg (yw rfl (vt _)) ?_
 refine nXt hK' ?_ λhS=>?_
 ·exact⟨((frN g).alloc _).cell H.o.cells.1 id,za O.o ((frN g).alloc _) id,I.o.keep ((frN g).alloc _) id⟩
 try simp only[Act.put,pA,pB,pC]
 (refine zF rfl (λK' hK'=>?_))
 refine yN (zj (w:=g) (ty:=34) (cs:=cs) rfl rfl rfl (by rw[o.o];rfl) (by rw[o.o];exact y5) D.o) ?_
 refine nXt hK' ?_ λhS=>?_
 ·exact⟨((frN g).alloc _).cell H.o.cells.1 id,za O.o ((frN g).alloc _) id,I.o.keep ((frN g).alloc _) id⟩
 try simp only[Act.put]
 repeat((first|(refine zl rfl ?_;constructor;constructor;(focus(first|(rintro w' -;exact goS))))|(refine zm rfl ?_));try simp only[Act.put,pA,pB,pC])
 refine zL (hK.out _ _ ?_)
 have F:=J (E.o.alloc (.cells cs.toArray 34))
 have RT:=J (zy g cs 34)
 have BE:=J (((frN g).alloc (.cells cs.toArray 34)).obj BD.o id)
 have OW:=J (N.o _ F.o)
 have ZE:=@J (s+1<(g.alloc (.cells cs.toArray 34)).heap.size) (by simp;have:=ZD.o;omega)
 have⟨K0,K1,K2⟩:=tZ3
 go_wp2_with ((first|((with_reducible refine zt ?_);clear K0;refine zoa rfl rfl rfl RT.o o.o ?_;generalize g.alloc (.cells cs.toArray 34)=we at*)|(clear K1;go_at_call 41;refine OW.o.mono ?_;rintro e' w5 ⟨aa,rfl,U,r⟩;obtain⟨ja,jc,ka,kc,e5⟩:=(r (λ_=>False) (λ_ h=>h.elim)).now.form;subst e5;have F5:=J U;have K5:=J r;have Z:=J (U.obj BE.o id);clear U r)|((with_reducible refine zv ?_);clear K2;refine zi rfl (zK (ty:=34) (b:=s+1) (off:=0) (cs:=[.int .u32 e.tx.ver,.slice ja e.tx.ins.length jc,.slice ka e.tx.outs.length kc]) rfl rfl rfl (zX Z.o (le_refl 3)) y5 (qM rfl rfl rfl)) ?_));go_frame)
 refine bodyPost_ret (ym (P:=prog) (fn:=Tryz.f30) rfl _ rfl (yx Z.o rfl) uT rT y5 rfl) rfl ⟨_,rfl,?_,λV hV w' f=>?_⟩
 ·exact(F.o.trans0 F5.o).trans (zu _ _ _ _) (λi hi e=>by omega)
 ·have fS:=zu (s+1) [.int .u32 e.tx.ver,.slice ja e.tx.ins.length jc,.slice ka e.tx.outs.length kc] 0 w5
  exact K5.o (λj=>V j∨j=s+1) (λj m=>by rcases m with m|m;have:=hV j m;have:=F.o.size;omega;have:=ZE.o;omega) w' ((fS.mono (λj m=>.inr m)).trans (f.mono (λj m=>.inl m)) (λ_ _ h=>h))
end
end Go.Proofs.YtdkkjchclkjleaaGreatDoor
